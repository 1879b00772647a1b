/- The statement ProgramListingCardSaid: for every input the law returns true, and the arguments read as before; the tables of the library that it lists are tied to the text. The frame round the walk of the law. (With it: The reference's Same of integers.; The reference's sameInstr.; Rt and Rp: the head's allocations yield addresses that all differ, the tail is walked as a list.; The reference's Same.; The listing tells a valid program apart: plain.; The listing tells valid programs apart: plain.; The listing tells valid programs apart: the whole.; The listing: how many lines, and how it ends.; ProgramListing.) -/
import Derived.Stop.LaidErr
import Derived.Test.YtfkjokbhnblndaaDoorCards
import Derived.Test.YtfkjokbhnblndaaDoorTie
import Derived.WalkKit
import Derived.ProofKit
import Derived.OpenShut
import Derived.ShutString
import Derived.ChangeOld
import Derived.Below
import Derived.Deep.DeepHandedRow
import Derived.Lib.LaidTab
import Derived.Shelf.Vars
import Derived.Test.YtfkjokbhnblndaaDoorPgB
import Derived.Test.YtfkjokbhnblndaaDoorRegion
import Derived.Test.YtfkjokbhnblndaaDoorPgU
import Derived.Test.YtfkjokbhnblndaaDoorRt
import Derived.Test.YtfkjokbhnblndaaDoorRp
import Derived.Test.YtfkjokbhnblndaaDoorPgW
import Derived.Test.YtfkjokbhnblndaaDoorPgF
import Derived.Test.YtfkjokbhnblndaaDoorShelf
import Derived.Test.YtfkjokbhnblndaaDoorPgX
import Derived.Test.YtfkjokbhnblndaaDoorPgY
import Derived.Test.YtfkjokbhnblndaaDoorPgZ
import Derived.Test.YtfkjokbhnblndaaDoorOpPg

namespace Go.Proofs.YtfkjokbhnblndaaDoor
open Go.RowKit
set_option linter.unusedVariables false
set_option linter.unusedSimpArgs false

set_option maxHeartbeats 1000000 in
theorem sameI_any (l m : List Int) (a b : Option Addr) (cap cap' : Nat) (w : World) (hl : l.length ≤ maxLen) (hm : m.length ≤ maxLen) (h : IntsAt w a l) (h' : IntsAt w b m) :
    Gives Tryd.prog 83 #[.slice a l.length cap, .slice b m.length cap'] w (.bool (l == m)) := by
  unfold maxLen at hl hm
  by_cases q : l.length = m.length
  · have hq : (((l.length : Nat) : Int) != ((m.length : Nat) : Int)) = false := by simp [q]
    have HL := Lib.hid q
    clear q
    unfold Gives
    go_enter Tryd.func83, Tryd.ntmps83
    go_wp2
    go_loopw [5] (fun i wr => ∃ j : Nat, j ≤ l.length ∧ i = .int .i64 j ∧ (∀ i (hi : i < l.length) (hi2 : i < m.length), i < j → l[i] = m[i]) ∧ Below w.heap.size w wr) (fun i _ => l.length - (intOf i).toNat)
    case atStart => exact ⟨0, Nat.zero_le _, rfl, fun i _ _ h0 => absurd h0 (Nat.not_lt_zero _), Below.refl _ _⟩
    case round =>
      obtain ⟨j, hj, rfl, hA, hB⟩ := hrel
      have HA := Lib.hid hA
      clear hA
      by_cases hlt : j < l.length
      · obtain ⟨b1, o1, rfl, hc1⟩ := (h.below hB).at hlt
        have hlt2 : j < m.length := by have := HL.out; omega
        obtain ⟨b2, o2, rfl, hc2⟩ := (h'.below hB).at hlt2
        have HF := Lib.hid (show l[j] ≠ m[j] → (l == m) = false from fun h0 => by
          rw [beq_eq_false_iff_ne]
          rintro rfl
          exact h0 rfl)
        have HT := Lib.hid (show l[j] = m[j] → ∀ i (hi : i < l.length) (hi2 : i < m.length), i < j + 1 → l[i] = m[i] from fun h0 i hi hi2 hij => by
          rcases Nat.lt_succ_iff_lt_or_eq.1 hij with h1 | h1
          · exact HA.out i hi hi2 h1
          · subst h1; exact h0)
        generalize l[j] = x at *
        generalize m[j] = y at *
        by_cases h0 : x = y
        · have hq2 : (x != y) = false := by simp [h0]
          go_wp2
          go_quiet (fail)
          go_wp2
          go_roundw
          case rel => exact ⟨j + 1, by omega, by go_num, HT.out h0, Ext.drewN' hB⟩
          case measure => simp [intOf]; omega
        · have hq2 : (x != y) = true := by rw [bne_iff_ne]; exact h0
          go_wp2
          go_quiet (fail)
          go_wp2
          go_ret
          exact ⟨by rw [HF.out h0]; rfl, Ext.drewN' hB⟩
      · have HV := Lib.hid (show (l == m) = true by
          rw [beq_iff_eq]
          exact List.ext_getElem HL.out (fun i h1 h2 => HA.out i h1 h2 (by omega)))
        go_wp2
        go_ret
        exact ⟨by rw [HV.out]; rfl, hB⟩
  · have hq : (((l.length : Nat) : Int) != ((m.length : Nat) : Int)) = true := by rw [bne_iff_ne]; omega
    have HV := Lib.hid (show (l == m) = false by rw [beq_eq_false_iff_ne]; rintro rfl; exact q rfl)
    clear q
    unfold Gives
    go_enter Tryd.func83, Tryd.ntmps83
    go_wp2
    go_ret
    exact ⟨by rw [HV.out]; rfl, Below.refl _ _⟩

end Go.Proofs.YtfkjokbhnblndaaDoor

namespace Go.Proofs.YtfkjokbhnblndaaDoor
open Go.RowKit
set_option linter.unusedVariables false
set_option linter.unusedSimpArgs false

set_option maxRecDepth 100000 in
set_option maxHeartbeats 2000000 in
theorem sameIns_any (x y : Ins) (xa ya : Option Addr) (xc yc : Nat) (w : World) (hx : IntsAt w xa x.args) (hy : IntsAt w ya y.args) (hlx : x.args.length ≤ 17592186044416) (hly : y.args.length ≤ 17592186044416) :
    Gives Tryd.prog 57 #[IV x xa xc, IV y ya yc] w (.bool (x.op == y.op && (x.a == y.a && (x.b == y.b && (x.c == y.c && (x.args == y.args)))))) := by
  unfold Gives
  have KS := Lib.hid (fun W (hW : Ext w W) => sameI_any x.args y.args xa ya xc yc W (by unfold maxLen; omega) (by unfold maxLen; omega) (hx.below hW) (hy.below hW))
  clear hx hy hlx hly
  dsimp only [IV]
  obtain ⟨wk, hwk⟩ : ∃ W, W = ((w.alloc (.cells #[.int .i64 x.op, .int .i64 x.a, .int .i64 x.b, .int .i64 x.c, .slice xa x.args.length xc] 56)).alloc (.cells #[.int .i64 y.op, .int .i64 y.a, .int .i64 y.b, .int .i64 y.c, .slice ya y.args.length yc] 56)) := ⟨_, rfl⟩
  have BX := Lib.hid (show ∀ W, Ext wk W → (W.cell? ⟨w.heap.size, 0, none⟩ = some (.int .i64 x.op) ∧ W.cell? ⟨w.heap.size, 1, none⟩ = some (.int .i64 x.a) ∧ W.cell? ⟨w.heap.size, 2, none⟩ = some (.int .i64 x.b) ∧ W.cell? ⟨w.heap.size, 3, none⟩ = some (.int .i64 x.c) ∧ W.cell? ⟨w.heap.size, 4, none⟩ = some (.slice xa x.args.length xc) ∧ W.cell? ⟨w.heap.size + 1, 0, none⟩ = some (.int .i64 y.op) ∧ W.cell? ⟨w.heap.size + 1, 1, none⟩ = some (.int .i64 y.a) ∧ W.cell? ⟨w.heap.size + 1, 2, none⟩ = some (.int .i64 y.b) ∧ W.cell? ⟨w.heap.size + 1, 3, none⟩ = some (.int .i64 y.c) ∧ W.cell? ⟨w.heap.size + 1, 4, none⟩ = some (.slice ya y.args.length yc)) from fun W hW => by
    subst hwk
    have h0 := alloc_here w (.cells #[.int .i64 x.op, .int .i64 x.a, .int .i64 x.b, .int .i64 x.c, .slice xa x.args.length xc] 56)
    have h0 := (Below.heap_alloc _ (.cells #[.int .i64 y.op, .int .i64 y.a, .int .i64 y.b, .int .i64 y.c, .slice ya y.args.length yc] 56) _ (lt_of_block h0)).trans h0
    have k0 := (hW.below.block _ (lt_of_block h0)).trans h0
    have h1 := alloc_here (w.alloc (.cells #[.int .i64 x.op, .int .i64 x.a, .int .i64 x.b, .int .i64 x.c, .slice xa x.args.length xc] 56)) (.cells #[.int .i64 y.op, .int .i64 y.a, .int .i64 y.b, .int .i64 y.c, .slice ya y.args.length yc] 56)
    simp only [World.size_alloc] at h1
    have k1 := (hW.below.block _ (lt_of_block h1)).trans h1
    exact ⟨cell_of k0 rfl, cell_of k0 rfl, cell_of k0 rfl, cell_of k0 rfl, cell_of k0 rfl, cell_of k1 rfl, cell_of k1 rfl, cell_of k1 rfl, cell_of k1 rfl, cell_of k1 rfl⟩)
  have HWZ := Lib.hid (show wk.heap.size = w.heap.size + 2 by rw [hwk]; simp)
  have HW := Lib.hid (show Ext w wk by rw [hwk]; exact (ext_alloc (ext_alloc (Below.refl _ _) _) _))
  have HE0 := Lib.hid (show Ext wk wk from Below.refl _ _)
  obtain ⟨r, hr⟩ : ∃ r, (x.op == y.op && (x.a == y.a && (x.b == y.b && (x.c == y.c && (x.args == y.args))))) = r := ⟨_, rfl⟩
  rw [hr]
  have HR := Lib.hid hr.symm
  clear hr
  by_cases h0 : x.op = y.op
  case neg =>
    have g0 : (x.op == y.op) = false := beq_eq_false_iff_ne.2 h0
    have HV := Lib.hid (show r = false from by rw [HR.out, g0]; simp)
    clear h0
    go_enter Tryd.func57, Tryd.ntmps57
    go_wp2
    rw [← hwk]
    go_ret
    exact ⟨by rw [HV.out]; rfl, HW.out⟩
  case pos =>
    have g0 : (x.op == y.op) = true := beq_iff_eq.2 h0
    clear h0
    by_cases h1 : x.a = y.a
    case neg =>
      have g1 : (x.a == y.a) = false := beq_eq_false_iff_ne.2 h1
      have HV := Lib.hid (show r = false from by rw [HR.out, g0, g1]; simp)
      clear h1
      go_enter Tryd.func57, Tryd.ntmps57
      go_wp2
      rw [← hwk]
      go_ret
      exact ⟨by rw [HV.out]; rfl, HW.out⟩
    case pos =>
      have g1 : (x.a == y.a) = true := beq_iff_eq.2 h1
      clear h1
      by_cases h2 : x.b = y.b
      case neg =>
        have g2 : (x.b == y.b) = false := beq_eq_false_iff_ne.2 h2
        have HV := Lib.hid (show r = false from by rw [HR.out, g0, g1, g2]; simp)
        clear h2
        go_enter Tryd.func57, Tryd.ntmps57
        go_wp2
        rw [← hwk]
        go_ret
        exact ⟨by rw [HV.out]; rfl, HW.out⟩
      case pos =>
        have g2 : (x.b == y.b) = true := beq_iff_eq.2 h2
        clear h2
        by_cases h3 : x.c = y.c
        case neg =>
          have g3 : (x.c == y.c) = false := beq_eq_false_iff_ne.2 h3
          have HV := Lib.hid (show r = false from by rw [HR.out, g0, g1, g2, g3]; simp)
          clear h3
          go_enter Tryd.func57, Tryd.ntmps57
          go_wp2
          rw [← hwk]
          go_ret
          exact ⟨by rw [HV.out]; rfl, HW.out⟩
        case pos =>
          have g3 : (x.c == y.c) = true := beq_iff_eq.2 h3
          clear h3
          have HV := Lib.hid (show r = (x.args == y.args) from by rw [HR.out, g0, g1, g2, g3]; simp)
          go_enter Tryd.func57, Tryd.ntmps57
          go_wp2_with fail
          rw [← hwk]
          clear hwk
          refine (KS.out _ (Ext.trans HW.out HE0.out)).mono ?_
          intro w1 hB
          have HE1 := Lib.hid (Ext.trans HE0.out hB)
          clear hB
          obtain ⟨d0_0, d0_1, d0_2, d0_3, d0_4, d1_0, d1_1, d1_2, d1_3, d1_4⟩ := BX.out _ HE1.out
          go_wp2
          go_ret
          exact ⟨by rw [HV.out]; rfl, Ext.trans HW.out HE1.out⟩

end Go.Proofs.YtfkjokbhnblndaaDoor

namespace Go.Proofs.YtfkjokbhnblndaaDoor
open Go.RowKit
set_option linter.unusedVariables false

theorem wp_region_gptail {P : Program} {id : Nat} {Q : Exit → Act → World → Prop} {a : Act} {w : World} {l1 l2 : List Oper} (hm : P.follows .mixedOrders = true) (al : Nat → Bool)
    (R : World → World → Prop) (hRr : ∀ W, R W W) (hR0 : ∀ W : World, R W { W with drawn := W.drawn + 1 }) (hRt : ∀ {A B C}, R A B → R B C → R A C)
    (Φ : Nat → (Nat → Value) → World → Prop) (D : Nat → List Nat) (hst : ∀ j s s' W W', Φ j s W → (∀ k ∈ D j, s' k = s k) → R W W' → Φ j s' W')
    (hback : backB (l1 ++ l2) = true) (hun : uniqB (l1 ++ l2) = true) (hreads : readsB (l1 ++ l2) D = true) (N : Nat) (hN : a.tmps.size = N) (hinB : (((l1 ++ l2).filterMap (·.dst)).all fun d => decide (d < N)) = true)
    (htail : tailB (l1 ++ l2) l1.length = true)
    (hstep : ∀ (i : Nat) o, l1[i]? = some o → ∀ a' W, AtG (l1 ++ l2) R Φ a w i o a' W → GoesP al P (l1 ++ l2) R Φ i o a' W Q)
    (hend : ∀ (vs : List Value) W, vs.length = l1.length → R w W → (∀ j, j < l1.length → Φ j (fun k => vs.getD k undef) W) → (∀ i j, i < l1.length → j < l1.length → i ≠ j → al i = true → al j = true → vs.getD i undef ≠ vs.getD j undef) → wpList P (l1 ++ l2).toArray Q l2 (putAll l1 vs a) W) :
    (Code.region id (l1 ++ l2).toArray true).wp P Q a w := by
  have hin : ∀ d ∈ (l1 ++ l2).filterMap (·.dst), d < a.tmps.size := fun d hd => by rw [hN]; exact of_decide_eq_true (List.all_eq_true.1 hinB d hd)
  generalize hl : l1 ++ l2 = l at *
  have hl1 : ∀ j, j < l1.length → l1[j]? = l[j]? := fun j hj => by rw [← hl, List.getElem?_append_left hj]
  have hlen : l1.length ≤ l.length := by rw [← hl]; simp
  have hdrop : l2 = l.drop l1.length := by rw [← hl]; simp
  refine wp_region_any hm ?_
  have fin : ∀ (listed : Array Bool) (a' : Act) (W : World), listed.toList.count false = l.length - l1.length → (∀ j, l1.length ≤ j → listed.getD j false = false) → (∀ j, j < l1.length → listed.getD j false = true) → InvP al l R Φ a w listed a' W →
      wpAny P .any l.toArray Q (l.length - l1.length) listed a' W := by
    intro listed a' W hc hlo hall hIP
    have hI := hIP.g
    refine tail_any hback htail l2 l1.length listed a' W hdrop (Nat.le_refl _) hlen hI.lsize hall hlo ?_
    have e : a' = putAll l1 (l1.map fun o => match o.dst with | none => undef | some d => a'.tmps.getD d undef) a := by
      refine act_eq (by rw [putAll_size]; exact hI.size) (by rw [putAll_defers]; exact hI.defers) ?_
      intro d hlt
      by_cases hm : d ∈ l1.filterMap (·.dst)
      · obtain ⟨o, ho, hod⟩ := List.mem_filterMap.1 hm
        obtain ⟨j, hj⟩ := List.getElem?_of_mem ho
        have hjl : j < l1.length := (List.getElem?_eq_some_iff.1 hj).1
        rw [putAll_self l1 _ a j o d (by simp) hj hod (fun i p hp e => uniqB_spec hun (by rw [← hl1 i (List.getElem?_eq_some_iff.1 hp).1]; exact hp) (by rw [← hl1 j hjl]; exact hj) e hod) (by rw [← hI.size]; exact hlt)]
        rw [List.getD_eq_getElem?_getD, List.getElem?_map, hj]
        simp [hod]
      · rw [putAll_other l1 _ a d (fun o ho e => hm (List.mem_filterMap.2 ⟨o, ho, e⟩))]
        refine hI.old d (fun j oj hj hd => ?_)
        rcases Nat.lt_or_ge j l1.length with h | h
        · exact absurd (List.mem_filterMap.2 ⟨oj, List.mem_of_getElem? (by rw [hl1 j h]; exact hj), hd⟩) hm
        · exact hlo j h
    rw [e]
    have hvs : ∀ k, k < l1.length → (l1.map fun o => match o.dst with | none => undef | some d => a'.tmps.getD d undef).getD k undef = sv l a' k := by
      intro k hkl
      unfold sv
      rw [List.getD_eq_getElem?_getD, List.getElem?_map, hl1 k hkl]
      cases hk : l[k]? with
      | none => rfl
      | some o => cases hod : o.dst <;> simp [hod]
    refine hend _ W (by simp) hI.rel (fun j hj => ?_) (fun i j hi hj hne h1 h2 => by rw [hvs i hi, hvs j hj]; exact hIP.pair i j (by omega) (by omega) hne h1 h2 (hall i hi) (hall j hj))
    refine hst j _ _ W W (hI.new j (by omega) (hall j hj)) (fun k hk => ?_) (hRr W)
    have hkj : k ≤ j := by
      have h1 := List.all_eq_true.1 (List.all_eq_true.1 hreads j (List.mem_range.2 (by omega))) k hk
      simp only [Bool.or_eq_true, decide_eq_true_eq] at h1
      rcases h1 with h1 | h1
      · omega
      · exact Nat.le_of_lt (anc_back hback _ _ _ h1)
    exact hvs k (by omega)
  have main : ∀ (fuel : Nat) (listed : Array Bool) (a' : Act) (W : World), listed.toList.count false = fuel → (∀ j, l1.length ≤ j → listed.getD j false = false) → InvP al l R Φ a w listed a' W → wpAny P .any l.toArray Q fuel listed a' W := by
    intro fuel
    have cnt : ∀ (listed : Array Bool), listed.size = l.length → (∀ j, l1.length ≤ j → listed.getD j false = false) → (∀ j, j < l1.length → listed.getD j false = true) → listed.toList.count false = l.length - l1.length := by
      intro listed hs hlo hall
      have e : listed.toList = List.replicate l1.length true ++ List.replicate (l.length - l1.length) false := by
        apply List.ext_getElem?
        intro i
        by_cases hi : i < listed.size
        · have hg : ∀ b, listed.getD i false = b → listed.toList[i]? = some b := fun b hb => by
            rw [getD_of_lt hi false true] at hb
            simp only [Array.getD_eq_getD_getElem?, Array.getElem?_eq_getElem hi, Option.getD_some] at hb
            simp [hi, hb]
          by_cases h : i < l1.length
          · rw [hg true (hall i h), List.getElem?_append_left (by simpa using h)]
            simp [h]
          · rw [hg false (hlo i (by omega)), List.getElem?_append_right (by simp; omega), List.getElem?_replicate, if_pos (by rw [List.length_replicate]; omega)]
        · rw [List.getElem?_eq_none (by simpa using hi), List.getElem?_eq_none (by simp; omega)]
      rw [e, List.count_append, List.count_replicate, List.count_replicate]
      simp
    induction fuel with
    | zero =>
      intro listed a' W hc hlo hIP
      have hI := hIP.g
      have hall' : ∀ i, i < l.length → listed.getD i false = true := by
        intro i hi
        have hi' : i < listed.size := by rw [hI.lsize]; exact hi
        cases hb : listed.getD i false with
        | true => rfl
        | false =>
          exfalso
          have : false ∈ listed.toList := by
            simp only [Array.getD_eq_getD_getElem?, Array.getElem?_eq_getElem hi', Option.getD_some] at hb
            rw [← hb]; simp
          have := List.count_pos_iff.2 this
          omega
      have hall : ∀ i, i < l1.length → listed.getD i false = true := fun i hi => hall' i (by omega)
      have hc2 := cnt listed hI.lsize hlo hall
      have := fin listed a' W hc2 hlo hall hIP
      rw [show l.length - l1.length = 0 by omega] at this
      exact this
    | succ fuel ih =>
      intro listed a' W hc hlo hIP
      have hI := hIP.g
      by_cases hall : ∀ j, j < l1.length → listed.getD j false = true
      · have hc2 := cnt listed hI.lsize hlo hall
        have := fin listed a' W hc2 hlo hall hIP
        rw [show l.length - l1.length = fuel + 1 by omega] at this
        exact this
      · obtain ⟨j0, hj0⟩ := Classical.not_forall.1 hall
        obtain ⟨hj0l, hj0f⟩ := Classical.not_imp.1 hj0
        refine ⟨fun h0 => ?_, fun i hi => ?_⟩
        · exact absurd (all_listed hback hI.lsize h0 j0 (by omega)) hj0f
        · obtain ⟨hl0, o, ho, hwait⟩ := mem_ready.1 hi
          have ho' : l[i]? = some o := by simpa using ho
          have hil : i < l.length := (List.getElem?_eq_some_iff.1 ho').1
          have hil' : i < listed.size := by rw [hI.lsize]; exact hil
          have hlf : listed.getD i false = false := by
            rw [getD_of_lt hil' false true]; exact hl0
          have hanc : ∀ n k, ancB l n i k = true → listed.getD k false = true := by
            intro n k hk
            cases n with
            | zero => simp [ancB] at hk
            | succ n =>
              unfold ancB at hk
              rw [ho'] at hk
              obtain ⟨e, he, hh⟩ := List.any_eq_true.1 hk
              simp only [Bool.and_eq_true, Bool.or_eq_true, decide_eq_true_eq] at hh
              have h1 := hwait e (by simpa using he) hh.1
              rcases hh.2 with h2 | h2
              · rw [← h2]; exact h1
              · exact hI.down.anc n e.on k h1 h2
          have hi1 : i < l1.length := by
            rcases Nat.lt_or_ge i l1.length with h | h
            · exact h
            · exact absurd (hanc _ _ (tailB_spec htail hil h (by omega : j0 < i))) hj0f
          have hAt : AtG l R Φ a w i o a' W := ⟨hI.rel, hI.size, hI.defers,
            fun d hd => hI.old d (fun j oj hj hdj => by
              have hji := hd j oj hj hdj
              cases hlj : listed.getD j false with
              | false => rfl
              | true =>
                have := hI.down.anc _ j i hlj hji
                rw [hlf] at this; cases this),
            fun j hj ha => hI.new j hj (hanc _ j ha)⟩
          have hG := hstep i o (by rw [hl1 i hi1]; exact ho') a' W hAt
          have hnext : ∀ v W2, R W W2 → (∀ s : Nat → Value, (o.dst.isSome = true → s i = v) → (∀ k, k ≠ i → ancB l l.length i k = true → s k = sv l a' k) → Φ i s W2) → (al i = true → o.dst.isSome = true ∧ ∀ j s, al j = true → Φ j s W → v ≠ s j) → wpAny P .any l.toArray Q fuel (listed.setIfInBounds i true) (a'.put o.dst v) W2 := by
            intro v W2 hR hv hfr
            have hin' : ∀ d ∈ l.filterMap (·.dst), d < a'.tmps.size := fun d hd => by rw [hI.size]; exact hin d hd
            have hset : ∀ j, j ≠ i → (listed.setIfInBounds i true).getD j false = listed.getD j false := fun j hj => getD_set_ne false (Ne.symm hj)
            refine ih _ _ _ ?_ (fun j hj => by rw [hset j (by omega)]; exact hlo j hj) ?_
            · have := count_set listed.toList i (by simp [hil']; simpa [Array.getD_eq_getD_getElem?, hil'] using hlf)
              rw [Array.toList_setIfInBounds]; omega
            · refine ⟨⟨hRt hI.rel hR, by simpa using hI.lsize, by rw [put_size]; exact hI.size, by rw [put_defers]; exact hI.defers, ?_, ?_, ?_⟩, ?_⟩
              · intro d hd
                have hne : o.dst ≠ some d := fun e => by
                  have := hd i o ho' e
                  simp [Array.getD_eq_getD_getElem?, hil'] at this
                rw [put_other hne]
                refine hI.old d (fun j oj hj hdj => ?_)
                by_cases hji : j = i
                · subst hji; exact hlf
                · have := hd j oj hj hdj
                  rwa [hset j hji] at this
              · intro j hj hlj
                by_cases hji : j = i
                · subst hji
                  exact hv _ (fun hd => sv_put_self ho' hin' hd) (fun k hk _ => sv_put_other hun ho' hk)
                · rw [hset j hji] at hlj
                  refine hst j _ _ _ _ (hI.new j hj hlj) (fun k hk => sv_put_other hun ho' ?_) hR
                  rintro rfl
                  have h1 := List.all_eq_true.1 (List.all_eq_true.1 hreads j (List.mem_range.2 hj)) k hk
                  simp only [Bool.or_eq_true, decide_eq_true_eq] at h1
                  rcases h1 with h1 | h1
                  · exact hji h1.symm
                  · have := hI.down.anc _ j k hlj h1
                    rw [hlf] at this; cases this
              · intro j oj hj hlj e he hb
                by_cases hji : j = i
                · subst hji
                  rw [ho'] at hj; cases hj
                  exact getD_set_true (hwait e he hb)
                · rw [hset j hji] at hlj
                  exact getD_set_true (hI.down j oj hj hlj e he hb)
              · have key : ∀ j, j < l.length → j ≠ i → al i = true → al j = true → (listed.setIfInBounds i true).getD j false = true → sv l (a'.put o.dst v) i ≠ sv l (a'.put o.dst v) j := by
                  intro j hj hji h1 h2 hlj
                  rw [hset j hji] at hlj
                  obtain ⟨hd, hf⟩ := hfr h1
                  rw [sv_put_self ho' hin' hd, sv_put_other hun ho' hji]
                  exact hf j (sv l a') h2 (hI.new j hj hlj)
                intro i1 j1 hI1 hJ1 hne h1 h2 hl1' hl2'
                by_cases e1 : i1 = i
                · subst e1
                  exact key j1 hJ1 (Ne.symm hne) h1 h2 hl2'
                · by_cases e2 : j1 = i
                  · subst e2
                    exact (key i1 hI1 e1 h2 h1 hl1').symm
                  · rw [sv_put_other hun ho' e1, sv_put_other hun ho' e2]
                    rw [hset i1 e1] at hl1'
                    rw [hset j1 e2] at hl2'
                    exact hIP.pair i1 j1 hI1 hJ1 hne h1 h2 hl1' hl2'
          unfold wpOp
          rw [show l.toArray[i]? = some o by simpa using ho']
          unfold GoesP at hG
          by_cases hwant : Region.wanted o (yielded l.toArray a'.tmps) = true
          · rw [if_pos hwant] at hG
            simp only [hwant, if_true]
            exact .inl (Oper.wp_mono (fun a2 W2 ⟨v, e, hR, hv, hf⟩ => by rw [e]; exact hnext v W2 hR hv hf) hG)
          · rw [if_neg hwant] at hG
            simp only [hwant]
            exact hnext undef W hG.1 hG.2.1 (fun e => by rw [hG.2.2] at e; cases e)
  have h0 := main l.length (Array.replicate l.length false) a { w with drawn := w.drawn + 1 } (by simp) (fun j _ => getD_false _ _)
    ⟨⟨hR0 w, by simp, rfl, rfl, fun _ _ => rfl, (fun j _ h => by rw [getD_false] at h; cases h), (fun j oj _ h => by rw [getD_false] at h; cases h)⟩, (fun i j _ _ _ _ _ h => by rw [getD_false] at h; cases h)⟩
  simpa using h0

/-- a store of a whole row, in a list -/
theorem wpList_row {P : Program} {ops : Array Oper} {Q : Exit → Act → World → Prop} {rest : List Oper} {o : Oper} {a : Act} {w : World} (hg : o.guard = none) (ty : TypeId) (x y : Operand) (ho : o.op = .store ty x y)
    (g : Nat) (cells : Array Value) (hx : a.eval x = .pointer (some ⟨g, 0, none⟩)) (hy : a.eval y = .agg cells) (t : TypeId) (old : Array Value) (hh : w.heap[g]? = some (.cells old t (0, 0))) (hi : (P.info? ty).map (·.size) = some cells.size)
    (hold : old.size = cells.size) (h1 : cells.all (·.oneCell') = true) (h : wpList P ops Q rest (a.put o.dst undef) (w.setRow g cells)) : wpList P ops Q (o :: rest) a w :=
  wpList_plain hg fun K hK => wp_store_row ty x y ho g cells hx hy t old hh hi hold h1 (hK _ _ h)
end Go.Proofs.YtfkjokbhnblndaaDoor

namespace Go.Proofs.YtfkjokbhnblndaaDoor
open Go.RowKit
set_option linter.unusedVariables false
set_option linter.unusedSimpArgs false

theorem ins_beq (x y : Ins) : (x.op == y.op && (x.a == y.a && (x.b == y.b && (x.c == y.c && (x.args == y.args))))) = true ↔ x = y := by
  obtain ⟨a, b, c, d, e⟩ := x
  obtain ⟨a2, b2, c2, d2, e2⟩ := y
  simp

set_option maxRecDepth 100000 in
set_option maxHeartbeats 4000000 in
theorem sameP_any (p q : Pg) (A B : PA) (w : World) (hp : PgAt w p A) (hq : PgAt w q B) (r : Bool) (hr : r = true ↔ p = q) :
    Gives Tryd.prog 26 #[PV p A, PV q B] w (.bool r) := by
  unfold Gives
  have HP := Lib.hid (fun W (hW : Ext w W) => hp.ext hW)
  have HQ := Lib.hid (fun W (hW : Ext w W) => hq.ext hW)
  have HWP := Lib.hid hp.wf
  have HWQ := Lib.hid hq.wf
  have hnf := hp.wf.nf
  have hno := hp.wf.no
  have hnv := hp.wf.nv
  have hnf2 := hq.wf.nf
  have hno2 := hq.wf.no
  have hnv2 := hq.wf.nv
  have HR := Lib.hid hr
  clear hp hq hr
  obtain ⟨fa, fc, oa, oc, va, vc⟩ := A
  obtain ⟨fa2, fc2, oa2, oc2, va2, vc2⟩ := B
  dsimp only [PV]
  obtain ⟨wk, hwk⟩ : ∃ W, W = ((w.alloc (.cells #[.slice fa p.fs.length fc, .slice oa p.os.length oc, .slice va p.vs.length vc] 26)).alloc (.cells #[.slice fa2 q.fs.length fc2, .slice oa2 q.os.length oc2, .slice va2 q.vs.length vc2] 26)) := ⟨_, rfl⟩
  have BX := Lib.hid (show ∀ W, Ext wk W → (W.cell? ⟨w.heap.size, 0, none⟩ = some (.slice fa p.fs.length fc) ∧ W.cell? ⟨w.heap.size, 1, none⟩ = some (.slice oa p.os.length oc) ∧ W.cell? ⟨w.heap.size, 2, none⟩ = some (.slice va p.vs.length vc) ∧ W.cell? ⟨w.heap.size + 1, 0, none⟩ = some (.slice fa2 q.fs.length fc2) ∧ W.cell? ⟨w.heap.size + 1, 1, none⟩ = some (.slice oa2 q.os.length oc2) ∧ W.cell? ⟨w.heap.size + 1, 2, none⟩ = some (.slice va2 q.vs.length vc2)) from fun W hW => by
    subst hwk
    have h0 := alloc_here w (.cells #[.slice fa p.fs.length fc, .slice oa p.os.length oc, .slice va p.vs.length vc] 26)
    have h0 := (Below.heap_alloc _ (.cells #[.slice fa2 q.fs.length fc2, .slice oa2 q.os.length oc2, .slice va2 q.vs.length vc2] 26) _ (lt_of_block h0)).trans h0
    have k0 := (hW.below.block _ (lt_of_block h0)).trans h0
    have h1 := alloc_here (w.alloc (.cells #[.slice fa p.fs.length fc, .slice oa p.os.length oc, .slice va p.vs.length vc] 26)) (.cells #[.slice fa2 q.fs.length fc2, .slice oa2 q.os.length oc2, .slice va2 q.vs.length vc2] 26)
    simp only [World.size_alloc] at h1
    have k1 := (hW.below.block _ (lt_of_block h1)).trans h1
    exact ⟨cell_of k0 rfl, cell_of k0 rfl, cell_of k0 rfl, cell_of k1 rfl, cell_of k1 rfl, cell_of k1 rfl⟩)
  have HWZ := Lib.hid (show wk.heap.size = w.heap.size + 2 by rw [hwk]; simp)
  have HW := Lib.hid (show Ext w wk by rw [hwk]; exact (ext_alloc (ext_alloc (Below.refl _ _) _) _))
  have HE0 := Lib.hid (show Ext wk wk from Below.refl _ _)
  by_cases h0 : p.fs.length = q.fs.length
  case neg =>
    have HV := Lib.hid (show r = false from by cases hb : r with
      | false => rfl
      | true => exact absurd (HR.out.1 hb) (fun e => h0 (by rw [e])))
    have g0 : ((p.fs.length : Int) != (q.fs.length : Int)) = true := by rw [bne_iff_ne]; omega
    clear h0
    go_enter Tryd.func26, Tryd.ntmps26
    go_wp2
    rw [← hwk]
    go_ret
    exact ⟨by rw [HV.out]; rfl, HW.out⟩
  case pos =>
    have g0 : ((p.fs.length : Int) != (q.fs.length : Int)) = false := by rw [h0]; simp
    have L0 := Lib.hid h0
    clear h0
    by_cases h1 : p.os.length = q.os.length
    case neg =>
      have HV := Lib.hid (show r = false from by cases hb : r with
        | false => rfl
        | true => exact absurd (HR.out.1 hb) (fun e => h1 (by rw [e])))
      have g1 : ((p.os.length : Int) != (q.os.length : Int)) = true := by rw [bne_iff_ne]; omega
      clear h1
      go_enter Tryd.func26, Tryd.ntmps26
      go_wp2
      rw [← hwk]
      go_ret
      exact ⟨by rw [HV.out]; rfl, HW.out⟩
    case pos =>
      have g1 : ((p.os.length : Int) != (q.os.length : Int)) = false := by rw [h1]; simp
      have L1 := Lib.hid h1
      clear h1
      by_cases h2 : p.vs.length = q.vs.length
      case neg =>
        have HV := Lib.hid (show r = false from by cases hb : r with
          | false => rfl
          | true => exact absurd (HR.out.1 hb) (fun e => h2 (by rw [e])))
        have g2 : ((p.vs.length : Int) != (q.vs.length : Int)) = true := by rw [bne_iff_ne]; omega
        clear h2
        go_enter Tryd.func26, Tryd.ntmps26
        go_wp2
        rw [← hwk]
        go_ret
        exact ⟨by rw [HV.out]; rfl, HW.out⟩
      case pos =>
        have g2 : ((p.vs.length : Int) != (q.vs.length : Int)) = false := by rw [h2]; simp
        have L2 := Lib.hid h2
        clear h2
        go_enter Tryd.func26, Tryd.ntmps26
        go_wp2_with fail
        rw [← hwk]
        clear hwk
        clear g0 g1 g2
        have HE := Lib.hid (show Ext wk wk from Below.refl _ _)
        go_loopw [5] (fun i wr => ∃ k : Nat, k ≤ p.os.length ∧ i = .int .i64 (k : Int) ∧ (∀ j (h1 : j < p.os.length) (h2 : j < q.os.length), j < k → p.os[j] = q.os[j]) ∧ Ext wk wr) (fun i _ => p.os.length - (intOf i).toNat)
        case atStart => exact ⟨0, Nat.zero_le _, rfl, fun j _ _ h => absurd h (Nat.not_lt_zero _), HE.out⟩
        case round =>
          obtain ⟨k, hk, rfl, hA, hE⟩ := hrel
          clear HE
          have HE := Lib.hid hE
          have HA := Lib.hid hA
          clear hE hA
          obtain ⟨d0_0, d0_1, d0_2, d1_0, d1_1, d1_2⟩ := BX.out wr HE.out
          by_cases hlt : k < p.os.length
          case pos =>
            have hlt2 : k < q.os.length := L1.out ▸ hlt
            obtain ⟨b1, o1, ha1, hc1⟩ := (HP.out wr (Ext.trans HW.out HE.out)).os k hlt
            obtain ⟨b2, o2, ha2, hc2⟩ := (HQ.out wr (Ext.trans HW.out HE.out)).os k hlt2
            dsimp only at ha1 ha2
            subst ha1 ha2
            obtain ⟨c0, c1, c2, c3⟩ := hc1
            obtain ⟨e0, e1, e2, e3⟩ := hc2
            have HNE := Lib.hid (fun (h : p.os[k] ≠ q.os[k]) => show r = false from by
              cases hb : r with
              | false => rfl
              | true =>
                have e := HR.out.1 hb
                subst e
                exact absurd rfl h)
            have HNX := Lib.hid (fun (h : p.os[k] = q.os[k]) => show ∀ j (h1 : j < p.os.length) (h2 : j < q.os.length), j < k + 1 → p.os[j] = q.os[j] from fun j h1 h2 hj => by
              rcases Nat.lt_succ_iff_lt_or_eq.1 hj with h3 | h3
              · exact HA.out j h1 h2 h3
              · subst h3; exact h)
            generalize p.os[k] = y at *
            generalize q.os[k] = z at *
            go_wp2_with fail
            by_cases e : y = z
            case pos =>
              have HN := Lib.hid (HNX.out e)
              subst e
              clear HNX HNE
              have ud0_0 := fun U : Up _ => Up.cell d0_0 U
              have ud0_1 := fun U : Up _ => Up.cell d0_1 U
              have ud0_2 := fun U : Up _ => Up.cell d0_2 U
              have ud1_0 := fun U : Up _ => Up.cell d1_0 U
              have ud1_1 := fun U : Up _ => Up.cell d1_1 U
              have ud1_2 := fun U : Up _ => Up.cell d1_2 U
              have uc0 := fun U : Up _ => Up.cell c0 U
              have uc1 := fun U : Up _ => Up.cell c1 U
              have uc2 := fun U : Up _ => Up.cell c2 U
              have uc3 := fun U : Up _ => Up.cell c3 U
              have ue0 := fun U : Up _ => Up.cell e0 U
              have ue1 := fun U : Up _ => Up.cell e1 U
              have ue2 := fun U : Up _ => Up.cell e2 U
              have ue3 := fun U : Up _ => Up.cell e3 U
              refine wp_region_up (by kernel_rfl) (by kernel_rfl) ?_
              repeat (go_big_quiet_step (fail))
              refine wpQuiet_nil ?_
              rintro _ ⟨U, rfl⟩
              have HE6 := Lib.hid (Ext.trans HE.out U.ext)
              generalize U.W = w6 at *
              clear ud0_0 d0_0 ud0_1 d0_1 ud0_2 d0_2 ud1_0 d1_0 ud1_1 d1_1 ud1_2 d1_2 uc0 c0 uc1 c1 uc2 c2 uc3 c3 ue0 e0 ue1 e1 ue2 e2 ue3 e3
              go_wp2
              go_roundw
              case rel => exact ⟨k + 1, by omega, by go_num, HN.out, HE6.out⟩
              case measure => simp [intOf]; omega
            case neg =>
              have HV := Lib.hid (HNE.out e)
              clear HNX HNE
              obtain ⟨y0, y1, y2, y3⟩ := y
              obtain ⟨z0, z1, z2, z3⟩ := z
              dsimp only at c0 c1 c2 c3 e0 e1 e2 e3
              by_cases n0 : y0 = z0
              case neg =>
                have q0 : (y0 == z0) = false := beq_eq_false_iff_ne.2 n0
                clear n0 e
                have ud0_0 := fun U : Up _ => Up.cell d0_0 U
                have ud0_1 := fun U : Up _ => Up.cell d0_1 U
                have ud0_2 := fun U : Up _ => Up.cell d0_2 U
                have ud1_0 := fun U : Up _ => Up.cell d1_0 U
                have ud1_1 := fun U : Up _ => Up.cell d1_1 U
                have ud1_2 := fun U : Up _ => Up.cell d1_2 U
                have uc0 := fun U : Up _ => Up.cell c0 U
                have uc1 := fun U : Up _ => Up.cell c1 U
                have uc2 := fun U : Up _ => Up.cell c2 U
                have uc3 := fun U : Up _ => Up.cell c3 U
                have ue0 := fun U : Up _ => Up.cell e0 U
                have ue1 := fun U : Up _ => Up.cell e1 U
                have ue2 := fun U : Up _ => Up.cell e2 U
                have ue3 := fun U : Up _ => Up.cell e3 U
                refine wp_region_up (by kernel_rfl) (by kernel_rfl) ?_
                repeat (go_big_quiet_step (fail))
                refine wpQuiet_nil ?_
                rintro _ ⟨U, rfl⟩
                have HE6 := Lib.hid (Ext.trans HE.out U.ext)
                generalize U.W = w6 at *
                clear ud0_0 d0_0 ud0_1 d0_1 ud0_2 d0_2 ud1_0 d1_0 ud1_1 d1_1 ud1_2 d1_2 uc0 c0 uc1 c1 uc2 c2 uc3 c3 ue0 e0 ue1 e1 ue2 e2 ue3 e3
                go_wp2
                go_ret
                exact ⟨by rw [HV.out]; rfl, Ext.trans HW.out HE6.out⟩
              case pos =>
                subst n0
                by_cases n1 : y1 = z1
                case neg =>
                  have q1 : (y1 == z1) = false := beq_eq_false_iff_ne.2 n1
                  clear n1 e
                  have ud0_0 := fun U : Up _ => Up.cell d0_0 U
                  have ud0_1 := fun U : Up _ => Up.cell d0_1 U
                  have ud0_2 := fun U : Up _ => Up.cell d0_2 U
                  have ud1_0 := fun U : Up _ => Up.cell d1_0 U
                  have ud1_1 := fun U : Up _ => Up.cell d1_1 U
                  have ud1_2 := fun U : Up _ => Up.cell d1_2 U
                  have uc0 := fun U : Up _ => Up.cell c0 U
                  have uc1 := fun U : Up _ => Up.cell c1 U
                  have uc2 := fun U : Up _ => Up.cell c2 U
                  have uc3 := fun U : Up _ => Up.cell c3 U
                  have ue0 := fun U : Up _ => Up.cell e0 U
                  have ue1 := fun U : Up _ => Up.cell e1 U
                  have ue2 := fun U : Up _ => Up.cell e2 U
                  have ue3 := fun U : Up _ => Up.cell e3 U
                  refine wp_region_up (by kernel_rfl) (by kernel_rfl) ?_
                  repeat (go_big_quiet_step (fail))
                  refine wpQuiet_nil ?_
                  rintro _ ⟨U, rfl⟩
                  have HE6 := Lib.hid (Ext.trans HE.out U.ext)
                  generalize U.W = w6 at *
                  clear ud0_0 d0_0 ud0_1 d0_1 ud0_2 d0_2 ud1_0 d1_0 ud1_1 d1_1 ud1_2 d1_2 uc0 c0 uc1 c1 uc2 c2 uc3 c3 ue0 e0 ue1 e1 ue2 e2 ue3 e3
                  go_wp2
                  go_ret
                  exact ⟨by rw [HV.out]; rfl, Ext.trans HW.out HE6.out⟩
                case pos =>
                  subst n1
                  by_cases n2 : y2 = z2
                  case neg =>
                    have q2 : (y2 == z2) = false := beq_eq_false_iff_ne.2 n2
                    clear n2 e
                    have ud0_0 := fun U : Up _ => Up.cell d0_0 U
                    have ud0_1 := fun U : Up _ => Up.cell d0_1 U
                    have ud0_2 := fun U : Up _ => Up.cell d0_2 U
                    have ud1_0 := fun U : Up _ => Up.cell d1_0 U
                    have ud1_1 := fun U : Up _ => Up.cell d1_1 U
                    have ud1_2 := fun U : Up _ => Up.cell d1_2 U
                    have uc0 := fun U : Up _ => Up.cell c0 U
                    have uc1 := fun U : Up _ => Up.cell c1 U
                    have uc2 := fun U : Up _ => Up.cell c2 U
                    have uc3 := fun U : Up _ => Up.cell c3 U
                    have ue0 := fun U : Up _ => Up.cell e0 U
                    have ue1 := fun U : Up _ => Up.cell e1 U
                    have ue2 := fun U : Up _ => Up.cell e2 U
                    have ue3 := fun U : Up _ => Up.cell e3 U
                    refine wp_region_up (by kernel_rfl) (by kernel_rfl) ?_
                    repeat (go_big_quiet_step (fail))
                    refine wpQuiet_nil ?_
                    rintro _ ⟨U, rfl⟩
                    have HE6 := Lib.hid (Ext.trans HE.out U.ext)
                    generalize U.W = w6 at *
                    clear ud0_0 d0_0 ud0_1 d0_1 ud0_2 d0_2 ud1_0 d1_0 ud1_1 d1_1 ud1_2 d1_2 uc0 c0 uc1 c1 uc2 c2 uc3 c3 ue0 e0 ue1 e1 ue2 e2 ue3 e3
                    go_wp2
                    go_ret
                    exact ⟨by rw [HV.out]; rfl, Ext.trans HW.out HE6.out⟩
                  case pos =>
                    subst n2
                    have n3 : y3 ≠ z3 := fun e2 => e (by subst e2; rfl)
                    have q3 : (y3 == z3) = false := beq_eq_false_iff_ne.2 n3
                    clear n3 e
                    have ud0_0 := fun U : Up _ => Up.cell d0_0 U
                    have ud0_1 := fun U : Up _ => Up.cell d0_1 U
                    have ud0_2 := fun U : Up _ => Up.cell d0_2 U
                    have ud1_0 := fun U : Up _ => Up.cell d1_0 U
                    have ud1_1 := fun U : Up _ => Up.cell d1_1 U
                    have ud1_2 := fun U : Up _ => Up.cell d1_2 U
                    have uc0 := fun U : Up _ => Up.cell c0 U
                    have uc1 := fun U : Up _ => Up.cell c1 U
                    have uc2 := fun U : Up _ => Up.cell c2 U
                    have uc3 := fun U : Up _ => Up.cell c3 U
                    have ue0 := fun U : Up _ => Up.cell e0 U
                    have ue1 := fun U : Up _ => Up.cell e1 U
                    have ue2 := fun U : Up _ => Up.cell e2 U
                    have ue3 := fun U : Up _ => Up.cell e3 U
                    refine wp_region_up (by kernel_rfl) (by kernel_rfl) ?_
                    repeat (go_big_quiet_step (fail))
                    refine wpQuiet_nil ?_
                    rintro _ ⟨U, rfl⟩
                    have HE6 := Lib.hid (Ext.trans HE.out U.ext)
                    generalize U.W = w6 at *
                    clear ud0_0 d0_0 ud0_1 d0_1 ud0_2 d0_2 ud1_0 d1_0 ud1_1 d1_1 ud1_2 d1_2 uc0 c0 uc1 c1 uc2 c2 uc3 c3 ue0 e0 ue1 e1 ue2 e2 ue3 e3
                    go_wp2
                    go_ret
                    exact ⟨by rw [HV.out]; rfl, Ext.trans HW.out HE6.out⟩
          case neg =>
            have EO := Lib.hid (show p.os = q.os from List.ext_getElem L1.out (fun j h1 h2 => HA.out j h1 h2 (by omega)))
            go_wp2_with fail
            clear hk hlt HA d0_0 d0_1 d0_2 d1_0 d1_1 d1_2
            generalize wr = wv5 at *
            generalize k = kv5 at *
            go_loopw [6] (fun i wr => ∃ k : Nat, k ≤ p.vs.length ∧ i = .int .i64 (k : Int) ∧ (∀ j (h1 : j < p.vs.length) (h2 : j < q.vs.length), j < k → p.vs[j] = q.vs[j]) ∧ Ext wk wr) (fun i _ => p.vs.length - (intOf i).toNat)
            case atStart => exact ⟨0, Nat.zero_le _, rfl, fun j _ _ h => absurd h (Nat.not_lt_zero _), HE.out⟩
            case round =>
              obtain ⟨k, hk, rfl, hA, hE⟩ := hrel
              clear HE
              have HE := Lib.hid hE
              have HA := Lib.hid hA
              clear hE hA
              obtain ⟨d0_0, d0_1, d0_2, d1_0, d1_1, d1_2⟩ := BX.out wr HE.out
              by_cases hlt : k < p.vs.length
              case pos =>
                have hlt2 : k < q.vs.length := L2.out ▸ hlt
                obtain ⟨b1, o1, ha1, hc1⟩ := (HP.out wr (Ext.trans HW.out HE.out)).vs k hlt
                obtain ⟨b2, o2, ha2, hc2⟩ := (HQ.out wr (Ext.trans HW.out HE.out)).vs k hlt2
                dsimp only at ha1 ha2
                subst ha1 ha2
                obtain ⟨c0, c1, c2⟩ := hc1
                obtain ⟨e0, e1, e2⟩ := hc2
                have HNE := Lib.hid (fun (h : p.vs[k] ≠ q.vs[k]) => show r = false from by
                  cases hb : r with
                  | false => rfl
                  | true =>
                    have e := HR.out.1 hb
                    subst e
                    exact absurd rfl h)
                have HNX := Lib.hid (fun (h : p.vs[k] = q.vs[k]) => show ∀ j (h1 : j < p.vs.length) (h2 : j < q.vs.length), j < k + 1 → p.vs[j] = q.vs[j] from fun j h1 h2 hj => by
                  rcases Nat.lt_succ_iff_lt_or_eq.1 hj with h3 | h3
                  · exact HA.out j h1 h2 h3
                  · subst h3; exact h)
                generalize p.vs[k] = y at *
                generalize q.vs[k] = z at *
                go_wp2_with fail
                by_cases e : y = z
                case pos =>
                  have HN := Lib.hid (HNX.out e)
                  subst e
                  clear HNX HNE
                  have ud0_0 := fun U : Up _ => Up.cell d0_0 U
                  have ud0_1 := fun U : Up _ => Up.cell d0_1 U
                  have ud0_2 := fun U : Up _ => Up.cell d0_2 U
                  have ud1_0 := fun U : Up _ => Up.cell d1_0 U
                  have ud1_1 := fun U : Up _ => Up.cell d1_1 U
                  have ud1_2 := fun U : Up _ => Up.cell d1_2 U
                  have uc0 := fun U : Up _ => Up.cell c0 U
                  have uc1 := fun U : Up _ => Up.cell c1 U
                  have uc2 := fun U : Up _ => Up.cell c2 U
                  have ue0 := fun U : Up _ => Up.cell e0 U
                  have ue1 := fun U : Up _ => Up.cell e1 U
                  have ue2 := fun U : Up _ => Up.cell e2 U
                  refine wp_region_up (by kernel_rfl) (by kernel_rfl) ?_
                  repeat (go_big_quiet_step (fail))
                  refine wpQuiet_nil ?_
                  rintro _ ⟨U, rfl⟩
                  have HE6 := Lib.hid (Ext.trans HE.out U.ext)
                  generalize U.W = w6 at *
                  clear ud0_0 d0_0 ud0_1 d0_1 ud0_2 d0_2 ud1_0 d1_0 ud1_1 d1_1 ud1_2 d1_2 uc0 c0 uc1 c1 uc2 c2 ue0 e0 ue1 e1 ue2 e2
                  go_wp2
                  go_roundw
                  case rel => exact ⟨k + 1, by omega, by go_num, HN.out, HE6.out⟩
                  case measure => simp [intOf]; omega
                case neg =>
                  have HV := Lib.hid (HNE.out e)
                  clear HNX HNE
                  obtain ⟨y0, y1, y2⟩ := y
                  obtain ⟨z0, z1, z2⟩ := z
                  dsimp only at c0 c1 c2 e0 e1 e2
                  by_cases n0 : y0 = z0
                  case neg =>
                    have q0 : (y0 == z0) = false := beq_eq_false_iff_ne.2 n0
                    clear n0 e
                    have ud0_0 := fun U : Up _ => Up.cell d0_0 U
                    have ud0_1 := fun U : Up _ => Up.cell d0_1 U
                    have ud0_2 := fun U : Up _ => Up.cell d0_2 U
                    have ud1_0 := fun U : Up _ => Up.cell d1_0 U
                    have ud1_1 := fun U : Up _ => Up.cell d1_1 U
                    have ud1_2 := fun U : Up _ => Up.cell d1_2 U
                    have uc0 := fun U : Up _ => Up.cell c0 U
                    have uc1 := fun U : Up _ => Up.cell c1 U
                    have uc2 := fun U : Up _ => Up.cell c2 U
                    have ue0 := fun U : Up _ => Up.cell e0 U
                    have ue1 := fun U : Up _ => Up.cell e1 U
                    have ue2 := fun U : Up _ => Up.cell e2 U
                    refine wp_region_up (by kernel_rfl) (by kernel_rfl) ?_
                    repeat (go_big_quiet_step (fail))
                    refine wpQuiet_nil ?_
                    rintro _ ⟨U, rfl⟩
                    have HE6 := Lib.hid (Ext.trans HE.out U.ext)
                    generalize U.W = w6 at *
                    clear ud0_0 d0_0 ud0_1 d0_1 ud0_2 d0_2 ud1_0 d1_0 ud1_1 d1_1 ud1_2 d1_2 uc0 c0 uc1 c1 uc2 c2 ue0 e0 ue1 e1 ue2 e2
                    go_wp2
                    go_ret
                    exact ⟨by rw [HV.out]; rfl, Ext.trans HW.out HE6.out⟩
                  case pos =>
                    subst n0
                    by_cases n1 : y1 = z1
                    case neg =>
                      have q1 : (y1 == z1) = false := beq_eq_false_iff_ne.2 n1
                      clear n1 e
                      have ud0_0 := fun U : Up _ => Up.cell d0_0 U
                      have ud0_1 := fun U : Up _ => Up.cell d0_1 U
                      have ud0_2 := fun U : Up _ => Up.cell d0_2 U
                      have ud1_0 := fun U : Up _ => Up.cell d1_0 U
                      have ud1_1 := fun U : Up _ => Up.cell d1_1 U
                      have ud1_2 := fun U : Up _ => Up.cell d1_2 U
                      have uc0 := fun U : Up _ => Up.cell c0 U
                      have uc1 := fun U : Up _ => Up.cell c1 U
                      have uc2 := fun U : Up _ => Up.cell c2 U
                      have ue0 := fun U : Up _ => Up.cell e0 U
                      have ue1 := fun U : Up _ => Up.cell e1 U
                      have ue2 := fun U : Up _ => Up.cell e2 U
                      refine wp_region_up (by kernel_rfl) (by kernel_rfl) ?_
                      repeat (go_big_quiet_step (fail))
                      refine wpQuiet_nil ?_
                      rintro _ ⟨U, rfl⟩
                      have HE6 := Lib.hid (Ext.trans HE.out U.ext)
                      generalize U.W = w6 at *
                      clear ud0_0 d0_0 ud0_1 d0_1 ud0_2 d0_2 ud1_0 d1_0 ud1_1 d1_1 ud1_2 d1_2 uc0 c0 uc1 c1 uc2 c2 ue0 e0 ue1 e1 ue2 e2
                      go_wp2
                      go_ret
                      exact ⟨by rw [HV.out]; rfl, Ext.trans HW.out HE6.out⟩
                    case pos =>
                      subst n1
                      have n2 : y2 ≠ z2 := fun e2 => e (by subst e2; rfl)
                      have q2 : (y2 == z2) = false := beq_eq_false_iff_ne.2 n2
                      clear n2 e
                      have ud0_0 := fun U : Up _ => Up.cell d0_0 U
                      have ud0_1 := fun U : Up _ => Up.cell d0_1 U
                      have ud0_2 := fun U : Up _ => Up.cell d0_2 U
                      have ud1_0 := fun U : Up _ => Up.cell d1_0 U
                      have ud1_1 := fun U : Up _ => Up.cell d1_1 U
                      have ud1_2 := fun U : Up _ => Up.cell d1_2 U
                      have uc0 := fun U : Up _ => Up.cell c0 U
                      have uc1 := fun U : Up _ => Up.cell c1 U
                      have uc2 := fun U : Up _ => Up.cell c2 U
                      have ue0 := fun U : Up _ => Up.cell e0 U
                      have ue1 := fun U : Up _ => Up.cell e1 U
                      have ue2 := fun U : Up _ => Up.cell e2 U
                      refine wp_region_up (by kernel_rfl) (by kernel_rfl) ?_
                      repeat (go_big_quiet_step (fail))
                      refine wpQuiet_nil ?_
                      rintro _ ⟨U, rfl⟩
                      have HE6 := Lib.hid (Ext.trans HE.out U.ext)
                      generalize U.W = w6 at *
                      clear ud0_0 d0_0 ud0_1 d0_1 ud0_2 d0_2 ud1_0 d1_0 ud1_1 d1_1 ud1_2 d1_2 uc0 c0 uc1 c1 uc2 c2 ue0 e0 ue1 e1 ue2 e2
                      go_wp2
                      go_ret
                      exact ⟨by rw [HV.out]; rfl, Ext.trans HW.out HE6.out⟩
              case neg =>
                have EV := Lib.hid (show p.vs = q.vs from List.ext_getElem L2.out (fun j h1 h2 => HA.out j h1 h2 (by omega)))
                go_wp2_with fail
                clear hk hlt HA d0_0 d0_1 d0_2 d1_0 d1_1 d1_2
                generalize wr = wv6 at *
                generalize k = kv6 at *
                go_loopw [7] (fun i wr => ∃ k : Nat, k ≤ p.fs.length ∧ i = .int .i64 (k : Int) ∧ (∀ j (h1 : j < p.fs.length) (h2 : j < q.fs.length), j < k → p.fs[j] = q.fs[j]) ∧ Ext wk wr) (fun i _ => p.fs.length - (intOf i).toNat)
                case atStart => exact ⟨0, Nat.zero_le _, rfl, fun j _ _ h => absurd h (Nat.not_lt_zero _), HE.out⟩
                case round =>
                  obtain ⟨k, hk, rfl, hA, hE⟩ := hrel
                  clear HE
                  have HE := Lib.hid hE
                  have HA := Lib.hid hA
                  clear hE hA
                  obtain ⟨d0_0, d0_1, d0_2, d1_0, d1_1, d1_2⟩ := BX.out wr HE.out
                  by_cases hlt : k < p.fs.length
                  case neg =>
                    have EF := Lib.hid (show p.fs = q.fs from List.ext_getElem L0.out (fun j h1 h2 => HA.out j h1 h2 (by omega)))
                    have HV := Lib.hid (show r = true from HR.out.2 (by
                      obtain ⟨pf, po, pv⟩ := p
                      obtain ⟨qf, qo, qv⟩ := q
                      obtain rfl : pf = qf := EF.out
                      obtain rfl : po = qo := EO.out
                      obtain rfl : pv = qv := EV.out
                      rfl))
                    go_wp2
                    go_ret
                    exact ⟨by rw [HV.out]; rfl, Ext.trans HW.out HE.out⟩
                  case pos =>
                    have hlt2 : k < q.fs.length := L0.out ▸ hlt
                    obtain ⟨b1, o1, xa, xc, ha1, hc1, hi1⟩ := (HP.out wr (Ext.trans HW.out HE.out)).fs k hlt
                    obtain ⟨b2, o2, ya, yc, ha2, hc2, hi2⟩ := (HQ.out wr (Ext.trans HW.out HE.out)).fs k hlt2
                    dsimp only at ha1 ha2
                    subst ha1 ha2
                    have HC1 := Lib.hid (fun W (hW : Ext wr W) => hc1.ext hW)
                    have HC2 := Lib.hid (fun W (hW : Ext wr W) => hc2.ext hW)
                    have HI1 := Lib.hid (fun W (hW : Ext wr W) => hi1.ext hW)
                    have HI2 := Lib.hid (fun W (hW : Ext wr W) => hi2.ext hW)
                    have hFW1 := HWP.out.fs _ (List.getElem_mem hlt)
                    have hFW2 := HWQ.out.fs _ (List.getElem_mem hlt2)
                    have hln1 := hFW1.len
                    have hln2 := hFW2.len
                    have HF1 := Lib.hid hFW1.code
                    have HF2 := Lib.hid hFW2.code
                    have HNE := Lib.hid (fun (h : p.fs[k] ≠ q.fs[k]) => show r = false from by
                      cases hb : r with
                      | false => rfl
                      | true =>
                        have e := HR.out.1 hb
                        subst e
                        exact absurd rfl h)
                    have HNX := Lib.hid (fun (h : p.fs[k] = q.fs[k]) => show ∀ j (h1 : j < p.fs.length) (h2 : j < q.fs.length), j < k + 1 → p.fs[j] = q.fs[j] from fun j h1 h2 hj => by
                      rcases Nat.lt_succ_iff_lt_or_eq.1 hj with h3 | h3
                      · exact HA.out j h1 h2 h3
                      · subst h3; exact h)
                    clear hc1 hc2 hi1 hi2 hFW1 hFW2
                    generalize p.fs[k] = y at *
                    generalize q.fs[k] = z at *
                    obtain ⟨nm, pa, re, pr, cl, co⟩ := y
                    obtain ⟨nm2, pa2, re2, pr2, cl2, co2⟩ := z
                    dsimp only at HI1 HI2 hln1 hln2 HF1 HF2
                    go_wp2_with fail
                    refine wp_region_gptail (l1 := [_, _, _, _, _, _, _, _, _, _, _, _, _]) (l2 := [_]) (by kernel_rfl) (fun j => j == 10 || j == 11) (Grow wr.heap.size 44 (fun c => c = #[sV nm, .int .i64 pa, .int .i64 re, .int .i64 pr, .bool cl, .slice xa co.length xc])) (Grow.refl _ _ _) (Grow.drawn _ _ _) Grow.trans
                      (fun i s W => match i with
                        | 0 => s 0 = .pointer (some ⟨w.heap.size, 0, none⟩)
                        | 1 => s 1 = .slice (some ⟨b1, o1, none⟩) p.fs.length fc
                        | 2 => s 2 = .int .i64 (k : Int)
                        | 3 => s 3 = .pointer (some ⟨b1, o1 + k * 6, none⟩)
                        | 4 => s 4 = .agg #[sV nm, .int .i64 pa, .int .i64 re, .int .i64 pr, .bool cl, .slice xa co.length xc]
                        | 5 => s 5 = .pointer (some ⟨w.heap.size + 1, 0, none⟩)
                        | 6 => s 6 = .slice (some ⟨b2, o2, none⟩) q.fs.length fc2
                        | 7 => s 7 = .int .i64 (k : Int)
                        | 8 => s 8 = .pointer (some ⟨b2, o2 + k * 6, none⟩)
                        | 9 => s 9 = .agg #[sV nm2, .int .i64 pa2, .int .i64 re2, .int .i64 pr2, .bool cl2, .slice ya co2.length yc]
                        | 10 => ∃ g cc, s 10 = .pointer (some ⟨g, 0, none⟩) ∧ wr.heap.size ≤ g ∧ W.heap[g]? = some (.cells cc 44 (0, 0)) ∧ cc.size = 6
                        | 11 => ∃ g cc, s 11 = .pointer (some ⟨g, 0, none⟩) ∧ wr.heap.size ≤ g ∧ W.heap[g]? = some (.cells cc 44 (0, 0)) ∧ cc.size = 6
                        | 12 => ∃ g cc, s 10 = .pointer (some ⟨g, 0, none⟩) ∧ wr.heap.size ≤ g ∧ W.heap[g]? = some (.cells cc 44 (0, 0)) ∧ cc = #[sV nm, .int .i64 pa, .int .i64 re, .int .i64 pr, .bool cl, .slice xa co.length xc]
                        | _ => True)
                      (fun j => match j with | 12 => [10] | j => [j])
                      (by
                        intro i s s' W W' h hs hR
                        match i, h, hs with
                        | 0, h, hs => exact (hs 0 (by simp)).trans h
                        | 1, h, hs => exact (hs 1 (by simp)).trans h
                        | 2, h, hs => exact (hs 2 (by simp)).trans h
                        | 3, h, hs => exact (hs 3 (by simp)).trans h
                        | 4, h, hs => exact (hs 4 (by simp)).trans h
                        | 5, h, hs => exact (hs 5 (by simp)).trans h
                        | 6, h, hs => exact (hs 6 (by simp)).trans h
                        | 7, h, hs => exact (hs 7 (by simp)).trans h
                        | 8, h, hs => exact (hs 8 (by simp)).trans h
                        | 9, h, hs => exact (hs 9 (by simp)).trans h
                        | 10, ⟨g, cc, h1, h2, h3, h4⟩, hs => obtain ⟨c', e1, e2⟩ := hR.turn h3; exact ⟨g, c', (hs 10 (by simp)).trans h1, h2, e1, by omega⟩
                        | 11, ⟨g, cc, h1, h2, h3, h4⟩, hs => obtain ⟨c', e1, e2⟩ := hR.turn h3; exact ⟨g, c', (hs 11 (by simp)).trans h1, h2, e1, by omega⟩
                        | 12, ⟨g, cc, h1, h2, h3, h4⟩, hs => obtain ⟨c', e1, e2⟩ := hR.done h3 h4; exact ⟨g, c', (hs 10 (by simp)).trans h1, h2, e1, e2⟩
                        | i + 13, h, hs => exact trivial)
                      (by kernel_rfl) (by kernel_rfl) (by kernel_rfl) 150 rfl (by kernel_rfl) (by kernel_rfl) ?_ ?_
                    · intro i op ho a' W hA
                      have hEW : Ext wr W := hA.rel.ext
                      obtain ⟨d0_0, d0_1, d0_2, d1_0, d1_1, d1_2⟩ := BX.out W (Ext.trans HE.out hEW)
                      obtain ⟨c0, c1, c2, c3, c4, c5⟩ := HC1.out W hEW
                      obtain ⟨f0, f1, f2, f3, f4, f5⟩ := HC2.out W hEW
                      dsimp only at c0 c1 c2 c3 c4 c5 f0 f1 f2 f3 f4 f5
                      match i, ho with
                      | 0, ho =>
                        obtain rfl := Option.some.inj ho
                        refine GoesG.toP (by rfl) ?_
                        have e1 : a'.eval (.tmp 2) = .pointer (some ⟨w.heap.size, 0, none⟩) := hA.keep 2 (by kernel_rfl)
                        refine GoesG.value (.pointer (some ⟨w.heap.size, 0, none⟩)) rfl ?_ (Grow.refl _ _ _ _) (fun s h1 h2 => h1 rfl)
                        simp only [execOp, e1]
                        simp [go_sem, hlt, hlt2, c0, c1, c2, c3, c4, c5, f0, f1, f2, f3, f4, f5, d0_0, d0_1, d0_2, d1_0, d1_1, d1_2]
                      | 1, ho =>
                        obtain rfl := Option.some.inj ho
                        refine GoesG.toP (by rfl) ?_
                        have e1 : a'.eval (.tmp 79) = .pointer (some ⟨w.heap.size, 0, none⟩) := (sv_dst (l := _) rfl).symm.trans (hA.new 0 (by decide) (by kernel_rfl))
                        refine GoesG.value (.slice (some ⟨b1, o1, none⟩) p.fs.length fc) rfl ?_ (Grow.refl _ _ _ _) (fun s h1 h2 => h1 rfl)
                        simp only [execOp, e1]
                        simp [go_sem, hlt, hlt2, c0, c1, c2, c3, c4, c5, f0, f1, f2, f3, f4, f5, d0_0, d0_1, d0_2, d1_0, d1_1, d1_2]
                      | 2, ho =>
                        obtain rfl := Option.some.inj ho
                        refine GoesG.toP (by rfl) ?_
                        have e1 : a'.eval (.tmp 7) = .int .i64 (k : Int) := hA.keep 7 (by kernel_rfl)
                        refine GoesG.value (.int .i64 (k : Int)) rfl ?_ (Grow.refl _ _ _ _) (fun s h1 h2 => h1 rfl)
                        simp only [execOp, e1]
                        simp [go_sem, hlt, hlt2, c0, c1, c2, c3, c4, c5, f0, f1, f2, f3, f4, f5, d0_0, d0_1, d0_2, d1_0, d1_1, d1_2]
                      | 3, ho =>
                        obtain rfl := Option.some.inj ho
                        refine GoesG.toP (by rfl) ?_
                        have e1 : a'.eval (.tmp 80) = .slice (some ⟨b1, o1, none⟩) p.fs.length fc := (sv_dst (l := _) rfl).symm.trans (hA.new 1 (by decide) (by kernel_rfl))
                        have e2 : a'.eval (.tmp 81) = .int .i64 (k : Int) := (sv_dst (l := _) rfl).symm.trans (hA.new 2 (by decide) (by kernel_rfl))
                        refine GoesG.value (.pointer (some ⟨b1, o1 + k * 6, none⟩)) rfl ?_ (Grow.refl _ _ _ _) (fun s h1 h2 => h1 rfl)
                        simp only [execOp, e1, e2]
                        simp [go_sem, hlt, hlt2, c0, c1, c2, c3, c4, c5, f0, f1, f2, f3, f4, f5, d0_0, d0_1, d0_2, d1_0, d1_1, d1_2]
                      | 4, ho =>
                        obtain rfl := Option.some.inj ho
                        refine GoesG.toP (by rfl) ?_
                        have e1 : a'.eval (.tmp 82) = .pointer (some ⟨b1, o1 + k * 6, none⟩) := (sv_dst (l := _) rfl).symm.trans (hA.new 3 (by decide) (by kernel_rfl))
                        refine GoesG.value (.agg #[sV nm, .int .i64 pa, .int .i64 re, .int .i64 pr, .bool cl, .slice xa co.length xc]) rfl ?_ (Grow.refl _ _ _ _) (fun s h1 h2 => h1 rfl)
                        simp only [execOp, e1]
                        simp [go_sem, hlt, hlt2, c0, c1, c2, c3, c4, c5, f0, f1, f2, f3, f4, f5, d0_0, d0_1, d0_2, d1_0, d1_1, d1_2]
                      | 5, ho =>
                        obtain rfl := Option.some.inj ho
                        refine GoesG.toP (by rfl) ?_
                        have e1 : a'.eval (.tmp 3) = .pointer (some ⟨w.heap.size + 1, 0, none⟩) := hA.keep 3 (by kernel_rfl)
                        refine GoesG.value (.pointer (some ⟨w.heap.size + 1, 0, none⟩)) rfl ?_ (Grow.refl _ _ _ _) (fun s h1 h2 => h1 rfl)
                        simp only [execOp, e1]
                        simp [go_sem, hlt, hlt2, c0, c1, c2, c3, c4, c5, f0, f1, f2, f3, f4, f5, d0_0, d0_1, d0_2, d1_0, d1_1, d1_2]
                      | 6, ho =>
                        obtain rfl := Option.some.inj ho
                        refine GoesG.toP (by rfl) ?_
                        have e1 : a'.eval (.tmp 84) = .pointer (some ⟨w.heap.size + 1, 0, none⟩) := (sv_dst (l := _) rfl).symm.trans (hA.new 5 (by decide) (by kernel_rfl))
                        refine GoesG.value (.slice (some ⟨b2, o2, none⟩) q.fs.length fc2) rfl ?_ (Grow.refl _ _ _ _) (fun s h1 h2 => h1 rfl)
                        simp only [execOp, e1]
                        simp [go_sem, hlt, hlt2, c0, c1, c2, c3, c4, c5, f0, f1, f2, f3, f4, f5, d0_0, d0_1, d0_2, d1_0, d1_1, d1_2]
                      | 7, ho =>
                        obtain rfl := Option.some.inj ho
                        refine GoesG.toP (by rfl) ?_
                        have e1 : a'.eval (.tmp 7) = .int .i64 (k : Int) := hA.keep 7 (by kernel_rfl)
                        refine GoesG.value (.int .i64 (k : Int)) rfl ?_ (Grow.refl _ _ _ _) (fun s h1 h2 => h1 rfl)
                        simp only [execOp, e1]
                        simp [go_sem, hlt, hlt2, c0, c1, c2, c3, c4, c5, f0, f1, f2, f3, f4, f5, d0_0, d0_1, d0_2, d1_0, d1_1, d1_2]
                      | 8, ho =>
                        obtain rfl := Option.some.inj ho
                        refine GoesG.toP (by rfl) ?_
                        have e1 : a'.eval (.tmp 85) = .slice (some ⟨b2, o2, none⟩) q.fs.length fc2 := (sv_dst (l := _) rfl).symm.trans (hA.new 6 (by decide) (by kernel_rfl))
                        have e2 : a'.eval (.tmp 86) = .int .i64 (k : Int) := (sv_dst (l := _) rfl).symm.trans (hA.new 7 (by decide) (by kernel_rfl))
                        refine GoesG.value (.pointer (some ⟨b2, o2 + k * 6, none⟩)) rfl ?_ (Grow.refl _ _ _ _) (fun s h1 h2 => h1 rfl)
                        simp only [execOp, e1, e2]
                        simp [go_sem, hlt, hlt2, c0, c1, c2, c3, c4, c5, f0, f1, f2, f3, f4, f5, d0_0, d0_1, d0_2, d1_0, d1_1, d1_2]
                      | 9, ho =>
                        obtain rfl := Option.some.inj ho
                        refine GoesG.toP (by rfl) ?_
                        have e1 : a'.eval (.tmp 87) = .pointer (some ⟨b2, o2 + k * 6, none⟩) := (sv_dst (l := _) rfl).symm.trans (hA.new 8 (by decide) (by kernel_rfl))
                        refine GoesG.value (.agg #[sV nm2, .int .i64 pa2, .int .i64 re2, .int .i64 pr2, .bool cl2, .slice ya co2.length yc]) rfl ?_ (Grow.refl _ _ _ _) (fun s h1 h2 => h1 rfl)
                        simp only [execOp, e1]
                        simp [go_sem, hlt, hlt2, c0, c1, c2, c3, c4, c5, f0, f1, f2, f3, f4, f5, d0_0, d0_1, d0_2, d1_0, d1_1, d1_2]
                      | 10, ho =>
                        obtain rfl := Option.some.inj ho
                        refine GoesP.alloc (.pointer (some ⟨W.heap.size, 0, none⟩)) (W' := W.alloc (.cells #[.string { data := #[] }, .int .i64 0, .int .i64 0, .int .i64 0, .bool false, .slice none 0 0] 44)) rfl rfl ?_ (Grow.of_ext (ext_alloc (Below.refl _ _) _)) (fun s h1 h2 => ⟨W.heap.size, _, h1 rfl, hA.rel.size, alloc_here _ _, rfl⟩) (fun j s hal hj e => ?_)
                        · simp only [execOp]
                          simp [go_sem]
                        · have hj3 : j = 10 ∨ j = 11 := by have h9 := hal; simp at h9; omega
                          rcases hj3 with rfl | rfl
                          · obtain ⟨g, cc, h1, h2, h3, h4⟩ := hj
                            rw [h1] at e
                            cases e
                            exact absurd (lt_of_block h3) (Nat.lt_irrefl _)
                          · obtain ⟨g, cc, h1, h2, h3, h4⟩ := hj
                            rw [h1] at e
                            cases e
                            exact absurd (lt_of_block h3) (Nat.lt_irrefl _)
                      | 11, ho =>
                        obtain rfl := Option.some.inj ho
                        refine GoesP.alloc (.pointer (some ⟨W.heap.size, 0, none⟩)) (W' := W.alloc (.cells #[.string { data := #[] }, .int .i64 0, .int .i64 0, .int .i64 0, .bool false, .slice none 0 0] 44)) rfl rfl ?_ (Grow.of_ext (ext_alloc (Below.refl _ _) _)) (fun s h1 h2 => ⟨W.heap.size, _, h1 rfl, hA.rel.size, alloc_here _ _, rfl⟩) (fun j s hal hj e => ?_)
                        · simp only [execOp]
                          simp [go_sem]
                        · have hj3 : j = 10 ∨ j = 11 := by have h9 := hal; simp at h9; omega
                          rcases hj3 with rfl | rfl
                          · obtain ⟨g, cc, h1, h2, h3, h4⟩ := hj
                            rw [h1] at e
                            cases e
                            exact absurd (lt_of_block h3) (Nat.lt_irrefl _)
                          · obtain ⟨g, cc, h1, h2, h3, h4⟩ := hj
                            rw [h1] at e
                            cases e
                            exact absurd (lt_of_block h3) (Nat.lt_irrefl _)
                      | 12, ho =>
                        obtain rfl := Option.some.inj ho
                        refine GoesG.toP (by rfl) ?_
                        obtain ⟨g, cc, e0, hB2, hg, hcc⟩ := hA.new 10 (by decide) (by kernel_rfl)
                        have e1 : a'.eval (.tmp 8) = .pointer (some ⟨g, 0, none⟩) := (sv_dst (l := _) rfl).symm.trans e0
                        have e2 : a'.eval (.tmp 83) = .agg #[sV nm, .int .i64 pa, .int .i64 re, .int .i64 pr, .bool cl, .slice xa co.length xc] := (sv_dst (l := _) rfl).symm.trans (hA.new 4 (by decide) (by kernel_rfl))
                        exact GoesG.store rfl 44 (.tmp 8) (.tmp 83) rfl g #[sV nm, .int .i64 pa, .int .i64 re, .int .i64 pr, .bool cl, .slice xa co.length xc] e1 e2 44 cc hg (by kernel_rfl) hcc (by simp [Value.oneCell']) rfl (Grow.row hg hB2 hcc.symm rfl)
                          (fun s h2 => ⟨g, _, (h2 10 (by decide) (by kernel_rfl)).trans e0, hB2, setRow_heap _ _ _ _ _ _ hg, rfl⟩)
                      | i + 13, ho => cases ho
                    · intro vs w4 hvs hG hΦ hpair
                      obtain ⟨y0, y1, y2, y3, y4, y5, y6, y7, y8, y9, y10, y11, y12, rfl⟩ : ∃ y0 y1 y2 y3 y4 y5 y6 y7 y8 y9 y10 y11 y12, vs = [y0, y1, y2, y3, y4, y5, y6, y7, y8, y9, y10, y11, y12] := by
                        match vs, hvs with
                        | [y0, y1, y2, y3, y4, y5, y6, y7, y8, y9, y10, y11, y12], _ => exact ⟨_, _, _, _, _, _, _, _, _, _, _, _, _, rfl⟩
                      obtain ⟨g1, cc1, hy10, hB1, hg1, rfl⟩ : ∃ g cc, y10 = .pointer (some ⟨g, 0, none⟩) ∧ wr.heap.size ≤ g ∧ w4.heap[g]? = some (.cells cc 44 (0, 0)) ∧ cc = #[sV nm, .int .i64 pa, .int .i64 re, .int .i64 pr, .bool cl, .slice xa co.length xc] := hΦ 12 (by decide)
                      obtain ⟨g2, cc2, hy11, hB2, hg2, hs2⟩ : ∃ g cc, y11 = .pointer (some ⟨g, 0, none⟩) ∧ wr.heap.size ≤ g ∧ w4.heap[g]? = some (.cells cc 44 (0, 0)) ∧ cc.size = 6 := hΦ 11 (by decide)
                      have hn : g1 ≠ g2 := fun e => hpair 10 11 (by decide) (by decide) (by decide) rfl rfl (by show y10 = y11; rw [hy10, hy11, e])
                      have hy9 : y9 = .agg #[sV nm2, .int .i64 pa2, .int .i64 re2, .int .i64 pr2, .bool cl2, .slice ya co2.length yc] := hΦ 9 (by decide)
                      have hG2 : Grow wr.heap.size 44 (fun c => c = #[sV nm2, .int .i64 pa2, .int .i64 re2, .int .i64 pr2, .bool cl2, .slice ya co2.length yc]) w4 (w4.setRow g2 #[sV nm2, .int .i64 pa2, .int .i64 re2, .int .i64 pr2, .bool cl2, .slice ya co2.length yc]) := Grow.row hg2 hB2 hs2.symm rfl
                      have hE5 : Ext wr (w4.setRow g2 #[sV nm2, .int .i64 pa2, .int .i64 re2, .int .i64 pr2, .bool cl2, .slice ya co2.length yc]) := Grow.ext (Grow.trans (Grow.of_ext hG.ext) hG2)
                      have hg3 := setRow_heap w4 g2 cc2 #[sV nm2, .int .i64 pa2, .int .i64 re2, .int .i64 pr2, .bool cl2, .slice ya co2.length yc] 44 (0, 0) hg2
                      have hg4 : (w4.setRow g2 #[sV nm2, .int .i64 pa2, .int .i64 re2, .int .i64 pr2, .bool cl2, .slice ya co2.length yc]).heap[g1]? = some (.cells #[sV nm, .int .i64 pa, .int .i64 re, .int .i64 pr, .bool cl, .slice xa co.length xc] 44 (0, 0)) := by
                        simp only [World.setRow, Array.getElem?_modify, if_neg (Ne.symm hn)]
                        exact hg1
                      clear hΦ hvs hG hpair hG2
                      subst hy9 hy10 hy11
                      simp only [putAll, Act.put, List.setIfInBounds_toArray, List.set_cons_succ, List.set_cons_zero]
                      refine wpList_row rfl 44 (.tmp 9) (.tmp 88) rfl g2 #[sV nm2, .int .i64 pa2, .int .i64 re2, .int .i64 pr2, .bool cl2, .slice ya co2.length yc] (by rfl) (by rfl) 44 cc2 hg2 (by kernel_rfl) hs2 (by simp [Value.oneCell']) ?_
                      have HE5 := Lib.hid (Ext.trans HE.out hE5)
                      have HX5 := Lib.hid hE5
                      have HG1 := Lib.hid hg4
                      have HG2 := Lib.hid hg3
                      clear hE5 hg1 hg2 hg3 hg4 hB1 hB2 hs2
                      generalize w4.setRow g2 #[sV nm2, .int .i64 pa2, .int .i64 re2, .int .i64 pr2, .bool cl2, .slice ya co2.length yc] = w5 at *
                      have HBX := Lib.hid (fun W (hW : Ext w5 W) => show (W.cell? ⟨g1, 0, none⟩ = some (sV nm) ∧ W.cell? ⟨g1, 1, none⟩ = some (.int .i64 pa) ∧ W.cell? ⟨g1, 2, none⟩ = some (.int .i64 re) ∧ W.cell? ⟨g1, 3, none⟩ = some (.int .i64 pr) ∧ W.cell? ⟨g1, 4, none⟩ = some (.bool cl) ∧ W.cell? ⟨g1, 5, none⟩ = some (.slice xa co.length xc)) ∧ (W.cell? ⟨g2, 0, none⟩ = some (sV nm2) ∧ W.cell? ⟨g2, 1, none⟩ = some (.int .i64 pa2) ∧ W.cell? ⟨g2, 2, none⟩ = some (.int .i64 re2) ∧ W.cell? ⟨g2, 3, none⟩ = some (.int .i64 pr2) ∧ W.cell? ⟨g2, 4, none⟩ = some (.bool cl2) ∧ W.cell? ⟨g2, 5, none⟩ = some (.slice ya co2.length yc)) from by
                        have h1 := (hW.below.block _ (lt_of_block HG1.out)).trans HG1.out
                        have h2 := (hW.below.block _ (lt_of_block HG2.out)).trans HG2.out
                        exact ⟨⟨cell_of h1 rfl, cell_of h1 rfl, cell_of h1 rfl, cell_of h1 rfl, cell_of h1 rfl, cell_of h1 rfl⟩, cell_of h2 rfl, cell_of h2 rfl, cell_of h2 rfl, cell_of h2 rfl, cell_of h2 rfl, cell_of h2 rfl⟩)
                      clear HG1 HG2
                      clear d0_0 d0_1 d0_2 d1_0 d1_1 d1_2
                      obtain ⟨⟨m0, m1, m2, m3, m4, m5⟩, n0, n1, n2, n3, n4, n5⟩ := HBX.out w5 (Below.refl _ _)
                      by_cases h0 : nm = nm2
                      case neg =>
                        have HV := Lib.hid (HNE.out (fun e => h0 (by cases e; rfl)))
                        clear HNE HNX
                        have g1 : (nm == nm2) = false := beq_eq_false_iff_ne.2 h0
                        have g2 : (nm != nm2) = true := bne_iff_ne.2 h0
                        clear h0
                        go_wp2
                        go_ret
                        exact ⟨by rw [HV.out]; rfl, Ext.trans HW.out HE5.out⟩
                      case pos =>
                        subst h0
                        by_cases h1 : pa = pa2
                        case neg =>
                          have HV := Lib.hid (HNE.out (fun e => h1 (by cases e; rfl)))
                          clear HNE HNX
                          have g1 : (pa == pa2) = false := beq_eq_false_iff_ne.2 h1
                          have g2 : (pa != pa2) = true := bne_iff_ne.2 h1
                          clear h1
                          go_wp2
                          go_ret
                          exact ⟨by rw [HV.out]; rfl, Ext.trans HW.out HE5.out⟩
                        case pos =>
                          subst h1
                          by_cases h2 : re = re2
                          case neg =>
                            have HV := Lib.hid (HNE.out (fun e => h2 (by cases e; rfl)))
                            clear HNE HNX
                            have g1 : (re == re2) = false := beq_eq_false_iff_ne.2 h2
                            have g2 : (re != re2) = true := bne_iff_ne.2 h2
                            clear h2
                            go_wp2
                            go_ret
                            exact ⟨by rw [HV.out]; rfl, Ext.trans HW.out HE5.out⟩
                          case pos =>
                            subst h2
                            by_cases h3 : pr = pr2
                            case neg =>
                              have HV := Lib.hid (HNE.out (fun e => h3 (by cases e; rfl)))
                              clear HNE HNX
                              have g1 : (pr == pr2) = false := beq_eq_false_iff_ne.2 h3
                              have g2 : (pr != pr2) = true := bne_iff_ne.2 h3
                              clear h3
                              go_wp2
                              go_ret
                              exact ⟨by rw [HV.out]; rfl, Ext.trans HW.out HE5.out⟩
                            case pos =>
                              subst h3
                              by_cases h4 : cl = cl2
                              case neg =>
                                have HV := Lib.hid (HNE.out (fun e => h4 (by cases e; rfl)))
                                clear HNE HNX
                                cases cl <;> cases cl2
                                · exact absurd rfl h4
                                ·
                                  clear h4
                                  go_wp2
                                  go_ret
                                  exact ⟨by rw [HV.out]; rfl, Ext.trans HW.out HE5.out⟩
                                ·
                                  clear h4
                                  go_wp2
                                  go_ret
                                  exact ⟨by rw [HV.out]; rfl, Ext.trans HW.out HE5.out⟩
                                · exact absurd rfl h4
                              case pos =>
                                subst h4
                                by_cases h5 : co.length = co2.length
                                case neg =>
                                  have HV := Lib.hid (HNE.out (fun e => h5 (by cases e; rfl)))
                                  have g1 : ((co.length : Int) != (co2.length : Int)) = true := by rw [bne_iff_ne]; omega
                                  clear HNE HNX h5
                                  go_wp2
                                  go_ret
                                  exact ⟨by rw [HV.out]; rfl, Ext.trans HW.out HE5.out⟩
                                case pos =>
                                  have g1 : ((co.length : Int) != (co2.length : Int)) = false := by rw [h5]; simp
                                  have L5 := Lib.hid h5
                                  clear h5
                                  have HJ := Lib.hid (fun (h : co ≠ co2) => HNE.out (fun e => h (by cases e; rfl)))
                                  have HK := Lib.hid (fun (h : co = co2) => HNX.out (by rw [h]))
                                  clear HNE HNX
                                  go_wp2_with fail
                                  clear g1 m0 m1 m2 m3 m4 m5 n0 n1 n2 n3 n4 n5
                                  have HE6 := Lib.hid (show Ext w5 w5 from Below.refl _ _)
                                  generalize wr = wf at *
                                  go_loopw [10] (fun i wr => ∃ j : Nat, j ≤ co.length ∧ i = .int .i64 (j : Int) ∧ (∀ i (h1 : i < co.length) (h2 : i < co2.length), i < j → co[i] = co2[i]) ∧ Ext w5 wr) (fun i _ => co.length - (intOf i).toNat)
                                  case atStart => exact ⟨0, Nat.zero_le _, rfl, fun j _ _ h => absurd h (Nat.not_lt_zero _), HE6.out⟩
                                  case round =>
                                    obtain ⟨j, hj, rfl, hA2, hE6⟩ := hrel
                                    clear HE6
                                    have HE6 := Lib.hid hE6
                                    have HA2 := Lib.hid hA2
                                    clear hE6 hA2
                                    obtain ⟨⟨m0, m1, m2, m3, m4, m5⟩, n0, n1, n2, n3, n4, n5⟩ := HBX.out wr HE6.out
                                    by_cases hlt3 : j < co.length
                                    case neg =>
                                      have HQX := Lib.hid (HK.out (show co = co2 from List.ext_getElem L5.out (fun i h1 h2 => HA2.out i h1 h2 (by omega))))
                                      have HEZ := Lib.hid (Ext.trans HE5.out HE6.out)
                                      go_wp2
                                      go_roundw
                                      case rel => exact ⟨k + 1, by omega, by go_num, HQX.out, HEZ.out⟩
                                      case measure => simp [intOf]; omega
                                    case pos =>
                                      have hlt4 : j < co2.length := L5.out ▸ hlt3
                                      obtain ⟨b3, o3, aa, ac, ha3, hc3, hi3, hl3⟩ := HI1.out wr (Ext.trans HX5.out HE6.out) j hlt3
                                      obtain ⟨b4, o4, ba, bc, ha4, hc4, hi4, hl4⟩ := HI2.out wr (Ext.trans HX5.out HE6.out) j hlt4
                                      subst ha3 ha4
                                      have hw3 := HF1.out _ (List.getElem_mem hlt3)
                                      have hw4 := HF2.out _ (List.getElem_mem hlt4)
                                      have HEQ := Lib.hid (ins_beq co[j] co2[j])
                                      obtain ⟨r2, hr2⟩ : ∃ r2, ((co[j]).op == (co2[j]).op && ((co[j]).a == (co2[j]).a && ((co[j]).b == (co2[j]).b && ((co[j]).c == (co2[j]).c && ((co[j]).args == (co2[j]).args))))) = r2 := ⟨_, rfl⟩
                                      have KS := Lib.hid (fun W (hW : Ext wr W) => show Gives Tryd.prog 57 #[IV co[j] aa ac, IV co2[j] ba bc] W (.bool r2) from by
                                        have h := sameIns_any co[j] co2[j] aa ba ac bc W (hi3.below hW) (hi4.below hW) hw3.len hw4.len
                                        rw [hr2] at h
                                        exact h)
                                      have HTF := Lib.hid (fun (h : r2 = false) => show r = false from HJ.out (fun e => by
                                        have h2 := HEQ.out.2 (by subst e; rfl)
                                        rw [hr2, h] at h2
                                        cases h2))
                                      have HTT := Lib.hid (fun (h : r2 = true) => show ∀ i (h1 : i < co.length) (h2 : i < co2.length), i < j + 1 → co[i] = co2[i] from fun i h1 h2 hi => by
                                        rcases Nat.lt_succ_iff_lt_or_eq.1 hi with h3 | h3
                                        · exact HA2.out i h1 h2 h3
                                        · subst h3; exact HEQ.out.1 (hr2.trans h))
                                      clear hr2 hi3 hi4 hl3 hl4 hw3 hw4 HEQ
                                      obtain ⟨v0, v1, v2, v3, v4⟩ := hc3
                                      obtain ⟨z0, z1, z2, z3, z4⟩ := hc4
                                      generalize co[j] = y at *
                                      generalize co2[j] = z at *
                                      dsimp only [IV] at KS
                                      go_wp2_with fail
                                      have um5 := fun U : Up _ => Up.cell m5 U
                                      have un5 := fun U : Up _ => Up.cell n5 U
                                      have uv0 := fun U : Up _ => Up.cell v0 U
                                      have uv1 := fun U : Up _ => Up.cell v1 U
                                      have uv2 := fun U : Up _ => Up.cell v2 U
                                      have uv3 := fun U : Up _ => Up.cell v3 U
                                      have uv4 := fun U : Up _ => Up.cell v4 U
                                      have uz0 := fun U : Up _ => Up.cell z0 U
                                      have uz1 := fun U : Up _ => Up.cell z1 U
                                      have uz2 := fun U : Up _ => Up.cell z2 U
                                      have uz3 := fun U : Up _ => Up.cell z3 U
                                      have uz4 := fun U : Up _ => Up.cell z4 U
                                      refine wp_region_up (by kernel_rfl) (by kernel_rfl) ?_
                                      repeat (go_big_quiet_step (first | (go_at_call 57; refine Up.callE (fun W hW => KS.out W hW) ?_; with_reducible rfl)))
                                      refine wpQuiet_nil ?_
                                      rintro _ ⟨U, rfl⟩
                                      have HE7 := Lib.hid (Ext.trans HE6.out U.ext)
                                      generalize U.W = w6 at *
                                      clear um5 m5 un5 n5 uv0 v0 uv1 v1 uv2 v2 uv3 v3 uv4 v4 uz0 z0 uz1 z1 uz2 z2 uz3 z3 uz4 z4 m0 m1 m2 m3 m4 n0 n1 n2 n3 n4
                                      cases r2 with
                                      | true =>
                                        go_wp2
                                        go_roundw
                                        case rel => exact ⟨j + 1, by omega, by go_num, HTT.out rfl, HE7.out⟩
                                        case measure => simp [intOf]; omega
                                      | false =>
                                        have HV := Lib.hid (HTF.out rfl)
                                        go_wp2
                                        go_ret
                                        exact ⟨by rw [HV.out]; rfl, Ext.trans HW.out (Ext.trans HE5.out HE7.out)⟩

end Go.Proofs.YtfkjokbhnblndaaDoor

namespace Go.Proofs.YtfkjokbhnblndaaDoor
open Go.RowKit
set_option linter.unusedVariables false
set_option linter.unusedSimpArgs false

/-- lists of blocks that end in a mark are told apart by what they make together -/
theorem flat_inj {α : Type} (E : α → Prop) : ∀ (L M : List (List α)), (∀ b ∈ L, ∃ s e, b = s ++ [e] ∧ E e ∧ ∀ x ∈ s, ¬ E x) → (∀ b ∈ M, ∃ s e, b = s ++ [e] ∧ E e ∧ ∀ x ∈ s, ¬ E x) → L.flatten = M.flatten → L = M
  | [], [], _, _, _ => rfl
  | [], b :: M, _, hM, h => by
    obtain ⟨s, e, rfl, _⟩ := hM b (by simp)
    simp at h
  | b :: L, [], hL, _, h => by
    obtain ⟨s, e, rfl, _⟩ := hL b (by simp)
    simp at h
  | b :: L, c :: M, hL, hM, h => by
    obtain ⟨s, e, rfl, he, hs⟩ := hL b (by simp)
    obtain ⟨t, d, rfl, hd, ht⟩ := hM c (by simp)
    have key : ∀ (s t : List α) (X Y : List α), (∀ x ∈ s, ¬ E x) → (∀ x ∈ t, ¬ E x) → s ++ e :: X = t ++ d :: Y → s = t ∧ e = d ∧ X = Y := by
      intro s
      induction s with
      | nil =>
        intro t X Y hs ht h
        cases t with
        | nil => simpa using h
        | cons y t =>
          simp only [List.nil_append, List.cons_append, List.cons.injEq] at h
          exact absurd (h.1 ▸ he) (ht y (by simp))
      | cons x s ih =>
        intro t X Y hs ht h
        cases t with
        | nil =>
          simp only [List.nil_append, List.cons_append, List.cons.injEq] at h
          exact absurd (h.1 ▸ hd) (hs x (by simp))
        | cons y t =>
          simp only [List.cons_append, List.cons.injEq] at h
          obtain ⟨h1, h2, h3⟩ := ih t X Y (fun z hz => hs z (List.mem_cons_of_mem _ hz)) (fun z hz => ht z (List.mem_cons_of_mem _ hz)) h.2
          exact ⟨by rw [h.1, h1], h2, h3⟩
    simp only [List.flatten_cons, List.append_assoc, List.singleton_append] at h
    obtain ⟨h1, h2, h3⟩ := key s t _ _ hs ht h
    rw [h1, h2, flat_inj E L M (fun b hb => hL b (List.mem_cons_of_mem _ hb)) (fun b hb => hM b (List.mem_cons_of_mem _ hb)) h3]
/-- what a row of digits says -/
def decV (l : List UInt8) : Nat := l.foldl (fun a c => a * 10 + (c.toNat - 48)) 0
theorem decV_dec (u : Nat) : decV (Lib.decDigits u) = u := by
  induction u using Nat.strongRecOn with
  | _ u ih =>
    rw [Lib.decDigits]
    split
    · rename_i h
      have : (UInt8.ofNat (48 + u)).toNat = 48 + u := by simp [UInt8.toNat_ofNat']; omega
      simp only [decV, List.foldl_cons, List.foldl_nil, this]
      omega
    · rename_i h
      have h1 := ih (u / 10) (by omega)
      have : (UInt8.ofNat (48 + u % 10)).toNat = 48 + u % 10 := by simp [UInt8.toNat_ofNat']; omega
      unfold decV at h1 ⊢
      rw [List.foldl_append, h1]
      simp only [List.foldl_cons, List.foldl_nil, this]
      omega
theorem dec_dig (u : Nat) : ∀ c ∈ Lib.decDigits u, 48 ≤ c.toNat ∧ c.toNat ≤ 57 := by
  induction u using Nat.strongRecOn with
  | _ u ih =>
    rw [Lib.decDigits]
    split
    · rename_i h
      intro c hc
      have : (UInt8.ofNat (48 + u)).toNat = 48 + u := by simp [UInt8.toNat_ofNat']; omega
      rw [List.mem_singleton] at hc
      subst hc
      omega
    · rename_i h
      intro c hc
      rcases List.mem_append.1 hc with hc | hc
      · exact ih _ (by omega) c hc
      · have : (UInt8.ofNat (48 + u % 10)).toNat = 48 + u % 10 := by simp [UInt8.toNat_ofNat']; omega
        rw [List.mem_singleton] at hc
        subst hc
        omega
theorem dec_ne (u : Nat) : Lib.decDigits u ≠ [] := by
  rw [Lib.decDigits]
  split <;> simp
theorem dec_inj {u v : Nat} (h : Lib.decDigits u = Lib.decDigits v) : u = v := by
  rw [← decV_dec u, h, decV_dec]
theorem dec_no {u : Nat} {c : UInt8} (hc : c ∈ Lib.decDigits u) (k : UInt8) (hk : k.toNat < 48) : c ≠ k := fun e => by
  have := (dec_dig u c hc).1
  rw [e] at this
  omega
theorem itoa_inj {m n : Int} (h : Lib.itoa m = Lib.itoa n) : m = n := by
  unfold Lib.itoa at h
  have key : ∀ {u v : Nat}, 45 :: Lib.decDigits u ≠ Lib.decDigits v := fun {u v} e => by
    have : (45 : UInt8) ∈ Lib.decDigits v := by rw [← e]; simp
    exact dec_no this 45 (by decide) rfl
  split at h <;> split at h
  · have := dec_inj (List.cons.inj h).2
    omega
  · exact absurd h key
  · exact absurd h.symm key
  · have := dec_inj h
    omega
/-- a word's bytes: none of the two marks -/
def clean (l : List UInt8) : Prop := ∀ c ∈ l, ¬ (c = 32 ∨ c = 10)
theorem itoa_clean (n : Int) : clean (Lib.itoa n) := by
  intro c hc
  unfold Lib.itoa at hc
  split at hc
  · rcases List.mem_cons.1 hc with rfl | hc
    · decide
    · rintro (e | e)
      · exact dec_no hc 32 (by decide) e
      · exact dec_no hc 10 (by decide) e
  · rintro (e | e)
    · exact dec_no hc 32 (by decide) e
    · exact dec_no hc 10 (by decide) e
theorem isNm_clean {l : List UInt8} (h : isNm l = true) : clean l := by
  unfold isNm at h
  rw [Bool.and_eq_true] at h
  have key : ∀ n, okTo l n = true → ∀ j, j < n → okAt j (l.getD j 0) = true := by
    intro n
    induction n with
    | zero => intro _ j hj; omega
    | succ n ih =>
      intro h j hj
      simp only [okTo, Bool.and_eq_true] at h
      by_cases e : j = n
      · subst e; exact h.2
      · exact ih h.1 j (by omega)
  intro c hc
  obtain ⟨j, hj, rfl⟩ := List.getElem_of_mem hc
  have h1 := key _ h.2 j hj
  rw [show l.getD j 0 = l[j] by simp [List.getD, hj]] at h1
  unfold okAt letter other at h1
  rintro (e | e) <;> rw [e] at h1 <;> simp at h1
/-- the words of a line, each with the mark behind it -/
def blk : List (List UInt8) → List (List UInt8)
  | [] => []
  | [x] => [x ++ [10]]
  | x :: y :: xs => (x ++ [32]) :: blk (y :: xs)
theorem blk_line : ∀ (ws : List Wd), ws ≠ [] → (blk (ws.map Wd.txt)).flatten = lineB ws
  | [], h => absurd rfl h
  | [x], _ => by simp [blk, lineB, wdsB]
  | x :: y :: xs, _ => by
    have ih := blk_line (y :: xs) (by simp)
    simp only [List.map_cons] at ih
    simp only [List.map_cons, blk, List.flatten_cons, ih]
    simp [lineB, wdsB]
theorem blk_mark : ∀ (ws : List (List UInt8)), (∀ x ∈ ws, clean x) → ∀ b ∈ blk ws, ∃ s e, b = s ++ [e] ∧ (e = 32 ∨ e = 10) ∧ ∀ x ∈ s, ¬ (x = 32 ∨ x = 10)
  | [], _, b, hb => by cases hb
  | [x], h, b, hb => by
    rw [blk, List.mem_singleton] at hb
    exact ⟨x, 10, hb, .inr rfl, h x (by simp)⟩
  | x :: y :: xs, h, b, hb => by
    rw [blk, List.mem_cons] at hb
    rcases hb with rfl | hb
    · exact ⟨x, 32, rfl, .inl rfl, h x (by simp)⟩
    · exact blk_mark (y :: xs) (fun z hz => h z (List.mem_cons_of_mem _ hz)) b hb
/-- a block that ends a line -/
def ends (b : List UInt8) : Prop := b.getLast? = some 10
theorem blk_ends : ∀ (ws : List (List UInt8)), ws ≠ [] → ∃ s e, blk ws = s ++ [e] ∧ ends e ∧ ∀ x ∈ s, ¬ ends x
  | [], h => absurd rfl h
  | [x], _ => ⟨[], x ++ [10], rfl, by simp [ends], by simp⟩
  | x :: y :: xs, _ => by
    obtain ⟨s, e, h1, h2, h3⟩ := blk_ends (y :: xs) (by simp)
    refine ⟨(x ++ [32]) :: s, e, by rw [blk, h1]; rfl, h2, fun z hz => ?_⟩
    rcases List.mem_cons.1 hz with rfl | hz
    · simp [ends]
    · exact h3 z hz
theorem blk_inj : ∀ {xs ys : List (List UInt8)}, blk xs = blk ys → xs = ys
  | [], [], _ => rfl
  | [], [y], h => by simp [blk] at h
  | [], y :: z :: ys, h => by simp [blk] at h
  | [x], [], h => by simp [blk] at h
  | x :: z :: xs, [], h => by simp [blk] at h
  | [x], [y], h => by simpa [blk] using h
  | [x], y :: z :: ys, h => by
    simp only [blk, List.cons.injEq] at h
    have := congrArg List.getLast? h.1
    simp at this
  | x :: z :: xs, [y], h => by
    simp only [blk, List.cons.injEq] at h
    have := congrArg List.getLast? h.1
    simp at this
  | x :: z :: xs, y :: u :: ys, h => by
    simp only [blk, List.cons.injEq] at h
    have h1 : x = y := List.append_cancel_right h.1
    rw [h1, blk_inj h.2]
/-- lines of words are told apart by their text -/
theorem lines_inj (L M : List (List Wd)) (hL : ∀ ws ∈ L, ws ≠ [] ∧ ∀ x ∈ ws, clean x.txt) (hM : ∀ ws ∈ M, ws ≠ [] ∧ ∀ x ∈ ws, clean x.txt) (h : L.flatMap lineB = M.flatMap lineB) : L.map (List.map Wd.txt) = M.map (List.map Wd.txt) := by
  have flat : ∀ L : List (List Wd), (∀ ws ∈ L, ws ≠ [] ∧ ∀ x ∈ ws, clean x.txt) → L.flatMap lineB = (L.flatMap (fun ws => blk (ws.map Wd.txt))).flatten := by
    intro L hL
    induction L with
    | nil => rfl
    | cons ws L ih =>
      rw [List.flatMap_cons, List.flatMap_cons, List.flatten_append, ih (fun z hz => hL z (List.mem_cons_of_mem _ hz)), blk_line ws (hL ws (by simp)).1]
  rw [flat L hL, flat M hM] at h
  have mk : ∀ L : List (List Wd), (∀ ws ∈ L, ws ≠ [] ∧ ∀ x ∈ ws, clean x.txt) → ∀ b ∈ L.flatMap (fun ws => blk (ws.map Wd.txt)), ∃ s e, b = s ++ [e] ∧ (e = 32 ∨ e = 10) ∧ ∀ x ∈ s, ¬ (x = 32 ∨ x = 10) := by
    intro L hL b hb
    obtain ⟨ws, hws, hb⟩ := List.mem_flatMap.1 hb
    refine blk_mark _ (fun x hx => ?_) b hb
    obtain ⟨y, hy, rfl⟩ := List.mem_map.1 hx
    exact (hL ws hws).2 y hy
  have h1 := flat_inj (fun c : UInt8 => c = 32 ∨ c = 10) _ _ (mk L hL) (mk M hM) h
  have en : ∀ L : List (List Wd), (∀ ws ∈ L, ws ≠ [] ∧ ∀ x ∈ ws, clean x.txt) → ∀ b ∈ L.map (fun ws => blk (ws.map Wd.txt)), ∃ s e, b = s ++ [e] ∧ ends e ∧ ∀ x ∈ s, ¬ ends x := by
    intro L hL b hb
    obtain ⟨ws, hws, rfl⟩ := List.mem_map.1 hb
    exact blk_ends _ (by simpa using (hL ws hws).1)
  rw [List.flatMap_def, List.flatMap_def] at h1
  have h2 := flat_inj ends _ _ (en L hL) (en M hM) h1
  have h3 : (L.map (List.map Wd.txt)).map blk = (M.map (List.map Wd.txt)).map blk := by simpa [List.map_map, Function.comp_def] using h2
  exact (List.map_inj_right (fun _ _ e => blk_inj e)).1 h3
end Go.Proofs.YtfkjokbhnblndaaDoor

namespace Go.Proofs.YtfkjokbhnblndaaDoor
open Go.RowKit
set_option linter.unusedVariables false
set_option linter.unusedSimpArgs false

def fnL (f : Fn) : List (List Wd) := fnWd f :: (List.range f.code.length).map (fun k => insWd k (insAt f k))
/-- the lines of the listing -/
def linesP (p : Pg) : List (List Wd) := p.vs.map varWd ++ p.os.map obWd ++ p.fs.flatMap fnL
theorem catN_range (f : Nat → List UInt8) : ∀ n, catN f n = (List.range n).flatMap f
  | 0 => rfl
  | n + 1 => by rw [catN, catN_range f n, List.range_succ, List.flatMap_append]; simp
theorem catN_list {α : Type} (l : List α) (d : α) (g : α → List UInt8) : catN (fun i => g (l.getD i d)) l.length = l.flatMap g := by
  rw [catN_range]
  have : l = (List.range l.length).map (fun i => l.getD i d) := by
    apply List.ext_getElem
    · simp
    · intro i h1 h2
      simp [List.getD, h1]
  conv => rhs; rw [this]
  rw [List.flatMap_map]
theorem textP_lines (p : Pg) : textP p = (linesP p).flatMap lineB := by
  unfold textP linesP
  rw [List.flatMap_append, List.flatMap_append, List.flatMap_map, List.flatMap_map, List.flatMap_assoc]
  congr 1
  · congr 1
    · exact catN_list p.vs _ (fun v => lineB (varWd v))
    · exact catN_list p.os _ (fun v => lineB (obWd v))
  · have h := catN_list p.fs ⟨[], 0, 0, 0, false, []⟩ (fun f => lineB (fnWd f) ++ catN (insTxt f) f.code.length)
    refine (show catN (fnTxt p) p.fs.length = _ from h).trans ?_
    congr 1
    funext f
    rw [fnL, List.flatMap_cons, List.flatMap_map, catN_range]
    rfl
/-- the head of a line tells what it is -/
def clsH (w : List UInt8) : Nat :=
  if w = [118, 97, 114] ∨ w = [97, 116, 111, 109, 105, 99] then 0
  else if w ∈ kindL.tail then 1
  else if w = [102, 117, 110, 99] ∨ w = [99, 108, 101, 97, 110, 117, 112] then 2 else 3
def cls (l : List (List UInt8)) : Nat := clsH (l.headD [])
theorem cls_var (v : Va) : cls ((varWd v).map Wd.txt) = 0 := by
  unfold cls varWd
  cases v.atomic <;> rfl
theorem cls_fn (f : Fn) : cls ((fnWd f).map Wd.txt) = 2 := by
  unfold cls fnWd
  cases f.cl <;> rfl
theorem cls_ob {o : Ob} (h1 : 1 ≤ o.kind) (h2 : o.kind ≤ 9) : cls ((obWd o).map Wd.txt) = 1 := by
  obtain ⟨m, hm⟩ : ∃ m : Nat, o.kind = (m : Int) := ⟨o.kind.toNat, by omega⟩
  show clsH (kindNm o.kind) = 1
  rw [hm]
  have : ∀ m : Nat, m < 10 → 1 ≤ m → clsH (kindNm (m : Int)) = 1 := by decide
  exact this m (by omega) (by omega)
theorem cls_ins (k : Nat) (c : Ins) : cls ((insWd k c).map Wd.txt) = 3 := by
  show clsH (Lib.itoa (k : Int)) = 3
  rw [Lib.itoa_nonneg]
  obtain ⟨x, xs, hx⟩ := List.exists_cons_of_ne_nil (dec_ne k)
  have hd := dec_dig k x (by rw [hx]; simp)
  rw [hx]
  have key : ∀ c : UInt8, 97 ≤ c.toNat → x ≠ c := fun c hc e => by rw [e] at hd; omega
  unfold clsH
  rw [if_neg, if_neg, if_neg]
  · rintro (e | e)
    · exact key 102 (by decide) (List.cons.inj e).1
    · exact key 99 (by decide) (List.cons.inj e).1
  · intro e
    have : ∀ w ∈ kindL.tail, ∃ c cs, w = c :: cs ∧ 97 ≤ c.toNat := by
      intro w hw
      have : ∀ w ∈ kindL.tail, 97 ≤ (w.headD 0).toNat ∧ w ≠ [] := by decide
      obtain ⟨h1, h2⟩ := this w hw
      cases w with
      | nil => exact absurd rfl h2
      | cons c cs => exact ⟨c, cs, rfl, h1⟩
    obtain ⟨c, cs, h1, h2⟩ := this _ e
    exact key c h2 (List.cons.inj h1).1
  · rintro (e | e)
    · exact key 118 (by decide) (List.cons.inj e).1
    · exact key 97 (by decide) (List.cons.inj e).1
theorem opN_inj : ∀ a ∈ shTab, ∀ b ∈ shTab, opName a.1 = opName b.1 → a.1 = b.1 := by decide +kernel
theorem op_inj {a b : Int} {s t : Sh} (ha : shp a = some s) (hb : shp b = some t) (h : opName a = opName b) : a = b := opN_inj _ (shp_some _ _ ha) _ (shp_some _ _ hb) h
theorem opN_clean : ∀ a ∈ nameL, ∀ c ∈ a.2, ¬ (c = 32 ∨ c = 10) := by decide +kernel
theorem kind_clean : ∀ a ∈ kindL, ∀ c ∈ a, ¬ (c = 32 ∨ c = 10) := by decide +kernel
theorem opName_clean (k : Int) : clean (opName k) := by
  unfold opName
  cases h : nameL.find? (fun p => p.1 == k) with
  | none => intro c hc; cases hc
  | some q => exact opN_clean q (List.mem_of_find?_eq_some h)
theorem kindNm_clean (k : Int) : clean (kindNm k) := by
  unfold kindNm
  rw [List.getD_eq_getElem?_getD]
  cases h : kindL[k.toNat]? with
  | none => intro c hc; cases hc
  | some q => exact kind_clean q (List.mem_of_getElem? h)
theorem pick_clean {b : Bool} {x y : List UInt8} (hx : clean x) (hy : clean y) : clean (pick2 b x y) := by unfold pick2; split <;> assumption
theorem lines_ok {p : Pg} (h : Valid p) : ∀ ws ∈ linesP p, ws ≠ [] ∧ ∀ x ∈ ws, clean x.txt := by
  intro ws hws
  unfold linesP at hws
  rcases List.mem_append.1 hws with hws | hws
  · rcases List.mem_append.1 hws with hws | hws
    · obtain ⟨v, hv, rfl⟩ := List.mem_map.1 hws
      obtain ⟨i, hi, rfl⟩ := List.getElem_of_mem hv
      refine ⟨by simp [varWd], fun x hx => ?_⟩
      simp only [varWd, List.mem_cons, List.not_mem_nil, or_false] at hx
      rcases hx with rfl | rfl | rfl | rfl
      · exact pick_clean (by unfold clean; decide) (by unfold clean; decide)
      · exact isNm_clean (h.va hi).nm
      · show clean [61]; unfold clean; decide
      · exact itoa_clean _
    · obtain ⟨v, hv, rfl⟩ := List.mem_map.1 hws
      obtain ⟨i, hi, rfl⟩ := List.getElem_of_mem hv
      refine ⟨by simp [obWd], fun x hx => ?_⟩
      simp only [obWd, List.mem_cons, List.not_mem_nil, or_false] at hx
      rcases hx with rfl | rfl | rfl | rfl
      · exact kindNm_clean _
      · exact isNm_clean (h.ob hi).nm
      · exact itoa_clean _
      · exact itoa_clean _
  · obtain ⟨f, hf, hws⟩ := List.mem_flatMap.1 hws
    obtain ⟨i, hi, rfl⟩ := List.getElem_of_mem hf
    rw [fnL, List.mem_cons] at hws
    rcases hws with rfl | hws
    · refine ⟨by simp [fnWd], fun x hx => ?_⟩
      simp only [fnWd, List.mem_cons, List.not_mem_nil, or_false] at hx
      rcases hx with rfl | rfl | rfl | rfl | rfl
      · exact pick_clean (by unfold clean; decide) (by unfold clean; decide)
      · exact isNm_clean (h.fn hi).nm
      · exact itoa_clean _
      · exact itoa_clean _
      · exact itoa_clean _
    · obtain ⟨k, hk, rfl⟩ := List.mem_map.1 hws
      refine ⟨by simp [insWd], fun x hx => ?_⟩
      simp only [insWd, List.mem_append, List.mem_cons, List.not_mem_nil, or_false, List.mem_map] at hx
      rcases hx with (rfl | rfl | rfl | rfl | rfl) | ⟨n, hn, rfl⟩
      · exact itoa_clean _
      · exact opName_clean _
      · exact itoa_clean _
      · exact itoa_clean _
      · exact itoa_clean _
      · exact itoa_clean _
theorem map_inj_on {α β : Type} (f : α → β) : ∀ (l m : List α), (∀ x ∈ l, ∀ y ∈ m, f x = f y → x = y) → l.map f = m.map f → l = m
  | [], [], _, _ => rfl
  | [], y :: m, _, h => by cases h
  | x :: l, [], _, h => by cases h
  | x :: l, y :: m, hi, h => by
    simp only [List.map_cons, List.cons.injEq] at h
    rw [hi x (by simp) y (by simp) h.1, map_inj_on f l m (fun a ha b hb => hi a (List.mem_cons_of_mem _ ha) b (List.mem_cons_of_mem _ hb)) h.2]
end Go.Proofs.YtfkjokbhnblndaaDoor

namespace Go.Proofs.YtfkjokbhnblndaaDoor
open Go.RowKit
set_option linter.unusedVariables false
set_option linter.unusedSimpArgs false

theorem map_itoa_inj : ∀ {l m : List Int}, l.map Lib.itoa = m.map Lib.itoa → l = m := fun {l m} h => map_inj_on Lib.itoa l m (fun x _ y _ e => itoa_inj e) h
theorem ins_inj {k : Nat} {x y : Ins} {s t : Sh} (hx : shp x.op = some s) (hy : shp y.op = some t) (h : (insWd k x).map Wd.txt = (insWd k y).map Wd.txt) : x = y := by
  simp only [insWd, List.map_append, List.map_cons, List.map_nil, Wd.txt, List.map_map, List.cons_append, List.nil_append, List.cons.injEq, true_and] at h
  obtain ⟨h1, h2, h3, h4, h5⟩ := h
  have h5 : x.args.map Lib.itoa = y.args.map Lib.itoa := h5
  cases x; cases y
  simp only at h1 h2 h3 h4 h5 hx hy
  simp only [Ins.mk.injEq]
  exact ⟨op_inj hx hy h1, itoa_inj h2, itoa_inj h3, itoa_inj h4, map_itoa_inj h5⟩
def fnT (f : Fn) : List (List (List UInt8)) := (fnL f).map (List.map Wd.txt)
def Fn.ops (f : Fn) : Prop := ∀ x ∈ f.code, ∃ s, shp x.op = some s
theorem fnT_eq (f : Fn) : fnT f = (fnWd f).map Wd.txt :: (List.range f.code.length).map (fun k => (insWd k (insAt f k)).map Wd.txt) := by
  simp [fnT, fnL, List.map_map, Function.comp_def]
theorem pick_inj {b c : Bool} {x y : List UInt8} (hne : x ≠ y) (h : pick2 b x y = pick2 c x y) : b = c := by
  cases b <;> cases c <;> simp_all [pick2]
theorem fnT_inj {f g : Fn} (hf : f.ops) (hg : g.ops) (h : fnT f = fnT g) : f = g := by
  rw [fnT_eq, fnT_eq, List.cons.injEq] at h
  obtain ⟨h0, h1⟩ := h
  have hl : f.code.length = g.code.length := by simpa using congrArg List.length h1
  have hc : f.code = g.code := by
    apply List.ext_getElem hl
    intro k hk1 hk2
    have e : ((List.range f.code.length).map (fun k => (insWd k (insAt f k)).map Wd.txt))[k]? = ((List.range g.code.length).map (fun k => (insWd k (insAt g k)).map Wd.txt))[k]? := by rw [h1]
    simp only [List.getElem?_map, List.getElem?_range hk1, List.getElem?_range hk2, Option.map_some, Option.some.injEq] at e
    rw [insAt_eq hk1, insAt_eq hk2] at e
    obtain ⟨s, hs⟩ := hf _ (List.getElem_mem hk1)
    obtain ⟨t, ht⟩ := hg _ (List.getElem_mem hk2)
    exact ins_inj hs ht e
  simp only [fnWd, List.map_cons, List.map_nil, Wd.txt, List.cons.injEq, and_true] at h0
  obtain ⟨a1, a2, a3, a4, a5⟩ := h0
  cases f; cases g
  simp only at a1 a2 a3 a4 a5 hc
  simp only [Fn.mk.injEq]
  have b1 := pick_inj (by decide) a1
  have b3 := itoa_inj a3
  have b4 := itoa_inj a4
  have b5 := itoa_inj a5
  exact ⟨a2, b3, b4, b5, b1, hc⟩
theorem valid_ops {p : Pg} (h : Valid p) : ∀ f ∈ p.fs, f.ops := by
  intro f hf x hx
  obtain ⟨i, hi, rfl⟩ := List.getElem_of_mem hf
  obtain ⟨k, hk, rfl⟩ := List.getElem_of_mem hx
  obtain ⟨s, hs⟩ := (h.fn hi).ins hk
  exact ⟨s, hs.shp⟩
/-- the lines, by what they are -/
theorem lines_filter {p : Pg} (h : Valid p) :
    ((linesP p).map (List.map Wd.txt)).filter (fun l => cls l == 0) = p.vs.map (fun v => (varWd v).map Wd.txt) ∧
    ((linesP p).map (List.map Wd.txt)).filter (fun l => cls l == 1) = p.os.map (fun v => (obWd v).map Wd.txt) ∧
    ((linesP p).map (List.map Wd.txt)).filter (fun l => decide (2 ≤ cls l)) = p.fs.flatMap fnT := by
  have e : (linesP p).map (List.map Wd.txt) = p.vs.map (fun v => (varWd v).map Wd.txt) ++ p.os.map (fun v => (obWd v).map Wd.txt) ++ p.fs.flatMap fnT := by
    unfold linesP fnT
    simp [List.map_append, List.map_map, List.map_flatMap, Function.comp_def]
  have cv : ∀ l ∈ p.vs.map (fun v => (varWd v).map Wd.txt), cls l = 0 := by
    intro l hl
    obtain ⟨v, _, rfl⟩ := List.mem_map.1 hl
    exact cls_var v
  have co : ∀ l ∈ p.os.map (fun v => (obWd v).map Wd.txt), cls l = 1 := by
    intro l hl
    obtain ⟨v, hv, rfl⟩ := List.mem_map.1 hl
    obtain ⟨i, hi, rfl⟩ := List.getElem_of_mem hv
    exact cls_ob (h.ob hi).k1 (h.ob hi).k2
  have cf : ∀ l ∈ p.fs.flatMap fnT, 2 ≤ cls l := by
    intro l hl
    obtain ⟨f, hf, hl⟩ := List.mem_flatMap.1 hl
    rw [fnT_eq, List.mem_cons] at hl
    rcases hl with rfl | hl
    · rw [cls_fn]; decide
    · obtain ⟨k, _, rfl⟩ := List.mem_map.1 hl
      rw [cls_ins]; decide
  have all : ∀ (P : List (List UInt8) → Bool) (L : List (List (List UInt8))), (∀ l ∈ L, P l = true) → L.filter P = L := fun P L h => List.filter_eq_self.2 h
  have non : ∀ (P : List (List UInt8) → Bool) (L : List (List (List UInt8))), (∀ l ∈ L, P l = false) → L.filter P = [] := fun P L h => List.filter_eq_nil_iff.2 (fun l hl => by rw [h l hl]; decide)
  rw [e]
  simp only [List.filter_append]
  refine ⟨?_, ?_, ?_⟩
  · rw [all _ _ (fun l hl => by rw [cv l hl]; rfl), non _ (p.os.map _) (fun l hl => by rw [co l hl]; rfl), non _ (p.fs.flatMap fnT) (fun l hl => by have := cf l hl; rw [beq_eq_false_iff_ne]; omega)]
    simp
  · rw [all _ (p.os.map _) (fun l hl => by rw [co l hl]; rfl), non _ (p.vs.map _) (fun l hl => by rw [cv l hl]; rfl), non _ (p.fs.flatMap fnT) (fun l hl => by have := cf l hl; rw [beq_eq_false_iff_ne]; omega)]
    simp
  · rw [non _ (p.vs.map _) (fun l hl => by rw [cv l hl]; rfl), non _ (p.os.map _) (fun l hl => by rw [co l hl]; rfl), all _ (p.fs.flatMap fnT) (fun l hl => by simpa using cf l hl)]
    simp
theorem head_inj (L M : List (List (List (List UInt8)))) (hL : ∀ b ∈ L, ∃ e s, b = e :: s ∧ cls e = 2 ∧ ∀ x ∈ s, cls x ≠ 2) (hM : ∀ b ∈ M, ∃ e s, b = e :: s ∧ cls e = 2 ∧ ∀ x ∈ s, cls x ≠ 2) (h : L.flatten = M.flatten) : L = M := by
  have rv : ∀ L : List (List (List (List UInt8))), ((L.map List.reverse).reverse).flatten = L.flatten.reverse := by
    intro L
    rw [List.reverse_flatten]
  have h1 : ((L.map List.reverse).reverse).flatten = ((M.map List.reverse).reverse).flatten := by rw [rv, rv, h]
  have mk : ∀ L : List (List (List (List UInt8))), (∀ b ∈ L, ∃ e s, b = e :: s ∧ cls e = 2 ∧ ∀ x ∈ s, cls x ≠ 2) → ∀ b ∈ (L.map List.reverse).reverse, ∃ s e, b = s ++ [e] ∧ cls e = 2 ∧ ∀ x ∈ s, ¬ cls x = 2 := by
    intro L hL b hb
    obtain ⟨c, hc, rfl⟩ := List.mem_map.1 (List.mem_reverse.1 hb)
    obtain ⟨e, s, rfl, he, hs⟩ := hL c hc
    exact ⟨s.reverse, e, by simp, he, fun x hx => hs x (List.mem_reverse.1 hx)⟩
  have h2 := flat_inj (fun l => cls l = 2) _ _ (mk L hL) (mk M hM) h1
  have h3 := List.reverse_inj.1 h2
  exact map_inj_on List.reverse L M (fun x _ y _ e => List.reverse_inj.1 e) h3
/-- valid programs with one listing are one -/
theorem textP_inj {p q : Pg} (hp : Valid p) (hq : Valid q) (h : textP p = textP q) : p = q := by
  rw [textP_lines, textP_lines] at h
  have h1 := lines_inj _ _ (lines_ok hp) (lines_ok hq) h
  obtain ⟨p0, p1, p2⟩ := lines_filter hp
  obtain ⟨q0, q1, q2⟩ := lines_filter hq
  have e0 := p0.symm.trans (h1 ▸ q0)
  have e1 := p1.symm.trans (h1 ▸ q1)
  have e2 := p2.symm.trans (h1 ▸ q2)
  have v : p.vs = q.vs := map_inj_on _ _ _ (fun x _ y _ e => by
    simp only [varWd, List.map_cons, List.map_nil, Wd.txt, List.cons.injEq, and_true, true_and] at e
    obtain ⟨a, b, c⟩ := e
    cases x; cases y
    simp only at a b c
    rw [pick_inj (by decide) a, b, itoa_inj c]) e0
  have kk : ∀ m : Nat, m < 10 → ∀ n : Nat, n < 10 → kindNm (m : Int) = kindNm (n : Int) → m = n := by decide +kernel
  have o : p.os = q.os := map_inj_on _ _ _ (fun x hx y hy e => by
    obtain ⟨i, hi, rfl⟩ := List.getElem_of_mem hx
    obtain ⟨j, hj, rfl⟩ := List.getElem_of_mem hy
    have h1 := (hp.ob hi).k1; have h2 := (hp.ob hi).k2; have h3 := (hq.ob hj).k1; have h4 := (hq.ob hj).k2
    generalize p.os[i] = x at *
    generalize q.os[j] = y at *
    simp only [obWd, List.map_cons, List.map_nil, Wd.txt, List.cons.injEq, and_true] at e
    obtain ⟨a, b, c, d⟩ := e
    have hk : x.kind = y.kind := by
      have := kk x.kind.toNat (by omega) y.kind.toNat (by omega) (by rw [Int.toNat_of_nonneg (by omega), Int.toNat_of_nonneg (by omega)]; exact a)
      omega
    cases x; cases y
    simp only at hk b c d
    rw [hk, b, itoa_inj c, itoa_inj d]) e1
  have blk : ∀ fs : List Fn, ∀ b ∈ fs.map fnT, ∃ e s, b = e :: s ∧ cls e = 2 ∧ ∀ x ∈ s, cls x ≠ 2 := by
    intro fs b hb
    obtain ⟨f, _, rfl⟩ := List.mem_map.1 hb
    refine ⟨_, _, fnT_eq f, cls_fn f, fun x hx => ?_⟩
    obtain ⟨k, _, rfl⟩ := List.mem_map.1 hx
    rw [cls_ins]; decide
  have f : p.fs = q.fs := by
    rw [List.flatMap_def, List.flatMap_def] at e2
    have := head_inj _ _ (blk p.fs) (blk q.fs) e2
    exact map_inj_on fnT _ _ (fun x hx y hy e => fnT_inj (valid_ops hp x hx) (valid_ops hq y hy) e) this
  cases p; cases q
  simp only at v o f
  rw [v, o, f]
end Go.Proofs.YtfkjokbhnblndaaDoor

namespace Go.Proofs.YtfkjokbhnblndaaDoor
open Go.RowKit
set_option linter.unusedVariables false
set_option linter.unusedSimpArgs false

/-- the length of the listing in lines -/
def nLines (p : Pg) : Nat := p.vs.length + p.os.length + p.fs.length + (p.fs.map (fun f => f.code.length)).sum
theorem linesP_len (p : Pg) : (linesP p).length = nLines p := by
  unfold linesP nLines
  simp only [List.length_append, List.length_map, List.length_flatMap]
  have : ∀ fs : List Fn, (fs.map (fun f => (fnL f).length)).sum = fs.length + (fs.map (fun f => f.code.length)).sum := by
    intro fs
    induction fs with
    | nil => rfl
    | cons f fs ih =>
      simp only [List.map_cons, List.sum_cons, ih, List.length_cons]
      simp [fnL]
      omega
  rw [this]
  omega
theorem count_none {l : List UInt8} (h : clean l) : l.count 10 = 0 := List.count_eq_zero.2 fun hm => h 10 hm (.inr rfl)
theorem count_line {ws : List Wd} (h : ∀ x ∈ ws, clean x.txt) : (lineB ws).count 10 = 1 := by
  have h1 : (wdsB ws).count 10 = 0 := by
    apply List.count_eq_zero.2
    intro hm
    cases ws with
    | nil => cases hm
    | cons x xs =>
      rw [wdsB, List.mem_append, List.mem_flatMap] at hm
      rcases hm with hm | ⟨y, hy, hm⟩
      · exact h x (by simp) 10 hm (.inr rfl)
      · rcases List.mem_cons.1 hm with e | hm
        · exact absurd e (by decide)
        · exact h y (List.mem_cons_of_mem _ hy) 10 hm (.inr rfl)
  rw [lineB, List.count_append, h1]
  rfl
theorem count_lines (L : List (List Wd)) (h : ∀ ws ∈ L, ∀ x ∈ ws, clean x.txt) : (L.flatMap lineB).count 10 = L.length := by
  induction L with
  | nil => rfl
  | cons ws L ih =>
    rw [List.flatMap_cons, List.count_append, count_line (h ws (by simp)), ih (fun z hz => h z (List.mem_cons_of_mem _ hz)), List.length_cons]
    omega
theorem textP_count {p : Pg} (h : Valid p) : Lib.countByte (textP p) 10 = nLines p := by
  unfold Lib.countByte
  rw [textP_lines, count_lines _ (fun ws hws => (lines_ok h ws hws).2), linesP_len]
theorem flat_ends (L : List (List Wd)) (h : L ≠ []) : ∃ t, L.flatMap lineB = t ++ [10] := by
  obtain ⟨M, ws, rfl⟩ : ∃ M ws, L = M ++ [ws] := ⟨L.dropLast, L.getLast h, (List.dropLast_concat_getLast h).symm⟩
  refine ⟨M.flatMap lineB ++ wdsB ws, ?_⟩
  simp [lineB]
theorem textP_suffix {p : Pg} (h : Valid p) : Lib.hasSuffix (textP p) [10] = true := by
  have h1 := h.f1
  obtain ⟨t, ht⟩ := flat_ends (linesP p) (by
    intro e
    have := linesP_len p
    rw [e] at this
    unfold nLines at this
    simp only [List.length_nil] at this
    omega)
  unfold Lib.hasSuffix
  rw [textP_lines, ht]
  simp
end Go.Proofs.YtfkjokbhnblndaaDoor

namespace Go.Proofs.YtfkjokbhnblndaaDoor
open Go.RowKit Go.Shelf
set_option linter.unusedVariables false
set_option linter.unusedSimpArgs false

def cutL (p : Pg) (k : Nat) : Nat := p.vs.length + p.os.length + p.fs.length + ((p.fs.take k).map (fun f => f.code.length)).sum
theorem cutL_succ {p : Pg} {k : Nat} (h : k < p.fs.length) : cutL p (k + 1) = cutL p k + (p.fs[k]).code.length := by
  unfold cutL
  rw [List.take_succ_eq_append_getElem h, List.map_append, List.sum_append]
  simp
  omega
theorem cutL_le {p : Pg} (h : Valid p) : ∀ k, k ≤ p.fs.length → cutL p k ≤ 64 + k * 200
  | 0, _ => by have h1 := h.f2; have h2 := h.o2; have h3 := h.v2; unfold cutL; simp; omega
  | k + 1, hk => by
    have h1 := cutL_le h k (by omega)
    have h2 := (h.fn (show k < p.fs.length by omega)).len
    rw [cutL_succ (by omega)]
    omega
theorem cutL_all (p : Pg) : cutL p p.fs.length = nLines p := by
  unfold cutL nLines
  rw [List.take_length]
theorem textP_le {p : Pg} (hw : p.wf) (h : Valid p) : (textP p).length ≤ 5000000 := by
  have h1 := vaCat_le hw h _ (Nat.le_refl _)
  have h2 := obCat_le hw h _ (Nat.le_refl _)
  have h3 := fnCat_le hw h _ (Nat.le_refl _)
  unfold textP
  rw [List.length_append, List.length_append]
  omega

set_option maxRecDepth 100000 in
set_option maxHeartbeats 4000000 in
theorem programListing_walk (p : Pg) (A : PA) (q : Pg) (B : PA) (w : World) (hp : PgAt w p A) (hq : PgAt w q B) (hT : TabW w) : Gives Tryd.prog 5 #[PV p A, PV q B] w (.bool true) := by
  unfold Gives
  obtain ⟨r, hr⟩ : ∃ r : Bool, (r = true ↔ p = q) := by
    by_cases h : p = q
    · exact ⟨true, by simp [h]⟩
    · exact ⟨false, by simp [h]⟩
  have KG := Lib.hid (fun W (hW : Ext w W) => Great_any p A W (hp.ext hW))
  have KH := Lib.hid (fun W (hW : Ext w W) => Great_any q B W (hq.ext hW))
  have KC := Lib.hid (fun W (hW : Ext w W) => Check_any p A W (hp.ext hW))
  have KT := Lib.hid (fun W (hW : Ext w W) => Text_any p A W (hp.ext hW) (hT.below hW))
  have KU := Lib.hid (fun W (hW : Ext w W) => Text_any q B W (hq.ext hW) (hT.below hW))
  have KS := Lib.hid (fun W (hW : Ext w W) => sameP_any p q A B W (hp.ext hW) (hq.ext hW) r hr)
  have KA := Lib.hid (fun W (hW : Ext w W) => awake_any W (hT.below hW))
  have HR := Lib.hid hr
  have HP := Lib.hid (fun W (hW : Ext w W) => (hp.ext hW).fs)
  have HWF := Lib.hid hp.wf
  have hno := hp.wf.no
  have hnv := hp.wf.nv
  have hnf := hp.wf.nf
  obtain ⟨ck, hck⟩ : ∃ c, ckPg p = c := ⟨_, rfl⟩
  have hpt : textR p = if ck = 0 then (textP p, 0) else ([], ck) := by unfold textR; rw [hck]
  have hqt : textR q = if ckPg q = 0 then (textP q, 0) else ([], ckPg q) := rfl
  have HV := Lib.hid (fun (h : ck = 0) => valid_iff.1 (hck.trans h))
  have HVQ := Lib.hid (fun (h : ckPg q = 0) => valid_iff.1 h)
  rw [hck] at KC
  clear hck
  generalize ckPg q = cq at *
  have HPT := Lib.hid hpt
  have HQT := Lib.hid hqt
  clear hpt hqt
  generalize textR p = TP at *
  generalize textR q = TQ at *
  obtain ⟨s1, e1⟩ := TP
  obtain ⟨s2, e2⟩ := TQ
  dsimp only at KT KU
  clear hp hq hT hr
  obtain ⟨fa, fc, oa, oc, va, vc⟩ := A
  obtain ⟨fa2, fc2, oa2, oc2, va2, vc2⟩ := B
  dsimp only [PV] at KG KH KC KT KU KS HP ⊢
  obtain ⟨wk, hwk⟩ : ∃ W, W = ((w.alloc (.cells #[.slice fa p.fs.length fc, .slice oa p.os.length oc, .slice va p.vs.length vc] 26)).alloc (.cells #[.slice fa2 q.fs.length fc2, .slice oa2 q.os.length oc2, .slice va2 q.vs.length vc2] 26)) := ⟨_, rfl⟩
  have BX := Lib.hid (show ∀ W, Ext wk W → (W.cell? ⟨w.heap.size, 0, none⟩ = some (.slice fa p.fs.length fc) ∧ W.cell? ⟨w.heap.size, 1, none⟩ = some (.slice oa p.os.length oc) ∧ W.cell? ⟨w.heap.size, 2, none⟩ = some (.slice va p.vs.length vc) ∧ W.cell? ⟨w.heap.size + 1, 0, none⟩ = some (.slice fa2 q.fs.length fc2) ∧ W.cell? ⟨w.heap.size + 1, 1, none⟩ = some (.slice oa2 q.os.length oc2) ∧ W.cell? ⟨w.heap.size + 1, 2, none⟩ = some (.slice va2 q.vs.length vc2)) from fun W hW => by
    subst hwk
    have h0 := alloc_here w (.cells #[.slice fa p.fs.length fc, .slice oa p.os.length oc, .slice va p.vs.length vc] 26)
    have h0 := (Below.heap_alloc _ (.cells #[.slice fa2 q.fs.length fc2, .slice oa2 q.os.length oc2, .slice va2 q.vs.length vc2] 26) _ (lt_of_block h0)).trans h0
    have k0 := (hW.below.block _ (lt_of_block h0)).trans h0
    have h1 := alloc_here (w.alloc (.cells #[.slice fa p.fs.length fc, .slice oa p.os.length oc, .slice va p.vs.length vc] 26)) (.cells #[.slice fa2 q.fs.length fc2, .slice oa2 q.os.length oc2, .slice va2 q.vs.length vc2] 26)
    simp only [World.size_alloc] at h1
    have k1 := (hW.below.block _ (lt_of_block h1)).trans h1
    exact ⟨cell_of k0 rfl, cell_of k0 rfl, cell_of k0 rfl, cell_of k1 rfl, cell_of k1 rfl, cell_of k1 rfl⟩)
  have HWZ := Lib.hid (show wk.heap.size = w.heap.size + 2 by rw [hwk]; simp)
  have HW := Lib.hid (show Ext w wk by rw [hwk]; exact (ext_alloc (ext_alloc (Below.refl _ _) _) _))
  have HE0 := Lib.hid (show Ext wk wk from Below.refl _ _)
  go_enter Tryd.func5, Tryd.ntmps5
  go_wp2_with fail
  rw [← hwk]
  clear hwk
  refine Calls.mono (KG.out _ HW.out) ?_
  rintro _ w1 ⟨b, rfl, hE⟩
  have HE1 := Lib.hid (Ext.trans HE0.out hE)
  have HX1 := Lib.hid (Ext.trans HW.out HE1.out)
  clear hE
  obtain ⟨d0_0, d0_1, d0_2, d1_0, d1_1, d1_2⟩ := BX.out _ HE1.out
  cases b with
  | true =>
    go_wp2_with fail
    refine (KA.out _ HX1.out).mono ?_
    intro wz hBz
    have HEz := Lib.hid (Ext.trans HX1.out hBz)
    clear hBz
    go_wp2
    go_ret
    exact ⟨rfl, HEz.out⟩
  | false =>
    go_wp2_with fail
    clear d0_0 d0_1 d0_2 d1_0 d1_1 d1_2
    refine Calls.mono (KH.out _ HX1.out) ?_
    rintro _ w2 ⟨b, rfl, hE⟩
    have HE2 := Lib.hid (Ext.trans HE1.out hE)
    have HX2 := Lib.hid (Ext.trans HW.out HE2.out)
    clear hE
    obtain ⟨d0_0, d0_1, d0_2, d1_0, d1_1, d1_2⟩ := BX.out _ HE2.out
    cases b with
    | true =>
      go_wp2_with fail
      refine (KA.out _ HX2.out).mono ?_
      intro wz hBz
      have HEz := Lib.hid (Ext.trans HX2.out hBz)
      clear hBz
      go_wp2
      go_ret
      exact ⟨rfl, HEz.out⟩
    | false =>
      go_wp2_with fail
      clear d0_0 d0_1 d0_2 d1_0 d1_1 d1_2
      refine (KT.out _ HX2.out).mono ?_
      intro w3 hE
      have HE3 := Lib.hid (Ext.trans HE2.out hE)
      have HX3 := Lib.hid (Ext.trans HW.out HE3.out)
      clear hE
      obtain ⟨d0_0, d0_1, d0_2, d1_0, d1_1, d1_2⟩ := BX.out _ HE3.out
      go_wp2_with fail
      clear d0_0 d0_1 d0_2 d1_0 d1_1 d1_2
      refine (KU.out _ HX3.out).mono ?_
      intro w4 hE
      have HE4 := Lib.hid (Ext.trans HE3.out hE)
      have HX4 := Lib.hid (Ext.trans HW.out HE4.out)
      clear hE
      obtain ⟨d0_0, d0_1, d0_2, d1_0, d1_1, d1_2⟩ := BX.out _ HE4.out
      by_cases hc : ck = 0
      case neg =>
        obtain ⟨rfl, rfl⟩ : s1 = [] ∧ e1 = ck := by have := HPT.out; rw [if_neg hc] at this; exact Prod.mk.inj this
        have hcb : (e1 != 0) = true := bne_iff_ne.2 hc
        go_wp2_with fail
        clear d0_0 d0_1 d0_2 d1_0 d1_1 d1_2
        refine (KC.out _ HX4.out).mono ?_
        intro w5 hE
        have HE5 := Lib.hid (Ext.trans HE4.out hE)
        have HX5 := Lib.hid (Ext.trans HW.out HE5.out)
        clear hE
        obtain ⟨d0_0, d0_1, d0_2, d1_0, d1_1, d1_2⟩ := BX.out _ HE5.out
        go_wp2_with fail
        refine (KA.out _ HX5.out).mono ?_
        intro wz hBz
        have HEz := Lib.hid (Ext.trans HX5.out hBz)
        clear hBz
        go_wp2
        go_ret
        exact ⟨rfl, HEz.out⟩
      case pos =>
        have HVP := Lib.hid (HV.out hc)
        obtain ⟨rfl, rfl⟩ : s1 = textP p ∧ e1 = 0 := by have := HPT.out; rw [if_pos hc] at this; exact Prod.mk.inj this
        have hb1 := HVP.out.f2
        have hb2 := HVP.out.o2
        have hb3 := HVP.out.v2
        have HLP := Lib.hid (textP_le HWF.out HVP.out)
        have HCO := Lib.hid (textP_count HVP.out)
        have HSU := Lib.hid (textP_suffix HVP.out)
        have HIN := Lib.hid (fun (h : cq = 0) (e : textP p = textP q) => textP_inj HVP.out (HVQ.out h) e)
        obtain ⟨tp, htp⟩ : ∃ t, textP p = t := ⟨_, rfl⟩
        rw [htp] at HLP HCO HSU
        rw [htp]
        have HTP := Lib.hid htp
        clear htp
        have HCB := Lib.hid (fun k hk => cutL_le HVP.out k hk)
        have HCS := Lib.hid (fun k (hk : k < p.fs.length) => cutL_succ hk)
        have HCA := Lib.hid (cutL_all p)
        have HC0 := Lib.hid (show p.vs.length + p.os.length + p.fs.length = cutL p 0 from by unfold cutL; simp)
        go_wp2_with fail
        clear d0_0 d0_1 d0_2 d1_0 d1_1 d1_2
        go_loopw [9, 56] (fun n i wr => ∃ k : Nat, k ≤ p.fs.length ∧ n = .int .i64 (cutL p k : Int) ∧ i = .int .i64 (k : Int) ∧ Ext wk wr) (fun _ i _ => p.fs.length - (intOf i).toNat)
        case atStart => exact ⟨0, Nat.zero_le _, by rw [← HC0.out]; simp, rfl, HE4.out⟩
        case round =>
          obtain ⟨k, hk, rfl, rfl, hE⟩ := hrel
          have HE := Lib.hid hE
          clear hE
          obtain ⟨d0_0, d0_1, d0_2, d1_0, d1_1, d1_2⟩ := BX.out wr HE.out
          by_cases hlt : k < p.fs.length
          case pos =>
            obtain ⟨b0, off, ca, cc, hfa, hcs, hir⟩ := HP.out wr (Ext.trans HW.out HE.out) k hlt
            try dsimp only at hfa
            subst hfa
            obtain ⟨c0, c1, c2, c3, c4, c5⟩ := hcs
            have hb0 := cell_lt2 c0
            dsimp only at hb0
            have hq1 := HCB.out (k + 1) hlt
            have HN := Lib.hid (HCS.out k hlt)
            rw [HCS.out k hlt] at hq1
            generalize p.fs[k] = f at *
            obtain ⟨N, hN⟩ : ∃ n, cutL p k = n := ⟨_, rfl⟩
            rw [hN] at hq1 HN
            rw [hN]
            clear hN
            have HEA := Lib.hid (fun o => (show Ext wk (wr.alloc o) from ext_alloc HE.out o))
            go_wp2_with fail
            go_roundw
            case rel => exact ⟨k + 1, by omega, by rw [HN.out]; go_num, by go_num, HEA.out _⟩
            case measure => simp [intOf]; omega
          case neg =>
            obtain rfl : k = p.fs.length := by omega
            rw [HCA.out]
            have hn5 := HLP.out
            go_wp2_with fail
            refine Calls.mono (Tryd.strings_Count_one (sB tp) 10 _) ?_
            rintro _ w5 ⟨rfl, hw5⟩
            rw [hw5]
            clear hw5 w5
            rw [sB_data, HCO.out]
            obtain ⟨d0_0, d0_1, d0_2, d1_0, d1_1, d1_2⟩ := BX.out wr HE.out
            go_wp2_with fail
            refine Calls.mono (Tryd.strings_HasSuffix (sB tp) ⟨#[10]⟩ _ (by rw [sB_size]; omega)) ?_
            rintro _ w5 ⟨rfl, hw5⟩
            rw [hw5]
            clear hw5 w5
            rw [sB_data, show (ByteArray.mk #[10]).data.toList = [10] from rfl, HSU.out]
            have HX5 := Lib.hid (Ext.trans HW.out HE.out)
            by_cases hq0 : cq = 0
            case neg =>
              obtain ⟨rfl, rfl⟩ : s2 = [] ∧ e2 = cq := by have := HQT.out; rw [if_neg hq0] at this; exact Prod.mk.inj this
              have hcb : (e2 != 0) = true := bne_iff_ne.2 hq0
              go_wp2_with fail
              refine (KA.out _ HX5.out).mono ?_
              intro wz hBz
              have HEz := Lib.hid (Ext.trans HX5.out hBz)
              clear hBz
              go_wp2
              go_ret
              exact ⟨rfl, HEz.out⟩
            case pos =>
              obtain ⟨rfl, rfl⟩ : s2 = textP q ∧ e2 = 0 := by have := HQT.out; rw [if_pos hq0] at this; exact Prod.mk.inj this
              cases r with
              | true =>
                have hpq := HR.out.1 rfl
                obtain rfl : textP q = tp := by rw [← hpq]; exact HTP.out
                clear hpq
                obtain ⟨tq, htq⟩ : ∃ t, textP q = t := ⟨_, rfl⟩
                rw [htq]
                clear htq
                go_wp2_with fail
                refine (KS.out _ HX5.out).mono ?_
                intro w6 hE
                have HX6 := Lib.hid (Ext.trans HX5.out hE)
                clear hE
                go_wp2_with fail
                refine (KA.out _ HX6.out).mono ?_
                intro wz hBz
                have HEz := Lib.hid (Ext.trans HX6.out hBz)
                clear hBz
                go_wp2
                go_ret
                exact ⟨rfl, HEz.out⟩
              | false =>
                obtain ⟨tq, htq⟩ : ∃ t, textP q = t := ⟨_, rfl⟩
                have hne : (tp == tq) = false := beq_eq_false_iff_ne.2 (fun e => absurd (HR.out.2 (HIN.out hq0 (HTP.out.trans (e.trans htq.symm)))) (by decide))
                rw [htq]
                clear htq
                go_wp2_with fail
                refine (KS.out _ HX5.out).mono ?_
                intro w6 hE
                have HX6 := Lib.hid (Ext.trans HX5.out hE)
                clear hE
                go_wp2_with fail
                refine (KA.out _ HX6.out).mono ?_
                intro wz hBz
                have HEz := Lib.hid (Ext.trans HX6.out hBz)
                clear hBz
                go_wp2
                go_ret
                exact ⟨rfl, HEz.out⟩

end Go.Proofs.YtfkjokbhnblndaaDoor

namespace Go.Proofs.YtfkjokbhnblndaaDoor.programListing
open Go.ChangeShapes Go.WideShapes Go.ChangeAt Go.RowKit
open Go.ChangeMaps (open_string shut_string)
set_option linter.unusedVariables false

theorem own : ownKnob Tryd.prog.godebug = none := by kernel_rfl
theorem laidOut : laidOutB Tryd.prog = true := by kernel_rfl
/-- the cells of a datum of plain values -/
def flat : Nat → DataW Unit → List Value
  | _, .lit l => [l.value]
  | n + 1, .agg ps => ps.flatMap (flat n)
  | _, _ => []
/-- a world for the witness: the settled one, the listed tables holding what the text lays -/
def lay (d : DataW Unit) : Obj → Obj
  | .cells _ t frozen => .cells (flat 4 d).toArray t frozen
  | o => o
noncomputable def laidWorld (os : Os) : World :=
  { World.holding Tryd.prog os ⟨#[], #[], []⟩ with heap := ((((World.holding Tryd.prog os ⟨#[], #[], []⟩).heap.modify 2 (lay Rows.laid_math_bits_deBruijn32tab)).modify 3 (lay Rows.laid_math_bits_deBruijn64tab)).modify 1 (lay Rows.laid_internal_strconv_uint64pow10)) }
theorem laid_met (os : Os) : laidMet Tryd.prog Rows.programListingRow.laid ((laidWorld os).forCall (fun _ _ => 0) ⟨#[], #[.agg #[.slice none 0 0, .slice none 0 0, .slice none 0 0], .agg #[.slice none 0 0, .slice none 0 0, .slice none 0 0]], []⟩).memory :=
  laidMet_of_run' 8 (by kernel_rfl) (by kernel_rfl)
theorem reads (os : Os) {H : Type} (enc : TypeId × Value → H) : ∃ places, DataW.whole enc Tryd.prog ((laidWorld os).forCall (fun _ _ => 0) ⟨#[], #[.agg #[.slice none 0 0, .slice none 0 0, .slice none 0 0], .agg #[.slice none 0 0, .slice none 0 0, .slice none 0 0]], []⟩).memory Tryd.f5.params.toList Rows.programListingSpec.vars false (#[.agg #[.slice none 0 0, .slice none 0 0, .slice none 0 0], .agg #[.slice none 0 0, .slice none 0 0, .slice none 0 0]] : Array Value).toList 8 = some ([.agg [.nil, .nil, .nil], .agg [.nil, .nil, .nil]], [], places) :=
  ⟨[], by kernel_rfl⟩
theorem tab (W : World) (h : laidMetH Tryd.prog Rows.programListingRow.laid W) : TabW W := by
  have h1 : laidMet Tryd.prog Rows.programListingRow.laid W := h
  exact Lib.tabIs_of_head (g := 1) (t := 161) (e := 149) (n := 20) (by kernel_rfl) (by kernel_rfl) Tryd.underlying161 Tryd.underlying149 (by kernel_rfl) (by kernel_rfl) h1.tail.tail
set_option maxRecDepth 100000 in
set_option maxHeartbeats 4000000 in
theorem contract (H : Type) (enc : TypeId × Value → H) (W : World) (base : Nat) (args : Array Value) (ds gs : List (DataW H)) (before : List MemPlace)
    (hval0 : ∀ (j : Nat) t v, Tryd.f5.params[j]? = some t → args[j]? = some v → Value.okWide Tryd.prog W .any base t v)
    (hW : DataW.Whole enc Tryd.prog Tryd.f5.params.toList Rows.programListingSpec.vars false W args.toList ds gs before) (hz : (DataW.weightsEach Tryd.prog (Tryd.f5.params.toList ++ (OpenSpec.ofChange Rows.programListingSpec).bare.plain.varTypes Tryd.prog) (ds ++ gs)).all (· ≤ reachBytes) = true) (hL : laidMetH Tryd.prog Rows.programListingRow.laid W) :
    Calls Tryd.prog 5 args W fun e W' => ∃ v, e = .returned v ∧ Rows.programListingSpec.post enc Tryd.prog Tryd.f5 false true false false W args v W' := by
  have hval := hval0
  have hW' := hW
  obtain ⟨p, q, hA0, hV, rfl, hfz, hnd⟩ := hW
  have hA : DataW.TrodAll enc Tryd.prog W 0 (fun _ => true) true Tryd.f5.params.toList args.toList ds p := hA0
  rw [Tryd.params5] at hA hval
  obtain ⟨v0, vs0, d0, ds0, p0, q0, hargs, rfl, rfl, h0, r0⟩ := trodAll_cons hA
  obtain ⟨v1, vs1, d1, ds1, p1, q1, rfl, rfl, rfl, h1, r1⟩ := trodAll_cons r0
  obtain ⟨rfl, rfl, rfl⟩ := trodAll_nil r1
  obtain rfl : args = #[v0, v1] := by cases args; simp_all
  obtain ⟨rfl, rfl⟩ := trodVars_none hV
  have k0 := h0
  have lt0 : ∀ x ∈ p0, x.block < W.heap.size := by obtain ⟨m, hm⟩ := k0; exact DataW.trod_lt m _ _ _ hm
  obtain ⟨e0, ae0, rfl, w0⟩ := open_pg (hval 0 26 v0 rfl rfl) h0 (fun n hn => by have := List.all_eq_true.1 hz n (DataW.weights_mem_each (j := 0) rfl rfl n hn); simpa using this)
  have k1 := h1
  have lt1 : ∀ x ∈ p1, x.block < W.heap.size := by obtain ⟨m, hm⟩ := k1; exact DataW.trod_lt m _ _ _ hm
  obtain ⟨e1, ae1, rfl, w1⟩ := open_pg (hval 1 26 v1 rfl rfl) h1 (fun n hn => by have := List.all_eq_true.1 hz n (DataW.weights_mem_each (j := 1) rfl rfl n hn); simpa using this)
  clear hA0 hval0 hz
  refine (programListing_walk e0 ae0 e1 ae1 W w0 w1 (tab W hL)).mono fun W' bel => ?_
  exact ⟨_, rfl, _, _, _, [], _, [], hW', trodAll_mk1 (shut_bool Tryd.underlying4 _), (trodAll_cons_mk (Below.trod laidOut (by kernel_rfl) (of_decide_eq_true (by kernel_rfl)) k0 bel lt0) (trodAll_cons_mk (Below.trod laidOut (by kernel_rfl) (of_decide_eq_true (by kernel_rfl)) k1 bel lt1) trodAll_mk0)), rfl, bel.frame _, fun h => by cases h⟩

set_option maxRecDepth 100000 in
theorem lifted (os : Os) (started : os.Started) (H : Type) (enc : TypeId × Value → H) (F : Stop.Interp) :
    ReturnsInHanded {} Tryd.checked os 5 .any ((OpenSpec.ofChange Rows.programListingSpec).preRow enc Tryd.prog Tryd.f5 Rows.programListingRow.domain false Rows.programListingRow.laid) (((OpenSpec.ofChange Rows.programListingSpec).at F).post enc Tryd.prog Tryd.f5 false true false false) := by
  obtain ⟨places, hx⟩ := reads os enc
  refine returnsInHanded_of_row (C := Tryd.checked) (s := OpenSpec.ofChange Rows.programListingSpec) own started (by kernel_rfl) Tryd.func5
    (witness_row_at (enc := enc) (C := Tryd.checked) false (laidWorld os) #[.agg #[.slice none 0 0, .slice none 0 0, .slice none 0 0], .agg #[.slice none 0 0, .slice none 0 0, .slice none 0 0]] rfl (by kernel_rfl) (by kernel_rfl) (by kernel_rfl)
      (OpenSpec.preRow_of_cond 8 hx (by kernel_rfl) (fun k hk => by cases hk) (by kernel_rfl) (laid_met os))) ?_
  intro W base args ds gs before hval hW _ _ hz hL hsh _
  exact contract H enc W base args ds gs before hval hW hz hL

theorem said : Rows.ProgramListingSaid :=
  OpenClaim.holds_of_cond 5 Tryd.f5 rfl rfl rfl rfl rfl rfl rfl ⟨rfl, rfl, rfl, rfl, rfl⟩ rfl rfl rfl rfl rfl (by kernel_rfl) Tryd.func5 (by kernel_rfl)
    (of_decide_eq_true (by kernel_rfl)) (by unfold Func.isWrapper; first | (rw [if_pos (by decide +kernel)]; kernel_rfl) | (rw [if_neg (by decide +kernel)]; exact ⟨rfl, rfl⟩))
    (fun os started H enc _ F => by rw [OpenClaim.pre_eq_preRow]; exact lifted os started H enc F)

theorem plain (f : FuncId) (fn : Func) (hf : Tryd.pinned.checked.prog.funcNamed "nursery/nurserylaw13.ProgramListing" = some f) (hfn : Tryd.pinned.checked.prog.funcs[f]? = some fn) :
    true = Tryd.pinned.checked.prog.looks [] ∧ ∀ (j : Nat) t, fn.params[j]? = some t → Tryd.pinned.checked.prog.wantsStandIn t = false := by
  obtain rfl : f = 5 := Option.some.inj ((show Tryd.prog.funcNamed "nursery/nurserylaw13.ProgramListing" = some 5 by kernel_rfl).symm.trans hf) |>.symm
  obtain rfl : fn = Tryd.f5 := (Option.some.inj (Tryd.func5.symm.trans hfn)).symm
  refine ⟨by kernel_rfl, fun j t ht => ?_⟩
  rw [Tryd.params5] at ht
  rcases j with _ | _ | j
  · obtain rfl : t = 26 := by simpa using ht.symm
    exact (show Tryd.prog.wantsStandIn 26 = false by kernel_rfl)
  · obtain rfl : t = 26 := by simpa using ht.symm
    exact (show Tryd.prog.wantsStandIn 26 = false by kernel_rfl)
  · simp at ht

/-- the statement -/
theorem proved : Rows.ProgramListingCardSaid :=
  Claim7.holds_tied_plain_at .later [] _ _ _ _ said (fun _ h => by cases h) (by kernel_rfl) (fun _ h => by cases h) programListing_row_tie rfl ⟨rfl, rfl⟩ (by kernel_rfl) rfl plain (by kernel_rfl)
#print axioms proved
end Go.Proofs.YtfkjokbhnblndaaDoor.programListing

