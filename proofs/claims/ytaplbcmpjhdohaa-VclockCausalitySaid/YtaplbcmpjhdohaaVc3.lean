/- Clocks: Join, Meet. -/
import Derived.Test.YtaplbcmpjhdohaaVc2
import Derived.OwnWalk
import Derived.Deep.OwnRows
import Derived.Deep.RegionHeld3
namespace Go.Proofs.Ytaplbcmpjhdohaa
open Go.RowKit
set_option linter.unusedVariables false

/-- a pure function of two integers -/
def Op2 (fn : FuncId) (op : Int → Int → Int) : Prop := ∀ x y w, Calls Try.prog fn #[.int .i64 x, .int .i64 y] w fun e w' => e = .returned (.int .i64 (op x y)) ∧ w' = w

theorem join1_any : Op2 42 max := by
  intro x y w
  by_cases h : x ≤ y
  · have e := Lib.hid (show max x y = y by omega)
    go_enter Try.func42, Try.ntmps42
    go_wp2
    all_goals (go_ret; exact ⟨by rw [e.out]; (try rfl); (try (simp; omega)), rfl⟩)
  · have e := Lib.hid (show max x y = x by omega)
    go_enter Try.func42, Try.ntmps42
    go_wp2
    all_goals (go_ret; exact ⟨by rw [e.out]; (try rfl); (try (simp; omega)), rfl⟩)
theorem meet1_any : Op2 44 min := by
  intro x y w
  by_cases h : x ≤ y
  · have e := Lib.hid (show min x y = x by omega)
    go_enter Try.func44, Try.ntmps44
    go_wp2
    all_goals (go_ret; exact ⟨by rw [e.out]; (try rfl); (try (simp; omega)), rfl⟩)
  · have e := Lib.hid (show min x y = y by omega)
    go_enter Try.func44, Try.ntmps44
    go_wp2
    all_goals (go_ret; exact ⟨by rw [e.out]; (try rfl); (try (simp; omega)), rfl⟩)

theorem infoI : (Try.prog.info? 3).map (fun i => (i.zero, i.size, i.bytes)) = some (some (.int .i64 0), 1, 8) := by kernel_rfl

def cellD (W : World) (p : Addr) : Value := (W.cell? p).getD undef
theorem cellD_of {W : World} {p : Addr} (h : (W.cell? p).isSome = true) : W.cell? p = some (cellD W p) := by
  obtain ⟨v, hv⟩ := Option.isSome_iff_exists.1 h
  unfold cellD; rw [hv]; rfl
theorem sKeep {g j b1 b2 p q : Nat} {x y : Int} {W : World} (v : Value) (a1 : W.cell? ⟨b1, p, none⟩ = some (.int .i64 x)) (a2 : W.cell? ⟨b2, q, none⟩ = some (.int .i64 y)) (a3 : W.cell? ⟨g, j, none⟩ = some (cellD W ⟨g, j, none⟩)) (a4 : W.frozen? ⟨g, j, none⟩ = false) (h1 : b1 ≠ g) (h2 : b2 ≠ g) :
    (W.setCell ⟨g, j, none⟩ v).cell? ⟨b1, p, none⟩ = some (.int .i64 x) ∧ (W.setCell ⟨g, j, none⟩ v).cell? ⟨b2, q, none⟩ = some (.int .i64 y) ∧ (W.setCell ⟨g, j, none⟩ v).cell? ⟨g, j, none⟩ = some (cellD (W.setCell ⟨g, j, none⟩ v) ⟨g, j, none⟩) ∧ (W.setCell ⟨g, j, none⟩ v).frozen? ⟨g, j, none⟩ = false := by
  refine ⟨?_, ?_, ?_, by rw [World.frozen?_setCell]; exact a4⟩
  · rw [World.cell?_setCell_other W ⟨g, j, none⟩ ⟨b1, p, none⟩ _ (by intro h0; apply h1; exact (congrArg Addr.block h0).symm)]
    exact a1
  · rw [World.cell?_setCell_other W ⟨g, j, none⟩ ⟨b2, q, none⟩ _ (by intro h0; apply h2; exact (congrArg Addr.block h0).symm)]
    exact a2
  · refine cellD_of ?_
    rw [World.cell?_setCell_same' W ⟨g, j, none⟩ _ (by rw [a3]; rfl)]
    rfl

/-- a slice's address is none, or in a new block -/
def FreshA (w : World) (x : Option Addr) : Prop := ∀ y, x = some y → w.heap.size ≤ y.block

set_option maxHeartbeats 2000000 in
theorem combined_any (fn : FuncId) (op : Int → Int → Int) (hop : Op2 fn op) (hent : ∀ args w, (callFunc fn args).run Try.prog w = .ok (.enter fn args) w) (l m : List Int) (a b : Option Addr) (cap cap' : Nat) (w : World) (hl : l.length ≤ 32) (hm : m.length = l.length) (h : IntsAt w a l) (h' : IntsAt w b m) :
    Calls Try.prog 59 #[.slice a l.length cap, .slice b m.length cap', .func (.func fn) #[] #[]] w fun e w' => (∃ x c, e = .returned (.slice x (List.zipWith op l m).length c) ∧ IntsAt w' x (List.zipWith op l m) ∧ FreshA w x) ∧ Below w.heap.size w w' := by
  have hmk := run_make_row' (P := Try.prog) 23 3 (.int .i64 0) 8 Try.underlying23 infoI rfl .i64 .i64 l.length (by omega) (by omega)
  have HM := Lib.hid hm
  clear hm
  have hm32 : m.length ≤ 32 := by have := HM.out; omega
  obtain ⟨c0, hc0⟩ : ∃ c0, madeCells #[.int .i64 0] l.length = c0 := ⟨_, rfl⟩
  have HS := Lib.hid (show c0.size = l.length by rw [← hc0, size_madeCells])
  rw [hc0] at hmk
  clear hc0
  go_enter Try.func59, Try.ntmps59
  go_wp2
  have hTw : Turn w.heap.size (.cells c0 3 (0, 0)) w (w.alloc (.cells c0 3)) := ⟨rfl, rfl, rfl, by simp, alloc_here _ _, fun j hj _ => Below.heap_alloc _ _ _ hj⟩
  have HTw := Lib.hid hTw
  clear hTw
  go_loopw [14] (fun i wr => ∃ (j : Nat) (c : Array Value), j ≤ l.length ∧ i = .int .i64 j ∧ c.size = l.length ∧ (∀ i (h1 : i < l.length) (h2 : i < m.length), i < j → c[i]? = some (.int .i64 (op l[i] m[i]))) ∧ Turn w.heap.size (.cells c 3 (0, 0)) w wr) (fun i _ => l.length - (intOf i).toNat)
  case atStart => exact ⟨0, c0, Nat.zero_le _, rfl, HS.out, fun i _ _ h0 => absurd h0 (Nat.not_lt_zero _), HTw.out⟩
  case round =>
    obtain ⟨j, c, hj, rfl, hcs, hA, hT⟩ := hrel
    have HA := Lib.hid hA
    have HT := Lib.hid hT
    have HC := Lib.hid hcs
    clear hA hT hcs
    by_cases hlt : j < l.length
    · obtain ⟨b1, o1, rfl, hc1⟩ := h.at hlt
      have hlt2 : j < m.length := by have := HM.out; omega
      obtain ⟨b2, o2, rfl, hc2⟩ := h'.at hlt2
      have n1 := cell_lt hc1
      have n2 := cell_lt hc2
      have hB := HT.out.below (Nat.le_refl _) (Nat.le_refl _)
      have hc1 := (hB.cell (p := ⟨b1, o1 + j, none⟩) n1).trans hc1
      have hc2 := (hB.cell (p := ⟨b2, o2 + j, none⟩) n2).trans hc2
      have m1 : b1 ≠ w.heap.size := Nat.ne_of_lt n1
      have m2 : b2 ≠ w.heap.size := Nat.ne_of_lt n2
      clear hB n1 n2
      have hcg : (wr.cell? ⟨w.heap.size, j, none⟩).isSome = true := by
        have hj' : j < c.size := by rw [HC.out]; exact hlt
        rw [cell_of HT.out.here (Array.getElem?_eq_getElem hj')]; rfl
      have hcg := cellD_of hcg
      have hfz : wr.frozen? ⟨w.heap.size, j, none⟩ = false := free_of HT.out.here
      have hcall := hop l[j] m[j] 
      have HX := Lib.hid (show ∀ i (h1 : i < l.length) (h2 : i < m.length), i < j + 1 → (c.setIfInBounds j (.int .i64 (op l[j] m[j])))[i]? = some (.int .i64 (op l[i] m[i])) from fun i h1 h2 hij => by
        have hj' : j < c.size := by rw [HC.out]; exact hlt
        by_cases e : j = i
        · subst e; simp [hj']
        · rw [Array.getElem?_setIfInBounds_ne e]
          exact HA.out i h1 h2 (by omega))
      have HT2 := Lib.hid (HT.out.setCell (i := j) (.int .i64 (op l[j] m[j])))
      generalize l[j] = x at *
      generalize m[j] = y at *
      go_wp2
      go_region_held3 (fun W => W.cell? ⟨b1, o1 + j, none⟩ = some (.int .i64 x) ∧ W.cell? ⟨b2, o2 + j, none⟩ = some (.int .i64 y) ∧ W.cell? ⟨w.heap.size, j, none⟩ = some (cellD W ⟨w.heap.size, j, none⟩) ∧ W.frozen? ⟨w.heap.size, j, none⟩ = false) (first | exact ⟨hc1, hc2, hcg, hfz⟩ | exact sKeep _ (by assumption) (by assumption) (by assumption) (by assumption) m1 m2 | (go_keep; done))
        (first | (refine (hcall _).mono ?_; rintro e w' ⟨rfl, rfl⟩))
      all_goals
        go_wp2
        go_roundw
        case rel => exact ⟨j + 1, _, by omega, by go_num, by simp [HC.out], HX.out, HT2.out.drew⟩
        case measure => simp [intOf]; omega
    · have HZ := Lib.hid (show (List.zipWith op l m).length = l.length by rw [List.length_zipWith]; have := HM.out; omega)
      have HI := Lib.hid (show IntsAt wr (some ⟨w.heap.size, 0, none⟩) (List.zipWith op l m) from fun i hi => by
        have h1 : i < l.length := by rw [HZ.out] at hi; exact hi
        have h2 : i < m.length := by have := HM.out; omega
        refine ⟨_, _, rfl, ?_⟩
        rw [List.getElem_zipWith, Nat.zero_add]
        exact cell_of HT.out.here (HA.out i h1 h2 (by omega)))
      go_wp2
      go_ret
      exact ⟨⟨_, _, by rw [HZ.out]; rfl, HI.out, fun y e => by cases e; exact Nat.le_refl _⟩, HT.out.below (Nat.le_refl _) (Nat.le_refl _)⟩

/-- a slice of integers and an error -/
def GivesL (P : Program) (f : FuncId) (args : Array Value) (w : World) (l : List Int) (e : Int) : Prop :=
  Calls P f args w fun en w' => (∃ x c, en = .returned (.tuple #[.slice x l.length c, .int .i64 e]) ∧ IntsAt w' x l) ∧ Below w.heap.size w w'

def bothV (op : Int → Int → Int) (l m : List Int) : List Int := if chk l ≠ 0 ∨ chk m ≠ 0 ∨ l.length ≠ m.length then [] else List.zipWith op l m
def bothE (l m : List Int) : Int := if chk l ≠ 0 ∨ chk m ≠ 0 then 1 else if l.length ≠ m.length then 10 else 0
theorem chk_len {l : List Int} (h : chk l = 0) : l.length ≤ 32 := by
  unfold chk at h
  split at h
  · simp at h
  · omega

set_option maxHeartbeats 2000000 in
theorem both_any (fn : FuncId) (op : Int → Int → Int) (hop : Op2 fn op) (hent : ∀ args w, (callFunc fn args).run Try.prog w = .ok (.enter fn args) w) (l m : List Int) (a b : Option Addr) (cap cap' : Nat) (w : World) (hl : l.length ≤ maxLen) (hm : m.length ≤ maxLen) (h : IntsAt w a l) (h' : IntsAt w b m) :
    GivesL Try.prog 41 #[.slice a l.length cap, .slice b m.length cap', .func (.func fn) #[] #[]] w (bothV op l m) (bothE l m) := by
  have C1 := Lib.hid (fun w' (hB : Below w.heap.size w w') => valid_any l a cap w' hl (h.below hB))
  have C2 := Lib.hid (fun w' (hB : Below w.heap.size w w') => valid_any m b cap' w' hm (h'.below hB))
  unfold GivesL
  by_cases q1 : chk l = 0
  · by_cases q2 : chk m = 0
    · rw [q1] at C1
      rw [q2] at C2
      by_cases q3 : l.length = m.length
      · have h32 := chk_len q1
        have D1 := Lib.hid (fun w' (hB : Below w.heap.size w w') => combined_any fn op hop hent l m a b cap cap' w' h32 q3.symm (h.below hB) (h'.below hB))
        have HV := Lib.hid (show bothV op l m = List.zipWith op l m by unfold bothV; rw [if_neg (by simp [q1, q2, q3])])
        have HE := Lib.hid (show bothE l m = 0 by unfold bothE; rw [if_neg (by simp [q1, q2]), if_neg (by simp [q3])])
        have hq : (((l.length : Nat) : Int) != ((m.length : Nat) : Int)) = false := by simp [q3]
        clear q3 h h' q1 q2
        generalize List.zipWith op l m = Z at *
        unfold maxLen at hl hm
        go_enter Try.func41, Try.ntmps41
        go_wp2_with fail
        refine (C1.out _ (Below.refl _ _)).mono ?_
        intro w1 hB1
        go_wp2_with fail
        refine (C2.out _ hB1).mono ?_
        intro w2 hB2
        have hE2 := Ext.trans hB1 hB2
        clear hB1 hB2
        go_wp2_with fail
        refine (D1.out _ hE2).mono ?_
        rintro e w3 ⟨⟨x, c, rfl, hI, -⟩, hB3⟩
        have hE3 := Ext.trans hE2 hB3
        clear hE2 hB3
        go_wp2
        go_ret2
        exact ⟨⟨_, _, by rw [HV.out, HE.out]; rfl, by rw [HV.out]; exact hI⟩, hE3⟩
      · have HV := Lib.hid (show bothV op l m = [] by unfold bothV; rw [if_pos (by simp [q3])])
        have HE := Lib.hid (show bothE l m = 10 by unfold bothE; rw [if_neg (by simp [q1, q2]), if_pos q3])
        have hq : (((l.length : Nat) : Int) != ((m.length : Nat) : Int)) = true := by rw [bne_iff_ne]; omega
        clear h h' q1 q2
        unfold maxLen at hl hm
        go_enter Try.func41, Try.ntmps41
        go_wp2_with fail
        refine (C1.out _ (Below.refl _ _)).mono ?_
        intro w1 hB1
        go_wp2_with fail
        refine (C2.out _ hB1).mono ?_
        intro w2 hB2
        have hE2 := Ext.trans hB1 hB2
        clear hB1 hB2
        go_wp2
        go_ret2
        exact ⟨⟨_, _, by rw [HV.out, HE.out]; rfl, by rw [HV.out]; exact IntsAt.nil⟩, hE2⟩
    · have HV := Lib.hid (show bothV op l m = [] by unfold bothV; rw [if_pos (by simp [q2])])
      have HE := Lib.hid (show bothE l m = 1 by unfold bothE; rw [if_pos (by simp [q2])])
      rw [q1] at C1
      rw [show (chk m == 0) = false by simp [q2]] at C2
      clear h h' q1 q2
      unfold maxLen at hl hm
      go_enter Try.func41, Try.ntmps41
      go_wp2_with fail
      refine (C1.out _ (Below.refl _ _)).mono ?_
      intro w1 hB1
      go_wp2_with fail
      refine (C2.out _ hB1).mono ?_
      intro w2 hB2
      have hE2 := Ext.trans hB1 hB2
      clear hB1 hB2
      go_wp2
      go_ret2
      exact ⟨⟨_, _, by rw [HV.out, HE.out]; rfl, by rw [HV.out]; exact IntsAt.nil⟩, hE2⟩
  · have HV := Lib.hid (show bothV op l m = [] by unfold bothV; rw [if_pos (by simp [q1])])
    have HE := Lib.hid (show bothE l m = 1 by unfold bothE; rw [if_pos (by simp [q1])])
    rw [show (chk l == 0) = false by simp [q1]] at C1
    clear h h' q1
    unfold maxLen at hl hm
    go_enter Try.func41, Try.ntmps41
    go_wp2_with fail
    refine (C1.out _ (Below.refl _ _)).mono ?_
    intro w1 hB1
    go_wp2
    go_ret2
    exact ⟨⟨_, _, by rw [HV.out, HE.out]; rfl, by rw [HV.out]; exact IntsAt.nil⟩, hB1⟩

theorem enters_fn {f : FuncId} {fn : Func} {c : Code} (hf : Try.prog.funcs[f]? = some fn) (hname : (fn.name == "runtime.NumGoroutine") = false) (hb : fn.body = some c) : ∀ args w, (callFunc f args).run Try.prog w = .ok (.enter f args) w := by
  intro args w
  have h1 : fn.name ≠ "runtime.NumGoroutine" := by simpa using hname
  simp [callFunc, hf, h1, hb, mark]

theorem Join_any (l m : List Int) (a b : Option Addr) (cap cap' : Nat) (w : World) (hl : l.length ≤ maxLen) (hm : m.length ≤ maxLen) (h : IntsAt w a l) (h' : IntsAt w b m) :
    GivesL Try.prog 12 #[.slice a l.length cap, .slice b m.length cap'] w (bothV max l m) (bothE l m) := by
  have C := both_any _ max join1_any (enters_fn Try.func42 (by kernel_rfl) rfl) l m a b cap cap' w hl hm h h'
  unfold GivesL at C ⊢
  generalize bothV max l m = r at *
  generalize bothE l m = er at *
  go_enter Try.func12, Try.ntmps12
  go_wp2_with fail
  refine C.mono ?_
  rintro e w1 ⟨⟨x, c, rfl, hI⟩, hB⟩
  go_wp2
  go_ret2
  exact ⟨⟨_, _, rfl, hI⟩, hB⟩
theorem Meet_any (l m : List Int) (a b : Option Addr) (cap cap' : Nat) (w : World) (hl : l.length ≤ maxLen) (hm : m.length ≤ maxLen) (h : IntsAt w a l) (h' : IntsAt w b m) :
    GivesL Try.prog 14 #[.slice a l.length cap, .slice b m.length cap'] w (bothV min l m) (bothE l m) := by
  have C := both_any _ min meet1_any (enters_fn Try.func44 (by kernel_rfl) rfl) l m a b cap cap' w hl hm h h'
  unfold GivesL at C ⊢
  generalize bothV min l m = r at *
  generalize bothE l m = er at *
  go_enter Try.func14, Try.ntmps14
  go_wp2_with fail
  refine C.mono ?_
  rintro e w1 ⟨⟨x, c, rfl, hI⟩, hB⟩
  go_wp2
  go_ret2
  exact ⟨⟨_, _, rfl, hI⟩, hB⟩

end Go.Proofs.Ytaplbcmpjhdohaa
