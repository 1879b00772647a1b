/- VclockBounds: atMost, and Join and Meet of valid clocks (the result is new). -/
import Derived.Test.YtaplbcmpjhdohaaLat
namespace Go.Proofs.Ytaplbcmpjhdohaa
open Go.RowKit
set_option linter.unusedVariables false
set_option linter.unusedSimpArgs false

theorem lawAtMost_any (l m : List Int) (a b : Option Addr) (cap cap' : Nat) (w : World) (c1 : chk l = 0) (c2 : chk m = 0) (e : l.length = m.length) (h : IntsAt w a l) (h' : IntsAt w b m) :
    Gives Try.prog 22 #[.slice a l.length cap, .slice b m.length cap'] w (.bool (leB l m)) := by
  have l1 := chk_len c1
  have l2 := chk_len c2
  have C := Compare_any l m a b cap cap' w (by unfold maxLen; omega) (by unfold maxLen; omega) h h'
  rw [cmp_ok c1 c2 e] at C
  unfold Gives
  clear h h' c1 c2 e
  cases q1 : leB l m <;> cases q2 : leB m l
  all_goals
    rw [q1, q2] at C
    simp only [Bool.false_eq_true, if_true, if_false, and_self, and_true, and_false, false_and, true_and] at C
    go_enter Try.func22, Try.ntmps22
    go_wp2_with fail
    refine C.mono ?_
    intro w1 hB
    go_wp2
    go_ret
    exact ⟨rfl, hB⟩

/-- a new slice of integers, and no error -/
def GivesF (P : Program) (f : FuncId) (args : Array Value) (w : World) (l : List Int) : Prop :=
  Calls P f args w fun en w' => (∃ x c, en = .returned (.tuple #[.slice x l.length c, .int .i64 0]) ∧ IntsAt w' x l ∧ FreshA w x) ∧ Below w.heap.size w w'

theorem FreshA.mono {w w' : World} {x : Option Addr} (h : FreshA w' x) (hz : w.heap.size ≤ w'.heap.size) : FreshA w x := fun y e => Nat.le_trans hz (h y e)

set_option maxHeartbeats 2000000 in
theorem both_ok (fn : FuncId) (op : Int → Int → Int) (hop : Op2 fn op) (hent : ∀ args w, (callFunc fn args).run Try.prog w = .ok (.enter fn args) w) (l m : List Int) (a b : Option Addr) (cap cap' : Nat) (w : World) (q1 : chk l = 0) (q2 : chk m = 0) (q3 : l.length = m.length) (h : IntsAt w a l) (h' : IntsAt w b m) :
    GivesF Try.prog 41 #[.slice a l.length cap, .slice b m.length cap', .func (.func fn) #[] #[]] w (List.zipWith op l m) := by
  have h32 := chk_len q1
  have h33 := chk_len q2
  have hl : l.length ≤ maxLen := by unfold maxLen; omega
  have hm : m.length ≤ maxLen := by unfold maxLen; omega
  have C1 := Lib.hid (fun w' (hB : Below w.heap.size w w') => valid_any l a cap w' hl (h.below hB))
  have C2 := Lib.hid (fun w' (hB : Below w.heap.size w w') => valid_any m b cap' w' hm (h'.below hB))
  unfold GivesF
  rw [q1] at C1
  rw [q2] at C2
  have D1 := Lib.hid (fun w' (hB : Below w.heap.size w w') => combined_any fn op hop hent l m a b cap cap' w' h32 q3.symm (h.below hB) (h'.below hB))
  have hq : (((l.length : Nat) : Int) != ((m.length : Nat) : Int)) = false := by simp [q3]
  clear q3 h h' q1 q2
  generalize List.zipWith op l m = Z at *
  unfold maxLen at hl hm
  go_enter Try.func41, Try.ntmps41
  go_wp2_with fail
  refine (C1.out _ (Below.refl _ _)).mono ?_
  intro w1 hB1
  go_wp2_with fail
  refine (C2.out _ hB1).mono ?_
  intro w2 hB2
  have hE2 := Ext.trans hB1 hB2
  clear hB1 hB2
  go_wp2_with fail
  refine (D1.out _ hE2).mono ?_
  rintro e w3 ⟨⟨x, c, rfl, hI, hF⟩, hB3⟩
  have hF := Lib.hid (hF.mono hE2.size)
  have hE3 := Ext.trans hE2 hB3
  clear hE2 hB3
  go_wp2
  go_ret2
  exact ⟨⟨_, _, rfl, hI, hF.out⟩, hE3⟩

theorem Join_ok (l m : List Int) (a b : Option Addr) (cap cap' : Nat) (w : World) (q1 : chk l = 0) (q2 : chk m = 0) (q3 : l.length = m.length) (h : IntsAt w a l) (h' : IntsAt w b m) :
    GivesF Try.prog 12 #[.slice a l.length cap, .slice b m.length cap'] w (List.zipWith max l m) := by
  have C := both_ok _ max join1_any (enters_fn Try.func42 (by kernel_rfl) rfl) l m a b cap cap' w q1 q2 q3 h h'
  unfold GivesF at C ⊢
  generalize List.zipWith max l m = r at *
  clear q1 q2 q3
  go_enter Try.func12, Try.ntmps12
  go_wp2_with fail
  refine C.mono ?_
  rintro e w1 ⟨⟨x, c, rfl, hI, hF⟩, hB⟩
  have hF := Lib.hid hF
  go_wp2
  go_ret2
  exact ⟨⟨_, _, rfl, hI, hF.out⟩, hB⟩
theorem Meet_ok (l m : List Int) (a b : Option Addr) (cap cap' : Nat) (w : World) (q1 : chk l = 0) (q2 : chk m = 0) (q3 : l.length = m.length) (h : IntsAt w a l) (h' : IntsAt w b m) :
    GivesF Try.prog 14 #[.slice a l.length cap, .slice b m.length cap'] w (List.zipWith min l m) := by
  have C := both_ok _ min meet1_any (enters_fn Try.func44 (by kernel_rfl) rfl) l m a b cap cap' w q1 q2 q3 h h'
  unfold GivesF at C ⊢
  generalize List.zipWith min l m = r at *
  clear q1 q2 q3
  go_enter Try.func14, Try.ntmps14
  go_wp2_with fail
  refine C.mono ?_
  rintro e w1 ⟨⟨x, c, rfl, hI, hF⟩, hB⟩
  have hF := Lib.hid hF
  go_wp2
  go_ret2
  exact ⟨⟨_, _, rfl, hI, hF.out⟩, hB⟩

end Go.Proofs.Ytaplbcmpjhdohaa
