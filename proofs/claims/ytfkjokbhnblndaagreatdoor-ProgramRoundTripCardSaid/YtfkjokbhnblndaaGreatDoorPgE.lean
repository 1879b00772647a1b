/- The closures of the checks; forbidden. -/
import Derived.Test.YtfkjokbhnblndaaGreatDoorPgD
namespace Go.Proofs.YtfkjokbhnblndaaGreatDoor
open Go.RowKit
set_option linter.unusedVariables false
set_option linter.unusedSimpArgs false

theorem enters_fn {f : FuncId} {fn : Func} {c : Code} (hf : Tryz.prog.funcs[f]? = some fn) (hname : (fn.name == "runtime.NumGoroutine") = false) (hb : fn.body = some c) : ∀ args w, (callFunc f args).run Tryz.prog w = .ok (.enter f args) w := by
  intro args w
  have h1 : fn.name ≠ "runtime.NumGoroutine" := by simpa using hname
  simp [callFunc, hf, h1, hb, mark]

theorem ints_alloc (w : World) (l : List Int) (T : TypeId) : IntsAt (w.alloc (.cells (l.map (Value.int .i64)).toArray T)) (some ⟨w.heap.size, 0, none⟩) l := by
  intro i h
  refine ⟨w.heap.size, 0, rfl, ?_⟩
  refine cell_of (alloc_here _ _) ?_
  simp [h]

theorem closOb (n m : List UInt8) (z1 z2 z3 : Int) (g : Nat) (w : World) (hg : w.cell? ⟨g, 0, none⟩ = some (sV m)) :
    Gives Tryz.prog 81 #[.agg #[sV n, .int .i64 z1, .int .i64 z2, .int .i64 z3], .pointer (some ⟨g, 0, none⟩)] w (.bool (n == m)) := by
  have hlt := cell_lt2 hg
  unfold Gives
  go_enter Tryz.func81, Tryz.ntmps81
  go_wp2
  go_ret
  exact ⟨rfl, (Below.refl _ w).alloc (Nat.le_refl _) _⟩
theorem closVaOb (n m : List UInt8) (z1 z2 z3 : Int) (g : Nat) (w : World) (hg : w.cell? ⟨g, 0, none⟩ = some (sV m)) :
    Gives Tryz.prog 82 #[.agg #[sV n, .int .i64 z1, .int .i64 z2, .int .i64 z3], .pointer (some ⟨g, 0, none⟩)] w (.bool (n == m)) := by
  have hlt := cell_lt2 hg
  unfold Gives
  go_enter Tryz.func82, Tryz.ntmps82
  go_wp2
  go_ret
  exact ⟨rfl, (Below.refl _ w).alloc (Nat.le_refl _) _⟩
theorem closVa (n m : List UInt8) (z1 : Int) (z2 : Bool) (g : Nat) (w : World) (hg : w.cell? ⟨g, 0, none⟩ = some (sV m)) :
    Gives Tryz.prog 84 #[.agg #[sV n, .int .i64 z1, .bool z2], .pointer (some ⟨g, 0, none⟩)] w (.bool (n == m)) := by
  have hlt := cell_lt2 hg
  unfold Gives
  go_enter Tryz.func84, Tryz.ntmps84
  go_wp2
  go_ret
  exact ⟨rfl, (Below.refl _ w).alloc (Nat.le_refl _) _⟩
theorem closFn (n m : List UInt8) (z1 z2 z3 : Int) (z4 : Bool) (z5 : Nat) (ca : Option Addr) (cc : Nat) (g : Nat) (w : World) (hg : w.cell? ⟨g, 0, none⟩ = some (sV m)) :
    Gives Tryz.prog 86 #[.agg #[sV n, .int .i64 z1, .int .i64 z2, .int .i64 z3, .bool z4, .slice ca z5 cc], .pointer (some ⟨g, 0, none⟩)] w (.bool (n == m)) := by
  have hlt := cell_lt2 hg
  unfold Gives
  go_enter Tryz.func86, Tryz.ntmps86
  go_wp2
  go_ret
  exact ⟨rfl, (Below.refl _ w).alloc (Nat.le_refl _) _⟩

set_option maxRecDepth 100000 in
set_option maxHeartbeats 1000000 in
theorem Index1_any (l : List Int) (v : Int) (a : Option Addr) (c : Nat) (w : World) (hA : IntsAt w a l) (hn : l.length ≤ 17592186044416) :
    Calls Tryz.prog 152 #[.slice a l.length c, .int .i64 v] w fun e w' => e = .returned (.int .i64 (idx (fun x => x == v) l)) ∧ w' = w := by
  have HA := Lib.hid hA
  have HI1 := Lib.hid (idx_none (fun x => x == v) l)
  have HI2 := Lib.hid (idx_some (fun x => x == v) l)
  generalize idx (fun x => x == v) l = r at *
  clear hA
  go_enter Tryz.func152, Tryz.ntmps152
  go_wp2
  go_loop [8] (fun i => ∃ j : Nat, j ≤ l.length ∧ i = .int .i64 (j : Int) ∧ (∀ k (h : k < l.length), k < j → (l[k] == v) = false)) (fun i => l.length - (intOf i).toNat)
  case atStart => exact ⟨0, Nat.zero_le _, rfl, by intro k h1 h2; omega⟩
  case round =>
    obtain ⟨j, hj, rfl, hk⟩ := hrel
    have HK := Lib.hid hk
    clear hk
    by_cases hlt : j < l.length
    · obtain ⟨b, off, rfl, c0⟩ := HA.out.at hlt
      by_cases hb : l[j] = v
      · have HR := Lib.hid (HI2.out j hlt (fun i hi => HK.out i (by omega) hi) (by simpa using hb))
        have h1 : (v == l[j]) = true := by simpa using hb.symm
        have h2 : (l[j] == v) = true := by simpa using hb
        clear hb
        go_wp2
        go_ret
        exact ⟨by rw [HR.out]; rfl, rfl⟩
      · have HR := Lib.hid (show ∀ k (h : k < l.length), k < j + 1 → (l[k] == v) = false from fun k h1 h2 => by
          by_cases e : k = j
          · subst e; simpa using hb
          · exact HK.out k h1 (by omega))
        have h1 : (v == l[j]) = false := by simpa using Ne.symm hb
        have h2 : (l[j] == v) = false := by simpa using hb
        clear hb
        go_wp2
        go_round
        case rel => exact ⟨j + 1, by omega, by go_num, HR.out⟩
        case measure => simp [intOf]; omega
    · obtain rfl : j = l.length := by omega
      have HR := Lib.hid (HI1.out (fun j hj => HK.out j hj hj))
      go_wp2
      go_ret
      exact ⟨by rw [HR.out]; rfl, rfl⟩
theorem Contains1_any (l : List Int) (v : Int) (a : Option Addr) (c : Nat) (w : World) (hA : IntsAt w a l) (hn : l.length ≤ 17592186044416) :
    Calls Tryz.prog 135 #[.slice a l.length c, .int .i64 v] w fun e w' => e = .returned (.bool (l.any (fun x => x == v))) ∧ w' = w := by
  have H := fun W h => Index1_any l v a c W h hn
  have H1 := H w hA
  rw [← idx_any]
  clear hA H
  generalize idx (fun x => x == v) l = r at *
  by_cases h0 : 0 ≤ r
  · go_enter Tryz.func135, Tryz.ntmps135
    go_wp2_with fail
    refine H1.mono ?_
    rintro e w1 ⟨rfl, rfl⟩
    go_wp2
    go_ret
    exact ⟨by simp [h0], rfl⟩
  · go_enter Tryz.func135, Tryz.ntmps135
    go_wp2_with fail
    refine H1.mono ?_
    rintro e w1 ⟨rfl, rfl⟩
    go_wp2
    go_ret
    exact ⟨by simp [h0], rfl⟩

set_option maxRecDepth 100000 in
theorem refForbidden_any (op : Int) (w : World) : Calls Tryz.prog 125 #[.int .i64 op] w fun e w' => e = .returned (.bool (forb op)) ∧ w' = w := by
  by_cases h15 : op = 15
  · subst h15
    rw [show forb 15 = true from rfl]
    go_enter Tryz.func125, Tryz.ntmps125
    go_wp2
    go_ret
    exact ⟨rfl, rfl⟩
  have g15 : (op == 15) = false := by simpa using h15
  by_cases h17 : op = 17
  · subst h17
    rw [show forb 17 = true from rfl]
    go_enter Tryz.func125, Tryz.ntmps125
    go_wp2
    go_ret
    exact ⟨rfl, rfl⟩
  have g17 : (op == 17) = false := by simpa using h17
  by_cases h18 : op = 18
  · subst h18
    rw [show forb 18 = true from rfl]
    go_enter Tryz.func125, Tryz.ntmps125
    go_wp2
    go_ret
    exact ⟨rfl, rfl⟩
  have g18 : (op == 18) = false := by simpa using h18
  by_cases h19 : op = 19
  · subst h19
    rw [show forb 19 = true from rfl]
    go_enter Tryz.func125, Tryz.ntmps125
    go_wp2
    go_ret
    exact ⟨rfl, rfl⟩
  have g19 : (op == 19) = false := by simpa using h19
  by_cases h34 : op = 34
  · subst h34
    rw [show forb 34 = true from rfl]
    go_enter Tryz.func125, Tryz.ntmps125
    go_wp2
    go_ret
    exact ⟨rfl, rfl⟩
  have g34 : (op == 34) = false := by simpa using h34
  by_cases h35 : op = 35
  · subst h35
    rw [show forb 35 = true from rfl]
    go_enter Tryz.func125, Tryz.ntmps125
    go_wp2
    go_ret
    exact ⟨rfl, rfl⟩
  have g35 : (op == 35) = false := by simpa using h35
  by_cases h36 : op = 36
  · subst h36
    rw [show forb 36 = true from rfl]
    go_enter Tryz.func125, Tryz.ntmps125
    go_wp2
    go_ret
    exact ⟨rfl, rfl⟩
  have g36 : (op == 36) = false := by simpa using h36
  by_cases h37 : op = 37
  · subst h37
    rw [show forb 37 = true from rfl]
    go_enter Tryz.func125, Tryz.ntmps125
    go_wp2
    go_ret
    exact ⟨rfl, rfl⟩
  have g37 : (op == 37) = false := by simpa using h37
  by_cases h42 : op = 42
  · subst h42
    rw [show forb 42 = true from rfl]
    go_enter Tryz.func125, Tryz.ntmps125
    go_wp2
    go_ret
    exact ⟨rfl, rfl⟩
  have g42 : (op == 42) = false := by simpa using h42
  by_cases h43 : op = 43
  · subst h43
    rw [show forb 43 = true from rfl]
    go_enter Tryz.func125, Tryz.ntmps125
    go_wp2
    go_ret
    exact ⟨rfl, rfl⟩
  have g43 : (op == 43) = false := by simpa using h43
  have hf : forb op = false := by simp [forb, Ne.symm h15, Ne.symm h17, Ne.symm h18, Ne.symm h19, Ne.symm h34, Ne.symm h35, Ne.symm h36, Ne.symm h37, Ne.symm h42, Ne.symm h43]
  rw [hf]
  clear hf
  go_enter Tryz.func125, Tryz.ntmps125
  go_wp2
  go_ret
  exact ⟨rfl, rfl⟩
set_option maxRecDepth 100000 in
theorem forbidden_any (op : Int) (w : World) : Gives Tryz.prog 110 #[.int .i64 op] w (.bool (forb op)) := by
  unfold Gives
  have K : Calls Tryz.prog 135 #[.slice (some ⟨w.heap.size, 0, none⟩) 10 10, .int .i64 op] (w.alloc (.cells #[.int .i64 15, .int .i64 17, .int .i64 18, .int .i64 19, .int .i64 34, .int .i64 35, .int .i64 36, .int .i64 37, .int .i64 42, .int .i64 43] 3)) fun e w' => e = .returned (.bool (forb op)) ∧ w' = _ :=
    Contains1_any [15, 17, 18, 19, 34, 35, 36, 37, 42, 43] op (some ⟨w.heap.size, 0, none⟩) 10 _ (ints_alloc w _ 3) (by decide)
  have K := Lib.hid K
  generalize forb op = r at *
  go_enter Tryz.func110, Tryz.ntmps110
  go_wp2_with fail
  refine K.out.mono ?_
  rintro e w1 ⟨rfl, rfl⟩
  go_wp2
  go_ret
  exact ⟨rfl, (Below.refl _ w).alloc (Nat.le_refl _) _⟩
end Go.Proofs.YtfkjokbhnblndaaGreatDoor
