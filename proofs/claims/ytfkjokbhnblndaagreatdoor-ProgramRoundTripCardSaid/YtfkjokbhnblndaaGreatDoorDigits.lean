/- codec.digits, codec.integer, codec.fits, codec.Int: their contracts. -/
import Derived.RangeFuncBox
import Derived.RangeFuncLeaves
import Derived.RangeFuncNested
import Derived.Shelf.Abstract
import Derived.WalkKit
import Derived.OwnWalkIn
import Derived.TacticsInMore
import Derived.LoopNIn
import Derived.LoopIn
import Derived.Maps.AppendAt
import Derived.Lib.Hide
import Derived.Test.YtfkjokbhnblndaaGreatDoorRows
import Derived.Test.YtfkjokbhnblndaaGreatDoorBase
import Derived.Test.YtfkjokbhnblndaaGreatDoorMag
namespace Go.Proofs.YtfkjokbhnblndaaGreatDoor
open Go.RowKit Go.Shelf
set_option linter.unusedVariables false
attribute [local go_sem] Oper.semAt_some

theorem int_eq {k : IntKind} {a b : Int} (h : a = b) : Value.int k a = Value.int k b := by rw [h]

/-- one shift of the loop: what has come, and what comes next -/
theorem mag_shift (m k : Nat) (hm : m < 2 ^ 63) (h : m / 2 ^ (8 * k) ≠ 0) : mag (m / 2 ^ (8 * k)) = mag (m / 2 ^ (8 * (k + 1))) ++ [UInt8.ofNat (m / 2 ^ (8 * k) % 256)] := by
  have e : m / 2 ^ (8 * (k + 1)) = m / 2 ^ (8 * k) / 256 := by
    rw [Nat.div_div_eq_div_mul, Nat.mul_add, Nat.pow_add]
  rw [e]
  exact mag_step _ (Nat.lt_of_le_of_lt (Nat.div_le_self _ _) (by omega)) h
theorem mag_shift0 (m k : Nat) (h : m / 2 ^ (8 * k) = 0) : mag (m / 2 ^ (8 * (k + 1))) = mag (m / 2 ^ (8 * k)) := by
  have e : m / 2 ^ (8 * (k + 1)) = m / 2 ^ (8 * k) / 256 := by
    rw [Nat.div_div_eq_div_mul, Nat.mul_add, Nat.pow_add]
  rw [e, h]
theorem shift_rel {k' : Nat} (hk : k' + 1 ≤ 8) {J : Nat → Prop} (h : J k') : ∃ k : Nat, k ≤ 8 ∧ ((k = 0 ∧ Value.int .i64 (8 * (k' : Int) - 8) = .int .i64 (-8)) ∨ ∃ j, k = j + 1 ∧ Value.int .i64 (8 * (k' : Int) - 8) = .int .i64 (8 * (j : Int))) ∧ J k := by
  cases k' with
  | zero => exact ⟨0, by omega, .inl ⟨rfl, by simp⟩, h⟩
  | succ j => exact ⟨j + 1, by omega, .inr ⟨j, rfl, int_eq (by omega)⟩, h⟩
theorem u8_of (m k : Nat) : (((UInt8.ofNat (m / 2 ^ (8 * k) % 256)).toNat : Nat) : Int) = (m : Int) / 2 ^ (8 * k) % 256 := by
  have : (UInt8.ofNat (m / 2 ^ (8 * k) % 256)).toNat = m / 2 ^ (8 * k) % 256 := by simp
  rw [this]; simp

/-- what a round of the loop over the digits must keep: the box of the number -/
def KeepAt (Bn : Nat) (W W' : World) : Prop := W'.cell? ⟨Bn, 0, none⟩ = W.cell? ⟨Bn, 0, none⟩
theorem keepAt_t {Bn : Nat} {A B C : World} (h : KeepAt Bn A B) (k : KeepAt Bn B C) : KeepAt Bn A C := Eq.trans k h
theorem keepAt_b {Bn : Nat} {w : World} (hn : Bn < w.heap.size) (W : World) (l : Nat) (o o' : Obj) (hl : w.heap.size ≤ l) (h : W.heap[l]? = some o) (h1 : o.isCells = false) (h2 : o.isWalk = false) : KeepAt Bn W (W.putObj l o') :=
  (belowK_b (n₀ := w.heap.size) (w := w) (Nat.le_refl _) W l o o' hl h h1 h2).cell (p := ⟨Bn, 0, none⟩) hn

set_option maxRecDepth 100000 in
set_option maxHeartbeats 1000000 in
theorem digits1_in (F : Fence) (n : Nat) (h6 : F.fn 151) (hro : F.round = none) (hn : 1 ≤ n) (l Bn : Nat) (m : Nat) (hm : m < 2 ^ 63) (J Jx : List UInt8 → World → Prop)
    (hY : ∀ pre x W, J pre W → pre.length < 8 → YieldAt F (n - 1) Tryz.prog l #[.int .u8 (x.toNat : Int)] W fun e W' =>
      (e = .returned (.bool true) ∧ J (pre ++ [x]) W' ∧ KeepAt Bn W W') ∨ (e = .returned (.bool false) ∧ Jx (pre ++ [x]) W'))
    (W : World) (hBn : W.cell? ⟨Bn, 0, none⟩ = some (.int .i64 m)) (h0 : J [] W) :
    CallsIn F n Tryz.prog 151 #[.func (.yield l) #[] #[], .pointer (some ⟨Bn, 0, none⟩)] W fun e W' => (∃ v, e = .returned v) ∧
      ((∃ ys, ys = mag m ∧ J ys W') ∨ (∃ pre, True ∧ Jx pre W')) := by
  refine callsIn_of_wp Tryz.func151 rfl h6 ?_ hro
  simp only [Tryz.ntmps151, List.size_toArray, List.length_cons, List.length_nil, Nat.reduceAdd, Nat.reduceSub, Array.replicate_succ, Array.replicate_zero, List.push_toArray, List.append_toArray, List.nil_append, List.cons_append]
  gi_wp2
  gi_loopw [3] (fun p wr => ∃ (k : Nat), k ≤ 8 ∧ ((k = 0 ∧ p = .int .i64 (-8)) ∨ ∃ k', k = k' + 1 ∧ p = .int .i64 (8 * (k' : Int))) ∧ J (mag (m / 2 ^ (8 * k))) wr ∧ wr.cell? ⟨Bn, 0, none⟩ = some (.int .i64 m))
    (fun p wr => (intOf p + 8).toNat)
  case atStart =>
    refine ⟨8, by omega, .inr ⟨7, rfl, rfl⟩, ?_, hBn⟩
    rw [Nat.div_eq_of_lt (by omega)]; exact h0
  case round =>
    obtain ⟨k, hk, ⟨rfl, rfl⟩ | ⟨k', rfl, rfl⟩, hJ, hc⟩ := hrel
    · gi_wp2
      go_end0
      exact ⟨⟨_, rfl⟩, .inl ⟨_, by simp, hJ⟩⟩
    · by_cases hq : m / 2 ^ (8 * k') = 0
      · have H0 := Lib.hid (mag_shift0 m k' hq)
        have hb : (((m : Int) / 2 ^ (8 * k')) == 0) = true := by rw [beq_iff_eq]; exact_mod_cast hq
        clear hq
        gi_wp2
        go_roundw
        case rel => exact shift_rel hk (J := fun k => J (mag (m / 2 ^ (8 * k))) wr ∧ wr.cell? ⟨Bn, 0, none⟩ = some (.int .i64 m)) ⟨by rw [← H0.out]; exact hJ, hc⟩
        case measure => simp [intOf]; omega
      · have H0 := Lib.hid (mag_shift m k' hm hq)
        have hb : (((m : Int) / 2 ^ (8 * k')) == 0) = false := by rw [beq_eq_false_iff_ne]; exact_mod_cast hq
        clear hq
        obtain ⟨fn, tmps, assign, body, hy, hR⟩ := hY _ (UInt8.ofNat (m / 2 ^ (8 * k') % 256)) wr hJ (by
          have := magF_len_of 9 7 (m / 2 ^ (8 * (k' + 1))) (by
            rw [Nat.div_lt_iff_lt_mul (by exact Nat.two_pow_pos _), show 8 * (k' + 1) = 8 * k' + 8 from by omega, Nat.pow_add]
            have := Nat.one_le_two_pow (n := 8 * k')
            calc m < 2 ^ 63 := hm
              _ ≤ 256 ^ 7 * (1 * 2 ^ 8) := by decide
              _ ≤ 256 ^ 7 * (2 ^ (8 * k') * 2 ^ 8) := by apply Nat.mul_le_mul_left; apply Nat.mul_le_mul_right; exact this)
          unfold mag; omega)
        rw [u8_of] at hy
        gi_wp2
        refine hR.mono ?_
        rintro e W3 (⟨rfl, hJ3, hk3⟩ | ⟨rfl, hJx3⟩)
        · have hc3 : W3.cell? ⟨Bn, 0, none⟩ = some (.int .i64 m) := Eq.trans hk3 hc
          gi_wp2
          go_roundw
          case rel => exact shift_rel hk (J := fun k => J (mag (m / 2 ^ (8 * k))) W3 ∧ W3.cell? ⟨Bn, 0, none⟩ = some (.int .i64 m)) ⟨by rw [H0.out]; exact hJ3, hc3⟩
          case measure => simp [intOf]; omega
        · gi_wp2
          refine bodyPost_ret (results_none rfl _ _ _) rfl ?_
          exact ⟨⟨_, rfl⟩, .inr ⟨_, trivial, hJx3⟩⟩

/-- codec.digits hands back a closure over the box of its argument -/
theorem digits_in (F : Fence) (n : Nat) (h5 : F.fn 130) (hro : F.round = none) (m : Nat) (w : World) :
    CallsIn F n Tryz.prog 130 #[.int .i64 m] w fun e w' => e = .returned (.func (.func 151) #[] #[.pointer (some ⟨w.heap.size, 0, none⟩)]) ∧ w' = w.alloc (.cells #[.int .i64 m] 3) := by
  refine callsIn_of_wp Tryz.func130 rfl h5 ?_ hro
  simp only [Tryz.ntmps130, List.size_toArray, List.length_cons, List.length_nil, Nat.reduceAdd, Nat.reduceSub, Array.replicate_succ, Array.replicate_zero, List.push_toArray, List.append_toArray, List.nil_append, List.cons_append]
  gi_wp2
  go_ret
  exact ⟨rfl, rfl⟩

theorem digits_stops (F : Fence) (n : Nat) (h6 : F.fn 151) (hro : F.round = none) (hn : 1 ≤ n) (Bn : Nat) (m : Nat) (hm : m < 2 ^ 63) (w : World) (hBn : Bn < w.heap.size)
    (hc : w.cell? ⟨Bn, 0, none⟩ = some (.int .i64 m)) :
    SeqStopsK F n Tryz.prog 151 #[.pointer (some ⟨Bn, 0, none⟩)] (fun x : UInt8 => #[Value.int .u8 (x.toNat : Int)]) (KeepAt Bn) (fun ys => ys = mag m) (fun _ => True) 8 w := fun l J Jx W hW _ _ hY h0 =>
  digits1_in F n h6 hro hn l Bn m hm J Jx hY W ((hW.cell (p := ⟨Bn, 0, none⟩) hBn).trans hc) h0

end Go.Proofs.YtfkjokbhnblndaaGreatDoor
