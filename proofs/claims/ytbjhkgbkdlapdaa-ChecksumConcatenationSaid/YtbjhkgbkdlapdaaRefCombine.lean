/- nurseryref02.Combine, and the laws of concatenation. -/
import Derived.Test.YtbjhkgbkdlapdaaCombine
import Derived.Test.YtbjhkgbkdlapdaaCkPlain
namespace Go.Proofs.Ytbjhkgbkdlapdaa
open Go.RowKit
set_option linter.unusedVariables false

theorem refCombine_yes (a b n : Int) (w : World) (ha : isCk a = true) (hb : isCk b = true) (h1 : 0 ≤ n) (h2 : n ≤ 1099511627776) : Gives Try.prog 19 #[.int .i64 a, .int .i64 b, .int .i64 n] w (.tuple #[.int .i64 (comb a b n), .int .i64 0]) := by
  obtain ⟨a1, a2, a3⟩ := isCk_true ha
  obtain ⟨b1, b2, b3⟩ := isCk_true hb
  have hn : decide (1099511627776 < n) = false := by simp; omega
  have hn0 : decide (n < 0) = false := by simp; omega
  clear ha hb
  have HC := Lib.hid (show comb a b n = ((a / 65536 + b / 65536 + n % 65521 * ((a % 65536 + 65521 - 1) % 65521)) % 65521) * 65536 + (a % 65536 + 65521 - 1 + b % 65536) % 65521 by
    unfold comb
    rw [show (a % 65536 - 1) % 65521 = (a % 65536 + 65521 - 1) % 65521 by omega, show (a % 65536 + b % 65536 - 1) % 65521 = (a % 65536 + 65521 - 1 + b % 65536) % 65521 by omega])
  have hr : 0 ≤ a / 65536 := by omega
  have hs : 0 ≤ b / 65536 := by omega
  have x2 : 0 ≤ n % 65521 ∧ n % 65521 < 65521 := by omega
  have x3 : 0 ≤ (a % 65536 + 65521 - 1) % 65521 ∧ (a % 65536 + 65521 - 1) % 65521 < 65521 := by omega
  have x4 : 0 ≤ n % 65521 * ((a % 65536 + 65521 - 1) % 65521) := Int.mul_nonneg x2.1 x3.1
  have x5 : n % 65521 * ((a % 65536 + 65521 - 1) % 65521) ≤ 65521 * 65521 := Int.mul_le_mul (by omega) (by omega) x3.1 (by omega)
  unfold Gives
  go_enter Try.func19, Try.ntmps19
  go_wp2_with fail
  refine (is_yes a _ a1 a2 a3).mono ?_
  intro w1 hB1
  go_wp2_with fail
  refine (is_yes b _ b1 b2 b3).mono ?_
  intro w2 hB2
  go_wp2
  go_ret2
  rw [HC.out]
  exact ⟨rfl, hB1.trans (hB2.mono hB1.size)⟩

theorem refCombine_no (a b n : Int) (w : World) (wa : (Lit.int .i64 a).wf = true) (wb : (Lit.int .i64 b).wf = true) (wn : (Lit.int .i64 n).wf = true) (h : ¬ (isCk a = true ∧ isCk b = true ∧ 0 ≤ n ∧ n ≤ 1099511627776)) :
    Gives Try.prog 19 #[.int .i64 a, .int .i64 b, .int .i64 n] w (.tuple #[.int .i64 0, .int .i64 2]) := by
  have H := Lib.hid h
  clear h
  unfold Gives
  cases ha : isCk a with
  | false =>
    have HA := Lib.hid ha
    clear ha
    go_enter Try.func19, Try.ntmps19
    go_wp2_with fail
    refine (is_no a _ HA.out wa).mono ?_
    intro w1 hB1
    go_wp2
    go_ret2
    exact ⟨rfl, hB1⟩
  | true =>
    obtain ⟨a1, a2, a3⟩ := isCk_true ha
    have HA := Lib.hid ha
    clear ha
    cases hb : isCk b with
    | false =>
      have HB := Lib.hid hb
      clear hb
      go_enter Try.func19, Try.ntmps19
      go_wp2_with fail
      refine (is_yes a _ a1 a2 a3).mono ?_
      intro w1 hB1
      go_wp2_with fail
      refine (is_no b _ HB.out wb).mono ?_
      intro w2 hB2
      go_wp2
      go_ret2
      exact ⟨rfl, hB1.trans (hB2.mono hB1.size)⟩
    | true =>
      obtain ⟨b1, b2, b3⟩ := isCk_true hb
      have hnn : ¬ (0 ≤ n ∧ n ≤ 1099511627776) := fun hx => H.out ⟨HA.out, hb, hx⟩
      clear hb
      by_cases hn : n < 0
      · go_enter Try.func19, Try.ntmps19
        go_wp2_with fail
        refine (is_yes a _ a1 a2 a3).mono ?_
        intro w1 hB1
        go_wp2_with fail
        refine (is_yes b _ b1 b2 b3).mono ?_
        intro w2 hB2
        go_wp2
        go_ret2
        exact ⟨rfl, hB1.trans (hB2.mono hB1.size)⟩
      · have hd : decide (1099511627776 < n) = true := by simp; omega
        have hd0 : decide (n < 0) = false := by simp; omega
        clear hnn
        go_enter Try.func19, Try.ntmps19
        go_wp2_with fail
        refine (is_yes a _ a1 a2 a3).mono ?_
        intro w1 hB1
        go_wp2_with fail
        refine (is_yes b _ b1 b2 b3).mono ?_
        intro w2 hB2
        go_wp2
        go_ret2
        exact ⟨rfl, hB1.trans (hB2.mono hB1.size)⟩

/-! the plain laws -/
theorem ck_parts (l : List UInt8) : ck l % 65536 = (fold (1, 0) l).1 ∧ ck l / 65536 = (fold (1, 0) l).2 := by
  obtain ⟨h1, h2, h3, h4⟩ := fine_fold fine10 l
  unfold ck; omega
theorem isCk_ck (l : List UInt8) : isCk (ck l) = true := by
  obtain ⟨h1, h2, h3, h4⟩ := fine_fold fine10 l
  obtain ⟨p1, p2⟩ := ck_parts l
  exact isCk_mk (by unfold ck; omega) (by omega) (by omega)
theorem updR_ck (x y : List UInt8) : updR (ck x) y = ck (x ++ y) := by
  obtain ⟨p1, p2⟩ := ck_parts x
  unfold updR
  rw [p1, p2]
  unfold ck fold
  rw [List.foldl_append]
theorem su_app : ∀ (x y : List UInt8), su (x ++ y) = su x + su y
  | [], y => by simp [su]
  | c :: x, y => by
    have := su_app x y
    simp only [List.cons_append, su, this]; omega
theorem sw_app : ∀ (x y : List UInt8), sw (x ++ y) = sw x + (y.length : Int) * su x + sw y
  | [], y => by simp [su, sw]
  | c :: x, y => by
    have := sw_app x y
    simp only [List.cons_append, su, sw, this, List.length_append]
    rw [show ((x.length + y.length : Nat) : Int) = (x.length : Int) + (y.length : Int) by omega, Int.mul_add, show (x.length : Int) + (y.length : Int) + 1 = ((x.length : Int) + 1) + (y.length : Int) by omega, Int.add_mul]
    omega
theorem comb_ck (x y : List UInt8) : comb (ck x) (ck y) y.length = ck (x ++ y) := by
  obtain ⟨p1, p2⟩ := ck_parts x
  obtain ⟨q1, q2⟩ := ck_parts y
  unfold comb
  rw [p1, p2, q1, q2, ck_val, fold_val x 1 0 fine10, fold_val y 1 0 fine10, su_app, sw_app]
  simp only [List.length_append]
  have e := Int.mul_emod (y.length : Int) (su x) 65521
  have e2 : ((1 + su x) % 65521 - 1) % 65521 = su x % 65521 := by omega
  rw [e2]
  generalize (y.length : Int) % 65521 * (su x % 65521) = U at *
  generalize (y.length : Int) * su x = V at *
  have e3 : (0 + ↑x.length * 1 + sw x) = (x.length : Int) + sw x := by omega
  have e4 : (0 + ↑y.length * 1 + sw y) = (y.length : Int) + sw y := by omega
  rw [e3, e4]
  omega

end Go.Proofs.Ytbjhkgbkdlapdaa
