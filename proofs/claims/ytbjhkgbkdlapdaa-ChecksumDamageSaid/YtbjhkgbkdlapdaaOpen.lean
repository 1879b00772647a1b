/- checksum.Open and nurseryref02.Open: one plain function, 'opn'. -/
import Derived.Test.YtbjhkgbkdlapdaaRel
import Derived.Test.YtbjhkgbkdlapdaaSeal
import Derived.Test.YtbjhkgbkdlapdaaRefReadInt
namespace Go.Proofs.Ytbjhkgbkdlapdaa
open Go.RowKit
set_option linter.unusedVariables false

/-- what Open returns -/
def opn (s : List UInt8) : List UInt8 × Nat × Int :=
  if (rdI s).2.2 ≠ 0 then ([], 0, (rdI s).2.2)
  else if (rdI s).1 < 0 ∨ 100000 < (rdI s).1 then ([], 0, 12)
  else if s.length < (rdI s).2.1 + (rdI s).1.toNat + 4 then ([], 0, 11)
  else if (s.take ((rdI s).2.1 + (rdI s).1.toNat + 4)).drop ((rdI s).2.1 + (rdI s).1.toNat) ≠ be4 (ck (s.take ((rdI s).2.1 + (rdI s).1.toNat))) then ([], 0, 13)
  else ((s.take ((rdI s).2.1 + (rdI s).1.toNat)).drop (rdI s).2.1, (rdI s).2.1 + (rdI s).1.toNat + 4, 0)
def opV (s : List UInt8) : Value := .tuple #[sV (opn s).1, .int .i64 ((opn s).2.1 : Int), .int .i64 (opn s).2.2]

theorem refOpen_err (s : List UInt8) (w : World) (hs : s.length ≤ 1099511627776) (h : (rdI s).2.2 ≠ 0) : Gives Try.prog 24 #[sV s] w (opV s) := by
  have HV := Lib.hid (show opV s = .tuple #[sV [], .int .i64 0, .int .i64 (rdI s).2.2] by unfold opV; rw [opn, if_pos h]; rfl)
  have HR := Lib.hid (rdV_err h)
  have hb : ((rdI s).2.2 != 0) = true := by rw [bne_iff_ne]; exact h
  clear h
  unfold Gives
  go_enter Try.func24, Try.ntmps24
  go_wp2_with fail
  refine (refReadInt_any s _ hs).mono ?_
  intro w1 hB1
  rw [HR.out]
  generalize (rdI s).2.2 = e at *
  go_wp2
  go_ret3
  rw [HV.out]
  exact ⟨rfl, hB1⟩

theorem Open_err (s : List UInt8) (w : World) (hs : s.length ≤ 1099511627776) (h : (rdI s).2.2 ≠ 0) : Gives Try.prog 23 #[sV s] w (opV s) := by
  have HV := Lib.hid (show opV s = .tuple #[sV [], .int .i64 0, .int .i64 (rdI s).2.2] by unfold opV; rw [opn, if_pos h]; rfl)
  have HR := Lib.hid (rdV_err h)
  have hb : ((rdI s).2.2 != 0) = true := by rw [bne_iff_ne]; exact h
  clear h
  unfold Gives
  go_enter Try.func23, Try.ntmps23
  go_wp2_with fail
  refine (ReadInt_any s _ hs).mono ?_
  intro w1 hB1
  rw [HR.out]
  generalize (rdI s).2.2 = e at *
  go_wp2
  go_ret3
  rw [HV.out]
  exact ⟨rfl, hB1⟩

/-- the length is no length -/
theorem refOpen_range (s : List UInt8) (w : World) (hs : s.length ≤ 1099511627776) (h : (rdI s).2.2 = 0) (h2 : (rdI s).1 < 0 ∨ 100000 < (rdI s).1) : Gives Try.prog 24 #[sV s] w (opV s) := by
  have HV := Lib.hid (show opV s = .tuple #[sV [], .int .i64 0, .int .i64 12] by unfold opV; rw [opn, if_neg (by simp [h]), if_pos h2]; rfl)
  have HR := Lib.hid (show rdV s = .tuple #[.int .i64 (rdI s).1, .int .i64 ((rdI s).2.1 : Int), .int .i64 0] by unfold rdV; rw [h])
  clear h
  generalize (rdI s).1 = n at *
  generalize (rdI s).2.1 = k at *
  unfold Gives
  rcases h2 with h2 | h2
  · go_enter Try.func24, Try.ntmps24
    go_wp2_with fail
    refine (refReadInt_any s _ hs).mono ?_
    intro w1 hB1
    rw [HR.out]
    go_wp2
    go_ret3
    rw [HV.out]
    exact ⟨rfl, hB1⟩
  · have hd : decide (n < 0) = false := by simp; omega
    have hd2 : decide (100000 < n) = true := by simp; omega
    go_enter Try.func24, Try.ntmps24
    go_wp2_with fail
    refine (refReadInt_any s _ hs).mono ?_
    intro w1 hB1
    rw [HR.out]
    go_wp2
    go_ret3
    rw [HV.out]
    exact ⟨rfl, hB1⟩

theorem Open_range (s : List UInt8) (w : World) (hs : s.length ≤ 1099511627776) (h : (rdI s).2.2 = 0) (h2 : (rdI s).1 < 0 ∨ 100000 < (rdI s).1) : Gives Try.prog 23 #[sV s] w (opV s) := by
  have HV := Lib.hid (show opV s = .tuple #[sV [], .int .i64 0, .int .i64 12] by unfold opV; rw [opn, if_neg (by simp [h]), if_pos h2]; rfl)
  have HR := Lib.hid (show rdV s = .tuple #[.int .i64 (rdI s).1, .int .i64 ((rdI s).2.1 : Int), .int .i64 0] by unfold rdV; rw [h])
  clear h
  generalize (rdI s).1 = n at *
  generalize (rdI s).2.1 = k at *
  unfold Gives
  rcases h2 with h2 | h2
  · go_enter Try.func23, Try.ntmps23
    go_wp2_with fail
    refine (ReadInt_any s _ hs).mono ?_
    intro w1 hB1
    rw [HR.out]
    go_wp2
    go_ret3
    rw [HV.out]
    exact ⟨rfl, hB1⟩
  · have hd : decide (n < 0) = false := by simp; omega
    have hd2 : decide (100000 < n) = true := by simp; omega
    go_enter Try.func23, Try.ntmps23
    go_wp2_with fail
    refine (ReadInt_any s _ hs).mono ?_
    intro w1 hB1
    rw [HR.out]
    go_wp2
    go_ret3
    rw [HV.out]
    exact ⟨rfl, hB1⟩

/-- the string ends too early -/
theorem refOpen_short (s : List UInt8) (n k : Nat) (w : World) (hs : s.length ≤ 1099511627776) (h : rdI s = ((n : Int), k, 0)) (hn : n ≤ 100000) (hk : k ≤ s.length) (h3 : s.length < k + n + 4) : Gives Try.prog 24 #[sV s] w (opV s) := by
  have HV := Lib.hid (show opV s = .tuple #[sV [], .int .i64 0, .int .i64 11] by unfold opV; rw [opn, h]; simp only [Int.toNat_natCast]; rw [if_neg (by simp), if_neg (by omega), if_pos h3]; rfl)
  have HR := Lib.hid (show rdV s = .tuple #[.int .i64 (n : Int), .int .i64 (k : Int), .int .i64 0] by unfold rdV; rw [h])
  have hd2 : decide ((100000 : Int) < (n : Int)) = false := by simp; omega
  clear h
  unfold Gives
  go_enter Try.func24, Try.ntmps24
  go_wp2_with fail
  refine (refReadInt_any s _ hs).mono ?_
  intro w1 hB1
  rw [HR.out]
  go_wp2
  go_ret3
  rw [HV.out]
  exact ⟨rfl, hB1⟩

theorem Open_short (s : List UInt8) (n k : Nat) (w : World) (hs : s.length ≤ 1099511627776) (h : rdI s = ((n : Int), k, 0)) (hn : n ≤ 100000) (hk : k ≤ s.length) (h3 : s.length < k + n + 4) : Gives Try.prog 23 #[sV s] w (opV s) := by
  have HV := Lib.hid (show opV s = .tuple #[sV [], .int .i64 0, .int .i64 11] by unfold opV; rw [opn, h]; simp only [Int.toNat_natCast]; rw [if_neg (by simp), if_neg (by omega), if_pos h3]; rfl)
  have HR := Lib.hid (show rdV s = .tuple #[.int .i64 (n : Int), .int .i64 (k : Int), .int .i64 0] by unfold rdV; rw [h])
  have hd2 : decide ((100000 : Int) < (n : Int)) = false := by simp; omega
  clear h
  unfold Gives
  go_enter Try.func23, Try.ntmps23
  go_wp2_with fail
  refine (ReadInt_any s _ hs).mono ?_
  intro w1 hB1
  rw [HR.out]
  go_wp2
  go_ret3
  rw [HV.out]
  exact ⟨rfl, hB1⟩

end Go.Proofs.Ytbjhkgbkdlapdaa
