/- The contracts of checksum.sums' methods, of 'each', and of Sum, Update, Combine, and of the reference's. -/
import Derived.Test.YtgnafneknaigjaaRows
import Derived.Test.YtgnafneknaigjaaBase
import Derived.WalkKit
import Derived.ProofKit
import Derived.Outline
import Derived.LoopTactic
import Derived.RegionTactic
import Derived.ChangeAlike
import Derived.StillTailTactics
import Derived.Deep.QuietTactic
import Derived.BigQuiet
import Derived.Lib.Hide
namespace Go.Proofs.Ytgnafneknaigjaa
open Go.RowKit
set_option linter.unusedVariables false

/-- one byte -/
def stepA (p : Int × Int) (c : UInt8) : Int × Int := ((p.1 + (c.toNat : Int)) % 65521, (p.2 + (p.1 + (c.toNat : Int)) % 65521) % 65521)
def fold (p : Int × Int) (l : List UInt8) : Int × Int := l.foldl stepA p
def Fine (p : Int × Int) : Prop := 0 ≤ p.1 ∧ p.1 < 65521 ∧ 0 ≤ p.2 ∧ p.2 < 65521
theorem fine_step {p : Int × Int} (h : Fine p) (c : UInt8) : Fine (stepA p c) := by
  unfold Fine stepA; simp only; omega
theorem fine_fold {p : Int × Int} (h : Fine p) (l : List UInt8) : Fine (fold p l) := by
  unfold fold
  induction l generalizing p with
  | nil => exact h
  | cons c l ih => exact ih (fine_step h c)
theorem fold_snoc (p : Int × Int) (l : List UInt8) (c : UInt8) : fold p (l ++ [c]) = stepA (fold p l) c := by simp [fold]
theorem take_snoc (s : ByteArray) (k : Nat) (h : k < s.size) : s.data.toList.take (k + 1) = s.data.toList.take k ++ [s[k]] := by
  rw [List.take_succ_eq_append_getElem (by simpa using h)]; rfl
def sumsO (p : Int × Int) : Obj := .cells #[.int .i64 p.1, .int .i64 p.2] 48 (0, 0)

theorem value_any (a b : Int) (w : World) (ha : 0 ≤ a) (ha' : a < 65521) (hb : 0 ≤ b) (hb' : b < 65521) :
    Calls Try.prog 19 #[.agg #[.int .i64 a, .int .i64 b]] w fun e w' => e = .returned (.int .i64 (b * 65536 + a)) ∧ Below w.heap.size w w' := by
  go_enter Try.func19, Try.ntmps19
  go_wp2
  go_ret
  exact ⟨rfl, (Below.refl _ _).alloc (Nat.le_refl _) _⟩

theorem add_any (a b : Int) (c : UInt8) (k : Nat) (w : World) (ha : 0 ≤ a) (ha' : a < 65521) (hb : 0 ≤ b) (hb' : b < 65521)
    (h : w.heap[k]? = some (sumsO (a, b))) :
    Calls Try.prog 18 #[.pointer (some ⟨k, 0, none⟩), .int .u8 (c.toNat : Int)] w fun e w' => e = .returned (.tuple #[]) ∧ Turn k (sumsO (stepA (a, b) c)) w w' := by
  have h0 : w.cell? ⟨k, 0, none⟩ = some (.int .i64 a) := cell_of h rfl
  have h1 : w.cell? ⟨k, 1, none⟩ = some (.int .i64 b) := cell_of h rfl
  have f0 : w.frozen? ⟨k, 0, none⟩ = false := free_of h
  have f1 : w.frozen? ⟨k, 1, none⟩ = false := free_of h
  have hc := c.toNat_lt
  have T0 := Lib.hid ((((Turn.refl h).setCell (i := 0) (.int .i64 ((a + c.toNat) % 65521))).setCell (i := 1) (.int .i64 ((b + (a + c.toNat)) % 65521))).drew)
  clear h
  go_enter Try.func18, Try.ntmps18
  go_wp2
  go_region
  go_wp2
  go_end0
  refine ⟨rfl, ?_⟩
  have T := T0.out
  simp [sumsO, stepA] at T ⊢
  exact T


theorem each_any (s : ByteArray) (p : Int × Int) (k : Nat) (w : World) (hs : s.size ≤ maxLen) (hp : Fine p) (h : w.heap[k]? = some (sumsO p)) :
    Calls Try.prog 17 #[.string s, .func (.func 18) #[.pointer (some ⟨k, 0, none⟩)] #[]] w fun e w' => e = .returned (.tuple #[]) ∧ Turn k (sumsO (fold p s.data.toList)) w w' := by
  unfold maxLen at hs
  have T0 := Lib.hid (Turn.refl h)
  have HP := Lib.hid hp
  clear h hp
  go_enter Try.func17, Try.ntmps17
  go_wp2
  go_loopw [7] (fun i wr => ∃ j : Nat, j ≤ s.size ∧ i = .int .i64 j ∧ Turn k (sumsO (fold p (s.data.toList.take j))) w wr) (fun i _ => s.size - (intOf i).toNat)
  case atStart => exact ⟨0, Nat.zero_le _, rfl, by simpa [fold] using T0.out⟩
  case round =>
    obtain ⟨j, hj, rfl, hT⟩ := hrel
    have T1 := Lib.hid hT
    clear hT
    by_cases hlt : j < s.size
    · have HS := Lib.hid (take_snoc s j hlt)
      go_wp2_with fail
      have hF := fine_fold HP.out (s.data.toList.take j)
      refine (add_any _ _ _ k _ hF.1 hF.2.1 hF.2.2.1 hF.2.2.2 T1.out.here).mono ?_
      rintro e w1 ⟨rfl, hT1⟩
      have T2 := Lib.hid (T1.out.trans hT1)
      clear hT1 hF
      go_wp2
      go_roundw
      case rel => exact ⟨j + 1, by omega, by go_num, by rw [HS.out, fold_snoc]; exact T2.out⟩
      case measure => simp [intOf]; omega
    · go_wp2
      go_end0
      have hk : s.data.toList.take j = s.data.toList := List.take_of_length_le (by simp; omega)
      exact ⟨rfl, by rw [← hk]; exact T1.out⟩

/-- the checksum of a list of bytes -/
def ck (l : List UInt8) : Int := (fold (1, 0) l).2 * 65536 + (fold (1, 0) l).1
theorem fine10 : Fine (1, 0) := by unfold Fine; omega

theorem Sum_any (s : ByteArray) (w : World) (hs : s.size ≤ maxLen) : Gives Try.prog 6 #[.string s] w (.int .i64 (ck s.data.toList)) := by
  obtain ⟨hF1, hF2, hF3, hF4⟩ := fine_fold fine10 s.data.toList
  unfold Gives
  go_enter Try.func6, Try.ntmps6
  go_wp2_with fail
  refine (each_any s (1, 0) w.heap.size _ hs fine10 ?_).mono ?_
  · exact alloc_here _ _
  rintro e w1 ⟨rfl, hT⟩
  have h0 : w1.cell? ⟨w.heap.size, 0, none⟩ = some (.int .i64 (fold (1,0) s.data.toList).1) := cell_of hT.here rfl
  have h1 : w1.cell? ⟨w.heap.size, 1, none⟩ = some (.int .i64 (fold (1,0) s.data.toList).2) := cell_of hT.here rfl
  have HB := Lib.hid (hT.below (Nat.le_refl _) (by simp))
  clear hT
  go_wp2_with fail
  refine (value_any _ _ _ hF1 hF2 hF3 hF4).mono ?_
  rintro e w2 ⟨rfl, hB2⟩
  go_wp2
  go_ret
  exact ⟨rfl, ((((Below.refl _ w).alloc (Nat.le_refl _) _).trans HB.out).trans (hB2.mono (by have := HB.out.size; simp at this; omega)))⟩

/-- is n a checksum -/
def isCk (n : Int) : Bool := decide (0 ≤ n ∧ n % 65536 < 65521 ∧ n / 65536 < 65521)
theorem isCk_true {n : Int} (h : isCk n = true) : 0 ≤ n ∧ n % 65536 < 65521 ∧ n / 65536 < 65521 := by simpa [isCk] using h
theorem isCk_mk {n : Int} (h1 : 0 ≤ n) (h2 : n % 65536 < 65521) (h3 : n / 65536 < 65521) : isCk n = true := by simp [isCk, h1, h2, h3]
theorem isCk_neg {n : Int} (h : n < 0) : isCk n = false := by simp [isCk]; omega
theorem isCk_no2 {n : Int} (h : ¬ n % 65536 < 65521) : isCk n = false := by simp [isCk]; omega
theorem isCk_no3 {n : Int} (h : ¬ n / 65536 < 65521) : isCk n = false := by simp [isCk]; omega

theorem Sum_l (l : List UInt8) (w : World) (hl : l.length ≤ maxLen) : Gives Try.prog 6 #[sV l] w (.int .i64 (ck l)) := Sum_any (sB l) w (by rw [sB_size]; exact hl)
/-- what Update returns -/
def updR (n : Int) (l : List UInt8) : Int := (fold (n % 65536, n / 65536) l).2 * 65536 + (fold (n % 65536, n / 65536) l).1
theorem fine_of {n : Int} (h1 : 0 ≤ n) (h2 : n % 65536 < 65521) (h3 : n / 65536 < 65521) : Fine (n % 65536, n / 65536) := by unfold Fine; simp only; omega

theorem refupdate_any (n : Int) (s : ByteArray) (w : World) (hs : s.size ≤ maxLen) (h1 : 0 ≤ n) (h2 : n % 65536 < 65521) (h3 : n / 65536 < 65521) :
    Gives Try.prog 20 #[.int .i64 n, .string s] w (.int .i64 (updR n s.data.toList)) := by
  unfold maxLen at hs
  have HP := Lib.hid (fine_of h1 h2 h3)
  unfold Gives
  go_enter Try.func20, Try.ntmps20
  go_wp2
  go_loop [5, 6, 7] (fun a b i => ∃ j : Nat, j ≤ s.size ∧ i = .int .i64 j ∧ a = .int .i64 (fold (n % 65536, n / 65536) (s.data.toList.take j)).1 ∧ b = .int .i64 (fold (n % 65536, n / 65536) (s.data.toList.take j)).2) (fun _ _ i => s.size - (intOf i).toNat)
  case atStart => exact ⟨0, Nat.zero_le _, rfl, by simp [fold], by simp [fold]⟩
  case round =>
    obtain ⟨j, hj, rfl, rfl, rfl⟩ := hrel
    obtain ⟨q1, q2, q3, q4⟩ := fine_fold HP.out (s.data.toList.take j)
    by_cases hlt : j < s.size
    · have HS := Lib.hid (take_snoc s j hlt)
      have hc := s[j].toNat_lt
      go_wp2
      go_round
      case rel => exact ⟨j + 1, by omega, by go_num, by rw [HS.out, fold_snoc]; rfl, by rw [HS.out, fold_snoc]; simp [stepA]⟩
      case measure => simp [intOf]; omega
    · go_wp2
      go_ret
      have hk : s.data.toList.take j = s.data.toList := List.take_of_length_le (by simp; omega)
      exact ⟨by rw [hk]; rfl, Below.refl _ _⟩

theorem updR_one (l : List UInt8) : updR 1 l = ck l := by simp [updR, ck]

theorem refSum_any (s : ByteArray) (w : World) (hs : s.size ≤ maxLen) : Gives Try.prog 7 #[.string s] w (.int .i64 (ck s.data.toList)) := by
  unfold Gives
  go_enter Try.func7, Try.ntmps7
  go_wp2_with fail
  refine (refupdate_any 1 s _ hs (by omega) (by omega) (by omega)).mono ?_
  intro w1 hB
  go_wp2
  go_ret
  exact ⟨by rw [updR_one]; rfl, hB⟩

theorem refSum_l (l : List UInt8) (w : World) (hl : l.length ≤ maxLen) : Gives Try.prog 7 #[sV l] w (.int .i64 (ck l)) := refSum_any (sB l) w (by rw [sB_size]; exact hl)
end Go.Proofs.Ytgnafneknaigjaa
