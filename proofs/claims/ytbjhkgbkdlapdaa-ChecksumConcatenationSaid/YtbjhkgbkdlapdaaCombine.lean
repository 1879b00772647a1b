/- checksum.Combine and nurseryref02.Combine: one plain function, 'comb'. -/
import Derived.Test.YtbjhkgbkdlapdaaSums
import Derived.Test.YtbjhkgbkdlapdaaRegion
import Derived.StillTailTactics
import Derived.Laws.NewBlocks
import Derived.Deep.RegionHeld3
namespace Go.Proofs.Ytbjhkgbkdlapdaa
open Go.RowKit
set_option linter.unusedVariables false

theorem mod_any (n : Int) (w : World) (h0 : (Lit.int .i64 n).wf = true) : Calls Try.prog 32 #[.int .i64 n] w fun e w' => e = .returned (.int .i64 (n % 65521)) ∧ w' = w := by
  obtain ⟨h1, h2⟩ := i64_bd h0
  clear h0
  have ht : -65521 < n.tmod 65521 ∧ n.tmod 65521 < 65521 ∧ (n.tmod 65521 + 65521) % 65521 = n % 65521 := by
    by_cases h : 0 ≤ n
    · rw [Int.tmod_eq_emod_of_nonneg h]; omega
    · rw [tmod_neg_eq n (by omega)]; omega
  obtain ⟨t1, t2, t3⟩ := ht
  have T3 := Lib.hid t3
  clear t3
  go_enter Try.func32, Try.ntmps32
  go_wp2
  go_ret
  exact ⟨by rw [← T3.out]; rfl, rfl⟩

/-- what Combine returns -/
def comb (a b n : Int) : Int := ((a / 65536 + b / 65536 + n % 65521 * ((a % 65536 - 1) % 65521)) % 65521) * 65536 + (a % 65536 + b % 65536 - 1) % 65521

theorem mod_at (n m : Int) (w : World) (h1 : -9223372036854775808 ≤ n) (h2 : n ≤ 9223372036854775807) (hm : n % 65521 = m) : Calls Try.prog 32 #[.int .i64 n] w fun e w' => e = .returned (.int .i64 m) ∧ w' = w := by
  subst hm; exact mod_any n w (by simp [Lit.wf, IntKind.min, IntKind.max, IntKind.signed, IntKind.bits]; omega)

set_option maxRecDepth 100000 in
set_option maxHeartbeats 1000000 in
theorem Combine_yes (a b n : Int) (w : World) (ha : isCk a = true) (hb : isCk b = true) (h1 : 0 ≤ n) (h2 : n ≤ 1099511627776) : Gives Try.prog 18 #[.int .i64 a, .int .i64 b, .int .i64 n] w (.tuple #[.int .i64 (comb a b n), .int .i64 0]) := by
  obtain ⟨a1, a2, a3⟩ := isCk_true ha
  obtain ⟨b1, b2, b3⟩ := isCk_true hb
  have hn : decide (1099511627776 < n) = false := by simp; omega
  clear ha hb
  unfold Gives
  go_enter Try.func18, Try.ntmps18
  go_wp2_with fail
  refine (of_yes a _ a1 a2 a3).mono ?_
  rintro e w1 ⟨rfl, hB1⟩
  go_wp2_with fail
  refine (of_yes b _ b1 b2 b3).mono ?_
  rintro e w2 ⟨rfl, hB2⟩
  go_wp2
  have hA : w1.heap.size < w2.heap.size := by have := hB2.size; simp at this; omega
  have c0 : (w2.alloc (.cells #[.int .i64 (b % 65536), .int .i64 (b / 65536)] 43)).cell? ⟨w1.heap.size, 0, none⟩ = some (.int .i64 (a % 65536)) :=
    ((Below.cell ((Below.refl w2.heap.size w2).alloc (Nat.le_refl _) _) (p := ⟨w1.heap.size, 0, none⟩) hA).trans (hB2.cell (p := ⟨w1.heap.size, 0, none⟩) (by simp))).trans (cell_of (alloc_here w1 _) rfl)
  have c1 : (w2.alloc (.cells #[.int .i64 (b % 65536), .int .i64 (b / 65536)] 43)).cell? ⟨w1.heap.size, 1, none⟩ = some (.int .i64 (a / 65536)) :=
    ((Below.cell ((Below.refl w2.heap.size w2).alloc (Nat.le_refl _) _) (p := ⟨w1.heap.size, 1, none⟩) hA).trans (hB2.cell (p := ⟨w1.heap.size, 1, none⟩) (by simp))).trans (cell_of (alloc_here w1 _) rfl)
  have c2 : (w2.alloc (.cells #[.int .i64 (b % 65536), .int .i64 (b / 65536)] 43)).cell? ⟨w2.heap.size, 0, none⟩ = some (.int .i64 (b % 65536)) := cell_of (alloc_here w2 _) rfl
  have c3 : (w2.alloc (.cells #[.int .i64 (b % 65536), .int .i64 (b / 65536)] 43)).cell? ⟨w2.heap.size, 1, none⟩ = some (.int .i64 (b / 65536)) := cell_of (alloc_here w2 _) rfl
  have hB : Below w.heap.size w (w2.alloc (.cells #[.int .i64 (b % 65536), .int .i64 (b / 65536)] 43)) :=
    ((hB1.alloc hB1.size _).trans (hB2.mono (by have := hB1.size; simp; omega))).alloc (by have := hB1.size; omega) _
  generalize (w2.alloc (.cells #[.int .i64 (b % 65536), .int .i64 (b / 65536)] 43)) = W at *
  clear hB1 hB2
  generalize w1.heap.size = A at *
  generalize w2.heap.size = B at *
  have HC := Lib.hid (show comb a b n = ((a / 65536 + b / 65536 + n % 65521 * ((a % 65536 - 1) % 65521)) % 65521) * 65536 + (a % 65536 + b % 65536 - 1) % 65521 from rfl)
  have hr : 0 ≤ a / 65536 := by omega
  have hs : 0 ≤ b / 65536 := by omega
  have hp : 0 ≤ a % 65536 := by omega
  have hq : 0 ≤ b % 65536 := by omega
  generalize a % 65536 = p at *
  generalize b % 65536 = q at *
  generalize a / 65536 = r at *
  generalize b / 65536 = s at *
  have x1 : 0 ≤ (p + q - 1) % 65521 ∧ (p + q - 1) % 65521 < 65521 := by omega
  have x2 : 0 ≤ n % 65521 ∧ n % 65521 < 65521 := by omega
  have x3 : 0 ≤ (p - 1) % 65521 ∧ (p - 1) % 65521 < 65521 := by omega
  have x4 : 0 ≤ n % 65521 * ((p - 1) % 65521) := Int.mul_nonneg x2.1 x3.1
  have x5 : n % 65521 * ((p - 1) % 65521) ≤ 65521 * 65521 := Int.mul_le_mul (by omega) (by omega) x3.1 (by omega)
  have x6 : 0 ≤ (r + s + n % 65521 * ((p - 1) % 65521)) % 65521 ∧ (r + s + n % 65521 * ((p - 1) % 65521)) % 65521 < 65521 := by omega
  have e1 := wrapi (x := p + q) (by omega) (by omega)
  have e2 := wrapi (x := p + q - 1) (by omega) (by omega)
  have e3 := wrapi (x := r + s) (by omega) (by omega)
  have e4 := wrapi (x := p - 1) (by omega) (by omega)
  have e5 := wrapi (x := n % 65521 * ((p - 1) % 65521)) (by omega) (by omega)
  have e6 := wrapi (x := r + s + n % 65521 * ((p - 1) % 65521)) (by omega) (by omega)
  go_region_held3 (fun w' => w'.cell? ⟨A, 0, none⟩ = some (.int .i64 p) ∧ w'.cell? ⟨A, 1, none⟩ = some (.int .i64 r) ∧ w'.cell? ⟨B, 0, none⟩ = some (.int .i64 q) ∧ w'.cell? ⟨B, 1, none⟩ = some (.int .i64 s)) (go_keep)
    (first | (go_at_call 32; refine (mod_at _ _ _ (by omega) (by omega) rfl).mono ?_; rintro e w' ⟨rfl, rfl⟩))
  all_goals
    go_wp2_with fail
    refine (value_any _ _ _ x1.1 x1.2 x6.1 x6.2).mono ?_
    rintro e w3 ⟨rfl, hB3⟩
    go_wp2
    go_ret2
    rw [HC.out]
    exact ⟨rfl, Below.trans (by first | exact (hB.alloc hB.size _).drew | exact hB.drew.alloc hB.size _) (hB3.mono (by have := hB.size; simp; omega))⟩

/-- the three ways to a refusal -/
theorem Combine_no (a b n : Int) (w : World) (wa : (Lit.int .i64 a).wf = true) (wb : (Lit.int .i64 b).wf = true) (wn : (Lit.int .i64 n).wf = true) (h : ¬ (isCk a = true ∧ isCk b = true ∧ 0 ≤ n ∧ n ≤ 1099511627776)) :
    Gives Try.prog 18 #[.int .i64 a, .int .i64 b, .int .i64 n] w (.tuple #[.int .i64 0, .int .i64 2]) := by
  have H := Lib.hid h
  clear h
  unfold Gives
  cases ha : isCk a with
  | false =>
    have HA := Lib.hid ha
    clear ha
    go_enter Try.func18, Try.ntmps18
    go_wp2_with fail
    refine (of_no a _ HA.out wa).mono ?_
    rintro e w1 ⟨x, y, rfl, hB1⟩
    go_wp2_with fail
    cases hb : isCk b with
    | false =>
      refine (of_no b _ hb wb).mono ?_
      rintro e w2 ⟨x2, y2, rfl, hB2⟩
      clear hb
      go_wp2
      go_ret2
      exact ⟨rfl, ((hB1.alloc hB1.size _).trans (hB2.mono (by have := hB1.size; simp; omega))).alloc (by have := hB1.size; have := hB2.size; simp at this; omega) _⟩
    | true =>
      obtain ⟨b1, b2, b3⟩ := isCk_true hb
      refine (of_yes b _ b1 b2 b3).mono ?_
      rintro e w2 ⟨rfl, hB2⟩
      clear hb
      go_wp2
      go_ret2
      exact ⟨rfl, ((hB1.alloc hB1.size _).trans (hB2.mono (by have := hB1.size; simp; omega))).alloc (by have := hB1.size; have := hB2.size; simp at this; omega) _⟩
  | true =>
    obtain ⟨a1, a2, a3⟩ := isCk_true ha
    have HA := Lib.hid ha
    clear ha
    cases hb : isCk b with
    | false =>
      have HB := Lib.hid hb
      clear hb
      go_enter Try.func18, Try.ntmps18
      go_wp2_with fail
      refine (of_yes a _ a1 a2 a3).mono ?_
      rintro e w1 ⟨rfl, hB1⟩
      go_wp2_with fail
      refine (of_no b _ HB.out wb).mono ?_
      rintro e w2 ⟨x2, y2, rfl, hB2⟩
      go_wp2
      go_ret2
      exact ⟨rfl, ((hB1.alloc hB1.size _).trans (hB2.mono (by have := hB1.size; simp; omega))).alloc (by have := hB1.size; have := hB2.size; simp at this; omega) _⟩
    | true =>
      obtain ⟨b1, b2, b3⟩ := isCk_true hb
      have hnn : ¬ (0 ≤ n ∧ n ≤ 1099511627776) := fun hx => H.out ⟨HA.out, hb, hx⟩
      clear hb
      by_cases hn : n < 0
      · go_enter Try.func18, Try.ntmps18
        go_wp2_with fail
        refine (of_yes a _ a1 a2 a3).mono ?_
        rintro e w1 ⟨rfl, hB1⟩
        go_wp2_with fail
        refine (of_yes b _ b1 b2 b3).mono ?_
        rintro e w2 ⟨rfl, hB2⟩
        go_wp2
        go_ret2
        exact ⟨rfl, ((hB1.alloc hB1.size _).trans (hB2.mono (by have := hB1.size; simp; omega))).alloc (by have := hB1.size; have := hB2.size; simp at this; omega) _⟩
      · have hd : decide (1099511627776 < n) = true := by simp; omega
        have hd0 : decide (n < 0) = false := by simp; omega
        clear hnn
        go_enter Try.func18, Try.ntmps18
        go_wp2_with fail
        refine (of_yes a _ a1 a2 a3).mono ?_
        rintro e w1 ⟨rfl, hB1⟩
        go_wp2_with fail
        refine (of_yes b _ b1 b2 b3).mono ?_
        rintro e w2 ⟨rfl, hB2⟩
        go_wp2
        go_ret2
        exact ⟨rfl, ((hB1.alloc hB1.size _).trans (hB2.mono (by have := hB1.size; simp; omega))).alloc (by have := hB1.size; have := hB2.size; simp at this; omega) _⟩

end Go.Proofs.Ytbjhkgbkdlapdaa
