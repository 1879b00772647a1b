/- codec.Int and nurseryref01.Int: one plain function, 'enc'. -/
import Derived.Test.YtgnafneknaigjaaInteger
namespace Go.Proofs.Ytgnafneknaigjaa
open Go.RowKit Go.Shelf
set_option linter.unusedVariables false

theorem integer_any (x : Int) (w : World) (h1 : -4611686018427387904 ≤ x) (h2 : x ≤ 4611686018427387904) : Gives Try.prog 27 #[.int .i64 x] w (sV (enc x)) := by
  unfold Gives
  by_cases h : 0 ≤ x
  · refine (callsIn_wide.1 (integer_pos Fence.wide 3 trivial trivial trivial rfl (by omega) x x.toNat (by omega) (by omega) w)).mono ?_
    rintro e w' ⟨rfl, hb⟩
    exact ⟨by rw [enc, if_pos h], hb⟩
  · refine (callsIn_wide.1 (integer_neg Fence.wide 3 trivial trivial trivial rfl (by omega) x (-x - 1).toNat (by omega) (by omega) w)).mono ?_
    rintro e w' ⟨rfl, hb⟩
    exact ⟨by rw [enc, if_neg h], hb⟩

theorem Int_yes (x : Int) (w : World) (h1 : -4611686018427387904 ≤ x) (h2 : x ≤ 4611686018427387904) : Gives Try.prog 15 #[.int .i64 x] w (.tuple #[sV (enc x), .int .i64 0]) := by
  unfold Gives
  go_enter Try.func15, Try.ntmps15
  go_wp2_with (first | (go_at_call 26; go_in) | (go_at_call 27; refine (integer_any _ _ h1 h2).mono ?_; intro w1 hB1))
  go_ret2
  exact ⟨rfl, hB1⟩

theorem Int_no (x : Int) (w : World) (h0 : (Lit.int .i64 x).wf = true) (h : x < -4611686018427387904 ∨ 4611686018427387904 < x) : Gives Try.prog 15 #[.int .i64 x] w (.tuple #[sV [], .int .i64 2]) := by
  obtain ⟨hx1, hx2⟩ := i64_bd h0
  clear h0
  unfold Gives
  rcases h with h | h
  · go_enter Try.func15, Try.ntmps15
    go_wp2
    go_ret2
    exact ⟨rfl, Below.refl _ _⟩
  · have h1 : -4611686018427387904 ≤ x := by omega
    have hd : decide (x ≤ 4611686018427387904) = false := by simp; omega
    go_enter Try.func15, Try.ntmps15
    go_wp2
    go_ret2
    exact ⟨rfl, Below.refl _ _⟩

/-! the reference -/
/-- a slice of bytes that the call made -/
def RowB (w : World) (base : Nat) (v : Value) (l : List UInt8) : Prop := (∃ g cap, v = .slice (some ⟨g, 0, none⟩) l.length cap) ∧ w.ownsRow base 5 1 v l.length (bsV l)
theorem RowB.lit (w : World) (base : Nat) (l : List UInt8) (hb : base ≤ w.heap.size) (hm : l.length ≤ maxLen) : RowB (w.alloc (.cells (bsV l).toArray 5)) base (.slice (some ⟨w.heap.size, 0, none⟩) l.length l.length) l :=
  ⟨⟨_, _, rfl⟩, World.ownsRow_lit w (bsV l).toArray l.length hb hm (by simp [bsV])⟩

theorem mag_part {n k : Nat} (hn : n < 2 ^ 63) {l : List UInt8} (h : mag n = mag k ++ l) (hk : k ≤ n) (h0 : k ≠ 0) : mag n = mag (k / 256) ++ (UInt8.ofNat (k % 256) :: l) := by
  rw [h, mag_step k (by omega) h0]; simp
theorem u8_mod (k : Nat) : (((UInt8.ofNat (k % 256)).toNat : Nat) : Int) = (k : Int) % 256 := by simp

theorem bsV_one (l : List UInt8) : ∀ u ∈ bsV l, u.oneCell' = true := by
  intro u hu
  simp only [bsV, List.mem_map] at hu
  obtain ⟨b, _, rfl⟩ := hu
  rfl
theorem bsV_cons (b : UInt8) (z : Int) (h : (b.toNat : Int) = z) (l : List UInt8) : [Value.int .u8 z] ++ bsV l = bsV (b :: l) := by subst h; rfl
theorem bsV_len (l : List UInt8) : (bsV l).length = l.length := by simp [bsV]

theorem head_eq {k : Nat} (h : k ≤ 8) : ((headP k).toNat : Int) = 128 + (k : Int) := by have := headP_nat h; omega
theorem headN_eq {k : Nat} (h : k ≤ 8) : ((headN k).toNat : Int) = 127 - (k : Int) := by have := headN_nat h; omega

theorem map_take_snoc (l : List UInt8) (f : UInt8 → UInt8) (k : Nat) (h : k < l.length) : (l.take (k + 1)).map f = (l.take k).map f ++ [f l[k]] := by
  rw [List.take_succ_eq_append_getElem h, List.map_append]; rfl

end Go.Proofs.Ytgnafneknaigjaa
