/- The plain mathematics of the encoding of integers: base 256 digits, heads. No program here. -/
namespace Go.Proofs.YtfkjokbhnblndaaGreatDoor

/-- the digits of n in base 256, the most significant first; at most k of them -/
def magF : Nat → Nat → List UInt8
  | 0, _ => []
  | k + 1, n => if n = 0 then [] else magF k (n / 256) ++ [UInt8.ofNat (n % 256)]
def mag (n : Nat) : List UInt8 := magF 9 n

theorem magF_zero (k : Nat) : magF k 0 = [] := by cases k <;> simp [magF]
theorem magF_succ (k n : Nat) (h : n ≠ 0) : magF (k + 1) n = magF k (n / 256) ++ [UInt8.ofNat (n % 256)] := by simp [magF, h]
theorem magF_more : ∀ (k n : Nat), n < 256 ^ k → magF (k + 1) n = magF k n
  | 0, n, h => by
    have : n = 0 := by simpa using h
    subst this; rfl
  | k + 1, n, h => by
    by_cases h0 : n = 0
    · simp [h0, magF_zero]
    · rw [magF_succ _ _ h0, magF_succ _ _ h0, magF_more k (n / 256) (by rw [Nat.div_lt_iff_lt_mul (by omega)]; rw [Nat.pow_succ] at h; exact h)]
theorem mag_zero : mag 0 = [] := rfl
theorem mag_step (n : Nat) (h : n < 256 ^ 9) (h0 : n ≠ 0) : mag n = mag (n / 256) ++ [UInt8.ofNat (n % 256)] := by
  unfold mag
  have h8 : n / 256 < 256 ^ 8 := by omega
  rw [magF_more 8 (n / 256) h8, magF_succ _ _ h0]
theorem magF_len : ∀ (k n : Nat), (magF k n).length ≤ k
  | 0, _ => by simp [magF]
  | k + 1, n => by
    rw [magF]
    split
    · simp
    · have := magF_len k (n / 256); simp; omega
theorem magF_len_of : ∀ (k j n : Nat), n < 256 ^ j → (magF k n).length ≤ j
  | 0, j, _, _ => by simp [magF]
  | k + 1, j, n, h => by
    rw [magF]
    split
    · simp
    · rename_i h0
      cases j with
      | zero => exact absurd (by simpa using h) h0
      | succ j =>
        have := magF_len_of k j (n / 256) (by rw [Nat.div_lt_iff_lt_mul (by omega)]; rw [Nat.pow_succ] at h; exact h)
        simp; omega
theorem mag_len (n : Nat) (h : n < 256 ^ 8) : (mag n).length ≤ 8 := magF_len_of 9 8 n h

def headP (k : Nat) : UInt8 := UInt8.ofNat (128 + k)
def headN (k : Nat) : UInt8 := UInt8.ofNat (127 - k)
theorem headP_nat {k : Nat} (h : k ≤ 8) : (headP k).toNat = 128 + k := by unfold headP; simp; omega
theorem headN_nat {k : Nat} (h : k ≤ 8) : (headN k).toNat = 127 - k := by unfold headN; simp; omega
/-- the encoding of an integer -/
def enc (n : Int) : List UInt8 :=
  if 0 ≤ n then headP (mag n.toNat).length :: mag n.toNat
  else headN (mag (-n - 1).toNat).length :: (mag (-n - 1).toNat).map (fun b => 255 - b)

theorem enc_len (n : Int) (h1 : -4611686018427387904 ≤ n) (h2 : n ≤ 4611686018427387904) : (enc n).length ≤ 9 := by
  unfold enc
  split
  · have := mag_len n.toNat (by omega); simp only [List.length_cons]; omega
  · have := mag_len (-n - 1).toNat (by omega); simp only [List.length_cons, List.length_map]; omega

end Go.Proofs.YtfkjokbhnblndaaGreatDoor
