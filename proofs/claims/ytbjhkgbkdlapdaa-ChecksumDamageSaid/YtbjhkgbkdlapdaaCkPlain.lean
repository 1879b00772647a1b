/- The plain law of the checksum: a changed byte, two exchanged bytes. No program here. -/
import Derived.Test.YtbjhkgbkdlapdaaSums
namespace Go.Proofs.Ytbjhkgbkdlapdaa

/-- the sum of the bytes -/
def su : List UInt8 → Int
  | [] => 0
  | c :: l => (c.toNat : Int) + su l
/-- the bytes, each as often as it is counted in the second sum -/
def sw : List UInt8 → Int
  | [] => 0
  | c :: l => ((l.length : Int) + 1) * (c.toNat : Int) + sw l

theorem fold_val : ∀ (l : List UInt8) (a b : Int), Fine (a, b) → fold (a, b) l = ((a + su l) % 65521, (b + l.length * a + sw l) % 65521)
  | [], a, b, h => by
    obtain ⟨h1, h2, h3, h4⟩ := h
    simp only at h1 h2 h3 h4
    show (a, b) = _
    refine Prod.ext ?_ ?_
    · show a = (a + 0) % 65521
      omega
    · show b = (b + ((0 : Nat) : Int) * a + 0) % 65521
      simp; omega
  | c :: l, a, b, h => by
    have ih := fold_val l ((a + (c.toNat : Int)) % 65521) ((b + (a + (c.toNat : Int)) % 65521) % 65521) (fine_step h c)
    have e : fold (a, b) (c :: l) = fold ((a + (c.toNat : Int)) % 65521, (b + (a + (c.toNat : Int)) % 65521) % 65521) l := rfl
    rw [e, ih]
    simp only [su, sw, List.length_cons]
    refine Prod.ext ?_ ?_
    · simp only; omega
    · simp only
      rw [show ((l.length + 1 : Nat) : Int) = (l.length : Int) + 1 by omega]
      generalize (l.length : Int) = n at *
      generalize (c.toNat : Int) = x at *
      generalize sw l = s at *
      have h1 : (a + x) % 65521 = a + x - 65521 * ((a + x) / 65521) := by omega
      generalize (a + x) / 65521 = q at h1
      rw [h1]
      rw [Int.mul_sub, Int.mul_add, Int.mul_left_comm, Int.add_mul, Int.add_mul, Int.one_mul, Int.one_mul]
      generalize n * a = A
      generalize n * x = X
      generalize n * q = Z
      omega

theorem ck_val (l : List UInt8) : ck l = ((l.length + sw l) % 65521) * 65536 + (1 + su l) % 65521 := by
  unfold ck
  rw [fold_val l 1 0 fine10]
  simp

theorem su_set : ∀ (l : List UInt8) (i : Nat) (b : UInt8) (h : i < l.length), su (l.set i b) = su l - (l[i].toNat : Int) + (b.toNat : Int)
  | c :: l, 0, b, h => by simp [su]; omega
  | c :: l, i + 1, b, h => by
    have := su_set l i b (by simpa using h)
    simp [su, this]; omega
theorem sw_set : ∀ (l : List UInt8) (i : Nat) (b : UInt8) (h : i < l.length), sw (l.set i b) = sw l + ((l.length : Int) - i) * ((b.toNat : Int) - (l[i].toNat : Int))
  | c :: l, 0, b, h => by
    simp only [List.set_cons_zero, sw, List.length_cons, List.getElem_cons_zero]
    rw [show ((l.length + 1 : Nat) : Int) - ((0 : Nat) : Int) = (l.length : Int) + 1 by omega, Int.mul_sub]
    omega
  | c :: l, i + 1, b, h => by
    have := sw_set l i b (by simpa using h)
    simp only [List.set_cons_succ, sw, this, List.length_cons, List.getElem_cons_succ, List.length_set]
    rw [show ((l.length + 1 : Nat) : Int) - ((i + 1 : Nat) : Int) = (l.length : Int) - i by omega]
    omega

/-- a changed byte changes the checksum -/
theorem ck_byte (l : List UInt8) (i : Nat) (b : UInt8) (h : i < l.length) (hb : b ≠ l[i]) : ck (l.set i b) ≠ ck l := by
  rw [ck_val, ck_val, su_set l i b h]
  have h1 := b.toNat_lt
  have h2 := l[i].toNat_lt
  have h3 : b.toNat ≠ l[i].toNat := fun e => hb (UInt8.toNat_inj.1 e)
  omega

/-- two different bytes that are at most 256 places apart -/
theorem ck_exchange (l : List UInt8) (i k : Nat) (hi : i < l.length) (hk : k < l.length) (h1 : i < k) (h2 : k ≤ i + 256) (hne : l[i] ≠ l[k]) : ck ((l.set i l[k]).set k l[i]) ≠ ck l := by
  have hk' : k < (l.set i l[k]).length := by simpa using hk
  have e1 : (l.set i l[k])[k] = l[k] := by rw [List.getElem_set_ne (by omega)]
  rw [ck_val, ck_val, su_set _ _ _ hk', su_set _ _ _ hi, sw_set _ _ _ hk', sw_set _ _ _ hi, e1]
  simp only [List.length_set]
  have q1 := l[i].toNat_lt
  have q2 := l[k].toNat_lt
  have q3 : l[i].toNat ≠ l[k].toNat := fun e => hne (UInt8.toNat_inj.1 e)
  generalize (l[i].toNat) = x at *
  generalize (l[k].toNat) = y at *
  generalize sw l = s at *
  generalize su l = t at *
  generalize hL : (l.length : Int) = L at *
  obtain ⟨d, rfl⟩ : ∃ d, k = i + d := ⟨k - i, by omega⟩
  have e2 : s + (L - (i : Int)) * ((y : Int) - x) + (L - ((i + d : Nat) : Int)) * ((x : Int) - y) = s + (d : Int) * ((y : Int) - x) := by
    rw [show (L - ((i + d : Nat) : Int)) = (L - (i : Int)) - (d : Int) by omega, show (x : Int) - y = -((y : Int) - x) by omega, Int.mul_neg]
    generalize L - (i : Int) = m
    generalize (y : Int) - x = v
    rw [Int.sub_mul]
    omega
  rw [e2]
  have hd1 : (1 : Int) ≤ d := by omega
  have hd2 : (d : Int) ≤ 256 := by omega
  have hz : ∃ z : Int, z = (d : Int) * ((y : Int) - x) ∧ z ≠ 0 ∧ -65280 ≤ z ∧ z ≤ 65280 := by
    refine ⟨_, rfl, ?_, ?_, ?_⟩
    · intro h0
      rcases Int.mul_eq_zero.1 h0 with h | h <;> omega
    · have : (d : Int) * ((y : Int) - x) ≥ (d : Int) * (-255) := Int.mul_le_mul_of_nonneg_left (by omega) (by omega)
      omega
    · have : (d : Int) * ((y : Int) - x) ≤ (d : Int) * 255 := Int.mul_le_mul_of_nonneg_left (by omega) (by omega)
      omega
  obtain ⟨z, hz1, hz2, hz3, hz4⟩ := hz
  rw [← hz1]
  omega

end Go.Proofs.Ytbjhkgbkdlapdaa
