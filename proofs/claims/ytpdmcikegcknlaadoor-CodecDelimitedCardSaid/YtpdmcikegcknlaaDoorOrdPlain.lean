/- The bytewise order of encodings, plain. -/
import Derived.Test.YtpdmcikegcknlaaDoorLsPlain
import Derived.Test.YtpdmcikegcknlaaDoorTxPlain
import Derived.Lib.Bytealg
import Derived.Lib.Small
import Derived.Lib.Strings
namespace Go.Proofs.YtpdmcikegcknlaaDoor

abbrev cB (a b : List UInt8) : Int := Go.Lib.compareBytes a b
theorem cB_nil : cB [] [] = 0 := rfl
theorem cB_self : ∀ a : List UInt8, cB a a = 0
  | [] => rfl
  | c :: a => by
    show (if c < c then (-1 : Int) else if c < c then 1 else cB a a) = 0
    rw [if_neg (by simp), if_neg (by simp)]; exact cB_self a
theorem cB_cons (c d : UInt8) (a b : List UInt8) : cB (c :: a) (d :: b) = if c < d then -1 else if d < c then 1 else cB a b := rfl
theorem cB_lt {c d : UInt8} (h : c < d) (a b : List UInt8) : cB (c :: a) (d :: b) = -1 := by rw [cB_cons, if_pos h]
theorem cB_neg : ∀ a b : List UInt8, cB b a = - cB a b
  | [], [] => rfl
  | [], _ :: _ => rfl
  | _ :: _, [] => rfl
  | c :: a, d :: b => by
    rw [cB_cons, cB_cons]
    by_cases h : c < d
    · have h2 : ¬ d < c := by rw [UInt8.lt_iff_toNat_lt] at *; omega
      rw [if_pos h, if_neg h2, if_pos h]; rfl
    · by_cases h2 : d < c
      · rw [if_pos h2, if_neg h, if_pos h2]
      · rw [if_neg h2, if_neg h, if_neg h, if_neg h2, cB_neg a b]
theorem cB_app (p a b : List UInt8) : cB (p ++ a) (p ++ b) = cB a b := by
  induction p with
  | nil => rfl
  | cons c p ih =>
    show cB (c :: (p ++ a)) (c :: (p ++ b)) = _
    rw [cB_cons, if_neg (by simp), if_neg (by simp)]; exact ih

theorem val_cons (c : UInt8) (l : List UInt8) : val (c :: l) = c.toNat * 256 ^ l.length + val l := by
  induction l using snoc_induct with
  | h0 => simp [val]
  | h1 l b ih =>
    have e : c :: (l ++ [b]) = (c :: l) ++ [b] := rfl
    rw [e, val_snoc, val_snoc, ih]
    simp [Nat.pow_succ]
    rw [Nat.add_mul, Nat.mul_assoc]; omega

/-- digits of the same number of places: the first place at which they differ -/
theorem dig_diff : ∀ d e : List UInt8, d.length = e.length → val d < val e → ∃ p u v d' e', d = p ++ u :: d' ∧ e = p ++ v :: e' ∧ u < v
  | [], [], _, h => by simp at h
  | [], _ :: _, h, _ => by simp at h
  | _ :: _, [], h, _ => by simp at h
  | c :: d, c' :: e, h, hv => by
    have hl : d.length = e.length := by simpa using h
    rw [val_cons, val_cons, ← hl] at hv
    by_cases h1 : c < c'
    · exact ⟨[], c, c', d, e, rfl, rfl, h1⟩
    · by_cases h2 : c = c'
      · subst h2
        obtain ⟨p, u, v, d', e', q1, q2, q3⟩ := dig_diff d e hl (by omega)
        exact ⟨c :: p, u, v, d', e', by rw [q1]; rfl, by rw [q2]; rfl, q3⟩
      · exfalso
        have h3 : c'.toNat + 1 ≤ c.toNat := by
          rw [UInt8.lt_iff_toNat_lt] at h1
          have : c.toNat ≠ c'.toNat := fun e => h2 (UInt8.toNat_inj.1 e)
          omega
        have h4 := val_lt e
        rw [← hl] at h4
        have h5 := Nat.mul_le_mul_right (256 ^ d.length) h3
        rw [Nat.add_mul] at h5
        omega

theorem mag_lower (n : Nat) (h9 : n < 256 ^ 9) (h : n ≠ 0) : 256 ^ ((mag n).length - 1) ≤ n := by
  have h1 := lead_mag n h9
  have h2 := val_mag n h9
  have h3 := mag_ne n h9 h
  cases hm : mag n with
  | nil => exact absurd hm h3
  | cons c l =>
    rw [hm] at h1 h2
    rw [val_cons] at h2
    have hc : c ≠ 0 := by
      intro e; subst e; simp [lead] at h1
    have hc2 : 1 ≤ c.toNat := by
      have : c.toNat ≠ 0 := fun e => hc (UInt8.toNat_inj.1 (by simpa using e))
      omega
    have := Nat.mul_le_mul_right (256 ^ l.length) hc2
    simp; omega
theorem mag_mono {m n : Nat} (h9 : n < 256 ^ 9) (h : m < n) : (mag m).length ≤ (mag n).length := by
  by_cases hc : (mag m).length ≤ (mag n).length
  · exact hc
  · exfalso
    have h1 : m ≠ 0 := by rintro rfl; simp [mag_zero] at hc
    have h2 := mag_lower m (by omega) h1
    have h3 := val_lt (mag n)
    rw [val_mag n h9] at h3
    have h4 : 256 ^ (mag n).length ≤ 256 ^ ((mag m).length - 1) := Nat.pow_le_pow_right (by omega) (by omega)
    omega

theorem cB_diff {p d' e' : List UInt8} {u v : UInt8} (h : u < v) : cB (p ++ u :: d') (p ++ v :: e') = -1 := by rw [cB_app, cB_lt h]
theorem sub_lt {u v : UInt8} (h : u < v) : 255 - v < 255 - u := by
  have hu := u.toNat_lt
  have hv := v.toNat_lt
  rw [UInt8.lt_iff_toNat_lt] at *
  have e1 : ∀ b : UInt8, (255 - b).toNat = 255 - b.toNat := fun b => by
    have hb := b.toNat_lt
    rw [UInt8.toNat_sub_of_le _ _ (by rw [UInt8.le_iff_toNat_le]; simp; omega)]; rfl
  rw [e1, e1]; omega

theorem enc_lt {a b : Int} (ha : -4611686018427387904 ≤ a) (hb : b ≤ 4611686018427387904) (h : a < b) (x y : List UInt8) : cB (enc a ++ x) (enc b ++ y) = -1 := by
  unfold enc
  by_cases h0 : 0 ≤ a
  · rw [if_pos h0, if_pos (by omega)]
    obtain ⟨m, rfl⟩ := Int.eq_ofNat_of_zero_le h0
    obtain ⟨n, rfl⟩ := Int.eq_ofNat_of_zero_le (by omega : 0 ≤ b)
    have hmn : m < n := by omega
    have hl := mag_mono (by omega) hmn
    have l1 := mag_len m (by omega)
    have l2 := mag_len n (by omega)
    by_cases he : (mag m).length = (mag n).length
    · have hv : val (mag m) < val (mag n) := by rw [val_mag m (by omega), val_mag n (by omega)]; exact hmn
      obtain ⟨p, u, v, d', e', q1, q2, q3⟩ := dig_diff _ _ he hv
      show cB (headP (mag m).length :: (mag m ++ x)) (headP (mag n).length :: (mag n ++ y)) = -1
      rw [he, q1, q2]
      have := cB_diff (p := headP (p ++ v :: e').length :: p) (d' := d' ++ x) (e' := e' ++ y) q3
      simpa using this
    · refine cB_lt ?_ _ _
      rw [UInt8.lt_iff_toNat_lt]
      show (headP (mag m).length).toNat < (headP (mag n).length).toNat
      rw [headP_nat l1, headP_nat l2]; omega
  · rw [if_neg h0]
    have l1 := mag_len (-a - 1).toNat (by omega)
    by_cases h1 : 0 ≤ b
    · rw [if_pos h1]
      have l2 := mag_len b.toNat (by omega)
      refine cB_lt ?_ _ _
      rw [UInt8.lt_iff_toNat_lt, headN_nat l1, headP_nat l2]; omega
    · rw [if_neg h1]
      have l2 := mag_len (-b - 1).toNat (by omega)
      have hmn : (-b - 1).toNat < (-a - 1).toNat := by omega
      have hl := mag_mono (by omega) hmn
      generalize hm : (-a - 1).toNat = m at *
      generalize hn : (-b - 1).toNat = n at *
      by_cases he : (mag m).length = (mag n).length
      · have hv : val (mag n) < val (mag m) := by rw [val_mag m (by omega), val_mag n (by omega)]; exact hmn
        obtain ⟨p, u, v, d', e', q1, q2, q3⟩ := dig_diff _ _ he.symm hv
        show cB (headN (mag m).length :: ((mag m).map (fun b => 255 - b) ++ x)) (headN (mag n).length :: ((mag n).map (fun b => 255 - b) ++ y)) = -1
        rw [he, q1, q2]
        have := cB_diff (p := headN (p ++ u :: d').length :: p.map (fun b => 255 - b)) (d' := e'.map (fun b => 255 - b) ++ x) (e' := d'.map (fun b => 255 - b) ++ y) (sub_lt q3)
        simpa using this
      · refine cB_lt ?_ _ _
        rw [UInt8.lt_iff_toNat_lt, headN_nat l1, headN_nat l2]; omega

theorem enc_cmp {a b : Int} (ha : inR a = true) (hb : inR b = true) (x y : List UInt8) : cB (enc a ++ x) (enc b ++ y) = if a < b then -1 else if b < a then 1 else cB x y := by
  have h1 := (inR_iff a).1 ha
  have h2 := (inR_iff b).1 hb
  by_cases h : a < b
  · rw [if_pos h]; exact enc_lt h1.1 h2.2 h x y
  · rw [if_neg h]
    by_cases h' : b < a
    · rw [if_pos h', cB_neg, enc_lt h2.1 h1.2 h' y x]; rfl
    · rw [if_neg h']
      obtain rfl : a = b := by omega
      exact cB_app _ _ _

/-- the reference's order of lists -/
def rcmp : List Int → List Int → Int
  | [], [] => 0
  | [], _ :: _ => -1
  | _ :: _, [] => 1
  | a :: l, b :: m => if a < b then -1 else if b < a then 1 else rcmp l m

theorem one_lt_enc {n : Int} (h : inR n = true) (x y : List UInt8) : cB (1 :: x) (enc n ++ y) = -1 := by
  have h1 := (inR_iff n).1 h
  unfold enc
  split
  · have l := mag_len n.toNat (by omega)
    refine cB_lt ?_ _ _
    rw [UInt8.lt_iff_toNat_lt, headP_nat l]; show 1 < _; omega
  · have l := mag_len (-n - 1).toNat (by omega)
    refine cB_lt ?_ _ _
    rw [UInt8.lt_iff_toNat_lt, headN_nat l]; show 1 < _; omega
theorem encL_cmp : ∀ a b : List Int, a.all inR = true → b.all inR = true → cB (encL a) (encL b) = rcmp a b
  | [], [], _, _ => rfl
  | [], n :: b, _, h => by
    rw [List.all_cons, Bool.and_eq_true] at h
    have e : encL (n :: b) = enc n ++ encL b := by simp [encL, encs_cons]
    rw [e]; exact one_lt_enc h.1 _ _
  | n :: a, [], h, _ => by
    rw [List.all_cons, Bool.and_eq_true] at h
    have e : encL (n :: a) = enc n ++ encL a := by simp [encL, encs_cons]
    rw [e, cB_neg]
    show -(cB (1 :: []) (enc n ++ encL a)) = 1
    rw [one_lt_enc h.1]; rfl
  | m :: a, n :: b, h, h' => by
    rw [List.all_cons, Bool.and_eq_true] at h h'
    have e : encL (n :: b) = enc n ++ encL b := by simp [encL, encs_cons]
    have e' : encL (m :: a) = enc m ++ encL a := by simp [encL, encs_cons]
    rw [e, e', enc_cmp h.1 h'.1, encL_cmp a b h.2 h'.2]; rfl
theorem enc_ne (n : Int) : ∃ c t, enc n = c :: t := by unfold enc; split <;> exact ⟨_, _, rfl⟩
theorem encs_cmp : ∀ a b : List Int, a.all inR = true → b.all inR = true → cB (encs a) (encs b) = rcmp a b
  | [], [], _, _ => rfl
  | [], n :: b, _, h => by
    rw [encs_cons]
    obtain ⟨c, t, e⟩ := enc_ne n
    rw [e]; rfl
  | n :: a, [], h, _ => by
    rw [encs_cons]
    obtain ⟨c, t, e⟩ := enc_ne n
    rw [e]; rfl
  | m :: a, n :: b, h, h' => by
    rw [List.all_cons, Bool.and_eq_true] at h h'
    rw [encs_cons, encs_cons, enc_cmp h.1 h'.1, encs_cmp a b h.2 h'.2]; rfl
theorem encI_cmp {a b : Int} (ha : inR a = true) (hb : inR b = true) : cB (enc a) (enc b) = Go.Lib.compareInt a b := by
  have := enc_cmp ha hb [] []
  rw [List.append_nil, List.append_nil] at this
  rw [this]; unfold Go.Lib.compareInt
  by_cases h : a < b
  · rw [if_pos h, if_pos h]
  · rw [if_neg h, if_neg h]; rfl

theorem esc1_of {c : UInt8} (h : c ≠ 0) : esc1 c = [c] := if_neg h
theorem zero_lt {c : UInt8} (h : c ≠ 0) : 0 < c := by
  rw [UInt8.lt_iff_toNat_lt]
  have : c.toNat ≠ 0 := fun e => h (UInt8.toNat_inj.1 (by simpa using e))
  show 0 < c.toNat; omega
theorem end_lt (c : UInt8) (x y : List UInt8) : cB (0 :: 1 :: x) (esc1 c ++ y) = -1 := by
  by_cases h : c = 0
  · subst h
    show cB (0 :: 1 :: x) (0 :: 255 :: y) = -1
    rw [cB_cons, if_neg (by simp), if_neg (by simp)]
    exact cB_lt (by decide) _ _
  · rw [esc1_of h]; exact cB_lt (zero_lt h) _ _
theorem esc_lt {c d : UInt8} (h : c < d) (x y : List UInt8) : cB (esc1 c ++ x) (esc1 d ++ y) = -1 := by
  have hd : d ≠ 0 := by rintro rfl; rw [UInt8.lt_iff_toNat_lt] at h; simp at h
  rw [esc1_of hd]
  by_cases hc : c = 0
  · subst hc; exact cB_lt h _ _
  · rw [esc1_of hc]; exact cB_lt h _ _
theorem encT_cmp : ∀ t u : List UInt8, cB (encT t) (encT u) = cB t u
  | [], [] => rfl
  | [], c :: u => by
    have e : encT (c :: u) = esc1 c ++ encT u := by simp [encT, esc_cons]
    rw [e]; exact end_lt c [] _
  | c :: t, [] => by
    have e : encT (c :: t) = esc1 c ++ encT t := by simp [encT, esc_cons]
    rw [e, cB_neg]
    show -(cB (0 :: 1 :: []) (esc1 c ++ encT t)) = 1
    rw [end_lt]; rfl
  | c :: t, d :: u => by
    have e : encT (c :: t) = esc1 c ++ encT t := by simp [encT, esc_cons]
    have e' : encT (d :: u) = esc1 d ++ encT u := by simp [encT, esc_cons]
    rw [e, e', cB_cons]
    by_cases h : c < d
    · rw [if_pos h]; exact esc_lt h _ _
    · rw [if_neg h]
      by_cases h' : d < c
      · rw [if_pos h', cB_neg, esc_lt h']; rfl
      · rw [if_neg h']
        have : c = d := by
          rw [UInt8.lt_iff_toNat_lt] at h h'
          exact UInt8.toNat_inj.1 (by omega)
        subst this
        rw [cB_app]; exact encT_cmp t u

theorem encT_prefix (t u : List UInt8) (ht : t.length ≤ 100000) (hu : u.length ≤ 100000) : Go.Lib.hasPrefix (encT t) (encT u) = (t == u) := by
  unfold Go.Lib.hasPrefix
  by_cases h : t = u
  · subst h; simp
  · rw [show (t == u) = false by simp [h]]
    rw [Bool.eq_false_iff]
    intro hp
    obtain ⟨r, hr⟩ := List.isPrefixOf_iff_prefix.1 hp
    have h1 := rdX_enc t [] ht
    rw [List.append_nil, ← hr, rdX_enc u r hu] at h1
    exact h (congrArg Prod.fst h1).symm
theorem encL_prefix (a b : List Int) (ha : a.all inR = true) (hb : b.all inR = true) (h1 : a.length ≤ 20000) (h2 : b.length ≤ 20000) : Go.Lib.hasPrefix (encL a) (encL b) = (a == b) := by
  unfold Go.Lib.hasPrefix
  by_cases h : a = b
  · subst h; simp
  · rw [show (a == b) = false by simp [h]]
    rw [Bool.eq_false_iff]
    intro hp
    obtain ⟨r, hr⟩ := List.isPrefixOf_iff_prefix.1 hp
    have h3 := rdL_enc a [] ha h1
    rw [List.append_nil, ← hr, rdL_enc b r hb h2] at h3
    exact h (congrArg Prod.fst h3).symm

end Go.Proofs.YtpdmcikegcknlaaDoor
