/- codec.Int and nurseryref01.Int: one plain function, 'enc'. -/
import Derived.Test.YtpdmcikegcknlaaDoorInteger
namespace Go.Proofs.YtpdmcikegcknlaaDoor
open Go.RowKit Go.Shelf
set_option linter.unusedVariables false

theorem integer_any (x : Int) (w : World) (h1 : -4611686018427387904 ≤ x) (h2 : x ≤ 4611686018427387904) : Gives Tryd.prog 35 #[.int .i64 x] w (sV (enc x)) := by
  unfold Gives
  by_cases h : 0 ≤ x
  · refine (callsIn_wide.1 (integer_pos Fence.wide 3 trivial trivial trivial rfl (by omega) x x.toNat (by omega) (by omega) w)).mono ?_
    rintro e w' ⟨rfl, hb⟩
    exact ⟨by rw [enc, if_pos h], hb⟩
  · refine (callsIn_wide.1 (integer_neg Fence.wide 3 trivial trivial trivial rfl (by omega) x (-x - 1).toNat (by omega) (by omega) w)).mono ?_
    rintro e w' ⟨rfl, hb⟩
    exact ⟨by rw [enc, if_neg h], hb⟩

theorem Int_yes (x : Int) (w : World) (h1 : -4611686018427387904 ≤ x) (h2 : x ≤ 4611686018427387904) : Gives Tryd.prog 16 #[.int .i64 x] w (.tuple #[sV (enc x), .int .i64 0]) := by
  unfold Gives
  go_enter Tryd.func16, Tryd.ntmps16
  go_wp2_with (first | (go_at_call 33; go_in) | (go_at_call 35; refine (integer_any _ _ h1 h2).mono ?_; intro w1 hB1))
  go_ret2
  exact ⟨rfl, hB1⟩

theorem Int_no (x : Int) (w : World) (h0 : (Lit.int .i64 x).wf = true) (h : x < -4611686018427387904 ∨ 4611686018427387904 < x) : Gives Tryd.prog 16 #[.int .i64 x] w (.tuple #[sV [], .int .i64 2]) := by
  obtain ⟨hx1, hx2⟩ := i64_bd h0
  clear h0
  unfold Gives
  rcases h with h | h
  · go_enter Tryd.func16, Tryd.ntmps16
    go_wp2
    go_ret2
    exact ⟨rfl, Below.refl _ _⟩
  · have h1 : -4611686018427387904 ≤ x := by omega
    have hd : decide (x ≤ 4611686018427387904) = false := by simp; omega
    go_enter Tryd.func16, Tryd.ntmps16
    go_wp2
    go_ret2
    exact ⟨rfl, Below.refl _ _⟩

/-! the reference -/
/-- a slice of bytes that the call made -/
def RowB (w : World) (base : Nat) (v : Value) (l : List UInt8) : Prop := (∃ g cap, v = .slice (some ⟨g, 0, none⟩) l.length cap) ∧ w.ownsRow base 5 1 v l.length (bsV l)
theorem RowB.lit (w : World) (base : Nat) (l : List UInt8) (hb : base ≤ w.heap.size) (hm : l.length ≤ maxLen) : RowB (w.alloc (.cells (bsV l).toArray 5)) base (.slice (some ⟨w.heap.size, 0, none⟩) l.length l.length) l :=
  ⟨⟨_, _, rfl⟩, World.ownsRow_lit w (bsV l).toArray l.length hb hm (by simp [bsV])⟩

theorem mag_part {n k : Nat} (hn : n < 2 ^ 63) {l : List UInt8} (h : mag n = mag k ++ l) (hk : k ≤ n) (h0 : k ≠ 0) : mag n = mag (k / 256) ++ (UInt8.ofNat (k % 256) :: l) := by
  rw [h, mag_step k (by omega) h0]; simp
theorem u8_mod (k : Nat) : (((UInt8.ofNat (k % 256)).toNat : Nat) : Int) = (k : Int) % 256 := by simp

theorem bsV_one (l : List UInt8) : ∀ u ∈ bsV l, u.oneCell' = true := by
  intro u hu
  simp only [bsV, List.mem_map] at hu
  obtain ⟨b, _, rfl⟩ := hu
  rfl
theorem bsV_cons (b : UInt8) (z : Int) (h : (b.toNat : Int) = z) (l : List UInt8) : [Value.int .u8 z] ++ bsV l = bsV (b :: l) := by subst h; rfl
theorem bsV_len (l : List UInt8) : (bsV l).length = l.length := by simp [bsV]

set_option maxHeartbeats 1000000 in
theorem magnitude_any (n : Nat) (w : World) (hn : n < 2 ^ 63) : Calls Tryd.prog 42 #[.int .i64 n] w fun e w' => ∃ v, e = .returned v ∧ RowB w' w.heap.size v (mag n) ∧ Below w.heap.size w w' := by
  obtain ⟨i0, hi, hz0, hz1, hz2⟩ := info_parts infoB
  have hML : (mag n).length ≤ 8 := mag_len n (by omega)
  go_enter Tryd.func42, Tryd.ntmps42
  go_wp2
  go_loopw [0, 3] (fun k v wr => ∃ (q : Nat) (l : List UInt8) (g cap : Nat), k = .int .i64 q ∧ q ≤ n ∧ mag n = mag q ++ l ∧ v = .slice (some ⟨g, 0, none⟩) l.length cap ∧ wr.ownsRow w.heap.size 5 1 v l.length (bsV l) ∧ Below w.heap.size w wr) (fun k _ _ => (intOf k).toNat)
  case atStart => exact ⟨n, [], w.heap.size, 0, rfl, Nat.le_refl _, by simp, rfl, World.ownsRow_lit w #[] 0 (Nat.le_refl _) (by unfold maxLen; omega) (by simp), (Below.refl _ w).alloc (Nat.le_refl _) _⟩
  case round =>
    obtain ⟨q, l, g, cap, rfl, hq, hm, rfl, hrow, hB⟩ := hrel
    by_cases h0 : q = 0
    · have hl : l = mag n := by rw [hm, h0]; simp [mag_zero]
      subst h0
      have HL := Lib.hid hl
      clear hl hm
      go_wp2
      go_ret
      refine ⟨_, rfl, ?_⟩
      rw [← HL.out]
      exact ⟨⟨⟨g, cap, rfl⟩, hrow⟩, hB⟩
    · have HM := Lib.hid (mag_part hn hm hq h0)
      have hl : l.length ≤ 8 := by rw [hm] at hML; simp at hML; omega
      clear hm
      go_wp2_with (at_builtin; go_loud (refine wpList_append_own _ rfl _ _ 48 rfl w.heap.size 5 i0 (.int .u8 0) 1 1 Tryd.underlying48 hi hz0 hz1 hz2 rfl (by decide) _ 1 [.int .u8 ((q : Int) % 256)] rfl (World.ownsRow_lit (base := w.heap.size) wr #[.int .u8 ((q : Int) % 256)] 1 hB.size (by unfold maxLen; omega) (by simp)) ⟨g, 0, none⟩ l.length cap (bsV l) rfl (by simp [bsV_len]) (fun j u hj => (hrow.alloc _).cells rfl j u hj) (bsV_one l) (by unfold maxLen; omega) (by omega) (by have := hB.size; simp; omega) ?_); intro v' w1 hown' hgrow _)
      rw [Nat.add_comm, bsV_cons _ _ (u8_mod q)] at hown'
      obtain ⟨g', cap', rfl⟩ := ownsRow_succ hown'
      go_roundw
      case rel => exact ⟨q / 256, UInt8.ofNat (q % 256) :: l, g', cap', by simp, by omega, HM.out, rfl, hown', (hB.alloc hB.size _).grown hgrow (by have := hB.size; simp; omega) (fun k e => by cases e; exact hB.size)⟩
      case measure => simp [intOf]; omega


theorem head_eq {k : Nat} (h : k ≤ 8) : ((headP k).toNat : Int) = 128 + (k : Int) := by have := headP_nat h; omega
theorem headN_eq {k : Nat} (h : k ≤ 8) : ((headN k).toNat : Int) = 127 - (k : Int) := by have := headN_nat h; omega

set_option maxHeartbeats 1000000 in
theorem refInt_pos (x : Int) (w : World) (h1 : 0 ≤ x) (h2 : x ≤ 4611686018427387904) : Gives Tryd.prog 24 #[.int .i64 x] w (.tuple #[sV (enc x), .int .i64 0]) := by
  obtain ⟨n, rfl⟩ := Int.eq_ofNat_of_zero_le h1
  have hE := Lib.hid (show enc (n : Int) = headP (mag n).length :: mag n by rw [enc, if_pos h1]; rfl)
  obtain ⟨i0, hi, hz0, hz1, hz2⟩ := info_parts infoB
  have hML : (mag n).length ≤ 8 := mag_len n (by omega)
  unfold Gives
  go_enter Tryd.func24, Tryd.ntmps24
  go_wp2_with fail
  refine (magnitude_any n _ (by omega)).mono ?_
  rintro e w1 ⟨v, rfl, ⟨⟨g, cap, rfl⟩, hrow⟩, hB⟩
  have hz := hB.size
  go_wp2_with (at_builtin; go_loud (refine wpList_append_own _ rfl _ _ 48 rfl w.heap.size 5 i0 (.int .u8 0) 1 1 Tryd.underlying48 hi hz0 hz1 hz2 rfl (by decide) _ 1 [.int .u8 (128 + ((mag n).length : Int))] rfl (World.ownsRow_lit (base := w.heap.size) w1 #[.int .u8 (128 + ((mag n).length : Int))] 1 hz (by unfold maxLen; omega) (by simp)) ⟨g, 0, none⟩ (mag n).length cap (bsV (mag n)) rfl (by simp [bsV_len]) (fun j u hj => (hrow.alloc _).cells rfl j u hj) (bsV_one _) (by unfold maxLen; omega) (by omega) (by simp; omega) ?_); intro v' w2 hown' hgrow _; rw [Nat.add_comm, bsV_cons _ _ (head_eq hML)] at hown'; obtain ⟨g', cap', rfl⟩ := ownsRow_succ hown'; have hconv := conv_own (by simp) hown')
  go_ret2
  exact ⟨by rw [hE.out]; rfl, (hB.alloc hz _).grown hgrow (by simp; omega) (fun k e => by cases e; exact hz)⟩

theorem map_take_snoc (l : List UInt8) (f : UInt8 → UInt8) (k : Nat) (h : k < l.length) : (l.take (k + 1)).map f = (l.take k).map f ++ [f l[k]] := by
  rw [List.take_succ_eq_append_getElem h, List.map_append]; rfl

set_option maxHeartbeats 2000000 in
theorem refInt_neg (x : Int) (w : World) (h1 : -4611686018427387904 ≤ x) (h2 : x < 0) : Gives Tryd.prog 24 #[.int .i64 x] w (.tuple #[sV (enc x), .int .i64 0]) := by
  obtain ⟨n, hn⟩ : ∃ n : Nat, n = (-x - 1).toNat := ⟨_, rfl⟩
  have hE := Lib.hid (show enc x = headN (mag n).length :: (mag n).map (fun b => 255 - b) by rw [enc, if_neg (by omega), hn])
  have hX := Lib.hid (show (-x - 1 : Int) = (n : Int) by omega)
  have hb : n < 2 ^ 62 := by omega
  clear hn
  obtain ⟨i0, hi, hz0, hz1, hz2⟩ := info_parts infoB
  have hML : (mag n).length ≤ 8 := mag_len n (by omega)
  have hd : decide (0 ≤ x) = false := by simp; omega
  unfold Gives
  go_enter Tryd.func24, Tryd.ntmps24
  go_wp2_with fail
  rw [hX.out]
  refine (magnitude_any n _ (by omega)).mono ?_
  rintro e w1 ⟨v, rfl, ⟨⟨g, cap, rfl⟩, hrow⟩, hB⟩
  have hz := hB.size
  go_wp2
  have hg := hrow.lt g rfl
  have own0 := World.ownsRow_lit (base := w1.heap.size) (e := 5) (size := 1) w1 #[.int .u8 (127 - ((mag n).length : Int))] 1 (Nat.le_refl _) (by unfold maxLen; omega) (by simp)
  have hcells : ∀ k, k < (mag n).length → w1.cell? ⟨g, k, none⟩ = some (.int .u8 (((mag n)[k]?.getD 0).toNat : Int)) := fun k hk => by
    rw [hrow.cellAt k (by omega)]
    simp [bsV, bV, hk]
  have HC := Lib.hid hcells
  clear hcells
  go_loopw [6, 7] (fun v i wr => ∃ (k g2 cap2 : Nat), i = .int .i64 k ∧ k ≤ (mag n).length ∧ v = .slice (some ⟨g2, 0, none⟩) (k + 1) cap2 ∧ wr.ownsRow w1.heap.size 5 1 v (k + 1) (bsV (headN (mag n).length :: ((mag n).take k).map (fun b => 255 - b))) ∧ Below w1.heap.size w1 wr) (fun _ i _ => (mag n).length - (intOf i).toNat)
  case atStart => exact ⟨0, w1.heap.size, 1, rfl, Nat.zero_le _, rfl, by rw [← bsV_cons _ _ (headN_eq hML)]; exact own0, (Below.refl _ w1).alloc (Nat.le_refl _) _⟩
  case round =>
    obtain ⟨k, g2, cap2, rfl, hk, rfl, hrow2, hB2⟩ := hrel
    have hz2 := hB2.size
    by_cases hlt : k < (mag n).length
    · have hc := (hB2.cell (p := ⟨g, k, none⟩) hg.2).trans (HC.out k hlt)
      have hs := Lib.hid (map_take_snoc (mag n) (fun b => 255 - b) k hlt)
      have hby := ((mag n)[k]?.getD 0).toNat_lt
      have hxe := Lib.hid (show (mag n)[k]?.getD 0 = (mag n)[k] by simp [hlt])
      generalize (mag n)[k]?.getD 0 = b at *
      go_wp2_with (at_builtin; go_loud (refine wpList_append_own _ rfl _ _ 48 rfl w1.heap.size 5 i0 (.int .u8 0) 1 1 Tryd.underlying48 hi hz0 hz1 (by assumption) rfl (by decide) _ _ _ rfl (hrow2.alloc _) ⟨wr.heap.size, 0, none⟩ 1 1 [.int .u8 (255 - (b.toNat : Int))] rfl rfl (cell_one_new _ _ _) (by simp [Value.oneCell']) (by unfold maxLen; omega) (by omega) (by simp; omega) ?_); intro v' w2 hown' hgrow _)
      rw [show (255 - (b.toNat : Int)) = (((255 - b : UInt8).toNat : Nat) : Int) from (sub255 b).symm, bsV_app] at hown'
      obtain ⟨g', cap', rfl⟩ := ownsRow_succ hown'
      go_roundw
      case rel =>
        refine ⟨k + 1, g', cap', by go_num, by omega, rfl, ?_, (hB2.alloc hz2 _).grown hgrow (by simp; omega) (fun j e => ?_)⟩
        · rw [hs.out, ← hxe.out]; exact hown'
        · cases e; exact (hrow2.lt _ rfl).1
      case measure => simp [intOf]; omega
    · have hke : k = (mag n).length := by omega
      subst hke
      rw [List.take_length] at hrow2
      have hconv := conv_own (by simp) hrow2
      go_wp2
      go_ret2
      exact ⟨by rw [hE.out]; rfl, hB.trans (hB2.mono hz)⟩

theorem refInt_yes (x : Int) (w : World) (h1 : -4611686018427387904 ≤ x) (h2 : x ≤ 4611686018427387904) : Gives Tryd.prog 24 #[.int .i64 x] w (.tuple #[sV (enc x), .int .i64 0]) := by
  by_cases h : 0 ≤ x
  · exact refInt_pos x w h h2
  · exact refInt_neg x w h1 (by omega)

theorem refInt_no (x : Int) (w : World) (h0 : (Lit.int .i64 x).wf = true) (h : x < -4611686018427387904 ∨ 4611686018427387904 < x) : Gives Tryd.prog 24 #[.int .i64 x] w (.tuple #[sV [], .int .i64 2]) := by
  obtain ⟨hx1, hx2⟩ := i64_bd h0
  clear h0
  unfold Gives
  rcases h with h | h
  · go_enter Tryd.func24, Tryd.ntmps24
    go_wp2
    go_ret2
    exact ⟨rfl, Below.refl _ _⟩
  · have h1 : -4611686018427387904 ≤ x := by omega
    go_enter Tryd.func24, Tryd.ntmps24
    go_wp2
    go_ret2
    exact ⟨rfl, Below.refl _ _⟩

end Go.Proofs.YtpdmcikegcknlaaDoor
