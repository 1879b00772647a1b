/- codec.Text, nurseryref01.Text, codec.Hash, nurseryref01.Hash. -/
import Derived.Test.YtpdmcikegcknlaaDoorRefReadText
import Derived.Test.YtpdmcikegcknlaaDoorShelf
namespace Go.Proofs.YtpdmcikegcknlaaDoor
open Go.RowKit
set_option linter.unusedVariables false

/-- the library's variable of the longest string that it searches holds an integer -/
def MaxL (w : World) : Prop := ∃ m, w.cell? ⟨0, 0, none⟩ = some (.int .i64 m)
theorem MaxL.lt {w : World} (h : MaxL w) : 0 < w.heap.size := by obtain ⟨m, h⟩ := h; exact cell_lt h
theorem MaxL.ext {w w' : World} (h : MaxL w) (hb : Below w.heap.size w w') : MaxL w' := by
  obtain ⟨m, h⟩ := h
  exact ⟨m, (hb.cell (p := ⟨0, 0, none⟩) (cell_lt h)).trans h⟩

theorem Text_any (l : List UInt8) (w : World) (hl : l.length ≤ 1000000) (hm : MaxL w) : Gives Tryd.prog 18 #[sV l] w (.tuple #[sV (txS l), .int .i64 (txE l)]) := by
  unfold Gives
  by_cases h2 : 100000 < l.length
  · have HS := Lib.hid (show txS l = [] by unfold txS; rw [if_pos h2])
    have HE := Lib.hid (show txE l = 4 by unfold txE; rw [if_pos h2])
    have d : decide ((100000 : Int) < ((l.length : Nat) : Int)) = true := by simp; omega
    clear hm
    go_enter Tryd.func18, Tryd.ntmps18
    go_wp2
    go_ret2
    exact ⟨by rw [HS.out, HE.out]; rfl, Below.refl _ _⟩
  · have HS := Lib.hid (show txS l = esc l ++ [0, 1] by unfold txS encT; rw [if_neg h2])
    have HE := Lib.hid (show txE l = 0 by unfold txE; rw [if_neg h2])
    have d : decide ((100000 : Int) < ((l.length : Nat) : Int)) = false := by simp; omega
    obtain ⟨m, hm⟩ := hm
    have hcb : Go.Lib.countB (sB l) (sB [0]) ≤ l.length := by
      show Go.Lib.count (sB l).data.toList (sB [0]).data.toList ≤ _
      rw [sB_data, sB_data]; exact count_le _ _
    have C := Tryd.strings_ReplaceAll (sB l) (sB [0]) (sB [0, 255]) m w (by rw [sB_size]; omega) hm (by decide) (by rw [sB_size, sB_size]; simp only [List.length_cons, List.length_nil]; omega)
    rw [sB_data, sB_data, sB_data, replaceAll_esc] at C
    have C := Lib.hid C
    clear hm hcb
    have hel := (esc_len l).2
    have hel2 : (esc l).length ≤ 200000 := by omega
    clear hel
    generalize esc l = r at *
    go_enter Tryd.func18, Tryd.ntmps18
    go_wp2_with fail
    refine C.out.mono ?_
    rintro e w1 ⟨rfl, hB⟩
    have hr : (⟨r.toArray⟩ : ByteArray) = sB r := rfl
    rw [hr]
    clear hr
    go_wp2
    go_ret2
    have HS2 : sV (txS l) = .string (sB r ++ ⟨#[0, 1]⟩) := by rw [HS.out]; show Value.string _ = _; rw [← sB_app]; rfl
    exact ⟨by rw [HS2, HE.out]; rfl, hB⟩

theorem cell_lit (w : World) (l : List Value) (t : TypeId) (j : Nat) (u : Value) (h : l[j]? = some u) : (w.alloc (.cells l.toArray t)).cell? ((⟨w.heap.size, 0, none⟩ : Addr).add j) = some u := by
  have h0 : (⟨w.heap.size, 0, none⟩ : Addr).add j = ⟨w.heap.size, j, none⟩ := by unfold Addr.add; split <;> simp_all
  rw [h0]
  exact cell_of (alloc_here _ _) (by simpa using h)

set_option maxRecDepth 100000 in
set_option maxHeartbeats 4000000 in
theorem refText_any (l : List UInt8) (w : World) (hl : l.length ≤ 1000000) : Gives Tryd.prog 19 #[sV l] w (.tuple #[sV (txS l), .int .i64 (txE l)]) := by
  unfold Gives
  by_cases h2 : 100000 < l.length
  · have HS := Lib.hid (show txS l = [] by unfold txS; rw [if_pos h2])
    have HE := Lib.hid (show txE l = 4 by unfold txE; rw [if_pos h2])
    have d : decide ((100000 : Int) < ((l.length : Nat) : Int)) = true := by simp; omega
    go_enter Tryd.func19, Tryd.ntmps19
    go_wp2
    go_ret2
    exact ⟨by rw [HS.out, HE.out]; rfl, Below.refl _ _⟩
  · have HS := Lib.hid (show txS l = esc l ++ [0, 1] by unfold txS encT; rw [if_neg h2])
    have HE := Lib.hid (show txE l = 0 by unfold txE; rw [if_neg h2])
    have d : decide ((100000 : Int) < ((l.length : Nat) : Int)) = false := by simp; omega
    have R0 := Lib.hid (Row8.empty w w.heap.size (Nat.le_refl _))
    go_enter Tryd.func19, Tryd.ntmps19
    go_wp2
    go_loopw [4, 5] (fun v i wr => ∃ j : Nat, j ≤ l.length ∧ i = .int .i64 j ∧ Row8 w.heap.size v (esc (l.take j)) wr ∧ Below w.heap.size w wr) (fun _ i _ => l.length - (intOf i).toNat)
    case atStart => exact ⟨0, Nat.zero_le _, rfl, by simpa [esc] using R0.out, (Below.refl _ w).alloc (Nat.le_refl _) _⟩
    case round =>
      obtain ⟨j, hj, rfl, hD, hB⟩ := hrel
      have hlen := (esc_len (l.take j)).2
      have hlen' : (esc (l.take j)).length ≤ 200000 := by have : (l.take j).length ≤ j := List.length_take_le _ _; omega
      clear hlen
      have HD := Lib.hid hD
      have HW := Lib.hid hB
      have hz := hB.size
      clear hD hB
      by_cases hlt : j < l.length
      · have HX := Lib.hid (show esc (l.take (j + 1)) = esc (l.take j) ++ esc1 l[j] by rw [List.take_succ_eq_append_getElem hlt, esc_snoc])
        by_cases hc : l[j] = 0
        · have b0 : ((l[j].toNat : Int) == 0) = true := by rw [hc]; rfl
          have HX2 := Lib.hid (show esc (l.take (j + 1)) = esc (l.take j) ++ [l[j]] ++ [255] by rw [HX.out, hc]; simp [esc1])
          clear hc HX
          have tok1 : True := trivial
          go_wp2_with (first
            | (at_builtin; have _t := tok1; clear tok1 _t; go_loud (refine wp_app8 rfl _ _ (by rfl) w.heap.size _ _ (by rfl) _ HD.out l[j] _ rfl (by rfl) (by omega) hz ?_); intro v' w3 hR3 hB3; have HR3 := Lib.hid hR3; have HB3 := Lib.hid (Below.trans HW.out hB3); have hz3 := HB3.out.size; have hlen3 : (esc (l.take j) ++ [l[j]]).length ≤ 200001 := (by simp; omega); have tok2 : True := trivial; clear hR3 hB3 HD hlen')
            | (at_builtin; have _t := tok2; clear tok2 _t; go_loud (refine wp_app8 rfl _ _ (by rfl) w.heap.size _ _ (by rfl) _ HR3.out 255 255 rfl (by rfl) (by omega) hz3 ?_); intro v'' w4 hR4 hB4))
          rw [← HX2.out] at hR4
          have HR4 := Lib.hid hR4
          have HB4 := Lib.hid (Below.trans HB3.out hB4)
          clear hR4 hB4
          go_wp2
          go_roundw
          case rel => exact ⟨j + 1, by omega, by go_num, HR4.out, HB4.out⟩
          case measure => simp [intOf]; omega
        · have b0 : ((l[j].toNat : Int) == 0) = false := byte_ne 0 hc (by omega)
          have HX2 := Lib.hid (show esc (l.take (j + 1)) = esc (l.take j) ++ [l[j]] by rw [HX.out]; simp [esc1, hc])
          clear hc HX
          have tok1 : True := trivial
          go_wp2_with (at_builtin; have _t := tok1; clear tok1 _t; go_loud (refine wp_app8 rfl _ _ (by rfl) w.heap.size _ _ (by rfl) _ HD.out l[j] _ rfl (by rfl) (by omega) hz ?_); intro v' w3 hR3 hB3)
          rw [← HX2.out] at hR3
          have HR3 := Lib.hid hR3
          have HB3 := Lib.hid (Below.trans HW.out hB3)
          clear hR3 hB3
          go_wp2
          go_roundw
          case rel => exact ⟨j + 1, by omega, by go_num, HR3.out, HB3.out⟩
          case measure => simp [intOf]; omega
      · have hk : l.take j = l := List.take_of_length_le (by omega)
        rw [hk] at HD hlen'
        clear hk
        obtain ⟨i0, hi, hz0, hz1, hz2⟩ := info_parts infoB
        have own2 := World.ownsRow.alloc HD.out (.cells #[.int .u8 0, .int .u8 1] 5)
        go_wp2_with (at_builtin; go_loud (refine wpList_append_own _ rfl _ _ 48 (by rfl) w.heap.size 5 i0 (.int .u8 0) 1 1 Tryd.underlying48 hi hz0 hz1 hz2 rfl (by decide) _ _ _ (by rfl) own2 ⟨wr.heap.size, 0, none⟩ 2 2 [.int .u8 0, .int .u8 1] (by rfl) rfl (fun j u hj => cell_lit _ _ _ j u hj) (by simp [Value.oneCell']) (by unfold maxLen; omega) (by omega) (by simp; omega) ?_); intro v' w3 hown hg _; have hR3 : Row8 w.heap.size v' (esc l ++ [0, 1]) w3 := (by unfold Row8; rw [show [Value.int .u8 0, Value.int .u8 1] = bsV [0, 1] from rfl, bsV_add] at hown; simpa using hown); have hconv := Row8.conv hR3; have HB3 := Lib.hid (Below.grown (HW.out.alloc hz _) hg (by simp; omega) (fun k e => (World.ownsRow.lt HD.out k e).1)); clear hown hg hR3)
        go_ret2
        exact ⟨by rw [HS.out, HE.out]; rfl, HB3.out⟩

end Go.Proofs.YtpdmcikegcknlaaDoor
