/- Clocks: Decode of the reference, New, Tick and Covers in all cases. -/
import Derived.Test.YtaplbcmpjhdohaaVcEnc
namespace Go.Proofs.Ytaplbcmpjhdohaa
open Go.RowKit
set_option linter.unusedVariables false

set_option maxHeartbeats 2000000 in
theorem refDecode_any (s : List UInt8) (w : World) (hs : s.length ≤ 1000) :
    GivesL Try.prog 38 #[sV s] w (dcL s) (dcE s) := by
  have hlim : (rdL s).2.2 ≠ 4 := rdA_lim _ _ _ _ (by simp; omega)
  have C := refReadList_any s w (by omega) hlim
  have hlen := rdL_len s
  have HL := Lib.hid (show dcL s = if (rdL s).2.2 ≠ 0 ∨ (rdL s).2.1 ≠ s.length ∨ chk (rdL s).1 ≠ 0 then [] else (rdL s).1 from rfl)
  have HE := Lib.hid (show dcE s = if (rdL s).2.2 ≠ 0 ∨ (rdL s).2.1 ≠ s.length ∨ chk (rdL s).1 ≠ 0 then 12 else 0 from rfl)
  unfold GivesR at C
  unfold GivesL
  clear hlim
  generalize (rdL s).1 = l at *
  generalize (rdL s).2.1 = z at *
  generalize (rdL s).2.2 = e at *
  by_cases h1 : e = 0
  · subst h1
    by_cases h2 : z = s.length
    · have q2 : ((z : Int) != (s.length : Int)) = false := by simp [h2]
      have H2 := Lib.hid h2
      clear h2
      by_cases h3 : chk l = 0
      · have HL2 := Lib.hid (show dcL s = l by rw [HL.out, if_neg (by simp [H2.out, h3])])
        have HE2 := Lib.hid (show dcE s = 0 by rw [HE.out, if_neg (by simp [H2.out, h3])])
        have q3 := Lib.hid h3
        clear HL HE h3
        go_enter Try.func38, Try.ntmps38
        go_wp2_with fail
        refine C.mono ?_
        rintro _ w1 ⟨⟨x, c, rfl, hI, -⟩, hB1⟩
        have V := refCheck_any l x c w1 (by unfold maxLen; omega) hI
        rw [q3.out] at V
        have HI := Lib.hid hI
        have H1 := Lib.hid hB1
        clear hI hB1 C
        go_wp2_with fail
        refine V.mono ?_
        intro w2 hB2
        have HI2 := Lib.hid (HI.out.below hB2)
        have H2 := Lib.hid (Ext.trans H1.out hB2)
        clear hB2 HI V
        go_wp2
        go_ret2
        exact ⟨⟨x, c, by rw [HL2.out, HE2.out]; rfl, by rw [HL2.out]; exact HI2.out⟩, H2.out⟩
      · have HL2 := Lib.hid (show dcL s = [] by rw [HL.out, if_pos (.inr (.inr h3))])
        have HE2 := Lib.hid (show dcE s = 12 by rw [HE.out, if_pos (.inr (.inr h3))])
        have q3 : (chk l != 0) = true := by rw [bne_iff_ne]; exact h3
        clear HL HE h3
        go_enter Try.func38, Try.ntmps38
        go_wp2_with fail
        refine C.mono ?_
        rintro _ w1 ⟨⟨x, c, rfl, hI, -⟩, hB1⟩
        have V := refCheck_any l x c w1 (by unfold maxLen; omega) hI
        have H1 := Lib.hid hB1
        clear hI hB1 C
        go_wp2_with fail
        refine V.mono ?_
        intro w2 hB2
        have H2 := Lib.hid (show Below w.heap.size w w2 from Ext.trans H1.out hB2)
        clear hB2 V
        go_wp2
        go_ret2
        exact ⟨⟨_, _, by rw [HL2.out, HE2.out]; rfl, by rw [HL2.out]; exact IntsAt.nil⟩, H2.out.alloc H2.out.size _⟩
    · have q2 : ((z : Int) != (s.length : Int)) = true := by rw [bne_iff_ne]; omega
      have HL2 := Lib.hid (show dcL s = [] by rw [HL.out, if_pos (.inr (.inl h2))])
      have HE2 := Lib.hid (show dcE s = 12 by rw [HE.out, if_pos (.inr (.inl h2))])
      clear HL HE h2
      go_enter Try.func38, Try.ntmps38
      go_wp2_with fail
      refine C.mono ?_
      rintro _ w1 ⟨⟨x, c, rfl, hI, -⟩, hB1⟩
      have H1 := Lib.hid hB1
      clear hI hB1 C
      go_wp2
      go_ret2
      exact ⟨⟨_, _, by rw [HL2.out, HE2.out]; rfl, by rw [HL2.out]; exact IntsAt.nil⟩, H1.out.alloc H1.out.size _⟩
  · have q1 : (e != 0) = true := by rw [bne_iff_ne]; exact h1
    have HL2 := Lib.hid (show dcL s = [] by rw [HL.out, if_pos (.inl h1)])
    have HE2 := Lib.hid (show dcE s = 12 by rw [HE.out, if_pos (.inl h1)])
    clear HL HE h1
    go_enter Try.func38, Try.ntmps38
    go_wp2_with fail
    refine C.mono ?_
    rintro _ w1 ⟨⟨x, c, rfl, hI, -⟩, hB1⟩
    have H1 := Lib.hid hB1
    clear hI hB1 C
    go_wp2
    go_ret2
    exact ⟨⟨_, _, by rw [HL2.out, HE2.out]; rfl, by rw [HL2.out]; exact IntsAt.nil⟩, H1.out.alloc H1.out.size _⟩


/-! New -/
/-- the post of GivesL, behind a name -/
def PostL (w : World) (l : List Int) (e : Int) (en : Ending) (w' : World) : Prop := (∃ x c, en = .returned (.tuple #[.slice x l.length c, .int .i64 e]) ∧ IntsAt w' x l) ∧ Below w.heap.size w w'
theorem PostL.mk {w w' : World} {l : List Int} {e : Int} {en : Ending} (x : Option Addr) (c : Nat) (h : en = .returned (.tuple #[.slice x l.length c, .int .i64 e])) (hI : IntsAt w' x l) (hB : Below w.heap.size w w') : PostL w l e en w' := ⟨⟨x, c, h, hI⟩, hB⟩
theorem GivesL.of {P : Program} {f : FuncId} {args : Array Value} {w : World} {l : List Int} {e : Int} (h : Calls P f args w (PostL w l e)) : GivesL P f args w l e := h

def nwL (n : Int) : List Int := if n < 0 ∨ 32 < n then [] else List.replicate n.toNat 0
def nwE (n : Int) : Int := if n < 0 ∨ 32 < n then 2 else 0

set_option maxHeartbeats 2000000 in
theorem New_any (n : Int) (w : World) (hn : (Lit.int .i64 n).wf = true) : GivesL Try.prog 28 #[.int .i64 n] w (nwL n) (nwE n) := by
  obtain ⟨hn1, hn2⟩ := i64_bd hn
  clear hn
  refine GivesL.of ?_
  by_cases h0 : n < 0
  · rw [show nwL n = [] by unfold nwL; rw [if_pos (.inl h0)], show nwE n = 2 by unfold nwE; rw [if_pos (.inl h0)]]
    go_enter Try.func28, Try.ntmps28
    go_wp2
    go_ret2
    exact PostL.mk _ _ rfl IntsAt.nil (Below.refl _ _)
  · by_cases h1 : 32 < n
    · rw [show nwL n = [] by unfold nwL; rw [if_pos (.inr h1)], show nwE n = 2 by unfold nwE; rw [if_pos (.inr h1)]]
      go_enter Try.func28, Try.ntmps28
      go_wp2
      go_ret2
      exact PostL.mk _ _ rfl IntsAt.nil (Below.refl _ _)
    · obtain ⟨k, rfl⟩ := Int.eq_ofNat_of_zero_le (by omega : 0 ≤ n)
      rw [show nwL (k : Int) = List.replicate k 0 by unfold nwL; rw [if_neg (by omega)]; simp, show nwE (k : Int) = 0 by unfold nwE; rw [if_neg (by omega)]]
      have hmk := run_make_row' (P := Try.prog) 23 3 (.int .i64 0) 8 Try.underlying23 infoI rfl .i64 .i64 k (by omega) (by omega)
      obtain ⟨c0, hc0⟩ : ∃ c0, madeCells #[.int .i64 0] k = c0 := ⟨_, rfl⟩
      have HC := Lib.hid hc0
      rw [hc0] at hmk
      clear hc0
      have HI := Lib.hid (show IntsAt (w.alloc (.cells c0 3)) (some ⟨w.heap.size, 0, none⟩) (List.replicate k 0) from fun i hi => by
        have hi' : i < k := by simpa using hi
        refine ⟨_, _, rfl, ?_⟩
        rw [Nat.zero_add]
        refine cell_of (alloc_here _ _) ?_
        rw [← HC.out]
        simp [madeCells, hi', Nat.mod_one])
      have HL := Lib.hid (show (List.replicate k (0 : Int)).length = k by simp)
      generalize List.replicate k (0 : Int) = r at *
      go_enter Try.func28, Try.ntmps28
      go_wp2
      go_ret2
      exact PostL.mk _ _ (by rw [HL.out]; rfl) HI.out ((Below.refl _ _).alloc (Nat.le_refl _) _)

theorem wp_appC {ops : Array Oper} {rest : List Oper} {o : Oper} {a : Act} {Q : Exit → Act → World → Prop} (hgd : o.guard = none) (s x : Operand) (ho : o.op = .call { callee := .builtin .append, args := #[s, x], argTypes := #[23, 23] })
    (base : Nat) (v : Value) (l : List Int) (hs : a.eval s = v) (W : World) (h : RowI base v l W) (n : Int) (hx : a.eval x = .slice (some ⟨W.heap.size, 0, none⟩) 1 1) (hlen : l.length ≤ 10000000000) (hbase : base ≤ W.heap.size)
    (hK : ∀ v' w', RowI base v' (l ++ [n]) w' → Below base W w' → wpList Try.prog ops Q rest (a.put o.dst v') w') : wpList Try.prog ops Q (o :: rest) a (W.alloc (.cells #[.int .i64 n] 3)) := by
  obtain ⟨i0, hi, hz0, hz1, hz2⟩ := info_parts infoI'
  refine wpList_append_own _ hgd s x 23 ho base 3 i0 (.int .i64 0) 1 8 Try.underlying23 hi hz0 hz1 hz2 rfl (by decide) v l.length (l.map (Value.int .i64)) hs (World.ownsRow.alloc h _) ⟨W.heap.size, 0, none⟩ 1 1 [.int .i64 n] hx rfl (cell_one_new _ _ _) (by simp [Value.oneCell']) (by unfold maxLen; omega) (by omega) (by simp; omega) ?_
  intro v' w' hown hg _
  refine hK v' w' ?_ ?_
  · unfold RowI
    simpa using hown
  · exact ((Below.refl base W).alloc hbase _).grown hg (by simp; omega) (fun k e => (World.ownsRow.lt h k e).1)

set_option maxRecDepth 100000 in
set_option maxHeartbeats 2000000 in
theorem refNew_any (n : Int) (w : World) (hn : (Lit.int .i64 n).wf = true) : GivesL Try.prog 33 #[.int .i64 n] w (nwL n) (nwE n) := by
  obtain ⟨hn1, hn2⟩ := i64_bd hn
  clear hn
  refine GivesL.of ?_
  by_cases h0 : n < 0
  · rw [show nwL n = [] by unfold nwL; rw [if_pos (.inl h0)], show nwE n = 2 by unfold nwE; rw [if_pos (.inl h0)]]
    go_enter Try.func33, Try.ntmps33
    go_wp2
    go_ret2
    exact PostL.mk _ _ rfl IntsAt.nil ((Below.refl _ _).alloc (Nat.le_refl _) _)
  · by_cases h1 : 32 < n
    · rw [show nwL n = [] by unfold nwL; rw [if_pos (.inr h1)], show nwE n = 2 by unfold nwE; rw [if_pos (.inr h1)]]
      go_enter Try.func33, Try.ntmps33
      go_wp2
      go_ret2
      exact PostL.mk _ _ rfl IntsAt.nil ((Below.refl _ _).alloc (Nat.le_refl _) _)
    · obtain ⟨k, rfl⟩ := Int.eq_ofNat_of_zero_le (by omega : 0 ≤ n)
      rw [show nwL (k : Int) = List.replicate k 0 by unfold nwL; rw [if_neg (by omega)]; simp, show nwE (k : Int) = 0 by unfold nwE; rw [if_neg (by omega)]]
      have R0 := Lib.hid (RowI.empty w w.heap.size (Nat.le_refl _))
      go_enter Try.func33, Try.ntmps33
      go_wp2
      go_loopw [4, 5] (fun v i wr => ∃ j : Nat, j ≤ k ∧ i = .int .i64 j ∧ RowI w.heap.size v (List.replicate j 0) wr ∧ Below w.heap.size w wr) (fun _ i _ => k - (intOf i).toNat)
      case atStart => exact ⟨0, Nat.zero_le _, rfl, R0.out, (Below.refl _ w).alloc (Nat.le_refl _) _⟩
      case round =>
        obtain ⟨j, hj, rfl, hR, hB⟩ := hrel
        have HR := Lib.hid hR
        have HB := Lib.hid hB
        have hz := hB.size
        clear hR hB
        by_cases hlt : j < k
        · have HX := Lib.hid (show List.replicate j (0 : Int) ++ [0] = List.replicate (j + 1) 0 by rw [List.replicate_succ'])
          go_wp2_with (at_builtin; go_loud (refine wp_appC rfl _ _ (by rfl) w.heap.size _ _ (by rfl) _ HR.out 0 (by rfl) (by simp; omega) hz ?_); intro v' w3 hR3 hB3)
          rw [HX.out] at hR3
          have HR3 := Lib.hid hR3
          have HB3 := Lib.hid (Below.trans HB.out hB3)
          clear hR3 hB3
          go_wp2
          go_roundw
          case rel => exact ⟨j + 1, by omega, by go_num, HR3.out, HB3.out⟩
          case measure => simp [intOf]; omega
        · obtain rfl : j = k := by omega
          obtain ⟨x, c, rfl, hI, -, -⟩ := HR.out.ints
          have HI := Lib.hid hI
          clear hI
          go_wp2
          go_ret2
          exact PostL.mk x c rfl HI.out HB.out

end Go.Proofs.Ytaplbcmpjhdohaa
