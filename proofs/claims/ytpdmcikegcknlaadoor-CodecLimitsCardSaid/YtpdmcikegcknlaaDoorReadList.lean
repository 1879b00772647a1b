/- codec.reader.list, codec.ReadList. -/
import Derived.Test.YtpdmcikegcknlaaDoorReadInt
import Derived.Test.YtpdmcikegcknlaaDoorLsPlain
import Derived.Test.YtpdmcikegcknlaaDoorTurn
import Derived.Deep.LoopGhost
namespace Go.Proofs.YtpdmcikegcknlaaDoor
open Go.RowKit
set_option linter.unusedVariables false

/-- what list leaves: the list (nil if there is an error), and the reader -/
def LsPost (s : List UInt8) (k : Nat) (w : World) (e : Ending) (w' : World) : Prop :=
  ∃ x c q, e = .returned (.slice x (rdL s).1.length c) ∧ IntsAt w' x (rdL s).1 ∧ (x = none → c = 0) ∧ Turn k (rdO s q (rdL s).2.2) w w' ∧ q ≤ s.length ∧ ((rdL s).2.2 = 0 → q = (rdL s).2.1)
theorem LsPost.err {s : List UInt8} {k q : Nat} {e : Int} {w w' : World} (h : (rdL s).2.2 = e) (he : e ≠ 0) (hT : Turn k (rdO s q e) w w') (hq : q ≤ s.length) : LsPost s k w (.returned (.slice none 0 0)) w' := by
  obtain ⟨h1, _⟩ := rdL_err (s := s) (by omega)
  refine ⟨none, 0, q, by rw [h1]; rfl, by rw [h1]; exact IntsAt.nil, fun _ => rfl, by rw [h]; exact hT, hq, fun h0 => by omega⟩
theorem LsPost.ok {s : List UInt8} {l : List Int} {k q z : Nat} {x : Option Addr} {c : Nat} {w w' : World} (h : rdL s = (l, z, 0)) (hI : IntsAt w' x l) (hx : x = none → c = 0) (hT : Turn k (rdO s q 0) w w') (hq : q ≤ s.length) (hz : q = z) : LsPost s k w (.returned (.slice x l.length c)) w' := by
  refine ⟨x, c, q, by rw [h], by rw [h]; exact hI, hx, by rw [h]; exact hT, hq, fun _ => by rw [h]; exact hz⟩

theorem rdA_step {f : Nat} {acc : List Int} {at_ : Nat} {c : UInt8} {t : List UInt8} (h1 : c ≠ 1) (h2 : acc.length ≠ 20000) (h3 : (rdI (c :: t)).2.2 = 0) : rdA (f + 1) acc at_ (c :: t) = rdA f (acc ++ [(rdI (c :: t)).1]) (at_ + (rdI (c :: t)).2.1) ((c :: t).drop (rdI (c :: t)).2.1) := by
  rw [rdA, if_neg h1, if_neg h2, if_neg (by omega)]
theorem rdA_bad {f : Nat} {acc : List Int} {at_ : Nat} {c : UInt8} {t : List UInt8} (h1 : c ≠ 1) (h2 : acc.length ≠ 20000) (h3 : (rdI (c :: t)).2.2 ≠ 0) : rdA (f + 1) acc at_ (c :: t) = ([], 0, (rdI (c :: t)).2.2) := by
  rw [rdA, if_neg h1, if_neg h2, if_pos h3]

set_option maxRecDepth 100000 in
set_option maxHeartbeats 8000000 in
theorem list_any (s : List UInt8) (k : Nat) (w : World) (hs : s.length ≤ 10000000) (hlim : (rdL s).2.2 ≠ 4) (h : w.heap[k]? = some (rdO s 0 0)) :
    Calls Tryd.prog 45 #[.pointer (some ⟨k, 0, none⟩), .func (.func 43) #[.pointer (some ⟨k, 0, none⟩)] #[]] w (LsPost s k w) := by
  have hk := lt_of_block h
  have hT0 := Lib.hid (Turn.refl h)
  have HLim := Lib.hid hlim
  clear h hlim
  go_enter Tryd.func45, Tryd.ntmps45
  go_wp2
  go_loopg [5] s.length (fun n v wr => ∃ (p f : Nat) (acc : List Int), n + p = s.length ∧ s.length ≤ p + f ∧ acc.length ≤ p ∧ acc.length ≤ 20000 ∧ rdL s = rdA (f + 1) acc p (s.drop p) ∧ Turn k (rdO s p 0) w wr ∧ RowI w.heap.size v acc wr)
  case atStart => exact ⟨0, s.length, [], by omega, by omega, by simp, by simp, rfl, hT0.out, RowI.nil _ _⟩
  case round =>
    obtain ⟨p, f, acc, hp, hf, hacc, hacc2, hX, hT, hR⟩ := hrel
    have HP := Lib.hid hp
    have hple : p ≤ s.length := by omega
    have HX := Lib.hid hX
    have HT := Lib.hid hT
    have HR := Lib.hid hR
    have e0 := rd0 hT.here
    have e1 := rd1 hT.here
    clear hX hT hR hp
    by_cases hlt : p < s.length
    · have hd := Lib.hid (List.drop_eq_getElem_cons hlt)
      have q1 : decide ((p : Int) < (s.length : Int)) = true := by simp; omega
      have q2 : (0 : Int) ≤ (p : Int) := by omega
      by_cases hc : s[p] = 1
      · have b0 : ((s[p].toNat : Int) == 1) = true := by rw [hc]; rfl
        have HZ := Lib.hid (show rdL s = (acc, p + 1, 0) by rw [HX.out, hd.out, rdA, if_pos hc])
        have f1 := rdf 1 HT.out.here
        have T1 := HT.out.setCell (i := 1) (.int .i64 ((p : Int) + 1))
        rw [rdO_step] at T1
        have T1 := Lib.hid T1
        obtain ⟨x, cap, rfl, hI, -, hx⟩ := HR.out.ints
        have HI := Lib.hid hI
        have Hx := Lib.hid hx
        have HR1 := Lib.hid (show RowI w.heap.size (.slice x acc.length cap) acc (wr.setCell ⟨k, 1, none⟩ (.int .i64 ((p : Int) + 1))) from World.ownsRow.kept HR.out (row := some k) ⟨rfl, rfl, rfl, by simp [World.setCell], fun j _ hj => Below.heap_setCell _ _ _ _ (fun e => hj (by simp [e]))⟩ (by
          cases hv : (Value.slice x acc.length cap).ownBlock with
          | none => exact .inl rfl
          | some j => exact .inr (fun e => by cases e; have := (World.ownsRow.lt HR.out k hv).1; omega)))
        clear hI hx hc
        go_wp2
        go_quiet (fail)
        go_wp2
        go_ret
        obtain ⟨x', cap', e', hI', -, hx'⟩ := HR1.out.ints
        cases e'
        exact LsPost.ok HZ.out hI' Hx.out ⟨T1.out.os, T1.out.tape, T1.out.output, T1.out.size, T1.out.here, T1.out.other⟩ (by omega) rfl
      · have b0 : ((s[p].toNat : Int) == 1) = false := byte_ne 1 hc (by omega)
        by_cases hl : acc.length = 20000
        · exact absurd (show (rdL s).2.2 = 4 by rw [HX.out, hd.out, rdA, if_neg hc, if_pos hl]) HLim.out
        · have bl : ((acc.length : Int) == 20000) = false := by rw [beq_eq_false_iff_ne]; omega
          have HC := Lib.hid hc
          have HL := Lib.hid hl
          obtain ⟨x, cap, hv, -, -, -⟩ := HR.out.ints
          subst hv
          clear hc hl
          have I := Lib.hid (fun W (hW : W.heap[k]? = some (rdO s p 0)) => integer_rd s p k W (by omega) hple hW)
          go_wp2
          go_quiet (fail)
          go_wp2
          go_quiet (fail)
          go_wp2_with fail
          refine (I.out _ (by simpa using HT.out.here)).mono ?_
          rintro r w1 ⟨q, rfl, hq, hT1, hz⟩
          have HR1 := Lib.hid (HR.out.turn hT1.undrewN hk)
          have HT1 := Lib.hid (HT.out.trans hT1.undrewN)
          have e2 := rd2 hT1.here
          clear hT1 e0 e1
          have hz1 := HT1.out.size
          by_cases he : (rdI (s.drop p)).2.2 = 0
          · have HZ := Lib.hid (show rdL s = rdA f (acc ++ [(rdI (s.drop p)).1]) (p + (rdI (s.drop p)).2.1) ((s.drop p).drop (rdI (s.drop p)).2.1) by
              have he2 := he
              rw [hd.out] at he2 ⊢
              rw [HX.out, hd.out, rdA_step HC.out HL.out he2])
            have HS := Lib.hid (rdI_size he)
            have HQ := Lib.hid (hz he)
            rw [he] at HT1 e2
            clear he hz
            generalize hn : (rdI (s.drop p)).1 = n at *
            clear hn
            go_wp2_with (at_builtin; go_loud (refine wp_appI rfl _ _ (by rfl) w.heap.size _ _ (by rfl) _ HR1.out n (by rfl) (by omega) hz1 ?_); intro v' w3 hR3 hB3; have HR3 := Lib.hid hR3; have HT3 := Lib.hid (HT1.out.of_low hB3 hk); clear hR3 hB3)
            obtain ⟨f', hf'⟩ : ∃ f', f = f' + 1 := ⟨f - 1, by omega⟩
            have HF := Lib.hid hf'
            have HN := Lib.hid HL.out
            clear hf'
            go_wp2
            go_roundg (s.length - q)
            case measure => have := HS.out; have := HQ.out; have := HP.out; omega
            case rel =>
              have h1 := HS.out
              have h2 := HQ.out
              have h3 := HF.out
              have h4 := HN.out
              have h5 := HZ.out
              rw [List.drop_drop, ← h2, h3] at h5
              exact ⟨q, f', acc ++ [n], by omega, by omega, by simp; omega, by simp; omega, h5, HT3.out, HR3.out⟩
          · have HZ := Lib.hid (show (rdL s).2.2 = (rdI (s.drop p)).2.2 by
              have he2 := he
              rw [hd.out] at he2 ⊢
              rw [HX.out, hd.out, rdA_bad HC.out HL.out he2])
            have HE := Lib.hid he
            have bn : ((rdI (s.drop p)).2.2 != 0) = true := by rw [bne_iff_ne]; exact he
            clear hz he
            go_wp2
            go_ret
            exact LsPost.err HZ.out HE.out HT1.out hq
    · have HZ := Lib.hid (show (rdL s).2.2 = 11 by rw [HX.out, List.drop_eq_nil_of_le (by omega), rdA])
      have q1 : decide ((p : Int) < (s.length : Int)) = false := by simp; omega
      have I := Lib.hid (fun W (hW : W.heap[k]? = some (rdO s p 0)) => integer_rd s p k W (by omega) hple hW)
      have HR0 := Lib.hid (show rdI (s.drop p) = (0, 0, 11) by rw [List.drop_eq_nil_of_le (by omega)]; rfl)
      go_wp2
      go_quiet (fail)
      go_wp2
      go_quiet (fail)
      go_wp2_with fail
      refine (I.out _ (by simpa using HT.out.here)).mono ?_
      rintro r w1 ⟨q, rfl, hq, hT1, hz⟩
      rw [HR0.out] at hT1 ⊢
      have HT1 := Lib.hid (HT.out.trans hT1.undrewN)
      have e2 := rd2 hT1.here
      clear hT1 e0 e1 hz
      go_wp2
      go_ret
      exact LsPost.err HZ.out (by omega) HT1.out hq

/-- a slice of integers, a number and an error -/
def GivesR (P : Program) (f : FuncId) (args : Array Value) (w : World) (r : List Int × Nat × Int) : Prop :=
  Calls P f args w fun en w' => (∃ x c, en = .returned (.tuple #[.slice x r.1.length c, .int .i64 (r.2.1 : Int), .int .i64 r.2.2]) ∧ IntsAt w' x r.1 ∧ (x = none → c = 0)) ∧ Below w.heap.size w w'

set_option maxHeartbeats 2000000 in
theorem ReadList_any (s : List UInt8) (w : World) (hs : s.length ≤ 10000000) (hlim : (rdL s).2.2 ≠ 4) : GivesR Tryd.prog 30 #[sV s] w (rdL s) := by
  have HI := Lib.hid (fun W h => list_any s w.heap.size W hs hlim h)
  have HE := Lib.hid (fun he => rdL_err (s := s) he)
  unfold LsPost at HI
  obtain ⟨l, z, e, hr⟩ : ∃ l z e, rdL s = (l, z, e) := ⟨_, _, _, rfl⟩
  rw [hr] at HI HE ⊢
  simp only at HI HE
  unfold GivesR
  simp only
  clear hlim hr
  go_enter Tryd.func30, Tryd.ntmps30
  go_wp2_with fail
  refine (HI.out _ (alloc_here _ _)).mono ?_
  rintro r w1 ⟨x, c, q, rfl, hI, hx, hT, hq, hz⟩
  have HB := Lib.hid (((Below.refl _ w).alloc (Nat.le_refl _) _).trans (hT.below (Nat.le_refl _) (by simp)))
  have h1 := rd1 hT.here
  have h2 := rd2 hT.here
  have HX := Lib.hid hI
  have HN := Lib.hid hx
  clear hT hI hx
  by_cases he : e = 0
  · subst he
    have HZ := Lib.hid (hz rfl)
    clear hz HI HE
    go_wp2
    go_quiet (fail)
    go_wp2
    go_ret3
    exact ⟨⟨_, _, by rw [← HZ.out]; rfl, fun i hi => HX.out i hi, HN.out⟩, Ext.drewN' HB.out⟩
  · have HE2 := Lib.hid (HE.out he)
    have hb : (e == 0) = false := by rw [beq_eq_false_iff_ne]; exact he
    have hb2 : (e != 0) = true := by rw [bne_iff_ne]; exact he
    clear hz he HI HE
    go_wp2
    go_quiet (fail)
    go_wp2
    go_ret3
    exact ⟨⟨none, 0, by rw [HE2.out.1, HE2.out.2]; rfl, by rw [HE2.out.1]; exact IntsAt.nil, fun _ => rfl⟩, Ext.drewN' HB.out⟩

end Go.Proofs.YtpdmcikegcknlaaDoor
