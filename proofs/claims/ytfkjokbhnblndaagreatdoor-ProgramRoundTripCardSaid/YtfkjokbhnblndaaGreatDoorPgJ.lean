/- slices.Chunk by threes. -/
import Derived.Test.YtfkjokbhnblndaaGreatDoorPgH
import Derived.RangeFuncNested
import Derived.RangeFuncBound
import Derived.RangeFuncCalls
import Derived.RangeFuncLeaves
import Derived.Shelf.Abstract
import Derived.Shelf.RegionOpen
import Derived.OwnWalkIn
import Derived.TacticsInMore
import Derived.LoopNIn
import Derived.LoopIn
import Derived.Test.YtfkjokbhnblndaaGreatDoorRw
namespace Go.Proofs.YtfkjokbhnblndaaGreatDoor
open Go.RowKit Go.Shelf
set_option linter.unusedVariables false
set_option linter.unusedSimpArgs false
attribute [local go_sem] Oper.semAt_some

/-- what lay below n₀ and two boxes are as they were -/
structure Kc (n₀ B1 B2 : Nat) (A B : World) : Prop where
  below : Below n₀ A B
  b1 : B1 < A.heap.size → B.heap[B1]? = A.heap[B1]?
  b2 : B2 < A.heap.size → B.heap[B2]? = A.heap[B2]?
theorem Kc.refl (n₀ B1 B2 : Nat) (A : World) : Kc n₀ B1 B2 A A := ⟨Below.refl _ _, fun _ => rfl, fun _ => rfl⟩
theorem Kc.trans {n₀ B1 B2 : Nat} {A B C : World} (h : Kc n₀ B1 B2 A B) (g : Kc n₀ B1 B2 B C) : Kc n₀ B1 B2 A C :=
  ⟨h.below.trans g.below, fun hl => (g.b1 (Nat.lt_of_lt_of_le hl h.below.size)).trans (h.b1 hl), fun hl => (g.b2 (Nat.lt_of_lt_of_le hl h.below.size)).trans (h.b2 hl)⟩
theorem take_fin {m k : Nat} (h : k < m) : (List.finRange m).take (k + 1) = (List.finRange m).take k ++ [⟨k, h⟩] := by
  rw [List.take_succ_eq_append_getElem (by simpa using h)]
  simp

set_option maxRecDepth 100000 in
set_option maxHeartbeats 2000000 in
theorem chunk1_in (n l B1 B2 n₀ b off m cap : Nat) (hm : m ≤ 1000) (hcap : 3 * m ≤ cap) (J Jx : List (Fin m) → World → Prop) (A0 : Nat) (hJ : AbidesFrom A0 J)
    (hY : ∀ pre (x : Fin m) W, J pre W → pre.length < m → YieldAt Fence.wide (n - 1) Tryz.prog l #[.slice (some ⟨b, off + 3 * x.1, none⟩) 3 3] W fun e W' =>
      (e = .returned (.bool true) ∧ J (pre ++ [x]) W' ∧ Kc n₀ B1 B2 W W') ∨ (e = .returned (.bool false) ∧ Jx (pre ++ [x]) W'))
    (W : World) (hn0 : n₀ ≤ W.heap.size) (h1 : W.heap[B1]? = some (.cells #[.slice (some ⟨b, off, none⟩) (3 * m) cap] 29 (0, 0))) (h2 : W.heap[B2]? = some (.cells #[.int .i64 3] 3 (0, 0))) (h0 : J [] W) :
    CallsIn Fence.wide n Tryz.prog 159 #[.func (.yield l) #[] #[], .pointer (some ⟨B1, 0, none⟩), .pointer (some ⟨B2, 0, none⟩)] W fun e W' => (∃ v, e = .returned v) ∧
      (J (List.finRange m) W' ∨ (∃ pre, pre <+: List.finRange m ∧ Jx pre W')) := by
  refine callsIn_of_wp Tryz.func159 rfl trivial ?_ rfl
  simp only [Tryz.ntmps159, List.size_toArray, List.length_cons, List.length_nil, Nat.reduceAdd, Nat.reduceSub, Array.replicate_succ, Array.replicate_zero, List.push_toArray, List.append_toArray, List.nil_append, List.cons_append]
  have HY := Lib.hid hY
  have H1 := Lib.hid h1
  have H2 := Lib.hid h2
  clear hY h1 h2
  gi_wp2
  gi_loopw [4] (fun i wr => ∃ k : Nat, k ≤ m ∧ i = .int .i64 ((3 * k : Nat) : Int) ∧ J ((List.finRange m).take k) wr ∧ Kc n₀ B1 B2 W wr)
    (fun i _ => 3 * m - (intOf i).toNat)
  case atStart => exact ⟨0, Nat.zero_le _, rfl, h0, Kc.refl _ _ _ _⟩
  case round =>
    obtain ⟨k, hk, rfl, hJs, hK⟩ := hrel
    have c1 := cell_of ((hK.b1 (lt_of_block H1.out)).trans H1.out) (i := 0) rfl
    have c2 := cell_of ((hK.b2 (lt_of_block H2.out)).trans H2.out) (i := 0) rfl
    have HK := Lib.hid hK
    clear hK
    by_cases hlt : k < m
    · have hsl : 3 * k ≤ 3 * m := by omega
      have hmin : min 3 (3 * m - 3 * k) = 3 := by omega
      gi_wp2
      refine wpIn_wide.2 ?_
      go_quiet (fail)
      have hE : Ext wr (wr.drewN nq) := Ext.drewN' (Below.refl _ _)
      have hJd : J ((List.finRange m).take k) (wr.drewN nq) := hJ _ _ _ none hJs ⟨hE.os, hE.tape, hE.output, hE.size, fun k hk _ => hE.block k hk⟩ (fun r e => by cases e)
      have HK2 := Lib.hid (HK.out.trans ⟨hE.mono (Nat.le_trans hn0 HK.out.below.size), fun hl => hE.block _ hl, fun hl => hE.block _ hl⟩)
      generalize wr.drewN nq = wd at *
      clear c1 c2 hE hJs
      have c1 := cell_of ((HK2.out.b1 (lt_of_block H1.out)).trans H1.out) (i := 0) rfl
      have c2 := cell_of ((HK2.out.b2 (lt_of_block H2.out)).trans H2.out) (i := 0) rfl
      obtain ⟨fn, tmps, assign, body, hy, hR⟩ := HY.out _ ⟨k, hlt⟩ wd hJd (by simp; omega)
      have HR := Lib.hid hR
      clear hR hJd
      have hadd : 3 * k + 3 ≤ cap := by omega
      simp only [Exit.then, Exit.inBlock]
      gi_wp2
      refine ⟨fun hd => (by cases hd), HR.out.mono ?_⟩
      clear c1 c2
      rintro e W3 (⟨rfl, hJ3, hk3⟩ | ⟨rfl, hJx3⟩)
      · have HK3 := Lib.hid (HK2.out.trans hk3)
        have HJ3 := Lib.hid hJ3
        clear hk3 hJ3
        have c1 := cell_of ((HK3.out.b1 (lt_of_block H1.out)).trans H1.out) (i := 0) rfl
        have c2 := cell_of ((HK3.out.b2 (lt_of_block H2.out)).trans H2.out) (i := 0) rfl
        gi_wp2
        go_roundw
        case rel => exact ⟨k + 1, by omega, by go_num, by rw [take_fin hlt]; exact HJ3.out, HK3.out⟩
        case measure => simp [intOf]; omega
      · gi_wp2
        refine bodyPost_ret (results_none rfl _ _ _) rfl ?_
        exact ⟨⟨_, rfl⟩, .inr ⟨_, by rw [← take_fin hlt]; exact List.take_prefix _ _, hJx3⟩⟩
    · obtain rfl : k = m := by omega
      gi_wp2
      go_end0
      exact ⟨⟨_, rfl⟩, .inl (by rw [List.take_of_length_le (by simp)] at hJs; exact hJs)⟩

theorem chunk_stops (n : Nat) (B1 B2 n₀ b off m cap : Nat) (hm : m ≤ 1000) (hcap : 3 * m ≤ cap) (w : World) (hn : n₀ ≤ w.heap.size)
    (h1 : w.heap[B1]? = some (.cells #[.slice (some ⟨b, off, none⟩) (3 * m) cap] 29 (0, 0))) (h2 : w.heap[B2]? = some (.cells #[.int .i64 3] 3 (0, 0))) :
    SeqStopsK Fence.wide n Tryz.prog 159 #[.pointer (some ⟨B1, 0, none⟩), .pointer (some ⟨B2, 0, none⟩)] (fun x : Fin m => #[.slice (some ⟨b, off + 3 * x.1, none⟩) 3 3]) (Kc n₀ B1 B2) (fun ys => ys = List.finRange m) (fun ys => ys <+: List.finRange m) m w := by
  intro l J Jx W hW hJ hJx hY h0
  refine (chunk1_in n l B1 B2 n₀ b off m cap hm hcap J Jx W.heap.size hJ hY W (Nat.le_trans hn hW.size) ((hW.block B1 (lt_of_block h1)).trans h1) ((hW.block B2 (lt_of_block h2)).trans h2) h0).mono ?_
  rintro e W' ⟨hv, h | ⟨pre, hp, h⟩⟩
  · exact ⟨hv, .inl ⟨_, rfl, h⟩⟩
  · exact ⟨hv, .inr ⟨pre, hp, h⟩⟩
theorem xchunk_any (a : Option Addr) (k c : Nat) (w : World) : Calls Tryz.prog 153 #[.slice a k c, .int .i64 3] w fun e W =>
    e = .returned (.func (.func 159) #[] #[.pointer (some ⟨w.heap.size, 0, none⟩), .pointer (some ⟨w.heap.size + 1, 0, none⟩)]) ∧ W = (w.alloc (.cells #[.slice a k c] 29)).alloc (.cells #[.int .i64 3] 3) := by
  go_enter Tryz.func153, Tryz.ntmps153
  go_wp2
  go_ret
  exact ⟨rfl, rfl⟩
end Go.Proofs.YtfkjokbhnblndaaGreatDoor
