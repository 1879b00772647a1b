/- VclockBounds: the two closures, which append an error to a captured row; the world between the calls. -/
import Derived.Test.YtaplbcmpjhdohaaBnd
import Derived.Deep.AppendLies
namespace Go.Proofs.Ytaplbcmpjhdohaa
open Go.RowKit
set_option linter.unusedVariables false
set_option linter.unusedSimpArgs false

/-- the block of a slice that is not empty is neither B nor the block of v -/
def Off (a : Option Addr) (l : List Int) (B : Nat) (v : Value) : Prop := ∀ x, a = some x → l ≠ [] → x.block ≠ B ∧ v.ownBlock ≠ some x.block
def zeros (k : Nat) : List Value := List.replicate k (.int .i64 0)
theorem zeros_succ (k : Nat) : zeros k ++ [.int .i64 0] = zeros (k + 1) := by unfold zeros; rw [List.replicate_succ']

/-- the world W that has come of w: the captured row of k errors 0 is held by block B; the clocks L are there -/
def Bd (w : World) (B k : Nat) (L : List (Option Addr × List Int)) (W : World) : Prop :=
  ∃ v, W.heap[B]? = some (.cells #[v] 31 (0, 0)) ∧ W.ownsRow (B + 1) 26 1 v k (zeros k) ∧ (∀ p ∈ L, IntsAt W p.1 p.2 ∧ Off p.1 p.2 B v) ∧ Below w.heap.size w W ∧ w.heap.size ≤ B

theorem IntsAt.keep {w W : World} {a : Option Addr} {l : List Int} (h : IntsAt w a l) (hk : ∀ x, a = some x → l ≠ [] → x.block < w.heap.size → W.heap[x.block]? = w.heap[x.block]?) : IntsAt W a l := fun i hi => by
  obtain ⟨b, off, rfl, hc⟩ := h i hi
  refine ⟨b, off, rfl, ?_⟩
  have h0 : b < w.heap.size := cell_lt hc
  have := hk _ rfl (by rintro rfl; simp at hi) h0
  simp only at this
  rw [← hc]
  unfold World.cell?
  rw [this]
theorem IntsAt.lt {w : World} {x : Addr} {l : List Int} (h : IntsAt w (some x) l) (hl : l ≠ []) : x.block < w.heap.size := by
  obtain ⟨b, off, e, hc⟩ := h 0 (List.length_pos_iff.2 hl)
  cases e
  exact cell_lt hc
theorem ownsRow_ext {base : Nat} {e : TypeId} {k : Nat} {v : Value} {n : Nat} {xs : List Value} {w w' : World} (h : w.ownsRow base e k v n xs) (hb : Below w.heap.size w w') : w'.ownsRow base e k v n xs :=
  h.kept (row := none) ⟨hb.os, hb.tape, hb.output, hb.size, fun i hi _ => hb.block i hi⟩ (by cases v.ownBlock with | none => exact .inl rfl | some j => exact .inr (by simp))

theorem Bd.low {w W : World} {B k : Nat} {L : List (Option Addr × List Int)} (h : Bd w B k L W) : Below w.heap.size w W := by obtain ⟨v, _, _, _, h, _⟩ := h; exact h
theorem Bd.ints {w W : World} {B k : Nat} {L : List (Option Addr × List Int)} (h : Bd w B k L W) {a : Option Addr} {l : List Int} (hm : (a, l) ∈ L) : IntsAt W a l := by obtain ⟨v, _, _, h, _⟩ := h; exact (h _ hm).1

/-- a call that leaves old memory as it was -/
theorem Bd.calm {w W W' : World} {B k : Nat} {L : List (Option Addr × List Int)} (h : Bd w B k L W) (hB : Below W.heap.size W W') : Bd w B k L W' := by
  obtain ⟨v, h1, h2, h3, h4, h5⟩ := h
  refine ⟨v, ?_, ownsRow_ext h2 hB, fun p hp => ⟨(h3 p hp).1.below hB, (h3 p hp).2⟩, Ext.trans h4 hB, h5⟩
  rw [hB.block B (lt_of_block h1)]; exact h1

theorem infoE : (Try.prog.info? 26).map (fun i => (i.zero, i.size, i.bytes)) = some (some (.int .i64 0), 1, 8) := by kernel_rfl

/-- one error more -/
theorem Bd.more {w W W1 W2 : World} {B n : Nat} {L : List (Option Addr × List Int)} {v : Value} {g cap : Nat} {x : Option Addr} {r : List Int}
    (h1 : W1.heap[B]? = some (.cells #[v] 31 (0, 0))) (h3 : ∀ p ∈ L, IntsAt W1 p.1 p.2 ∧ Off p.1 p.2 B v) (h4 : Below w.heap.size w W1) (h5 : w.heap.size ≤ B) (hx : IntsAt W1 x r) (hf : FreshA W x) (hB : B < W.heap.size) (hv : ∀ j, v.ownBlock = some j → B < j ∧ j < W.heap.size)
    (ho : W2.ownsRow (B + 1) 26 1 (.slice (some ⟨g, 0, none⟩) n cap) n (zeros n)) (hg : (W1.alloc (.cells #[.int .i64 0] 26)).grownBy W2 v.ownBlock) (hat : v.ownBlock = some g ∨ g = W1.heap.size + 1) :
    Bd w B n ((x, r) :: L) (W2.setCell ⟨B, 0, none⟩ (.slice (some ⟨g, 0, none⟩) n cap)) := by
  have hB1 := lt_of_block h1
  have hgB : B ≠ g := by
    rcases hat with h | h
    · exact Nat.ne_of_lt (hv g h).1
    · omega
  have hWB : v.ownBlock ≠ some B := fun h => by have := (hv B h).1; omega
  have hkeep : ∀ j, j < W1.heap.size → v.ownBlock ≠ some j → W2.heap[j]? = W1.heap[j]? := fun j hj hne => by
    rw [hg.block j (by simp; omega) (fun h => hne h.symm)]
    exact Below.heap_alloc _ _ _ hj
  have hset : ∀ j, j ≠ B → (W2.setCell ⟨B, 0, none⟩ (.slice (some ⟨g, 0, none⟩) n cap)).heap[j]? = W2.heap[j]? := fun j hj => Below.heap_setCell _ _ _ _ hj
  have hI : ∀ a l, IntsAt W1 a l → Off a l B v → IntsAt (W2.setCell ⟨B, 0, none⟩ (.slice (some ⟨g, 0, none⟩) n cap)) a l ∧ Off a l B (.slice (some ⟨g, 0, none⟩) n cap) := fun a l h0 h6 => by
    refine ⟨h0.keep fun y e hl hlt => ?_, fun y e hl => ?_⟩
    · rw [hset _ (h6 y e hl).1, hkeep _ hlt (h6 y e hl).2]
    · refine ⟨(h6 y e hl).1, fun h7 => ?_⟩
      subst e
      have hlt := h0.lt hl
      simp [Value.ownBlock] at h7
      rcases hat with h | h
      · exact (h6 y rfl hl).2 (by rw [h, h7])
      · omega
  have hoff : Off x r B v := fun y e hl => by
    have := hf y e
    refine ⟨by omega, fun h => ?_⟩
    have := (hv _ h).2
    omega
  refine ⟨.slice (some ⟨g, 0, none⟩) n cap, ?_, ownsRow_setCell_other ho (by simp [Value.ownBlock]; omega) _, ?_, ?_, h5⟩
  · have hB2 : W2.heap[B]? = some (.cells #[v] 31 (0, 0)) := by rw [hkeep B hB1 hWB]; exact h1
    exact one_setCell hB2
  · intro p hp
    rcases List.mem_cons.1 hp with rfl | hp
    · exact hI _ _ hx hoff
    · exact hI _ _ (h3 p hp).1 (h3 p hp).2
  · refine Below.setCell ?_ h5 _
    have h6 : Below w.heap.size w (W1.alloc (.cells #[.int .i64 0] 26)) := h4.alloc (Nat.le_trans h5 (Nat.le_of_lt hB1)) _
    exact h6.grown hg (by have := h4.size; simp; omega) (fun j e => by have := hv j e; omega)

set_option maxRecDepth 100000 in
set_option maxHeartbeats 2000000 in
theorem join_more (l m : List Int) (a b : Option Addr) (c c' : Nat) (w W : World) (B k : Nat) (L : List (Option Addr × List Int)) (H : Bd w B k L W) (hk : k ≤ 1000) (q1 : chk l = 0) (q2 : chk m = 0) (q3 : l.length = m.length) (h1 : IntsAt W a l) (h2 : IntsAt W b m) :
    Calls Try.prog 20 #[.slice a l.length c, .slice b m.length c', .pointer (some ⟨B, 0, none⟩)] W fun e W' => ∃ x d, e = .returned (.slice x (List.zipWith max l m).length d) ∧ Bd w B (k + 1) ((x, List.zipWith max l m) :: L) W' := by
  have J := Join_ok l m a b c c' W q1 q2 q3 h1 h2
  unfold GivesF at J
  obtain ⟨i0, hi, hz0, hz1, hz2⟩ := info_parts infoE
  obtain ⟨v, hB, ho, hL, hlow, hwB⟩ := H
  have hBlt := lt_of_block hB
  have hv := Lib.hid (show ∀ j, v.ownBlock = some j → B < j ∧ j < W.heap.size from fun j e => ho.lt j e)
  have HL := Lib.hid hL
  generalize List.zipWith max l m = r at *
  clear q1 q2 q3 h1 h2 hL
  go_enter Try.func20, Try.ntmps20
  go_wp2_with fail
  refine J.mono ?_
  rintro e W1 ⟨⟨x, d, rfl, hI, hF⟩, hE⟩
  have hB1 : W1.heap[B]? = some (.cells #[v] 31 (0, 0)) := by rw [hE.block B hBlt]; exact hB
  have ho1 := ownsRow_ext ho hE
  have hcell := cell_of_one hB1
  have hfz := free_of_one hB1
  have HI := Lib.hid hI
  have HF := Lib.hid hF
  have HE := Lib.hid hE
  have HB1 := Lib.hid hB1
  have hz := hE.size
  have hB1lt := lt_of_block hB1
  have HN := Lib.hid (show some B ≠ v.ownBlock from fun h => by have := (hv.out B h.symm).1; omega)
  clear hI hF hE hB1 ho hB
  go_wp2_with (at_builtin; go_loud (refine wpList_append_lies _ rfl _ _ 31 rfl (B + 1) 26 i0 (.int .i64 0) 1 8 Try.underlying31 hi hz0 hz1 hz2 rfl (by decide) v k (zeros k) rfl (ho1.alloc _) ⟨W1.heap.size, 0, none⟩ 1 1 [.int .i64 0] rfl rfl (cell_one_new _ _ _) (by simp [Value.oneCell']) (by omega) (by unfold maxLen; omega) (by omega) (by simp; omega) (W1.heap.size + 1) (by simp) ?_); intro g cap W2 hown hgrow hat hlt; have hcell2 : W2.cell? ⟨B, 0, none⟩ = some v := by { rw [hgrow.cell_far ⟨B, 0, none⟩ (by simp; omega) HN.out]; rw [World.cell?_of_block (Below.heap_alloc _ _ _ hB1lt)]; exact hcell }; have hfz2 : W2.frozen? ⟨B, 0, none⟩ = false := by { rw [hgrow.frozen_far ⟨B, 0, none⟩ (by simp; omega) HN.out]; rw [World.frozen?_of_block (Below.heap_alloc _ _ _ hB1lt)]; exact hfz })
  rw [zeros_succ] at hown
  go_ret
  refine ⟨_, _, rfl, Bd.more (W := W) HB1.out (fun p hp => ⟨(HL.out p hp).1.below HE.out, (HL.out p hp).2⟩) (Ext.trans hlow HE.out) hwB HI.out HF.out hBlt hv.out hown hgrow hat⟩

end Go.Proofs.Ytaplbcmpjhdohaa
