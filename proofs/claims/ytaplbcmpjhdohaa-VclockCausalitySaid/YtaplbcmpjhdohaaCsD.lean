/- VclockCausality: one event more: what the region that appends to the three rows leaves. -/
import Derived.Test.YtaplbcmpjhdohaaCsC
namespace Go.Proofs.Ytaplbcmpjhdohaa
open Go.RowKit
set_option linter.unusedVariables false
set_option linter.unusedSimpArgs false

theorem own_off {w : World} {base : Nat} {e : TypeId} {v : Value} {n : Nat} {xs : List Value} (h : w.ownsRow base e 1 v n xs) {j : Nat} {c : Array Value} {T : TypeId} {f : Nat × Nat} (hb : w.heap[j]? = some (.cells c T f)) (hne : e ≠ T) : v.ownBlock ≠ some j := by
  intro e0
  rcases h.2 with ⟨rfl, _⟩ | ⟨g1, c1, cur1, rfl, _, hg1, _⟩
  · simp [Value.ownBlock] at e0
  · simp [Value.ownBlock] at e0
    subst e0
    rw [hb] at hg1
    cases hg1
    exact hne rfl
theorem BoolsAt.off {W : World} {b : Nat} {l : List Bool} (h : BoolsAt W b l) {base : Nat} {e : TypeId} {v : Value} {n : Nat} {xs : List Value} (ho : W.ownsRow base e 1 v n xs) (hne : e ≠ 4) : v.ownBlock ≠ some b := by
  obtain ⟨cs, h1, _⟩ := h; exact own_off ho h1 hne
theorem ne_type {W : World} {i j : Nat} {c c' : Array Value} {T T' : TypeId} {f f' : Nat × Nat} (h : W.heap[i]? = some (.cells c T f)) (h' : W.heap[j]? = some (.cells c' T' f')) (hne : T ≠ T') : i ≠ j := by
  rintro rfl; rw [h] at h'; cases h'; exact hne rfl
theorem BoolsAt.ne {W : World} {b : Nat} {l : List Bool} (h : BoolsAt W b l) {j : Nat} {c : Array Value} {T : TypeId} {f : Nat × Nat} (h' : W.heap[j]? = some (.cells c T f)) (hne : 4 ≠ T) : b ≠ j := by
  obtain ⟨cs, h1, _⟩ := h; exact ne_type h1 h' hne
theorem ownsRow_of_block {w W : World} {base : Nat} {e : TypeId} {v : Value} {n : Nat} {xs : List Value} (h : w.ownsRow base e 1 v n xs) (hk : ∀ j, v.ownBlock = some j → W.heap[j]? = w.heap[j]?) : W.ownsRow base e 1 v n xs := by
  refine ⟨h.1, ?_⟩
  rcases h.2 with hn | ⟨g, cap, cur, rfl, hb, hg, rest⟩
  · exact .inl hn
  · exact .inr ⟨g, cap, cur, rfl, hb, (hk g rfl).trans hg, rest⟩

/-- what is appended to the clocks, to the pasts -/
abbrev R24 (base : Nat) (vC vB : Value) (CL : List CE) (KL : List KE) (x : CE) (y : KE) (w W : World) : Prop :=
  Two base 23 vC CL.length (CL.map CV) (CV x) 44 vB KL.length (KL.map KV) (KV y) w W

theorem St.step {base : Nat} {w5 w6 w7 : World} {Bc Bb : Nat} {vC vB vP : Value} {CL : List CE} {KL : List KE} {PL : List Int} (S : St base w5 Bc Bb vC vB vP CL KL PL) (x : CE) (y : KE) (p : Int)
    (R : R24 base vC vB CL KL x y w5 w6) (gC kC gB kB gP kP : Nat)
    (o1 : w6.ownsRow base 23 1 (.slice (some ⟨gC, 0, none⟩) (CL.length + 1) kC) (CL.length + 1) (CL.map CV ++ [CV x])) (a1 : vC.ownBlock = some gC ∨ w5.heap.size ≤ gC)
    (o2 : w6.ownsRow base 44 1 (.slice (some ⟨gB, 0, none⟩) (KL.length + 1) kB) (KL.length + 1) (KL.map KV ++ [KV y])) (a2 : vB.ownBlock = some gB ∨ w5.heap.size ≤ gB)
    (o3 : w7.ownsRow base 3 1 (.slice (some ⟨gP, 0, none⟩) (PL.length + 1) kP) (PL.length + 1) (PL.map (Value.int .i64) ++ [.int .i64 p])) (a3 : vP.ownBlock = some gP ∨ w5.heap.size ≤ gP) (hg : w6.grownBy w7 vP.ownBlock)
    (hx : IntsAt w5 x.a x.l) (hl : x.l.length = 4) (hf : ∀ y, x.a = some y → y.block ≠ Bc ∧ y.block ≠ Bb ∧ vC.ownBlock ≠ some y.block ∧ vB.ownBlock ≠ some y.block ∧ vP.ownBlock ≠ some y.block ∧ y.block < w5.heap.size) (hy : BoolsAt w5 y.b y.l) :
    St base ((w7.setCell ⟨Bc, 0, none⟩ (.slice (some ⟨gC, 0, none⟩) (CL.length + 1) kC)).setCell ⟨Bb, 0, none⟩ (.slice (some ⟨gB, 0, none⟩) (KL.length + 1) kB)) Bc Bb (.slice (some ⟨gC, 0, none⟩) (CL.length + 1) kC) (.slice (some ⟨gB, 0, none⟩) (KL.length + 1) kB) (.slice (some ⟨gP, 0, none⟩) (PL.length + 1) kP) (CL ++ [x]) (KL ++ [y]) (PL ++ [p]) := by
  have hCB : Bc ≠ Bb := ne_type S.hC S.hB (by decide)
  have k67 : ∀ j, j < w5.heap.size → vC.ownBlock ≠ some j → vB.ownBlock ≠ some j → vP.ownBlock ≠ some j → w7.heap[j]? = w5.heap[j]? := fun j h0 h1 h2 h3 =>
    (hg.block j (Nat.lt_of_lt_of_le h0 R.size) (fun e => h3 e.symm)).trans (R.block j h0 h1 h2)
  have hC7 : w7.heap[Bc]? = some (.cells #[vC] 40 (0, 0)) := (k67 Bc (lt_of_block S.hC) (own_off S.oC S.hC (by decide)) (own_off S.oB S.hC (by decide)) (own_off S.oP S.hC (by decide))).trans S.hC
  have hB7 : w7.heap[Bb]? = some (.cells #[vB] 41 (0, 0)) := (k67 Bb (lt_of_block S.hB) (own_off S.oC S.hB (by decide)) (own_off S.oB S.hB (by decide)) (own_off S.oP S.hB (by decide))).trans S.hB
  have oP6 : w6.ownsRow base 3 1 vP PL.length (PL.map (Value.int .i64)) := ownsRow_of_block S.oP (fun j e => by
    have h1 : vC.ownBlock ≠ some j := by
      rcases own_ne S.oP S.oC (by decide) with h | h
      · rw [h]; simp
      · rw [← e]; exact h
    have h2 : vB.ownBlock ≠ some j := by
      rcases own_ne S.oP S.oB (by decide) with h | h
      · rw [h]; simp
      · rw [← e]; exact h
    exact R.block j (S.oP.lt j e).2 h1 h2)
  have o1' : w7.ownsRow base 23 1 (.slice (some ⟨gC, 0, none⟩) (CL.length + 1) kC) (CL.length + 1) (CL.map CV ++ [CV x]) := o1.kept hg (own_ne oP6 o1 (by decide))
  have o2' : w7.ownsRow base 44 1 (.slice (some ⟨gB, 0, none⟩) (KL.length + 1) kB) (KL.length + 1) (KL.map KV ++ [KV y]) := o2.kept hg (own_ne oP6 o2 (by decide))
  have two : ∀ {e : TypeId} {v : Value} {n : Nat} {xs : List Value}, w7.ownsRow base e 1 v n xs → e ≠ 40 → e ≠ 41 →
      ((w7.setCell ⟨Bc, 0, none⟩ (.slice (some ⟨gC, 0, none⟩) (CL.length + 1) kC)).setCell ⟨Bb, 0, none⟩ (.slice (some ⟨gB, 0, none⟩) (KL.length + 1) kB)).ownsRow base e 1 v n xs := fun h n1 n2 =>
    ownsRow_setCell_other (ownsRow_setCell_other h (own_off h hC7 n1) _) (own_off h hB7 n2) _
  have k9 : ∀ j, j < w5.heap.size → vC.ownBlock ≠ some j → vB.ownBlock ≠ some j → vP.ownBlock ≠ some j → j ≠ Bc → j ≠ Bb →
      ((w7.setCell ⟨Bc, 0, none⟩ (.slice (some ⟨gC, 0, none⟩) (CL.length + 1) kC)).setCell ⟨Bb, 0, none⟩ (.slice (some ⟨gB, 0, none⟩) (KL.length + 1) kB)).heap[j]? = w5.heap[j]? := fun j h0 h1 h2 h3 h4 h5 =>
    ((Below.heap_setCell _ _ _ _ h5).trans (Below.heap_setCell _ _ _ _ h4)).trans (k67 j h0 h1 h2 h3)
  have hs9 : w5.heap.size ≤ ((w7.setCell ⟨Bc, 0, none⟩ (.slice (some ⟨gC, 0, none⟩) (CL.length + 1) kC)).setCell ⟨Bb, 0, none⟩ (.slice (some ⟨gB, 0, none⟩) (KL.length + 1) kB)).heap.size := by
    have := hg.size
    have := R.size
    simp [World.setCell]; omega
  have ints : ∀ z : CE, (IntsAt w5 z.a z.l ∧ z.l.length = 4 ∧ ∀ y, z.a = some y → y.block ≠ Bc ∧ y.block ≠ Bb ∧ vC.ownBlock ≠ some y.block ∧ vB.ownBlock ≠ some y.block ∧ vP.ownBlock ≠ some y.block ∧ y.block < w5.heap.size) →
      IntsAt ((w7.setCell ⟨Bc, 0, none⟩ (.slice (some ⟨gC, 0, none⟩) (CL.length + 1) kC)).setCell ⟨Bb, 0, none⟩ (.slice (some ⟨gB, 0, none⟩) (KL.length + 1) kB)) z.a z.l ∧ z.l.length = 4 ∧ ∀ y, z.a = some y → y.block ≠ Bc ∧ y.block ≠ Bb ∧ (Value.slice (some ⟨gC, 0, none⟩) (CL.length + 1) kC).ownBlock ≠ some y.block ∧ (Value.slice (some ⟨gB, 0, none⟩) (KL.length + 1) kB).ownBlock ≠ some y.block ∧ (Value.slice (some ⟨gP, 0, none⟩) (PL.length + 1) kP).ownBlock ≠ some y.block ∧
        y.block < ((w7.setCell ⟨Bc, 0, none⟩ (.slice (some ⟨gC, 0, none⟩) (CL.length + 1) kC)).setCell ⟨Bb, 0, none⟩ (.slice (some ⟨gB, 0, none⟩) (KL.length + 1) kB)).heap.size := by
    rintro z ⟨h1, h2, h3⟩
    refine ⟨h1.keep (fun y e _ _ => ?_), h2, fun y e => ?_⟩
    · obtain ⟨g1, g2, g3, g4, g5, g6⟩ := h3 y e
      exact k9 _ g6 g3 g4 g5 g1 g2
    · obtain ⟨g1, g2, g3, g4, g5, g6⟩ := h3 y e
      refine ⟨g1, g2, ?_, ?_, ?_, Nat.lt_of_lt_of_le g6 hs9⟩
      · intro e1
        simp [Value.ownBlock] at e1
        rcases a1 with h | h
        · exact g3 (by rw [h, e1])
        · omega
      · intro e1
        simp [Value.ownBlock] at e1
        rcases a2 with h | h
        · exact g4 (by rw [h, e1])
        · omega
      · intro e1
        simp [Value.ownBlock] at e1
        rcases a3 with h | h
        · exact g5 (by rw [h, e1])
        · omega
  have rows : ∀ z : KE, BoolsAt w5 z.b z.l → BoolsAt ((w7.setCell ⟨Bc, 0, none⟩ (.slice (some ⟨gC, 0, none⟩) (CL.length + 1) kC)).setCell ⟨Bb, 0, none⟩ (.slice (some ⟨gB, 0, none⟩) (KL.length + 1) kB)) z.b z.l := fun z h =>
    h.keep (k9 _ h.lt (h.off S.oC (by decide)) (h.off S.oB (by decide)) (h.off S.oP (by decide)) (h.ne S.hC (by decide)) (h.ne S.hB (by decide)))
  refine ⟨?_, ?_, ?_, ?_, ?_, ?_, ?_⟩
  · exact (Below.heap_setCell _ _ _ _ hCB).trans (one_setCell hC7)
  · exact one_setCell ((Below.heap_setCell _ _ _ _ (Ne.symm hCB)).trans hB7)
  · rw [List.length_append, List.map_append]
    exact two o1' (by decide) (by decide)
  · rw [List.length_append, List.map_append]
    exact two o2' (by decide) (by decide)
  · rw [List.length_append, List.map_append]
    exact two o3 (by decide) (by decide)
  · intro z hz
    rcases List.mem_append.1 hz with hz | hz
    · exact ints z (S.ints z hz)
    · rw [List.mem_singleton] at hz
      subst hz
      exact ints z ⟨hx, hl, hf⟩
  · intro z hz
    rcases List.mem_append.1 hz with hz | hz
    · exact rows z (S.rows z hz)
    · rw [List.mem_singleton] at hz
      subst hz
      exact rows z hy

/-- the values of the region that appends -/
def apR (base : Nat) (vC vB vP : Value) (CL : List CE) (KL : List KE) (x : CE) (y : KE) (p : Int) (w : World) : Nat → (Nat → Value) → World → Prop
  | 0, s, _ => s 0 = vC
  | 1, s, _ => s 1 = CV x
  | 2, s, W => ∃ b, s 2 = .slice (some ⟨b, 0, none⟩) 1 1 ∧ W.heap[b]? = some (.cells #[CV x] 23 (0, 0)) ∧ w.heap.size ≤ b
  | 3, s, W => ∃ g c, s 3 = .slice (some ⟨g, 0, none⟩) (CL.length + 1) c ∧ W.ownsRow base 23 1 (.slice (some ⟨g, 0, none⟩) (CL.length + 1) c) (CL.length + 1) (CL.map CV ++ [CV x]) ∧ (vC.ownBlock = some g ∨ w.heap.size ≤ g)
  | 4, s, _ => s 4 = vB
  | 5, s, _ => s 5 = KV y
  | 6, s, W => ∃ b, s 6 = .slice (some ⟨b, 0, none⟩) 1 1 ∧ W.heap[b]? = some (.cells #[KV y] 44 (0, 0)) ∧ w.heap.size ≤ b
  | 7, s, W => ∃ g c, s 7 = .slice (some ⟨g, 0, none⟩) (KL.length + 1) c ∧ W.ownsRow base 44 1 (.slice (some ⟨g, 0, none⟩) (KL.length + 1) c) (KL.length + 1) (KL.map KV ++ [KV y]) ∧ (vB.ownBlock = some g ∨ w.heap.size ≤ g)
  | 8, s, _ => s 8 = vP
  | 9, s, _ => s 9 = .int .i64 p
  | 10, s, W => ∃ b, s 10 = .slice (some ⟨b, 0, none⟩) 1 1 ∧ W.heap[b]? = some (.cells #[.int .i64 p] 3 (0, 0)) ∧ w.heap.size ≤ b
  | _, _, _ => True
theorem apR_st (base : Nat) (vC vB vP : Value) (CL : List CE) (KL : List KE) (x : CE) (y : KE) (p : Int) (w : World) (hC : ∀ j, vC.ownBlock = some j → j < w.heap.size) (hB : ∀ j, vB.ownBlock = some j → j < w.heap.size) :
    ∀ i s s' W W', apR base vC vB vP CL KL x y p w i s W → (∀ k ∈ [i], s' k = s k) → R24 base vC vB CL KL x y W W' → apR base vC vB vP CL KL x y p w i s' W' := by
  intro i s s' W W' h hs hE
  have hs := hs i (by simp)
  have kp : ∀ {b : Nat} {o : Obj}, W.heap[b]? = some o → w.heap.size ≤ b → W'.heap[b]? = some o := fun hb hle =>
    (hE.block _ (lt_of_block hb) (fun e => by have := hC _ e; omega) (fun e => by have := hB _ e; omega)).trans hb
  match i, h, hs with
  | 0, h, hs => exact hs.trans h
  | 1, h, hs => exact hs.trans h
  | 2, ⟨b, h1, h2, h3⟩, hs => exact ⟨b, hs.trans h1, kp h2 h3, h3⟩
  | 3, ⟨g, c, h1, h2, h3⟩, hs => exact ⟨g, c, hs.trans h1, hE.b1 _ h2, h3⟩
  | 4, h, hs => exact hs.trans h
  | 5, h, hs => exact hs.trans h
  | 6, ⟨b, h1, h2, h3⟩, hs => exact ⟨b, hs.trans h1, kp h2 h3, h3⟩
  | 7, ⟨g, c, h1, h2, h3⟩, hs => exact ⟨g, c, hs.trans h1, hE.b2 _ h2, h3⟩
  | 8, h, hs => exact hs.trans h
  | 9, h, hs => exact hs.trans h
  | 10, ⟨b, h1, h2, h3⟩, hs => exact ⟨b, hs.trans h1, kp h2 h3, h3⟩
  | i + 11, h, hs => exact trivial

end Go.Proofs.Ytaplbcmpjhdohaa
