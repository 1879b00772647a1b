/- VclockCausality: the memory of the events; New and Tick with the place of their results; what learn does. -/
import Derived.Test.YtaplbcmpjhdohaaCsA
import Derived.Test.YtaplbcmpjhdohaaVc8
import Derived.StillTailTactics
namespace Go.Proofs.Ytaplbcmpjhdohaa
open Go.RowKit
set_option linter.unusedVariables false
set_option linter.unusedSimpArgs false

/-- a row of booleans -/
def BoolsAt (W : World) (b : Nat) (l : List Bool) : Prop := ∃ cs : Array Value, W.heap[b]? = some (.cells cs 4 (0, 0)) ∧ ∀ m (h : m < l.length), cs[m]? = some (.bool l[m])
theorem BoolsAt.get {W : World} {b : Nat} {l : List Bool} (h : BoolsAt W b l) {m : Nat} (hm : m < l.length) : W.cell? ⟨b, m, none⟩ = some (.bool l[m]) := by
  obtain ⟨cs, h1, h2⟩ := h; exact cell_of h1 (h2 m hm)
theorem BoolsAt.free {W : World} {b : Nat} {l : List Bool} (h : BoolsAt W b l) (m : Nat) : W.frozen? ⟨b, m, none⟩ = false := by
  obtain ⟨cs, h1, h2⟩ := h; exact free_of h1
theorem BoolsAt.lt {W : World} {b : Nat} {l : List Bool} (h : BoolsAt W b l) : b < W.heap.size := by
  obtain ⟨cs, h1, h2⟩ := h; exact lt_of_block h1
theorem BoolsAt.keep {W W' : World} {b : Nat} {l : List Bool} (h : BoolsAt W b l) (e : W'.heap[b]? = W.heap[b]?) : BoolsAt W' b l := by
  obtain ⟨cs, h1, h2⟩ := h; exact ⟨cs, e.trans h1, h2⟩
theorem BoolsAt.ext {W W' : World} {b : Nat} {l : List Bool} (h : BoolsAt W b l) (hE : Ext W W') : BoolsAt W' b l := h.keep (hE.below.block b h.lt)
theorem BoolsAt.set {W : World} {b : Nat} {l : List Bool} (h : BoolsAt W b l) (m : Nat) (v : Bool) : BoolsAt (W.setCell ⟨b, m, none⟩ (.bool v)) b (l.set m v) := by
  obtain ⟨cs, h1, h2⟩ := h
  refine ⟨cs.setIfInBounds m (.bool v), ?_, fun j hj => ?_⟩
  · simp only [World.setCell, Array.getElem?_modify, if_true, h1]
    rfl
  · have hj' : j < l.length := by simpa using hj
    have h3 := h2 j hj'
    have hs : j < cs.size := (Array.getElem?_eq_some_iff.1 h3).1
    by_cases e : m = j
    · subst e; simp [hs]
    · rw [List.getElem_set_ne e, Array.getElem?_setIfInBounds_ne e]; exact h3

/-- a clock, a row of booleans, as they lie in memory -/
structure CE where
  a : Option Addr
  c : Nat
  l : List Int
structure KE where
  b : Nat
  l : List Bool
def CV (x : CE) : Value := .slice x.a x.l.length x.c
def KV (x : KE) : Value := .slice (some ⟨x.b, 0, none⟩) x.l.length x.l.length

/-- the memory of the events -/
structure St (base : Nat) (W : World) (Bc Bb : Nat) (vC vB vP : Value) (CL : List CE) (KL : List KE) (PL : List Int) : Prop where
  hC : W.heap[Bc]? = some (.cells #[vC] 40 (0, 0))
  hB : W.heap[Bb]? = some (.cells #[vB] 41 (0, 0))
  oC : W.ownsRow base 23 1 vC CL.length (CL.map CV)
  oB : W.ownsRow base 44 1 vB KL.length (KL.map KV)
  oP : W.ownsRow base 3 1 vP PL.length (PL.map (Value.int .i64))
  ints : ∀ x ∈ CL, IntsAt W x.a x.l ∧ x.l.length = 4 ∧ ∀ y, x.a = some y → y.block ≠ Bc ∧ y.block ≠ Bb ∧ vC.ownBlock ≠ some y.block ∧ vB.ownBlock ≠ some y.block ∧ vP.ownBlock ≠ some y.block ∧ y.block < W.heap.size
  rows : ∀ x ∈ KL, BoolsAt W x.b x.l
theorem St.ext {base : Nat} {W W' : World} {Bc Bb : Nat} {vC vB vP : Value} {CL : List CE} {KL : List KE} {PL : List Int} (S : St base W Bc Bb vC vB vP CL KL PL) (h : Ext W W') : St base W' Bc Bb vC vB vP CL KL PL where
  hC := (h.below.block _ (lt_of_block S.hC)).trans S.hC
  hB := (h.below.block _ (lt_of_block S.hB)).trans S.hB
  oC := ownsRow_ext S.oC h
  oB := ownsRow_ext S.oB h
  oP := ownsRow_ext S.oP h
  ints := fun x hx => by
    obtain ⟨h1, h2, h3⟩ := S.ints x hx
    refine ⟨h1.below h, h2, fun y e => ?_⟩
    obtain ⟨g1, g2, g3, g4, g5, g6⟩ := h3 y e
    exact ⟨g1, g2, g3, g4, g5, Nat.lt_of_lt_of_le g6 h.size⟩
  rows := fun x hx => (S.rows x hx).ext h

/-- the variables of the event that is being made -/
structure Lr (W : World) (kn kb cc ec : Nat) (kl : List Bool) (ca : Option Addr) (cd : Nat) (cl : List Int) : Prop where
  h1 : W.heap[kn]? = some (.cells #[.slice (some ⟨kb, 0, none⟩) kl.length kl.length] 44 (0, 0))
  h2 : BoolsAt W kb kl
  h3 : W.heap[cc]? = some (.cells #[.slice ca cl.length cd] 23 (0, 0))
  h4 : IntsAt W ca cl
  h5 : cl.length = 4
  h6 : W.heap[ec]? = some (.cells #[.int .i64 0] 26 (0, 0))
  h7 : ∀ y, ca = some y → y.block ≠ kn ∧ y.block ≠ kb ∧ y.block ≠ cc ∧ y.block ≠ ec
theorem Lr.ext {W W' : World} {kn kb cc ec : Nat} {kl : List Bool} {ca : Option Addr} {cd : Nat} {cl : List Int} (L : Lr W kn kb cc ec kl ca cd cl) (h : Ext W W') : Lr W' kn kb cc ec kl ca cd cl :=
  ⟨(h.below.block _ (lt_of_block L.h1)).trans L.h1, L.h2.ext h, (h.below.block _ (lt_of_block L.h3)).trans L.h3, L.h4.below h, L.h5, (h.below.block _ (lt_of_block L.h6)).trans L.h6, L.h7⟩
theorem Lr.ne {W : World} {kn kb cc ec : Nat} {kl : List Bool} {ca : Option Addr} {cd : Nat} {cl : List Int} (L : Lr W kn kb cc ec kl ca cd cl) : kn ≠ kb ∧ cc ≠ kb ∧ ec ≠ kb ∧ kn ≠ cc ∧ kn ≠ ec ∧ cc ≠ ec := by
  obtain ⟨cs, h2, _⟩ := L.h2
  have g1 := L.h1
  have g3 := L.h3
  have g6 := L.h6
  refine ⟨?_, ?_, ?_, ?_, ?_, ?_⟩ <;> rintro rfl
  · rw [h2] at g1; injection g1 with g; injection g with _ g; exact absurd g (by decide)
  · rw [h2] at g3; injection g3 with g; injection g with _ g; exact absurd g (by decide)
  · rw [h2] at g6; injection g6 with g; injection g with _ g; exact absurd g (by decide)
  · rw [g1] at g3; injection g3 with g; injection g with _ g; exact absurd g (by decide)
  · rw [g1] at g6; injection g6 with g; injection g with _ g; exact absurd g (by decide)
  · rw [g3] at g6; injection g6 with g; injection g with _ g; exact absurd g (by decide)
/-- a store to the row of what is known -/
theorem Lr.know {W : World} {kn kb cc ec : Nat} {kl : List Bool} {ca : Option Addr} {cd : Nat} {cl : List Int} (L : Lr W kn kb cc ec kl ca cd cl) (m : Nat) (v : Bool) : Lr (W.setCell ⟨kb, m, none⟩ (.bool v)) kn kb cc ec (kl.set m v) ca cd cl := by
  obtain ⟨n1, n2, n3, _⟩ := L.ne
  have hk : ∀ j, j ≠ kb → (W.setCell ⟨kb, m, none⟩ (.bool v)).heap[j]? = W.heap[j]? := fun j hj => Below.heap_setCell _ _ _ _ hj
  refine ⟨?_, L.h2.set m v, (hk _ n2).trans L.h3, ?_, L.h5, (hk _ n3).trans L.h6, L.h7⟩
  · rw [List.length_set]; exact (hk _ n1).trans L.h1
  · exact L.h4.keep (fun x e hl hlt => hk _ (L.h7 x e).2.1)
/-- the stores at the end -/
theorem Lr.join {W : World} {kn kb cc ec : Nat} {kl : List Bool} {ca ca' : Option Addr} {cd cd' : Nat} {cl cl' : List Int} (L : Lr W kn kb cc ec kl ca cd cl) (hI : IntsAt W ca' cl') (hl : cl'.length = 4) (h7 : ∀ y, ca' = some y → y.block ≠ kn ∧ y.block ≠ kb ∧ y.block ≠ cc ∧ y.block ≠ ec) :
    Lr ((W.setCell ⟨cc, 0, none⟩ (.slice ca' cl'.length cd')).setCell ⟨ec, 0, none⟩ (.int .i64 0)) kn kb cc ec kl ca' cd' cl' := by
  obtain ⟨n1, n2, n3, n4, n5, n6⟩ := L.ne
  have hk : ∀ j, j ≠ cc → j ≠ ec → ((W.setCell ⟨cc, 0, none⟩ (.slice ca' cl'.length cd')).setCell ⟨ec, 0, none⟩ (.int .i64 0)).heap[j]? = W.heap[j]? := fun j h1 h2 =>
    (Below.heap_setCell _ _ _ _ h2).trans (Below.heap_setCell _ _ _ _ h1)
  refine ⟨(hk _ n4 n5).trans L.h1, L.h2.keep (hk _ (Ne.symm n2) (Ne.symm n3)), ?_, ?_, hl, ?_, h7⟩
  · exact (Below.heap_setCell _ _ _ _ n6).trans (one_setCell L.h3)
  · exact hI.keep (fun x e _ hlt => hk _ (h7 x e).2.2.1 (h7 x e).2.2.2)
  · exact one_setCell ((Below.heap_setCell _ _ _ _ (Ne.symm n6)).trans L.h6)

/-! New and Tick: where their results lie -/
set_option maxHeartbeats 2000000 in
theorem New_freshK (k : Nat) (hk : k ≤ 32) (w : World) : GivesF Try.prog 28 #[.int .i64 (k : Int)] w (List.replicate k 0) := by
  have hmk := run_make_row' (P := Try.prog) 23 3 (.int .i64 0) 8 Try.underlying23 infoI rfl .i64 .i64 k (by omega) (by omega)
  obtain ⟨c0, hc0⟩ : ∃ c0, madeCells #[.int .i64 0] k = c0 := ⟨_, rfl⟩
  have HC := Lib.hid hc0
  rw [hc0] at hmk
  clear hc0
  have HI := Lib.hid (show IntsAt (w.alloc (.cells c0 3)) (some ⟨w.heap.size, 0, none⟩) (List.replicate k 0) from fun i hi => by
    have hi' : i < k := by simpa using hi
    refine ⟨_, _, rfl, ?_⟩
    rw [Nat.zero_add]
    refine cell_of (alloc_here _ _) ?_
    rw [← HC.out]
    simp [madeCells, hi', Nat.mod_one])
  have HL := Lib.hid (show (List.replicate k (0 : Int)).length = k by simp)
  generalize List.replicate k (0 : Int) = r at *
  unfold GivesF
  go_enter Try.func28, Try.ntmps28
  go_wp2
  go_ret2
  exact ⟨⟨_, _, by rw [HL.out]; rfl, HI.out, fun y e => by cases e; exact Nat.le_refl _⟩, (Below.refl _ _).alloc (Nat.le_refl _) _⟩
theorem New_fresh (w : World) : GivesF Try.prog 28 #[.int .i64 4] w [0, 0, 0, 0] := New_freshK 4 (by decide) w

set_option maxRecDepth 100000 in
set_option maxHeartbeats 2000000 in
theorem Tick_fresh (l : List Int) (i : Nat) (a : Option Addr) (c : Nat) (w : World) (hc : chk l = 0) (hi : i < l.length) (hx : l[i] ≠ 1099511627776) (h : IntsAt w a l) :
    GivesF Try.prog 26 #[.slice a l.length c, .int .i64 i] w (l.set i (l[i] + 1)) := by
  have h32 := chk_len hc
  have V := valid_any l a c w (by unfold maxLen; omega) h
  rw [hc] at V
  obtain ⟨b, off, rfl, hcell⟩ := h.at hi
  have C := Lib.hid (fun w' (hB : Below w.heap.size w w') => Clone_any l ⟨b, off, none⟩ c w' (by omega) (h.below hB))
  have hb : -9223372036854775808 ≤ l[i] + 1 ∧ l[i] + 1 ≤ 9223372036854775807 := by
    have hm : bad l[i] = false := by
      have hany : l.any bad = false := by
        unfold chk at hc
        split at hc
        · simp at hc
        · split at hc
          · simp at hc
          · rename_i _ hq; simpa using hq
      rw [List.any_eq_false] at hany
      simpa using hany l[i] (List.getElem_mem hi)
    simp [bad] at hm
    omega
  have hw := wrapi hb.1 hb.2
  have hne : (l[i] == 1099511627776) = false := by rw [beq_eq_false_iff_ne]; exact hx
  have HS := Lib.hid (show ∀ wr : World, ∀ g cp, wr.ownsRow w.heap.size 3 1 (.slice (some ⟨g, 0, none⟩) l.length cp) l.length (l.map (Value.int .i64)) → wr.cell? ⟨g, i, none⟩ = some (.int .i64 l[i]) from fun wr g cp ho => by
    rw [ho.cellAt i (by omega)]; simp [hi])
  have HI := Lib.hid (show ∀ wr : World, ∀ g cp, wr.ownsRow w.heap.size 3 1 (.slice (some ⟨g, 0, none⟩) l.length cp) l.length (l.map (Value.int .i64)) → IntsAt (wr.setCell ⟨g, i, none⟩ (.int .i64 (l[i] + 1))) (some ⟨g, 0, none⟩) (l.set i (l[i] + 1)) from fun wr g cp ho j hj => by
    have hj' : j < l.length := by simpa using hj
    refine ⟨_, _, rfl, ?_⟩
    rw [Nat.zero_add, (ho.stored i _).1.cellAt j (by omega)]
    by_cases e : i = j
    · subst e; simp [hi]
    · rw [List.getElem?_set_ne e, List.getElem_set_ne e]; simp [hj'])
  have HL := Lib.hid (show (l.set i (l[i] + 1)).length = l.length by simp)
  clear hc hx hb
  generalize l.set i (l[i] + 1) = r at *
  generalize l[i] = x at *
  unfold GivesF
  go_enter Try.func26, Try.ntmps26
  go_wp2_with fail
  refine V.mono ?_
  intro w1 hB1
  have hcell := (hB1.cell (p := ⟨b, off + i, none⟩) (cell_lt hcell)).trans hcell
  have hE1 := Lib.hid hB1
  clear hB1 V h
  go_wp2_with fail
  refine (C.out _ hE1.out).mono ?_
  rintro e w2 ⟨⟨g, cp, rfl, hown⟩, hB2⟩
  have hown' : w2.ownsRow w.heap.size 3 1 (.slice (some ⟨g, 0, none⟩) l.length cp) l.length (l.map (Value.int .i64)) := Go.Joins.ownsRow_le hown hE1.out.size
  have hE2 := Lib.hid (Ext.trans hE1.out hB2)
  have hcg := HS.out w2 g cp hown'
  have hfz : w2.frozen? ⟨g, i, none⟩ = false := hown'.frozenAt i
  have HJ := Lib.hid (HI.out w2 g cp hown')
  have HG := Lib.hid (show w.heap.size ≤ g from (hown'.lt g rfl).1)
  clear hown hown' hB2 hE1 HS HI C hcell
  go_wp2
  go_ret2
  exact ⟨⟨_, _, by rw [HL.out]; rfl, HJ.out, fun y e => by cases e; exact HG.out⟩, hE2.out.setCell (p := ⟨g, i, none⟩) HG.out _⟩


end Go.Proofs.Ytaplbcmpjhdohaa
