/- VclockCausality: the main walk; ahead of it the plain law. -/
import Derived.Test.YtaplbcmpjhdohaaCsD
import Derived.Deep.Cut
import Derived.Deep.CutRange
namespace Go.Proofs.Ytaplbcmpjhdohaa
open Go.RowKit
set_option linter.unusedVariables false
set_option linter.unusedSimpArgs false

namespace Caus
/-- how many of the events before n are of process q -/
def cnt (P : Nat → Nat) (q : Nat) : Nat → Nat
  | 0 => 0
  | n + 1 => cnt P q n + (if P n = q then 1 else 0)

/-- what is known of n events: processes P, their pasts B, their clocks V -/
structure Inv (P : Nat → Nat) (B : Nat → Nat → Bool) (V : Nat → Nat → Int) (n : Nat) : Prop where
  pr : ∀ i, i < n → P i < 4
  bz : ∀ i, i < n → ∀ m, B i m = true → m < i
  bd : ∀ i, i < n → ∀ q, q < 4 → 0 ≤ V i q ∧ V i q ≤ i + 1
  A : ∀ i, i < n → V i (P i) = cnt P (P i) (i + 1)
  B1 : ∀ i, i < n → ∀ j, B i j = true → (cnt P (P j) (j + 1) : Int) ≤ V i (P j)
  B2 : ∀ i, i < n → ∀ q, q < 4 → V i q = 0 ∨ ∃ j, (j = i ∨ B i j = true) ∧ P j = q ∧ V i q = cnt P q (j + 1)
  C : ∀ i, i < n → ∀ j m, B i j = true → B j m = true → B i m = true
  D : ∀ i, i < n → ∀ k, k < i → P k = P i → B i k = true
  E : ∀ i, i < n → ∀ k, B i k = true → ∀ q, q < 4 → V k q ≤ V i q

theorem cnt_mono (P : Nat → Nat) (q : Nat) {a b : Nat} (h : a ≤ b) : cnt P q a ≤ cnt P q b := by
  induction b with
  | zero => obtain rfl : a = 0 := by omega
            exact Nat.le_refl _
  | succ b ih =>
    rcases Nat.lt_or_ge a (b + 1) with h1 | h1
    · have := ih (by omega); show _ ≤ cnt P q b + _; omega
    · obtain rfl : a = b + 1 := by omega
      exact Nat.le_refl _
theorem cnt_self (P : Nat → Nat) (j : Nat) : cnt P (P j) (j + 1) = cnt P (P j) j + 1 := by simp [cnt]
theorem cnt_congr {P P' : Nat → Nat} (q n : Nat) (h : ∀ i, i < n → P' i = P i) : cnt P' q n = cnt P q n := by
  induction n with
  | zero => rfl
  | succ n ih => simp only [cnt]; rw [ih (fun i hi => h i (by omega)), h n (by omega)]
theorem cnt_le (P : Nat → Nat) (q n : Nat) : cnt P q n ≤ n := by
  induction n with
  | zero => exact Nat.le_refl _
  | succ n ih => simp only [cnt]; split <;> omega
theorem cnt_last (P : Nat → Nat) (q : Nat) : ∀ n, cnt P q n = 0 ∨ ∃ j, j < n ∧ P j = q ∧ cnt P q (j + 1) = cnt P q n
  | 0 => .inl rfl
  | n + 1 => by
    by_cases e : P n = q
    · exact .inr ⟨n, by omega, e, rfl⟩
    · have h1 : cnt P q (n + 1) = cnt P q n := by simp [cnt, e]
      rcases cnt_last P q n with h0 | ⟨j, h2, h3, h4⟩
      · exact .inl (by omega)
      · exact .inr ⟨j, by omega, h3, by omega⟩

/-- while event n is made: what is known, and the clock, after the events S were learned -/
structure Mid (B : Nat → Nat → Bool) (V : Nat → Nat → Int) (n : Nat) (S : List Nat) (know : Nat → Bool) (c : Nat → Int) : Prop where
  sl : ∀ k ∈ S, k < n
  k1 : ∀ m, know m = true ↔ ∃ k ∈ S, m = k ∨ B k m = true
  c1 : ∀ k ∈ S, ∀ q, q < 4 → V k q ≤ c q
  c2 : ∀ q, q < 4 → c q = 0 ∨ ∃ k ∈ S, c q = V k q
  c0 : ∀ q, q < 4 → 0 ≤ c q ∧ c q ≤ n

theorem Mid.start (B : Nat → Nat → Bool) (V : Nat → Nat → Int) (n : Nat) (know : Nat → Bool) (c : Nat → Int) (h1 : ∀ m, know m = false) (h2 : ∀ q, q < 4 → c q = 0) : Mid B V n [] know c where
  sl := by simp
  k1 := fun m => by simp [h1]
  c1 := by simp
  c2 := fun q hq => .inl (h2 q hq)
  c0 := fun q hq => by rw [h2 q hq]; omega

theorem Mid.learn {P : Nat → Nat} {B : Nat → Nat → Bool} {V : Nat → Nat → Int} {n : Nat} {S : List Nat} {know know' : Nat → Bool} {c c' : Nat → Int} (I : Inv P B V n) (M : Mid B V n S know c) (k : Nat) (hk : k < n)
    (h1 : ∀ m, know' m = true ↔ know m = true ∨ m = k ∨ B k m = true) (h2 : ∀ q, q < 4 → c' q = max (c q) (V k q)) : Mid B V n (k :: S) know' c' := by
  refine ⟨?_, ?_, ?_, ?_, ?_⟩
  · intro j hj
    rcases List.mem_cons.1 hj with rfl | hj
    · exact hk
    · exact M.sl j hj
  · intro m
    rw [h1, M.k1]
    constructor
    · rintro (⟨j, hj, e⟩ | h)
      · exact ⟨j, List.mem_cons_of_mem _ hj, e⟩
      · exact ⟨k, List.mem_cons_self .., h⟩
    · rintro ⟨j, hj, e⟩
      rcases List.mem_cons.1 hj with rfl | hj
      · exact .inr e
      · exact .inl ⟨j, hj, e⟩
  · intro j hj q hq
    rw [h2 q hq]
    rcases List.mem_cons.1 hj with rfl | hj
    · exact Int.le_max_right ..
    · exact Int.le_trans (M.c1 j hj q hq) (Int.le_max_left ..)
  · intro q hq
    rw [h2 q hq]
    by_cases h : c q ≤ V k q
    · exact .inr ⟨k, List.mem_cons_self .., by omega⟩
    · rcases M.c2 q hq with h0 | ⟨j, hj, e⟩
      · exact .inl (by omega)
      · exact .inr ⟨j, List.mem_cons_of_mem _ hj, by omega⟩
  · intro q hq
    rw [h2 q hq]
    have h0 := M.c0 q hq
    have h3 := I.bd k hk q hq
    omega

theorem Inv.start (P : Nat → Nat) (B : Nat → Nat → Bool) (V : Nat → Nat → Int) : Inv P B V 0 := by
  refine ⟨?_, ?_, ?_, ?_, ?_, ?_, ?_, ?_, ?_⟩ <;> intro i hi <;> omega

/-- the own component, before the tick, is the number of the process's earlier events -/
theorem Mid.own {P : Nat → Nat} {B : Nat → Nat → Bool} {V : Nat → Nat → Int} {n : Nat} {S : List Nat} {know : Nat → Bool} {c : Nat → Int} (I : Inv P B V n) (M : Mid B V n S know c) (p : Nat) (hp : p < 4) (hS : ∀ k, k < n → P k = p → k ∈ S) : c p = cnt P p n := by
  have h1 : c p ≤ cnt P p n := by
    rcases M.c2 p hp with h | ⟨k, hk, e⟩
    · omega
    · have hk2 := M.sl k hk
      rcases I.B2 k hk2 p hp with h | ⟨j, hj, e2, e3⟩
      · omega
      · have hj2 : j < n := by
          rcases hj with rfl | hj
          · exact hk2
          · exact Nat.lt_trans (I.bz k hk2 j hj) hk2
        have := cnt_mono P p (show j + 1 ≤ n by omega)
        omega
  rcases cnt_last P p n with h | ⟨j, hj, e, h2⟩
  · have := (M.c0 p hp).1; omega
  · have h3 := M.c1 j (hS j hj e) p hp
    have h4 := I.A j hj
    rw [e] at h4
    omega

theorem Inv.step {P P' : Nat → Nat} {B B' : Nat → Nat → Bool} {V V' : Nat → Nat → Int} {n : Nat} {S : List Nat} {know : Nat → Bool} {c : Nat → Int} (I : Inv P B V n) (M : Mid B V n S know c) (p : Nat) (hp : p < 4) (hS : ∀ k, k < n → P k = p → k ∈ S)
    (a1 : ∀ i, i < n → P' i = P i) (a2 : ∀ i, i < n → B' i = B i) (a3 : ∀ i, i < n → V' i = V i)
    (b1 : P' n = p) (b2 : ∀ m, B' n m = know m) (b3 : ∀ q, q < 4 → V' n q = if q = p then c q + 1 else c q) : Inv P' B' V' (n + 1) := by
  have own := M.own I p hp hS
  have cc : ∀ q m, m ≤ n → cnt P' q m = cnt P q m := fun q m hm => cnt_congr q m (fun i hi => a1 i (by omega))
  have kn : ∀ m, know m = true → m < n := fun m h => by
    obtain ⟨k, hk, e⟩ := (M.k1 m).1 h
    have hk2 := M.sl k hk
    rcases e with rfl | e
    · exact hk2
    · exact Nat.lt_trans (I.bz k hk2 m e) hk2
  have split : ∀ i, i < n + 1 → i < n ∨ i = n := fun i hi => by omega
  have vge : ∀ q, q < 4 → c q ≤ V' n q := fun q hq => by rw [b3 q hq]; split <;> omega
  have PB : ∀ i, i < n → ∀ j, B i j = true → P' j = P j := fun i hi j h => a1 j (Nat.lt_trans (I.bz i hi j h) hi)
  refine ⟨?_, ?_, ?_, ?_, ?_, ?_, ?_, ?_, ?_⟩
  · intro i hi
    rcases split i hi with h | rfl
    · rw [a1 i h]; exact I.pr i h
    · rw [b1]; exact hp
  · intro i hi m hm
    rcases split i hi with h | rfl
    · rw [a2 i h] at hm; exact I.bz i h m hm
    · rw [b2] at hm; exact kn m hm
  · intro i hi q hq
    rcases split i hi with h | rfl
    · rw [a3 i h]; exact I.bd i h q hq
    · rw [b3 q hq]; have := M.c0 q hq; split <;> omega
  · intro i hi
    rcases split i hi with h | rfl
    · rw [a3 i h, a1 i h, I.A i h, cc _ _ (by omega)]
    · rw [b1, b3 p hp, if_pos rfl, own]
      simp only [cnt]
      rw [b1, if_pos rfl, cc _ _ (Nat.le_refl _)]
      omega
  · intro i hi j hj
    rcases split i hi with h | rfl
    · rw [a2 i h] at hj
      have h1 := I.bz i h j hj
      rw [a3 i h, a1 j (by omega), cc _ _ (by omega)]
      exact I.B1 i h j hj
    · rw [b2] at hj
      have hjn := kn j hj
      rw [a1 j hjn, cc _ _ (by omega)]
      refine Int.le_trans ?_ (vge _ (I.pr j hjn))
      obtain ⟨k, hk, e⟩ := (M.k1 j).1 hj
      have hk2 := M.sl k hk
      refine Int.le_trans ?_ (M.c1 k hk _ (I.pr j hjn))
      rcases e with rfl | e
      · rw [I.A j hjn]; exact Int.le_refl _
      · exact I.B1 k hk2 j e
  · intro i hi q hq
    rcases split i hi with h | rfl
    · rw [a3 i h]
      rcases I.B2 i h q hq with h0 | ⟨j, hj, e1, e2⟩
      · exact .inl h0
      · have hj2 : j ≤ i := by
          rcases hj with rfl | hj
          · exact Nat.le_refl _
          · exact Nat.le_of_lt (I.bz i h j hj)
        exact .inr ⟨j, by rw [a2 i h]; exact hj, by rw [a1 j (by omega)]; exact e1, by rw [cc _ _ (by omega)]; exact e2⟩
    · by_cases e : q = p
      · subst e
        refine .inr ⟨i, .inl rfl, b1, ?_⟩
        rw [b3 q hq, if_pos rfl, own]
        simp only [cnt]
        rw [b1, if_pos rfl, cc _ _ (Nat.le_refl _)]
        omega
      · rw [b3 q hq, if_neg e]
        rcases M.c2 q hq with h0 | ⟨k, hk, e2⟩
        · exact .inl h0
        · have hk2 := M.sl k hk
          rcases I.B2 k hk2 q hq with h0 | ⟨j, hj, e3, e4⟩
          · exact .inl (by omega)
          · have hkj : know j = true := (M.k1 j).2 ⟨k, hk, hj.imp (fun h => h) (fun h => h)⟩
            have := kn j hkj
            exact .inr ⟨j, .inr (by rw [b2]; exact hkj), by rw [a1 j this]; exact e3, by rw [cc _ _ (by omega), e2]; exact e4⟩
  · intro i hi j m hj hm
    rcases split i hi with h | rfl
    · rw [a2 i h] at hj ⊢
      have := I.bz i h j hj
      rw [a2 j (by omega)] at hm
      exact I.C i h j m hj hm
    · rw [b2] at hj ⊢
      have hjn := kn j hj
      rw [a2 j hjn] at hm
      obtain ⟨k, hk, e⟩ := (M.k1 j).1 hj
      rcases e with rfl | e
      · exact (M.k1 m).2 ⟨j, hk, .inr hm⟩
      · exact (M.k1 m).2 ⟨k, hk, .inr (I.C k (M.sl k hk) j m e hm)⟩
  · intro i hi k hk e
    rcases split i hi with h | rfl
    · rw [a2 i h]; rw [a1 k (by omega), a1 i h] at e; exact I.D i h k hk e
    · rw [b2]; rw [a1 k hk, b1] at e
      exact (M.k1 k).2 ⟨k, hS k hk e, .inl rfl⟩
  · intro i hi k hk q hq
    rcases split i hi with h | rfl
    · rw [a2 i h] at hk
      have := I.bz i h k hk
      rw [a3 i h, a3 k (by omega)]; exact I.E i h k hk q hq
    · rw [b2] at hk
      have hkn := kn k hk
      rw [a3 k hkn]
      refine Int.le_trans ?_ (vge q hq)
      obtain ⟨j, hj, e⟩ := (M.k1 k).1 hk
      rcases e with rfl | e
      · exact M.c1 k hj q hq
      · exact Int.le_trans (I.E j (M.sl j hj) k e q hq) (M.c1 j hj q hq)

/-- a component of the later event that the earlier one lacks -/
theorem Inv.less {P : Nat → Nat} {B : Nat → Nat → Bool} {V : Nat → Nat → Int} {n : Nat} (I : Inv P B V n) {i k : Nat} (hi : i < n) (hk : k < i) : V k (P i) < V i (P i) := by
  have hA := I.A i hi
  have h1 := cnt_self P i
  rcases I.B2 k (by omega) (P i) (I.pr i hi) with h | ⟨j, hj, e1, e2⟩
  · omega
  · have hj2 : j ≤ k := by
      rcases hj with rfl | hj
      · exact Nat.le_refl _
      · exact Nat.le_of_lt (I.bz k (by omega) j hj)
    have := cnt_mono P (P i) (show j + 1 ≤ i by omega)
    omega
/-- an event is known exactly if its own component is covered -/
theorem Inv.covers {P : Nat → Nat} {B : Nat → Nat → Bool} {V : Nat → Nat → Int} {n : Nat} (I : Inv P B V n) {i k : Nat} (hi : i < n) (hk : k < i) : B i k = true ↔ V k (P k) ≤ V i (P k) := by
  have hpk := I.pr k (by omega)
  constructor
  · intro h; exact I.E i hi k h _ hpk
  · intro h
    rw [I.A k (by omega)] at h
    have h1 := cnt_self P k
    rcases I.B2 i hi (P k) hpk with h0 | ⟨j, hj, e1, e2⟩
    · omega
    · have hjk : k ≤ j := by
        refine Nat.le_of_not_lt fun hlt => ?_
        have := cnt_mono P (P k) (show j + 1 ≤ k by omega)
        omega
      rcases Nat.lt_or_ge k j with hlt | hge
      · rcases hj with rfl | hj
        · exact I.D j hi k hlt e1.symm
        · have hji := I.bz i hi j hj
          exact I.C i hi j k hj (I.D j (by omega) k hlt e1.symm)
      · obtain rfl : j = k := by omega
        rcases hj with rfl | hj
        · omega
        · exact hj
/-- and exactly if its clock is at most that of the other -/
theorem Inv.before {P : Nat → Nat} {B : Nat → Nat → Bool} {V : Nat → Nat → Int} {n : Nat} (I : Inv P B V n) {i k : Nat} (hi : i < n) (hk : k < i) : B i k = true ↔ ∀ q, q < 4 → V k q ≤ V i q :=
  ⟨fun h => I.E i hi k h, fun h => (I.covers hi hk).2 (h _ (I.pr k (by omega)))⟩
end Caus

/-- a row of happenings -/
def HapAt (w : World) (a : Option Addr) (l : List (Int × Int)) : Prop := ∀ i (h : i < l.length), ∃ b off, a = some ⟨b, off, none⟩ ∧ w.cell? ⟨b, off + i * 2, none⟩ = some (.int .u8 l[i].1) ∧ w.cell? ⟨b, off + i * 2 + 1, none⟩ = some (.int .u8 l[i].2)
theorem HapAt.below {w W : World} {a : Option Addr} {l : List (Int × Int)} (h : HapAt w a l) (hE : Ext w W) : HapAt W a l := fun i hi => by
  obtain ⟨b, off, e, h1, h2⟩ := h i hi
  exact ⟨b, off, e, (hE.below.cell (p := ⟨b, off + i * 2, none⟩) (cell_lt h1)).trans h1, (hE.below.cell (p := ⟨b, off + i * 2 + 1, none⟩) (cell_lt h2)).trans h2⟩

abbrev pF (PL : List Int) : Nat → Nat := fun i => (PL.getD i 0).toNat
abbrev bF (KL : List KE) : Nat → Nat → Bool := fun i m => (KL.getD i ⟨0, []⟩).l.getD m false
abbrev vF (CL : List CE) : Nat → Nat → Int := fun i q => (CL.getD i ⟨none, 0, []⟩).l.getD q 0
/-- what is known ahead of event n -/
def EvI (w : World) (Bc Bb n : Nat) (vP : Value) (wr : World) : Prop :=
  ∃ vC vB CL KL PL, CL.length = n ∧ KL.length = n ∧ PL.length = n ∧ St w.heap.size wr Bc Bb vC vB vP CL KL PL ∧ Caus.Inv (pF PL) (bF KL) (vF CL) n ∧ (∀ (i : Nat) (y : KE), KL[i]? = some y → y.l.length = i) ∧ (∀ p ∈ PL, 0 ≤ p ∧ p < 4) ∧ Ext w wr
/-- while the event is made -/
def MdI (wr : World) (kn kb cc ec n : Nat) (CL : List CE) (KL : List KE) (S : List Nat) (W : World) : Prop :=
  ∃ kl ca cd cl, Lr W kn kb cc ec kl ca cd cl ∧ Ext wr W ∧ kl.length = n ∧ Caus.Mid (bF KL) (vF CL) n S (fun m => kl.getD m false) (fun q => cl.getD q 0)

theorem chk_small {l : List Int} (h4 : l.length = 4) (h : ∀ q, q < 4 → 0 ≤ l.getD q 0 ∧ l.getD q 0 ≤ 1000) : chk l = 0 := by
  unfold chk
  rw [if_neg (by omega), if_neg]
  rw [List.any_eq_true]
  rintro ⟨x, hx, hb⟩
  obtain ⟨q, hq, rfl⟩ := List.getElem_of_mem hx
  have := h q (by omega)
  rw [List.getD_eq_getElem?_getD, List.getElem?_eq_getElem hq] at this
  simp [bad] at hb this
  omega

theorem vF_get {CL : List CE} {k : Nat} {x : CE} (h : CL[k]? = some x) (q : Nat) : vF CL k q = x.l.getD q 0 := by
  have e : CL.getD k ⟨none, 0, []⟩ = x := by rw [List.getD_eq_getElem?_getD, h]; rfl
  show (CL.getD k ⟨none, 0, []⟩).l.getD q 0 = _
  rw [e]
theorem bF_get {KL : List KE} {k : Nat} {y : KE} (h : KL[k]? = some y) (m : Nat) : bF KL k m = y.l.getD m false := by
  have e : KL.getD k ⟨0, []⟩ = y := by rw [List.getD_eq_getElem?_getD, h]; rfl
  show (KL.getD k ⟨0, []⟩).l.getD m false = _
  rw [e]

/-- learn, by what is known -/
theorem learn_mid (base : Nat) (Wh W : World) (Bc Bb n : Nat) (vC vB vP : Value) (CL : List CE) (KL : List KE) (PL : List Int) (hS : St base Wh Bc Bb vC vB vP CL KL PL) (q1 : CL.length = n) (q2 : KL.length = n) (hI : Caus.Inv (pF PL) (bF KL) (vF CL) n) (hK : ∀ (i : Nat) (y : KE), KL[i]? = some y → y.l.length = i) (hn : n ≤ 20)
    (kn kb cc ec : Nat) (l1 : Wh.heap.size ≤ kn) (l2 : Wh.heap.size ≤ kb) (l3 : Wh.heap.size ≤ cc) (l4 : Wh.heap.size ≤ ec) (S : List Nat) (hM : MdI Wh kn kb cc ec n CL KL S W) (k : Nat) (hk : k < n) :
    Calls Try.prog 29 #[.int .i64 (k : Int), .pointer (some ⟨kn, 0, none⟩), .pointer (some ⟨Bb, 0, none⟩), .pointer (some ⟨cc, 0, none⟩), .pointer (some ⟨Bc, 0, none⟩), .pointer (some ⟨ec, 0, none⟩)] W fun e W' =>
      e = .returned (.tuple #[]) ∧ MdI Wh kn kb cc ec n CL KL (k :: S) W' := by
  obtain ⟨kl, ca, cd, cl, L, hE, hkl, M⟩ := hM
  obtain ⟨x, hx⟩ : ∃ x, CL[k]? = some x := ⟨_, List.getElem?_eq_getElem (by omega)⟩
  obtain ⟨y, hy⟩ : ∃ y, KL[k]? = some y := ⟨_, List.getElem?_eq_getElem (by omega)⟩
  have h4 := (hS.ints x (List.mem_of_getElem? hx)).2.1
  have c1 : chk cl = 0 := chk_small L.h5 (fun q hq => by have := M.c0 q hq; omega)
  have c2 : chk x.l = 0 := chk_small h4 (fun q hq => by have := hI.bd k hk q hq; rw [vF_get hx] at this; omega)
  refine Calls.mono (learn_any base Wh W Bc Bb vC vB vP CL KL PL hS hE kn kb cc ec kl ca cd cl L l1 l2 l3 l4 k x y hx hy (hK k y hy) (by omega) (by omega) c1 c2) ?_
  rintro e W' ⟨rfl, hE', ca', cd', kl', L', hl', hp⟩
  refine ⟨rfl, kl', ca', cd', _, L', hE', by omega, M.learn hI k hk (fun m => ?_) (fun q hq => ?_)⟩
  · show kl'.getD m false = true ↔ kl.getD m false = true ∨ m = k ∨ bF KL k m = true
    rw [hp m, bF_get hy]
    simp [or_assoc]
  · show (List.zipWith max cl x.l).getD q 0 = max (cl.getD q 0) (vF CL k q)
    have g1 : q < cl.length := by rw [L.h5]; exact hq
    have g2 : q < x.l.length := by rw [h4]; exact hq
    rw [vF_get hx]
    simp [List.getD_eq_getElem?_getD, List.getElem?_zipWith, g1, g2]

/-- the variables of a new event -/
theorem MdI.start {Wh w1 : World} {n : Nat} {c0 : Array Value} (CL : List CE) (KL : List KE) (hc : madeCells #[.bool false] n = c0) (x : Option Addr) (c : Nat)
    (hE : Ext ((Wh.alloc (.cells c0 4)).alloc (.cells #[.slice (some ⟨Wh.heap.size, 0, none⟩) n n] 44)) w1) (hI : IntsAt w1 x [0, 0, 0, 0]) (hF : FreshA ((Wh.alloc (.cells c0 4)).alloc (.cells #[.slice (some ⟨Wh.heap.size, 0, none⟩) n n] 44)) x) :
    MdI Wh (Wh.heap.size + 1) Wh.heap.size w1.heap.size (w1.heap.size + 1) n CL KL [] ((w1.alloc (.cells #[.slice x 4 c] 23)).alloc (.cells #[.int .i64 0] 26)) := by
  have e1 : Ext w1 ((w1.alloc (.cells #[.slice x 4 c] 23)).alloc (.cells #[.int .i64 0] 26)) := ((Below.refl _ _).alloc (Nat.le_refl _) _).alloc (by simp) _
  have e0 : Ext Wh ((Wh.alloc (.cells c0 4)).alloc (.cells #[.slice (some ⟨Wh.heap.size, 0, none⟩) n n] 44)) := ((Below.refl _ _).alloc (Nat.le_refl _) _).alloc (by simp) _
  have e2 := Ext.trans hE e1
  have b1 : ((Wh.alloc (.cells c0 4)).alloc (.cells #[.slice (some ⟨Wh.heap.size, 0, none⟩) n n] 44)).heap[Wh.heap.size]? = some (.cells c0 4 (0, 0)) := (Below.heap_alloc _ _ Wh.heap.size (by simp)).trans (alloc_here _ _)
  have b2 := alloc_here (Wh.alloc (.cells c0 4)) (.cells #[.slice (some ⟨Wh.heap.size, 0, none⟩) n n] 44)
  rw [World.size_alloc] at b2
  have hz := hE.size
  simp at hz
  refine ⟨List.replicate n false, x, c, [0, 0, 0, 0], ⟨?_, ⟨c0, ?_, ?_⟩, ?_, hI.below e1, rfl, ?_, ?_⟩, Ext.trans e0 e2, by simp, Caus.Mid.start _ _ _ _ _ (fun m => ?_) (fun q hq => ?_)⟩
  · rw [List.length_replicate]
    exact (e2.below.block _ (lt_of_block b2)).trans b2
  · exact (e2.below.block _ (lt_of_block b1)).trans b1
  · intro m hm
    have hm' : m < n := by simpa using hm
    rw [← hc]
    simp [madeCells, hm', Nat.mod_one]
  · exact (Below.heap_alloc _ _ w1.heap.size (by simp)).trans (alloc_here _ _)
  · have h := alloc_here (w1.alloc (.cells #[.slice x 4 c] 23)) (.cells #[.int .i64 0] 26)
    rw [World.size_alloc] at h
    exact h
  · intro y e
    have h1 := hF y e
    subst e
    have h2 := hI.lt (by simp)
    simp at h1
    refine ⟨?_, ?_, ?_, ?_⟩ <;> omega
  · show (List.replicate n false).getD m false = false
    rw [List.getD_eq_getElem?_getD, List.getElem?_replicate]
    split <;> rfl
  · match q, hq with
    | 0, _ => rfl
    | 1, _ => rfl
    | 2, _ => rfl
    | 3, _ => rfl

theorem New4 (w : World) : Calls Try.prog 28 #[.int .i64 4] w fun en w' => (∃ x c, en = .returned (.tuple #[.slice x 4 c, .int .i64 0]) ∧ IntsAt w' x [0, 0, 0, 0] ∧ FreshA w x) ∧ Below w.heap.size w w' := New_fresh w
theorem St.oP6 {base : Nat} {w5 w6 : World} {Bc Bb : Nat} {vC vB vP : Value} {CL : List CE} {KL : List KE} {PL : List Int} (S : St base w5 Bc Bb vC vB vP CL KL PL) {x : CE} {y : KE} (R : R24 base vC vB CL KL x y w5 w6) : w6.ownsRow base 3 1 vP PL.length (PL.map (Value.int .i64)) := ownsRow_of_block S.oP (fun j e => by
  have h1 : vC.ownBlock ≠ some j := by
    rcases own_ne S.oP S.oC (by decide) with h | h
    · rw [h]; simp
    · rw [← e]; exact h
  have h2 : vB.ownBlock ≠ some j := by
    rcases own_ne S.oP S.oB (by decide) with h | h
    · rw [h]; simp
    · rw [← e]; exact h
  exact R.block j (S.oP.lt j e).2 h1 h2)
theorem gD_left {α : Type} (l : List α) (x d : α) {i : Nat} (h : i < l.length) : (l ++ [x]).getD i d = l.getD i d := by
  simp [List.getD_eq_getElem?_getD, List.getElem?_append_left h]
theorem gD_last {α : Type} (l : List α) (x d : α) {i : Nat} (h : l.length = i) : (l ++ [x]).getD i d = x := by
  subst h; simp [List.getD_eq_getElem?_getD]
/-- what the law says of two events -/
theorem caus_law {n : Nat} {PL : List Int} {CL : List CE} {KL : List KE} (I : Caus.Inv (pF PL) (bF KL) (vF CL) n) {i k : Nat} (hi : i < n) (hk : k < i) {x c : CE} {y : KE} (hx : CL[k]? = some x) (hc : CL[i]? = some c) (hy : KL[i]? = some y) {pk : Nat} (hp : pF PL k = pk) (lx : x.l.length = 4) (lc : c.l.length = 4) (c1 : chk x.l = 0) (c2 : chk c.l = 0) :
    decide (x.l.getD pk 0 ≤ c.l.getD pk 0) = y.l.getD k false ∧ (cmpV x.l c.l == 1) = y.l.getD k false ∧ (cmpV c.l x.l == 1) = false := by
  have e1 : ∀ q, vF CL k q = x.l.getD q 0 := vF_get hx
  have e2 : ∀ q, vF CL i q = c.l.getD q 0 := vF_get hc
  have e3 : bF KL i k = y.l.getD k false := bF_get hy k
  have hcov := I.covers hi hk
  have hbef := I.before hi hk
  have hless := I.less hi hk
  have hpi := I.pr i hi
  rw [hp, e1, e2, e3] at hcov
  rw [e3] at hbef
  rw [e1, e2] at hless
  have ha : leB x.l c.l = y.l.getD k false := by
    rw [Bool.eq_iff_iff, leB_iff, hbef, lx]
    exact forall_congr' fun q => by rw [e1, e2]
  have hb : leB c.l x.l = false := by
    rw [Bool.eq_false_iff]
    intro h
    rw [leB_iff] at h
    have := h (pF PL i) (by rw [lc]; exact hpi)
    omega
  refine ⟨?_, ?_, ?_⟩
  · rw [Bool.eq_iff_iff, decide_eq_true_eq]
    exact hcov.symm
  · rw [Bool.eq_iff_iff, beq_iff_eq, cmp_one c1 c2 (by omega), ha, hb]
    simp
  · rw [beq_eq_false_iff_ne]
    intro h
    have := (cmp_one c2 c1 (by omega)).1 h
    rw [hb] at this
    simp at this
/-- the contracts of the calls of the last region -/
structure Fin2 (W0 : World) (Bc Bb gC gB gP nC kC nB kB nP kP : Nat) (i k pk : Nat) (x c : CE) (y : KE) (W : World) : Prop where
  a1 : W.cell? ⟨Bb, 0, none⟩ = some (.slice (some ⟨gB, 0, none⟩) nB kB)
  a2 : W.cell? ⟨gB, i, none⟩ = some (.slice (some ⟨y.b, 0, none⟩) i i)
  a3 : W.cell? ⟨y.b, k, none⟩ = some (.bool (y.l.getD k false))
  a4 : W.cell? ⟨Bc, 0, none⟩ = some (.slice (some ⟨gC, 0, none⟩) nC kC)
  a5 : W.cell? ⟨gC, k, none⟩ = some (.slice x.a 4 x.c)
  a6 : W.cell? ⟨gC, i, none⟩ = some (.slice c.a 4 c.c)
  a7 : W.cell? ⟨gP, k, none⟩ = some (.int .i64 (pk : Int))
theorem infoClk : (Try.prog.info? 23).map (fun i => (i.zero, i.size, i.bytes)) = some (some (.slice none 0 0), 1, 24) := by kernel_rfl
theorem infoBs : (Try.prog.info? 44).map (fun i => (i.zero, i.size, i.bytes)) = some (some (.slice none 0 0), 1, 24) := by kernel_rfl
theorem infoB : (Try.prog.info? 4).map (fun i => (i.zero, i.size, i.bytes)) = some (some (.bool false), 1, 1) := by kernel_rfl

set_option maxRecDepth 100000 in
set_option maxHeartbeats 4000000 in
theorem causality_main (l : List (Int × Int)) (a : Option Addr) (cap : Nat) (w : World) (hl : l.length ≤ 20) (h : HapAt w a l) (hr : ∀ x ∈ l, (0 ≤ x.1 ∧ x.1 ≤ 255) ∧ 0 ≤ x.2 ∧ x.2 ≤ 255) :
    Gives Try.prog 7 #[.slice a l.length cap] w (.bool true) := by
  have HH := Lib.hid h
  have HR := Lib.hid hr
  clear h hr
  unfold Gives
  go_enter Try.func7, Try.ntmps7
  go_wp2
  have HST := Lib.hid (show EvI w w.heap.size (w.heap.size + 1) 0 (.slice none 0 0) ((w.alloc (.cells #[.slice none 0 0] 40)).alloc (.cells #[.slice none 0 0] 41)) from by
    have h1 : ((w.alloc (.cells #[.slice none 0 0] 40)).alloc (.cells #[.slice none 0 0] 41)).heap[w.heap.size]? = some (.cells #[.slice none 0 0] 40 (0, 0)) :=
      (Below.heap_alloc _ _ w.heap.size (by simp)).trans (alloc_here _ _)
    have h2 := alloc_here (w.alloc (.cells #[.slice none 0 0] 40)) (.cells #[.slice none 0 0] 41)
    rw [World.size_alloc] at h2
    refine ⟨.slice none 0 0, .slice none 0 0, [], [], [], rfl, rfl, rfl, ⟨h1, h2, World.ownsRow_nil _ _ _ _, World.ownsRow_nil _ _ _ _, World.ownsRow_nil _ _ _ _, by simp, by simp⟩, Caus.Inv.start _ _ _, by simp, by simp, ?_⟩
    exact ((Below.refl _ w).alloc (Nat.le_refl _) _).alloc (by simp) _)
  go_loopw [26, 5] (fun i vP wr => ∃ n : Nat, n ≤ l.length ∧ i = .int .i64 n ∧ EvI w w.heap.size (w.heap.size + 1) n vP wr) (fun i _ _ => l.length - (intOf i).toNat)
  case atStart => exact ⟨0, Nat.zero_le _, rfl, HST.out⟩
  case round =>
    obtain ⟨n, hn, rfl, vC, vB, CL, KL, PL, q1, q2, q3, hS, hI, hK, hP, hE⟩ := hrel
    by_cases hlt : n < l.length
    · obtain ⟨b, off, rfl, hp0, hf0⟩ := (HH.out.below hE) n hlt
      have hrg := HR.out l[n] (List.getElem_mem hlt)
      have hmk := run_make_row' (P := Try.prog) 44 4 (.bool false) 1 Try.underlying44 infoB rfl .i64 .i64 n (by omega) (by omega)
      obtain ⟨c0, hc0⟩ : ∃ c0, madeCells #[.bool false] n = c0 := ⟨_, rfl⟩
      have HC0 := Lib.hid hc0
      rw [hc0] at hmk
      clear hc0
      have hp4 := hrg.1
      generalize l[n].1 = P0 at *
      generalize l[n].2 = F0 at *
      obtain ⟨Wh, hWh⟩ : ∃ Wh, Wh = wr.alloc (.cells #[.int .u8 P0, .int .u8 F0] 43) := ⟨_, rfl⟩
      have hEh : Ext wr Wh := by rw [hWh]; exact (Below.refl _ _).alloc (Nat.le_refl _) _
      have HSh := Lib.hid (hS.ext hEh)
      have HEh := Lib.hid (Ext.trans hE hEh)
      have HBx := Lib.hid (show Wh.heap[wr.heap.size]? = some (.cells #[.int .u8 P0, .int .u8 F0] 43 (0, 0)) by rw [hWh]; exact alloc_here _ _)
      have HSz := Lib.hid (show Wh.heap.size = wr.heap.size + 1 by rw [hWh]; simp)
      have HI := Lib.hid hI
      have HK := Lib.hid hK
      have HP := Lib.hid hP
      have HQ := Lib.hid (And.intro q1 (And.intro q2 q3))
      have HWh := Lib.hid hWh
      clear hI hK hP q1 q2 q3 hE hEh hS hWh
      go_wp2_with fail
      rw [← HWh.out, ← HSz.out]
      generalize wr.heap.size = Hh at *
      refine (New4 _).mono ?_
      rintro _ w1 ⟨⟨x, c, rfl, hI1, hF1⟩, hE1⟩
      have HMD := Lib.hid (MdI.start CL KL HC0.out x c hE1 hI1 hF1)
      have HE1 := Lib.hid hE1
      clear hI1 hF1 hE1 hmk hp0 hf0
      obtain ⟨p, hpz, hp4'⟩ : ∃ p : Nat, P0 % 4 = (p : Int) ∧ p < 4 := ⟨(P0 % 4).toNat, by omega, by omega⟩
      simp only [hpz]
      go_wp2
      have HCC := Lib.hid (show Wh.heap.size + 2 ≤ w1.heap.size from by have := HE1.out.size; simpa using this)
      generalize (w1.alloc (.cells #[.slice x 4 c] 23)).alloc (.cells #[.int .i64 0] 26) = w2 at *
      generalize w1.heap.size = cc at *
      clear HE1
      go_loopw [43] (fun i wx => ∃ (k : Nat) (S : List Nat), k ≤ n ∧ i = .int .i64 k ∧ MdI Wh (Wh.heap.size + 1) Wh.heap.size cc (cc + 1) n CL KL S wx ∧ (∀ m, m < k → pF PL m = p → m ∈ S)) (fun i _ => n - (intOf i).toNat)
      case atStart => exact ⟨0, [], Nat.zero_le _, rfl, HMD.out, fun m h => by omega⟩
      case round =>
        obtain ⟨k, S, hk, rfl, hM, hS⟩ := hrel
        have HM := Lib.hid hM
        have HS := Lib.hid hS
        have hcc := HCC.out
        obtain ⟨q1, q2, q3⟩ := HQ.out
        clear hM hS
        by_cases hkn : k < n
        · have oP := HSh.out.oP
          obtain ⟨gP, capP, rfl⟩ := Go.Joins.ownsRow_form oP (by omega)
          have hEx : Ext Wh wr := by obtain ⟨_, _, _, _, _, h, _⟩ := HM.out; exact h
          have hkP : k < PL.length := by omega
          have c1 : wr.cell? ⟨gP, k, none⟩ = some (.int .i64 PL[k]) := by
            rw [(ownsRow_ext oP hEx).cellAt k (by omega), List.getElem?_map, List.getElem?_eq_getElem hkP]; rfl
          have HG := Lib.hid (show PL.getD k 0 = PL[k] by rw [List.getD_eq_getElem?_getD, List.getElem?_eq_getElem hkP]; rfl)
          have hpk := HP.out _ (List.getElem_mem hkP)
          have hnP : k < PL.length := hkP
          rw [q3] at hnP
          have LM := Lib.hid (learn_mid w.heap.size Wh wr w.heap.size (w.heap.size + 1) n vC vB _ CL KL PL HSh.out q1 q2 HI.out HK.out (by omega) (Wh.heap.size + 1) Wh.heap.size cc (cc + 1) (by omega) (by omega) (by omega) (by omega) S HM.out k hkn)
          generalize PL[k] = pk at *
          clear oP hEx hkP q1 q2
          generalize PL.length = nP at *
          subst q3
          by_cases e : pk = (p : Int)
          · subst e
            clear hpk
            go_wp2_with fail
            refine Calls.mono LM.out ?_
            rintro _ w5 ⟨rfl, hM5⟩
            have HM5 := Lib.hid hM5
            clear c1 hM5
            go_wp2
            go_roundw
            case rel => exact ⟨k + 1, k :: S, by omega, by go_num, HM5.out, fun m hm e => by
              by_cases e2 : m = k
              · subst e2; exact List.mem_cons_self ..
              · exact List.mem_cons_of_mem _ (HS.out m (by omega) e)⟩
            case measure => simp [intOf]; omega
          · have hne : (pk == (p : Int)) = false := by rw [beq_eq_false_iff_ne]; exact e
            go_wp2
            go_roundw
            case rel => exact ⟨k + 1, S, by omega, by go_num, HM.out, fun m hm e1 => by
              by_cases e2 : m = k
              · subst e2
                exfalso
                apply e
                have h1 : (PL.getD m 0).toNat = p := e1
                rw [HG.out] at h1
                omega
              · exact HS.out m (by omega) e1⟩
            case measure => simp [intOf]; omega
        · obtain rfl : k = n := by omega
          have HCV := Lib.hid (show ∀ m, m < k → pF PL m = p → m ∈ S from HS.out)
          have hEx : Ext Wh wr := by obtain ⟨_, _, _, _, _, h, _⟩ := HM.out; exact h
          have hbx := (hEx.below.block _ (lt_of_block HBx.out)).trans HBx.out
          obtain ⟨x1, x2⟩ : wr.cell? ⟨Hh, 0, none⟩ = some (.int .u8 P0) ∧ wr.cell? ⟨Hh, 1, none⟩ = some (.int .u8 F0) := ⟨cell_of hbx rfl, cell_of hbx rfl⟩
          have hF := hrg.2
          clear HS hk hkn hEx hbx q1 q2 q3
          go_upto_region 19 with fail
          go_cut [62] from 56 to 61 (fun v wx => v = .bool (decide (0 < F0) && decide (0 < k)) ∧ wr = wx)
          case first =>
            by_cases h0 : 0 < F0
            · by_cases h1 : 0 < k
              · go_wp2_with fail
                go_meet
                exact ⟨by simp [h0, h1], rfl⟩
              · go_wp2_with fail
                go_meet
                exact ⟨by rw [decide_eq_false (by omega : ¬ 0 < k), Bool.and_false], rfl⟩
            · go_wp2_with fail
              go_meet
              exact ⟨by rw [decide_eq_false (by omega : ¬ 0 < F0), Bool.false_and], rfl⟩
          case rest =>
            obtain ⟨rfl, rfl⟩ := hcut
            go_upto_if 62 with fail
            go_cut [] from 56 to 69 (fun wx => ∃ S, MdI Wh (Wh.heap.size + 1) Wh.heap.size cc (cc + 1) k CL KL S wx ∧ (∀ m, m < k → pF PL m = p → m ∈ S))
            case first =>
              by_cases h01 : 0 < F0 ∧ 0 < k
              · obtain ⟨h0, h1⟩ := h01
                have e1 : (decide (0 < F0) && decide (0 < k)) = true := by simp [h0, h1]
                have hk0 : (k : Int) ≠ 0 := by omega
                have hmod : F0 % (k : Int) = ((F0.toNat % k : Nat) : Int) := by
                  obtain ⟨f, rfl⟩ := Int.eq_ofNat_of_zero_le hF.1
                  simp
                have HMK := Lib.hid (Nat.mod_lt F0.toNat h1)
                obtain ⟨q1, q2, q3⟩ := HQ.out
                have hcc := HCC.out
                have LM := Lib.hid (learn_mid w.heap.size Wh wr w.heap.size (w.heap.size + 1) k vC vB _ CL KL PL HSh.out q1 q2 HI.out HK.out (by omega) (Wh.heap.size + 1) Wh.heap.size cc (cc + 1) (by omega) (by omega) (by omega) (by omega) S HM.out (F0.toNat % k) HMK.out)
                have HMOD := Lib.hid hmod
                generalize F0.toNat % k = fk at *
                clear q1 q2 q3 hmod
                go_wp2_with fail
                rw [HMOD.out]
                refine Calls.mono LM.out ?_
                rintro _ w5 ⟨rfl, hM5⟩
                have HM5 := Lib.hid hM5
                clear x1 x2 hM5
                go_wp2
                go_meet
                exact ⟨fk :: S, HM5.out, fun m hm e => List.mem_cons_of_mem _ (HCV.out m hm e)⟩
              · have e1 : (decide (0 < F0) && decide (0 < k)) = false := by
                  rw [Bool.eq_false_iff]
                  simpa using h01
                go_wp2_with fail
                go_meet
                exact ⟨S, HM.out, HCV.out⟩
            case rest =>
              obtain ⟨S', ⟨kl, ca, cd, cl, L, hEc, hkl, M⟩, hcv⟩ := hcut
              obtain ⟨q1, q2, q3⟩ := HQ.out
              have c10 := cell_of_one L.h3
              have c11 := cell_of_one L.h6
              have k1 : chk cl = 0 := chk_small L.h5 (fun q hq => by have := M.c0 q hq; omega)
              have hp5 : p < cl.length := by rw [L.h5]; exact hp4'
              have hgp : cl.getD p 0 = cl[p] := by simp [List.getD_eq_getElem?_getD, hp5]
              have T := Lib.hid (Tick_fresh cl p ca cd wc k1 hp5 (by have := M.c0 p hp4'; rw [hgp] at this; omega) L.h4)
              have HRv := Lib.hid (show ∀ q, q < 4 → (cl.set p (cl[p] + 1)).getD q 0 = if q = p then cl.getD q 0 + 1 else cl.getD q 0 from fun q hq => by
                by_cases e : q = p
                · subst e; rw [if_pos rfl, hgp]; simp [List.getD_eq_getElem?_getD, hp5]
                · rw [if_neg e]; simp [List.getD_eq_getElem?_getD, List.getElem?_set_ne (Ne.symm e)])
              have HRl := Lib.hid (show (cl.set p (cl[p] + 1)).length = 4 by rw [List.length_set]; exact L.h5)
              generalize cl.set p (cl[p] + 1) = r at *
              have HL := Lib.hid L
              have HEc := Lib.hid hEc
              have HM := Lib.hid M
              have HKL := Lib.hid hkl
              have HCV := Lib.hid hcv
              clear L hEc hkl M hcv hgp hp5 k1
              go_wp2_with fail
              refine Calls.mono T.out ?_
              rintro _ w4 ⟨⟨xa, xc, rfl, hI4, hF4⟩, hE4⟩
              have HL4 := Lib.hid (HL.out.ext hE4)
              have HS4 := Lib.hid (HSh.out.ext (Ext.trans HEc.out hE4))
              have HE4 := Lib.hid (Ext.trans HEh.out (Ext.trans HEc.out hE4))
              have HX4 := Lib.hid (And.intro hI4 (FreshA.mono hF4 HEc.out.size))
              have c11 := cell_of_one HL4.out.h6
              clear c10 hI4 hF4 hE4 T q1 q2 q3
              go_wp2_with fail
              have nC0 := own_off HS4.out.oC HS4.out.hC (by decide)
              have nC1 := own_off HS4.out.oB HS4.out.hC (by decide)
              have nB0 := own_off HS4.out.oC HS4.out.hB (by decide)
              have nB1 := own_off HS4.out.oB HS4.out.hB (by decide)
              obtain ⟨q1, q2, q3⟩ := HQ.out
              have nK0 : vC.ownBlock ≠ some (Wh.heap.size + 1) := fun e => by have := (HSh.out.oC.lt _ e).2; omega
              have nK1 : vB.ownBlock ≠ some (Wh.heap.size + 1) := fun e => by have := (HSh.out.oB.lt _ e).2; omega
              refine wp_region_tail (l1 := [_, _, _, _, _, _, _, _, _, _, _]) (l2 := [_, _, _, _]) (by kernel_rfl) (R24 w.heap.size vC vB CL KL ⟨xa, xc, r⟩ ⟨Wh.heap.size, kl⟩) Two.refl Two.drawn Two.trans (apR w.heap.size vC vB u5 CL KL ⟨xa, xc, r⟩ ⟨Wh.heap.size, kl⟩ (p : Int) w4) (fun i => [i]) (apR_st _ _ _ _ _ _ _ _ _ _ (fun j e => (HS4.out.oC.lt j e).2) (fun j e => (HS4.out.oB.lt j e).2)) (by kernel_rfl) (by kernel_rfl) (by kernel_rfl) 161 rfl (by kernel_rfl) (by kernel_rfl) ?_ ?_
              · intro i op ho a' W hA
                have d0 := cell_of_one ((hA.rel.block _ (lt_of_block HS4.out.hC) nC0 nC1).trans HS4.out.hC)
                have d1 := cell_of_one ((hA.rel.block _ (lt_of_block HS4.out.hB) nB0 nB1).trans HS4.out.hB)
                have d2 := cell_of_one ((hA.rel.block _ (lt_of_block HL4.out.h1) nK0 nK1).trans HL4.out.h1)
                match i, ho with
                | 0, ho =>
                  obtain rfl := Option.some.inj ho
                  have e1 : a'.eval (.tmp 3) = .pointer (some ⟨w.heap.size, 0, none⟩) := hA.keep 3 (by kernel_rfl)
                  refine GoesG.value (vC) rfl ?_ (Two.refl _) (fun s h1 h2 => h1 rfl)
                  simp only [execOp, e1]
                  simp [go_sem, d0]
                | 1, ho =>
                  obtain rfl := Option.some.inj ho
                  exact GoesG.move (.tmp 14) rfl rfl (Two.refl _) (fun s h1 h2 => (h1 rfl).trans (hA.keep 14 (by kernel_rfl)))
                | 2, ho =>
                  obtain rfl := Option.some.inj ho
                  have e1 : a'.eval (.tmp 83) = .slice xa r.length xc := (sv_dst (l := _) rfl).symm.trans (hA.new 1 (by decide) (by kernel_rfl))
                  have e2 : a'.tmps[83]?.getD undef = .slice xa r.length xc := by rw [← e1]; simp [Act.eval, Array.getD_eq_getD_getElem?]
                  refine GoesG.value (.slice (some ⟨W.heap.size, 0, none⟩) 1 1) (W' := W.alloc (.cells #[.slice xa r.length xc] 23)) rfl ?_ (Two.ext ((Below.refl _ W).alloc (Nat.le_refl _) _)) (fun s h1 h2 => ⟨W.heap.size, h1 rfl, alloc_here _ _, hA.rel.size⟩)
                  simp only [execOp]
                  simp [go_sem, e2]
                | 3, ho =>
                  obtain rfl := Option.some.inj ho
                  obtain ⟨b, e0, hb, hlb⟩ := hA.new 2 (by decide) (by kernel_rfl)
                  have e1 : a'.eval (.tmp 82) = vC := (sv_dst (l := _) rfl).symm.trans (hA.new 0 (by decide) (by kernel_rfl))
                  have e2 : a'.eval (.tmp 84) = .slice (some ⟨b, 0, none⟩) 1 1 := (sv_dst (l := _) rfl).symm.trans e0
                  obtain ⟨i0, hi, hz0, hz1, hz2⟩ := info_parts infoClk
                  obtain ⟨g, c', W', hr, o1, hg, hat, k1, k2⟩ := run_append_kept (P := Try.prog) W 40 40 w.heap.size 23 i0 (.slice none 0 0) 24 Try.underlying40 hi hz0 hz1 hz2 rfl _ _ _ (hA.rel.a1 HS4.out.oC) ⟨b, 0, none⟩ 1 _ (cell_of hb rfl) rfl (by unfold maxLen; omega) (by omega) (Nat.le_trans HE4.out.size hA.rel.size)
                  exact GoesG.append rfl (.tmp 82) (.tmp 84) 40 rfl _ _ _ e1 e2 hr (Two.one (by decide) (hA.rel.a1 HS4.out.oC) hg k1 k2) (fun s h1 h2 => ⟨g, c', h1 rfl, o1, hat.imp id (fun e => by rw [e]; exact hA.rel.size)⟩)
                | 4, ho =>
                  obtain rfl := Option.some.inj ho
                  have e1 : a'.eval (.tmp 4) = .pointer (some ⟨w.heap.size + 1, 0, none⟩) := hA.keep 4 (by kernel_rfl)
                  refine GoesG.value (vB) rfl ?_ (Two.refl _) (fun s h1 h2 => h1 rfl)
                  simp only [execOp, e1]
                  simp [go_sem, d1]
                | 5, ho =>
                  obtain rfl := Option.some.inj ho
                  have e1 : a'.eval (.tmp 9) = .pointer (some ⟨Wh.heap.size + 1, 0, none⟩) := hA.keep 9 (by kernel_rfl)
                  refine GoesG.value (.slice (some ⟨Wh.heap.size, 0, none⟩) kl.length kl.length) rfl ?_ (Two.refl _) (fun s h1 h2 => h1 rfl)
                  simp only [execOp, e1]
                  simp [go_sem, d2]
                | 6, ho =>
                  obtain rfl := Option.some.inj ho
                  have e1 : a'.eval (.tmp 87) = .slice (some ⟨Wh.heap.size, 0, none⟩) kl.length kl.length := (sv_dst (l := _) rfl).symm.trans (hA.new 5 (by decide) (by kernel_rfl))
                  have e2 : a'.tmps[87]?.getD undef = .slice (some ⟨Wh.heap.size, 0, none⟩) kl.length kl.length := by rw [← e1]; simp [Act.eval, Array.getD_eq_getD_getElem?]
                  refine GoesG.value (.slice (some ⟨W.heap.size, 0, none⟩) 1 1) (W' := W.alloc (.cells #[.slice (some ⟨Wh.heap.size, 0, none⟩) kl.length kl.length] 44)) rfl ?_ (Two.ext ((Below.refl _ W).alloc (Nat.le_refl _) _)) (fun s h1 h2 => ⟨W.heap.size, h1 rfl, alloc_here _ _, hA.rel.size⟩)
                  simp only [execOp]
                  simp [go_sem, e2]
                | 7, ho =>
                  obtain rfl := Option.some.inj ho
                  obtain ⟨b, e0, hb, hlb⟩ := hA.new 6 (by decide) (by kernel_rfl)
                  have e1 : a'.eval (.tmp 86) = vB := (sv_dst (l := _) rfl).symm.trans (hA.new 4 (by decide) (by kernel_rfl))
                  have e2 : a'.eval (.tmp 88) = .slice (some ⟨b, 0, none⟩) 1 1 := (sv_dst (l := _) rfl).symm.trans e0
                  obtain ⟨i0, hi, hz0, hz1, hz2⟩ := info_parts infoBs
                  obtain ⟨g, c', W', hr, o1, hg, hat, k1, k2⟩ := run_append_kept (P := Try.prog) W 41 41 w.heap.size 44 i0 (.slice none 0 0) 24 Try.underlying41 hi hz0 hz1 hz2 rfl _ _ _ (hA.rel.a2 HS4.out.oB) ⟨b, 0, none⟩ 1 _ (cell_of hb rfl) rfl (by unfold maxLen; omega) (by omega) (Nat.le_trans HE4.out.size hA.rel.size)
                  exact GoesG.append rfl (.tmp 86) (.tmp 88) 41 rfl _ _ _ e1 e2 hr (Two.two (by decide) (hA.rel.a2 HS4.out.oB) hg k1 k2) (fun s h1 h2 => ⟨g, c', h1 rfl, o1, hat.imp id (fun e => by rw [e]; exact hA.rel.size)⟩)
                | 8, ho =>
                  obtain rfl := Option.some.inj ho
                  exact GoesG.move (.tmp 5) rfl rfl (Two.refl _) (fun s h1 h2 => (h1 rfl).trans (hA.keep 5 (by kernel_rfl)))
                | 9, ho =>
                  obtain rfl := Option.some.inj ho
                  exact GoesG.move (.tmp 8) rfl rfl (Two.refl _) (fun s h1 h2 => (h1 rfl).trans (hA.keep 8 (by kernel_rfl)))
                | 10, ho =>
                  obtain rfl := Option.some.inj ho
                  have e1 : a'.eval (.tmp 91) = .int .i64 (p : Int) := (sv_dst (l := _) rfl).symm.trans (hA.new 9 (by decide) (by kernel_rfl))
                  have e2 : a'.tmps[91]?.getD undef = .int .i64 (p : Int) := by rw [← e1]; simp [Act.eval, Array.getD_eq_getD_getElem?]
                  refine GoesG.value (.slice (some ⟨W.heap.size, 0, none⟩) 1 1) (W' := W.alloc (.cells #[.int .i64 (p : Int)] 3)) rfl ?_ (Two.ext ((Below.refl _ W).alloc (Nat.le_refl _) _)) (fun s h1 h2 => ⟨W.heap.size, h1 rfl, alloc_here _ _, hA.rel.size⟩)
                  simp only [execOp]
                  simp [go_sem, e2]
                | i + 11, ho => cases ho
              · intro vs w6 hvs hG hΦ
                obtain ⟨y0, y1, y2, y3, y4, y5, y6, y7, y8, y9, y10, rfl⟩ := eleven vs hvs
                obtain ⟨gC, kC, hy3, oC6, aC⟩ : ∃ g c, y3 = .slice (some ⟨g, 0, none⟩) (CL.length + 1) c ∧ w6.ownsRow w.heap.size 23 1 (.slice (some ⟨g, 0, none⟩) (CL.length + 1) c) (CL.length + 1) (CL.map CV ++ [CV ⟨xa, xc, r⟩]) ∧ (vC.ownBlock = some g ∨ w4.heap.size ≤ g) := hΦ 3 (by decide)
                obtain ⟨gB, kB, hy7, oB6, aB⟩ : ∃ g c, y7 = .slice (some ⟨g, 0, none⟩) (KL.length + 1) c ∧ w6.ownsRow w.heap.size 44 1 (.slice (some ⟨g, 0, none⟩) (KL.length + 1) c) (KL.length + 1) (KL.map KV ++ [KV ⟨Wh.heap.size, kl⟩]) ∧ (vB.ownBlock = some g ∨ w4.heap.size ≤ g) := hΦ 7 (by decide)
                have hy8 : y8 = u5 := hΦ 8 (by decide)
                have hy9 : y9 = .int .i64 (p : Int) := hΦ 9 (by decide)
                obtain ⟨b10, hy10, hb10, -⟩ : ∃ b, y10 = .slice (some ⟨b, 0, none⟩) 1 1 ∧ w6.heap[b]? = some (.cells #[.int .i64 (p : Int)] 3 (0, 0)) ∧ w4.heap.size ≤ b := hΦ 10 (by decide)
                subst hy3 hy7 hy8 hy9 hy10
                have hOP := HS4.out.oP6 hG
                have HOP := Lib.hid hOP
                obtain ⟨i0, hi, hz0, hz1, hz2⟩ := info_parts infoI
                have hs6 := hG.size
                have HR24 := Lib.hid hG
                have HOC := Lib.hid (And.intro oC6 aC)
                have HOB := Lib.hid (And.intro oB6 aB)
                have hsw := HE4.out.size
                have hnw := World.news_of_block hb10
                clear hΦ hvs hG hOP oC6 oB6 aC aB hb10
                simp only [putAll, Act.put, List.setIfInBounds_toArray, List.set_cons_succ, List.set_cons_zero]
                refine wpList_append_lies _ (by rfl) _ _ 22 (by rfl) w.heap.size 3 i0 (.int .i64 0) 1 8 Try.underlying22 hi hz0 hz1 hz2 rfl (by decide) y8 PL.length (PL.map (Value.int .i64)) (by rfl) HOP.out ⟨b10, 0, none⟩ 1 1 [.int .i64 (p : Int)] (by rfl) rfl hnw (by simp [Value.oneCell']) (by decide) (by unfold maxLen; omega) (by omega) (by omega) _ rfl ?_
                intro gP kP w7 hown hgr hat hlt7
                have hC7 : w7.heap[w.heap.size]? = some (.cells #[vC] 40 (0, 0)) := (hgr.block _ (Nat.lt_of_lt_of_le (lt_of_block HS4.out.hC) hs6) (fun e => own_off HS4.out.oP HS4.out.hC (by decide) e.symm)).trans ((HR24.out.block _ (lt_of_block HS4.out.hC) nC0 nC1).trans HS4.out.hC)
                have hB7 : w7.heap[w.heap.size + 1]? = some (.cells #[vB] 41 (0, 0)) := (hgr.block _ (Nat.lt_of_lt_of_le (lt_of_block HS4.out.hB) hs6) (fun e => own_off HS4.out.oP HS4.out.hB (by decide) e.symm)).trans ((HR24.out.block _ (lt_of_block HS4.out.hB) nB0 nB1).trans HS4.out.hB)
                have cC7 := cell_of_one hC7
                have fC7 := free_of_one hC7
                have hB8 : (w7.setCell ⟨w.heap.size, 0, none⟩ (.slice (some ⟨gC, 0, none⟩) (CL.length + 1) kC)).heap[w.heap.size + 1]? = some (.cells #[vB] 41 (0, 0)) := (Below.heap_setCell _ _ _ _ (Nat.succ_ne_self w.heap.size)).trans hB7
                have cB8 := cell_of_one hB8
                have fB8 := free_of_one hB8
                have HNEW := Lib.hid (HS4.out.step ⟨xa, xc, r⟩ ⟨Wh.heap.size, kl⟩ (p : Int) HR24.out gC kC gB kB gP kP HOC.out.1 HOC.out.2 HOB.out.1 HOB.out.2 hown (hat.imp id (fun e => by rw [e]; exact hs6)) hgr HX4.out.1 HRl.out (fun y e => by
                  have h1 := HX4.out.2 y e
                  have h2 := lt_of_block HSh.out.hC
                  have h3 := lt_of_block HSh.out.hB
                  refine ⟨by omega, by omega, fun e2 => ?_, fun e2 => ?_, fun e2 => ?_, ?_⟩
                  · have := (HSh.out.oC.lt _ e2).2; omega
                  · have := (HSh.out.oB.lt _ e2).2; omega
                  · have := (HSh.out.oP.lt _ e2).2; omega
                  · have e' : xa = some y := e
                    subst e'
                    exact HX4.out.1.lt (by intro h; have := HRl.out; rw [h] at this; simp at this)) HL4.out.h2)
                have HEN := Lib.hid (show Ext w ((w7.setCell ⟨w.heap.size, 0, none⟩ (.slice (some ⟨gC, 0, none⟩) (CL.length + 1) kC)).setCell ⟨w.heap.size + 1, 0, none⟩ (.slice (some ⟨gB, 0, none⟩) (KL.length + 1) kB)) from by
                  have e7 : Ext w w7 := ⟨(hgr.os.trans HR24.out.os).trans HE4.out.os, (hgr.tape.trans HR24.out.tape).trans HE4.out.tape, (hgr.output.trans HR24.out.output).trans HE4.out.output, Nat.le_trans hsw (Nat.le_trans hs6 hgr.size), fun j hj => by
                    have hj4 : j < w4.heap.size := by omega
                    refine (hgr.block j (by omega) (fun e => ?_)).trans ((HR24.out.block j hj4 (fun e => ?_) (fun e => ?_)).trans (HE4.out.block j hj))
                    · have := (HS4.out.oP.lt j e.symm).1; omega
                    · have := (HS4.out.oC.lt j e).1; omega
                    · have := (HS4.out.oB.lt j e).1; omega⟩
                  exact Below.setCell (Below.setCell e7 (p := ⟨w.heap.size, 0, none⟩) (Nat.le_refl _) _) (p := ⟨w.heap.size + 1, 0, none⟩) (Nat.le_succ _) _)
                clear hC7 hB7 hB8 hown hgr hat q1 q2 q3
                go_wp2
                go_roundw
                case rel =>
                  obtain ⟨q1, q2, q3⟩ := HQ.out
                  refine ⟨k + 1, by omega, by go_num, _, _, CL ++ [⟨xa, xc, r⟩], KL ++ [⟨Wh.heap.size, kl⟩], PL ++ [(p : Int)], by simp [q1], by simp [q2], by simp [q3], HNEW.out, ?_, ?_, ?_, HEN.out⟩
                  · refine Caus.Inv.step HI.out HM.out p hp4' HCV.out (fun i hi => ?_) (fun i hi => ?_) (fun i hi => ?_) ?_ (fun m => ?_) (fun q hq => ?_)
                    · show ((PL ++ [(p : Int)]).getD i 0).toNat = (PL.getD i 0).toNat
                      rw [gD_left _ _ _ (by omega)]
                    · funext m
                      show ((KL ++ [(⟨Wh.heap.size, kl⟩ : KE)]).getD i ⟨0, []⟩).l.getD m false = (KL.getD i ⟨0, []⟩).l.getD m false
                      rw [gD_left _ _ _ (by omega)]
                    · funext m
                      show ((CL ++ [(⟨xa, xc, r⟩ : CE)]).getD i ⟨none, 0, []⟩).l.getD m 0 = (CL.getD i ⟨none, 0, []⟩).l.getD m 0
                      rw [gD_left _ _ _ (by omega)]
                    · show ((PL ++ [(p : Int)]).getD k 0).toNat = p
                      rw [gD_last _ _ _ q3]; simp
                    · show ((KL ++ [(⟨Wh.heap.size, kl⟩ : KE)]).getD k ⟨0, []⟩).l.getD m false = kl.getD m false
                      rw [gD_last _ _ _ q2]
                    · show ((CL ++ [(⟨xa, xc, r⟩ : CE)]).getD k ⟨none, 0, []⟩).l.getD q 0 = if q = p then cl.getD q 0 + 1 else cl.getD q 0
                      rw [gD_last _ _ _ q1]
                      exact HRv.out q hq
                  · intro i y hy
                    rcases Nat.lt_trichotomy i k with h1 | h1 | h1
                    · rw [List.getElem?_append_left (by omega)] at hy
                      exact HK.out i y hy
                    · subst h1
                      rw [← q2] at hy
                      simp at hy
                      subst hy
                      exact HKL.out
                    · rw [List.getElem?_eq_none (by simp; omega)] at hy
                      cases hy
                  · intro z hz
                    rcases List.mem_append.1 hz with hz | hz
                    · exact HP.out z hz
                    · rw [List.mem_singleton] at hz
                      subst hz
                      omega
                case measure => simp [intOf]; omega
    · obtain rfl : n = l.length := by omega
      have HI := Lib.hid hI
      have HK := Lib.hid hK
      have HP := Lib.hid hP
      have HSS := Lib.hid hS
      have HE := Lib.hid hE
      have HQ := Lib.hid (And.intro q1 (And.intro q2 q3))
      generalize wr = wz at *
      clear hI hK hP hE hS q1 q2 q3 hlt hn
      go_wp2
      go_loopw [97] (fun i wx => ∃ i' : Nat, i' ≤ l.length ∧ i = .int .i64 i' ∧ Ext wz wx) (fun i _ => l.length - (intOf i).toNat)
      case atStart => exact ⟨0, Nat.zero_le _, rfl, Below.refl _ _⟩
      case round =>
        obtain ⟨i, hi, rfl, hEi⟩ := hrel
        have HEi := Lib.hid hEi
        clear hEi
        by_cases hil : i < l.length
        · generalize wr = wi at *
          go_wp2
          go_loopw [101] (fun k wx => ∃ k' : Nat, k' ≤ i ∧ k = .int .i64 k' ∧ Ext wz wx) (fun k _ => i - (intOf k).toNat)
          case atStart => exact ⟨0, Nat.zero_le _, rfl, HEi.out⟩
          case round =>
            obtain ⟨k, hk, rfl, hEk⟩ := hrel
            have HEk := Lib.hid hEk
            clear hEk
            by_cases hkl : k < i
            · obtain ⟨q1, q2, q3⟩ := HQ.out
              obtain ⟨x, hx⟩ : ∃ x, CL[k]? = some x := ⟨_, List.getElem?_eq_getElem (by omega)⟩
              obtain ⟨c, hc⟩ : ∃ x, CL[i]? = some x := ⟨_, List.getElem?_eq_getElem (by omega)⟩
              obtain ⟨y, hy⟩ : ∃ x, KL[i]? = some x := ⟨_, List.getElem?_eq_getElem (by omega)⟩
              obtain ⟨ix, lx, -⟩ := HSS.out.ints x (List.mem_of_getElem? hx)
              obtain ⟨ic, lc, -⟩ := HSS.out.ints c (List.mem_of_getElem? hc)
              have iy := HSS.out.rows y (List.mem_of_getElem? hy)
              have ly := HK.out i y hy
              have hkP : k < PL.length := by omega
              have hpk := HP.out _ (List.getElem_mem hkP)
              have hgp : PL.getD k 0 = PL[k] := by rw [List.getD_eq_getElem?_getD, List.getElem?_eq_getElem hkP]; rfl
              obtain ⟨pk, hpk2⟩ : ∃ pk : Nat, PL[k] = (pk : Int) := ⟨PL[k].toNat, by omega⟩
              have hp4 : pk < 4 := by omega
              have hpF : pF PL k = pk := by show (PL.getD k 0).toNat = pk; rw [hgp, hpk2]; simp
              have c1 : chk x.l = 0 := chk_small lx (fun q hq => by have := HI.out.bd k (by omega) q hq; rw [vF_get hx] at this; omega)
              have c2 : chk c.l = 0 := chk_small lc (fun q hq => by have := HI.out.bd i (by omega) q hq; rw [vF_get hc] at this; omega)
              obtain ⟨f1, f2, f3⟩ := caus_law HI.out hil hkl hx hc hy hpF lx lc c1 c2
              obtain ⟨gC, kC, hvC⟩ := Go.Joins.ownsRow_form HSS.out.oC (by omega)
              obtain ⟨gB, kB, hvB⟩ := Go.Joins.ownsRow_form HSS.out.oB (by omega)
              obtain ⟨gP, kP, hvP⟩ := Go.Joins.ownsRow_form HSS.out.oP (by omega)
              have HF := Lib.hid (fun W (h : Ext wz W) => show Fin2 wz w.heap.size (w.heap.size + 1) gC gB gP CL.length kC KL.length kB PL.length kP i k pk x c y W from by
                have S := HSS.out.ext h
                have oC := S.oC
                have oB := S.oB
                have oP := S.oP
                rw [hvC] at oC
                rw [hvB] at oB
                rw [hvP] at oP
                refine ⟨by rw [← hvB]; exact cell_of_one S.hB, ?_, ?_, by rw [← hvC]; exact cell_of_one S.hC, ?_, ?_, ?_⟩
                · rw [oB.cellAt i (by omega), List.getElem?_map, hy]; simp [KV, ly]
                · have h1 := (iy.ext h).get (m := k) (by omega)
                  rw [h1, List.getD_eq_getElem?_getD, List.getElem?_eq_getElem (by omega)]; rfl
                · rw [oC.cellAt k (by omega), List.getElem?_map, hx]; simp [CV, lx]
                · rw [oC.cellAt i (by omega), List.getElem?_map, hc]; simp [CV, lc]
                · rw [oP.cellAt k (by omega), List.getElem?_map, List.getElem?_eq_getElem hkP, hpk2]; rfl)
              obtain ⟨bx, ox, hxa, hxc⟩ := ix.at (i := pk) (by omega)
              have HXC := Lib.hid (fun W (h : Ext wz W) => show W.cell? ⟨bx, ox + pk, none⟩ = some (.int .i64 (x.l.getD pk 0)) from by
                have := (h.below.cell (p := ⟨bx, ox + pk, none⟩) (cell_lt hxc)).trans hxc
                rw [this, List.getD_eq_getElem?_getD, List.getElem?_eq_getElem (by omega)]; rfl)
              have K1 := Lib.hid (fun W (h : Ext wz W) => show Gives Try.prog 17 #[.slice (some ⟨bx, ox, none⟩) 4 x.c, .slice c.a 4 c.c] W (.int .i64 (cmpV x.l c.l)) from by
                have := Compare_any x.l c.l x.a c.a x.c c.c W (by rw [lx]; decide) (by rw [lc]; decide) (ix.below h) (ic.below h)
                rw [lx, lc, hxa] at this; exact this)
              have K2 := Lib.hid (fun W (h : Ext wz W) => show Gives Try.prog 17 #[.slice c.a 4 c.c, .slice (some ⟨bx, ox, none⟩) 4 x.c] W (.int .i64 (cmpV c.l x.l)) from by
                have := Compare_any c.l x.l c.a x.a c.c x.c W (by rw [lc]; decide) (by rw [lx]; decide) (ic.below h) (ix.below h)
                rw [lx, lc, hxa] at this; exact this)
              have K3 := Lib.hid (fun W (h : Ext wz W) => show Gives Try.prog 27 #[.slice c.a 4 c.c, .int .i64 (pk : Int), .int .i64 (x.l.getD pk 0)] W (.bool (decide (x.l.getD pk 0 ≤ c.l.getD pk 0))) from by
                have := Covers_main c.l pk (x.l.getD pk 0) c.a c.c W c2 (by omega) (ic.below h)
                have e : c.l[pk]'(by omega) = c.l.getD pk 0 := by rw [List.getD_eq_getElem?_getD, List.getElem?_eq_getElem (by omega)]; rfl
                rw [e] at this
                rw [lc] at this
                exact this)
              rw [f1] at K3
              have hF := HF.out _ HEk.out
              obtain ⟨a1, a2, a3, a4, a5, a6, a7⟩ := hF
              have a8 := HXC.out _ HEk.out
              have hvP' := hvP
              subst hvP'
              rw [hxa] at a5
              have hiC : i < CL.length := by omega
              have hkC : k < CL.length := by omega
              have hiB : i < KL.length := by omega
              clear hxc
              clear q1 q2 q3 hx hc hy ix ic iy ly lx lc hpk hpk2 hpF c1 c2 hvC hvB hvP hgp f1
              generalize cmpV x.l c.l = r1 at *
              generalize cmpV c.l x.l = r2 at *
              generalize y.l.getD k false = is at *
              generalize x.l.getD pk 0 = own at *
              generalize CL.length = nC at *
              generalize KL.length = nB at *
              generalize PL.length = nP at *
              have b1 := fun U : Up wr => Up.cell a4 U
              have b2 := fun U : Up wr => Up.cell a5 U
              have b3 := fun U : Up wr => Up.cell a6 U
              have b4 := fun U : Up wr => Up.cell a7 U
              have b5 := fun U : Up wr => Up.cell a8 U
              go_wp2_with fail
              refine wp_region_up (by kernel_rfl) (by kernel_rfl) ?_
              repeat (go_big_quiet_step (first | (go_at_call 17; refine Up.callE (fun W hW => K1.out W (Ext.trans HEk.out hW)) ?_; with_reducible rfl) | (go_at_call 17; refine Up.callE (fun W hW => K2.out W (Ext.trans HEk.out hW)) ?_; with_reducible rfl) | (go_at_call 27; refine Up.callE (fun W hW => K3.out W (Ext.trans HEk.out hW)) ?_; with_reducible rfl)))
              refine wpQuiet_nil ?_
              rintro w4 ⟨U, rfl⟩
              go_wp2_with fail
              exact ⟨⟨k + 1, by omega, by go_num, Ext.trans HEk.out U.ext⟩, by simp [intOf]; omega⟩
            · obtain rfl : k = i := by omega
              generalize wr = wj at *
              go_wp2
              exact ⟨⟨k + 1, by omega, by go_num, HEk.out⟩, by simp [intOf]; omega⟩
        · generalize wr = wj at *
          go_wp2_with fail
          refine (awake_any _).mono ?_
          intro w5 hE5
          have HE5 := Lib.hid (Ext.trans (Ext.trans HE.out HEi.out) hE5)
          clear hE5
          go_wp2
          go_ret
          exact ⟨rfl, HE5.out⟩

end Go.Proofs.Ytaplbcmpjhdohaa
