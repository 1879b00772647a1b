/- The lattice of clocks, plain. -/
import Derived.Test.YtaplbcmpjhdohaaLawOrder
namespace Go.Proofs.Ytaplbcmpjhdohaa
open Go.RowKit
set_option linter.unusedVariables false

theorem zw_ext {f g : Nat → Int} {l m : List Int} (e : l.length = m.length) (h : ∀ i (h1 : i < l.length) (h2 : i < m.length), l[i] = m[i]) : l = m := List.ext_getElem e h
theorem zw_comm (op : Int → Int → Int) (hc : ∀ x y, op x y = op y x) (l m : List Int) : List.zipWith op l m = List.zipWith op m l := by
  apply List.ext_getElem (by simp [Nat.min_comm])
  intro i h1 h2
  simp only [List.getElem_zipWith]
  exact hc _ _
theorem zw_assoc (op : Int → Int → Int) (ha : ∀ x y z, op (op x y) z = op x (op y z)) (l m n : List Int) : List.zipWith op (List.zipWith op l m) n = List.zipWith op l (List.zipWith op m n) := by
  apply List.ext_getElem (by simp [Nat.min_assoc])
  intro i h1 h2
  simp only [List.getElem_zipWith]
  exact ha _ _ _
theorem zw_self (op : Int → Int → Int) (hi : ∀ x, op x x = x) (l : List Int) : List.zipWith op l l = l := by
  apply List.ext_getElem (by simp)
  intro i h1 h2
  simp only [List.getElem_zipWith]
  exact hi _
theorem zw_absorb (op op' : Int → Int → Int) (hi : ∀ x y, op x (op' x y) = x) (l m : List Int) (e : l.length = m.length) : List.zipWith op l (List.zipWith op' l m) = l := by
  apply List.ext_getElem (by simp [e])
  intro i h1 h2
  simp only [List.getElem_zipWith]
  exact hi _ _
theorem chk_zw (op : Int → Int → Int) (hb : ∀ x y, op x y = x ∨ op x y = y) {l m : List Int} (h1 : chk l = 0) (h2 : chk m = 0) : chk (List.zipWith op l m) = 0 := by
  have a := chk_len h1
  have L : (List.zipWith op l m).length ≤ l.length := by simp; omega
  unfold chk
  rw [if_neg (by omega), if_neg]
  intro h
  obtain ⟨y, hy, hby⟩ := List.any_eq_true.1 h
  obtain ⟨i, hi, rfl⟩ := List.mem_iff_getElem.1 hy
  rw [List.getElem_zipWith] at hby
  have q : ∀ x, x ∈ l ∨ x ∈ m → bad x = false := by
    intro x hx
    have k : ∀ s : List Int, chk s = 0 → s.any bad = false := by
      intro s hs
      unfold chk at hs
      split at hs
      · simp at hs
      · split at hs
        · simp at hs
        · rename_i _ hq; simpa using hq
    rcases hx with hx | hx
    · have := List.any_eq_false.1 (k l h1) x hx; simpa using this
    · have := List.any_eq_false.1 (k m h2) x hx; simpa using this
  rcases hb (l[i]'(by simp at hi; omega)) (m[i]'(by simp at hi; omega)) with e | e
  · rw [e, q _ (.inl (List.getElem_mem _))] at hby; cases hby
  · rw [e, q _ (.inr (List.getElem_mem _))] at hby; cases hby

theorem leB_max {l m : List Int} (e : l.length = m.length) : leB l (List.zipWith max l m) = true := by
  refine leB_true (by simp [e]) (fun i hi => ?_)
  rw [List.getElem_zipWith]; omega
theorem leB_max' {l m : List Int} (e : l.length = m.length) : leB m (List.zipWith max l m) = true := by
  refine leB_true (by simp [e]) (fun i hi => ?_)
  rw [List.getElem_zipWith]; omega
theorem leB_min {l m : List Int} (e : l.length = m.length) : leB (List.zipWith min l m) l = true := by
  refine leB_true (by simp [e]) (fun i hi => ?_)
  rw [List.getElem_zipWith]; omega
theorem leB_min' {l m : List Int} (e : l.length = m.length) : leB (List.zipWith min l m) m = true := by
  refine leB_true (by simp [e]) (fun i hi => ?_)
  rw [List.getElem_zipWith]; omega
theorem leB_get {l m : List Int} (e : l.length = m.length) (h : leB l m = true) (i : Nat) (hi : i < l.length) : l[i] ≤ m[i]'(by omega) := by
  have := (leB_iff l m).1 h i hi
  simpa [List.getD_eq_getElem?_getD, hi, show i < m.length by omega] using this
theorem leB_lub {l m n : List Int} (e : l.length = m.length) (e2 : m.length = n.length) (h1 : leB l n = true) (h2 : leB m n = true) : leB (List.zipWith max l m) n = true := by
  refine leB_true (by simp; omega) (fun i hi => ?_)
  rw [List.getElem_zipWith]
  have a := leB_get (by omega) h1 i (by simp at hi; omega)
  have b := leB_get (by omega) h2 i (by simp at hi; omega)
  omega
theorem leB_glb {l m n : List Int} (e : l.length = m.length) (e2 : m.length = n.length) (h1 : leB n l = true) (h2 : leB n m = true) : leB n (List.zipWith min l m) = true := by
  refine leB_true (by simp; omega) (fun i hi => ?_)
  rw [List.getElem_zipWith]
  have a := leB_get (by omega) h1 i hi
  have b := leB_get (by omega) h2 i hi
  omega

end Go.Proofs.Ytaplbcmpjhdohaa
