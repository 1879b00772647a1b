/- Lemmas and walks for the statements of this seat, part 12, merged from smaller texts: The reference's SameExpr.; The law of parentheses: a text in parentheses reads as the text does.; Positions; the reference's tokens: plain.; slices.ContainsFunc of names with the lexer's Keyword. -/
import Derived.Lib.LastIndexByte
import Derived.Lib.Bytealg
import Derived.Test.YtmokejjndkibhaaGreatDoorSh11
import Derived.Test.YtmokejjndkibhaaGreatDoorSh11
import Derived.Test.YtmokejjndkibhaaGreatDoorSh7
import Derived.Test.YtmokejjndkibhaaGreatDoorSh6

namespace Go.Proofs.YtmokejjndkibhaaGreatDoor
open Go.RowKit Go.Shelf Ex
set_option linter.unusedVariables false
set_option linter.unusedSimpArgs false

theorem exZ_chk : exZ.chk = 8 := by decide +kernel
set_option maxRecDepth 100000 in
set_option maxHeartbeats 2000000 in
theorem zero_yes (p : Option Addr) (c : Nat) (w : World) : Gives Tryz.prog 39 #[.agg #[.int .i64 0, .int .i64 0, sV [], .int .i64 0, .slice p 0 c]] w (.bool true) := by
  unfold Gives
  go_enter Tryz.func39, Tryz.ntmps39
  go_wp2
  go_ret
  exact ⟨rfl, (Below.refl _ w).alloc (Nat.le_refl _) _⟩
set_option maxRecDepth 100000 in
set_option maxHeartbeats 2000000 in
theorem SameZ_any (p q : Option Addr) (c d : Nat) (w : World) : Gives Tryz.prog 13 #[.agg #[.int .i64 0, .int .i64 0, sV [], .int .i64 0, .slice p 0 c], .agg #[.int .i64 0, .int .i64 0, sV [], .int .i64 0, .slice q 0 d]] w (.bool true) := by
  unfold Gives
  obtain ⟨hb1, hb2, hE⟩ := two_boxes w (.int .i64 0) (.int .i64 0) (sV []) (.int .i64 0) (.slice p 0 c) (.int .i64 0) (.int .i64 0) (sV []) (.int .i64 0) (.slice q 0 d) tEx
  have Ka := Lib.hid hb1
  have Kb := Lib.hid hb2
  have HX := Lib.hid hE
  have KE := Lib.hid (fun W => (show Gives Tryz.prog 30 #[.agg #[.int .i64 0, .int .i64 0, sV [], .int .i64 0, .slice p 0 c], .agg #[.int .i64 0, .int .i64 0, sV [], .int .i64 0, .slice q 0 d]] W (.bool false) from by
    have := refEqualX_any exZ exZ p q c d W (exZ_at W p) (exZ_at W q)
    rw [exZ_chk] at this
    exact this))
  have KZ := Lib.hid (fun p c W => zero_yes p c W)
  have x0 := cell_of (i := 0) hb1 rfl
  have x1 := cell_of (i := 1) hb1 rfl
  have x2 := cell_of (i := 2) hb1 rfl
  have x3 := cell_of (i := 3) hb1 rfl
  have x4 := cell_of (i := 4) hb1 rfl
  have y0 := cell_of (i := 0) hb2 rfl
  have y1 := cell_of (i := 1) hb2 rfl
  have y2 := cell_of (i := 2) hb2 rfl
  have y3 := cell_of (i := 3) hb2 rfl
  have y4 := cell_of (i := 4) hb2 rfl
  clear hb1 hb2 hE
  go_enter Tryz.func13, Tryz.ntmps13
  go_wp2_with fail
  refine (KE.out _).mono ?_
  intro w1 hE
  have hk1 := (hE.block _ (lt_of_block Ka.out)).trans Ka.out
  have hk2 := (hE.block _ (lt_of_block Kb.out)).trans Kb.out
  have HX1 := Lib.hid (Ext.trans HX.out hE)
  have K1 := Lib.hid hk1
  have K2 := Lib.hid hk2
  clear hE x0 x1 x2 x3 x4 y0 y1 y2 y3 y4
  have x0 := cell_of (i := 0) hk1 rfl
  have x1 := cell_of (i := 1) hk1 rfl
  have x2 := cell_of (i := 2) hk1 rfl
  have x3 := cell_of (i := 3) hk1 rfl
  have x4 := cell_of (i := 4) hk1 rfl
  clear hk1 hk2
  go_wp2_with fail
  refine (KZ.out _ _ _).mono ?_
  intro w2 hE
  have hk2 := (hE.block _ (lt_of_block K2.out)).trans K2.out
  have HX2 := Lib.hid (Ext.trans HX1.out hE)
  clear hE x0 x1 x2 x3 x4
  have y0 := cell_of (i := 0) hk2 rfl
  have y1 := cell_of (i := 1) hk2 rfl
  have y2 := cell_of (i := 2) hk2 rfl
  have y3 := cell_of (i := 3) hk2 rfl
  have y4 := cell_of (i := 4) hk2 rfl
  clear hk2
  go_wp2_with fail
  refine (KZ.out _ _ _).mono ?_
  intro w3 hE
  have HX3 := Lib.hid (Ext.trans HX2.out hE)
  clear hE y0 y1 y2 y3 y4
  go_wp2
  go_ret
  exact ⟨rfl, HX3.out⟩
set_option maxRecDepth 100000 in
set_option maxHeartbeats 2000000 in
theorem SameX_any (x : Ex) (hx : x.chk = 0) (p q : Option Addr) (c d : Nat) (w : World) (hA : Ex.At w p x) (hB : Ex.At w q x) : Gives Tryz.prog 13 #[x.val p c, x.val q d] w (.bool true) := by
  unfold Gives
  have HX0 := Lib.hid hx
  have HA := Lib.hid hA
  have HB := Lib.hid hB
  clear hx hA hB
  obtain ⟨k1, o1, n1, v1, es⟩ := x
  dsimp only [Ex.val, Ex.kind, Ex.op, Ex.name, Ex.value, Ex.args]
  obtain ⟨m, hm⟩ : ∃ m, es.length = m := ⟨_, rfl⟩
  rw [hm]
  have HM := Lib.hid hm
  clear hm
  obtain ⟨hb1, hb2, hE⟩ := two_boxes w (.int .i64 k1) (.int .i64 o1) (sV n1) (.int .i64 v1) (.slice p m c) (.int .i64 k1) (.int .i64 o1) (sV n1) (.int .i64 v1) (.slice q m d) tEx
  have HX := Lib.hid hE
  have KE := Lib.hid (fun W (hW : Ext w W) => (show Gives Tryz.prog 30 #[.agg #[.int .i64 k1, .int .i64 o1, sV n1, .int .i64 v1, .slice p m c], .agg #[.int .i64 k1, .int .i64 o1, sV n1, .int .i64 v1, .slice q m d]] W (.bool true) from by
    have := refEqualX_any (.mk k1 o1 n1 v1 es) (.mk k1 o1 n1 v1 es) p q c d W (HA.out.below hW) (HB.out.below hW)
    rw [HX0.out, eqX_self] at this
    rw [← HM.out]
    exact this))
  have x0 := cell_of (i := 0) hb1 rfl
  have x1 := cell_of (i := 1) hb1 rfl
  have x2 := cell_of (i := 2) hb1 rfl
  have x3 := cell_of (i := 3) hb1 rfl
  have x4 := cell_of (i := 4) hb1 rfl
  have y0 := cell_of (i := 0) hb2 rfl
  have y1 := cell_of (i := 1) hb2 rfl
  have y2 := cell_of (i := 2) hb2 rfl
  have y3 := cell_of (i := 3) hb2 rfl
  have y4 := cell_of (i := 4) hb2 rfl
  clear hb1 hb2 hE
  go_enter Tryz.func13, Tryz.ntmps13
  go_wp2_with fail
  refine (KE.out _ HX.out).mono ?_
  intro w1 hE
  have HX1 := Lib.hid (Ext.trans HX.out hE)
  clear hE x0 x1 x2 x3 x4 y0 y1 y2 y3 y4
  go_wp2
  go_ret
  exact ⟨rfl, HX1.out⟩
end Go.Proofs.YtmokejjndkibhaaGreatDoor

namespace Go.Proofs.YtmokejjndkibhaaGreatDoor
open Go.RowKit Go.Shelf Ex
set_option linter.unusedVariables false
set_option linter.unusedSimpArgs false

end Go.Proofs.YtmokejjndkibhaaGreatDoor

namespace Go.Proofs.YtmokejjndkibhaaGreatDoor
open Go.RowKit
set_option linter.unusedVariables false
set_option linter.unusedSimpArgs false

/-- the reference's value of digits: it stops above the greatest number -/
def satV : Int → List UInt8 → Int
  | n, [] => n
  | n, c :: l => if n ≤ 1099511627776 then satV (n * 10 + ((c.toNat : Int) - 48)) l else n
theorem satV_eq : ∀ (l : List UInt8) (n : Int), DigsL l → 0 ≤ n → (satV n l = l.foldl (fun n c => n * 10 + ((c.toNat : Int) - 48)) n) ∨ (1099511627776 < satV n l ∧ 1099511627776 < l.foldl (fun n c => n * 10 + ((c.toNat : Int) - 48)) n)
  | [], n, _, _ => .inl rfl
  | c :: l, n, h, h0 => by
    have hc := h c (List.mem_cons_self ..)
    have hl := fun d hd => h d (List.mem_cons_of_mem _ hd)
    rw [satV, List.foldl_cons]
    split
    · exact satV_eq l _ hl (by omega)
    · have := numF_le l (n * 10 + ((c.toNat : Int) - 48)) hl (by omega)
      exact .inr ⟨by omega, by omega⟩
theorem satV_num {l : List UInt8} (h : DigsL l) : (satV 0 l = numV l) ∨ (1099511627776 < satV 0 l ∧ 1099511627776 < numV l) := satV_eq l 0 h (Int.le_refl _)
/-- whether a token is a number, as the reference asks it -/
def digsT (t : Tk) : Bool := decide ((∀ c ∈ t.text, digB c = true) ∧ t.text ≠ [] ∧ (t.text.length = 1 ∨ ∀ c, t.text.head? = some c → c.toNat ≠ 48) ∧ 0 ≤ t.val ∧ t.val ≤ 1099511627776 ∧ satV 0 t.text = t.val)
theorem digsT_eq (t : Tk) : digsT t = numOk t := by
  unfold digsT numOk
  rw [Bool.eq_iff_iff, decide_eq_true_iff, decide_eq_true_iff]
  have e : (∀ c ∈ t.text, digB c = true) ↔ DigsL t.text := ⟨fun h c hc => (digB_iff c).1 (h c hc), fun h c hc => (digB_iff c).2 (h c hc)⟩
  constructor
  · rintro ⟨h1, h2, h3, h4, h5, h6⟩
    have hd := e.1 h1
    refine ⟨h4, h5, (numl_iff h4).2 ⟨⟨hd, h2, h3⟩, ?_⟩⟩
    rcases satV_num hd with h | h <;> omega
  · rintro ⟨h4, h5, h6⟩
    obtain ⟨⟨hd, h2, h3⟩, h7⟩ := (numl_iff h4).1 h6
    refine ⟨e.2 hd, h2, h3, h4, h5, ?_⟩
    rcases satV_num hd with h | h <;> omega

/-- the reference's signs, in its order -/
def sgR : List (List UInt8) := sg2 ++ [[60], [62], [43], [45], [42], [47], [37], [33], [61], [40], [41], [123], [125], [44], [59]]
theorem sgR_lo : ∀ x ∈ sgR.take 6, x ∈ sg2 ∧ x.length = 2 := by decide
theorem sgR_hi : (sgR.drop 6).all (fun x => match x with | [c] => sg1.contains c | _ => false) = true := by decide
theorem sgR_hit {l x : List UInt8} {j : Nat} (hj : j < sgR.length) (hx : sgR[j].isPrefixOf l = true) (hno : ∀ y ∈ sgR.take j, y.isPrefixOf l = false) : sgLen l = sgR[j].length := by
  by_cases h6 : j < 6
  · have hm : sgR[j] ∈ sgR.take 6 := List.mem_iff_getElem.2 ⟨j, by simp; omega, by simp⟩
    have h2 := sgR_lo _ hm
    unfold sgLen
    rw [if_pos (List.any_eq_true.2 ⟨_, h2.1, hx⟩), h2.2]
  · have hn : ∀ y ∈ sg2, y.isPrefixOf l = false := fun y hy => hno y (by
      rw [show j = 6 + (j - 6) by omega, List.take_add]
      exact List.mem_append_left _ hy)
    have hm : sgR[j] ∈ sgR.drop 6 := List.mem_iff_getElem.2 ⟨j - 6, by simp; omega, by simp only [List.getElem_drop]; congr 1; omega⟩
    have h2 := List.all_eq_true.1 sgR_hi _ hm
    obtain ⟨c, hc, hc1⟩ : ∃ c, sgR[j] = [c] ∧ sg1.contains c = true := by
      generalize sgR[j] = x at h2
      split at h2
      · rename_i c; exact ⟨c, rfl, h2⟩
      · cases h2
    rw [hc] at hx ⊢
    cases l with
    | nil => simp [List.isPrefixOf] at hx
    | cons d l =>
      simp only [List.isPrefixOf, Bool.and_true, beq_iff_eq] at hx
      subst hx
      unfold sgLen
      rw [if_neg (fun e => by obtain ⟨x, hx, hp⟩ := List.any_eq_true.1 e; rw [hn x hx] at hp; cases hp)]
      dsimp only
      rw [if_pos hc1]; rfl
theorem sgR_none {l : List UInt8} (hno : ∀ y ∈ sgR, y.isPrefixOf l = false) : sgLen l = 0 := by
  unfold sgLen
  rw [if_neg (fun e => by obtain ⟨x, hx, hp⟩ := List.any_eq_true.1 e; rw [hno x (List.mem_append_left _ hx)] at hp; cases hp)]
  cases l with
  | nil => rfl
  | cons c l =>
    dsimp only
    rw [if_neg]
    intro e
    have hm : [c] ∈ sgR := by
      refine List.mem_append_right _ ?_
      have : c ∈ sg1 := List.contains_iff_mem.1 e
      simp only [sg1, List.mem_cons, List.not_mem_nil, or_false] at this
      rcases this with rfl | rfl | rfl | rfl | rfl | rfl | rfl | rfl | rfl | rfl | rfl | rfl | rfl | rfl | rfl <;> decide
    have := hno _ hm
    simp [List.isPrefixOf] at this
/-- a blank or a comment is passed over -/
theorem blk_skip {s : List UInt8} {a : Nat} (h : a < s.length) (hb : (s[a]).toNat = 32 ∨ (s[a]).toNat = 9 ∨ (s[a]).toNat = 10) : a + skipB false (s.drop a) = (a + 1) + skipB false (s.drop (a + 1)) := by
  rw [List.drop_eq_getElem_cons h]
  simp only [skipB]
  by_cases h10 : (s[a]).toNat = 10
  · rw [if_pos h10]; omega
  · rw [if_neg h10, if_neg (by simp), if_neg (by omega), if_pos (by omega)]; omega
theorem blk_comment {s : List UInt8} {a k : Nat} (h : a < s.length) (hb : (s[a]).toNat = 35) (hk : a ≤ k) (hkl : k ≤ s.length) (hno : ∀ j (hj : j < s.length), a ≤ j → j < k → (s[j]).toNat ≠ 10) (hend : ∀ hk : k < s.length, (s[k]).toNat = 10) : a + skipB false (s.drop a) = k + skipB false (s.drop k) := by
  have hlt : a < k := by
    rcases Nat.lt_or_ge a k with h1 | h1
    · exact h1
    · have : k = a := by omega
      subst this
      have := hend h; omega
  have e1 : skipB false (s.drop a) = skipB true (s.drop a) := by
    rw [List.drop_eq_getElem_cons h]
    simp [skipB, hb]
  have e2 : skipB true (s.drop a) = (k - a) + skipB true (s.drop (a + (k - a))) := skipB_coms (k - a) a (by omega) (fun j hj hh => hno _ hh (by omega) (by omega))
  have e3 : skipB true (s.drop k) = skipB false (s.drop k) := by
    by_cases hk2 : k < s.length
    · rw [List.drop_eq_getElem_cons hk2]
      simp [skipB, hend hk2]
    · rw [List.drop_eq_nil_of_le (by omega)]; simp [skipB]
  rw [e1, e2, show a + (k - a) = k by omega, e3]
  omega
theorem blk_none {s : List UInt8} {a : Nat} (h : a < s.length) (h1 : (s[a]).toNat ≠ 32) (h2 : (s[a]).toNat ≠ 9) (h3 : (s[a]).toNat ≠ 10) (h4 : (s[a]).toNat ≠ 35) : skipB false (s.drop a) = 0 := by
  rw [List.drop_eq_getElem_cons h]
  simp [skipB, h1, h2, h3, h4]
end Go.Proofs.YtmokejjndkibhaaGreatDoor

namespace Go.Proofs.YtmokejjndkibhaaGreatDoor
open Go.RowKit Go.Shelf Ex
set_option linter.unusedVariables false
set_option linter.unusedSimpArgs false

end Go.Proofs.YtmokejjndkibhaaGreatDoor

