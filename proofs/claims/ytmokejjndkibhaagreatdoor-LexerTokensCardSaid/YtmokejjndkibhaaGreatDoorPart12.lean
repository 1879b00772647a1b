/- Lemmas and walks for the statements of this seat, part 12, merged from smaller texts: The reference's SameExpr.; The law of parentheses: a text in parentheses reads as the text does.; Positions; the reference's tokens: plain.; slices.ContainsFunc of names with the lexer's Keyword. -/
import Derived.Lib.LastIndexByte
import Derived.Lib.Bytealg
import Derived.Test.YtmokejjndkibhaaGreatDoorPart11
import Derived.Test.YtmokejjndkibhaaGreatDoorPart11
import Derived.Test.YtmokejjndkibhaaGreatDoorPart7
import Derived.Test.YtmokejjndkibhaaGreatDoorPart6

namespace Go.Proofs.YtmokejjndkibhaaGreatDoor
open Go.RowKit Go.Shelf Ex
set_option linter.unusedVariables false
set_option linter.unusedSimpArgs false

theorem exZ_chk : exZ.chk = 8 := by decide +kernel
set_option maxRecDepth 100000 in
set_option maxHeartbeats 2000000 in
theorem zero_yes (p : Option Addr) (c : Nat) (w : World) : Gives Tryz.prog 39 #[.agg #[.int .i64 0, .int .i64 0, sV [], .int .i64 0, .slice p 0 c]] w (.bool true) := by
  unfold Gives
  go_enter Tryz.func39, Tryz.ntmps39
  go_wp2
  go_ret
  exact ⟨rfl, (Below.refl _ w).alloc (Nat.le_refl _) _⟩
set_option maxRecDepth 100000 in
set_option maxHeartbeats 2000000 in
theorem SameZ_any (p q : Option Addr) (c d : Nat) (w : World) : Gives Tryz.prog 13 #[.agg #[.int .i64 0, .int .i64 0, sV [], .int .i64 0, .slice p 0 c], .agg #[.int .i64 0, .int .i64 0, sV [], .int .i64 0, .slice q 0 d]] w (.bool true) := by
  unfold Gives
  obtain ⟨hb1, hb2, hE⟩ := two_boxes w (.int .i64 0) (.int .i64 0) (sV []) (.int .i64 0) (.slice p 0 c) (.int .i64 0) (.int .i64 0) (sV []) (.int .i64 0) (.slice q 0 d) tEx
  have Ka := Lib.hid hb1
  have Kb := Lib.hid hb2
  have HX := Lib.hid hE
  have KE := Lib.hid (fun W => (show Gives Tryz.prog 30 #[.agg #[.int .i64 0, .int .i64 0, sV [], .int .i64 0, .slice p 0 c], .agg #[.int .i64 0, .int .i64 0, sV [], .int .i64 0, .slice q 0 d]] W (.bool false) from by
    have := refEqualX_any exZ exZ p q c d W (exZ_at W p) (exZ_at W q)
    rw [exZ_chk] at this
    exact this))
  have KZ := Lib.hid (fun p c W => zero_yes p c W)
  have x0 := cell_of (i := 0) hb1 rfl
  have x1 := cell_of (i := 1) hb1 rfl
  have x2 := cell_of (i := 2) hb1 rfl
  have x3 := cell_of (i := 3) hb1 rfl
  have x4 := cell_of (i := 4) hb1 rfl
  have y0 := cell_of (i := 0) hb2 rfl
  have y1 := cell_of (i := 1) hb2 rfl
  have y2 := cell_of (i := 2) hb2 rfl
  have y3 := cell_of (i := 3) hb2 rfl
  have y4 := cell_of (i := 4) hb2 rfl
  clear hb1 hb2 hE
  go_enter Tryz.func13, Tryz.ntmps13
  go_wp2_with fail
  refine (KE.out _).mono ?_
  intro w1 hE
  have hk1 := (hE.block _ (lt_of_block Ka.out)).trans Ka.out
  have hk2 := (hE.block _ (lt_of_block Kb.out)).trans Kb.out
  have HX1 := Lib.hid (Ext.trans HX.out hE)
  have K1 := Lib.hid hk1
  have K2 := Lib.hid hk2
  clear hE x0 x1 x2 x3 x4 y0 y1 y2 y3 y4
  have x0 := cell_of (i := 0) hk1 rfl
  have x1 := cell_of (i := 1) hk1 rfl
  have x2 := cell_of (i := 2) hk1 rfl
  have x3 := cell_of (i := 3) hk1 rfl
  have x4 := cell_of (i := 4) hk1 rfl
  clear hk1 hk2
  go_wp2_with fail
  refine (KZ.out _ _ _).mono ?_
  intro w2 hE
  have hk2 := (hE.block _ (lt_of_block K2.out)).trans K2.out
  have HX2 := Lib.hid (Ext.trans HX1.out hE)
  clear hE x0 x1 x2 x3 x4
  have y0 := cell_of (i := 0) hk2 rfl
  have y1 := cell_of (i := 1) hk2 rfl
  have y2 := cell_of (i := 2) hk2 rfl
  have y3 := cell_of (i := 3) hk2 rfl
  have y4 := cell_of (i := 4) hk2 rfl
  clear hk2
  go_wp2_with fail
  refine (KZ.out _ _ _).mono ?_
  intro w3 hE
  have HX3 := Lib.hid (Ext.trans HX2.out hE)
  clear hE y0 y1 y2 y3 y4
  go_wp2
  go_ret
  exact ⟨rfl, HX3.out⟩
set_option maxRecDepth 100000 in
set_option maxHeartbeats 2000000 in
theorem SameX_any (x : Ex) (hx : x.chk = 0) (p q : Option Addr) (c d : Nat) (w : World) (hA : Ex.At w p x) (hB : Ex.At w q x) : Gives Tryz.prog 13 #[x.val p c, x.val q d] w (.bool true) := by
  unfold Gives
  have HX0 := Lib.hid hx
  have HA := Lib.hid hA
  have HB := Lib.hid hB
  clear hx hA hB
  obtain ⟨k1, o1, n1, v1, es⟩ := x
  dsimp only [Ex.val, Ex.kind, Ex.op, Ex.name, Ex.value, Ex.args]
  obtain ⟨m, hm⟩ : ∃ m, es.length = m := ⟨_, rfl⟩
  rw [hm]
  have HM := Lib.hid hm
  clear hm
  obtain ⟨hb1, hb2, hE⟩ := two_boxes w (.int .i64 k1) (.int .i64 o1) (sV n1) (.int .i64 v1) (.slice p m c) (.int .i64 k1) (.int .i64 o1) (sV n1) (.int .i64 v1) (.slice q m d) tEx
  have HX := Lib.hid hE
  have KE := Lib.hid (fun W (hW : Ext w W) => (show Gives Tryz.prog 30 #[.agg #[.int .i64 k1, .int .i64 o1, sV n1, .int .i64 v1, .slice p m c], .agg #[.int .i64 k1, .int .i64 o1, sV n1, .int .i64 v1, .slice q m d]] W (.bool true) from by
    have := refEqualX_any (.mk k1 o1 n1 v1 es) (.mk k1 o1 n1 v1 es) p q c d W (HA.out.below hW) (HB.out.below hW)
    rw [HX0.out, eqX_self] at this
    rw [← HM.out]
    exact this))
  have x0 := cell_of (i := 0) hb1 rfl
  have x1 := cell_of (i := 1) hb1 rfl
  have x2 := cell_of (i := 2) hb1 rfl
  have x3 := cell_of (i := 3) hb1 rfl
  have x4 := cell_of (i := 4) hb1 rfl
  have y0 := cell_of (i := 0) hb2 rfl
  have y1 := cell_of (i := 1) hb2 rfl
  have y2 := cell_of (i := 2) hb2 rfl
  have y3 := cell_of (i := 3) hb2 rfl
  have y4 := cell_of (i := 4) hb2 rfl
  clear hb1 hb2 hE
  go_enter Tryz.func13, Tryz.ntmps13
  go_wp2_with fail
  refine (KE.out _ HX.out).mono ?_
  intro w1 hE
  have HX1 := Lib.hid (Ext.trans HX.out hE)
  clear hE x0 x1 x2 x3 x4 y0 y1 y2 y3 y4
  go_wp2
  go_ret
  exact ⟨rfl, HX1.out⟩
end Go.Proofs.YtmokejjndkibhaaGreatDoor

namespace Go.Proofs.YtmokejjndkibhaaGreatDoor
open Go.RowKit Go.Shelf Ex
set_option linter.unusedVariables false
set_option linter.unusedSimpArgs false

theorem par_toks {s : List UInt8} (he : (toksR s).2.2 = 0) (hs : s.length ≤ 3990) : ∃ ts, (toksR s).1 = ts ++ [⟨0, [], 0, s.length⟩] ∧ (∀ t ∈ ts, t.kind ≠ 0) ∧
    toksR (40 :: (s ++ [10, 41])) = (⟨3, [40], 0, 0⟩ :: (ts.map (shT 1) ++ [⟨3, [41], 0, s.length + 2⟩, ⟨0, [], 0, s.length + 3⟩]), 0, 0) := by
  obtain ⟨_, _, ts0, hl0, _, hk0⟩ := toksR_form he
  have h := toksR_toks s (by omega)
  rw [he] at h
  have hX : (40 :: (s ++ [10, 41]) : List UInt8) = [40] ++ s ++ 10 :: [41] := by simp
  rw [hX]
  have hlen : ([40] ++ s ++ 10 :: [41] : List UInt8).length = s.length + 3 := by simp
  have hd2 : ([40] ++ s ++ 10 :: [41] : List UInt8).drop (s.length + 2) = [41] := by
    rw [List.drop_append, List.drop_eq_nil_of_le (by simp), List.nil_append]
    simp only [List.length_append, List.length_cons, List.length_nil]
    rw [show s.length + 2 - (0 + 1 + s.length) = 1 by omega]; rfl
  have b2 : blk ([40] ++ s ++ 10 :: [41]) (s.length + 2) = s.length + 2 := by
    unfold blk; rw [hd2]; rfl
  have b3 : blk ([40] ++ s ++ 10 :: [41]) (s.length + 3) = s.length + 3 := by
    unfold blk; rw [List.drop_eq_nil_of_le (by rw [hlen]; omega)]; rfl
  have hend : Toks ([40] ++ s ++ 10 :: [41]) (s.length + 3) [⟨0, [], 0, s.length + 3⟩] 0 0 := by
    have := Toks.fin (s := [40] ++ s ++ 10 :: [41]) (a := s.length + 3) (by rw [b3, hlen]; exact Nat.le_refl _)
    rw [hlen] at this
    exact this
  have hp : Toks ([40] ++ s ++ 10 :: [41]) (([40] : List UInt8).length + s.length + 1) [⟨3, [41], 0, s.length + 2⟩, ⟨0, [], 0, s.length + 3⟩] 0 0 := by
    have e1 : ([40] : List UInt8).length + s.length + 1 = s.length + 2 := by show 1 + s.length + 1 = _; omega
    rw [e1]
    refine .cons (by rw [b2, hlen]; omega) (by rw [b2, hd2]; rfl) ?_
    rw [b2]
    exact hend
  have hp0 : (toksR s).2.1 = 0 := (toksR_form he).2.1
  rw [hp0] at h
  obtain ⟨ts, h1, h2⟩ := h.inside [40] [41] rfl (Nat.zero_le _) hp
  have hts : ts = ts0 := by
    rw [hl0] at h1
    exact (List.append_cancel_right h1).symm
  refine ⟨ts, h1, by rw [hts]; exact fun t ht => (hk0 t ht).1, Toks.toksR (by rw [hlen]; omega) ?_⟩
  have b0 : blk ([40] ++ s ++ 10 :: [41]) 0 = 0 := by unfold blk; simp [skipB]
  have o0 : oneT (([40] ++ s ++ 10 :: [41]).drop 0) ((0 : Nat) : Int) = (⟨3, [40], 0, 0⟩, 0) := by
    have e : sgLen (([40] ++ s ++ 10 :: [41] : List UInt8)) = 1 := by
      show sgLen (40 :: (s ++ 10 :: [41])) = 1
      rw [sgLen_one (fun x hx => by
        have : ∀ x ∈ sg2, x.head? ≠ some 40 ∧ x ≠ [] := by decide
        have h := this x hx
        cases x with
        | nil => exact absurd rfl h.2
        | cons a x => have : ¬ a = 40 := fun e => h.1 (by rw [e]; rfl)
                      simp [List.isPrefixOf, this])]
      decide
    show oneT (40 :: (s ++ 10 :: [41])) 0 = _
    unfold oneT
    dsimp only
    rw [if_neg (by decide), if_neg (by decide)]
    have e' : sgLen (40 :: (s ++ 10 :: [41])) = 1 := e
    rw [e', if_neg (by decide)]
    rfl
  refine .cons (by rw [b0, hlen]; omega) (by rw [b0]; exact o0) ?_
  rw [b0]
  exact h2
theorem par_law {s : List UInt8} {r : Res} (hs : s.length ≤ 3990) (hR : (toksR s).2.2 = 0 → Rd (toksR s).1 (.bin 1) 0 r) (h0 : (psR s r).2.2 = 0) :
    ∃ r', Rd (toksR (40 :: (s ++ [10, 41]))).1 (.bin 1) 0 r' ∧ psR (40 :: (s ++ [10, 41])) r' = psR s r ∧ (psR s r).1.chk = 0 := by
  have he : (toksR s).2.2 = 0 := by
    by_cases h : (toksR s).2.2 = 0
    · exact h
    · unfold psR at h0; rw [if_pos h] at h0; exact absurd h0 h
  have hR := hR he
  obtain ⟨ts, h1, hk, h2⟩ := par_toks he hs
  have hps : psR s r = psL (toksR s).1 r := by unfold psR; rw [if_neg (by simp [he])]
  rw [hps] at h0 ⊢
  rw [h1] at hR h0 ⊢
  have hln : (ts ++ [⟨0, [], 0, (s.length : Int)⟩] : List Tk).length = ts.length + 1 := by simp
  have hst := hR.stop (m := ts.length) (by rw [hln]; omega) (by simp) (by decide) (Nat.zero_le _)
  cases r with
  | bad n => exact absurd (show (3 : Int) = 0 from h0) (by decide)
  | ok x n =>
    simp only [Res.end_] at hst
    unfold psL at h0 ⊢
    dsimp only at h0 ⊢
    by_cases hkd : ((ts ++ [⟨0, [], 0, (s.length : Int)⟩] : List Tk).getD n tk0).kind ≠ 0
    · rw [if_pos hkd] at h0; exact absurd (show (3 : Int) = 0 from h0) (by decide)
    · rw [if_neg hkd] at h0 ⊢
      by_cases hc : x.chk ≠ 0
      · rw [if_pos hc] at h0; exact absurd h0 hc
      · rw [if_neg hc]
        have hn : n = ts.length := by
          rcases Nat.lt_or_ge n ts.length with h | h
          · exfalso
            apply hkd
            rw [List.getD_eq_getElem?_getD, List.getElem?_append_left h, List.getElem?_eq_getElem h]
            exact hk _ (List.getElem_mem h)
          · omega
        subst hn
        refine ⟨.ok x (ts.length + 2), ?_, ?_, by simpa using hc⟩
        · rw [h2]
          dsimp only
          have hE : Emb (ts ++ [⟨0, [], 0, (s.length : Int)⟩]) (⟨3, [40], 0, 0⟩ :: (ts.map (shT 1) ++ [⟨3, [41], 0, s.length + 2⟩, ⟨0, [], 0, s.length + 3⟩])) 1 ts.length := fun i hi => by
            refine ⟨by rw [hln]; omega, by simp; omega, ?_⟩
            have e1 : (ts ++ [⟨0, [], 0, (s.length : Int)⟩] : List Tk)[i]'(by rw [hln]; omega) = ts[i] := by rw [List.getElem_append_left hi]
            have e2 : ((⟨3, [40], 0, 0⟩ :: (ts.map (shT 1) ++ [⟨3, [41], 0, s.length + 2⟩, ⟨0, [], 0, s.length + 3⟩])) : List Tk)[1 + i]'(by simp; omega) = shT 1 ts[i] := by
              simp only [show 1 + i = i + 1 by omega, List.getElem_cons_succ]
              rw [List.getElem_append_left (by simpa using hi), List.getElem_map]
            rw [e1, e2]
            exact ⟨rfl, rfl, rfl⟩
          have gm : ((⟨3, [40], 0, 0⟩ :: (ts.map (shT 1) ++ [⟨3, [41], 0, s.length + 2⟩, ⟨0, [], 0, s.length + 3⟩])) : List Tk)[1 + ts.length]? = some ⟨3, [41], 0, s.length + 2⟩ := by
            rw [show 1 + ts.length = ts.length + 1 by omega, List.getElem?_cons_succ, List.getElem?_append_right (by simp)]
            simp
          have gm2 : ((⟨3, [40], 0, 0⟩ :: (ts.map (shT 1) ++ [⟨3, [41], 0, s.length + 2⟩, ⟨0, [], 0, s.length + 3⟩])) : List Tk)[ts.length + 2]? = some ⟨0, [], 0, s.length + 3⟩ := by
            rw [List.getElem?_cons_succ, List.getElem?_append_right (by simp)]
            simp
          have ho : opAt (⟨3, [40], 0, 0⟩ :: (ts.map (shT 1) ++ [⟨3, [41], 0, s.length + 2⟩, ⟨0, [], 0, s.length + 3⟩])) (1 + ts.length) = opAt (ts ++ [⟨0, [], 0, (s.length : Int)⟩]) ts.length := by
            unfold opAt
            rw [gm, List.getElem?_append_right (Nat.le_refl _)]
            simp
            decide
          have hb := hR.emb hE ho rfl (by decide) (Nat.zero_le _) (Nat.le_refl _)
          rw [show ts.length + 2 = 1 + ts.length + 1 by omega]
          refine Rd.opd (p := 1) (by decide) (.par (j := 1 + ts.length) (by rfl) hb ?_) ?_
          · unfold sgB; rw [gm]; rfl
          · refine no_op (by decide) ?_
            unfold opAt
            rw [show 1 + ts.length + 1 = ts.length + 2 by omega, gm2]
            rfl
        · unfold psR
          rw [h2]
          dsimp only
          rw [if_neg (by decide)]
          unfold psL
          dsimp only
          have g : ((⟨3, [40], 0, 0⟩ :: (ts.map (shT 1) ++ [⟨3, [41], 0, s.length + 2⟩, ⟨0, [], 0, s.length + 3⟩])) : List Tk).getD (ts.length + 2) tk0 = ⟨0, [], 0, s.length + 3⟩ := by
            rw [List.getD_eq_getElem?_getD, List.getElem?_cons_succ, List.getElem?_append_right (by simp)]
            simp
          rw [g, if_neg (by show ¬ ((0 : Int) ≠ 0); decide), if_neg hc]
end Go.Proofs.YtmokejjndkibhaaGreatDoor

namespace Go.Proofs.YtmokejjndkibhaaGreatDoor
open Go.RowKit
set_option linter.unusedVariables false
set_option linter.unusedSimpArgs false

/-- line and column behind these bytes -/
def posF (l : List UInt8) : Int × Int := l.foldl (fun p c => if c.toNat = 10 then (p.1 + 1, 1) else (p.1, p.2 + 1)) (1, 1)
def posR (s : List UInt8) (a : Int) : Int × Int := if a < 0 ∨ (s.length : Int) < a then (0, 0) else posF (s.take a.toNat)
theorem posF_snoc (l : List UInt8) (c : UInt8) : posF (l ++ [c]) = if c.toNat = 10 then ((posF l).1 + 1, 1) else ((posF l).1, (posF l).2 + 1) := by
  unfold posF; rw [List.foldl_append]; rfl
theorem posF_at {s : List UInt8} {k : Nat} (h : k < s.length) : posF (s.take (k + 1)) = if (s[k]).toNat = 10 then ((posF (s.take k)).1 + 1, 1) else ((posF (s.take k)).1, (posF (s.take k)).2 + 1) := by
  rw [List.take_succ_eq_append_getElem h, posF_snoc]
theorem snoc_ind {P : List UInt8 → Prop} (h0 : P []) (h1 : ∀ l c, P l → P (l ++ [c])) (l : List UInt8) : P l := by
  rw [← List.reverse_reverse l]
  induction l.reverse with
  | nil => exact h0
  | cons c m ih => rw [List.reverse_cons]; exact h1 _ _ ih
theorem last_pre (l m : List UInt8) : ∀ k, k ≤ l.length → Lib.lastIdx (sB (l ++ m)) 10 k = Lib.lastIdx (sB l) 10 k
  | 0, _ => rfl
  | k + 1, h => by
    have e : (sB (l ++ m)).data[k]! = (sB l).data[k]! := by
      show (l ++ m).toArray[k]! = l.toArray[k]!
      have h1 : k < l.length := by omega
      simp [h1, List.getElem?_append_left h1, Nat.lt_of_lt_of_le h1 (Nat.le_add_right _ _)]
    simp only [Lib.lastIdx, e, last_pre l m k (by omega)]
theorem last_snoc (l : List UInt8) (c : UInt8) : Lib.lastIndexByte (sB (l ++ [c])) 10 = if c.toNat = 10 then (l.length : Int) else Lib.lastIndexByte (sB l) 10 := by
  have hs : (sB (l ++ [c])).size = l.length + 1 := by rw [sB_size]; simp
  unfold Lib.lastIndexByte
  rw [hs]
  have e : (sB (l ++ [c])).data[l.length]! = c := by
    show (l ++ [c]).toArray[l.length]! = c
    simp
  by_cases h : c.toNat = 10
  · rw [if_pos h, Lib.lastIdx_hit _ _ _ (by rw [e]; omega)]
  · rw [if_neg h, Lib.lastIdx_miss _ _ _ (by rw [e]; omega), last_pre l [c] _ (Nat.le_refl _), sB_size]
theorem posF_eq (l : List UInt8) : posF l = ((1 : Int) + ((Lib.countByte l 10 : Nat) : Int), (l.length : Int) - Lib.lastIndexByte (sB l) 10) := by
  refine snoc_ind (P := fun l => posF l = ((1 : Int) + ((Lib.countByte l 10 : Nat) : Int), (l.length : Int) - Lib.lastIndexByte (sB l) 10)) ?_ ?_ l
  · simp [posF, Lib.countByte, Lib.lastIndexByte, sB_size, Lib.lastIdx]
  · intro l c ih
    rw [posF_snoc, ih, last_snoc]
    unfold Lib.countByte
    rw [List.count_append]
    by_cases h : c.toNat = 10
    · have hc : c = 10 := UInt8.toNat_inj.1 h
      subst hc
      rw [if_pos h, if_pos h]
      refine Prod.ext ?_ ?_
      · simp; omega
      · simp; omega
    · have hc : ¬ c = 10 := fun e => h (by rw [e]; rfl)
      rw [if_neg h, if_neg h]
      refine Prod.ext ?_ ?_
      · simp [List.count_cons, hc]
      · simp; omega

/-- the reference's value of digits: it stops above the greatest number -/
def satV : Int → List UInt8 → Int
  | n, [] => n
  | n, c :: l => if n ≤ 1099511627776 then satV (n * 10 + ((c.toNat : Int) - 48)) l else n
theorem satV_eq : ∀ (l : List UInt8) (n : Int), DigsL l → 0 ≤ n → (satV n l = l.foldl (fun n c => n * 10 + ((c.toNat : Int) - 48)) n) ∨ (1099511627776 < satV n l ∧ 1099511627776 < l.foldl (fun n c => n * 10 + ((c.toNat : Int) - 48)) n)
  | [], n, _, _ => .inl rfl
  | c :: l, n, h, h0 => by
    have hc := h c (List.mem_cons_self ..)
    have hl := fun d hd => h d (List.mem_cons_of_mem _ hd)
    rw [satV, List.foldl_cons]
    split
    · exact satV_eq l _ hl (by omega)
    · have := numF_le l (n * 10 + ((c.toNat : Int) - 48)) hl (by omega)
      exact .inr ⟨by omega, by omega⟩
theorem satV_num {l : List UInt8} (h : DigsL l) : (satV 0 l = numV l) ∨ (1099511627776 < satV 0 l ∧ 1099511627776 < numV l) := satV_eq l 0 h (Int.le_refl _)
/-- whether a token is a number, as the reference asks it -/
def digsT (t : Tk) : Bool := decide ((∀ c ∈ t.text, digB c = true) ∧ t.text ≠ [] ∧ (t.text.length = 1 ∨ ∀ c, t.text.head? = some c → c.toNat ≠ 48) ∧ 0 ≤ t.val ∧ t.val ≤ 1099511627776 ∧ satV 0 t.text = t.val)
theorem digsT_eq (t : Tk) : digsT t = numOk t := by
  unfold digsT numOk
  rw [Bool.eq_iff_iff, decide_eq_true_iff, decide_eq_true_iff]
  have e : (∀ c ∈ t.text, digB c = true) ↔ DigsL t.text := ⟨fun h c hc => (digB_iff c).1 (h c hc), fun h c hc => (digB_iff c).2 (h c hc)⟩
  constructor
  · rintro ⟨h1, h2, h3, h4, h5, h6⟩
    have hd := e.1 h1
    refine ⟨h4, h5, (numl_iff h4).2 ⟨⟨hd, h2, h3⟩, ?_⟩⟩
    rcases satV_num hd with h | h <;> omega
  · rintro ⟨h4, h5, h6⟩
    obtain ⟨⟨hd, h2, h3⟩, h7⟩ := (numl_iff h4).1 h6
    refine ⟨e.2 hd, h2, h3, h4, h5, ?_⟩
    rcases satV_num hd with h | h <;> omega

/-- the reference's signs, in its order -/
def sgR : List (List UInt8) := sg2 ++ [[60], [62], [43], [45], [42], [47], [37], [33], [61], [40], [41], [123], [125], [44], [59]]
theorem sgR_lo : ∀ x ∈ sgR.take 6, x ∈ sg2 ∧ x.length = 2 := by decide
theorem sgR_hi : (sgR.drop 6).all (fun x => match x with | [c] => sg1.contains c | _ => false) = true := by decide
theorem sgR_hit {l x : List UInt8} {j : Nat} (hj : j < sgR.length) (hx : sgR[j].isPrefixOf l = true) (hno : ∀ y ∈ sgR.take j, y.isPrefixOf l = false) : sgLen l = sgR[j].length := by
  by_cases h6 : j < 6
  · have hm : sgR[j] ∈ sgR.take 6 := List.mem_iff_getElem.2 ⟨j, by simp; omega, by simp⟩
    have h2 := sgR_lo _ hm
    unfold sgLen
    rw [if_pos (List.any_eq_true.2 ⟨_, h2.1, hx⟩), h2.2]
  · have hn : ∀ y ∈ sg2, y.isPrefixOf l = false := fun y hy => hno y (by
      rw [show j = 6 + (j - 6) by omega, List.take_add]
      exact List.mem_append_left _ hy)
    have hm : sgR[j] ∈ sgR.drop 6 := List.mem_iff_getElem.2 ⟨j - 6, by simp; omega, by simp only [List.getElem_drop]; congr 1; omega⟩
    have h2 := List.all_eq_true.1 sgR_hi _ hm
    obtain ⟨c, hc, hc1⟩ : ∃ c, sgR[j] = [c] ∧ sg1.contains c = true := by
      generalize sgR[j] = x at h2
      split at h2
      · rename_i c; exact ⟨c, rfl, h2⟩
      · cases h2
    rw [hc] at hx ⊢
    cases l with
    | nil => simp [List.isPrefixOf] at hx
    | cons d l =>
      simp only [List.isPrefixOf, Bool.and_true, beq_iff_eq] at hx
      subst hx
      unfold sgLen
      rw [if_neg (fun e => by obtain ⟨x, hx, hp⟩ := List.any_eq_true.1 e; rw [hn x hx] at hp; cases hp)]
      dsimp only
      rw [if_pos hc1]; rfl
theorem sgR_none {l : List UInt8} (hno : ∀ y ∈ sgR, y.isPrefixOf l = false) : sgLen l = 0 := by
  unfold sgLen
  rw [if_neg (fun e => by obtain ⟨x, hx, hp⟩ := List.any_eq_true.1 e; rw [hno x (List.mem_append_left _ hx)] at hp; cases hp)]
  cases l with
  | nil => rfl
  | cons c l =>
    dsimp only
    rw [if_neg]
    intro e
    have hm : [c] ∈ sgR := by
      refine List.mem_append_right _ ?_
      have : c ∈ sg1 := List.contains_iff_mem.1 e
      simp only [sg1, List.mem_cons, List.not_mem_nil, or_false] at this
      rcases this with rfl | rfl | rfl | rfl | rfl | rfl | rfl | rfl | rfl | rfl | rfl | rfl | rfl | rfl | rfl <;> decide
    have := hno _ hm
    simp [List.isPrefixOf] at this
/-- a blank or a comment is passed over -/
theorem blk_skip {s : List UInt8} {a : Nat} (h : a < s.length) (hb : (s[a]).toNat = 32 ∨ (s[a]).toNat = 9 ∨ (s[a]).toNat = 10) : a + skipB false (s.drop a) = (a + 1) + skipB false (s.drop (a + 1)) := by
  rw [List.drop_eq_getElem_cons h]
  simp only [skipB]
  by_cases h10 : (s[a]).toNat = 10
  · rw [if_pos h10]; omega
  · rw [if_neg h10, if_neg (by simp), if_neg (by omega), if_pos (by omega)]; omega
theorem blk_comment {s : List UInt8} {a k : Nat} (h : a < s.length) (hb : (s[a]).toNat = 35) (hk : a ≤ k) (hkl : k ≤ s.length) (hno : ∀ j (hj : j < s.length), a ≤ j → j < k → (s[j]).toNat ≠ 10) (hend : ∀ hk : k < s.length, (s[k]).toNat = 10) : a + skipB false (s.drop a) = k + skipB false (s.drop k) := by
  have hlt : a < k := by
    rcases Nat.lt_or_ge a k with h1 | h1
    · exact h1
    · have : k = a := by omega
      subst this
      have := hend h; omega
  have e1 : skipB false (s.drop a) = skipB true (s.drop a) := by
    rw [List.drop_eq_getElem_cons h]
    simp [skipB, hb]
  have e2 : skipB true (s.drop a) = (k - a) + skipB true (s.drop (a + (k - a))) := skipB_coms (k - a) a (by omega) (fun j hj hh => hno _ hh (by omega) (by omega))
  have e3 : skipB true (s.drop k) = skipB false (s.drop k) := by
    by_cases hk2 : k < s.length
    · rw [List.drop_eq_getElem_cons hk2]
      simp [skipB, hend hk2]
    · rw [List.drop_eq_nil_of_le (by omega)]; simp [skipB]
  rw [e1, e2, show a + (k - a) = k by omega, e3]
  omega
theorem blk_none {s : List UInt8} {a : Nat} (h : a < s.length) (h1 : (s[a]).toNat ≠ 32) (h2 : (s[a]).toNat ≠ 9) (h3 : (s[a]).toNat ≠ 10) (h4 : (s[a]).toNat ≠ 35) : skipB false (s.drop a) = 0 := by
  rw [List.drop_eq_getElem_cons h]
  simp [skipB, h1, h2, h3, h4]
end Go.Proofs.YtmokejjndkibhaaGreatDoor

namespace Go.Proofs.YtmokejjndkibhaaGreatDoor
open Go.RowKit Go.Shelf Ex
set_option linter.unusedVariables false
set_option linter.unusedSimpArgs false

theorem any_take {l : List (List UInt8)} {j : Nat} (h : j < l.length) (hk : (l.take j).any kwB = false) (hb : kwB l[j] = false) : (l.take (j + 1)).any kwB = false := by
  rw [List.take_succ_eq_append_getElem h, List.any_append, hk]
  simp [hb]
set_option maxRecDepth 100000 in
set_option maxHeartbeats 1000000 in
theorem KwIndex_any (l : List (List UInt8)) (x : Option Addr) (c : Nat) (w : World) (hA : StrsAt w x l) (hl : l.length ≤ 1000000000) (hs : ∀ s ∈ l, s.length ≤ 1000000) (hm : MaxL w) :
    Calls Tryz.prog 55 #[.slice x l.length c, .func (.func 25) #[] #[]] w fun e w' =>
      Ext w w' ∧ ((l.any kwB = false ∧ e = .returned (.int .i64 (-1))) ∨ ∃ j : Nat, j < l.length ∧ l.any kwB = true ∧ e = .returned (.int .i64 (j : Int))) := by
  have en := enters_fn Tryz.func25 (by kernel_rfl) rfl
  have HA := Lib.hid hA
  have HM := Lib.hid hm
  have HS := Lib.hid hs
  clear hA hs hm
  go_enter Tryz.func55, Tryz.ntmps55
  go_wp2
  go_loopw [8] (fun i wr => ∃ j : Nat, j ≤ l.length ∧ i = .int .i64 (j : Int) ∧ (l.take j).any kwB = false ∧ Ext w wr) (fun i _ => l.length - (intOf i).toNat)
  case atStart => exact ⟨0, Nat.zero_le _, rfl, rfl, Below.refl _ _⟩
  case round =>
    obtain ⟨j, hj, rfl, hk, hE⟩ := hrel
    have HK := Lib.hid hk
    have HE := Lib.hid hE
    by_cases hlt : j < l.length
    · obtain ⟨b, off, rfl, hcs⟩ := (HA.out.below hE.below) j hlt
      have FC := Lib.hid (Keyword_any l[j] wr (HS.out _ (List.getElem_mem hlt)) (HM.out.ext hE))
      cases hb : kwB l[j] with
      | true =>
        rw [hb] at FC
        have HR := Lib.hid (show l.any kwB = true from List.any_eq_true.2 ⟨l[j], List.getElem_mem hlt, hb⟩)
        generalize l[j] = n at *
        clear hk hE hb
        go_wp2_with fail
        refine FC.out.mono ?_
        intro w1 hB1
        go_wp2
        go_ret
        exact ⟨Ext.trans HE.out hB1, .inr ⟨j, hlt, HR.out, rfl⟩⟩
      | false =>
        rw [hb] at FC
        have HR := Lib.hid (any_take hlt HK.out hb)
        generalize l[j] = n at *
        clear hk hE hb
        go_wp2_with fail
        refine FC.out.mono ?_
        intro w1 hB1
        go_wp2
        go_roundw
        case rel => exact ⟨j + 1, by omega, by go_num, HR.out, Ext.trans HE.out hB1⟩
        case measure => simp [intOf]; omega
    · obtain rfl : j = l.length := by omega
      have HR := Lib.hid (show l.any kwB = false by rw [← List.take_length (l := l)]; exact HK.out)
      clear hk hE
      go_wp2
      go_ret
      exact ⟨HE.out, .inl ⟨HR.out, rfl⟩⟩
set_option maxRecDepth 100000 in
set_option maxHeartbeats 1000000 in
theorem KwContains_any (l : List (List UInt8)) (x : Option Addr) (c : Nat) (w : World) (hA : StrsAt w x l) (hl : l.length ≤ 1000000000) (hs : ∀ s ∈ l, s.length ≤ 1000000) (hm : MaxL w) :
    Gives Tryz.prog 28 #[.slice x l.length c, .func (.func 25) #[] #[]] w (.bool (l.any kwB)) := by
  unfold Gives
  have K := Lib.hid (KwIndex_any l x c w hA hl hs hm)
  clear hA hs hm
  generalize l.any kwB = r at *
  generalize l.length = n at *
  go_enter Tryz.func28, Tryz.ntmps28
  go_wp2_with fail
  refine (show Calls _ _ _ _ _ from K.out).mono ?_
  rintro _ w1 ⟨hE, ⟨rfl, rfl⟩ | ⟨j, hj, rfl, rfl⟩⟩
  · have HE := Lib.hid hE
    clear hE
    go_wp2
    go_ret
    exact ⟨rfl, HE.out⟩
  · have HE := Lib.hid hE
    clear hE
    go_wp2
    go_ret
    exact ⟨rfl, HE.out⟩
end Go.Proofs.YtmokejjndkibhaaGreatDoor

