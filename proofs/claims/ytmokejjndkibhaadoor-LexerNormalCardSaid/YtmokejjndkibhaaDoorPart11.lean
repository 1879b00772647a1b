/- Lemmas and walks for the statements of this seat, part 11, merged from smaller texts: The reference's SameExpr.; The law of parentheses: a text in parentheses reads as the text does. -/
import Derived.Test.YtmokejjndkibhaaDoorPart10
import Derived.Test.YtmokejjndkibhaaDoorPart10

namespace Go.Proofs.YtmokejjndkibhaaDoor
open Go.RowKit Go.Shelf Ex
set_option linter.unusedVariables false
set_option linter.unusedSimpArgs false

theorem exZ_chk : exZ.chk = 8 := by decide +kernel
set_option maxRecDepth 100000 in
set_option maxHeartbeats 2000000 in
theorem zero_yes (p : Option Addr) (c : Nat) (w : World) : Gives Tryd.prog 25 #[.agg #[.int .i64 0, .int .i64 0, sV [], .int .i64 0, .slice p 0 c]] w (.bool true) := by
  unfold Gives
  go_enter Tryd.func25, Tryd.ntmps25
  go_wp2
  go_ret
  exact ⟨rfl, (Below.refl _ w).alloc (Nat.le_refl _) _⟩
set_option maxRecDepth 100000 in
set_option maxHeartbeats 2000000 in
theorem SameZ_any (p q : Option Addr) (c d : Nat) (w : World) : Gives Tryd.prog 9 #[.agg #[.int .i64 0, .int .i64 0, sV [], .int .i64 0, .slice p 0 c], .agg #[.int .i64 0, .int .i64 0, sV [], .int .i64 0, .slice q 0 d]] w (.bool true) := by
  unfold Gives
  obtain ⟨hb1, hb2, hE⟩ := two_boxes w (.int .i64 0) (.int .i64 0) (sV []) (.int .i64 0) (.slice p 0 c) (.int .i64 0) (.int .i64 0) (sV []) (.int .i64 0) (.slice q 0 d) tEx
  have Ka := Lib.hid hb1
  have Kb := Lib.hid hb2
  have HX := Lib.hid hE
  have KE := Lib.hid (fun W => (show Gives Tryd.prog 11 #[.agg #[.int .i64 0, .int .i64 0, sV [], .int .i64 0, .slice p 0 c], .agg #[.int .i64 0, .int .i64 0, sV [], .int .i64 0, .slice q 0 d]] W (.bool false) from by
    have := refEqualX_any exZ exZ p q c d W (exZ_at W p) (exZ_at W q)
    rw [exZ_chk] at this
    exact this))
  have KZ := Lib.hid (fun p c W => zero_yes p c W)
  have x0 := cell_of (i := 0) hb1 rfl
  have x1 := cell_of (i := 1) hb1 rfl
  have x2 := cell_of (i := 2) hb1 rfl
  have x3 := cell_of (i := 3) hb1 rfl
  have x4 := cell_of (i := 4) hb1 rfl
  have y0 := cell_of (i := 0) hb2 rfl
  have y1 := cell_of (i := 1) hb2 rfl
  have y2 := cell_of (i := 2) hb2 rfl
  have y3 := cell_of (i := 3) hb2 rfl
  have y4 := cell_of (i := 4) hb2 rfl
  clear hb1 hb2 hE
  go_enter Tryd.func9, Tryd.ntmps9
  go_wp2_with fail
  refine (KE.out _).mono ?_
  intro w1 hE
  have hk1 := (hE.block _ (lt_of_block Ka.out)).trans Ka.out
  have hk2 := (hE.block _ (lt_of_block Kb.out)).trans Kb.out
  have HX1 := Lib.hid (Ext.trans HX.out hE)
  have K1 := Lib.hid hk1
  have K2 := Lib.hid hk2
  clear hE x0 x1 x2 x3 x4 y0 y1 y2 y3 y4
  have x0 := cell_of (i := 0) hk1 rfl
  have x1 := cell_of (i := 1) hk1 rfl
  have x2 := cell_of (i := 2) hk1 rfl
  have x3 := cell_of (i := 3) hk1 rfl
  have x4 := cell_of (i := 4) hk1 rfl
  clear hk1 hk2
  go_wp2_with fail
  refine (KZ.out _ _ _).mono ?_
  intro w2 hE
  have hk2 := (hE.block _ (lt_of_block K2.out)).trans K2.out
  have HX2 := Lib.hid (Ext.trans HX1.out hE)
  clear hE x0 x1 x2 x3 x4
  have y0 := cell_of (i := 0) hk2 rfl
  have y1 := cell_of (i := 1) hk2 rfl
  have y2 := cell_of (i := 2) hk2 rfl
  have y3 := cell_of (i := 3) hk2 rfl
  have y4 := cell_of (i := 4) hk2 rfl
  clear hk2
  go_wp2_with fail
  refine (KZ.out _ _ _).mono ?_
  intro w3 hE
  have HX3 := Lib.hid (Ext.trans HX2.out hE)
  clear hE y0 y1 y2 y3 y4
  go_wp2
  go_ret
  exact ⟨rfl, HX3.out⟩
set_option maxRecDepth 100000 in
set_option maxHeartbeats 2000000 in
theorem SameX_any (x : Ex) (hx : x.chk = 0) (p q : Option Addr) (c d : Nat) (w : World) (hA : Ex.At w p x) (hB : Ex.At w q x) : Gives Tryd.prog 9 #[x.val p c, x.val q d] w (.bool true) := by
  unfold Gives
  have HX0 := Lib.hid hx
  have HA := Lib.hid hA
  have HB := Lib.hid hB
  clear hx hA hB
  obtain ⟨k1, o1, n1, v1, es⟩ := x
  dsimp only [Ex.val, Ex.kind, Ex.op, Ex.name, Ex.value, Ex.args]
  obtain ⟨m, hm⟩ : ∃ m, es.length = m := ⟨_, rfl⟩
  rw [hm]
  have HM := Lib.hid hm
  clear hm
  obtain ⟨hb1, hb2, hE⟩ := two_boxes w (.int .i64 k1) (.int .i64 o1) (sV n1) (.int .i64 v1) (.slice p m c) (.int .i64 k1) (.int .i64 o1) (sV n1) (.int .i64 v1) (.slice q m d) tEx
  have HX := Lib.hid hE
  have KE := Lib.hid (fun W (hW : Ext w W) => (show Gives Tryd.prog 11 #[.agg #[.int .i64 k1, .int .i64 o1, sV n1, .int .i64 v1, .slice p m c], .agg #[.int .i64 k1, .int .i64 o1, sV n1, .int .i64 v1, .slice q m d]] W (.bool true) from by
    have := refEqualX_any (.mk k1 o1 n1 v1 es) (.mk k1 o1 n1 v1 es) p q c d W (HA.out.below hW) (HB.out.below hW)
    rw [HX0.out, eqX_self] at this
    rw [← HM.out]
    exact this))
  have x0 := cell_of (i := 0) hb1 rfl
  have x1 := cell_of (i := 1) hb1 rfl
  have x2 := cell_of (i := 2) hb1 rfl
  have x3 := cell_of (i := 3) hb1 rfl
  have x4 := cell_of (i := 4) hb1 rfl
  have y0 := cell_of (i := 0) hb2 rfl
  have y1 := cell_of (i := 1) hb2 rfl
  have y2 := cell_of (i := 2) hb2 rfl
  have y3 := cell_of (i := 3) hb2 rfl
  have y4 := cell_of (i := 4) hb2 rfl
  clear hb1 hb2 hE
  go_enter Tryd.func9, Tryd.ntmps9
  go_wp2_with fail
  refine (KE.out _ HX.out).mono ?_
  intro w1 hE
  have HX1 := Lib.hid (Ext.trans HX.out hE)
  clear hE x0 x1 x2 x3 x4 y0 y1 y2 y3 y4
  go_wp2
  go_ret
  exact ⟨rfl, HX1.out⟩
end Go.Proofs.YtmokejjndkibhaaDoor

namespace Go.Proofs.YtmokejjndkibhaaDoor
open Go.RowKit Go.Shelf Ex
set_option linter.unusedVariables false
set_option linter.unusedSimpArgs false

theorem par_toks {s : List UInt8} (he : (toksR s).2.2 = 0) (hs : s.length ≤ 3990) : ∃ ts, (toksR s).1 = ts ++ [⟨0, [], 0, s.length⟩] ∧ (∀ t ∈ ts, t.kind ≠ 0) ∧
    toksR (40 :: (s ++ [10, 41])) = (⟨3, [40], 0, 0⟩ :: (ts.map (shT 1) ++ [⟨3, [41], 0, s.length + 2⟩, ⟨0, [], 0, s.length + 3⟩]), 0, 0) := by
  obtain ⟨_, _, ts0, hl0, _, hk0⟩ := toksR_form he
  have h := toksR_toks s (by omega)
  rw [he] at h
  have hX : (40 :: (s ++ [10, 41]) : List UInt8) = [40] ++ s ++ 10 :: [41] := by simp
  rw [hX]
  have hlen : ([40] ++ s ++ 10 :: [41] : List UInt8).length = s.length + 3 := by simp
  have hd2 : ([40] ++ s ++ 10 :: [41] : List UInt8).drop (s.length + 2) = [41] := by
    rw [List.drop_append, List.drop_eq_nil_of_le (by simp), List.nil_append]
    simp only [List.length_append, List.length_cons, List.length_nil]
    rw [show s.length + 2 - (0 + 1 + s.length) = 1 by omega]; rfl
  have b2 : blk ([40] ++ s ++ 10 :: [41]) (s.length + 2) = s.length + 2 := by
    unfold blk; rw [hd2]; rfl
  have b3 : blk ([40] ++ s ++ 10 :: [41]) (s.length + 3) = s.length + 3 := by
    unfold blk; rw [List.drop_eq_nil_of_le (by rw [hlen]; omega)]; rfl
  have hend : Toks ([40] ++ s ++ 10 :: [41]) (s.length + 3) [⟨0, [], 0, s.length + 3⟩] 0 0 := by
    have := Toks.fin (s := [40] ++ s ++ 10 :: [41]) (a := s.length + 3) (by rw [b3, hlen]; exact Nat.le_refl _)
    rw [hlen] at this
    exact this
  have hp : Toks ([40] ++ s ++ 10 :: [41]) (([40] : List UInt8).length + s.length + 1) [⟨3, [41], 0, s.length + 2⟩, ⟨0, [], 0, s.length + 3⟩] 0 0 := by
    have e1 : ([40] : List UInt8).length + s.length + 1 = s.length + 2 := by show 1 + s.length + 1 = _; omega
    rw [e1]
    refine .cons (by rw [b2, hlen]; omega) (by rw [b2, hd2]; rfl) ?_
    rw [b2]
    exact hend
  have hp0 : (toksR s).2.1 = 0 := (toksR_form he).2.1
  rw [hp0] at h
  obtain ⟨ts, h1, h2⟩ := h.inside [40] [41] rfl (Nat.zero_le _) hp
  have hts : ts = ts0 := by
    rw [hl0] at h1
    exact (List.append_cancel_right h1).symm
  refine ⟨ts, h1, by rw [hts]; exact fun t ht => (hk0 t ht).1, Toks.toksR (by rw [hlen]; omega) ?_⟩
  have b0 : blk ([40] ++ s ++ 10 :: [41]) 0 = 0 := by unfold blk; simp [skipB]
  have o0 : oneT (([40] ++ s ++ 10 :: [41]).drop 0) ((0 : Nat) : Int) = (⟨3, [40], 0, 0⟩, 0) := by
    have e : sgLen (([40] ++ s ++ 10 :: [41] : List UInt8)) = 1 := by
      show sgLen (40 :: (s ++ 10 :: [41])) = 1
      rw [sgLen_one (fun x hx => by
        have : ∀ x ∈ sg2, x.head? ≠ some 40 ∧ x ≠ [] := by decide
        have h := this x hx
        cases x with
        | nil => exact absurd rfl h.2
        | cons a x => have : ¬ a = 40 := fun e => h.1 (by rw [e]; rfl)
                      simp [List.isPrefixOf, this])]
      decide
    show oneT (40 :: (s ++ 10 :: [41])) 0 = _
    unfold oneT
    dsimp only
    rw [if_neg (by decide), if_neg (by decide)]
    have e' : sgLen (40 :: (s ++ 10 :: [41])) = 1 := e
    rw [e', if_neg (by decide)]
    rfl
  refine .cons (by rw [b0, hlen]; omega) (by rw [b0]; exact o0) ?_
  rw [b0]
  exact h2
theorem par_law {s : List UInt8} {r : Res} (hs : s.length ≤ 3990) (hR : (toksR s).2.2 = 0 → Rd (toksR s).1 (.bin 1) 0 r) (h0 : (psR s r).2.2 = 0) :
    ∃ r', Rd (toksR (40 :: (s ++ [10, 41]))).1 (.bin 1) 0 r' ∧ psR (40 :: (s ++ [10, 41])) r' = psR s r ∧ (psR s r).1.chk = 0 := by
  have he : (toksR s).2.2 = 0 := by
    by_cases h : (toksR s).2.2 = 0
    · exact h
    · unfold psR at h0; rw [if_pos h] at h0; exact absurd h0 h
  have hR := hR he
  obtain ⟨ts, h1, hk, h2⟩ := par_toks he hs
  have hps : psR s r = psL (toksR s).1 r := by unfold psR; rw [if_neg (by simp [he])]
  rw [hps] at h0 ⊢
  rw [h1] at hR h0 ⊢
  have hln : (ts ++ [⟨0, [], 0, (s.length : Int)⟩] : List Tk).length = ts.length + 1 := by simp
  have hst := hR.stop (m := ts.length) (by rw [hln]; omega) (by simp) (by decide) (Nat.zero_le _)
  cases r with
  | bad n => exact absurd (show (3 : Int) = 0 from h0) (by decide)
  | ok x n =>
    simp only [Res.end_] at hst
    unfold psL at h0 ⊢
    dsimp only at h0 ⊢
    by_cases hkd : ((ts ++ [⟨0, [], 0, (s.length : Int)⟩] : List Tk).getD n tk0).kind ≠ 0
    · rw [if_pos hkd] at h0; exact absurd (show (3 : Int) = 0 from h0) (by decide)
    · rw [if_neg hkd] at h0 ⊢
      by_cases hc : x.chk ≠ 0
      · rw [if_pos hc] at h0; exact absurd h0 hc
      · rw [if_neg hc]
        have hn : n = ts.length := by
          rcases Nat.lt_or_ge n ts.length with h | h
          · exfalso
            apply hkd
            rw [List.getD_eq_getElem?_getD, List.getElem?_append_left h, List.getElem?_eq_getElem h]
            exact hk _ (List.getElem_mem h)
          · omega
        subst hn
        refine ⟨.ok x (ts.length + 2), ?_, ?_, by simpa using hc⟩
        · rw [h2]
          dsimp only
          have hE : Emb (ts ++ [⟨0, [], 0, (s.length : Int)⟩]) (⟨3, [40], 0, 0⟩ :: (ts.map (shT 1) ++ [⟨3, [41], 0, s.length + 2⟩, ⟨0, [], 0, s.length + 3⟩])) 1 ts.length := fun i hi => by
            refine ⟨by rw [hln]; omega, by simp; omega, ?_⟩
            have e1 : (ts ++ [⟨0, [], 0, (s.length : Int)⟩] : List Tk)[i]'(by rw [hln]; omega) = ts[i] := by rw [List.getElem_append_left hi]
            have e2 : ((⟨3, [40], 0, 0⟩ :: (ts.map (shT 1) ++ [⟨3, [41], 0, s.length + 2⟩, ⟨0, [], 0, s.length + 3⟩])) : List Tk)[1 + i]'(by simp; omega) = shT 1 ts[i] := by
              simp only [show 1 + i = i + 1 by omega, List.getElem_cons_succ]
              rw [List.getElem_append_left (by simpa using hi), List.getElem_map]
            rw [e1, e2]
            exact ⟨rfl, rfl, rfl⟩
          have gm : ((⟨3, [40], 0, 0⟩ :: (ts.map (shT 1) ++ [⟨3, [41], 0, s.length + 2⟩, ⟨0, [], 0, s.length + 3⟩])) : List Tk)[1 + ts.length]? = some ⟨3, [41], 0, s.length + 2⟩ := by
            rw [show 1 + ts.length = ts.length + 1 by omega, List.getElem?_cons_succ, List.getElem?_append_right (by simp)]
            simp
          have gm2 : ((⟨3, [40], 0, 0⟩ :: (ts.map (shT 1) ++ [⟨3, [41], 0, s.length + 2⟩, ⟨0, [], 0, s.length + 3⟩])) : List Tk)[ts.length + 2]? = some ⟨0, [], 0, s.length + 3⟩ := by
            rw [List.getElem?_cons_succ, List.getElem?_append_right (by simp)]
            simp
          have ho : opAt (⟨3, [40], 0, 0⟩ :: (ts.map (shT 1) ++ [⟨3, [41], 0, s.length + 2⟩, ⟨0, [], 0, s.length + 3⟩])) (1 + ts.length) = opAt (ts ++ [⟨0, [], 0, (s.length : Int)⟩]) ts.length := by
            unfold opAt
            rw [gm, List.getElem?_append_right (Nat.le_refl _)]
            simp
            decide
          have hb := hR.emb hE ho rfl (by decide) (Nat.zero_le _) (Nat.le_refl _)
          rw [show ts.length + 2 = 1 + ts.length + 1 by omega]
          refine Rd.opd (p := 1) (by decide) (.par (j := 1 + ts.length) (by rfl) hb ?_) ?_
          · unfold sgB; rw [gm]; rfl
          · refine no_op (by decide) ?_
            unfold opAt
            rw [show 1 + ts.length + 1 = ts.length + 2 by omega, gm2]
            rfl
        · unfold psR
          rw [h2]
          dsimp only
          rw [if_neg (by decide)]
          unfold psL
          dsimp only
          have g : ((⟨3, [40], 0, 0⟩ :: (ts.map (shT 1) ++ [⟨3, [41], 0, s.length + 2⟩, ⟨0, [], 0, s.length + 3⟩])) : List Tk).getD (ts.length + 2) tk0 = ⟨0, [], 0, s.length + 3⟩ := by
            rw [List.getD_eq_getElem?_getD, List.getElem?_cons_succ, List.getElem?_append_right (by simp)]
            simp
          rw [g, if_neg (by show ¬ ((0 : Int) ≠ 0); decide), if_neg hc]
end Go.Proofs.YtmokejjndkibhaaDoor

