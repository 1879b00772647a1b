/- The reference's Verify (DRAFT). (With it: The reference's has, precedes, full.; The reference's free. Printed by mk_lnri.py.; The reference's checkCall of histories. Printed by mk_lnrj.py.; The reference's Check of histories: plain.; The reference's Check of histories, plain: calls of one task follow each other.; The reference's Check of histories. Printed by mk_lnrm.py.; The reference's check of a model and a history.; Plain: orders and sets, for the reference's Verify.; Plain: the states along an order, for the reference's Verify.) -/
import Derived.Test.YtmbkjccckmlacaaDoorHandR1
import Derived.Test.YtmbkjccckmlacaaDoorPart7

namespace Go.Proofs.YtmbkjccckmlacaaDoor
open Go.RowKit
set_option linter.unusedVariables false
set_option linter.unusedSimpArgs false

set_option maxHeartbeats 1000000 in
theorem refHas_any (l : List Int) (x : Int) (a : Option Addr) (cap : Nat) (w : World) (hl : l.length ≤ 1000000) (h : IntsAt w a l) :
    Gives Tryd.prog 44 #[.slice a l.length cap, .int .i64 x] w (.bool (decide (x ∈ l))) := by
  unfold Gives
  obtain ⟨R, hR⟩ : ∃ R, decide (x ∈ l) = R := ⟨_, rfl⟩
  rw [hR]
  have HR := Lib.hid hR.symm
  obtain ⟨n, hn⟩ : ∃ n, l.length = n := ⟨_, rfl⟩
  have HN := Lib.hid hn
  rw [hn] at hl ⊢
  clear hn hR
  go_enter Tryd.func44, Tryd.ntmps44
  go_wp2_with fail
  go_loopw [5] (fun i wr => ∃ j : Nat, j ≤ n ∧ i = .int .i64 j ∧ x ∉ l.take j ∧ Below w.heap.size w wr) (fun i _ => n - (intOf i).toNat)
  case atStart => exact ⟨0, Nat.zero_le _, rfl, by simp, Below.refl _ _⟩
  case round =>
    obtain ⟨j, hj, rfl, hA, hB⟩ := hrel
    have HA := Lib.hid hA
    have HB := Lib.hid hB
    clear hA hB
    by_cases hlt : j < n
    · have hjl : j < l.length := by rw [HN.out]; exact hlt
      obtain ⟨b, off, rfl, hc⟩ := (h.below HB.out).at hjl
      have HT := Lib.hid (take_mem (x := x) hjl)
      have HM := Lib.hid (show l[j] ∈ l from List.getElem_mem hjl)
      have hi0 : (0 : Int) ≤ (j : Int) := by omega
      have hi1 : (j : Int) < (n : Int) := by omega
      generalize l[j] = y at *
      by_cases hxy : y = x
      · have g1 : (y == x) = true := by simpa using hxy
        have HV := Lib.hid (show R = true by rw [HR.out, ← hxy]; exact decide_eq_true HM.out)
        clear hxy
        go_wp2
        go_ret
        exact ⟨by rw [HV.out]; rfl, HB.out⟩
      · have g1 : (y == x) = false := by simpa using hxy
        have HV := Lib.hid (show x ∉ l.take (j + 1) from fun h => by
          rcases HT.out.1 h with h | h
          · exact HA.out h
          · exact hxy h)
        clear hxy
        go_wp2
        exact ⟨⟨j + 1, by omega, by go_num, HV.out, HB.out⟩, by simp [intOf]; omega⟩
    · have hk : l.take j = l := List.take_of_length_le (by rw [HN.out]; omega)
      have HV := Lib.hid (show R = false by rw [HR.out, decide_eq_false_iff_not, ← hk]; exact HA.out)
      clear hk
      go_wp2
      go_ret
      exact ⟨by rw [HV.out]; rfl, HB.out⟩
/-- an operation's value -/
abbrev opV (x : Cl) : Value := .agg #[.int .i64 x.task, .int .i64 x.meth, .int .i64 x.arg, .int .i64 x.res, .int .i64 x.beg, .int .i64 x.en]
set_option maxRecDepth 100000 in
set_option maxHeartbeats 2000000 in
theorem refPrecedes_any (x y : Cl) (w : World) : Gives Tryd.prog 71 #[opV x, opV y] w (.bool (prc x y)) := by
  unfold Gives
  have HR := Lib.hid (show prc x y = decide (x.en ≠ -1 ∧ x.en < y.beg) from rfl)
  generalize prc x y = R at *
  obtain ⟨t1, m1, a1, r1, b1, e1⟩ := x
  obtain ⟨t2, m2, a2, r2, b2, e2⟩ := y
  dsimp only at HR
  unfold opV
  dsimp only
  have HX := Lib.hid (show Ext w ((w.alloc (.cells #[.int .i64 t1, .int .i64 m1, .int .i64 a1, .int .i64 r1, .int .i64 b1, .int .i64 e1] 48)).alloc (.cells #[.int .i64 t2, .int .i64 m2, .int .i64 a2, .int .i64 r2, .int .i64 b2, .int .i64 e2] 48)) from (ext_allocN w _).alloc (by simp) _)
  by_cases h1 : e1 = -1
  · have g1 : (e1 != -1) = false := by simpa using h1
    have HRv := Lib.hid (show R = false by rw [HR.out, h1]; rfl)
    clear h1
    go_enter Tryd.func71, Tryd.ntmps71
    go_wp2
    go_ret
    exact ⟨by rw [HRv.out]; rfl, HX.out⟩
  · have g1 : (e1 != -1) = true := by rw [bne_iff_ne]; exact h1
    have HRv := Lib.hid (show R = decide (e1 < b2) by rw [HR.out, decide_eq_decide]; exact ⟨fun h => h.2, fun h => ⟨h1, h⟩⟩)
    generalize hb : decide (e1 < b2) = bb at *
    clear h1
    go_enter Tryd.func71, Tryd.ntmps71
    go_wp2
    go_ret
    exact ⟨by rw [HRv.out]; rfl, HX.out⟩
/-- are all calls that are not pending in a list -/
def fullR (l : List Cl) (o : List Int) : Bool := (List.range l.length).all fun i => !mustF l i || decide ((i : Int) ∈ o)
theorem all_rg {f : Nat → Bool} {n j : Nat} (hj : j < n) (hf : f j = false) : (List.range n).all f = false := by
  cases h : (List.range n).all f with
  | false => rfl
  | true => have := List.all_eq_true.1 h j (List.mem_range.2 hj); rw [hf] at this; cases this
theorem all_rgs {f : Nat → Bool} {j : Nat} : (List.range (j + 1)).all f = ((List.range j).all f && f j) := by simp [List.range_succ]
set_option maxRecDepth 100000 in
set_option maxHeartbeats 2000000 in
theorem refFull_any (l : List Cl) (o : List Int) (a b : Option Addr) (c d : Nat) (w : World) (hl : l.length ≤ 1000) (ho : o.length ≤ 1000) (h : HsAt w a l) (hI : IntsAt w b o) :
    Gives Tryd.prog 46 #[.slice a l.length c, .slice b o.length d] w (.bool (fullR l o)) := by
  unfold Gives
  have HR := Lib.hid (show fullR l o = (List.range l.length).all fun i => !mustF l i || decide ((i : Int) ∈ o) from rfl)
  generalize fullR l o = R at *
  have HH := Lib.hid (fun W (hW : Ext w W) => h.ext hW)
  have KH := Lib.hid (fun W (hW : Ext w W) (x : Int) => refHas_any o x b d W (by omega) (hI.ext hW))
  obtain ⟨n, hn⟩ : ∃ n, l.length = n := ⟨_, rfl⟩
  have HN := Lib.hid hn
  rw [hn] at hl HR ⊢
  clear hn h hI
  generalize o.length = lo at *
  go_enter Tryd.func46, Tryd.ntmps46
  go_wp2_with fail
  go_loopw [5] (fun i wr => ∃ j : Nat, j ≤ n ∧ i = .int .i64 j ∧ ((List.range j).all fun i => !mustF l i || decide ((i : Int) ∈ o)) = true ∧ Ext w wr) (fun i _ => n - (intOf i).toNat)
  case atStart => exact ⟨0, Nat.zero_le _, rfl, rfl, Below.refl _ _⟩
  case round =>
    obtain ⟨j, hj, rfl, hA, hB⟩ := hrel
    have HA := Lib.hid hA
    have HB := Lib.hid hB
    clear hA hB
    by_cases hlt : j < n
    · have hjl : j < l.length := by rw [HN.out]; exact hlt
      obtain ⟨bb, off, rfl, x0, x1, x2, x3, x4, x5⟩ := (HH.out wr HB.out) j hjl
      have hi0 : (0 : Int) ≤ (j : Int) := by omega
      have hi1 : (j : Int) < (n : Int) := by omega
      have HF := Lib.hid (show mustF l j = decide (l[j].en ≠ -1) by unfold mustF; rw [List.getElem?_eq_getElem hjl])
      have HNO := Lib.hid (fun (hf : (!mustF l j || decide ((j : Int) ∈ o)) = false) => show R = false by rw [HR.out]; exact all_rg hlt hf)
      have HYE := Lib.hid (fun (hf : (!mustF l j || decide ((j : Int) ∈ o)) = true) => show ((List.range (j + 1)).all fun i => !mustF l i || decide ((i : Int) ∈ o)) = true by rw [all_rgs, HA.out, hf]; rfl)
      generalize l[j] = x at *
      obtain ⟨tk, me, ar, re, be, en⟩ := x
      dsimp only at *
      by_cases he : en = -1
      · have g1 : (en != -1) = false := by simpa using he
        have HY := Lib.hid (HYE.out (by rw [HF.out, he]; rfl))
        clear he
        go_wp2
        exact ⟨⟨j + 1, by omega, by go_num, HY.out, HB.out⟩, by simp [intOf]; omega⟩
      · have g1 : (en != -1) = true := by rw [bne_iff_ne]; exact he
        have hf1 : mustF l j = true := by rw [HF.out]; exact decide_eq_true he
        have C := Lib.hid (KH.out wr HB.out (j : Int))
        cases hin : decide ((j : Int) ∈ o) with
        | true =>
          rw [hin] at C
          have HY := Lib.hid (HYE.out (by rw [hin]; simp))
          clear he hin hf1
          go_wp2_with fail
          refine C.out.mono ?_
          intro w2 hE2
          have HE2 := Lib.hid (Ext.trans HB.out hE2)
          clear hE2
          go_wp2
          exact ⟨⟨j + 1, by omega, by go_num, HY.out, HE2.out⟩, by simp [intOf]; omega⟩
        | false =>
          rw [hin] at C
          have HV := Lib.hid (HNO.out (by rw [hin, hf1]; rfl))
          clear he hin hf1
          go_wp2_with fail
          refine C.out.mono ?_
          intro w2 hE2
          have HE2 := Lib.hid (Ext.trans HB.out hE2)
          clear hE2
          go_wp2
          go_ret
          exact ⟨by rw [HV.out]; rfl, HE2.out⟩
    · have hjl : n = j := by omega
      subst hjl
      have HV := Lib.hid (show R = true by rw [HR.out]; exact HA.out)
      go_wp2
      go_ret
      exact ⟨by rw [HV.out]; rfl, HB.out⟩
end Go.Proofs.YtmbkjccckmlacaaDoor

namespace Go.Proofs.YtmbkjccckmlacaaDoor
open Go.RowKit
set_option linter.unusedVariables false
set_option linter.unusedSimpArgs false

theorem wanted_of {l : List Oper} {a' : Act} {o : Oper} {j : Nat} {g v : Bool} (hg : o.guard = some (j, g)) (hv : sv l a' j = .bool v) : Region.wanted o (yielded l.toArray a'.tmps) = (v == g) := by
  unfold sv at hv
  have hy : yielded l.toArray a'.tmps j = some v := by
    unfold yielded
    cases hd : (l[j]?).bind (·.dst) with
    | none => rw [hd] at hv; cases hv
    | some d =>
      rw [hd] at hv
      dsimp only at hv
      have h1 : a'.tmps[d]? = some (.bool v) := by
        cases ht : a'.tmps[d]? with
        | none => simp [Array.getD_eq_getD_getElem?, ht] at hv; cases hv
        | some x => simp [Array.getD_eq_getD_getElem?, ht] at hv; rw [hv]
      have h2 : (l.toArray[j]?).bind (·.dst) = some d := by simpa using hd
      rw [h2]
      simp [h1]
  simp [Region.wanted, hg, hy]
theorem GoesG.valueW {P : Program} {l : List Oper} {R : World → World → Prop} {Φ : Nat → (Nat → Value) → World → Prop} {i : Nat} {o : Oper} {a' : Act} {W W' : World} {Q : Exit → Act → World → Prop} (v : Value) (j : Nat) (g b : Bool) (hg : o.guard = some (j, g)) (hv : sv l a' j = .bool b) (hbg : (b == g) = true) (hrun : (execOp a'.eval o).run P W = .ok (.value v) W') (hR : R W W')
    (hΦ : ∀ s : Nat → Value, (o.dst.isSome = true → s i = v) → (∀ k, k ≠ i → ancB l l.length i k = true → s k = sv l a' k) → Φ i s W') : GoesG P l R Φ i o a' W Q := by
  unfold GoesG
  rw [if_pos (by rw [wanted_of hg hv, hbg])]
  unfold Oper.wp
  rw [hrun]
  exact ⟨v, rfl, hR, hΦ⟩
theorem GoesG.skipW {P : Program} {l : List Oper} {R : World → World → Prop} {Φ : Nat → (Nat → Value) → World → Prop} {i : Nat} {o : Oper} {a' : Act} {W : World} {Q : Exit → Act → World → Prop} (j : Nat) (g b : Bool) (hg : o.guard = some (j, g)) (hv : sv l a' j = .bool b) (hbg : (b == g) = false) (hR : R W W)
    (hΦ : ∀ s : Nat → Value, Φ i s W) : GoesG P l R Φ i o a' W Q := by
  unfold GoesG
  rw [if_neg (by rw [wanted_of hg hv, hbg]; simp)]
  exact ⟨hR, fun s _ _ => hΦ s⟩

/-- are all calls that precede a call in a list -/
def freeR (l : List Cl) (o : List Int) (k : Nat) : Bool := (List.range l.length).all fun i => !befF l k i || decide ((i : Int) ∈ o)
set_option maxRecDepth 100000 in
set_option maxHeartbeats 4000000 in
theorem refFree_any (l : List Cl) (o : List Int) (kk : Nat) (a b : Option Addr) (c d : Nat) (w : World) (hk : kk < l.length) (hl : l.length ≤ 1000) (ho : o.length ≤ 1000) (h : HsAt w a l) (hI : IntsAt w b o) :
    Gives Tryd.prog 47 #[.slice a l.length c, .slice b o.length d, .int .i64 (kk : Int)] w (.bool (freeR l o kk)) := by
  unfold Gives
  have HR := Lib.hid (show freeR l o kk = (List.range l.length).all fun i => !befF l kk i || decide ((i : Int) ∈ o) from rfl)
  generalize freeR l o kk = R at *
  obtain ⟨ba, oa, hab, -⟩ := h kk hk
  subst hab
  have HH := Lib.hid (fun i (hi : i < l.length) W (hW : Ext w W) => show Cl.cells W ba (oa + i * 6) l[i] from by
    obtain ⟨b', o', e', hc'⟩ := (h.ext hW) i hi
    cases e'
    exact hc')
  have HCY := Lib.hid (HH.out kk hk)
  have KH := Lib.hid (fun W (hW : Ext w W) (x : Int) => refHas_any o x b d W (by omega) (hI.ext hW))
  obtain ⟨n, hn⟩ : ∃ n, l.length = n := ⟨_, rfl⟩
  have HN := Lib.hid hn
  have hkn : kk < n := by omega
  rw [hn] at hl HR ⊢
  clear hn h hI
  generalize o.length = lo at *
  have HKY := Lib.hid (fun (x : Cl) W => refPrecedes_any x l[kk] W)
  have HPF := Lib.hid (fun i (hi : i < l.length) => befF_at hi hk)
  generalize l[kk] = y at *
  obtain ⟨tk2, me2, ar2, re2, be2, en2⟩ := y
  have hk0 : (0 : Int) ≤ (kk : Int) := by omega
  have hk1 : (kk : Int) < (n : Int) := by omega
  go_enter Tryd.func47, Tryd.ntmps47
  go_wp2_with fail
  go_loopw [7] (fun i wr => ∃ j : Nat, j ≤ n ∧ i = .int .i64 j ∧ ((List.range j).all fun i => !befF l kk i || decide ((i : Int) ∈ o)) = true ∧ Ext w wr) (fun i _ => n - (intOf i).toNat)
  case atStart => exact ⟨0, Nat.zero_le _, rfl, rfl, Below.refl _ _⟩
  case round =>
    obtain ⟨j, hj, rfl, hA, hB⟩ := hrel
    have HA := Lib.hid hA
    have HB := Lib.hid hB
    clear hA hB
    by_cases hlt : j < n
    · have hjl : j < l.length := by rw [HN.out]; exact hlt
      have hi0 : (0 : Int) ≤ (j : Int) := by omega
      have hi1 : (j : Int) < (n : Int) := by omega
      have HCX := Lib.hid (HH.out j hjl)
      have hbf := HPF.out j hjl
      have HNO := Lib.hid (fun (hf : (!befF l kk j || decide ((j : Int) ∈ o)) = false) => show R = false by rw [HR.out]; exact all_rg hlt hf)
      have HYE := Lib.hid (fun (hf : (!befF l kk j || decide ((j : Int) ∈ o)) = true) => show ((List.range (j + 1)).all fun i => !befF l kk i || decide ((i : Int) ∈ o)) = true by rw [all_rgs, HA.out, hf]; rfl)
      have KPr := Lib.hid (HKY.out l[j])
      rw [← hbf] at KPr
      generalize l[j] = x at *
      obtain ⟨tk, me, ar, re, be, en⟩ := x
      unfold Cl.cells at HCX HCY
      unfold opV at KPr
      dsimp only at *
      clear hbf
      cases hp : befF l kk j with
      | true =>
        rw [hp] at KPr HNO HYE
        clear hp
        go_wp2_with fail
        refine wp_region_tail (l1 := [_, _, _, _, _, _, _, _, _, _, _, _]) (l2 := [_, _, _]) (by kernel_rfl) Ext (fun W => Below.refl _ W) (fun W => show Below W.heap.size W { W with drawn := W.drawn + 1 } from ⟨rfl, rfl, rfl, Nat.le_refl _, fun _ _ => rfl⟩) Ext.trans
          (fun i s W => match i with
            | 0 => s 0 = .slice (some ⟨ba, oa, none⟩) n c
            | 1 => s 1 = .int .i64 (j : Int)
            | 2 => s 2 = .pointer (some ⟨ba, oa + j * 6, none⟩)
            | 3 => s 3 = .agg #[.int .i64 tk, .int .i64 me, .int .i64 ar, .int .i64 re, .int .i64 be, .int .i64 en]
            | 4 => s 4 = .slice (some ⟨ba, oa, none⟩) n c
            | 5 => s 5 = .int .i64 (kk : Int)
            | 6 => s 6 = .pointer (some ⟨ba, oa + kk * 6, none⟩)
            | 7 => s 7 = .agg #[.int .i64 tk2, .int .i64 me2, .int .i64 ar2, .int .i64 re2, .int .i64 be2, .int .i64 en2]
            | 8 => s 8 = .bool true
            | 9 => s 9 = .bool true
            | 10 => s 10 = .slice b lo d
            | 11 => s 11 = .int .i64 (j : Int)
            | _ => True)
          (fun i => [i])
          (by
            intro i s s' W W' h hs hE
            have hs := hs i (by simp)
            match i, h, hs with
            | 0, h, hs => exact hs.trans h
            | 1, h, hs => exact hs.trans h
            | 2, h, hs => exact hs.trans h
            | 3, h, hs => exact hs.trans h
            | 4, h, hs => exact hs.trans h
            | 5, h, hs => exact hs.trans h
            | 6, h, hs => exact hs.trans h
            | 7, h, hs => exact hs.trans h
            | 8, h, hs => exact hs.trans h
            | 9, h, hs => exact hs.trans h
            | 10, h, hs => exact hs.trans h
            | 11, h, hs => exact hs.trans h
            | i + 12, h, hs => exact trivial)
          (by kernel_rfl) (by kernel_rfl) (by kernel_rfl) 29 rfl (by kernel_rfl) (by kernel_rfl) ?_ ?_
        · intro i op ho a' W hA
          obtain ⟨x0, x1, x2, x3, x4, x5⟩ := HCX.out W (Ext.trans HB.out hA.rel)
          obtain ⟨z0, z1, z2, z3, z4, z5⟩ := HCY.out W (Ext.trans HB.out hA.rel)
          match i, ho with
          | 0, ho =>
            obtain rfl := Option.some.inj ho
            have e1 : a'.eval (.tmp 0) = .slice (some ⟨ba, oa, none⟩) n c := hA.keep 0 (by kernel_rfl)
            refine GoesG.value (.slice (some ⟨ba, oa, none⟩) n c) rfl ?_ (Below.refl _ _) (fun s h1 h2 => h1 rfl)
            simp only [execOp, e1]
            simp [go_sem, x0, x1, x2, x3, x4, x5, z0, z1, z2, z3, z4, z5, hi0, hi1, hk0, hk1]
          | 1, ho =>
            obtain rfl := Option.some.inj ho
            have e1 : a'.eval (.tmp 7) = .int .i64 (j : Int) := hA.keep 7 (by kernel_rfl)
            refine GoesG.value (.int .i64 (j : Int)) rfl ?_ (Below.refl _ _) (fun s h1 h2 => h1 rfl)
            simp only [execOp, e1]
            simp [go_sem, x0, x1, x2, x3, x4, x5, z0, z1, z2, z3, z4, z5, hi0, hi1, hk0, hk1]
          | 2, ho =>
            obtain rfl := Option.some.inj ho
            have e1 : a'.eval (.tmp 14) = .slice (some ⟨ba, oa, none⟩) n c := (sv_dst (l := _) rfl).symm.trans (hA.new 0 (by decide) (by kernel_rfl))
            have e2 : a'.eval (.tmp 15) = .int .i64 (j : Int) := (sv_dst (l := _) rfl).symm.trans (hA.new 1 (by decide) (by kernel_rfl))
            refine GoesG.value (.pointer (some ⟨ba, oa + j * 6, none⟩)) rfl ?_ (Below.refl _ _) (fun s h1 h2 => h1 rfl)
            simp only [execOp, e1, e2]
            simp [go_sem, x0, x1, x2, x3, x4, x5, z0, z1, z2, z3, z4, z5, hi0, hi1, hk0, hk1]
          | 3, ho =>
            obtain rfl := Option.some.inj ho
            have e1 : a'.eval (.tmp 16) = .pointer (some ⟨ba, oa + j * 6, none⟩) := (sv_dst (l := _) rfl).symm.trans (hA.new 2 (by decide) (by kernel_rfl))
            refine GoesG.value (.agg #[.int .i64 tk, .int .i64 me, .int .i64 ar, .int .i64 re, .int .i64 be, .int .i64 en]) rfl ?_ (Below.refl _ _) (fun s h1 h2 => h1 rfl)
            simp only [execOp, e1]
            simp [go_sem, x0, x1, x2, x3, x4, x5, z0, z1, z2, z3, z4, z5, hi0, hi1, hk0, hk1]
          | 4, ho =>
            obtain rfl := Option.some.inj ho
            have e1 : a'.eval (.tmp 0) = .slice (some ⟨ba, oa, none⟩) n c := hA.keep 0 (by kernel_rfl)
            refine GoesG.value (.slice (some ⟨ba, oa, none⟩) n c) rfl ?_ (Below.refl _ _) (fun s h1 h2 => h1 rfl)
            simp only [execOp, e1]
            simp [go_sem, x0, x1, x2, x3, x4, x5, z0, z1, z2, z3, z4, z5, hi0, hi1, hk0, hk1]
          | 5, ho =>
            obtain rfl := Option.some.inj ho
            have e1 : a'.eval (.tmp 2) = .int .i64 (kk : Int) := hA.keep 2 (by kernel_rfl)
            refine GoesG.value (.int .i64 (kk : Int)) rfl ?_ (Below.refl _ _) (fun s h1 h2 => h1 rfl)
            simp only [execOp, e1]
            simp [go_sem, x0, x1, x2, x3, x4, x5, z0, z1, z2, z3, z4, z5, hi0, hi1, hk0, hk1]
          | 6, ho =>
            obtain rfl := Option.some.inj ho
            have e1 : a'.eval (.tmp 18) = .slice (some ⟨ba, oa, none⟩) n c := (sv_dst (l := _) rfl).symm.trans (hA.new 4 (by decide) (by kernel_rfl))
            have e2 : a'.eval (.tmp 19) = .int .i64 (kk : Int) := (sv_dst (l := _) rfl).symm.trans (hA.new 5 (by decide) (by kernel_rfl))
            refine GoesG.value (.pointer (some ⟨ba, oa + kk * 6, none⟩)) rfl ?_ (Below.refl _ _) (fun s h1 h2 => h1 rfl)
            simp only [execOp, e1, e2]
            simp [go_sem, x0, x1, x2, x3, x4, x5, z0, z1, z2, z3, z4, z5, hi0, hi1, hk0, hk1]
          | 7, ho =>
            obtain rfl := Option.some.inj ho
            have e1 : a'.eval (.tmp 20) = .pointer (some ⟨ba, oa + kk * 6, none⟩) := (sv_dst (l := _) rfl).symm.trans (hA.new 6 (by decide) (by kernel_rfl))
            refine GoesG.value (.agg #[.int .i64 tk2, .int .i64 me2, .int .i64 ar2, .int .i64 re2, .int .i64 be2, .int .i64 en2]) rfl ?_ (Below.refl _ _) (fun s h1 h2 => h1 rfl)
            simp only [execOp, e1]
            simp [go_sem, x0, x1, x2, x3, x4, x5, z0, z1, z2, z3, z4, z5, hi0, hi1, hk0, hk1]
          | 8, ho =>
            obtain rfl := Option.some.inj ho
            have e1 : a'.eval (.tmp 17) = .agg #[.int .i64 tk, .int .i64 me, .int .i64 ar, .int .i64 re, .int .i64 be, .int .i64 en] := (sv_dst (l := _) rfl).symm.trans (hA.new 3 (by decide) (by kernel_rfl))
            have e2 : a'.eval (.tmp 21) = .agg #[.int .i64 tk2, .int .i64 me2, .int .i64 ar2, .int .i64 re2, .int .i64 be2, .int .i64 en2] := (sv_dst (l := _) rfl).symm.trans (hA.new 7 (by decide) (by kernel_rfl))
            refine GoesG.call 71 #[.agg #[.int .i64 tk, .int .i64 me, .int .i64 ar, .int .i64 re, .int .i64 be, .int .i64 en], .agg #[.int .i64 tk2, .int .i64 me2, .int .i64 ar2, .int .i64 re2, .int .i64 be2, .int .i64 en2]] rfl ?_ ?_
            · have en := enters_fn Tryd.func71 (by kernel_rfl) rfl
              simp [Act.eval] at e1 e2
              simp [execOp, go_sem, e1, e2, en]
            · refine (KPr.out W).mono ?_
              intro W2 hE
              exact ⟨_, rfl, hE, fun s g1 g2 => g1 rfl⟩
          | 9, ho =>
            obtain rfl := Option.some.inj ho
            have e1 : a'.eval (.tmp 22) = .bool true := (sv_dst (l := _) rfl).symm.trans (hA.new 8 (by decide) (by kernel_rfl))
            refine GoesG.value (.bool true) rfl ?_ (Below.refl _ _) (fun s h1 h2 => h1 rfl)
            simp only [execOp, e1]
            simp [go_sem, x0, x1, x2, x3, x4, x5, z0, z1, z2, z3, z4, z5, hi0, hi1, hk0, hk1]
          | 10, ho =>
            obtain rfl := Option.some.inj ho
            have hg := hA.new 9 (by decide) (by kernel_rfl)
            have e1 : a'.eval (.tmp 1) = .slice b lo d := hA.keep 1 (by kernel_rfl)
            refine GoesG.valueW (.slice b lo d) 9 true true rfl hg rfl ?_ (Below.refl _ _) (fun s h1 h2 => h1 rfl)
            simp only [execOp, e1]
            simp [go_sem, x0, x1, x2, x3, x4, x5, z0, z1, z2, z3, z4, z5, hi0, hi1, hk0, hk1]
          | 11, ho =>
            obtain rfl := Option.some.inj ho
            have hg := hA.new 9 (by decide) (by kernel_rfl)
            have e1 : a'.eval (.tmp 7) = .int .i64 (j : Int) := hA.keep 7 (by kernel_rfl)
            refine GoesG.valueW (.int .i64 (j : Int)) 9 true true rfl hg rfl ?_ (Below.refl _ _) (fun s h1 h2 => h1 rfl)
            simp only [execOp, e1]
            simp [go_sem, x0, x1, x2, x3, x4, x5, z0, z1, z2, z3, z4, z5, hi0, hi1, hk0, hk1]
          | i + 12, ho => cases ho
        · intro vs w4 hvs hG hΦ
          obtain ⟨y0, y1, y2, y3, y4, y5, y6, y7, y8, y9, y10, y11, rfl⟩ : ∃ y0 y1 y2 y3 y4 y5 y6 y7 y8 y9 y10 y11, vs = y0 :: y1 :: y2 :: y3 :: y4 :: y5 :: y6 :: y7 :: y8 :: y9 :: y10 :: y11 :: [] := by
            match vs, hvs with
            | y0 :: y1 :: y2 :: y3 :: y4 :: y5 :: y6 :: y7 :: y8 :: y9 :: y10 :: y11 :: [], _ => exact ⟨y0, y1, y2, y3, y4, y5, y6, y7, y8, y9, y10, y11, rfl⟩
          have e0 : y0 = .slice (some ⟨ba, oa, none⟩) n c := hΦ 0 (by decide)
          subst e0
          have e1 : y1 = .int .i64 (j : Int) := hΦ 1 (by decide)
          subst e1
          have e2 : y2 = .pointer (some ⟨ba, oa + j * 6, none⟩) := hΦ 2 (by decide)
          subst e2
          have e3 : y3 = .agg #[.int .i64 tk, .int .i64 me, .int .i64 ar, .int .i64 re, .int .i64 be, .int .i64 en] := hΦ 3 (by decide)
          subst e3
          have e4 : y4 = .slice (some ⟨ba, oa, none⟩) n c := hΦ 4 (by decide)
          subst e4
          have e5 : y5 = .int .i64 (kk : Int) := hΦ 5 (by decide)
          subst e5
          have e6 : y6 = .pointer (some ⟨ba, oa + kk * 6, none⟩) := hΦ 6 (by decide)
          subst e6
          have e7 : y7 = .agg #[.int .i64 tk2, .int .i64 me2, .int .i64 ar2, .int .i64 re2, .int .i64 be2, .int .i64 en2] := hΦ 7 (by decide)
          subst e7
          have e8 : y8 = .bool true := hΦ 8 (by decide)
          subst e8
          have e9 : y9 = .bool true := hΦ 9 (by decide)
          subst e9
          have e10 : y10 = .slice b lo d := hΦ 10 (by decide)
          subst e10
          have e11 : y11 = .int .i64 (j : Int) := hΦ 11 (by decide)
          subst e11
          clear hΦ hvs
          simp only [putAll, Act.put, List.setIfInBounds_toArray, List.set_cons_succ, List.set_cons_zero]
          have HE4 := Lib.hid (Ext.trans HB.out (show Ext wr w4 from hG))
          clear hG
          have C := Lib.hid (KH.out w4 HE4.out (j : Int))
          cases hin : decide ((j : Int) ∈ o) with
          | true =>
            rw [hin] at C
            have HY := Lib.hid (HYE.out (by rw [hin]; rfl))
            clear hin
            go_wp2_with fail
            refine C.out.mono ?_
            intro w5 hE5
            have HE5 := Lib.hid (Ext.trans HE4.out hE5)
            clear hE5
            go_wp2
            exact ⟨⟨j + 1, by omega, by go_num, HY.out, HE5.out⟩, by simp [intOf]; omega⟩
          | false =>
            rw [hin] at C
            have HV := Lib.hid (HNO.out (by rw [hin]; rfl))
            clear hin
            go_wp2_with fail
            refine C.out.mono ?_
            intro w5 hE5
            have HE5 := Lib.hid (Ext.trans HE4.out hE5)
            clear hE5
            go_wp2
            go_ret
            exact ⟨by rw [HV.out]; rfl, HE5.out⟩
      | false =>
        have HY := Lib.hid (HYE.out (by rw [hp]; rfl))
        rw [hp] at KPr
        clear hp
        go_wp2_with fail
        refine wp_region_tail (l1 := [_, _, _, _, _, _, _, _, _, _, _, _]) (l2 := [_, _, _]) (by kernel_rfl) Ext (fun W => Below.refl _ W) (fun W => show Below W.heap.size W { W with drawn := W.drawn + 1 } from ⟨rfl, rfl, rfl, Nat.le_refl _, fun _ _ => rfl⟩) Ext.trans
          (fun i s W => match i with
            | 0 => s 0 = .slice (some ⟨ba, oa, none⟩) n c
            | 1 => s 1 = .int .i64 (j : Int)
            | 2 => s 2 = .pointer (some ⟨ba, oa + j * 6, none⟩)
            | 3 => s 3 = .agg #[.int .i64 tk, .int .i64 me, .int .i64 ar, .int .i64 re, .int .i64 be, .int .i64 en]
            | 4 => s 4 = .slice (some ⟨ba, oa, none⟩) n c
            | 5 => s 5 = .int .i64 (kk : Int)
            | 6 => s 6 = .pointer (some ⟨ba, oa + kk * 6, none⟩)
            | 7 => s 7 = .agg #[.int .i64 tk2, .int .i64 me2, .int .i64 ar2, .int .i64 re2, .int .i64 be2, .int .i64 en2]
            | 8 => s 8 = .bool false
            | 9 => s 9 = .bool false
            | 10 => True
            | 11 => True
            | _ => True)
          (fun i => [i])
          (by
            intro i s s' W W' h hs hE
            have hs := hs i (by simp)
            match i, h, hs with
            | 0, h, hs => exact hs.trans h
            | 1, h, hs => exact hs.trans h
            | 2, h, hs => exact hs.trans h
            | 3, h, hs => exact hs.trans h
            | 4, h, hs => exact hs.trans h
            | 5, h, hs => exact hs.trans h
            | 6, h, hs => exact hs.trans h
            | 7, h, hs => exact hs.trans h
            | 8, h, hs => exact hs.trans h
            | 9, h, hs => exact hs.trans h
            | 10, h, hs => exact trivial
            | 11, h, hs => exact trivial
            | i + 12, h, hs => exact trivial)
          (by kernel_rfl) (by kernel_rfl) (by kernel_rfl) 29 rfl (by kernel_rfl) (by kernel_rfl) ?_ ?_
        · intro i op ho a' W hA
          obtain ⟨x0, x1, x2, x3, x4, x5⟩ := HCX.out W (Ext.trans HB.out hA.rel)
          obtain ⟨z0, z1, z2, z3, z4, z5⟩ := HCY.out W (Ext.trans HB.out hA.rel)
          match i, ho with
          | 0, ho =>
            obtain rfl := Option.some.inj ho
            have e1 : a'.eval (.tmp 0) = .slice (some ⟨ba, oa, none⟩) n c := hA.keep 0 (by kernel_rfl)
            refine GoesG.value (.slice (some ⟨ba, oa, none⟩) n c) rfl ?_ (Below.refl _ _) (fun s h1 h2 => h1 rfl)
            simp only [execOp, e1]
            simp [go_sem, x0, x1, x2, x3, x4, x5, z0, z1, z2, z3, z4, z5, hi0, hi1, hk0, hk1]
          | 1, ho =>
            obtain rfl := Option.some.inj ho
            have e1 : a'.eval (.tmp 7) = .int .i64 (j : Int) := hA.keep 7 (by kernel_rfl)
            refine GoesG.value (.int .i64 (j : Int)) rfl ?_ (Below.refl _ _) (fun s h1 h2 => h1 rfl)
            simp only [execOp, e1]
            simp [go_sem, x0, x1, x2, x3, x4, x5, z0, z1, z2, z3, z4, z5, hi0, hi1, hk0, hk1]
          | 2, ho =>
            obtain rfl := Option.some.inj ho
            have e1 : a'.eval (.tmp 14) = .slice (some ⟨ba, oa, none⟩) n c := (sv_dst (l := _) rfl).symm.trans (hA.new 0 (by decide) (by kernel_rfl))
            have e2 : a'.eval (.tmp 15) = .int .i64 (j : Int) := (sv_dst (l := _) rfl).symm.trans (hA.new 1 (by decide) (by kernel_rfl))
            refine GoesG.value (.pointer (some ⟨ba, oa + j * 6, none⟩)) rfl ?_ (Below.refl _ _) (fun s h1 h2 => h1 rfl)
            simp only [execOp, e1, e2]
            simp [go_sem, x0, x1, x2, x3, x4, x5, z0, z1, z2, z3, z4, z5, hi0, hi1, hk0, hk1]
          | 3, ho =>
            obtain rfl := Option.some.inj ho
            have e1 : a'.eval (.tmp 16) = .pointer (some ⟨ba, oa + j * 6, none⟩) := (sv_dst (l := _) rfl).symm.trans (hA.new 2 (by decide) (by kernel_rfl))
            refine GoesG.value (.agg #[.int .i64 tk, .int .i64 me, .int .i64 ar, .int .i64 re, .int .i64 be, .int .i64 en]) rfl ?_ (Below.refl _ _) (fun s h1 h2 => h1 rfl)
            simp only [execOp, e1]
            simp [go_sem, x0, x1, x2, x3, x4, x5, z0, z1, z2, z3, z4, z5, hi0, hi1, hk0, hk1]
          | 4, ho =>
            obtain rfl := Option.some.inj ho
            have e1 : a'.eval (.tmp 0) = .slice (some ⟨ba, oa, none⟩) n c := hA.keep 0 (by kernel_rfl)
            refine GoesG.value (.slice (some ⟨ba, oa, none⟩) n c) rfl ?_ (Below.refl _ _) (fun s h1 h2 => h1 rfl)
            simp only [execOp, e1]
            simp [go_sem, x0, x1, x2, x3, x4, x5, z0, z1, z2, z3, z4, z5, hi0, hi1, hk0, hk1]
          | 5, ho =>
            obtain rfl := Option.some.inj ho
            have e1 : a'.eval (.tmp 2) = .int .i64 (kk : Int) := hA.keep 2 (by kernel_rfl)
            refine GoesG.value (.int .i64 (kk : Int)) rfl ?_ (Below.refl _ _) (fun s h1 h2 => h1 rfl)
            simp only [execOp, e1]
            simp [go_sem, x0, x1, x2, x3, x4, x5, z0, z1, z2, z3, z4, z5, hi0, hi1, hk0, hk1]
          | 6, ho =>
            obtain rfl := Option.some.inj ho
            have e1 : a'.eval (.tmp 18) = .slice (some ⟨ba, oa, none⟩) n c := (sv_dst (l := _) rfl).symm.trans (hA.new 4 (by decide) (by kernel_rfl))
            have e2 : a'.eval (.tmp 19) = .int .i64 (kk : Int) := (sv_dst (l := _) rfl).symm.trans (hA.new 5 (by decide) (by kernel_rfl))
            refine GoesG.value (.pointer (some ⟨ba, oa + kk * 6, none⟩)) rfl ?_ (Below.refl _ _) (fun s h1 h2 => h1 rfl)
            simp only [execOp, e1, e2]
            simp [go_sem, x0, x1, x2, x3, x4, x5, z0, z1, z2, z3, z4, z5, hi0, hi1, hk0, hk1]
          | 7, ho =>
            obtain rfl := Option.some.inj ho
            have e1 : a'.eval (.tmp 20) = .pointer (some ⟨ba, oa + kk * 6, none⟩) := (sv_dst (l := _) rfl).symm.trans (hA.new 6 (by decide) (by kernel_rfl))
            refine GoesG.value (.agg #[.int .i64 tk2, .int .i64 me2, .int .i64 ar2, .int .i64 re2, .int .i64 be2, .int .i64 en2]) rfl ?_ (Below.refl _ _) (fun s h1 h2 => h1 rfl)
            simp only [execOp, e1]
            simp [go_sem, x0, x1, x2, x3, x4, x5, z0, z1, z2, z3, z4, z5, hi0, hi1, hk0, hk1]
          | 8, ho =>
            obtain rfl := Option.some.inj ho
            have e1 : a'.eval (.tmp 17) = .agg #[.int .i64 tk, .int .i64 me, .int .i64 ar, .int .i64 re, .int .i64 be, .int .i64 en] := (sv_dst (l := _) rfl).symm.trans (hA.new 3 (by decide) (by kernel_rfl))
            have e2 : a'.eval (.tmp 21) = .agg #[.int .i64 tk2, .int .i64 me2, .int .i64 ar2, .int .i64 re2, .int .i64 be2, .int .i64 en2] := (sv_dst (l := _) rfl).symm.trans (hA.new 7 (by decide) (by kernel_rfl))
            refine GoesG.call 71 #[.agg #[.int .i64 tk, .int .i64 me, .int .i64 ar, .int .i64 re, .int .i64 be, .int .i64 en], .agg #[.int .i64 tk2, .int .i64 me2, .int .i64 ar2, .int .i64 re2, .int .i64 be2, .int .i64 en2]] rfl ?_ ?_
            · have en := enters_fn Tryd.func71 (by kernel_rfl) rfl
              simp [Act.eval] at e1 e2
              simp [execOp, go_sem, e1, e2, en]
            · refine (KPr.out W).mono ?_
              intro W2 hE
              exact ⟨_, rfl, hE, fun s g1 g2 => g1 rfl⟩
          | 9, ho =>
            obtain rfl := Option.some.inj ho
            have e1 : a'.eval (.tmp 22) = .bool false := (sv_dst (l := _) rfl).symm.trans (hA.new 8 (by decide) (by kernel_rfl))
            refine GoesG.value (.bool false) rfl ?_ (Below.refl _ _) (fun s h1 h2 => h1 rfl)
            simp only [execOp, e1]
            simp [go_sem, x0, x1, x2, x3, x4, x5, z0, z1, z2, z3, z4, z5, hi0, hi1, hk0, hk1]
          | 10, ho =>
            obtain rfl := Option.some.inj ho
            have hg := hA.new 9 (by decide) (by kernel_rfl)
            exact GoesG.skipW 9 true false rfl hg rfl (Below.refl _ _) (fun s => trivial)
          | 11, ho =>
            obtain rfl := Option.some.inj ho
            have hg := hA.new 9 (by decide) (by kernel_rfl)
            exact GoesG.skipW 9 true false rfl hg rfl (Below.refl _ _) (fun s => trivial)
          | i + 12, ho => cases ho
        · intro vs w4 hvs hG hΦ
          obtain ⟨y0, y1, y2, y3, y4, y5, y6, y7, y8, y9, y10, y11, rfl⟩ : ∃ y0 y1 y2 y3 y4 y5 y6 y7 y8 y9 y10 y11, vs = y0 :: y1 :: y2 :: y3 :: y4 :: y5 :: y6 :: y7 :: y8 :: y9 :: y10 :: y11 :: [] := by
            match vs, hvs with
            | y0 :: y1 :: y2 :: y3 :: y4 :: y5 :: y6 :: y7 :: y8 :: y9 :: y10 :: y11 :: [], _ => exact ⟨y0, y1, y2, y3, y4, y5, y6, y7, y8, y9, y10, y11, rfl⟩
          have e0 : y0 = .slice (some ⟨ba, oa, none⟩) n c := hΦ 0 (by decide)
          subst e0
          have e1 : y1 = .int .i64 (j : Int) := hΦ 1 (by decide)
          subst e1
          have e2 : y2 = .pointer (some ⟨ba, oa + j * 6, none⟩) := hΦ 2 (by decide)
          subst e2
          have e3 : y3 = .agg #[.int .i64 tk, .int .i64 me, .int .i64 ar, .int .i64 re, .int .i64 be, .int .i64 en] := hΦ 3 (by decide)
          subst e3
          have e4 : y4 = .slice (some ⟨ba, oa, none⟩) n c := hΦ 4 (by decide)
          subst e4
          have e5 : y5 = .int .i64 (kk : Int) := hΦ 5 (by decide)
          subst e5
          have e6 : y6 = .pointer (some ⟨ba, oa + kk * 6, none⟩) := hΦ 6 (by decide)
          subst e6
          have e7 : y7 = .agg #[.int .i64 tk2, .int .i64 me2, .int .i64 ar2, .int .i64 re2, .int .i64 be2, .int .i64 en2] := hΦ 7 (by decide)
          subst e7
          have e8 : y8 = .bool false := hΦ 8 (by decide)
          subst e8
          have e9 : y9 = .bool false := hΦ 9 (by decide)
          subst e9
          have p10 : True := hΦ 10 (by decide)
          have p11 : True := hΦ 11 (by decide)
          clear hΦ hvs
          simp only [putAll, Act.put, List.setIfInBounds_toArray, List.set_cons_succ, List.set_cons_zero]
          have HE4 := Lib.hid (Ext.trans HB.out (show Ext wr w4 from hG))
          clear hG
          go_wp2
          exact ⟨⟨j + 1, by omega, by go_num, HY.out, HE4.out⟩, by simp [intOf]; omega⟩
    · have hjl : n = j := by omega
      subst hjl
      have HV := Lib.hid (show R = true by rw [HR.out]; exact HA.out)
      go_wp2
      go_ret
      exact ⟨by rw [HV.out]; rfl, HB.out⟩
end Go.Proofs.YtmbkjccckmlacaaDoor

namespace Go.Proofs.YtmbkjccckmlacaaDoor
open Go.RowKit
set_option linter.unusedVariables false
set_option linter.unusedSimpArgs false

theorem refWithin_any (n lo hi : Int) (w : World) : Gives Tryd.prog 90 #[.int .i64 n, .int .i64 lo, .int .i64 hi] w (.bool (wiB n lo hi)) := by
  unfold Gives
  have HI := Lib.hid (show wiB n lo hi = (decide (lo ≤ n) && decide (n ≤ hi)) from rfl)
  by_cases h1 : lo ≤ n
  · have d1 : decide (lo ≤ n) = true := by simpa using h1
    go_enter Tryd.func90, Tryd.ntmps90
    go_wp2
    go_ret
    exact ⟨by rw [HI.out, d1]; simp, Below.refl _ _⟩
  · have d1 : decide (lo ≤ n) = false := by simpa using h1
    go_enter Tryd.func90, Tryd.ntmps90
    go_wp2
    go_ret
    exact ⟨by rw [HI.out, d1]; rfl, Below.refl _ _⟩
set_option maxRecDepth 100000 in
set_option maxHeartbeats 4000000 in
theorem refCheckCall_any (l : List Cl) (ii : Nat) (a : Option Addr) (c : Nat) (w : World) (hi : ii < l.length) (hl : l.length ≤ 1000) (h : HsAt w a l) :
    Gives Tryd.prog 75 #[.slice a l.length c, .int .i64 (ii : Int)] w (.int .i64 (clE l ii l[ii])) := by
  unfold Gives
  have HR := Lib.hid (clE_of l ii l[ii])
  generalize clE l ii l[ii] = R at *
  obtain ⟨ba, oa, hab, -⟩ := h ii hi
  subst hab
  have HH := Lib.hid (fun i (hi : i < l.length) W (hW : Ext w W) => show Cl.cells W ba (oa + i * 6) l[i] from by
    obtain ⟨b', o', e', hc'⟩ := (h.ext hW) i hi
    cases e'
    exact hc')
  obtain ⟨n, hn⟩ : ∃ n, l.length = n := ⟨_, rfl⟩
  have HN := Lib.hid hn
  have hin : ii < n := by omega
  rw [hn] at hl ⊢
  -- the call before
  obtain ⟨pb, hpb⟩ : ∃ pb, (l[ii - 1]?.map (·.beg)).getD 0 = pb := ⟨_, rfl⟩
  have HPB := Lib.hid (fun (q : Nat) (e : ii = q + 1) W (hW : Ext w W) => show W.cell? ⟨ba, oa + q * 6 + 4, none⟩ = some (.int .i64 pb) from by
    have hq : q < l.length := by omega
    obtain ⟨y0, y1, y2, y3, y4, y5⟩ := HH.out q hq W hW
    rw [y4, ← hpb, e, Nat.add_sub_cancel, List.getElem?_eq_getElem hq]
    rfl)
  rw [hpb] at HR
  have hc0 := HH.out ii hi w (Below.refl _ _)
  generalize l[ii] = x at *
  obtain ⟨tk, me, ar, re, be, en⟩ := x
  obtain ⟨x0, x1, x2, x3, x4, x5⟩ := hc0
  dsimp only at *
  have hi0 : (0 : Int) ≤ (ii : Int) := by omega
  have hi1 : (ii : Int) < (n : Int) := by omega
  obtain ⟨w1, hw1⟩ : ∃ W, W = w.alloc (cClO ⟨tk, me, ar, re, be, en⟩) := ⟨_, rfl⟩
  have hw1' : w.alloc (.cells #[.int .i64 tk, .int .i64 me, .int .i64 ar, .int .i64 re, .int .i64 be, .int .i64 en] 48) = w1 := hw1.symm
  have HX1 := Lib.hid (show Ext w w1 by rw [hw1]; exact ext_allocN _ _)
  have HB1 := Lib.hid (show w1.heap[w.heap.size]? = some (.cells #[.int .i64 tk, .int .i64 me, .int .i64 ar, .int .i64 re, .int .i64 be, .int .i64 en] 48 (0, 0)) by rw [hw1]; exact alloc_here _ _)
  have HBX := Lib.hid (fun W (hW : Ext w1 W) => show W.cell? ⟨w.heap.size, 0, none⟩ = some (.int .i64 tk) ∧ W.cell? ⟨w.heap.size, 1, none⟩ = some (.int .i64 me) ∧ W.cell? ⟨w.heap.size, 2, none⟩ = some (.int .i64 ar) ∧ W.cell? ⟨w.heap.size, 3, none⟩ = some (.int .i64 re) ∧ W.cell? ⟨w.heap.size, 4, none⟩ = some (.int .i64 be) ∧ W.cell? ⟨w.heap.size, 5, none⟩ = some (.int .i64 en) from by
    have hb := (hW.below.block _ (lt_of_block HB1.out)).trans HB1.out
    exact ⟨cell_of hb rfl, cell_of hb rfl, cell_of hb rfl, cell_of hb rfl, cell_of hb rfl, cell_of hb rfl⟩)
  obtain ⟨b0, b1, b2, b3, b4, b5⟩ := HBX.out w1 (Below.refl _ _)
  have KW0 := Lib.hid (fun W => refWithin_any tk 0 15 W)
  have KW1 := Lib.hid (fun W => refWithin_any me 0 99 W)
  have KW2 := Lib.hid (fun W => refWithin_any ar (-1099511627776) 1099511627776 W)
  have KW3 := Lib.hid (fun W => refWithin_any re (-1099511627776) 1099511627776 W)
  clear hw1 h hn
  cases h0 : wiB tk 0 15 with
  | false =>
    rw [h0] at KW0
    have HRv := Lib.hid (show R = 2 by rw [HR.out, if_pos h0])
    clear HR HPB hpb h0
    go_enter Tryd.func75, Tryd.ntmps75
    go_wp2_with fail
    try rw [hw1']
    refine (KW0.out _).mono ?_
    intro v0 hE0
    have HV0 := Lib.hid (Ext.trans (show Ext w1 w1 from Below.refl _ _) hE0)
    clear hE0 b0 b1 b2 b3 b4 b5
    obtain ⟨b0, b1, b2, b3, b4, b5⟩ := HBX.out v0 HV0.out
    go_wp2
    go_ret
    exact ⟨by rw [HRv.out]; rfl, Ext.trans HX1.out HV0.out⟩
  | true =>
  rw [h0] at KW0
  cases h1 : wiB me 0 99 with
  | false =>
    rw [h1] at KW1
    have HRv := Lib.hid (show R = 2 by rw [HR.out, if_neg (by simp [h0]), if_pos h1])
    clear HR HPB hpb h1
    go_enter Tryd.func75, Tryd.ntmps75
    go_wp2_with fail
    try rw [hw1']
    refine (KW0.out _).mono ?_
    intro v0 hE0
    have HV0 := Lib.hid (Ext.trans (show Ext w1 w1 from Below.refl _ _) hE0)
    clear hE0 b0 b1 b2 b3 b4 b5
    obtain ⟨b0, b1, b2, b3, b4, b5⟩ := HBX.out v0 HV0.out
    go_wp2_with fail
    refine (KW1.out _).mono ?_
    intro v1 hE1
    have HV1 := Lib.hid (Ext.trans HV0.out hE1)
    clear hE1 b0 b1 b2 b3 b4 b5
    obtain ⟨b0, b1, b2, b3, b4, b5⟩ := HBX.out v1 HV1.out
    go_wp2
    go_ret
    exact ⟨by rw [HRv.out]; rfl, Ext.trans HX1.out HV1.out⟩
  | true =>
  rw [h1] at KW1
  cases h2 : wiB ar (-1099511627776) 1099511627776 with
  | false =>
    rw [h2] at KW2
    have HRv := Lib.hid (show R = 2 by rw [HR.out, if_neg (by simp [h0]), if_neg (by simp [h1]), if_pos h2])
    clear HR HPB hpb h2
    go_enter Tryd.func75, Tryd.ntmps75
    go_wp2_with fail
    try rw [hw1']
    refine (KW0.out _).mono ?_
    intro v0 hE0
    have HV0 := Lib.hid (Ext.trans (show Ext w1 w1 from Below.refl _ _) hE0)
    clear hE0 b0 b1 b2 b3 b4 b5
    obtain ⟨b0, b1, b2, b3, b4, b5⟩ := HBX.out v0 HV0.out
    go_wp2_with fail
    refine (KW1.out _).mono ?_
    intro v1 hE1
    have HV1 := Lib.hid (Ext.trans HV0.out hE1)
    clear hE1 b0 b1 b2 b3 b4 b5
    obtain ⟨b0, b1, b2, b3, b4, b5⟩ := HBX.out v1 HV1.out
    go_wp2_with fail
    refine (KW2.out _).mono ?_
    intro v2 hE2
    have HV2 := Lib.hid (Ext.trans HV1.out hE2)
    clear hE2 b0 b1 b2 b3 b4 b5
    obtain ⟨b0, b1, b2, b3, b4, b5⟩ := HBX.out v2 HV2.out
    go_wp2
    go_ret
    exact ⟨by rw [HRv.out]; rfl, Ext.trans HX1.out HV2.out⟩
  | true =>
  rw [h2] at KW2
  cases h3 : wiB re (-1099511627776) 1099511627776 with
  | false =>
    rw [h3] at KW3
    have HRv := Lib.hid (show R = 2 by rw [HR.out, if_neg (by simp [h0]), if_neg (by simp [h1]), if_neg (by simp [h2]), if_pos h3])
    clear HR HPB hpb h3
    go_enter Tryd.func75, Tryd.ntmps75
    go_wp2_with fail
    try rw [hw1']
    refine (KW0.out _).mono ?_
    intro v0 hE0
    have HV0 := Lib.hid (Ext.trans (show Ext w1 w1 from Below.refl _ _) hE0)
    clear hE0 b0 b1 b2 b3 b4 b5
    obtain ⟨b0, b1, b2, b3, b4, b5⟩ := HBX.out v0 HV0.out
    go_wp2_with fail
    refine (KW1.out _).mono ?_
    intro v1 hE1
    have HV1 := Lib.hid (Ext.trans HV0.out hE1)
    clear hE1 b0 b1 b2 b3 b4 b5
    obtain ⟨b0, b1, b2, b3, b4, b5⟩ := HBX.out v1 HV1.out
    go_wp2_with fail
    refine (KW2.out _).mono ?_
    intro v2 hE2
    have HV2 := Lib.hid (Ext.trans HV1.out hE2)
    clear hE2 b0 b1 b2 b3 b4 b5
    obtain ⟨b0, b1, b2, b3, b4, b5⟩ := HBX.out v2 HV2.out
    go_wp2_with fail
    refine (KW3.out _).mono ?_
    intro v3 hE3
    have HV3 := Lib.hid (Ext.trans HV2.out hE3)
    clear hE3 b0 b1 b2 b3 b4 b5
    obtain ⟨b0, b1, b2, b3, b4, b5⟩ := HBX.out v3 HV3.out
    go_wp2
    go_ret
    exact ⟨by rw [HRv.out]; rfl, Ext.trans HX1.out HV3.out⟩
  | true =>
  rw [h3] at KW3
  have HS := Lib.hid (show R = if be < 0 then 2 else if en < -1 then 2 else if en = -1 ∧ re ≠ 0 then 2 else if 0 < ii ∧ be ≤ pb then 9 else if en ≠ -1 ∧ en ≤ be then 9 else 0 by rw [HR.out, if_neg (by simp [h0]), if_neg (by simp [h1]), if_neg (by simp [h2]), if_neg (by simp [h3])])
  clear HR h0 h1 h2 h3 hpb
  by_cases hbe : be < 0
  · have d1 : decide (be < 0) = true := by simpa using hbe
    have HRv := Lib.hid (show R = 2 by rw [HS.out, if_pos hbe])
    clear HS HPB hbe
    go_enter Tryd.func75, Tryd.ntmps75
    go_wp2_with fail
    try rw [hw1']
    refine (KW0.out _).mono ?_
    intro v0 hE0
    have HV0 := Lib.hid (Ext.trans (show Ext w1 w1 from Below.refl _ _) hE0)
    clear hE0 b0 b1 b2 b3 b4 b5
    obtain ⟨b0, b1, b2, b3, b4, b5⟩ := HBX.out v0 HV0.out
    go_wp2_with fail
    refine (KW1.out _).mono ?_
    intro v1 hE1
    have HV1 := Lib.hid (Ext.trans HV0.out hE1)
    clear hE1 b0 b1 b2 b3 b4 b5
    obtain ⟨b0, b1, b2, b3, b4, b5⟩ := HBX.out v1 HV1.out
    go_wp2_with fail
    refine (KW2.out _).mono ?_
    intro v2 hE2
    have HV2 := Lib.hid (Ext.trans HV1.out hE2)
    clear hE2 b0 b1 b2 b3 b4 b5
    obtain ⟨b0, b1, b2, b3, b4, b5⟩ := HBX.out v2 HV2.out
    go_wp2_with fail
    refine (KW3.out _).mono ?_
    intro v3 hE3
    have HV3 := Lib.hid (Ext.trans HV2.out hE3)
    clear hE3 b0 b1 b2 b3 b4 b5
    obtain ⟨b0, b1, b2, b3, b4, b5⟩ := HBX.out v3 HV3.out
    go_wp2
    go_ret
    exact ⟨by rw [HRv.out]; rfl, Ext.trans HX1.out HV3.out⟩
  have d1 : decide (be < 0) = false := by simpa using hbe
  by_cases hen : en < -1
  · have d2 : decide (en < -1) = true := by simpa using hen
    have HRv := Lib.hid (show R = 2 by rw [HS.out, if_neg hbe, if_pos hen])
    clear HS HPB hbe hen
    go_enter Tryd.func75, Tryd.ntmps75
    go_wp2_with fail
    try rw [hw1']
    refine (KW0.out _).mono ?_
    intro v0 hE0
    have HV0 := Lib.hid (Ext.trans (show Ext w1 w1 from Below.refl _ _) hE0)
    clear hE0 b0 b1 b2 b3 b4 b5
    obtain ⟨b0, b1, b2, b3, b4, b5⟩ := HBX.out v0 HV0.out
    go_wp2_with fail
    refine (KW1.out _).mono ?_
    intro v1 hE1
    have HV1 := Lib.hid (Ext.trans HV0.out hE1)
    clear hE1 b0 b1 b2 b3 b4 b5
    obtain ⟨b0, b1, b2, b3, b4, b5⟩ := HBX.out v1 HV1.out
    go_wp2_with fail
    refine (KW2.out _).mono ?_
    intro v2 hE2
    have HV2 := Lib.hid (Ext.trans HV1.out hE2)
    clear hE2 b0 b1 b2 b3 b4 b5
    obtain ⟨b0, b1, b2, b3, b4, b5⟩ := HBX.out v2 HV2.out
    go_wp2_with fail
    refine (KW3.out _).mono ?_
    intro v3 hE3
    have HV3 := Lib.hid (Ext.trans HV2.out hE3)
    clear hE3 b0 b1 b2 b3 b4 b5
    obtain ⟨b0, b1, b2, b3, b4, b5⟩ := HBX.out v3 HV3.out
    go_wp2
    go_ret
    exact ⟨by rw [HRv.out]; rfl, Ext.trans HX1.out HV3.out⟩
  have d2 : decide (en < -1) = false := by simpa using hen
  by_cases hp : en = -1 ∧ re ≠ 0
  · have d3 : (en == -1) = true := by simpa using hp.1
    have d4 : (re != 0) = true := by rw [bne_iff_ne]; exact hp.2
    have HRv := Lib.hid (show R = 2 by rw [HS.out, if_neg hbe, if_neg hen, if_pos hp])
    clear HS HPB hbe hen hp
    go_enter Tryd.func75, Tryd.ntmps75
    go_wp2_with fail
    try rw [hw1']
    refine (KW0.out _).mono ?_
    intro v0 hE0
    have HV0 := Lib.hid (Ext.trans (show Ext w1 w1 from Below.refl _ _) hE0)
    clear hE0 b0 b1 b2 b3 b4 b5
    obtain ⟨b0, b1, b2, b3, b4, b5⟩ := HBX.out v0 HV0.out
    go_wp2_with fail
    refine (KW1.out _).mono ?_
    intro v1 hE1
    have HV1 := Lib.hid (Ext.trans HV0.out hE1)
    clear hE1 b0 b1 b2 b3 b4 b5
    obtain ⟨b0, b1, b2, b3, b4, b5⟩ := HBX.out v1 HV1.out
    go_wp2_with fail
    refine (KW2.out _).mono ?_
    intro v2 hE2
    have HV2 := Lib.hid (Ext.trans HV1.out hE2)
    clear hE2 b0 b1 b2 b3 b4 b5
    obtain ⟨b0, b1, b2, b3, b4, b5⟩ := HBX.out v2 HV2.out
    go_wp2_with fail
    refine (KW3.out _).mono ?_
    intro v3 hE3
    have HV3 := Lib.hid (Ext.trans HV2.out hE3)
    clear hE3 b0 b1 b2 b3 b4 b5
    obtain ⟨b0, b1, b2, b3, b4, b5⟩ := HBX.out v3 HV3.out
    go_wp2
    go_ret
    exact ⟨by rw [HRv.out]; rfl, Ext.trans HX1.out HV3.out⟩
  have HS2 := Lib.hid (show R = if 0 < ii ∧ be ≤ pb then 9 else if en ≠ -1 ∧ en ≤ be then 9 else 0 by rw [HS.out, if_neg hbe, if_neg hen, if_neg hp])
  have hcase : ((en == -1) = true ∧ (en != -1) = false ∧ (re != 0) = false) ∨ ((en == -1) = false ∧ (en != -1) = true) := by
    by_cases he : en = -1
    · exact .inl ⟨by simpa using he, by simpa using he, by
        by_cases hr : re = 0
        · simpa using hr
        · exact absurd ⟨he, hr⟩ hp⟩
    · exact .inr ⟨by simpa using he, by rw [bne_iff_ne]; exact he⟩
  clear HS hbe hen hp
  have hen2 : (en == -1) = true ∧ (en != -1) = false ∧ (re != 0) = false ∨ ((en == -1) = false ∧ (en != -1) = true ∧ decide (en ≤ be) = true) ∨ ((en == -1) = false ∧ (en != -1) = true ∧ decide (en ≤ be) = false) := by
    rcases hcase with h | ⟨h, h'⟩
    · exact .inl h
    · by_cases g : en ≤ be
      · exact .inr (.inl ⟨h, h', by simpa using g⟩)
      · exact .inr (.inr ⟨h, h', by simpa using g⟩)
  have HE9 := Lib.hid (fun (h : ¬ (0 < ii ∧ be ≤ pb)) => show R = if en ≠ -1 ∧ en ≤ be then 9 else 0 by rw [HS2.out, if_neg h])
  clear hcase
  by_cases hz : ii = 0
  · have d5 : decide ((0 : Int) < (ii : Int)) = false := by simp; omega
    have d6 : decide (0 < ii) = false := by simp; omega
    have HS3 := Lib.hid (HE9.out (by omega))
    clear HPB HS2 HE9 hz
    rcases hen2 with ⟨g1, g2, g3⟩ | ⟨g1, g2, g3⟩ | ⟨g1, g2, g3⟩
    · have HRv := Lib.hid (show R = 0 by rw [HS3.out, if_neg (by rintro ⟨h, -⟩; exact h (by simpa using g1))])
      go_enter Tryd.func75, Tryd.ntmps75
      go_wp2_with fail
      try rw [hw1']
      refine (KW0.out _).mono ?_
      intro v0 hE0
      have HV0 := Lib.hid (Ext.trans (show Ext w1 w1 from Below.refl _ _) hE0)
      clear hE0 b0 b1 b2 b3 b4 b5
      obtain ⟨b0, b1, b2, b3, b4, b5⟩ := HBX.out v0 HV0.out
      go_wp2_with fail
      refine (KW1.out _).mono ?_
      intro v1 hE1
      have HV1 := Lib.hid (Ext.trans HV0.out hE1)
      clear hE1 b0 b1 b2 b3 b4 b5
      obtain ⟨b0, b1, b2, b3, b4, b5⟩ := HBX.out v1 HV1.out
      go_wp2_with fail
      refine (KW2.out _).mono ?_
      intro v2 hE2
      have HV2 := Lib.hid (Ext.trans HV1.out hE2)
      clear hE2 b0 b1 b2 b3 b4 b5
      obtain ⟨b0, b1, b2, b3, b4, b5⟩ := HBX.out v2 HV2.out
      go_wp2_with fail
      refine (KW3.out _).mono ?_
      intro v3 hE3
      have HV3 := Lib.hid (Ext.trans HV2.out hE3)
      clear hE3 b0 b1 b2 b3 b4 b5
      obtain ⟨b0, b1, b2, b3, b4, b5⟩ := HBX.out v3 HV3.out
      go_wp2_with fail
      refine wp_region_still_lit (by kernel_rfl) (by kernel_rfl) ?_
      refine Cx.out ?_
      iterate 25 (refine wpStill_stepC (fun K hK => ?_); go_simp; refine hK _ ?_; clear hK K)
      refine ⟨wpStill_nil ?_⟩
      go_wp2
      go_ret
      exact ⟨by rw [HRv.out]; rfl, Ext.drewN' (n := 1) (Ext.trans HX1.out HV3.out)⟩
    · have HRv := Lib.hid (show R = 9 by rw [HS3.out, if_pos ⟨by simpa using g1, by simpa using g3⟩])
      go_enter Tryd.func75, Tryd.ntmps75
      go_wp2_with fail
      try rw [hw1']
      refine (KW0.out _).mono ?_
      intro v0 hE0
      have HV0 := Lib.hid (Ext.trans (show Ext w1 w1 from Below.refl _ _) hE0)
      clear hE0 b0 b1 b2 b3 b4 b5
      obtain ⟨b0, b1, b2, b3, b4, b5⟩ := HBX.out v0 HV0.out
      go_wp2_with fail
      refine (KW1.out _).mono ?_
      intro v1 hE1
      have HV1 := Lib.hid (Ext.trans HV0.out hE1)
      clear hE1 b0 b1 b2 b3 b4 b5
      obtain ⟨b0, b1, b2, b3, b4, b5⟩ := HBX.out v1 HV1.out
      go_wp2_with fail
      refine (KW2.out _).mono ?_
      intro v2 hE2
      have HV2 := Lib.hid (Ext.trans HV1.out hE2)
      clear hE2 b0 b1 b2 b3 b4 b5
      obtain ⟨b0, b1, b2, b3, b4, b5⟩ := HBX.out v2 HV2.out
      go_wp2_with fail
      refine (KW3.out _).mono ?_
      intro v3 hE3
      have HV3 := Lib.hid (Ext.trans HV2.out hE3)
      clear hE3 b0 b1 b2 b3 b4 b5
      obtain ⟨b0, b1, b2, b3, b4, b5⟩ := HBX.out v3 HV3.out
      go_wp2_with fail
      refine wp_region_still_lit (by kernel_rfl) (by kernel_rfl) ?_
      refine Cx.out ?_
      iterate 25 (refine wpStill_stepC (fun K hK => ?_); go_simp; refine hK _ ?_; clear hK K)
      refine ⟨wpStill_nil ?_⟩
      go_wp2
      go_ret
      exact ⟨by rw [HRv.out]; rfl, Ext.drewN' (n := 1) (Ext.trans HX1.out HV3.out)⟩
    · have HRv := Lib.hid (show R = 0 by rw [HS3.out, if_neg (by rintro ⟨-, h⟩; have : ¬ en ≤ be := by simpa using g3
                                                                 exact this h)])
      go_enter Tryd.func75, Tryd.ntmps75
      go_wp2_with fail
      try rw [hw1']
      refine (KW0.out _).mono ?_
      intro v0 hE0
      have HV0 := Lib.hid (Ext.trans (show Ext w1 w1 from Below.refl _ _) hE0)
      clear hE0 b0 b1 b2 b3 b4 b5
      obtain ⟨b0, b1, b2, b3, b4, b5⟩ := HBX.out v0 HV0.out
      go_wp2_with fail
      refine (KW1.out _).mono ?_
      intro v1 hE1
      have HV1 := Lib.hid (Ext.trans HV0.out hE1)
      clear hE1 b0 b1 b2 b3 b4 b5
      obtain ⟨b0, b1, b2, b3, b4, b5⟩ := HBX.out v1 HV1.out
      go_wp2_with fail
      refine (KW2.out _).mono ?_
      intro v2 hE2
      have HV2 := Lib.hid (Ext.trans HV1.out hE2)
      clear hE2 b0 b1 b2 b3 b4 b5
      obtain ⟨b0, b1, b2, b3, b4, b5⟩ := HBX.out v2 HV2.out
      go_wp2_with fail
      refine (KW3.out _).mono ?_
      intro v3 hE3
      have HV3 := Lib.hid (Ext.trans HV2.out hE3)
      clear hE3 b0 b1 b2 b3 b4 b5
      obtain ⟨b0, b1, b2, b3, b4, b5⟩ := HBX.out v3 HV3.out
      go_wp2_with fail
      refine wp_region_still_lit (by kernel_rfl) (by kernel_rfl) ?_
      refine Cx.out ?_
      iterate 25 (refine wpStill_stepC (fun K hK => ?_); go_simp; refine hK _ ?_; clear hK K)
      refine ⟨wpStill_nil ?_⟩
      go_wp2
      go_ret
      exact ⟨by rw [HRv.out]; rfl, Ext.drewN' (n := 1) (Ext.trans HX1.out HV3.out)⟩
  · obtain ⟨q, hq⟩ : ∃ q, ii = q + 1 := ⟨ii - 1, by omega⟩
    have d5 : decide ((0 : Int) < (ii : Int)) = true := by simp; omega
    have d6 : decide (0 < ii) = true := by simp; omega
    have hsub : (ii : Int) - 1 = (q : Int) := by omega
    have hq0 : (0 : Int) ≤ (q : Int) := by omega
    have hq1 : (q : Int) < (n : Int) := by omega
    have hwq : IntKind.i64.wrap (q : Int) = (q : Int) := wrap_nat q (by omega)
    have HPQ := Lib.hid (HPB.out q hq)
    have HPOS := Lib.hid (show 0 < ii by omega)
    clear HPB hz hq
    by_cases hpb : be ≤ pb
    · have d7 : decide (be ≤ pb) = true := by simpa using hpb
      have HRv := Lib.hid (show R = 9 by rw [HS2.out, if_pos ⟨HPOS.out, hpb⟩])
      clear HS2 HE9 hpb
      rcases hen2 with ⟨g1, g2, g3⟩ | ⟨g1, g2, g3⟩ | ⟨g1, g2, g3⟩
      all_goals
        go_enter Tryd.func75, Tryd.ntmps75
        go_wp2_with fail
        try rw [hw1']
        refine (KW0.out _).mono ?_
        intro v0 hE0
        have HV0 := Lib.hid (Ext.trans (show Ext w1 w1 from Below.refl _ _) hE0)
        clear hE0 b0 b1 b2 b3 b4 b5
        obtain ⟨b0, b1, b2, b3, b4, b5⟩ := HBX.out v0 HV0.out
        go_wp2_with fail
        refine (KW1.out _).mono ?_
        intro v1 hE1
        have HV1 := Lib.hid (Ext.trans HV0.out hE1)
        clear hE1 b0 b1 b2 b3 b4 b5
        obtain ⟨b0, b1, b2, b3, b4, b5⟩ := HBX.out v1 HV1.out
        go_wp2_with fail
        refine (KW2.out _).mono ?_
        intro v2 hE2
        have HV2 := Lib.hid (Ext.trans HV1.out hE2)
        clear hE2 b0 b1 b2 b3 b4 b5
        obtain ⟨b0, b1, b2, b3, b4, b5⟩ := HBX.out v2 HV2.out
        go_wp2_with fail
        refine (KW3.out _).mono ?_
        intro v3 hE3
        have HV3 := Lib.hid (Ext.trans HV2.out hE3)
        clear hE3 b0 b1 b2 b3 b4 b5
        obtain ⟨b0, b1, b2, b3, b4, b5⟩ := HBX.out v3 HV3.out
        go_wp2_with fail
        have p4 := HPQ.out _ (Ext.trans HX1.out HV3.out)
        refine wp_region_still_lit (by kernel_rfl) (by kernel_rfl) ?_
        refine Cx.out ?_
        iterate 25 (refine wpStill_stepC (fun K hK => ?_); go_simp; refine hK _ ?_; clear hK K)
        refine ⟨wpStill_nil ?_⟩
        go_wp2
        go_ret
        exact ⟨by rw [HRv.out]; rfl, Ext.drewN' (n := 1) (Ext.trans HX1.out HV3.out)⟩
    · have d7 : decide (be ≤ pb) = false := by simpa using hpb
      have HS3 := Lib.hid (HE9.out (fun h => hpb h.2))
      clear HS2 HE9 hpb
      rcases hen2 with ⟨g1, g2, g3⟩ | ⟨g1, g2, g3⟩ | ⟨g1, g2, g3⟩
      · have HRv := Lib.hid (show R = 0 by rw [HS3.out, if_neg (by rintro ⟨h, -⟩; exact h (by simpa using g1))])
        go_enter Tryd.func75, Tryd.ntmps75
        go_wp2_with fail
        try rw [hw1']
        refine (KW0.out _).mono ?_
        intro v0 hE0
        have HV0 := Lib.hid (Ext.trans (show Ext w1 w1 from Below.refl _ _) hE0)
        clear hE0 b0 b1 b2 b3 b4 b5
        obtain ⟨b0, b1, b2, b3, b4, b5⟩ := HBX.out v0 HV0.out
        go_wp2_with fail
        refine (KW1.out _).mono ?_
        intro v1 hE1
        have HV1 := Lib.hid (Ext.trans HV0.out hE1)
        clear hE1 b0 b1 b2 b3 b4 b5
        obtain ⟨b0, b1, b2, b3, b4, b5⟩ := HBX.out v1 HV1.out
        go_wp2_with fail
        refine (KW2.out _).mono ?_
        intro v2 hE2
        have HV2 := Lib.hid (Ext.trans HV1.out hE2)
        clear hE2 b0 b1 b2 b3 b4 b5
        obtain ⟨b0, b1, b2, b3, b4, b5⟩ := HBX.out v2 HV2.out
        go_wp2_with fail
        refine (KW3.out _).mono ?_
        intro v3 hE3
        have HV3 := Lib.hid (Ext.trans HV2.out hE3)
        clear hE3 b0 b1 b2 b3 b4 b5
        obtain ⟨b0, b1, b2, b3, b4, b5⟩ := HBX.out v3 HV3.out
        go_wp2_with fail
        have p4 := HPQ.out _ (Ext.trans HX1.out HV3.out)
        refine wp_region_still_lit (by kernel_rfl) (by kernel_rfl) ?_
        refine Cx.out ?_
        iterate 25 (refine wpStill_stepC (fun K hK => ?_); go_simp; refine hK _ ?_; clear hK K)
        refine ⟨wpStill_nil ?_⟩
        go_wp2
        go_ret
        exact ⟨by rw [HRv.out]; rfl, Ext.drewN' (n := 1) (Ext.trans HX1.out HV3.out)⟩
      · have HRv := Lib.hid (show R = 9 by rw [HS3.out, if_pos ⟨by simpa using g1, by simpa using g3⟩])
        go_enter Tryd.func75, Tryd.ntmps75
        go_wp2_with fail
        try rw [hw1']
        refine (KW0.out _).mono ?_
        intro v0 hE0
        have HV0 := Lib.hid (Ext.trans (show Ext w1 w1 from Below.refl _ _) hE0)
        clear hE0 b0 b1 b2 b3 b4 b5
        obtain ⟨b0, b1, b2, b3, b4, b5⟩ := HBX.out v0 HV0.out
        go_wp2_with fail
        refine (KW1.out _).mono ?_
        intro v1 hE1
        have HV1 := Lib.hid (Ext.trans HV0.out hE1)
        clear hE1 b0 b1 b2 b3 b4 b5
        obtain ⟨b0, b1, b2, b3, b4, b5⟩ := HBX.out v1 HV1.out
        go_wp2_with fail
        refine (KW2.out _).mono ?_
        intro v2 hE2
        have HV2 := Lib.hid (Ext.trans HV1.out hE2)
        clear hE2 b0 b1 b2 b3 b4 b5
        obtain ⟨b0, b1, b2, b3, b4, b5⟩ := HBX.out v2 HV2.out
        go_wp2_with fail
        refine (KW3.out _).mono ?_
        intro v3 hE3
        have HV3 := Lib.hid (Ext.trans HV2.out hE3)
        clear hE3 b0 b1 b2 b3 b4 b5
        obtain ⟨b0, b1, b2, b3, b4, b5⟩ := HBX.out v3 HV3.out
        go_wp2_with fail
        have p4 := HPQ.out _ (Ext.trans HX1.out HV3.out)
        refine wp_region_still_lit (by kernel_rfl) (by kernel_rfl) ?_
        refine Cx.out ?_
        iterate 25 (refine wpStill_stepC (fun K hK => ?_); go_simp; refine hK _ ?_; clear hK K)
        refine ⟨wpStill_nil ?_⟩
        go_wp2
        go_ret
        exact ⟨by rw [HRv.out]; rfl, Ext.drewN' (n := 1) (Ext.trans HX1.out HV3.out)⟩
      · have HRv := Lib.hid (show R = 0 by rw [HS3.out, if_neg (by rintro ⟨-, h⟩; have : ¬ en ≤ be := by simpa using g3
                                                                   exact this h)])
        go_enter Tryd.func75, Tryd.ntmps75
        go_wp2_with fail
        try rw [hw1']
        refine (KW0.out _).mono ?_
        intro v0 hE0
        have HV0 := Lib.hid (Ext.trans (show Ext w1 w1 from Below.refl _ _) hE0)
        clear hE0 b0 b1 b2 b3 b4 b5
        obtain ⟨b0, b1, b2, b3, b4, b5⟩ := HBX.out v0 HV0.out
        go_wp2_with fail
        refine (KW1.out _).mono ?_
        intro v1 hE1
        have HV1 := Lib.hid (Ext.trans HV0.out hE1)
        clear hE1 b0 b1 b2 b3 b4 b5
        obtain ⟨b0, b1, b2, b3, b4, b5⟩ := HBX.out v1 HV1.out
        go_wp2_with fail
        refine (KW2.out _).mono ?_
        intro v2 hE2
        have HV2 := Lib.hid (Ext.trans HV1.out hE2)
        clear hE2 b0 b1 b2 b3 b4 b5
        obtain ⟨b0, b1, b2, b3, b4, b5⟩ := HBX.out v2 HV2.out
        go_wp2_with fail
        refine (KW3.out _).mono ?_
        intro v3 hE3
        have HV3 := Lib.hid (Ext.trans HV2.out hE3)
        clear hE3 b0 b1 b2 b3 b4 b5
        obtain ⟨b0, b1, b2, b3, b4, b5⟩ := HBX.out v3 HV3.out
        go_wp2_with fail
        have p4 := HPQ.out _ (Ext.trans HX1.out HV3.out)
        refine wp_region_still_lit (by kernel_rfl) (by kernel_rfl) ?_
        refine Cx.out ?_
        iterate 25 (refine wpStill_stepC (fun K hK => ?_); go_simp; refine hK _ ?_; clear hK K)
        refine ⟨wpStill_nil ?_⟩
        go_wp2
        go_ret
        exact ⟨by rw [HRv.out]; rfl, Ext.drewN' (n := 1) (Ext.trans HX1.out HV3.out)⟩
end Go.Proofs.YtmbkjccckmlacaaDoor

namespace Go.Proofs.YtmbkjccckmlacaaDoor
open Go.RowKit
set_option linter.unusedVariables false
set_option linter.unusedSimpArgs false

theorem sub_len : ∀ (L M : List Int), L.Nodup → (∀ x ∈ L, x ∈ M) → L.length ≤ M.length
  | [], M, _, _ => by simp
  | x :: t, M, hn, hs => by
    rw [List.nodup_cons] at hn
    have hx := hs x (by simp)
    have h1 := sub_len t (M.erase x) hn.2 (fun y hy => by
      have hne : y ≠ x := fun e => hn.1 (e ▸ hy)
      exact (List.mem_erase_of_ne hne).2 (hs y (by simp [hy])))
    rw [List.length_erase_of_mem hx] at h1
    have : 0 < M.length := List.length_pos_of_mem hx
    simp only [List.length_cons]; omega
theorem nd_count : ∀ (L : List Int), (∀ x ∈ L, L.count x ≤ 1) → L.Nodup
  | [], _ => by simp
  | x :: t, h => by
    rw [List.nodup_cons]
    refine ⟨fun hx => ?_, nd_count t (fun y hy => ?_)⟩
    · have := h x (by simp)
      rw [List.count_cons_self] at this
      have := List.count_pos_iff.2 hx
      omega
    · have := h y (by simp [hy])
      rw [List.count_cons] at this
      omega
theorem count_nd : ∀ (L : List Int) (x : Int), L.Nodup → L.count x ≤ 1
  | [], x, _ => by simp
  | y :: t, x, h => by
    rw [List.nodup_cons] at h
    rw [List.count_cons]
    by_cases e : y = x
    · subst e
      rw [List.count_eq_zero.2 h.1]
      simp
    · have := count_nd t x h.2
      simp [e]; exact this
theorem rg_nd (N : Nat) : ((List.range N).map Int.ofNat).Nodup := List.Pairwise.map Int.ofNat (fun a b h e => h (Int.ofNat.inj e)) List.nodup_range
/-- each position occurs once, said two ways -/
theorem pos_iff {P : List Int} (h0 : ∀ p ∈ P, 0 ≤ p) : (∀ n : Nat, n < P.length → P.count (n : Int) = 1) ↔ ((∀ p ∈ P, p < P.length) ∧ P.Nodup) := by
  constructor
  · intro h
    have hlt : ∀ p ∈ P, p < P.length := fun p hp => by
      refine Classical.byContradiction fun hno => ?_
      have h1 := sub_len ((List.range P.length).map Int.ofNat) (P.filter (fun x : Int => decide (x < (P.length : Int)))) (rg_nd _) (fun x hx => by
        obtain ⟨n, hn, rfl⟩ := List.mem_map.1 hx
        have hn' := List.mem_range.1 hn
        rw [List.mem_filter]
        have hc := h n hn'
        refine ⟨List.count_pos_iff.1 (by show 0 < P.count (Int.ofNat n); have e : (Int.ofNat n) = ((n : Nat) : Int) := rfl; rw [e, hc]; omega), by simp; omega⟩)
      rw [List.length_map, List.length_range] at h1
      have h2 := filt_split (fun x : Int => decide (x < (P.length : Int))) P
      have h3 : 0 < (P.filter (fun x : Int => !decide (x < (P.length : Int)))).length := List.length_pos_of_mem (List.mem_filter.2 ⟨hp, by simpa using hno⟩)
      omega
    refine ⟨hlt, nd_count P fun x hx => ?_⟩
    have h1 := h x.toNat (by have := hlt x hx; have := h0 x hx; omega)
    rw [Int.toNat_of_nonneg (h0 x hx)] at h1
    omega
  · rintro ⟨h1, h2⟩ n hn
    have h3 := count_nd P (n : Int) h2
    have h4 : (n : Int) ∈ P := Classical.byContradiction fun hno => by
      have := nd_len 0 P.length ((n : Int) :: P) (List.nodup_cons.2 ⟨hno, h2⟩) (fun x hx => by
        rcases List.mem_cons.1 hx with rfl | hx
        · omega
        · have := h1 x hx; have := h0 x hx; omega)
      simp at this
      omega
    have := List.count_pos_iff.2 h4
    omega
theorem psC_count (x : Cl) (n : Nat) : (psC x).count (n : Int) = (if x.beg = n then 1 else 0) + (if x.en = n then 1 else 0) := by
  unfold psC
  by_cases h : x.en = -1
  · rw [if_pos h, List.count_cons, List.count_nil, h, if_neg (show ¬ (-1 : Int) = (n : Int) by omega)]
    by_cases hb : x.beg = n <;> simp [hb]
  · rw [if_neg h, List.count_cons, List.count_cons, List.count_nil]
    by_cases hb : x.beg = n <;> by_cases he : x.en = n <;> simp [hb, he]
theorem psH_nn {l : List Cl} (h : ∀ i (hi : i < l.length), clE l i l[i] = 0) : ∀ y ∈ psH l, 0 ≤ y := fun y hy => by
  rw [psH_flat, List.mem_flatMap] at hy
  obtain ⟨x, hx, hy⟩ := hy
  obtain ⟨i, hi, rfl⟩ := List.mem_iff_getElem.1 hx
  have h1 := clE_parts (h i hi)
  unfold psC at hy
  split at hy
  · rw [List.mem_singleton.1 hy]; exact h1.2.1
  · simp only [List.mem_cons, List.not_mem_nil, or_false] at hy
    rcases hy with rfl | rfl <;> omega
end Go.Proofs.YtmbkjccckmlacaaDoor

namespace Go.Proofs.YtmbkjccckmlacaaDoor
open Go.RowKit
set_option linter.unusedVariables false
set_option linter.unusedSimpArgs false

theorem lastN_what (l : List Cl) (t : Int) : ∀ j, j ≤ l.length → (lastN l j t = 0 → ∀ i (hi : i < l.length), i < j → l[i].task ≠ t) ∧ (∀ q, lastN l j t = q + 1 → q < j ∧ ∃ hq : q < l.length, l[q].task = t ∧ ∀ i (hi : i < l.length), q < i → i < j → l[i].task ≠ t)
  | 0, _ => by
    have : lastN l 0 t = 0 := by have := lastN_le l t 0; omega
    exact ⟨fun _ i hi h => by omega, fun q h => by omega⟩
  | j + 1, hj => by
    have hjl : j < l.length := by omega
    obtain ⟨h1, h2⟩ := lastN_what l t j (by omega)
    rw [lastN_succ hjl]
    by_cases ht : l[j].task = t
    · rw [if_pos ht]
      refine ⟨fun h => by omega, fun q h => ?_⟩
      obtain rfl : q = j := by omega
      exact ⟨by omega, hjl, ht, fun i hi h3 h4 => by omega⟩
    · rw [if_neg ht]
      refine ⟨fun h i hi h3 => ?_, fun q h => ?_⟩
      · by_cases e : i = j
        · subst e; exact ht
        · exact h1 h i hi (by omega)
      · obtain ⟨g1, g2, g3, g4⟩ := h2 q h
        refine ⟨by omega, g2, g3, fun i hi h3 h4 => ?_⟩
        by_cases e : i = j
        · subst e; exact ht
        · exact g4 i hi h3 (by omega)
theorem en_ne_beg {l : List Cl} (hn : (psH l).Nodup) {i k : Nat} (hk : k < l.length) (hik : i < k) (he : l[i].en ≠ -1) : l[i].en ≠ l[k].beg := fun e => by
  have hs : psH l = psH (l.take k) ++ psH (l.drop k) := by
    rw [psH_flat, psH_flat, psH_flat, ← List.flatMap_append, List.take_append_drop]
  rw [hs, List.nodup_append] at hn
  refine hn.2.2 l[i].en ?_ l[k].beg ?_ e
  · rw [psH_flat, List.mem_flatMap]
    refine ⟨l[i], List.mem_iff_getElem.2 ⟨i, by rw [List.length_take]; omega, by rw [List.getElem_take]⟩, ?_⟩
    unfold psC
    rw [if_neg he]; simp
  · rw [psH_flat, List.mem_flatMap]
    refine ⟨l[k], List.mem_iff_getElem.2 ⟨0, by rw [List.length_drop]; omega, by rw [List.getElem_drop]; rfl⟩, ?_⟩
    unfold psC
    split <;> simp
/-- calls of one task follow each other -/
def PairsOk (l : List Cl) : Prop := ∀ i k (hk : k < l.length) (hik : i < k), l[i].task = l[k].task → l[i].en ≠ -1 ∧ l[i].en ≤ l[k].beg
theorem pairs_seq {l : List Cl} (hcl : ∀ i (hi : i < l.length), clE l i l[i] = 0) (hn : (psH l).Nodup) : PairsOk l ↔ ∀ k (hk : k < l.length), seqE l k l[k] = true := by
  constructor
  · intro h k hk
    obtain ⟨h1, h2⟩ := lastN_what l l[k].task k (by omega)
    cases hq : lastN l k l[k].task with
    | zero => exact seqE_zero (by omega) hq
    | succ q =>
      obtain ⟨g1, g2, g3, -⟩ := h2 q hq
      rw [seqE_succ (by omega) hq g2]
      obtain ⟨e1, e2⟩ := h q k hk g1 g3
      have := en_ne_beg hn hk g1 e1
      simp only [decide_eq_true_eq]
      exact ⟨e1, by omega⟩
  · intro h
    have : ∀ K k (hK : k ≤ K) (hk : k < l.length) i (hik : i < k), l[i].task = l[k].task → l[i].en ≠ -1 ∧ l[i].en ≤ l[k].beg := by
      intro K
      induction K with
      | zero => intro k hK hk i hik; omega
      | succ K ih =>
        intro k hK hk i hik ht
        obtain ⟨h1, h2⟩ := lastN_what l l[k].task k (by omega)
        have hs := h k hk
        cases hq : lastN l k l[k].task with
        | zero => exact absurd ht (h1 hq i (by omega) hik)
        | succ q =>
          obtain ⟨g1, g2, g3, g4⟩ := h2 q hq
          rw [seqE_succ (by omega) hq g2] at hs
          simp only [decide_eq_true_eq] at hs
          by_cases hiq : i = q
          · subst hiq; exact ⟨hs.1, by omega⟩
          · have hlt : i < q := by
              rcases Nat.lt_or_ge i q with h3 | h3
              · exact h3
              · exact absurd ht (g4 i (by omega) (by omega) hik)
            obtain ⟨e1, e2⟩ := ih q (by omega) g2 i hlt (by rw [ht, g3])
            have hb := (clE_parts (hcl q g2)).2.2.2.2.2 hs.1
            exact ⟨e1, by omega⟩
    exact fun i k hk hik ht => this k k (Nat.le_refl _) hk i hik ht
theorem fst_of {f : Nat → Int} : ∀ {n : Nat}, (∀ i, i < n → f i = 0) → fstE f n = 0
  | 0, _ => rfl
  | n + 1, h => fstE_step (fst_of (fun i hi => h i (by omega))) (h n (by omega))
theorem tsk_val {l : List Cl} : ∀ {n : Nat}, fstE (tskE l) n = 0 ∨ fstE (tskE l) n = 17
  | 0 => .inl rfl
  | n + 1 => by
    unfold fstE
    have : tskE l n = 0 ∨ tskE l n = 17 := by
      unfold tskE
      split
      · exact .inl rfl
      · split
        · exact .inl rfl
        · exact .inr rfl
    rcases tsk_val (l := l) (n := n) with h | h
    · rw [h]; simpa using this
    · rw [h]; simp
theorem tsk_pairs {l : List Cl} (hcl : ∀ i (hi : i < l.length), clE l i l[i] = 0) (hn : (psH l).Nodup) : (PairsOk l → fstE (tskE l) l.length = 0) ∧ (¬ PairsOk l → fstE (tskE l) l.length = 17) := by
  have h0 := pairs_seq hcl hn
  constructor
  · intro h
    refine fst_of fun i hi => ?_
    rw [tskE_at hi, if_pos (h0.1 h i hi)]
  · intro h
    rcases tsk_val (l := l) (n := l.length) with h1 | h1
    · exact absurd (h0.2 fun k hk => by
        have := fstE_all h1 k hk
        rw [tskE_at hk] at this
        split at this
        · next g => exact g
        · omega) h
    · exact h1
end Go.Proofs.YtmbkjccckmlacaaDoor

namespace Go.Proofs.YtmbkjccckmlacaaDoor
open Go.RowKit
set_option linter.unusedVariables false
set_option linter.unusedSimpArgs false

def rowOk (l : List Cl) (p k : Nat) : Prop := ∀ b (hb : b < l.length) (hpb : p < b), b < k → l[p].task = l[b].task → l[p].en ≠ -1 ∧ l[p].en ≤ l[b].beg

set_option maxRecDepth 100000 in
set_option maxHeartbeats 8000000 in
theorem refCkH_any (l : List Cl) (a : Option Addr) (c : Nat) (w : World) (hm : l.length ≤ maxLen) (h : HsAt w a l) :
    Gives Tryd.prog 63 #[.slice a l.length c] w (.int .i64 (ckH l)) := by
  unfold Gives
  have HR := Lib.hid (show ckH l = if 100 < l.length then 4 else if fstE (callE l) l.length ≠ 0 then fstE (callE l) l.length else if ¬ ((∀ p ∈ psH l, p < (psH l).length) ∧ (psH l).Nodup) then 16 else fstE (tskE l) l.length from rfl)
  generalize ckH l = R at *
  unfold maxLen at hm
  by_cases h100 : 100 < l.length
  · have d1 : decide ((100 : Int) < (l.length : Int)) = true := by simp; omega
    have HRv := Lib.hid (show R = 4 by rw [HR.out, if_pos h100])
    clear HR h h100
    generalize l.length = n at *
    go_enter Tryd.func63, Tryd.ntmps63
    go_wp2
    go_ret
    exact ⟨by rw [HRv.out]; rfl, Below.refl _ _⟩
  have d1 : decide ((100 : Int) < (l.length : Int)) = false := by simp; omega
  have HR1 := Lib.hid (show R = if fstE (callE l) l.length ≠ 0 then fstE (callE l) l.length else if ¬ ((∀ p ∈ psH l, p < (psH l).length) ∧ (psH l).Nodup) then 16 else fstE (tskE l) l.length by rw [HR.out, if_neg h100])
  have KC := Lib.hid (fun W (hW : Ext w W) (i : Nat) (hi : i < l.length) => refCheckCall_any l i a c W hi (by omega) (h.ext hW))
  have HH := Lib.hid (fun W (hW : Ext w W) => h.ext hW)
  clear HR h
  have HL100 := Lib.hid (show l.length ≤ 100 by omega)
  clear h100
  obtain ⟨n, hn⟩ : ∃ n, l.length = n := ⟨_, rfl⟩
  have HN := Lib.hid hn
  have hn100 : n ≤ 100 := by rw [← hn]; exact HL100.out
  rw [hn] at d1 HR1 hm ⊢
  have KC2 := Lib.hid (fun W (hW : Ext w W) (i : Nat) (hi : i < l.length) => show Gives Tryd.prog 75 #[.slice a n c, .int .i64 (i : Int)] W (.int .i64 (clE l i l[i])) from by
    have := KC.out W hW i hi
    rw [HN.out] at this
    exact this)
  clear hn KC
  have HPL := Lib.hid (fun j (hj : j < l.length) => show (psH (l.take (j + 1))).length = (psH (l.take j)).length + (if l[j].en = -1 then 1 else 2) by rw [psH_take hj, List.length_append, psC_len])
  have HPB := Lib.hid (show ∀ j, j ≤ n → (psH (l.take j)).length ≤ 2 * j from fun j => by
    induction j with
    | zero => intro _; simp [psH]
    | succ j ih =>
      intro hj
      have h1 := ih (by omega)
      rw [HPL.out j (by rw [HN.out]; omega)]
      split <;> omega)
  go_enter Tryd.func63, Tryd.ntmps63
  go_wp2_with fail
  go_loopw [3, 4] (fun t i wr => ∃ j : Nat, j ≤ n ∧ i = .int .i64 (j : Int) ∧ t = .int .i64 (((psH (l.take j)).length : Nat) : Int) ∧ fstE (callE l) j = 0 ∧ Ext w wr) (fun _ i _ => n - (intOf i).toNat)
  case atStart => exact ⟨0, Nat.zero_le _, rfl, rfl, rfl, Below.refl _ _⟩
  case round =>
    obtain ⟨j, hj, rfl, rfl, hfst, hEr⟩ := hrel
    have HF := Lib.hid hfst
    have HE := Lib.hid hEr
    have hpb : (psH (l.take j)).length ≤ 200 := by have := HPB.out j hj; omega
    clear hfst hEr
    by_cases hlt : j < n
    · have hjl : j < l.length := by rw [HN.out]; exact hlt
      have hi0 : (0 : Int) ≤ (j : Int) := by omega
      have hi1 : (j : Int) < (n : Int) := by omega
      have HCE := Lib.hid (show callE l j = clE l j l[j] by unfold callE; rw [List.getElem?_eq_getElem hjl])
      have C := Lib.hid (KC2.out wr HE.out j hjl)
      have HP1 := Lib.hid (HPL.out j hjl)
      obtain ⟨ba, oa, hab, -⟩ := (HH.out wr HE.out) j hjl
      subst hab
      have HCX := Lib.hid (fun W (hW : Ext w W) => show Cl.cells W ba (oa + j * 6) l[j] from by
        obtain ⟨b', o', e', hc'⟩ := (HH.out W hW) j hjl
        cases e'
        exact hc')
      generalize clE l j l[j] = E at *
      generalize l[j] = x at *
      obtain ⟨tk, me, ar, re, be, en⟩ := x
      unfold Cl.cells at HCX
      dsimp only at *
      by_cases hE0 : E = 0
      · have g1 : (E != 0) = false := by simpa using hE0
        have HFS := Lib.hid (show fstE (callE l) (j + 1) = 0 from fstE_step HF.out (by rw [HCE.out, hE0]))
        clear hE0
        have hcase : ((en != -1) = false ∧ (psH (l.take (j + 1))).length = (psH (l.take j)).length + 1) ∨ ((en != -1) = true ∧ (psH (l.take (j + 1))).length = (psH (l.take j)).length + 1 + 1) := by
          by_cases he : en = -1
          · exact .inl ⟨by simpa using he, by rw [HP1.out, if_pos he]⟩
          · exact .inr ⟨by rw [bne_iff_ne]; exact he, by rw [HP1.out, if_neg he]⟩
        generalize (psH (l.take j)).length = p0 at *
        rcases hcase with ⟨g2, hp⟩ | ⟨g2, hp⟩
        all_goals
          have HPP := Lib.hid hp
          clear hp HP1
          go_wp2_with fail
          refine C.out.mono ?_
          intro w2 hE2
          have HE2 := Lib.hid (Ext.trans HE.out hE2)
          clear hE2
          obtain ⟨x0, x1, x2, x3, x4, x5⟩ := HCX.out w2 HE2.out
          go_wp2
          exact ⟨⟨j + 1, by omega, by go_num, by rw [HPP.out]; go_num, HFS.out, HE2.out⟩, by simp [intOf]; omega⟩
      · have g1 : (E != 0) = true := by rw [bne_iff_ne]; exact hE0
        have HRv := Lib.hid (show R = E by
          have hh : fstE (callE l) n = callE l j := fstE_at HF.out (by rw [HCE.out]; exact hE0) hlt
          rw [HR1.out, hh, HCE.out, if_pos hE0])
        clear hE0
        go_wp2_with fail
        refine C.out.mono ?_
        intro w2 hE2
        have HE2 := Lib.hid (Ext.trans HE.out hE2)
        clear hE2
        go_wp2
        go_ret
        exact ⟨by rw [HRv.out]; rfl, HE2.out⟩
    · have hjl : n = j := by omega
      subst hjl
      have HCL := Lib.hid (show ∀ i (hi : i < l.length), clE l i l[i] = 0 from fun i hi => by
        have h1 := fstE_all HF.out i (by rw [← HN.out]; exact hi)
        unfold callE at h1
        rw [List.getElem?_eq_getElem hi] at h1
        exact h1)
      have HT := Lib.hid (show l.take n = l from by rw [← HN.out]; exact List.take_length)
      have HRB := Lib.hid (show R = if ¬ ((∀ p ∈ psH l, p < (psH l).length) ∧ (psH l).Nodup) then 16 else fstE (tskE l) n by rw [HR1.out, HF.out, if_neg (by simp)])
      clear HR1 HF hlt
      rw [HT.out] at hpb ⊢
      obtain ⟨N, hN⟩ : ∃ N, (psH l).length = N := ⟨_, rfl⟩
      have HNN := Lib.hid hN
      rw [hN] at hpb ⊢
      clear hN
      go_wp2_with fail
      obtain ⟨wo, rfl⟩ : ∃ wo : World, wo = wr := ⟨_, rfl⟩
      go_loopw [6] (fun i wr => ∃ m : Nat, m ≤ N ∧ i = .int .i64 (m : Int) ∧ (∀ q : Nat, q < m → (psH l).count (q : Int) = 1) ∧ Ext w wr) (fun i _ => N - (intOf i).toNat)
      case atStart => exact ⟨0, Nat.zero_le _, rfl, fun q hq => absurd hq (Nat.not_lt_zero _), HE.out⟩
      case round =>
        obtain ⟨m, hmN, rfl, hall, hEr⟩ := hrel
        have HQ := Lib.hid hall
        have HE1 := Lib.hid hEr
        clear hall hEr
        by_cases hmt : m < N
        · have i1 : (m : Int) < (N : Int) := by omega
          go_wp2_with fail
          obtain ⟨wo2, rfl⟩ : ∃ wo2 : World, wo2 = wr := ⟨_, rfl⟩
          go_loopw [7, 8] (fun t i wr => ∃ j : Nat, j ≤ n ∧ i = .int .i64 (j : Int) ∧ t = .int .i64 (((psH (l.take j)).count (m : Int) : Nat) : Int) ∧ Ext w wr) (fun _ i _ => n - (intOf i).toNat)
          case atStart => exact ⟨0, Nat.zero_le _, rfl, by simp [psH], HE1.out⟩
          case round =>
            obtain ⟨j, hj, rfl, rfl, hEr⟩ := hrel
            have HE3 := Lib.hid hEr
            have hcb : (psH (l.take j)).count (m : Int) ≤ 200 := by
              have h1 := HPB.out j hj
              have h2 : (psH (l.take j)).count (m : Int) ≤ (psH (l.take j)).length := List.count_le_length
              omega
            clear hEr
            by_cases hlt : j < n
            · have hjl : j < l.length := by rw [HN.out]; exact hlt
              have hi0 : (0 : Int) ≤ (j : Int) := by omega
              have hi1 : (j : Int) < (n : Int) := by omega
              have HP1 := Lib.hid (show (psH (l.take (j + 1))).count (m : Int) = (psH (l.take j)).count (m : Int) + ((if l[j].beg = m then 1 else 0) + (if l[j].en = m then 1 else 0)) by rw [psH_take hjl, List.count_append, psC_count])
              obtain ⟨ba, oa, hab, hc⟩ := (HH.out wr HE3.out) j hjl
              subst hab
              generalize l[j] = x at *
              obtain ⟨tk, me, ar, re, be, en⟩ := x
              unfold Cl.cells at hc
              obtain ⟨x0, x1, x2, x3, x4, x5⟩ := hc
              dsimp only at *
              generalize (psH (l.take j)).count (m : Int) = p0 at *
              have hcase : ((be == (m : Int)) = false ∧ (en == (m : Int)) = false ∧ (psH (l.take (j + 1))).count (m : Int) = p0) ∨ ((be == (m : Int)) = true ∧ (en == (m : Int)) = false ∧ (psH (l.take (j + 1))).count (m : Int) = p0 + 1) ∨ ((be == (m : Int)) = false ∧ (en == (m : Int)) = true ∧ (psH (l.take (j + 1))).count (m : Int) = p0 + 1) ∨ ((be == (m : Int)) = true ∧ (en == (m : Int)) = true ∧ (psH (l.take (j + 1))).count (m : Int) = p0 + 1 + 1) := by
                have h1 := HP1.out
                by_cases hb : be = m <;> by_cases he : en = m
                · rw [if_pos hb, if_pos he] at h1; exact .inr (.inr (.inr ⟨by simpa using hb, by simpa using he, h1⟩))
                · rw [if_pos hb, if_neg he] at h1; exact .inr (.inl ⟨by simpa using hb, by simpa using he, h1⟩)
                · rw [if_neg hb, if_pos he] at h1; exact .inr (.inr (.inl ⟨by simpa using hb, by simpa using he, h1⟩))
                · rw [if_neg hb, if_neg he] at h1; exact .inl ⟨by simpa using hb, by simpa using he, h1⟩
              clear HP1
              rcases hcase with ⟨g1, g2, hp⟩ | ⟨g1, g2, hp⟩ | ⟨g1, g2, hp⟩ | ⟨g1, g2, hp⟩
              all_goals
                have HPP := Lib.hid hp
                clear hp
                go_wp2
                exact ⟨⟨j + 1, by omega, by go_num, by (rw [HPP.out]; try go_num), HE3.out⟩, by simp [intOf]; omega⟩
            · have hjn : n = j := by omega
              subst hjn
              rw [HT.out] at hcb ⊢
              by_cases hc1 : (psH l).count (m : Int) = 1
              · have HQ2 := Lib.hid (show ∀ q : Nat, q < m + 1 → (psH l).count (q : Int) = 1 from fun q hq => by
                  by_cases hqm : q = m
                  · rw [hqm]; exact hc1
                  · exact HQ.out q (by omega))
                rw [hc1]
                clear hc1 hcb
                go_wp2
                exact ⟨⟨m + 1, by omega, by go_num, HQ2.out, HE3.out⟩, by simp [intOf]; omega⟩
              · have HRv := Lib.hid (show R = 16 by
                  rw [HRB.out, if_pos]
                  intro hh
                  exact hc1 ((pos_iff (psH_nn HCL.out)).2 hh m (by rw [HNN.out]; exact hmt)))
                generalize (psH l).count (m : Int) = cc at *
                have g1 : ((cc : Int) != 1) = true := by rw [bne_iff_ne]; omega
                clear hc1
                go_wp2_with fail
                go_wp2
                go_ret
                exact ⟨by rw [HRv.out]; rfl, HE3.out⟩
        · have hmn : N = m := by omega
          subst hmn
          have HPO := Lib.hid (show (∀ p ∈ psH l, p < (psH l).length) ∧ (psH l).Nodup from (pos_iff (psH_nn HCL.out)).1 (by rw [HNN.out]; exact HQ.out))
          have HRC := Lib.hid (show R = fstE (tskE l) n by rw [HRB.out, if_neg (fun h => h HPO.out)])
          have HTP := Lib.hid (show (PairsOk l → fstE (tskE l) n = 0) ∧ (¬ PairsOk l → fstE (tskE l) n = 17) by
            have := tsk_pairs HCL.out HPO.out.2
            rw [HN.out] at this
            exact this)
          clear HRB HPO HQ HCL HNN HPB HPL hmt HT
          go_wp2_with fail
          obtain ⟨wo2, rfl⟩ : ∃ wo2 : World, wo2 = wr := ⟨_, rfl⟩
          go_loopw [9] (fun i wr => ∃ p : Nat, p ≤ n ∧ i = .int .i64 (p : Int) ∧ (∀ i k (hk : k < l.length) (hik : i < k), i < p → l[i].task = l[k].task → l[i].en ≠ -1 ∧ l[i].en ≤ l[k].beg) ∧ Ext w wr) (fun i _ => n - (intOf i).toNat)
          case atStart => exact ⟨0, Nat.zero_le _, rfl, fun i k hk hik hi => absurd hi (Nat.not_lt_zero _), HE1.out⟩
          case round =>
            obtain ⟨p, hpn, rfl, hall, hEr⟩ := hrel
            have HQ := Lib.hid hall
            have HE2 := Lib.hid hEr
            clear hall hEr
            by_cases hlt : p < n
            · have i1 : (p : Int) < (n : Int) := by omega
              go_wp2_with fail
              obtain ⟨wo3, rfl⟩ : ∃ wo3 : World, wo3 = wr := ⟨_, rfl⟩
              go_loopw [10] (fun i wr => ∃ k : Nat, p < k ∧ k ≤ n ∧ i = .int .i64 (k : Int) ∧ rowOk l p k ∧ Ext w wr) (fun i _ => n - (intOf i).toNat)
              case atStart => exact ⟨p + 1, by omega, by omega, by go_num, fun b hb hpb hbk => absurd hbk (by omega), HE2.out⟩
              case round =>
                obtain ⟨k, hpk, hkn, rfl, hall, hEr⟩ := hrel
                have HQ2 := Lib.hid hall
                have HE3 := Lib.hid hEr
                clear hall hEr
                by_cases hkl : k < n
                · have hi0 : (0 : Int) ≤ (p : Int) := by omega
                  have hi1 : (p : Int) < (n : Int) := by omega
                  have hj0 : (0 : Int) ≤ (k : Int) := by omega
                  have hj1 : (k : Int) < (n : Int) := by omega
                  have HPl := Lib.hid (show p < l.length by rw [HN.out]; exact hlt)
                  have HKl := Lib.hid (show k < l.length by rw [HN.out]; exact hkl)
                  have HST := Lib.hid (fun (hok : (l[p]'HPl.out).task = (l[k]'HKl.out).task → (l[p]'HPl.out).en ≠ -1 ∧ (l[p]'HPl.out).en ≤ (l[k]'HKl.out).beg) => show rowOk l p (k + 1) from fun b hb hpb hbk => by
                    by_cases hbe : b = k
                    · subst hbe; exact hok
                    · exact HQ2.out b hb hpb (by omega))
                  have HBAD := Lib.hid (fun (hok : ¬ ((l[p]'HPl.out).task = (l[k]'HKl.out).task → (l[p]'HPl.out).en ≠ -1 ∧ (l[p]'HPl.out).en ≤ (l[k]'HKl.out).beg)) => show R = 17 by
                    rw [HRC.out]
                    exact HTP.out.2 (fun hh => hok (hh p k HKl.out hpk)))
                  obtain ⟨ba, oa, hab, hc⟩ := (HH.out wr HE3.out) p HPl.out
                  subst hab
                  obtain ⟨bb, ob, hbb, hd⟩ := (HH.out wr HE3.out) k HKl.out
                  cases hbb
                  generalize l[p]'HPl.out = x at *
                  generalize l[k]'HKl.out = y at *
                  obtain ⟨tk, me, ar, re, be, en⟩ := x
                  obtain ⟨tk', me', ar', re', be', en'⟩ := y
                  unfold Cl.cells at hc hd
                  obtain ⟨x0, x1, x2, x3, x4, x5⟩ := hc
                  obtain ⟨y0, y1, y2, y3, y4, y5⟩ := hd
                  dsimp only at *
                  have hcase : ((tk == tk') = false ∧ R = R ∧ (tk = tk' → en ≠ -1 ∧ en ≤ be')) ∨ ((tk == tk') = true ∧ (en == -1) = true ∧ R = 17) ∨ ((tk == tk') = true ∧ (en == -1) = false ∧ decide (be' < en) = true ∧ R = 17) ∨ ((tk == tk') = true ∧ (en == -1) = false ∧ decide (be' < en) = false ∧ (tk = tk' → en ≠ -1 ∧ en ≤ be')) := by
                    by_cases ht : tk = tk'
                    · by_cases he : en = -1
                      · exact .inr (.inl ⟨by simpa using ht, by simpa using he, HBAD.out (fun h => (h ht).1 he)⟩)
                      · by_cases hb : be' < en
                        · exact .inr (.inr (.inl ⟨by simpa using ht, by simpa using he, by simpa using hb, HBAD.out (fun h => absurd (h ht).2 (by omega))⟩))
                        · exact .inr (.inr (.inr ⟨by simpa using ht, by simpa using he, by simpa using hb, fun _ => ⟨he, by omega⟩⟩))
                    · exact .inl ⟨by simpa using ht, rfl, fun h => absurd h ht⟩
                  clear HBAD HRC HTP HQ HQ2
                  rcases hcase with ⟨g1, -, hok⟩ | ⟨g1, g2, hv⟩ | ⟨g1, g2, g3, hv⟩ | ⟨g1, g2, g3, hok⟩
                  · have HOK := Lib.hid (HST.out hok)
                    clear hok HST
                    go_wp2_with fail
                    refine wp_region_still_lit (by kernel_rfl) (by kernel_rfl) ?_
                    refine Cx.out ?_
                    iterate 32 (refine wpStill_stepC (fun K hK => ?_); go_simp; refine hK _ ?_; clear hK K)
                    refine ⟨wpStill_nil ?_⟩
                    go_wp2
                    exact ⟨⟨k + 1, by omega, by omega, by go_num, HOK.out, Ext.drewN' (n := 1) HE3.out⟩, by simp [intOf]; omega⟩
                  · have HRv := Lib.hid hv
                    clear hv HST
                    go_wp2_with fail
                    refine wp_region_still_lit (by kernel_rfl) (by kernel_rfl) ?_
                    refine Cx.out ?_
                    iterate 32 (refine wpStill_stepC (fun K hK => ?_); go_simp; refine hK _ ?_; clear hK K)
                    refine ⟨wpStill_nil ?_⟩
                    go_wp2
                    go_ret
                    exact ⟨by rw [HRv.out]; rfl, Ext.drewN' (n := 1) HE3.out⟩
                  · have HRv := Lib.hid hv
                    clear hv HST
                    go_wp2_with fail
                    refine wp_region_still_lit (by kernel_rfl) (by kernel_rfl) ?_
                    refine Cx.out ?_
                    iterate 32 (refine wpStill_stepC (fun K hK => ?_); go_simp; refine hK _ ?_; clear hK K)
                    refine ⟨wpStill_nil ?_⟩
                    go_wp2
                    go_ret
                    exact ⟨by rw [HRv.out]; rfl, Ext.drewN' (n := 1) HE3.out⟩
                  · have HOK := Lib.hid (HST.out hok)
                    clear hok HST
                    go_wp2_with fail
                    refine wp_region_still_lit (by kernel_rfl) (by kernel_rfl) ?_
                    refine Cx.out ?_
                    iterate 32 (refine wpStill_stepC (fun K hK => ?_); go_simp; refine hK _ ?_; clear hK K)
                    refine ⟨wpStill_nil ?_⟩
                    go_wp2
                    exact ⟨⟨k + 1, by omega, by omega, by go_num, HOK.out, Ext.drewN' (n := 1) HE3.out⟩, by simp [intOf]; omega⟩
                · have hkn' : n = k := by omega
                  subst hkn'
                  have HOK := Lib.hid (show ∀ i k (hk : k < l.length) (hik : i < k), i < p + 1 → l[i].task = l[k].task → l[i].en ≠ -1 ∧ l[i].en ≤ l[k].beg from fun i k hk hik hi => by
                    by_cases hip : i = p
                    · subst hip; exact HQ2.out k hk hik (by rw [← HN.out]; exact hk)
                    · exact HQ.out i k hk hik (by omega))
                  clear HQ HQ2
                  go_wp2
                  exact ⟨⟨p + 1, by omega, by go_num, HOK.out, HE3.out⟩, by simp [intOf]; omega⟩
            · have hpe : n = p := by omega
              subst hpe
              have HRv := Lib.hid (show R = 0 by
                rw [HRC.out]
                exact HTP.out.1 (fun i k hk hik ht => HQ.out i k hk hik (by rw [← HN.out]; omega) ht))
              clear HQ HRC HTP
              go_wp2
              go_ret
              exact ⟨by rw [HRv.out]; rfl, HE2.out⟩
end Go.Proofs.YtmbkjccckmlacaaDoor

namespace Go.Proofs.YtmbkjccckmlacaaDoor
open Go.RowKit
set_option linter.unusedVariables false
set_option linter.unusedSimpArgs false

set_option maxRecDepth 100000 in
set_option maxHeartbeats 4000000 in
theorem refCk_any (k z : Int) (l : List Cl) (a : Option Addr) (c : Nat) (w : World) (hm : l.length ≤ maxLen) (h : HsAt w a l) :
    Gives Tryd.prog 36 #[.agg #[.int .i64 k, .int .i64 z], .slice a l.length c] w (.int .i64 (srE k z l)) := by
  unfold Gives
  have HX := Lib.hid (ext_allocN w (.cells #[.int .i64 k, .int .i64 z] 23))
  have c0 := mdb0 w k z
  have c1 := mdb1 w k z
  have KM := Lib.hid (fun W => refCheckModel_any k z W)
  have KH := Lib.hid (fun W (hW : Ext w W) => refCkH_any l a c W hm (h.ext hW))
  have HR := Lib.hid (show srE k z l = if mdE k z ≠ 0 then mdE k z else if ckH l ≠ 0 then 1 else if 12 < l.length then 4 else 0 from rfl)
  generalize srE k z l = R at *
  generalize mdE k z = M at *
  generalize ckH l = H at *
  unfold maxLen at hm
  clear h
  generalize l.length = n at *
  have hcase : ((M != 0) = true ∧ R = M) ∨ ((M != 0) = false ∧ (H != 0) = true ∧ R = 1) ∨ ((M != 0) = false ∧ (H != 0) = false ∧ decide ((12 : Int) < (n : Int)) = true ∧ R = 4) ∨ ((M != 0) = false ∧ (H != 0) = false ∧ decide ((12 : Int) < (n : Int)) = false ∧ R = 0) := by
    by_cases h1 : M = 0
    · by_cases h2 : H = 0
      · by_cases h3 : 12 < n
        · exact .inr (.inr (.inl ⟨by simpa using h1, by simpa using h2, by simp; omega, by rw [HR.out, if_neg (by simpa using h1), if_neg (by simpa using h2), if_pos h3]⟩))
        · exact .inr (.inr (.inr ⟨by simpa using h1, by simpa using h2, by simp; omega, by rw [HR.out, if_neg (by simpa using h1), if_neg (by simpa using h2), if_neg h3]⟩))
      · exact .inr (.inl ⟨by simpa using h1, by simpa using h2, by rw [HR.out, if_neg (by simpa using h1), if_pos h2]⟩)
    · exact .inl ⟨by simpa using h1, by rw [HR.out, if_pos h1]⟩
  rcases hcase with ⟨g1, hv⟩ | ⟨g1, g2, hv⟩ | ⟨g1, g2, g3, hv⟩ | ⟨g1, g2, g3, hv⟩
  · have HV := Lib.hid hv
    clear hv HR
    go_enter Tryd.func36, Tryd.ntmps36
    go_wp2_with fail
    refine (KM.out _).mono ?_
    intro w1 hE1
    have HE1 := Lib.hid (Ext.trans HX.out hE1)
    clear hE1
    go_wp2
    go_ret
    exact ⟨by rw [HV.out]; rfl, HE1.out⟩
  all_goals
    have HV := Lib.hid hv
    clear hv HR
    go_enter Tryd.func36, Tryd.ntmps36
    go_wp2_with fail
    refine (KM.out _).mono ?_
    intro w1 hE1
    have HE1 := Lib.hid (Ext.trans HX.out hE1)
    clear hE1
    go_wp2_with fail
    refine (KH.out w1 HE1.out).mono ?_
    intro w2 hE2
    have HE2 := Lib.hid (Ext.trans HE1.out hE2)
    clear hE2
    go_wp2
    go_ret
    exact ⟨by rw [HV.out]; rfl, HE2.out⟩
end Go.Proofs.YtmbkjccckmlacaaDoor

namespace Go.Proofs.YtmbkjccckmlacaaDoor
set_option linter.unusedVariables false
set_option linter.unusedSimpArgs false

theorem full_set {l : List Cl} {o : List Int} {s : Nat} {q : List Int} (hs : ∀ i, i < l.length → s.testBit i = decide ((i : Int) ∈ o)) : fullR l o = cmpl l (s, q) := by
  have e : ∀ i ∈ List.range l.length, (!mustF l i || decide ((i : Int) ∈ o)) = (!(must l).testBit i || s.testBit i) := fun i hi => by
    have hi := List.mem_range.1 hi
    rw [hs i hi, must_bit]
    simp [hi]
  unfold fullR cmpl subM
  rw [Bool.eq_iff_iff, List.all_eq_true, List.all_eq_true]
  exact ⟨fun h i hi => by rw [← e i hi]; exact h i hi, fun h i hi => by rw [e i hi]; exact h i hi⟩
theorem free_set {l : List Cl} {o : List Int} {s k : Nat} (hs : ∀ i, i < l.length → s.testBit i = decide ((i : Int) ∈ o)) : freeR l o k = subM (bef l k) s l.length := by
  have e : ∀ i ∈ List.range l.length, (!befF l k i || decide ((i : Int) ∈ o)) = (!(bef l k).testBit i || s.testBit i) := fun i hi => by
    have hi := List.mem_range.1 hi
    rw [hs i hi, bef_bit]
    simp [hi]
  unfold freeR subM
  rw [Bool.eq_iff_iff, List.all_eq_true, List.all_eq_true]
  exact ⟨fun h i hi => by rw [← e i hi]; exact h i hi, fun h i hi => by rw [e i hi]; exact h i hi⟩
theorem setO_bit : ∀ (o : List Int) (s i : Nat), (∀ x ∈ o, 0 ≤ x) → (setO s o).testBit i = (s.testBit i || decide ((i : Int) ∈ o))
  | [], s, i, _ => by simp [setO]
  | x :: t, s, i, h => by
    have h1 := setO_bit t (s ||| 2 ^ x.toNat) i (fun y hy => h y (List.mem_cons_of_mem _ hy))
    have h0 := h x List.mem_cons_self
    show (setO (s ||| 2 ^ x.toNat) t).testBit i = _
    rw [h1, Nat.testBit_or, Nat.testBit_two_pow]
    by_cases hx : (i : Int) = x
    · subst hx; simp
    · have : ¬ x.toNat = i := by omega
      simp [this, hx]
theorem ordE_app (nl : Nat) : ∀ (a b : List Int) (s : Nat), ordE nl s (a ++ b) = if ordE nl s a ≠ 0 then ordE nl s a else ordE nl (setO s a) b
  | [], b, s => by simp [ordE, setO]
  | x :: t, b, s => by
    rw [List.cons_append, ordE, ordE]
    split
    · simp
    · split
      · simp
      · rw [ordE_app nl t b]; rfl
/-- the numbers of a prefix that is in order are not negative -/
theorem ordE_nn (nl : Nat) : ∀ (a : List Int) (s : Nat), ordE nl s a = 0 → ∀ x ∈ a, 0 ≤ x ∧ x < nl
  | [], s, _ => by simp
  | y :: t, s, h => by
    rw [ordE] at h
    split at h
    · omega
    · next h1 =>
      split at h
      · omega
      · intro x hx
        rcases List.mem_cons.1 hx with rfl | hx
        · omega
        · exact ordE_nn nl t _ h x hx
/-- one round of the loop over the order -/
theorem ordE_take {nl : Nat} {o : List Int} {j : Nat} (hj : j < o.length) (h : ordE nl 0 (o.take j) = 0) :
    ordE nl 0 (o.take (j + 1)) = if o[j] < 0 ∨ (nl : Int) ≤ o[j] then 2 else if o[j] ∈ o.take j then 6 else 0 := by
  rw [List.take_succ_eq_append_getElem hj, ordE_app, if_neg (by simpa using h), ordE]
  by_cases h1 : o[j] < 0 ∨ (nl : Int) ≤ o[j]
  · rw [if_pos h1, if_pos h1]
  · rw [if_neg h1, if_neg h1, setO_bit _ _ _ (fun x hx => (ordE_nn nl _ _ h x hx).1)]
    have e : ((o[j].toNat : Nat) : Int) = o[j] := by omega
    rw [e]
    simp [ordE]
/-- an order that fails at one place fails -/
theorem ordE_fail {nl : Nat} {o : List Int} {j : Nat} (h : ordE nl 0 (o.take j) ≠ 0) : ordE nl 0 o = ordE nl 0 (o.take j) := by
  have e := ordE_app nl (o.take j) (o.drop j) 0
  rw [List.take_append_drop, if_pos h] at e
  exact e
end Go.Proofs.YtmbkjccckmlacaaDoor

namespace Go.Proofs.YtmbkjccckmlacaaDoor
set_option linter.unusedVariables false
set_option linter.unusedSimpArgs false

/-- the node behind an order -/
def stO (k z : Int) (l : List Cl) : Nd → List Int → Nd
  | n, [] => n
  | n, i :: t => match l[i.toNat]? with
    | none => n
    | some x => stO k z l (n.1 ||| 2 ^ i.toNat, (apM k z n.2 x.meth x.arg).1) t
theorem stO_set {k z : Int} {l : List Cl} : ∀ (a : List Int) (n : Nd), (∀ x ∈ a, x.toNat < l.length) → (stO k z l n a).1 = setO n.1 a
  | [], n, _ => rfl
  | i :: t, n, h => by
    have h0 := h i List.mem_cons_self
    rw [stO, List.getElem?_eq_getElem h0]
    exact stO_set t _ (fun x hx => h x (List.mem_cons_of_mem _ hx))
theorem folE_app {k z : Int} {l : List Cl} : ∀ (a b : List Int) (n : Nd), (∀ x ∈ a, x.toNat < l.length) → folE k z l n (a ++ b) = if folE k z l n a ≠ 0 then folE k z l n a else folE k z l (stO k z l n a) b
  | [], b, n, _ => by simp [folE, stO]
  | i :: t, b, n, h => by
    have h0 := h i List.mem_cons_self
    rw [List.cons_append, folE, folE, stO, List.getElem?_eq_getElem h0]
    dsimp only
    split
    · simp
    · split
      · rfl
      · split
        · simp
        · exact folE_app t b _ (fun x hx => h x (List.mem_cons_of_mem _ hx))
theorem stO_app {k z : Int} {l : List Cl} : ∀ (a b : List Int) (n : Nd), (∀ x ∈ a, x.toNat < l.length) → stO k z l n (a ++ b) = stO k z l (stO k z l n a) b
  | [], b, n, _ => rfl
  | i :: t, b, n, h => by
    have h0 := h i List.mem_cons_self
    rw [List.cons_append, stO, stO, List.getElem?_eq_getElem h0]
    exact stO_app t b _ (fun x hx => h x (List.mem_cons_of_mem _ hx))
theorem folE_fail {k z : Int} {l : List Cl} {o : List Int} {j : Nat} {n : Nd} (ho : ∀ x ∈ o, x.toNat < l.length) (h : folE k z l n (o.take j) ≠ 0) : folE k z l n o = folE k z l n (o.take j) := by
  have e := folE_app (k := k) (z := z) (o.take j) (o.drop j) n (fun x hx => ho x (List.mem_of_mem_take hx))
  rw [List.take_append_drop, if_pos h] at e
  exact e
end Go.Proofs.YtmbkjccckmlacaaDoor

namespace Go.Proofs.YtmbkjccckmlacaaDoor
open Go.RowKit
set_option linter.unusedVariables false
set_option linter.unusedSimpArgs false

set_option maxRecDepth 100000 in
set_option maxHeartbeats 8000000 in
theorem refVerBad_any (k z : Int) (l : List Cl) (o : List Int) (a b : Option Addr) (c d : Nat) (w : World) (hm : l.length ≤ maxLen) (h : HsAt w a l) (hI : IntsAt w b o) (hb : srE k z l ≠ 0) :
    Gives Tryd.prog 22 #[.agg #[.int .i64 k, .int .i64 z], .slice a l.length c, .slice b o.length d] w (.int .i64 (verR k z l o)) := by
  unfold Gives
  have HX := Lib.hid (ext_allocN w (.cells #[.int .i64 k, .int .i64 z] 23))
  have c0 := mdb0 w k z
  have c1 := mdb1 w k z
  have KC := Lib.hid (fun W (hW : Ext w W) => refCk_any k z l a c W hm (h.ext hW))
  have HV := Lib.hid (show verR k z l o = srE k z l by unfold verR; rw [if_pos hb])
  have g1 : (srE k z l != 0) = true := by rw [bne_iff_ne]; exact hb
  generalize verR k z l o = R at *
  generalize srE k z l = E at *
  clear h hI hb hm
  generalize l.length = n at *
  go_enter Tryd.func22, Tryd.ntmps22
  go_wp2_with fail
  refine (KC.out _ HX.out).mono ?_
  intro w1 hE1
  have HE1 := Lib.hid (Ext.trans HX.out hE1)
  clear hE1
  go_wp2
  go_ret
  exact ⟨by rw [HV.out]; rfl, HE1.out⟩
end Go.Proofs.YtmbkjccckmlacaaDoor

