/- ProgramGrows: the walk. -/
import Derived.Test.YtfkjokbhnblndaaDoorPgR1
import Derived.Test.YtfkjokbhnblndaaDoorOpPg
import Derived.Test.YtfkjokbhnblndaaDoorPgGp
import Derived.Test.YtfkjokbhnblndaaDoorRp
import Derived.Test.YtfkjokbhnblndaaDoorRt
import Derived.Deep.Cut
import Derived.Deep.CutRange
import Derived.Deep.CutBlock
namespace Go.Proofs.YtfkjokbhnblndaaDoor
open Go.RowKit Go.Shelf
set_option linter.unusedVariables false
set_option linter.unusedSimpArgs false

theorem idx_get {α : Type} (q : α → Bool) : ∀ l : List α, 0 ≤ idx q l → ∃ j, ∃ h : j < l.length, idx q l = j ∧ q l[j] = true
  | [], h => by simp [idx] at h
  | x :: l, h => by
    unfold idx at h ⊢
    cases hq : q x with
    | true => exact ⟨0, by simp, by simp, hq⟩
    | false =>
      rw [hq] at h
      simp only [Bool.false_eq_true, if_false] at h ⊢
      by_cases e : idx q l = -1
      · rw [if_pos e] at h; omega
      · have := idx_ge q l
        obtain ⟨j, hj, h1, h2⟩ := idx_get q l (by omega)
        exact ⟨j + 1, by simpa using hj, by rw [if_neg e, h1]; omega, h2⟩

/-- where the ways of the switch meet: the object that is added -/
def GrCut (p : Pg) (K : Int) (w5 wx : World) : Prop := ∃ m : Int, (K = 3 → 0 ≤ m ∧ m < p.os.length ∧ kindAt p.os m = 1) ∧ wx.heap[w5.heap.size]? = some (.cells #[.string { data := #[110, 101, 119, 95, 110, 97, 109, 101] }, .int .i64 K, .int .i64 (gOb K m).size, .int .i64 (gOb K m).oth] 35 (0, 0)) ∧ Ext w5 wx

theorem i64_0 : i64 0 := ⟨by decide, by decide⟩
theorem rows_snoc {w : World} {rs : List (Fn × Option Addr × Nat)} {f : Fn} {a : Option Addr} {c : Nat} (h : ∀ i (hi : i < rs.length), InsRow w rs[i].2.1 rs[i].1.code) (hf : f.code = []) : ∀ i (hi : i < (rs ++ [(f, a, c)]).length), InsRow w (rs ++ [(f, a, c)])[i].2.1 (rs ++ [(f, a, c)])[i].1.code := by
  intro i hi
  by_cases hlt : i < rs.length
  · rw [List.getElem_append_left hlt]; exact h i hlt
  · have e : i = rs.length := by simp at hi; omega
    subst e
    intro k hk
    simp [hf] at hk
theorem grow_wf_ob {p : Pg} (h : p.wf) {K m : Int} (hK : 1 ≤ K ∧ K ≤ 9) (hm : K = 3 → 0 ≤ m ∧ m < p.os.length ∧ kindAt p.os m = 1) (hl : p.os.length ≤ 1000000000) : Pg.wf { p with os := p.os ++ [gOb K m] } := by
  refine ⟨h.nf, by show (p.os ++ [gOb K m]).length ≤ _; rw [List.length_append]; simp; omega, h.nv, h.fs, fun x hx => ?_, h.vs⟩
  rcases List.mem_append.1 hx with hx | hx
  · exact h.os x hx
  · obtain rfl := List.mem_singleton.1 hx
    refine ⟨by show newNm.length ≤ _; decide, ⟨by show -9223372036854775808 ≤ K; omega, by show K ≤ _; omega⟩, ?_, ?_⟩
    · unfold gOb; dsimp only; split <;> exact ⟨by decide, by decide⟩
    · unfold gOb; dsimp only
      split
      · have := hm ‹_›; exact ⟨by omega, by omega⟩
      · split <;> exact ⟨by decide, by decide⟩
theorem grow_wf_va {p : Pg} (h : p.wf) (b : Bool) (hl : p.vs.length ≤ 1000000000) : Pg.wf { p with vs := p.vs ++ [⟨newNm, 0, b⟩] } := by
  refine ⟨h.nf, h.no, by show (p.vs ++ [_]).length ≤ _; rw [List.length_append]; simp; omega, h.fs, h.os, fun x hx => ?_⟩
  rcases List.mem_append.1 hx with hx | hx
  · exact h.vs x hx
  · obtain rfl := List.mem_singleton.1 hx
    exact ⟨by show newNm.length ≤ _; decide, i64_0⟩
theorem grow_wf_fn {p : Pg} (h : p.wf) (b : Bool) (hl : p.fs.length ≤ 1000000000) : Pg.wf { p with fs := p.fs ++ [⟨newNm, 0, 0, 0, b, []⟩] } := by
  refine ⟨by show (p.fs ++ [_]).length ≤ _; rw [List.length_append]; simp; omega, h.no, h.nv, fun x hx => ?_, h.os, h.vs⟩
  rcases List.mem_append.1 hx with hx | hx
  · exact h.fs x hx
  · obtain rfl := List.mem_singleton.1 hx
    exact ⟨by show newNm.length ≤ _; decide, i64_0, i64_0, i64_0, Nat.zero_le _, fun c hc => by cases hc⟩

theorem gr1 (n : List UInt8) (z1 : Int) (z2 : Int) (z3 : Int) (w : World) : Gives Tryd.prog 14 #[.agg #[sV n, .int .i64 z1, .int .i64 z2, .int .i64 z3]] w (.bool (n == newNm)) := by
  unfold Gives
  go_enter Tryd.func14, Tryd.ntmps14
  go_wp2
  go_ret
  exact ⟨rfl, (Below.refl _ w).alloc (Nat.le_refl _) _⟩

theorem gr2 (n : List UInt8) (z1 : Int) (z2 : Bool) (w : World) : Gives Tryd.prog 16 #[.agg #[sV n, .int .i64 z1, .bool z2]] w (.bool (n == newNm)) := by
  unfold Gives
  go_enter Tryd.func16, Tryd.ntmps16
  go_wp2
  go_ret
  exact ⟨rfl, (Below.refl _ w).alloc (Nat.le_refl _) _⟩

theorem gr3 (n : List UInt8) (z1 : Int) (z2 : Int) (z3 : Int) (z4 : Bool) (ca : Option Addr) (z5 cc : Nat) (w : World) : Gives Tryd.prog 18 #[.agg #[sV n, .int .i64 z1, .int .i64 z2, .int .i64 z3, .bool z4, .slice ca z5 cc]] w (.bool (n == newNm)) := by
  unfold Gives
  go_enter Tryd.func18, Tryd.ntmps18
  go_wp2
  go_ret
  exact ⟨rfl, (Below.refl _ w).alloc (Nat.le_refl _) _⟩

theorem gr4 (n : List UInt8) (z1 : Int) (z2 : Int) (z3 : Int) (w : World) : Gives Tryd.prog 20 #[.agg #[sV n, .int .i64 z1, .int .i64 z2, .int .i64 z3]] w (.bool (z1 == 1)) := by
  unfold Gives
  go_enter Tryd.func20, Tryd.ntmps20
  go_wp2
  go_ret
  exact ⟨rfl, (Below.refl _ w).alloc (Nat.le_refl _) _⟩

set_option maxRecDepth 100000 in
set_option maxHeartbeats 8000000 in
theorem programGrows_main (p : Pg) (A : PA) (kd : Int) (w : World) (h : PgAt w p A) (hkd : 0 ≤ kd ∧ kd ≤ 255) (hT : TabW w) : Gives Tryd.prog 4 #[PV p A, .int .u8 kd] w (.bool true) := by
  unfold Gives
  have HP := Lib.hid h
  have HKD := Lib.hid hkd
  have hk0 := hkd.1
  have hk1 := hkd.2
  have KG := Lib.hid (fun W (hW : Ext w W) => Great_any p A W (h.ext hW))
  have KC := Lib.hid (fun W (hW : Ext w W) => Check_any p A W (h.ext hW))
  have KA := Lib.hid (fun W (hW : Ext w W) => awake_any W (hT.below hW))
  have KO := Lib.hid (fun W (hW : Ext w W) => ContainsOb_any p.os A.oa A.oc 14 #[] (fun x => x.name == newNm) W (HP.out.ext hW).os HP.out.wf.no (enters_fn Tryd.func14 (by kernel_rfl) rfl) (fun j hj W2 hW2 => gr1 _ _ _ _ W2))
  have KV := Lib.hid (fun W (hW : Ext w W) => ContainsVa_any p.vs A.va A.vc 16 #[] (fun x => x.name == newNm) W (HP.out.ext hW).vs HP.out.wf.nv (enters_fn Tryd.func16 (by kernel_rfl) rfl) (fun j hj W2 hW2 => gr2 _ _ _ W2))
  have KF := Lib.hid (fun W (hW : Ext w W) => ContainsFn_any p.fs A.fa A.fc 18 #[] (fun x => x.name == newNm) W (HP.out.ext hW).fs HP.out.wf.nf (enters_fn Tryd.func18 (by kernel_rfl) rfl) (fun j hj ca cc W2 hW2 _ => gr3 _ _ _ _ _ _ _ _ W2))
  have KI := Lib.hid (fun W (hW : Ext w W) => IndexOb_any p.os A.oa A.oc 20 #[] (fun x => x.kind == 1) W (HP.out.ext hW).os HP.out.wf.no (enters_fn Tryd.func20 (by kernel_rfl) rfl) (fun j hj W2 hW2 => gr4 _ _ _ _ W2))
  obtain ⟨ck, hck⟩ : ∃ c, ckPg p = c := ⟨_, rfl⟩
  rw [hck] at KC
  have HVD := Lib.hid (fun e : ck = 0 => valid_iff.1 (hck.trans e))
  obtain ⟨o1, ho1⟩ : ∃ b, p.os.any (fun x => x.name == newNm) = b := ⟨_, rfl⟩
  obtain ⟨v1, hv1⟩ : ∃ b, p.vs.any (fun x => x.name == newNm) = b := ⟨_, rfl⟩
  obtain ⟨f1, hf1⟩ : ∃ b, p.fs.any (fun x => x.name == newNm) = b := ⟨_, rfl⟩
  rw [ho1] at KO
  rw [hv1] at KV
  rw [hf1] at KF
  have HO1 := Lib.hid ho1
  have HV1 := Lib.hid hv1
  have HF1 := Lib.hid hf1
  obtain ⟨ix, hix⟩ : ∃ b, idx (fun x : Ob => x.kind == 1) p.os = b := ⟨_, rfl⟩
  rw [hix] at KI
  have HIX := Lib.hid hix
  have hno := h.wf.no
  have hnv := h.wf.nv
  have hnf := h.wf.nf
  clear h hT hck ho1 hv1 hf1 hix hkd
  obtain ⟨fa, fc, oa, oc, va, vc⟩ := A
  dsimp only [PV] at KG KC KO KV KF KI ⊢
  obtain ⟨wk, hwk⟩ : ∃ W, W = (w.alloc (.cells #[.slice fa p.fs.length fc, .slice oa p.os.length oc, .slice va p.vs.length vc] 26)) := ⟨_, rfl⟩
  have BX := Lib.hid (show ∀ W, Ext wk W → (W.cell? ⟨w.heap.size, 0, none⟩ = some (.slice fa p.fs.length fc) ∧ W.cell? ⟨w.heap.size, 1, none⟩ = some (.slice oa p.os.length oc) ∧ W.cell? ⟨w.heap.size, 2, none⟩ = some (.slice va p.vs.length vc)) from fun W hW => by
    subst hwk
    have h0 := alloc_here w (.cells #[.slice fa p.fs.length fc, .slice oa p.os.length oc, .slice va p.vs.length vc] 26)
    have k0 := (hW.below.block _ (lt_of_block h0)).trans h0
    exact ⟨cell_of k0 rfl, cell_of k0 rfl, cell_of k0 rfl⟩)
  have HWZ := Lib.hid (show wk.heap.size = w.heap.size + 1 by rw [hwk]; simp)
  have HW := Lib.hid (show Ext w wk by rw [hwk]; exact (ext_alloc (Below.refl _ _) _))
  have HE0 := Lib.hid (show Ext wk wk from Below.refl _ _)
  go_enter Tryd.func4, Tryd.ntmps4
  go_wp2_with fail
  rw [← hwk]
  clear hwk
  refine Calls.mono (KG.out _ HW.out) ?_
  rintro _ w1 ⟨b, rfl, hE⟩
  have HE1 := Lib.hid (Ext.trans HE0.out hE)
  have HX1 := Lib.hid (Ext.trans HW.out HE1.out)
  clear hE
  obtain ⟨d0_0, d0_1, d0_2⟩ := BX.out _ HE1.out
  cases b with
  | true =>
    go_wp2_with fail
    refine (KA.out _ HX1.out).mono ?_
    intro wz hBz
    have HEz := Lib.hid (Ext.trans HX1.out hBz)
    clear hBz
    go_wp2
    go_ret
    exact ⟨rfl, HEz.out⟩
  | false =>
    go_wp2_with fail
    clear d0_0 d0_1 d0_2
    refine (KC.out _ HX1.out).mono ?_
    intro w2 hE
    have HE2 := Lib.hid (Ext.trans HE1.out hE)
    have HX2 := Lib.hid (Ext.trans HW.out HE2.out)
    clear hE
    obtain ⟨d0_0, d0_1, d0_2⟩ := BX.out _ HE2.out
    by_cases hc0 : ck = 0
    case neg =>
      have g0 : (ck != 0) = true := by rw [bne_iff_ne]; exact hc0
      clear hc0
      go_wp2_with fail
      refine (KA.out _ HX2.out).mono ?_
      intro wz hBz
      have HEz := Lib.hid (Ext.trans HX2.out hBz)
      clear hBz
      go_wp2
      go_ret
      exact ⟨rfl, HEz.out⟩
    case pos =>
      subst hc0
      have HV := Lib.hid (HVD.out rfl)
      clear HVD
      by_cases hqo : p.os.length = 16
      case pos =>
        have go : ((p.os.length : Int) == 16) = true := by rw [beq_iff_eq]; omega
        clear hqo
        go_wp2_with fail
        refine (KA.out _ HX2.out).mono ?_
        intro wz hBz
        have HEz := Lib.hid (Ext.trans HX2.out hBz)
        clear hBz
        go_wp2
        go_ret
        exact ⟨rfl, HEz.out⟩
      case neg =>
        have HQo := Lib.hid hqo
        have go : ((p.os.length : Int) == 16) = false := by rw [beq_eq_false_iff_ne]; omega
        clear hqo
        by_cases hqv : p.vs.length = 16
        case pos =>
          have gv : ((p.vs.length : Int) == 16) = true := by rw [beq_iff_eq]; omega
          clear hqv
          go_wp2_with fail
          refine (KA.out _ HX2.out).mono ?_
          intro wz hBz
          have HEz := Lib.hid (Ext.trans HX2.out hBz)
          clear hBz
          go_wp2
          go_ret
          exact ⟨rfl, HEz.out⟩
        case neg =>
          have HQv := Lib.hid hqv
          have gv : ((p.vs.length : Int) == 16) = false := by rw [beq_eq_false_iff_ne]; omega
          clear hqv
          by_cases hqf : p.fs.length = 32
          case pos =>
            have gf : ((p.fs.length : Int) == 32) = true := by rw [beq_iff_eq]; omega
            clear hqf
            go_wp2_with fail
            refine (KA.out _ HX2.out).mono ?_
            intro wz hBz
            have HEz := Lib.hid (Ext.trans HX2.out hBz)
            clear hBz
            go_wp2
            go_ret
            exact ⟨rfl, HEz.out⟩
          case neg =>
            have HQf := Lib.hid hqf
            have gf : ((p.fs.length : Int) == 32) = false := by rw [beq_eq_false_iff_ne]; omega
            clear hqf
            go_wp2_with fail
            clear d0_0 d0_1 d0_2
            refine (KO.out _ HX2.out).mono ?_
            intro w3 hE
            have HE3 := Lib.hid (Ext.trans HE2.out hE)
            have HX3 := Lib.hid (Ext.trans HW.out HE3.out)
            clear hE
            obtain ⟨d0_0, d0_1, d0_2⟩ := BX.out _ HE3.out
            cases o1 with
            | true =>
              go_wp2_with fail
              refine (KA.out _ HX3.out).mono ?_
              intro wz hBz
              have HEz := Lib.hid (Ext.trans HX3.out hBz)
              clear hBz
              go_wp2
              go_ret
              exact ⟨rfl, HEz.out⟩
            | false =>
              go_wp2_with fail
              clear d0_0 d0_1 d0_2
              refine (KV.out _ HX3.out).mono ?_
              intro w4 hE
              have HE4 := Lib.hid (Ext.trans HE3.out hE)
              have HX4 := Lib.hid (Ext.trans HW.out HE4.out)
              clear hE
              obtain ⟨d0_0, d0_1, d0_2⟩ := BX.out _ HE4.out
              cases v1 with
              | true =>
                go_wp2_with fail
                refine (KA.out _ HX4.out).mono ?_
                intro wz hBz
                have HEz := Lib.hid (Ext.trans HX4.out hBz)
                clear hBz
                go_wp2
                go_ret
                exact ⟨rfl, HEz.out⟩
              | false =>
                go_wp2_with fail
                clear d0_0 d0_1 d0_2
                refine (KF.out _ HX4.out).mono ?_
                intro w5 hE
                have HE5 := Lib.hid (Ext.trans HE4.out hE)
                have HX5 := Lib.hid (Ext.trans HW.out HE5.out)
                clear hE
                cases f1 with
                | true =>
                  go_wp2_with fail
                  refine (KA.out _ HX5.out).mono ?_
                  intro wz hBz
                  have HEz := Lib.hid (Ext.trans HX5.out hBz)
                  clear hBz
                  go_wp2
                  go_ret
                  exact ⟨rfl, HEz.out⟩
                | false =>
                  obtain ⟨d0_0, d0_1, d0_2⟩ := BX.out _ HE5.out
                  obtain ⟨K, hK⟩ : ∃ K, 1 + kd % 9 = K := ⟨_, rfl⟩
                  have HK := Lib.hid (show 1 ≤ K ∧ K ≤ 9 by omega)
                  have hlt5 : w.heap.size < w5.heap.size := by have := HE5.out.size; have h2 := HWZ.out; omega
                  go_upto_block 0 with fail
                  have HKQ := Lib.hid hK
                  clear hK
                  go_cut [] from 59 to 77 (fun wx => GrCut p K w5 wx)
                  case first =>
                    by_cases hk3 : K = 3
                    · subst hk3
                      go_wp2_with fail
                      clear d0_0 d0_1 d0_2
                      have hEa : Ext w5 (w5.alloc (.cells #[.string { data := #[110, 101, 119, 95, 110, 97, 109, 101] }, .int .i64 3, .int .i64 0, .int .i64 0] 35)) := ext_alloc (Below.refl _ _) _
                      refine (KI.out _ (Ext.trans HX5.out hEa)).mono ?_
                      intro w7 hE7
                      have HB6 := Lib.hid ((hE7.block _ (lt_of_block (alloc_here w5 _))).trans (alloc_here w5 (.cells #[.string { data := #[110, 101, 119, 95, 110, 97, 109, 101] }, .int .i64 3, .int .i64 0, .int .i64 0] 35)))
                      have HE7 := Lib.hid (Ext.trans hEa hE7)
                      have HT7 := Lib.hid ((Turn.refl HB6.out).setCell (i := 3) (.int .i64 ix))
                      have HE8 := Lib.hid (show Ext w5 (w7.setCell ⟨w5.heap.size, 3, none⟩ (.int .i64 ix)) from Below.trans HE7.out (HT7.out.below (Nat.le_refl _) HE7.out.size))
                      have c3 : w7.cell? ⟨w5.heap.size, 3, none⟩ = some (.int .i64 0) := cell_of HB6.out rfl
                      have f3 : w7.frozen? ⟨w5.heap.size, 3, none⟩ = false := free_of HB6.out
                      clear hE7 hEa
                      by_cases hix : ix < 0
                      · go_wp2_with fail
                        refine (KA.out _ (Ext.trans HX5.out HE8.out)).mono ?_
                        intro wz hBz
                        have HEz := Lib.hid (Ext.trans (Ext.trans HX5.out HE8.out) hBz)
                        clear hBz
                        go_wp2
                        go_ret
                        exact ⟨rfl, HEz.out⟩
                      · have HGE := Lib.hid hix
                        go_wp2
                        go_meet
                        refine ⟨ix, fun _ => ?_, HT7.out.here, HE8.out⟩
                        obtain ⟨j, hj, e1, e2⟩ := idx_get (fun x : Ob => x.kind == 1) p.os (by rw [HIX.out]; omega)
                        rw [HIX.out] at e1
                        subst e1
                        refine ⟨by omega, by omega, ?_⟩
                        have e3 : (p.os[j]).kind = 1 := by simpa using e2
                        simp [kindAt, hj, e3]
                    · obtain hq | hq | hq | hq | hq | hq | hq | hq : K = 1 ∨ K = 2 ∨ K = 4 ∨ K = 5 ∨ K = 6 ∨ K = 7 ∨ K = 8 ∨ K = 9 := by have := HK.out; omega
                      all_goals
                        subst hq
                        clear hk3
                        go_wp2
                        go_meet
                        exact ⟨0, fun e => by omega, by simpa [gOb] using alloc_here w5 _, ext_alloc (Below.refl _ _) _⟩
                  case rest =>
                    obtain ⟨m, hm, hb6, hE6⟩ := hcut
                    have HM := Lib.hid hm
                    have HB6 := Lib.hid hb6
                    have HEC := Lib.hid (Ext.trans HE5.out hE6)
                    clear hm hb6 hE6
                    go_upto_region 19 with fail
                    refine wp_region_gp (l := [_, _, _, _, _, _, _, _, _]) (by kernel_rfl) (fun j => j == 3 || j == 4 || j == 5) (Grow wc.heap.size 26 (fun c => c = #[.slice fa p.fs.length fc, .slice oa p.os.length oc, .slice va p.vs.length vc])) (Grow.drawn _ _ _) Grow.trans
                      (fun i s W => match i with
                         | 0 => s 0 = .agg #[.slice fa p.fs.length fc, .slice oa p.os.length oc, .slice va p.vs.length vc]
                         | 1 => s 1 = .agg #[.slice fa p.fs.length fc, .slice oa p.os.length oc, .slice va p.vs.length vc]
                         | 2 => s 2 = .agg #[.slice fa p.fs.length fc, .slice oa p.os.length oc, .slice va p.vs.length vc]
                         | 3 => ∃ g cc, s 3 = .pointer (some ⟨g, 0, none⟩) ∧ wc.heap.size ≤ g ∧ W.heap[g]? = some (.cells cc 26 (0, 0)) ∧ cc.size = 3
                         | 4 => ∃ g cc, s 4 = .pointer (some ⟨g, 0, none⟩) ∧ wc.heap.size ≤ g ∧ W.heap[g]? = some (.cells cc 26 (0, 0)) ∧ cc.size = 3
                         | 5 => ∃ g cc, s 5 = .pointer (some ⟨g, 0, none⟩) ∧ wc.heap.size ≤ g ∧ W.heap[g]? = some (.cells cc 26 (0, 0)) ∧ cc.size = 3
                         | 6 => ∃ g cc, s 3 = .pointer (some ⟨g, 0, none⟩) ∧ W.heap[g]? = some (.cells cc 26 (0, 0)) ∧ cc = #[.slice fa p.fs.length fc, .slice oa p.os.length oc, .slice va p.vs.length vc]
                         | 7 => ∃ g cc, s 4 = .pointer (some ⟨g, 0, none⟩) ∧ W.heap[g]? = some (.cells cc 26 (0, 0)) ∧ cc = #[.slice fa p.fs.length fc, .slice oa p.os.length oc, .slice va p.vs.length vc]
                         | 8 => ∃ g cc, s 5 = .pointer (some ⟨g, 0, none⟩) ∧ W.heap[g]? = some (.cells cc 26 (0, 0)) ∧ cc = #[.slice fa p.fs.length fc, .slice oa p.os.length oc, .slice va p.vs.length vc]
                         | _ => True)
                      (fun j => match j with | 6 => [3] | 7 => [4] | 8 => [5] | j => [j])
                      (by
                         intro i s s' W W' h hs hR
                         match i, h, hs with
                         | 0, h, hs => exact (hs 0 (by simp)).trans h
                         | 1, h, hs => exact (hs 1 (by simp)).trans h
                         | 2, h, hs => exact (hs 2 (by simp)).trans h
                         | 3, ⟨g, cc, h1, h2, h3, h4⟩, hs => obtain ⟨c', e1, e2⟩ := hR.turn h3; exact ⟨g, c', (hs 3 (by simp)).trans h1, h2, e1, by omega⟩
                         | 4, ⟨g, cc, h1, h2, h3, h4⟩, hs => obtain ⟨c', e1, e2⟩ := hR.turn h3; exact ⟨g, c', (hs 4 (by simp)).trans h1, h2, e1, by omega⟩
                         | 5, ⟨g, cc, h1, h2, h3, h4⟩, hs => obtain ⟨c', e1, e2⟩ := hR.turn h3; exact ⟨g, c', (hs 5 (by simp)).trans h1, h2, e1, by omega⟩
                         | 6, ⟨g, cc, h1, h2, h3⟩, hs => obtain ⟨c', e1, e2⟩ := hR.done h2 h3; exact ⟨g, c', (hs 3 (by simp)).trans h1, e1, e2⟩
                         | 7, ⟨g, cc, h1, h2, h3⟩, hs => obtain ⟨c', e1, e2⟩ := hR.done h2 h3; exact ⟨g, c', (hs 4 (by simp)).trans h1, e1, e2⟩
                         | 8, ⟨g, cc, h1, h2, h3⟩, hs => obtain ⟨c', e1, e2⟩ := hR.done h2 h3; exact ⟨g, c', (hs 5 (by simp)).trans h1, e1, e2⟩
                         | i + 9, h, hs => exact trivial)
                      (by kernel_rfl) (by kernel_rfl) (by kernel_rfl) 122 rfl (by kernel_rfl) ?_ ?_
                    · intro i op ho a' W hA
                      have hEW : Ext wc W := hA.rel.ext
                      obtain ⟨x0, x1, x2⟩ := BX.out W (Ext.trans HEC.out hEW)
                      match i, ho with
                      | 0, ho =>
                        obtain rfl := Option.some.inj ho
                        refine GoesG.toP (by rfl) ?_
                        have e1 : a'.eval (.tmp 2) = .pointer (some ⟨w.heap.size, 0, none⟩) := hA.keep 2 (by kernel_rfl)
                        refine GoesG.value (.agg #[.slice fa p.fs.length fc, .slice oa p.os.length oc, .slice va p.vs.length vc]) rfl ?_ (Grow.refl _ _ _ _) (fun s h1 h2 => h1 rfl)
                        simp only [execOp, e1]
                        simp [go_sem, x0, x1, x2]
                      | 1, ho =>
                        obtain rfl := Option.some.inj ho
                        refine GoesG.toP (by rfl) ?_
                        have e1 : a'.eval (.tmp 2) = .pointer (some ⟨w.heap.size, 0, none⟩) := hA.keep 2 (by kernel_rfl)
                        refine GoesG.value (.agg #[.slice fa p.fs.length fc, .slice oa p.os.length oc, .slice va p.vs.length vc]) rfl ?_ (Grow.refl _ _ _ _) (fun s h1 h2 => h1 rfl)
                        simp only [execOp, e1]
                        simp [go_sem, x0, x1, x2]
                      | 2, ho =>
                        obtain rfl := Option.some.inj ho
                        refine GoesG.toP (by rfl) ?_
                        have e1 : a'.eval (.tmp 2) = .pointer (some ⟨w.heap.size, 0, none⟩) := hA.keep 2 (by kernel_rfl)
                        refine GoesG.value (.agg #[.slice fa p.fs.length fc, .slice oa p.os.length oc, .slice va p.vs.length vc]) rfl ?_ (Grow.refl _ _ _ _) (fun s h1 h2 => h1 rfl)
                        simp only [execOp, e1]
                        simp [go_sem, x0, x1, x2]
                      | 3, ho =>
                        obtain rfl := Option.some.inj ho
                        refine GoesP.alloc (.pointer (some ⟨W.heap.size, 0, none⟩)) (W' := W.alloc (.cells #[.slice none 0 0, .slice none 0 0, .slice none 0 0] 26)) rfl rfl ?_ (Grow.of_ext (ext_alloc (Below.refl _ _) _)) (fun s h1 h2 => ⟨W.heap.size, _, h1 rfl, hA.rel.size, alloc_here _ _, rfl⟩) (fun j s hal hj e => ?_)
                        · simp only [execOp]
                          simp [go_sem]
                        · have hj3 : j = 3 ∨ j = 4 ∨ j = 5 := by have h9 := hal; simp at h9; omega
                          rcases hj3 with rfl | rfl | rfl
                          · obtain ⟨g, cc, h1, h2, h3, h4⟩ := hj
                            rw [h1] at e
                            cases e
                            exact absurd (lt_of_block h3) (Nat.lt_irrefl _)
                          · obtain ⟨g, cc, h1, h2, h3, h4⟩ := hj
                            rw [h1] at e
                            cases e
                            exact absurd (lt_of_block h3) (Nat.lt_irrefl _)
                          · obtain ⟨g, cc, h1, h2, h3, h4⟩ := hj
                            rw [h1] at e
                            cases e
                            exact absurd (lt_of_block h3) (Nat.lt_irrefl _)
                      | 4, ho =>
                        obtain rfl := Option.some.inj ho
                        refine GoesP.alloc (.pointer (some ⟨W.heap.size, 0, none⟩)) (W' := W.alloc (.cells #[.slice none 0 0, .slice none 0 0, .slice none 0 0] 26)) rfl rfl ?_ (Grow.of_ext (ext_alloc (Below.refl _ _) _)) (fun s h1 h2 => ⟨W.heap.size, _, h1 rfl, hA.rel.size, alloc_here _ _, rfl⟩) (fun j s hal hj e => ?_)
                        · simp only [execOp]
                          simp [go_sem]
                        · have hj3 : j = 3 ∨ j = 4 ∨ j = 5 := by have h9 := hal; simp at h9; omega
                          rcases hj3 with rfl | rfl | rfl
                          · obtain ⟨g, cc, h1, h2, h3, h4⟩ := hj
                            rw [h1] at e
                            cases e
                            exact absurd (lt_of_block h3) (Nat.lt_irrefl _)
                          · obtain ⟨g, cc, h1, h2, h3, h4⟩ := hj
                            rw [h1] at e
                            cases e
                            exact absurd (lt_of_block h3) (Nat.lt_irrefl _)
                          · obtain ⟨g, cc, h1, h2, h3, h4⟩ := hj
                            rw [h1] at e
                            cases e
                            exact absurd (lt_of_block h3) (Nat.lt_irrefl _)
                      | 5, ho =>
                        obtain rfl := Option.some.inj ho
                        refine GoesP.alloc (.pointer (some ⟨W.heap.size, 0, none⟩)) (W' := W.alloc (.cells #[.slice none 0 0, .slice none 0 0, .slice none 0 0] 26)) rfl rfl ?_ (Grow.of_ext (ext_alloc (Below.refl _ _) _)) (fun s h1 h2 => ⟨W.heap.size, _, h1 rfl, hA.rel.size, alloc_here _ _, rfl⟩) (fun j s hal hj e => ?_)
                        · simp only [execOp]
                          simp [go_sem]
                        · have hj3 : j = 3 ∨ j = 4 ∨ j = 5 := by have h9 := hal; simp at h9; omega
                          rcases hj3 with rfl | rfl | rfl
                          · obtain ⟨g, cc, h1, h2, h3, h4⟩ := hj
                            rw [h1] at e
                            cases e
                            exact absurd (lt_of_block h3) (Nat.lt_irrefl _)
                          · obtain ⟨g, cc, h1, h2, h3, h4⟩ := hj
                            rw [h1] at e
                            cases e
                            exact absurd (lt_of_block h3) (Nat.lt_irrefl _)
                          · obtain ⟨g, cc, h1, h2, h3, h4⟩ := hj
                            rw [h1] at e
                            cases e
                            exact absurd (lt_of_block h3) (Nat.lt_irrefl _)
                      | 6, ho =>
                        obtain rfl := Option.some.inj ho
                        refine GoesG.toP (by rfl) ?_
                        obtain ⟨g, cc, e0, hB2, hg, hcc⟩ := hA.new 3 (by decide) (by kernel_rfl)
                        have e1 : a'.eval (.tmp 7) = .pointer (some ⟨g, 0, none⟩) := (sv_dst (l := _) rfl).symm.trans e0
                        have e2 : a'.eval (.tmp 78) = .agg #[.slice fa p.fs.length fc, .slice oa p.os.length oc, .slice va p.vs.length vc] := (sv_dst (l := _) rfl).symm.trans (hA.new 0 (by decide) (by kernel_rfl))
                        exact GoesG.store rfl 26 (.tmp 7) (.tmp 78) rfl g #[.slice fa p.fs.length fc, .slice oa p.os.length oc, .slice va p.vs.length vc] e1 e2 26 cc hg (by kernel_rfl) hcc (by simp [Value.oneCell']) rfl (Grow.row hg hB2 hcc.symm rfl)
                          (fun s h2 => ⟨g, _, (h2 3 (by decide) (by kernel_rfl)).trans e0, setRow_heap _ _ _ _ _ _ hg, rfl⟩)
                      | 7, ho =>
                        obtain rfl := Option.some.inj ho
                        refine GoesG.toP (by rfl) ?_
                        obtain ⟨g, cc, e0, hB2, hg, hcc⟩ := hA.new 4 (by decide) (by kernel_rfl)
                        have e1 : a'.eval (.tmp 8) = .pointer (some ⟨g, 0, none⟩) := (sv_dst (l := _) rfl).symm.trans e0
                        have e2 : a'.eval (.tmp 79) = .agg #[.slice fa p.fs.length fc, .slice oa p.os.length oc, .slice va p.vs.length vc] := (sv_dst (l := _) rfl).symm.trans (hA.new 1 (by decide) (by kernel_rfl))
                        exact GoesG.store rfl 26 (.tmp 8) (.tmp 79) rfl g #[.slice fa p.fs.length fc, .slice oa p.os.length oc, .slice va p.vs.length vc] e1 e2 26 cc hg (by kernel_rfl) hcc (by simp [Value.oneCell']) rfl (Grow.row hg hB2 hcc.symm rfl)
                          (fun s h2 => ⟨g, _, (h2 4 (by decide) (by kernel_rfl)).trans e0, setRow_heap _ _ _ _ _ _ hg, rfl⟩)
                      | 8, ho =>
                        obtain rfl := Option.some.inj ho
                        refine GoesG.toP (by rfl) ?_
                        obtain ⟨g, cc, e0, hB2, hg, hcc⟩ := hA.new 5 (by decide) (by kernel_rfl)
                        have e1 : a'.eval (.tmp 9) = .pointer (some ⟨g, 0, none⟩) := (sv_dst (l := _) rfl).symm.trans e0
                        have e2 : a'.eval (.tmp 80) = .agg #[.slice fa p.fs.length fc, .slice oa p.os.length oc, .slice va p.vs.length vc] := (sv_dst (l := _) rfl).symm.trans (hA.new 2 (by decide) (by kernel_rfl))
                        exact GoesG.store rfl 26 (.tmp 9) (.tmp 80) rfl g #[.slice fa p.fs.length fc, .slice oa p.os.length oc, .slice va p.vs.length vc] e1 e2 26 cc hg (by kernel_rfl) hcc (by simp [Value.oneCell']) rfl (Grow.row hg hB2 hcc.symm rfl)
                          (fun s h2 => ⟨g, _, (h2 5 (by decide) (by kernel_rfl)).trans e0, setRow_heap _ _ _ _ _ _ hg, rfl⟩)
                      | i + 9, ho => cases ho
                    · intro vs w8 hvs hG hΦ hpair
                      obtain ⟨y0, y1, y2, y3, y4, y5, y6, y7, y8, rfl⟩ : ∃ y0 y1 y2 y3 y4 y5 y6 y7 y8, vs = [y0, y1, y2, y3, y4, y5, y6, y7, y8] := by
                        match vs, hvs with
                        | [y0, y1, y2, y3, y4, y5, y6, y7, y8], _ => exact ⟨_, _, _, _, _, _, _, _, _, rfl⟩
                      obtain ⟨g7, c7, hy3, hg7, rfl⟩ : ∃ g cc, y3 = .pointer (some ⟨g, 0, none⟩) ∧ w8.heap[g]? = some (.cells cc 26 (0, 0)) ∧ cc = #[.slice fa p.fs.length fc, .slice oa p.os.length oc, .slice va p.vs.length vc] := hΦ 6 (by decide)
                      obtain ⟨g8, c8, hy4, hg8, rfl⟩ : ∃ g cc, y4 = .pointer (some ⟨g, 0, none⟩) ∧ w8.heap[g]? = some (.cells cc 26 (0, 0)) ∧ cc = #[.slice fa p.fs.length fc, .slice oa p.os.length oc, .slice va p.vs.length vc] := hΦ 7 (by decide)
                      obtain ⟨g9, c9, hy5, hg9, rfl⟩ : ∃ g cc, y5 = .pointer (some ⟨g, 0, none⟩) ∧ w8.heap[g]? = some (.cells cc 26 (0, 0)) ∧ cc = #[.slice fa p.fs.length fc, .slice oa p.os.length oc, .slice va p.vs.length vc] := hΦ 8 (by decide)
                      have hB7 : wc.heap.size ≤ g7 := by
                        obtain ⟨g, cc, h1, h2, _⟩ : ∃ g cc, y3 = .pointer (some ⟨g, 0, none⟩) ∧ wc.heap.size ≤ g ∧ _ := hΦ 3 (by decide)
                        rw [hy3] at h1; cases h1; exact h2
                      have hB8 : wc.heap.size ≤ g8 := by
                        obtain ⟨g, cc, h1, h2, _⟩ : ∃ g cc, y4 = .pointer (some ⟨g, 0, none⟩) ∧ wc.heap.size ≤ g ∧ _ := hΦ 4 (by decide)
                        rw [hy4] at h1; cases h1; exact h2
                      have hB9 : wc.heap.size ≤ g9 := by
                        obtain ⟨g, cc, h1, h2, _⟩ : ∃ g cc, y5 = .pointer (some ⟨g, 0, none⟩) ∧ wc.heap.size ≤ g ∧ _ := hΦ 5 (by decide)
                        rw [hy5] at h1; cases h1; exact h2
                      have hn78 : g7 ≠ g8 := fun e => hpair 3 4 (by decide) (by decide) (by decide) rfl rfl (by show y3 = y4; rw [hy3, hy4, e])
                      have hn79 : g7 ≠ g9 := fun e => hpair 3 5 (by decide) (by decide) (by decide) rfl rfl (by show y3 = y5; rw [hy3, hy5, e])
                      have hn89 : g8 ≠ g9 := fun e => hpair 4 5 (by decide) (by decide) (by decide) rfl rfl (by show y4 = y5; rw [hy4, hy5, e])
                      have HE8 := Lib.hid (show Ext wc w8 from hG.ext)
                      have hy0 : y0 = .agg #[.slice fa p.fs.length fc, .slice oa p.os.length oc, .slice va p.vs.length vc] := hΦ 0 (by decide)
                      have hy1 : y1 = .agg #[.slice fa p.fs.length fc, .slice oa p.os.length oc, .slice va p.vs.length vc] := hΦ 1 (by decide)
                      have hy2 : y2 = .agg #[.slice fa p.fs.length fc, .slice oa p.os.length oc, .slice va p.vs.length vc] := hΦ 2 (by decide)
                      clear hΦ hvs hG hpair
                      subst hy0 hy1 hy2 hy3 hy4 hy5
                      simp only [putAll, Act.put, List.setIfInBounds_toArray, List.set_cons_succ, List.set_cons_zero]
                      have HG7 := Lib.hid hg7
                      have HG8 := Lib.hid hg8
                      have HG9 := Lib.hid hg9
                      have HN := Lib.hid (And.intro hn78 (And.intro hn79 hn89))
                      have HBB := Lib.hid (And.intro hB7 (And.intro hB8 hB9))
                      clear hg7 hg8 hg9 hn78 hn79 hn89 hB7 hB8 hB9
                      go_upto_region 20 with fail
                      have hlo : p.os.length ≤ 1000000000 := by have := HV.out.o2; omega
                      have hlv : p.vs.length ≤ 1000000000 := by have := HV.out.v2; omega
                      have hlf : p.fs.length ≤ 1000000000 := by have := HV.out.f2; omega
                      refine wp_region_tail (l1 := [_, _, _, _, _]) (l2 := [_, _, _]) (by kernel_rfl) Ext (fun W => Below.refl _ W) (fun W => show Below W.heap.size W { W with drawn := W.drawn + 1 } from ⟨rfl, rfl, rfl, Nat.le_refl _, fun _ _ => rfl⟩) Ext.trans
                        (fun i s W => match i with
                          | 0 => s 0 = .pointer (some ⟨w.heap.size, 1, none⟩)
                          | 1 => s 1 = .slice oa p.os.length oc
                          | 2 => RowOb w8.heap.size (s 2) p.os W
                          | 3 => s 3 = .agg #[.string { data := #[110, 101, 119, 95, 110, 97, 109, 101] }, .int .i64 K, .int .i64 (gOb K m).size, .int .i64 (gOb K m).oth]
                          | 4 => ∃ g, s 4 = .slice (some ⟨g, 0, none⟩) 1 1 ∧ W.heap[g]? = some (.cells #[.string { data := #[110, 101, 119, 95, 110, 97, 109, 101] }, .int .i64 K, .int .i64 (gOb K m).size, .int .i64 (gOb K m).oth] 35 (0, 0))
                          | _ => True)
                        (fun i => [i])
                        (by
                          intro i s s' W W' h hs hE
                          have hs := hs i (by simp)
                          match i, h, hs with
                          | 0, h, hs => exact hs.trans h
                          | 1, h, hs => exact hs.trans h
                          | 2, h, hs => exact by rw [hs]; exact RowOb.ext h hE
                          | 3, h, hs => exact hs.trans h
                          | 4, ⟨g, h1, h2⟩, hs => exact ⟨g, hs.trans h1, (hE.below.block _ (lt_of_block h2)).trans h2⟩
                          | i + 5, h, hs => exact trivial)
                        (by kernel_rfl) (by kernel_rfl) (by kernel_rfl) 122 rfl (by kernel_rfl) (by kernel_rfl) ?_ ?_
                      · intro i op ho a' W hA
                        have hEW : Ext wc W := Ext.trans HE8.out hA.rel
                        obtain ⟨x0, x1, x2⟩ := BX.out W (Ext.trans HEC.out hEW)
                        have hk6 := (hEW.below.block _ (lt_of_block HB6.out)).trans HB6.out
                        have z0 : W.cell? ⟨w5.heap.size, 0, none⟩ = some (.string { data := #[110, 101, 119, 95, 110, 97, 109, 101] }) := cell_of hk6 rfl
                        have z1 : W.cell? ⟨w5.heap.size, 1, none⟩ = some (.int .i64 K) := cell_of hk6 rfl
                        have z2 : W.cell? ⟨w5.heap.size, 2, none⟩ = some (.int .i64 (gOb K m).size) := cell_of hk6 rfl
                        have z3 : W.cell? ⟨w5.heap.size, 3, none⟩ = some (.int .i64 (gOb K m).oth) := cell_of hk6 rfl
                        match i, ho with
                        | 0, ho =>
                          obtain rfl := Option.some.inj ho
                          have e1 : a'.eval (.tmp 2) = .pointer (some ⟨w.heap.size, 0, none⟩) := hA.keep 2 (by kernel_rfl)
                          refine GoesG.value (.pointer (some ⟨w.heap.size, 1, none⟩)) rfl ?_ (Below.refl _ _) (fun s h1 h2 => h1 rfl)
                          simp only [execOp, e1]
                          simp [go_sem, x0, x1, x2, z0, z1, z2, z3]
                        | 1, ho =>
                          obtain rfl := Option.some.inj ho
                          have e1 : a'.eval (.tmp 81) = .pointer (some ⟨w.heap.size, 1, none⟩) := (sv_dst (l := _) rfl).symm.trans (hA.new 0 (by decide) (by kernel_rfl))
                          refine GoesG.value (.slice oa p.os.length oc) rfl ?_ (Below.refl _ _) (fun s h1 h2 => h1 rfl)
                          simp only [execOp, e1]
                          simp [go_sem, x0, x1, x2, z0, z1, z2, z3]
                        | 2, ho =>
                          obtain rfl := Option.some.inj ho
                          have e1 : a'.eval (.tmp 82) = .slice oa p.os.length oc := (sv_dst (l := _) rfl).symm.trans (hA.new 1 (by decide) (by kernel_rfl))
                          refine GoesG.call 21 #[.slice oa p.os.length oc] rfl ?_ ((CloneOb_row oc ((HP.out.ext (Ext.trans HW.out (Ext.trans HEC.out hEW))).os) hlo).mono ?_)
                          · simp [execOp, resolve, invoke, Deferred.ofValue, e1]
                            rfl
                          · rintro x W1 ⟨v, rfl, h1, hE1⟩
                            exact ⟨_, rfl, hE1, fun s h3 h2 => by rw [h3 rfl]; exact h1.le hA.rel.size⟩
                        | 3, ho =>
                          obtain rfl := Option.some.inj ho
                          have e1 : a'.eval (.tmp 6) = .pointer (some ⟨w5.heap.size, 0, none⟩) := hA.keep 6 (by kernel_rfl)
                          refine GoesG.value (.agg #[.string { data := #[110, 101, 119, 95, 110, 97, 109, 101] }, .int .i64 K, .int .i64 (gOb K m).size, .int .i64 (gOb K m).oth]) rfl ?_ (Below.refl _ _) (fun s h1 h2 => h1 rfl)
                          simp only [execOp, e1]
                          simp [go_sem, x0, x1, x2, z0, z1, z2, z3]
                        | 4, ho =>
                          obtain rfl := Option.some.inj ho
                          have e1 : a'.eval (.tmp 84) = .agg #[.string { data := #[110, 101, 119, 95, 110, 97, 109, 101] }, .int .i64 K, .int .i64 (gOb K m).size, .int .i64 (gOb K m).oth] := (sv_dst (l := _) rfl).symm.trans (hA.new 3 (by decide) (by kernel_rfl))
                          have e2 : a'.tmps[84]?.getD undef = .agg #[.string { data := #[110, 101, 119, 95, 110, 97, 109, 101] }, .int .i64 K, .int .i64 (gOb K m).size, .int .i64 (gOb K m).oth] := by rw [← e1]; simp [Act.eval, Array.getD_eq_getD_getElem?]
                          refine GoesG.value (.slice (some ⟨W.heap.size, 0, none⟩) 1 1) (W' := W.alloc (.cells #[.string { data := #[110, 101, 119, 95, 110, 97, 109, 101] }, .int .i64 K, .int .i64 (gOb K m).size, .int .i64 (gOb K m).oth] 35)) rfl ?_ (ext_alloc (Below.refl _ _) _) (fun s h1 h2 => ⟨W.heap.size, h1 rfl, alloc_here _ _⟩)
                          simp only [execOp]
                          simp [go_sem, e2]
                        | i + 5, ho => cases ho
                      · intro vs w4 hvs hG hΦ
                        obtain ⟨y0, y1, y2, y3, y4, rfl⟩ : ∃ y0 y1 y2 y3 y4, vs = y0 :: y1 :: y2 :: y3 :: y4 :: [] := by
                          match vs, hvs with
                          | y0 :: y1 :: y2 :: y3 :: y4 :: [], _ => exact ⟨y0, y1, y2, y3, y4, rfl⟩
                        have e0 : y0 = .pointer (some ⟨w.heap.size, 1, none⟩) := hΦ 0 (by decide)
                        subst e0
                        have e1 : y1 = .slice oa p.os.length oc := hΦ 1 (by decide)
                        subst e1
                        have p2 : RowOb w8.heap.size (y2) p.os w4 := hΦ 2 (by decide)
                        have e3 : y3 = .agg #[.string { data := #[110, 101, 119, 95, 110, 97, 109, 101] }, .int .i64 K, .int .i64 (gOb K m).size, .int .i64 (gOb K m).oth] := hΦ 3 (by decide)
                        subst e3
                        have p4 : ∃ g, y4 = .slice (some ⟨g, 0, none⟩) 1 1 ∧ w4.heap[g]? = some (.cells #[.string { data := #[110, 101, 119, 95, 110, 97, 109, 101] }, .int .i64 K, .int .i64 (gOb K m).size, .int .i64 (gOb K m).oth] 35 (0, 0)) := hΦ 4 (by decide)
                        clear hΦ hvs
                        simp only [putAll, Act.put, List.setIfInBounds_toArray, List.set_cons_succ, List.set_cons_zero]
                        obtain ⟨g, hp4, hpg⟩ := p4
                        subst hp4
                        have HR4 := Lib.hid p2
                        have HPG := Lib.hid hpg
                        have HE4 := Lib.hid (show Ext w8 w4 from hG)
                        clear hG p2 hpg
                        refine wp_appgOb rfl _ _ (by rfl) w8.heap.size y2 p.os (by rfl) w4 HR4.out (gOb K m) g _ HPG.out (by simp [cOb, gOb, newNm]; rfl) (by rfl) hlo HE4.out.size ?_
                        intro v9 w9 hr9 hB9
                        obtain ⟨q9, d9, hv9, _, _⟩ := hr9.at
                        obtain ⟨n9, hn9⟩ : ∃ n, (p.os ++ [gOb K m]).length = n := ⟨_, rfl⟩
                        rw [hn9] at hv9
                        have HN9 := Lib.hid hn9
                        clear hn9
                        subst hv9
                        have HR9 := Lib.hid hr9
                        have hb7 := (hB9.block _ (lt_of_block HG7.out)).trans ((HE4.out.below.block _ (lt_of_block HG7.out)).trans HG7.out)
                        have hb8 := (hB9.block _ (lt_of_block HG8.out)).trans ((HE4.out.below.block _ (lt_of_block HG8.out)).trans HG8.out)
                        have hb9 := (hB9.block _ (lt_of_block HG9.out)).trans ((HE4.out.below.block _ (lt_of_block HG9.out)).trans HG9.out)
                        have HL7 := Lib.hid (lt_of_block HG7.out)
                        have HL8 := Lib.hid (lt_of_block HG8.out)
                        have HL9 := Lib.hid (lt_of_block HG9.out)
                        have HEC9 := Lib.hid (show Ext wc w9 from Below.trans HE8.out ((Below.trans (HE4.out.below) hB9).mono HE8.out.size))
                        have HT7 := Lib.hid ((Turn.refl hb7).setCell (i := 1) (.slice q9 n9 d9))
                        have HB7 := Lib.hid HT7.out.here
                        have HB8 := Lib.hid ((HT7.out.other g8 (lt_of_block hb8) HN.out.1.symm).trans hb8)
                        have HB9 := Lib.hid ((HT7.out.other g9 (lt_of_block hb9) HN.out.2.1.symm).trans hb9)
                        have HECX := Lib.hid (show Ext wc (w9.setCell ⟨g7, 1, none⟩ (.slice q9 n9 d9)) from Below.trans HEC9.out (HT7.out.below HBB.out.1 HEC9.out.size))
                        have HRX := Lib.hid (HR9.out.set (g := g7) (i := 1) (u := .slice q9 n9 d9) HL7.out)
                        have HSX := Lib.hid (show w8.heap.size ≤ (w9.setCell ⟨g7, 1, none⟩ (.slice q9 n9 d9)).heap.size from Nat.le_trans (Nat.le_trans HE4.out.size hB9.size) HT7.out.size)
                        have c7 : w9.cell? ⟨g7, 1, none⟩ = some (.slice oa p.os.length oc) := cell_of hb7 rfl
                        have f7 : w9.frozen? ⟨g7, 1, none⟩ = false := free_of hb7
                        clear hb7 hb8 hb9 hr9 hB9 HT7 HEC9 HR9 HG7 HG8 HG9 HR4 HPG HE4
                        go_upto_region 21 with fail
                        clear c7 f7
                        generalize w9.setCell ⟨g7, 1, none⟩ (.slice q9 n9 d9) = w10 at *
                        obtain ⟨d0_0, d0_1, d0_2⟩ := BX.out w10 (Ext.trans HEC.out HECX.out)
                        go_wp2_with fail
                        clear d0_0 d0_1 d0_2
                        refine Calls.mono (CloneVa_row vc ((HP.out.ext (Ext.trans HW.out (Ext.trans HEC.out HECX.out))).vs) hlv) ?_
                        rintro _ w11 ⟨v11, rfl, hr11, hE11⟩
                        have HR11 := Lib.hid hr11
                        have HE11 := Lib.hid hE11
                        have hs11 : w10.heap.size ≤ w11.heap.size := hE11.size
                        clear hr11 hE11
                        go_upto_region 22 with (at_builtin; refine wp_appVa rfl _ _ (by rfl) w10.heap.size v11 p.vs (by rfl) w11 HR11.out ⟨newNm, 0, decide (100 < kd)⟩ _ (by simp [cVa, newNm]; rfl) (by rfl) hlv hs11 ?_; intro v12 w12 hr12 hB12; obtain ⟨q12, d12, hv12, _, _⟩ := hr12.at; obtain ⟨n12, hn12⟩ : ∃ n, (p.vs ++ [(⟨newNm, 0, decide (100 < kd)⟩ : Va)]).length = n := ⟨_, rfl⟩; rw [hn12] at hv12; have HN12 := Lib.hid hn12; clear hn12; subst hv12; have HE12 := Lib.hid (show Ext w10 w12 from Below.trans HE11.out hB12); have HR12 := Lib.hid hr12; have c8 : w12.cell? ⟨g8, 2, none⟩ = some (.slice va p.vs.length vc) := cell_of ((HE12.out.below.block _ (lt_of_block HB8.out)).trans HB8.out) rfl; have f8 : w12.frozen? ⟨g8, 2, none⟩ = false := free_of ((HE12.out.below.block _ (lt_of_block HB8.out)).trans HB8.out); clear hr12 hB12)
                        clear c8 f8 hs11
                        have hb7 := (HE12.out.below.block _ (lt_of_block HB7.out)).trans HB7.out
                        have hb8 := (HE12.out.below.block _ (lt_of_block HB8.out)).trans HB8.out
                        have hb9 := (HE12.out.below.block _ (lt_of_block HB9.out)).trans HB9.out
                        have HT8 := Lib.hid ((Turn.refl hb8).setCell (i := 2) (.slice q12 n12 d12))
                        replace HB7 := Lib.hid ((HT8.out.other g7 (lt_of_block hb7) HN.out.1).trans hb7)
                        replace HB9 := Lib.hid ((HT8.out.other g9 (lt_of_block hb9) HN.out.2.2.symm).trans hb9)
                        replace HB8 := Lib.hid HT8.out.here
                        have HECY := Lib.hid (show Ext wc (w12.setCell ⟨g8, 2, none⟩ (.slice q12 n12 d12)) from Below.trans (Ext.trans HECX.out HE12.out) (HT8.out.below HBB.out.2.1 (Ext.trans HECX.out HE12.out).size))
                        have HROY := Lib.hid ((RowOb.ext HRX.out HE12.out).set (g := g8) (i := 2) (u := .slice q12 n12 d12) HL8.out)
                        have HRVY := Lib.hid ((HR12.out.le HSX.out).set (g := g8) (i := 2) (u := .slice q12 n12 d12) HL8.out)
                        have HSY := Lib.hid (show w8.heap.size ≤ (w12.setCell ⟨g8, 2, none⟩ (.slice q12 n12 d12)).heap.size from Nat.le_trans (Nat.le_trans HSX.out HE12.out.size) HT8.out.size)
                        clear hb7 hb8 hb9 HT8 HR11 HE11 HE12 HR12 HRX HECX HSX
                        generalize w12.setCell ⟨g8, 2, none⟩ (.slice q12 n12 d12) = w13 at *
                        obtain ⟨rs, hrs, hri, hrc⟩ := HP.out.fs.rows
                        have hrl : rs.length = p.fs.length := by rw [← hrs, List.length_map]
                        have CF := Lib.hid (fun W (hW : Ext w W) => CloneFn_row (p := fa) fc (w := W) (rs := rs) (fun i hi => by obtain ⟨b, o, e, hc⟩ := hrc i hi; exact ⟨b, o, e, hc.ext hW⟩) (by omega))
                        rw [hrl] at CF
                        have HRS := Lib.hid hrs
                        have HRI := Lib.hid hri
                        have hrl2 : rs.length ≤ 1000000000 := by omega
                        clear hrs hri hrc hrl
                        obtain ⟨d0_0, d0_1, d0_2⟩ := BX.out w13 (Ext.trans HEC.out HECY.out)
                        go_wp2_with fail
                        clear d0_0 d0_1 d0_2
                        refine Calls.mono (CF.out w13 (Ext.trans HW.out (Ext.trans HEC.out HECY.out))) ?_
                        rintro _ w14 ⟨v14, rfl, hr14, hE14⟩
                        have HR14 := Lib.hid hr14
                        have HE14 := Lib.hid hE14
                        have hs14 : w13.heap.size ≤ w14.heap.size := hE14.size
                        clear hr14 hE14
                        have RI := Lib.hid (fun W (hW : Ext w W) => rows_snoc (f := ⟨newNm, 0, 0, 0, decide (100 < kd), []⟩) (a := none) (c := 0) (fun i hi => (HRI.out i hi).ext hW) rfl)
                        go_upto_region 23 with (at_builtin; refine wp_appFn rfl _ _ (by rfl) w13.heap.size v14 rs (by rfl) w14 HR14.out (⟨newNm, 0, 0, 0, decide (100 < kd), []⟩, none, 0) _ (by simp [cFn, newNm]; rfl) (by rfl) hrl2 hs14 ?_; intro v15 w15 hr15 hB15; have HE15 := Lib.hid (show Ext w13 w15 from Below.trans HE14.out hB15); obtain ⟨q15, d15, hv15, _, _⟩ := hr15.at (RI.out w15 (Ext.trans HW.out (Ext.trans HEC.out (Ext.trans HECY.out HE15.out)))); obtain ⟨n15, hn15⟩ : ∃ n, (rs ++ [((⟨newNm, 0, 0, 0, decide (100 < kd), []⟩ : Fn), (none : Option Addr), 0)]).length = n := ⟨_, rfl⟩; rw [hn15] at hv15; have HN15 := Lib.hid hn15; clear hn15; subst hv15; have HR15 := Lib.hid hr15; have c9 : w15.cell? ⟨g9, 0, none⟩ = some (.slice fa p.fs.length fc) := cell_of ((HE15.out.below.block _ (lt_of_block HB9.out)).trans HB9.out) rfl; have f9 : w15.frozen? ⟨g9, 0, none⟩ = false := free_of ((HE15.out.below.block _ (lt_of_block HB9.out)).trans HB9.out); clear hr15 hB15)
                        clear c9 f9 hs14
                        have hb7 := (HE15.out.below.block _ (lt_of_block HB7.out)).trans HB7.out
                        have hb8 := (HE15.out.below.block _ (lt_of_block HB8.out)).trans HB8.out
                        have hb9 := (HE15.out.below.block _ (lt_of_block HB9.out)).trans HB9.out
                        have HT9 := Lib.hid ((Turn.refl hb9).setCell (i := 0) (.slice q15 n15 d15))
                        replace HB7 := Lib.hid ((HT9.out.other g7 (lt_of_block hb7) HN.out.2.1).trans hb7)
                        replace HB8 := Lib.hid ((HT9.out.other g8 (lt_of_block hb8) HN.out.2.2).trans hb8)
                        replace HB9 := Lib.hid HT9.out.here
                        have HECZ := Lib.hid (show Ext wc (w15.setCell ⟨g9, 0, none⟩ (.slice q15 n15 d15)) from Below.trans (Ext.trans HECY.out HE15.out) (HT9.out.below HBB.out.2.2 (Ext.trans HECY.out HE15.out).size))
                        have HROZ := Lib.hid ((RowOb.ext HROY.out HE15.out).set (g := g9) (i := 0) (u := .slice q15 n15 d15) HL9.out)
                        have HRVZ := Lib.hid ((RowVa.ext HRVY.out HE15.out).set (g := g9) (i := 0) (u := .slice q15 n15 d15) HL9.out)
                        have HRFZ := Lib.hid ((HR15.out.le HSY.out).set (g := g9) (i := 0) (u := .slice q15 n15 d15) HL9.out)
                        clear hb7 hb8 hb9 HT9 HR14 HE14 HE15 HR15 HROY HRVY HECY HSY CF
                        generalize w15.setCell ⟨g9, 0, none⟩ (.slice q15 n15 d15) = w16 at *
                        have HX16 := Lib.hid (Ext.trans HW.out (Ext.trans HEC.out HECZ.out))
                        have KC7 := Lib.hid (fun W (hW : Ext w16 W) => show Gives Tryd.prog 11 #[.agg #[.slice fa p.fs.length fc, .slice q9 n9 d9, .slice va p.vs.length vc]] W (.int .i64 0) from by
                          have hpw := HP.out.ext (Ext.trans HX16.out hW)
                          obtain ⟨q, c, hv, hrow, hcap⟩ := (RowOb.ext HROZ.out hW).at
                          rw [HN9.out] at hv
                          obtain ⟨rfl, _, rfl⟩ : q9 = q ∧ True ∧ d9 = c := by cases hv; exact ⟨rfl, trivial, rfl⟩
                          have hck := Check_any { p with os := p.os ++ [gOb K m] } ⟨fa, fc, q9, d9, va, vc⟩ W ⟨hpw.fs, hrow, hpw.vs, grow_wf_ob hpw.wf HK.out HM.out hlo, hpw.cf, hcap, hpw.cv⟩
                          rw [grow_ob HV.out HQo.out HO1.out HV1.out HK.out.1 HK.out.2 HM.out] at hck
                          dsimp only [PV] at hck
                          rw [HN9.out] at hck
                          exact hck)
                        have KC8 := Lib.hid (fun W (hW : Ext w16 W) => show Gives Tryd.prog 11 #[.agg #[.slice fa p.fs.length fc, .slice oa p.os.length oc, .slice q12 n12 d12]] W (.int .i64 0) from by
                          have hpw := HP.out.ext (Ext.trans HX16.out hW)
                          obtain ⟨q, c, hv, hrow, hcap⟩ := (RowVa.ext HRVZ.out hW).at
                          rw [HN12.out] at hv
                          obtain ⟨rfl, _, rfl⟩ : q12 = q ∧ True ∧ d12 = c := by cases hv; exact ⟨rfl, trivial, rfl⟩
                          have hck := Check_any { p with vs := p.vs ++ [⟨newNm, 0, decide (100 < kd)⟩] } ⟨fa, fc, oa, oc, q12, d12⟩ W ⟨hpw.fs, hpw.os, hrow, grow_wf_va hpw.wf _ hlv, hpw.cf, hpw.co, hcap⟩
                          rw [grow_va HV.out HQv.out HO1.out HV1.out] at hck
                          dsimp only [PV] at hck
                          rw [HN12.out] at hck
                          exact hck)
                        have KC9 := Lib.hid (fun W (hW : Ext w16 W) => show Gives Tryd.prog 11 #[.agg #[.slice q15 n15 d15, .slice oa p.os.length oc, .slice va p.vs.length vc]] W (.int .i64 0) from by
                          have hpw := HP.out.ext (Ext.trans HX16.out hW)
                          obtain ⟨q, c, hv, hrow, hcap⟩ := (RowFn.ext HRFZ.out hW).at (RI.out W (Ext.trans HX16.out hW))
                          rw [HN15.out] at hv
                          obtain ⟨rfl, _, rfl⟩ : q15 = q ∧ True ∧ d15 = c := by cases hv; exact ⟨rfl, trivial, rfl⟩
                          have e : List.map (fun r : Fn × Option Addr × Nat => r.1) (rs ++ [((⟨newNm, 0, 0, 0, decide (100 < kd), []⟩ : Fn), (none : Option Addr), 0)]) = p.fs ++ [⟨newNm, 0, 0, 0, decide (100 < kd), []⟩] := by rw [List.map_append, HRS.out]; rfl
                          rw [e] at hrow
                          have hl : (p.fs ++ [(⟨newNm, 0, 0, 0, decide (100 < kd), []⟩ : Fn)]).length = n15 := by rw [← e, List.length_map]; exact HN15.out
                          have hck := Check_any { p with fs := p.fs ++ [⟨newNm, 0, 0, 0, decide (100 < kd), []⟩] } ⟨q15, d15, oa, oc, va, vc⟩ W ⟨hrow, hpw.os, hpw.vs, grow_wf_fn hpw.wf _ hlf, by show (p.fs ++ [(⟨newNm, 0, 0, 0, decide (100 < kd), []⟩ : Fn)]).length ≤ d15; rw [hl, ← HN15.out]; exact hcap, hpw.co, hpw.cv⟩
                          rw [grow_fn HV.out HQf.out HF1.out] at hck
                          dsimp only [PV] at hck
                          rw [hl] at hck
                          exact hck)
                        clear HP KC KO KV KF KI HRS HRI RI HROZ HRVZ HRFZ hlo hlv hlf hrl2 go gv gf
                        have a0 : w16.cell? ⟨g7, 0, none⟩ = some (.slice fa p.fs.length fc) := cell_of HB7.out rfl
                        have a1 : w16.cell? ⟨g7, 1, none⟩ = some (.slice q9 n9 d9) := cell_of HB7.out rfl
                        have a2 : w16.cell? ⟨g7, 2, none⟩ = some (.slice va p.vs.length vc) := cell_of HB7.out rfl
                        go_wp2_with fail
                        clear a0 a1 a2
                        refine (KC7.out w16 (Below.refl _ _)).mono ?_
                        intro w17 hE17
                        have HE17 := Lib.hid (show Ext w16 w17 from hE17)
                        clear hE17
                        have hb8 := (HE17.out.below.block _ (lt_of_block HB8.out)).trans HB8.out
                        have a0 : w17.cell? ⟨g8, 0, none⟩ = some (.slice fa p.fs.length fc) := cell_of hb8 rfl
                        have a1 : w17.cell? ⟨g8, 1, none⟩ = some (.slice oa p.os.length oc) := cell_of hb8 rfl
                        have a2 : w17.cell? ⟨g8, 2, none⟩ = some (.slice q12 n12 d12) := cell_of hb8 rfl
                        clear hb8
                        go_wp2_with fail
                        clear a0 a1 a2
                        refine (KC8.out w17 HE17.out).mono ?_
                        intro w18 hE18
                        have HE18 := Lib.hid (Ext.trans HE17.out hE18)
                        clear hE18
                        have hb9 := (HE18.out.below.block _ (lt_of_block HB9.out)).trans HB9.out
                        have a0 : w18.cell? ⟨g9, 0, none⟩ = some (.slice q15 n15 d15) := cell_of hb9 rfl
                        have a1 : w18.cell? ⟨g9, 1, none⟩ = some (.slice oa p.os.length oc) := cell_of hb9 rfl
                        have a2 : w18.cell? ⟨g9, 2, none⟩ = some (.slice va p.vs.length vc) := cell_of hb9 rfl
                        clear hb9
                        go_wp2_with fail
                        clear a0 a1 a2
                        refine (KC9.out w18 HE18.out).mono ?_
                        intro w19 hE19
                        have HE19 := Lib.hid (Ext.trans HE18.out hE19)
                        clear hE19
                        go_wp2_with fail
                        refine (KA.out w19 (Ext.trans HX16.out HE19.out)).mono ?_
                        intro wz hBz
                        have HEz := Lib.hid (Ext.trans (Ext.trans HX16.out HE19.out) hBz)
                        clear hBz
                        go_wp2
                        go_ret
                        exact ⟨rfl, HEz.out⟩

theorem u8_bd {n : Int} (h : (Lit.int .u8 n).wf = true) : 0 ≤ n ∧ n ≤ 255 := by
  simpa [Lit.wf, IntKind.min, IntKind.max, IntKind.signed, IntKind.bits] using h
theorem programGrows_walk (p : Pg) (A : PA) (kd : Int) (w : World) (h : PgAt w p A) (hkd : (Lit.int .u8 kd).wf = true) (hT : TabW w) : Gives Tryd.prog 4 #[PV p A, .int .u8 kd] w (.bool true) :=
  programGrows_main p A kd w h (u8_bd hkd) hT
end Go.Proofs.YtfkjokbhnblndaaDoor
