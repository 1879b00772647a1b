/- The reader: a function. Printed by mk_wro.py. The reader: a program. Decode. ProgramCanonical: whatever can be decoded is the encoding of a valid program. The statement ProgramCanonicalCardSaid: for every input the law returns true, and the arguments read as before; the tables of the library that it lists are tied to the text. The frame round the walk of the law. -/
import Derived.Stop.LaidErr
import Derived.WalkKit
import Derived.ProofKit
import Derived.OpenShut
import Derived.ShutString
import Derived.ChangeOld
import Derived.Below
import Derived.Deep.DeepHandedRow
import Derived.Lib.LaidTab
import Derived.Shelf.Vars
import Derived.Test.YtfkjokbhnblndaaGreatDoorCt4
import Derived.Test.YtfkjokbhnblndaaGreatDoorCt2
import Derived.Test.YtfkjokbhnblndaaGreatDoorPgSm3
import Derived.Test.YtfkjokbhnblndaaGreatDoorCt5
import Derived.Test.YtfkjokbhnblndaaGreatDoorCards
import Derived.Test.YtfkjokbhnblndaaGreatDoorTie

namespace Go.Proofs.YtfkjokbhnblndaaGreatDoor
open Go.RowKit Go.Shelf
set_option linter.unusedVariables false
set_option linter.unusedSimpArgs false

set_option maxRecDepth 100000 in
set_option maxHeartbeats 4000000 in
theorem rFn_any (R g o : Nat) (st : RSt) (cs : Array Value) (T : TypeId) (w : World) (hR : w.heap[R]? = some (rdQ st)) (hP : w.heap[g]? = some (.cells cs T (0, 0))) (hne : g ≠ R) (ho : o + 6 ≤ cs.size) (hl : st.1.length ≤ 20000) (hbf : cs[o + 4]? = some (.bool false)) (hbz : cs[o + 5]? = some (.slice none 0 0)) :
    Calls Tryz.prog 51 #[cR R, .pointer (some ⟨g, o, none⟩)] w fun e w' => e = .returned (.tuple #[]) ∧ w'.heap[R]? = some (rdQ (gEach gIns (gFlg (gNum (gNum (gNum (gTxt st).2).2).2).2).2).2) ∧ Ot2 R g w w' ∧ ∃ a, w'.heap[g]? = some (.cells ((((((cs.setIfInBounds o (sV (gTxt st).1)).setIfInBounds (o + 1) (.int .i64 (gNum (gTxt st).2).1)).setIfInBounds (o + 2) (.int .i64 (gNum (gNum (gTxt st).2).2).1)).setIfInBounds (o + 3) (.int .i64 (gNum (gNum (gNum (gTxt st).2).2).2).1)).setIfInBounds (o + 4) (.bool (gFlg (gNum (gNum (gNum (gTxt st).2).2).2).2).1)).setIfInBounds (o + 5) (.slice a (gEach gIns (gFlg (gNum (gNum (gNum (gTxt st).2).2).2).2).2).1.length (gEach gIns (gFlg (gNum (gNum (gNum (gTxt st).2).2).2).2).2).1.length)) T (0, 0)) ∧ RowS InsSl 5 50 w.heap.size w' a (gEach gIns (gFlg (gNum (gNum (gNum (gTxt st).2).2).2).2).2).1 := by
  have hl0 : st.1.length ≤ 20000 := hl
  have hl1 : (gTxt st).2.1.length ≤ 20000 := Nat.le_trans (gTxt_le st) hl0
  have hl2 : (gNum (gTxt st).2).2.1.length ≤ 20000 := Nat.le_trans (gNum_le (gTxt st).2) hl1
  have hl3 : (gNum (gNum (gTxt st).2).2).2.1.length ≤ 20000 := Nat.le_trans (gNum_le (gNum (gTxt st).2).2) hl2
  have hl4 : (gNum (gNum (gNum (gTxt st).2).2).2).2.1.length ≤ 20000 := Nat.le_trans (gNum_le (gNum (gNum (gTxt st).2).2).2) hl3
  have hl5 : (gFlg (gNum (gNum (gNum (gTxt st).2).2).2).2).2.1.length ≤ 20000 := Nat.le_trans (gNum_le (gNum (gNum (gNum (gTxt st).2).2).2).2) hl4
  have K0 := Lib.hid (fun W (h : W.heap[R]? = some (rdQ st)) (hb : W.heap[g]? = some (.cells cs T (0, 0))) => rtext_any R g o st cs T W h hb hne (by first | omega | (simp; omega)) (by omega))
  have K1 := Lib.hid (fun W (h : W.heap[R]? = some (rdQ (gTxt st).2)) (hb : W.heap[g]? = some (.cells (cs.setIfInBounds o (sV (gTxt st).1)) T (0, 0))) => rnum_any R g (o + 1) (gTxt st).2 (cs.setIfInBounds o (sV (gTxt st).1)) T W h hb hne (by first | omega | (simp; omega)) (by omega))
  have K2 := Lib.hid (fun W (h : W.heap[R]? = some (rdQ (gNum (gTxt st).2).2)) (hb : W.heap[g]? = some (.cells ((cs.setIfInBounds o (sV (gTxt st).1)).setIfInBounds (o + 1) (.int .i64 (gNum (gTxt st).2).1)) T (0, 0))) => rnum_any R g (o + 2) (gNum (gTxt st).2).2 ((cs.setIfInBounds o (sV (gTxt st).1)).setIfInBounds (o + 1) (.int .i64 (gNum (gTxt st).2).1)) T W h hb hne (by first | omega | (simp; omega)) (by omega))
  have K3 := Lib.hid (fun W (h : W.heap[R]? = some (rdQ (gNum (gNum (gTxt st).2).2).2)) (hb : W.heap[g]? = some (.cells (((cs.setIfInBounds o (sV (gTxt st).1)).setIfInBounds (o + 1) (.int .i64 (gNum (gTxt st).2).1)).setIfInBounds (o + 2) (.int .i64 (gNum (gNum (gTxt st).2).2).1)) T (0, 0))) => rnum_any R g (o + 3) (gNum (gNum (gTxt st).2).2).2 (((cs.setIfInBounds o (sV (gTxt st).1)).setIfInBounds (o + 1) (.int .i64 (gNum (gTxt st).2).1)).setIfInBounds (o + 2) (.int .i64 (gNum (gNum (gTxt st).2).2).1)) T W h hb hne (by first | omega | (simp; omega)) (by omega))
  have K4 := Lib.hid (fun W (h : W.heap[R]? = some (rdQ (gNum (gNum (gNum (gTxt st).2).2).2).2)) (hb : W.heap[g]? = some (.cells ((((cs.setIfInBounds o (sV (gTxt st).1)).setIfInBounds (o + 1) (.int .i64 (gNum (gTxt st).2).1)).setIfInBounds (o + 2) (.int .i64 (gNum (gNum (gTxt st).2).2).1)).setIfInBounds (o + 3) (.int .i64 (gNum (gNum (gNum (gTxt st).2).2).2).1)) T (0, 0))) => rflag_any R g (o + 4) (gNum (gNum (gNum (gTxt st).2).2).2).2 ((((cs.setIfInBounds o (sV (gTxt st).1)).setIfInBounds (o + 1) (.int .i64 (gNum (gTxt st).2).1)).setIfInBounds (o + 2) (.int .i64 (gNum (gNum (gTxt st).2).2).1)).setIfInBounds (o + 3) (.int .i64 (gNum (gNum (gNum (gTxt st).2).2).2).1)) T false W h hb hne (by first | omega | (simp; omega)) (by simp [Array.getElem?_setIfInBounds, hbf]) (by omega))
  have K5 := Lib.hid (fun W (h : W.heap[R]? = some (rdQ (gFlg (gNum (gNum (gNum (gTxt st).2).2).2).2).2)) (hb : W.heap[g]? = some (.cells (((((cs.setIfInBounds o (sV (gTxt st).1)).setIfInBounds (o + 1) (.int .i64 (gNum (gTxt st).2).1)).setIfInBounds (o + 2) (.int .i64 (gNum (gNum (gTxt st).2).2).1)).setIfInBounds (o + 3) (.int .i64 (gNum (gNum (gNum (gTxt st).2).2).2).1)).setIfInBounds (o + 4) (.bool (gFlg (gNum (gNum (gNum (gTxt st).2).2).2).2).1)) T (0, 0))) => reach_Ins R g (o + 5) (gFlg (gNum (gNum (gNum (gTxt st).2).2).2).2).2 (((((cs.setIfInBounds o (sV (gTxt st).1)).setIfInBounds (o + 1) (.int .i64 (gNum (gTxt st).2).1)).setIfInBounds (o + 2) (.int .i64 (gNum (gNum (gTxt st).2).2).1)).setIfInBounds (o + 3) (.int .i64 (gNum (gNum (gNum (gTxt st).2).2).2).1)).setIfInBounds (o + 4) (.bool (gFlg (gNum (gNum (gNum (gTxt st).2).2).2).2).1)) T W h hb hne (by first | omega | (simp; omega)) (by simp [Array.getElem?_setIfInBounds, hbz]) hl5 (fun g i st' cs' w' h1 h2 h3 h4 h5 _ => rIns_one R g (i * 5) st' cs' _ w' h1 h2 h3 h4 h5))
  have hna_n : ∀ W, Sem.run Tryz.prog (nilAhead 358 tRp (.pointer (some ⟨R, 0, none⟩)) "nursery/program.number") W = .ok (some false) W := fun W => by kernel_rfl
  have hna_t : ∀ W, Sem.run Tryz.prog (nilAhead 358 tRp (.pointer (some ⟨R, 0, none⟩)) "nursery/program.text") W = .ok (some false) W := fun W => by kernel_rfl
  have HR0 := Lib.hid hR
  have HP0 := Lib.hid hP
  have HO0 := Lib.hid (Ot2.refl R g w)
  have hgR : g < w.heap.size ∧ R < w.heap.size := ⟨lt_of_block hP, lt_of_block hR⟩
  have HGR := Lib.hid hgR
  clear hl0 hl hR hP hgR ho hbf hbz hl1 hl2 hl3 hl4 hl5
  generalize (gTxt st).1 = v1 at *
  generalize (gTxt st).2 = s1 at *
  generalize (gNum s1).1 = v2 at *
  generalize (gNum s1).2 = s2 at *
  generalize (gNum s2).1 = v3 at *
  generalize (gNum s2).2 = s3 at *
  generalize (gNum s3).1 = v4 at *
  generalize (gNum s3).2 = s4 at *
  generalize (gFlg s4).1 = v5 at *
  generalize (gFlg s4).2 = s5 at *
  generalize (gEach gIns s5).1 = v6 at *
  generalize (gEach gIns s5).2 = s6 at *
  go_enter Tryz.func51, Tryz.ntmps51
  go_wp2
  refine wp_region_tail (l1 := [_, _, _, _, _, _, _]) (l2 := [_]) (by kernel_rfl) Ext (fun W => Below.refl _ W) (fun W => show Below W.heap.size W { W with drawn := W.drawn + 1 } from ⟨rfl, rfl, rfl, Nat.le_refl _, fun _ _ => rfl⟩) Ext.trans
    (fun i s W => match i with
      | 0 => s 0 = cR R
      | 1 => s 1 = .pointer (some ⟨g, o, none⟩)
      | 2 => s 2 = .pointer (some ⟨g, o, none⟩)
      | 3 => s 3 = .pointer (some ⟨g, o, none⟩)
      | 4 => s 4 = .func (.method "nursery/program.text") #[cR R] #[]
      | 5 => s 5 = .func (.method "nursery/program.text") #[cR R] #[]
      | 6 => s 6 = cR R
      | _ => True)
    (fun i => [i])
    (by
      intro i s s' W W' h hs hE
      have hs := hs i (by simp)
      match i, h, hs with
      | 0, h, hs => exact hs.trans h
      | 1, h, hs => exact hs.trans h
      | 2, h, hs => exact hs.trans h
      | 3, h, hs => exact hs.trans h
      | 4, h, hs => exact hs.trans h
      | 5, h, hs => exact hs.trans h
      | 6, h, hs => exact hs.trans h
      | i + 7, h, hs => exact trivial)
    (by kernel_rfl) (by kernel_rfl) (by kernel_rfl) 46 rfl (by kernel_rfl) (by kernel_rfl) ?_ ?_
  · intro i op ho a' W hA

    match i, ho with
    | 0, ho =>
      obtain rfl := Option.some.inj ho
      have e1 : a'.eval (.tmp 0) = cR R := hA.keep 0 (by kernel_rfl)
      refine GoesG.value (cR R) rfl ?_ (Below.refl _ _) (fun s h1 h2 => h1 rfl)
      simp only [execOp, e1]
      simp [go_sem]
    | 1, ho =>
      obtain rfl := Option.some.inj ho
      have e1 : a'.eval (.tmp 1) = .pointer (some ⟨g, o, none⟩) := hA.keep 1 (by kernel_rfl)
      refine GoesG.value (.pointer (some ⟨g, o, none⟩)) rfl ?_ (Below.refl _ _) (fun s h1 h2 => h1 rfl)
      simp only [execOp, e1]
      simp [go_sem]
    | 2, ho =>
      obtain rfl := Option.some.inj ho
      have e1 : a'.eval (.tmp 5) = .pointer (some ⟨g, o, none⟩) := (sv_dst (l := _) rfl).symm.trans (hA.new 1 (by decide) (by kernel_rfl))
      refine GoesG.value (.pointer (some ⟨g, o, none⟩)) rfl ?_ (Below.refl _ _) (fun s h1 h2 => h1 rfl)
      simp only [execOp, e1]
      simp [go_sem]
    | 3, ho =>
      obtain rfl := Option.some.inj ho
      have e1 : a'.eval (.tmp 6) = .pointer (some ⟨g, o, none⟩) := (sv_dst (l := _) rfl).symm.trans (hA.new 2 (by decide) (by kernel_rfl))
      refine GoesG.value (.pointer (some ⟨g, o, none⟩)) rfl ?_ (Below.refl _ _) (fun s h1 h2 => h1 rfl)
      simp only [execOp, e1]
      simp [go_sem]
    | 4, ho =>
      obtain rfl := Option.some.inj ho
      have e1 : a'.eval (.tmp 4) = cR R := (sv_dst (l := _) rfl).symm.trans (hA.new 0 (by decide) (by kernel_rfl))
      refine GoesG.value (.func (.method "nursery/program.text") #[cR R] #[]) rfl ?_ (Below.refl _ _) (fun s h1 h2 => h1 rfl)
      simp only [execOp, e1]
      simp [go_sem]
      simpa [Act.eval] using e1
    | 5, ho =>
      obtain rfl := Option.some.inj ho
      have e1 : a'.eval (.tmp 8) = .func (.method "nursery/program.text") #[cR R] #[] := (sv_dst (l := _) rfl).symm.trans (hA.new 4 (by decide) (by kernel_rfl))
      refine GoesG.value (.func (.method "nursery/program.text") #[cR R] #[]) rfl ?_ (Below.refl _ _) (fun s h1 h2 => h1 rfl)
      simp only [execOp, e1]
      simp [go_sem, hna_t]
    | 6, ho =>
      obtain rfl := Option.some.inj ho
      have e1 : a'.eval (.tmp 4) = cR R := (sv_dst (l := _) rfl).symm.trans (hA.new 0 (by decide) (by kernel_rfl))
      refine GoesG.value (cR R) rfl ?_ (Below.refl _ _) (fun s h1 h2 => h1 rfl)
      simp only [execOp, e1]
      simp [go_sem]
    | i + 7, ho => cases ho
  · intro vs w1d hvs hG0 hΦ
    obtain ⟨y0, y1, y2, y3, y4, y5, y6, rfl⟩ : ∃ y0 y1 y2 y3 y4 y5 y6, vs = y0 :: y1 :: y2 :: y3 :: y4 :: y5 :: y6 :: [] := by
      match vs, hvs with
      | y0 :: y1 :: y2 :: y3 :: y4 :: y5 :: y6 :: [], _ => exact ⟨y0, y1, y2, y3, y4, y5, y6, rfl⟩
    have e0 : y0 = cR R := hΦ 0 (by decide)
    subst e0
    have e1 : y1 = .pointer (some ⟨g, o, none⟩) := hΦ 1 (by decide)
    subst e1
    have e2 : y2 = .pointer (some ⟨g, o, none⟩) := hΦ 2 (by decide)
    subst e2
    have e3 : y3 = .pointer (some ⟨g, o, none⟩) := hΦ 3 (by decide)
    subst e3
    have e4 : y4 = .func (.method "nursery/program.text") #[cR R] #[] := hΦ 4 (by decide)
    subst e4
    have e5 : y5 = .func (.method "nursery/program.text") #[cR R] #[] := hΦ 5 (by decide)
    subst e5
    have e6 : y6 = cR R := hΦ 6 (by decide)
    subst e6
    clear hΦ hvs
    simp only [putAll, Act.put, List.setIfInBounds_toArray, List.set_cons_succ, List.set_cons_zero]
    have HD0 := Lib.hid hG0
    clear hG0
    go_wp2_with fail
    refine (show Calls _ _ _ _ _ from K0.out _ ((HD0.out.below.block _ (lt_of_block HR0.out)).trans HR0.out) ((HD0.out.below.block _ (lt_of_block HP0.out)).trans HP0.out)).mono ?_
    rintro _ w1 ⟨rfl, hR, hP, hO⟩
    have HR1 := Lib.hid hR
    have HP1 := Lib.hid hP
    have HO1 := Lib.hid (Ot2.trans HO0.out (Ot2.trans (Ot2.of_ext HD0.out) hO))
    clear hR hP hO
    go_wp2
    refine wp_region_tail (l1 := [_, _, _, _, _, _, _]) (l2 := [_]) (by kernel_rfl) Ext (fun W => Below.refl _ W) (fun W => show Below W.heap.size W { W with drawn := W.drawn + 1 } from ⟨rfl, rfl, rfl, Nat.le_refl _, fun _ _ => rfl⟩) Ext.trans
      (fun i s W => match i with
        | 0 => s 0 = cR R
        | 1 => s 1 = .pointer (some ⟨g, o, none⟩)
        | 2 => s 2 = .pointer (some ⟨g, o, none⟩)
        | 3 => s 3 = .pointer (some ⟨g, o + 1, none⟩)
        | 4 => s 4 = .func (.method "nursery/program.number") #[cR R] #[]
        | 5 => s 5 = .func (.method "nursery/program.number") #[cR R] #[]
        | 6 => s 6 = cR R
        | _ => True)
      (fun i => [i])
      (by
        intro i s s' W W' h hs hE
        have hs := hs i (by simp)
        match i, h, hs with
        | 0, h, hs => exact hs.trans h
        | 1, h, hs => exact hs.trans h
        | 2, h, hs => exact hs.trans h
        | 3, h, hs => exact hs.trans h
        | 4, h, hs => exact hs.trans h
        | 5, h, hs => exact hs.trans h
        | 6, h, hs => exact hs.trans h
        | i + 7, h, hs => exact trivial)
      (by kernel_rfl) (by kernel_rfl) (by kernel_rfl) 46 rfl (by kernel_rfl) (by kernel_rfl) ?_ ?_
    · intro i op ho a' W hA

      match i, ho with
      | 0, ho =>
        obtain rfl := Option.some.inj ho
        have e1 : a'.eval (.tmp 0) = cR R := hA.keep 0 (by kernel_rfl)
        refine GoesG.value (cR R) rfl ?_ (Below.refl _ _) (fun s h1 h2 => h1 rfl)
        simp only [execOp, e1]
        simp [go_sem]
      | 1, ho =>
        obtain rfl := Option.some.inj ho
        have e1 : a'.eval (.tmp 1) = .pointer (some ⟨g, o, none⟩) := hA.keep 1 (by kernel_rfl)
        refine GoesG.value (.pointer (some ⟨g, o, none⟩)) rfl ?_ (Below.refl _ _) (fun s h1 h2 => h1 rfl)
        simp only [execOp, e1]
        simp [go_sem]
      | 2, ho =>
        obtain rfl := Option.some.inj ho
        have e1 : a'.eval (.tmp 13) = .pointer (some ⟨g, o, none⟩) := (sv_dst (l := _) rfl).symm.trans (hA.new 1 (by decide) (by kernel_rfl))
        refine GoesG.value (.pointer (some ⟨g, o, none⟩)) rfl ?_ (Below.refl _ _) (fun s h1 h2 => h1 rfl)
        simp only [execOp, e1]
        simp [go_sem]
      | 3, ho =>
        obtain rfl := Option.some.inj ho
        have e1 : a'.eval (.tmp 14) = .pointer (some ⟨g, o, none⟩) := (sv_dst (l := _) rfl).symm.trans (hA.new 2 (by decide) (by kernel_rfl))
        refine GoesG.value (.pointer (some ⟨g, o + 1, none⟩)) rfl ?_ (Below.refl _ _) (fun s h1 h2 => h1 rfl)
        simp only [execOp, e1]
        simp [go_sem]
      | 4, ho =>
        obtain rfl := Option.some.inj ho
        have e1 : a'.eval (.tmp 12) = cR R := (sv_dst (l := _) rfl).symm.trans (hA.new 0 (by decide) (by kernel_rfl))
        refine GoesG.value (.func (.method "nursery/program.number") #[cR R] #[]) rfl ?_ (Below.refl _ _) (fun s h1 h2 => h1 rfl)
        simp only [execOp, e1]
        simp [go_sem]
        simpa [Act.eval] using e1
      | 5, ho =>
        obtain rfl := Option.some.inj ho
        have e1 : a'.eval (.tmp 16) = .func (.method "nursery/program.number") #[cR R] #[] := (sv_dst (l := _) rfl).symm.trans (hA.new 4 (by decide) (by kernel_rfl))
        refine GoesG.value (.func (.method "nursery/program.number") #[cR R] #[]) rfl ?_ (Below.refl _ _) (fun s h1 h2 => h1 rfl)
        simp only [execOp, e1]
        simp [go_sem, hna_n]
      | 6, ho =>
        obtain rfl := Option.some.inj ho
        have e1 : a'.eval (.tmp 12) = cR R := (sv_dst (l := _) rfl).symm.trans (hA.new 0 (by decide) (by kernel_rfl))
        refine GoesG.value (cR R) rfl ?_ (Below.refl _ _) (fun s h1 h2 => h1 rfl)
        simp only [execOp, e1]
        simp [go_sem]
      | i + 7, ho => cases ho
    · intro vs w2d hvs hG1 hΦ
      obtain ⟨y0, y1, y2, y3, y4, y5, y6, rfl⟩ : ∃ y0 y1 y2 y3 y4 y5 y6, vs = y0 :: y1 :: y2 :: y3 :: y4 :: y5 :: y6 :: [] := by
        match vs, hvs with
        | y0 :: y1 :: y2 :: y3 :: y4 :: y5 :: y6 :: [], _ => exact ⟨y0, y1, y2, y3, y4, y5, y6, rfl⟩
      have e0 : y0 = cR R := hΦ 0 (by decide)
      subst e0
      have e1 : y1 = .pointer (some ⟨g, o, none⟩) := hΦ 1 (by decide)
      subst e1
      have e2 : y2 = .pointer (some ⟨g, o, none⟩) := hΦ 2 (by decide)
      subst e2
      have e3 : y3 = .pointer (some ⟨g, o + 1, none⟩) := hΦ 3 (by decide)
      subst e3
      have e4 : y4 = .func (.method "nursery/program.number") #[cR R] #[] := hΦ 4 (by decide)
      subst e4
      have e5 : y5 = .func (.method "nursery/program.number") #[cR R] #[] := hΦ 5 (by decide)
      subst e5
      have e6 : y6 = cR R := hΦ 6 (by decide)
      subst e6
      clear hΦ hvs
      simp only [putAll, Act.put, List.setIfInBounds_toArray, List.set_cons_succ, List.set_cons_zero]
      have HD1 := Lib.hid hG1
      clear hG1
      go_wp2_with fail
      refine (show Calls _ _ _ _ _ from K1.out _ ((HD1.out.below.block _ (lt_of_block HR1.out)).trans HR1.out) ((HD1.out.below.block _ (lt_of_block HP1.out)).trans HP1.out)).mono ?_
      rintro _ w2 ⟨rfl, hR, hP, hO⟩
      have HR2 := Lib.hid hR
      have HP2 := Lib.hid hP
      have HO2 := Lib.hid (Ot2.trans HO1.out (Ot2.trans (Ot2.of_ext HD1.out) hO))
      clear hR hP hO
      go_wp2
      refine wp_region_tail (l1 := [_, _, _, _, _, _, _]) (l2 := [_]) (by kernel_rfl) Ext (fun W => Below.refl _ W) (fun W => show Below W.heap.size W { W with drawn := W.drawn + 1 } from ⟨rfl, rfl, rfl, Nat.le_refl _, fun _ _ => rfl⟩) Ext.trans
        (fun i s W => match i with
          | 0 => s 0 = cR R
          | 1 => s 1 = .pointer (some ⟨g, o, none⟩)
          | 2 => s 2 = .pointer (some ⟨g, o, none⟩)
          | 3 => s 3 = .pointer (some ⟨g, o + 2, none⟩)
          | 4 => s 4 = .func (.method "nursery/program.number") #[cR R] #[]
          | 5 => s 5 = .func (.method "nursery/program.number") #[cR R] #[]
          | 6 => s 6 = cR R
          | _ => True)
        (fun i => [i])
        (by
          intro i s s' W W' h hs hE
          have hs := hs i (by simp)
          match i, h, hs with
          | 0, h, hs => exact hs.trans h
          | 1, h, hs => exact hs.trans h
          | 2, h, hs => exact hs.trans h
          | 3, h, hs => exact hs.trans h
          | 4, h, hs => exact hs.trans h
          | 5, h, hs => exact hs.trans h
          | 6, h, hs => exact hs.trans h
          | i + 7, h, hs => exact trivial)
        (by kernel_rfl) (by kernel_rfl) (by kernel_rfl) 46 rfl (by kernel_rfl) (by kernel_rfl) ?_ ?_
      · intro i op ho a' W hA

        match i, ho with
        | 0, ho =>
          obtain rfl := Option.some.inj ho
          have e1 : a'.eval (.tmp 0) = cR R := hA.keep 0 (by kernel_rfl)
          refine GoesG.value (cR R) rfl ?_ (Below.refl _ _) (fun s h1 h2 => h1 rfl)
          simp only [execOp, e1]
          simp [go_sem]
        | 1, ho =>
          obtain rfl := Option.some.inj ho
          have e1 : a'.eval (.tmp 1) = .pointer (some ⟨g, o, none⟩) := hA.keep 1 (by kernel_rfl)
          refine GoesG.value (.pointer (some ⟨g, o, none⟩)) rfl ?_ (Below.refl _ _) (fun s h1 h2 => h1 rfl)
          simp only [execOp, e1]
          simp [go_sem]
        | 2, ho =>
          obtain rfl := Option.some.inj ho
          have e1 : a'.eval (.tmp 21) = .pointer (some ⟨g, o, none⟩) := (sv_dst (l := _) rfl).symm.trans (hA.new 1 (by decide) (by kernel_rfl))
          refine GoesG.value (.pointer (some ⟨g, o, none⟩)) rfl ?_ (Below.refl _ _) (fun s h1 h2 => h1 rfl)
          simp only [execOp, e1]
          simp [go_sem]
        | 3, ho =>
          obtain rfl := Option.some.inj ho
          have e1 : a'.eval (.tmp 22) = .pointer (some ⟨g, o, none⟩) := (sv_dst (l := _) rfl).symm.trans (hA.new 2 (by decide) (by kernel_rfl))
          refine GoesG.value (.pointer (some ⟨g, o + 2, none⟩)) rfl ?_ (Below.refl _ _) (fun s h1 h2 => h1 rfl)
          simp only [execOp, e1]
          simp [go_sem]
        | 4, ho =>
          obtain rfl := Option.some.inj ho
          have e1 : a'.eval (.tmp 20) = cR R := (sv_dst (l := _) rfl).symm.trans (hA.new 0 (by decide) (by kernel_rfl))
          refine GoesG.value (.func (.method "nursery/program.number") #[cR R] #[]) rfl ?_ (Below.refl _ _) (fun s h1 h2 => h1 rfl)
          simp only [execOp, e1]
          simp [go_sem]
          simpa [Act.eval] using e1
        | 5, ho =>
          obtain rfl := Option.some.inj ho
          have e1 : a'.eval (.tmp 24) = .func (.method "nursery/program.number") #[cR R] #[] := (sv_dst (l := _) rfl).symm.trans (hA.new 4 (by decide) (by kernel_rfl))
          refine GoesG.value (.func (.method "nursery/program.number") #[cR R] #[]) rfl ?_ (Below.refl _ _) (fun s h1 h2 => h1 rfl)
          simp only [execOp, e1]
          simp [go_sem, hna_n]
        | 6, ho =>
          obtain rfl := Option.some.inj ho
          have e1 : a'.eval (.tmp 20) = cR R := (sv_dst (l := _) rfl).symm.trans (hA.new 0 (by decide) (by kernel_rfl))
          refine GoesG.value (cR R) rfl ?_ (Below.refl _ _) (fun s h1 h2 => h1 rfl)
          simp only [execOp, e1]
          simp [go_sem]
        | i + 7, ho => cases ho
      · intro vs w3d hvs hG2 hΦ
        obtain ⟨y0, y1, y2, y3, y4, y5, y6, rfl⟩ : ∃ y0 y1 y2 y3 y4 y5 y6, vs = y0 :: y1 :: y2 :: y3 :: y4 :: y5 :: y6 :: [] := by
          match vs, hvs with
          | y0 :: y1 :: y2 :: y3 :: y4 :: y5 :: y6 :: [], _ => exact ⟨y0, y1, y2, y3, y4, y5, y6, rfl⟩
        have e0 : y0 = cR R := hΦ 0 (by decide)
        subst e0
        have e1 : y1 = .pointer (some ⟨g, o, none⟩) := hΦ 1 (by decide)
        subst e1
        have e2 : y2 = .pointer (some ⟨g, o, none⟩) := hΦ 2 (by decide)
        subst e2
        have e3 : y3 = .pointer (some ⟨g, o + 2, none⟩) := hΦ 3 (by decide)
        subst e3
        have e4 : y4 = .func (.method "nursery/program.number") #[cR R] #[] := hΦ 4 (by decide)
        subst e4
        have e5 : y5 = .func (.method "nursery/program.number") #[cR R] #[] := hΦ 5 (by decide)
        subst e5
        have e6 : y6 = cR R := hΦ 6 (by decide)
        subst e6
        clear hΦ hvs
        simp only [putAll, Act.put, List.setIfInBounds_toArray, List.set_cons_succ, List.set_cons_zero]
        have HD2 := Lib.hid hG2
        clear hG2
        go_wp2_with fail
        refine (show Calls _ _ _ _ _ from K2.out _ ((HD2.out.below.block _ (lt_of_block HR2.out)).trans HR2.out) ((HD2.out.below.block _ (lt_of_block HP2.out)).trans HP2.out)).mono ?_
        rintro _ w3 ⟨rfl, hR, hP, hO⟩
        have HR3 := Lib.hid hR
        have HP3 := Lib.hid hP
        have HO3 := Lib.hid (Ot2.trans HO2.out (Ot2.trans (Ot2.of_ext HD2.out) hO))
        clear hR hP hO
        go_wp2
        refine wp_region_tail (l1 := [_, _, _, _, _, _, _]) (l2 := [_]) (by kernel_rfl) Ext (fun W => Below.refl _ W) (fun W => show Below W.heap.size W { W with drawn := W.drawn + 1 } from ⟨rfl, rfl, rfl, Nat.le_refl _, fun _ _ => rfl⟩) Ext.trans
          (fun i s W => match i with
            | 0 => s 0 = cR R
            | 1 => s 1 = .pointer (some ⟨g, o, none⟩)
            | 2 => s 2 = .pointer (some ⟨g, o, none⟩)
            | 3 => s 3 = .pointer (some ⟨g, o + 3, none⟩)
            | 4 => s 4 = .func (.method "nursery/program.number") #[cR R] #[]
            | 5 => s 5 = .func (.method "nursery/program.number") #[cR R] #[]
            | 6 => s 6 = cR R
            | _ => True)
          (fun i => [i])
          (by
            intro i s s' W W' h hs hE
            have hs := hs i (by simp)
            match i, h, hs with
            | 0, h, hs => exact hs.trans h
            | 1, h, hs => exact hs.trans h
            | 2, h, hs => exact hs.trans h
            | 3, h, hs => exact hs.trans h
            | 4, h, hs => exact hs.trans h
            | 5, h, hs => exact hs.trans h
            | 6, h, hs => exact hs.trans h
            | i + 7, h, hs => exact trivial)
          (by kernel_rfl) (by kernel_rfl) (by kernel_rfl) 46 rfl (by kernel_rfl) (by kernel_rfl) ?_ ?_
        · intro i op ho a' W hA

          match i, ho with
          | 0, ho =>
            obtain rfl := Option.some.inj ho
            have e1 : a'.eval (.tmp 0) = cR R := hA.keep 0 (by kernel_rfl)
            refine GoesG.value (cR R) rfl ?_ (Below.refl _ _) (fun s h1 h2 => h1 rfl)
            simp only [execOp, e1]
            simp [go_sem]
          | 1, ho =>
            obtain rfl := Option.some.inj ho
            have e1 : a'.eval (.tmp 1) = .pointer (some ⟨g, o, none⟩) := hA.keep 1 (by kernel_rfl)
            refine GoesG.value (.pointer (some ⟨g, o, none⟩)) rfl ?_ (Below.refl _ _) (fun s h1 h2 => h1 rfl)
            simp only [execOp, e1]
            simp [go_sem]
          | 2, ho =>
            obtain rfl := Option.some.inj ho
            have e1 : a'.eval (.tmp 29) = .pointer (some ⟨g, o, none⟩) := (sv_dst (l := _) rfl).symm.trans (hA.new 1 (by decide) (by kernel_rfl))
            refine GoesG.value (.pointer (some ⟨g, o, none⟩)) rfl ?_ (Below.refl _ _) (fun s h1 h2 => h1 rfl)
            simp only [execOp, e1]
            simp [go_sem]
          | 3, ho =>
            obtain rfl := Option.some.inj ho
            have e1 : a'.eval (.tmp 30) = .pointer (some ⟨g, o, none⟩) := (sv_dst (l := _) rfl).symm.trans (hA.new 2 (by decide) (by kernel_rfl))
            refine GoesG.value (.pointer (some ⟨g, o + 3, none⟩)) rfl ?_ (Below.refl _ _) (fun s h1 h2 => h1 rfl)
            simp only [execOp, e1]
            simp [go_sem]
          | 4, ho =>
            obtain rfl := Option.some.inj ho
            have e1 : a'.eval (.tmp 28) = cR R := (sv_dst (l := _) rfl).symm.trans (hA.new 0 (by decide) (by kernel_rfl))
            refine GoesG.value (.func (.method "nursery/program.number") #[cR R] #[]) rfl ?_ (Below.refl _ _) (fun s h1 h2 => h1 rfl)
            simp only [execOp, e1]
            simp [go_sem]
            simpa [Act.eval] using e1
          | 5, ho =>
            obtain rfl := Option.some.inj ho
            have e1 : a'.eval (.tmp 32) = .func (.method "nursery/program.number") #[cR R] #[] := (sv_dst (l := _) rfl).symm.trans (hA.new 4 (by decide) (by kernel_rfl))
            refine GoesG.value (.func (.method "nursery/program.number") #[cR R] #[]) rfl ?_ (Below.refl _ _) (fun s h1 h2 => h1 rfl)
            simp only [execOp, e1]
            simp [go_sem, hna_n]
          | 6, ho =>
            obtain rfl := Option.some.inj ho
            have e1 : a'.eval (.tmp 28) = cR R := (sv_dst (l := _) rfl).symm.trans (hA.new 0 (by decide) (by kernel_rfl))
            refine GoesG.value (cR R) rfl ?_ (Below.refl _ _) (fun s h1 h2 => h1 rfl)
            simp only [execOp, e1]
            simp [go_sem]
          | i + 7, ho => cases ho
        · intro vs w4d hvs hG3 hΦ
          obtain ⟨y0, y1, y2, y3, y4, y5, y6, rfl⟩ : ∃ y0 y1 y2 y3 y4 y5 y6, vs = y0 :: y1 :: y2 :: y3 :: y4 :: y5 :: y6 :: [] := by
            match vs, hvs with
            | y0 :: y1 :: y2 :: y3 :: y4 :: y5 :: y6 :: [], _ => exact ⟨y0, y1, y2, y3, y4, y5, y6, rfl⟩
          have e0 : y0 = cR R := hΦ 0 (by decide)
          subst e0
          have e1 : y1 = .pointer (some ⟨g, o, none⟩) := hΦ 1 (by decide)
          subst e1
          have e2 : y2 = .pointer (some ⟨g, o, none⟩) := hΦ 2 (by decide)
          subst e2
          have e3 : y3 = .pointer (some ⟨g, o + 3, none⟩) := hΦ 3 (by decide)
          subst e3
          have e4 : y4 = .func (.method "nursery/program.number") #[cR R] #[] := hΦ 4 (by decide)
          subst e4
          have e5 : y5 = .func (.method "nursery/program.number") #[cR R] #[] := hΦ 5 (by decide)
          subst e5
          have e6 : y6 = cR R := hΦ 6 (by decide)
          subst e6
          clear hΦ hvs
          simp only [putAll, Act.put, List.setIfInBounds_toArray, List.set_cons_succ, List.set_cons_zero]
          have HD3 := Lib.hid hG3
          clear hG3
          go_wp2_with fail
          refine (show Calls _ _ _ _ _ from K3.out _ ((HD3.out.below.block _ (lt_of_block HR3.out)).trans HR3.out) ((HD3.out.below.block _ (lt_of_block HP3.out)).trans HP3.out)).mono ?_
          rintro _ w4 ⟨rfl, hR, hP, hO⟩
          have HR4 := Lib.hid hR
          have HP4 := Lib.hid hP
          have HO4 := Lib.hid (Ot2.trans HO3.out (Ot2.trans (Ot2.of_ext HD3.out) hO))
          clear hR hP hO
          go_wp2_with fail
          refine (show Calls _ _ _ _ _ from K4.out _ HR4.out HP4.out).mono ?_
          rintro _ w5 ⟨rfl, hR, hP, hO⟩
          have HR5 := Lib.hid hR
          have HP5 := Lib.hid hP
          have HO5 := Lib.hid (Ot2.trans HO4.out hO)
          clear hR hP hO
          go_wp2_with fail
          refine (show Calls _ _ _ _ _ from K5.out _ HR5.out HP5.out).mono ?_
          rintro _ w6 ⟨rfl, hR, hO, a, hP, hI⟩
          have HI := Lib.hid (RowS.down hI HO5.out.size)
          clear hI
          have HR6 := Lib.hid hR
          have HP6 := Lib.hid hP
          have HO6 := Lib.hid (Ot2.trans HO5.out hO)
          clear hR hP hO
          go_wp2
          go_end0
          exact ⟨rfl, HR6.out, HO6.out, a, HP6.out, HI.out⟩
theorem rFn_one (R g o : Nat) (st : RSt) (cs : Array Value) (T : TypeId) (w : World) (hR : w.heap[R]? = some (rdQ st)) (hP : w.heap[g]? = some (.cells cs T (0, 0))) (hne : g ≠ R) (ho : o + 6 ≤ cs.size) (hl : st.1.length ≤ 20000) (hbf : cs[o + 4]? = some (.bool false)) (hbz : cs[o + 5]? = some (.slice none 0 0)) :
    Calls Tryz.prog 51 #[cR R, .pointer (some ⟨g, o, none⟩)] w (ROne gFn FnSl 6 R g o st cs T w) := by
  refine (rFn_any R g o st cs T w hR hP hne ho hl hbf hbz).mono ?_
  rintro e w' ⟨h1, h2, h3, a, h4, h5⟩
  refine ⟨h1, h2, h3, _, h4, by simp, fun q hq => ?_, a, _, ⟨cell_of h4 ?_, cell_of h4 ?_, cell_of h4 ?_, cell_of h4 ?_, cell_of h4 ?_, cell_of h4 ?_⟩, Nat.le_refl _, h5⟩
  · simp only [Array.getElem?_setIfInBounds]
    rw [if_neg (by omega), if_neg (by omega), if_neg (by omega), if_neg (by omega), if_neg (by omega), if_neg (by omega)]
  all_goals (simp only [Array.getElem?_setIfInBounds, Array.size_setIfInBounds]; simp; first | exact ⟨by omega, rfl⟩ | exact ⟨by omega, rfl, rfl⟩)
end Go.Proofs.YtfkjokbhnblndaaGreatDoor

namespace Go.Proofs.YtfkjokbhnblndaaGreatDoor
open Go.RowKit Go.Shelf
set_option linter.unusedVariables false
set_option linter.unusedSimpArgs false

def gPg (s : RSt) : Pg × RSt := (⟨(gEach gFn (gTxt s).2).1, (gEach gOb (gEach gFn (gTxt s).2).2).1, (gEach gVa (gEach gOb (gEach gFn (gTxt s).2).2).2).1⟩, (gEach gVa (gEach gOb (gEach gFn (gTxt s).2).2).2).2)
/-- a program that a reader has made -/
structure PgMade (B : Nat) (w : World) (p : Pg) (fa oa va : Option Addr) : Prop where
  fs : RowS FnSl 6 47 B w fa p.fs
  os : RowS ObSl 4 52 B w oa p.os
  vs : RowS VaSl 3 54 B w va p.vs
set_option maxRecDepth 100000 in
set_option maxHeartbeats 4000000 in
theorem rdesc_any (R pb : Nat) (st : RSt) (w : World) (hR : w.heap[R]? = some (rdQ st)) (hP : w.heap[pb]? = some (.cells #[.slice none 0 0, .slice none 0 0, .slice none 0 0] 26 (0, 0))) (hne : pb ≠ R) (hl : st.1.length ≤ 20000) :
    Calls Tryz.prog 26 #[cR R, .pointer (some ⟨pb, 0, none⟩)] w fun e w' => e = .returned (.tuple #[]) ∧ w'.heap[R]? = some (rdQ (gPg st).2) ∧ Ot2 R pb w w' ∧
      ∃ fa oa va, w'.heap[pb]? = some (.cells #[.slice fa (gPg st).1.fs.length (gPg st).1.fs.length, .slice oa (gPg st).1.os.length (gPg st).1.os.length, .slice va (gPg st).1.vs.length (gPg st).1.vs.length] 26 (0, 0)) ∧ PgMade w.heap.size w' (gPg st).1 fa oa va := by
  have hl1 := Nat.le_trans (gTxt_le st) hl
  have hl2 := Nat.le_trans (gEach_le gFn gFn_le (gTxt st).2) hl1
  have hl3 := Nat.le_trans (gEach_le gOb gOb_le (gEach gFn (gTxt st).2).2) hl2
  have KT := Lib.hid (fun W nb x (h : W.heap[R]? = some (rdQ st)) (hb : W.heap[nb]? = some (.cells #[x] 9 (0, 0))) (hn : nb ≠ R) => rtext_any R nb 0 st #[x] 9 W h hb hn (by simp) (by omega))
  have KF := Lib.hid (fun W x y z (h : W.heap[R]? = some (rdQ (gTxt st).2)) (hb : W.heap[pb]? = some (.cells #[x, y, z] 26 (0, 0))) (hx : x = .slice none 0 0) => reach_Fn R pb 0 (gTxt st).2 #[x, y, z] 26 W h hb hne (by simp) (by rw [hx]; rfl) hl1 (fun g i st' cs' w' h1 h2 h3 h4 h5 h6 => rFn_one R g (i * 6) st' cs' _ w' h1 h2 h3 h4 h5 h6.1 h6.2))
  have KO := Lib.hid (fun W x y z (h : W.heap[R]? = some (rdQ (gEach gFn (gTxt st).2).2)) (hb : W.heap[pb]? = some (.cells #[x, y, z] 26 (0, 0))) (hy : y = .slice none 0 0) => reach_Ob R pb 1 (gEach gFn (gTxt st).2).2 #[x, y, z] 26 W h hb hne (by simp) (by rw [hy]; rfl) hl2 (fun g i st' cs' w' h1 h2 h3 h4 h5 _ => rOb_one R g (i * 4) st' cs' _ w' h1 h2 h3 h4 h5))
  have KV := Lib.hid (fun W x y z (h : W.heap[R]? = some (rdQ (gEach gOb (gEach gFn (gTxt st).2).2).2)) (hb : W.heap[pb]? = some (.cells #[x, y, z] 26 (0, 0))) (hz : z = .slice none 0 0) => reach_Va R pb 2 (gEach gOb (gEach gFn (gTxt st).2).2).2 #[x, y, z] 26 W h hb hne (by simp) (by rw [hz]; rfl) hl3 (fun g i st' cs' w' h1 h2 h3 h4 h5 h6 => rVa_one R g (i * 3) st' cs' _ w' h1 h2 h3 h4 h5 h6))
  have HG := Lib.hid (show gPg st = (⟨(gEach gFn (gTxt st).2).1, (gEach gOb (gEach gFn (gTxt st).2).2).1, (gEach gVa (gEach gOb (gEach gFn (gTxt st).2).2).2).1⟩, (gEach gVa (gEach gOb (gEach gFn (gTxt st).2).2).2).2) from rfl)
  rw [HG.out]
  clear HG hl hl1 hl2 hl3
  dsimp only
  have HR := Lib.hid hR
  have HP := Lib.hid hP
  have hlR : R < w.heap.size := lt_of_block hR
  have hlP : pb < w.heap.size := lt_of_block hP
  clear hR hP
  generalize (gTxt st).2 = s1 at *
  generalize (gTxt st).1 = v1 at *
  generalize (gEach gFn s1).1 = fs at *
  generalize (gEach gFn s1).2 = s2 at *
  generalize (gEach gOb s2).1 = os at *
  generalize (gEach gOb s2).2 = s3 at *
  generalize (gEach gVa s3).1 = vs at *
  generalize (gEach gVa s3).2 = s4 at *
  go_enter Tryz.func26, Tryz.ntmps26
  go_wp2_with fail
  have hb1 := alloc_here w (.cells #[sV [78, 80, 49]] 9)
  have HE := Lib.hid (ext_alloc (Below.refl _ w) (.cells #[sV [78, 80, 49]] 9))
  have HP1 := Lib.hid ((HE.out.below.block _ hlP).trans HP.out)
  refine (show Calls _ _ _ _ _ from KT.out _ w.heap.size (sV [78, 80, 49]) ((HE.out.below.block _ hlR).trans HR.out) hb1 (by omega)).mono ?_
  rintro _ w1 ⟨rfl, hR1, _, hO⟩
  have HR1 := Lib.hid hR1
  have HP2 := Lib.hid (hO.block HP1.out hne (by omega))
  have HO1 := Lib.hid (show Ot2 R pb w w1 from Ot2.fresh HE.out hO (Nat.le_refl _))
  clear hb1 hR1 hO
  go_wp2_with fail
  refine (show Calls _ _ _ _ _ from KF.out w1 _ _ _ HR1.out HP2.out rfl).mono ?_
  rintro _ w2 ⟨rfl, hR2, hO, fa, hP3, hF⟩
  have HR2 := Lib.hid hR2
  have HP3 := Lib.hid (show w2.heap[pb]? = some (.cells #[.slice fa fs.length fs.length, .slice none 0 0, .slice none 0 0] 26 (0, 0)) from hP3)
  have HF2 := Lib.hid (hF.down HO1.out.size)
  have HO2 := Lib.hid (Ot2.trans HO1.out hO)
  clear hR2 hP3 hF hO
  go_wp2_with fail
  refine (show Calls _ _ _ _ _ from KO.out w2 _ _ _ HR2.out HP3.out rfl).mono ?_
  rintro _ w3 ⟨rfl, hR3, hO, oa, hP4, hF⟩
  have HR3 := Lib.hid hR3
  have HP4 := Lib.hid (show w3.heap[pb]? = some (.cells #[.slice fa fs.length fs.length, .slice oa os.length os.length, .slice none 0 0] 26 (0, 0)) from hP4)
  have HF3 := Lib.hid (HF2.out.keep FnSl.keep hO hlR hlP)
  have HG3 := Lib.hid (hF.down HO2.out.size)
  have HO3 := Lib.hid (Ot2.trans HO2.out hO)
  clear hR3 hP4 hF hO
  go_wp2_with fail
  refine (show Calls _ _ _ _ _ from KV.out w3 _ _ _ HR3.out HP4.out rfl).mono ?_
  rintro _ w4 ⟨rfl, hR4, hO, va, hP5, hF⟩
  have HR4 := Lib.hid hR4
  have HP5 := Lib.hid (show w4.heap[pb]? = some (.cells #[.slice fa fs.length fs.length, .slice oa os.length os.length, .slice va vs.length vs.length] 26 (0, 0)) from hP5)
  have HF4 := Lib.hid (HF3.out.keep FnSl.keep hO hlR hlP)
  have HG4 := Lib.hid (HG3.out.keep ObSl.keep hO hlR hlP)
  have HV4 := Lib.hid (hF.down HO3.out.size)
  have HO4 := Lib.hid (Ot2.trans HO3.out hO)
  clear hR4 hP5 hF hO
  go_wp2
  go_end0
  exact ⟨rfl, HR4.out, HO4.out, fa, oa, va, HP5.out, HF4.out, HG4.out, HV4.out⟩

/-! what is read fits -/
theorem rdL_len (s : List UInt8) : (rdL s).1.length ≤ s.length := by
  by_cases h : (rdL s).2.2 = 0
  · obtain ⟨h1, h2, h3, h4⟩ := rdL_ok h
    have h5 : (rdL s).1.length ≤ (encL (rdL s).1).length := by
      generalize (rdL s).1 = l at *
      clear h1 h2 h3 h4 h
      induction l with
      | nil => simp
      | cons n l ih =>
        have := enc_pos n
        unfold encL at *
        rw [encs_cons]
        simp only [List.length_append, List.length_cons, List.length_nil] at ih ⊢
        omega
    omega
  · rw [(rdL_err h).1]; simp
theorem gIns_wf (s : RSt) (hs : s.1.length ≤ 20000) : (gIns s).1.wf := by
  refine ⟨gNum_bd s, gNum_bd _, gNum_bd _, gNum_bd _, ?_, gLst_bd _⟩
  have h1 := rdL_len (gNum (gNum (gNum (gNum s).2).2).2).2.1
  have h2 := Nat.le_trans (gNum_le (gNum (gNum (gNum s).2).2).2) (Nat.le_trans (gNum_le (gNum (gNum s).2).2) (Nat.le_trans (gNum_le (gNum s).2) (gNum_le s)))
  show ((gLst (gNum (gNum (gNum (gNum s).2).2).2).2).1).length ≤ _
  unfold gLst
  dsimp only
  omega
theorem gOb_wf (s : RSt) : (gOb s).1.wf := ⟨Nat.le_trans (gTxt_bd s) (by decide), gNum_bd _, gNum_bd _, gNum_bd _⟩
theorem gVa_wf (s : RSt) : (gVa s).1.wf := ⟨Nat.le_trans (gTxt_bd s) (by decide), gNum_bd _⟩
theorem gRep_mem2 {α : Type} (one : RSt → α × RSt) (hle : ∀ s, (one s).2.1.length ≤ s.1.length) : ∀ n s x, x ∈ (gRep one n s).1 → ∃ s', x = (one s').1 ∧ s'.1.length ≤ s.1.length
  | 0, _, x, h => by cases h
  | n + 1, s, x, h => by
    rcases List.mem_cons.1 h with rfl | h
    · exact ⟨s, rfl, Nat.le_refl _⟩
    · obtain ⟨s', h1, h2⟩ := gRep_mem2 one hle n _ x h
      exact ⟨s', h1, Nat.le_trans h2 (hle s)⟩
theorem gCnt_le (n : Int) : gCnt n ≤ 1000 := by
  unfold gCnt
  split <;> omega
theorem gEach_len {α : Type} (one : RSt → α × RSt) (s : RSt) : (gEach one s).1.length ≤ 1000 := by
  unfold gEach
  rw [gRep_len]
  exact gCnt_le _
theorem gEach_mem {α : Type} {one : RSt → α × RSt} (hle : ∀ s, (one s).2.1.length ≤ s.1.length) {s : RSt} {x : α} (h : x ∈ (gEach one s).1) : ∃ s', x = (one s').1 ∧ s'.1.length ≤ s.1.length := by
  obtain ⟨s', h1, h2⟩ := gRep_mem2 one hle _ _ _ h
  exact ⟨s', h1, Nat.le_trans h2 (gNum_le s)⟩
theorem gFn_wf (s : RSt) (hs : s.1.length ≤ 20000) : (gFn s).1.wf := by
  have hl : (gFlg (gNum (gNum (gNum (gTxt s).2).2).2).2).2.1.length ≤ 20000 := Nat.le_trans (gNum_le _) (Nat.le_trans (gNum_le _) (Nat.le_trans (gNum_le _) (Nat.le_trans (gNum_le _) (Nat.le_trans (gTxt_le s) hs))))
  refine ⟨Nat.le_trans (gTxt_bd s) (by decide), gNum_bd _, gNum_bd _, gNum_bd _, Nat.le_trans (gEach_len gIns _) (by decide), fun c hc => ?_⟩
  obtain ⟨s', h1, h2⟩ := gEach_mem gIns_le (show c ∈ (gEach gIns (gFlg (gNum (gNum (gNum (gTxt s).2).2).2).2).2).1 from hc)
  rw [h1]
  exact gIns_wf s' (Nat.le_trans h2 hl)
theorem gPg_wf (s : RSt) (hs : s.1.length ≤ 20000) : (gPg s).1.wf := by
  have hl1 := Nat.le_trans (gTxt_le s) hs
  refine ⟨Nat.le_trans (gEach_len gFn _) (by decide), Nat.le_trans (gEach_len gOb _) (by decide), Nat.le_trans (gEach_len gVa _) (by decide), fun x hx => ?_, fun x hx => ?_, fun x hx => ?_⟩
  · obtain ⟨s', h1, h2⟩ := gEach_mem gFn_le (show x ∈ (gEach gFn (gTxt s).2).1 from hx)
    rw [h1]; exact gFn_wf s' (Nat.le_trans h2 hl1)
  · obtain ⟨s', h1, h2⟩ := gEach_mem gOb_le (show x ∈ (gEach gOb (gEach gFn (gTxt s).2).2).1 from hx)
    rw [h1]; exact gOb_wf s'
  · obtain ⟨s', h1, h2⟩ := gEach_mem gVa_le (show x ∈ (gEach gVa (gEach gOb (gEach gFn (gTxt s).2).2).2).1 from hx)
    rw [h1]; exact gVa_wf s'
theorem RowI.cap {B : Nat} {x : Option Addr} {n c : Nat} {l : List Int} {w : World} (h : RowI B (.slice x n c) l w) : l.length ≤ c := by
  unfold RowI World.ownsRow at h
  rcases h.2 with ⟨e, h0⟩ | ⟨g, cap, cur, e, _, _, hc, _⟩
  · rw [h0]; exact Nat.zero_le _
  · cases e; exact hc
theorem RowS.ins {B : Nat} {w : World} {a : Option Addr} {l : List Ins} (h : RowS InsSl 5 50 B w a l) : InsRow w a l := fun i hi => by
  obtain ⟨g, cs, rfl, _, _, _, hj⟩ := h
  obtain ⟨x, c, hc, hI⟩ := hj i hi
  have hle := RowI.cap hI
  obtain ⟨x', cap, e, hA, _, _⟩ := RowI.ints hI
  cases e
  exact ⟨g, 0, x, c, rfl, by rw [Nat.zero_add]; exact hc, hA, hle⟩
theorem PgMade.at {B : Nat} {w : World} {p : Pg} {fa oa va : Option Addr} (h : PgMade B w p fa oa va) (hwf : p.wf) : PgAt w p ⟨fa, p.fs.length, oa, p.os.length, va, p.vs.length⟩ ∧ PgFree w p ⟨fa, p.fs.length, oa, p.os.length, va, p.vs.length⟩ := by
  refine ⟨⟨fun i hi => ?_, fun i hi => ?_, fun i hi => ?_, hwf, Nat.le_refl _, Nat.le_refl _, Nat.le_refl _⟩, ⟨fun b o e i hi => ?_, fun b o e i hi => ?_⟩⟩
  · obtain ⟨g, cs, rfl, _, _, _, hj⟩ := h.fs
    obtain ⟨x, c, hc, _, hI⟩ := hj i hi
    exact ⟨g, 0, x, c, rfl, by rw [Nat.zero_add]; exact hc, hI.ins⟩
  · obtain ⟨g, cs, rfl, _, _, _, hj⟩ := h.os
    exact ⟨g, 0, rfl, by rw [Nat.zero_add]; exact hj i hi⟩
  · obtain ⟨g, cs, rfl, _, _, _, hj⟩ := h.vs
    exact ⟨g, 0, rfl, by rw [Nat.zero_add]; exact hj i hi⟩
  · obtain ⟨g, cs, e', _, hg, _, _⟩ := h.fs
    have e : fa = some ⟨b, o, none⟩ := e
    rw [e] at e'
    cases e'
    exact free_of hg
  · obtain ⟨g, cs, e', _, hg, _, _⟩ := h.vs
    have e : va = some ⟨b, o, none⟩ := e
    rw [e] at e'
    cases e'
    exact free_of hg
end Go.Proofs.YtfkjokbhnblndaaGreatDoor

namespace Go.Proofs.YtfkjokbhnblndaaGreatDoor
open Go.RowKit Go.Shelf
set_option linter.unusedVariables false
set_option linter.unusedSimpArgs false

theorem put3n {W : World} {B : Nat} {c : Array Value} {T : TypeId} {f : Nat × Nat} (h : W.heap[B]? = some (.cells c T f)) (hc : c.size = 3) (x0 x1 x2 : Value) :
    ∃ W', (((W.setCell ⟨B, 0, none⟩ x0).setCell ⟨B, 1, none⟩ x1).setCell ⟨B, 2, none⟩ x2) = W' ∧ W'.heap[B]? = some (.cells #[x0, x1, x2] T f) ∧ (∀ n₀, n₀ ≤ B → Below n₀ W W') ∧ (∀ b, b ≠ B → W'.heap[b]? = W.heap[b]?) := by
  refine ⟨_, rfl, ?_, fun n₀ hn => ?_, fun b hb => ?_⟩
  · have := heap_set (i := 2) (heap_set (i := 1) (heap_set (i := 0) h x0) x1) x2
    rw [this]
    have e : ((c.setIfInBounds 0 x0).setIfInBounds 1 x1).setIfInBounds 2 x2 = #[x0, x1, x2] := by
      obtain ⟨l⟩ := c
      match l, hc with
      | [a, b, d], _ => rfl
    rw [e]
  · exact (((Below.refl n₀ W).setCell (p := ⟨B, 0, none⟩) hn x0).setCell (p := ⟨B, 1, none⟩) hn x1).setCell (p := ⟨B, 2, none⟩) hn x2
  · exact (Below.heap_setCell _ _ _ _ hb).trans ((Below.heap_setCell _ _ _ _ hb).trans (Below.heap_setCell _ _ _ _ hb))
theorem opn_len (s : List UInt8) : (opn s).1.length ≤ s.length := by
  by_cases h : (opn s).2.2 = 0
  · obtain ⟨_, h2, h3, _⟩ := opn_yes s h
    have : (opn s).1.length ≤ (frame (opn s).1).length := by unfold frame; simp only [List.length_append]; omega
    omega
  · rw [(opn_no s h).1]; simp
/-- what Decode gives -/
def decR (s : List UInt8) : Option Pg × Int :=
  if (opn s).2.2 ≠ 0 then (none, (opn s).2.2)
  else if (gPg ((opn s).1, false)).2.2 = true ∨ (opn s).2.1 ≠ s.length then (none, 12)
  else if (encR (gPg ((opn s).1, false)).1).2 ≠ 0 ∨ (encR (gPg ((opn s).1, false)).1).1 ≠ s then (none, 12)
  else (some (gPg ((opn s).1, false)).1, 0)
abbrev zPV : Value := .agg #[.slice none 0 0, .slice none 0 0, .slice none 0 0]
abbrev zPB : Obj := .cells #[.slice none 0 0, .slice none 0 0, .slice none 0 0] 26 (0, 0)
def DecP (w : World) (D : Option Pg × Int) (e : Ending) (w' : World) : Prop := Ext w w' ∧ match D.1 with
  | none => e = .returned (.tuple #[zPV, .int .i64 D.2])
  | some p => ∃ A, e = .returned (.tuple #[PV p A, .int .i64 0]) ∧ PgAt w' p A ∧ PgFree w' p A
theorem DecP.none {w w' : World} {D : Option Pg × Int} {er : Int} (hD : D = (none, er)) (hE : Ext w w') : DecP w D (.returned (.tuple #[zPV, .int .i64 er])) w' := by
  subst hD; exact ⟨hE, rfl⟩
theorem DecP.some {w w' : World} {D : Option Pg × Int} {p : Pg} {A : PA} (hD : D = (Option.some p, 0)) (hE : Ext w w') (hA : PgAt w' p A) (hF : PgFree w' p A) : DecP w D (.returned (.tuple #[PV p A, .int .i64 0])) w' := by
  subst hD; exact ⟨hE, A, rfl, hA, hF⟩

set_option maxRecDepth 100000 in
set_option maxHeartbeats 4000000 in
theorem Decode_err (s : List UInt8) (n : Nat) (er : Int) (D : Option Pg × Int) (w : World) (he : er ≠ 0) (hO : ∀ W, Gives Tryz.prog 31 #[sV s] W (.tuple #[sV [], .int .i64 (n : Int), .int .i64 er])) (hD : D = (none, er)) :
    Calls Tryz.prog 14 #[sV s] w (DecP w D) := by
  have KO := Lib.hid hO
  have HD := Lib.hid hD
  have HX1 := Lib.hid (ext_alloc (Below.refl _ w) zPB)
  have HZ1 := Lib.hid (alloc_here w zPB)
  have g1 : (er == 0) = false := by simpa using he
  have g2 : (er != 0) = true := by simpa using he
  clear hO hD he
  go_enter Tryz.func14, Tryz.ntmps14
  go_wp2_with fail
  refine (show Gives _ _ _ _ _ from KO.out _).mono ?_
  intro w1 hE1
  replace hE1 : Ext (w.alloc zPB) w1 := hE1
  have HX := Lib.hid (Ext.trans HX1.out hE1)
  have HZ := Lib.hid ((hE1.below.block _ (lt_of_block HZ1.out)).trans HZ1.out)
  clear hE1
  have z0 := cell_of (i := 0) HZ.out rfl
  have z1 := cell_of (i := 1) HZ.out rfl
  have z2 := cell_of (i := 2) HZ.out rfl
  have zf : ∀ i, w1.frozen? ⟨w.heap.size, i, none⟩ = false := fun i => free_of HZ.out
  go_wp2
  obtain ⟨W', hW', h3, h4, h5⟩ := put3n HZ.out rfl (.slice none 0 0) (.slice none 0 0) (.slice none 0 0)
  rw [hW']
  clear z0 z1 z2 zf
  have z0 := cell_of (i := 0) h3 rfl
  have z1 := cell_of (i := 1) h3 rfl
  have z2 := cell_of (i := 2) h3 rfl
  exact bodyPost_ret (v := .tuple #[zPV, .int .i64 er]) (by simp [results, Tryz.f14, go_sem, z0, z1, z2]) rfl (DecP.none HD.out (Below.trans HX.out (h4 _ (Nat.le_refl _))))

set_option maxRecDepth 100000 in
set_option maxHeartbeats 8000000 in
theorem Decode_read (s t rest u : List UInt8) (n : Nat) (p : Pg) (wr : Bool) (ee : Int) (D : Option Pg × Int) (w : World) (hm : MaxL w) (hwf : p.wf)
    (hO : ∀ W, Gives Tryz.prog 31 #[sV s] W (.tuple #[sV t, .int .i64 (n : Int), .int .i64 0]))
    (hRd : ∀ W R pb, W.heap[R]? = some (rdQ (t, false)) → W.heap[pb]? = some zPB → pb ≠ R → Calls Tryz.prog 26 #[cR R, .pointer (some ⟨pb, 0, none⟩)] W fun e w' => e = .returned (.tuple #[]) ∧ w'.heap[R]? = some (rdQ (rest, wr)) ∧ Ot2 R pb W w' ∧
      ∃ fa oa va, w'.heap[pb]? = some (.cells #[.slice fa p.fs.length p.fs.length, .slice oa p.os.length p.os.length, .slice va p.vs.length p.vs.length] 26 (0, 0)) ∧ PgMade W.heap.size w' p fa oa va)
    (hEn : ∀ W A, PgAt W p A → PgFree W p A → MaxL W → Gives Tryz.prog 12 #[PV p A] W (.tuple #[sV u, .int .i64 ee]))
    (hD1 : wr = true ∨ n ≠ s.length → D = (none, 12)) (hD2 : ¬ (wr = true ∨ n ≠ s.length) → ee ≠ 0 ∨ u ≠ s → D = (none, 12)) (hD3 : ¬ (wr = true ∨ n ≠ s.length) → ¬ (ee ≠ 0 ∨ u ≠ s) → D = (some p, 0)) (hsl : s.length ≤ 20000) :
    Calls Tryz.prog 14 #[sV s] w (DecP w D) := by
  have KO := Lib.hid hO
  have KR := Lib.hid hRd
  have KE := Lib.hid hEn
  have HD1 := Lib.hid hD1
  have HD2 := Lib.hid hD2
  have HD3 := Lib.hid hD3
  have HWF := Lib.hid hwf
  have HM := Lib.hid hm
  have HX1 := Lib.hid (ext_alloc (Below.refl _ w) zPB)
  have HZ1 := Lib.hid (alloc_here w zPB)
  clear hO hRd hEn hD1 hD2 hD3 hwf
  go_enter Tryz.func14, Tryz.ntmps14
  go_wp2_with fail
  refine (show Gives _ _ _ _ _ from KO.out _).mono ?_
  intro w1 hE1
  replace hE1 : Ext (w.alloc zPB) w1 := hE1
  have HX := Lib.hid (Ext.trans HX1.out hE1)
  have HZ := Lib.hid ((hE1.below.block _ (lt_of_block HZ1.out)).trans HZ1.out)
  clear hE1
  have HA := Lib.hid (ext_alloc (ext_alloc (Below.refl _ w1) (rdQ (t, false))) zPB)
  have HAR := Lib.hid (show ((w1.alloc (rdQ (t, false))).alloc zPB).heap[w1.heap.size]? = some (rdQ (t, false)) from by
    rw [Below.heap_alloc _ _ _ (by rw [World.size_alloc]; omega)]; exact alloc_here _ _)
  have HAP := Lib.hid (show ((w1.alloc (rdQ (t, false))).alloc zPB).heap[w1.heap.size + 1]? = some zPB from by
    have := alloc_here (w1.alloc (rdQ (t, false))) zPB
    rw [World.size_alloc] at this; exact this)
  have hlz : w.heap.size < w1.heap.size := lt_of_block HZ.out
  go_wp2_with fail
  refine (show Calls _ _ _ _ _ from KR.out _ w1.heap.size (w1.heap.size + 1) HAR.out HAP.out (by omega)).mono ?_
  rintro _ w2 ⟨rfl, hR2, hOt, fa, oa, va, hP2, hM2⟩
  have HR2 := Lib.hid hR2
  have HP2 := Lib.hid hP2
  have HZ2 := Lib.hid (hOt.block ((HA.out.below.block _ hlz).trans HZ.out) (by omega) (by omega))
  have HE2 := Lib.hid (show Ext w1 w2 from ⟨hOt.os.trans HA.out.os, hOt.tape.trans HA.out.tape, hOt.output.trans HA.out.output, Nat.le_trans HA.out.size hOt.size, fun j hj => (hOt.other j (Nat.lt_of_lt_of_le hj HA.out.size) (by omega) (by omega)).trans (HA.out.below.block j hj)⟩)
  have HAt := Lib.hid (hM2.at HWF.out)
  have HMd := Lib.hid hM2
  have HBs := Lib.hid (show w.heap.size < ((w1.alloc (rdQ (t, false))).alloc zPB).heap.size from by simp only [World.size_alloc]; omega)
  clear hR2 hP2 hOt hM2
  have r1 : w2.cell? ⟨w1.heap.size, 1, none⟩ = some (.bool wr) := cell_of HR2.out rfl
  have z0 := cell_of (i := 0) HZ2.out rfl
  have z1 := cell_of (i := 1) HZ2.out rfl
  have z2 := cell_of (i := 2) HZ2.out rfl
  have zf : ∀ i, w2.frozen? ⟨w.heap.size, i, none⟩ = false := fun i => free_of HZ2.out
  have hlen : (sB s).size = s.length := sB_size s
  by_cases hbad : wr = true ∨ n ≠ s.length
  · have HD := Lib.hid (HD1.out hbad)
    have HX2 := Lib.hid (Ext.trans HX.out HE2.out)
    cases wr with
    | true =>
      clear hbad
      go_wp2
      obtain ⟨W', hW', h3, h4, h5⟩ := put3n HZ2.out rfl (.slice none 0 0) (.slice none 0 0) (.slice none 0 0)
      rw [hW']
      clear z0 z1 z2 zf
      have z0 := cell_of (i := 0) h3 rfl
      have z1 := cell_of (i := 1) h3 rfl
      have z2 := cell_of (i := 2) h3 rfl
      exact bodyPost_ret (v := .tuple #[zPV, .int .i64 12]) (by simp [results, Tryz.f14, go_sem, z0, z1, z2]) rfl (DecP.none HD.out (Below.trans HX2.out (h4 _ (Nat.le_refl _))))
    | false =>
      have hn : n ≠ s.length := by rcases hbad with h | h; cases h; exact h
      have hn2 : ((n : Int) == (s.length : Int)) = false := by rw [beq_eq_false_iff_ne]; omega
      have hn3 : ((n : Int) != (s.length : Int)) = true := by rw [bne_iff_ne]; omega
      clear hbad
      go_wp2
      obtain ⟨W', hW', h3, h4, h5⟩ := put3n HZ2.out rfl (.slice none 0 0) (.slice none 0 0) (.slice none 0 0)
      rw [hW']
      clear z0 z1 z2 zf
      have z0 := cell_of (i := 0) h3 rfl
      have z1 := cell_of (i := 1) h3 rfl
      have z2 := cell_of (i := 2) h3 rfl
      exact bodyPost_ret (v := .tuple #[zPV, .int .i64 12]) (by simp [results, Tryz.f14, go_sem, z0, z1, z2]) rfl (DecP.none HD.out (Below.trans HX2.out (h4 _ (Nat.le_refl _))))
  · obtain ⟨hw, hn⟩ : wr = false ∧ n = s.length := by
      constructor
      · cases wr with
        | true => exact absurd (Or.inl rfl) hbad
        | false => rfl
      · exact Classical.byContradiction (fun h => hbad (Or.inr h))
    have HQ2 := Lib.hid (HD2.out hbad)
    have HQ3 := Lib.hid (HD3.out hbad)
    clear hbad
    subst hw
    subst hn
    have HX2 := Lib.hid (Ext.trans HX.out HE2.out)
    have hm2 : MaxL w2 := HM.out.below HM.out.lt HX2.out
    have KX := Lib.hid (KE.out w2 ⟨fa, p.fs.length, oa, p.os.length, va, p.vs.length⟩ HAt.out.1 HAt.out.2 hm2)
    dsimp only [PV] at KX
    have p0 := cell_of (i := 0) HP2.out rfl
    have p1 := cell_of (i := 1) HP2.out rfl
    have p2 := cell_of (i := 2) HP2.out rfl
    go_wp2_with fail
    refine (show Gives _ _ _ _ _ from KX.out).mono ?_
    intro w3 hE3
    replace hE3 : Ext w2 w3 := hE3
    have HX3 := Lib.hid (Ext.trans HX2.out hE3)
    have HZ3 := Lib.hid ((hE3.below.block _ (lt_of_block HZ2.out)).trans HZ2.out)
    have HP3 := Lib.hid ((hE3.below.block _ (lt_of_block HP2.out)).trans HP2.out)
    have HE23 := Lib.hid hE3
    clear hE3 p0 p1 p2 r1 z0 z1 z2 zf
    have z0 := cell_of (i := 0) HZ3.out rfl
    have z1 := cell_of (i := 1) HZ3.out rfl
    have z2 := cell_of (i := 2) HZ3.out rfl
    have zf : ∀ i, w3.frozen? ⟨w.heap.size, i, none⟩ = false := fun i => free_of HZ3.out
    by_cases hee : ee = 0
    · subst hee
      by_cases hu : u = s
      · subst hu
        have HD := Lib.hid (HQ3.out (by simp))
        have p0 := cell_of (i := 0) HP3.out rfl
        have p1 := cell_of (i := 1) HP3.out rfl
        have p2 := cell_of (i := 2) HP3.out rfl
        go_wp2
        obtain ⟨W', hW', h3, h4, h5⟩ := put3n HZ3.out rfl (.slice fa p.fs.length p.fs.length) (.slice oa p.os.length p.os.length) (.slice va p.vs.length p.vs.length)
        rw [hW']
        clear z0 z1 z2 zf p0 p1 p2
        have z0 := cell_of (i := 0) h3 rfl
        have z1 := cell_of (i := 1) h3 rfl
        have z2 := cell_of (i := 2) h3 rfl
        exact bodyPost_ret (v := .tuple #[PV p ⟨fa, p.fs.length, oa, p.os.length, va, p.vs.length⟩, .int .i64 0]) (by simp [results, Tryz.f14, go_sem, z0, z1, z2]) rfl (by
          have hO : Ot2 w.heap.size w.heap.size w2 W' := Ot2.trans (Ot2.of_ext HE23.out) ⟨(h4 0 (Nat.zero_le _)).os, (h4 0 (Nat.zero_le _)).tape, (h4 0 (Nat.zero_le _)).output, (h4 0 (Nat.zero_le _)).size, fun j _ hj _ => h5 j hj⟩
          have hM : PgMade ((w1.alloc (rdQ (t, false))).alloc zPB).heap.size W' p fa oa va := ⟨HMd.out.fs.keep FnSl.keep hO HBs.out HBs.out, HMd.out.os.keep ObSl.keep hO HBs.out HBs.out, HMd.out.vs.keep VaSl.keep hO HBs.out HBs.out⟩
          exact DecP.some HD.out (Below.trans HX3.out (h4 _ (Nat.le_refl _))) (hM.at HWF.out).1 (hM.at HWF.out).2)
      · have HD := Lib.hid (HQ2.out (.inr hu))
        have hul : (u == s) = false := by simpa using hu
        clear hu
        go_wp2
        obtain ⟨W', hW', h3, h4, h5⟩ := put3n HZ3.out rfl (.slice none 0 0) (.slice none 0 0) (.slice none 0 0)
        rw [hW']
        clear z0 z1 z2 zf
        have z0 := cell_of (i := 0) h3 rfl
        have z1 := cell_of (i := 1) h3 rfl
        have z2 := cell_of (i := 2) h3 rfl
        exact bodyPost_ret (v := .tuple #[zPV, .int .i64 12]) (by simp [results, Tryz.f14, go_sem, z0, z1, z2]) rfl (DecP.none HD.out (Below.trans HX3.out (h4 _ (Nat.le_refl _))))
    · have HD := Lib.hid (HQ2.out (.inl hee))
      have g1 : (ee == 0) = false := by simpa using hee
      have g2 : (ee != 0) = true := by simpa using hee
      clear hee
      go_wp2
      obtain ⟨W', hW', h3, h4, h5⟩ := put3n HZ3.out rfl (.slice none 0 0) (.slice none 0 0) (.slice none 0 0)
      rw [hW']
      clear z0 z1 z2 zf
      have z0 := cell_of (i := 0) h3 rfl
      have z1 := cell_of (i := 1) h3 rfl
      have z2 := cell_of (i := 2) h3 rfl
      exact bodyPost_ret (v := .tuple #[zPV, .int .i64 12]) (by simp [results, Tryz.f14, go_sem, z0, z1, z2]) rfl (DecP.none HD.out (Below.trans HX3.out (h4 _ (Nat.le_refl _))))
theorem Decode_any (s : List UInt8) (w : World) (hs : s.length ≤ 20000) (hm : MaxL w) : Calls Tryz.prog 14 #[sV s] w (DecP w (decR s)) := by
  have KO : ∀ W, Gives Tryz.prog 31 #[sV s] W (opV s) := fun W => Open_any s W (by omega)
  unfold opV at KO
  have hol := Nat.le_trans (opn_len s) hs
  by_cases he : (opn s).2.2 = 0
  · have hD : decR s = if (gPg ((opn s).1, false)).2.2 = true ∨ (opn s).2.1 ≠ s.length then (none, 12)
        else if (encR (gPg ((opn s).1, false)).1).2 ≠ 0 ∨ (encR (gPg ((opn s).1, false)).1).1 ≠ s then (none, 12) else (some (gPg ((opn s).1, false)).1, 0) := by
      unfold decR; rw [if_neg (by simpa using he)]
    rw [he] at KO
    have hwf := gPg_wf ((opn s).1, false) hol
    have KR := fun W R pb hR hP hne => rdesc_any R pb ((opn s).1, false) W hR hP hne hol
    generalize decR s = D at *
    generalize gPg ((opn s).1, false) = G at *
    obtain ⟨p, rest, wr⟩ := G
    dsimp only at KR hwf hD
    have KE := fun W A hAt hFr hm => Encode_any p A W hAt hFr hm
    generalize (encR p).1 = u at *
    generalize (encR p).2 = ee at *
    exact Decode_read s (opn s).1 rest u (opn s).2.1 p wr ee D w hm hwf KO KR KE (fun h => by rw [hD, if_pos h]) (fun h h2 => by rw [hD, if_neg h, if_pos h2]) (fun h h2 => by rw [hD, if_neg h, if_neg h2]) hs
  · have hD : decR s = (none, (opn s).2.2) := by unfold decR; rw [if_pos he]
    have h1 := opn_no s he
    rw [h1.1] at KO
    exact Decode_err s (opn s).2.1 (opn s).2.2 (decR s) w he KO hD
end Go.Proofs.YtfkjokbhnblndaaGreatDoor

namespace Go.Proofs.YtfkjokbhnblndaaGreatDoor
open Go.RowKit Go.Shelf
set_option linter.unusedVariables false
set_option linter.unusedSimpArgs false

theorem decR_some {s : List UInt8} {p : Pg} (h : (decR s).1 = some p) : decR s = (some p, 0) ∧ encR p = (s, 0) := by
  unfold decR at h ⊢
  split
  · rename_i h1; rw [if_pos h1] at h; cases h
  · rename_i h1
    rw [if_neg h1] at h
    split
    · rename_i h2; rw [if_pos h2] at h; cases h
    · rename_i h2
      rw [if_neg h2] at h
      split
      · rename_i h3; rw [if_pos h3] at h; cases h
      · rename_i h3
        rw [if_neg h3] at h
        cases h
        have h4 := not_or.1 h3
        exact ⟨rfl, Prod.ext (Classical.not_not.1 h4.2) (Classical.not_not.1 h4.1)⟩
theorem decR_none {s : List UInt8} (h : (decR s).1 = none) : (decR s).2 ≠ 0 := by
  unfold decR at h ⊢
  split
  · rename_i h1; exact h1
  · rename_i h1
    rw [if_neg h1] at h
    split
    · simp
    · rename_i h2
      rw [if_neg h2] at h
      split
      · simp
      · rename_i h3; rw [if_neg h3] at h; cases h
theorem encR_ok {p : Pg} {s : List UInt8} (h : encR p = (s, 0)) : ckPg p = 0 := by
  unfold encR at h
  split at h
  · assumption
  · rename_i h1; exact absurd (congrArg Prod.snd h) h1
def pg0 : Pg := ⟨[], [], []⟩
abbrev pa0 : PA := ⟨none, 0, none, 0, none, 0⟩
theorem pg0_at (w : World) : PgAt w pg0 pa0 := ⟨fun i h => absurd h (Nat.not_lt_zero _), fun i h => absurd h (Nat.not_lt_zero _), fun i h => absurd h (Nat.not_lt_zero _),
  ⟨by decide, by decide, by decide, fun x h => (by cases h), fun x h => (by cases h), fun x h => (by cases h)⟩, Nat.le_refl _, Nat.le_refl _, Nat.le_refl _⟩

set_option maxRecDepth 100000 in
set_option maxHeartbeats 4000000 in
theorem programCanonical_walk (a0 : ByteArray) (w : World) (h0 : a0.size ≤ 140737488351232) (hTab : TabW w) (hM : MaxL w) : Gives Tryz.prog 6 #[.string a0] w (.bool true) := by
  obtain ⟨s, rfl⟩ := sB_of a0
  have hsz := sB_size s
  have KA := Lib.hid (fun W (hW : Ext w W) => awake_any W (hTab.below hW))
  unfold Gives
  by_cases hl : 3000 < s.length
  · clear hTab hM
    go_enter Tryz.func6, Tryz.ntmps6
    go_wp2_with fail
    refine (KA.out _ (Below.refl _ _)).mono ?_
    intro w1 hE
    go_wp2
    go_ret
    exact ⟨rfl, hE⟩
  · have K1 := Lib.hid (Decode_any s w (by omega) hM)
    have HN := Lib.hid (fun h => decR_none (s := s) h)
    have HS := Lib.hid (fun p h => decR_some (s := s) (p := p) h)
    have HM := Lib.hid (fun W (hW : Ext w W) => hM.below hM.lt hW)
    clear hTab hM
    unfold DecP at K1
    generalize decR s = D at *
    obtain ⟨d, er⟩ := D
    cases d with
    | none =>
      have he : er ≠ 0 := HN.out rfl
      have g1 : (er == 0) = false := by simpa using he
      have g2 : (er != 0) = true := by simpa using he
      have KS := Lib.hid (fun W => sameP_any pg0 pg0 pa0 pa0 W (pg0_at W) (pg0_at W) true (by simp))
      dsimp only [PV, pg0, List.length_nil] at KS
      clear HN HS he
      dsimp only at K1
      go_enter Tryz.func6, Tryz.ntmps6
      go_wp2_with fail
      refine (show Calls _ _ _ _ _ from K1.out).mono ?_
      rintro _ w1 ⟨hE, rfl⟩
      have HE1 := Lib.hid hE
      clear hE
      have HX := Lib.hid (ext_alloc (Below.refl _ w1) zPB)
      go_wp2_with fail
      refine (show Gives _ _ _ _ _ from KS.out _).mono ?_
      intro w2 hE
      have HE2 := Lib.hid (Ext.trans HE1.out (Ext.trans HX.out hE))
      clear hE
      go_wp2_with fail
      refine (KA.out _ HE2.out).mono ?_
      intro w3 hE
      have HE3 := Lib.hid (Ext.trans HE2.out hE)
      clear hE
      go_wp2
      go_ret
      exact ⟨rfl, HE3.out⟩
    | some p =>
      obtain ⟨h1, h2⟩ := HS.out p rfl
      have her : er = 0 := congrArg Prod.snd h1
      subst her
      have hck := encR_ok h2
      have KE := Lib.hid (fun W A hA hF hm => (by have := Encode_any p A W hA hF hm; rw [h2] at this; exact this : Gives Tryz.prog 12 #[PV p A] W (.tuple #[sV s, .int .i64 0])))
      have KC := Lib.hid (fun W A (hA : PgAt W p A) => (by have := Check_any p A W hA; rw [hck] at this; exact this : Gives Tryz.prog 17 #[PV p A] W (.int .i64 0)))
      clear HN HS h1 h2 hck
      dsimp only at K1
      go_enter Tryz.func6, Tryz.ntmps6
      go_wp2_with fail
      refine (show Calls _ _ _ _ _ from K1.out).mono ?_
      rintro _ w1 ⟨hE, A, rfl, hA, hF⟩
      have HE1 := Lib.hid hE
      have HA1 := Lib.hid hA
      have HF1 := Lib.hid hF
      clear hE hA hF
      have KE2 := Lib.hid (fun W hA hF hm => KE.out W A hA hF hm)
      have KC2 := Lib.hid (fun W hA => KC.out W A hA)
      dsimp only [PV] at KE2 KC2 ⊢
      have HX := Lib.hid (ext_alloc (Below.refl _ w1) (.cells #[.slice A.fa p.fs.length A.fc, .slice A.oa p.os.length A.oc, .slice A.va p.vs.length A.vc] 26))
      have hb := alloc_here w1 (.cells #[.slice A.fa p.fs.length A.fc, .slice A.oa p.os.length A.oc, .slice A.va p.vs.length A.vc] 26)
      have HB := Lib.hid hb
      clear hb
      go_wp2_with fail
      refine (show Gives _ _ _ _ _ from KE2.out _ (HA1.out.ext HX.out) (HF1.out.ext HA1.out HX.out) (HM.out _ (Ext.trans HE1.out HX.out))).mono ?_
      intro w2 hE
      have HB2 := Lib.hid ((hE.block _ (lt_of_block HB.out)).trans HB.out)
      have HA2 := Lib.hid ((HA1.out.ext HX.out).ext hE)
      have HE2 := Lib.hid (Ext.trans HE1.out (Ext.trans HX.out hE))
      clear hE
      have y0 := cell_of (i := 0) HB2.out rfl
      have y1 := cell_of (i := 1) HB2.out rfl
      have y2 := cell_of (i := 2) HB2.out rfl
      go_wp2_with fail
      refine (show Gives _ _ _ _ _ from KC2.out _ HA2.out).mono ?_
      intro w3 hE
      have HE3 := Lib.hid (Ext.trans HE2.out hE)
      clear hE
      go_wp2_with fail
      refine (KA.out _ HE3.out).mono ?_
      intro w4 hE
      have HE4 := Lib.hid (Ext.trans HE3.out hE)
      clear hE
      go_wp2
      go_ret
      exact ⟨rfl, HE4.out⟩
end Go.Proofs.YtfkjokbhnblndaaGreatDoor

namespace Go.Proofs.YtfkjokbhnblndaaGreatDoor.programCanonical
open Go.ChangeShapes Go.WideShapes Go.ChangeAt Go.RowKit
open Go.ChangeMaps (open_string shut_string)
set_option linter.unusedVariables false

theorem own : ownKnob Tryz.prog.godebug = none := by kernel_rfl
/-- the cells of a datum of plain values -/
def flat : Nat → DataW Unit → List Value
  | _, .lit l => [l.value]
  | n + 1, .agg ps => ps.flatMap (flat n)
  | _, _ => []
/-- a world for the witness: the settled one, the listed tables holding what the text lays -/
def lay (d : DataW Unit) : Obj → Obj
  | .cells _ t frozen => .cells (flat 4 d).toArray t frozen
  | o => o
noncomputable def laidWorld (os : Os) : World :=
  { World.holding Tryz.prog os ⟨#[], #[], []⟩ with heap := ((((World.holding Tryz.prog os ⟨#[], #[], []⟩).heap.modify 1 (lay Rows.laid_math_bits_deBruijn32tab)).modify 2 (lay Rows.laid_math_bits_deBruijn64tab)).modify 0 (lay Rows.laid_internal_strconv_uint64pow10)) }
theorem laid_met (os : Os) : laidMet Tryz.prog Rows.programCanonicalRow.laid ((laidWorld os).forCall (fun _ _ => 0) ⟨#[], #[.string ByteArray.empty], []⟩).memory :=
  laidMet_of_run' 8 (by kernel_rfl) (by kernel_rfl)
theorem reads (os : Os) {H : Type} (enc : TypeId × Value → H) : ∃ places, DataW.whole enc Tryz.prog ((laidWorld os).forCall (fun _ _ => 0) ⟨#[], #[.string ByteArray.empty], []⟩).memory Tryz.f6.params.toList Rows.programCanonicalSpec.vars false (#[.string ByteArray.empty] : Array Value).toList 8 = some ([.lit (.string [])], [], places) :=
  ⟨[], by kernel_rfl⟩
theorem shape (W : World) (h : W.ShapedOpen Tryz.prog) : MaxL W := cell_of_shapedOpen_int (zero := #[.int .i64 0]) h (of_decide_eq_true (by kernel_rfl)) (by kernel_rfl) (by kernel_rfl) (by kernel_rfl) (by kernel_rfl) Tryz.underlying3

theorem tab (W : World) (h : laidMetH Tryz.prog Rows.programCanonicalRow.laid W) : TabW W := by
  have h1 : laidMet Tryz.prog Rows.programCanonicalRow.laid W := h
  exact Lib.tabIs_of_head (g := 0) (t := 227) (e := 190) (n := 20) (by kernel_rfl) (by kernel_rfl) Tryz.underlying227 Tryz.underlying190 (by kernel_rfl) (by kernel_rfl) h1.tail.tail
set_option maxRecDepth 100000 in
set_option maxHeartbeats 4000000 in
theorem contract (H : Type) (enc : TypeId × Value → H) (W : World) (base : Nat) (args : Array Value) (ds gs : List (DataW H)) (before : List MemPlace)
    (hval0 : ∀ (j : Nat) t v, Tryz.f6.params[j]? = some t → args[j]? = some v → Value.okWide Tryz.prog W .any base t v)
    (hW : DataW.Whole enc Tryz.prog Tryz.f6.params.toList Rows.programCanonicalSpec.vars false W args.toList ds gs before) (hz : (DataW.weightsEach Tryz.prog (Tryz.f6.params.toList ++ (OpenSpec.ofChange Rows.programCanonicalSpec).bare.plain.varTypes Tryz.prog) (ds ++ gs)).all (· ≤ reachBytes) = true) (hL : laidMetH Tryz.prog Rows.programCanonicalRow.laid W) (hm : MaxL W) :
    Calls Tryz.prog 6 args W fun e W' => ∃ v, e = .returned v ∧ Rows.programCanonicalSpec.post enc Tryz.prog Tryz.f6 false true false false W args v W' := by
  have hval := hval0
  have hW' := hW
  obtain ⟨p, q, hA0, hV, rfl, hfz, hnd⟩ := hW
  have hA : DataW.TrodAll enc Tryz.prog W 0 (fun _ => true) true Tryz.f6.params.toList args.toList ds p := hA0
  rw [Tryz.params6] at hA hval
  obtain ⟨v0, vs0, d0, ds0, p0, q0, hargs, rfl, rfl, h0, r0⟩ := trodAll_cons hA
  obtain ⟨rfl, rfl, rfl⟩ := trodAll_nil r0
  obtain rfl : args = #[v0] := by cases args; simp_all
  obtain ⟨rfl, rfl⟩ := trodVars_none hV
  obtain ⟨a0, rfl, rfl, rfl, w0⟩ := open_string Tryz.underlying9 (hval 0 9 v0 rfl rfl) h0
  have s0 : a0.size ≤ 140737488351232 := by rw [Lib.size_eq]; exact sized_string hz (j := 0) rfl rfl
  clear hA0 hval0 hz
  simp only [List.append_nil] at hW'
  refine (programCanonical_walk a0 W s0 (tab W hL) hm).mono fun W' bel => ?_
  exact ⟨_, rfl, _, _, _, [], [], [], hW', trodAll_mk1 (shut_bool Tryz.underlying4 _), (trodAll_cons_mk (shut_string Tryz.underlying9 w0) trodAll_mk0), rfl, bel.frame _, fun h => by cases h⟩

set_option maxRecDepth 100000 in
theorem lifted (os : Os) (started : os.Started) (H : Type) (enc : TypeId × Value → H) (F : Stop.Interp) :
    ReturnsInHanded {} Tryz.checked os 6 .any ((OpenSpec.ofChange Rows.programCanonicalSpec).preRow enc Tryz.prog Tryz.f6 Rows.programCanonicalRow.domain false Rows.programCanonicalRow.laid) (((OpenSpec.ofChange Rows.programCanonicalSpec).at F).post enc Tryz.prog Tryz.f6 false true false false) := by
  obtain ⟨places, hx⟩ := reads os enc
  refine returnsInHanded_of_row (C := Tryz.checked) (s := OpenSpec.ofChange Rows.programCanonicalSpec) own started (by kernel_rfl) Tryz.func6
    (witness_row_at (enc := enc) (C := Tryz.checked) false (laidWorld os) #[.string ByteArray.empty] rfl (by kernel_rfl) (by kernel_rfl) (by kernel_rfl)
      (OpenSpec.preRow_of_cond 8 hx (by kernel_rfl) (fun k hk => by cases hk) (by kernel_rfl) (laid_met os))) ?_
  intro W base args ds gs before hval hW _ _ hz hL hsh _
  exact contract H enc W base args ds gs before hval hW hz hL (shape W hsh)

theorem said : Rows.ProgramCanonicalSaid :=
  OpenClaim.holds_of_cond 6 Tryz.f6 rfl rfl rfl rfl rfl rfl rfl ⟨rfl, rfl, rfl, rfl, rfl⟩ rfl rfl rfl rfl rfl (by kernel_rfl) Tryz.func6 (by kernel_rfl)
    (of_decide_eq_true (by kernel_rfl)) (by unfold Func.isWrapper; first | (rw [if_pos (by decide +kernel)]; kernel_rfl) | (rw [if_neg (by decide +kernel)]; exact ⟨rfl, rfl⟩))
    (fun os started H enc _ F => by rw [OpenClaim.pre_eq_preRow]; exact lifted os started H enc F)

theorem plain (f : FuncId) (fn : Func) (hf : Tryz.pinned.checked.prog.funcNamed "nursery/nurserylaw13.ProgramCanonical" = some f) (hfn : Tryz.pinned.checked.prog.funcs[f]? = some fn) :
    true = Tryz.pinned.checked.prog.looks [] ∧ ∀ (j : Nat) t, fn.params[j]? = some t → Tryz.pinned.checked.prog.wantsStandIn t = false := by
  obtain rfl : f = 6 := Option.some.inj ((show Tryz.prog.funcNamed "nursery/nurserylaw13.ProgramCanonical" = some 6 by kernel_rfl).symm.trans hf) |>.symm
  obtain rfl : fn = Tryz.f6 := (Option.some.inj (Tryz.func6.symm.trans hfn)).symm
  refine ⟨by kernel_rfl, fun j t ht => ?_⟩
  rw [Tryz.params6] at ht
  rcases j with _ | j
  · obtain rfl : t = 9 := by simpa using ht.symm
    exact (show Tryz.prog.wantsStandIn 9 = false by kernel_rfl)
  · simp at ht

/-- the statement -/
theorem proved : Rows.ProgramCanonicalCardSaid :=
  Claim7.holds_tied_plain_at .later [] _ _ _ _ said (fun _ h => by cases h) (by kernel_rfl) (fun _ h => by cases h) programCanonical_row_tie rfl ⟨rfl, rfl⟩ (by kernel_rfl) rfl plain (by kernel_rfl)
#print axioms proved
end Go.Proofs.YtfkjokbhnblndaaGreatDoor.programCanonical

