/- The reader: a function. Printed by mk_wro.py. The reader: a program. Decode. What Decode gives: plain. What a valid program's numbers are (out of PgX7, PgX8). Reading what a writer has written: plain. Great: some boolean. Great: some boolean; a program that is not great has few instructions. Printed by mk_pgz2.py out of PgZ. What is decoded, damaged encodings: plain. Arguments that came in: a program. A program that came in: its booleans can be stored to. ProgramRoundTrip: the walk. DRAFT. The statement ProgramRoundTripCardSaid: for every input the law returns true, and the arguments read as before; the tables of the library that it lists are tied to the text. The frame round the walk of the law. -/
import Derived.Deep.Slices
import Derived.Deep.Fields
import Derived.ChangeSame
import Derived.Lib.SmallJoins
import Derived.SizedLaws
import Derived.Laws.BitsAllLaws
import Derived.Stop.LaidErr
import Derived.WalkKit
import Derived.ProofKit
import Derived.OpenShut
import Derived.ShutString
import Derived.ChangeOld
import Derived.Below
import Derived.Deep.DeepHandedRow
import Derived.Lib.LaidTab
import Derived.Shelf.Vars
import Derived.Test.YtfkjokbhnblndaaGreatDoorDt4
import Derived.Test.YtfkjokbhnblndaaGreatDoorDt2
import Derived.Test.YtfkjokbhnblndaaGreatDoorPgV
import Derived.Test.YtfkjokbhnblndaaGreatDoorDt5
import Derived.Test.YtfkjokbhnblndaaGreatDoorPgB
import Derived.Test.YtfkjokbhnblndaaGreatDoorDt3
import Derived.Test.YtfkjokbhnblndaaGreatDoorPgSm3
import Derived.Test.YtfkjokbhnblndaaGreatDoorCards
import Derived.Test.YtfkjokbhnblndaaGreatDoorTie

namespace Go.Proofs.YtfkjokbhnblndaaGreatDoor
open Go.RowKit Go.Shelf
set_option linter.unusedVariables false
set_option linter.unusedSimpArgs false

set_option maxRecDepth 100000 in
set_option maxHeartbeats 4000000 in
theorem rFn_any (R g o : Nat) (st : RSt) (cs : Array Value) (T : TypeId) (w : World) (hR : w.heap[R]? = some (rdQ st)) (hP : w.heap[g]? = some (.cells cs T (0, 0))) (hne : g ≠ R) (ho : o + 6 ≤ cs.size) (hl : st.1.length ≤ 10000000) (hbf : cs[o + 4]? = some (.bool false)) (hbz : cs[o + 5]? = some (.slice none 0 0)) :
    Calls Tryz.prog 51 #[cR R, .pointer (some ⟨g, o, none⟩)] w fun e w' => e = .returned (.tuple #[]) ∧ w'.heap[R]? = some (rdQ (gEach gIns (gFlg (gNum (gNum (gNum (gTxt st).2).2).2).2).2).2) ∧ Ot2 R g w w' ∧ ∃ a, w'.heap[g]? = some (.cells ((((((cs.setIfInBounds o (sV (gTxt st).1)).setIfInBounds (o + 1) (.int .i64 (gNum (gTxt st).2).1)).setIfInBounds (o + 2) (.int .i64 (gNum (gNum (gTxt st).2).2).1)).setIfInBounds (o + 3) (.int .i64 (gNum (gNum (gNum (gTxt st).2).2).2).1)).setIfInBounds (o + 4) (.bool (gFlg (gNum (gNum (gNum (gTxt st).2).2).2).2).1)).setIfInBounds (o + 5) (.slice a (gEach gIns (gFlg (gNum (gNum (gNum (gTxt st).2).2).2).2).2).1.length (gEach gIns (gFlg (gNum (gNum (gNum (gTxt st).2).2).2).2).2).1.length)) T (0, 0)) ∧ RowS InsSl 5 50 w.heap.size w' a (gEach gIns (gFlg (gNum (gNum (gNum (gTxt st).2).2).2).2).2).1 := by
  have hl0 : st.1.length ≤ 10000000 := hl
  have hl1 : (gTxt st).2.1.length ≤ 10000000 := Nat.le_trans (gTxt_le st) hl0
  have hl2 : (gNum (gTxt st).2).2.1.length ≤ 10000000 := Nat.le_trans (gNum_le (gTxt st).2) hl1
  have hl3 : (gNum (gNum (gTxt st).2).2).2.1.length ≤ 10000000 := Nat.le_trans (gNum_le (gNum (gTxt st).2).2) hl2
  have hl4 : (gNum (gNum (gNum (gTxt st).2).2).2).2.1.length ≤ 10000000 := Nat.le_trans (gNum_le (gNum (gNum (gTxt st).2).2).2) hl3
  have hl5 : (gFlg (gNum (gNum (gNum (gTxt st).2).2).2).2).2.1.length ≤ 10000000 := Nat.le_trans (gNum_le (gNum (gNum (gNum (gTxt st).2).2).2).2) hl4
  have K0 := Lib.hid (fun W (h : W.heap[R]? = some (rdQ st)) (hb : W.heap[g]? = some (.cells cs T (0, 0))) => rtext_any R g o st cs T W h hb hne (by first | omega | (simp; omega)) (by omega))
  have K1 := Lib.hid (fun W (h : W.heap[R]? = some (rdQ (gTxt st).2)) (hb : W.heap[g]? = some (.cells (cs.setIfInBounds o (sV (gTxt st).1)) T (0, 0))) => rnum_any R g (o + 1) (gTxt st).2 (cs.setIfInBounds o (sV (gTxt st).1)) T W h hb hne (by first | omega | (simp; omega)) (by omega))
  have K2 := Lib.hid (fun W (h : W.heap[R]? = some (rdQ (gNum (gTxt st).2).2)) (hb : W.heap[g]? = some (.cells ((cs.setIfInBounds o (sV (gTxt st).1)).setIfInBounds (o + 1) (.int .i64 (gNum (gTxt st).2).1)) T (0, 0))) => rnum_any R g (o + 2) (gNum (gTxt st).2).2 ((cs.setIfInBounds o (sV (gTxt st).1)).setIfInBounds (o + 1) (.int .i64 (gNum (gTxt st).2).1)) T W h hb hne (by first | omega | (simp; omega)) (by omega))
  have K3 := Lib.hid (fun W (h : W.heap[R]? = some (rdQ (gNum (gNum (gTxt st).2).2).2)) (hb : W.heap[g]? = some (.cells (((cs.setIfInBounds o (sV (gTxt st).1)).setIfInBounds (o + 1) (.int .i64 (gNum (gTxt st).2).1)).setIfInBounds (o + 2) (.int .i64 (gNum (gNum (gTxt st).2).2).1)) T (0, 0))) => rnum_any R g (o + 3) (gNum (gNum (gTxt st).2).2).2 (((cs.setIfInBounds o (sV (gTxt st).1)).setIfInBounds (o + 1) (.int .i64 (gNum (gTxt st).2).1)).setIfInBounds (o + 2) (.int .i64 (gNum (gNum (gTxt st).2).2).1)) T W h hb hne (by first | omega | (simp; omega)) (by omega))
  have K4 := Lib.hid (fun W (h : W.heap[R]? = some (rdQ (gNum (gNum (gNum (gTxt st).2).2).2).2)) (hb : W.heap[g]? = some (.cells ((((cs.setIfInBounds o (sV (gTxt st).1)).setIfInBounds (o + 1) (.int .i64 (gNum (gTxt st).2).1)).setIfInBounds (o + 2) (.int .i64 (gNum (gNum (gTxt st).2).2).1)).setIfInBounds (o + 3) (.int .i64 (gNum (gNum (gNum (gTxt st).2).2).2).1)) T (0, 0))) => rflag_any R g (o + 4) (gNum (gNum (gNum (gTxt st).2).2).2).2 ((((cs.setIfInBounds o (sV (gTxt st).1)).setIfInBounds (o + 1) (.int .i64 (gNum (gTxt st).2).1)).setIfInBounds (o + 2) (.int .i64 (gNum (gNum (gTxt st).2).2).1)).setIfInBounds (o + 3) (.int .i64 (gNum (gNum (gNum (gTxt st).2).2).2).1)) T false W h hb hne (by first | omega | (simp; omega)) (by simp [Array.getElem?_setIfInBounds, hbf]) (by omega))
  have K5 := Lib.hid (fun W (h : W.heap[R]? = some (rdQ (gFlg (gNum (gNum (gNum (gTxt st).2).2).2).2).2)) (hb : W.heap[g]? = some (.cells (((((cs.setIfInBounds o (sV (gTxt st).1)).setIfInBounds (o + 1) (.int .i64 (gNum (gTxt st).2).1)).setIfInBounds (o + 2) (.int .i64 (gNum (gNum (gTxt st).2).2).1)).setIfInBounds (o + 3) (.int .i64 (gNum (gNum (gNum (gTxt st).2).2).2).1)).setIfInBounds (o + 4) (.bool (gFlg (gNum (gNum (gNum (gTxt st).2).2).2).2).1)) T (0, 0))) => reach_Ins R g (o + 5) (gFlg (gNum (gNum (gNum (gTxt st).2).2).2).2).2 (((((cs.setIfInBounds o (sV (gTxt st).1)).setIfInBounds (o + 1) (.int .i64 (gNum (gTxt st).2).1)).setIfInBounds (o + 2) (.int .i64 (gNum (gNum (gTxt st).2).2).1)).setIfInBounds (o + 3) (.int .i64 (gNum (gNum (gNum (gTxt st).2).2).2).1)).setIfInBounds (o + 4) (.bool (gFlg (gNum (gNum (gNum (gTxt st).2).2).2).2).1)) T W h hb hne (by first | omega | (simp; omega)) (by simp [Array.getElem?_setIfInBounds, hbz]) hl5 (fun g i st' cs' w' h1 h2 h3 h4 h5 _ => rIns_one R g (i * 5) st' cs' _ w' h1 h2 h3 h4 h5))
  have hna_n : ∀ W, Sem.run Tryz.prog (nilAhead 358 tRp (.pointer (some ⟨R, 0, none⟩)) "nursery/program.number") W = .ok (some false) W := fun W => by kernel_rfl
  have hna_t : ∀ W, Sem.run Tryz.prog (nilAhead 358 tRp (.pointer (some ⟨R, 0, none⟩)) "nursery/program.text") W = .ok (some false) W := fun W => by kernel_rfl
  have HR0 := Lib.hid hR
  have HP0 := Lib.hid hP
  have HO0 := Lib.hid (Ot2.refl R g w)
  have hgR : g < w.heap.size ∧ R < w.heap.size := ⟨lt_of_block hP, lt_of_block hR⟩
  have HGR := Lib.hid hgR
  clear hl0 hl hR hP hgR ho hbf hbz hl1 hl2 hl3 hl4 hl5
  generalize (gTxt st).1 = v1 at *
  generalize (gTxt st).2 = s1 at *
  generalize (gNum s1).1 = v2 at *
  generalize (gNum s1).2 = s2 at *
  generalize (gNum s2).1 = v3 at *
  generalize (gNum s2).2 = s3 at *
  generalize (gNum s3).1 = v4 at *
  generalize (gNum s3).2 = s4 at *
  generalize (gFlg s4).1 = v5 at *
  generalize (gFlg s4).2 = s5 at *
  generalize (gEach gIns s5).1 = v6 at *
  generalize (gEach gIns s5).2 = s6 at *
  go_enter Tryz.func51, Tryz.ntmps51
  go_wp2
  refine wp_region_tail (l1 := [_, _, _, _, _, _, _]) (l2 := [_]) (by kernel_rfl) Ext (fun W => Below.refl _ W) (fun W => show Below W.heap.size W { W with drawn := W.drawn + 1 } from ⟨rfl, rfl, rfl, Nat.le_refl _, fun _ _ => rfl⟩) Ext.trans
    (fun i s W => match i with
      | 0 => s 0 = cR R
      | 1 => s 1 = .pointer (some ⟨g, o, none⟩)
      | 2 => s 2 = .pointer (some ⟨g, o, none⟩)
      | 3 => s 3 = .pointer (some ⟨g, o, none⟩)
      | 4 => s 4 = .func (.method "nursery/program.text") #[cR R] #[]
      | 5 => s 5 = .func (.method "nursery/program.text") #[cR R] #[]
      | 6 => s 6 = cR R
      | _ => True)
    (fun i => [i])
    (by
      intro i s s' W W' h hs hE
      have hs := hs i (by simp)
      match i, h, hs with
      | 0, h, hs => exact hs.trans h
      | 1, h, hs => exact hs.trans h
      | 2, h, hs => exact hs.trans h
      | 3, h, hs => exact hs.trans h
      | 4, h, hs => exact hs.trans h
      | 5, h, hs => exact hs.trans h
      | 6, h, hs => exact hs.trans h
      | i + 7, h, hs => exact trivial)
    (by kernel_rfl) (by kernel_rfl) (by kernel_rfl) 46 rfl (by kernel_rfl) (by kernel_rfl) ?_ ?_
  · intro i op ho a' W hA

    match i, ho with
    | 0, ho =>
      obtain rfl := Option.some.inj ho
      have e1 : a'.eval (.tmp 0) = cR R := hA.keep 0 (by kernel_rfl)
      refine GoesG.value (cR R) rfl ?_ (Below.refl _ _) (fun s h1 h2 => h1 rfl)
      simp only [execOp, e1]
      simp [go_sem]
    | 1, ho =>
      obtain rfl := Option.some.inj ho
      have e1 : a'.eval (.tmp 1) = .pointer (some ⟨g, o, none⟩) := hA.keep 1 (by kernel_rfl)
      refine GoesG.value (.pointer (some ⟨g, o, none⟩)) rfl ?_ (Below.refl _ _) (fun s h1 h2 => h1 rfl)
      simp only [execOp, e1]
      simp [go_sem]
    | 2, ho =>
      obtain rfl := Option.some.inj ho
      have e1 : a'.eval (.tmp 5) = .pointer (some ⟨g, o, none⟩) := (sv_dst (l := _) rfl).symm.trans (hA.new 1 (by decide) (by kernel_rfl))
      refine GoesG.value (.pointer (some ⟨g, o, none⟩)) rfl ?_ (Below.refl _ _) (fun s h1 h2 => h1 rfl)
      simp only [execOp, e1]
      simp [go_sem]
    | 3, ho =>
      obtain rfl := Option.some.inj ho
      have e1 : a'.eval (.tmp 6) = .pointer (some ⟨g, o, none⟩) := (sv_dst (l := _) rfl).symm.trans (hA.new 2 (by decide) (by kernel_rfl))
      refine GoesG.value (.pointer (some ⟨g, o, none⟩)) rfl ?_ (Below.refl _ _) (fun s h1 h2 => h1 rfl)
      simp only [execOp, e1]
      simp [go_sem]
    | 4, ho =>
      obtain rfl := Option.some.inj ho
      have e1 : a'.eval (.tmp 4) = cR R := (sv_dst (l := _) rfl).symm.trans (hA.new 0 (by decide) (by kernel_rfl))
      refine GoesG.value (.func (.method "nursery/program.text") #[cR R] #[]) rfl ?_ (Below.refl _ _) (fun s h1 h2 => h1 rfl)
      simp only [execOp, e1]
      simp [go_sem]
      simpa [Act.eval] using e1
    | 5, ho =>
      obtain rfl := Option.some.inj ho
      have e1 : a'.eval (.tmp 8) = .func (.method "nursery/program.text") #[cR R] #[] := (sv_dst (l := _) rfl).symm.trans (hA.new 4 (by decide) (by kernel_rfl))
      refine GoesG.value (.func (.method "nursery/program.text") #[cR R] #[]) rfl ?_ (Below.refl _ _) (fun s h1 h2 => h1 rfl)
      simp only [execOp, e1]
      simp [go_sem, hna_t]
    | 6, ho =>
      obtain rfl := Option.some.inj ho
      have e1 : a'.eval (.tmp 4) = cR R := (sv_dst (l := _) rfl).symm.trans (hA.new 0 (by decide) (by kernel_rfl))
      refine GoesG.value (cR R) rfl ?_ (Below.refl _ _) (fun s h1 h2 => h1 rfl)
      simp only [execOp, e1]
      simp [go_sem]
    | i + 7, ho => cases ho
  · intro vs w1d hvs hG0 hΦ
    obtain ⟨y0, y1, y2, y3, y4, y5, y6, rfl⟩ : ∃ y0 y1 y2 y3 y4 y5 y6, vs = y0 :: y1 :: y2 :: y3 :: y4 :: y5 :: y6 :: [] := by
      match vs, hvs with
      | y0 :: y1 :: y2 :: y3 :: y4 :: y5 :: y6 :: [], _ => exact ⟨y0, y1, y2, y3, y4, y5, y6, rfl⟩
    have e0 : y0 = cR R := hΦ 0 (by decide)
    subst e0
    have e1 : y1 = .pointer (some ⟨g, o, none⟩) := hΦ 1 (by decide)
    subst e1
    have e2 : y2 = .pointer (some ⟨g, o, none⟩) := hΦ 2 (by decide)
    subst e2
    have e3 : y3 = .pointer (some ⟨g, o, none⟩) := hΦ 3 (by decide)
    subst e3
    have e4 : y4 = .func (.method "nursery/program.text") #[cR R] #[] := hΦ 4 (by decide)
    subst e4
    have e5 : y5 = .func (.method "nursery/program.text") #[cR R] #[] := hΦ 5 (by decide)
    subst e5
    have e6 : y6 = cR R := hΦ 6 (by decide)
    subst e6
    clear hΦ hvs
    simp only [putAll, Act.put, List.setIfInBounds_toArray, List.set_cons_succ, List.set_cons_zero]
    have HD0 := Lib.hid hG0
    clear hG0
    go_wp2_with fail
    refine (show Calls _ _ _ _ _ from K0.out _ ((HD0.out.below.block _ (lt_of_block HR0.out)).trans HR0.out) ((HD0.out.below.block _ (lt_of_block HP0.out)).trans HP0.out)).mono ?_
    rintro _ w1 ⟨rfl, hR, hP, hO⟩
    have HR1 := Lib.hid hR
    have HP1 := Lib.hid hP
    have HO1 := Lib.hid (Ot2.trans HO0.out (Ot2.trans (Ot2.of_ext HD0.out) hO))
    clear hR hP hO
    go_wp2
    refine wp_region_tail (l1 := [_, _, _, _, _, _, _]) (l2 := [_]) (by kernel_rfl) Ext (fun W => Below.refl _ W) (fun W => show Below W.heap.size W { W with drawn := W.drawn + 1 } from ⟨rfl, rfl, rfl, Nat.le_refl _, fun _ _ => rfl⟩) Ext.trans
      (fun i s W => match i with
        | 0 => s 0 = cR R
        | 1 => s 1 = .pointer (some ⟨g, o, none⟩)
        | 2 => s 2 = .pointer (some ⟨g, o, none⟩)
        | 3 => s 3 = .pointer (some ⟨g, o + 1, none⟩)
        | 4 => s 4 = .func (.method "nursery/program.number") #[cR R] #[]
        | 5 => s 5 = .func (.method "nursery/program.number") #[cR R] #[]
        | 6 => s 6 = cR R
        | _ => True)
      (fun i => [i])
      (by
        intro i s s' W W' h hs hE
        have hs := hs i (by simp)
        match i, h, hs with
        | 0, h, hs => exact hs.trans h
        | 1, h, hs => exact hs.trans h
        | 2, h, hs => exact hs.trans h
        | 3, h, hs => exact hs.trans h
        | 4, h, hs => exact hs.trans h
        | 5, h, hs => exact hs.trans h
        | 6, h, hs => exact hs.trans h
        | i + 7, h, hs => exact trivial)
      (by kernel_rfl) (by kernel_rfl) (by kernel_rfl) 46 rfl (by kernel_rfl) (by kernel_rfl) ?_ ?_
    · intro i op ho a' W hA

      match i, ho with
      | 0, ho =>
        obtain rfl := Option.some.inj ho
        have e1 : a'.eval (.tmp 0) = cR R := hA.keep 0 (by kernel_rfl)
        refine GoesG.value (cR R) rfl ?_ (Below.refl _ _) (fun s h1 h2 => h1 rfl)
        simp only [execOp, e1]
        simp [go_sem]
      | 1, ho =>
        obtain rfl := Option.some.inj ho
        have e1 : a'.eval (.tmp 1) = .pointer (some ⟨g, o, none⟩) := hA.keep 1 (by kernel_rfl)
        refine GoesG.value (.pointer (some ⟨g, o, none⟩)) rfl ?_ (Below.refl _ _) (fun s h1 h2 => h1 rfl)
        simp only [execOp, e1]
        simp [go_sem]
      | 2, ho =>
        obtain rfl := Option.some.inj ho
        have e1 : a'.eval (.tmp 13) = .pointer (some ⟨g, o, none⟩) := (sv_dst (l := _) rfl).symm.trans (hA.new 1 (by decide) (by kernel_rfl))
        refine GoesG.value (.pointer (some ⟨g, o, none⟩)) rfl ?_ (Below.refl _ _) (fun s h1 h2 => h1 rfl)
        simp only [execOp, e1]
        simp [go_sem]
      | 3, ho =>
        obtain rfl := Option.some.inj ho
        have e1 : a'.eval (.tmp 14) = .pointer (some ⟨g, o, none⟩) := (sv_dst (l := _) rfl).symm.trans (hA.new 2 (by decide) (by kernel_rfl))
        refine GoesG.value (.pointer (some ⟨g, o + 1, none⟩)) rfl ?_ (Below.refl _ _) (fun s h1 h2 => h1 rfl)
        simp only [execOp, e1]
        simp [go_sem]
      | 4, ho =>
        obtain rfl := Option.some.inj ho
        have e1 : a'.eval (.tmp 12) = cR R := (sv_dst (l := _) rfl).symm.trans (hA.new 0 (by decide) (by kernel_rfl))
        refine GoesG.value (.func (.method "nursery/program.number") #[cR R] #[]) rfl ?_ (Below.refl _ _) (fun s h1 h2 => h1 rfl)
        simp only [execOp, e1]
        simp [go_sem]
        simpa [Act.eval] using e1
      | 5, ho =>
        obtain rfl := Option.some.inj ho
        have e1 : a'.eval (.tmp 16) = .func (.method "nursery/program.number") #[cR R] #[] := (sv_dst (l := _) rfl).symm.trans (hA.new 4 (by decide) (by kernel_rfl))
        refine GoesG.value (.func (.method "nursery/program.number") #[cR R] #[]) rfl ?_ (Below.refl _ _) (fun s h1 h2 => h1 rfl)
        simp only [execOp, e1]
        simp [go_sem, hna_n]
      | 6, ho =>
        obtain rfl := Option.some.inj ho
        have e1 : a'.eval (.tmp 12) = cR R := (sv_dst (l := _) rfl).symm.trans (hA.new 0 (by decide) (by kernel_rfl))
        refine GoesG.value (cR R) rfl ?_ (Below.refl _ _) (fun s h1 h2 => h1 rfl)
        simp only [execOp, e1]
        simp [go_sem]
      | i + 7, ho => cases ho
    · intro vs w2d hvs hG1 hΦ
      obtain ⟨y0, y1, y2, y3, y4, y5, y6, rfl⟩ : ∃ y0 y1 y2 y3 y4 y5 y6, vs = y0 :: y1 :: y2 :: y3 :: y4 :: y5 :: y6 :: [] := by
        match vs, hvs with
        | y0 :: y1 :: y2 :: y3 :: y4 :: y5 :: y6 :: [], _ => exact ⟨y0, y1, y2, y3, y4, y5, y6, rfl⟩
      have e0 : y0 = cR R := hΦ 0 (by decide)
      subst e0
      have e1 : y1 = .pointer (some ⟨g, o, none⟩) := hΦ 1 (by decide)
      subst e1
      have e2 : y2 = .pointer (some ⟨g, o, none⟩) := hΦ 2 (by decide)
      subst e2
      have e3 : y3 = .pointer (some ⟨g, o + 1, none⟩) := hΦ 3 (by decide)
      subst e3
      have e4 : y4 = .func (.method "nursery/program.number") #[cR R] #[] := hΦ 4 (by decide)
      subst e4
      have e5 : y5 = .func (.method "nursery/program.number") #[cR R] #[] := hΦ 5 (by decide)
      subst e5
      have e6 : y6 = cR R := hΦ 6 (by decide)
      subst e6
      clear hΦ hvs
      simp only [putAll, Act.put, List.setIfInBounds_toArray, List.set_cons_succ, List.set_cons_zero]
      have HD1 := Lib.hid hG1
      clear hG1
      go_wp2_with fail
      refine (show Calls _ _ _ _ _ from K1.out _ ((HD1.out.below.block _ (lt_of_block HR1.out)).trans HR1.out) ((HD1.out.below.block _ (lt_of_block HP1.out)).trans HP1.out)).mono ?_
      rintro _ w2 ⟨rfl, hR, hP, hO⟩
      have HR2 := Lib.hid hR
      have HP2 := Lib.hid hP
      have HO2 := Lib.hid (Ot2.trans HO1.out (Ot2.trans (Ot2.of_ext HD1.out) hO))
      clear hR hP hO
      go_wp2
      refine wp_region_tail (l1 := [_, _, _, _, _, _, _]) (l2 := [_]) (by kernel_rfl) Ext (fun W => Below.refl _ W) (fun W => show Below W.heap.size W { W with drawn := W.drawn + 1 } from ⟨rfl, rfl, rfl, Nat.le_refl _, fun _ _ => rfl⟩) Ext.trans
        (fun i s W => match i with
          | 0 => s 0 = cR R
          | 1 => s 1 = .pointer (some ⟨g, o, none⟩)
          | 2 => s 2 = .pointer (some ⟨g, o, none⟩)
          | 3 => s 3 = .pointer (some ⟨g, o + 2, none⟩)
          | 4 => s 4 = .func (.method "nursery/program.number") #[cR R] #[]
          | 5 => s 5 = .func (.method "nursery/program.number") #[cR R] #[]
          | 6 => s 6 = cR R
          | _ => True)
        (fun i => [i])
        (by
          intro i s s' W W' h hs hE
          have hs := hs i (by simp)
          match i, h, hs with
          | 0, h, hs => exact hs.trans h
          | 1, h, hs => exact hs.trans h
          | 2, h, hs => exact hs.trans h
          | 3, h, hs => exact hs.trans h
          | 4, h, hs => exact hs.trans h
          | 5, h, hs => exact hs.trans h
          | 6, h, hs => exact hs.trans h
          | i + 7, h, hs => exact trivial)
        (by kernel_rfl) (by kernel_rfl) (by kernel_rfl) 46 rfl (by kernel_rfl) (by kernel_rfl) ?_ ?_
      · intro i op ho a' W hA

        match i, ho with
        | 0, ho =>
          obtain rfl := Option.some.inj ho
          have e1 : a'.eval (.tmp 0) = cR R := hA.keep 0 (by kernel_rfl)
          refine GoesG.value (cR R) rfl ?_ (Below.refl _ _) (fun s h1 h2 => h1 rfl)
          simp only [execOp, e1]
          simp [go_sem]
        | 1, ho =>
          obtain rfl := Option.some.inj ho
          have e1 : a'.eval (.tmp 1) = .pointer (some ⟨g, o, none⟩) := hA.keep 1 (by kernel_rfl)
          refine GoesG.value (.pointer (some ⟨g, o, none⟩)) rfl ?_ (Below.refl _ _) (fun s h1 h2 => h1 rfl)
          simp only [execOp, e1]
          simp [go_sem]
        | 2, ho =>
          obtain rfl := Option.some.inj ho
          have e1 : a'.eval (.tmp 21) = .pointer (some ⟨g, o, none⟩) := (sv_dst (l := _) rfl).symm.trans (hA.new 1 (by decide) (by kernel_rfl))
          refine GoesG.value (.pointer (some ⟨g, o, none⟩)) rfl ?_ (Below.refl _ _) (fun s h1 h2 => h1 rfl)
          simp only [execOp, e1]
          simp [go_sem]
        | 3, ho =>
          obtain rfl := Option.some.inj ho
          have e1 : a'.eval (.tmp 22) = .pointer (some ⟨g, o, none⟩) := (sv_dst (l := _) rfl).symm.trans (hA.new 2 (by decide) (by kernel_rfl))
          refine GoesG.value (.pointer (some ⟨g, o + 2, none⟩)) rfl ?_ (Below.refl _ _) (fun s h1 h2 => h1 rfl)
          simp only [execOp, e1]
          simp [go_sem]
        | 4, ho =>
          obtain rfl := Option.some.inj ho
          have e1 : a'.eval (.tmp 20) = cR R := (sv_dst (l := _) rfl).symm.trans (hA.new 0 (by decide) (by kernel_rfl))
          refine GoesG.value (.func (.method "nursery/program.number") #[cR R] #[]) rfl ?_ (Below.refl _ _) (fun s h1 h2 => h1 rfl)
          simp only [execOp, e1]
          simp [go_sem]
          simpa [Act.eval] using e1
        | 5, ho =>
          obtain rfl := Option.some.inj ho
          have e1 : a'.eval (.tmp 24) = .func (.method "nursery/program.number") #[cR R] #[] := (sv_dst (l := _) rfl).symm.trans (hA.new 4 (by decide) (by kernel_rfl))
          refine GoesG.value (.func (.method "nursery/program.number") #[cR R] #[]) rfl ?_ (Below.refl _ _) (fun s h1 h2 => h1 rfl)
          simp only [execOp, e1]
          simp [go_sem, hna_n]
        | 6, ho =>
          obtain rfl := Option.some.inj ho
          have e1 : a'.eval (.tmp 20) = cR R := (sv_dst (l := _) rfl).symm.trans (hA.new 0 (by decide) (by kernel_rfl))
          refine GoesG.value (cR R) rfl ?_ (Below.refl _ _) (fun s h1 h2 => h1 rfl)
          simp only [execOp, e1]
          simp [go_sem]
        | i + 7, ho => cases ho
      · intro vs w3d hvs hG2 hΦ
        obtain ⟨y0, y1, y2, y3, y4, y5, y6, rfl⟩ : ∃ y0 y1 y2 y3 y4 y5 y6, vs = y0 :: y1 :: y2 :: y3 :: y4 :: y5 :: y6 :: [] := by
          match vs, hvs with
          | y0 :: y1 :: y2 :: y3 :: y4 :: y5 :: y6 :: [], _ => exact ⟨y0, y1, y2, y3, y4, y5, y6, rfl⟩
        have e0 : y0 = cR R := hΦ 0 (by decide)
        subst e0
        have e1 : y1 = .pointer (some ⟨g, o, none⟩) := hΦ 1 (by decide)
        subst e1
        have e2 : y2 = .pointer (some ⟨g, o, none⟩) := hΦ 2 (by decide)
        subst e2
        have e3 : y3 = .pointer (some ⟨g, o + 2, none⟩) := hΦ 3 (by decide)
        subst e3
        have e4 : y4 = .func (.method "nursery/program.number") #[cR R] #[] := hΦ 4 (by decide)
        subst e4
        have e5 : y5 = .func (.method "nursery/program.number") #[cR R] #[] := hΦ 5 (by decide)
        subst e5
        have e6 : y6 = cR R := hΦ 6 (by decide)
        subst e6
        clear hΦ hvs
        simp only [putAll, Act.put, List.setIfInBounds_toArray, List.set_cons_succ, List.set_cons_zero]
        have HD2 := Lib.hid hG2
        clear hG2
        go_wp2_with fail
        refine (show Calls _ _ _ _ _ from K2.out _ ((HD2.out.below.block _ (lt_of_block HR2.out)).trans HR2.out) ((HD2.out.below.block _ (lt_of_block HP2.out)).trans HP2.out)).mono ?_
        rintro _ w3 ⟨rfl, hR, hP, hO⟩
        have HR3 := Lib.hid hR
        have HP3 := Lib.hid hP
        have HO3 := Lib.hid (Ot2.trans HO2.out (Ot2.trans (Ot2.of_ext HD2.out) hO))
        clear hR hP hO
        go_wp2
        refine wp_region_tail (l1 := [_, _, _, _, _, _, _]) (l2 := [_]) (by kernel_rfl) Ext (fun W => Below.refl _ W) (fun W => show Below W.heap.size W { W with drawn := W.drawn + 1 } from ⟨rfl, rfl, rfl, Nat.le_refl _, fun _ _ => rfl⟩) Ext.trans
          (fun i s W => match i with
            | 0 => s 0 = cR R
            | 1 => s 1 = .pointer (some ⟨g, o, none⟩)
            | 2 => s 2 = .pointer (some ⟨g, o, none⟩)
            | 3 => s 3 = .pointer (some ⟨g, o + 3, none⟩)
            | 4 => s 4 = .func (.method "nursery/program.number") #[cR R] #[]
            | 5 => s 5 = .func (.method "nursery/program.number") #[cR R] #[]
            | 6 => s 6 = cR R
            | _ => True)
          (fun i => [i])
          (by
            intro i s s' W W' h hs hE
            have hs := hs i (by simp)
            match i, h, hs with
            | 0, h, hs => exact hs.trans h
            | 1, h, hs => exact hs.trans h
            | 2, h, hs => exact hs.trans h
            | 3, h, hs => exact hs.trans h
            | 4, h, hs => exact hs.trans h
            | 5, h, hs => exact hs.trans h
            | 6, h, hs => exact hs.trans h
            | i + 7, h, hs => exact trivial)
          (by kernel_rfl) (by kernel_rfl) (by kernel_rfl) 46 rfl (by kernel_rfl) (by kernel_rfl) ?_ ?_
        · intro i op ho a' W hA

          match i, ho with
          | 0, ho =>
            obtain rfl := Option.some.inj ho
            have e1 : a'.eval (.tmp 0) = cR R := hA.keep 0 (by kernel_rfl)
            refine GoesG.value (cR R) rfl ?_ (Below.refl _ _) (fun s h1 h2 => h1 rfl)
            simp only [execOp, e1]
            simp [go_sem]
          | 1, ho =>
            obtain rfl := Option.some.inj ho
            have e1 : a'.eval (.tmp 1) = .pointer (some ⟨g, o, none⟩) := hA.keep 1 (by kernel_rfl)
            refine GoesG.value (.pointer (some ⟨g, o, none⟩)) rfl ?_ (Below.refl _ _) (fun s h1 h2 => h1 rfl)
            simp only [execOp, e1]
            simp [go_sem]
          | 2, ho =>
            obtain rfl := Option.some.inj ho
            have e1 : a'.eval (.tmp 29) = .pointer (some ⟨g, o, none⟩) := (sv_dst (l := _) rfl).symm.trans (hA.new 1 (by decide) (by kernel_rfl))
            refine GoesG.value (.pointer (some ⟨g, o, none⟩)) rfl ?_ (Below.refl _ _) (fun s h1 h2 => h1 rfl)
            simp only [execOp, e1]
            simp [go_sem]
          | 3, ho =>
            obtain rfl := Option.some.inj ho
            have e1 : a'.eval (.tmp 30) = .pointer (some ⟨g, o, none⟩) := (sv_dst (l := _) rfl).symm.trans (hA.new 2 (by decide) (by kernel_rfl))
            refine GoesG.value (.pointer (some ⟨g, o + 3, none⟩)) rfl ?_ (Below.refl _ _) (fun s h1 h2 => h1 rfl)
            simp only [execOp, e1]
            simp [go_sem]
          | 4, ho =>
            obtain rfl := Option.some.inj ho
            have e1 : a'.eval (.tmp 28) = cR R := (sv_dst (l := _) rfl).symm.trans (hA.new 0 (by decide) (by kernel_rfl))
            refine GoesG.value (.func (.method "nursery/program.number") #[cR R] #[]) rfl ?_ (Below.refl _ _) (fun s h1 h2 => h1 rfl)
            simp only [execOp, e1]
            simp [go_sem]
            simpa [Act.eval] using e1
          | 5, ho =>
            obtain rfl := Option.some.inj ho
            have e1 : a'.eval (.tmp 32) = .func (.method "nursery/program.number") #[cR R] #[] := (sv_dst (l := _) rfl).symm.trans (hA.new 4 (by decide) (by kernel_rfl))
            refine GoesG.value (.func (.method "nursery/program.number") #[cR R] #[]) rfl ?_ (Below.refl _ _) (fun s h1 h2 => h1 rfl)
            simp only [execOp, e1]
            simp [go_sem, hna_n]
          | 6, ho =>
            obtain rfl := Option.some.inj ho
            have e1 : a'.eval (.tmp 28) = cR R := (sv_dst (l := _) rfl).symm.trans (hA.new 0 (by decide) (by kernel_rfl))
            refine GoesG.value (cR R) rfl ?_ (Below.refl _ _) (fun s h1 h2 => h1 rfl)
            simp only [execOp, e1]
            simp [go_sem]
          | i + 7, ho => cases ho
        · intro vs w4d hvs hG3 hΦ
          obtain ⟨y0, y1, y2, y3, y4, y5, y6, rfl⟩ : ∃ y0 y1 y2 y3 y4 y5 y6, vs = y0 :: y1 :: y2 :: y3 :: y4 :: y5 :: y6 :: [] := by
            match vs, hvs with
            | y0 :: y1 :: y2 :: y3 :: y4 :: y5 :: y6 :: [], _ => exact ⟨y0, y1, y2, y3, y4, y5, y6, rfl⟩
          have e0 : y0 = cR R := hΦ 0 (by decide)
          subst e0
          have e1 : y1 = .pointer (some ⟨g, o, none⟩) := hΦ 1 (by decide)
          subst e1
          have e2 : y2 = .pointer (some ⟨g, o, none⟩) := hΦ 2 (by decide)
          subst e2
          have e3 : y3 = .pointer (some ⟨g, o + 3, none⟩) := hΦ 3 (by decide)
          subst e3
          have e4 : y4 = .func (.method "nursery/program.number") #[cR R] #[] := hΦ 4 (by decide)
          subst e4
          have e5 : y5 = .func (.method "nursery/program.number") #[cR R] #[] := hΦ 5 (by decide)
          subst e5
          have e6 : y6 = cR R := hΦ 6 (by decide)
          subst e6
          clear hΦ hvs
          simp only [putAll, Act.put, List.setIfInBounds_toArray, List.set_cons_succ, List.set_cons_zero]
          have HD3 := Lib.hid hG3
          clear hG3
          go_wp2_with fail
          refine (show Calls _ _ _ _ _ from K3.out _ ((HD3.out.below.block _ (lt_of_block HR3.out)).trans HR3.out) ((HD3.out.below.block _ (lt_of_block HP3.out)).trans HP3.out)).mono ?_
          rintro _ w4 ⟨rfl, hR, hP, hO⟩
          have HR4 := Lib.hid hR
          have HP4 := Lib.hid hP
          have HO4 := Lib.hid (Ot2.trans HO3.out (Ot2.trans (Ot2.of_ext HD3.out) hO))
          clear hR hP hO
          go_wp2_with fail
          refine (show Calls _ _ _ _ _ from K4.out _ HR4.out HP4.out).mono ?_
          rintro _ w5 ⟨rfl, hR, hP, hO⟩
          have HR5 := Lib.hid hR
          have HP5 := Lib.hid hP
          have HO5 := Lib.hid (Ot2.trans HO4.out hO)
          clear hR hP hO
          go_wp2_with fail
          refine (show Calls _ _ _ _ _ from K5.out _ HR5.out HP5.out).mono ?_
          rintro _ w6 ⟨rfl, hR, hO, a, hP, hI⟩
          have HI := Lib.hid (RowS.down hI HO5.out.size)
          clear hI
          have HR6 := Lib.hid hR
          have HP6 := Lib.hid hP
          have HO6 := Lib.hid (Ot2.trans HO5.out hO)
          clear hR hP hO
          go_wp2
          go_end0
          exact ⟨rfl, HR6.out, HO6.out, a, HP6.out, HI.out⟩
theorem rFn_one (R g o : Nat) (st : RSt) (cs : Array Value) (T : TypeId) (w : World) (hR : w.heap[R]? = some (rdQ st)) (hP : w.heap[g]? = some (.cells cs T (0, 0))) (hne : g ≠ R) (ho : o + 6 ≤ cs.size) (hl : st.1.length ≤ 10000000) (hbf : cs[o + 4]? = some (.bool false)) (hbz : cs[o + 5]? = some (.slice none 0 0)) :
    Calls Tryz.prog 51 #[cR R, .pointer (some ⟨g, o, none⟩)] w (ROne gFn FnSl 6 R g o st cs T w) := by
  refine (rFn_any R g o st cs T w hR hP hne ho hl hbf hbz).mono ?_
  rintro e w' ⟨h1, h2, h3, a, h4, h5⟩
  refine ⟨h1, h2, h3, _, h4, by simp, fun q hq => ?_, a, _, ⟨cell_of h4 ?_, cell_of h4 ?_, cell_of h4 ?_, cell_of h4 ?_, cell_of h4 ?_, cell_of h4 ?_⟩, Nat.le_refl _, h5⟩
  · simp only [Array.getElem?_setIfInBounds]
    rw [if_neg (by omega), if_neg (by omega), if_neg (by omega), if_neg (by omega), if_neg (by omega), if_neg (by omega)]
  all_goals (simp only [Array.getElem?_setIfInBounds, Array.size_setIfInBounds]; simp; first | exact ⟨by omega, rfl⟩ | exact ⟨by omega, rfl, rfl⟩)
end Go.Proofs.YtfkjokbhnblndaaGreatDoor

namespace Go.Proofs.YtfkjokbhnblndaaGreatDoor
open Go.RowKit Go.Shelf
set_option linter.unusedVariables false
set_option linter.unusedSimpArgs false

def gPg (s : RSt) : Pg × RSt := (⟨(gEach gFn (gTxt s).2).1, (gEach gOb (gEach gFn (gTxt s).2).2).1, (gEach gVa (gEach gOb (gEach gFn (gTxt s).2).2).2).1⟩, (gEach gVa (gEach gOb (gEach gFn (gTxt s).2).2).2).2)
/-- a program that a reader has made -/
structure PgMade (B : Nat) (w : World) (p : Pg) (fa oa va : Option Addr) : Prop where
  fs : RowS FnSl 6 47 B w fa p.fs
  os : RowS ObSl 4 52 B w oa p.os
  vs : RowS VaSl 3 54 B w va p.vs
set_option maxRecDepth 100000 in
set_option maxHeartbeats 4000000 in
theorem rdesc_any (R pb : Nat) (st : RSt) (w : World) (hR : w.heap[R]? = some (rdQ st)) (hP : w.heap[pb]? = some (.cells #[.slice none 0 0, .slice none 0 0, .slice none 0 0] 26 (0, 0))) (hne : pb ≠ R) (hl : st.1.length ≤ 10000000) :
    Calls Tryz.prog 26 #[cR R, .pointer (some ⟨pb, 0, none⟩)] w fun e w' => e = .returned (.tuple #[]) ∧ w'.heap[R]? = some (rdQ (gPg st).2) ∧ Ot2 R pb w w' ∧
      ∃ fa oa va, w'.heap[pb]? = some (.cells #[.slice fa (gPg st).1.fs.length (gPg st).1.fs.length, .slice oa (gPg st).1.os.length (gPg st).1.os.length, .slice va (gPg st).1.vs.length (gPg st).1.vs.length] 26 (0, 0)) ∧ PgMade w.heap.size w' (gPg st).1 fa oa va := by
  have hl1 := Nat.le_trans (gTxt_le st) hl
  have hl2 := Nat.le_trans (gEach_le gFn gFn_le (gTxt st).2) hl1
  have hl3 := Nat.le_trans (gEach_le gOb gOb_le (gEach gFn (gTxt st).2).2) hl2
  have KT := Lib.hid (fun W nb x (h : W.heap[R]? = some (rdQ st)) (hb : W.heap[nb]? = some (.cells #[x] 9 (0, 0))) (hn : nb ≠ R) => rtext_any R nb 0 st #[x] 9 W h hb hn (by simp) (by omega))
  have KF := Lib.hid (fun W x y z (h : W.heap[R]? = some (rdQ (gTxt st).2)) (hb : W.heap[pb]? = some (.cells #[x, y, z] 26 (0, 0))) (hx : x = .slice none 0 0) => reach_Fn R pb 0 (gTxt st).2 #[x, y, z] 26 W h hb hne (by simp) (by rw [hx]; rfl) hl1 (fun g i st' cs' w' h1 h2 h3 h4 h5 h6 => rFn_one R g (i * 6) st' cs' _ w' h1 h2 h3 h4 h5 h6.1 h6.2))
  have KO := Lib.hid (fun W x y z (h : W.heap[R]? = some (rdQ (gEach gFn (gTxt st).2).2)) (hb : W.heap[pb]? = some (.cells #[x, y, z] 26 (0, 0))) (hy : y = .slice none 0 0) => reach_Ob R pb 1 (gEach gFn (gTxt st).2).2 #[x, y, z] 26 W h hb hne (by simp) (by rw [hy]; rfl) hl2 (fun g i st' cs' w' h1 h2 h3 h4 h5 _ => rOb_one R g (i * 4) st' cs' _ w' h1 h2 h3 h4 h5))
  have KV := Lib.hid (fun W x y z (h : W.heap[R]? = some (rdQ (gEach gOb (gEach gFn (gTxt st).2).2).2)) (hb : W.heap[pb]? = some (.cells #[x, y, z] 26 (0, 0))) (hz : z = .slice none 0 0) => reach_Va R pb 2 (gEach gOb (gEach gFn (gTxt st).2).2).2 #[x, y, z] 26 W h hb hne (by simp) (by rw [hz]; rfl) hl3 (fun g i st' cs' w' h1 h2 h3 h4 h5 h6 => rVa_one R g (i * 3) st' cs' _ w' h1 h2 h3 h4 h5 h6))
  have HG := Lib.hid (show gPg st = (⟨(gEach gFn (gTxt st).2).1, (gEach gOb (gEach gFn (gTxt st).2).2).1, (gEach gVa (gEach gOb (gEach gFn (gTxt st).2).2).2).1⟩, (gEach gVa (gEach gOb (gEach gFn (gTxt st).2).2).2).2) from rfl)
  rw [HG.out]
  clear HG hl hl1 hl2 hl3
  dsimp only
  have HR := Lib.hid hR
  have HP := Lib.hid hP
  have hlR : R < w.heap.size := lt_of_block hR
  have hlP : pb < w.heap.size := lt_of_block hP
  clear hR hP
  generalize (gTxt st).2 = s1 at *
  generalize (gTxt st).1 = v1 at *
  generalize (gEach gFn s1).1 = fs at *
  generalize (gEach gFn s1).2 = s2 at *
  generalize (gEach gOb s2).1 = os at *
  generalize (gEach gOb s2).2 = s3 at *
  generalize (gEach gVa s3).1 = vs at *
  generalize (gEach gVa s3).2 = s4 at *
  go_enter Tryz.func26, Tryz.ntmps26
  go_wp2_with fail
  have hb1 := alloc_here w (.cells #[sV [78, 80, 49]] 9)
  have HE := Lib.hid (ext_alloc (Below.refl _ w) (.cells #[sV [78, 80, 49]] 9))
  have HP1 := Lib.hid ((HE.out.below.block _ hlP).trans HP.out)
  refine (show Calls _ _ _ _ _ from KT.out _ w.heap.size (sV [78, 80, 49]) ((HE.out.below.block _ hlR).trans HR.out) hb1 (by omega)).mono ?_
  rintro _ w1 ⟨rfl, hR1, _, hO⟩
  have HR1 := Lib.hid hR1
  have HP2 := Lib.hid (hO.block HP1.out hne (by omega))
  have HO1 := Lib.hid (show Ot2 R pb w w1 from Ot2.fresh HE.out hO (Nat.le_refl _))
  clear hb1 hR1 hO
  go_wp2_with fail
  refine (show Calls _ _ _ _ _ from KF.out w1 _ _ _ HR1.out HP2.out rfl).mono ?_
  rintro _ w2 ⟨rfl, hR2, hO, fa, hP3, hF⟩
  have HR2 := Lib.hid hR2
  have HP3 := Lib.hid (show w2.heap[pb]? = some (.cells #[.slice fa fs.length fs.length, .slice none 0 0, .slice none 0 0] 26 (0, 0)) from hP3)
  have HF2 := Lib.hid (hF.down HO1.out.size)
  have HO2 := Lib.hid (Ot2.trans HO1.out hO)
  clear hR2 hP3 hF hO
  go_wp2_with fail
  refine (show Calls _ _ _ _ _ from KO.out w2 _ _ _ HR2.out HP3.out rfl).mono ?_
  rintro _ w3 ⟨rfl, hR3, hO, oa, hP4, hF⟩
  have HR3 := Lib.hid hR3
  have HP4 := Lib.hid (show w3.heap[pb]? = some (.cells #[.slice fa fs.length fs.length, .slice oa os.length os.length, .slice none 0 0] 26 (0, 0)) from hP4)
  have HF3 := Lib.hid (HF2.out.keep FnSl.keep hO hlR hlP)
  have HG3 := Lib.hid (hF.down HO2.out.size)
  have HO3 := Lib.hid (Ot2.trans HO2.out hO)
  clear hR3 hP4 hF hO
  go_wp2_with fail
  refine (show Calls _ _ _ _ _ from KV.out w3 _ _ _ HR3.out HP4.out rfl).mono ?_
  rintro _ w4 ⟨rfl, hR4, hO, va, hP5, hF⟩
  have HR4 := Lib.hid hR4
  have HP5 := Lib.hid (show w4.heap[pb]? = some (.cells #[.slice fa fs.length fs.length, .slice oa os.length os.length, .slice va vs.length vs.length] 26 (0, 0)) from hP5)
  have HF4 := Lib.hid (HF3.out.keep FnSl.keep hO hlR hlP)
  have HG4 := Lib.hid (HG3.out.keep ObSl.keep hO hlR hlP)
  have HV4 := Lib.hid (hF.down HO3.out.size)
  have HO4 := Lib.hid (Ot2.trans HO3.out hO)
  clear hR4 hP5 hF hO
  go_wp2
  go_end0
  exact ⟨rfl, HR4.out, HO4.out, fa, oa, va, HP5.out, HF4.out, HG4.out, HV4.out⟩

/-! what is read fits -/
theorem rdL_len (s : List UInt8) : (rdL s).1.length ≤ s.length := by
  by_cases h : (rdL s).2.2 = 0
  · obtain ⟨h1, h2, h3, h4⟩ := rdL_ok h
    have h5 : (rdL s).1.length ≤ (encL (rdL s).1).length := by
      generalize (rdL s).1 = l at *
      clear h1 h2 h3 h4 h
      induction l with
      | nil => simp
      | cons n l ih =>
        have := enc_pos n
        unfold encL at *
        rw [encs_cons]
        simp only [List.length_append, List.length_cons, List.length_nil] at ih ⊢
        omega
    omega
  · rw [(rdL_err h).1]; simp
theorem gIns_wf (s : RSt) (hs : s.1.length ≤ 10000000) : (gIns s).1.wf := by
  refine ⟨gNum_bd s, gNum_bd _, gNum_bd _, gNum_bd _, ?_, gLst_bd _⟩
  have h1 := rdL_len (gNum (gNum (gNum (gNum s).2).2).2).2.1
  have h2 := Nat.le_trans (gNum_le (gNum (gNum (gNum s).2).2).2) (Nat.le_trans (gNum_le (gNum (gNum s).2).2) (Nat.le_trans (gNum_le (gNum s).2) (gNum_le s)))
  show ((gLst (gNum (gNum (gNum (gNum s).2).2).2).2).1).length ≤ _
  unfold gLst
  dsimp only
  omega
theorem gOb_wf (s : RSt) : (gOb s).1.wf := ⟨Nat.le_trans (gTxt_bd s) (by decide), gNum_bd _, gNum_bd _, gNum_bd _⟩
theorem gVa_wf (s : RSt) : (gVa s).1.wf := ⟨Nat.le_trans (gTxt_bd s) (by decide), gNum_bd _⟩
theorem gRep_mem2 {α : Type} (one : RSt → α × RSt) (hle : ∀ s, (one s).2.1.length ≤ s.1.length) : ∀ n s x, x ∈ (gRep one n s).1 → ∃ s', x = (one s').1 ∧ s'.1.length ≤ s.1.length
  | 0, _, x, h => by cases h
  | n + 1, s, x, h => by
    rcases List.mem_cons.1 h with rfl | h
    · exact ⟨s, rfl, Nat.le_refl _⟩
    · obtain ⟨s', h1, h2⟩ := gRep_mem2 one hle n _ x h
      exact ⟨s', h1, Nat.le_trans h2 (hle s)⟩
theorem gCnt_le (n : Int) : gCnt n ≤ 1000 := by
  unfold gCnt
  split <;> omega
theorem gEach_len {α : Type} (one : RSt → α × RSt) (s : RSt) : (gEach one s).1.length ≤ 1000 := by
  unfold gEach
  rw [gRep_len]
  exact gCnt_le _
theorem gEach_mem {α : Type} {one : RSt → α × RSt} (hle : ∀ s, (one s).2.1.length ≤ s.1.length) {s : RSt} {x : α} (h : x ∈ (gEach one s).1) : ∃ s', x = (one s').1 ∧ s'.1.length ≤ s.1.length := by
  obtain ⟨s', h1, h2⟩ := gRep_mem2 one hle _ _ _ h
  exact ⟨s', h1, Nat.le_trans h2 (gNum_le s)⟩
theorem gFn_wf (s : RSt) (hs : s.1.length ≤ 10000000) : (gFn s).1.wf := by
  have hl : (gFlg (gNum (gNum (gNum (gTxt s).2).2).2).2).2.1.length ≤ 10000000 := Nat.le_trans (gNum_le _) (Nat.le_trans (gNum_le _) (Nat.le_trans (gNum_le _) (Nat.le_trans (gNum_le _) (Nat.le_trans (gTxt_le s) hs))))
  refine ⟨Nat.le_trans (gTxt_bd s) (by decide), gNum_bd _, gNum_bd _, gNum_bd _, Nat.le_trans (gEach_len gIns _) (by decide), fun c hc => ?_⟩
  obtain ⟨s', h1, h2⟩ := gEach_mem gIns_le (show c ∈ (gEach gIns (gFlg (gNum (gNum (gNum (gTxt s).2).2).2).2).2).1 from hc)
  rw [h1]
  exact gIns_wf s' (Nat.le_trans h2 hl)
theorem gPg_wf (s : RSt) (hs : s.1.length ≤ 10000000) : (gPg s).1.wf := by
  have hl1 := Nat.le_trans (gTxt_le s) hs
  refine ⟨Nat.le_trans (gEach_len gFn _) (by decide), Nat.le_trans (gEach_len gOb _) (by decide), Nat.le_trans (gEach_len gVa _) (by decide), fun x hx => ?_, fun x hx => ?_, fun x hx => ?_⟩
  · obtain ⟨s', h1, h2⟩ := gEach_mem gFn_le (show x ∈ (gEach gFn (gTxt s).2).1 from hx)
    rw [h1]; exact gFn_wf s' (Nat.le_trans h2 hl1)
  · obtain ⟨s', h1, h2⟩ := gEach_mem gOb_le (show x ∈ (gEach gOb (gEach gFn (gTxt s).2).2).1 from hx)
    rw [h1]; exact gOb_wf s'
  · obtain ⟨s', h1, h2⟩ := gEach_mem gVa_le (show x ∈ (gEach gVa (gEach gOb (gEach gFn (gTxt s).2).2).2).1 from hx)
    rw [h1]; exact gVa_wf s'
theorem RowI.cap {B : Nat} {x : Option Addr} {n c : Nat} {l : List Int} {w : World} (h : RowI B (.slice x n c) l w) : l.length ≤ c := by
  unfold RowI World.ownsRow at h
  rcases h.2 with ⟨e, h0⟩ | ⟨g, cap, cur, e, _, _, hc, _⟩
  · rw [h0]; exact Nat.zero_le _
  · cases e; exact hc
theorem RowS.ins {B : Nat} {w : World} {a : Option Addr} {l : List Ins} (h : RowS InsSl 5 50 B w a l) : InsRow w a l := fun i hi => by
  obtain ⟨g, cs, rfl, _, _, _, hj⟩ := h
  obtain ⟨x, c, hc, hI⟩ := hj i hi
  have hle := RowI.cap hI
  obtain ⟨x', cap, e, hA, _, _⟩ := RowI.ints hI
  cases e
  exact ⟨g, 0, x, c, rfl, by rw [Nat.zero_add]; exact hc, hA, hle⟩
theorem PgMade.at {B : Nat} {w : World} {p : Pg} {fa oa va : Option Addr} (h : PgMade B w p fa oa va) (hwf : p.wf) : PgAt w p ⟨fa, p.fs.length, oa, p.os.length, va, p.vs.length⟩ ∧ PgFree w p ⟨fa, p.fs.length, oa, p.os.length, va, p.vs.length⟩ := by
  refine ⟨⟨fun i hi => ?_, fun i hi => ?_, fun i hi => ?_, hwf, Nat.le_refl _, Nat.le_refl _, Nat.le_refl _⟩, ⟨fun b o e i hi => ?_, fun b o e i hi => ?_⟩⟩
  · obtain ⟨g, cs, rfl, _, _, _, hj⟩ := h.fs
    obtain ⟨x, c, hc, _, hI⟩ := hj i hi
    exact ⟨g, 0, x, c, rfl, by rw [Nat.zero_add]; exact hc, hI.ins⟩
  · obtain ⟨g, cs, rfl, _, _, _, hj⟩ := h.os
    exact ⟨g, 0, rfl, by rw [Nat.zero_add]; exact hj i hi⟩
  · obtain ⟨g, cs, rfl, _, _, _, hj⟩ := h.vs
    exact ⟨g, 0, rfl, by rw [Nat.zero_add]; exact hj i hi⟩
  · obtain ⟨g, cs, e', _, hg, _, _⟩ := h.fs
    have e : fa = some ⟨b, o, none⟩ := e
    rw [e] at e'
    cases e'
    exact free_of hg
  · obtain ⟨g, cs, e', _, hg, _, _⟩ := h.vs
    have e : va = some ⟨b, o, none⟩ := e
    rw [e] at e'
    cases e'
    exact free_of hg
end Go.Proofs.YtfkjokbhnblndaaGreatDoor

namespace Go.Proofs.YtfkjokbhnblndaaGreatDoor
open Go.RowKit Go.Shelf
set_option linter.unusedVariables false
set_option linter.unusedSimpArgs false

theorem put3n {W : World} {B : Nat} {c : Array Value} {T : TypeId} {f : Nat × Nat} (h : W.heap[B]? = some (.cells c T f)) (hc : c.size = 3) (x0 x1 x2 : Value) :
    ∃ W', (((W.setCell ⟨B, 0, none⟩ x0).setCell ⟨B, 1, none⟩ x1).setCell ⟨B, 2, none⟩ x2) = W' ∧ W'.heap[B]? = some (.cells #[x0, x1, x2] T f) ∧ (∀ n₀, n₀ ≤ B → Below n₀ W W') ∧ (∀ b, b ≠ B → W'.heap[b]? = W.heap[b]?) := by
  refine ⟨_, rfl, ?_, fun n₀ hn => ?_, fun b hb => ?_⟩
  · have := heap_set (i := 2) (heap_set (i := 1) (heap_set (i := 0) h x0) x1) x2
    rw [this]
    have e : ((c.setIfInBounds 0 x0).setIfInBounds 1 x1).setIfInBounds 2 x2 = #[x0, x1, x2] := by
      obtain ⟨l⟩ := c
      match l, hc with
      | [a, b, d], _ => rfl
    rw [e]
  · exact (((Below.refl n₀ W).setCell (p := ⟨B, 0, none⟩) hn x0).setCell (p := ⟨B, 1, none⟩) hn x1).setCell (p := ⟨B, 2, none⟩) hn x2
  · exact (Below.heap_setCell _ _ _ _ hb).trans ((Below.heap_setCell _ _ _ _ hb).trans (Below.heap_setCell _ _ _ _ hb))
theorem opn_len (s : List UInt8) : (opn s).1.length ≤ s.length := by
  by_cases h : (opn s).2.2 = 0
  · obtain ⟨_, h2, h3, _⟩ := opn_yes s h
    have : (opn s).1.length ≤ (frame (opn s).1).length := by unfold frame; simp only [List.length_append]; omega
    omega
  · rw [(opn_no s h).1]; simp
/-- what Decode gives -/
def decR (s : List UInt8) : Option Pg × Int :=
  if (opn s).2.2 ≠ 0 then (none, (opn s).2.2)
  else if (gPg ((opn s).1, false)).2.2 = true ∨ (opn s).2.1 ≠ s.length then (none, 12)
  else if (encR (gPg ((opn s).1, false)).1).2 ≠ 0 ∨ (encR (gPg ((opn s).1, false)).1).1 ≠ s then (none, 12)
  else (some (gPg ((opn s).1, false)).1, 0)
abbrev zPV : Value := .agg #[.slice none 0 0, .slice none 0 0, .slice none 0 0]
abbrev zPB : Obj := .cells #[.slice none 0 0, .slice none 0 0, .slice none 0 0] 26 (0, 0)
def DecP (w : World) (D : Option Pg × Int) (e : Ending) (w' : World) : Prop := Ext w w' ∧ match D.1 with
  | none => e = .returned (.tuple #[zPV, .int .i64 D.2])
  | some p => ∃ A, e = .returned (.tuple #[PV p A, .int .i64 0]) ∧ PgAt w' p A ∧ PgFree w' p A
theorem DecP.none {w w' : World} {D : Option Pg × Int} {er : Int} (hD : D = (none, er)) (hE : Ext w w') : DecP w D (.returned (.tuple #[zPV, .int .i64 er])) w' := by
  subst hD; exact ⟨hE, rfl⟩
theorem DecP.some {w w' : World} {D : Option Pg × Int} {p : Pg} {A : PA} (hD : D = (Option.some p, 0)) (hE : Ext w w') (hA : PgAt w' p A) (hF : PgFree w' p A) : DecP w D (.returned (.tuple #[PV p A, .int .i64 0])) w' := by
  subst hD; exact ⟨hE, A, rfl, hA, hF⟩

set_option maxRecDepth 100000 in
set_option maxHeartbeats 4000000 in
theorem Decode_err (s : List UInt8) (n : Nat) (er : Int) (D : Option Pg × Int) (w : World) (he : er ≠ 0) (hO : ∀ W, Gives Tryz.prog 31 #[sV s] W (.tuple #[sV [], .int .i64 (n : Int), .int .i64 er])) (hD : D = (none, er)) :
    Calls Tryz.prog 14 #[sV s] w (DecP w D) := by
  have KO := Lib.hid hO
  have HD := Lib.hid hD
  have HX1 := Lib.hid (ext_alloc (Below.refl _ w) zPB)
  have HZ1 := Lib.hid (alloc_here w zPB)
  have g1 : (er == 0) = false := by simpa using he
  have g2 : (er != 0) = true := by simpa using he
  clear hO hD he
  go_enter Tryz.func14, Tryz.ntmps14
  go_wp2_with fail
  refine (show Gives _ _ _ _ _ from KO.out _).mono ?_
  intro w1 hE1
  replace hE1 : Ext (w.alloc zPB) w1 := hE1
  have HX := Lib.hid (Ext.trans HX1.out hE1)
  have HZ := Lib.hid ((hE1.below.block _ (lt_of_block HZ1.out)).trans HZ1.out)
  clear hE1
  have z0 := cell_of (i := 0) HZ.out rfl
  have z1 := cell_of (i := 1) HZ.out rfl
  have z2 := cell_of (i := 2) HZ.out rfl
  have zf : ∀ i, w1.frozen? ⟨w.heap.size, i, none⟩ = false := fun i => free_of HZ.out
  go_wp2
  obtain ⟨W', hW', h3, h4, h5⟩ := put3n HZ.out rfl (.slice none 0 0) (.slice none 0 0) (.slice none 0 0)
  rw [hW']
  clear z0 z1 z2 zf
  have z0 := cell_of (i := 0) h3 rfl
  have z1 := cell_of (i := 1) h3 rfl
  have z2 := cell_of (i := 2) h3 rfl
  exact bodyPost_ret (v := .tuple #[zPV, .int .i64 er]) (by simp [results, Tryz.f14, go_sem, z0, z1, z2]) rfl (DecP.none HD.out (Below.trans HX.out (h4 _ (Nat.le_refl _))))

set_option maxRecDepth 100000 in
set_option maxHeartbeats 8000000 in
theorem Decode_read (s t rest u : List UInt8) (n : Nat) (p : Pg) (wr : Bool) (ee : Int) (D : Option Pg × Int) (w : World) (hm : MaxL w) (hwf : p.wf)
    (hO : ∀ W, Gives Tryz.prog 31 #[sV s] W (.tuple #[sV t, .int .i64 (n : Int), .int .i64 0]))
    (hRd : ∀ W R pb, W.heap[R]? = some (rdQ (t, false)) → W.heap[pb]? = some zPB → pb ≠ R → Calls Tryz.prog 26 #[cR R, .pointer (some ⟨pb, 0, none⟩)] W fun e w' => e = .returned (.tuple #[]) ∧ w'.heap[R]? = some (rdQ (rest, wr)) ∧ Ot2 R pb W w' ∧
      ∃ fa oa va, w'.heap[pb]? = some (.cells #[.slice fa p.fs.length p.fs.length, .slice oa p.os.length p.os.length, .slice va p.vs.length p.vs.length] 26 (0, 0)) ∧ PgMade W.heap.size w' p fa oa va)
    (hEn : ∀ W A, PgAt W p A → PgFree W p A → MaxL W → Gives Tryz.prog 12 #[PV p A] W (.tuple #[sV u, .int .i64 ee]))
    (hD1 : wr = true ∨ n ≠ s.length → D = (none, 12)) (hD2 : ¬ (wr = true ∨ n ≠ s.length) → ee ≠ 0 ∨ u ≠ s → D = (none, 12)) (hD3 : ¬ (wr = true ∨ n ≠ s.length) → ¬ (ee ≠ 0 ∨ u ≠ s) → D = (some p, 0)) (hsl : s.length ≤ 10000000) :
    Calls Tryz.prog 14 #[sV s] w (DecP w D) := by
  have KO := Lib.hid hO
  have KR := Lib.hid hRd
  have KE := Lib.hid hEn
  have HD1 := Lib.hid hD1
  have HD2 := Lib.hid hD2
  have HD3 := Lib.hid hD3
  have HWF := Lib.hid hwf
  have HM := Lib.hid hm
  have HX1 := Lib.hid (ext_alloc (Below.refl _ w) zPB)
  have HZ1 := Lib.hid (alloc_here w zPB)
  clear hO hRd hEn hD1 hD2 hD3 hwf
  go_enter Tryz.func14, Tryz.ntmps14
  go_wp2_with fail
  refine (show Gives _ _ _ _ _ from KO.out _).mono ?_
  intro w1 hE1
  replace hE1 : Ext (w.alloc zPB) w1 := hE1
  have HX := Lib.hid (Ext.trans HX1.out hE1)
  have HZ := Lib.hid ((hE1.below.block _ (lt_of_block HZ1.out)).trans HZ1.out)
  clear hE1
  have HA := Lib.hid (ext_alloc (ext_alloc (Below.refl _ w1) (rdQ (t, false))) zPB)
  have HAR := Lib.hid (show ((w1.alloc (rdQ (t, false))).alloc zPB).heap[w1.heap.size]? = some (rdQ (t, false)) from by
    rw [Below.heap_alloc _ _ _ (by rw [World.size_alloc]; omega)]; exact alloc_here _ _)
  have HAP := Lib.hid (show ((w1.alloc (rdQ (t, false))).alloc zPB).heap[w1.heap.size + 1]? = some zPB from by
    have := alloc_here (w1.alloc (rdQ (t, false))) zPB
    rw [World.size_alloc] at this; exact this)
  have hlz : w.heap.size < w1.heap.size := lt_of_block HZ.out
  go_wp2_with fail
  refine (show Calls _ _ _ _ _ from KR.out _ w1.heap.size (w1.heap.size + 1) HAR.out HAP.out (by omega)).mono ?_
  rintro _ w2 ⟨rfl, hR2, hOt, fa, oa, va, hP2, hM2⟩
  have HR2 := Lib.hid hR2
  have HP2 := Lib.hid hP2
  have HZ2 := Lib.hid (hOt.block ((HA.out.below.block _ hlz).trans HZ.out) (by omega) (by omega))
  have HE2 := Lib.hid (show Ext w1 w2 from ⟨hOt.os.trans HA.out.os, hOt.tape.trans HA.out.tape, hOt.output.trans HA.out.output, Nat.le_trans HA.out.size hOt.size, fun j hj => (hOt.other j (Nat.lt_of_lt_of_le hj HA.out.size) (by omega) (by omega)).trans (HA.out.below.block j hj)⟩)
  have HAt := Lib.hid (hM2.at HWF.out)
  have HMd := Lib.hid hM2
  have HBs := Lib.hid (show w.heap.size < ((w1.alloc (rdQ (t, false))).alloc zPB).heap.size from by simp only [World.size_alloc]; omega)
  clear hR2 hP2 hOt hM2
  have r1 : w2.cell? ⟨w1.heap.size, 1, none⟩ = some (.bool wr) := cell_of HR2.out rfl
  have z0 := cell_of (i := 0) HZ2.out rfl
  have z1 := cell_of (i := 1) HZ2.out rfl
  have z2 := cell_of (i := 2) HZ2.out rfl
  have zf : ∀ i, w2.frozen? ⟨w.heap.size, i, none⟩ = false := fun i => free_of HZ2.out
  have hlen : (sB s).size = s.length := sB_size s
  by_cases hbad : wr = true ∨ n ≠ s.length
  · have HD := Lib.hid (HD1.out hbad)
    have HX2 := Lib.hid (Ext.trans HX.out HE2.out)
    cases wr with
    | true =>
      clear hbad
      go_wp2
      obtain ⟨W', hW', h3, h4, h5⟩ := put3n HZ2.out rfl (.slice none 0 0) (.slice none 0 0) (.slice none 0 0)
      rw [hW']
      clear z0 z1 z2 zf
      have z0 := cell_of (i := 0) h3 rfl
      have z1 := cell_of (i := 1) h3 rfl
      have z2 := cell_of (i := 2) h3 rfl
      exact bodyPost_ret (v := .tuple #[zPV, .int .i64 12]) (by simp [results, Tryz.f14, go_sem, z0, z1, z2]) rfl (DecP.none HD.out (Below.trans HX2.out (h4 _ (Nat.le_refl _))))
    | false =>
      have hn : n ≠ s.length := by rcases hbad with h | h; cases h; exact h
      have hn2 : ((n : Int) == (s.length : Int)) = false := by rw [beq_eq_false_iff_ne]; omega
      have hn3 : ((n : Int) != (s.length : Int)) = true := by rw [bne_iff_ne]; omega
      clear hbad
      go_wp2
      obtain ⟨W', hW', h3, h4, h5⟩ := put3n HZ2.out rfl (.slice none 0 0) (.slice none 0 0) (.slice none 0 0)
      rw [hW']
      clear z0 z1 z2 zf
      have z0 := cell_of (i := 0) h3 rfl
      have z1 := cell_of (i := 1) h3 rfl
      have z2 := cell_of (i := 2) h3 rfl
      exact bodyPost_ret (v := .tuple #[zPV, .int .i64 12]) (by simp [results, Tryz.f14, go_sem, z0, z1, z2]) rfl (DecP.none HD.out (Below.trans HX2.out (h4 _ (Nat.le_refl _))))
  · obtain ⟨hw, hn⟩ : wr = false ∧ n = s.length := by
      constructor
      · cases wr with
        | true => exact absurd (Or.inl rfl) hbad
        | false => rfl
      · exact Classical.byContradiction (fun h => hbad (Or.inr h))
    have HQ2 := Lib.hid (HD2.out hbad)
    have HQ3 := Lib.hid (HD3.out hbad)
    clear hbad
    subst hw
    subst hn
    have HX2 := Lib.hid (Ext.trans HX.out HE2.out)
    have hm2 : MaxL w2 := HM.out.below HM.out.lt HX2.out
    have KX := Lib.hid (KE.out w2 ⟨fa, p.fs.length, oa, p.os.length, va, p.vs.length⟩ HAt.out.1 HAt.out.2 hm2)
    dsimp only [PV] at KX
    have p0 := cell_of (i := 0) HP2.out rfl
    have p1 := cell_of (i := 1) HP2.out rfl
    have p2 := cell_of (i := 2) HP2.out rfl
    go_wp2_with fail
    refine (show Gives _ _ _ _ _ from KX.out).mono ?_
    intro w3 hE3
    replace hE3 : Ext w2 w3 := hE3
    have HX3 := Lib.hid (Ext.trans HX2.out hE3)
    have HZ3 := Lib.hid ((hE3.below.block _ (lt_of_block HZ2.out)).trans HZ2.out)
    have HP3 := Lib.hid ((hE3.below.block _ (lt_of_block HP2.out)).trans HP2.out)
    have HE23 := Lib.hid hE3
    clear hE3 p0 p1 p2 r1 z0 z1 z2 zf
    have z0 := cell_of (i := 0) HZ3.out rfl
    have z1 := cell_of (i := 1) HZ3.out rfl
    have z2 := cell_of (i := 2) HZ3.out rfl
    have zf : ∀ i, w3.frozen? ⟨w.heap.size, i, none⟩ = false := fun i => free_of HZ3.out
    by_cases hee : ee = 0
    · subst hee
      by_cases hu : u = s
      · subst hu
        have HD := Lib.hid (HQ3.out (by simp))
        have p0 := cell_of (i := 0) HP3.out rfl
        have p1 := cell_of (i := 1) HP3.out rfl
        have p2 := cell_of (i := 2) HP3.out rfl
        go_wp2
        obtain ⟨W', hW', h3, h4, h5⟩ := put3n HZ3.out rfl (.slice fa p.fs.length p.fs.length) (.slice oa p.os.length p.os.length) (.slice va p.vs.length p.vs.length)
        rw [hW']
        clear z0 z1 z2 zf p0 p1 p2
        have z0 := cell_of (i := 0) h3 rfl
        have z1 := cell_of (i := 1) h3 rfl
        have z2 := cell_of (i := 2) h3 rfl
        exact bodyPost_ret (v := .tuple #[PV p ⟨fa, p.fs.length, oa, p.os.length, va, p.vs.length⟩, .int .i64 0]) (by simp [results, Tryz.f14, go_sem, z0, z1, z2]) rfl (by
          have hO : Ot2 w.heap.size w.heap.size w2 W' := Ot2.trans (Ot2.of_ext HE23.out) ⟨(h4 0 (Nat.zero_le _)).os, (h4 0 (Nat.zero_le _)).tape, (h4 0 (Nat.zero_le _)).output, (h4 0 (Nat.zero_le _)).size, fun j _ hj _ => h5 j hj⟩
          have hM : PgMade ((w1.alloc (rdQ (t, false))).alloc zPB).heap.size W' p fa oa va := ⟨HMd.out.fs.keep FnSl.keep hO HBs.out HBs.out, HMd.out.os.keep ObSl.keep hO HBs.out HBs.out, HMd.out.vs.keep VaSl.keep hO HBs.out HBs.out⟩
          exact DecP.some HD.out (Below.trans HX3.out (h4 _ (Nat.le_refl _))) (hM.at HWF.out).1 (hM.at HWF.out).2)
      · have HD := Lib.hid (HQ2.out (.inr hu))
        have hul : (u == s) = false := by simpa using hu
        clear hu
        go_wp2
        obtain ⟨W', hW', h3, h4, h5⟩ := put3n HZ3.out rfl (.slice none 0 0) (.slice none 0 0) (.slice none 0 0)
        rw [hW']
        clear z0 z1 z2 zf
        have z0 := cell_of (i := 0) h3 rfl
        have z1 := cell_of (i := 1) h3 rfl
        have z2 := cell_of (i := 2) h3 rfl
        exact bodyPost_ret (v := .tuple #[zPV, .int .i64 12]) (by simp [results, Tryz.f14, go_sem, z0, z1, z2]) rfl (DecP.none HD.out (Below.trans HX3.out (h4 _ (Nat.le_refl _))))
    · have HD := Lib.hid (HQ2.out (.inl hee))
      have g1 : (ee == 0) = false := by simpa using hee
      have g2 : (ee != 0) = true := by simpa using hee
      clear hee
      go_wp2
      obtain ⟨W', hW', h3, h4, h5⟩ := put3n HZ3.out rfl (.slice none 0 0) (.slice none 0 0) (.slice none 0 0)
      rw [hW']
      clear z0 z1 z2 zf
      have z0 := cell_of (i := 0) h3 rfl
      have z1 := cell_of (i := 1) h3 rfl
      have z2 := cell_of (i := 2) h3 rfl
      exact bodyPost_ret (v := .tuple #[zPV, .int .i64 12]) (by simp [results, Tryz.f14, go_sem, z0, z1, z2]) rfl (DecP.none HD.out (Below.trans HX3.out (h4 _ (Nat.le_refl _))))
theorem Decode_any (s : List UInt8) (w : World) (hs : s.length ≤ 10000000) (hm : MaxL w) : Calls Tryz.prog 14 #[sV s] w (DecP w (decR s)) := by
  have KO : ∀ W, Gives Tryz.prog 31 #[sV s] W (opV s) := fun W => Open_any s W (by omega)
  unfold opV at KO
  have hol := Nat.le_trans (opn_len s) hs
  by_cases he : (opn s).2.2 = 0
  · have hD : decR s = if (gPg ((opn s).1, false)).2.2 = true ∨ (opn s).2.1 ≠ s.length then (none, 12)
        else if (encR (gPg ((opn s).1, false)).1).2 ≠ 0 ∨ (encR (gPg ((opn s).1, false)).1).1 ≠ s then (none, 12) else (some (gPg ((opn s).1, false)).1, 0) := by
      unfold decR; rw [if_neg (by simpa using he)]
    rw [he] at KO
    have hwf := gPg_wf ((opn s).1, false) hol
    have KR := fun W R pb hR hP hne => rdesc_any R pb ((opn s).1, false) W hR hP hne hol
    generalize decR s = D at *
    generalize gPg ((opn s).1, false) = G at *
    obtain ⟨p, rest, wr⟩ := G
    dsimp only at KR hwf hD
    have KE := fun W A hAt hFr hm => Encode_any p A W hAt hFr hm
    generalize (encR p).1 = u at *
    generalize (encR p).2 = ee at *
    exact Decode_read s (opn s).1 rest u (opn s).2.1 p wr ee D w hm hwf KO KR KE (fun h => by rw [hD, if_pos h]) (fun h h2 => by rw [hD, if_neg h, if_pos h2]) (fun h h2 => by rw [hD, if_neg h, if_neg h2]) hs
  · have hD : decR s = (none, (opn s).2.2) := by unfold decR; rw [if_pos he]
    have h1 := opn_no s he
    rw [h1.1] at KO
    exact Decode_err s (opn s).2.1 (opn s).2.2 (decR s) w he KO hD
end Go.Proofs.YtfkjokbhnblndaaGreatDoor

namespace Go.Proofs.YtfkjokbhnblndaaGreatDoor
open Go.RowKit Go.Shelf
set_option linter.unusedVariables false
set_option linter.unusedSimpArgs false

theorem decR_some {s : List UInt8} {p : Pg} (h : (decR s).1 = some p) : decR s = (some p, 0) ∧ encR p = (s, 0) := by
  unfold decR at h ⊢
  split
  · rename_i h1; rw [if_pos h1] at h; cases h
  · rename_i h1
    rw [if_neg h1] at h
    split
    · rename_i h2; rw [if_pos h2] at h; cases h
    · rename_i h2
      rw [if_neg h2] at h
      split
      · rename_i h3; rw [if_pos h3] at h; cases h
      · rename_i h3
        rw [if_neg h3] at h
        cases h
        have h4 := not_or.1 h3
        exact ⟨rfl, Prod.ext (Classical.not_not.1 h4.2) (Classical.not_not.1 h4.1)⟩
theorem decR_none {s : List UInt8} (h : (decR s).1 = none) : (decR s).2 ≠ 0 := by
  unfold decR at h ⊢
  split
  · rename_i h1; exact h1
  · rename_i h1
    rw [if_neg h1] at h
    split
    · simp
    · rename_i h2
      rw [if_neg h2] at h
      split
      · simp
      · rename_i h3; rw [if_neg h3] at h; cases h
end Go.Proofs.YtfkjokbhnblndaaGreatDoor

namespace Go.Proofs.YtfkjokbhnblndaaGreatDoor
open Go.RowKit
set_option linter.unusedVariables false
set_option linter.unusedSimpArgs false

abbrev small (n : Int) : Prop := -1099511627776 ≤ n ∧ n ≤ 1099511627776
theorem ite_then {c : Prop} [Decidable c] {x y : Int} {P : Prop} (h : (if c then x else y) = 0) (h1 : c → x = 0 → P) (h2 : ¬ c → y = 0 → P) : P := by
  by_cases hc : c
  · rw [if_pos hc] at h; exact h1 hc h
  · rw [if_neg hc] at h; exact h2 hc h
theorem opd_small {p : Pg} (h : Valid p) {f : Fn} (hr : f.regs ≤ 32) (hc : f.code.length ≤ 200) {o : Opd} {n : Int} (hk : ckOpd p f o n = 0) : small n := by
  have h1 := h.f2
  have h2 := h.o2
  have h3 := h.v2
  have A : ∀ {a b : Int} {x y : Int}, (if inB n a b then x else y) = 0 → y ≠ 0 → -1099511627776 ≤ a → b ≤ 1099511627776 → small n := fun {a b x y} e hy ha hb => by
    cases hB : inB n a b with
    | true => have := inB_iff.1 hB; exact ⟨by omega, by omega⟩
    | false => rw [hB] at e; exact absurd e hy
  unfold ckOpd at hk
  refine ite_then hk (fun _ hk => ite_then hk (fun e _ => by subst e; exact ⟨by decide, by decide⟩) (fun _ hk => by cases hk)) fun _ hk => ?_
  refine ite_then hk (fun _ hk => A hk (by decide) (by omega) (by omega)) fun _ hk => ?_
  refine ite_then hk (fun _ hk => A hk (by decide) (by omega) (by omega)) fun _ hk => ?_
  refine ite_then hk (fun _ hk => A hk (by decide) (by omega) (by omega)) fun _ hk => ?_
  refine ite_then hk (fun _ hk => A hk (by decide) (by omega) (by omega)) fun _ hk => ?_
  refine ite_then hk (fun _ hk => A hk (by decide) (by omega) (by omega)) fun _ hk => ?_
  refine ite_then hk (fun _ hk => A hk (by decide) (by omega) (by omega)) fun _ hk => ?_
  refine ite_then hk (fun _ hk => A hk (by decide) (by omega) (by omega)) fun _ hk => ?_
  refine ite_then hk (fun _ hk => A hk (by decide) (by omega) (by omega)) fun _ hk => ?_
  refine ite_then hk (fun _ hk => A hk (by decide) (by omega) (by omega)) fun _ hk => ?_
  exact A hk (by decide) (by omega) (by omega)
theorem case_small {p : Pg} (h : Valid p) {f : Fn} (hr : f.regs ≤ 32) (hc : f.code.length ≤ 200) {k ch r : Int} (hk : ckCase p f k ch r = 0) : small k ∧ small ch ∧ small r := by
  unfold ckCase at hk
  split at hk
  · rename_i e
    split at hk
    · cases hk
    · rename_i e2
      have e3 : ch = 0 := Classical.byContradiction fun hn => e2 (.inl hn)
      have e4 : r = 0 := Classical.byContradiction fun hn => e2 (.inr hn)
      subst e e3 e4
      exact ⟨⟨by decide, by decide⟩, ⟨by decide, by decide⟩, ⟨by decide, by decide⟩⟩
  · split at hk
    · rename_i e0 e
      split at hk
      · exact absurd hk ‹_›
      · rename_i e1
        have hch := opd_small h hr hc (Classical.not_not.1 e1)
        have hks : small k := by rcases e with rfl | rfl <;> exact ⟨by decide, by decide⟩
        split at hk
        · cases hk
        · rename_i e2
          refine ⟨hks, hch, ?_⟩
          rcases e with rfl | rfl
          · cases hB : inB r 0 (f.regs - 1) with
            | true => have := inB_iff.1 hB; exact ⟨by omega, by omega⟩
            | false => exact absurd ⟨rfl, hB⟩ e2
          · split at hk
            · cases hk
            · rename_i e3
              have e4 : r = 0 := Classical.byContradiction fun hn => e3 ⟨rfl, hn⟩
              subst e4
              exact ⟨by decide, by decide⟩
    · cases hk
theorem args_small {p : Pg} (h : Valid p) {f : Fn} (hr : f.regs ≤ 32) (hc : f.code.length ≤ 200) {m : Int} {x : Ins} (hk : ckArgs p f m x = 0) : ∀ n ∈ x.args, small n := by
  unfold ckArgs at hk
  split at hk
  · split at hk
    · cases hk
    · intro n hn
      have : x.args = [] := List.eq_nil_of_length_eq_zero (by omega)
      rw [this] at hn; cases hn
  · split at hk
    · unfold ckCases at hk
      split at hk
      · cases hk
      · rename_i e
        split at hk
        · exact absurd hk ‹_›
        · rename_i e2
          have hall := fstE_all (Classical.not_not.1 e2)
          intro n hn
          obtain ⟨i, hi, rfl⟩ := List.getElem_of_mem hn
          have hj : i / 3 < x.args.length / 3 := by omega
          have hcs := case_small h hr hc (hall (i / 3) hj)
          have hm : i % 3 = 0 ∨ i % 3 = 1 ∨ i % 3 = 2 := by omega
          have hg : ∀ q (hq : q < x.args.length), x.args.getD q 0 = x.args[q] := fun q hq => by simp [List.getD, hq]
          rcases hm with hm | hm | hm
          · have := hcs.1
            rw [hg (3 * (i / 3)) (by omega)] at this
            simpa [show 3 * (i / 3) = i by omega] using this
          · have := hcs.2.1
            rw [hg (3 * (i / 3) + 1) (by omega)] at this
            simpa [show 3 * (i / 3) + 1 = i by omega] using this
          · have := hcs.2.2
            rw [hg (3 * (i / 3) + 2) (by omega)] at this
            simpa [show 3 * (i / 3) + 2 = i by omega] using this
    · unfold ckRegs at hk
      by_cases e8 : (x.args.length : Int) = (if m = 1 then ((p.fs[x.b.toNat]?).map Fn.params).getD 0 else 2)
      · rw [if_neg (by rw [e8]; exact fun h => h rfl)] at hk
        split at hk
        · cases hk
        · rename_i e
          intro n hn
          have h1 : regOut f n = false := by
            cases hq : regOut f n with
            | false => rfl
            | true => exact absurd (List.any_eq_true.2 ⟨n, hn, hq⟩) e
          have h2 : inB n 0 (f.regs - 1) = true := by unfold regOut at h1; simpa using h1
          have := inB_iff.1 h2
          exact ⟨by omega, by omega⟩
      · rw [if_pos e8] at hk; cases hk
theorem small_of {n a b : Int} (h : inB n a b = true) (ha : -1099511627776 ≤ a) (hb : b ≤ 1099511627776) : small n := by
  have := inB_iff.1 h
  exact ⟨by omega, by omega⟩
theorem va_sm {p : Pg} (h : Valid p) {i : Nat} (hi : i < p.vs.length) : ∀ n ∈ [(p.vs[i]).init], small n := by
  intro n hn
  rw [List.mem_singleton] at hn
  subst hn
  exact small_of (h.va hi).init (by decide) (by decide)
theorem szB (k : Int) : -1099511627776 ≤ szLo k ∧ szHi k ≤ 1099511627776 := by unfold szLo szHi; constructor <;> split <;> decide
theorem otB (n : Nat) (k : Int) (hn : n ≤ 16) : -1099511627776 ≤ otLo k ∧ otHi n k ≤ 1099511627776 := by
  unfold otLo otHi
  refine ⟨by split <;> decide, ?_⟩
  split
  · omega
  · split
    · decide
    · split <;> decide
theorem ob_sm {p : Pg} (h : Valid p) {i : Nat} (hi : i < p.os.length) : ∀ n ∈ [(p.os[i]).size, (p.os[i]).oth], small n := by
  intro n hn
  have ho := h.ob hi
  simp only [List.mem_cons, List.not_mem_nil, or_false] at hn
  rcases hn with rfl | rfl
  · exact small_of ho.size (szB _).1 (szB _).2
  · exact small_of ho.oth (otB _ _ h.o2).1 (otB _ _ h.o2).2
theorem fn_sm {p : Pg} (h : Valid p) {i : Nat} (hi : i < p.fs.length) : ∀ n ∈ [(p.fs[i]).params, (p.fs[i]).regs, (p.fs[i]).prio], small n := by
  intro n hn
  have hf := h.fn hi
  have h1 := inB_iff.1 hf.params
  have h2 := inB_iff.1 hf.regs
  have h3 := inB_iff.1 hf.prio
  simp only [List.mem_cons, List.not_mem_nil, or_false] at hn
  rcases hn with rfl | rfl | rfl
  · exact ⟨by omega, by omega⟩
  · exact ⟨by omega, by omega⟩
  · exact ⟨by omega, by omega⟩
theorem ins_sm {p : Pg} (h : Valid p) {i : Nat} (hi : i < p.fs.length) {k : Nat} (hk : k < (p.fs[i]).code.length) : ∀ n ∈ ([((p.fs[i]).code[k]).a, ((p.fs[i]).code[k]).b, ((p.fs[i]).code[k]).c] ++ ((p.fs[i]).code[k]).args), small n := by
  intro n hn
  have hf := h.fn hi
  have h1 := (inB_iff.1 hf.regs).2
  obtain ⟨s, hs⟩ := hf.ins hk
  simp only [List.mem_append, List.mem_cons, List.not_mem_nil, or_false] at hn
  rcases hn with (rfl | rfl | rfl) | hn
  · exact opd_small h h1 hf.len hs.a
  · exact opd_small h h1 hf.len hs.b
  · exact opd_small h h1 hf.len hs.c
  · exact args_small h h1 hf.len hs.args n hn
end Go.Proofs.YtfkjokbhnblndaaGreatDoor

namespace Go.Proofs.YtfkjokbhnblndaaGreatDoor
open Go.RowKit Go.Shelf
set_option linter.unusedVariables false
set_option linter.unusedSimpArgs false

/-- numbers that can be written -/
abbrev nR (n : Int) : Prop := -4611686018427387904 ≤ n ∧ n ≤ 4611686018427387904
theorem small.nR {n : Int} (h : small n) : nR n := ⟨by have := h.1; omega, by have := h.2; omega⟩
theorem gNum_w {n : Int} (h : nR n) (r : List UInt8) (b : Bool) : gNum (nuS n ++ r, b) = (n, (r, b)) := by
  unfold gNum nuS
  rw [if_pos h]
  dsimp only
  rw [rdI_enc n h.1 h.2 r]
  simp
theorem gTxt_w {t : List UInt8} (h : t.length ≤ 100000) (r : List UInt8) (b : Bool) : gTxt (txS t ++ r, b) = (t, (r, b)) := by
  unfold gTxt txS
  rw [if_neg (by omega)]
  dsimp only
  rw [rdX_enc t r h]
  simp
theorem gLst_w {l : List Int} (h : ∀ n ∈ l, nR n) (h2 : l.length ≤ 20000) (r : List UInt8) (b : Bool) : gLst (lsS l ++ r, b) = (l, (r, b)) := by
  have ha : l.all inR = true := by rw [List.all_eq_true]; exact fun n hn => (inR_iff n).2 (h n hn)
  unfold gLst lsS
  rw [if_neg (by omega), if_pos ha]
  dsimp only
  rw [rdL_enc l r ha h2]
  simp
theorem gFlg_w (v : Bool) (r : List UInt8) (b : Bool) : gFlg (nuS (boN v) ++ r, b) = (v, (r, b)) := by
  unfold gFlg
  have : gNum (nuS (boN v) ++ r, b) = (boN v, (r, b)) := gNum_w (by cases v <;> simp [boN, nR]) r b
  rw [this]
  cases v <;> rfl
theorem gRep_w {α : Type} {one : RSt → α × RSt} {f : α → List UInt8} : ∀ (xs : List α), (∀ x ∈ xs, ∀ r b, one (f x ++ r, b) = (x, (r, b))) → ∀ r b, gRep one xs.length (xs.flatMap f ++ r, b) = (xs, (r, b))
  | [], _, r, b => rfl
  | x :: xs, h, r, b => by
    have h1 := h x (List.mem_cons_self ..) (xs.flatMap f ++ r) b
    have h2 := gRep_w xs (fun y hy => h y (List.mem_cons_of_mem _ hy)) r b
    rw [List.flatMap_cons, List.append_assoc, List.length_cons]
    unfold gRep
    rw [h1]
    dsimp only
    rw [h2]
theorem gEach_w {α : Type} {one : RSt → α × RSt} {f : α → List UInt8} {xs : List α} (hl : xs.length ≤ 1000) (h : ∀ x ∈ xs, ∀ r b, one (f x ++ r, b) = (x, (r, b))) (r : List UInt8) (b : Bool) : gEach one (seqS f xs ++ r, b) = (xs, (r, b)) := by
  unfold gEach seqS
  rw [List.append_assoc, gNum_w ⟨by omega, by omega⟩]
  dsimp only
  have : gCnt (xs.length : Int) = xs.length := by unfold gCnt; rw [if_neg (by omega)]; simp
  rw [this]
  exact gRep_w xs h r b
structure InsW (x : Ins) : Prop where
  op : nR x.op
  a : nR x.a
  b : nR x.b
  c : nR x.c
  args : ∀ n ∈ x.args, nR n
  len : x.args.length ≤ 20000
theorem gIns_w {x : Ins} (h : InsW x) (r : List UInt8) (b : Bool) : gIns (insS x ++ r, b) = (x, (r, b)) := by
  unfold gIns insS
  simp only [List.append_assoc]
  rw [gNum_w h.op]
  dsimp only
  rw [gNum_w h.a]
  dsimp only
  rw [gNum_w h.b]
  dsimp only
  rw [gNum_w h.c]
  dsimp only
  rw [gLst_w h.args h.len]
theorem gOb_w {x : Ob} (hn : x.name.length ≤ 100000) (h1 : nR x.kind) (h2 : nR x.size) (h3 : nR x.oth) (r : List UInt8) (b : Bool) : gOb (obS x ++ r, b) = (x, (r, b)) := by
  unfold gOb obS
  simp only [List.append_assoc]
  rw [gTxt_w hn]
  dsimp only
  rw [gNum_w h1]
  dsimp only
  rw [gNum_w h2]
  dsimp only
  rw [gNum_w h3]
theorem gVa_w {x : Va} (hn : x.name.length ≤ 100000) (h1 : nR x.init) (r : List UInt8) (b : Bool) : gVa (vaS x ++ r, b) = (x, (r, b)) := by
  unfold gVa vaS
  simp only [List.append_assoc]
  rw [gTxt_w hn]
  dsimp only
  rw [gNum_w h1]
  dsimp only
  rw [gFlg_w]
theorem gFn_w {x : Fn} (hn : x.name.length ≤ 100000) (h1 : nR x.params) (h2 : nR x.regs) (h3 : nR x.prio) (hc : ∀ c ∈ x.code, InsW c) (hl : x.code.length ≤ 1000) (r : List UInt8) (b : Bool) : gFn (fnS x ++ r, b) = (x, (r, b)) := by
  unfold gFn fnS
  simp only [List.append_assoc]
  rw [gTxt_w hn]
  dsimp only
  rw [gNum_w h1]
  dsimp only
  rw [gNum_w h2]
  dsimp only
  rw [gNum_w h3]
  dsimp only
  rw [gFlg_w]
  dsimp only
  rw [gEach_w hl (fun c hc' r b => gIns_w (hc c hc') r b)]
theorem shp_op {op : Int} {s : Sh} (h : shp op = some s) : 1 ≤ op ∧ op ≤ 74 := by
  have hm := shp_some op s h
  have : ∀ q ∈ shTab, 1 ≤ q.1 ∧ q.1 ≤ 74 := by decide
  exact this _ hm
theorem gPg_w {p : Pg} (h : Valid p) : gPg (pgS p, false) = (p, ([], false)) := by
  have hf : ∀ x ∈ p.fs, ∀ r b, gFn (fnS x ++ r, b) = (x, (r, b)) := by
    intro x hx r b
    obtain ⟨i, hi, rfl⟩ := List.getElem_of_mem hx
    have hs := fn_sm h hi
    have hF := h.fn hi
    refine gFn_w (by have := (isNm_len hF.nm).2; omega) (hs _ (by simp)).nR (hs _ (by simp)).nR (hs _ (by simp)).nR (fun c hc => ?_) (by have := hF.len; omega) r b
    obtain ⟨k, hk, rfl⟩ := List.getElem_of_mem hc
    have ht := ins_sm h hi hk
    obtain ⟨s, hs⟩ := hF.ins hk
    refine ⟨?_, (ht _ (by simp)).nR, (ht _ (by simp)).nR, (ht _ (by simp)).nR, fun n hn => (ht n (by simp [hn])).nR, by have := args_len h hs.args; omega⟩
    have := shp_op hs.shp
    exact ⟨by omega, by omega⟩
  have ho : ∀ x ∈ p.os, ∀ r b, gOb (obS x ++ r, b) = (x, (r, b)) := by
    intro x hx r b
    obtain ⟨i, hi, rfl⟩ := List.getElem_of_mem hx
    have hs := ob_sm h hi
    have hO := h.ob hi
    exact gOb_w (by have := (isNm_len hO.nm).2; omega) ⟨by have := hO.k1; omega, by have := hO.k2; omega⟩ (hs _ (by simp)).nR (hs _ (by simp)).nR r b
  have hv : ∀ x ∈ p.vs, ∀ r b, gVa (vaS x ++ r, b) = (x, (r, b)) := by
    intro x hx r b
    obtain ⟨i, hi, rfl⟩ := List.getElem_of_mem hx
    have hs := va_sm h hi
    exact gVa_w (by have := (isNm_len (h.va hi).nm).2; omega) (hs _ (by simp)).nR r b
  have h1 := h.f2
  have h2 := h.o2
  have h3 := h.v2
  have e : pgS p = txS [78, 80, 49] ++ (seqS fnS p.fs ++ (seqS obS p.os ++ (seqS vaS p.vs ++ []))) := by unfold pgS; rw [List.append_nil]
  rw [e]
  unfold gPg
  rw [gTxt_w (by decide)]
  dsimp only
  rw [gEach_w (by omega) hf]
  dsimp only
  rw [gEach_w (by omega) ho]
  dsimp only
  rw [gEach_w (by omega) hv]
end Go.Proofs.YtfkjokbhnblndaaGreatDoor

namespace Go.Proofs.YtfkjokbhnblndaaGreatDoor
open Go.RowKit Go.Shelf
set_option linter.unusedVariables false
set_option linter.unusedSimpArgs false

set_option maxRecDepth 100000 in
set_option maxHeartbeats 2000000 in
theorem greatInstr_any (x : Ins) (a : Option Addr) (c : Nat) (w : World) : Gives Tryz.prog 18 #[IV x a c] w (.bool (decide (24 < x.args.length))) := by
  unfold Gives
  dsimp only [IV]
  obtain ⟨wk, hwk⟩ : ∃ W, W = (w.alloc (.cells #[.int .i64 x.op, .int .i64 x.a, .int .i64 x.b, .int .i64 x.c, .slice a x.args.length c] 50)) := ⟨_, rfl⟩
  have BX := Lib.hid (show ∀ W, Ext wk W → (W.cell? ⟨w.heap.size, 0, none⟩ = some (.int .i64 x.op) ∧ W.cell? ⟨w.heap.size, 1, none⟩ = some (.int .i64 x.a) ∧ W.cell? ⟨w.heap.size, 2, none⟩ = some (.int .i64 x.b) ∧ W.cell? ⟨w.heap.size, 3, none⟩ = some (.int .i64 x.c) ∧ W.cell? ⟨w.heap.size, 4, none⟩ = some (.slice a x.args.length c)) from fun W hW => by
    subst hwk
    have h0 := alloc_here w (.cells #[.int .i64 x.op, .int .i64 x.a, .int .i64 x.b, .int .i64 x.c, .slice a x.args.length c] 50)
    have k0 := (hW.below.block _ (lt_of_block h0)).trans h0
    exact ⟨cell_of k0 rfl, cell_of k0 rfl, cell_of k0 rfl, cell_of k0 rfl, cell_of k0 rfl⟩)
  have HWZ := Lib.hid (show wk.heap.size = w.heap.size + 1 by rw [hwk]; simp)
  have HW := Lib.hid (show Ext w wk by rw [hwk]; exact (ext_alloc (Below.refl _ _) _))
  have HE0 := Lib.hid (show Ext wk wk from Below.refl _ _)
  obtain ⟨d0_0, d0_1, d0_2, d0_3, d0_4⟩ := BX.out _ HE0.out
  by_cases hg : 24 < x.args.length
  · have g1 : (24 : Int) < x.args.length := by omega
    go_enter Tryz.func18, Tryz.ntmps18
    go_wp2
    rw [← hwk]
    go_ret
    exact ⟨by simp [hg], HW.out⟩
  · have g1 : ¬ (24 : Int) < x.args.length := by omega
    go_enter Tryz.func18, Tryz.ntmps18
    go_wp2
    rw [← hwk]
    go_ret
    exact ⟨by simp [hg], HW.out⟩

end Go.Proofs.YtfkjokbhnblndaaGreatDoor

namespace Go.Proofs.YtfkjokbhnblndaaGreatDoor
open Go.RowKit Go.Shelf
set_option linter.unusedVariables false
set_option linter.unusedSimpArgs false

/-- how many instructions -/
def cdL (l : List Fn) : Nat := (l.map fun f => f.code.length).sum
theorem cdL_succ {l : List Fn} {k : Nat} (h : k < l.length) : cdL (l.take (k + 1)) = cdL (l.take k) + l[k].code.length := by
  unfold cdL
  rw [List.take_succ_eq_append_getElem h]
  simp only [List.map_append, List.map_cons, List.map_nil, List.sum_append, List.sum_cons, List.sum_nil, Nat.add_zero]
def SomeG (p : Pg) (w : World) (e : Ending) (w' : World) : Prop := ∃ b, e = .returned (.bool b) ∧ (b = false → cdL p.fs ≤ 250) ∧ Ext w w'
theorem someG (p : Pg) (w : World) {w' : World} (b : Bool) (hb : b = false → cdL p.fs ≤ 250) (h : Ext w w') : SomeG p w (.returned (.bool b)) w' := ⟨b, rfl, hb, h⟩
set_option maxRecDepth 100000 in
set_option maxHeartbeats 4000000 in
theorem Great2_any (p : Pg) (A : PA) (w : World) (h : PgAt w p A) : Calls Tryz.prog 7 #[PV p A] w (SomeG p w) := by
  have HP := Lib.hid h
  have hwf := h.wf
  obtain ⟨fa, fc, oa, oc, va, vc⟩ := A
  dsimp only [PV]
  obtain ⟨nf, hnf⟩ : ∃ n, p.fs.length = n := ⟨_, rfl⟩
  obtain ⟨no, hno⟩ : ∃ n, p.os.length = n := ⟨_, rfl⟩
  obtain ⟨nv, hnv⟩ : ∃ n, p.vs.length = n := ⟨_, rfl⟩
  have bf := hwf.nf
  have bo := hwf.no
  have bv := hwf.nv
  have HWF := Lib.hid hwf
  rw [hnf] at bf ⊢
  rw [hno] at bo ⊢
  rw [hnv] at bv ⊢
  have HNF := Lib.hid hnf
  have HNO := Lib.hid hno
  have HNV := Lib.hid hnv
  clear hnf hno hnv h hwf
  obtain ⟨wk, hwk⟩ : ∃ W, W = (w.alloc (.cells #[.slice fa nf fc, .slice oa no oc, .slice va nv vc] 26)) := ⟨_, rfl⟩
  have BX := Lib.hid (show ∀ W, Ext wk W → (W.cell? ⟨w.heap.size, 0, none⟩ = some (.slice fa nf fc) ∧ W.cell? ⟨w.heap.size, 1, none⟩ = some (.slice oa no oc) ∧ W.cell? ⟨w.heap.size, 2, none⟩ = some (.slice va nv vc)) from fun W hW => by
    subst hwk
    have h0 := alloc_here w (.cells #[.slice fa nf fc, .slice oa no oc, .slice va nv vc] 26)
    have k0 := (hW.below.block _ (lt_of_block h0)).trans h0
    exact ⟨cell_of k0 rfl, cell_of k0 rfl, cell_of k0 rfl⟩)
  have HWZ := Lib.hid (show wk.heap.size = w.heap.size + 1 by rw [hwk]; simp)
  have HW := Lib.hid (show Ext w wk by rw [hwk]; exact (ext_alloc (Below.refl _ _) _))
  have HE0 := Lib.hid (show Ext wk wk from Below.refl _ _)
  have HE := Lib.hid (show Ext wk wk from Below.refl _ _)
  have ent : ∀ (_ : True), True := fun _ => trivial
  obtain ⟨d0_0, d0_1, d0_2⟩ := BX.out _ HE.out
  by_cases hnf : 34 < nf
  · have gnf : (34 : Int) < nf := by omega
    go_enter Tryz.func7, Tryz.ntmps7
    go_wp2
    rw [← hwk]
    go_ret
    exact someG p w true (fun h => by cases h) HW.out
  · have gnf : ¬ (34 : Int) < nf := by omega
    by_cases hno : 18 < no
    · have gno : (18 : Int) < no := by omega
      go_enter Tryz.func7, Tryz.ntmps7
      go_wp2
      rw [← hwk]
      go_ret
      exact someG p w true (fun h => by cases h) HW.out
    · have gno : ¬ (18 : Int) < no := by omega
      by_cases hnv : 18 < nv
      · have gnv : (18 : Int) < nv := by omega
        go_enter Tryz.func7, Tryz.ntmps7
        go_wp2
        rw [← hwk]
        go_ret
        exact someG p w true (fun h => by cases h) HW.out
      · have gnv : ¬ (18 : Int) < nv := by omega
        go_enter Tryz.func7, Tryz.ntmps7
        go_wp2_with fail
        rw [← hwk]
        clear hwk d0_0 d0_1 d0_2
        go_loopw [3, 4] (fun n i wr => ∃ k m : Nat, k ≤ nf ∧ m ≤ 250 ∧ m = cdL (p.fs.take k) ∧ n = .int .i64 (m : Int) ∧ i = .int .i64 (k : Int) ∧ Ext wk wr) (fun _ i _ => nf - (intOf i).toNat)
        case atStart => exact ⟨0, 0, Nat.zero_le _, by omega, rfl, rfl, rfl, HE.out⟩
        case round =>
          obtain ⟨k, m, hk, hm, hS, rfl, rfl, hE⟩ := hrel
          have HSM := Lib.hid hS
          clear hS
          clear HE
          have HE := Lib.hid hE
          clear hE
          obtain ⟨d0_0, d0_1, d0_2⟩ := BX.out wr HE.out
          by_cases hlt : k < nf
          · have hlt' : k < p.fs.length := by rw [HNF.out]; exact hlt
            obtain ⟨b0, off, ca, cc, hfa, hcs, hir⟩ := HP.out.fs k hlt'
            dsimp only at hfa
            subst hfa
            have HCS := Lib.hid hcs
            have HIR := Lib.hid hir
            obtain ⟨c0, c1, c2, c3, c4, c5⟩ := hcs.ext (Ext.trans HW.out HE.out)
            clear hcs hir
            have hwn := (HWF.out.fs _ (List.getElem_mem hlt')).len
            have hwm := (HWF.out.fs _ (List.getElem_mem hlt')).name
            obtain ⟨f, hf⟩ : ∃ f, p.fs[k] = f := ⟨_, rfl⟩
            rw [hf] at HCS HIR c0 c1 c2 c3 c4 c5 hwn hwm
            have HS2 := Lib.hid (show m + f.code.length = cdL (p.fs.take (k + 1)) from by rw [cdL_succ hlt', HSM.out, hf])
            clear hf hlt'
            by_cases h1 : 250 < m + f.code.length
            · have g1 : (250 : Int) < (m : Int) + (f.code.length : Int) := by omega
              go_wp2
              go_ret
              exact someG p w true (fun h => by cases h) (Ext.trans HW.out HE.out)
            · have g1 : ¬ (250 : Int) < (m : Int) + (f.code.length : Int) := by omega
              by_cases h2 : 40 < f.name.length
              · have g2 : (40 : Int) < (f.name.length : Int) := by omega
                go_wp2
                go_ret
                exact someG p w true (fun h => by cases h) (Ext.trans HW.out HE.out)
              · have g2 : ¬ (40 : Int) < (f.name.length : Int) := by omega
                go_wp2_with fail
                clear c0 c1 c2 c3 c4 c5 d0_0 d0_1 d0_2
                generalize wr = wo at *
                go_loopw [5] (fun i wr => ∃ j : Nat, j ≤ f.code.length ∧ i = .int .i64 (j : Int) ∧ Ext wk wr) (fun i _ => f.code.length - (intOf i).toNat)
                case atStart => exact ⟨0, Nat.zero_le _, rfl, HE.out⟩
                case round =>
                  obtain ⟨j, hj, rfl, hE⟩ := hrel
                  clear HE
                  have HE := Lib.hid hE
                  clear hE
                  obtain ⟨d0_0, d0_1, d0_2⟩ := BX.out wr HE.out
                  obtain ⟨c0, c1, c2, c3, c4, c5⟩ := HCS.out.ext (Ext.trans HW.out HE.out)
                  by_cases hlj : j < f.code.length
                  · obtain ⟨b1, o1, xa, xc, hca, hic, hia, hxc⟩ := HIR.out j hlj
                    subst hca
                    obtain ⟨e0, e1, e2, e3, e4⟩ := hic.ext (Ext.trans HW.out HE.out)
                    obtain ⟨y, hy⟩ : ∃ y, f.code[j] = y := ⟨_, rfl⟩
                    rw [hy] at e0 e1 e2 e3 e4
                    clear hy hic hia hxc
                    have KG := Lib.hid (fun W => greatInstr_any y xa xc W)
                    dsimp only [IV] at KG
                    go_wp2_with fail
                    clear c0 c1 c2 c3 c4 c5 e0 e1 e2 e3 e4 d0_0 d0_1 d0_2
                    refine (KG.out _).mono ?_
                    intro w6 hB
                    replace HE := Lib.hid (Ext.trans HE.out hB)
                    clear hB
                    generalize decide (24 < y.args.length) = gb
                    cases gb with
                    | true =>
                      go_wp2
                      go_ret
                      exact someG p w true (fun h => by cases h) (Ext.trans HW.out HE.out)
                    | false =>
                      go_wp2
                      go_roundw
                      case rel => exact ⟨j + 1, by omega, by go_num, HE.out⟩
                      case measure => simp [intOf]; omega
                  · go_wp2
                    go_roundw
                    case rel => exact ⟨k + 1, m + f.code.length, by omega, by omega, HS2.out, by go_num, by go_num, HE.out⟩
                    case measure => simp [intOf]; omega
          · have HSUM := Lib.hid (show cdL p.fs ≤ 250 from by
              have := HSM.out
              rw [List.take_of_length_le (by rw [HNF.out]; omega)] at this
              omega)
            clear hk HSM
            go_wp2_with fail
            clear d0_0 d0_1 d0_2
            generalize wr = wo at *
            clear hlt
            generalize k = k0 at *
            go_loopw [6] (fun i wr => ∃ k : Nat, k ≤ no ∧ i = .int .i64 (k : Int) ∧ Ext wk wr) (fun i _ => no - (intOf i).toNat)
            case atStart => exact ⟨0, Nat.zero_le _, rfl, HE.out⟩
            case round =>
              obtain ⟨k, hk, rfl, hE⟩ := hrel
              clear HE
              have HE := Lib.hid hE
              clear hE
              obtain ⟨d0_0, d0_1, d0_2⟩ := BX.out wr HE.out
              by_cases hlt : k < no
              · have hlt' : k < p.os.length := by rw [HNO.out]; exact hlt
                obtain ⟨b1, off1, hfa, hcs⟩ := HP.out.os k hlt'
                dsimp only at hfa
                subst hfa
                obtain ⟨c0, c1, c2, c3⟩ := hcs.ext (Ext.trans HW.out HE.out)
                clear hcs c1 c2 c3
                have hwm := (HWF.out.os _ (List.getElem_mem hlt')).name
                obtain ⟨f, hf⟩ : ∃ f, p.os[k] = f := ⟨_, rfl⟩
                rw [hf] at c0 hwm
                clear hf hlt'
                by_cases h2 : 40 < f.name.length
                · have g2 : (40 : Int) < (f.name.length : Int) := by omega
                  go_wp2
                  go_ret
                  exact someG p w true (fun h => by cases h) (Ext.trans HW.out HE.out)
                · have g2 : ¬ (40 : Int) < (f.name.length : Int) := by omega
                  go_wp2
                  go_roundw
                  case rel => exact ⟨k + 1, by omega, by go_num, HE.out⟩
                  case measure => simp [intOf]; omega
              · clear hk
                go_wp2_with fail
                clear d0_0 d0_1 d0_2
                generalize wr = wo2 at *
                clear hlt
                generalize k = k1 at *
                go_loopw [7] (fun i wr => ∃ k : Nat, k ≤ nv ∧ i = .int .i64 (k : Int) ∧ Ext wk wr) (fun i _ => nv - (intOf i).toNat)
                case atStart => exact ⟨0, Nat.zero_le _, rfl, HE.out⟩
                case round =>
                  obtain ⟨k, hk, rfl, hE⟩ := hrel
                  clear HE
                  have HE := Lib.hid hE
                  clear hE
                  obtain ⟨d0_0, d0_1, d0_2⟩ := BX.out wr HE.out
                  by_cases hlt : k < nv
                  · have hlt' : k < p.vs.length := by rw [HNV.out]; exact hlt
                    obtain ⟨b1, off1, hfa, hcs⟩ := HP.out.vs k hlt'
                    dsimp only at hfa
                    subst hfa
                    obtain ⟨c0, c1, c2⟩ := hcs.ext (Ext.trans HW.out HE.out)
                    clear hcs c1 c2
                    have hwm := (HWF.out.vs _ (List.getElem_mem hlt')).name
                    obtain ⟨f, hf⟩ : ∃ f, p.vs[k] = f := ⟨_, rfl⟩
                    rw [hf] at c0 hwm
                    clear hf hlt'
                    by_cases h2 : 40 < f.name.length
                    · have g2 : (40 : Int) < (f.name.length : Int) := by omega
                      go_wp2
                      go_ret
                      exact someG p w true (fun h => by cases h) (Ext.trans HW.out HE.out)
                    · have g2 : ¬ (40 : Int) < (f.name.length : Int) := by omega
                      go_wp2
                      go_roundw
                      case rel => exact ⟨k + 1, by omega, by go_num, HE.out⟩
                      case measure => simp [intOf]; omega
                  · clear hk
                    go_wp2
                    go_ret
                    exact someG p w false (fun _ => HSUM.out) (Ext.trans HW.out HE.out)

end Go.Proofs.YtfkjokbhnblndaaGreatDoor

namespace Go.Proofs.YtfkjokbhnblndaaGreatDoor
open Go.RowKit Go.Shelf
set_option linter.unusedVariables false
set_option linter.unusedSimpArgs false

theorem encR_frame {p : Pg} {s : List UInt8} (h : encR p = (s, 0)) : Valid p ∧ (pgS p).length ≤ 100000 ∧ s = frame (pgS p) := by
  unfold encR at h
  split at h
  · rename_i hc
    unfold sealR at h
    split at h
    · rename_i hl
      exact ⟨valid_iff.1 hc, hl, (congrArg Prod.fst h).symm⟩
    · have h2 : (4 : Int) = 0 := congrArg Prod.snd h
      omega
  · rename_i h1; exact absurd (congrArg Prod.snd h) h1
theorem mag_mono {a b : Nat} (h : a ≤ b) (hb : b < 256 ^ 9) : (mag a).length ≤ (mag b).length := by
  refine magF_len_of 9 _ a ?_
  have := val_lt (mag b)
  rw [val_mag b hb] at this
  omega
theorem enc_mono {a b : Nat} (h : a ≤ b) (hb : b ≤ 100000) : (enc (a : Int)).length ≤ (enc (b : Int)).length := by
  unfold enc
  rw [if_pos (by omega), if_pos (by omega)]
  simp only [List.length_cons, Int.toNat_natCast]
  have := mag_mono h (by omega)
  omega
theorem frame_same {l m : List UInt8} (hl : l.length ≤ 100000) (hm : m.length ≤ 100000) (h : (frame m).length = (frame l).length) : m.length = l.length := by
  rw [frame_len, frame_len] at h
  rcases Nat.lt_trichotomy m.length l.length with c | c | c
  · have := enc_mono (Nat.le_of_lt c) hl; omega
  · exact c
  · have := enc_mono (Nat.le_of_lt c) hm; omega
theorem opn_fr (l : List UInt8) (h : l.length ≤ 100000) : opn (frame l) = (l, (frame l).length, 0) := by
  have := opn_frame l [] h
  rwa [List.append_nil] at this
theorem no_damage {l : List UInt8} (hl : l.length ≤ 100000) {k : Nat} (hk : k < (frame l).length) {c : UInt8} (hc : c ≠ (frame l)[k]) {p : Pg} (h : encR p = ((frame l).set k c, 0)) : False := by
  obtain ⟨hv, hm, e⟩ := encR_frame h
  generalize pgS p = m at *
  clear h hv
  have hlen : (frame m).length = (frame l).length := by rw [← e]; simp
  have hs := frame_same hl hm hlen
  have hF := frame_len l
  by_cases hkk : k < (enc l.length).length
  · have h1 : ((frame l).set k c)[k]? = some c := by rw [List.getElem?_set_self hk]
    rw [e] at h1
    have h2 : (frame m)[k]? = (frame l)[k]? := by
      unfold frame
      rw [hs, List.getElem?_append_left hkk, List.getElem?_append_left hkk]
    rw [h2, List.getElem?_eq_getElem hk] at h1
    exact hc (Option.some.inj h1).symm
  · obtain ⟨j, rfl⟩ : ∃ j, k = (enc l.length).length + j := ⟨k - (enc l.length).length, by omega⟩
    have h1 := opn_damage l j c hl (by omega) hk hc
    rw [e, opn_fr m hm] at h1
    have h2 : (0 : Int) = 13 := congrArg (fun x => x.2.2) h1
    omega
theorem decR_damage {l : List UInt8} (hl : l.length ≤ 100000) {k : Nat} (hk : k < (frame l).length) {c : UInt8} (hc : c ≠ (frame l)[k]) : (decR ((frame l).set k c)).1 = none := by
  cases h : (decR ((frame l).set k c)).1 with
  | none => rfl
  | some p => exact (no_damage hl hk hc (decR_some h).2).elim
theorem decR_short {l : List UInt8} (hl : l.length ≤ 100000) {m : Nat} (hm : m < (frame l).length) : decR ((frame l).take m) = (none, 11) := by
  unfold decR
  rw [opn_short l m hl hm]
  rfl
theorem decR_more {l : List UInt8} (hl : l.length ≤ 100000) (c : UInt8) : decR (frame l ++ [c]) = (none, 12) := by
  have h := opn_frame l [c] hl
  unfold decR
  rw [h]
  simp
theorem decR_enc {p : Pg} {s : List UInt8} (h : encR p = (s, 0)) : decR s = (some p, 0) := by
  obtain ⟨hv, hl, e⟩ := encR_frame h
  have hg := gPg_w hv
  have ho := opn_fr (pgS p) hl
  rw [← e] at ho
  unfold decR
  rw [ho, if_neg (by simp)]
  dsimp only
  rw [hg]
  dsimp only
  rw [h]
  simp
/-- how long the encoding of a valid program is that is not great -/
theorem flat_sum {α : Type} (f : α → List UInt8) (g : α → Nat) (a b : Nat) : ∀ (l : List α), (∀ x ∈ l, (f x).length ≤ a + g x * b) → (l.flatMap f).length ≤ l.length * a + (l.map g).sum * b
  | [], _ => by simp
  | x :: l, h => by
    have h1 := flat_sum f g a b l (fun y hy => h y (List.mem_cons_of_mem _ hy))
    have h2 := h x (List.mem_cons_self ..)
    rw [List.flatMap_cons, List.length_append, List.length_cons, List.map_cons, List.sum_cons, Nat.add_mul, Nat.add_mul]
    omega
theorem txS_nm {t : List UInt8} (h : isNm t = true) : (txS t).length ≤ 62 := by
  have := (isNm_len h).2
  unfold txS encT
  rw [if_neg (by omega)]
  have := (esc_len t).2
  simp only [List.length_append, List.length_cons, List.length_nil]
  omega
theorem pgS_short {p : Pg} (h : Valid p) (hc : cdL p.fs ≤ 250) : (pgS p).length ≤ 100000 := by
  have hi : ∀ i (hi : i < p.fs.length), ∀ c ∈ p.fs[i].code, (insS c).length ≤ 199 := by
    intro i hi c hc
    obtain ⟨k, hk, rfl⟩ := List.getElem_of_mem hc
    obtain ⟨s, hs⟩ := (h.fn hi).ins hk
    have h18 := args_len h hs.args
    have hsm := ins_sm h hi hk
    have hall : (p.fs[i].code[k]).args.all inR = true := by
      rw [List.all_eq_true]
      exact fun n hn => (inR_iff n).2 (hsm n (by simp [hn])).nR
    have h9 := encs_len _ hall
    have hls : (lsS (p.fs[i].code[k]).args).length ≤ 163 := by
      unfold lsS encL
      rw [if_neg (by omega), if_pos hall]
      simp only [List.length_append, List.length_cons, List.length_nil]
      omega
    have := nuS_len (p.fs[i].code[k]).op; have := nuS_len (p.fs[i].code[k]).a; have := nuS_len (p.fs[i].code[k]).b; have := nuS_len (p.fs[i].code[k]).c
    unfold insS
    simp only [List.length_append]
    omega
  have hf : ∀ x ∈ p.fs, (fnS x).length ≤ 107 + x.code.length * 199 := by
    intro x hx
    obtain ⟨i, hi', rfl⟩ := List.getElem_of_mem hx
    have h1 := txS_nm (h.fn hi').nm
    have h2 := seqS_len insS 199 p.fs[i].code (hi i hi')
    have := nuS_len p.fs[i].params; have := nuS_len p.fs[i].regs; have := nuS_len p.fs[i].prio; have := nuS_len (boN p.fs[i].cl); have := nuS_len p.fs[i].code.length
    unfold fnS seqS
    simp only [List.length_append]
    omega
  have ho : ∀ x ∈ p.os, (obS x).length ≤ 89 := by
    intro x hx
    obtain ⟨i, hi', rfl⟩ := List.getElem_of_mem hx
    have h1 := txS_nm (h.ob hi').nm
    have := nuS_len p.os[i].kind; have := nuS_len p.os[i].size; have := nuS_len p.os[i].oth
    unfold obS
    simp only [List.length_append]
    omega
  have hv : ∀ x ∈ p.vs, (vaS x).length ≤ 89 := by
    intro x hx
    obtain ⟨i, hi', rfl⟩ := List.getElem_of_mem hx
    have h1 := txS_nm (h.va hi').nm
    have := nuS_len p.vs[i].init; have := nuS_len (boN p.vs[i].atomic)
    unfold vaS
    simp only [List.length_append]
    omega
  have h1 := flat_sum fnS (fun f => f.code.length) 107 199 p.fs hf
  have h2 := seqS_len obS _ p.os ho
  have h3 := seqS_len vaS _ p.vs hv
  have h4 : (txS [78, 80, 49]).length ≤ 62 := by decide
  have := nuS_len p.fs.length; have := nuS_len p.os.length; have := nuS_len p.vs.length
  have := h.f2; have := h.o2; have := h.v2
  unfold cdL at hc
  unfold pgS seqS
  simp only [List.length_append]
  omega
end Go.Proofs.YtfkjokbhnblndaaGreatDoor

namespace Go.Proofs.YtfkjokbhnblndaaGreatDoor
open Go.RowKit Go.ChangeShapes Go.WideShapes Go.Deep Go.Joins
set_option linter.unusedVariables false
set_option linter.unusedSimpArgs false

theorem weights_all_mem {H : Type} {P : Program} {e : TypeId} : ∀ {ds : List (DataW H)} {d : DataW H}, d ∈ ds → ∀ n ∈ d.weights P e, n ∈ DataW.weightsAll P e ds
  | d0 :: ds, d, hd, n, hn => by
    simp only [DataW.weightsAll, List.mem_append]
    rcases List.mem_cons.1 hd with rfl | hd
    · exact .inl hn
    · exact .inr (weights_all_mem hd n hn)
  | [], _, hd, _, _ => by cases hd
theorem add_zero {a : Addr} {w : World} {v : Value} (h : w.cell? (a.add 0) = some v) : a = ⟨a.block, a.off, none⟩ := by
  obtain ⟨b, o, s⟩ := a
  have hs : s = none := World.cell?_spot (a := ⟨b, o, s⟩) (by simpa [Addr.add] using h)
  rw [hs]
theorem add_cell {a : Addr} {j : Nat} {w : World} {v : Value} (h : w.cell? (a.add j) = some v) : w.cell? ⟨a.block, a.off + j, none⟩ = some v := by
  by_cases h0 : j = 0
  · subst h0
    have h1 := add_zero h
    rw [h1] at h
    simpa [Addr.add] using h
  · unfold Addr.add at h
    rw [if_neg h0] at h
    exact h
theorem cells_at {w : World} {base : Nat} {a : Addr} {n : Nat} {cs : List Value} (h : w.cells? base a n = some cs) : ∀ j v, j < n → cs[j]? = some v → w.cell? (a.add j) = some v := by
  intro j v hj hv
  obtain ⟨_, _, hat⟩ := World.cells?_some h
  exact (hat j hj).trans hv


/-- a slice that came in, by what its elements are -/
theorem open_sl {H : Type} {enc : TypeId × Value → H} {W : World} {base : Nat} {sp : Nat → Bool} {hd : Bool} {S T : TypeId} {K B : Nat} (hS : Tryz.prog.underlying S = some (.slice T)) (hK : Tryz.prog.cellsOf T = K) (hB : Tryz.prog.bytesOf T = B) (hK0 : 0 < K)
    {R : Type} [Inhabited R] (f : R → List Value) (Good : R → Prop) (hf : ∀ r, (f r).length = K)
    (op : ∀ n cs x, DataW.trod enc Tryz.prog W base sp hd n T cs = some x → (∀ m ∈ x.1.weights Tryz.prog T, m ≤ reachBytes) → ∃ r, cs = f r ∧ Good r)
    {fuel : Nat} {c : Value} {y : DataW H × List MemPlace} (h : DataW.trod enc Tryz.prog W base sp hd fuel S [c] = some y) (hw : ∀ m ∈ y.1.weights Tryz.prog S, m ≤ reachBytes) :
    ∃ (a : Option Addr) (cap : Nat) (l : List R), c = .slice a l.length cap ∧ l.length ≤ cap ∧ l.length * B ≤ reachBytes ∧ ∀ i (hi : i < l.length), Good l[i] ∧ ∃ b o, a = some ⟨b, o, none⟩ ∧ ∀ j u, (f l[i])[j]? = some u → W.cell? ⟨b, o + i * K + j, none⟩ = some u := by
  rcases DataW.trod_slice hS h with ⟨hc, rfl⟩ | ⟨a, len, cap, elems, rest, n', hn', hc, rfl, hb, hl, hm, hel, hat, _, _⟩
  · cases hc
    exact ⟨none, 0, [], rfl, Nat.le_refl _, by simp, fun i hi => absurd hi (Nat.not_lt_zero _)⟩
  · cases hc
    have hwl : (elems.length + rest.length) * B ≤ reachBytes := by
      have := hw ((elems.length + rest.length) * Tryz.prog.bytesOf T) (by simp [DataW.weights, hS])
      rwa [hB] at this
    have hE : ∀ i, i < len → ∃ r : R, Good r ∧ ∀ j u, (f r)[j]? = some u → W.cell? (a.add (i * K + j)) = some u := by
      intro i hi
      have hx := hat i hi
      rw [hK, List.getElem?_eq_getElem (by omega)] at hx
      obtain ⟨cs', hcs, hx⟩ := Option.bind_eq_some_iff.1 hx
      obtain ⟨r, rfl, hr⟩ := op n' cs' _ hx (fun m hm => hw m (by
        simp only [DataW.weights, hS, List.mem_cons, List.mem_append]
        exact .inr (.inl (weights_all_mem (List.mem_map.2 ⟨_, List.getElem_mem (by omega), rfl⟩) m hm))))
      refine ⟨r, hr, fun j u hu => ?_⟩
      have hj : j < K := by rw [← hf r]; exact (List.getElem?_eq_some_iff.1 hu).1
      rw [← Go.Deep.add_add]
      exact cells_at hcs j u hj hu
    obtain ⟨g, hg⟩ := choose_lt hE
    have hll : ((List.range len).map g).length = len := by simp
    refine ⟨some a, cap, (List.range len).map g, by rw [hll], by omega, by rw [hll, ← hel]; exact Nat.le_trans (Nat.mul_le_mul_right _ (Nat.le_add_right _ _)) hwl, fun i hi => ?_⟩
    have hi' : i < len := by rwa [hll] at hi
    have hgi : ((List.range len).map g)[i] = g i := by simp
    rw [hgi]
    obtain ⟨h1, h2⟩ := hg i hi'
    have hne : ∃ u, (f (g 0))[0]? = some u := ⟨_, List.getElem?_eq_getElem (by rw [hf]; exact hK0)⟩
    obtain ⟨u, hu⟩ := hne
    have ha : a = ⟨a.block, a.off, none⟩ := add_zero (by have := (hg 0 (by omega)).2 0 u hu; simpa using this)
    exact ⟨h1, a.block, a.off, congrArg some ha, fun j u hu => by have := add_cell (h2 j u hu); rwa [← Nat.add_assoc] at this⟩

theorem intCells : Tryz.prog.cellsOf 3 = 1 := by kernel_rfl
theorem intBytes : Tryz.prog.bytesOf 3 = 8 := by kernel_rfl
theorem strCells1 : Tryz.prog.cellsOf 9 = 1 := by kernel_rfl
theorem boolCells : Tryz.prog.cellsOf 4 = 1 := by kernel_rfl
theorem i64_of_wf {n : Int} (h : (Lit.int .i64 n).wf = true) : i64 n := i64_bd h
theorem reach_eq : reachBytes ≤ 140737488355328 := by unfold reachBytes; omega
abbrev cIn (r : Ins × Option Addr × Nat) : List Value := [.int .i64 r.1.op, .int .i64 r.1.a, .int .i64 r.1.b, .int .i64 r.1.c, .slice r.2.1 r.1.args.length r.2.2]
def GoodI (W : World) (r : Ins × Option Addr × Nat) : Prop := r.1.wf ∧ IntsAt W r.2.1 r.1.args ∧ r.1.args.length ≤ r.2.2
abbrev cFu (r : Fn × Option Addr × Nat) : List Value := [sV r.1.name, .int .i64 r.1.params, .int .i64 r.1.regs, .int .i64 r.1.prio, .bool r.1.cl, .slice r.2.1 r.1.code.length r.2.2]
def GoodF (W : World) (r : Fn × Option Addr × Nat) : Prop := r.1.wf ∧ InsRow W r.2.1 r.1.code
abbrev cOb' (x : Ob) : List Value := [sV x.name, .int .i64 x.kind, .int .i64 x.size, .int .i64 x.oth]
abbrev cVa' (x : Va) : List Value := [sV x.name, .int .i64 x.init, .bool x.atomic]
theorem insCells : Tryz.prog.cellsOf 50 = 5 := by kernel_rfl
theorem insBytes : Tryz.prog.bytesOf 50 = 56 := by kernel_rfl
theorem insargsCells : Tryz.prog.cellsOf 29 = 1 := by kernel_rfl
set_option maxRecDepth 100000 in
set_option maxHeartbeats 1000000 in
theorem open_ins {H : Type} {enc : TypeId × Value → H} (W : World) (base : Nat) (sp : Nat → Bool) (hd : Bool) : ∀ (n : Nat) (cs : List Value) (x : DataW H × List MemPlace), DataW.trod enc Tryz.prog W base sp hd n 50 cs = some x → (∀ m ∈ x.1.weights Tryz.prog 50, m ≤ reachBytes) →
    ∃ r : Ins × Option Addr × Nat, cs = cIn r ∧ GoodI W r := by
  intro n0 cs x h hw
  obtain ⟨xs, n, hn, rfl, hl, hlen, hf⟩ := DataW.trod_struct Tryz.underlying50 h
  rw [insCells] at hl
  match cs, hl, xs, hlen with
  | [c0, c1, c2, c3, c4], _, [y0, y1, y2, y3, y4], _ =>
    have h0 : DataW.trod enc Tryz.prog W base sp hd n 3 [c0] = some y0 := by simpa [intCells] using hf 0 _ rfl
    have h1 : DataW.trod enc Tryz.prog W base sp hd n 3 [c1] = some y1 := by simpa [intCells] using hf 1 _ rfl
    have h2 : DataW.trod enc Tryz.prog W base sp hd n 3 [c2] = some y2 := by simpa [intCells] using hf 2 _ rfl
    have h3 : DataW.trod enc Tryz.prog W base sp hd n 3 [c3] = some y3 := by simpa [intCells] using hf 3 _ rfl
    have h4 : DataW.trod enc Tryz.prog W base sp hd n 29 [c4] = some y4 := by simpa [insargsCells] using hf 4 _ rfl
    simp only [DataW.weights, Tryz.underlying50, List.map_cons, List.map_nil, DataW.weightsEach, List.mem_append] at hw
    obtain ⟨op, e0, rfl, w0⟩ := DataW.trod_int Tryz.underlying3 h0
    cases e0
    obtain ⟨a, e1, rfl, w1⟩ := DataW.trod_int Tryz.underlying3 h1
    cases e1
    obtain ⟨b, e2, rfl, w2⟩ := DataW.trod_int Tryz.underlying3 h2
    cases e2
    obtain ⟨c, e3, rfl, w3⟩ := DataW.trod_int Tryz.underlying3 h3
    cases e3
    obtain ⟨a4, cap4, args, rfl, cl4, bl4, g4⟩ := open_sl Tryz.underlying29 intCells intBytes (by decide) (fun n : Int => [Value.int .i64 n]) i64 (fun _ => rfl) (fun n cs x h _ => by obtain ⟨k, e, _, hk⟩ := DataW.trod_int Tryz.underlying3 h; exact ⟨k, e, i64_of_wf hk⟩) h4 (fun m hm => hw m (.inr (.inr (.inr (.inr (.inl hm))))))
    replace bl4 := Nat.le_trans bl4 reach_eq
    refine ⟨(⟨op, a, b, c, args⟩, a4, cap4), rfl, ⟨i64_of_wf w0, i64_of_wf w1, i64_of_wf w2, i64_of_wf w3, by show args.length ≤ _; omega, fun n hn => ?_⟩, fun i hi => ?_, cl4⟩
    · obtain ⟨i, hi, rfl⟩ := List.getElem_of_mem hn
      exact (g4 i hi).1
    · obtain ⟨b', o', e, hc⟩ := (g4 i hi).2
      refine ⟨b', o', e, ?_⟩
      have := hc 0 _ rfl
      simpa using this
instance : Inhabited (Ins × Option Addr × Nat) := ⟨(⟨0, 0, 0, 0, []⟩, none, 0)⟩
instance : Inhabited (Fn × Option Addr × Nat) := ⟨(⟨[], 0, 0, 0, false, []⟩, none, 0)⟩
instance : Inhabited Ob := ⟨⟨[], 0, 0, 0⟩⟩
instance : Inhabited Va := ⟨⟨[], 0, false⟩⟩
theorem funCells : Tryz.prog.cellsOf 47 = 6 := by kernel_rfl
theorem funBytes : Tryz.prog.bytesOf 47 = 72 := by kernel_rfl
theorem funcodeCells : Tryz.prog.cellsOf 45 = 1 := by kernel_rfl
set_option maxRecDepth 100000 in
set_option maxHeartbeats 1000000 in
theorem open_fun {H : Type} {enc : TypeId × Value → H} (W : World) (base : Nat) (sp : Nat → Bool) (hd : Bool) : ∀ (n : Nat) (cs : List Value) (x : DataW H × List MemPlace), DataW.trod enc Tryz.prog W base sp hd n 47 cs = some x → (∀ m ∈ x.1.weights Tryz.prog 47, m ≤ reachBytes) →
    ∃ r : Fn × Option Addr × Nat, cs = cFu r ∧ GoodF W r := by
  intro n0 cs x h hw
  obtain ⟨xs, n, hn, rfl, hl, hlen, hf⟩ := DataW.trod_struct Tryz.underlying47 h
  rw [funCells] at hl
  match cs, hl, xs, hlen with
  | [c0, c1, c2, c3, c4, c5], _, [y0, y1, y2, y3, y4, y5], _ =>
    have h0 : DataW.trod enc Tryz.prog W base sp hd n 9 [c0] = some y0 := by simpa [strCells1] using hf 0 _ rfl
    have h1 : DataW.trod enc Tryz.prog W base sp hd n 3 [c1] = some y1 := by simpa [intCells] using hf 1 _ rfl
    have h2 : DataW.trod enc Tryz.prog W base sp hd n 3 [c2] = some y2 := by simpa [intCells] using hf 2 _ rfl
    have h3 : DataW.trod enc Tryz.prog W base sp hd n 3 [c3] = some y3 := by simpa [intCells] using hf 3 _ rfl
    have h4 : DataW.trod enc Tryz.prog W base sp hd n 4 [c4] = some y4 := by simpa [boolCells] using hf 4 _ rfl
    have h5 : DataW.trod enc Tryz.prog W base sp hd n 45 [c5] = some y5 := by simpa [funcodeCells] using hf 5 _ rfl
    simp only [DataW.weights, Tryz.underlying47, List.map_cons, List.map_nil, DataW.weightsEach, List.mem_append] at hw
    obtain ⟨s0, e0, rfl, w0⟩ := DataW.trod_string Tryz.underlying9 h0
    cases e0
    obtain ⟨nm, rfl⟩ := sB_of s0
    rw [sB_data] at hw
    have hn0 : nm.length ≤ 140737488355328 := by
      have := hw nm.length (.inl (by simp [DataW.weights]))
      exact Nat.le_trans this reach_eq
    obtain ⟨pa, e1, rfl, w1⟩ := DataW.trod_int Tryz.underlying3 h1
    cases e1
    obtain ⟨re, e2, rfl, w2⟩ := DataW.trod_int Tryz.underlying3 h2
    cases e2
    obtain ⟨pr, e3, rfl, w3⟩ := DataW.trod_int Tryz.underlying3 h3
    cases e3
    obtain ⟨cl, e4, rfl⟩ := DataW.trod_bool Tryz.underlying4 h4
    cases e4
    obtain ⟨a5, cap5, code, rfl, cl5, bl5, g5⟩ := (open_sl Tryz.underlying45 insCells insBytes (by decide) cIn (GoodI W) (fun _ => rfl) (open_ins W base sp hd)) h5 (fun m hm => hw m (.inr (.inr (.inr (.inr (.inr (.inl hm)))))))
    replace bl5 := Nat.le_trans bl5 reach_eq
    refine ⟨(⟨nm, pa, re, pr, cl, code.map (·.1)⟩, a5, cap5), by simp [cFu], ⟨hn0, i64_of_wf w1, i64_of_wf w2, i64_of_wf w3, by show (code.map _).length ≤ _; rw [List.length_map]; omega, fun c hc => ?_⟩, fun i hi => ?_⟩
    · obtain ⟨r, hr, rfl⟩ := List.mem_map.1 hc
      obtain ⟨i, hi, rfl⟩ := List.getElem_of_mem hr
      exact (g5 i hi).1.1
    · have hi' : i < code.length := by simpa using hi
      obtain ⟨hG, b', o', e, hc⟩ := g5 i hi'
      refine ⟨b', o', code[i].2.1, code[i].2.2, e, ?_, ?_, ?_⟩
      · rw [List.getElem_map]
        exact ⟨hc 0 _ rfl, hc 1 _ rfl, hc 2 _ rfl, hc 3 _ rfl, hc 4 _ rfl⟩
      · rw [List.getElem_map]; exact hG.2.1
      · rw [List.getElem_map]; exact hG.2.2
theorem objCells : Tryz.prog.cellsOf 52 = 4 := by kernel_rfl
theorem objBytes : Tryz.prog.bytesOf 52 = 40 := by kernel_rfl
set_option maxRecDepth 100000 in
set_option maxHeartbeats 1000000 in
theorem open_obj {H : Type} {enc : TypeId × Value → H} (W : World) (base : Nat) (sp : Nat → Bool) (hd : Bool) : ∀ (n : Nat) (cs : List Value) (x : DataW H × List MemPlace), DataW.trod enc Tryz.prog W base sp hd n 52 cs = some x → (∀ m ∈ x.1.weights Tryz.prog 52, m ≤ reachBytes) →
    ∃ r : Ob, cs = cOb' r ∧ r.wf := by
  intro n0 cs x h hw
  obtain ⟨xs, n, hn, rfl, hl, hlen, hf⟩ := DataW.trod_struct Tryz.underlying52 h
  rw [objCells] at hl
  match cs, hl, xs, hlen with
  | [c0, c1, c2, c3], _, [y0, y1, y2, y3], _ =>
    have h0 : DataW.trod enc Tryz.prog W base sp hd n 9 [c0] = some y0 := by simpa [strCells1] using hf 0 _ rfl
    have h1 : DataW.trod enc Tryz.prog W base sp hd n 3 [c1] = some y1 := by simpa [intCells] using hf 1 _ rfl
    have h2 : DataW.trod enc Tryz.prog W base sp hd n 3 [c2] = some y2 := by simpa [intCells] using hf 2 _ rfl
    have h3 : DataW.trod enc Tryz.prog W base sp hd n 3 [c3] = some y3 := by simpa [intCells] using hf 3 _ rfl
    simp only [DataW.weights, Tryz.underlying52, List.map_cons, List.map_nil, DataW.weightsEach, List.mem_append] at hw
    obtain ⟨s0, e0, rfl, w0⟩ := DataW.trod_string Tryz.underlying9 h0
    cases e0
    obtain ⟨nm, rfl⟩ := sB_of s0
    rw [sB_data] at hw
    have hn0 : nm.length ≤ 140737488355328 := by
      have := hw nm.length (.inl (by simp [DataW.weights]))
      exact Nat.le_trans this reach_eq
    obtain ⟨ki, e1, rfl, w1⟩ := DataW.trod_int Tryz.underlying3 h1
    cases e1
    obtain ⟨si, e2, rfl, w2⟩ := DataW.trod_int Tryz.underlying3 h2
    cases e2
    obtain ⟨ot, e3, rfl, w3⟩ := DataW.trod_int Tryz.underlying3 h3
    cases e3
    exact ⟨⟨nm, ki, si, ot⟩, rfl, ⟨hn0, i64_of_wf w1, i64_of_wf w2, i64_of_wf w3⟩⟩
theorem varCells : Tryz.prog.cellsOf 54 = 3 := by kernel_rfl
theorem varBytes : Tryz.prog.bytesOf 54 = 32 := by kernel_rfl
set_option maxRecDepth 100000 in
set_option maxHeartbeats 1000000 in
theorem open_var {H : Type} {enc : TypeId × Value → H} (W : World) (base : Nat) (sp : Nat → Bool) (hd : Bool) : ∀ (n : Nat) (cs : List Value) (x : DataW H × List MemPlace), DataW.trod enc Tryz.prog W base sp hd n 54 cs = some x → (∀ m ∈ x.1.weights Tryz.prog 54, m ≤ reachBytes) →
    ∃ r : Va, cs = cVa' r ∧ r.wf := by
  intro n0 cs x h hw
  obtain ⟨xs, n, hn, rfl, hl, hlen, hf⟩ := DataW.trod_struct Tryz.underlying54 h
  rw [varCells] at hl
  match cs, hl, xs, hlen with
  | [c0, c1, c2], _, [y0, y1, y2], _ =>
    have h0 : DataW.trod enc Tryz.prog W base sp hd n 9 [c0] = some y0 := by simpa [strCells1] using hf 0 _ rfl
    have h1 : DataW.trod enc Tryz.prog W base sp hd n 3 [c1] = some y1 := by simpa [intCells] using hf 1 _ rfl
    have h2 : DataW.trod enc Tryz.prog W base sp hd n 4 [c2] = some y2 := by simpa [boolCells] using hf 2 _ rfl
    simp only [DataW.weights, Tryz.underlying54, List.map_cons, List.map_nil, DataW.weightsEach, List.mem_append] at hw
    obtain ⟨s0, e0, rfl, w0⟩ := DataW.trod_string Tryz.underlying9 h0
    cases e0
    obtain ⟨nm, rfl⟩ := sB_of s0
    rw [sB_data] at hw
    have hn0 : nm.length ≤ 140737488355328 := by
      have := hw nm.length (.inl (by simp [DataW.weights]))
      exact Nat.le_trans this reach_eq
    obtain ⟨ini, e1, rfl, w1⟩ := DataW.trod_int Tryz.underlying3 h1
    cases e1
    obtain ⟨at1, e2, rfl⟩ := DataW.trod_bool Tryz.underlying4 h2
    cases e2
    exact ⟨⟨nm, ini, at1⟩, rfl, ⟨hn0, i64_of_wf w1⟩⟩
theorem prgCells : Tryz.prog.cellsOf 26 = 3 := by kernel_rfl
theorem fsCells : Tryz.prog.cellsOf 22 = 1 := by kernel_rfl
theorem osCells : Tryz.prog.cellsOf 23 = 1 := by kernel_rfl
theorem vsCells : Tryz.prog.cellsOf 24 = 1 := by kernel_rfl
set_option maxRecDepth 100000 in
set_option maxHeartbeats 1000000 in
/-- a program that came in -/
theorem open_pg {H : Type} {enc : TypeId × Value → H} {r : Reach} {b0 : Nat} {W : World} {base : Nat} {sp : Nat → Bool} {hd : Bool} {v : Value} {d : DataW H} {ps : List MemPlace} (hval : Value.okWide Tryz.prog W r b0 26 v)
    (h : DataW.Trod enc Tryz.prog W base sp hd 26 v d ps) (hw : ∀ n ∈ d.weights Tryz.prog 26, n ≤ reachBytes) : ∃ (p : Pg) (A : PA), v = PV p A ∧ PgAt W p A := by
  obtain ⟨cs0, rfl, hsz⟩ := okWide_struct Tryz.underlying26 hval
  obtain ⟨fuel, hf0⟩ := h
  obtain ⟨xs, n, hn, hx, hl, hlen, hf⟩ := DataW.trod_struct Tryz.underlying26 hf0
  obtain ⟨rfl, rfl⟩ := Prod.mk.inj hx
  rw [prgCells] at hl
  obtain ⟨cs⟩ := cs0
  simp only [Value.cells] at hl hf
  match cs, hl, xs, hlen with
  | [c0, c1, c2], _, [y0, y1, y2], _ =>
    have h0 : DataW.trod enc Tryz.prog W base sp hd n 22 [c0] = some y0 := by simpa [fsCells] using hf 0 _ rfl
    have h1 : DataW.trod enc Tryz.prog W base sp hd n 23 [c1] = some y1 := by simpa [osCells] using hf 1 _ rfl
    have h2 : DataW.trod enc Tryz.prog W base sp hd n 24 [c2] = some y2 := by simpa [vsCells] using hf 2 _ rfl
    simp only [DataW.weights, Tryz.underlying26, List.map_cons, List.map_nil, DataW.weightsEach, List.mem_append] at hw
    obtain ⟨fa, fc, fs, rfl, cl0, bl0, g0⟩ := (open_sl Tryz.underlying22 funCells funBytes (by decide) cFu (GoodF W) (fun _ => rfl) (open_fun W base sp hd)) h0 (fun m hm => hw m (.inl hm))
    obtain ⟨oa, oc, os, rfl, cl1, bl1, g1⟩ := (open_sl Tryz.underlying23 objCells objBytes (by decide) cOb' Ob.wf (fun _ => rfl) (open_obj W base sp hd)) h1 (fun m hm => hw m (.inr (.inl hm)))
    obtain ⟨va, vc, vs, rfl, cl2, bl2, g2⟩ := (open_sl Tryz.underlying24 varCells varBytes (by decide) cVa' Va.wf (fun _ => rfl) (open_var W base sp hd)) h2 (fun m hm => hw m (.inr (.inr (.inl hm))))
    replace bl0 := Nat.le_trans bl0 reach_eq
    replace bl1 := Nat.le_trans bl1 reach_eq
    replace bl2 := Nat.le_trans bl2 reach_eq
    refine ⟨⟨fs.map (·.1), os, vs⟩, ⟨fa, fc, oa, oc, va, vc⟩, by simp [PV], ⟨fun i hi => ?_, fun i hi => ?_, fun i hi => ?_, ⟨by show (fs.map _).length ≤ _; rw [List.length_map]; omega, by show os.length ≤ _; omega, by show vs.length ≤ _; omega, fun x hx => ?_, fun x hx => ?_, fun x hx => ?_⟩, by show (fs.map _).length ≤ _; rw [List.length_map]; exact cl0, cl1, cl2⟩⟩
    · have hi' : i < fs.length := by simpa using hi
      obtain ⟨hG, b', o', e, hc⟩ := g0 i hi'
      refine ⟨b', o', fs[i].2.1, fs[i].2.2, e, ?_, ?_⟩
      · show Fn.cells W b' (o' + i * 6) (List.map (fun r : Fn × Option Addr × Nat => r.1) fs)[i] _ _
        rw [List.getElem_map]
        exact ⟨hc 0 _ rfl, hc 1 _ rfl, hc 2 _ rfl, hc 3 _ rfl, hc 4 _ rfl, hc 5 _ rfl⟩
      · show InsRow W _ ((List.map (fun r : Fn × Option Addr × Nat => r.1) fs)[i]).code
        rw [List.getElem_map]; exact hG.2
    · obtain ⟨hG, b', o', e, hc⟩ := g1 i hi
      exact ⟨b', o', e, ⟨hc 0 _ rfl, hc 1 _ rfl, hc 2 _ rfl, hc 3 _ rfl⟩⟩
    · obtain ⟨hG, b', o', e, hc⟩ := g2 i hi
      exact ⟨b', o', e, ⟨hc 0 _ rfl, hc 1 _ rfl, hc 2 _ rfl⟩⟩
    · obtain ⟨r, hr, rfl⟩ := List.mem_map.1 hx
      obtain ⟨i, hi, rfl⟩ := List.getElem_of_mem hr
      exact (g0 i hi).1.1
    · obtain ⟨i, hi, rfl⟩ := List.getElem_of_mem hx
      exact (g1 i hi).1
    · obtain ⟨i, hi, rfl⟩ := List.getElem_of_mem hx
      exact (g2 i hi).1
end Go.Proofs.YtfkjokbhnblndaaGreatDoor

namespace Go.Proofs.YtfkjokbhnblndaaGreatDoor
open Go.RowKit Go.ChangeShapes Go.WideShapes Go.Deep Go.Joins
set_option linter.unusedVariables false
set_option linter.unusedSimpArgs false

set_option maxRecDepth 100000 in
theorem open_free {H : Type} {enc : TypeId × Value → H} {W : World} {base : Nat} {sp : Nat → Bool} {hd : Bool} {p : Pg} {A : PA} {d : DataW H} {ps : List MemPlace}
    (h : DataW.Trod enc Tryz.prog W base sp hd 26 (PV p A) d ps) (hfz : ∀ b off, MemPlace.cell b off ∈ ps → W.frozen? ⟨b, off, none⟩ = false) : PgFree W p A := by
  obtain ⟨fuel, hf0⟩ := h
  obtain ⟨xs, n, hn, hx, hl, hlen, hf⟩ := DataW.trod_struct Tryz.underlying26 hf0
  obtain ⟨rfl, rfl⟩ := Prod.mk.inj hx
  rw [prgCells] at hl
  simp only [PV, Value.cells] at hl hf
  match xs, hlen with
  | [y0, y1, y2], _ =>
    have h0 : DataW.trod enc Tryz.prog W base sp hd n 22 [.slice A.fa p.fs.length A.fc] = some y0 := by simpa [fsCells] using hf 0 _ rfl
    have h2 : DataW.trod enc Tryz.prog W base sp hd n 24 [.slice A.va p.vs.length A.vc] = some y2 := by simpa [vsCells] using hf 2 _ rfl
    refine ⟨fun b o e i hi => hfz _ _ (List.mem_flatMap.2 ⟨y0, by simp, ?_⟩), fun b o e i hi => hfz _ _ (List.mem_flatMap.2 ⟨y2, by simp, ?_⟩)⟩
    · rcases DataW.trod_slice Tryz.underlying22 h0 with ⟨hc, _⟩ | ⟨a, len, cap, elems, rest, n', hn', hc, rfl, hb, hl', hm, hel, hat, _, _⟩
      · simp at hc
        rw [e] at hc
        exact absurd hc.1 (by simp)
      · simp at hc
        obtain ⟨ha, hlen, _⟩ := hc
        rw [e] at ha
        cases ha
        refine List.mem_append.2 (.inl (List.mem_map.2 ⟨i * 6 + 4, List.mem_range.2 ?_, ?_⟩))
        · rw [funCells]; omega
        · show MemPlace.cell b (o + (i * 6 + 4)) = _
          rw [Nat.add_assoc]
    · rcases DataW.trod_slice Tryz.underlying24 h2 with ⟨hc, _⟩ | ⟨a, len, cap, elems, rest, n', hn', hc, rfl, hb, hl', hm, hel, hat, _, _⟩
      · simp at hc
        rw [e] at hc
        exact absurd hc.1 (by simp)
      · simp at hc
        obtain ⟨ha, hlen, _⟩ := hc
        rw [e] at ha
        cases ha
        refine List.mem_append.2 (.inl (List.mem_map.2 ⟨i * 3 + 2, List.mem_range.2 ?_, ?_⟩))
        · rw [varCells]; omega
        · show MemPlace.cell b (o + (i * 3 + 2)) = _
          rw [Nat.add_assoc]
end Go.Proofs.YtfkjokbhnblndaaGreatDoor

namespace Go.Proofs.YtfkjokbhnblndaaGreatDoor
open Go.RowKit Go.Shelf
attribute [local go_sem] sB_extract
set_option linter.unusedVariables false
set_option linter.unusedSimpArgs false

theorem xor_u8 (x b : UInt8) : bits BinOp.xor .u8 (x.toNat : Int) (b.toNat : Int) = (((x ^^^ b).toNat : Nat) : Int) := by
  rw [u8_xor_nat _ _ x.toNat_lt b.toNat_lt, UInt8.toNat_xor]
theorem xor_ne (x b : UInt8) (hb : b ≠ 0) : x ^^^ b ≠ x := by
  intro h
  apply hb
  have : x ^^^ (x ^^^ b) = x ^^^ x := by rw [h]
  simpa [← UInt8.xor_assoc] using this
/-- an encoding that fails is Check's error -/
theorem encR_bad {p : Pg} (hc : cdL p.fs ≤ 250) (h : (encR p).2 ≠ 0) : encR p = ([], ckPg p) ∧ ckPg p ≠ 0 := by
  unfold encR at h ⊢
  by_cases h0 : ckPg p = 0
  · rw [if_pos h0] at h
    unfold sealR at h
    rw [if_pos (pgS_short (valid_iff.1 h0) hc)] at h
    exact absurd rfl h
  · rw [if_neg h0]; exact ⟨rfl, h0⟩
/-- Decode, whatever it gives -/
theorem Decode_gen (s : List UInt8) (w : World) (hs : s.length ≤ 10000000) (hm : MaxL w) : Calls Tryz.prog 14 #[sV s] w fun e w' => ∃ a1 n1 c1 a2 n2 c2 a3 n3 c3, e = .returned (.tuple #[.agg #[.slice a1 n1 c1, .slice a2 n2 c2, .slice a3 n3 c3], .int .i64 (decR s).2]) ∧ Ext w w' := by
  refine (Decode_any s w hs hm).mono ?_
  intro e w' h
  unfold DecP at h
  obtain ⟨hE, h⟩ := h
  cases hd : (decR s).1 with
  | none => rw [hd] at h; exact ⟨_, _, _, _, _, _, _, _, _, h, hE⟩
  | some p =>
    rw [hd] at h
    obtain ⟨A, h, _⟩ := h
    have h0 : (decR s).2 = 0 := by rw [(decR_some hd).1]
    rw [h0]
    exact ⟨_, _, _, _, _, _, _, _, _, h, hE⟩

set_option maxRecDepth 100000 in
set_option maxHeartbeats 8000000 in
theorem programRoundTrip_walk (p : Pg) (A : PA) (a1 a2 : Int) (w : World) (h : PgAt w p A) (hF : PgFree w p A) (w1 : (Lit.int .u16 a1).wf = true) (w2 : (Lit.int .u8 a2).wf = true) (hT : TabW w) (hM : MaxL w) :
    Gives Tryz.prog 5 #[PV p A, .int .u16 a1, .int .u8 a2] w (.bool true) := by
  have g1 : 0 ≤ a1 ∧ a1 ≤ 65535 := by simpa [Lit.wf, IntKind.min, IntKind.max, IntKind.signed, IntKind.bits] using w1
  have g2 : 0 ≤ a2 ∧ a2 ≤ 255 := by simpa [Lit.wf, IntKind.min, IntKind.max, IntKind.signed, IntKind.bits] using w2
  obtain ⟨t, rfl⟩ := Int.eq_ofNat_of_zero_le g1.1
  obtain ⟨b, rfl⟩ : ∃ b : UInt8, a2 = (b.toNat : Int) := ⟨UInt8.ofNat a2.toNat, by simp; omega⟩
  have KA := Lib.hid (fun W (hW : Ext w W) => awake_any W (hT.below hW))
  have KG := Lib.hid (fun W (hW : Ext w W) => Great2_any p A W (h.ext hW))
  have KE := Lib.hid (fun W (hW : Ext w W) => Encode_any p A W (h.ext hW) (hF.ext h hW) (hM.below hM.lt hW))
  have KC := Lib.hid (fun W (hW : Ext w W) => Check_any p A W (h.ext hW))
  have KS := Lib.hid (fun W (hW : Ext w W) B (hB : PgAt W p B) => sameP_any p p A B W (h.ext hW) hB true (by simp))
  have HM := Lib.hid (fun W (hW : Ext w W) => hM.below hM.lt hW)
  have HX0 := Lib.hid (ext_alloc (Below.refl _ w) (.cells #[.slice A.fa p.fs.length A.fc, .slice A.oa p.os.length A.oc, .slice A.va p.vs.length A.vc] 26))
  have HB0 := Lib.hid (alloc_here w (.cells #[.slice A.fa p.fs.length A.fc, .slice A.oa p.os.length A.oc, .slice A.va p.vs.length A.vc] 26))
  have hbl := b.toNat_lt
  clear h hF hT hM w1 w2
  unfold Gives
  dsimp only [PV] at KG KE KC KS ⊢
  go_enter Tryz.func5, Tryz.ntmps5
  go_wp2_with fail
  refine (show Calls _ _ _ _ _ from KG.out _ HX0.out).mono ?_
  rintro _ w1 ⟨gb, rfl, hcd, hE⟩
  have HX1 := Lib.hid (Ext.trans HX0.out hE)
  have HB1 := Lib.hid ((hE.below.block _ (lt_of_block HB0.out)).trans HB0.out)
  clear hE
  cases gb with
  | true =>
    clear hcd
    go_wp2_with fail
    refine (KA.out _ HX1.out).mono ?_
    intro w2 hE
    have HX2 := Lib.hid (Ext.trans HX1.out hE)
    clear hE
    go_wp2
    go_ret
    exact ⟨rfl, HX2.out⟩
  | false =>
    have hcd := hcd rfl
    have y0 := cell_of (i := 0) HB1.out rfl
    have y1 := cell_of (i := 1) HB1.out rfl
    have y2 := cell_of (i := 2) HB1.out rfl
    have HEB := Lib.hid (fun he => encR_bad (p := p) hcd he)
    have HEF := Lib.hid (fun s (he : encR p = (s, 0)) => encR_frame he)
    have HDE := Lib.hid (fun s (he : encR p = (s, 0)) => decR_enc he)
    clear hcd
    generalize encR p = ER at *
    obtain ⟨s, er⟩ := ER
    dsimp only at KE
    go_wp2_with fail
    refine (show Gives _ _ _ _ _ from KE.out _ HX1.out).mono ?_
    intro w2 hE
    have HX2 := Lib.hid (Ext.trans HX1.out hE)
    have HB2 := Lib.hid ((hE.block _ (lt_of_block HB1.out)).trans HB1.out)
    clear hE y0 y1 y2
    have y0 := cell_of (i := 0) HB2.out rfl
    have y1 := cell_of (i := 1) HB2.out rfl
    have y2 := cell_of (i := 2) HB2.out rfl
    by_cases he : er = 0
    · subst he
      obtain ⟨hv, hln, hs⟩ := HEF.out s rfl
      have hD := HDE.out s rfl
      clear hv
      generalize pgS p = l at *
      have hF := frame_len l
      have h9 := enc_len9 l hln
      rw [← hs] at hF
      have hsl : s.length ≤ 200000 := by omega
      have hs0 : 0 < s.length := by omega
      have hk : t % s.length < s.length := Nat.mod_lt _ hs0
      have hD3 : decR (s.take (t % s.length)) = (none, 11) := by rw [hs]; exact decR_short hln (by rw [← hs]; exact hk)
      have hD4 : decR (s ++ [120]) = (none, 12) := by rw [hs]; exact decR_more hln 120
      obtain ⟨e2, he2, hz⟩ : ∃ e2, (decR (s.set (t % s.length) (s[t % s.length] ^^^ b))).2 = e2 ∧ (e2 == 0) = ((b.toNat : Int) == 0) := by
        refine ⟨_, rfl, ?_⟩
        by_cases hb : b = 0
        · subst hb
          have : s.set (t % s.length) (s[t % s.length] ^^^ 0) = s := by simp
          rw [this, hD]; rfl
        · have h1 : (decR (s.set (t % s.length) (s[t % s.length] ^^^ b))).1 = none := by
            subst hs
            exact decR_damage hln hk (xor_ne _ _ hb)
          have h2 := decR_none h1
          have h3 : ((b.toNat : Int) == 0) = false := by
            rw [beq_eq_false_iff_ne]
            intro e
            exact hb (UInt8.toNat_inj.1 (by simpa using e))
          rw [h3, beq_eq_false_iff_ne]
          exact h2
      have KD1 := Lib.hid (fun W (hW : Ext w W) => (by have := Decode_any s W (by omega) (HM.out W hW); rw [hD] at this; exact this : Calls Tryz.prog 14 #[sV s] W (DecP W (some p, 0))))
      have KD2 := Lib.hid (fun W (hW : Ext w W) => (by have := Decode_gen (s.set (t % s.length) (s[t % s.length] ^^^ b)) W (by simp; omega) (HM.out W hW); rw [he2] at this; exact this : Calls Tryz.prog 14 #[sV (s.set (t % s.length) (s[t % s.length] ^^^ b))] W fun e w' => ∃ a1 n1 c1 a2 n2 c2 a3 n3 c3, e = .returned (.tuple #[.agg #[.slice a1 n1 c1, .slice a2 n2 c2, .slice a3 n3 c3], .int .i64 e2]) ∧ Ext W w'))
      have KD3 := Lib.hid (fun W (hW : Ext w W) => (by have := Decode_gen (s.take (t % s.length)) W (by simp; omega) (HM.out W hW); rw [hD3] at this; exact this : Calls Tryz.prog 14 #[sV (s.take (t % s.length))] W fun e w' => ∃ a1 n1 c1 a2 n2 c2 a3 n3 c3, e = .returned (.tuple #[.agg #[.slice a1 n1 c1, .slice a2 n2 c2, .slice a3 n3 c3], .int .i64 11]) ∧ Ext W w'))
      have KD4 := Lib.hid (fun W (hW : Ext w W) => (by have := Decode_gen (s ++ [120]) W (by simp; omega) (HM.out W hW); rw [hD4] at this; exact this : Calls Tryz.prog 14 #[sV (s ++ [120])] W fun e w' => ∃ a1 n1 c1 a2 n2 c2 a3 n3 c3, e = .returned (.tuple #[.agg #[.slice a1 n1 c1, .slice a2 n2 c2, .slice a3 n3 c3], .int .i64 12]) ∧ Ext W w'))
      have hl0 : ((s.length : Int) == 0) = false := by rw [beq_eq_false_iff_ne]; omega
      have hm : ((t : Nat) : Int).tmod ((s.length : Nat) : Int) = ((t % s.length : Nat) : Int) := by rw [Int.tmod_eq_emod_of_nonneg (by omega)]; omega
      have hw := wrapi (x := (t : Int)) (by omega) (by omega)
      have hap : sB s ++ sB [120] = sB (s ++ [120]) := by rw [sB_app]
      have hsz := sB_size s
      clear hD hD3 hD4 he2 hF h9 hs hln HEB HEF HDE
      go_wp2_with fail
      refine (show Calls _ _ _ _ _ from KD1.out _ HX2.out).mono ?_
      rintro _ w3 ⟨hE, A', rfl, hA', _⟩
      have HX3 := Lib.hid (Ext.trans HX2.out hE)
      have HB3 := Lib.hid ((hE.below.block _ (lt_of_block HB2.out)).trans HB2.out)
      have HA3 := Lib.hid hA'
      clear hE hA' y0 y1 y2
      have KS3 := Lib.hid (fun W (hW : Ext w W) (hB : PgAt W p A') => KS.out W hW A' hB)
      dsimp only [PV] at KS3 ⊢
      have HY3 := Lib.hid (ext_alloc (Below.refl _ w3) (.cells #[.slice A'.fa p.fs.length A'.fc, .slice A'.oa p.os.length A'.oc, .slice A'.va p.vs.length A'.vc] 26))
      have y0 := cell_of (i := 0) HB3.out rfl
      have y1 := cell_of (i := 1) HB3.out rfl
      have y2 := cell_of (i := 2) HB3.out rfl
      have hlb := lt_of_block HB3.out
      go_wp2_with fail
      refine (show Gives _ _ _ _ _ from KS3.out _ (Ext.trans HX3.out HY3.out) (HA3.out.ext HY3.out)).mono ?_
      intro w4 hE
      have HX4 := Lib.hid (Ext.trans (Ext.trans HX3.out HY3.out) hE)
      clear hE y0 y1 y2 hlb
      go_wp2_with (refine wpList_strbytes rfl 9 42 5 _ rfl s rfl Tryz.underlying9 Tryz.underlying42 Tryz.underlying5 ?_; intro W g cap hW hg hz2 hBy; have hc := (hBy (t % s.length) hk).1; have hf := (hBy (t % s.length) hk).2; have hconv := (hBy.set (t % s.length) (s[t % s.length] ^^^ b) hk).conv Tryz.underlying42 Tryz.underlying5 Tryz.underlying9 s.length cap (by simp); rw [← xor_u8] at hconv; clear hBy)
      clear hc hf hconv
      have HX5 := Lib.hid (show Ext w (W.setCell ⟨g, t % s.length, none⟩ (.int .u8 (bits BinOp.xor IntKind.u8 (s[t % s.length].toNat : Int) (b.toNat : Int)))) from Below.trans HX4.out ((Below.trans (hW.below.mono HX4.out.size) ((Below.refl _ W).setCell (p := ⟨g, t % s.length, none⟩) (Nat.le_trans HX4.out.size hg) _))))
      clear hW hg hz2
      refine (show Calls _ _ _ _ _ from KD2.out _ HX5.out).mono ?_
      rintro _ w6 ⟨a1, n1, c1, a2, n2, c2, a3, n3, c3, rfl, hE⟩
      have HX6 := Lib.hid (Ext.trans HX5.out hE)
      clear hE
      have HY6 := Lib.hid (ext_alloc (Below.refl _ w6) (.cells #[.slice a1 n1 c1, .slice a2 n2 c2, .slice a3 n3 c3] 26))
      go_wp2_with fail
      refine (show Calls _ _ _ _ _ from KD3.out _ (Ext.trans HX6.out HY6.out)).mono ?_
      rintro _ w7 ⟨a4, n4, c4, a5, n5, c5, a6, n6, c6, rfl, hE⟩
      have HX7 := Lib.hid (Ext.trans (Ext.trans HX6.out HY6.out) hE)
      clear hE
      have HY7 := Lib.hid (ext_alloc (Below.refl _ w7) (.cells #[.slice a4 n4 c4, .slice a5 n5 c5, .slice a6 n6 c6] 26))
      go_wp2_with fail
      refine (show Calls _ _ _ _ _ from KD4.out _ (Ext.trans HX7.out HY7.out)).mono ?_
      rintro _ w8 ⟨a7, n7, c7, a8, n8, c8, a9, n9, c9, rfl, hE⟩
      have HX8 := Lib.hid (Ext.trans (Ext.trans HX7.out HY7.out) hE)
      clear hE
      have HY8 := Lib.hid (ext_alloc (Below.refl _ w8) (.cells #[.slice a7 n7 c7, .slice a8 n8 c8, .slice a9 n9 c9] 26))
      go_wp2_with fail
      refine (KA.out _ (Ext.trans HX8.out HY8.out)).mono ?_
      intro w9 hE
      have HX9 := Lib.hid (Ext.trans (Ext.trans HX8.out HY8.out) hE)
      clear hE
      go_wp2
      go_ret
      exact ⟨rfl, HX9.out⟩
    · obtain ⟨hb1, hb2⟩ := HEB.out he
      cases hb1
      have g3 : (ckPg p == 0) = false := by simpa using hb2
      have g4 : (ckPg p != 0) = true := by simpa using hb2
      clear he hb2
      go_wp2_with fail
      refine (show Gives _ _ _ _ _ from KC.out _ HX2.out).mono ?_
      intro w3 hE
      have HX3 := Lib.hid (Ext.trans HX2.out hE)
      clear hE
      go_wp2_with fail
      refine (KA.out _ HX3.out).mono ?_
      intro w4 hE
      have HX4 := Lib.hid (Ext.trans HX3.out hE)
      clear hE
      go_wp2
      go_ret
      exact ⟨rfl, HX4.out⟩
end Go.Proofs.YtfkjokbhnblndaaGreatDoor

namespace Go.Proofs.YtfkjokbhnblndaaGreatDoor.programRoundTrip
open Go.ChangeShapes Go.WideShapes Go.ChangeAt Go.RowKit
open Go.ChangeMaps (open_string shut_string)
set_option linter.unusedVariables false

theorem own : ownKnob Tryz.prog.godebug = none := by kernel_rfl
theorem laidOut : laidOutB Tryz.prog = true := by kernel_rfl
/-- the cells of a datum of plain values -/
def flat : Nat → DataW Unit → List Value
  | _, .lit l => [l.value]
  | n + 1, .agg ps => ps.flatMap (flat n)
  | _, _ => []
/-- a world for the witness: the settled one, the listed tables holding what the text lays -/
def lay (d : DataW Unit) : Obj → Obj
  | .cells _ t frozen => .cells (flat 4 d).toArray t frozen
  | o => o
noncomputable def laidWorld (os : Os) : World :=
  { World.holding Tryz.prog os ⟨#[], #[], []⟩ with heap := ((((World.holding Tryz.prog os ⟨#[], #[], []⟩).heap.modify 1 (lay Rows.laid_math_bits_deBruijn32tab)).modify 2 (lay Rows.laid_math_bits_deBruijn64tab)).modify 0 (lay Rows.laid_internal_strconv_uint64pow10)) }
theorem laid_met (os : Os) : laidMet Tryz.prog Rows.programRoundTripRow.laid ((laidWorld os).forCall (fun _ _ => 0) ⟨#[], #[.agg #[.slice none 0 0, .slice none 0 0, .slice none 0 0], .int .u16 0, .int .u8 0], []⟩).memory :=
  laidMet_of_run' 8 (by kernel_rfl) (by kernel_rfl)
theorem reads (os : Os) {H : Type} (enc : TypeId × Value → H) : ∃ places, DataW.whole enc Tryz.prog ((laidWorld os).forCall (fun _ _ => 0) ⟨#[], #[.agg #[.slice none 0 0, .slice none 0 0, .slice none 0 0], .int .u16 0, .int .u8 0], []⟩).memory Tryz.f5.params.toList Rows.programRoundTripSpec.vars false (#[.agg #[.slice none 0 0, .slice none 0 0, .slice none 0 0], .int .u16 0, .int .u8 0] : Array Value).toList 8 = some ([.agg [.nil, .nil, .nil], .lit (.int .u16 0), .lit (.int .u8 0)], [], places) :=
  ⟨[], by kernel_rfl⟩
theorem shape (W : World) (h : W.ShapedOpen Tryz.prog) : MaxL W := cell_of_shapedOpen_int (zero := #[.int .i64 0]) h (of_decide_eq_true (by kernel_rfl)) (by kernel_rfl) (by kernel_rfl) (by kernel_rfl) (by kernel_rfl) Tryz.underlying3

theorem tab (W : World) (h : laidMetH Tryz.prog Rows.programRoundTripRow.laid W) : TabW W := by
  have h1 : laidMet Tryz.prog Rows.programRoundTripRow.laid W := h
  exact Lib.tabIs_of_head (g := 0) (t := 227) (e := 190) (n := 20) (by kernel_rfl) (by kernel_rfl) Tryz.underlying227 Tryz.underlying190 (by kernel_rfl) (by kernel_rfl) h1.tail.tail
set_option maxRecDepth 100000 in
set_option maxHeartbeats 4000000 in
theorem contract (H : Type) (enc : TypeId × Value → H) (W : World) (base : Nat) (args : Array Value) (ds gs : List (DataW H)) (before : List MemPlace)
    (hval0 : ∀ (j : Nat) t v, Tryz.f5.params[j]? = some t → args[j]? = some v → Value.okWide Tryz.prog W .any base t v)
    (hW : DataW.Whole enc Tryz.prog Tryz.f5.params.toList Rows.programRoundTripSpec.vars false W args.toList ds gs before) (hz : (DataW.weightsEach Tryz.prog (Tryz.f5.params.toList ++ (OpenSpec.ofChange Rows.programRoundTripSpec).bare.plain.varTypes Tryz.prog) (ds ++ gs)).all (· ≤ reachBytes) = true) (hL : laidMetH Tryz.prog Rows.programRoundTripRow.laid W) (hm : MaxL W) :
    Calls Tryz.prog 5 args W fun e W' => ∃ v, e = .returned v ∧ Rows.programRoundTripSpec.post enc Tryz.prog Tryz.f5 false true false false W args v W' := by
  have hval := hval0
  have hW' := hW
  obtain ⟨p, q, hA0, hV, rfl, hfz, hnd⟩ := hW
  have hA : DataW.TrodAll enc Tryz.prog W 0 (fun _ => true) true Tryz.f5.params.toList args.toList ds p := hA0
  rw [Tryz.params5] at hA hval
  obtain ⟨v0, vs0, d0, ds0, p0, q0, hargs, rfl, rfl, h0, r0⟩ := trodAll_cons hA
  obtain ⟨v1, vs1, d1, ds1, p1, q1, rfl, rfl, rfl, h1, r1⟩ := trodAll_cons r0
  obtain ⟨v2, vs2, d2, ds2, p2, q2, rfl, rfl, rfl, h2, r2⟩ := trodAll_cons r1
  obtain ⟨rfl, rfl, rfl⟩ := trodAll_nil r2
  obtain rfl : args = #[v0, v1, v2] := by cases args; simp_all
  obtain ⟨rfl, rfl⟩ := trodVars_none hV
  have k0 := h0
  have lt0 : ∀ x ∈ p0, x.block < W.heap.size := by obtain ⟨m, hm⟩ := k0; exact DataW.trod_lt m _ _ _ hm
  obtain ⟨e0, ae0, rfl, w0⟩ := open_pg (hval 0 26 v0 rfl rfl) h0 (fun n hn => by have := List.all_eq_true.1 hz n (DataW.weights_mem_each (j := 0) rfl rfl n hn); simpa using this)
  have fr0 := open_free k0 (fun b off hm => hfz b off (by simp [hm]))
  obtain ⟨a1, rfl, rfl, rfl, w1⟩ := open_int Tryz.underlying40 (hval 1 40 v1 rfl rfl) h1
  obtain ⟨a2, rfl, rfl, rfl, w2⟩ := open_int Tryz.underlying5 (hval 2 5 v2 rfl rfl) h2
  clear hA0 hval0 hz
  refine (programRoundTrip_walk e0 ae0 a1 a2 W w0 fr0 w1 w2 (tab W hL) hm).mono fun W' bel => ?_
  exact ⟨_, rfl, _, _, _, [], _, [], hW', trodAll_mk1 (shut_bool Tryz.underlying4 _), (trodAll_cons_mk (Below.trod laidOut (by kernel_rfl) (of_decide_eq_true (by kernel_rfl)) k0 bel lt0) (trodAll_cons_mk (shut_int Tryz.underlying40 w1) (trodAll_cons_mk (shut_int Tryz.underlying5 w2) trodAll_mk0))), rfl, bel.frame _, fun h => by cases h⟩

set_option maxRecDepth 100000 in
theorem lifted (os : Os) (started : os.Started) (H : Type) (enc : TypeId × Value → H) (F : Stop.Interp) :
    ReturnsInHanded {} Tryz.checked os 5 .any ((OpenSpec.ofChange Rows.programRoundTripSpec).preRow enc Tryz.prog Tryz.f5 Rows.programRoundTripRow.domain false Rows.programRoundTripRow.laid) (((OpenSpec.ofChange Rows.programRoundTripSpec).at F).post enc Tryz.prog Tryz.f5 false true false false) := by
  obtain ⟨places, hx⟩ := reads os enc
  refine returnsInHanded_of_row (C := Tryz.checked) (s := OpenSpec.ofChange Rows.programRoundTripSpec) own started (by kernel_rfl) Tryz.func5
    (witness_row_at (enc := enc) (C := Tryz.checked) false (laidWorld os) #[.agg #[.slice none 0 0, .slice none 0 0, .slice none 0 0], .int .u16 0, .int .u8 0] rfl (by kernel_rfl) (by kernel_rfl) (by kernel_rfl)
      (OpenSpec.preRow_of_cond 8 hx (by kernel_rfl) (fun k hk => by cases hk) (by kernel_rfl) (laid_met os))) ?_
  intro W base args ds gs before hval hW _ _ hz hL hsh _
  exact contract H enc W base args ds gs before hval hW hz hL (shape W hsh)

theorem said : Rows.ProgramRoundTripSaid :=
  OpenClaim.holds_of_cond 5 Tryz.f5 rfl rfl rfl rfl rfl rfl rfl ⟨rfl, rfl, rfl, rfl, rfl⟩ rfl rfl rfl rfl rfl (by kernel_rfl) Tryz.func5 (by kernel_rfl)
    (of_decide_eq_true (by kernel_rfl)) (by unfold Func.isWrapper; first | (rw [if_pos (by decide +kernel)]; kernel_rfl) | (rw [if_neg (by decide +kernel)]; exact ⟨rfl, rfl⟩))
    (fun os started H enc _ F => by rw [OpenClaim.pre_eq_preRow]; exact lifted os started H enc F)

theorem plain (f : FuncId) (fn : Func) (hf : Tryz.pinned.checked.prog.funcNamed "nursery/nurserylaw13.ProgramRoundTrip" = some f) (hfn : Tryz.pinned.checked.prog.funcs[f]? = some fn) :
    true = Tryz.pinned.checked.prog.looks [] ∧ ∀ (j : Nat) t, fn.params[j]? = some t → Tryz.pinned.checked.prog.wantsStandIn t = false := by
  obtain rfl : f = 5 := Option.some.inj ((show Tryz.prog.funcNamed "nursery/nurserylaw13.ProgramRoundTrip" = some 5 by kernel_rfl).symm.trans hf) |>.symm
  obtain rfl : fn = Tryz.f5 := (Option.some.inj (Tryz.func5.symm.trans hfn)).symm
  refine ⟨by kernel_rfl, fun j t ht => ?_⟩
  rw [Tryz.params5] at ht
  rcases j with _ | _ | _ | j
  · obtain rfl : t = 26 := by simpa using ht.symm
    exact (show Tryz.prog.wantsStandIn 26 = false by kernel_rfl)
  · obtain rfl : t = 40 := by simpa using ht.symm
    exact (show Tryz.prog.wantsStandIn 40 = false by kernel_rfl)
  · obtain rfl : t = 5 := by simpa using ht.symm
    exact (show Tryz.prog.wantsStandIn 5 = false by kernel_rfl)
  · simp at ht

/-- the statement -/
theorem proved : Rows.ProgramRoundTripCardSaid :=
  Claim7.holds_tied_plain_at .later [] _ _ _ _ said (fun _ h => by cases h) (by kernel_rfl) (fun _ h => by cases h) programRoundTrip_row_tie rfl ⟨rfl, rfl⟩ (by kernel_rfl) rfl plain (by kernel_rfl)
#print axioms proved
end Go.Proofs.YtfkjokbhnblndaaGreatDoor.programRoundTrip

