/- The statement LexerGroupingCardSaid: for every input the law returns true, and the arguments read as before; the tables of the library that it lists are tied to the text. The frame round the walk of the law. (With it: LexerGrouping, plain: two operators in a row.; The law's operators.; LexerGrouping: its ways.) -/
import Derived.Stop.LaidErr
import Derived.Test.YtmokejjndkibhaaDoorCards
import Derived.Test.YtmokejjndkibhaaDoorTie
import Derived.WalkKit
import Derived.ProofKit
import Derived.OpenShut
import Derived.ShutString
import Derived.ChangeOld
import Derived.Below
import Derived.Deep.DeepHandedRow
import Derived.Lib.LaidTab
import Derived.Shelf.Vars
import Derived.Test.YtmokejjndkibhaaDoorPart10

namespace Go.Proofs.YtmokejjndkibhaaDoor
open Go.RowKit Ex
set_option linter.unusedVariables false
set_option linter.unusedSimpArgs false

def grL : List (List UInt8 × Nat × Nat) := [([43], 3, 4), ([45], 4, 4), ([42], 5, 5), ([47], 6, 5), ([37], 7, 5), ([61, 61], 8, 3), ([33, 61], 9, 3), ([60], 10, 3), ([60, 61], 11, 3), ([62], 12, 3), ([62, 61], 13, 3), ([38, 38], 14, 2), ([124, 124], 15, 1)]
def grS (x y : List UInt8) : List UInt8 := [97] ++ x ++ [98] ++ y ++ [99]
def grT (x y : List UInt8) : List Tk := [⟨1, [97], 0, 0⟩, ⟨3, x, 0, 1⟩, ⟨1, [98], 0, 1 + x.length⟩, ⟨3, y, 0, 2 + x.length⟩, ⟨1, [99], 0, 2 + x.length + y.length⟩, ⟨0, [], 0, 3 + x.length + y.length⟩]
abbrev grA : Ex := namX [97]
abbrev grB : Ex := namX [98]
abbrev grC : Ex := namX [99]
def grR (x y : List UInt8 × Nat × Nat) : Ex × Int × Int :=
  if x.2.2 = 3 ∧ y.2.2 = 3 then (exZ, 2 + (x.1.length : Int), 3)
  else if x.2.2 < y.2.2 then (binX x.2.1 grA (binX y.2.1 grB grC), 0, 0) else (binX y.2.1 (binX x.2.1 grA grB) grC, 0, 0)
set_option maxRecDepth 100000 in
theorem gr_toks : ∀ x ∈ grL, ∀ y ∈ grL, toksR (grS x.1 y.1) = (grT x.1 y.1, 0, 0) := by decide +kernel
theorem gr_lx : ∀ x ∈ grL, lxF x.1 = ((x.2.1 : Int), (x.2.2 : Int)) ∧ 1 ≤ x.2.2 ∧ x.2.2 ≤ 5 ∧ 3 ≤ x.2.1 ∧ x.2.1 ≤ 15 ∧ 1 ≤ x.1.length ∧ x.1.length ≤ 2 := by decide +kernel
set_option maxRecDepth 100000 in
theorem gr_chk1 : ∀ x ∈ grL, ∀ y ∈ grL, (binX x.2.1 grA (binX y.2.1 grB grC)).chk = 0 := by decide +kernel
set_option maxRecDepth 100000 in
theorem gr_chk2 : ∀ x ∈ grL, ∀ y ∈ grL, (binX y.2.1 (binX x.2.1 grA grB) grC).chk = 0 := by decide +kernel
theorem loop_one {l : List Tk} {e f : Ex} {k j p : Nat} {o : Int} (ho : opAt l k = (o, (p : Int))) (h1 : Rd l (.bin (p + 1)) (k + 1) (.ok f j)) (hn : (opAt l j).2 ≠ (p : Int)) : Rd l (.loop p e) k (.ok (binX o e f) j) := by
  by_cases h3 : p = 3
  · have := Rd.three (l := l) (e := e) h3 (by rw [ho]) h1
    rw [ho] at this; exact this
  · refine .more h3 (by rw [ho]) h1 ?_
    rw [ho]; exact .fin hn
theorem gr_rd {x y : List UInt8 × Nat × Nat} (hx : x ∈ grL) (hy : y ∈ grL) : ∃ r, Rd (grT x.1 y.1) (.bin 1) 0 r ∧ r = (if x.2.2 = 3 ∧ y.2.2 = 3 then .ok (binX x.2.1 grA grB) 3 else if x.2.2 < y.2.2 then .ok (binX x.2.1 grA (binX y.2.1 grB grC)) 5 else .ok (binX y.2.1 (binX x.2.1 grA grB) grC) 5) := by
  obtain ⟨lx, px1, px2, _⟩ := gr_lx x hx
  obtain ⟨ly, py1, py2, _⟩ := gr_lx y hy
  obtain ⟨sx, ox, px⟩ := x
  obtain ⟨sy, oy, py⟩ := y
  dsimp only at *
  have ha : Rd (grT sx sy) .opd 0 (.ok grA 1) := .nam (l := grT sx sy) (k := 0) (by simp [grT]) rfl (by simp only [grT, List.getElem_cons_zero]; decide)
  have hb : Rd (grT sx sy) .opd 2 (.ok grB 3) := .nam (l := grT sx sy) (k := 2) (by simp [grT]) rfl (by
    show namOk ⟨1, [98], 0, _⟩ = true
    exact (show (isNm [98] && !kwB [98]) = true by decide))
  have hc : Rd (grT sx sy) .opd 4 (.ok grC 5) := .nam (l := grT sx sy) (k := 4) (by simp [grT]) rfl (by
    show namOk ⟨1, [99], 0, _⟩ = true
    exact (show (isNm [99] && !kwB [99]) = true by decide))
  have o1 : opAt (grT sx sy) 1 = ((ox : Int), (px : Int)) := lx
  have o3 : opAt (grT sx sy) 3 = ((oy : Int), (py : Int)) := ly
  have o5 : opAt (grT sx sy) 5 = (0, 0) := rfl
  generalize grT sx sy = L at *
  refine ⟨_, ?_, rfl⟩
  by_cases h33 : px = 3 ∧ py = 3
  · rw [if_pos h33]
    obtain ⟨rfl, rfl⟩ := h33
    have h3 : Rd L (.bin 3) 0 (.ok (binX ox grA grB) 3) := .bin (by decide) (Rd.opd (by decide) ha (low_op (x := 3) (by rw [o1]) (by decide))) (by
      have := Rd.three (l := L) (p := 3) (k := 1) (e := grA) (f := grB) (j := 3) rfl (by rw [o1]) (Rd.opd (by decide) hb (low_op (x := 3) (by rw [o3]) (by decide)))
      rw [o1] at this
      exact this)
    exact Rd.lift 2 1 (by decide) h3 (fun q h1 h2 => by rw [o3]; show (3 : Int) ≠ _; omega)
  · rw [if_neg h33]
    by_cases hlt : px < py
    · rw [if_pos hlt]
      have h1 : Rd L (.bin py) 2 (.ok (binX oy grB grC) 5) := .bin py2 (Rd.opd (by omega) hb (low_op (x := py) (by rw [o3]) (by omega))) (loop_one o3 (Rd.opd (by omega) hc (no_op (by omega) (by rw [o5]))) (by rw [o5]; show (0 : Int) ≠ _; omega))
      have h2 : Rd L (.bin (px + 1)) 2 (.ok (binX oy grB grC) 5) := Rd.lift (py - (px + 1)) (px + 1) (by omega) (by rw [show px + 1 + (py - (px + 1)) = py by omega]; exact h1) (no_op (by omega) (by rw [o5]))
      have h3 : Rd L (.bin px) 0 (.ok (binX ox grA (binX oy grB grC)) 5) := .bin px2 (Rd.opd (by omega) ha (low_op (x := px) (by rw [o1]) (by omega))) (loop_one o1 h2 (by rw [o5]; show (0 : Int) ≠ _; omega))
      exact Rd.lift (px - 1) 1 (by omega) (by rw [show 1 + (px - 1) = px by omega]; exact h3) (no_op (by decide) (by rw [o5]))
    · rw [if_neg hlt]
      by_cases heq : py = px
      · subst heq
        have h3 : py ≠ 3 := fun e => h33 ⟨e, e⟩
        have hB : Rd L (.bin (py + 1)) 2 (.ok grB 3) := Rd.opd (by omega) hb (low_op (x := py) (by rw [o3]) (by omega))
        have hC : Rd L (.bin (py + 1)) 4 (.ok grC 5) := Rd.opd (by omega) hc (no_op (by omega) (by rw [o5]))
        have h1 : Rd L (.loop py (binX ox grA grB)) 3 (.ok (binX oy (binX ox grA grB) grC) 5) := loop_one o3 hC (by rw [o5]; show (0 : Int) ≠ _; omega)
        have h2 : Rd L (.loop py grA) 1 (.ok (binX oy (binX ox grA grB) grC) 5) := by
          refine .more h3 (by rw [o1]) hB ?_
          rw [o1]; exact h1
        have h4 : Rd L (.bin py) 0 (.ok (binX oy (binX ox grA grB) grC) 5) := .bin py2 (Rd.opd (by omega) ha (low_op (x := py) (by rw [o1]) (by omega))) h2
        exact Rd.lift (py - 1) 1 (by omega) (by rw [show 1 + (py - 1) = py by omega]; exact h4) (no_op (by decide) (by rw [o5]))
      · have hB : Rd L (.bin (px + 1)) 2 (.ok grB 3) := Rd.opd (by omega) hb (low_op (x := py) (by rw [o3]) (by omega))
        have hC : Rd L (.bin (py + 1)) 4 (.ok grC 5) := Rd.opd (by omega) hc (no_op (by omega) (by rw [o5]))
        have h1 : Rd L (.bin px) 0 (.ok (binX ox grA grB) 3) := .bin px2 (Rd.opd (by omega) ha (low_op (x := px) (by rw [o1]) (by omega))) (loop_one o1 hB (by rw [o3]; show (py : Int) ≠ _; omega))
        have h2 : Rd L (.bin (py + 1)) 0 (.ok (binX ox grA grB) 3) := Rd.lift (px - (py + 1)) (py + 1) (by omega) (by rw [show py + 1 + (px - (py + 1)) = px by omega]; exact h1) (low_op (x := py) (by rw [o3]) (by omega))
        have h4 : Rd L (.bin py) 0 (.ok (binX oy (binX ox grA grB) grC) 5) := .bin py2 h2 (loop_one o3 hC (by rw [o5]; show (0 : Int) ≠ _; omega))
        exact Rd.lift (py - 1) 1 (by omega) (by rw [show 1 + (py - 1) = py by omega]; exact h4) (no_op (by decide) (by rw [o5]))
theorem gr_ps {x y : List UInt8 × Nat × Nat} (hx : x ∈ grL) (hy : y ∈ grL) : ∃ r, Rd (toksR (grS x.1 y.1)).1 (.bin 1) 0 r ∧ psR (grS x.1 y.1) r = grR x y := by
  obtain ⟨r, hr, he⟩ := gr_rd hx hy
  have ht := gr_toks x hx y hy
  have c1 := gr_chk1 x hx y hy
  have c2 := gr_chk2 x hx y hy
  refine ⟨r, by rw [ht]; exact hr, ?_⟩
  unfold psR grR
  rw [ht, he]
  dsimp only
  rw [if_neg (by decide)]
  unfold psL
  by_cases h33 : x.2.2 = 3 ∧ y.2.2 = 3
  · rw [if_pos h33, if_pos h33]
    dsimp only
    rw [show (grT x.1 y.1).getD 3 tk0 = ⟨3, y.1, 0, 2 + x.1.length⟩ from rfl]
    rw [if_pos (show (3 : Int) ≠ 0 by decide)]
  · rw [if_neg h33, if_neg h33]
    by_cases hlt : x.2.2 < y.2.2
    · rw [if_pos hlt, if_pos hlt]
      dsimp only
      rw [show (grT x.1 y.1).getD 5 tk0 = ⟨0, [], 0, 3 + x.1.length + y.1.length⟩ from rfl]
      rw [if_neg (show ¬ (0 : Int) ≠ 0 by decide), if_neg (by rw [c1]; decide)]
    · rw [if_neg hlt, if_neg hlt]
      dsimp only
      rw [show (grT x.1 y.1).getD 5 tk0 = ⟨0, [], 0, 3 + x.1.length + y.1.length⟩ from rfl]
      rw [if_neg (show ¬ (0 : Int) ≠ 0 by decide), if_neg (by rw [c2]; decide)]
end Go.Proofs.YtmokejjndkibhaaDoor

namespace Go.Proofs.YtmokejjndkibhaaDoor
open Go.RowKit Go.Shelf Ex
set_option linter.unusedVariables false
set_option linter.unusedSimpArgs false

theorem grL_len : grL.length = 13 := rfl
abbrev opI (x : List UInt8 × Nat × Nat) (w : World) (B m : Nat) : Prop := w.cell? ⟨B, m * 3, none⟩ = some (sV x.1) ∧ w.cell? ⟨B, m * 3 + 1, none⟩ = some (.int .i64 (x.2.1 : Nat)) ∧ w.cell? ⟨B, m * 3 + 2, none⟩ = some (.int .i64 (x.2.2 : Nat))
set_option maxRecDepth 100000 in
set_option maxHeartbeats 2000000 in
theorem lawOps_any (w : World) : Calls Tryd.prog 12 #[] w fun e w' => ∃ B, e = .returned (.slice (some ⟨B, 0, none⟩) 13 13) ∧ Ext w w' ∧ ∀ m (h : m < 13), opI (grL[m]'(by rw [grL_len]; exact h)) w' B m := by
  go_enter Tryd.func12, Tryd.ntmps12
  go_wp2
  have hk := alloc_here w (.cells #[.string { data := #[43] }, .int .i64 3, .int .i64 4, .string { data := #[45] }, .int .i64 4, .int .i64 4, .string { data := #[42] }, .int .i64 5, .int .i64 5, .string { data := #[47] }, .int .i64 6, .int .i64 5, .string { data := #[37] }, .int .i64 7, .int .i64 5, .string { data := #[61, 61] }, .int .i64 8, .int .i64 3, .string { data := #[33, 61] }, .int .i64 9, .int .i64 3, .string { data := #[60] }, .int .i64 10, .int .i64 3, .string { data := #[60, 61] }, .int .i64 11, .int .i64 3, .string { data := #[62] }, .int .i64 12, .int .i64 3, .string { data := #[62, 61] }, .int .i64 13, .int .i64 3, .string { data := #[38, 38] }, .int .i64 14, .int .i64 2, .string { data := #[124, 124] }, .int .i64 15, .int .i64 1] 36)
  go_ret
  refine ⟨w.heap.size, rfl, (Below.refl _ w).alloc (Nat.le_refl _) _, fun m h => ?_⟩
  match m, h with
  | 0, _ => exact ⟨cell_of hk rfl, cell_of hk rfl, cell_of hk rfl⟩
  | 1, _ => exact ⟨cell_of hk rfl, cell_of hk rfl, cell_of hk rfl⟩
  | 2, _ => exact ⟨cell_of hk rfl, cell_of hk rfl, cell_of hk rfl⟩
  | 3, _ => exact ⟨cell_of hk rfl, cell_of hk rfl, cell_of hk rfl⟩
  | 4, _ => exact ⟨cell_of hk rfl, cell_of hk rfl, cell_of hk rfl⟩
  | 5, _ => exact ⟨cell_of hk rfl, cell_of hk rfl, cell_of hk rfl⟩
  | 6, _ => exact ⟨cell_of hk rfl, cell_of hk rfl, cell_of hk rfl⟩
  | 7, _ => exact ⟨cell_of hk rfl, cell_of hk rfl, cell_of hk rfl⟩
  | 8, _ => exact ⟨cell_of hk rfl, cell_of hk rfl, cell_of hk rfl⟩
  | 9, _ => exact ⟨cell_of hk rfl, cell_of hk rfl, cell_of hk rfl⟩
  | 10, _ => exact ⟨cell_of hk rfl, cell_of hk rfl, cell_of hk rfl⟩
  | 11, _ => exact ⟨cell_of hk rfl, cell_of hk rfl, cell_of hk rfl⟩
  | 12, _ => exact ⟨cell_of hk rfl, cell_of hk rfl, cell_of hk rfl⟩
end Go.Proofs.YtmokejjndkibhaaDoor

namespace Go.Proofs.YtmokejjndkibhaaDoor
open Go.RowKit Go.Shelf Ex
set_option linter.unusedVariables false
set_option linter.unusedSimpArgs false

theorem u8_bdG {x : Int} (h : (Lit.int .u8 x).wf = true) : 0 ≤ x ∧ x ≤ 255 := by
  simp [Lit.wf, IntKind.min, IntKind.max, IntKind.signed, IntKind.bits] at h
  omega
set_option maxRecDepth 100000 in
set_option maxHeartbeats 16000000 in
theorem grp_A (i k m n : Nat) (hi : i ≤ 255) (hk : k ≤ 255) (hmi : (i : Int).tmod 13 = (m : Int)) (hnk : (k : Int).tmod 13 = (n : Int)) (hm13 : m < 13) (hn13 : n < 13) (sx : List UInt8) (ox px : Nat) (sy : List UInt8) (oy py : Nat)
    (hxe : grL[m]'(by rw [grL_len]; exact hm13) = (sx, ox, px)) (hye : grL[n]'(by rw [grL_len]; exact hn13) = (sy, oy, py)) (hc : px = 3 ∧ py = 3) (e1 : ((px : Int) == 3) = true) (e2 : ((py : Int) == 3) = true)
    (w : World) (hTab : TabW w) (hM : MaxL w) : Gives Tryd.prog 5 #[.int .u8 (i : Int), .int .u8 (k : Int)] w (.bool true) := by
  have hXL : (sx, ox, px) ∈ grL := by rw [← hxe]; exact List.getElem_mem _
  have hYL : (sy, oy, py) ∈ grL := by rw [← hye]; exact List.getElem_mem _
  have KA := Lib.hid (fun W (hW : Ext w W) => lxAwake_any W (hTab.below hW) (hM.ext hW))
  obtain ⟨_, hx1, hx2, hx3, hx4, hx5, hx6⟩ := gr_lx _ hXL
  obtain ⟨_, hy1, hy2, hy3, hy4, hy5, hy6⟩ := gr_lx _ hYL
  dsimp only at hx1 hx2 hx3 hx4 hx5 hx6 hy1 hy2 hy3 hy4 hy5 hy6
  obtain ⟨r, hr, hps⟩ := gr_ps hXL hYL
  unfold grR at hps; rw [if_pos (show (sx, ox, px).2.2 = 3 ∧ (sy, oy, py).2.2 = 3 from hc)] at hps
  have hgs : grS sx sy = 97 :: (sx ++ 98 :: (sy ++ [99])) := by simp [grS]
  dsimp only at hps
  have K1 := Lib.hid (fun W (hW : Ext w W) => (by
    have := Parse_any (grS sx sy) W (by simp [grS]; omega) (hTab.below hW) (hM.ext hW) r (fun _ => hr)
    rw [hps, hgs] at this; exact this : Calls Tryd.prog 8 #[sV (97 :: (sx ++ 98 :: (sy ++ [99])))] W fun e w' => ∃ q cc, e = .returned (.tuple #[.agg #[.int .i64 0, .int .i64 0, .string { data := #[] }, .int .i64 0, .slice q 0 cc], .int .i64 (2 + (sx.length : Int)), .int .i64 3]) ∧ AtB (W.heap.size ≤ ·) w' q exZ ∧ Ext W w'))
  have KN1 := Lib.hid (fun W => (show Gives Tryd.prog 13 #[.string { data := #[97] }] W (.agg #[.int .i64 2, .int .i64 0, .string { data := #[97] }, .int .i64 0, .slice none 0 0]) from lawName_any [97] W))
  have KN2 := Lib.hid (fun W => (show Gives Tryd.prog 13 #[.string { data := #[98] }] W (.agg #[.int .i64 2, .int .i64 0, .string { data := #[98] }, .int .i64 0, .slice none 0 0]) from lawName_any [98] W))
  have KN3 := Lib.hid (fun W => (show Gives Tryd.prog 13 #[.string { data := #[99] }] W (.agg #[.int .i64 2, .int .i64 0, .string { data := #[99] }, .int .i64 0, .slice none 0 0]) from lawName_any [99] W))
  have hcat : ({ data := #[97] } : ByteArray) ++ sB sx ++ { data := #[98] } ++ sB sy ++ { data := #[99] } = sB (97 :: (sx ++ 98 :: (sy ++ [99]))) := by
    show sB [97] ++ sB sx ++ sB [98] ++ sB sy ++ sB [99] = _
    rw [sB_app, sB_app, sB_app, sB_app]
    simp
  have hsz := sB_size sx
  clear hTab hM hr hps hXL hYL hx1 hx2 hy1 hy2 hc
  unfold Gives
  go_enter Tryd.func5, Tryd.ntmps5
  go_wp2_with fail
  refine (show Calls _ _ _ _ _ from lawOps_any w).mono ?_
  rintro _ w1 ⟨B, rfl, hE1, hC⟩
  have hx := hC m hm13
  have hy := hC n hn13
  have HE1 := Lib.hid hE1
  rw [hxe] at hx
  rw [hye] at hy
  clear hC hE1 hxe hye
  dsimp only [opI] at hx hy
  obtain ⟨x0, x1, x2⟩ := hx
  obtain ⟨y0, y1, y2⟩ := hy
  have hBl : B < w1.heap.size := cell_lt' x0
  go_upto_region 2 with fail
  go_region
  · obtain ⟨W2, hW2⟩ : ∃ W, ((w1.alloc (.cells #[.string (sB sx), .int .i64 (ox : Int), .int .i64 (px : Int)] 36)).alloc (.cells #[.string (sB sy), .int .i64 (oy : Int), .int .i64 (py : Int)] 36)).drew = W := ⟨_, rfl⟩
    rw [hW2]
    have hb1 : W2.heap[w1.heap.size]? = some (.cells #[.string (sB sx), .int .i64 (ox : Int), .int .i64 (px : Int)] 36 (0, 0)) := by
      rw [← hW2]
      show ((w1.alloc (.cells #[.string (sB sx), .int .i64 (ox : Int), .int .i64 (px : Int)] 36)).alloc (.cells #[.string (sB sy), .int .i64 (oy : Int), .int .i64 (py : Int)] 36)).heap[_]? = _
      rw [Below.heap_alloc _ _ _ (by rw [World.size_alloc]; omega)]
      exact alloc_here w1 (.cells #[.string (sB sx), .int .i64 (ox : Int), .int .i64 (px : Int)] 36)
    have hb2 : W2.heap[w1.heap.size + 1]? = some (.cells #[.string (sB sy), .int .i64 (oy : Int), .int .i64 (py : Int)] 36 (0, 0)) := by
      rw [← hW2]
      have := alloc_here (w1.alloc (.cells #[.string (sB sx), .int .i64 (ox : Int), .int .i64 (px : Int)] 36)) (.cells #[.string (sB sy), .int .i64 (oy : Int), .int .i64 (py : Int)] 36)
      rw [World.size_alloc] at this; exact this
    have hE2 : Ext w1 W2 := by rw [← hW2]; exact Ext.drewN' (n := 1) (((Below.refl _ w1).alloc (Nat.le_refl _) _).alloc (by simp) _)
    clear hW2 x0 x1 x2 y0 y1 y2 hBl
    generalize w1.heap.size + 1 = A2 at *
    generalize w1.heap.size = A1 at *
    have HX1 := Lib.hid hb1
    have HY1 := Lib.hid hb2
    have HE2 := Lib.hid (Ext.trans HE1.out hE2)
    have u0 := cell_of (i := 0) hb1 rfl
    have v0 := cell_of (i := 0) hb2 rfl
    clear hb1 hb2 hE2
    go_wp2_with fail
    try rw [hcat]
    refine (show Calls _ _ _ _ _ from K1.out _ HE2.out).mono ?_
    rintro _ w3 ⟨q1, c1, rfl, hA3, hE3⟩
    dsimp only
    have HA3 := Lib.hid hA3
    have HX3 := Lib.hid ((hE3.below.block _ (lt_of_block HX1.out)).trans HX1.out)
    have HY3 := Lib.hid ((hE3.below.block _ (lt_of_block HY1.out)).trans HY1.out)
    have HE3 := Lib.hid (Ext.trans HE2.out hE3)
    clear hA3 hE3 u0 v0
    have HE4 := Lib.hid (ext_alloc w3 (.cells #[.int .i64 0, .int .i64 0, .string { data := #[] }, .int .i64 0, .slice q1 0 c1] 25))
    have HB4 := Lib.hid (alloc_here w3 (.cells #[.int .i64 0, .int .i64 0, .string { data := #[] }, .int .i64 0, .slice q1 0 c1] 25))
    go_wp2_with fail
    refine (KN1.out _).mono ?_
    intro wa hEa
    have HEa := Lib.hid (Ext.trans HE4.out hEa)
    have HBa := Lib.hid ((hEa.block _ (lt_of_block HB4.out)).trans HB4.out)
    clear hEa
    go_wp2_with fail
    refine (KN2.out _).mono ?_
    intro wb hEb
    have HEb := Lib.hid (Ext.trans HEa.out hEb)
    have HBb := Lib.hid ((hEb.block _ (lt_of_block HBa.out)).trans HBa.out)
    clear hEb
    go_wp2_with fail
    refine (KN3.out _).mono ?_
    intro wc hEc
    have HEc := Lib.hid (Ext.trans HEb.out hEc)
    have HBc := Lib.hid ((hEc.block _ (lt_of_block HBb.out)).trans HBb.out)
    clear hEc
    go_upto_region 5 with fail
    obtain ⟨w9, hw9⟩ : ∃ W, (((wc.alloc (.cells #[.int .i64 2, .int .i64 0, .string { data := #[97] }, .int .i64 0, .slice none 0 0] 25)).alloc (.cells #[.int .i64 2, .int .i64 0, .string { data := #[98] }, .int .i64 0, .slice none 0 0] 25)).alloc (.cells #[.int .i64 2, .int .i64 0, .string { data := #[99] }, .int .i64 0, .slice none 0 0] 25)) = W := ⟨_, rfl⟩
    rw [hw9]
    have hE9 : Ext wc w9 := by rw [← hw9]; exact ((((Below.refl _ wc).alloc (Nat.le_refl _) _).alloc (by simp) _).alloc (by simp; omega) _)
    have h3 : w9.heap[wc.heap.size + 1 + 1]? = some (.cells #[.int .i64 2, .int .i64 0, .string { data := #[99] }, .int .i64 0, .slice none 0 0] 25 (0, 0)) := by
      have := alloc_here ((wc.alloc (.cells #[.int .i64 2, .int .i64 0, .string { data := #[97] }, .int .i64 0, .slice none 0 0] 25)).alloc (.cells #[.int .i64 2, .int .i64 0, .string { data := #[98] }, .int .i64 0, .slice none 0 0] 25)) (.cells #[.int .i64 2, .int .i64 0, .string { data := #[99] }, .int .i64 0, .slice none 0 0] 25)
      rw [hw9, World.size_alloc, World.size_alloc] at this; exact this
    have h2 : w9.heap[wc.heap.size + 1]? = some (.cells #[.int .i64 2, .int .i64 0, .string { data := #[98] }, .int .i64 0, .slice none 0 0] 25 (0, 0)) := by
      rw [← hw9, Below.heap_alloc _ _ _ (by rw [World.size_alloc, World.size_alloc]; omega)]
      have := alloc_here (wc.alloc (.cells #[.int .i64 2, .int .i64 0, .string { data := #[97] }, .int .i64 0, .slice none 0 0] 25)) (.cells #[.int .i64 2, .int .i64 0, .string { data := #[98] }, .int .i64 0, .slice none 0 0] 25)
      rw [World.size_alloc] at this; exact this
    have h1 : w9.heap[wc.heap.size]? = some (.cells #[.int .i64 2, .int .i64 0, .string { data := #[97] }, .int .i64 0, .slice none 0 0] 25 (0, 0)) := by
      rw [← hw9, Below.heap_alloc _ _ _ (by rw [World.size_alloc, World.size_alloc]; omega), Below.heap_alloc _ _ _ (by rw [World.size_alloc]; omega)]
      exact alloc_here wc (.cells #[.int .i64 2, .int .i64 0, .string { data := #[97] }, .int .i64 0, .slice none 0 0] 25)
    have HA9 := Lib.hid h1
    have HB9 := Lib.hid h2
    have HC9 := Lib.hid h3
    have HE39 := Lib.hid (Ext.trans HEc.out hE9)
    have HE9 := Lib.hid (Ext.trans HE3.out HE39.out)
    have HE9B := Lib.hid ((hE9.below.block _ (lt_of_block HBc.out)).trans HBc.out)
    have HX9 := Lib.hid ((HE39.out.below.block _ (lt_of_block HX3.out)).trans HX3.out)
    have HY9 := Lib.hid ((HE39.out.below.block _ (lt_of_block HY3.out)).trans HY3.out)
    have HAE := Lib.hid (show Ex.At w9 q1 exZ from (HA3.out.ext HE39.out).at)
    clear hw9 hE9 h1 h2 h3
    have u0 := cell_of (i := 0) HX9.out rfl
    have u2 := cell_of (i := 2) HX9.out rfl
    have v2 := cell_of (i := 2) HY9.out rfl
    go_wp2_with fail
    refine (KA.out _ HE9.out).mono ?_
    intro w10 hE10
    have HE10 := Lib.hid (Ext.trans HE9.out hE10)
    clear hE10
    go_wp2
    go_ret
    exact ⟨rfl, HE10.out⟩
  · obtain ⟨W2, hW2⟩ : ∃ W, ((w1.alloc (.cells #[.string (sB sy), .int .i64 (oy : Int), .int .i64 (py : Int)] 36)).alloc (.cells #[.string (sB sx), .int .i64 (ox : Int), .int .i64 (px : Int)] 36)).drew = W := ⟨_, rfl⟩
    rw [hW2]
    have hb2 : W2.heap[w1.heap.size]? = some (.cells #[.string (sB sy), .int .i64 (oy : Int), .int .i64 (py : Int)] 36 (0, 0)) := by
      rw [← hW2]
      show ((w1.alloc (.cells #[.string (sB sy), .int .i64 (oy : Int), .int .i64 (py : Int)] 36)).alloc (.cells #[.string (sB sx), .int .i64 (ox : Int), .int .i64 (px : Int)] 36)).heap[_]? = _
      rw [Below.heap_alloc _ _ _ (by rw [World.size_alloc]; omega)]
      exact alloc_here w1 (.cells #[.string (sB sy), .int .i64 (oy : Int), .int .i64 (py : Int)] 36)
    have hb1 : W2.heap[w1.heap.size + 1]? = some (.cells #[.string (sB sx), .int .i64 (ox : Int), .int .i64 (px : Int)] 36 (0, 0)) := by
      rw [← hW2]
      have := alloc_here (w1.alloc (.cells #[.string (sB sy), .int .i64 (oy : Int), .int .i64 (py : Int)] 36)) (.cells #[.string (sB sx), .int .i64 (ox : Int), .int .i64 (px : Int)] 36)
      rw [World.size_alloc] at this; exact this
    have hE2 : Ext w1 W2 := by rw [← hW2]; exact Ext.drewN' (n := 1) (((Below.refl _ w1).alloc (Nat.le_refl _) _).alloc (by simp) _)
    clear hW2 x0 x1 x2 y0 y1 y2 hBl
    generalize w1.heap.size + 1 = A1 at *
    generalize w1.heap.size = A2 at *
    have HX1 := Lib.hid hb1
    have HY1 := Lib.hid hb2
    have HE2 := Lib.hid (Ext.trans HE1.out hE2)
    have u0 := cell_of (i := 0) hb1 rfl
    have v0 := cell_of (i := 0) hb2 rfl
    clear hb1 hb2 hE2
    go_wp2_with fail
    try rw [hcat]
    refine (show Calls _ _ _ _ _ from K1.out _ HE2.out).mono ?_
    rintro _ w3 ⟨q1, c1, rfl, hA3, hE3⟩
    dsimp only
    have HA3 := Lib.hid hA3
    have HX3 := Lib.hid ((hE3.below.block _ (lt_of_block HX1.out)).trans HX1.out)
    have HY3 := Lib.hid ((hE3.below.block _ (lt_of_block HY1.out)).trans HY1.out)
    have HE3 := Lib.hid (Ext.trans HE2.out hE3)
    clear hA3 hE3 u0 v0
    have HE4 := Lib.hid (ext_alloc w3 (.cells #[.int .i64 0, .int .i64 0, .string { data := #[] }, .int .i64 0, .slice q1 0 c1] 25))
    have HB4 := Lib.hid (alloc_here w3 (.cells #[.int .i64 0, .int .i64 0, .string { data := #[] }, .int .i64 0, .slice q1 0 c1] 25))
    go_wp2_with fail
    refine (KN1.out _).mono ?_
    intro wa hEa
    have HEa := Lib.hid (Ext.trans HE4.out hEa)
    have HBa := Lib.hid ((hEa.block _ (lt_of_block HB4.out)).trans HB4.out)
    clear hEa
    go_wp2_with fail
    refine (KN2.out _).mono ?_
    intro wb hEb
    have HEb := Lib.hid (Ext.trans HEa.out hEb)
    have HBb := Lib.hid ((hEb.block _ (lt_of_block HBa.out)).trans HBa.out)
    clear hEb
    go_wp2_with fail
    refine (KN3.out _).mono ?_
    intro wc hEc
    have HEc := Lib.hid (Ext.trans HEb.out hEc)
    have HBc := Lib.hid ((hEc.block _ (lt_of_block HBb.out)).trans HBb.out)
    clear hEc
    go_upto_region 5 with fail
    obtain ⟨w9, hw9⟩ : ∃ W, (((wc.alloc (.cells #[.int .i64 2, .int .i64 0, .string { data := #[97] }, .int .i64 0, .slice none 0 0] 25)).alloc (.cells #[.int .i64 2, .int .i64 0, .string { data := #[98] }, .int .i64 0, .slice none 0 0] 25)).alloc (.cells #[.int .i64 2, .int .i64 0, .string { data := #[99] }, .int .i64 0, .slice none 0 0] 25)) = W := ⟨_, rfl⟩
    rw [hw9]
    have hE9 : Ext wc w9 := by rw [← hw9]; exact ((((Below.refl _ wc).alloc (Nat.le_refl _) _).alloc (by simp) _).alloc (by simp; omega) _)
    have h3 : w9.heap[wc.heap.size + 1 + 1]? = some (.cells #[.int .i64 2, .int .i64 0, .string { data := #[99] }, .int .i64 0, .slice none 0 0] 25 (0, 0)) := by
      have := alloc_here ((wc.alloc (.cells #[.int .i64 2, .int .i64 0, .string { data := #[97] }, .int .i64 0, .slice none 0 0] 25)).alloc (.cells #[.int .i64 2, .int .i64 0, .string { data := #[98] }, .int .i64 0, .slice none 0 0] 25)) (.cells #[.int .i64 2, .int .i64 0, .string { data := #[99] }, .int .i64 0, .slice none 0 0] 25)
      rw [hw9, World.size_alloc, World.size_alloc] at this; exact this
    have h2 : w9.heap[wc.heap.size + 1]? = some (.cells #[.int .i64 2, .int .i64 0, .string { data := #[98] }, .int .i64 0, .slice none 0 0] 25 (0, 0)) := by
      rw [← hw9, Below.heap_alloc _ _ _ (by rw [World.size_alloc, World.size_alloc]; omega)]
      have := alloc_here (wc.alloc (.cells #[.int .i64 2, .int .i64 0, .string { data := #[97] }, .int .i64 0, .slice none 0 0] 25)) (.cells #[.int .i64 2, .int .i64 0, .string { data := #[98] }, .int .i64 0, .slice none 0 0] 25)
      rw [World.size_alloc] at this; exact this
    have h1 : w9.heap[wc.heap.size]? = some (.cells #[.int .i64 2, .int .i64 0, .string { data := #[97] }, .int .i64 0, .slice none 0 0] 25 (0, 0)) := by
      rw [← hw9, Below.heap_alloc _ _ _ (by rw [World.size_alloc, World.size_alloc]; omega), Below.heap_alloc _ _ _ (by rw [World.size_alloc]; omega)]
      exact alloc_here wc (.cells #[.int .i64 2, .int .i64 0, .string { data := #[97] }, .int .i64 0, .slice none 0 0] 25)
    have HA9 := Lib.hid h1
    have HB9 := Lib.hid h2
    have HC9 := Lib.hid h3
    have HE39 := Lib.hid (Ext.trans HEc.out hE9)
    have HE9 := Lib.hid (Ext.trans HE3.out HE39.out)
    have HE9B := Lib.hid ((hE9.below.block _ (lt_of_block HBc.out)).trans HBc.out)
    have HX9 := Lib.hid ((HE39.out.below.block _ (lt_of_block HX3.out)).trans HX3.out)
    have HY9 := Lib.hid ((HE39.out.below.block _ (lt_of_block HY3.out)).trans HY3.out)
    have HAE := Lib.hid (show Ex.At w9 q1 exZ from (HA3.out.ext HE39.out).at)
    clear hw9 hE9 h1 h2 h3
    have u0 := cell_of (i := 0) HX9.out rfl
    have u2 := cell_of (i := 2) HX9.out rfl
    have v2 := cell_of (i := 2) HY9.out rfl
    go_wp2_with fail
    refine (KA.out _ HE9.out).mono ?_
    intro w10 hE10
    have HE10 := Lib.hid (Ext.trans HE9.out hE10)
    clear hE10
    go_wp2
    go_ret
    exact ⟨rfl, HE10.out⟩
set_option maxRecDepth 100000 in
set_option maxHeartbeats 16000000 in
theorem grp_B1 (i k m n : Nat) (hi : i ≤ 255) (hk : k ≤ 255) (hmi : (i : Int).tmod 13 = (m : Int)) (hnk : (k : Int).tmod 13 = (n : Int)) (hm13 : m < 13) (hn13 : n < 13) (sx : List UInt8) (ox px : Nat) (sy : List UInt8) (oy py : Nat)
    (hxe : grL[m]'(by rw [grL_len]; exact hm13) = (sx, ox, px)) (hye : grL[n]'(by rw [grL_len]; exact hn13) = (sy, oy, py)) (hc : ¬ (px = 3 ∧ py = 3) ∧ px < py) (e1 : ((px : Int) == 3) = false) (e3 : (px : Int) < (py : Int))
    (w : World) (hTab : TabW w) (hM : MaxL w) : Gives Tryd.prog 5 #[.int .u8 (i : Int), .int .u8 (k : Int)] w (.bool true) := by
  have hXL : (sx, ox, px) ∈ grL := by rw [← hxe]; exact List.getElem_mem _
  have hYL : (sy, oy, py) ∈ grL := by rw [← hye]; exact List.getElem_mem _
  have KA := Lib.hid (fun W (hW : Ext w W) => lxAwake_any W (hTab.below hW) (hM.ext hW))
  obtain ⟨_, hx1, hx2, hx3, hx4, hx5, hx6⟩ := gr_lx _ hXL
  obtain ⟨_, hy1, hy2, hy3, hy4, hy5, hy6⟩ := gr_lx _ hYL
  dsimp only at hx1 hx2 hx3 hx4 hx5 hx6 hy1 hy2 hy3 hy4 hy5 hy6
  obtain ⟨r, hr, hps⟩ := gr_ps hXL hYL
  unfold grR at hps; rw [if_neg (show ¬ ((sx, ox, px).2.2 = 3 ∧ (sy, oy, py).2.2 = 3) from hc.1), if_pos (show (sx, ox, px).2.2 < (sy, oy, py).2.2 from hc.2)] at hps
  have hgs : grS sx sy = 97 :: (sx ++ 98 :: (sy ++ [99])) := by simp [grS]
  dsimp only at hps
  have K1 := Lib.hid (fun W (hW : Ext w W) => (by
    have := Parse_any (grS sx sy) W (by simp [grS]; omega) (hTab.below hW) (hM.ext hW) r (fun _ => hr)
    rw [hps, hgs] at this; exact this : Calls Tryd.prog 8 #[sV (97 :: (sx ++ 98 :: (sy ++ [99])))] W fun e w' => ∃ q cc, e = .returned (.tuple #[.agg #[.int .i64 4, .int .i64 ox, .string { data := #[] }, .int .i64 0, .slice q 2 cc], .int .i64 0, .int .i64 0]) ∧ AtB (W.heap.size ≤ ·) w' q (binX ox grA (binX oy grB grC)) ∧ Ext W w'))
  have KN1 := Lib.hid (fun W => (show Gives Tryd.prog 13 #[.string { data := #[97] }] W (.agg #[.int .i64 2, .int .i64 0, .string { data := #[97] }, .int .i64 0, .slice none 0 0]) from lawName_any [97] W))
  have KN2 := Lib.hid (fun W => (show Gives Tryd.prog 13 #[.string { data := #[98] }] W (.agg #[.int .i64 2, .int .i64 0, .string { data := #[98] }, .int .i64 0, .slice none 0 0]) from lawName_any [98] W))
  have KN3 := Lib.hid (fun W => (show Gives Tryd.prog 13 #[.string { data := #[99] }] W (.agg #[.int .i64 2, .int .i64 0, .string { data := #[99] }, .int .i64 0, .slice none 0 0]) from lawName_any [99] W))
  have HCK := Lib.hid (gr_chk1 _ hXL _ hYL)
  dsimp only at HCK
  have hcat : ({ data := #[97] } : ByteArray) ++ sB sx ++ { data := #[98] } ++ sB sy ++ { data := #[99] } = sB (97 :: (sx ++ 98 :: (sy ++ [99]))) := by
    show sB [97] ++ sB sx ++ sB [98] ++ sB sy ++ sB [99] = _
    rw [sB_app, sB_app, sB_app, sB_app]
    simp
  have hsz := sB_size sx
  clear hTab hM hr hps hXL hYL hx1 hx2 hy1 hy2 hc
  unfold Gives
  go_enter Tryd.func5, Tryd.ntmps5
  go_wp2_with fail
  refine (show Calls _ _ _ _ _ from lawOps_any w).mono ?_
  rintro _ w1 ⟨B, rfl, hE1, hC⟩
  have hx := hC m hm13
  have hy := hC n hn13
  have HE1 := Lib.hid hE1
  rw [hxe] at hx
  rw [hye] at hy
  clear hC hE1 hxe hye
  dsimp only [opI] at hx hy
  obtain ⟨x0, x1, x2⟩ := hx
  obtain ⟨y0, y1, y2⟩ := hy
  have hBl : B < w1.heap.size := cell_lt' x0
  go_upto_region 2 with fail
  go_region
  · obtain ⟨W2, hW2⟩ : ∃ W, ((w1.alloc (.cells #[.string (sB sx), .int .i64 (ox : Int), .int .i64 (px : Int)] 36)).alloc (.cells #[.string (sB sy), .int .i64 (oy : Int), .int .i64 (py : Int)] 36)).drew = W := ⟨_, rfl⟩
    rw [hW2]
    have hb1 : W2.heap[w1.heap.size]? = some (.cells #[.string (sB sx), .int .i64 (ox : Int), .int .i64 (px : Int)] 36 (0, 0)) := by
      rw [← hW2]
      show ((w1.alloc (.cells #[.string (sB sx), .int .i64 (ox : Int), .int .i64 (px : Int)] 36)).alloc (.cells #[.string (sB sy), .int .i64 (oy : Int), .int .i64 (py : Int)] 36)).heap[_]? = _
      rw [Below.heap_alloc _ _ _ (by rw [World.size_alloc]; omega)]
      exact alloc_here w1 (.cells #[.string (sB sx), .int .i64 (ox : Int), .int .i64 (px : Int)] 36)
    have hb2 : W2.heap[w1.heap.size + 1]? = some (.cells #[.string (sB sy), .int .i64 (oy : Int), .int .i64 (py : Int)] 36 (0, 0)) := by
      rw [← hW2]
      have := alloc_here (w1.alloc (.cells #[.string (sB sx), .int .i64 (ox : Int), .int .i64 (px : Int)] 36)) (.cells #[.string (sB sy), .int .i64 (oy : Int), .int .i64 (py : Int)] 36)
      rw [World.size_alloc] at this; exact this
    have hE2 : Ext w1 W2 := by rw [← hW2]; exact Ext.drewN' (n := 1) (((Below.refl _ w1).alloc (Nat.le_refl _) _).alloc (by simp) _)
    clear hW2 x0 x1 x2 y0 y1 y2 hBl
    generalize w1.heap.size + 1 = A2 at *
    generalize w1.heap.size = A1 at *
    have HX1 := Lib.hid hb1
    have HY1 := Lib.hid hb2
    have HE2 := Lib.hid (Ext.trans HE1.out hE2)
    have u0 := cell_of (i := 0) hb1 rfl
    have v0 := cell_of (i := 0) hb2 rfl
    clear hb1 hb2 hE2
    go_wp2_with fail
    try rw [hcat]
    refine (show Calls _ _ _ _ _ from K1.out _ HE2.out).mono ?_
    rintro _ w3 ⟨q1, c1, rfl, hA3, hE3⟩
    dsimp only
    have HA3 := Lib.hid hA3
    have HX3 := Lib.hid ((hE3.below.block _ (lt_of_block HX1.out)).trans HX1.out)
    have HY3 := Lib.hid ((hE3.below.block _ (lt_of_block HY1.out)).trans HY1.out)
    have HE3 := Lib.hid (Ext.trans HE2.out hE3)
    clear hA3 hE3 u0 v0
    have HE4 := Lib.hid (ext_alloc w3 (.cells #[.int .i64 4, .int .i64 ox, .string { data := #[] }, .int .i64 0, .slice q1 2 c1] 25))
    have HB4 := Lib.hid (alloc_here w3 (.cells #[.int .i64 4, .int .i64 ox, .string { data := #[] }, .int .i64 0, .slice q1 2 c1] 25))
    go_wp2_with fail
    refine (KN1.out _).mono ?_
    intro wa hEa
    have HEa := Lib.hid (Ext.trans HE4.out hEa)
    have HBa := Lib.hid ((hEa.block _ (lt_of_block HB4.out)).trans HB4.out)
    clear hEa
    go_wp2_with fail
    refine (KN2.out _).mono ?_
    intro wb hEb
    have HEb := Lib.hid (Ext.trans HEa.out hEb)
    have HBb := Lib.hid ((hEb.block _ (lt_of_block HBa.out)).trans HBa.out)
    clear hEb
    go_wp2_with fail
    refine (KN3.out _).mono ?_
    intro wc hEc
    have HEc := Lib.hid (Ext.trans HEb.out hEc)
    have HBc := Lib.hid ((hEc.block _ (lt_of_block HBb.out)).trans HBb.out)
    clear hEc
    go_upto_region 5 with fail
    obtain ⟨w9, hw9⟩ : ∃ W, (((wc.alloc (.cells #[.int .i64 2, .int .i64 0, .string { data := #[97] }, .int .i64 0, .slice none 0 0] 25)).alloc (.cells #[.int .i64 2, .int .i64 0, .string { data := #[98] }, .int .i64 0, .slice none 0 0] 25)).alloc (.cells #[.int .i64 2, .int .i64 0, .string { data := #[99] }, .int .i64 0, .slice none 0 0] 25)) = W := ⟨_, rfl⟩
    rw [hw9]
    have hE9 : Ext wc w9 := by rw [← hw9]; exact ((((Below.refl _ wc).alloc (Nat.le_refl _) _).alloc (by simp) _).alloc (by simp; omega) _)
    have h3 : w9.heap[wc.heap.size + 1 + 1]? = some (.cells #[.int .i64 2, .int .i64 0, .string { data := #[99] }, .int .i64 0, .slice none 0 0] 25 (0, 0)) := by
      have := alloc_here ((wc.alloc (.cells #[.int .i64 2, .int .i64 0, .string { data := #[97] }, .int .i64 0, .slice none 0 0] 25)).alloc (.cells #[.int .i64 2, .int .i64 0, .string { data := #[98] }, .int .i64 0, .slice none 0 0] 25)) (.cells #[.int .i64 2, .int .i64 0, .string { data := #[99] }, .int .i64 0, .slice none 0 0] 25)
      rw [hw9, World.size_alloc, World.size_alloc] at this; exact this
    have h2 : w9.heap[wc.heap.size + 1]? = some (.cells #[.int .i64 2, .int .i64 0, .string { data := #[98] }, .int .i64 0, .slice none 0 0] 25 (0, 0)) := by
      rw [← hw9, Below.heap_alloc _ _ _ (by rw [World.size_alloc, World.size_alloc]; omega)]
      have := alloc_here (wc.alloc (.cells #[.int .i64 2, .int .i64 0, .string { data := #[97] }, .int .i64 0, .slice none 0 0] 25)) (.cells #[.int .i64 2, .int .i64 0, .string { data := #[98] }, .int .i64 0, .slice none 0 0] 25)
      rw [World.size_alloc] at this; exact this
    have h1 : w9.heap[wc.heap.size]? = some (.cells #[.int .i64 2, .int .i64 0, .string { data := #[97] }, .int .i64 0, .slice none 0 0] 25 (0, 0)) := by
      rw [← hw9, Below.heap_alloc _ _ _ (by rw [World.size_alloc, World.size_alloc]; omega), Below.heap_alloc _ _ _ (by rw [World.size_alloc]; omega)]
      exact alloc_here wc (.cells #[.int .i64 2, .int .i64 0, .string { data := #[97] }, .int .i64 0, .slice none 0 0] 25)
    have HA9 := Lib.hid h1
    have HB9 := Lib.hid h2
    have HC9 := Lib.hid h3
    have HE39 := Lib.hid (Ext.trans HEc.out hE9)
    have HE9 := Lib.hid (Ext.trans HE3.out HE39.out)
    have HE9B := Lib.hid ((hE9.below.block _ (lt_of_block HBc.out)).trans HBc.out)
    have HX9 := Lib.hid ((HE39.out.below.block _ (lt_of_block HX3.out)).trans HX3.out)
    have HY9 := Lib.hid ((HE39.out.below.block _ (lt_of_block HY3.out)).trans HY3.out)
    have HAE := Lib.hid (show Ex.At w9 q1 (binX ox grA (binX oy grB grC)) from (HA3.out.ext HE39.out).at)
    clear hw9 hE9 h1 h2 h3
    have u0 := cell_of (i := 0) HX9.out rfl
    have u2 := cell_of (i := 2) HX9.out rfl
    have v2 := cell_of (i := 2) HY9.out rfl
    go_upto_region 8 with fail
    refine wp_region_tail (l1 := [_, _, _, _, _, _, _, _, _, _, _, _, _, _, _, _, _, _]) (l2 := [_]) (by kernel_rfl) Ext (fun W => Below.refl _ W) (fun W => show Below W.heap.size W { W with drawn := W.drawn + 1 } from ⟨rfl, rfl, rfl, Nat.le_refl _, fun _ _ => rfl⟩) Ext.trans
      (fun i s W => match i with
        | 0 => s 0 = .int .i64 0
        | 1 => s 1 = .bool true
        | 2 => s 2 = .bool true
        | 3 => s 3 = .agg #[.int .i64 4, .int .i64 ox, .string { data := #[] }, .int .i64 0, .slice q1 2 c1]
        | 4 => s 4 = .pointer (some ⟨A1, 1, none⟩)
        | 5 => s 5 = .int .i64 (ox : Int)
        | 6 => s 6 = .agg #[.int .i64 2, .int .i64 0, .string { data := #[97] }, .int .i64 0, .slice none 0 0]
        | 7 => s 7 = .pointer (some ⟨A2, 1, none⟩)
        | 8 => s 8 = .int .i64 (oy : Int)
        | 9 => s 9 = .agg #[.int .i64 2, .int .i64 0, .string { data := #[98] }, .int .i64 0, .slice none 0 0]
        | 10 => s 10 = .agg #[.int .i64 2, .int .i64 0, .string { data := #[99] }, .int .i64 0, .slice none 0 0]
        | 11 => ∃ r, s 11 = (binX oy grB grC).val r 2 ∧ Ex.At W r (binX oy grB grC)
        | 12 => ∃ r, s 12 = (binX ox grA (binX oy grB grC)).val r 2 ∧ Ex.At W r (binX ox grA (binX oy grB grC))
        | 13 => s 13 = .bool true
        | 14 => s 14 = .bool true
        | 15 => s 15 = .bool true
        | 16 => s 16 = .bool true
        | 17 => s 17 = .bool true
        | _ => True)
      (fun i => [i])
      (by
        intro i s s' W W' h hs hE
        have hs := hs i (by simp)
        match i, h, hs with
        | 0, h, hs => exact hs.trans h
        | 1, h, hs => exact hs.trans h
        | 2, h, hs => exact hs.trans h
        | 3, h, hs => exact hs.trans h
        | 4, h, hs => exact hs.trans h
        | 5, h, hs => exact hs.trans h
        | 6, h, hs => exact hs.trans h
        | 7, h, hs => exact hs.trans h
        | 8, h, hs => exact hs.trans h
        | 9, h, hs => exact hs.trans h
        | 10, h, hs => exact hs.trans h
        | 11, ⟨r, h1, h2⟩, hs => exact ⟨r, hs.trans h1, h2.below hE⟩
        | 12, ⟨r, h1, h2⟩, hs => exact ⟨r, hs.trans h1, h2.below hE⟩
        | 13, h, hs => exact hs.trans h
        | 14, h, hs => exact hs.trans h
        | 15, h, hs => exact hs.trans h
        | 16, h, hs => exact hs.trans h
        | 17, h, hs => exact hs.trans h
        | i + 18, h, hs => exact trivial)
      (by kernel_rfl) (by kernel_rfl) (by kernel_rfl) 111 rfl (by kernel_rfl) (by kernel_rfl) ?_ ?_
    · intro i op ho a' W hA
      have x0 : W.cell? ⟨w3.heap.size, 0, none⟩ = _ := Ext.cellE (cell_of HE9B.out rfl) hA.rel
      have x1 : W.cell? ⟨w3.heap.size, 1, none⟩ = _ := Ext.cellE (cell_of HE9B.out rfl) hA.rel
      have x2 : W.cell? ⟨w3.heap.size, 2, none⟩ = _ := Ext.cellE (cell_of HE9B.out rfl) hA.rel
      have x3 : W.cell? ⟨w3.heap.size, 3, none⟩ = _ := Ext.cellE (cell_of HE9B.out rfl) hA.rel
      have x4 : W.cell? ⟨w3.heap.size, 4, none⟩ = _ := Ext.cellE (cell_of HE9B.out rfl) hA.rel
      have k0 : W.cell? ⟨wc.heap.size, 0, none⟩ = _ := Ext.cellE (cell_of HA9.out rfl) hA.rel
      have k1 : W.cell? ⟨wc.heap.size, 1, none⟩ = _ := Ext.cellE (cell_of HA9.out rfl) hA.rel
      have k2 : W.cell? ⟨wc.heap.size, 2, none⟩ = _ := Ext.cellE (cell_of HA9.out rfl) hA.rel
      have k3 : W.cell? ⟨wc.heap.size, 3, none⟩ = _ := Ext.cellE (cell_of HA9.out rfl) hA.rel
      have k4 : W.cell? ⟨wc.heap.size, 4, none⟩ = _ := Ext.cellE (cell_of HA9.out rfl) hA.rel
      have l0 : W.cell? ⟨wc.heap.size + 1, 0, none⟩ = _ := Ext.cellE (cell_of HB9.out rfl) hA.rel
      have l1 : W.cell? ⟨wc.heap.size + 1, 1, none⟩ = _ := Ext.cellE (cell_of HB9.out rfl) hA.rel
      have l2 : W.cell? ⟨wc.heap.size + 1, 2, none⟩ = _ := Ext.cellE (cell_of HB9.out rfl) hA.rel
      have l3 : W.cell? ⟨wc.heap.size + 1, 3, none⟩ = _ := Ext.cellE (cell_of HB9.out rfl) hA.rel
      have l4 : W.cell? ⟨wc.heap.size + 1, 4, none⟩ = _ := Ext.cellE (cell_of HB9.out rfl) hA.rel
      have m0 : W.cell? ⟨wc.heap.size + 1 + 1, 0, none⟩ = _ := Ext.cellE (cell_of HC9.out rfl) hA.rel
      have m1 : W.cell? ⟨wc.heap.size + 1 + 1, 1, none⟩ = _ := Ext.cellE (cell_of HC9.out rfl) hA.rel
      have m2 : W.cell? ⟨wc.heap.size + 1 + 1, 2, none⟩ = _ := Ext.cellE (cell_of HC9.out rfl) hA.rel
      have m3 : W.cell? ⟨wc.heap.size + 1 + 1, 3, none⟩ = _ := Ext.cellE (cell_of HC9.out rfl) hA.rel
      have m4 : W.cell? ⟨wc.heap.size + 1 + 1, 4, none⟩ = _ := Ext.cellE (cell_of HC9.out rfl) hA.rel
      have u0 : W.cell? ⟨A1, 0, none⟩ = _ := Ext.cellE (cell_of HX9.out rfl) hA.rel
      have u1 : W.cell? ⟨A1, 1, none⟩ = _ := Ext.cellE (cell_of HX9.out rfl) hA.rel
      have u2 : W.cell? ⟨A1, 2, none⟩ = _ := Ext.cellE (cell_of HX9.out rfl) hA.rel
      have v0 : W.cell? ⟨A2, 0, none⟩ = _ := Ext.cellE (cell_of HY9.out rfl) hA.rel
      have v1 : W.cell? ⟨A2, 1, none⟩ = _ := Ext.cellE (cell_of HY9.out rfl) hA.rel
      have v2 : W.cell? ⟨A2, 2, none⟩ = _ := Ext.cellE (cell_of HY9.out rfl) hA.rel
      match i, ho with
      | 0, ho =>
        obtain rfl := Option.some.inj ho
        have e1 : a'.eval (.tmp 10) = .int .i64 0 := hA.keep 10 (by kernel_rfl)
        refine GoesG.value (.int .i64 0) rfl ?_ (Below.refl _ _) (fun s h1 h2 => h1 rfl)
        simp only [execOp, e1]
        simp [go_sem, x0, x1, x2, x3, x4, k0, k1, k2, k3, k4, l0, l1, l2, l3, l4, m0, m1, m2, m3, m4, u0, u1, u2, v0, v1, v2]
      | 1, ho =>
        obtain rfl := Option.some.inj ho
        have e1 : a'.eval (.tmp 75) = .int .i64 0 := (sv_dst (l := _) rfl).symm.trans (hA.new 0 (by decide) (by kernel_rfl))
        refine GoesG.value (.bool true) rfl ?_ (Below.refl _ _) (fun s h1 h2 => h1 rfl)
        simp only [execOp, e1]
        simp [go_sem, x0, x1, x2, x3, x4, k0, k1, k2, k3, k4, l0, l1, l2, l3, l4, m0, m1, m2, m3, m4, u0, u1, u2, v0, v1, v2]
      | 2, ho =>
        obtain rfl := Option.some.inj ho
        have e1 : a'.eval (.tmp 76) = .bool true := (sv_dst (l := _) rfl).symm.trans (hA.new 1 (by decide) (by kernel_rfl))
        refine GoesG.value (.bool true) rfl ?_ (Below.refl _ _) (fun s h1 h2 => h1 rfl)
        simp only [execOp, e1]
        simp [go_sem, x0, x1, x2, x3, x4, k0, k1, k2, k3, k4, l0, l1, l2, l3, l4, m0, m1, m2, m3, m4, u0, u1, u2, v0, v1, v2]
      | 3, ho =>
        obtain rfl := Option.some.inj ho
        have hg := hA.new 2 (by decide) (by kernel_rfl)
        have e1 : a'.eval (.tmp 8) = .pointer (some ⟨w3.heap.size, 0, none⟩) := hA.keep 8 (by kernel_rfl)
        refine GoesG.valueW (.agg #[.int .i64 4, .int .i64 ox, .string { data := #[] }, .int .i64 0, .slice q1 2 c1]) 2 true true rfl hg rfl ?_ (Below.refl _ _) (fun s h1 h2 => h1 rfl)
        simp only [execOp, e1]
        simp [go_sem, x0, x1, x2, x3, x4, k0, k1, k2, k3, k4, l0, l1, l2, l3, l4, m0, m1, m2, m3, m4, u0, u1, u2, v0, v1, v2]
      | 4, ho =>
        obtain rfl := Option.some.inj ho
        have hg := hA.new 2 (by decide) (by kernel_rfl)
        have e1 : a'.eval (.tmp 6) = .pointer (some ⟨A1, 0, none⟩) := hA.keep 6 (by kernel_rfl)
        refine GoesG.valueW (.pointer (some ⟨A1, 1, none⟩)) 2 true true rfl hg rfl ?_ (Below.refl _ _) (fun s h1 h2 => h1 rfl)
        simp only [execOp, e1]
        simp [go_sem, x0, x1, x2, x3, x4, k0, k1, k2, k3, k4, l0, l1, l2, l3, l4, m0, m1, m2, m3, m4, u0, u1, u2, v0, v1, v2]
      | 5, ho =>
        obtain rfl := Option.some.inj ho
        have hg := hA.new 2 (by decide) (by kernel_rfl)
        have e1 : a'.eval (.tmp 79) = .pointer (some ⟨A1, 1, none⟩) := (sv_dst (l := _) rfl).symm.trans (hA.new 4 (by decide) (by kernel_rfl))
        refine GoesG.valueW (.int .i64 (ox : Int)) 2 true true rfl hg rfl ?_ (Below.refl _ _) (fun s h1 h2 => h1 rfl)
        simp only [execOp, e1]
        simp [go_sem, x0, x1, x2, x3, x4, k0, k1, k2, k3, k4, l0, l1, l2, l3, l4, m0, m1, m2, m3, m4, u0, u1, u2, v0, v1, v2]
      | 6, ho =>
        obtain rfl := Option.some.inj ho
        have hg := hA.new 2 (by decide) (by kernel_rfl)
        have e1 : a'.eval (.tmp 11) = .pointer (some ⟨wc.heap.size, 0, none⟩) := hA.keep 11 (by kernel_rfl)
        refine GoesG.valueW (.agg #[.int .i64 2, .int .i64 0, .string { data := #[97] }, .int .i64 0, .slice none 0 0]) 2 true true rfl hg rfl ?_ (Below.refl _ _) (fun s h1 h2 => h1 rfl)
        simp only [execOp, e1]
        simp [go_sem, x0, x1, x2, x3, x4, k0, k1, k2, k3, k4, l0, l1, l2, l3, l4, m0, m1, m2, m3, m4, u0, u1, u2, v0, v1, v2]
      | 7, ho =>
        obtain rfl := Option.some.inj ho
        have hg := hA.new 2 (by decide) (by kernel_rfl)
        have e1 : a'.eval (.tmp 7) = .pointer (some ⟨A2, 0, none⟩) := hA.keep 7 (by kernel_rfl)
        refine GoesG.valueW (.pointer (some ⟨A2, 1, none⟩)) 2 true true rfl hg rfl ?_ (Below.refl _ _) (fun s h1 h2 => h1 rfl)
        simp only [execOp, e1]
        simp [go_sem, x0, x1, x2, x3, x4, k0, k1, k2, k3, k4, l0, l1, l2, l3, l4, m0, m1, m2, m3, m4, u0, u1, u2, v0, v1, v2]
      | 8, ho =>
        obtain rfl := Option.some.inj ho
        have hg := hA.new 2 (by decide) (by kernel_rfl)
        have e1 : a'.eval (.tmp 82) = .pointer (some ⟨A2, 1, none⟩) := (sv_dst (l := _) rfl).symm.trans (hA.new 7 (by decide) (by kernel_rfl))
        refine GoesG.valueW (.int .i64 (oy : Int)) 2 true true rfl hg rfl ?_ (Below.refl _ _) (fun s h1 h2 => h1 rfl)
        simp only [execOp, e1]
        simp [go_sem, x0, x1, x2, x3, x4, k0, k1, k2, k3, k4, l0, l1, l2, l3, l4, m0, m1, m2, m3, m4, u0, u1, u2, v0, v1, v2]
      | 9, ho =>
        obtain rfl := Option.some.inj ho
        have hg := hA.new 2 (by decide) (by kernel_rfl)
        have e1 : a'.eval (.tmp 12) = .pointer (some ⟨wc.heap.size + 1, 0, none⟩) := hA.keep 12 (by kernel_rfl)
        refine GoesG.valueW (.agg #[.int .i64 2, .int .i64 0, .string { data := #[98] }, .int .i64 0, .slice none 0 0]) 2 true true rfl hg rfl ?_ (Below.refl _ _) (fun s h1 h2 => h1 rfl)
        simp only [execOp, e1]
        simp [go_sem, x0, x1, x2, x3, x4, k0, k1, k2, k3, k4, l0, l1, l2, l3, l4, m0, m1, m2, m3, m4, u0, u1, u2, v0, v1, v2]
      | 10, ho =>
        obtain rfl := Option.some.inj ho
        have hg := hA.new 2 (by decide) (by kernel_rfl)
        have e1 : a'.eval (.tmp 13) = .pointer (some ⟨wc.heap.size + 1 + 1, 0, none⟩) := hA.keep 13 (by kernel_rfl)
        refine GoesG.valueW (.agg #[.int .i64 2, .int .i64 0, .string { data := #[99] }, .int .i64 0, .slice none 0 0]) 2 true true rfl hg rfl ?_ (Below.refl _ _) (fun s h1 h2 => h1 rfl)
        simp only [execOp, e1]
        simp [go_sem, x0, x1, x2, x3, x4, k0, k1, k2, k3, k4, l0, l1, l2, l3, l4, m0, m1, m2, m3, m4, u0, u1, u2, v0, v1, v2]
      | 11, ho =>
        obtain rfl := Option.some.inj ho
        have hg := hA.new 2 (by decide) (by kernel_rfl)
        have e1 : a'.eval (.tmp 83) = .int .i64 (oy : Int) := (sv_dst (l := _) rfl).symm.trans (hA.new 8 (by decide) (by kernel_rfl))
        have e2 : a'.eval (.tmp 84) = .agg #[.int .i64 2, .int .i64 0, .string { data := #[98] }, .int .i64 0, .slice none 0 0] := (sv_dst (l := _) rfl).symm.trans (hA.new 9 (by decide) (by kernel_rfl))
        have e3 : a'.eval (.tmp 85) = .agg #[.int .i64 2, .int .i64 0, .string { data := #[99] }, .int .i64 0, .slice none 0 0] := (sv_dst (l := _) rfl).symm.trans (hA.new 10 (by decide) (by kernel_rfl))
        refine GoesG.callG 14 #[.int .i64 (oy : Int), .agg #[.int .i64 2, .int .i64 0, .string { data := #[98] }, .int .i64 0, .slice none 0 0], .agg #[.int .i64 2, .int .i64 0, .string { data := #[99] }, .int .i64 0, .slice none 0 0]] 2 true true rfl hg rfl ?_ (Calls.mono (lawBin_any oy (by omega) (by omega) grB grC none none 0 0 W (AtB_leaf (fun _ => True) W none (fits_nam (s := [98]) (by decide))).at (AtB_leaf (fun _ => True) W none (fits_nam (s := [99]) (by decide))).at) ?_)
        · simp [execOp, resolve, invoke, Deferred.ofValue, e1, e2, e3]
          rfl
        · rintro _ W2 ⟨r2, rfl, hAt, hE2⟩
          exact ⟨_, rfl, hE2, fun s h1 h2 => ⟨r2, h1 rfl, hAt⟩⟩
      | 12, ho =>
        obtain rfl := Option.some.inj ho
        have hg := hA.new 2 (by decide) (by kernel_rfl)
        have e1 : a'.eval (.tmp 80) = .int .i64 (ox : Int) := (sv_dst (l := _) rfl).symm.trans (hA.new 5 (by decide) (by kernel_rfl))
        have e2 : a'.eval (.tmp 81) = .agg #[.int .i64 2, .int .i64 0, .string { data := #[97] }, .int .i64 0, .slice none 0 0] := (sv_dst (l := _) rfl).symm.trans (hA.new 6 (by decide) (by kernel_rfl))
        obtain ⟨r0, h11, hA11⟩ := hA.new 11 (by decide) (by kernel_rfl)
        have e3 : a'.eval (.tmp 86) = (binX oy grB grC).val r0 2 := (sv_dst (l := _) rfl).symm.trans h11
        refine GoesG.callG 14 #[.int .i64 (ox : Int), .agg #[.int .i64 2, .int .i64 0, .string { data := #[97] }, .int .i64 0, .slice none 0 0], (binX oy grB grC).val r0 2] 2 true true rfl hg rfl ?_ (Calls.mono (lawBin_any ox (by omega) (by omega) grA (binX oy grB grC) none r0 0 2 W (AtB_leaf (fun _ => True) W none (fits_nam (s := [97]) (by decide))).at hA11) ?_)
        · simp [execOp, resolve, invoke, Deferred.ofValue, e1, e2, e3]
          rfl
        · rintro _ W2 ⟨r2, rfl, hAt, hE2⟩
          exact ⟨_, rfl, hE2, fun s h1 h2 => ⟨r2, h1 rfl, hAt⟩⟩
      | 13, ho =>
        obtain rfl := Option.some.inj ho
        have hg := hA.new 2 (by decide) (by kernel_rfl)
        have e1 : a'.eval (.tmp 78) = .agg #[.int .i64 4, .int .i64 ox, .string { data := #[] }, .int .i64 0, .slice q1 2 c1] := (sv_dst (l := _) rfl).symm.trans (hA.new 3 (by decide) (by kernel_rfl))
        obtain ⟨r0, h12, hA12⟩ := hA.new 12 (by decide) (by kernel_rfl)
        have e2 : a'.eval (.tmp 87) = (binX ox grA (binX oy grB grC)).val r0 2 := (sv_dst (l := _) rfl).symm.trans h12
        have hq := refEqualX_any (binX ox grA (binX oy grB grC)) (binX ox grA (binX oy grB grC)) q1 r0 c1 2 W (HAE.out.below hA.rel) hA12
        rw [HCK.out, eqX_self] at hq
        refine GoesG.callG 11 #[.agg #[.int .i64 4, .int .i64 ox, .string { data := #[] }, .int .i64 0, .slice q1 2 c1], (binX ox grA (binX oy grB grC)).val r0 2] 2 true true rfl hg rfl ?_ (Calls.mono (show Gives _ _ #[.agg #[.int .i64 4, .int .i64 ox, .string { data := #[] }, .int .i64 0, .slice q1 2 c1], (binX ox grA (binX oy grB grC)).val r0 2] W (.bool true) from hq) ?_)
        · simp [execOp, resolve, invoke, Deferred.ofValue, e1, e2]
          rfl
        · rintro _ W2 ⟨rfl, hE2⟩
          exact ⟨_, rfl, hE2, fun s h1 h2 => h1 rfl⟩
      | 14, ho =>
        obtain rfl := Option.some.inj ho
        have e1 : a'.eval (.tmp 77) = .bool true := (sv_dst (l := _) rfl).symm.trans (hA.new 2 (by decide) (by kernel_rfl))
        have e2 : a'.eval (.tmp 88) = .bool true := (sv_dst (l := _) rfl).symm.trans (hA.new 13 (by decide) (by kernel_rfl))
        refine GoesG.value (.bool true) rfl ?_ (Below.refl _ _) (fun s h1 h2 => h1 rfl)
        simp only [execOp, e1, e2]
        simp [go_sem, x0, x1, x2, x3, x4, k0, k1, k2, k3, k4, l0, l1, l2, l3, l4, m0, m1, m2, m3, m4, u0, u1, u2, v0, v1, v2]
      | 15, ho =>
        obtain rfl := Option.some.inj ho
        have e1 : a'.eval (.tmp 89) = .bool true := (sv_dst (l := _) rfl).symm.trans (hA.new 14 (by decide) (by kernel_rfl))
        refine GoesG.value (.bool true) rfl ?_ (Below.refl _ _) (fun s h1 h2 => h1 rfl)
        simp only [execOp, e1]
        simp [go_sem, x0, x1, x2, x3, x4, k0, k1, k2, k3, k4, l0, l1, l2, l3, l4, m0, m1, m2, m3, m4, u0, u1, u2, v0, v1, v2]
      | 16, ho =>
        obtain rfl := Option.some.inj ho
        have hg := hA.new 15 (by decide) (by kernel_rfl)
        refine GoesG.callG 7 #[] 15 true true rfl hg rfl ?_ (Calls.mono (KA.out W (Ext.trans HE9.out hA.rel)) ?_)
        · simp [execOp, resolve, invoke, Deferred.ofValue]
          rfl
        · rintro _ W2 ⟨rfl, hE2⟩
          exact ⟨_, rfl, hE2, fun s h1 h2 => h1 rfl⟩
      | 17, ho =>
        obtain rfl := Option.some.inj ho
        have e1 : a'.eval (.tmp 90) = .bool true := (sv_dst (l := _) rfl).symm.trans (hA.new 15 (by decide) (by kernel_rfl))
        have e2 : a'.eval (.tmp 91) = .bool true := (sv_dst (l := _) rfl).symm.trans (hA.new 16 (by decide) (by kernel_rfl))
        refine GoesG.value (.bool true) rfl ?_ (Below.refl _ _) (fun s h1 h2 => h1 rfl)
        simp only [execOp, e1, e2]
        simp [go_sem, x0, x1, x2, x3, x4, k0, k1, k2, k3, k4, l0, l1, l2, l3, l4, m0, m1, m2, m3, m4, u0, u1, u2, v0, v1, v2]
      | i + 18, ho => cases ho
    · intro vs w10 hvs hG hΦ
      obtain ⟨z0, z1, z2, z3, z4, z5, z6, z7, z8, z9, z10, z11, z12, z13, z14, z15, z16, z17, rfl⟩ : ∃ z0 z1 z2 z3 z4 z5 z6 z7 z8 z9 z10 z11 z12 z13 z14 z15 z16 z17, vs = z0 :: z1 :: z2 :: z3 :: z4 :: z5 :: z6 :: z7 :: z8 :: z9 :: z10 :: z11 :: z12 :: z13 :: z14 :: z15 :: z16 :: z17 :: [] := by
        match vs, hvs with
        | z0 :: z1 :: z2 :: z3 :: z4 :: z5 :: z6 :: z7 :: z8 :: z9 :: z10 :: z11 :: z12 :: z13 :: z14 :: z15 :: z16 :: z17 :: [], _ => exact ⟨z0, z1, z2, z3, z4, z5, z6, z7, z8, z9, z10, z11, z12, z13, z14, z15, z16, z17, rfl⟩
      have e0 : z0 = .int .i64 0 := hΦ 0 (by decide)
      subst e0
      have e1 : z1 = .bool true := hΦ 1 (by decide)
      subst e1
      have e2 : z2 = .bool true := hΦ 2 (by decide)
      subst e2
      have e3 : z3 = .agg #[.int .i64 4, .int .i64 ox, .string { data := #[] }, .int .i64 0, .slice q1 2 c1] := hΦ 3 (by decide)
      subst e3
      have e4 : z4 = .pointer (some ⟨A1, 1, none⟩) := hΦ 4 (by decide)
      subst e4
      have e5 : z5 = .int .i64 (ox : Int) := hΦ 5 (by decide)
      subst e5
      have e6 : z6 = .agg #[.int .i64 2, .int .i64 0, .string { data := #[97] }, .int .i64 0, .slice none 0 0] := hΦ 6 (by decide)
      subst e6
      have e7 : z7 = .pointer (some ⟨A2, 1, none⟩) := hΦ 7 (by decide)
      subst e7
      have e8 : z8 = .int .i64 (oy : Int) := hΦ 8 (by decide)
      subst e8
      have e9 : z9 = .agg #[.int .i64 2, .int .i64 0, .string { data := #[98] }, .int .i64 0, .slice none 0 0] := hΦ 9 (by decide)
      subst e9
      have e10 : z10 = .agg #[.int .i64 2, .int .i64 0, .string { data := #[99] }, .int .i64 0, .slice none 0 0] := hΦ 10 (by decide)
      subst e10
      have p11 : ∃ r, z11 = (binX oy grB grC).val r 2 ∧ Ex.At w10 r (binX oy grB grC) := hΦ 11 (by decide)
      have p12 : ∃ r, z12 = (binX ox grA (binX oy grB grC)).val r 2 ∧ Ex.At w10 r (binX ox grA (binX oy grB grC)) := hΦ 12 (by decide)
      have e13 : z13 = .bool true := hΦ 13 (by decide)
      subst e13
      have e14 : z14 = .bool true := hΦ 14 (by decide)
      subst e14
      have e15 : z15 = .bool true := hΦ 15 (by decide)
      subst e15
      have e16 : z16 = .bool true := hΦ 16 (by decide)
      subst e16
      have e17 : z17 = .bool true := hΦ 17 (by decide)
      subst e17
      clear hΦ hvs
      simp only [putAll, Act.put, List.setIfInBounds_toArray, List.set_cons_succ, List.set_cons_zero]
      go_wp2
      go_ret
      exact ⟨rfl, Ext.trans HE9.out hG⟩
  · obtain ⟨W2, hW2⟩ : ∃ W, ((w1.alloc (.cells #[.string (sB sy), .int .i64 (oy : Int), .int .i64 (py : Int)] 36)).alloc (.cells #[.string (sB sx), .int .i64 (ox : Int), .int .i64 (px : Int)] 36)).drew = W := ⟨_, rfl⟩
    rw [hW2]
    have hb2 : W2.heap[w1.heap.size]? = some (.cells #[.string (sB sy), .int .i64 (oy : Int), .int .i64 (py : Int)] 36 (0, 0)) := by
      rw [← hW2]
      show ((w1.alloc (.cells #[.string (sB sy), .int .i64 (oy : Int), .int .i64 (py : Int)] 36)).alloc (.cells #[.string (sB sx), .int .i64 (ox : Int), .int .i64 (px : Int)] 36)).heap[_]? = _
      rw [Below.heap_alloc _ _ _ (by rw [World.size_alloc]; omega)]
      exact alloc_here w1 (.cells #[.string (sB sy), .int .i64 (oy : Int), .int .i64 (py : Int)] 36)
    have hb1 : W2.heap[w1.heap.size + 1]? = some (.cells #[.string (sB sx), .int .i64 (ox : Int), .int .i64 (px : Int)] 36 (0, 0)) := by
      rw [← hW2]
      have := alloc_here (w1.alloc (.cells #[.string (sB sy), .int .i64 (oy : Int), .int .i64 (py : Int)] 36)) (.cells #[.string (sB sx), .int .i64 (ox : Int), .int .i64 (px : Int)] 36)
      rw [World.size_alloc] at this; exact this
    have hE2 : Ext w1 W2 := by rw [← hW2]; exact Ext.drewN' (n := 1) (((Below.refl _ w1).alloc (Nat.le_refl _) _).alloc (by simp) _)
    clear hW2 x0 x1 x2 y0 y1 y2 hBl
    generalize w1.heap.size + 1 = A1 at *
    generalize w1.heap.size = A2 at *
    have HX1 := Lib.hid hb1
    have HY1 := Lib.hid hb2
    have HE2 := Lib.hid (Ext.trans HE1.out hE2)
    have u0 := cell_of (i := 0) hb1 rfl
    have v0 := cell_of (i := 0) hb2 rfl
    clear hb1 hb2 hE2
    go_wp2_with fail
    try rw [hcat]
    refine (show Calls _ _ _ _ _ from K1.out _ HE2.out).mono ?_
    rintro _ w3 ⟨q1, c1, rfl, hA3, hE3⟩
    dsimp only
    have HA3 := Lib.hid hA3
    have HX3 := Lib.hid ((hE3.below.block _ (lt_of_block HX1.out)).trans HX1.out)
    have HY3 := Lib.hid ((hE3.below.block _ (lt_of_block HY1.out)).trans HY1.out)
    have HE3 := Lib.hid (Ext.trans HE2.out hE3)
    clear hA3 hE3 u0 v0
    have HE4 := Lib.hid (ext_alloc w3 (.cells #[.int .i64 4, .int .i64 ox, .string { data := #[] }, .int .i64 0, .slice q1 2 c1] 25))
    have HB4 := Lib.hid (alloc_here w3 (.cells #[.int .i64 4, .int .i64 ox, .string { data := #[] }, .int .i64 0, .slice q1 2 c1] 25))
    go_wp2_with fail
    refine (KN1.out _).mono ?_
    intro wa hEa
    have HEa := Lib.hid (Ext.trans HE4.out hEa)
    have HBa := Lib.hid ((hEa.block _ (lt_of_block HB4.out)).trans HB4.out)
    clear hEa
    go_wp2_with fail
    refine (KN2.out _).mono ?_
    intro wb hEb
    have HEb := Lib.hid (Ext.trans HEa.out hEb)
    have HBb := Lib.hid ((hEb.block _ (lt_of_block HBa.out)).trans HBa.out)
    clear hEb
    go_wp2_with fail
    refine (KN3.out _).mono ?_
    intro wc hEc
    have HEc := Lib.hid (Ext.trans HEb.out hEc)
    have HBc := Lib.hid ((hEc.block _ (lt_of_block HBb.out)).trans HBb.out)
    clear hEc
    go_upto_region 5 with fail
    obtain ⟨w9, hw9⟩ : ∃ W, (((wc.alloc (.cells #[.int .i64 2, .int .i64 0, .string { data := #[97] }, .int .i64 0, .slice none 0 0] 25)).alloc (.cells #[.int .i64 2, .int .i64 0, .string { data := #[98] }, .int .i64 0, .slice none 0 0] 25)).alloc (.cells #[.int .i64 2, .int .i64 0, .string { data := #[99] }, .int .i64 0, .slice none 0 0] 25)) = W := ⟨_, rfl⟩
    rw [hw9]
    have hE9 : Ext wc w9 := by rw [← hw9]; exact ((((Below.refl _ wc).alloc (Nat.le_refl _) _).alloc (by simp) _).alloc (by simp; omega) _)
    have h3 : w9.heap[wc.heap.size + 1 + 1]? = some (.cells #[.int .i64 2, .int .i64 0, .string { data := #[99] }, .int .i64 0, .slice none 0 0] 25 (0, 0)) := by
      have := alloc_here ((wc.alloc (.cells #[.int .i64 2, .int .i64 0, .string { data := #[97] }, .int .i64 0, .slice none 0 0] 25)).alloc (.cells #[.int .i64 2, .int .i64 0, .string { data := #[98] }, .int .i64 0, .slice none 0 0] 25)) (.cells #[.int .i64 2, .int .i64 0, .string { data := #[99] }, .int .i64 0, .slice none 0 0] 25)
      rw [hw9, World.size_alloc, World.size_alloc] at this; exact this
    have h2 : w9.heap[wc.heap.size + 1]? = some (.cells #[.int .i64 2, .int .i64 0, .string { data := #[98] }, .int .i64 0, .slice none 0 0] 25 (0, 0)) := by
      rw [← hw9, Below.heap_alloc _ _ _ (by rw [World.size_alloc, World.size_alloc]; omega)]
      have := alloc_here (wc.alloc (.cells #[.int .i64 2, .int .i64 0, .string { data := #[97] }, .int .i64 0, .slice none 0 0] 25)) (.cells #[.int .i64 2, .int .i64 0, .string { data := #[98] }, .int .i64 0, .slice none 0 0] 25)
      rw [World.size_alloc] at this; exact this
    have h1 : w9.heap[wc.heap.size]? = some (.cells #[.int .i64 2, .int .i64 0, .string { data := #[97] }, .int .i64 0, .slice none 0 0] 25 (0, 0)) := by
      rw [← hw9, Below.heap_alloc _ _ _ (by rw [World.size_alloc, World.size_alloc]; omega), Below.heap_alloc _ _ _ (by rw [World.size_alloc]; omega)]
      exact alloc_here wc (.cells #[.int .i64 2, .int .i64 0, .string { data := #[97] }, .int .i64 0, .slice none 0 0] 25)
    have HA9 := Lib.hid h1
    have HB9 := Lib.hid h2
    have HC9 := Lib.hid h3
    have HE39 := Lib.hid (Ext.trans HEc.out hE9)
    have HE9 := Lib.hid (Ext.trans HE3.out HE39.out)
    have HE9B := Lib.hid ((hE9.below.block _ (lt_of_block HBc.out)).trans HBc.out)
    have HX9 := Lib.hid ((HE39.out.below.block _ (lt_of_block HX3.out)).trans HX3.out)
    have HY9 := Lib.hid ((HE39.out.below.block _ (lt_of_block HY3.out)).trans HY3.out)
    have HAE := Lib.hid (show Ex.At w9 q1 (binX ox grA (binX oy grB grC)) from (HA3.out.ext HE39.out).at)
    clear hw9 hE9 h1 h2 h3
    have u0 := cell_of (i := 0) HX9.out rfl
    have u2 := cell_of (i := 2) HX9.out rfl
    have v2 := cell_of (i := 2) HY9.out rfl
    go_upto_region 8 with fail
    refine wp_region_tail (l1 := [_, _, _, _, _, _, _, _, _, _, _, _, _, _, _, _, _, _]) (l2 := [_]) (by kernel_rfl) Ext (fun W => Below.refl _ W) (fun W => show Below W.heap.size W { W with drawn := W.drawn + 1 } from ⟨rfl, rfl, rfl, Nat.le_refl _, fun _ _ => rfl⟩) Ext.trans
      (fun i s W => match i with
        | 0 => s 0 = .int .i64 0
        | 1 => s 1 = .bool true
        | 2 => s 2 = .bool true
        | 3 => s 3 = .agg #[.int .i64 4, .int .i64 ox, .string { data := #[] }, .int .i64 0, .slice q1 2 c1]
        | 4 => s 4 = .pointer (some ⟨A1, 1, none⟩)
        | 5 => s 5 = .int .i64 (ox : Int)
        | 6 => s 6 = .agg #[.int .i64 2, .int .i64 0, .string { data := #[97] }, .int .i64 0, .slice none 0 0]
        | 7 => s 7 = .pointer (some ⟨A2, 1, none⟩)
        | 8 => s 8 = .int .i64 (oy : Int)
        | 9 => s 9 = .agg #[.int .i64 2, .int .i64 0, .string { data := #[98] }, .int .i64 0, .slice none 0 0]
        | 10 => s 10 = .agg #[.int .i64 2, .int .i64 0, .string { data := #[99] }, .int .i64 0, .slice none 0 0]
        | 11 => ∃ r, s 11 = (binX oy grB grC).val r 2 ∧ Ex.At W r (binX oy grB grC)
        | 12 => ∃ r, s 12 = (binX ox grA (binX oy grB grC)).val r 2 ∧ Ex.At W r (binX ox grA (binX oy grB grC))
        | 13 => s 13 = .bool true
        | 14 => s 14 = .bool true
        | 15 => s 15 = .bool true
        | 16 => s 16 = .bool true
        | 17 => s 17 = .bool true
        | _ => True)
      (fun i => [i])
      (by
        intro i s s' W W' h hs hE
        have hs := hs i (by simp)
        match i, h, hs with
        | 0, h, hs => exact hs.trans h
        | 1, h, hs => exact hs.trans h
        | 2, h, hs => exact hs.trans h
        | 3, h, hs => exact hs.trans h
        | 4, h, hs => exact hs.trans h
        | 5, h, hs => exact hs.trans h
        | 6, h, hs => exact hs.trans h
        | 7, h, hs => exact hs.trans h
        | 8, h, hs => exact hs.trans h
        | 9, h, hs => exact hs.trans h
        | 10, h, hs => exact hs.trans h
        | 11, ⟨r, h1, h2⟩, hs => exact ⟨r, hs.trans h1, h2.below hE⟩
        | 12, ⟨r, h1, h2⟩, hs => exact ⟨r, hs.trans h1, h2.below hE⟩
        | 13, h, hs => exact hs.trans h
        | 14, h, hs => exact hs.trans h
        | 15, h, hs => exact hs.trans h
        | 16, h, hs => exact hs.trans h
        | 17, h, hs => exact hs.trans h
        | i + 18, h, hs => exact trivial)
      (by kernel_rfl) (by kernel_rfl) (by kernel_rfl) 111 rfl (by kernel_rfl) (by kernel_rfl) ?_ ?_
    · intro i op ho a' W hA
      have x0 : W.cell? ⟨w3.heap.size, 0, none⟩ = _ := Ext.cellE (cell_of HE9B.out rfl) hA.rel
      have x1 : W.cell? ⟨w3.heap.size, 1, none⟩ = _ := Ext.cellE (cell_of HE9B.out rfl) hA.rel
      have x2 : W.cell? ⟨w3.heap.size, 2, none⟩ = _ := Ext.cellE (cell_of HE9B.out rfl) hA.rel
      have x3 : W.cell? ⟨w3.heap.size, 3, none⟩ = _ := Ext.cellE (cell_of HE9B.out rfl) hA.rel
      have x4 : W.cell? ⟨w3.heap.size, 4, none⟩ = _ := Ext.cellE (cell_of HE9B.out rfl) hA.rel
      have k0 : W.cell? ⟨wc.heap.size, 0, none⟩ = _ := Ext.cellE (cell_of HA9.out rfl) hA.rel
      have k1 : W.cell? ⟨wc.heap.size, 1, none⟩ = _ := Ext.cellE (cell_of HA9.out rfl) hA.rel
      have k2 : W.cell? ⟨wc.heap.size, 2, none⟩ = _ := Ext.cellE (cell_of HA9.out rfl) hA.rel
      have k3 : W.cell? ⟨wc.heap.size, 3, none⟩ = _ := Ext.cellE (cell_of HA9.out rfl) hA.rel
      have k4 : W.cell? ⟨wc.heap.size, 4, none⟩ = _ := Ext.cellE (cell_of HA9.out rfl) hA.rel
      have l0 : W.cell? ⟨wc.heap.size + 1, 0, none⟩ = _ := Ext.cellE (cell_of HB9.out rfl) hA.rel
      have l1 : W.cell? ⟨wc.heap.size + 1, 1, none⟩ = _ := Ext.cellE (cell_of HB9.out rfl) hA.rel
      have l2 : W.cell? ⟨wc.heap.size + 1, 2, none⟩ = _ := Ext.cellE (cell_of HB9.out rfl) hA.rel
      have l3 : W.cell? ⟨wc.heap.size + 1, 3, none⟩ = _ := Ext.cellE (cell_of HB9.out rfl) hA.rel
      have l4 : W.cell? ⟨wc.heap.size + 1, 4, none⟩ = _ := Ext.cellE (cell_of HB9.out rfl) hA.rel
      have m0 : W.cell? ⟨wc.heap.size + 1 + 1, 0, none⟩ = _ := Ext.cellE (cell_of HC9.out rfl) hA.rel
      have m1 : W.cell? ⟨wc.heap.size + 1 + 1, 1, none⟩ = _ := Ext.cellE (cell_of HC9.out rfl) hA.rel
      have m2 : W.cell? ⟨wc.heap.size + 1 + 1, 2, none⟩ = _ := Ext.cellE (cell_of HC9.out rfl) hA.rel
      have m3 : W.cell? ⟨wc.heap.size + 1 + 1, 3, none⟩ = _ := Ext.cellE (cell_of HC9.out rfl) hA.rel
      have m4 : W.cell? ⟨wc.heap.size + 1 + 1, 4, none⟩ = _ := Ext.cellE (cell_of HC9.out rfl) hA.rel
      have u0 : W.cell? ⟨A1, 0, none⟩ = _ := Ext.cellE (cell_of HX9.out rfl) hA.rel
      have u1 : W.cell? ⟨A1, 1, none⟩ = _ := Ext.cellE (cell_of HX9.out rfl) hA.rel
      have u2 : W.cell? ⟨A1, 2, none⟩ = _ := Ext.cellE (cell_of HX9.out rfl) hA.rel
      have v0 : W.cell? ⟨A2, 0, none⟩ = _ := Ext.cellE (cell_of HY9.out rfl) hA.rel
      have v1 : W.cell? ⟨A2, 1, none⟩ = _ := Ext.cellE (cell_of HY9.out rfl) hA.rel
      have v2 : W.cell? ⟨A2, 2, none⟩ = _ := Ext.cellE (cell_of HY9.out rfl) hA.rel
      match i, ho with
      | 0, ho =>
        obtain rfl := Option.some.inj ho
        have e1 : a'.eval (.tmp 10) = .int .i64 0 := hA.keep 10 (by kernel_rfl)
        refine GoesG.value (.int .i64 0) rfl ?_ (Below.refl _ _) (fun s h1 h2 => h1 rfl)
        simp only [execOp, e1]
        simp [go_sem, x0, x1, x2, x3, x4, k0, k1, k2, k3, k4, l0, l1, l2, l3, l4, m0, m1, m2, m3, m4, u0, u1, u2, v0, v1, v2]
      | 1, ho =>
        obtain rfl := Option.some.inj ho
        have e1 : a'.eval (.tmp 75) = .int .i64 0 := (sv_dst (l := _) rfl).symm.trans (hA.new 0 (by decide) (by kernel_rfl))
        refine GoesG.value (.bool true) rfl ?_ (Below.refl _ _) (fun s h1 h2 => h1 rfl)
        simp only [execOp, e1]
        simp [go_sem, x0, x1, x2, x3, x4, k0, k1, k2, k3, k4, l0, l1, l2, l3, l4, m0, m1, m2, m3, m4, u0, u1, u2, v0, v1, v2]
      | 2, ho =>
        obtain rfl := Option.some.inj ho
        have e1 : a'.eval (.tmp 76) = .bool true := (sv_dst (l := _) rfl).symm.trans (hA.new 1 (by decide) (by kernel_rfl))
        refine GoesG.value (.bool true) rfl ?_ (Below.refl _ _) (fun s h1 h2 => h1 rfl)
        simp only [execOp, e1]
        simp [go_sem, x0, x1, x2, x3, x4, k0, k1, k2, k3, k4, l0, l1, l2, l3, l4, m0, m1, m2, m3, m4, u0, u1, u2, v0, v1, v2]
      | 3, ho =>
        obtain rfl := Option.some.inj ho
        have hg := hA.new 2 (by decide) (by kernel_rfl)
        have e1 : a'.eval (.tmp 8) = .pointer (some ⟨w3.heap.size, 0, none⟩) := hA.keep 8 (by kernel_rfl)
        refine GoesG.valueW (.agg #[.int .i64 4, .int .i64 ox, .string { data := #[] }, .int .i64 0, .slice q1 2 c1]) 2 true true rfl hg rfl ?_ (Below.refl _ _) (fun s h1 h2 => h1 rfl)
        simp only [execOp, e1]
        simp [go_sem, x0, x1, x2, x3, x4, k0, k1, k2, k3, k4, l0, l1, l2, l3, l4, m0, m1, m2, m3, m4, u0, u1, u2, v0, v1, v2]
      | 4, ho =>
        obtain rfl := Option.some.inj ho
        have hg := hA.new 2 (by decide) (by kernel_rfl)
        have e1 : a'.eval (.tmp 6) = .pointer (some ⟨A1, 0, none⟩) := hA.keep 6 (by kernel_rfl)
        refine GoesG.valueW (.pointer (some ⟨A1, 1, none⟩)) 2 true true rfl hg rfl ?_ (Below.refl _ _) (fun s h1 h2 => h1 rfl)
        simp only [execOp, e1]
        simp [go_sem, x0, x1, x2, x3, x4, k0, k1, k2, k3, k4, l0, l1, l2, l3, l4, m0, m1, m2, m3, m4, u0, u1, u2, v0, v1, v2]
      | 5, ho =>
        obtain rfl := Option.some.inj ho
        have hg := hA.new 2 (by decide) (by kernel_rfl)
        have e1 : a'.eval (.tmp 79) = .pointer (some ⟨A1, 1, none⟩) := (sv_dst (l := _) rfl).symm.trans (hA.new 4 (by decide) (by kernel_rfl))
        refine GoesG.valueW (.int .i64 (ox : Int)) 2 true true rfl hg rfl ?_ (Below.refl _ _) (fun s h1 h2 => h1 rfl)
        simp only [execOp, e1]
        simp [go_sem, x0, x1, x2, x3, x4, k0, k1, k2, k3, k4, l0, l1, l2, l3, l4, m0, m1, m2, m3, m4, u0, u1, u2, v0, v1, v2]
      | 6, ho =>
        obtain rfl := Option.some.inj ho
        have hg := hA.new 2 (by decide) (by kernel_rfl)
        have e1 : a'.eval (.tmp 11) = .pointer (some ⟨wc.heap.size, 0, none⟩) := hA.keep 11 (by kernel_rfl)
        refine GoesG.valueW (.agg #[.int .i64 2, .int .i64 0, .string { data := #[97] }, .int .i64 0, .slice none 0 0]) 2 true true rfl hg rfl ?_ (Below.refl _ _) (fun s h1 h2 => h1 rfl)
        simp only [execOp, e1]
        simp [go_sem, x0, x1, x2, x3, x4, k0, k1, k2, k3, k4, l0, l1, l2, l3, l4, m0, m1, m2, m3, m4, u0, u1, u2, v0, v1, v2]
      | 7, ho =>
        obtain rfl := Option.some.inj ho
        have hg := hA.new 2 (by decide) (by kernel_rfl)
        have e1 : a'.eval (.tmp 7) = .pointer (some ⟨A2, 0, none⟩) := hA.keep 7 (by kernel_rfl)
        refine GoesG.valueW (.pointer (some ⟨A2, 1, none⟩)) 2 true true rfl hg rfl ?_ (Below.refl _ _) (fun s h1 h2 => h1 rfl)
        simp only [execOp, e1]
        simp [go_sem, x0, x1, x2, x3, x4, k0, k1, k2, k3, k4, l0, l1, l2, l3, l4, m0, m1, m2, m3, m4, u0, u1, u2, v0, v1, v2]
      | 8, ho =>
        obtain rfl := Option.some.inj ho
        have hg := hA.new 2 (by decide) (by kernel_rfl)
        have e1 : a'.eval (.tmp 82) = .pointer (some ⟨A2, 1, none⟩) := (sv_dst (l := _) rfl).symm.trans (hA.new 7 (by decide) (by kernel_rfl))
        refine GoesG.valueW (.int .i64 (oy : Int)) 2 true true rfl hg rfl ?_ (Below.refl _ _) (fun s h1 h2 => h1 rfl)
        simp only [execOp, e1]
        simp [go_sem, x0, x1, x2, x3, x4, k0, k1, k2, k3, k4, l0, l1, l2, l3, l4, m0, m1, m2, m3, m4, u0, u1, u2, v0, v1, v2]
      | 9, ho =>
        obtain rfl := Option.some.inj ho
        have hg := hA.new 2 (by decide) (by kernel_rfl)
        have e1 : a'.eval (.tmp 12) = .pointer (some ⟨wc.heap.size + 1, 0, none⟩) := hA.keep 12 (by kernel_rfl)
        refine GoesG.valueW (.agg #[.int .i64 2, .int .i64 0, .string { data := #[98] }, .int .i64 0, .slice none 0 0]) 2 true true rfl hg rfl ?_ (Below.refl _ _) (fun s h1 h2 => h1 rfl)
        simp only [execOp, e1]
        simp [go_sem, x0, x1, x2, x3, x4, k0, k1, k2, k3, k4, l0, l1, l2, l3, l4, m0, m1, m2, m3, m4, u0, u1, u2, v0, v1, v2]
      | 10, ho =>
        obtain rfl := Option.some.inj ho
        have hg := hA.new 2 (by decide) (by kernel_rfl)
        have e1 : a'.eval (.tmp 13) = .pointer (some ⟨wc.heap.size + 1 + 1, 0, none⟩) := hA.keep 13 (by kernel_rfl)
        refine GoesG.valueW (.agg #[.int .i64 2, .int .i64 0, .string { data := #[99] }, .int .i64 0, .slice none 0 0]) 2 true true rfl hg rfl ?_ (Below.refl _ _) (fun s h1 h2 => h1 rfl)
        simp only [execOp, e1]
        simp [go_sem, x0, x1, x2, x3, x4, k0, k1, k2, k3, k4, l0, l1, l2, l3, l4, m0, m1, m2, m3, m4, u0, u1, u2, v0, v1, v2]
      | 11, ho =>
        obtain rfl := Option.some.inj ho
        have hg := hA.new 2 (by decide) (by kernel_rfl)
        have e1 : a'.eval (.tmp 83) = .int .i64 (oy : Int) := (sv_dst (l := _) rfl).symm.trans (hA.new 8 (by decide) (by kernel_rfl))
        have e2 : a'.eval (.tmp 84) = .agg #[.int .i64 2, .int .i64 0, .string { data := #[98] }, .int .i64 0, .slice none 0 0] := (sv_dst (l := _) rfl).symm.trans (hA.new 9 (by decide) (by kernel_rfl))
        have e3 : a'.eval (.tmp 85) = .agg #[.int .i64 2, .int .i64 0, .string { data := #[99] }, .int .i64 0, .slice none 0 0] := (sv_dst (l := _) rfl).symm.trans (hA.new 10 (by decide) (by kernel_rfl))
        refine GoesG.callG 14 #[.int .i64 (oy : Int), .agg #[.int .i64 2, .int .i64 0, .string { data := #[98] }, .int .i64 0, .slice none 0 0], .agg #[.int .i64 2, .int .i64 0, .string { data := #[99] }, .int .i64 0, .slice none 0 0]] 2 true true rfl hg rfl ?_ (Calls.mono (lawBin_any oy (by omega) (by omega) grB grC none none 0 0 W (AtB_leaf (fun _ => True) W none (fits_nam (s := [98]) (by decide))).at (AtB_leaf (fun _ => True) W none (fits_nam (s := [99]) (by decide))).at) ?_)
        · simp [execOp, resolve, invoke, Deferred.ofValue, e1, e2, e3]
          rfl
        · rintro _ W2 ⟨r2, rfl, hAt, hE2⟩
          exact ⟨_, rfl, hE2, fun s h1 h2 => ⟨r2, h1 rfl, hAt⟩⟩
      | 12, ho =>
        obtain rfl := Option.some.inj ho
        have hg := hA.new 2 (by decide) (by kernel_rfl)
        have e1 : a'.eval (.tmp 80) = .int .i64 (ox : Int) := (sv_dst (l := _) rfl).symm.trans (hA.new 5 (by decide) (by kernel_rfl))
        have e2 : a'.eval (.tmp 81) = .agg #[.int .i64 2, .int .i64 0, .string { data := #[97] }, .int .i64 0, .slice none 0 0] := (sv_dst (l := _) rfl).symm.trans (hA.new 6 (by decide) (by kernel_rfl))
        obtain ⟨r0, h11, hA11⟩ := hA.new 11 (by decide) (by kernel_rfl)
        have e3 : a'.eval (.tmp 86) = (binX oy grB grC).val r0 2 := (sv_dst (l := _) rfl).symm.trans h11
        refine GoesG.callG 14 #[.int .i64 (ox : Int), .agg #[.int .i64 2, .int .i64 0, .string { data := #[97] }, .int .i64 0, .slice none 0 0], (binX oy grB grC).val r0 2] 2 true true rfl hg rfl ?_ (Calls.mono (lawBin_any ox (by omega) (by omega) grA (binX oy grB grC) none r0 0 2 W (AtB_leaf (fun _ => True) W none (fits_nam (s := [97]) (by decide))).at hA11) ?_)
        · simp [execOp, resolve, invoke, Deferred.ofValue, e1, e2, e3]
          rfl
        · rintro _ W2 ⟨r2, rfl, hAt, hE2⟩
          exact ⟨_, rfl, hE2, fun s h1 h2 => ⟨r2, h1 rfl, hAt⟩⟩
      | 13, ho =>
        obtain rfl := Option.some.inj ho
        have hg := hA.new 2 (by decide) (by kernel_rfl)
        have e1 : a'.eval (.tmp 78) = .agg #[.int .i64 4, .int .i64 ox, .string { data := #[] }, .int .i64 0, .slice q1 2 c1] := (sv_dst (l := _) rfl).symm.trans (hA.new 3 (by decide) (by kernel_rfl))
        obtain ⟨r0, h12, hA12⟩ := hA.new 12 (by decide) (by kernel_rfl)
        have e2 : a'.eval (.tmp 87) = (binX ox grA (binX oy grB grC)).val r0 2 := (sv_dst (l := _) rfl).symm.trans h12
        have hq := refEqualX_any (binX ox grA (binX oy grB grC)) (binX ox grA (binX oy grB grC)) q1 r0 c1 2 W (HAE.out.below hA.rel) hA12
        rw [HCK.out, eqX_self] at hq
        refine GoesG.callG 11 #[.agg #[.int .i64 4, .int .i64 ox, .string { data := #[] }, .int .i64 0, .slice q1 2 c1], (binX ox grA (binX oy grB grC)).val r0 2] 2 true true rfl hg rfl ?_ (Calls.mono (show Gives _ _ #[.agg #[.int .i64 4, .int .i64 ox, .string { data := #[] }, .int .i64 0, .slice q1 2 c1], (binX ox grA (binX oy grB grC)).val r0 2] W (.bool true) from hq) ?_)
        · simp [execOp, resolve, invoke, Deferred.ofValue, e1, e2]
          rfl
        · rintro _ W2 ⟨rfl, hE2⟩
          exact ⟨_, rfl, hE2, fun s h1 h2 => h1 rfl⟩
      | 14, ho =>
        obtain rfl := Option.some.inj ho
        have e1 : a'.eval (.tmp 77) = .bool true := (sv_dst (l := _) rfl).symm.trans (hA.new 2 (by decide) (by kernel_rfl))
        have e2 : a'.eval (.tmp 88) = .bool true := (sv_dst (l := _) rfl).symm.trans (hA.new 13 (by decide) (by kernel_rfl))
        refine GoesG.value (.bool true) rfl ?_ (Below.refl _ _) (fun s h1 h2 => h1 rfl)
        simp only [execOp, e1, e2]
        simp [go_sem, x0, x1, x2, x3, x4, k0, k1, k2, k3, k4, l0, l1, l2, l3, l4, m0, m1, m2, m3, m4, u0, u1, u2, v0, v1, v2]
      | 15, ho =>
        obtain rfl := Option.some.inj ho
        have e1 : a'.eval (.tmp 89) = .bool true := (sv_dst (l := _) rfl).symm.trans (hA.new 14 (by decide) (by kernel_rfl))
        refine GoesG.value (.bool true) rfl ?_ (Below.refl _ _) (fun s h1 h2 => h1 rfl)
        simp only [execOp, e1]
        simp [go_sem, x0, x1, x2, x3, x4, k0, k1, k2, k3, k4, l0, l1, l2, l3, l4, m0, m1, m2, m3, m4, u0, u1, u2, v0, v1, v2]
      | 16, ho =>
        obtain rfl := Option.some.inj ho
        have hg := hA.new 15 (by decide) (by kernel_rfl)
        refine GoesG.callG 7 #[] 15 true true rfl hg rfl ?_ (Calls.mono (KA.out W (Ext.trans HE9.out hA.rel)) ?_)
        · simp [execOp, resolve, invoke, Deferred.ofValue]
          rfl
        · rintro _ W2 ⟨rfl, hE2⟩
          exact ⟨_, rfl, hE2, fun s h1 h2 => h1 rfl⟩
      | 17, ho =>
        obtain rfl := Option.some.inj ho
        have e1 : a'.eval (.tmp 90) = .bool true := (sv_dst (l := _) rfl).symm.trans (hA.new 15 (by decide) (by kernel_rfl))
        have e2 : a'.eval (.tmp 91) = .bool true := (sv_dst (l := _) rfl).symm.trans (hA.new 16 (by decide) (by kernel_rfl))
        refine GoesG.value (.bool true) rfl ?_ (Below.refl _ _) (fun s h1 h2 => h1 rfl)
        simp only [execOp, e1, e2]
        simp [go_sem, x0, x1, x2, x3, x4, k0, k1, k2, k3, k4, l0, l1, l2, l3, l4, m0, m1, m2, m3, m4, u0, u1, u2, v0, v1, v2]
      | i + 18, ho => cases ho
    · intro vs w10 hvs hG hΦ
      obtain ⟨z0, z1, z2, z3, z4, z5, z6, z7, z8, z9, z10, z11, z12, z13, z14, z15, z16, z17, rfl⟩ : ∃ z0 z1 z2 z3 z4 z5 z6 z7 z8 z9 z10 z11 z12 z13 z14 z15 z16 z17, vs = z0 :: z1 :: z2 :: z3 :: z4 :: z5 :: z6 :: z7 :: z8 :: z9 :: z10 :: z11 :: z12 :: z13 :: z14 :: z15 :: z16 :: z17 :: [] := by
        match vs, hvs with
        | z0 :: z1 :: z2 :: z3 :: z4 :: z5 :: z6 :: z7 :: z8 :: z9 :: z10 :: z11 :: z12 :: z13 :: z14 :: z15 :: z16 :: z17 :: [], _ => exact ⟨z0, z1, z2, z3, z4, z5, z6, z7, z8, z9, z10, z11, z12, z13, z14, z15, z16, z17, rfl⟩
      have e0 : z0 = .int .i64 0 := hΦ 0 (by decide)
      subst e0
      have e1 : z1 = .bool true := hΦ 1 (by decide)
      subst e1
      have e2 : z2 = .bool true := hΦ 2 (by decide)
      subst e2
      have e3 : z3 = .agg #[.int .i64 4, .int .i64 ox, .string { data := #[] }, .int .i64 0, .slice q1 2 c1] := hΦ 3 (by decide)
      subst e3
      have e4 : z4 = .pointer (some ⟨A1, 1, none⟩) := hΦ 4 (by decide)
      subst e4
      have e5 : z5 = .int .i64 (ox : Int) := hΦ 5 (by decide)
      subst e5
      have e6 : z6 = .agg #[.int .i64 2, .int .i64 0, .string { data := #[97] }, .int .i64 0, .slice none 0 0] := hΦ 6 (by decide)
      subst e6
      have e7 : z7 = .pointer (some ⟨A2, 1, none⟩) := hΦ 7 (by decide)
      subst e7
      have e8 : z8 = .int .i64 (oy : Int) := hΦ 8 (by decide)
      subst e8
      have e9 : z9 = .agg #[.int .i64 2, .int .i64 0, .string { data := #[98] }, .int .i64 0, .slice none 0 0] := hΦ 9 (by decide)
      subst e9
      have e10 : z10 = .agg #[.int .i64 2, .int .i64 0, .string { data := #[99] }, .int .i64 0, .slice none 0 0] := hΦ 10 (by decide)
      subst e10
      have p11 : ∃ r, z11 = (binX oy grB grC).val r 2 ∧ Ex.At w10 r (binX oy grB grC) := hΦ 11 (by decide)
      have p12 : ∃ r, z12 = (binX ox grA (binX oy grB grC)).val r 2 ∧ Ex.At w10 r (binX ox grA (binX oy grB grC)) := hΦ 12 (by decide)
      have e13 : z13 = .bool true := hΦ 13 (by decide)
      subst e13
      have e14 : z14 = .bool true := hΦ 14 (by decide)
      subst e14
      have e15 : z15 = .bool true := hΦ 15 (by decide)
      subst e15
      have e16 : z16 = .bool true := hΦ 16 (by decide)
      subst e16
      have e17 : z17 = .bool true := hΦ 17 (by decide)
      subst e17
      clear hΦ hvs
      simp only [putAll, Act.put, List.setIfInBounds_toArray, List.set_cons_succ, List.set_cons_zero]
      go_wp2
      go_ret
      exact ⟨rfl, Ext.trans HE9.out hG⟩
set_option maxRecDepth 100000 in
set_option maxHeartbeats 16000000 in
theorem grp_B2 (i k m n : Nat) (hi : i ≤ 255) (hk : k ≤ 255) (hmi : (i : Int).tmod 13 = (m : Int)) (hnk : (k : Int).tmod 13 = (n : Int)) (hm13 : m < 13) (hn13 : n < 13) (sx : List UInt8) (ox px : Nat) (sy : List UInt8) (oy py : Nat)
    (hxe : grL[m]'(by rw [grL_len]; exact hm13) = (sx, ox, px)) (hye : grL[n]'(by rw [grL_len]; exact hn13) = (sy, oy, py)) (hc : ¬ (px = 3 ∧ py = 3) ∧ px < py) (e1 : ((px : Int) == 3) = true) (e2 : ((py : Int) == 3) = false) (e3 : (px : Int) < (py : Int))
    (w : World) (hTab : TabW w) (hM : MaxL w) : Gives Tryd.prog 5 #[.int .u8 (i : Int), .int .u8 (k : Int)] w (.bool true) := by
  have hXL : (sx, ox, px) ∈ grL := by rw [← hxe]; exact List.getElem_mem _
  have hYL : (sy, oy, py) ∈ grL := by rw [← hye]; exact List.getElem_mem _
  have KA := Lib.hid (fun W (hW : Ext w W) => lxAwake_any W (hTab.below hW) (hM.ext hW))
  obtain ⟨_, hx1, hx2, hx3, hx4, hx5, hx6⟩ := gr_lx _ hXL
  obtain ⟨_, hy1, hy2, hy3, hy4, hy5, hy6⟩ := gr_lx _ hYL
  dsimp only at hx1 hx2 hx3 hx4 hx5 hx6 hy1 hy2 hy3 hy4 hy5 hy6
  obtain ⟨r, hr, hps⟩ := gr_ps hXL hYL
  unfold grR at hps; rw [if_neg (show ¬ ((sx, ox, px).2.2 = 3 ∧ (sy, oy, py).2.2 = 3) from hc.1), if_pos (show (sx, ox, px).2.2 < (sy, oy, py).2.2 from hc.2)] at hps
  have hgs : grS sx sy = 97 :: (sx ++ 98 :: (sy ++ [99])) := by simp [grS]
  dsimp only at hps
  have K1 := Lib.hid (fun W (hW : Ext w W) => (by
    have := Parse_any (grS sx sy) W (by simp [grS]; omega) (hTab.below hW) (hM.ext hW) r (fun _ => hr)
    rw [hps, hgs] at this; exact this : Calls Tryd.prog 8 #[sV (97 :: (sx ++ 98 :: (sy ++ [99])))] W fun e w' => ∃ q cc, e = .returned (.tuple #[.agg #[.int .i64 4, .int .i64 ox, .string { data := #[] }, .int .i64 0, .slice q 2 cc], .int .i64 0, .int .i64 0]) ∧ AtB (W.heap.size ≤ ·) w' q (binX ox grA (binX oy grB grC)) ∧ Ext W w'))
  have KN1 := Lib.hid (fun W => (show Gives Tryd.prog 13 #[.string { data := #[97] }] W (.agg #[.int .i64 2, .int .i64 0, .string { data := #[97] }, .int .i64 0, .slice none 0 0]) from lawName_any [97] W))
  have KN2 := Lib.hid (fun W => (show Gives Tryd.prog 13 #[.string { data := #[98] }] W (.agg #[.int .i64 2, .int .i64 0, .string { data := #[98] }, .int .i64 0, .slice none 0 0]) from lawName_any [98] W))
  have KN3 := Lib.hid (fun W => (show Gives Tryd.prog 13 #[.string { data := #[99] }] W (.agg #[.int .i64 2, .int .i64 0, .string { data := #[99] }, .int .i64 0, .slice none 0 0]) from lawName_any [99] W))
  have HCK := Lib.hid (gr_chk1 _ hXL _ hYL)
  dsimp only at HCK
  have hcat : ({ data := #[97] } : ByteArray) ++ sB sx ++ { data := #[98] } ++ sB sy ++ { data := #[99] } = sB (97 :: (sx ++ 98 :: (sy ++ [99]))) := by
    show sB [97] ++ sB sx ++ sB [98] ++ sB sy ++ sB [99] = _
    rw [sB_app, sB_app, sB_app, sB_app]
    simp
  have hsz := sB_size sx
  clear hTab hM hr hps hXL hYL hx1 hx2 hy1 hy2 hc
  unfold Gives
  go_enter Tryd.func5, Tryd.ntmps5
  go_wp2_with fail
  refine (show Calls _ _ _ _ _ from lawOps_any w).mono ?_
  rintro _ w1 ⟨B, rfl, hE1, hC⟩
  have hx := hC m hm13
  have hy := hC n hn13
  have HE1 := Lib.hid hE1
  rw [hxe] at hx
  rw [hye] at hy
  clear hC hE1 hxe hye
  dsimp only [opI] at hx hy
  obtain ⟨x0, x1, x2⟩ := hx
  obtain ⟨y0, y1, y2⟩ := hy
  have hBl : B < w1.heap.size := cell_lt' x0
  go_upto_region 2 with fail
  go_region
  · obtain ⟨W2, hW2⟩ : ∃ W, ((w1.alloc (.cells #[.string (sB sx), .int .i64 (ox : Int), .int .i64 (px : Int)] 36)).alloc (.cells #[.string (sB sy), .int .i64 (oy : Int), .int .i64 (py : Int)] 36)).drew = W := ⟨_, rfl⟩
    rw [hW2]
    have hb1 : W2.heap[w1.heap.size]? = some (.cells #[.string (sB sx), .int .i64 (ox : Int), .int .i64 (px : Int)] 36 (0, 0)) := by
      rw [← hW2]
      show ((w1.alloc (.cells #[.string (sB sx), .int .i64 (ox : Int), .int .i64 (px : Int)] 36)).alloc (.cells #[.string (sB sy), .int .i64 (oy : Int), .int .i64 (py : Int)] 36)).heap[_]? = _
      rw [Below.heap_alloc _ _ _ (by rw [World.size_alloc]; omega)]
      exact alloc_here w1 (.cells #[.string (sB sx), .int .i64 (ox : Int), .int .i64 (px : Int)] 36)
    have hb2 : W2.heap[w1.heap.size + 1]? = some (.cells #[.string (sB sy), .int .i64 (oy : Int), .int .i64 (py : Int)] 36 (0, 0)) := by
      rw [← hW2]
      have := alloc_here (w1.alloc (.cells #[.string (sB sx), .int .i64 (ox : Int), .int .i64 (px : Int)] 36)) (.cells #[.string (sB sy), .int .i64 (oy : Int), .int .i64 (py : Int)] 36)
      rw [World.size_alloc] at this; exact this
    have hE2 : Ext w1 W2 := by rw [← hW2]; exact Ext.drewN' (n := 1) (((Below.refl _ w1).alloc (Nat.le_refl _) _).alloc (by simp) _)
    clear hW2 x0 x1 x2 y0 y1 y2 hBl
    generalize w1.heap.size + 1 = A2 at *
    generalize w1.heap.size = A1 at *
    have HX1 := Lib.hid hb1
    have HY1 := Lib.hid hb2
    have HE2 := Lib.hid (Ext.trans HE1.out hE2)
    have u0 := cell_of (i := 0) hb1 rfl
    have v0 := cell_of (i := 0) hb2 rfl
    clear hb1 hb2 hE2
    go_wp2_with fail
    try rw [hcat]
    refine (show Calls _ _ _ _ _ from K1.out _ HE2.out).mono ?_
    rintro _ w3 ⟨q1, c1, rfl, hA3, hE3⟩
    dsimp only
    have HA3 := Lib.hid hA3
    have HX3 := Lib.hid ((hE3.below.block _ (lt_of_block HX1.out)).trans HX1.out)
    have HY3 := Lib.hid ((hE3.below.block _ (lt_of_block HY1.out)).trans HY1.out)
    have HE3 := Lib.hid (Ext.trans HE2.out hE3)
    clear hA3 hE3 u0 v0
    have HE4 := Lib.hid (ext_alloc w3 (.cells #[.int .i64 4, .int .i64 ox, .string { data := #[] }, .int .i64 0, .slice q1 2 c1] 25))
    have HB4 := Lib.hid (alloc_here w3 (.cells #[.int .i64 4, .int .i64 ox, .string { data := #[] }, .int .i64 0, .slice q1 2 c1] 25))
    go_wp2_with fail
    refine (KN1.out _).mono ?_
    intro wa hEa
    have HEa := Lib.hid (Ext.trans HE4.out hEa)
    have HBa := Lib.hid ((hEa.block _ (lt_of_block HB4.out)).trans HB4.out)
    clear hEa
    go_wp2_with fail
    refine (KN2.out _).mono ?_
    intro wb hEb
    have HEb := Lib.hid (Ext.trans HEa.out hEb)
    have HBb := Lib.hid ((hEb.block _ (lt_of_block HBa.out)).trans HBa.out)
    clear hEb
    go_wp2_with fail
    refine (KN3.out _).mono ?_
    intro wc hEc
    have HEc := Lib.hid (Ext.trans HEb.out hEc)
    have HBc := Lib.hid ((hEc.block _ (lt_of_block HBb.out)).trans HBb.out)
    clear hEc
    go_upto_region 5 with fail
    obtain ⟨w9, hw9⟩ : ∃ W, (((wc.alloc (.cells #[.int .i64 2, .int .i64 0, .string { data := #[97] }, .int .i64 0, .slice none 0 0] 25)).alloc (.cells #[.int .i64 2, .int .i64 0, .string { data := #[98] }, .int .i64 0, .slice none 0 0] 25)).alloc (.cells #[.int .i64 2, .int .i64 0, .string { data := #[99] }, .int .i64 0, .slice none 0 0] 25)) = W := ⟨_, rfl⟩
    rw [hw9]
    have hE9 : Ext wc w9 := by rw [← hw9]; exact ((((Below.refl _ wc).alloc (Nat.le_refl _) _).alloc (by simp) _).alloc (by simp; omega) _)
    have h3 : w9.heap[wc.heap.size + 1 + 1]? = some (.cells #[.int .i64 2, .int .i64 0, .string { data := #[99] }, .int .i64 0, .slice none 0 0] 25 (0, 0)) := by
      have := alloc_here ((wc.alloc (.cells #[.int .i64 2, .int .i64 0, .string { data := #[97] }, .int .i64 0, .slice none 0 0] 25)).alloc (.cells #[.int .i64 2, .int .i64 0, .string { data := #[98] }, .int .i64 0, .slice none 0 0] 25)) (.cells #[.int .i64 2, .int .i64 0, .string { data := #[99] }, .int .i64 0, .slice none 0 0] 25)
      rw [hw9, World.size_alloc, World.size_alloc] at this; exact this
    have h2 : w9.heap[wc.heap.size + 1]? = some (.cells #[.int .i64 2, .int .i64 0, .string { data := #[98] }, .int .i64 0, .slice none 0 0] 25 (0, 0)) := by
      rw [← hw9, Below.heap_alloc _ _ _ (by rw [World.size_alloc, World.size_alloc]; omega)]
      have := alloc_here (wc.alloc (.cells #[.int .i64 2, .int .i64 0, .string { data := #[97] }, .int .i64 0, .slice none 0 0] 25)) (.cells #[.int .i64 2, .int .i64 0, .string { data := #[98] }, .int .i64 0, .slice none 0 0] 25)
      rw [World.size_alloc] at this; exact this
    have h1 : w9.heap[wc.heap.size]? = some (.cells #[.int .i64 2, .int .i64 0, .string { data := #[97] }, .int .i64 0, .slice none 0 0] 25 (0, 0)) := by
      rw [← hw9, Below.heap_alloc _ _ _ (by rw [World.size_alloc, World.size_alloc]; omega), Below.heap_alloc _ _ _ (by rw [World.size_alloc]; omega)]
      exact alloc_here wc (.cells #[.int .i64 2, .int .i64 0, .string { data := #[97] }, .int .i64 0, .slice none 0 0] 25)
    have HA9 := Lib.hid h1
    have HB9 := Lib.hid h2
    have HC9 := Lib.hid h3
    have HE39 := Lib.hid (Ext.trans HEc.out hE9)
    have HE9 := Lib.hid (Ext.trans HE3.out HE39.out)
    have HE9B := Lib.hid ((hE9.below.block _ (lt_of_block HBc.out)).trans HBc.out)
    have HX9 := Lib.hid ((HE39.out.below.block _ (lt_of_block HX3.out)).trans HX3.out)
    have HY9 := Lib.hid ((HE39.out.below.block _ (lt_of_block HY3.out)).trans HY3.out)
    have HAE := Lib.hid (show Ex.At w9 q1 (binX ox grA (binX oy grB grC)) from (HA3.out.ext HE39.out).at)
    clear hw9 hE9 h1 h2 h3
    have u0 := cell_of (i := 0) HX9.out rfl
    have u2 := cell_of (i := 2) HX9.out rfl
    have v2 := cell_of (i := 2) HY9.out rfl
    go_upto_region 8 with fail
    refine wp_region_tail (l1 := [_, _, _, _, _, _, _, _, _, _, _, _, _, _, _, _, _, _]) (l2 := [_]) (by kernel_rfl) Ext (fun W => Below.refl _ W) (fun W => show Below W.heap.size W { W with drawn := W.drawn + 1 } from ⟨rfl, rfl, rfl, Nat.le_refl _, fun _ _ => rfl⟩) Ext.trans
      (fun i s W => match i with
        | 0 => s 0 = .int .i64 0
        | 1 => s 1 = .bool true
        | 2 => s 2 = .bool true
        | 3 => s 3 = .agg #[.int .i64 4, .int .i64 ox, .string { data := #[] }, .int .i64 0, .slice q1 2 c1]
        | 4 => s 4 = .pointer (some ⟨A1, 1, none⟩)
        | 5 => s 5 = .int .i64 (ox : Int)
        | 6 => s 6 = .agg #[.int .i64 2, .int .i64 0, .string { data := #[97] }, .int .i64 0, .slice none 0 0]
        | 7 => s 7 = .pointer (some ⟨A2, 1, none⟩)
        | 8 => s 8 = .int .i64 (oy : Int)
        | 9 => s 9 = .agg #[.int .i64 2, .int .i64 0, .string { data := #[98] }, .int .i64 0, .slice none 0 0]
        | 10 => s 10 = .agg #[.int .i64 2, .int .i64 0, .string { data := #[99] }, .int .i64 0, .slice none 0 0]
        | 11 => ∃ r, s 11 = (binX oy grB grC).val r 2 ∧ Ex.At W r (binX oy grB grC)
        | 12 => ∃ r, s 12 = (binX ox grA (binX oy grB grC)).val r 2 ∧ Ex.At W r (binX ox grA (binX oy grB grC))
        | 13 => s 13 = .bool true
        | 14 => s 14 = .bool true
        | 15 => s 15 = .bool true
        | 16 => s 16 = .bool true
        | 17 => s 17 = .bool true
        | _ => True)
      (fun i => [i])
      (by
        intro i s s' W W' h hs hE
        have hs := hs i (by simp)
        match i, h, hs with
        | 0, h, hs => exact hs.trans h
        | 1, h, hs => exact hs.trans h
        | 2, h, hs => exact hs.trans h
        | 3, h, hs => exact hs.trans h
        | 4, h, hs => exact hs.trans h
        | 5, h, hs => exact hs.trans h
        | 6, h, hs => exact hs.trans h
        | 7, h, hs => exact hs.trans h
        | 8, h, hs => exact hs.trans h
        | 9, h, hs => exact hs.trans h
        | 10, h, hs => exact hs.trans h
        | 11, ⟨r, h1, h2⟩, hs => exact ⟨r, hs.trans h1, h2.below hE⟩
        | 12, ⟨r, h1, h2⟩, hs => exact ⟨r, hs.trans h1, h2.below hE⟩
        | 13, h, hs => exact hs.trans h
        | 14, h, hs => exact hs.trans h
        | 15, h, hs => exact hs.trans h
        | 16, h, hs => exact hs.trans h
        | 17, h, hs => exact hs.trans h
        | i + 18, h, hs => exact trivial)
      (by kernel_rfl) (by kernel_rfl) (by kernel_rfl) 111 rfl (by kernel_rfl) (by kernel_rfl) ?_ ?_
    · intro i op ho a' W hA
      have x0 : W.cell? ⟨w3.heap.size, 0, none⟩ = _ := Ext.cellE (cell_of HE9B.out rfl) hA.rel
      have x1 : W.cell? ⟨w3.heap.size, 1, none⟩ = _ := Ext.cellE (cell_of HE9B.out rfl) hA.rel
      have x2 : W.cell? ⟨w3.heap.size, 2, none⟩ = _ := Ext.cellE (cell_of HE9B.out rfl) hA.rel
      have x3 : W.cell? ⟨w3.heap.size, 3, none⟩ = _ := Ext.cellE (cell_of HE9B.out rfl) hA.rel
      have x4 : W.cell? ⟨w3.heap.size, 4, none⟩ = _ := Ext.cellE (cell_of HE9B.out rfl) hA.rel
      have k0 : W.cell? ⟨wc.heap.size, 0, none⟩ = _ := Ext.cellE (cell_of HA9.out rfl) hA.rel
      have k1 : W.cell? ⟨wc.heap.size, 1, none⟩ = _ := Ext.cellE (cell_of HA9.out rfl) hA.rel
      have k2 : W.cell? ⟨wc.heap.size, 2, none⟩ = _ := Ext.cellE (cell_of HA9.out rfl) hA.rel
      have k3 : W.cell? ⟨wc.heap.size, 3, none⟩ = _ := Ext.cellE (cell_of HA9.out rfl) hA.rel
      have k4 : W.cell? ⟨wc.heap.size, 4, none⟩ = _ := Ext.cellE (cell_of HA9.out rfl) hA.rel
      have l0 : W.cell? ⟨wc.heap.size + 1, 0, none⟩ = _ := Ext.cellE (cell_of HB9.out rfl) hA.rel
      have l1 : W.cell? ⟨wc.heap.size + 1, 1, none⟩ = _ := Ext.cellE (cell_of HB9.out rfl) hA.rel
      have l2 : W.cell? ⟨wc.heap.size + 1, 2, none⟩ = _ := Ext.cellE (cell_of HB9.out rfl) hA.rel
      have l3 : W.cell? ⟨wc.heap.size + 1, 3, none⟩ = _ := Ext.cellE (cell_of HB9.out rfl) hA.rel
      have l4 : W.cell? ⟨wc.heap.size + 1, 4, none⟩ = _ := Ext.cellE (cell_of HB9.out rfl) hA.rel
      have m0 : W.cell? ⟨wc.heap.size + 1 + 1, 0, none⟩ = _ := Ext.cellE (cell_of HC9.out rfl) hA.rel
      have m1 : W.cell? ⟨wc.heap.size + 1 + 1, 1, none⟩ = _ := Ext.cellE (cell_of HC9.out rfl) hA.rel
      have m2 : W.cell? ⟨wc.heap.size + 1 + 1, 2, none⟩ = _ := Ext.cellE (cell_of HC9.out rfl) hA.rel
      have m3 : W.cell? ⟨wc.heap.size + 1 + 1, 3, none⟩ = _ := Ext.cellE (cell_of HC9.out rfl) hA.rel
      have m4 : W.cell? ⟨wc.heap.size + 1 + 1, 4, none⟩ = _ := Ext.cellE (cell_of HC9.out rfl) hA.rel
      have u0 : W.cell? ⟨A1, 0, none⟩ = _ := Ext.cellE (cell_of HX9.out rfl) hA.rel
      have u1 : W.cell? ⟨A1, 1, none⟩ = _ := Ext.cellE (cell_of HX9.out rfl) hA.rel
      have u2 : W.cell? ⟨A1, 2, none⟩ = _ := Ext.cellE (cell_of HX9.out rfl) hA.rel
      have v0 : W.cell? ⟨A2, 0, none⟩ = _ := Ext.cellE (cell_of HY9.out rfl) hA.rel
      have v1 : W.cell? ⟨A2, 1, none⟩ = _ := Ext.cellE (cell_of HY9.out rfl) hA.rel
      have v2 : W.cell? ⟨A2, 2, none⟩ = _ := Ext.cellE (cell_of HY9.out rfl) hA.rel
      match i, ho with
      | 0, ho =>
        obtain rfl := Option.some.inj ho
        have e1 : a'.eval (.tmp 10) = .int .i64 0 := hA.keep 10 (by kernel_rfl)
        refine GoesG.value (.int .i64 0) rfl ?_ (Below.refl _ _) (fun s h1 h2 => h1 rfl)
        simp only [execOp, e1]
        simp [go_sem, x0, x1, x2, x3, x4, k0, k1, k2, k3, k4, l0, l1, l2, l3, l4, m0, m1, m2, m3, m4, u0, u1, u2, v0, v1, v2]
      | 1, ho =>
        obtain rfl := Option.some.inj ho
        have e1 : a'.eval (.tmp 75) = .int .i64 0 := (sv_dst (l := _) rfl).symm.trans (hA.new 0 (by decide) (by kernel_rfl))
        refine GoesG.value (.bool true) rfl ?_ (Below.refl _ _) (fun s h1 h2 => h1 rfl)
        simp only [execOp, e1]
        simp [go_sem, x0, x1, x2, x3, x4, k0, k1, k2, k3, k4, l0, l1, l2, l3, l4, m0, m1, m2, m3, m4, u0, u1, u2, v0, v1, v2]
      | 2, ho =>
        obtain rfl := Option.some.inj ho
        have e1 : a'.eval (.tmp 76) = .bool true := (sv_dst (l := _) rfl).symm.trans (hA.new 1 (by decide) (by kernel_rfl))
        refine GoesG.value (.bool true) rfl ?_ (Below.refl _ _) (fun s h1 h2 => h1 rfl)
        simp only [execOp, e1]
        simp [go_sem, x0, x1, x2, x3, x4, k0, k1, k2, k3, k4, l0, l1, l2, l3, l4, m0, m1, m2, m3, m4, u0, u1, u2, v0, v1, v2]
      | 3, ho =>
        obtain rfl := Option.some.inj ho
        have hg := hA.new 2 (by decide) (by kernel_rfl)
        have e1 : a'.eval (.tmp 8) = .pointer (some ⟨w3.heap.size, 0, none⟩) := hA.keep 8 (by kernel_rfl)
        refine GoesG.valueW (.agg #[.int .i64 4, .int .i64 ox, .string { data := #[] }, .int .i64 0, .slice q1 2 c1]) 2 true true rfl hg rfl ?_ (Below.refl _ _) (fun s h1 h2 => h1 rfl)
        simp only [execOp, e1]
        simp [go_sem, x0, x1, x2, x3, x4, k0, k1, k2, k3, k4, l0, l1, l2, l3, l4, m0, m1, m2, m3, m4, u0, u1, u2, v0, v1, v2]
      | 4, ho =>
        obtain rfl := Option.some.inj ho
        have hg := hA.new 2 (by decide) (by kernel_rfl)
        have e1 : a'.eval (.tmp 6) = .pointer (some ⟨A1, 0, none⟩) := hA.keep 6 (by kernel_rfl)
        refine GoesG.valueW (.pointer (some ⟨A1, 1, none⟩)) 2 true true rfl hg rfl ?_ (Below.refl _ _) (fun s h1 h2 => h1 rfl)
        simp only [execOp, e1]
        simp [go_sem, x0, x1, x2, x3, x4, k0, k1, k2, k3, k4, l0, l1, l2, l3, l4, m0, m1, m2, m3, m4, u0, u1, u2, v0, v1, v2]
      | 5, ho =>
        obtain rfl := Option.some.inj ho
        have hg := hA.new 2 (by decide) (by kernel_rfl)
        have e1 : a'.eval (.tmp 79) = .pointer (some ⟨A1, 1, none⟩) := (sv_dst (l := _) rfl).symm.trans (hA.new 4 (by decide) (by kernel_rfl))
        refine GoesG.valueW (.int .i64 (ox : Int)) 2 true true rfl hg rfl ?_ (Below.refl _ _) (fun s h1 h2 => h1 rfl)
        simp only [execOp, e1]
        simp [go_sem, x0, x1, x2, x3, x4, k0, k1, k2, k3, k4, l0, l1, l2, l3, l4, m0, m1, m2, m3, m4, u0, u1, u2, v0, v1, v2]
      | 6, ho =>
        obtain rfl := Option.some.inj ho
        have hg := hA.new 2 (by decide) (by kernel_rfl)
        have e1 : a'.eval (.tmp 11) = .pointer (some ⟨wc.heap.size, 0, none⟩) := hA.keep 11 (by kernel_rfl)
        refine GoesG.valueW (.agg #[.int .i64 2, .int .i64 0, .string { data := #[97] }, .int .i64 0, .slice none 0 0]) 2 true true rfl hg rfl ?_ (Below.refl _ _) (fun s h1 h2 => h1 rfl)
        simp only [execOp, e1]
        simp [go_sem, x0, x1, x2, x3, x4, k0, k1, k2, k3, k4, l0, l1, l2, l3, l4, m0, m1, m2, m3, m4, u0, u1, u2, v0, v1, v2]
      | 7, ho =>
        obtain rfl := Option.some.inj ho
        have hg := hA.new 2 (by decide) (by kernel_rfl)
        have e1 : a'.eval (.tmp 7) = .pointer (some ⟨A2, 0, none⟩) := hA.keep 7 (by kernel_rfl)
        refine GoesG.valueW (.pointer (some ⟨A2, 1, none⟩)) 2 true true rfl hg rfl ?_ (Below.refl _ _) (fun s h1 h2 => h1 rfl)
        simp only [execOp, e1]
        simp [go_sem, x0, x1, x2, x3, x4, k0, k1, k2, k3, k4, l0, l1, l2, l3, l4, m0, m1, m2, m3, m4, u0, u1, u2, v0, v1, v2]
      | 8, ho =>
        obtain rfl := Option.some.inj ho
        have hg := hA.new 2 (by decide) (by kernel_rfl)
        have e1 : a'.eval (.tmp 82) = .pointer (some ⟨A2, 1, none⟩) := (sv_dst (l := _) rfl).symm.trans (hA.new 7 (by decide) (by kernel_rfl))
        refine GoesG.valueW (.int .i64 (oy : Int)) 2 true true rfl hg rfl ?_ (Below.refl _ _) (fun s h1 h2 => h1 rfl)
        simp only [execOp, e1]
        simp [go_sem, x0, x1, x2, x3, x4, k0, k1, k2, k3, k4, l0, l1, l2, l3, l4, m0, m1, m2, m3, m4, u0, u1, u2, v0, v1, v2]
      | 9, ho =>
        obtain rfl := Option.some.inj ho
        have hg := hA.new 2 (by decide) (by kernel_rfl)
        have e1 : a'.eval (.tmp 12) = .pointer (some ⟨wc.heap.size + 1, 0, none⟩) := hA.keep 12 (by kernel_rfl)
        refine GoesG.valueW (.agg #[.int .i64 2, .int .i64 0, .string { data := #[98] }, .int .i64 0, .slice none 0 0]) 2 true true rfl hg rfl ?_ (Below.refl _ _) (fun s h1 h2 => h1 rfl)
        simp only [execOp, e1]
        simp [go_sem, x0, x1, x2, x3, x4, k0, k1, k2, k3, k4, l0, l1, l2, l3, l4, m0, m1, m2, m3, m4, u0, u1, u2, v0, v1, v2]
      | 10, ho =>
        obtain rfl := Option.some.inj ho
        have hg := hA.new 2 (by decide) (by kernel_rfl)
        have e1 : a'.eval (.tmp 13) = .pointer (some ⟨wc.heap.size + 1 + 1, 0, none⟩) := hA.keep 13 (by kernel_rfl)
        refine GoesG.valueW (.agg #[.int .i64 2, .int .i64 0, .string { data := #[99] }, .int .i64 0, .slice none 0 0]) 2 true true rfl hg rfl ?_ (Below.refl _ _) (fun s h1 h2 => h1 rfl)
        simp only [execOp, e1]
        simp [go_sem, x0, x1, x2, x3, x4, k0, k1, k2, k3, k4, l0, l1, l2, l3, l4, m0, m1, m2, m3, m4, u0, u1, u2, v0, v1, v2]
      | 11, ho =>
        obtain rfl := Option.some.inj ho
        have hg := hA.new 2 (by decide) (by kernel_rfl)
        have e1 : a'.eval (.tmp 83) = .int .i64 (oy : Int) := (sv_dst (l := _) rfl).symm.trans (hA.new 8 (by decide) (by kernel_rfl))
        have e2 : a'.eval (.tmp 84) = .agg #[.int .i64 2, .int .i64 0, .string { data := #[98] }, .int .i64 0, .slice none 0 0] := (sv_dst (l := _) rfl).symm.trans (hA.new 9 (by decide) (by kernel_rfl))
        have e3 : a'.eval (.tmp 85) = .agg #[.int .i64 2, .int .i64 0, .string { data := #[99] }, .int .i64 0, .slice none 0 0] := (sv_dst (l := _) rfl).symm.trans (hA.new 10 (by decide) (by kernel_rfl))
        refine GoesG.callG 14 #[.int .i64 (oy : Int), .agg #[.int .i64 2, .int .i64 0, .string { data := #[98] }, .int .i64 0, .slice none 0 0], .agg #[.int .i64 2, .int .i64 0, .string { data := #[99] }, .int .i64 0, .slice none 0 0]] 2 true true rfl hg rfl ?_ (Calls.mono (lawBin_any oy (by omega) (by omega) grB grC none none 0 0 W (AtB_leaf (fun _ => True) W none (fits_nam (s := [98]) (by decide))).at (AtB_leaf (fun _ => True) W none (fits_nam (s := [99]) (by decide))).at) ?_)
        · simp [execOp, resolve, invoke, Deferred.ofValue, e1, e2, e3]
          rfl
        · rintro _ W2 ⟨r2, rfl, hAt, hE2⟩
          exact ⟨_, rfl, hE2, fun s h1 h2 => ⟨r2, h1 rfl, hAt⟩⟩
      | 12, ho =>
        obtain rfl := Option.some.inj ho
        have hg := hA.new 2 (by decide) (by kernel_rfl)
        have e1 : a'.eval (.tmp 80) = .int .i64 (ox : Int) := (sv_dst (l := _) rfl).symm.trans (hA.new 5 (by decide) (by kernel_rfl))
        have e2 : a'.eval (.tmp 81) = .agg #[.int .i64 2, .int .i64 0, .string { data := #[97] }, .int .i64 0, .slice none 0 0] := (sv_dst (l := _) rfl).symm.trans (hA.new 6 (by decide) (by kernel_rfl))
        obtain ⟨r0, h11, hA11⟩ := hA.new 11 (by decide) (by kernel_rfl)
        have e3 : a'.eval (.tmp 86) = (binX oy grB grC).val r0 2 := (sv_dst (l := _) rfl).symm.trans h11
        refine GoesG.callG 14 #[.int .i64 (ox : Int), .agg #[.int .i64 2, .int .i64 0, .string { data := #[97] }, .int .i64 0, .slice none 0 0], (binX oy grB grC).val r0 2] 2 true true rfl hg rfl ?_ (Calls.mono (lawBin_any ox (by omega) (by omega) grA (binX oy grB grC) none r0 0 2 W (AtB_leaf (fun _ => True) W none (fits_nam (s := [97]) (by decide))).at hA11) ?_)
        · simp [execOp, resolve, invoke, Deferred.ofValue, e1, e2, e3]
          rfl
        · rintro _ W2 ⟨r2, rfl, hAt, hE2⟩
          exact ⟨_, rfl, hE2, fun s h1 h2 => ⟨r2, h1 rfl, hAt⟩⟩
      | 13, ho =>
        obtain rfl := Option.some.inj ho
        have hg := hA.new 2 (by decide) (by kernel_rfl)
        have e1 : a'.eval (.tmp 78) = .agg #[.int .i64 4, .int .i64 ox, .string { data := #[] }, .int .i64 0, .slice q1 2 c1] := (sv_dst (l := _) rfl).symm.trans (hA.new 3 (by decide) (by kernel_rfl))
        obtain ⟨r0, h12, hA12⟩ := hA.new 12 (by decide) (by kernel_rfl)
        have e2 : a'.eval (.tmp 87) = (binX ox grA (binX oy grB grC)).val r0 2 := (sv_dst (l := _) rfl).symm.trans h12
        have hq := refEqualX_any (binX ox grA (binX oy grB grC)) (binX ox grA (binX oy grB grC)) q1 r0 c1 2 W (HAE.out.below hA.rel) hA12
        rw [HCK.out, eqX_self] at hq
        refine GoesG.callG 11 #[.agg #[.int .i64 4, .int .i64 ox, .string { data := #[] }, .int .i64 0, .slice q1 2 c1], (binX ox grA (binX oy grB grC)).val r0 2] 2 true true rfl hg rfl ?_ (Calls.mono (show Gives _ _ #[.agg #[.int .i64 4, .int .i64 ox, .string { data := #[] }, .int .i64 0, .slice q1 2 c1], (binX ox grA (binX oy grB grC)).val r0 2] W (.bool true) from hq) ?_)
        · simp [execOp, resolve, invoke, Deferred.ofValue, e1, e2]
          rfl
        · rintro _ W2 ⟨rfl, hE2⟩
          exact ⟨_, rfl, hE2, fun s h1 h2 => h1 rfl⟩
      | 14, ho =>
        obtain rfl := Option.some.inj ho
        have e1 : a'.eval (.tmp 77) = .bool true := (sv_dst (l := _) rfl).symm.trans (hA.new 2 (by decide) (by kernel_rfl))
        have e2 : a'.eval (.tmp 88) = .bool true := (sv_dst (l := _) rfl).symm.trans (hA.new 13 (by decide) (by kernel_rfl))
        refine GoesG.value (.bool true) rfl ?_ (Below.refl _ _) (fun s h1 h2 => h1 rfl)
        simp only [execOp, e1, e2]
        simp [go_sem, x0, x1, x2, x3, x4, k0, k1, k2, k3, k4, l0, l1, l2, l3, l4, m0, m1, m2, m3, m4, u0, u1, u2, v0, v1, v2]
      | 15, ho =>
        obtain rfl := Option.some.inj ho
        have e1 : a'.eval (.tmp 89) = .bool true := (sv_dst (l := _) rfl).symm.trans (hA.new 14 (by decide) (by kernel_rfl))
        refine GoesG.value (.bool true) rfl ?_ (Below.refl _ _) (fun s h1 h2 => h1 rfl)
        simp only [execOp, e1]
        simp [go_sem, x0, x1, x2, x3, x4, k0, k1, k2, k3, k4, l0, l1, l2, l3, l4, m0, m1, m2, m3, m4, u0, u1, u2, v0, v1, v2]
      | 16, ho =>
        obtain rfl := Option.some.inj ho
        have hg := hA.new 15 (by decide) (by kernel_rfl)
        refine GoesG.callG 7 #[] 15 true true rfl hg rfl ?_ (Calls.mono (KA.out W (Ext.trans HE9.out hA.rel)) ?_)
        · simp [execOp, resolve, invoke, Deferred.ofValue]
          rfl
        · rintro _ W2 ⟨rfl, hE2⟩
          exact ⟨_, rfl, hE2, fun s h1 h2 => h1 rfl⟩
      | 17, ho =>
        obtain rfl := Option.some.inj ho
        have e1 : a'.eval (.tmp 90) = .bool true := (sv_dst (l := _) rfl).symm.trans (hA.new 15 (by decide) (by kernel_rfl))
        have e2 : a'.eval (.tmp 91) = .bool true := (sv_dst (l := _) rfl).symm.trans (hA.new 16 (by decide) (by kernel_rfl))
        refine GoesG.value (.bool true) rfl ?_ (Below.refl _ _) (fun s h1 h2 => h1 rfl)
        simp only [execOp, e1, e2]
        simp [go_sem, x0, x1, x2, x3, x4, k0, k1, k2, k3, k4, l0, l1, l2, l3, l4, m0, m1, m2, m3, m4, u0, u1, u2, v0, v1, v2]
      | i + 18, ho => cases ho
    · intro vs w10 hvs hG hΦ
      obtain ⟨z0, z1, z2, z3, z4, z5, z6, z7, z8, z9, z10, z11, z12, z13, z14, z15, z16, z17, rfl⟩ : ∃ z0 z1 z2 z3 z4 z5 z6 z7 z8 z9 z10 z11 z12 z13 z14 z15 z16 z17, vs = z0 :: z1 :: z2 :: z3 :: z4 :: z5 :: z6 :: z7 :: z8 :: z9 :: z10 :: z11 :: z12 :: z13 :: z14 :: z15 :: z16 :: z17 :: [] := by
        match vs, hvs with
        | z0 :: z1 :: z2 :: z3 :: z4 :: z5 :: z6 :: z7 :: z8 :: z9 :: z10 :: z11 :: z12 :: z13 :: z14 :: z15 :: z16 :: z17 :: [], _ => exact ⟨z0, z1, z2, z3, z4, z5, z6, z7, z8, z9, z10, z11, z12, z13, z14, z15, z16, z17, rfl⟩
      have e0 : z0 = .int .i64 0 := hΦ 0 (by decide)
      subst e0
      have e1 : z1 = .bool true := hΦ 1 (by decide)
      subst e1
      have e2 : z2 = .bool true := hΦ 2 (by decide)
      subst e2
      have e3 : z3 = .agg #[.int .i64 4, .int .i64 ox, .string { data := #[] }, .int .i64 0, .slice q1 2 c1] := hΦ 3 (by decide)
      subst e3
      have e4 : z4 = .pointer (some ⟨A1, 1, none⟩) := hΦ 4 (by decide)
      subst e4
      have e5 : z5 = .int .i64 (ox : Int) := hΦ 5 (by decide)
      subst e5
      have e6 : z6 = .agg #[.int .i64 2, .int .i64 0, .string { data := #[97] }, .int .i64 0, .slice none 0 0] := hΦ 6 (by decide)
      subst e6
      have e7 : z7 = .pointer (some ⟨A2, 1, none⟩) := hΦ 7 (by decide)
      subst e7
      have e8 : z8 = .int .i64 (oy : Int) := hΦ 8 (by decide)
      subst e8
      have e9 : z9 = .agg #[.int .i64 2, .int .i64 0, .string { data := #[98] }, .int .i64 0, .slice none 0 0] := hΦ 9 (by decide)
      subst e9
      have e10 : z10 = .agg #[.int .i64 2, .int .i64 0, .string { data := #[99] }, .int .i64 0, .slice none 0 0] := hΦ 10 (by decide)
      subst e10
      have p11 : ∃ r, z11 = (binX oy grB grC).val r 2 ∧ Ex.At w10 r (binX oy grB grC) := hΦ 11 (by decide)
      have p12 : ∃ r, z12 = (binX ox grA (binX oy grB grC)).val r 2 ∧ Ex.At w10 r (binX ox grA (binX oy grB grC)) := hΦ 12 (by decide)
      have e13 : z13 = .bool true := hΦ 13 (by decide)
      subst e13
      have e14 : z14 = .bool true := hΦ 14 (by decide)
      subst e14
      have e15 : z15 = .bool true := hΦ 15 (by decide)
      subst e15
      have e16 : z16 = .bool true := hΦ 16 (by decide)
      subst e16
      have e17 : z17 = .bool true := hΦ 17 (by decide)
      subst e17
      clear hΦ hvs
      simp only [putAll, Act.put, List.setIfInBounds_toArray, List.set_cons_succ, List.set_cons_zero]
      go_wp2
      go_ret
      exact ⟨rfl, Ext.trans HE9.out hG⟩
  · obtain ⟨W2, hW2⟩ : ∃ W, ((w1.alloc (.cells #[.string (sB sy), .int .i64 (oy : Int), .int .i64 (py : Int)] 36)).alloc (.cells #[.string (sB sx), .int .i64 (ox : Int), .int .i64 (px : Int)] 36)).drew = W := ⟨_, rfl⟩
    rw [hW2]
    have hb2 : W2.heap[w1.heap.size]? = some (.cells #[.string (sB sy), .int .i64 (oy : Int), .int .i64 (py : Int)] 36 (0, 0)) := by
      rw [← hW2]
      show ((w1.alloc (.cells #[.string (sB sy), .int .i64 (oy : Int), .int .i64 (py : Int)] 36)).alloc (.cells #[.string (sB sx), .int .i64 (ox : Int), .int .i64 (px : Int)] 36)).heap[_]? = _
      rw [Below.heap_alloc _ _ _ (by rw [World.size_alloc]; omega)]
      exact alloc_here w1 (.cells #[.string (sB sy), .int .i64 (oy : Int), .int .i64 (py : Int)] 36)
    have hb1 : W2.heap[w1.heap.size + 1]? = some (.cells #[.string (sB sx), .int .i64 (ox : Int), .int .i64 (px : Int)] 36 (0, 0)) := by
      rw [← hW2]
      have := alloc_here (w1.alloc (.cells #[.string (sB sy), .int .i64 (oy : Int), .int .i64 (py : Int)] 36)) (.cells #[.string (sB sx), .int .i64 (ox : Int), .int .i64 (px : Int)] 36)
      rw [World.size_alloc] at this; exact this
    have hE2 : Ext w1 W2 := by rw [← hW2]; exact Ext.drewN' (n := 1) (((Below.refl _ w1).alloc (Nat.le_refl _) _).alloc (by simp) _)
    clear hW2 x0 x1 x2 y0 y1 y2 hBl
    generalize w1.heap.size + 1 = A1 at *
    generalize w1.heap.size = A2 at *
    have HX1 := Lib.hid hb1
    have HY1 := Lib.hid hb2
    have HE2 := Lib.hid (Ext.trans HE1.out hE2)
    have u0 := cell_of (i := 0) hb1 rfl
    have v0 := cell_of (i := 0) hb2 rfl
    clear hb1 hb2 hE2
    go_wp2_with fail
    try rw [hcat]
    refine (show Calls _ _ _ _ _ from K1.out _ HE2.out).mono ?_
    rintro _ w3 ⟨q1, c1, rfl, hA3, hE3⟩
    dsimp only
    have HA3 := Lib.hid hA3
    have HX3 := Lib.hid ((hE3.below.block _ (lt_of_block HX1.out)).trans HX1.out)
    have HY3 := Lib.hid ((hE3.below.block _ (lt_of_block HY1.out)).trans HY1.out)
    have HE3 := Lib.hid (Ext.trans HE2.out hE3)
    clear hA3 hE3 u0 v0
    have HE4 := Lib.hid (ext_alloc w3 (.cells #[.int .i64 4, .int .i64 ox, .string { data := #[] }, .int .i64 0, .slice q1 2 c1] 25))
    have HB4 := Lib.hid (alloc_here w3 (.cells #[.int .i64 4, .int .i64 ox, .string { data := #[] }, .int .i64 0, .slice q1 2 c1] 25))
    go_wp2_with fail
    refine (KN1.out _).mono ?_
    intro wa hEa
    have HEa := Lib.hid (Ext.trans HE4.out hEa)
    have HBa := Lib.hid ((hEa.block _ (lt_of_block HB4.out)).trans HB4.out)
    clear hEa
    go_wp2_with fail
    refine (KN2.out _).mono ?_
    intro wb hEb
    have HEb := Lib.hid (Ext.trans HEa.out hEb)
    have HBb := Lib.hid ((hEb.block _ (lt_of_block HBa.out)).trans HBa.out)
    clear hEb
    go_wp2_with fail
    refine (KN3.out _).mono ?_
    intro wc hEc
    have HEc := Lib.hid (Ext.trans HEb.out hEc)
    have HBc := Lib.hid ((hEc.block _ (lt_of_block HBb.out)).trans HBb.out)
    clear hEc
    go_upto_region 5 with fail
    obtain ⟨w9, hw9⟩ : ∃ W, (((wc.alloc (.cells #[.int .i64 2, .int .i64 0, .string { data := #[97] }, .int .i64 0, .slice none 0 0] 25)).alloc (.cells #[.int .i64 2, .int .i64 0, .string { data := #[98] }, .int .i64 0, .slice none 0 0] 25)).alloc (.cells #[.int .i64 2, .int .i64 0, .string { data := #[99] }, .int .i64 0, .slice none 0 0] 25)) = W := ⟨_, rfl⟩
    rw [hw9]
    have hE9 : Ext wc w9 := by rw [← hw9]; exact ((((Below.refl _ wc).alloc (Nat.le_refl _) _).alloc (by simp) _).alloc (by simp; omega) _)
    have h3 : w9.heap[wc.heap.size + 1 + 1]? = some (.cells #[.int .i64 2, .int .i64 0, .string { data := #[99] }, .int .i64 0, .slice none 0 0] 25 (0, 0)) := by
      have := alloc_here ((wc.alloc (.cells #[.int .i64 2, .int .i64 0, .string { data := #[97] }, .int .i64 0, .slice none 0 0] 25)).alloc (.cells #[.int .i64 2, .int .i64 0, .string { data := #[98] }, .int .i64 0, .slice none 0 0] 25)) (.cells #[.int .i64 2, .int .i64 0, .string { data := #[99] }, .int .i64 0, .slice none 0 0] 25)
      rw [hw9, World.size_alloc, World.size_alloc] at this; exact this
    have h2 : w9.heap[wc.heap.size + 1]? = some (.cells #[.int .i64 2, .int .i64 0, .string { data := #[98] }, .int .i64 0, .slice none 0 0] 25 (0, 0)) := by
      rw [← hw9, Below.heap_alloc _ _ _ (by rw [World.size_alloc, World.size_alloc]; omega)]
      have := alloc_here (wc.alloc (.cells #[.int .i64 2, .int .i64 0, .string { data := #[97] }, .int .i64 0, .slice none 0 0] 25)) (.cells #[.int .i64 2, .int .i64 0, .string { data := #[98] }, .int .i64 0, .slice none 0 0] 25)
      rw [World.size_alloc] at this; exact this
    have h1 : w9.heap[wc.heap.size]? = some (.cells #[.int .i64 2, .int .i64 0, .string { data := #[97] }, .int .i64 0, .slice none 0 0] 25 (0, 0)) := by
      rw [← hw9, Below.heap_alloc _ _ _ (by rw [World.size_alloc, World.size_alloc]; omega), Below.heap_alloc _ _ _ (by rw [World.size_alloc]; omega)]
      exact alloc_here wc (.cells #[.int .i64 2, .int .i64 0, .string { data := #[97] }, .int .i64 0, .slice none 0 0] 25)
    have HA9 := Lib.hid h1
    have HB9 := Lib.hid h2
    have HC9 := Lib.hid h3
    have HE39 := Lib.hid (Ext.trans HEc.out hE9)
    have HE9 := Lib.hid (Ext.trans HE3.out HE39.out)
    have HE9B := Lib.hid ((hE9.below.block _ (lt_of_block HBc.out)).trans HBc.out)
    have HX9 := Lib.hid ((HE39.out.below.block _ (lt_of_block HX3.out)).trans HX3.out)
    have HY9 := Lib.hid ((HE39.out.below.block _ (lt_of_block HY3.out)).trans HY3.out)
    have HAE := Lib.hid (show Ex.At w9 q1 (binX ox grA (binX oy grB grC)) from (HA3.out.ext HE39.out).at)
    clear hw9 hE9 h1 h2 h3
    have u0 := cell_of (i := 0) HX9.out rfl
    have u2 := cell_of (i := 2) HX9.out rfl
    have v2 := cell_of (i := 2) HY9.out rfl
    go_upto_region 8 with fail
    refine wp_region_tail (l1 := [_, _, _, _, _, _, _, _, _, _, _, _, _, _, _, _, _, _]) (l2 := [_]) (by kernel_rfl) Ext (fun W => Below.refl _ W) (fun W => show Below W.heap.size W { W with drawn := W.drawn + 1 } from ⟨rfl, rfl, rfl, Nat.le_refl _, fun _ _ => rfl⟩) Ext.trans
      (fun i s W => match i with
        | 0 => s 0 = .int .i64 0
        | 1 => s 1 = .bool true
        | 2 => s 2 = .bool true
        | 3 => s 3 = .agg #[.int .i64 4, .int .i64 ox, .string { data := #[] }, .int .i64 0, .slice q1 2 c1]
        | 4 => s 4 = .pointer (some ⟨A1, 1, none⟩)
        | 5 => s 5 = .int .i64 (ox : Int)
        | 6 => s 6 = .agg #[.int .i64 2, .int .i64 0, .string { data := #[97] }, .int .i64 0, .slice none 0 0]
        | 7 => s 7 = .pointer (some ⟨A2, 1, none⟩)
        | 8 => s 8 = .int .i64 (oy : Int)
        | 9 => s 9 = .agg #[.int .i64 2, .int .i64 0, .string { data := #[98] }, .int .i64 0, .slice none 0 0]
        | 10 => s 10 = .agg #[.int .i64 2, .int .i64 0, .string { data := #[99] }, .int .i64 0, .slice none 0 0]
        | 11 => ∃ r, s 11 = (binX oy grB grC).val r 2 ∧ Ex.At W r (binX oy grB grC)
        | 12 => ∃ r, s 12 = (binX ox grA (binX oy grB grC)).val r 2 ∧ Ex.At W r (binX ox grA (binX oy grB grC))
        | 13 => s 13 = .bool true
        | 14 => s 14 = .bool true
        | 15 => s 15 = .bool true
        | 16 => s 16 = .bool true
        | 17 => s 17 = .bool true
        | _ => True)
      (fun i => [i])
      (by
        intro i s s' W W' h hs hE
        have hs := hs i (by simp)
        match i, h, hs with
        | 0, h, hs => exact hs.trans h
        | 1, h, hs => exact hs.trans h
        | 2, h, hs => exact hs.trans h
        | 3, h, hs => exact hs.trans h
        | 4, h, hs => exact hs.trans h
        | 5, h, hs => exact hs.trans h
        | 6, h, hs => exact hs.trans h
        | 7, h, hs => exact hs.trans h
        | 8, h, hs => exact hs.trans h
        | 9, h, hs => exact hs.trans h
        | 10, h, hs => exact hs.trans h
        | 11, ⟨r, h1, h2⟩, hs => exact ⟨r, hs.trans h1, h2.below hE⟩
        | 12, ⟨r, h1, h2⟩, hs => exact ⟨r, hs.trans h1, h2.below hE⟩
        | 13, h, hs => exact hs.trans h
        | 14, h, hs => exact hs.trans h
        | 15, h, hs => exact hs.trans h
        | 16, h, hs => exact hs.trans h
        | 17, h, hs => exact hs.trans h
        | i + 18, h, hs => exact trivial)
      (by kernel_rfl) (by kernel_rfl) (by kernel_rfl) 111 rfl (by kernel_rfl) (by kernel_rfl) ?_ ?_
    · intro i op ho a' W hA
      have x0 : W.cell? ⟨w3.heap.size, 0, none⟩ = _ := Ext.cellE (cell_of HE9B.out rfl) hA.rel
      have x1 : W.cell? ⟨w3.heap.size, 1, none⟩ = _ := Ext.cellE (cell_of HE9B.out rfl) hA.rel
      have x2 : W.cell? ⟨w3.heap.size, 2, none⟩ = _ := Ext.cellE (cell_of HE9B.out rfl) hA.rel
      have x3 : W.cell? ⟨w3.heap.size, 3, none⟩ = _ := Ext.cellE (cell_of HE9B.out rfl) hA.rel
      have x4 : W.cell? ⟨w3.heap.size, 4, none⟩ = _ := Ext.cellE (cell_of HE9B.out rfl) hA.rel
      have k0 : W.cell? ⟨wc.heap.size, 0, none⟩ = _ := Ext.cellE (cell_of HA9.out rfl) hA.rel
      have k1 : W.cell? ⟨wc.heap.size, 1, none⟩ = _ := Ext.cellE (cell_of HA9.out rfl) hA.rel
      have k2 : W.cell? ⟨wc.heap.size, 2, none⟩ = _ := Ext.cellE (cell_of HA9.out rfl) hA.rel
      have k3 : W.cell? ⟨wc.heap.size, 3, none⟩ = _ := Ext.cellE (cell_of HA9.out rfl) hA.rel
      have k4 : W.cell? ⟨wc.heap.size, 4, none⟩ = _ := Ext.cellE (cell_of HA9.out rfl) hA.rel
      have l0 : W.cell? ⟨wc.heap.size + 1, 0, none⟩ = _ := Ext.cellE (cell_of HB9.out rfl) hA.rel
      have l1 : W.cell? ⟨wc.heap.size + 1, 1, none⟩ = _ := Ext.cellE (cell_of HB9.out rfl) hA.rel
      have l2 : W.cell? ⟨wc.heap.size + 1, 2, none⟩ = _ := Ext.cellE (cell_of HB9.out rfl) hA.rel
      have l3 : W.cell? ⟨wc.heap.size + 1, 3, none⟩ = _ := Ext.cellE (cell_of HB9.out rfl) hA.rel
      have l4 : W.cell? ⟨wc.heap.size + 1, 4, none⟩ = _ := Ext.cellE (cell_of HB9.out rfl) hA.rel
      have m0 : W.cell? ⟨wc.heap.size + 1 + 1, 0, none⟩ = _ := Ext.cellE (cell_of HC9.out rfl) hA.rel
      have m1 : W.cell? ⟨wc.heap.size + 1 + 1, 1, none⟩ = _ := Ext.cellE (cell_of HC9.out rfl) hA.rel
      have m2 : W.cell? ⟨wc.heap.size + 1 + 1, 2, none⟩ = _ := Ext.cellE (cell_of HC9.out rfl) hA.rel
      have m3 : W.cell? ⟨wc.heap.size + 1 + 1, 3, none⟩ = _ := Ext.cellE (cell_of HC9.out rfl) hA.rel
      have m4 : W.cell? ⟨wc.heap.size + 1 + 1, 4, none⟩ = _ := Ext.cellE (cell_of HC9.out rfl) hA.rel
      have u0 : W.cell? ⟨A1, 0, none⟩ = _ := Ext.cellE (cell_of HX9.out rfl) hA.rel
      have u1 : W.cell? ⟨A1, 1, none⟩ = _ := Ext.cellE (cell_of HX9.out rfl) hA.rel
      have u2 : W.cell? ⟨A1, 2, none⟩ = _ := Ext.cellE (cell_of HX9.out rfl) hA.rel
      have v0 : W.cell? ⟨A2, 0, none⟩ = _ := Ext.cellE (cell_of HY9.out rfl) hA.rel
      have v1 : W.cell? ⟨A2, 1, none⟩ = _ := Ext.cellE (cell_of HY9.out rfl) hA.rel
      have v2 : W.cell? ⟨A2, 2, none⟩ = _ := Ext.cellE (cell_of HY9.out rfl) hA.rel
      match i, ho with
      | 0, ho =>
        obtain rfl := Option.some.inj ho
        have e1 : a'.eval (.tmp 10) = .int .i64 0 := hA.keep 10 (by kernel_rfl)
        refine GoesG.value (.int .i64 0) rfl ?_ (Below.refl _ _) (fun s h1 h2 => h1 rfl)
        simp only [execOp, e1]
        simp [go_sem, x0, x1, x2, x3, x4, k0, k1, k2, k3, k4, l0, l1, l2, l3, l4, m0, m1, m2, m3, m4, u0, u1, u2, v0, v1, v2]
      | 1, ho =>
        obtain rfl := Option.some.inj ho
        have e1 : a'.eval (.tmp 75) = .int .i64 0 := (sv_dst (l := _) rfl).symm.trans (hA.new 0 (by decide) (by kernel_rfl))
        refine GoesG.value (.bool true) rfl ?_ (Below.refl _ _) (fun s h1 h2 => h1 rfl)
        simp only [execOp, e1]
        simp [go_sem, x0, x1, x2, x3, x4, k0, k1, k2, k3, k4, l0, l1, l2, l3, l4, m0, m1, m2, m3, m4, u0, u1, u2, v0, v1, v2]
      | 2, ho =>
        obtain rfl := Option.some.inj ho
        have e1 : a'.eval (.tmp 76) = .bool true := (sv_dst (l := _) rfl).symm.trans (hA.new 1 (by decide) (by kernel_rfl))
        refine GoesG.value (.bool true) rfl ?_ (Below.refl _ _) (fun s h1 h2 => h1 rfl)
        simp only [execOp, e1]
        simp [go_sem, x0, x1, x2, x3, x4, k0, k1, k2, k3, k4, l0, l1, l2, l3, l4, m0, m1, m2, m3, m4, u0, u1, u2, v0, v1, v2]
      | 3, ho =>
        obtain rfl := Option.some.inj ho
        have hg := hA.new 2 (by decide) (by kernel_rfl)
        have e1 : a'.eval (.tmp 8) = .pointer (some ⟨w3.heap.size, 0, none⟩) := hA.keep 8 (by kernel_rfl)
        refine GoesG.valueW (.agg #[.int .i64 4, .int .i64 ox, .string { data := #[] }, .int .i64 0, .slice q1 2 c1]) 2 true true rfl hg rfl ?_ (Below.refl _ _) (fun s h1 h2 => h1 rfl)
        simp only [execOp, e1]
        simp [go_sem, x0, x1, x2, x3, x4, k0, k1, k2, k3, k4, l0, l1, l2, l3, l4, m0, m1, m2, m3, m4, u0, u1, u2, v0, v1, v2]
      | 4, ho =>
        obtain rfl := Option.some.inj ho
        have hg := hA.new 2 (by decide) (by kernel_rfl)
        have e1 : a'.eval (.tmp 6) = .pointer (some ⟨A1, 0, none⟩) := hA.keep 6 (by kernel_rfl)
        refine GoesG.valueW (.pointer (some ⟨A1, 1, none⟩)) 2 true true rfl hg rfl ?_ (Below.refl _ _) (fun s h1 h2 => h1 rfl)
        simp only [execOp, e1]
        simp [go_sem, x0, x1, x2, x3, x4, k0, k1, k2, k3, k4, l0, l1, l2, l3, l4, m0, m1, m2, m3, m4, u0, u1, u2, v0, v1, v2]
      | 5, ho =>
        obtain rfl := Option.some.inj ho
        have hg := hA.new 2 (by decide) (by kernel_rfl)
        have e1 : a'.eval (.tmp 79) = .pointer (some ⟨A1, 1, none⟩) := (sv_dst (l := _) rfl).symm.trans (hA.new 4 (by decide) (by kernel_rfl))
        refine GoesG.valueW (.int .i64 (ox : Int)) 2 true true rfl hg rfl ?_ (Below.refl _ _) (fun s h1 h2 => h1 rfl)
        simp only [execOp, e1]
        simp [go_sem, x0, x1, x2, x3, x4, k0, k1, k2, k3, k4, l0, l1, l2, l3, l4, m0, m1, m2, m3, m4, u0, u1, u2, v0, v1, v2]
      | 6, ho =>
        obtain rfl := Option.some.inj ho
        have hg := hA.new 2 (by decide) (by kernel_rfl)
        have e1 : a'.eval (.tmp 11) = .pointer (some ⟨wc.heap.size, 0, none⟩) := hA.keep 11 (by kernel_rfl)
        refine GoesG.valueW (.agg #[.int .i64 2, .int .i64 0, .string { data := #[97] }, .int .i64 0, .slice none 0 0]) 2 true true rfl hg rfl ?_ (Below.refl _ _) (fun s h1 h2 => h1 rfl)
        simp only [execOp, e1]
        simp [go_sem, x0, x1, x2, x3, x4, k0, k1, k2, k3, k4, l0, l1, l2, l3, l4, m0, m1, m2, m3, m4, u0, u1, u2, v0, v1, v2]
      | 7, ho =>
        obtain rfl := Option.some.inj ho
        have hg := hA.new 2 (by decide) (by kernel_rfl)
        have e1 : a'.eval (.tmp 7) = .pointer (some ⟨A2, 0, none⟩) := hA.keep 7 (by kernel_rfl)
        refine GoesG.valueW (.pointer (some ⟨A2, 1, none⟩)) 2 true true rfl hg rfl ?_ (Below.refl _ _) (fun s h1 h2 => h1 rfl)
        simp only [execOp, e1]
        simp [go_sem, x0, x1, x2, x3, x4, k0, k1, k2, k3, k4, l0, l1, l2, l3, l4, m0, m1, m2, m3, m4, u0, u1, u2, v0, v1, v2]
      | 8, ho =>
        obtain rfl := Option.some.inj ho
        have hg := hA.new 2 (by decide) (by kernel_rfl)
        have e1 : a'.eval (.tmp 82) = .pointer (some ⟨A2, 1, none⟩) := (sv_dst (l := _) rfl).symm.trans (hA.new 7 (by decide) (by kernel_rfl))
        refine GoesG.valueW (.int .i64 (oy : Int)) 2 true true rfl hg rfl ?_ (Below.refl _ _) (fun s h1 h2 => h1 rfl)
        simp only [execOp, e1]
        simp [go_sem, x0, x1, x2, x3, x4, k0, k1, k2, k3, k4, l0, l1, l2, l3, l4, m0, m1, m2, m3, m4, u0, u1, u2, v0, v1, v2]
      | 9, ho =>
        obtain rfl := Option.some.inj ho
        have hg := hA.new 2 (by decide) (by kernel_rfl)
        have e1 : a'.eval (.tmp 12) = .pointer (some ⟨wc.heap.size + 1, 0, none⟩) := hA.keep 12 (by kernel_rfl)
        refine GoesG.valueW (.agg #[.int .i64 2, .int .i64 0, .string { data := #[98] }, .int .i64 0, .slice none 0 0]) 2 true true rfl hg rfl ?_ (Below.refl _ _) (fun s h1 h2 => h1 rfl)
        simp only [execOp, e1]
        simp [go_sem, x0, x1, x2, x3, x4, k0, k1, k2, k3, k4, l0, l1, l2, l3, l4, m0, m1, m2, m3, m4, u0, u1, u2, v0, v1, v2]
      | 10, ho =>
        obtain rfl := Option.some.inj ho
        have hg := hA.new 2 (by decide) (by kernel_rfl)
        have e1 : a'.eval (.tmp 13) = .pointer (some ⟨wc.heap.size + 1 + 1, 0, none⟩) := hA.keep 13 (by kernel_rfl)
        refine GoesG.valueW (.agg #[.int .i64 2, .int .i64 0, .string { data := #[99] }, .int .i64 0, .slice none 0 0]) 2 true true rfl hg rfl ?_ (Below.refl _ _) (fun s h1 h2 => h1 rfl)
        simp only [execOp, e1]
        simp [go_sem, x0, x1, x2, x3, x4, k0, k1, k2, k3, k4, l0, l1, l2, l3, l4, m0, m1, m2, m3, m4, u0, u1, u2, v0, v1, v2]
      | 11, ho =>
        obtain rfl := Option.some.inj ho
        have hg := hA.new 2 (by decide) (by kernel_rfl)
        have e1 : a'.eval (.tmp 83) = .int .i64 (oy : Int) := (sv_dst (l := _) rfl).symm.trans (hA.new 8 (by decide) (by kernel_rfl))
        have e2 : a'.eval (.tmp 84) = .agg #[.int .i64 2, .int .i64 0, .string { data := #[98] }, .int .i64 0, .slice none 0 0] := (sv_dst (l := _) rfl).symm.trans (hA.new 9 (by decide) (by kernel_rfl))
        have e3 : a'.eval (.tmp 85) = .agg #[.int .i64 2, .int .i64 0, .string { data := #[99] }, .int .i64 0, .slice none 0 0] := (sv_dst (l := _) rfl).symm.trans (hA.new 10 (by decide) (by kernel_rfl))
        refine GoesG.callG 14 #[.int .i64 (oy : Int), .agg #[.int .i64 2, .int .i64 0, .string { data := #[98] }, .int .i64 0, .slice none 0 0], .agg #[.int .i64 2, .int .i64 0, .string { data := #[99] }, .int .i64 0, .slice none 0 0]] 2 true true rfl hg rfl ?_ (Calls.mono (lawBin_any oy (by omega) (by omega) grB grC none none 0 0 W (AtB_leaf (fun _ => True) W none (fits_nam (s := [98]) (by decide))).at (AtB_leaf (fun _ => True) W none (fits_nam (s := [99]) (by decide))).at) ?_)
        · simp [execOp, resolve, invoke, Deferred.ofValue, e1, e2, e3]
          rfl
        · rintro _ W2 ⟨r2, rfl, hAt, hE2⟩
          exact ⟨_, rfl, hE2, fun s h1 h2 => ⟨r2, h1 rfl, hAt⟩⟩
      | 12, ho =>
        obtain rfl := Option.some.inj ho
        have hg := hA.new 2 (by decide) (by kernel_rfl)
        have e1 : a'.eval (.tmp 80) = .int .i64 (ox : Int) := (sv_dst (l := _) rfl).symm.trans (hA.new 5 (by decide) (by kernel_rfl))
        have e2 : a'.eval (.tmp 81) = .agg #[.int .i64 2, .int .i64 0, .string { data := #[97] }, .int .i64 0, .slice none 0 0] := (sv_dst (l := _) rfl).symm.trans (hA.new 6 (by decide) (by kernel_rfl))
        obtain ⟨r0, h11, hA11⟩ := hA.new 11 (by decide) (by kernel_rfl)
        have e3 : a'.eval (.tmp 86) = (binX oy grB grC).val r0 2 := (sv_dst (l := _) rfl).symm.trans h11
        refine GoesG.callG 14 #[.int .i64 (ox : Int), .agg #[.int .i64 2, .int .i64 0, .string { data := #[97] }, .int .i64 0, .slice none 0 0], (binX oy grB grC).val r0 2] 2 true true rfl hg rfl ?_ (Calls.mono (lawBin_any ox (by omega) (by omega) grA (binX oy grB grC) none r0 0 2 W (AtB_leaf (fun _ => True) W none (fits_nam (s := [97]) (by decide))).at hA11) ?_)
        · simp [execOp, resolve, invoke, Deferred.ofValue, e1, e2, e3]
          rfl
        · rintro _ W2 ⟨r2, rfl, hAt, hE2⟩
          exact ⟨_, rfl, hE2, fun s h1 h2 => ⟨r2, h1 rfl, hAt⟩⟩
      | 13, ho =>
        obtain rfl := Option.some.inj ho
        have hg := hA.new 2 (by decide) (by kernel_rfl)
        have e1 : a'.eval (.tmp 78) = .agg #[.int .i64 4, .int .i64 ox, .string { data := #[] }, .int .i64 0, .slice q1 2 c1] := (sv_dst (l := _) rfl).symm.trans (hA.new 3 (by decide) (by kernel_rfl))
        obtain ⟨r0, h12, hA12⟩ := hA.new 12 (by decide) (by kernel_rfl)
        have e2 : a'.eval (.tmp 87) = (binX ox grA (binX oy grB grC)).val r0 2 := (sv_dst (l := _) rfl).symm.trans h12
        have hq := refEqualX_any (binX ox grA (binX oy grB grC)) (binX ox grA (binX oy grB grC)) q1 r0 c1 2 W (HAE.out.below hA.rel) hA12
        rw [HCK.out, eqX_self] at hq
        refine GoesG.callG 11 #[.agg #[.int .i64 4, .int .i64 ox, .string { data := #[] }, .int .i64 0, .slice q1 2 c1], (binX ox grA (binX oy grB grC)).val r0 2] 2 true true rfl hg rfl ?_ (Calls.mono (show Gives _ _ #[.agg #[.int .i64 4, .int .i64 ox, .string { data := #[] }, .int .i64 0, .slice q1 2 c1], (binX ox grA (binX oy grB grC)).val r0 2] W (.bool true) from hq) ?_)
        · simp [execOp, resolve, invoke, Deferred.ofValue, e1, e2]
          rfl
        · rintro _ W2 ⟨rfl, hE2⟩
          exact ⟨_, rfl, hE2, fun s h1 h2 => h1 rfl⟩
      | 14, ho =>
        obtain rfl := Option.some.inj ho
        have e1 : a'.eval (.tmp 77) = .bool true := (sv_dst (l := _) rfl).symm.trans (hA.new 2 (by decide) (by kernel_rfl))
        have e2 : a'.eval (.tmp 88) = .bool true := (sv_dst (l := _) rfl).symm.trans (hA.new 13 (by decide) (by kernel_rfl))
        refine GoesG.value (.bool true) rfl ?_ (Below.refl _ _) (fun s h1 h2 => h1 rfl)
        simp only [execOp, e1, e2]
        simp [go_sem, x0, x1, x2, x3, x4, k0, k1, k2, k3, k4, l0, l1, l2, l3, l4, m0, m1, m2, m3, m4, u0, u1, u2, v0, v1, v2]
      | 15, ho =>
        obtain rfl := Option.some.inj ho
        have e1 : a'.eval (.tmp 89) = .bool true := (sv_dst (l := _) rfl).symm.trans (hA.new 14 (by decide) (by kernel_rfl))
        refine GoesG.value (.bool true) rfl ?_ (Below.refl _ _) (fun s h1 h2 => h1 rfl)
        simp only [execOp, e1]
        simp [go_sem, x0, x1, x2, x3, x4, k0, k1, k2, k3, k4, l0, l1, l2, l3, l4, m0, m1, m2, m3, m4, u0, u1, u2, v0, v1, v2]
      | 16, ho =>
        obtain rfl := Option.some.inj ho
        have hg := hA.new 15 (by decide) (by kernel_rfl)
        refine GoesG.callG 7 #[] 15 true true rfl hg rfl ?_ (Calls.mono (KA.out W (Ext.trans HE9.out hA.rel)) ?_)
        · simp [execOp, resolve, invoke, Deferred.ofValue]
          rfl
        · rintro _ W2 ⟨rfl, hE2⟩
          exact ⟨_, rfl, hE2, fun s h1 h2 => h1 rfl⟩
      | 17, ho =>
        obtain rfl := Option.some.inj ho
        have e1 : a'.eval (.tmp 90) = .bool true := (sv_dst (l := _) rfl).symm.trans (hA.new 15 (by decide) (by kernel_rfl))
        have e2 : a'.eval (.tmp 91) = .bool true := (sv_dst (l := _) rfl).symm.trans (hA.new 16 (by decide) (by kernel_rfl))
        refine GoesG.value (.bool true) rfl ?_ (Below.refl _ _) (fun s h1 h2 => h1 rfl)
        simp only [execOp, e1, e2]
        simp [go_sem, x0, x1, x2, x3, x4, k0, k1, k2, k3, k4, l0, l1, l2, l3, l4, m0, m1, m2, m3, m4, u0, u1, u2, v0, v1, v2]
      | i + 18, ho => cases ho
    · intro vs w10 hvs hG hΦ
      obtain ⟨z0, z1, z2, z3, z4, z5, z6, z7, z8, z9, z10, z11, z12, z13, z14, z15, z16, z17, rfl⟩ : ∃ z0 z1 z2 z3 z4 z5 z6 z7 z8 z9 z10 z11 z12 z13 z14 z15 z16 z17, vs = z0 :: z1 :: z2 :: z3 :: z4 :: z5 :: z6 :: z7 :: z8 :: z9 :: z10 :: z11 :: z12 :: z13 :: z14 :: z15 :: z16 :: z17 :: [] := by
        match vs, hvs with
        | z0 :: z1 :: z2 :: z3 :: z4 :: z5 :: z6 :: z7 :: z8 :: z9 :: z10 :: z11 :: z12 :: z13 :: z14 :: z15 :: z16 :: z17 :: [], _ => exact ⟨z0, z1, z2, z3, z4, z5, z6, z7, z8, z9, z10, z11, z12, z13, z14, z15, z16, z17, rfl⟩
      have e0 : z0 = .int .i64 0 := hΦ 0 (by decide)
      subst e0
      have e1 : z1 = .bool true := hΦ 1 (by decide)
      subst e1
      have e2 : z2 = .bool true := hΦ 2 (by decide)
      subst e2
      have e3 : z3 = .agg #[.int .i64 4, .int .i64 ox, .string { data := #[] }, .int .i64 0, .slice q1 2 c1] := hΦ 3 (by decide)
      subst e3
      have e4 : z4 = .pointer (some ⟨A1, 1, none⟩) := hΦ 4 (by decide)
      subst e4
      have e5 : z5 = .int .i64 (ox : Int) := hΦ 5 (by decide)
      subst e5
      have e6 : z6 = .agg #[.int .i64 2, .int .i64 0, .string { data := #[97] }, .int .i64 0, .slice none 0 0] := hΦ 6 (by decide)
      subst e6
      have e7 : z7 = .pointer (some ⟨A2, 1, none⟩) := hΦ 7 (by decide)
      subst e7
      have e8 : z8 = .int .i64 (oy : Int) := hΦ 8 (by decide)
      subst e8
      have e9 : z9 = .agg #[.int .i64 2, .int .i64 0, .string { data := #[98] }, .int .i64 0, .slice none 0 0] := hΦ 9 (by decide)
      subst e9
      have e10 : z10 = .agg #[.int .i64 2, .int .i64 0, .string { data := #[99] }, .int .i64 0, .slice none 0 0] := hΦ 10 (by decide)
      subst e10
      have p11 : ∃ r, z11 = (binX oy grB grC).val r 2 ∧ Ex.At w10 r (binX oy grB grC) := hΦ 11 (by decide)
      have p12 : ∃ r, z12 = (binX ox grA (binX oy grB grC)).val r 2 ∧ Ex.At w10 r (binX ox grA (binX oy grB grC)) := hΦ 12 (by decide)
      have e13 : z13 = .bool true := hΦ 13 (by decide)
      subst e13
      have e14 : z14 = .bool true := hΦ 14 (by decide)
      subst e14
      have e15 : z15 = .bool true := hΦ 15 (by decide)
      subst e15
      have e16 : z16 = .bool true := hΦ 16 (by decide)
      subst e16
      have e17 : z17 = .bool true := hΦ 17 (by decide)
      subst e17
      clear hΦ hvs
      simp only [putAll, Act.put, List.setIfInBounds_toArray, List.set_cons_succ, List.set_cons_zero]
      go_wp2
      go_ret
      exact ⟨rfl, Ext.trans HE9.out hG⟩
set_option maxRecDepth 100000 in
set_option maxHeartbeats 16000000 in
theorem grp_C1 (i k m n : Nat) (hi : i ≤ 255) (hk : k ≤ 255) (hmi : (i : Int).tmod 13 = (m : Int)) (hnk : (k : Int).tmod 13 = (n : Int)) (hm13 : m < 13) (hn13 : n < 13) (sx : List UInt8) (ox px : Nat) (sy : List UInt8) (oy py : Nat)
    (hxe : grL[m]'(by rw [grL_len]; exact hm13) = (sx, ox, px)) (hye : grL[n]'(by rw [grL_len]; exact hn13) = (sy, oy, py)) (hc : ¬ (px = 3 ∧ py = 3) ∧ ¬ px < py) (e1 : ((px : Int) == 3) = false) (e3 : ¬ (px : Int) < (py : Int))
    (w : World) (hTab : TabW w) (hM : MaxL w) : Gives Tryd.prog 5 #[.int .u8 (i : Int), .int .u8 (k : Int)] w (.bool true) := by
  have hXL : (sx, ox, px) ∈ grL := by rw [← hxe]; exact List.getElem_mem _
  have hYL : (sy, oy, py) ∈ grL := by rw [← hye]; exact List.getElem_mem _
  have KA := Lib.hid (fun W (hW : Ext w W) => lxAwake_any W (hTab.below hW) (hM.ext hW))
  obtain ⟨_, hx1, hx2, hx3, hx4, hx5, hx6⟩ := gr_lx _ hXL
  obtain ⟨_, hy1, hy2, hy3, hy4, hy5, hy6⟩ := gr_lx _ hYL
  dsimp only at hx1 hx2 hx3 hx4 hx5 hx6 hy1 hy2 hy3 hy4 hy5 hy6
  obtain ⟨r, hr, hps⟩ := gr_ps hXL hYL
  unfold grR at hps; rw [if_neg (show ¬ ((sx, ox, px).2.2 = 3 ∧ (sy, oy, py).2.2 = 3) from hc.1), if_neg (show ¬ (sx, ox, px).2.2 < (sy, oy, py).2.2 from hc.2)] at hps
  have hgs : grS sx sy = 97 :: (sx ++ 98 :: (sy ++ [99])) := by simp [grS]
  dsimp only at hps
  have K1 := Lib.hid (fun W (hW : Ext w W) => (by
    have := Parse_any (grS sx sy) W (by simp [grS]; omega) (hTab.below hW) (hM.ext hW) r (fun _ => hr)
    rw [hps, hgs] at this; exact this : Calls Tryd.prog 8 #[sV (97 :: (sx ++ 98 :: (sy ++ [99])))] W fun e w' => ∃ q cc, e = .returned (.tuple #[.agg #[.int .i64 4, .int .i64 oy, .string { data := #[] }, .int .i64 0, .slice q 2 cc], .int .i64 0, .int .i64 0]) ∧ AtB (W.heap.size ≤ ·) w' q (binX oy (binX ox grA grB) grC) ∧ Ext W w'))
  have KN1 := Lib.hid (fun W => (show Gives Tryd.prog 13 #[.string { data := #[97] }] W (.agg #[.int .i64 2, .int .i64 0, .string { data := #[97] }, .int .i64 0, .slice none 0 0]) from lawName_any [97] W))
  have KN2 := Lib.hid (fun W => (show Gives Tryd.prog 13 #[.string { data := #[98] }] W (.agg #[.int .i64 2, .int .i64 0, .string { data := #[98] }, .int .i64 0, .slice none 0 0]) from lawName_any [98] W))
  have KN3 := Lib.hid (fun W => (show Gives Tryd.prog 13 #[.string { data := #[99] }] W (.agg #[.int .i64 2, .int .i64 0, .string { data := #[99] }, .int .i64 0, .slice none 0 0]) from lawName_any [99] W))
  have HCK := Lib.hid (gr_chk2 _ hXL _ hYL)
  dsimp only at HCK
  have hcat : ({ data := #[97] } : ByteArray) ++ sB sx ++ { data := #[98] } ++ sB sy ++ { data := #[99] } = sB (97 :: (sx ++ 98 :: (sy ++ [99]))) := by
    show sB [97] ++ sB sx ++ sB [98] ++ sB sy ++ sB [99] = _
    rw [sB_app, sB_app, sB_app, sB_app]
    simp
  have hsz := sB_size sx
  clear hTab hM hr hps hXL hYL hx1 hx2 hy1 hy2 hc
  unfold Gives
  go_enter Tryd.func5, Tryd.ntmps5
  go_wp2_with fail
  refine (show Calls _ _ _ _ _ from lawOps_any w).mono ?_
  rintro _ w1 ⟨B, rfl, hE1, hC⟩
  have hx := hC m hm13
  have hy := hC n hn13
  have HE1 := Lib.hid hE1
  rw [hxe] at hx
  rw [hye] at hy
  clear hC hE1 hxe hye
  dsimp only [opI] at hx hy
  obtain ⟨x0, x1, x2⟩ := hx
  obtain ⟨y0, y1, y2⟩ := hy
  have hBl : B < w1.heap.size := cell_lt' x0
  go_upto_region 2 with fail
  go_region
  · obtain ⟨W2, hW2⟩ : ∃ W, ((w1.alloc (.cells #[.string (sB sx), .int .i64 (ox : Int), .int .i64 (px : Int)] 36)).alloc (.cells #[.string (sB sy), .int .i64 (oy : Int), .int .i64 (py : Int)] 36)).drew = W := ⟨_, rfl⟩
    rw [hW2]
    have hb1 : W2.heap[w1.heap.size]? = some (.cells #[.string (sB sx), .int .i64 (ox : Int), .int .i64 (px : Int)] 36 (0, 0)) := by
      rw [← hW2]
      show ((w1.alloc (.cells #[.string (sB sx), .int .i64 (ox : Int), .int .i64 (px : Int)] 36)).alloc (.cells #[.string (sB sy), .int .i64 (oy : Int), .int .i64 (py : Int)] 36)).heap[_]? = _
      rw [Below.heap_alloc _ _ _ (by rw [World.size_alloc]; omega)]
      exact alloc_here w1 (.cells #[.string (sB sx), .int .i64 (ox : Int), .int .i64 (px : Int)] 36)
    have hb2 : W2.heap[w1.heap.size + 1]? = some (.cells #[.string (sB sy), .int .i64 (oy : Int), .int .i64 (py : Int)] 36 (0, 0)) := by
      rw [← hW2]
      have := alloc_here (w1.alloc (.cells #[.string (sB sx), .int .i64 (ox : Int), .int .i64 (px : Int)] 36)) (.cells #[.string (sB sy), .int .i64 (oy : Int), .int .i64 (py : Int)] 36)
      rw [World.size_alloc] at this; exact this
    have hE2 : Ext w1 W2 := by rw [← hW2]; exact Ext.drewN' (n := 1) (((Below.refl _ w1).alloc (Nat.le_refl _) _).alloc (by simp) _)
    clear hW2 x0 x1 x2 y0 y1 y2 hBl
    generalize w1.heap.size + 1 = A2 at *
    generalize w1.heap.size = A1 at *
    have HX1 := Lib.hid hb1
    have HY1 := Lib.hid hb2
    have HE2 := Lib.hid (Ext.trans HE1.out hE2)
    have u0 := cell_of (i := 0) hb1 rfl
    have v0 := cell_of (i := 0) hb2 rfl
    clear hb1 hb2 hE2
    go_wp2_with fail
    try rw [hcat]
    refine (show Calls _ _ _ _ _ from K1.out _ HE2.out).mono ?_
    rintro _ w3 ⟨q1, c1, rfl, hA3, hE3⟩
    dsimp only
    have HA3 := Lib.hid hA3
    have HX3 := Lib.hid ((hE3.below.block _ (lt_of_block HX1.out)).trans HX1.out)
    have HY3 := Lib.hid ((hE3.below.block _ (lt_of_block HY1.out)).trans HY1.out)
    have HE3 := Lib.hid (Ext.trans HE2.out hE3)
    clear hA3 hE3 u0 v0
    have HE4 := Lib.hid (ext_alloc w3 (.cells #[.int .i64 4, .int .i64 oy, .string { data := #[] }, .int .i64 0, .slice q1 2 c1] 25))
    have HB4 := Lib.hid (alloc_here w3 (.cells #[.int .i64 4, .int .i64 oy, .string { data := #[] }, .int .i64 0, .slice q1 2 c1] 25))
    go_wp2_with fail
    refine (KN1.out _).mono ?_
    intro wa hEa
    have HEa := Lib.hid (Ext.trans HE4.out hEa)
    have HBa := Lib.hid ((hEa.block _ (lt_of_block HB4.out)).trans HB4.out)
    clear hEa
    go_wp2_with fail
    refine (KN2.out _).mono ?_
    intro wb hEb
    have HEb := Lib.hid (Ext.trans HEa.out hEb)
    have HBb := Lib.hid ((hEb.block _ (lt_of_block HBa.out)).trans HBa.out)
    clear hEb
    go_wp2_with fail
    refine (KN3.out _).mono ?_
    intro wc hEc
    have HEc := Lib.hid (Ext.trans HEb.out hEc)
    have HBc := Lib.hid ((hEc.block _ (lt_of_block HBb.out)).trans HBb.out)
    clear hEc
    go_upto_region 5 with fail
    obtain ⟨w9, hw9⟩ : ∃ W, (((wc.alloc (.cells #[.int .i64 2, .int .i64 0, .string { data := #[97] }, .int .i64 0, .slice none 0 0] 25)).alloc (.cells #[.int .i64 2, .int .i64 0, .string { data := #[98] }, .int .i64 0, .slice none 0 0] 25)).alloc (.cells #[.int .i64 2, .int .i64 0, .string { data := #[99] }, .int .i64 0, .slice none 0 0] 25)) = W := ⟨_, rfl⟩
    rw [hw9]
    have hE9 : Ext wc w9 := by rw [← hw9]; exact ((((Below.refl _ wc).alloc (Nat.le_refl _) _).alloc (by simp) _).alloc (by simp; omega) _)
    have h3 : w9.heap[wc.heap.size + 1 + 1]? = some (.cells #[.int .i64 2, .int .i64 0, .string { data := #[99] }, .int .i64 0, .slice none 0 0] 25 (0, 0)) := by
      have := alloc_here ((wc.alloc (.cells #[.int .i64 2, .int .i64 0, .string { data := #[97] }, .int .i64 0, .slice none 0 0] 25)).alloc (.cells #[.int .i64 2, .int .i64 0, .string { data := #[98] }, .int .i64 0, .slice none 0 0] 25)) (.cells #[.int .i64 2, .int .i64 0, .string { data := #[99] }, .int .i64 0, .slice none 0 0] 25)
      rw [hw9, World.size_alloc, World.size_alloc] at this; exact this
    have h2 : w9.heap[wc.heap.size + 1]? = some (.cells #[.int .i64 2, .int .i64 0, .string { data := #[98] }, .int .i64 0, .slice none 0 0] 25 (0, 0)) := by
      rw [← hw9, Below.heap_alloc _ _ _ (by rw [World.size_alloc, World.size_alloc]; omega)]
      have := alloc_here (wc.alloc (.cells #[.int .i64 2, .int .i64 0, .string { data := #[97] }, .int .i64 0, .slice none 0 0] 25)) (.cells #[.int .i64 2, .int .i64 0, .string { data := #[98] }, .int .i64 0, .slice none 0 0] 25)
      rw [World.size_alloc] at this; exact this
    have h1 : w9.heap[wc.heap.size]? = some (.cells #[.int .i64 2, .int .i64 0, .string { data := #[97] }, .int .i64 0, .slice none 0 0] 25 (0, 0)) := by
      rw [← hw9, Below.heap_alloc _ _ _ (by rw [World.size_alloc, World.size_alloc]; omega), Below.heap_alloc _ _ _ (by rw [World.size_alloc]; omega)]
      exact alloc_here wc (.cells #[.int .i64 2, .int .i64 0, .string { data := #[97] }, .int .i64 0, .slice none 0 0] 25)
    have HA9 := Lib.hid h1
    have HB9 := Lib.hid h2
    have HC9 := Lib.hid h3
    have HE39 := Lib.hid (Ext.trans HEc.out hE9)
    have HE9 := Lib.hid (Ext.trans HE3.out HE39.out)
    have HE9B := Lib.hid ((hE9.below.block _ (lt_of_block HBc.out)).trans HBc.out)
    have HX9 := Lib.hid ((HE39.out.below.block _ (lt_of_block HX3.out)).trans HX3.out)
    have HY9 := Lib.hid ((HE39.out.below.block _ (lt_of_block HY3.out)).trans HY3.out)
    have HAE := Lib.hid (show Ex.At w9 q1 (binX oy (binX ox grA grB) grC) from (HA3.out.ext HE39.out).at)
    clear hw9 hE9 h1 h2 h3
    have u0 := cell_of (i := 0) HX9.out rfl
    have u2 := cell_of (i := 2) HX9.out rfl
    have v2 := cell_of (i := 2) HY9.out rfl
    go_upto_region 9 with fail
    refine wp_region_tail (l1 := [_, _, _, _, _, _, _, _, _, _, _, _, _, _, _, _, _, _]) (l2 := [_]) (by kernel_rfl) Ext (fun W => Below.refl _ W) (fun W => show Below W.heap.size W { W with drawn := W.drawn + 1 } from ⟨rfl, rfl, rfl, Nat.le_refl _, fun _ _ => rfl⟩) Ext.trans
      (fun i s W => match i with
        | 0 => s 0 = .int .i64 0
        | 1 => s 1 = .bool true
        | 2 => s 2 = .bool true
        | 3 => s 3 = .agg #[.int .i64 4, .int .i64 oy, .string { data := #[] }, .int .i64 0, .slice q1 2 c1]
        | 4 => s 4 = .pointer (some ⟨A2, 1, none⟩)
        | 5 => s 5 = .int .i64 (oy : Int)
        | 6 => s 6 = .pointer (some ⟨A1, 1, none⟩)
        | 7 => s 7 = .int .i64 (ox : Int)
        | 8 => s 8 = .agg #[.int .i64 2, .int .i64 0, .string { data := #[97] }, .int .i64 0, .slice none 0 0]
        | 9 => s 9 = .agg #[.int .i64 2, .int .i64 0, .string { data := #[98] }, .int .i64 0, .slice none 0 0]
        | 10 => ∃ r, s 10 = (binX ox grA grB).val r 2 ∧ Ex.At W r (binX ox grA grB)
        | 11 => s 11 = .agg #[.int .i64 2, .int .i64 0, .string { data := #[99] }, .int .i64 0, .slice none 0 0]
        | 12 => ∃ r, s 12 = (binX oy (binX ox grA grB) grC).val r 2 ∧ Ex.At W r (binX oy (binX ox grA grB) grC)
        | 13 => s 13 = .bool true
        | 14 => s 14 = .bool true
        | 15 => s 15 = .bool true
        | 16 => s 16 = .bool true
        | 17 => s 17 = .bool true
        | _ => True)
      (fun i => [i])
      (by
        intro i s s' W W' h hs hE
        have hs := hs i (by simp)
        match i, h, hs with
        | 0, h, hs => exact hs.trans h
        | 1, h, hs => exact hs.trans h
        | 2, h, hs => exact hs.trans h
        | 3, h, hs => exact hs.trans h
        | 4, h, hs => exact hs.trans h
        | 5, h, hs => exact hs.trans h
        | 6, h, hs => exact hs.trans h
        | 7, h, hs => exact hs.trans h
        | 8, h, hs => exact hs.trans h
        | 9, h, hs => exact hs.trans h
        | 10, ⟨r, h1, h2⟩, hs => exact ⟨r, hs.trans h1, h2.below hE⟩
        | 11, h, hs => exact hs.trans h
        | 12, ⟨r, h1, h2⟩, hs => exact ⟨r, hs.trans h1, h2.below hE⟩
        | 13, h, hs => exact hs.trans h
        | 14, h, hs => exact hs.trans h
        | 15, h, hs => exact hs.trans h
        | 16, h, hs => exact hs.trans h
        | 17, h, hs => exact hs.trans h
        | i + 18, h, hs => exact trivial)
      (by kernel_rfl) (by kernel_rfl) (by kernel_rfl) 111 rfl (by kernel_rfl) (by kernel_rfl) ?_ ?_
    · intro i op ho a' W hA
      have x0 : W.cell? ⟨w3.heap.size, 0, none⟩ = _ := Ext.cellE (cell_of HE9B.out rfl) hA.rel
      have x1 : W.cell? ⟨w3.heap.size, 1, none⟩ = _ := Ext.cellE (cell_of HE9B.out rfl) hA.rel
      have x2 : W.cell? ⟨w3.heap.size, 2, none⟩ = _ := Ext.cellE (cell_of HE9B.out rfl) hA.rel
      have x3 : W.cell? ⟨w3.heap.size, 3, none⟩ = _ := Ext.cellE (cell_of HE9B.out rfl) hA.rel
      have x4 : W.cell? ⟨w3.heap.size, 4, none⟩ = _ := Ext.cellE (cell_of HE9B.out rfl) hA.rel
      have k0 : W.cell? ⟨wc.heap.size, 0, none⟩ = _ := Ext.cellE (cell_of HA9.out rfl) hA.rel
      have k1 : W.cell? ⟨wc.heap.size, 1, none⟩ = _ := Ext.cellE (cell_of HA9.out rfl) hA.rel
      have k2 : W.cell? ⟨wc.heap.size, 2, none⟩ = _ := Ext.cellE (cell_of HA9.out rfl) hA.rel
      have k3 : W.cell? ⟨wc.heap.size, 3, none⟩ = _ := Ext.cellE (cell_of HA9.out rfl) hA.rel
      have k4 : W.cell? ⟨wc.heap.size, 4, none⟩ = _ := Ext.cellE (cell_of HA9.out rfl) hA.rel
      have l0 : W.cell? ⟨wc.heap.size + 1, 0, none⟩ = _ := Ext.cellE (cell_of HB9.out rfl) hA.rel
      have l1 : W.cell? ⟨wc.heap.size + 1, 1, none⟩ = _ := Ext.cellE (cell_of HB9.out rfl) hA.rel
      have l2 : W.cell? ⟨wc.heap.size + 1, 2, none⟩ = _ := Ext.cellE (cell_of HB9.out rfl) hA.rel
      have l3 : W.cell? ⟨wc.heap.size + 1, 3, none⟩ = _ := Ext.cellE (cell_of HB9.out rfl) hA.rel
      have l4 : W.cell? ⟨wc.heap.size + 1, 4, none⟩ = _ := Ext.cellE (cell_of HB9.out rfl) hA.rel
      have m0 : W.cell? ⟨wc.heap.size + 1 + 1, 0, none⟩ = _ := Ext.cellE (cell_of HC9.out rfl) hA.rel
      have m1 : W.cell? ⟨wc.heap.size + 1 + 1, 1, none⟩ = _ := Ext.cellE (cell_of HC9.out rfl) hA.rel
      have m2 : W.cell? ⟨wc.heap.size + 1 + 1, 2, none⟩ = _ := Ext.cellE (cell_of HC9.out rfl) hA.rel
      have m3 : W.cell? ⟨wc.heap.size + 1 + 1, 3, none⟩ = _ := Ext.cellE (cell_of HC9.out rfl) hA.rel
      have m4 : W.cell? ⟨wc.heap.size + 1 + 1, 4, none⟩ = _ := Ext.cellE (cell_of HC9.out rfl) hA.rel
      have u0 : W.cell? ⟨A1, 0, none⟩ = _ := Ext.cellE (cell_of HX9.out rfl) hA.rel
      have u1 : W.cell? ⟨A1, 1, none⟩ = _ := Ext.cellE (cell_of HX9.out rfl) hA.rel
      have u2 : W.cell? ⟨A1, 2, none⟩ = _ := Ext.cellE (cell_of HX9.out rfl) hA.rel
      have v0 : W.cell? ⟨A2, 0, none⟩ = _ := Ext.cellE (cell_of HY9.out rfl) hA.rel
      have v1 : W.cell? ⟨A2, 1, none⟩ = _ := Ext.cellE (cell_of HY9.out rfl) hA.rel
      have v2 : W.cell? ⟨A2, 2, none⟩ = _ := Ext.cellE (cell_of HY9.out rfl) hA.rel
      match i, ho with
      | 0, ho =>
        obtain rfl := Option.some.inj ho
        have e1 : a'.eval (.tmp 10) = .int .i64 0 := hA.keep 10 (by kernel_rfl)
        refine GoesG.value (.int .i64 0) rfl ?_ (Below.refl _ _) (fun s h1 h2 => h1 rfl)
        simp only [execOp, e1]
        simp [go_sem, x0, x1, x2, x3, x4, k0, k1, k2, k3, k4, l0, l1, l2, l3, l4, m0, m1, m2, m3, m4, u0, u1, u2, v0, v1, v2]
      | 1, ho =>
        obtain rfl := Option.some.inj ho
        have e1 : a'.eval (.tmp 93) = .int .i64 0 := (sv_dst (l := _) rfl).symm.trans (hA.new 0 (by decide) (by kernel_rfl))
        refine GoesG.value (.bool true) rfl ?_ (Below.refl _ _) (fun s h1 h2 => h1 rfl)
        simp only [execOp, e1]
        simp [go_sem, x0, x1, x2, x3, x4, k0, k1, k2, k3, k4, l0, l1, l2, l3, l4, m0, m1, m2, m3, m4, u0, u1, u2, v0, v1, v2]
      | 2, ho =>
        obtain rfl := Option.some.inj ho
        have e1 : a'.eval (.tmp 94) = .bool true := (sv_dst (l := _) rfl).symm.trans (hA.new 1 (by decide) (by kernel_rfl))
        refine GoesG.value (.bool true) rfl ?_ (Below.refl _ _) (fun s h1 h2 => h1 rfl)
        simp only [execOp, e1]
        simp [go_sem, x0, x1, x2, x3, x4, k0, k1, k2, k3, k4, l0, l1, l2, l3, l4, m0, m1, m2, m3, m4, u0, u1, u2, v0, v1, v2]
      | 3, ho =>
        obtain rfl := Option.some.inj ho
        have hg := hA.new 2 (by decide) (by kernel_rfl)
        have e1 : a'.eval (.tmp 8) = .pointer (some ⟨w3.heap.size, 0, none⟩) := hA.keep 8 (by kernel_rfl)
        refine GoesG.valueW (.agg #[.int .i64 4, .int .i64 oy, .string { data := #[] }, .int .i64 0, .slice q1 2 c1]) 2 true true rfl hg rfl ?_ (Below.refl _ _) (fun s h1 h2 => h1 rfl)
        simp only [execOp, e1]
        simp [go_sem, x0, x1, x2, x3, x4, k0, k1, k2, k3, k4, l0, l1, l2, l3, l4, m0, m1, m2, m3, m4, u0, u1, u2, v0, v1, v2]
      | 4, ho =>
        obtain rfl := Option.some.inj ho
        have hg := hA.new 2 (by decide) (by kernel_rfl)
        have e1 : a'.eval (.tmp 7) = .pointer (some ⟨A2, 0, none⟩) := hA.keep 7 (by kernel_rfl)
        refine GoesG.valueW (.pointer (some ⟨A2, 1, none⟩)) 2 true true rfl hg rfl ?_ (Below.refl _ _) (fun s h1 h2 => h1 rfl)
        simp only [execOp, e1]
        simp [go_sem, x0, x1, x2, x3, x4, k0, k1, k2, k3, k4, l0, l1, l2, l3, l4, m0, m1, m2, m3, m4, u0, u1, u2, v0, v1, v2]
      | 5, ho =>
        obtain rfl := Option.some.inj ho
        have hg := hA.new 2 (by decide) (by kernel_rfl)
        have e1 : a'.eval (.tmp 97) = .pointer (some ⟨A2, 1, none⟩) := (sv_dst (l := _) rfl).symm.trans (hA.new 4 (by decide) (by kernel_rfl))
        refine GoesG.valueW (.int .i64 (oy : Int)) 2 true true rfl hg rfl ?_ (Below.refl _ _) (fun s h1 h2 => h1 rfl)
        simp only [execOp, e1]
        simp [go_sem, x0, x1, x2, x3, x4, k0, k1, k2, k3, k4, l0, l1, l2, l3, l4, m0, m1, m2, m3, m4, u0, u1, u2, v0, v1, v2]
      | 6, ho =>
        obtain rfl := Option.some.inj ho
        have hg := hA.new 2 (by decide) (by kernel_rfl)
        have e1 : a'.eval (.tmp 6) = .pointer (some ⟨A1, 0, none⟩) := hA.keep 6 (by kernel_rfl)
        refine GoesG.valueW (.pointer (some ⟨A1, 1, none⟩)) 2 true true rfl hg rfl ?_ (Below.refl _ _) (fun s h1 h2 => h1 rfl)
        simp only [execOp, e1]
        simp [go_sem, x0, x1, x2, x3, x4, k0, k1, k2, k3, k4, l0, l1, l2, l3, l4, m0, m1, m2, m3, m4, u0, u1, u2, v0, v1, v2]
      | 7, ho =>
        obtain rfl := Option.some.inj ho
        have hg := hA.new 2 (by decide) (by kernel_rfl)
        have e1 : a'.eval (.tmp 99) = .pointer (some ⟨A1, 1, none⟩) := (sv_dst (l := _) rfl).symm.trans (hA.new 6 (by decide) (by kernel_rfl))
        refine GoesG.valueW (.int .i64 (ox : Int)) 2 true true rfl hg rfl ?_ (Below.refl _ _) (fun s h1 h2 => h1 rfl)
        simp only [execOp, e1]
        simp [go_sem, x0, x1, x2, x3, x4, k0, k1, k2, k3, k4, l0, l1, l2, l3, l4, m0, m1, m2, m3, m4, u0, u1, u2, v0, v1, v2]
      | 8, ho =>
        obtain rfl := Option.some.inj ho
        have hg := hA.new 2 (by decide) (by kernel_rfl)
        have e1 : a'.eval (.tmp 11) = .pointer (some ⟨wc.heap.size, 0, none⟩) := hA.keep 11 (by kernel_rfl)
        refine GoesG.valueW (.agg #[.int .i64 2, .int .i64 0, .string { data := #[97] }, .int .i64 0, .slice none 0 0]) 2 true true rfl hg rfl ?_ (Below.refl _ _) (fun s h1 h2 => h1 rfl)
        simp only [execOp, e1]
        simp [go_sem, x0, x1, x2, x3, x4, k0, k1, k2, k3, k4, l0, l1, l2, l3, l4, m0, m1, m2, m3, m4, u0, u1, u2, v0, v1, v2]
      | 9, ho =>
        obtain rfl := Option.some.inj ho
        have hg := hA.new 2 (by decide) (by kernel_rfl)
        have e1 : a'.eval (.tmp 12) = .pointer (some ⟨wc.heap.size + 1, 0, none⟩) := hA.keep 12 (by kernel_rfl)
        refine GoesG.valueW (.agg #[.int .i64 2, .int .i64 0, .string { data := #[98] }, .int .i64 0, .slice none 0 0]) 2 true true rfl hg rfl ?_ (Below.refl _ _) (fun s h1 h2 => h1 rfl)
        simp only [execOp, e1]
        simp [go_sem, x0, x1, x2, x3, x4, k0, k1, k2, k3, k4, l0, l1, l2, l3, l4, m0, m1, m2, m3, m4, u0, u1, u2, v0, v1, v2]
      | 10, ho =>
        obtain rfl := Option.some.inj ho
        have hg := hA.new 2 (by decide) (by kernel_rfl)
        have e1 : a'.eval (.tmp 100) = .int .i64 (ox : Int) := (sv_dst (l := _) rfl).symm.trans (hA.new 7 (by decide) (by kernel_rfl))
        have e2 : a'.eval (.tmp 101) = .agg #[.int .i64 2, .int .i64 0, .string { data := #[97] }, .int .i64 0, .slice none 0 0] := (sv_dst (l := _) rfl).symm.trans (hA.new 8 (by decide) (by kernel_rfl))
        have e3 : a'.eval (.tmp 102) = .agg #[.int .i64 2, .int .i64 0, .string { data := #[98] }, .int .i64 0, .slice none 0 0] := (sv_dst (l := _) rfl).symm.trans (hA.new 9 (by decide) (by kernel_rfl))
        refine GoesG.callG 14 #[.int .i64 (ox : Int), .agg #[.int .i64 2, .int .i64 0, .string { data := #[97] }, .int .i64 0, .slice none 0 0], .agg #[.int .i64 2, .int .i64 0, .string { data := #[98] }, .int .i64 0, .slice none 0 0]] 2 true true rfl hg rfl ?_ (Calls.mono (lawBin_any ox (by omega) (by omega) grA grB none none 0 0 W (AtB_leaf (fun _ => True) W none (fits_nam (s := [97]) (by decide))).at (AtB_leaf (fun _ => True) W none (fits_nam (s := [98]) (by decide))).at) ?_)
        · simp [execOp, resolve, invoke, Deferred.ofValue, e1, e2, e3]
          rfl
        · rintro _ W2 ⟨r2, rfl, hAt, hE2⟩
          exact ⟨_, rfl, hE2, fun s h1 h2 => ⟨r2, h1 rfl, hAt⟩⟩
      | 11, ho =>
        obtain rfl := Option.some.inj ho
        have hg := hA.new 2 (by decide) (by kernel_rfl)
        have e1 : a'.eval (.tmp 13) = .pointer (some ⟨wc.heap.size + 1 + 1, 0, none⟩) := hA.keep 13 (by kernel_rfl)
        refine GoesG.valueW (.agg #[.int .i64 2, .int .i64 0, .string { data := #[99] }, .int .i64 0, .slice none 0 0]) 2 true true rfl hg rfl ?_ (Below.refl _ _) (fun s h1 h2 => h1 rfl)
        simp only [execOp, e1]
        simp [go_sem, x0, x1, x2, x3, x4, k0, k1, k2, k3, k4, l0, l1, l2, l3, l4, m0, m1, m2, m3, m4, u0, u1, u2, v0, v1, v2]
      | 12, ho =>
        obtain rfl := Option.some.inj ho
        have hg := hA.new 2 (by decide) (by kernel_rfl)
        have e1 : a'.eval (.tmp 98) = .int .i64 (oy : Int) := (sv_dst (l := _) rfl).symm.trans (hA.new 5 (by decide) (by kernel_rfl))
        obtain ⟨r0, h10, hA10⟩ := hA.new 10 (by decide) (by kernel_rfl)
        have e2 : a'.eval (.tmp 103) = (binX ox grA grB).val r0 2 := (sv_dst (l := _) rfl).symm.trans h10
        have e3 : a'.eval (.tmp 104) = .agg #[.int .i64 2, .int .i64 0, .string { data := #[99] }, .int .i64 0, .slice none 0 0] := (sv_dst (l := _) rfl).symm.trans (hA.new 11 (by decide) (by kernel_rfl))
        refine GoesG.callG 14 #[.int .i64 (oy : Int), (binX ox grA grB).val r0 2, .agg #[.int .i64 2, .int .i64 0, .string { data := #[99] }, .int .i64 0, .slice none 0 0]] 2 true true rfl hg rfl ?_ (Calls.mono (lawBin_any oy (by omega) (by omega) (binX ox grA grB) grC r0 none 2 0 W hA10 (AtB_leaf (fun _ => True) W none (fits_nam (s := [99]) (by decide))).at) ?_)
        · simp [execOp, resolve, invoke, Deferred.ofValue, e1, e2, e3]
          rfl
        · rintro _ W2 ⟨r2, rfl, hAt, hE2⟩
          exact ⟨_, rfl, hE2, fun s h1 h2 => ⟨r2, h1 rfl, hAt⟩⟩
      | 13, ho =>
        obtain rfl := Option.some.inj ho
        have hg := hA.new 2 (by decide) (by kernel_rfl)
        have e1 : a'.eval (.tmp 96) = .agg #[.int .i64 4, .int .i64 oy, .string { data := #[] }, .int .i64 0, .slice q1 2 c1] := (sv_dst (l := _) rfl).symm.trans (hA.new 3 (by decide) (by kernel_rfl))
        obtain ⟨r0, h12, hA12⟩ := hA.new 12 (by decide) (by kernel_rfl)
        have e2 : a'.eval (.tmp 105) = (binX oy (binX ox grA grB) grC).val r0 2 := (sv_dst (l := _) rfl).symm.trans h12
        have hq := refEqualX_any (binX oy (binX ox grA grB) grC) (binX oy (binX ox grA grB) grC) q1 r0 c1 2 W (HAE.out.below hA.rel) hA12
        rw [HCK.out, eqX_self] at hq
        refine GoesG.callG 11 #[.agg #[.int .i64 4, .int .i64 oy, .string { data := #[] }, .int .i64 0, .slice q1 2 c1], (binX oy (binX ox grA grB) grC).val r0 2] 2 true true rfl hg rfl ?_ (Calls.mono (show Gives _ _ #[.agg #[.int .i64 4, .int .i64 oy, .string { data := #[] }, .int .i64 0, .slice q1 2 c1], (binX oy (binX ox grA grB) grC).val r0 2] W (.bool true) from hq) ?_)
        · simp [execOp, resolve, invoke, Deferred.ofValue, e1, e2]
          rfl
        · rintro _ W2 ⟨rfl, hE2⟩
          exact ⟨_, rfl, hE2, fun s h1 h2 => h1 rfl⟩
      | 14, ho =>
        obtain rfl := Option.some.inj ho
        have e1 : a'.eval (.tmp 95) = .bool true := (sv_dst (l := _) rfl).symm.trans (hA.new 2 (by decide) (by kernel_rfl))
        have e2 : a'.eval (.tmp 106) = .bool true := (sv_dst (l := _) rfl).symm.trans (hA.new 13 (by decide) (by kernel_rfl))
        refine GoesG.value (.bool true) rfl ?_ (Below.refl _ _) (fun s h1 h2 => h1 rfl)
        simp only [execOp, e1, e2]
        simp [go_sem, x0, x1, x2, x3, x4, k0, k1, k2, k3, k4, l0, l1, l2, l3, l4, m0, m1, m2, m3, m4, u0, u1, u2, v0, v1, v2]
      | 15, ho =>
        obtain rfl := Option.some.inj ho
        have e1 : a'.eval (.tmp 107) = .bool true := (sv_dst (l := _) rfl).symm.trans (hA.new 14 (by decide) (by kernel_rfl))
        refine GoesG.value (.bool true) rfl ?_ (Below.refl _ _) (fun s h1 h2 => h1 rfl)
        simp only [execOp, e1]
        simp [go_sem, x0, x1, x2, x3, x4, k0, k1, k2, k3, k4, l0, l1, l2, l3, l4, m0, m1, m2, m3, m4, u0, u1, u2, v0, v1, v2]
      | 16, ho =>
        obtain rfl := Option.some.inj ho
        have hg := hA.new 15 (by decide) (by kernel_rfl)
        refine GoesG.callG 7 #[] 15 true true rfl hg rfl ?_ (Calls.mono (KA.out W (Ext.trans HE9.out hA.rel)) ?_)
        · simp [execOp, resolve, invoke, Deferred.ofValue]
          rfl
        · rintro _ W2 ⟨rfl, hE2⟩
          exact ⟨_, rfl, hE2, fun s h1 h2 => h1 rfl⟩
      | 17, ho =>
        obtain rfl := Option.some.inj ho
        have e1 : a'.eval (.tmp 108) = .bool true := (sv_dst (l := _) rfl).symm.trans (hA.new 15 (by decide) (by kernel_rfl))
        have e2 : a'.eval (.tmp 109) = .bool true := (sv_dst (l := _) rfl).symm.trans (hA.new 16 (by decide) (by kernel_rfl))
        refine GoesG.value (.bool true) rfl ?_ (Below.refl _ _) (fun s h1 h2 => h1 rfl)
        simp only [execOp, e1, e2]
        simp [go_sem, x0, x1, x2, x3, x4, k0, k1, k2, k3, k4, l0, l1, l2, l3, l4, m0, m1, m2, m3, m4, u0, u1, u2, v0, v1, v2]
      | i + 18, ho => cases ho
    · intro vs w10 hvs hG hΦ
      obtain ⟨z0, z1, z2, z3, z4, z5, z6, z7, z8, z9, z10, z11, z12, z13, z14, z15, z16, z17, rfl⟩ : ∃ z0 z1 z2 z3 z4 z5 z6 z7 z8 z9 z10 z11 z12 z13 z14 z15 z16 z17, vs = z0 :: z1 :: z2 :: z3 :: z4 :: z5 :: z6 :: z7 :: z8 :: z9 :: z10 :: z11 :: z12 :: z13 :: z14 :: z15 :: z16 :: z17 :: [] := by
        match vs, hvs with
        | z0 :: z1 :: z2 :: z3 :: z4 :: z5 :: z6 :: z7 :: z8 :: z9 :: z10 :: z11 :: z12 :: z13 :: z14 :: z15 :: z16 :: z17 :: [], _ => exact ⟨z0, z1, z2, z3, z4, z5, z6, z7, z8, z9, z10, z11, z12, z13, z14, z15, z16, z17, rfl⟩
      have e0 : z0 = .int .i64 0 := hΦ 0 (by decide)
      subst e0
      have e1 : z1 = .bool true := hΦ 1 (by decide)
      subst e1
      have e2 : z2 = .bool true := hΦ 2 (by decide)
      subst e2
      have e3 : z3 = .agg #[.int .i64 4, .int .i64 oy, .string { data := #[] }, .int .i64 0, .slice q1 2 c1] := hΦ 3 (by decide)
      subst e3
      have e4 : z4 = .pointer (some ⟨A2, 1, none⟩) := hΦ 4 (by decide)
      subst e4
      have e5 : z5 = .int .i64 (oy : Int) := hΦ 5 (by decide)
      subst e5
      have e6 : z6 = .pointer (some ⟨A1, 1, none⟩) := hΦ 6 (by decide)
      subst e6
      have e7 : z7 = .int .i64 (ox : Int) := hΦ 7 (by decide)
      subst e7
      have e8 : z8 = .agg #[.int .i64 2, .int .i64 0, .string { data := #[97] }, .int .i64 0, .slice none 0 0] := hΦ 8 (by decide)
      subst e8
      have e9 : z9 = .agg #[.int .i64 2, .int .i64 0, .string { data := #[98] }, .int .i64 0, .slice none 0 0] := hΦ 9 (by decide)
      subst e9
      have p10 : ∃ r, z10 = (binX ox grA grB).val r 2 ∧ Ex.At w10 r (binX ox grA grB) := hΦ 10 (by decide)
      have e11 : z11 = .agg #[.int .i64 2, .int .i64 0, .string { data := #[99] }, .int .i64 0, .slice none 0 0] := hΦ 11 (by decide)
      subst e11
      have p12 : ∃ r, z12 = (binX oy (binX ox grA grB) grC).val r 2 ∧ Ex.At w10 r (binX oy (binX ox grA grB) grC) := hΦ 12 (by decide)
      have e13 : z13 = .bool true := hΦ 13 (by decide)
      subst e13
      have e14 : z14 = .bool true := hΦ 14 (by decide)
      subst e14
      have e15 : z15 = .bool true := hΦ 15 (by decide)
      subst e15
      have e16 : z16 = .bool true := hΦ 16 (by decide)
      subst e16
      have e17 : z17 = .bool true := hΦ 17 (by decide)
      subst e17
      clear hΦ hvs
      simp only [putAll, Act.put, List.setIfInBounds_toArray, List.set_cons_succ, List.set_cons_zero]
      go_wp2
      go_ret
      exact ⟨rfl, Ext.trans HE9.out hG⟩
  · obtain ⟨W2, hW2⟩ : ∃ W, ((w1.alloc (.cells #[.string (sB sy), .int .i64 (oy : Int), .int .i64 (py : Int)] 36)).alloc (.cells #[.string (sB sx), .int .i64 (ox : Int), .int .i64 (px : Int)] 36)).drew = W := ⟨_, rfl⟩
    rw [hW2]
    have hb2 : W2.heap[w1.heap.size]? = some (.cells #[.string (sB sy), .int .i64 (oy : Int), .int .i64 (py : Int)] 36 (0, 0)) := by
      rw [← hW2]
      show ((w1.alloc (.cells #[.string (sB sy), .int .i64 (oy : Int), .int .i64 (py : Int)] 36)).alloc (.cells #[.string (sB sx), .int .i64 (ox : Int), .int .i64 (px : Int)] 36)).heap[_]? = _
      rw [Below.heap_alloc _ _ _ (by rw [World.size_alloc]; omega)]
      exact alloc_here w1 (.cells #[.string (sB sy), .int .i64 (oy : Int), .int .i64 (py : Int)] 36)
    have hb1 : W2.heap[w1.heap.size + 1]? = some (.cells #[.string (sB sx), .int .i64 (ox : Int), .int .i64 (px : Int)] 36 (0, 0)) := by
      rw [← hW2]
      have := alloc_here (w1.alloc (.cells #[.string (sB sy), .int .i64 (oy : Int), .int .i64 (py : Int)] 36)) (.cells #[.string (sB sx), .int .i64 (ox : Int), .int .i64 (px : Int)] 36)
      rw [World.size_alloc] at this; exact this
    have hE2 : Ext w1 W2 := by rw [← hW2]; exact Ext.drewN' (n := 1) (((Below.refl _ w1).alloc (Nat.le_refl _) _).alloc (by simp) _)
    clear hW2 x0 x1 x2 y0 y1 y2 hBl
    generalize w1.heap.size + 1 = A1 at *
    generalize w1.heap.size = A2 at *
    have HX1 := Lib.hid hb1
    have HY1 := Lib.hid hb2
    have HE2 := Lib.hid (Ext.trans HE1.out hE2)
    have u0 := cell_of (i := 0) hb1 rfl
    have v0 := cell_of (i := 0) hb2 rfl
    clear hb1 hb2 hE2
    go_wp2_with fail
    try rw [hcat]
    refine (show Calls _ _ _ _ _ from K1.out _ HE2.out).mono ?_
    rintro _ w3 ⟨q1, c1, rfl, hA3, hE3⟩
    dsimp only
    have HA3 := Lib.hid hA3
    have HX3 := Lib.hid ((hE3.below.block _ (lt_of_block HX1.out)).trans HX1.out)
    have HY3 := Lib.hid ((hE3.below.block _ (lt_of_block HY1.out)).trans HY1.out)
    have HE3 := Lib.hid (Ext.trans HE2.out hE3)
    clear hA3 hE3 u0 v0
    have HE4 := Lib.hid (ext_alloc w3 (.cells #[.int .i64 4, .int .i64 oy, .string { data := #[] }, .int .i64 0, .slice q1 2 c1] 25))
    have HB4 := Lib.hid (alloc_here w3 (.cells #[.int .i64 4, .int .i64 oy, .string { data := #[] }, .int .i64 0, .slice q1 2 c1] 25))
    go_wp2_with fail
    refine (KN1.out _).mono ?_
    intro wa hEa
    have HEa := Lib.hid (Ext.trans HE4.out hEa)
    have HBa := Lib.hid ((hEa.block _ (lt_of_block HB4.out)).trans HB4.out)
    clear hEa
    go_wp2_with fail
    refine (KN2.out _).mono ?_
    intro wb hEb
    have HEb := Lib.hid (Ext.trans HEa.out hEb)
    have HBb := Lib.hid ((hEb.block _ (lt_of_block HBa.out)).trans HBa.out)
    clear hEb
    go_wp2_with fail
    refine (KN3.out _).mono ?_
    intro wc hEc
    have HEc := Lib.hid (Ext.trans HEb.out hEc)
    have HBc := Lib.hid ((hEc.block _ (lt_of_block HBb.out)).trans HBb.out)
    clear hEc
    go_upto_region 5 with fail
    obtain ⟨w9, hw9⟩ : ∃ W, (((wc.alloc (.cells #[.int .i64 2, .int .i64 0, .string { data := #[97] }, .int .i64 0, .slice none 0 0] 25)).alloc (.cells #[.int .i64 2, .int .i64 0, .string { data := #[98] }, .int .i64 0, .slice none 0 0] 25)).alloc (.cells #[.int .i64 2, .int .i64 0, .string { data := #[99] }, .int .i64 0, .slice none 0 0] 25)) = W := ⟨_, rfl⟩
    rw [hw9]
    have hE9 : Ext wc w9 := by rw [← hw9]; exact ((((Below.refl _ wc).alloc (Nat.le_refl _) _).alloc (by simp) _).alloc (by simp; omega) _)
    have h3 : w9.heap[wc.heap.size + 1 + 1]? = some (.cells #[.int .i64 2, .int .i64 0, .string { data := #[99] }, .int .i64 0, .slice none 0 0] 25 (0, 0)) := by
      have := alloc_here ((wc.alloc (.cells #[.int .i64 2, .int .i64 0, .string { data := #[97] }, .int .i64 0, .slice none 0 0] 25)).alloc (.cells #[.int .i64 2, .int .i64 0, .string { data := #[98] }, .int .i64 0, .slice none 0 0] 25)) (.cells #[.int .i64 2, .int .i64 0, .string { data := #[99] }, .int .i64 0, .slice none 0 0] 25)
      rw [hw9, World.size_alloc, World.size_alloc] at this; exact this
    have h2 : w9.heap[wc.heap.size + 1]? = some (.cells #[.int .i64 2, .int .i64 0, .string { data := #[98] }, .int .i64 0, .slice none 0 0] 25 (0, 0)) := by
      rw [← hw9, Below.heap_alloc _ _ _ (by rw [World.size_alloc, World.size_alloc]; omega)]
      have := alloc_here (wc.alloc (.cells #[.int .i64 2, .int .i64 0, .string { data := #[97] }, .int .i64 0, .slice none 0 0] 25)) (.cells #[.int .i64 2, .int .i64 0, .string { data := #[98] }, .int .i64 0, .slice none 0 0] 25)
      rw [World.size_alloc] at this; exact this
    have h1 : w9.heap[wc.heap.size]? = some (.cells #[.int .i64 2, .int .i64 0, .string { data := #[97] }, .int .i64 0, .slice none 0 0] 25 (0, 0)) := by
      rw [← hw9, Below.heap_alloc _ _ _ (by rw [World.size_alloc, World.size_alloc]; omega), Below.heap_alloc _ _ _ (by rw [World.size_alloc]; omega)]
      exact alloc_here wc (.cells #[.int .i64 2, .int .i64 0, .string { data := #[97] }, .int .i64 0, .slice none 0 0] 25)
    have HA9 := Lib.hid h1
    have HB9 := Lib.hid h2
    have HC9 := Lib.hid h3
    have HE39 := Lib.hid (Ext.trans HEc.out hE9)
    have HE9 := Lib.hid (Ext.trans HE3.out HE39.out)
    have HE9B := Lib.hid ((hE9.below.block _ (lt_of_block HBc.out)).trans HBc.out)
    have HX9 := Lib.hid ((HE39.out.below.block _ (lt_of_block HX3.out)).trans HX3.out)
    have HY9 := Lib.hid ((HE39.out.below.block _ (lt_of_block HY3.out)).trans HY3.out)
    have HAE := Lib.hid (show Ex.At w9 q1 (binX oy (binX ox grA grB) grC) from (HA3.out.ext HE39.out).at)
    clear hw9 hE9 h1 h2 h3
    have u0 := cell_of (i := 0) HX9.out rfl
    have u2 := cell_of (i := 2) HX9.out rfl
    have v2 := cell_of (i := 2) HY9.out rfl
    go_upto_region 9 with fail
    refine wp_region_tail (l1 := [_, _, _, _, _, _, _, _, _, _, _, _, _, _, _, _, _, _]) (l2 := [_]) (by kernel_rfl) Ext (fun W => Below.refl _ W) (fun W => show Below W.heap.size W { W with drawn := W.drawn + 1 } from ⟨rfl, rfl, rfl, Nat.le_refl _, fun _ _ => rfl⟩) Ext.trans
      (fun i s W => match i with
        | 0 => s 0 = .int .i64 0
        | 1 => s 1 = .bool true
        | 2 => s 2 = .bool true
        | 3 => s 3 = .agg #[.int .i64 4, .int .i64 oy, .string { data := #[] }, .int .i64 0, .slice q1 2 c1]
        | 4 => s 4 = .pointer (some ⟨A2, 1, none⟩)
        | 5 => s 5 = .int .i64 (oy : Int)
        | 6 => s 6 = .pointer (some ⟨A1, 1, none⟩)
        | 7 => s 7 = .int .i64 (ox : Int)
        | 8 => s 8 = .agg #[.int .i64 2, .int .i64 0, .string { data := #[97] }, .int .i64 0, .slice none 0 0]
        | 9 => s 9 = .agg #[.int .i64 2, .int .i64 0, .string { data := #[98] }, .int .i64 0, .slice none 0 0]
        | 10 => ∃ r, s 10 = (binX ox grA grB).val r 2 ∧ Ex.At W r (binX ox grA grB)
        | 11 => s 11 = .agg #[.int .i64 2, .int .i64 0, .string { data := #[99] }, .int .i64 0, .slice none 0 0]
        | 12 => ∃ r, s 12 = (binX oy (binX ox grA grB) grC).val r 2 ∧ Ex.At W r (binX oy (binX ox grA grB) grC)
        | 13 => s 13 = .bool true
        | 14 => s 14 = .bool true
        | 15 => s 15 = .bool true
        | 16 => s 16 = .bool true
        | 17 => s 17 = .bool true
        | _ => True)
      (fun i => [i])
      (by
        intro i s s' W W' h hs hE
        have hs := hs i (by simp)
        match i, h, hs with
        | 0, h, hs => exact hs.trans h
        | 1, h, hs => exact hs.trans h
        | 2, h, hs => exact hs.trans h
        | 3, h, hs => exact hs.trans h
        | 4, h, hs => exact hs.trans h
        | 5, h, hs => exact hs.trans h
        | 6, h, hs => exact hs.trans h
        | 7, h, hs => exact hs.trans h
        | 8, h, hs => exact hs.trans h
        | 9, h, hs => exact hs.trans h
        | 10, ⟨r, h1, h2⟩, hs => exact ⟨r, hs.trans h1, h2.below hE⟩
        | 11, h, hs => exact hs.trans h
        | 12, ⟨r, h1, h2⟩, hs => exact ⟨r, hs.trans h1, h2.below hE⟩
        | 13, h, hs => exact hs.trans h
        | 14, h, hs => exact hs.trans h
        | 15, h, hs => exact hs.trans h
        | 16, h, hs => exact hs.trans h
        | 17, h, hs => exact hs.trans h
        | i + 18, h, hs => exact trivial)
      (by kernel_rfl) (by kernel_rfl) (by kernel_rfl) 111 rfl (by kernel_rfl) (by kernel_rfl) ?_ ?_
    · intro i op ho a' W hA
      have x0 : W.cell? ⟨w3.heap.size, 0, none⟩ = _ := Ext.cellE (cell_of HE9B.out rfl) hA.rel
      have x1 : W.cell? ⟨w3.heap.size, 1, none⟩ = _ := Ext.cellE (cell_of HE9B.out rfl) hA.rel
      have x2 : W.cell? ⟨w3.heap.size, 2, none⟩ = _ := Ext.cellE (cell_of HE9B.out rfl) hA.rel
      have x3 : W.cell? ⟨w3.heap.size, 3, none⟩ = _ := Ext.cellE (cell_of HE9B.out rfl) hA.rel
      have x4 : W.cell? ⟨w3.heap.size, 4, none⟩ = _ := Ext.cellE (cell_of HE9B.out rfl) hA.rel
      have k0 : W.cell? ⟨wc.heap.size, 0, none⟩ = _ := Ext.cellE (cell_of HA9.out rfl) hA.rel
      have k1 : W.cell? ⟨wc.heap.size, 1, none⟩ = _ := Ext.cellE (cell_of HA9.out rfl) hA.rel
      have k2 : W.cell? ⟨wc.heap.size, 2, none⟩ = _ := Ext.cellE (cell_of HA9.out rfl) hA.rel
      have k3 : W.cell? ⟨wc.heap.size, 3, none⟩ = _ := Ext.cellE (cell_of HA9.out rfl) hA.rel
      have k4 : W.cell? ⟨wc.heap.size, 4, none⟩ = _ := Ext.cellE (cell_of HA9.out rfl) hA.rel
      have l0 : W.cell? ⟨wc.heap.size + 1, 0, none⟩ = _ := Ext.cellE (cell_of HB9.out rfl) hA.rel
      have l1 : W.cell? ⟨wc.heap.size + 1, 1, none⟩ = _ := Ext.cellE (cell_of HB9.out rfl) hA.rel
      have l2 : W.cell? ⟨wc.heap.size + 1, 2, none⟩ = _ := Ext.cellE (cell_of HB9.out rfl) hA.rel
      have l3 : W.cell? ⟨wc.heap.size + 1, 3, none⟩ = _ := Ext.cellE (cell_of HB9.out rfl) hA.rel
      have l4 : W.cell? ⟨wc.heap.size + 1, 4, none⟩ = _ := Ext.cellE (cell_of HB9.out rfl) hA.rel
      have m0 : W.cell? ⟨wc.heap.size + 1 + 1, 0, none⟩ = _ := Ext.cellE (cell_of HC9.out rfl) hA.rel
      have m1 : W.cell? ⟨wc.heap.size + 1 + 1, 1, none⟩ = _ := Ext.cellE (cell_of HC9.out rfl) hA.rel
      have m2 : W.cell? ⟨wc.heap.size + 1 + 1, 2, none⟩ = _ := Ext.cellE (cell_of HC9.out rfl) hA.rel
      have m3 : W.cell? ⟨wc.heap.size + 1 + 1, 3, none⟩ = _ := Ext.cellE (cell_of HC9.out rfl) hA.rel
      have m4 : W.cell? ⟨wc.heap.size + 1 + 1, 4, none⟩ = _ := Ext.cellE (cell_of HC9.out rfl) hA.rel
      have u0 : W.cell? ⟨A1, 0, none⟩ = _ := Ext.cellE (cell_of HX9.out rfl) hA.rel
      have u1 : W.cell? ⟨A1, 1, none⟩ = _ := Ext.cellE (cell_of HX9.out rfl) hA.rel
      have u2 : W.cell? ⟨A1, 2, none⟩ = _ := Ext.cellE (cell_of HX9.out rfl) hA.rel
      have v0 : W.cell? ⟨A2, 0, none⟩ = _ := Ext.cellE (cell_of HY9.out rfl) hA.rel
      have v1 : W.cell? ⟨A2, 1, none⟩ = _ := Ext.cellE (cell_of HY9.out rfl) hA.rel
      have v2 : W.cell? ⟨A2, 2, none⟩ = _ := Ext.cellE (cell_of HY9.out rfl) hA.rel
      match i, ho with
      | 0, ho =>
        obtain rfl := Option.some.inj ho
        have e1 : a'.eval (.tmp 10) = .int .i64 0 := hA.keep 10 (by kernel_rfl)
        refine GoesG.value (.int .i64 0) rfl ?_ (Below.refl _ _) (fun s h1 h2 => h1 rfl)
        simp only [execOp, e1]
        simp [go_sem, x0, x1, x2, x3, x4, k0, k1, k2, k3, k4, l0, l1, l2, l3, l4, m0, m1, m2, m3, m4, u0, u1, u2, v0, v1, v2]
      | 1, ho =>
        obtain rfl := Option.some.inj ho
        have e1 : a'.eval (.tmp 93) = .int .i64 0 := (sv_dst (l := _) rfl).symm.trans (hA.new 0 (by decide) (by kernel_rfl))
        refine GoesG.value (.bool true) rfl ?_ (Below.refl _ _) (fun s h1 h2 => h1 rfl)
        simp only [execOp, e1]
        simp [go_sem, x0, x1, x2, x3, x4, k0, k1, k2, k3, k4, l0, l1, l2, l3, l4, m0, m1, m2, m3, m4, u0, u1, u2, v0, v1, v2]
      | 2, ho =>
        obtain rfl := Option.some.inj ho
        have e1 : a'.eval (.tmp 94) = .bool true := (sv_dst (l := _) rfl).symm.trans (hA.new 1 (by decide) (by kernel_rfl))
        refine GoesG.value (.bool true) rfl ?_ (Below.refl _ _) (fun s h1 h2 => h1 rfl)
        simp only [execOp, e1]
        simp [go_sem, x0, x1, x2, x3, x4, k0, k1, k2, k3, k4, l0, l1, l2, l3, l4, m0, m1, m2, m3, m4, u0, u1, u2, v0, v1, v2]
      | 3, ho =>
        obtain rfl := Option.some.inj ho
        have hg := hA.new 2 (by decide) (by kernel_rfl)
        have e1 : a'.eval (.tmp 8) = .pointer (some ⟨w3.heap.size, 0, none⟩) := hA.keep 8 (by kernel_rfl)
        refine GoesG.valueW (.agg #[.int .i64 4, .int .i64 oy, .string { data := #[] }, .int .i64 0, .slice q1 2 c1]) 2 true true rfl hg rfl ?_ (Below.refl _ _) (fun s h1 h2 => h1 rfl)
        simp only [execOp, e1]
        simp [go_sem, x0, x1, x2, x3, x4, k0, k1, k2, k3, k4, l0, l1, l2, l3, l4, m0, m1, m2, m3, m4, u0, u1, u2, v0, v1, v2]
      | 4, ho =>
        obtain rfl := Option.some.inj ho
        have hg := hA.new 2 (by decide) (by kernel_rfl)
        have e1 : a'.eval (.tmp 7) = .pointer (some ⟨A2, 0, none⟩) := hA.keep 7 (by kernel_rfl)
        refine GoesG.valueW (.pointer (some ⟨A2, 1, none⟩)) 2 true true rfl hg rfl ?_ (Below.refl _ _) (fun s h1 h2 => h1 rfl)
        simp only [execOp, e1]
        simp [go_sem, x0, x1, x2, x3, x4, k0, k1, k2, k3, k4, l0, l1, l2, l3, l4, m0, m1, m2, m3, m4, u0, u1, u2, v0, v1, v2]
      | 5, ho =>
        obtain rfl := Option.some.inj ho
        have hg := hA.new 2 (by decide) (by kernel_rfl)
        have e1 : a'.eval (.tmp 97) = .pointer (some ⟨A2, 1, none⟩) := (sv_dst (l := _) rfl).symm.trans (hA.new 4 (by decide) (by kernel_rfl))
        refine GoesG.valueW (.int .i64 (oy : Int)) 2 true true rfl hg rfl ?_ (Below.refl _ _) (fun s h1 h2 => h1 rfl)
        simp only [execOp, e1]
        simp [go_sem, x0, x1, x2, x3, x4, k0, k1, k2, k3, k4, l0, l1, l2, l3, l4, m0, m1, m2, m3, m4, u0, u1, u2, v0, v1, v2]
      | 6, ho =>
        obtain rfl := Option.some.inj ho
        have hg := hA.new 2 (by decide) (by kernel_rfl)
        have e1 : a'.eval (.tmp 6) = .pointer (some ⟨A1, 0, none⟩) := hA.keep 6 (by kernel_rfl)
        refine GoesG.valueW (.pointer (some ⟨A1, 1, none⟩)) 2 true true rfl hg rfl ?_ (Below.refl _ _) (fun s h1 h2 => h1 rfl)
        simp only [execOp, e1]
        simp [go_sem, x0, x1, x2, x3, x4, k0, k1, k2, k3, k4, l0, l1, l2, l3, l4, m0, m1, m2, m3, m4, u0, u1, u2, v0, v1, v2]
      | 7, ho =>
        obtain rfl := Option.some.inj ho
        have hg := hA.new 2 (by decide) (by kernel_rfl)
        have e1 : a'.eval (.tmp 99) = .pointer (some ⟨A1, 1, none⟩) := (sv_dst (l := _) rfl).symm.trans (hA.new 6 (by decide) (by kernel_rfl))
        refine GoesG.valueW (.int .i64 (ox : Int)) 2 true true rfl hg rfl ?_ (Below.refl _ _) (fun s h1 h2 => h1 rfl)
        simp only [execOp, e1]
        simp [go_sem, x0, x1, x2, x3, x4, k0, k1, k2, k3, k4, l0, l1, l2, l3, l4, m0, m1, m2, m3, m4, u0, u1, u2, v0, v1, v2]
      | 8, ho =>
        obtain rfl := Option.some.inj ho
        have hg := hA.new 2 (by decide) (by kernel_rfl)
        have e1 : a'.eval (.tmp 11) = .pointer (some ⟨wc.heap.size, 0, none⟩) := hA.keep 11 (by kernel_rfl)
        refine GoesG.valueW (.agg #[.int .i64 2, .int .i64 0, .string { data := #[97] }, .int .i64 0, .slice none 0 0]) 2 true true rfl hg rfl ?_ (Below.refl _ _) (fun s h1 h2 => h1 rfl)
        simp only [execOp, e1]
        simp [go_sem, x0, x1, x2, x3, x4, k0, k1, k2, k3, k4, l0, l1, l2, l3, l4, m0, m1, m2, m3, m4, u0, u1, u2, v0, v1, v2]
      | 9, ho =>
        obtain rfl := Option.some.inj ho
        have hg := hA.new 2 (by decide) (by kernel_rfl)
        have e1 : a'.eval (.tmp 12) = .pointer (some ⟨wc.heap.size + 1, 0, none⟩) := hA.keep 12 (by kernel_rfl)
        refine GoesG.valueW (.agg #[.int .i64 2, .int .i64 0, .string { data := #[98] }, .int .i64 0, .slice none 0 0]) 2 true true rfl hg rfl ?_ (Below.refl _ _) (fun s h1 h2 => h1 rfl)
        simp only [execOp, e1]
        simp [go_sem, x0, x1, x2, x3, x4, k0, k1, k2, k3, k4, l0, l1, l2, l3, l4, m0, m1, m2, m3, m4, u0, u1, u2, v0, v1, v2]
      | 10, ho =>
        obtain rfl := Option.some.inj ho
        have hg := hA.new 2 (by decide) (by kernel_rfl)
        have e1 : a'.eval (.tmp 100) = .int .i64 (ox : Int) := (sv_dst (l := _) rfl).symm.trans (hA.new 7 (by decide) (by kernel_rfl))
        have e2 : a'.eval (.tmp 101) = .agg #[.int .i64 2, .int .i64 0, .string { data := #[97] }, .int .i64 0, .slice none 0 0] := (sv_dst (l := _) rfl).symm.trans (hA.new 8 (by decide) (by kernel_rfl))
        have e3 : a'.eval (.tmp 102) = .agg #[.int .i64 2, .int .i64 0, .string { data := #[98] }, .int .i64 0, .slice none 0 0] := (sv_dst (l := _) rfl).symm.trans (hA.new 9 (by decide) (by kernel_rfl))
        refine GoesG.callG 14 #[.int .i64 (ox : Int), .agg #[.int .i64 2, .int .i64 0, .string { data := #[97] }, .int .i64 0, .slice none 0 0], .agg #[.int .i64 2, .int .i64 0, .string { data := #[98] }, .int .i64 0, .slice none 0 0]] 2 true true rfl hg rfl ?_ (Calls.mono (lawBin_any ox (by omega) (by omega) grA grB none none 0 0 W (AtB_leaf (fun _ => True) W none (fits_nam (s := [97]) (by decide))).at (AtB_leaf (fun _ => True) W none (fits_nam (s := [98]) (by decide))).at) ?_)
        · simp [execOp, resolve, invoke, Deferred.ofValue, e1, e2, e3]
          rfl
        · rintro _ W2 ⟨r2, rfl, hAt, hE2⟩
          exact ⟨_, rfl, hE2, fun s h1 h2 => ⟨r2, h1 rfl, hAt⟩⟩
      | 11, ho =>
        obtain rfl := Option.some.inj ho
        have hg := hA.new 2 (by decide) (by kernel_rfl)
        have e1 : a'.eval (.tmp 13) = .pointer (some ⟨wc.heap.size + 1 + 1, 0, none⟩) := hA.keep 13 (by kernel_rfl)
        refine GoesG.valueW (.agg #[.int .i64 2, .int .i64 0, .string { data := #[99] }, .int .i64 0, .slice none 0 0]) 2 true true rfl hg rfl ?_ (Below.refl _ _) (fun s h1 h2 => h1 rfl)
        simp only [execOp, e1]
        simp [go_sem, x0, x1, x2, x3, x4, k0, k1, k2, k3, k4, l0, l1, l2, l3, l4, m0, m1, m2, m3, m4, u0, u1, u2, v0, v1, v2]
      | 12, ho =>
        obtain rfl := Option.some.inj ho
        have hg := hA.new 2 (by decide) (by kernel_rfl)
        have e1 : a'.eval (.tmp 98) = .int .i64 (oy : Int) := (sv_dst (l := _) rfl).symm.trans (hA.new 5 (by decide) (by kernel_rfl))
        obtain ⟨r0, h10, hA10⟩ := hA.new 10 (by decide) (by kernel_rfl)
        have e2 : a'.eval (.tmp 103) = (binX ox grA grB).val r0 2 := (sv_dst (l := _) rfl).symm.trans h10
        have e3 : a'.eval (.tmp 104) = .agg #[.int .i64 2, .int .i64 0, .string { data := #[99] }, .int .i64 0, .slice none 0 0] := (sv_dst (l := _) rfl).symm.trans (hA.new 11 (by decide) (by kernel_rfl))
        refine GoesG.callG 14 #[.int .i64 (oy : Int), (binX ox grA grB).val r0 2, .agg #[.int .i64 2, .int .i64 0, .string { data := #[99] }, .int .i64 0, .slice none 0 0]] 2 true true rfl hg rfl ?_ (Calls.mono (lawBin_any oy (by omega) (by omega) (binX ox grA grB) grC r0 none 2 0 W hA10 (AtB_leaf (fun _ => True) W none (fits_nam (s := [99]) (by decide))).at) ?_)
        · simp [execOp, resolve, invoke, Deferred.ofValue, e1, e2, e3]
          rfl
        · rintro _ W2 ⟨r2, rfl, hAt, hE2⟩
          exact ⟨_, rfl, hE2, fun s h1 h2 => ⟨r2, h1 rfl, hAt⟩⟩
      | 13, ho =>
        obtain rfl := Option.some.inj ho
        have hg := hA.new 2 (by decide) (by kernel_rfl)
        have e1 : a'.eval (.tmp 96) = .agg #[.int .i64 4, .int .i64 oy, .string { data := #[] }, .int .i64 0, .slice q1 2 c1] := (sv_dst (l := _) rfl).symm.trans (hA.new 3 (by decide) (by kernel_rfl))
        obtain ⟨r0, h12, hA12⟩ := hA.new 12 (by decide) (by kernel_rfl)
        have e2 : a'.eval (.tmp 105) = (binX oy (binX ox grA grB) grC).val r0 2 := (sv_dst (l := _) rfl).symm.trans h12
        have hq := refEqualX_any (binX oy (binX ox grA grB) grC) (binX oy (binX ox grA grB) grC) q1 r0 c1 2 W (HAE.out.below hA.rel) hA12
        rw [HCK.out, eqX_self] at hq
        refine GoesG.callG 11 #[.agg #[.int .i64 4, .int .i64 oy, .string { data := #[] }, .int .i64 0, .slice q1 2 c1], (binX oy (binX ox grA grB) grC).val r0 2] 2 true true rfl hg rfl ?_ (Calls.mono (show Gives _ _ #[.agg #[.int .i64 4, .int .i64 oy, .string { data := #[] }, .int .i64 0, .slice q1 2 c1], (binX oy (binX ox grA grB) grC).val r0 2] W (.bool true) from hq) ?_)
        · simp [execOp, resolve, invoke, Deferred.ofValue, e1, e2]
          rfl
        · rintro _ W2 ⟨rfl, hE2⟩
          exact ⟨_, rfl, hE2, fun s h1 h2 => h1 rfl⟩
      | 14, ho =>
        obtain rfl := Option.some.inj ho
        have e1 : a'.eval (.tmp 95) = .bool true := (sv_dst (l := _) rfl).symm.trans (hA.new 2 (by decide) (by kernel_rfl))
        have e2 : a'.eval (.tmp 106) = .bool true := (sv_dst (l := _) rfl).symm.trans (hA.new 13 (by decide) (by kernel_rfl))
        refine GoesG.value (.bool true) rfl ?_ (Below.refl _ _) (fun s h1 h2 => h1 rfl)
        simp only [execOp, e1, e2]
        simp [go_sem, x0, x1, x2, x3, x4, k0, k1, k2, k3, k4, l0, l1, l2, l3, l4, m0, m1, m2, m3, m4, u0, u1, u2, v0, v1, v2]
      | 15, ho =>
        obtain rfl := Option.some.inj ho
        have e1 : a'.eval (.tmp 107) = .bool true := (sv_dst (l := _) rfl).symm.trans (hA.new 14 (by decide) (by kernel_rfl))
        refine GoesG.value (.bool true) rfl ?_ (Below.refl _ _) (fun s h1 h2 => h1 rfl)
        simp only [execOp, e1]
        simp [go_sem, x0, x1, x2, x3, x4, k0, k1, k2, k3, k4, l0, l1, l2, l3, l4, m0, m1, m2, m3, m4, u0, u1, u2, v0, v1, v2]
      | 16, ho =>
        obtain rfl := Option.some.inj ho
        have hg := hA.new 15 (by decide) (by kernel_rfl)
        refine GoesG.callG 7 #[] 15 true true rfl hg rfl ?_ (Calls.mono (KA.out W (Ext.trans HE9.out hA.rel)) ?_)
        · simp [execOp, resolve, invoke, Deferred.ofValue]
          rfl
        · rintro _ W2 ⟨rfl, hE2⟩
          exact ⟨_, rfl, hE2, fun s h1 h2 => h1 rfl⟩
      | 17, ho =>
        obtain rfl := Option.some.inj ho
        have e1 : a'.eval (.tmp 108) = .bool true := (sv_dst (l := _) rfl).symm.trans (hA.new 15 (by decide) (by kernel_rfl))
        have e2 : a'.eval (.tmp 109) = .bool true := (sv_dst (l := _) rfl).symm.trans (hA.new 16 (by decide) (by kernel_rfl))
        refine GoesG.value (.bool true) rfl ?_ (Below.refl _ _) (fun s h1 h2 => h1 rfl)
        simp only [execOp, e1, e2]
        simp [go_sem, x0, x1, x2, x3, x4, k0, k1, k2, k3, k4, l0, l1, l2, l3, l4, m0, m1, m2, m3, m4, u0, u1, u2, v0, v1, v2]
      | i + 18, ho => cases ho
    · intro vs w10 hvs hG hΦ
      obtain ⟨z0, z1, z2, z3, z4, z5, z6, z7, z8, z9, z10, z11, z12, z13, z14, z15, z16, z17, rfl⟩ : ∃ z0 z1 z2 z3 z4 z5 z6 z7 z8 z9 z10 z11 z12 z13 z14 z15 z16 z17, vs = z0 :: z1 :: z2 :: z3 :: z4 :: z5 :: z6 :: z7 :: z8 :: z9 :: z10 :: z11 :: z12 :: z13 :: z14 :: z15 :: z16 :: z17 :: [] := by
        match vs, hvs with
        | z0 :: z1 :: z2 :: z3 :: z4 :: z5 :: z6 :: z7 :: z8 :: z9 :: z10 :: z11 :: z12 :: z13 :: z14 :: z15 :: z16 :: z17 :: [], _ => exact ⟨z0, z1, z2, z3, z4, z5, z6, z7, z8, z9, z10, z11, z12, z13, z14, z15, z16, z17, rfl⟩
      have e0 : z0 = .int .i64 0 := hΦ 0 (by decide)
      subst e0
      have e1 : z1 = .bool true := hΦ 1 (by decide)
      subst e1
      have e2 : z2 = .bool true := hΦ 2 (by decide)
      subst e2
      have e3 : z3 = .agg #[.int .i64 4, .int .i64 oy, .string { data := #[] }, .int .i64 0, .slice q1 2 c1] := hΦ 3 (by decide)
      subst e3
      have e4 : z4 = .pointer (some ⟨A2, 1, none⟩) := hΦ 4 (by decide)
      subst e4
      have e5 : z5 = .int .i64 (oy : Int) := hΦ 5 (by decide)
      subst e5
      have e6 : z6 = .pointer (some ⟨A1, 1, none⟩) := hΦ 6 (by decide)
      subst e6
      have e7 : z7 = .int .i64 (ox : Int) := hΦ 7 (by decide)
      subst e7
      have e8 : z8 = .agg #[.int .i64 2, .int .i64 0, .string { data := #[97] }, .int .i64 0, .slice none 0 0] := hΦ 8 (by decide)
      subst e8
      have e9 : z9 = .agg #[.int .i64 2, .int .i64 0, .string { data := #[98] }, .int .i64 0, .slice none 0 0] := hΦ 9 (by decide)
      subst e9
      have p10 : ∃ r, z10 = (binX ox grA grB).val r 2 ∧ Ex.At w10 r (binX ox grA grB) := hΦ 10 (by decide)
      have e11 : z11 = .agg #[.int .i64 2, .int .i64 0, .string { data := #[99] }, .int .i64 0, .slice none 0 0] := hΦ 11 (by decide)
      subst e11
      have p12 : ∃ r, z12 = (binX oy (binX ox grA grB) grC).val r 2 ∧ Ex.At w10 r (binX oy (binX ox grA grB) grC) := hΦ 12 (by decide)
      have e13 : z13 = .bool true := hΦ 13 (by decide)
      subst e13
      have e14 : z14 = .bool true := hΦ 14 (by decide)
      subst e14
      have e15 : z15 = .bool true := hΦ 15 (by decide)
      subst e15
      have e16 : z16 = .bool true := hΦ 16 (by decide)
      subst e16
      have e17 : z17 = .bool true := hΦ 17 (by decide)
      subst e17
      clear hΦ hvs
      simp only [putAll, Act.put, List.setIfInBounds_toArray, List.set_cons_succ, List.set_cons_zero]
      go_wp2
      go_ret
      exact ⟨rfl, Ext.trans HE9.out hG⟩
set_option maxRecDepth 100000 in
set_option maxHeartbeats 16000000 in
theorem grp_C2 (i k m n : Nat) (hi : i ≤ 255) (hk : k ≤ 255) (hmi : (i : Int).tmod 13 = (m : Int)) (hnk : (k : Int).tmod 13 = (n : Int)) (hm13 : m < 13) (hn13 : n < 13) (sx : List UInt8) (ox px : Nat) (sy : List UInt8) (oy py : Nat)
    (hxe : grL[m]'(by rw [grL_len]; exact hm13) = (sx, ox, px)) (hye : grL[n]'(by rw [grL_len]; exact hn13) = (sy, oy, py)) (hc : ¬ (px = 3 ∧ py = 3) ∧ ¬ px < py) (e1 : ((px : Int) == 3) = true) (e2 : ((py : Int) == 3) = false) (e3 : ¬ (px : Int) < (py : Int))
    (w : World) (hTab : TabW w) (hM : MaxL w) : Gives Tryd.prog 5 #[.int .u8 (i : Int), .int .u8 (k : Int)] w (.bool true) := by
  have hXL : (sx, ox, px) ∈ grL := by rw [← hxe]; exact List.getElem_mem _
  have hYL : (sy, oy, py) ∈ grL := by rw [← hye]; exact List.getElem_mem _
  have KA := Lib.hid (fun W (hW : Ext w W) => lxAwake_any W (hTab.below hW) (hM.ext hW))
  obtain ⟨_, hx1, hx2, hx3, hx4, hx5, hx6⟩ := gr_lx _ hXL
  obtain ⟨_, hy1, hy2, hy3, hy4, hy5, hy6⟩ := gr_lx _ hYL
  dsimp only at hx1 hx2 hx3 hx4 hx5 hx6 hy1 hy2 hy3 hy4 hy5 hy6
  obtain ⟨r, hr, hps⟩ := gr_ps hXL hYL
  unfold grR at hps; rw [if_neg (show ¬ ((sx, ox, px).2.2 = 3 ∧ (sy, oy, py).2.2 = 3) from hc.1), if_neg (show ¬ (sx, ox, px).2.2 < (sy, oy, py).2.2 from hc.2)] at hps
  have hgs : grS sx sy = 97 :: (sx ++ 98 :: (sy ++ [99])) := by simp [grS]
  dsimp only at hps
  have K1 := Lib.hid (fun W (hW : Ext w W) => (by
    have := Parse_any (grS sx sy) W (by simp [grS]; omega) (hTab.below hW) (hM.ext hW) r (fun _ => hr)
    rw [hps, hgs] at this; exact this : Calls Tryd.prog 8 #[sV (97 :: (sx ++ 98 :: (sy ++ [99])))] W fun e w' => ∃ q cc, e = .returned (.tuple #[.agg #[.int .i64 4, .int .i64 oy, .string { data := #[] }, .int .i64 0, .slice q 2 cc], .int .i64 0, .int .i64 0]) ∧ AtB (W.heap.size ≤ ·) w' q (binX oy (binX ox grA grB) grC) ∧ Ext W w'))
  have KN1 := Lib.hid (fun W => (show Gives Tryd.prog 13 #[.string { data := #[97] }] W (.agg #[.int .i64 2, .int .i64 0, .string { data := #[97] }, .int .i64 0, .slice none 0 0]) from lawName_any [97] W))
  have KN2 := Lib.hid (fun W => (show Gives Tryd.prog 13 #[.string { data := #[98] }] W (.agg #[.int .i64 2, .int .i64 0, .string { data := #[98] }, .int .i64 0, .slice none 0 0]) from lawName_any [98] W))
  have KN3 := Lib.hid (fun W => (show Gives Tryd.prog 13 #[.string { data := #[99] }] W (.agg #[.int .i64 2, .int .i64 0, .string { data := #[99] }, .int .i64 0, .slice none 0 0]) from lawName_any [99] W))
  have HCK := Lib.hid (gr_chk2 _ hXL _ hYL)
  dsimp only at HCK
  have hcat : ({ data := #[97] } : ByteArray) ++ sB sx ++ { data := #[98] } ++ sB sy ++ { data := #[99] } = sB (97 :: (sx ++ 98 :: (sy ++ [99]))) := by
    show sB [97] ++ sB sx ++ sB [98] ++ sB sy ++ sB [99] = _
    rw [sB_app, sB_app, sB_app, sB_app]
    simp
  have hsz := sB_size sx
  clear hTab hM hr hps hXL hYL hx1 hx2 hy1 hy2 hc
  unfold Gives
  go_enter Tryd.func5, Tryd.ntmps5
  go_wp2_with fail
  refine (show Calls _ _ _ _ _ from lawOps_any w).mono ?_
  rintro _ w1 ⟨B, rfl, hE1, hC⟩
  have hx := hC m hm13
  have hy := hC n hn13
  have HE1 := Lib.hid hE1
  rw [hxe] at hx
  rw [hye] at hy
  clear hC hE1 hxe hye
  dsimp only [opI] at hx hy
  obtain ⟨x0, x1, x2⟩ := hx
  obtain ⟨y0, y1, y2⟩ := hy
  have hBl : B < w1.heap.size := cell_lt' x0
  go_upto_region 2 with fail
  go_region
  · obtain ⟨W2, hW2⟩ : ∃ W, ((w1.alloc (.cells #[.string (sB sx), .int .i64 (ox : Int), .int .i64 (px : Int)] 36)).alloc (.cells #[.string (sB sy), .int .i64 (oy : Int), .int .i64 (py : Int)] 36)).drew = W := ⟨_, rfl⟩
    rw [hW2]
    have hb1 : W2.heap[w1.heap.size]? = some (.cells #[.string (sB sx), .int .i64 (ox : Int), .int .i64 (px : Int)] 36 (0, 0)) := by
      rw [← hW2]
      show ((w1.alloc (.cells #[.string (sB sx), .int .i64 (ox : Int), .int .i64 (px : Int)] 36)).alloc (.cells #[.string (sB sy), .int .i64 (oy : Int), .int .i64 (py : Int)] 36)).heap[_]? = _
      rw [Below.heap_alloc _ _ _ (by rw [World.size_alloc]; omega)]
      exact alloc_here w1 (.cells #[.string (sB sx), .int .i64 (ox : Int), .int .i64 (px : Int)] 36)
    have hb2 : W2.heap[w1.heap.size + 1]? = some (.cells #[.string (sB sy), .int .i64 (oy : Int), .int .i64 (py : Int)] 36 (0, 0)) := by
      rw [← hW2]
      have := alloc_here (w1.alloc (.cells #[.string (sB sx), .int .i64 (ox : Int), .int .i64 (px : Int)] 36)) (.cells #[.string (sB sy), .int .i64 (oy : Int), .int .i64 (py : Int)] 36)
      rw [World.size_alloc] at this; exact this
    have hE2 : Ext w1 W2 := by rw [← hW2]; exact Ext.drewN' (n := 1) (((Below.refl _ w1).alloc (Nat.le_refl _) _).alloc (by simp) _)
    clear hW2 x0 x1 x2 y0 y1 y2 hBl
    generalize w1.heap.size + 1 = A2 at *
    generalize w1.heap.size = A1 at *
    have HX1 := Lib.hid hb1
    have HY1 := Lib.hid hb2
    have HE2 := Lib.hid (Ext.trans HE1.out hE2)
    have u0 := cell_of (i := 0) hb1 rfl
    have v0 := cell_of (i := 0) hb2 rfl
    clear hb1 hb2 hE2
    go_wp2_with fail
    try rw [hcat]
    refine (show Calls _ _ _ _ _ from K1.out _ HE2.out).mono ?_
    rintro _ w3 ⟨q1, c1, rfl, hA3, hE3⟩
    dsimp only
    have HA3 := Lib.hid hA3
    have HX3 := Lib.hid ((hE3.below.block _ (lt_of_block HX1.out)).trans HX1.out)
    have HY3 := Lib.hid ((hE3.below.block _ (lt_of_block HY1.out)).trans HY1.out)
    have HE3 := Lib.hid (Ext.trans HE2.out hE3)
    clear hA3 hE3 u0 v0
    have HE4 := Lib.hid (ext_alloc w3 (.cells #[.int .i64 4, .int .i64 oy, .string { data := #[] }, .int .i64 0, .slice q1 2 c1] 25))
    have HB4 := Lib.hid (alloc_here w3 (.cells #[.int .i64 4, .int .i64 oy, .string { data := #[] }, .int .i64 0, .slice q1 2 c1] 25))
    go_wp2_with fail
    refine (KN1.out _).mono ?_
    intro wa hEa
    have HEa := Lib.hid (Ext.trans HE4.out hEa)
    have HBa := Lib.hid ((hEa.block _ (lt_of_block HB4.out)).trans HB4.out)
    clear hEa
    go_wp2_with fail
    refine (KN2.out _).mono ?_
    intro wb hEb
    have HEb := Lib.hid (Ext.trans HEa.out hEb)
    have HBb := Lib.hid ((hEb.block _ (lt_of_block HBa.out)).trans HBa.out)
    clear hEb
    go_wp2_with fail
    refine (KN3.out _).mono ?_
    intro wc hEc
    have HEc := Lib.hid (Ext.trans HEb.out hEc)
    have HBc := Lib.hid ((hEc.block _ (lt_of_block HBb.out)).trans HBb.out)
    clear hEc
    go_upto_region 5 with fail
    obtain ⟨w9, hw9⟩ : ∃ W, (((wc.alloc (.cells #[.int .i64 2, .int .i64 0, .string { data := #[97] }, .int .i64 0, .slice none 0 0] 25)).alloc (.cells #[.int .i64 2, .int .i64 0, .string { data := #[98] }, .int .i64 0, .slice none 0 0] 25)).alloc (.cells #[.int .i64 2, .int .i64 0, .string { data := #[99] }, .int .i64 0, .slice none 0 0] 25)) = W := ⟨_, rfl⟩
    rw [hw9]
    have hE9 : Ext wc w9 := by rw [← hw9]; exact ((((Below.refl _ wc).alloc (Nat.le_refl _) _).alloc (by simp) _).alloc (by simp; omega) _)
    have h3 : w9.heap[wc.heap.size + 1 + 1]? = some (.cells #[.int .i64 2, .int .i64 0, .string { data := #[99] }, .int .i64 0, .slice none 0 0] 25 (0, 0)) := by
      have := alloc_here ((wc.alloc (.cells #[.int .i64 2, .int .i64 0, .string { data := #[97] }, .int .i64 0, .slice none 0 0] 25)).alloc (.cells #[.int .i64 2, .int .i64 0, .string { data := #[98] }, .int .i64 0, .slice none 0 0] 25)) (.cells #[.int .i64 2, .int .i64 0, .string { data := #[99] }, .int .i64 0, .slice none 0 0] 25)
      rw [hw9, World.size_alloc, World.size_alloc] at this; exact this
    have h2 : w9.heap[wc.heap.size + 1]? = some (.cells #[.int .i64 2, .int .i64 0, .string { data := #[98] }, .int .i64 0, .slice none 0 0] 25 (0, 0)) := by
      rw [← hw9, Below.heap_alloc _ _ _ (by rw [World.size_alloc, World.size_alloc]; omega)]
      have := alloc_here (wc.alloc (.cells #[.int .i64 2, .int .i64 0, .string { data := #[97] }, .int .i64 0, .slice none 0 0] 25)) (.cells #[.int .i64 2, .int .i64 0, .string { data := #[98] }, .int .i64 0, .slice none 0 0] 25)
      rw [World.size_alloc] at this; exact this
    have h1 : w9.heap[wc.heap.size]? = some (.cells #[.int .i64 2, .int .i64 0, .string { data := #[97] }, .int .i64 0, .slice none 0 0] 25 (0, 0)) := by
      rw [← hw9, Below.heap_alloc _ _ _ (by rw [World.size_alloc, World.size_alloc]; omega), Below.heap_alloc _ _ _ (by rw [World.size_alloc]; omega)]
      exact alloc_here wc (.cells #[.int .i64 2, .int .i64 0, .string { data := #[97] }, .int .i64 0, .slice none 0 0] 25)
    have HA9 := Lib.hid h1
    have HB9 := Lib.hid h2
    have HC9 := Lib.hid h3
    have HE39 := Lib.hid (Ext.trans HEc.out hE9)
    have HE9 := Lib.hid (Ext.trans HE3.out HE39.out)
    have HE9B := Lib.hid ((hE9.below.block _ (lt_of_block HBc.out)).trans HBc.out)
    have HX9 := Lib.hid ((HE39.out.below.block _ (lt_of_block HX3.out)).trans HX3.out)
    have HY9 := Lib.hid ((HE39.out.below.block _ (lt_of_block HY3.out)).trans HY3.out)
    have HAE := Lib.hid (show Ex.At w9 q1 (binX oy (binX ox grA grB) grC) from (HA3.out.ext HE39.out).at)
    clear hw9 hE9 h1 h2 h3
    have u0 := cell_of (i := 0) HX9.out rfl
    have u2 := cell_of (i := 2) HX9.out rfl
    have v2 := cell_of (i := 2) HY9.out rfl
    go_upto_region 9 with fail
    refine wp_region_tail (l1 := [_, _, _, _, _, _, _, _, _, _, _, _, _, _, _, _, _, _]) (l2 := [_]) (by kernel_rfl) Ext (fun W => Below.refl _ W) (fun W => show Below W.heap.size W { W with drawn := W.drawn + 1 } from ⟨rfl, rfl, rfl, Nat.le_refl _, fun _ _ => rfl⟩) Ext.trans
      (fun i s W => match i with
        | 0 => s 0 = .int .i64 0
        | 1 => s 1 = .bool true
        | 2 => s 2 = .bool true
        | 3 => s 3 = .agg #[.int .i64 4, .int .i64 oy, .string { data := #[] }, .int .i64 0, .slice q1 2 c1]
        | 4 => s 4 = .pointer (some ⟨A2, 1, none⟩)
        | 5 => s 5 = .int .i64 (oy : Int)
        | 6 => s 6 = .pointer (some ⟨A1, 1, none⟩)
        | 7 => s 7 = .int .i64 (ox : Int)
        | 8 => s 8 = .agg #[.int .i64 2, .int .i64 0, .string { data := #[97] }, .int .i64 0, .slice none 0 0]
        | 9 => s 9 = .agg #[.int .i64 2, .int .i64 0, .string { data := #[98] }, .int .i64 0, .slice none 0 0]
        | 10 => ∃ r, s 10 = (binX ox grA grB).val r 2 ∧ Ex.At W r (binX ox grA grB)
        | 11 => s 11 = .agg #[.int .i64 2, .int .i64 0, .string { data := #[99] }, .int .i64 0, .slice none 0 0]
        | 12 => ∃ r, s 12 = (binX oy (binX ox grA grB) grC).val r 2 ∧ Ex.At W r (binX oy (binX ox grA grB) grC)
        | 13 => s 13 = .bool true
        | 14 => s 14 = .bool true
        | 15 => s 15 = .bool true
        | 16 => s 16 = .bool true
        | 17 => s 17 = .bool true
        | _ => True)
      (fun i => [i])
      (by
        intro i s s' W W' h hs hE
        have hs := hs i (by simp)
        match i, h, hs with
        | 0, h, hs => exact hs.trans h
        | 1, h, hs => exact hs.trans h
        | 2, h, hs => exact hs.trans h
        | 3, h, hs => exact hs.trans h
        | 4, h, hs => exact hs.trans h
        | 5, h, hs => exact hs.trans h
        | 6, h, hs => exact hs.trans h
        | 7, h, hs => exact hs.trans h
        | 8, h, hs => exact hs.trans h
        | 9, h, hs => exact hs.trans h
        | 10, ⟨r, h1, h2⟩, hs => exact ⟨r, hs.trans h1, h2.below hE⟩
        | 11, h, hs => exact hs.trans h
        | 12, ⟨r, h1, h2⟩, hs => exact ⟨r, hs.trans h1, h2.below hE⟩
        | 13, h, hs => exact hs.trans h
        | 14, h, hs => exact hs.trans h
        | 15, h, hs => exact hs.trans h
        | 16, h, hs => exact hs.trans h
        | 17, h, hs => exact hs.trans h
        | i + 18, h, hs => exact trivial)
      (by kernel_rfl) (by kernel_rfl) (by kernel_rfl) 111 rfl (by kernel_rfl) (by kernel_rfl) ?_ ?_
    · intro i op ho a' W hA
      have x0 : W.cell? ⟨w3.heap.size, 0, none⟩ = _ := Ext.cellE (cell_of HE9B.out rfl) hA.rel
      have x1 : W.cell? ⟨w3.heap.size, 1, none⟩ = _ := Ext.cellE (cell_of HE9B.out rfl) hA.rel
      have x2 : W.cell? ⟨w3.heap.size, 2, none⟩ = _ := Ext.cellE (cell_of HE9B.out rfl) hA.rel
      have x3 : W.cell? ⟨w3.heap.size, 3, none⟩ = _ := Ext.cellE (cell_of HE9B.out rfl) hA.rel
      have x4 : W.cell? ⟨w3.heap.size, 4, none⟩ = _ := Ext.cellE (cell_of HE9B.out rfl) hA.rel
      have k0 : W.cell? ⟨wc.heap.size, 0, none⟩ = _ := Ext.cellE (cell_of HA9.out rfl) hA.rel
      have k1 : W.cell? ⟨wc.heap.size, 1, none⟩ = _ := Ext.cellE (cell_of HA9.out rfl) hA.rel
      have k2 : W.cell? ⟨wc.heap.size, 2, none⟩ = _ := Ext.cellE (cell_of HA9.out rfl) hA.rel
      have k3 : W.cell? ⟨wc.heap.size, 3, none⟩ = _ := Ext.cellE (cell_of HA9.out rfl) hA.rel
      have k4 : W.cell? ⟨wc.heap.size, 4, none⟩ = _ := Ext.cellE (cell_of HA9.out rfl) hA.rel
      have l0 : W.cell? ⟨wc.heap.size + 1, 0, none⟩ = _ := Ext.cellE (cell_of HB9.out rfl) hA.rel
      have l1 : W.cell? ⟨wc.heap.size + 1, 1, none⟩ = _ := Ext.cellE (cell_of HB9.out rfl) hA.rel
      have l2 : W.cell? ⟨wc.heap.size + 1, 2, none⟩ = _ := Ext.cellE (cell_of HB9.out rfl) hA.rel
      have l3 : W.cell? ⟨wc.heap.size + 1, 3, none⟩ = _ := Ext.cellE (cell_of HB9.out rfl) hA.rel
      have l4 : W.cell? ⟨wc.heap.size + 1, 4, none⟩ = _ := Ext.cellE (cell_of HB9.out rfl) hA.rel
      have m0 : W.cell? ⟨wc.heap.size + 1 + 1, 0, none⟩ = _ := Ext.cellE (cell_of HC9.out rfl) hA.rel
      have m1 : W.cell? ⟨wc.heap.size + 1 + 1, 1, none⟩ = _ := Ext.cellE (cell_of HC9.out rfl) hA.rel
      have m2 : W.cell? ⟨wc.heap.size + 1 + 1, 2, none⟩ = _ := Ext.cellE (cell_of HC9.out rfl) hA.rel
      have m3 : W.cell? ⟨wc.heap.size + 1 + 1, 3, none⟩ = _ := Ext.cellE (cell_of HC9.out rfl) hA.rel
      have m4 : W.cell? ⟨wc.heap.size + 1 + 1, 4, none⟩ = _ := Ext.cellE (cell_of HC9.out rfl) hA.rel
      have u0 : W.cell? ⟨A1, 0, none⟩ = _ := Ext.cellE (cell_of HX9.out rfl) hA.rel
      have u1 : W.cell? ⟨A1, 1, none⟩ = _ := Ext.cellE (cell_of HX9.out rfl) hA.rel
      have u2 : W.cell? ⟨A1, 2, none⟩ = _ := Ext.cellE (cell_of HX9.out rfl) hA.rel
      have v0 : W.cell? ⟨A2, 0, none⟩ = _ := Ext.cellE (cell_of HY9.out rfl) hA.rel
      have v1 : W.cell? ⟨A2, 1, none⟩ = _ := Ext.cellE (cell_of HY9.out rfl) hA.rel
      have v2 : W.cell? ⟨A2, 2, none⟩ = _ := Ext.cellE (cell_of HY9.out rfl) hA.rel
      match i, ho with
      | 0, ho =>
        obtain rfl := Option.some.inj ho
        have e1 : a'.eval (.tmp 10) = .int .i64 0 := hA.keep 10 (by kernel_rfl)
        refine GoesG.value (.int .i64 0) rfl ?_ (Below.refl _ _) (fun s h1 h2 => h1 rfl)
        simp only [execOp, e1]
        simp [go_sem, x0, x1, x2, x3, x4, k0, k1, k2, k3, k4, l0, l1, l2, l3, l4, m0, m1, m2, m3, m4, u0, u1, u2, v0, v1, v2]
      | 1, ho =>
        obtain rfl := Option.some.inj ho
        have e1 : a'.eval (.tmp 93) = .int .i64 0 := (sv_dst (l := _) rfl).symm.trans (hA.new 0 (by decide) (by kernel_rfl))
        refine GoesG.value (.bool true) rfl ?_ (Below.refl _ _) (fun s h1 h2 => h1 rfl)
        simp only [execOp, e1]
        simp [go_sem, x0, x1, x2, x3, x4, k0, k1, k2, k3, k4, l0, l1, l2, l3, l4, m0, m1, m2, m3, m4, u0, u1, u2, v0, v1, v2]
      | 2, ho =>
        obtain rfl := Option.some.inj ho
        have e1 : a'.eval (.tmp 94) = .bool true := (sv_dst (l := _) rfl).symm.trans (hA.new 1 (by decide) (by kernel_rfl))
        refine GoesG.value (.bool true) rfl ?_ (Below.refl _ _) (fun s h1 h2 => h1 rfl)
        simp only [execOp, e1]
        simp [go_sem, x0, x1, x2, x3, x4, k0, k1, k2, k3, k4, l0, l1, l2, l3, l4, m0, m1, m2, m3, m4, u0, u1, u2, v0, v1, v2]
      | 3, ho =>
        obtain rfl := Option.some.inj ho
        have hg := hA.new 2 (by decide) (by kernel_rfl)
        have e1 : a'.eval (.tmp 8) = .pointer (some ⟨w3.heap.size, 0, none⟩) := hA.keep 8 (by kernel_rfl)
        refine GoesG.valueW (.agg #[.int .i64 4, .int .i64 oy, .string { data := #[] }, .int .i64 0, .slice q1 2 c1]) 2 true true rfl hg rfl ?_ (Below.refl _ _) (fun s h1 h2 => h1 rfl)
        simp only [execOp, e1]
        simp [go_sem, x0, x1, x2, x3, x4, k0, k1, k2, k3, k4, l0, l1, l2, l3, l4, m0, m1, m2, m3, m4, u0, u1, u2, v0, v1, v2]
      | 4, ho =>
        obtain rfl := Option.some.inj ho
        have hg := hA.new 2 (by decide) (by kernel_rfl)
        have e1 : a'.eval (.tmp 7) = .pointer (some ⟨A2, 0, none⟩) := hA.keep 7 (by kernel_rfl)
        refine GoesG.valueW (.pointer (some ⟨A2, 1, none⟩)) 2 true true rfl hg rfl ?_ (Below.refl _ _) (fun s h1 h2 => h1 rfl)
        simp only [execOp, e1]
        simp [go_sem, x0, x1, x2, x3, x4, k0, k1, k2, k3, k4, l0, l1, l2, l3, l4, m0, m1, m2, m3, m4, u0, u1, u2, v0, v1, v2]
      | 5, ho =>
        obtain rfl := Option.some.inj ho
        have hg := hA.new 2 (by decide) (by kernel_rfl)
        have e1 : a'.eval (.tmp 97) = .pointer (some ⟨A2, 1, none⟩) := (sv_dst (l := _) rfl).symm.trans (hA.new 4 (by decide) (by kernel_rfl))
        refine GoesG.valueW (.int .i64 (oy : Int)) 2 true true rfl hg rfl ?_ (Below.refl _ _) (fun s h1 h2 => h1 rfl)
        simp only [execOp, e1]
        simp [go_sem, x0, x1, x2, x3, x4, k0, k1, k2, k3, k4, l0, l1, l2, l3, l4, m0, m1, m2, m3, m4, u0, u1, u2, v0, v1, v2]
      | 6, ho =>
        obtain rfl := Option.some.inj ho
        have hg := hA.new 2 (by decide) (by kernel_rfl)
        have e1 : a'.eval (.tmp 6) = .pointer (some ⟨A1, 0, none⟩) := hA.keep 6 (by kernel_rfl)
        refine GoesG.valueW (.pointer (some ⟨A1, 1, none⟩)) 2 true true rfl hg rfl ?_ (Below.refl _ _) (fun s h1 h2 => h1 rfl)
        simp only [execOp, e1]
        simp [go_sem, x0, x1, x2, x3, x4, k0, k1, k2, k3, k4, l0, l1, l2, l3, l4, m0, m1, m2, m3, m4, u0, u1, u2, v0, v1, v2]
      | 7, ho =>
        obtain rfl := Option.some.inj ho
        have hg := hA.new 2 (by decide) (by kernel_rfl)
        have e1 : a'.eval (.tmp 99) = .pointer (some ⟨A1, 1, none⟩) := (sv_dst (l := _) rfl).symm.trans (hA.new 6 (by decide) (by kernel_rfl))
        refine GoesG.valueW (.int .i64 (ox : Int)) 2 true true rfl hg rfl ?_ (Below.refl _ _) (fun s h1 h2 => h1 rfl)
        simp only [execOp, e1]
        simp [go_sem, x0, x1, x2, x3, x4, k0, k1, k2, k3, k4, l0, l1, l2, l3, l4, m0, m1, m2, m3, m4, u0, u1, u2, v0, v1, v2]
      | 8, ho =>
        obtain rfl := Option.some.inj ho
        have hg := hA.new 2 (by decide) (by kernel_rfl)
        have e1 : a'.eval (.tmp 11) = .pointer (some ⟨wc.heap.size, 0, none⟩) := hA.keep 11 (by kernel_rfl)
        refine GoesG.valueW (.agg #[.int .i64 2, .int .i64 0, .string { data := #[97] }, .int .i64 0, .slice none 0 0]) 2 true true rfl hg rfl ?_ (Below.refl _ _) (fun s h1 h2 => h1 rfl)
        simp only [execOp, e1]
        simp [go_sem, x0, x1, x2, x3, x4, k0, k1, k2, k3, k4, l0, l1, l2, l3, l4, m0, m1, m2, m3, m4, u0, u1, u2, v0, v1, v2]
      | 9, ho =>
        obtain rfl := Option.some.inj ho
        have hg := hA.new 2 (by decide) (by kernel_rfl)
        have e1 : a'.eval (.tmp 12) = .pointer (some ⟨wc.heap.size + 1, 0, none⟩) := hA.keep 12 (by kernel_rfl)
        refine GoesG.valueW (.agg #[.int .i64 2, .int .i64 0, .string { data := #[98] }, .int .i64 0, .slice none 0 0]) 2 true true rfl hg rfl ?_ (Below.refl _ _) (fun s h1 h2 => h1 rfl)
        simp only [execOp, e1]
        simp [go_sem, x0, x1, x2, x3, x4, k0, k1, k2, k3, k4, l0, l1, l2, l3, l4, m0, m1, m2, m3, m4, u0, u1, u2, v0, v1, v2]
      | 10, ho =>
        obtain rfl := Option.some.inj ho
        have hg := hA.new 2 (by decide) (by kernel_rfl)
        have e1 : a'.eval (.tmp 100) = .int .i64 (ox : Int) := (sv_dst (l := _) rfl).symm.trans (hA.new 7 (by decide) (by kernel_rfl))
        have e2 : a'.eval (.tmp 101) = .agg #[.int .i64 2, .int .i64 0, .string { data := #[97] }, .int .i64 0, .slice none 0 0] := (sv_dst (l := _) rfl).symm.trans (hA.new 8 (by decide) (by kernel_rfl))
        have e3 : a'.eval (.tmp 102) = .agg #[.int .i64 2, .int .i64 0, .string { data := #[98] }, .int .i64 0, .slice none 0 0] := (sv_dst (l := _) rfl).symm.trans (hA.new 9 (by decide) (by kernel_rfl))
        refine GoesG.callG 14 #[.int .i64 (ox : Int), .agg #[.int .i64 2, .int .i64 0, .string { data := #[97] }, .int .i64 0, .slice none 0 0], .agg #[.int .i64 2, .int .i64 0, .string { data := #[98] }, .int .i64 0, .slice none 0 0]] 2 true true rfl hg rfl ?_ (Calls.mono (lawBin_any ox (by omega) (by omega) grA grB none none 0 0 W (AtB_leaf (fun _ => True) W none (fits_nam (s := [97]) (by decide))).at (AtB_leaf (fun _ => True) W none (fits_nam (s := [98]) (by decide))).at) ?_)
        · simp [execOp, resolve, invoke, Deferred.ofValue, e1, e2, e3]
          rfl
        · rintro _ W2 ⟨r2, rfl, hAt, hE2⟩
          exact ⟨_, rfl, hE2, fun s h1 h2 => ⟨r2, h1 rfl, hAt⟩⟩
      | 11, ho =>
        obtain rfl := Option.some.inj ho
        have hg := hA.new 2 (by decide) (by kernel_rfl)
        have e1 : a'.eval (.tmp 13) = .pointer (some ⟨wc.heap.size + 1 + 1, 0, none⟩) := hA.keep 13 (by kernel_rfl)
        refine GoesG.valueW (.agg #[.int .i64 2, .int .i64 0, .string { data := #[99] }, .int .i64 0, .slice none 0 0]) 2 true true rfl hg rfl ?_ (Below.refl _ _) (fun s h1 h2 => h1 rfl)
        simp only [execOp, e1]
        simp [go_sem, x0, x1, x2, x3, x4, k0, k1, k2, k3, k4, l0, l1, l2, l3, l4, m0, m1, m2, m3, m4, u0, u1, u2, v0, v1, v2]
      | 12, ho =>
        obtain rfl := Option.some.inj ho
        have hg := hA.new 2 (by decide) (by kernel_rfl)
        have e1 : a'.eval (.tmp 98) = .int .i64 (oy : Int) := (sv_dst (l := _) rfl).symm.trans (hA.new 5 (by decide) (by kernel_rfl))
        obtain ⟨r0, h10, hA10⟩ := hA.new 10 (by decide) (by kernel_rfl)
        have e2 : a'.eval (.tmp 103) = (binX ox grA grB).val r0 2 := (sv_dst (l := _) rfl).symm.trans h10
        have e3 : a'.eval (.tmp 104) = .agg #[.int .i64 2, .int .i64 0, .string { data := #[99] }, .int .i64 0, .slice none 0 0] := (sv_dst (l := _) rfl).symm.trans (hA.new 11 (by decide) (by kernel_rfl))
        refine GoesG.callG 14 #[.int .i64 (oy : Int), (binX ox grA grB).val r0 2, .agg #[.int .i64 2, .int .i64 0, .string { data := #[99] }, .int .i64 0, .slice none 0 0]] 2 true true rfl hg rfl ?_ (Calls.mono (lawBin_any oy (by omega) (by omega) (binX ox grA grB) grC r0 none 2 0 W hA10 (AtB_leaf (fun _ => True) W none (fits_nam (s := [99]) (by decide))).at) ?_)
        · simp [execOp, resolve, invoke, Deferred.ofValue, e1, e2, e3]
          rfl
        · rintro _ W2 ⟨r2, rfl, hAt, hE2⟩
          exact ⟨_, rfl, hE2, fun s h1 h2 => ⟨r2, h1 rfl, hAt⟩⟩
      | 13, ho =>
        obtain rfl := Option.some.inj ho
        have hg := hA.new 2 (by decide) (by kernel_rfl)
        have e1 : a'.eval (.tmp 96) = .agg #[.int .i64 4, .int .i64 oy, .string { data := #[] }, .int .i64 0, .slice q1 2 c1] := (sv_dst (l := _) rfl).symm.trans (hA.new 3 (by decide) (by kernel_rfl))
        obtain ⟨r0, h12, hA12⟩ := hA.new 12 (by decide) (by kernel_rfl)
        have e2 : a'.eval (.tmp 105) = (binX oy (binX ox grA grB) grC).val r0 2 := (sv_dst (l := _) rfl).symm.trans h12
        have hq := refEqualX_any (binX oy (binX ox grA grB) grC) (binX oy (binX ox grA grB) grC) q1 r0 c1 2 W (HAE.out.below hA.rel) hA12
        rw [HCK.out, eqX_self] at hq
        refine GoesG.callG 11 #[.agg #[.int .i64 4, .int .i64 oy, .string { data := #[] }, .int .i64 0, .slice q1 2 c1], (binX oy (binX ox grA grB) grC).val r0 2] 2 true true rfl hg rfl ?_ (Calls.mono (show Gives _ _ #[.agg #[.int .i64 4, .int .i64 oy, .string { data := #[] }, .int .i64 0, .slice q1 2 c1], (binX oy (binX ox grA grB) grC).val r0 2] W (.bool true) from hq) ?_)
        · simp [execOp, resolve, invoke, Deferred.ofValue, e1, e2]
          rfl
        · rintro _ W2 ⟨rfl, hE2⟩
          exact ⟨_, rfl, hE2, fun s h1 h2 => h1 rfl⟩
      | 14, ho =>
        obtain rfl := Option.some.inj ho
        have e1 : a'.eval (.tmp 95) = .bool true := (sv_dst (l := _) rfl).symm.trans (hA.new 2 (by decide) (by kernel_rfl))
        have e2 : a'.eval (.tmp 106) = .bool true := (sv_dst (l := _) rfl).symm.trans (hA.new 13 (by decide) (by kernel_rfl))
        refine GoesG.value (.bool true) rfl ?_ (Below.refl _ _) (fun s h1 h2 => h1 rfl)
        simp only [execOp, e1, e2]
        simp [go_sem, x0, x1, x2, x3, x4, k0, k1, k2, k3, k4, l0, l1, l2, l3, l4, m0, m1, m2, m3, m4, u0, u1, u2, v0, v1, v2]
      | 15, ho =>
        obtain rfl := Option.some.inj ho
        have e1 : a'.eval (.tmp 107) = .bool true := (sv_dst (l := _) rfl).symm.trans (hA.new 14 (by decide) (by kernel_rfl))
        refine GoesG.value (.bool true) rfl ?_ (Below.refl _ _) (fun s h1 h2 => h1 rfl)
        simp only [execOp, e1]
        simp [go_sem, x0, x1, x2, x3, x4, k0, k1, k2, k3, k4, l0, l1, l2, l3, l4, m0, m1, m2, m3, m4, u0, u1, u2, v0, v1, v2]
      | 16, ho =>
        obtain rfl := Option.some.inj ho
        have hg := hA.new 15 (by decide) (by kernel_rfl)
        refine GoesG.callG 7 #[] 15 true true rfl hg rfl ?_ (Calls.mono (KA.out W (Ext.trans HE9.out hA.rel)) ?_)
        · simp [execOp, resolve, invoke, Deferred.ofValue]
          rfl
        · rintro _ W2 ⟨rfl, hE2⟩
          exact ⟨_, rfl, hE2, fun s h1 h2 => h1 rfl⟩
      | 17, ho =>
        obtain rfl := Option.some.inj ho
        have e1 : a'.eval (.tmp 108) = .bool true := (sv_dst (l := _) rfl).symm.trans (hA.new 15 (by decide) (by kernel_rfl))
        have e2 : a'.eval (.tmp 109) = .bool true := (sv_dst (l := _) rfl).symm.trans (hA.new 16 (by decide) (by kernel_rfl))
        refine GoesG.value (.bool true) rfl ?_ (Below.refl _ _) (fun s h1 h2 => h1 rfl)
        simp only [execOp, e1, e2]
        simp [go_sem, x0, x1, x2, x3, x4, k0, k1, k2, k3, k4, l0, l1, l2, l3, l4, m0, m1, m2, m3, m4, u0, u1, u2, v0, v1, v2]
      | i + 18, ho => cases ho
    · intro vs w10 hvs hG hΦ
      obtain ⟨z0, z1, z2, z3, z4, z5, z6, z7, z8, z9, z10, z11, z12, z13, z14, z15, z16, z17, rfl⟩ : ∃ z0 z1 z2 z3 z4 z5 z6 z7 z8 z9 z10 z11 z12 z13 z14 z15 z16 z17, vs = z0 :: z1 :: z2 :: z3 :: z4 :: z5 :: z6 :: z7 :: z8 :: z9 :: z10 :: z11 :: z12 :: z13 :: z14 :: z15 :: z16 :: z17 :: [] := by
        match vs, hvs with
        | z0 :: z1 :: z2 :: z3 :: z4 :: z5 :: z6 :: z7 :: z8 :: z9 :: z10 :: z11 :: z12 :: z13 :: z14 :: z15 :: z16 :: z17 :: [], _ => exact ⟨z0, z1, z2, z3, z4, z5, z6, z7, z8, z9, z10, z11, z12, z13, z14, z15, z16, z17, rfl⟩
      have e0 : z0 = .int .i64 0 := hΦ 0 (by decide)
      subst e0
      have e1 : z1 = .bool true := hΦ 1 (by decide)
      subst e1
      have e2 : z2 = .bool true := hΦ 2 (by decide)
      subst e2
      have e3 : z3 = .agg #[.int .i64 4, .int .i64 oy, .string { data := #[] }, .int .i64 0, .slice q1 2 c1] := hΦ 3 (by decide)
      subst e3
      have e4 : z4 = .pointer (some ⟨A2, 1, none⟩) := hΦ 4 (by decide)
      subst e4
      have e5 : z5 = .int .i64 (oy : Int) := hΦ 5 (by decide)
      subst e5
      have e6 : z6 = .pointer (some ⟨A1, 1, none⟩) := hΦ 6 (by decide)
      subst e6
      have e7 : z7 = .int .i64 (ox : Int) := hΦ 7 (by decide)
      subst e7
      have e8 : z8 = .agg #[.int .i64 2, .int .i64 0, .string { data := #[97] }, .int .i64 0, .slice none 0 0] := hΦ 8 (by decide)
      subst e8
      have e9 : z9 = .agg #[.int .i64 2, .int .i64 0, .string { data := #[98] }, .int .i64 0, .slice none 0 0] := hΦ 9 (by decide)
      subst e9
      have p10 : ∃ r, z10 = (binX ox grA grB).val r 2 ∧ Ex.At w10 r (binX ox grA grB) := hΦ 10 (by decide)
      have e11 : z11 = .agg #[.int .i64 2, .int .i64 0, .string { data := #[99] }, .int .i64 0, .slice none 0 0] := hΦ 11 (by decide)
      subst e11
      have p12 : ∃ r, z12 = (binX oy (binX ox grA grB) grC).val r 2 ∧ Ex.At w10 r (binX oy (binX ox grA grB) grC) := hΦ 12 (by decide)
      have e13 : z13 = .bool true := hΦ 13 (by decide)
      subst e13
      have e14 : z14 = .bool true := hΦ 14 (by decide)
      subst e14
      have e15 : z15 = .bool true := hΦ 15 (by decide)
      subst e15
      have e16 : z16 = .bool true := hΦ 16 (by decide)
      subst e16
      have e17 : z17 = .bool true := hΦ 17 (by decide)
      subst e17
      clear hΦ hvs
      simp only [putAll, Act.put, List.setIfInBounds_toArray, List.set_cons_succ, List.set_cons_zero]
      go_wp2
      go_ret
      exact ⟨rfl, Ext.trans HE9.out hG⟩
  · obtain ⟨W2, hW2⟩ : ∃ W, ((w1.alloc (.cells #[.string (sB sy), .int .i64 (oy : Int), .int .i64 (py : Int)] 36)).alloc (.cells #[.string (sB sx), .int .i64 (ox : Int), .int .i64 (px : Int)] 36)).drew = W := ⟨_, rfl⟩
    rw [hW2]
    have hb2 : W2.heap[w1.heap.size]? = some (.cells #[.string (sB sy), .int .i64 (oy : Int), .int .i64 (py : Int)] 36 (0, 0)) := by
      rw [← hW2]
      show ((w1.alloc (.cells #[.string (sB sy), .int .i64 (oy : Int), .int .i64 (py : Int)] 36)).alloc (.cells #[.string (sB sx), .int .i64 (ox : Int), .int .i64 (px : Int)] 36)).heap[_]? = _
      rw [Below.heap_alloc _ _ _ (by rw [World.size_alloc]; omega)]
      exact alloc_here w1 (.cells #[.string (sB sy), .int .i64 (oy : Int), .int .i64 (py : Int)] 36)
    have hb1 : W2.heap[w1.heap.size + 1]? = some (.cells #[.string (sB sx), .int .i64 (ox : Int), .int .i64 (px : Int)] 36 (0, 0)) := by
      rw [← hW2]
      have := alloc_here (w1.alloc (.cells #[.string (sB sy), .int .i64 (oy : Int), .int .i64 (py : Int)] 36)) (.cells #[.string (sB sx), .int .i64 (ox : Int), .int .i64 (px : Int)] 36)
      rw [World.size_alloc] at this; exact this
    have hE2 : Ext w1 W2 := by rw [← hW2]; exact Ext.drewN' (n := 1) (((Below.refl _ w1).alloc (Nat.le_refl _) _).alloc (by simp) _)
    clear hW2 x0 x1 x2 y0 y1 y2 hBl
    generalize w1.heap.size + 1 = A1 at *
    generalize w1.heap.size = A2 at *
    have HX1 := Lib.hid hb1
    have HY1 := Lib.hid hb2
    have HE2 := Lib.hid (Ext.trans HE1.out hE2)
    have u0 := cell_of (i := 0) hb1 rfl
    have v0 := cell_of (i := 0) hb2 rfl
    clear hb1 hb2 hE2
    go_wp2_with fail
    try rw [hcat]
    refine (show Calls _ _ _ _ _ from K1.out _ HE2.out).mono ?_
    rintro _ w3 ⟨q1, c1, rfl, hA3, hE3⟩
    dsimp only
    have HA3 := Lib.hid hA3
    have HX3 := Lib.hid ((hE3.below.block _ (lt_of_block HX1.out)).trans HX1.out)
    have HY3 := Lib.hid ((hE3.below.block _ (lt_of_block HY1.out)).trans HY1.out)
    have HE3 := Lib.hid (Ext.trans HE2.out hE3)
    clear hA3 hE3 u0 v0
    have HE4 := Lib.hid (ext_alloc w3 (.cells #[.int .i64 4, .int .i64 oy, .string { data := #[] }, .int .i64 0, .slice q1 2 c1] 25))
    have HB4 := Lib.hid (alloc_here w3 (.cells #[.int .i64 4, .int .i64 oy, .string { data := #[] }, .int .i64 0, .slice q1 2 c1] 25))
    go_wp2_with fail
    refine (KN1.out _).mono ?_
    intro wa hEa
    have HEa := Lib.hid (Ext.trans HE4.out hEa)
    have HBa := Lib.hid ((hEa.block _ (lt_of_block HB4.out)).trans HB4.out)
    clear hEa
    go_wp2_with fail
    refine (KN2.out _).mono ?_
    intro wb hEb
    have HEb := Lib.hid (Ext.trans HEa.out hEb)
    have HBb := Lib.hid ((hEb.block _ (lt_of_block HBa.out)).trans HBa.out)
    clear hEb
    go_wp2_with fail
    refine (KN3.out _).mono ?_
    intro wc hEc
    have HEc := Lib.hid (Ext.trans HEb.out hEc)
    have HBc := Lib.hid ((hEc.block _ (lt_of_block HBb.out)).trans HBb.out)
    clear hEc
    go_upto_region 5 with fail
    obtain ⟨w9, hw9⟩ : ∃ W, (((wc.alloc (.cells #[.int .i64 2, .int .i64 0, .string { data := #[97] }, .int .i64 0, .slice none 0 0] 25)).alloc (.cells #[.int .i64 2, .int .i64 0, .string { data := #[98] }, .int .i64 0, .slice none 0 0] 25)).alloc (.cells #[.int .i64 2, .int .i64 0, .string { data := #[99] }, .int .i64 0, .slice none 0 0] 25)) = W := ⟨_, rfl⟩
    rw [hw9]
    have hE9 : Ext wc w9 := by rw [← hw9]; exact ((((Below.refl _ wc).alloc (Nat.le_refl _) _).alloc (by simp) _).alloc (by simp; omega) _)
    have h3 : w9.heap[wc.heap.size + 1 + 1]? = some (.cells #[.int .i64 2, .int .i64 0, .string { data := #[99] }, .int .i64 0, .slice none 0 0] 25 (0, 0)) := by
      have := alloc_here ((wc.alloc (.cells #[.int .i64 2, .int .i64 0, .string { data := #[97] }, .int .i64 0, .slice none 0 0] 25)).alloc (.cells #[.int .i64 2, .int .i64 0, .string { data := #[98] }, .int .i64 0, .slice none 0 0] 25)) (.cells #[.int .i64 2, .int .i64 0, .string { data := #[99] }, .int .i64 0, .slice none 0 0] 25)
      rw [hw9, World.size_alloc, World.size_alloc] at this; exact this
    have h2 : w9.heap[wc.heap.size + 1]? = some (.cells #[.int .i64 2, .int .i64 0, .string { data := #[98] }, .int .i64 0, .slice none 0 0] 25 (0, 0)) := by
      rw [← hw9, Below.heap_alloc _ _ _ (by rw [World.size_alloc, World.size_alloc]; omega)]
      have := alloc_here (wc.alloc (.cells #[.int .i64 2, .int .i64 0, .string { data := #[97] }, .int .i64 0, .slice none 0 0] 25)) (.cells #[.int .i64 2, .int .i64 0, .string { data := #[98] }, .int .i64 0, .slice none 0 0] 25)
      rw [World.size_alloc] at this; exact this
    have h1 : w9.heap[wc.heap.size]? = some (.cells #[.int .i64 2, .int .i64 0, .string { data := #[97] }, .int .i64 0, .slice none 0 0] 25 (0, 0)) := by
      rw [← hw9, Below.heap_alloc _ _ _ (by rw [World.size_alloc, World.size_alloc]; omega), Below.heap_alloc _ _ _ (by rw [World.size_alloc]; omega)]
      exact alloc_here wc (.cells #[.int .i64 2, .int .i64 0, .string { data := #[97] }, .int .i64 0, .slice none 0 0] 25)
    have HA9 := Lib.hid h1
    have HB9 := Lib.hid h2
    have HC9 := Lib.hid h3
    have HE39 := Lib.hid (Ext.trans HEc.out hE9)
    have HE9 := Lib.hid (Ext.trans HE3.out HE39.out)
    have HE9B := Lib.hid ((hE9.below.block _ (lt_of_block HBc.out)).trans HBc.out)
    have HX9 := Lib.hid ((HE39.out.below.block _ (lt_of_block HX3.out)).trans HX3.out)
    have HY9 := Lib.hid ((HE39.out.below.block _ (lt_of_block HY3.out)).trans HY3.out)
    have HAE := Lib.hid (show Ex.At w9 q1 (binX oy (binX ox grA grB) grC) from (HA3.out.ext HE39.out).at)
    clear hw9 hE9 h1 h2 h3
    have u0 := cell_of (i := 0) HX9.out rfl
    have u2 := cell_of (i := 2) HX9.out rfl
    have v2 := cell_of (i := 2) HY9.out rfl
    go_upto_region 9 with fail
    refine wp_region_tail (l1 := [_, _, _, _, _, _, _, _, _, _, _, _, _, _, _, _, _, _]) (l2 := [_]) (by kernel_rfl) Ext (fun W => Below.refl _ W) (fun W => show Below W.heap.size W { W with drawn := W.drawn + 1 } from ⟨rfl, rfl, rfl, Nat.le_refl _, fun _ _ => rfl⟩) Ext.trans
      (fun i s W => match i with
        | 0 => s 0 = .int .i64 0
        | 1 => s 1 = .bool true
        | 2 => s 2 = .bool true
        | 3 => s 3 = .agg #[.int .i64 4, .int .i64 oy, .string { data := #[] }, .int .i64 0, .slice q1 2 c1]
        | 4 => s 4 = .pointer (some ⟨A2, 1, none⟩)
        | 5 => s 5 = .int .i64 (oy : Int)
        | 6 => s 6 = .pointer (some ⟨A1, 1, none⟩)
        | 7 => s 7 = .int .i64 (ox : Int)
        | 8 => s 8 = .agg #[.int .i64 2, .int .i64 0, .string { data := #[97] }, .int .i64 0, .slice none 0 0]
        | 9 => s 9 = .agg #[.int .i64 2, .int .i64 0, .string { data := #[98] }, .int .i64 0, .slice none 0 0]
        | 10 => ∃ r, s 10 = (binX ox grA grB).val r 2 ∧ Ex.At W r (binX ox grA grB)
        | 11 => s 11 = .agg #[.int .i64 2, .int .i64 0, .string { data := #[99] }, .int .i64 0, .slice none 0 0]
        | 12 => ∃ r, s 12 = (binX oy (binX ox grA grB) grC).val r 2 ∧ Ex.At W r (binX oy (binX ox grA grB) grC)
        | 13 => s 13 = .bool true
        | 14 => s 14 = .bool true
        | 15 => s 15 = .bool true
        | 16 => s 16 = .bool true
        | 17 => s 17 = .bool true
        | _ => True)
      (fun i => [i])
      (by
        intro i s s' W W' h hs hE
        have hs := hs i (by simp)
        match i, h, hs with
        | 0, h, hs => exact hs.trans h
        | 1, h, hs => exact hs.trans h
        | 2, h, hs => exact hs.trans h
        | 3, h, hs => exact hs.trans h
        | 4, h, hs => exact hs.trans h
        | 5, h, hs => exact hs.trans h
        | 6, h, hs => exact hs.trans h
        | 7, h, hs => exact hs.trans h
        | 8, h, hs => exact hs.trans h
        | 9, h, hs => exact hs.trans h
        | 10, ⟨r, h1, h2⟩, hs => exact ⟨r, hs.trans h1, h2.below hE⟩
        | 11, h, hs => exact hs.trans h
        | 12, ⟨r, h1, h2⟩, hs => exact ⟨r, hs.trans h1, h2.below hE⟩
        | 13, h, hs => exact hs.trans h
        | 14, h, hs => exact hs.trans h
        | 15, h, hs => exact hs.trans h
        | 16, h, hs => exact hs.trans h
        | 17, h, hs => exact hs.trans h
        | i + 18, h, hs => exact trivial)
      (by kernel_rfl) (by kernel_rfl) (by kernel_rfl) 111 rfl (by kernel_rfl) (by kernel_rfl) ?_ ?_
    · intro i op ho a' W hA
      have x0 : W.cell? ⟨w3.heap.size, 0, none⟩ = _ := Ext.cellE (cell_of HE9B.out rfl) hA.rel
      have x1 : W.cell? ⟨w3.heap.size, 1, none⟩ = _ := Ext.cellE (cell_of HE9B.out rfl) hA.rel
      have x2 : W.cell? ⟨w3.heap.size, 2, none⟩ = _ := Ext.cellE (cell_of HE9B.out rfl) hA.rel
      have x3 : W.cell? ⟨w3.heap.size, 3, none⟩ = _ := Ext.cellE (cell_of HE9B.out rfl) hA.rel
      have x4 : W.cell? ⟨w3.heap.size, 4, none⟩ = _ := Ext.cellE (cell_of HE9B.out rfl) hA.rel
      have k0 : W.cell? ⟨wc.heap.size, 0, none⟩ = _ := Ext.cellE (cell_of HA9.out rfl) hA.rel
      have k1 : W.cell? ⟨wc.heap.size, 1, none⟩ = _ := Ext.cellE (cell_of HA9.out rfl) hA.rel
      have k2 : W.cell? ⟨wc.heap.size, 2, none⟩ = _ := Ext.cellE (cell_of HA9.out rfl) hA.rel
      have k3 : W.cell? ⟨wc.heap.size, 3, none⟩ = _ := Ext.cellE (cell_of HA9.out rfl) hA.rel
      have k4 : W.cell? ⟨wc.heap.size, 4, none⟩ = _ := Ext.cellE (cell_of HA9.out rfl) hA.rel
      have l0 : W.cell? ⟨wc.heap.size + 1, 0, none⟩ = _ := Ext.cellE (cell_of HB9.out rfl) hA.rel
      have l1 : W.cell? ⟨wc.heap.size + 1, 1, none⟩ = _ := Ext.cellE (cell_of HB9.out rfl) hA.rel
      have l2 : W.cell? ⟨wc.heap.size + 1, 2, none⟩ = _ := Ext.cellE (cell_of HB9.out rfl) hA.rel
      have l3 : W.cell? ⟨wc.heap.size + 1, 3, none⟩ = _ := Ext.cellE (cell_of HB9.out rfl) hA.rel
      have l4 : W.cell? ⟨wc.heap.size + 1, 4, none⟩ = _ := Ext.cellE (cell_of HB9.out rfl) hA.rel
      have m0 : W.cell? ⟨wc.heap.size + 1 + 1, 0, none⟩ = _ := Ext.cellE (cell_of HC9.out rfl) hA.rel
      have m1 : W.cell? ⟨wc.heap.size + 1 + 1, 1, none⟩ = _ := Ext.cellE (cell_of HC9.out rfl) hA.rel
      have m2 : W.cell? ⟨wc.heap.size + 1 + 1, 2, none⟩ = _ := Ext.cellE (cell_of HC9.out rfl) hA.rel
      have m3 : W.cell? ⟨wc.heap.size + 1 + 1, 3, none⟩ = _ := Ext.cellE (cell_of HC9.out rfl) hA.rel
      have m4 : W.cell? ⟨wc.heap.size + 1 + 1, 4, none⟩ = _ := Ext.cellE (cell_of HC9.out rfl) hA.rel
      have u0 : W.cell? ⟨A1, 0, none⟩ = _ := Ext.cellE (cell_of HX9.out rfl) hA.rel
      have u1 : W.cell? ⟨A1, 1, none⟩ = _ := Ext.cellE (cell_of HX9.out rfl) hA.rel
      have u2 : W.cell? ⟨A1, 2, none⟩ = _ := Ext.cellE (cell_of HX9.out rfl) hA.rel
      have v0 : W.cell? ⟨A2, 0, none⟩ = _ := Ext.cellE (cell_of HY9.out rfl) hA.rel
      have v1 : W.cell? ⟨A2, 1, none⟩ = _ := Ext.cellE (cell_of HY9.out rfl) hA.rel
      have v2 : W.cell? ⟨A2, 2, none⟩ = _ := Ext.cellE (cell_of HY9.out rfl) hA.rel
      match i, ho with
      | 0, ho =>
        obtain rfl := Option.some.inj ho
        have e1 : a'.eval (.tmp 10) = .int .i64 0 := hA.keep 10 (by kernel_rfl)
        refine GoesG.value (.int .i64 0) rfl ?_ (Below.refl _ _) (fun s h1 h2 => h1 rfl)
        simp only [execOp, e1]
        simp [go_sem, x0, x1, x2, x3, x4, k0, k1, k2, k3, k4, l0, l1, l2, l3, l4, m0, m1, m2, m3, m4, u0, u1, u2, v0, v1, v2]
      | 1, ho =>
        obtain rfl := Option.some.inj ho
        have e1 : a'.eval (.tmp 93) = .int .i64 0 := (sv_dst (l := _) rfl).symm.trans (hA.new 0 (by decide) (by kernel_rfl))
        refine GoesG.value (.bool true) rfl ?_ (Below.refl _ _) (fun s h1 h2 => h1 rfl)
        simp only [execOp, e1]
        simp [go_sem, x0, x1, x2, x3, x4, k0, k1, k2, k3, k4, l0, l1, l2, l3, l4, m0, m1, m2, m3, m4, u0, u1, u2, v0, v1, v2]
      | 2, ho =>
        obtain rfl := Option.some.inj ho
        have e1 : a'.eval (.tmp 94) = .bool true := (sv_dst (l := _) rfl).symm.trans (hA.new 1 (by decide) (by kernel_rfl))
        refine GoesG.value (.bool true) rfl ?_ (Below.refl _ _) (fun s h1 h2 => h1 rfl)
        simp only [execOp, e1]
        simp [go_sem, x0, x1, x2, x3, x4, k0, k1, k2, k3, k4, l0, l1, l2, l3, l4, m0, m1, m2, m3, m4, u0, u1, u2, v0, v1, v2]
      | 3, ho =>
        obtain rfl := Option.some.inj ho
        have hg := hA.new 2 (by decide) (by kernel_rfl)
        have e1 : a'.eval (.tmp 8) = .pointer (some ⟨w3.heap.size, 0, none⟩) := hA.keep 8 (by kernel_rfl)
        refine GoesG.valueW (.agg #[.int .i64 4, .int .i64 oy, .string { data := #[] }, .int .i64 0, .slice q1 2 c1]) 2 true true rfl hg rfl ?_ (Below.refl _ _) (fun s h1 h2 => h1 rfl)
        simp only [execOp, e1]
        simp [go_sem, x0, x1, x2, x3, x4, k0, k1, k2, k3, k4, l0, l1, l2, l3, l4, m0, m1, m2, m3, m4, u0, u1, u2, v0, v1, v2]
      | 4, ho =>
        obtain rfl := Option.some.inj ho
        have hg := hA.new 2 (by decide) (by kernel_rfl)
        have e1 : a'.eval (.tmp 7) = .pointer (some ⟨A2, 0, none⟩) := hA.keep 7 (by kernel_rfl)
        refine GoesG.valueW (.pointer (some ⟨A2, 1, none⟩)) 2 true true rfl hg rfl ?_ (Below.refl _ _) (fun s h1 h2 => h1 rfl)
        simp only [execOp, e1]
        simp [go_sem, x0, x1, x2, x3, x4, k0, k1, k2, k3, k4, l0, l1, l2, l3, l4, m0, m1, m2, m3, m4, u0, u1, u2, v0, v1, v2]
      | 5, ho =>
        obtain rfl := Option.some.inj ho
        have hg := hA.new 2 (by decide) (by kernel_rfl)
        have e1 : a'.eval (.tmp 97) = .pointer (some ⟨A2, 1, none⟩) := (sv_dst (l := _) rfl).symm.trans (hA.new 4 (by decide) (by kernel_rfl))
        refine GoesG.valueW (.int .i64 (oy : Int)) 2 true true rfl hg rfl ?_ (Below.refl _ _) (fun s h1 h2 => h1 rfl)
        simp only [execOp, e1]
        simp [go_sem, x0, x1, x2, x3, x4, k0, k1, k2, k3, k4, l0, l1, l2, l3, l4, m0, m1, m2, m3, m4, u0, u1, u2, v0, v1, v2]
      | 6, ho =>
        obtain rfl := Option.some.inj ho
        have hg := hA.new 2 (by decide) (by kernel_rfl)
        have e1 : a'.eval (.tmp 6) = .pointer (some ⟨A1, 0, none⟩) := hA.keep 6 (by kernel_rfl)
        refine GoesG.valueW (.pointer (some ⟨A1, 1, none⟩)) 2 true true rfl hg rfl ?_ (Below.refl _ _) (fun s h1 h2 => h1 rfl)
        simp only [execOp, e1]
        simp [go_sem, x0, x1, x2, x3, x4, k0, k1, k2, k3, k4, l0, l1, l2, l3, l4, m0, m1, m2, m3, m4, u0, u1, u2, v0, v1, v2]
      | 7, ho =>
        obtain rfl := Option.some.inj ho
        have hg := hA.new 2 (by decide) (by kernel_rfl)
        have e1 : a'.eval (.tmp 99) = .pointer (some ⟨A1, 1, none⟩) := (sv_dst (l := _) rfl).symm.trans (hA.new 6 (by decide) (by kernel_rfl))
        refine GoesG.valueW (.int .i64 (ox : Int)) 2 true true rfl hg rfl ?_ (Below.refl _ _) (fun s h1 h2 => h1 rfl)
        simp only [execOp, e1]
        simp [go_sem, x0, x1, x2, x3, x4, k0, k1, k2, k3, k4, l0, l1, l2, l3, l4, m0, m1, m2, m3, m4, u0, u1, u2, v0, v1, v2]
      | 8, ho =>
        obtain rfl := Option.some.inj ho
        have hg := hA.new 2 (by decide) (by kernel_rfl)
        have e1 : a'.eval (.tmp 11) = .pointer (some ⟨wc.heap.size, 0, none⟩) := hA.keep 11 (by kernel_rfl)
        refine GoesG.valueW (.agg #[.int .i64 2, .int .i64 0, .string { data := #[97] }, .int .i64 0, .slice none 0 0]) 2 true true rfl hg rfl ?_ (Below.refl _ _) (fun s h1 h2 => h1 rfl)
        simp only [execOp, e1]
        simp [go_sem, x0, x1, x2, x3, x4, k0, k1, k2, k3, k4, l0, l1, l2, l3, l4, m0, m1, m2, m3, m4, u0, u1, u2, v0, v1, v2]
      | 9, ho =>
        obtain rfl := Option.some.inj ho
        have hg := hA.new 2 (by decide) (by kernel_rfl)
        have e1 : a'.eval (.tmp 12) = .pointer (some ⟨wc.heap.size + 1, 0, none⟩) := hA.keep 12 (by kernel_rfl)
        refine GoesG.valueW (.agg #[.int .i64 2, .int .i64 0, .string { data := #[98] }, .int .i64 0, .slice none 0 0]) 2 true true rfl hg rfl ?_ (Below.refl _ _) (fun s h1 h2 => h1 rfl)
        simp only [execOp, e1]
        simp [go_sem, x0, x1, x2, x3, x4, k0, k1, k2, k3, k4, l0, l1, l2, l3, l4, m0, m1, m2, m3, m4, u0, u1, u2, v0, v1, v2]
      | 10, ho =>
        obtain rfl := Option.some.inj ho
        have hg := hA.new 2 (by decide) (by kernel_rfl)
        have e1 : a'.eval (.tmp 100) = .int .i64 (ox : Int) := (sv_dst (l := _) rfl).symm.trans (hA.new 7 (by decide) (by kernel_rfl))
        have e2 : a'.eval (.tmp 101) = .agg #[.int .i64 2, .int .i64 0, .string { data := #[97] }, .int .i64 0, .slice none 0 0] := (sv_dst (l := _) rfl).symm.trans (hA.new 8 (by decide) (by kernel_rfl))
        have e3 : a'.eval (.tmp 102) = .agg #[.int .i64 2, .int .i64 0, .string { data := #[98] }, .int .i64 0, .slice none 0 0] := (sv_dst (l := _) rfl).symm.trans (hA.new 9 (by decide) (by kernel_rfl))
        refine GoesG.callG 14 #[.int .i64 (ox : Int), .agg #[.int .i64 2, .int .i64 0, .string { data := #[97] }, .int .i64 0, .slice none 0 0], .agg #[.int .i64 2, .int .i64 0, .string { data := #[98] }, .int .i64 0, .slice none 0 0]] 2 true true rfl hg rfl ?_ (Calls.mono (lawBin_any ox (by omega) (by omega) grA grB none none 0 0 W (AtB_leaf (fun _ => True) W none (fits_nam (s := [97]) (by decide))).at (AtB_leaf (fun _ => True) W none (fits_nam (s := [98]) (by decide))).at) ?_)
        · simp [execOp, resolve, invoke, Deferred.ofValue, e1, e2, e3]
          rfl
        · rintro _ W2 ⟨r2, rfl, hAt, hE2⟩
          exact ⟨_, rfl, hE2, fun s h1 h2 => ⟨r2, h1 rfl, hAt⟩⟩
      | 11, ho =>
        obtain rfl := Option.some.inj ho
        have hg := hA.new 2 (by decide) (by kernel_rfl)
        have e1 : a'.eval (.tmp 13) = .pointer (some ⟨wc.heap.size + 1 + 1, 0, none⟩) := hA.keep 13 (by kernel_rfl)
        refine GoesG.valueW (.agg #[.int .i64 2, .int .i64 0, .string { data := #[99] }, .int .i64 0, .slice none 0 0]) 2 true true rfl hg rfl ?_ (Below.refl _ _) (fun s h1 h2 => h1 rfl)
        simp only [execOp, e1]
        simp [go_sem, x0, x1, x2, x3, x4, k0, k1, k2, k3, k4, l0, l1, l2, l3, l4, m0, m1, m2, m3, m4, u0, u1, u2, v0, v1, v2]
      | 12, ho =>
        obtain rfl := Option.some.inj ho
        have hg := hA.new 2 (by decide) (by kernel_rfl)
        have e1 : a'.eval (.tmp 98) = .int .i64 (oy : Int) := (sv_dst (l := _) rfl).symm.trans (hA.new 5 (by decide) (by kernel_rfl))
        obtain ⟨r0, h10, hA10⟩ := hA.new 10 (by decide) (by kernel_rfl)
        have e2 : a'.eval (.tmp 103) = (binX ox grA grB).val r0 2 := (sv_dst (l := _) rfl).symm.trans h10
        have e3 : a'.eval (.tmp 104) = .agg #[.int .i64 2, .int .i64 0, .string { data := #[99] }, .int .i64 0, .slice none 0 0] := (sv_dst (l := _) rfl).symm.trans (hA.new 11 (by decide) (by kernel_rfl))
        refine GoesG.callG 14 #[.int .i64 (oy : Int), (binX ox grA grB).val r0 2, .agg #[.int .i64 2, .int .i64 0, .string { data := #[99] }, .int .i64 0, .slice none 0 0]] 2 true true rfl hg rfl ?_ (Calls.mono (lawBin_any oy (by omega) (by omega) (binX ox grA grB) grC r0 none 2 0 W hA10 (AtB_leaf (fun _ => True) W none (fits_nam (s := [99]) (by decide))).at) ?_)
        · simp [execOp, resolve, invoke, Deferred.ofValue, e1, e2, e3]
          rfl
        · rintro _ W2 ⟨r2, rfl, hAt, hE2⟩
          exact ⟨_, rfl, hE2, fun s h1 h2 => ⟨r2, h1 rfl, hAt⟩⟩
      | 13, ho =>
        obtain rfl := Option.some.inj ho
        have hg := hA.new 2 (by decide) (by kernel_rfl)
        have e1 : a'.eval (.tmp 96) = .agg #[.int .i64 4, .int .i64 oy, .string { data := #[] }, .int .i64 0, .slice q1 2 c1] := (sv_dst (l := _) rfl).symm.trans (hA.new 3 (by decide) (by kernel_rfl))
        obtain ⟨r0, h12, hA12⟩ := hA.new 12 (by decide) (by kernel_rfl)
        have e2 : a'.eval (.tmp 105) = (binX oy (binX ox grA grB) grC).val r0 2 := (sv_dst (l := _) rfl).symm.trans h12
        have hq := refEqualX_any (binX oy (binX ox grA grB) grC) (binX oy (binX ox grA grB) grC) q1 r0 c1 2 W (HAE.out.below hA.rel) hA12
        rw [HCK.out, eqX_self] at hq
        refine GoesG.callG 11 #[.agg #[.int .i64 4, .int .i64 oy, .string { data := #[] }, .int .i64 0, .slice q1 2 c1], (binX oy (binX ox grA grB) grC).val r0 2] 2 true true rfl hg rfl ?_ (Calls.mono (show Gives _ _ #[.agg #[.int .i64 4, .int .i64 oy, .string { data := #[] }, .int .i64 0, .slice q1 2 c1], (binX oy (binX ox grA grB) grC).val r0 2] W (.bool true) from hq) ?_)
        · simp [execOp, resolve, invoke, Deferred.ofValue, e1, e2]
          rfl
        · rintro _ W2 ⟨rfl, hE2⟩
          exact ⟨_, rfl, hE2, fun s h1 h2 => h1 rfl⟩
      | 14, ho =>
        obtain rfl := Option.some.inj ho
        have e1 : a'.eval (.tmp 95) = .bool true := (sv_dst (l := _) rfl).symm.trans (hA.new 2 (by decide) (by kernel_rfl))
        have e2 : a'.eval (.tmp 106) = .bool true := (sv_dst (l := _) rfl).symm.trans (hA.new 13 (by decide) (by kernel_rfl))
        refine GoesG.value (.bool true) rfl ?_ (Below.refl _ _) (fun s h1 h2 => h1 rfl)
        simp only [execOp, e1, e2]
        simp [go_sem, x0, x1, x2, x3, x4, k0, k1, k2, k3, k4, l0, l1, l2, l3, l4, m0, m1, m2, m3, m4, u0, u1, u2, v0, v1, v2]
      | 15, ho =>
        obtain rfl := Option.some.inj ho
        have e1 : a'.eval (.tmp 107) = .bool true := (sv_dst (l := _) rfl).symm.trans (hA.new 14 (by decide) (by kernel_rfl))
        refine GoesG.value (.bool true) rfl ?_ (Below.refl _ _) (fun s h1 h2 => h1 rfl)
        simp only [execOp, e1]
        simp [go_sem, x0, x1, x2, x3, x4, k0, k1, k2, k3, k4, l0, l1, l2, l3, l4, m0, m1, m2, m3, m4, u0, u1, u2, v0, v1, v2]
      | 16, ho =>
        obtain rfl := Option.some.inj ho
        have hg := hA.new 15 (by decide) (by kernel_rfl)
        refine GoesG.callG 7 #[] 15 true true rfl hg rfl ?_ (Calls.mono (KA.out W (Ext.trans HE9.out hA.rel)) ?_)
        · simp [execOp, resolve, invoke, Deferred.ofValue]
          rfl
        · rintro _ W2 ⟨rfl, hE2⟩
          exact ⟨_, rfl, hE2, fun s h1 h2 => h1 rfl⟩
      | 17, ho =>
        obtain rfl := Option.some.inj ho
        have e1 : a'.eval (.tmp 108) = .bool true := (sv_dst (l := _) rfl).symm.trans (hA.new 15 (by decide) (by kernel_rfl))
        have e2 : a'.eval (.tmp 109) = .bool true := (sv_dst (l := _) rfl).symm.trans (hA.new 16 (by decide) (by kernel_rfl))
        refine GoesG.value (.bool true) rfl ?_ (Below.refl _ _) (fun s h1 h2 => h1 rfl)
        simp only [execOp, e1, e2]
        simp [go_sem, x0, x1, x2, x3, x4, k0, k1, k2, k3, k4, l0, l1, l2, l3, l4, m0, m1, m2, m3, m4, u0, u1, u2, v0, v1, v2]
      | i + 18, ho => cases ho
    · intro vs w10 hvs hG hΦ
      obtain ⟨z0, z1, z2, z3, z4, z5, z6, z7, z8, z9, z10, z11, z12, z13, z14, z15, z16, z17, rfl⟩ : ∃ z0 z1 z2 z3 z4 z5 z6 z7 z8 z9 z10 z11 z12 z13 z14 z15 z16 z17, vs = z0 :: z1 :: z2 :: z3 :: z4 :: z5 :: z6 :: z7 :: z8 :: z9 :: z10 :: z11 :: z12 :: z13 :: z14 :: z15 :: z16 :: z17 :: [] := by
        match vs, hvs with
        | z0 :: z1 :: z2 :: z3 :: z4 :: z5 :: z6 :: z7 :: z8 :: z9 :: z10 :: z11 :: z12 :: z13 :: z14 :: z15 :: z16 :: z17 :: [], _ => exact ⟨z0, z1, z2, z3, z4, z5, z6, z7, z8, z9, z10, z11, z12, z13, z14, z15, z16, z17, rfl⟩
      have e0 : z0 = .int .i64 0 := hΦ 0 (by decide)
      subst e0
      have e1 : z1 = .bool true := hΦ 1 (by decide)
      subst e1
      have e2 : z2 = .bool true := hΦ 2 (by decide)
      subst e2
      have e3 : z3 = .agg #[.int .i64 4, .int .i64 oy, .string { data := #[] }, .int .i64 0, .slice q1 2 c1] := hΦ 3 (by decide)
      subst e3
      have e4 : z4 = .pointer (some ⟨A2, 1, none⟩) := hΦ 4 (by decide)
      subst e4
      have e5 : z5 = .int .i64 (oy : Int) := hΦ 5 (by decide)
      subst e5
      have e6 : z6 = .pointer (some ⟨A1, 1, none⟩) := hΦ 6 (by decide)
      subst e6
      have e7 : z7 = .int .i64 (ox : Int) := hΦ 7 (by decide)
      subst e7
      have e8 : z8 = .agg #[.int .i64 2, .int .i64 0, .string { data := #[97] }, .int .i64 0, .slice none 0 0] := hΦ 8 (by decide)
      subst e8
      have e9 : z9 = .agg #[.int .i64 2, .int .i64 0, .string { data := #[98] }, .int .i64 0, .slice none 0 0] := hΦ 9 (by decide)
      subst e9
      have p10 : ∃ r, z10 = (binX ox grA grB).val r 2 ∧ Ex.At w10 r (binX ox grA grB) := hΦ 10 (by decide)
      have e11 : z11 = .agg #[.int .i64 2, .int .i64 0, .string { data := #[99] }, .int .i64 0, .slice none 0 0] := hΦ 11 (by decide)
      subst e11
      have p12 : ∃ r, z12 = (binX oy (binX ox grA grB) grC).val r 2 ∧ Ex.At w10 r (binX oy (binX ox grA grB) grC) := hΦ 12 (by decide)
      have e13 : z13 = .bool true := hΦ 13 (by decide)
      subst e13
      have e14 : z14 = .bool true := hΦ 14 (by decide)
      subst e14
      have e15 : z15 = .bool true := hΦ 15 (by decide)
      subst e15
      have e16 : z16 = .bool true := hΦ 16 (by decide)
      subst e16
      have e17 : z17 = .bool true := hΦ 17 (by decide)
      subst e17
      clear hΦ hvs
      simp only [putAll, Act.put, List.setIfInBounds_toArray, List.set_cons_succ, List.set_cons_zero]
      go_wp2
      go_ret
      exact ⟨rfl, Ext.trans HE9.out hG⟩
theorem lexerGrouping_walk (a0 a1 : Int) (w : World) (h0 : (Lit.int .u8 a0).wf = true) (h1 : (Lit.int .u8 a1).wf = true) (hTab : TabW w) (hM : MaxL w) : Gives Tryd.prog 5 #[.int .u8 a0, .int .u8 a1] w (.bool true) := by
  obtain ⟨ha0, ha1⟩ := u8_bdG h0
  obtain ⟨hb0, hb1⟩ := u8_bdG h1
  obtain ⟨i, rfl⟩ : ∃ i : Nat, a0 = i := ⟨a0.toNat, by omega⟩
  obtain ⟨k, rfl⟩ : ∃ k : Nat, a1 = k := ⟨a1.toNat, by omega⟩
  obtain ⟨m, hm⟩ : ∃ m, i % 13 = m := ⟨_, rfl⟩
  obtain ⟨n, hn⟩ : ∃ n, k % 13 = n := ⟨_, rfl⟩
  have hm13 : m < 13 := by omega
  have hn13 : n < 13 := by omega
  have hmi : (i : Int).tmod 13 = (m : Int) := by rw [Int.tmod_eq_emod_of_nonneg (by omega)]; omega
  have hnk : (k : Int).tmod 13 = (n : Int) := by rw [Int.tmod_eq_emod_of_nonneg (by omega)]; omega
  obtain ⟨⟨sx, ox, px⟩, hx⟩ : ∃ x, grL[m]'(by rw [grL_len]; exact hm13) = x := ⟨_, rfl⟩
  obtain ⟨⟨sy, oy, py⟩, hy⟩ : ∃ x, grL[n]'(by rw [grL_len]; exact hn13) = x := ⟨_, rfl⟩
  by_cases h3 : px = 3
  · by_cases h4 : py = 3
    · exact grp_A i k m n (by omega) (by omega) hmi hnk hm13 hn13 sx ox px sy oy py hx hy ⟨h3, h4⟩ (by simpa using (show (px : Int) = 3 by omega)) (by simpa using (show (py : Int) = 3 by omega)) w hTab hM
    · by_cases h5 : px < py
      · exact grp_B2 i k m n (by omega) (by omega) hmi hnk hm13 hn13 sx ox px sy oy py hx hy ⟨fun h => h4 h.2, h5⟩ (by simpa using (show (px : Int) = 3 by omega)) (by simpa using (show ¬ (py : Int) = 3 by omega)) (by omega) w hTab hM
      · exact grp_C2 i k m n (by omega) (by omega) hmi hnk hm13 hn13 sx ox px sy oy py hx hy ⟨fun h => h4 h.2, h5⟩ (by simpa using (show (px : Int) = 3 by omega)) (by simpa using (show ¬ (py : Int) = 3 by omega)) (by omega) w hTab hM
  · by_cases h5 : px < py
    · exact grp_B1 i k m n (by omega) (by omega) hmi hnk hm13 hn13 sx ox px sy oy py hx hy ⟨fun h => h3 h.1, h5⟩ (by simpa using (show ¬ (px : Int) = 3 by omega)) (by omega) w hTab hM
    · exact grp_C1 i k m n (by omega) (by omega) hmi hnk hm13 hn13 sx ox px sy oy py hx hy ⟨fun h => h3 h.1, h5⟩ (by simpa using (show ¬ (px : Int) = 3 by omega)) (by omega) w hTab hM
end Go.Proofs.YtmokejjndkibhaaDoor

namespace Go.Proofs.YtmokejjndkibhaaDoor.lexerGrouping
open Go.ChangeShapes Go.WideShapes Go.ChangeAt Go.RowKit
open Go.ChangeMaps (open_string shut_string)
set_option linter.unusedVariables false

theorem own : ownKnob Tryd.prog.godebug = none := by kernel_rfl
theorem laidOut : laidOutB Tryd.prog = true := by kernel_rfl
/-- the cells of a datum of plain values -/
def flat : Nat → DataW Unit → List Value
  | _, .lit l => [l.value]
  | n + 1, .agg ps => ps.flatMap (flat n)
  | _, _ => []
/-- a world for the witness: the settled one, the listed tables holding what the text lays -/
def lay (d : DataW Unit) : Obj → Obj
  | .cells _ t frozen => .cells (flat 4 d).toArray t frozen
  | o => o
noncomputable def laidWorld (os : Os) : World :=
  { World.holding Tryd.prog os ⟨#[], #[], []⟩ with heap := ((((World.holding Tryd.prog os ⟨#[], #[], []⟩).heap.modify 2 (lay Rows.laid_math_bits_deBruijn32tab)).modify 3 (lay Rows.laid_math_bits_deBruijn64tab)).modify 1 (lay Rows.laid_internal_strconv_uint64pow10)) }
theorem laid_met (os : Os) : laidMet Tryd.prog Rows.lexerGroupingRow.laid ((laidWorld os).forCall (fun _ _ => 0) ⟨#[], #[.int .u8 0, .int .u8 0], []⟩).memory :=
  laidMet_of_run' 8 (by kernel_rfl) (by kernel_rfl)
theorem reads (os : Os) {H : Type} (enc : TypeId × Value → H) : ∃ places, DataW.whole enc Tryd.prog ((laidWorld os).forCall (fun _ _ => 0) ⟨#[], #[.int .u8 0, .int .u8 0], []⟩).memory Tryd.f5.params.toList Rows.lexerGroupingSpec.vars false (#[.int .u8 0, .int .u8 0] : Array Value).toList 8 = some ([.lit (.int .u8 0), .lit (.int .u8 0)], [], places) :=
  ⟨[], by kernel_rfl⟩
theorem shape (W : World) (h : W.ShapedOpen Tryd.prog) : MaxL W := cell_of_shapedOpen_int (zero := #[.int .i64 0]) h (of_decide_eq_true (by kernel_rfl)) (by kernel_rfl) (by kernel_rfl) (by kernel_rfl) (by kernel_rfl) Tryd.underlying3

theorem tab (W : World) (h : laidMetH Tryd.prog Rows.lexerGroupingRow.laid W) : TabW W := by
  have h1 : laidMet Tryd.prog Rows.lexerGroupingRow.laid W := h
  exact Lib.tabIs_of_head (g := 1) (t := 121) (e := 113) (n := 20) (by kernel_rfl) (by kernel_rfl) Tryd.underlying121 Tryd.underlying113 (by kernel_rfl) (by kernel_rfl) h1.tail.tail
set_option maxRecDepth 100000 in
theorem contract (H : Type) (enc : TypeId × Value → H) (W : World) (base : Nat) (args : Array Value) (ds gs : List (DataW H)) (before : List MemPlace)
    (hval0 : ∀ (j : Nat) t v, Tryd.f5.params[j]? = some t → args[j]? = some v → Value.okWide Tryd.prog W .any base t v)
    (hW : DataW.Whole enc Tryd.prog Tryd.f5.params.toList Rows.lexerGroupingSpec.vars false W args.toList ds gs before) (hz : (DataW.weightsEach Tryd.prog (Tryd.f5.params.toList ++ (OpenSpec.ofChange Rows.lexerGroupingSpec).bare.plain.varTypes Tryd.prog) (ds ++ gs)).all (· ≤ reachBytes) = true) (hL : laidMetH Tryd.prog Rows.lexerGroupingRow.laid W) (hm : MaxL W) :
    Calls Tryd.prog 5 args W fun e W' => ∃ v, e = .returned v ∧ Rows.lexerGroupingSpec.post enc Tryd.prog Tryd.f5 false true false false W args v W' := by
  have hval := hval0
  have hW' := hW
  obtain ⟨p, q, hA0, hV, rfl, hfz, hnd⟩ := hW
  have hA : DataW.TrodAll enc Tryd.prog W 0 (fun _ => true) true Tryd.f5.params.toList args.toList ds p := hA0
  rw [Tryd.params5] at hA hval
  obtain ⟨v0, vs0, d0, ds0, p0, q0, hargs, rfl, rfl, h0, r0⟩ := trodAll_cons hA
  obtain ⟨v1, vs1, d1, ds1, p1, q1, rfl, rfl, rfl, h1, r1⟩ := trodAll_cons r0
  obtain ⟨rfl, rfl, rfl⟩ := trodAll_nil r1
  obtain rfl : args = #[v0, v1] := by cases args; simp_all
  obtain ⟨rfl, rfl⟩ := trodVars_none hV
  obtain ⟨a0, rfl, rfl, rfl, w0⟩ := open_int Tryd.underlying5 (hval 0 5 v0 rfl rfl) h0
  obtain ⟨a1, rfl, rfl, rfl, w1⟩ := open_int Tryd.underlying5 (hval 1 5 v1 rfl rfl) h1
  clear hA0 hval0 hz
  simp only [List.append_nil] at hW'
  refine (lexerGrouping_walk a0 a1 W w0 w1 (tab W hL) hm).mono fun W' bel => ?_
  exact ⟨_, rfl, _, _, _, [], [], [], hW', trodAll_mk1 (shut_bool Tryd.underlying4 _), (trodAll_cons_mk (shut_int Tryd.underlying5 w0) (trodAll_cons_mk (shut_int Tryd.underlying5 w1) trodAll_mk0)), rfl, bel.frame _, fun h => by cases h⟩

set_option maxRecDepth 100000 in
theorem lifted (os : Os) (started : os.Started) (H : Type) (enc : TypeId × Value → H) (F : Stop.Interp) :
    ReturnsInHanded {} Tryd.checked os 5 .any ((OpenSpec.ofChange Rows.lexerGroupingSpec).preRow enc Tryd.prog Tryd.f5 Rows.lexerGroupingRow.domain false Rows.lexerGroupingRow.laid) (((OpenSpec.ofChange Rows.lexerGroupingSpec).at F).post enc Tryd.prog Tryd.f5 false true false false) := by
  obtain ⟨places, hx⟩ := reads os enc
  refine returnsInHanded_of_row (C := Tryd.checked) (s := OpenSpec.ofChange Rows.lexerGroupingSpec) own started (by kernel_rfl) Tryd.func5
    (witness_row_at (enc := enc) (C := Tryd.checked) false (laidWorld os) #[.int .u8 0, .int .u8 0] rfl (by kernel_rfl) (by kernel_rfl) (by kernel_rfl)
      (OpenSpec.preRow_of_cond 8 hx (by kernel_rfl) (fun k hk => by cases hk) (by kernel_rfl) (laid_met os))) ?_
  intro W base args ds gs before hval hW _ _ hz hL hsh _
  exact contract H enc W base args ds gs before hval hW hz hL (shape W hsh)

theorem said : Rows.LexerGroupingSaid :=
  OpenClaim.holds_of_cond 5 Tryd.f5 rfl rfl rfl rfl rfl rfl rfl ⟨rfl, rfl, rfl, rfl, rfl⟩ rfl rfl rfl rfl rfl (by kernel_rfl) Tryd.func5 (by kernel_rfl)
    (of_decide_eq_true (by kernel_rfl)) (by unfold Func.isWrapper; first | (rw [if_pos (by decide +kernel)]; kernel_rfl) | (rw [if_neg (by decide +kernel)]; exact ⟨rfl, rfl⟩))
    (fun os started H enc _ F => by rw [OpenClaim.pre_eq_preRow]; exact lifted os started H enc F)

theorem plain (f : FuncId) (fn : Func) (hf : Tryd.pinned.checked.prog.funcNamed "nursery/nurserylaw10.LexerGrouping" = some f) (hfn : Tryd.pinned.checked.prog.funcs[f]? = some fn) :
    true = Tryd.pinned.checked.prog.looks [] ∧ ∀ (j : Nat) t, fn.params[j]? = some t → Tryd.pinned.checked.prog.wantsStandIn t = false := by
  obtain rfl : f = 5 := Option.some.inj ((show Tryd.prog.funcNamed "nursery/nurserylaw10.LexerGrouping" = some 5 by kernel_rfl).symm.trans hf) |>.symm
  obtain rfl : fn = Tryd.f5 := (Option.some.inj (Tryd.func5.symm.trans hfn)).symm
  refine ⟨by kernel_rfl, fun j t ht => ?_⟩
  rw [Tryd.params5] at ht
  rcases j with _ | _ | j
  · obtain rfl : t = 5 := by simpa using ht.symm
    exact (show Tryd.prog.wantsStandIn 5 = false by kernel_rfl)
  · obtain rfl : t = 5 := by simpa using ht.symm
    exact (show Tryd.prog.wantsStandIn 5 = false by kernel_rfl)
  · simp at ht

/-- the statement -/
theorem proved : Rows.LexerGroupingCardSaid :=
  Claim7.holds_tied_plain_at .later [] _ _ _ _ said (fun _ h => by cases h) (by kernel_rfl) (fun _ h => by cases h) lexerGrouping_row_tie rfl ⟨rfl, rfl⟩ (by kernel_rfl) rfl plain (by kernel_rfl)
#print axioms proved
end Go.Proofs.YtmokejjndkibhaaDoor.lexerGrouping

