/- awake: the example of the chapter. -/
import Derived.Test.YtfkjokbhnblndaaDoorPgX
namespace Go.Proofs.YtfkjokbhnblndaaDoor
open Go.RowKit Go.Shelf
set_option linter.unusedVariables false
set_option linter.unusedSimpArgs false

def pgA : Pg := ⟨[⟨[109, 97, 105, 110], 0, 1, 0, false, [⟨1, 0, 5, 0, []⟩, ⟨41, 0, 0, 0, []⟩]⟩], [], []⟩
theorem ck_pgA : ckPg pgA = 0 := by decide
theorem dec1 (n : Int) (h0 : 0 ≤ n) (h : n < 10) : Lib.itoa n = [UInt8.ofNat (48 + n.toNat)] := by
  unfold Lib.itoa
  rw [if_neg (by omega)]
  unfold Lib.decDigits
  rw [dif_pos (by omega)]
theorem text_pgA : textR pgA = ([102, 117, 110, 99, 32, 109, 97, 105, 110, 32, 48, 32, 49, 32, 48, 10, 48, 32, 99, 111, 110, 115, 116, 32, 48, 32, 53, 32, 48, 10, 49, 32, 101, 109, 105, 116, 32, 48, 32, 48, 32, 48, 10], 0) := by
  unfold textR
  rw [if_pos ck_pgA]
  have h0 := dec1 0 (by omega) (by omega)
  have h1 := dec1 1 (by omega) (by omega)
  have h5 := dec1 5 (by omega) (by omega)
  simp [textP, pgA, catN, fnTxt, insTxt, fnAt, insAt, lineB, wdsB, fnWd, insWd, Wd.txt, pick2, h0, h1, h5, opName, nameL, vaTxt, obTxt]
theorem wf_pgA : pgA.wf := by
  refine ⟨by decide, by decide, by decide, ?_, ?_, ?_⟩
  · intro x hx
    obtain rfl := List.mem_singleton.1 hx
    refine ⟨by decide, ⟨by decide, by decide⟩, ⟨by decide, by decide⟩, ⟨by decide, by decide⟩, by decide, ?_⟩
    intro c hc
    simp only [List.mem_cons, List.not_mem_nil, or_false] at hc
    rcases hc with rfl | rfl <;> exact ⟨⟨by decide, by decide⟩, ⟨by decide, by decide⟩, ⟨by decide, by decide⟩, ⟨by decide, by decide⟩, by decide, fun n hn => by cases hn⟩
  · intro x hx; cases hx
  · intro x hx; cases hx
theorem at_pgA (w : World) : PgAt (((w.alloc (.cells #[.int .i64 1, .int .i64 0, .int .i64 5, .int .i64 0, .slice none 0 0, .int .i64 41, .int .i64 0, .int .i64 0, .int .i64 0, .slice none 0 0] 56)).alloc (.cells #[.string { data := #[109, 97, 105, 110] }, .int .i64 0, .int .i64 1, .int .i64 0, .bool false, .slice (some ⟨w.heap.size, 0, none⟩) 2 2] 44)).alloc (.cells #[.slice (some ⟨w.heap.size + 1, 0, none⟩) 1 1, .slice none 0 0, .slice none 0 0] 26)) pgA ⟨some ⟨w.heap.size + 1, 0, none⟩, 1, none, 0, none, 0⟩ := by
  have h1 := alloc_here w (.cells #[.int .i64 1, .int .i64 0, .int .i64 5, .int .i64 0, .slice none 0 0, .int .i64 41, .int .i64 0, .int .i64 0, .int .i64 0, .slice none 0 0] 56)
  have h2 := alloc_here (w.alloc (.cells #[.int .i64 1, .int .i64 0, .int .i64 5, .int .i64 0, .slice none 0 0, .int .i64 41, .int .i64 0, .int .i64 0, .int .i64 0, .slice none 0 0] 56)) (.cells #[.string { data := #[109, 97, 105, 110] }, .int .i64 0, .int .i64 1, .int .i64 0, .bool false, .slice (some ⟨w.heap.size, 0, none⟩) 2 2] 44)
  replace h1 := (Below.heap_alloc _ (.cells #[.string { data := #[109, 97, 105, 110] }, .int .i64 0, .int .i64 1, .int .i64 0, .bool false, .slice (some ⟨w.heap.size, 0, none⟩) 2 2] 44) _ (lt_of_block h1)).trans h1
  replace h1 := (Below.heap_alloc _ (.cells #[.slice (some ⟨w.heap.size + 1, 0, none⟩) 1 1, .slice none 0 0, .slice none 0 0] 26) _ (lt_of_block h1)).trans h1
  replace h2 := (Below.heap_alloc _ (.cells #[.slice (some ⟨w.heap.size + 1, 0, none⟩) 1 1, .slice none 0 0, .slice none 0 0] 26) _ (lt_of_block h2)).trans h2
  simp only [World.size_alloc] at h2
  refine ⟨?_, ?_, ?_, wf_pgA, Nat.le_refl _, Nat.le_refl _, Nat.le_refl _⟩
  · intro i hi
    obtain rfl : i = 0 := by simp [pgA] at hi; omega
    refine ⟨_, _, _, _, rfl, ⟨cell_of h2 rfl, cell_of h2 rfl, cell_of h2 rfl, cell_of h2 rfl, cell_of h2 rfl, cell_of h2 rfl⟩, ?_⟩
    intro k hk
    have hk2 : k = 0 ∨ k = 1 := by simp [pgA] at hk; omega
    rcases hk2 with rfl | rfl
    · exact ⟨_, _, _, _, rfl, ⟨cell_of h1 rfl, cell_of h1 rfl, cell_of h1 rfl, cell_of h1 rfl, cell_of h1 rfl⟩, fun i hi => absurd hi (Nat.not_lt_zero _), Nat.le_refl _⟩
    · exact ⟨_, _, _, _, rfl, ⟨cell_of h1 rfl, cell_of h1 rfl, cell_of h1 rfl, cell_of h1 rfl, cell_of h1 rfl⟩, fun i hi => absurd hi (Nat.not_lt_zero _), Nat.le_refl _⟩
  · intro i hi; exact absurd hi (Nat.not_lt_zero _)
  · intro i hi; exact absurd hi (Nat.not_lt_zero _)
set_option maxRecDepth 100000 in
set_option maxHeartbeats 2000000 in
theorem awake_any (w : World) (hT : TabW w) : Gives Tryd.prog 8 #[] w (.bool true) := by
  unfold Gives
  obtain ⟨wk, hwk⟩ : ∃ W, W = (((w.alloc (.cells #[.int .i64 1, .int .i64 0, .int .i64 5, .int .i64 0, .slice none 0 0, .int .i64 41, .int .i64 0, .int .i64 0, .int .i64 0, .slice none 0 0] 56)).alloc (.cells #[.string { data := #[109, 97, 105, 110] }, .int .i64 0, .int .i64 1, .int .i64 0, .bool false, .slice (some ⟨w.heap.size, 0, none⟩) 2 2] 44)).alloc (.cells #[.slice (some ⟨w.heap.size + 1, 0, none⟩) 1 1, .slice none 0 0, .slice none 0 0] 26)) := ⟨_, rfl⟩
  have HW := Lib.hid (show Ext w wk from by rw [hwk]; exact ext_alloc (ext_alloc (ext_alloc (Below.refl _ _) _) _) _)
  have HP := Lib.hid (show PgAt wk pgA ⟨some ⟨w.heap.size + 1, 0, none⟩, 1, none, 0, none, 0⟩ from by rw [hwk]; exact at_pgA w)
  have HB := Lib.hid (show wk.heap[w.heap.size + 2]? = some (.cells #[.slice (some ⟨w.heap.size + 1, 0, none⟩) 1 1, .slice none 0 0, .slice none 0 0] 26 (0, 0)) from by
    rw [hwk]
    have h := alloc_here ((w.alloc (.cells #[.int .i64 1, .int .i64 0, .int .i64 5, .int .i64 0, .slice none 0 0, .int .i64 41, .int .i64 0, .int .i64 0, .int .i64 0, .slice none 0 0] 56)).alloc (.cells #[.string { data := #[109, 97, 105, 110] }, .int .i64 0, .int .i64 1, .int .i64 0, .bool false, .slice (some ⟨w.heap.size, 0, none⟩) 2 2] 44)) (.cells #[.slice (some ⟨w.heap.size + 1, 0, none⟩) 1 1, .slice none 0 0, .slice none 0 0] 26)
    simpa using h)
  have HBW := Lib.hid (fun W (hW : Ext wk W) => (hW.below.block _ (lt_of_block HB.out)).trans HB.out)
  have KT := Lib.hid (fun W (hW : Ext wk W) => Text_any pgA _ W (HP.out.ext hW) (hT.below (Ext.trans HW.out hW)))
  rw [text_pgA] at KT
  have KC := Lib.hid (fun W (hW : Ext wk W) => Check_any pgA _ W (HP.out.ext hW))
  rw [ck_pgA] at KC
  dsimp only [PV, pgA, List.length_cons, List.length_nil] at KT KC
  clear hT
  go_enter Tryd.func8, Tryd.ntmps8
  go_wp2_with fail
  rw [← hwk]
  clear hwk
  refine (KT.out wk (Below.refl _ _)).mono ?_
  intro w1 hE1
  have HE1 := Lib.hid hE1
  clear hE1
  have k0 := HBW.out w1 HE1.out
  have c0 : w1.cell? ⟨w.heap.size + 2, 0, none⟩ = some (.slice (some ⟨w.heap.size + 1, 0, none⟩) 1 1) := cell_of k0 rfl
  have c1 : w1.cell? ⟨w.heap.size + 2, 1, none⟩ = some (.slice none 0 0) := cell_of k0 rfl
  have c2 : w1.cell? ⟨w.heap.size + 2, 2, none⟩ = some (.slice none 0 0) := cell_of k0 rfl
  clear k0
  go_wp2_with fail
  clear c0 c1 c2
  refine (KC.out w1 HE1.out).mono ?_
  intro w2 hE2
  have HE2 := Lib.hid (Ext.trans HE1.out hE2)
  clear hE2
  go_wp2
  go_ret
  exact ⟨by first | rfl | decide, Ext.trans HW.out HE2.out⟩
end Go.Proofs.YtfkjokbhnblndaaDoor
