/- The Builder that a lister holds. -/
import Derived.Test.YtfkjokbhnblndaaGreatDoorPgP
import Derived.Test.YtfkjokbhnblndaaGreatDoorBuild
import Derived.Lib.OthersKept
namespace Go.Proofs.YtfkjokbhnblndaaGreatDoor
open Go.RowKit Go.Shelf
set_option linter.unusedVariables false
set_option linter.unusedSimpArgs false

/-- a lister of the call's own (its blocks from B on), in block b, that holds the bytes l -/
def Lst (B b : Nat) (l : List UInt8) (w : World) : Prop := Lib.IsBuilder 84 5 B b (bsV l) w
/-- what writing keeps -/
def WK (B b : Nat) (w w' : World) : Prop := Below B w w' ∧ Lib.OthersKept 5 (some b) w w'
theorem WK.refl (B b : Nat) (w : World) : WK B b w w := ⟨Below.refl _ _, Lib.OthersKept.refl _ _ _⟩
theorem WK.trans {B b : Nat} {u v w : World} (h : WK B b u v) (g : WK B b v w) : WK B b u w := ⟨h.1.trans g.1, h.2.trans g.2⟩
theorem WK.of_ext {B b : Nat} {w w' : World} (h : Ext w w') (hB : B ≤ w.heap.size) : WK B b w w' := ⟨h.below.mono hB, fun k o hk _ _ => (h.below.block k (lt_of_block hk)).trans hk⟩
theorem WK.setCell {B b : Nat} (w : World) (i : Nat) (v : Value) (hB : B ≤ b) : WK B b w (w.setCell ⟨b, i, none⟩ v) :=
  ⟨(Below.refl _ w).setCell (p := ⟨b, i, none⟩) hB _, fun k o hk hne _ => (Below.heap_setCell _ _ _ _ (fun e => hne (by rw [e]))).trans hk⟩
theorem WK.grown {B b : Nat} {w w' : World} {v : Value} {n : Nat} {xs : List Value} (hg : w.grownBy w' v.ownBlock) (ho : w.ownsRow B 5 1 v n xs) (hB : B ≤ w.heap.size) : WK B b w w' := by
  refine ⟨(Below.refl _ w).grown hg hB (fun k hk => (ho.lt k hk).1), fun k o hk _ hn => (hg.block k (lt_of_block hk) (fun e => ?_)).trans hk⟩
  rcases ho.2 with ⟨rfl, _⟩ | ⟨g, cap, cur, rfl, _, hb, _⟩
  · cases e
  · obtain rfl := Option.some.inj (show some k = some g from e)
    rw [hk] at hb
    exact hn cur _ (Option.some.inj hb)
theorem Lst.fresh (w : World) : Lst w.heap.size w.heap.size [] (w.alloc (.cells #[.pointer none, .slice none 0 0] 84)) := Lib.fresh_isBuilder _ _ _
theorem Lst.ext {B b : Nat} {l : List UInt8} {w w' : World} (h : Lst B b l w) (hb : Ext w w') : Lst B b l w' := by
  rcases h with h | h
  · exact .inl (builderAt_ext h hb)
  · exact .inr (builderAt_ext h hb)
theorem lieLst : liesAt Tryz.prog Tryz.prog.depth 84 (2 / Tryz.prog.cellsOf 84) 0 63 1 = true := by kernel_rfl

set_option maxHeartbeats 1000000 in
set_option maxRecDepth 100000 in
theorem lcc_fresh (b : Nat) (w : World) (h0 : w.cell? ⟨b, 0, none⟩ = some (.pointer none)) (hsh : w.shape? b = some (84, 2)) (hfz : w.frozen? ⟨b, 0, none⟩ = false) :
    Calls Tryz.prog 128 #[.pointer (some ⟨b, 0, none⟩)] w fun e w' => e = .returned (.tuple #[]) ∧ w' = w.setCell ⟨b, 0, none⟩ (.pointer (some ⟨b, 0, none⟩)) := by
  obtain ⟨j, hj, hjs⟩ := Option.map_eq_some_iff.1 bextra.sizeBuilder
  replace hj : Tryz.prog.info? 63 = some j := hj
  go_enter Tryz.func128, Tryz.ntmps128
  go_wp2
  rw [Lib.run_to_unsafe w ⟨b, 0, none⟩ Tryz.underlying61 Tryz.underlying211 hj (by rw [hjs]; decide) hsh (Nat.zero_lt_succ 1)]
  simp only [Result.andThen]
  rw [Oper.upon_value]
  go_wp2
  rw [run_callFunc_extern Tryz.func149 (by kernel_rfl) (by kernel_rfl) (by kernel_rfl) (e := Extern.AbiNoEscape.same) (by kernel_rfl)]
  rw [Lib.run_noEscape]
  simp only [Result.andThen]
  rw [Oper.upon_value]
  go_wp2
  rw [Lib.run_from_unsafe w ⟨b, 0, none⟩ Tryz.underlying211 Tryz.underlying61 hj hsh lieLst]
  simp only [Result.andThen]
  rw [Oper.upon_value]
  go_wp2
  go_end0
  exact ⟨rfl, rfl⟩
set_option maxHeartbeats 1000000 in
set_option maxRecDepth 100000 in
theorem lcc_used (b : Nat) (w : World) (h0 : w.cell? ⟨b, 0, none⟩ = some (.pointer (some ⟨b, 0, none⟩))) :
    Calls Tryz.prog 128 #[.pointer (some ⟨b, 0, none⟩)] w fun e w' => e = .returned (.tuple #[]) ∧ w' = w := by
  obtain ⟨j, hj, _⟩ := Option.map_eq_some_iff.1 bextra.sizeBuilder
  replace hj : Tryz.prog.info? 63 = some j := hj
  go_enter Tryz.func128, Tryz.ntmps128
  go_wp2
  rw [Lib.run_neq_ptr_same w _ Tryz.underlying61 hj]
  go_wp2
  go_end0
  exact ⟨rfl, rfl⟩
theorem lcc_any (B b : Nat) (l : List UInt8) (w : World) (h : Lst B b l w) :
    Calls Tryz.prog 128 #[.pointer (some ⟨b, 0, none⟩)] w fun e w' => e = .returned (.tuple #[]) ∧ Lib.BuilderAt 84 5 B b (.pointer (some ⟨b, 0, none⟩)) (bsV l) w' ∧ WK B b w w' := by
  rcases h with h | h
  · refine (lcc_fresh b w h.cell0 h.shape h.frozen0).mono ?_
    rintro e w' ⟨rfl, rfl⟩
    exact ⟨rfl, h.used _, WK.setCell w 0 _ h.1⟩
  · refine (lcc_used b w h.cell0).mono ?_
    rintro e w' ⟨rfl, rfl⟩
    exact ⟨rfl, h, WK.refl _ _ _⟩

set_option maxHeartbeats 1000000 in
set_option maxRecDepth 100000 in
theorem lwb_any (B b : Nat) (l : List UInt8) (c : UInt8) (n : Int) (hn : (c.toNat : Int) = n) (w : World) (h : Lst B b l w) (hlen : l.length ≤ 1000000000000) (hBw : B ≤ w.heap.size) :
    Calls Tryz.prog 92 #[.pointer (some ⟨b, 0, none⟩), .int .u8 n] w fun e w' => e = .returned .nilIface ∧ Lst B b (l ++ [c]) w' ∧ WK B b w w' := by
  subst hn
  obtain ⟨i0, hi, hz0, hz1, hz2⟩ := info_parts bextra.infoByte
  have hl5 : (bsV l).length = l.length := by simp [bsV]
  go_enter Tryz.func92, Tryz.ntmps92
  go_wp2_with fail
  refine (lcc_any B b l w h).mono ?_
  rintro e w1 ⟨rfl, ⟨hB, v, hbk, hown, hne⟩, hk1⟩
  have c1 : w1.cell? ⟨b, 1, none⟩ = some v := cell_of hbk rfl
  have hB8 : (Tryz.prog.info? 5) = some i0 := hi
  have hlt := lt_of_block hbk
  have hs1 := hk1.1.size
  have HK := Lib.hid hbk
  have HK1 := Lib.hid hk1
  have hown1 := hown.alloc (.cells #[.int .u8 (c.toNat : Int)] 5)
  have HO := Lib.hid hown1
  have HN := Lib.hid hne
  clear h hbk hown hown1 hne hk1
  go_wp2_with (at_builtin; go_loud (refine wpList_append_own _ rfl _ _ 42 rfl B 5 i0 (.int .u8 0) 1 1 Tryz.underlying42 hB8 hz0 hz1 hz2 rfl (by decide) v (bsV l).length (bsV l) rfl HO.out ⟨w1.heap.size, 0, none⟩ 1 1 [.int .u8 (c.toNat : Int)] rfl rfl (cell_one_new _ _ _) (by simp [Value.oneCell']) (by unfold maxLen; omega) (by omega) (by simp; omega) ?_))
  intro v' w2 hown' hgrow _
  have hb2 : w2.heap[b]? = some (.cells #[.pointer (some ⟨b, 0, none⟩), v] 84 (0, 0)) :=
    (hgrow.block b (by simp; omega) (fun e => HN.out e.symm)).trans ((Below.heap_alloc w1 _ b hlt).trans HK.out)
  have d1 : w2.cell? ⟨b, 1, none⟩ = some v := cell_of hb2 rfl
  have f1 : w2.frozen? ⟨b, 1, none⟩ = false := free_of hb2
  obtain ⟨g, cap, rfl⟩ : ∃ g cap, v' = .slice (some ⟨g, 0, none⟩) (l.length + 1) cap := by
    rcases hown'.2 with ⟨_, h0⟩ | ⟨g, cap, cur, hv, _⟩
    · omega
    · exact ⟨g, cap, hv⟩
  have HB2 := Lib.hid hb2
  have HO' := Lib.hid hown'
  have HG := Lib.hid (WK.grown (b := b) hgrow HO.out (by simp; omega))
  clear hb2 hown' hgrow
  go_wp2
  go_ret
  refine ⟨rfl, .inr ?_, ?_⟩
  · have e := HO'.out
    refine Lib.BuilderAt.put (T := 84) (e := 5) hB HB2.out (bs' := bsV (l ++ [c])) ?_ (by decide)
    simpa [bsV, hl5, bV] using e
  · exact ((HK1.out.trans (WK.of_ext (ext_alloc (Below.refl _ _) _) (Nat.le_trans hBw hs1))).trans HG.out).trans (WK.setCell _ 1 _ hB)

set_option maxHeartbeats 1000000 in
set_option maxRecDepth 100000 in
theorem lws_any (B b : Nat) (l s : List UInt8) (w : World) (h : Lst B b l w) (hlen : l.length + s.length ≤ 1000000000000) (hBw : B ≤ w.heap.size) :
    Calls Tryz.prog 93 #[.pointer (some ⟨b, 0, none⟩), sV s] w fun e w' => e = .returned (.tuple #[.int .i64 s.length, .nilIface]) ∧ Lst B b (l ++ s) w' ∧ WK B b w w' := by
  obtain ⟨i0, hi, hz0, hz1, hz2⟩ := info_parts bextra.infoByte
  have hl5 : (bsV l).length = l.length := by simp [bsV]
  have hs5 : (sB s).size = s.length := sB_size s
  go_enter Tryz.func93, Tryz.ntmps93
  go_wp2_with fail
  refine (lcc_any B b l w h).mono ?_
  rintro e w1 ⟨rfl, ⟨hB, v, hbk, hown, hne⟩, hk1⟩
  have c1 : w1.cell? ⟨b, 1, none⟩ = some v := cell_of hbk rfl
  have hB8 : (Tryz.prog.info? 5) = some i0 := hi
  have hlt := lt_of_block hbk
  have hs1 := hk1.1.size
  have HK := Lib.hid hbk
  have HK1 := Lib.hid hk1
  have HO := Lib.hid hown
  have HN := Lib.hid hne
  clear h hbk hown hne hk1
  go_wp2_with (at_builtin; go_loud (refine Lib.wpList_append_own_string _ rfl _ _ 42 9 rfl B 5 i0 Tryz.underlying42 Tryz.underlying9 hB8 hz0 hz1 hz2 _ _ _ rfl HO.out (sB s) rfl (by unfold maxLen; omega) (by omega) (by omega) ?_))
  intro v' w2 hown' hgrow _
  have hb2 : w2.heap[b]? = some (.cells #[.pointer (some ⟨b, 0, none⟩), v] 84 (0, 0)) :=
    (hgrow.block b (by omega) (fun e => HN.out e.symm)).trans HK.out
  have d1 : w2.cell? ⟨b, 1, none⟩ = some v := cell_of hb2 rfl
  have f1 : w2.frozen? ⟨b, 1, none⟩ = false := free_of hb2
  obtain ⟨ao, n', cap, rfl⟩ : ∃ ao n' cap, v' = .slice ao n' cap := by
    rcases hown'.2 with ⟨hv, _⟩ | ⟨g, cap, cur, hv, _⟩
    · exact ⟨_, _, _, hv⟩
    · exact ⟨_, _, _, hv⟩
  have HB2 := Lib.hid hb2
  have HO' := Lib.hid hown'
  have HG := Lib.hid (WK.grown (b := b) hgrow HO.out (by omega))
  clear hb2 hown' hgrow
  go_wp2
  go_ret2
  refine ⟨rfl, .inr ?_, ?_⟩
  · have e := HO'.out
    refine Lib.BuilderAt.put (T := 84) (e := 5) hB HB2.out (bs' := bsV (l ++ s)) ?_ (by decide)
    rw [strCells_sB, bsV_add] at e
    simpa [bsV, hl5, bV, sB_size] using e
  · exact (HK1.out.trans HG.out).trans (WK.setCell _ 1 _ hB)
end Go.Proofs.YtfkjokbhnblndaaGreatDoor
