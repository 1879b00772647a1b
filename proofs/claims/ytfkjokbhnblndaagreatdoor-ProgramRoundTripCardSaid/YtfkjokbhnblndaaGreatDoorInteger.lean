/- codec.integer, codec.fits, codec.Int: their contracts. -/
import Derived.Test.YtfkjokbhnblndaaGreatDoorDigits
import Derived.Outline
import Derived.Deep.DeepMust
import Derived.Laws.IdiomStrings
namespace Go.Proofs.YtfkjokbhnblndaaGreatDoor
open Go.RowKit Go.Shelf
set_option linter.unusedVariables false
attribute [local go_sem] Oper.semAt_some

def bV (b : UInt8) : Value := .int .u8 (b.toNat : Int)
def bsV (l : List UInt8) : List Value := l.map bV

theorem infoB : (Tryz.prog.info? 5).map (fun i => (i.zero, i.size, i.bytes)) = some (some (.int .u8 0), 1, 1) := by kernel_rfl

/-- the string of a row of bytes that the call owns -/
theorem conv_own {w : World} {base g cap n : Nat} {l : List UInt8} (hn : n = l.length) (h : w.ownsRow base 5 1 (.slice (some ⟨g, 0, none⟩) n cap) n (bsV l)) :
    (convert 42 9 (.slice (some ⟨g, 0, none⟩) n cap)).run Tryz.prog w = .ok (sV l) w := by
  subst hn
  refine run_convert_bytes_back w 42 9 5 ⟨g, 0, none⟩ cap l Tryz.underlying42 Tryz.underlying5 Tryz.underlying9 (fun j hj => ?_)
  have := h.cells (g := g) rfl j (bV l[j]) (by simp [bsV, hj])
  exact this

theorem set0 (b c : UInt8) (l : List UInt8) (z : Int) (e : (b.toNat : Int) = z) : (bsV (c :: l)).set 0 (.int .u8 z) = bsV (b :: l) := by subst e; rfl
theorem conv_set {w : World} {base g cap n : Nat} {b c : UInt8} {l : List UInt8} {z : Int} (e : (b.toNat : Int) = z) (hn : n = l.length + 1) (h : w.ownsRow base 5 1 (.slice (some ⟨g, 0, none⟩) n cap) n ((bsV (c :: l)).set 0 (.int .u8 z))) :
    (convert 42 9 (.slice (some ⟨g, 0, none⟩) n cap)).run Tryz.prog w = .ok (sV (b :: l)) w :=
  conv_own (l := b :: l) (by simp [hn]) (by rw [set0 b c l z e] at h; exact h)
theorem bsV_app (l : List UInt8) (b : UInt8) : bsV l ++ [.int .u8 (b.toNat : Int)] = bsV (l ++ [b]) := by simp [bsV, bV]
theorem sub255 (b : UInt8) : (((255 - b : UInt8).toNat : Nat) : Int) = 255 - (b.toNat : Int) := by
  have h := b.toNat_lt
  have : (255 - b : UInt8).toNat = 255 - b.toNat := by
    rw [UInt8.toNat_sub_of_le]
    · rfl
    · rw [UInt8.le_iff_toNat_le]; show b.toNat ≤ 255; omega
  omega

set_option maxRecDepth 100000 in
set_option maxHeartbeats 2000000 in
theorem integer_pos (F : Fence) (n : Nat) (h3 : F.fn 96) (h4 : F.fn 130) (h5 : F.fn 151) (hro : F.round = none) (hn : 3 ≤ n) (x : Int) (m : Nat) (hx : x = m) (hm : m < 2 ^ 62 + 1) (w : World) :
    CallsIn F n Tryz.prog 96 #[.int .i64 x] w fun e W' => e = .returned (sV (headP (mag m).length :: mag m)) ∧ Below w.heap.size w W' := by
  have h1 : 1 ≤ n := by omega
  have hML : (mag m).length ≤ 8 := mag_len m (by omega)
  obtain ⟨i0, hi, hz0, hz1, hz2⟩ := info_parts infoB
  subst hx
  have hneg : decide ((m : Int) < 0) = false := by simp
  have hneg' : ¬ (m : Int) < 0 := by omega
  refine callsIn_of_wp_marks Tryz.func96 rfl h3 ?_ hro
  simp only [Tryz.ntmps96, List.size_toArray, List.length_cons, List.length_nil, Nat.reduceAdd, Nat.reduceSub, Array.replicate_succ, Array.replicate_zero, List.push_toArray, List.append_toArray, List.nil_append, List.cons_append]
  gi_wp2_with (gi_at_call 130; refine (digits_in F (n - 1) h4 hro m _).mono ?_; rintro e w' ⟨rfl, rfl⟩)
  have bN0 := Boxed.new w 4 (.bool false)
  have own0 := World.ownsRow_lit (base := w.heap.size + 1) (e := 5) (size := 1) (w.alloc (.cells #[.bool false] 4)) #[.int .u8 0] 1 (by simp) (by unfold maxLen; omega) (by simp)
  have bO0 := Boxed.new ((w.alloc (.cells #[.bool false] 4)).alloc (.cells #[.int .u8 0] 5)) 42 (.slice (some ⟨w.heap.size + 1, 0, none⟩) 1 1)
  have bM0 := Boxed.new (((w.alloc (.cells #[.bool false] 4)).alloc (.cells #[.int .u8 0] 5)).alloc (.cells #[.slice (some ⟨w.heap.size + 1, 0, none⟩) 1 1] 42)) 3 (.int .i64 m)
  simp only [World.size_alloc] at own0 bO0 bM0
  have hB0 : Below w.heap.size w ((((w.alloc (.cells #[.bool false] 4)).alloc (.cells #[.int .u8 0] 5)).alloc (.cells #[.slice (some ⟨w.heap.size + 1, 0, none⟩) 1 1] 42)).alloc (.cells #[.int .i64 m] 3)) :=
    ((((Below.refl _ w).alloc (Nat.le_refl _) _).alloc (by simp) _).alloc (by simp; omega) _).alloc (by simp; omega) _
  refine wpIn_rangeFunc_ownG hro h1 (gf := 151) (lb := #[.pointer (some ⟨w.heap.size + 1 + 1 + 1, 0, none⟩)]) rfl h5 (enters_of Tryz.func151 (by kernel_rfl) rfl)
    (digits_stops F (n - 1) h5 hro (by omega) (w.heap.size + 1 + 1 + 1) m (by omega) _ (by simp) bM0.cell) keepAt_t (keepAt_b (by simp)) (Below.refl _ _) (fun _ => rfl)
    (fun (pre : List UInt8) W => (∃ v, Boxed W (w.heap.size + 1 + 1) 42 v ∧ W.ownsRow (w.heap.size + 1) 5 1 v (pre.length + 1) (bsV (0 :: pre)) ∧ True) ∧ (Boxed W w.heap.size 4 (.bool false) ∧ (Boxed W (w.heap.size + 1 + 1 + 1) 3 (.int .i64 m) ∧ Below w.heap.size w W)))
    (fun _ _ _ => False)
    (OwnFrom.and (Own.from (holdsRow_own (w.heap.size + 1) (w.heap.size + 1 + 1) 42 5 1 (fun (pre : List UInt8) => pre.length + 1) (fun (pre : List UInt8) => bsV (0 :: pre)) (fun pre v => True)) _) (OwnFrom.and (Own.from (boxed_own _ _ _) _) (OwnFrom.and (Own.from (boxed_own _ _ _) _) (ownFrom_below (Nat.le_refl _) (by simp; omega)))))
    (fun _ _ _ _ _ hs _ _ => hs)
    ⟨⟨_, bO0.alloc _, (own0.alloc _).alloc _, trivial⟩, ((bN0.alloc _).alloc _).alloc _, bM0, hB0⟩
    (fun y => { tmps := #[.int .i64 m, undef, .string { data := #[] }, .pointer (some ⟨w.heap.size, 0, none⟩), .pointer (some ⟨w.heap.size + 1 + 1, 0, none⟩), .int .u8 (y.toNat : Int), undef, .int .i64 m, .bool false, .bool false, undef, undef, undef, .slice (some ⟨w.heap.size + 1, 0, none⟩) 1 1, .int .i64 m, .func (.func 151) #[] #[.pointer (some ⟨w.heap.size + 1 + 1 + 1, 0, none⟩)], .int .u8 (y.toNat : Int),
      undef, undef, undef, undef, undef, undef, undef, undef, undef, undef, undef, undef, undef, undef, undef, undef, undef, undef, undef, undef, undef, undef], defers := [] }) ?assign ?body ?done ?stop
  case assign =>
    intro l y W K hK
    gi_wp2
    exact hK
  case body =>
    clear bN0 own0 bO0 bM0 hB0
    rintro l pre y W ⟨⟨v, hv, hrow, _⟩, hN, hM, hB⟩ hlt
    have hc := hv.cell
    have hcN := hN.cell
    have hy := y.toNat_lt
    have hz := hv.lt
    gi_wp2_with (gi_at_builtin; go_must (refine wpListIn_append_own _ rfl _ _ 42 rfl (w.heap.size + 1) 5 i0 (.int .u8 0) 1 1 Tryz.underlying42 hi hz0 hz1 hz2 rfl (by decide) _ _ _ rfl (hrow.alloc _) ⟨W.heap.size, 0, none⟩ 1 1 [.int .u8 (y.toNat : Int)] rfl rfl (cell_one_new _ _ _) (by simp [Value.oneCell']) (by unfold maxLen; omega) (by omega) (by simp; omega) ?_); intro v' w1 hown' hgrow _; obtain ⟨g', cap', rfl⟩ := ownsRow_succ hown'; obtain ⟨hv1, hv2, hr2, hk2, hb2⟩ := hv.appended (by decide) hrow (by omega) (by omega) hown' hgrow; have hc1 := hv1.cell; have hf1 := hv1.frozen)
    have hM2 := ((hM.alloc (.cells #[.int .u8 (y.toNat : Int)] 5)).kept hgrow (hM.not_row (by decide) hrow)).other (B' := w.heap.size + 1 + 1) (by omega) (.slice (some ⟨g', 0, none⟩) (pre.length + 1 + 1) cap')
    have hN2 : Boxed (w1.setCell ⟨w.heap.size + 1 + 1, 0, none⟩ (.slice (some ⟨g', 0, none⟩) (pre.length + 1 + 1) cap')) w.heap.size 4 (.bool false) := (hb2.block _ (by omega)).trans hN
    exact ⟨hk2.from _, hM2.cell.trans hM.cell.symm, ⟨_, hv2, by simpa [bsV, bV, sub255] using hr2, trivial⟩, hN2, hM2, hB.trans (hb2.mono (by omega))⟩
  case done =>
    rintro D ys W hD rfl ⟨⟨v, hv, hrow, _⟩, hN, hM, hB⟩ hK
    have hc := hv.cell
    have hcN := hN.cell
    obtain ⟨g, cap, rfl⟩ := ownsRow_succ hrow
    clear bN0 own0 bO0 bM0 hB0
    have hgs := hrow.lt g rfl
    have hgB : g ≠ w.heap.size + 1 + 1 := fun e => hv.not_row (by decide) hrow (by rw [e]; rfl)
    have hr0 := hrow.cellAt 0 (by omega)
    rw [show (bsV (0 :: mag m))[0]? = some (.int .u8 0) from rfl] at hr0
    have hf0 := hrow.frozenAt 0
    obtain ⟨hst, hgr⟩ := hrow.stored 0 (.int .u8 (128 + ((mag m).length : Int)))
    have hN2 := hN.other (B' := w.heap.size + 1 + 1) (by omega)
    have hcv := hv.kept hgr (hv.not_row (by decide) hrow)
    have hcN2 := (hN.kept hgr (hN.not_row (by decide) hrow)).cell
    have hc2 := hcv.cell
    have hK2 := (KeepsOthers.setCell W ⟨g, 0, none⟩ (.int .u8 (128 + ((mag m).length : Int)))).same D _ hK rfl
    have hB2 := hB.trans ((Below.refl w.heap.size W).setCell (p := ⟨g, 0, none⟩) (by simp; omega) (.int .u8 (128 + ((mag m).length : Int))))
    have hconv := conv_set (b := headP (mag m).length) (by have := headP_nat hML; omega) (by simp) hst
    gi_wp2
    refine ⟨by simp, .inl ⟨_, _, rfl, run_takeDeferred hK2, ?_⟩⟩
    exact ⟨_, results_tmp rfl _ _ _, rfl, hB2.trans (belowK_b (w := w) (Nat.le_refl _) _ D _ _ (by simp at hD; omega) hK2 rfl rfl)⟩
  case stop =>
    rintro D c pre W _ _ h _
    exact h.elim

set_option maxRecDepth 100000 in
set_option maxHeartbeats 2000000 in
theorem integer_neg (F : Fence) (n : Nat) (h3 : F.fn 96) (h4 : F.fn 130) (h5 : F.fn 151) (hro : F.round = none) (hn : 3 ≤ n) (x : Int) (m : Nat) (hx : x = -(m : Int) - 1) (hm : m < 2 ^ 62 + 1) (w : World) :
    CallsIn F n Tryz.prog 96 #[.int .i64 x] w fun e W' => e = .returned (sV (headN (mag m).length :: (mag m).map (fun b => 255 - b))) ∧ Below w.heap.size w W' := by
  have h1 : 1 ≤ n := by omega
  have hML : (mag m).length ≤ 8 := mag_len m (by omega)
  obtain ⟨i0, hi, hz0, hz1, hz2⟩ := info_parts infoB
  have hx1 : x ≤ -1 := by omega
  have hx2 : -4611686018427387905 ≤ x := by omega
  have HX := Lib.hid hx
  clear hx
  have hneg : decide (x < 0) = true := by simp; omega
  refine callsIn_of_wp_marks Tryz.func96 rfl h3 ?_ hro
  simp only [Tryz.ntmps96, List.size_toArray, List.length_cons, List.length_nil, Nat.reduceAdd, Nat.reduceSub, Array.replicate_succ, Array.replicate_zero, List.push_toArray, List.append_toArray, List.nil_append, List.cons_append]
  gi_wp2_with (gi_at_call 130; rw [show (-x - 1 : Int) = (m : Int) from by have := HX.out; omega]; refine (digits_in F (n - 1) h4 hro m _).mono ?_; rintro e w' ⟨rfl, rfl⟩)
  have bN0 := Boxed.new w 4 (.bool true)
  have own0 := World.ownsRow_lit (base := w.heap.size + 1) (e := 5) (size := 1) (w.alloc (.cells #[.bool true] 4)) #[.int .u8 0] 1 (by simp) (by unfold maxLen; omega) (by simp)
  have bO0 := Boxed.new ((w.alloc (.cells #[.bool true] 4)).alloc (.cells #[.int .u8 0] 5)) 42 (.slice (some ⟨w.heap.size + 1, 0, none⟩) 1 1)
  have bM0 := Boxed.new (((w.alloc (.cells #[.bool true] 4)).alloc (.cells #[.int .u8 0] 5)).alloc (.cells #[.slice (some ⟨w.heap.size + 1, 0, none⟩) 1 1] 42)) 3 (.int .i64 m)
  simp only [World.size_alloc] at own0 bO0 bM0
  have hB0 : Below w.heap.size w ((((w.alloc (.cells #[.bool true] 4)).alloc (.cells #[.int .u8 0] 5)).alloc (.cells #[.slice (some ⟨w.heap.size + 1, 0, none⟩) 1 1] 42)).alloc (.cells #[.int .i64 m] 3)) :=
    ((((Below.refl _ w).alloc (Nat.le_refl _) _).alloc (by simp) _).alloc (by simp; omega) _).alloc (by simp; omega) _
  refine wpIn_rangeFunc_ownG hro h1 (gf := 151) (lb := #[.pointer (some ⟨w.heap.size + 1 + 1 + 1, 0, none⟩)]) rfl h5 (enters_of Tryz.func151 (by kernel_rfl) rfl)
    (digits_stops F (n - 1) h5 hro (by omega) (w.heap.size + 1 + 1 + 1) m (by omega) _ (by simp) bM0.cell) keepAt_t (keepAt_b (by simp)) (Below.refl _ _) (fun _ => rfl)
    (fun (pre : List UInt8) W => (∃ v, Boxed W (w.heap.size + 1 + 1) 42 v ∧ W.ownsRow (w.heap.size + 1) 5 1 v (pre.length + 1) (bsV (0 :: pre.map (fun b => 255 - b))) ∧ True) ∧ (Boxed W w.heap.size 4 (.bool true) ∧ (Boxed W (w.heap.size + 1 + 1 + 1) 3 (.int .i64 m) ∧ Below w.heap.size w W)))
    (fun _ _ _ => False)
    (OwnFrom.and (Own.from (holdsRow_own (w.heap.size + 1) (w.heap.size + 1 + 1) 42 5 1 (fun (pre : List UInt8) => pre.length + 1) (fun (pre : List UInt8) => bsV (0 :: pre.map (fun b => 255 - b))) (fun pre v => True)) _) (OwnFrom.and (Own.from (boxed_own _ _ _) _) (OwnFrom.and (Own.from (boxed_own _ _ _) _) (ownFrom_below (Nat.le_refl _) (by simp; omega)))))
    (fun _ _ _ _ _ hs _ _ => hs)
    ⟨⟨_, bO0.alloc _, (own0.alloc _).alloc _, trivial⟩, ((bN0.alloc _).alloc _).alloc _, bM0, hB0⟩
    (fun y => { tmps := #[.int .i64 m, undef, .string { data := #[] }, .pointer (some ⟨w.heap.size, 0, none⟩), .pointer (some ⟨w.heap.size + 1 + 1, 0, none⟩), .int .u8 (y.toNat : Int), undef, .int .i64 x, .bool true, .bool true, .int .i64 x, .int .i64 (-x), .int .i64 m, .slice (some ⟨w.heap.size + 1, 0, none⟩) 1 1, .int .i64 m, .func (.func 151) #[] #[.pointer (some ⟨w.heap.size + 1 + 1 + 1, 0, none⟩)], .int .u8 (y.toNat : Int),
      undef, undef, undef, undef, undef, undef, undef, undef, undef, undef, undef, undef, undef, undef, undef, undef, undef, undef, undef, undef, undef, undef], defers := [] }) ?assign ?body ?done ?stop
  case assign =>
    intro l y W K hK
    gi_wp2
    exact hK
  case body =>
    clear bN0 own0 bO0 bM0 hB0
    rintro l pre y W ⟨⟨v, hv, hrow, _⟩, hN, hM, hB⟩ hlt
    have hc := hv.cell
    have hcN := hN.cell
    have hy := y.toNat_lt
    have hz := hv.lt
    gi_wp2_with (gi_at_builtin; go_must (refine wpListIn_append_own _ rfl _ _ 42 rfl (w.heap.size + 1) 5 i0 (.int .u8 0) 1 1 Tryz.underlying42 hi hz0 hz1 hz2 rfl (by decide) _ _ _ rfl (hrow.alloc _) ⟨W.heap.size, 0, none⟩ 1 1 [.int .u8 (255 - (y.toNat : Int))] rfl rfl (cell_one_new _ _ _) (by simp [Value.oneCell']) (by unfold maxLen; omega) (by omega) (by simp; omega) ?_); intro v' w1 hown' hgrow _; obtain ⟨g', cap', rfl⟩ := ownsRow_succ hown'; obtain ⟨hv1, hv2, hr2, hk2, hb2⟩ := hv.appended (by decide) hrow (by omega) (by omega) hown' hgrow; have hc1 := hv1.cell; have hf1 := hv1.frozen)
    have hM2 := ((hM.alloc (.cells #[.int .u8 (255 - (y.toNat : Int))] 5)).kept hgrow (hM.not_row (by decide) hrow)).other (B' := w.heap.size + 1 + 1) (by omega) (.slice (some ⟨g', 0, none⟩) (pre.length + 1 + 1) cap')
    have hN2 : Boxed (w1.setCell ⟨w.heap.size + 1 + 1, 0, none⟩ (.slice (some ⟨g', 0, none⟩) (pre.length + 1 + 1) cap')) w.heap.size 4 (.bool true) := (hb2.block _ (by omega)).trans hN
    exact ⟨hk2.from _, hM2.cell.trans hM.cell.symm, ⟨_, hv2, by simpa [bsV, bV, sub255] using hr2, trivial⟩, hN2, hM2, hB.trans (hb2.mono (by omega))⟩
  case done =>
    rintro D ys W hD rfl ⟨⟨v, hv, hrow, _⟩, hN, hM, hB⟩ hK
    have hc := hv.cell
    have hcN := hN.cell
    obtain ⟨g, cap, rfl⟩ := ownsRow_succ hrow
    clear bN0 own0 bO0 bM0 hB0
    have hgs := hrow.lt g rfl
    have hgB : g ≠ w.heap.size + 1 + 1 := fun e => hv.not_row (by decide) hrow (by rw [e]; rfl)
    have hr0 := hrow.cellAt 0 (by omega)
    rw [show (bsV (0 :: (mag m).map (fun b => 255 - b)))[0]? = some (.int .u8 0) from rfl] at hr0
    have hf0 := hrow.frozenAt 0
    obtain ⟨hst, hgr⟩ := hrow.stored 0 (.int .u8 (128 + ((mag m).length : Int)))
    have hN2 := hN.other (B' := w.heap.size + 1 + 1) (by omega)
    have hcv := hv.kept hgr (hv.not_row (by decide) hrow)
    have hcN2 := (hN.kept hgr (hN.not_row (by decide) hrow)).cell
    have hc2 := hcv.cell
    have hr1 := hst.cellAt 0 (by omega)
    rw [show ((bsV (0 :: (mag m).map (fun b => 255 - b))).set 0 (.int .u8 (128 + ((mag m).length : Int))))[0]? = some (.int .u8 (128 + ((mag m).length : Int))) from rfl] at hr1
    have hf1 := hst.frozenAt 0
    obtain ⟨hst2, hgr2⟩ := hst.stored 0 (.int .u8 (127 - ((mag m).length : Int)))
    have hcv2 := hcv.kept hgr2 (hcv.not_row (by decide) hst)
    have hc3 := hcv2.cell
    have hK2 := (KeepsOthers.setCell (W.setCell ⟨g, 0, none⟩ (.int .u8 (128 + ((mag m).length : Int)))) ⟨g, 0, none⟩ (.int .u8 (127 - ((mag m).length : Int)))).same D _ ((KeepsOthers.setCell W ⟨g, 0, none⟩ (.int .u8 (128 + ((mag m).length : Int)))).same D _ hK rfl) rfl
    have hB2 := (hB.trans ((Below.refl w.heap.size W).setCell (p := ⟨g, 0, none⟩) (by simp; omega) (.int .u8 (128 + ((mag m).length : Int))))).setCell (p := ⟨g, 0, none⟩) (by simp; omega) (.int .u8 (127 - ((mag m).length : Int)))
    have hset : ((bsV (0 :: (mag m).map (fun b => 255 - b))).set 0 (.int .u8 (128 + ((mag m).length : Int)))) = bsV (headP (mag m).length :: (mag m).map (fun b => 255 - b)) := set0 _ _ _ _ (by have := headP_nat hML; omega)
    rw [hset] at hst2
    have hconv := conv_set (b := headN (mag m).length) (by have := headN_nat hML; omega) (by simp) hst2
    clear hset
    gi_wp2
    refine ⟨by simp, .inl ⟨_, _, rfl, run_takeDeferred hK2, ?_⟩⟩
    exact ⟨_, results_tmp rfl _ _ _, rfl, hB2.trans (belowK_b (w := w) (Nat.le_refl _) _ D _ _ (by simp at hD; omega) hK2 rfl rfl)⟩
  case stop =>
    rintro D c pre W _ _ h _
    exact h.elim

end Go.Proofs.YtfkjokbhnblndaaGreatDoor
