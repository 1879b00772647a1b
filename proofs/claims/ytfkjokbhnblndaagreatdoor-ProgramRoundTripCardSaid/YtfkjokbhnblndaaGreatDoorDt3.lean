/- A program as a writer writes it: plain. The Builder that a writer holds. Printed out of PgS, PgS2. The writer's methods. The writer behind the interface: booleans. The writer: an instruction, an object, a variable. Printed by mk_wrc.py. The writer: lists of anything. Printed by mk_wrd.py. The writer: a function. Printed by mk_wre.py. The writer: a program; Encode. -/
import Derived.Test.YtfkjokbhnblndaaGreatDoorPgA
import Derived.Test.YtfkjokbhnblndaaGreatDoorDt2
import Derived.Test.YtfkjokbhnblndaaGreatDoorPgS2
import Derived.Test.YtfkjokbhnblndaaGreatDoorDt1
import Derived.Test.YtfkjokbhnblndaaGreatDoorRt
import Derived.Test.YtfkjokbhnblndaaGreatDoorPgV

namespace Go.Proofs.YtfkjokbhnblndaaGreatDoor
open Go.RowKit
set_option linter.unusedVariables false
set_option linter.unusedSimpArgs false

/-- what the writer writes for a number -/
def nuS (n : Int) : List UInt8 := if -4611686018427387904 ≤ n ∧ n ≤ 4611686018427387904 then enc n else []
theorem nuS_len (n : Int) : (nuS n).length ≤ 9 := by
  unfold nuS
  split
  · rename_i h; exact enc_len n h.1 h.2
  · simp
def boN (b : Bool) : Int := if b = true then 1 else 0
/-- for a list: its length, and its elements -/
def seqS {α : Type} (f : α → List UInt8) (l : List α) : List UInt8 := nuS l.length ++ l.flatMap f
def insS (x : Ins) : List UInt8 := nuS x.op ++ (nuS x.a ++ (nuS x.b ++ (nuS x.c ++ lsS x.args)))
def fnS (x : Fn) : List UInt8 := txS x.name ++ (nuS x.params ++ (nuS x.regs ++ (nuS x.prio ++ (nuS (boN x.cl) ++ seqS insS x.code))))
def obS (x : Ob) : List UInt8 := txS x.name ++ (nuS x.kind ++ (nuS x.size ++ nuS x.oth))
def vaS (x : Va) : List UInt8 := txS x.name ++ (nuS x.init ++ nuS (boN x.atomic))
def pgS (p : Pg) : List UInt8 := txS [78, 80, 49] ++ (seqS fnS p.fs ++ (seqS obS p.os ++ seqS vaS p.vs))
theorem flat_take_succ {α : Type} (f : α → List UInt8) {l : List α} {i : Nat} (h : i < l.length) : (l.take i).flatMap f ++ f l[i] = (l.take (i + 1)).flatMap f := by
  rw [List.take_succ_eq_append_getElem h, List.flatMap_append, List.flatMap_cons, List.flatMap_nil, List.append_nil]
theorem flat_take_le {α : Type} (f : α → List UInt8) (l : List α) (i : Nat) : ((l.take i).flatMap f).length ≤ (l.flatMap f).length := by
  conv => rhs; rw [← List.take_append_drop i l]
  rw [List.flatMap_append, List.length_append]; omega
/-- lists that are written have at most so many bytes -/
theorem lsS_len (t : List Int) : (lsS t).length ≤ 200000 := by
  unfold lsS
  split
  · simp
  · split
    · rename_i h1 h2
      have := encs_len t h2
      unfold encL
      simp only [List.length_append, List.length_cons, List.length_nil]
      omega
    · simp
theorem txS_len (t : List UInt8) : (txS t).length ≤ 200002 := by
  unfold txS encT
  split
  · simp
  · have := (esc_len t).2; simp only [List.length_append, List.length_cons, List.length_nil]; omega
theorem seqS_len {α : Type} (f : α → List UInt8) (K : Nat) : ∀ (l : List α), (∀ x ∈ l, (f x).length ≤ K) → (l.flatMap f).length ≤ l.length * K
  | [], _ => by simp
  | x :: l, h => by
    have h1 := seqS_len f K l (fun y hy => h y (List.mem_cons_of_mem _ hy))
    have h2 := h x (List.mem_cons_self ..)
    rw [List.flatMap_cons, List.length_append, List.length_cons, Nat.add_mul]; omega
theorem insS_len (x : Ins) : (insS x).length ≤ 200036 := by
  have := nuS_len x.op; have := nuS_len x.a; have := nuS_len x.b; have := nuS_len x.c; have := lsS_len x.args
  unfold insS; simp only [List.length_append]; omega
end Go.Proofs.YtfkjokbhnblndaaGreatDoor

namespace Go.Proofs.YtfkjokbhnblndaaGreatDoor
open Go.RowKit Go.Shelf
set_option linter.unusedVariables false
set_option linter.unusedSimpArgs false

/-- a writer of the call's own (its blocks from B on), in block b, that holds the bytes l -/
def Wrt (B b : Nat) (l : List UInt8) (w : World) : Prop := Lib.IsBuilder 65 5 B b (bsV l) w
theorem Wrt.fresh (w : World) : Wrt w.heap.size w.heap.size [] (w.alloc (.cells #[.pointer none, .slice none 0 0] 65)) := Lib.fresh_isBuilder _ _ _
theorem Wrt.ext {B b : Nat} {l : List UInt8} {w w' : World} (h : Wrt B b l w) (hb : Ext w w') : Wrt B b l w' := by
  rcases h with h | h
  · exact .inl (builderAt_ext h hb)
  · exact .inr (builderAt_ext h hb)
theorem lieWrt : liesAt Tryz.prog Tryz.prog.depth 65 (2 / Tryz.prog.cellsOf 65) 0 63 1 = true := by kernel_rfl

set_option maxHeartbeats 1000000 in
set_option maxRecDepth 100000 in
theorem wcc_fresh (b : Nat) (w : World) (h0 : w.cell? ⟨b, 0, none⟩ = some (.pointer none)) (hsh : w.shape? b = some (65, 2)) (hfz : w.frozen? ⟨b, 0, none⟩ = false) :
    Calls Tryz.prog 128 #[.pointer (some ⟨b, 0, none⟩)] w fun e w' => e = .returned (.tuple #[]) ∧ w' = w.setCell ⟨b, 0, none⟩ (.pointer (some ⟨b, 0, none⟩)) := by
  obtain ⟨j, hj, hjs⟩ := Option.map_eq_some_iff.1 bextra.sizeBuilder
  replace hj : Tryz.prog.info? 63 = some j := hj
  go_enter Tryz.func128, Tryz.ntmps128
  go_wp2
  rw [Lib.run_to_unsafe w ⟨b, 0, none⟩ Tryz.underlying61 Tryz.underlying211 hj (by rw [hjs]; decide) hsh (Nat.zero_lt_succ 1)]
  simp only [Result.andThen]
  rw [Oper.upon_value]
  go_wp2
  rw [run_callFunc_extern Tryz.func149 (by kernel_rfl) (by kernel_rfl) (by kernel_rfl) (e := Extern.AbiNoEscape.same) (by kernel_rfl)]
  rw [Lib.run_noEscape]
  simp only [Result.andThen]
  rw [Oper.upon_value]
  go_wp2
  rw [Lib.run_from_unsafe w ⟨b, 0, none⟩ Tryz.underlying211 Tryz.underlying61 hj hsh lieWrt]
  simp only [Result.andThen]
  rw [Oper.upon_value]
  go_wp2
  go_end0
  exact ⟨rfl, rfl⟩
set_option maxHeartbeats 1000000 in
set_option maxRecDepth 100000 in
theorem wcc_used (b : Nat) (w : World) (h0 : w.cell? ⟨b, 0, none⟩ = some (.pointer (some ⟨b, 0, none⟩))) :
    Calls Tryz.prog 128 #[.pointer (some ⟨b, 0, none⟩)] w fun e w' => e = .returned (.tuple #[]) ∧ w' = w := by
  obtain ⟨j, hj, _⟩ := Option.map_eq_some_iff.1 bextra.sizeBuilder
  replace hj : Tryz.prog.info? 63 = some j := hj
  go_enter Tryz.func128, Tryz.ntmps128
  go_wp2
  rw [Lib.run_neq_ptr_same w _ Tryz.underlying61 hj]
  go_wp2
  go_end0
  exact ⟨rfl, rfl⟩
theorem wcc_any (B b : Nat) (l : List UInt8) (w : World) (h : Wrt B b l w) :
    Calls Tryz.prog 128 #[.pointer (some ⟨b, 0, none⟩)] w fun e w' => e = .returned (.tuple #[]) ∧ Lib.BuilderAt 65 5 B b (.pointer (some ⟨b, 0, none⟩)) (bsV l) w' ∧ WK B b w w' := by
  rcases h with h | h
  · refine (wcc_fresh b w h.cell0 h.shape h.frozen0).mono ?_
    rintro e w' ⟨rfl, rfl⟩
    exact ⟨rfl, h.used _, WK.setCell w 0 _ h.1⟩
  · refine (wcc_used b w h.cell0).mono ?_
    rintro e w' ⟨rfl, rfl⟩
    exact ⟨rfl, h, WK.refl _ _ _⟩

set_option maxHeartbeats 1000000 in
set_option maxRecDepth 100000 in
theorem wws_any (B b : Nat) (l s : List UInt8) (w : World) (h : Wrt B b l w) (hlen : l.length + s.length ≤ 1000000000000) (hBw : B ≤ w.heap.size) :
    Calls Tryz.prog 93 #[.pointer (some ⟨b, 0, none⟩), sV s] w fun e w' => e = .returned (.tuple #[.int .i64 s.length, .nilIface]) ∧ Wrt B b (l ++ s) w' ∧ WK B b w w' := by
  obtain ⟨i0, hi, hz0, hz1, hz2⟩ := info_parts bextra.infoByte
  have hl5 : (bsV l).length = l.length := by simp [bsV]
  have hs5 : (sB s).size = s.length := sB_size s
  go_enter Tryz.func93, Tryz.ntmps93
  go_wp2_with fail
  refine (wcc_any B b l w h).mono ?_
  rintro e w1 ⟨rfl, ⟨hB, v, hbk, hown, hne⟩, hk1⟩
  have c1 : w1.cell? ⟨b, 1, none⟩ = some v := cell_of hbk rfl
  have hB8 : (Tryz.prog.info? 5) = some i0 := hi
  have hlt := lt_of_block hbk
  have hs1 := hk1.1.size
  have HK := Lib.hid hbk
  have HK1 := Lib.hid hk1
  have HO := Lib.hid hown
  have HN := Lib.hid hne
  clear h hbk hown hne hk1
  go_wp2_with (at_builtin; go_loud (refine Lib.wpList_append_own_string _ rfl _ _ 42 9 rfl B 5 i0 Tryz.underlying42 Tryz.underlying9 hB8 hz0 hz1 hz2 _ _ _ rfl HO.out (sB s) rfl (by unfold maxLen; omega) (by omega) (by omega) ?_))
  intro v' w2 hown' hgrow _
  have hb2 : w2.heap[b]? = some (.cells #[.pointer (some ⟨b, 0, none⟩), v] 65 (0, 0)) :=
    (hgrow.block b (by omega) (fun e => HN.out e.symm)).trans HK.out
  have d1 : w2.cell? ⟨b, 1, none⟩ = some v := cell_of hb2 rfl
  have f1 : w2.frozen? ⟨b, 1, none⟩ = false := free_of hb2
  obtain ⟨ao, n', cap, rfl⟩ : ∃ ao n' cap, v' = .slice ao n' cap := by
    rcases hown'.2 with ⟨hv, _⟩ | ⟨g, cap, cur, hv, _⟩
    · exact ⟨_, _, _, hv⟩
    · exact ⟨_, _, _, hv⟩
  have HB2 := Lib.hid hb2
  have HO' := Lib.hid hown'
  have HG := Lib.hid (WK.grown (b := b) hgrow HO.out (by omega))
  clear hb2 hown' hgrow
  go_wp2
  go_ret2
  refine ⟨rfl, .inr ?_, ?_⟩
  · have e := HO'.out
    refine Lib.BuilderAt.put (T := 65) (e := 5) hB HB2.out (bs' := bsV (l ++ s)) ?_ (by decide)
    rw [strCells_sB, bsV_add] at e
    simpa [bsV, hl5, bV, sB_size] using e
  · exact (HK1.out.trans HG.out).trans (WK.setCell _ 1 _ hB)
set_option maxHeartbeats 1000000 in
set_option maxRecDepth 100000 in
theorem wstr_any (B b : Nat) (l : List UInt8) (w : World) (h : Wrt B b l w) (h0 : l ≠ []) :
    Calls Tryz.prog 28 #[.pointer (some ⟨b, 0, none⟩)] w fun e w' => e = .returned (sV l) ∧ Below B w w' := by
  obtain ⟨p, hB, v, hbk, hown, hne⟩ : ∃ p, Lib.BuilderAt 65 5 B b p (Lib.byteCells l) w := by
    rcases h with h | h
    · exact ⟨_, h⟩
    · exact ⟨_, h⟩
  have hl0 : l.length ≠ 0 := by simpa using h0
  rw [Lib.byteCells_length] at hown
  obtain ⟨g, cap, cur, rfl, hbg, hg, hnc, hcm, hcs, htake⟩ : ∃ g cap cur, v = .slice (some ⟨g, 0, none⟩) l.length cap ∧ B ≤ g ∧ w.heap[g]? = some (.cells cur 5 (0, 0)) ∧ l.length ≤ cap ∧ cap ≤ maxLen ∧ cur.size = cap * 1 ∧ cur.toList.take (l.length * 1) = Lib.byteCells l := by
    rcases hown.2 with ⟨_, hz⟩ | ⟨g, cap, cur, hv, r⟩
    · exact absurd hz hl0
    · exact ⟨g, cap, cur, hv, r⟩
  have c1 : w.drew.cell? ⟨b, 1, none⟩ = some (.slice (some ⟨g, 0, none⟩) l.length cap) := by
    have : w.drew.heap[b]? = some (.cells #[p, .slice (some ⟨g, 0, none⟩) l.length cap] 65 (0, 0)) := hbk
    rw [Lib.cell_of_heap this]; rfl
  have hSD : (Builtin.unsafeSliceData_ #[42] 122 #[.slice (some ⟨g, 0, none⟩) l.length cap]).run Tryz.prog w.drew = .ok (.pointer (some ⟨g, 0, none⟩)) w.drew :=
    Lib.run_unsafeSliceData_row _ _ _ _ _ _ (by omega)
  have hUS : (Builtin.unsafeString_ #[122, 3] 9 #[.pointer (some ⟨g, 0, none⟩), .int .i64 l.length]).run Tryz.prog w.drew = .ok (sV l) (w.drew.freeze ⟨g, 0, none⟩ l.length) := by
    refine Lib.run_unsafeString_row w.drew 122 3 9 5 Tryz.underlying122 bextra.cellsByte g cur.size (by have hg' : w.drew.heap[g]? = some (.cells cur 5 (0, 0)) := hg; simp [World.shape?, hg']) l h0 (by omega) (by unfold maxLen at hcm; omega) ?_
    intro j x hx
    have := hown.cells (g := g) rfl j (.int .u8 x.toNat) (by simp [Lib.byteCells, hx])
    exact this
  have mixed : Tryz.prog.follows .mixedOrders = true := by kernel_rfl
  go_enter Tryz.func28, Tryz.ntmps28
  go_wp2
  go_region_o
  all_goals (go_wp2; go_ret; exact ⟨rfl, Lib.below_freeze (Below.drew (Below.refl B w)) (p := ⟨g, 0, none⟩) hbg _⟩)
end Go.Proofs.YtfkjokbhnblndaaGreatDoor

namespace Go.Proofs.YtfkjokbhnblndaaGreatDoor
open Go.RowKit Go.Shelf
set_option linter.unusedVariables false
set_option linter.unusedSimpArgs false

/-- the library's variable of the longest string that it searches holds an integer -/
def MaxL (w : World) : Prop := ∃ m, w.cell? ⟨3, 0, none⟩ = some (.int .i64 m)
theorem MaxL.lt {w : World} (h : MaxL w) : 3 < w.heap.size := by obtain ⟨m, h⟩ := h; exact cell_lt h
theorem MaxL.below {w w' : World} {B : Nat} (h : MaxL w) (hB : 3 < B) (hb : Below B w w') : MaxL w' := by
  obtain ⟨m, h⟩ := h
  exact ⟨m, (hb.cell (p := ⟨3, 0, none⟩) hB).trans h⟩

theorem cText_any (l : List UInt8) (w : World) (hl : l.length ≤ 1000000) (hm : MaxL w) : Gives Tryz.prog 186 #[sV l] w (.tuple #[sV (txS l), .int .i64 (txE l)]) := by
  unfold Gives
  by_cases h2 : 100000 < l.length
  · have HS := Lib.hid (show txS l = [] by unfold txS; rw [if_pos h2])
    have HE := Lib.hid (show txE l = 4 by unfold txE; rw [if_pos h2])
    have d : decide ((100000 : Int) < ((l.length : Nat) : Int)) = true := by simp; omega
    clear hm
    go_enter Tryz.func186, Tryz.ntmps186
    go_wp2
    go_ret2
    exact ⟨by rw [HS.out, HE.out]; rfl, Below.refl _ _⟩
  · have HS := Lib.hid (show txS l = esc l ++ [0, 1] by unfold txS encT; rw [if_neg h2])
    have HE := Lib.hid (show txE l = 0 by unfold txE; rw [if_neg h2])
    have d : decide ((100000 : Int) < ((l.length : Nat) : Int)) = false := by simp; omega
    obtain ⟨m, hm⟩ := hm
    have hcb : Go.Lib.countB (sB l) (sB [0]) ≤ l.length := by
      show Go.Lib.count (sB l).data.toList (sB [0]).data.toList ≤ _
      rw [sB_data, sB_data]; exact count_le _ _
    have C := Tryz.strings_ReplaceAll (sB l) (sB [0]) (sB [0, 255]) m w (by rw [sB_size]; omega) hm (by decide) (by rw [sB_size, sB_size]; simp only [List.length_cons, List.length_nil]; omega)
    rw [sB_data, sB_data, sB_data, replaceAll_esc] at C
    have C := Lib.hid C
    clear hm hcb
    have hel := (esc_len l).2
    have hel2 : (esc l).length ≤ 200000 := by omega
    clear hel
    generalize esc l = r at *
    go_enter Tryz.func186, Tryz.ntmps186
    go_wp2_with fail
    refine C.out.mono ?_
    rintro e w1 ⟨rfl, hB⟩
    have hr : (⟨r.toArray⟩ : ByteArray) = sB r := rfl
    rw [hr]
    clear hr
    go_wp2
    go_ret2
    have HS2 : sV (txS l) = .string (sB r ++ ⟨#[0, 1]⟩) := by rw [HS.out]; show Value.string _ = _; rw [← sB_app]; rfl
    exact ⟨by rw [HS2, HE.out]; rfl, hB⟩

theorem IntS_any (n : Int) (w : World) (h1 : -9223372036854775808 ≤ n) (h2 : n ≤ 9223372036854775807) : ∃ E, Gives Tryz.prog 59 #[.int .i64 n] w (.tuple #[sV (nuS n), .int .i64 E]) := by
  unfold nuS
  by_cases h : -4611686018427387904 ≤ n ∧ n ≤ 4611686018427387904
  · rw [if_pos h]
    exact ⟨0, Int_yes n w h.1 h.2⟩
  · rw [if_neg h]
    exact ⟨2, Int_no n w (by simp [Lit.wf, IntKind.min, IntKind.max, IntKind.signed, IntKind.bits]; omega) (by omega)⟩
set_option maxRecDepth 100000 in
set_option maxHeartbeats 1000000 in
theorem wnum_any (B b : Nat) (l : List UInt8) (a : Addr) (n : Int) (w : World) (h : Wrt B b l w) (hn : w.cell? a = some (.int .i64 n)) (hz : a.spot = none) (h1 : -9223372036854775808 ≤ n) (h2 : n ≤ 9223372036854775807) (hlen : l.length ≤ 100000000000) (hBw : B ≤ w.heap.size) :
    Calls Tryz.prog 182 #[.pointer (some ⟨b, 0, none⟩), .pointer (some a)] w fun e w' => e = .returned (.tuple #[]) ∧ Wrt B b (l ++ nuS n) w' ∧ WK B b w w' := by
  obtain ⟨E, hE⟩ := IntS_any n w h1 h2
  have KI := Lib.hid hE
  have KW := Lib.hid (fun W (h : Wrt B b l W) (hB : B ≤ W.heap.size) => wws_any B b l (nuS n) W h (by have := nuS_len n; omega) hB)
  have HW := Lib.hid h
  clear hE h
  generalize nuS n = s at *
  obtain ⟨ab, ao, asp⟩ := a
  simp only at hz
  subst hz
  go_enter Tryz.func182, Tryz.ntmps182
  go_wp2_with fail
  refine (show Gives _ _ _ _ _ from KI.out).mono ?_
  intro w1 hE1
  replace hE1 : Ext w w1 := hE1
  have HE1 := Lib.hid hE1
  have hs1 := hE1.size
  clear hE1
  go_wp2_with fail
  refine (KW.out _ (HW.out.ext HE1.out) (Nat.le_trans hBw hs1)).mono ?_
  rintro _ w2 ⟨rfl, hW2, hk⟩
  go_wp2
  go_end0
  exact ⟨rfl, hW2, (WK.of_ext HE1.out hBw).trans hk⟩

set_option maxRecDepth 100000 in
set_option maxHeartbeats 1000000 in
theorem wtext_any (B b : Nat) (l : List UInt8) (a : Addr) (t : List UInt8) (w : World) (h : Wrt B b l w) (hn : w.cell? a = some (sV t)) (hz : a.spot = none) (ht : t.length ≤ 1000000) (hm : MaxL w) (hlen : l.length ≤ 100000000000) (hBw : B ≤ w.heap.size) :
    Calls Tryz.prog 184 #[.pointer (some ⟨b, 0, none⟩), .pointer (some a)] w fun e w' => e = .returned (.tuple #[]) ∧ Wrt B b (l ++ txS t) w' ∧ WK B b w w' := by
  have KI := Lib.hid (cText_any t w ht hm)
  have htl := txS_len t
  have KW := Lib.hid (fun W (h : Wrt B b l W) (hB : B ≤ W.heap.size) => wws_any B b l (txS t) W h (by omega) hB)
  have HW := Lib.hid h
  clear h hm htl
  generalize txS t = s at *
  generalize txE t = E at *
  obtain ⟨ab, ao, asp⟩ := a
  simp only at hz
  subst hz
  go_enter Tryz.func184, Tryz.ntmps184
  go_wp2_with fail
  refine (show Gives _ _ _ _ _ from KI.out).mono ?_
  intro w1 hE1
  replace hE1 : Ext w w1 := hE1
  have HE1 := Lib.hid hE1
  have hs1 := hE1.size
  clear hE1
  go_wp2_with fail
  refine (KW.out _ (HW.out.ext HE1.out) (Nat.le_trans hBw hs1)).mono ?_
  rintro _ w2 ⟨rfl, hW2, hk⟩
  go_wp2
  go_end0
  exact ⟨rfl, hW2, (WK.of_ext HE1.out hBw).trans hk⟩

set_option maxRecDepth 100000 in
set_option maxHeartbeats 1000000 in
theorem wlist_any (B b : Nat) (l : List UInt8) (a : Addr) (t : List Int) (p : Option Addr) (c : Nat) (w : World) (h : Wrt B b l w) (hn : w.cell? a = some (.slice p t.length c)) (hz : a.spot = none) (hI : IntsAt w p t) (ht : t.length ≤ maxLen) (hb : ∀ n ∈ t, -9223372036854775808 ≤ n ∧ n ≤ 9223372036854775807) (hlen : l.length ≤ 100000000000) (hBw : B ≤ w.heap.size) :
    Calls Tryz.prog 181 #[.pointer (some ⟨b, 0, none⟩), .pointer (some a)] w fun e w' => e = .returned (.tuple #[]) ∧ Wrt B b (l ++ lsS t) w' ∧ WK B b w w' := by
  have KI := Lib.hid (List_any t p c w ht hI hb)
  have KW := Lib.hid (fun W (h : Wrt B b l W) (hB : B ≤ W.heap.size) => wws_any B b l (lsS t) W h (by have := lsS_len t; omega) hB)
  have HW := Lib.hid h
  clear h hI hb ht
  generalize lsS t = s at *
  generalize lsE t = E at *
  generalize t.length = n at *
  obtain ⟨ab, ao, asp⟩ := a
  simp only at hz
  subst hz
  go_enter Tryz.func181, Tryz.ntmps181
  go_wp2_with fail
  refine (show Gives _ _ _ _ _ from KI.out).mono ?_
  intro w1 hE1
  replace hE1 : Ext w w1 := hE1
  have HE1 := Lib.hid hE1
  have hs1 := hE1.size
  clear hE1
  go_wp2_with fail
  refine (KW.out _ (HW.out.ext HE1.out) (Nat.le_trans hBw hs1)).mono ?_
  rintro _ w2 ⟨rfl, hW2, hk⟩
  go_wp2
  go_end0
  exact ⟨rfl, hW2, (WK.of_ext HE1.out hBw).trans hk⟩
theorem wreading_any (b : Nat) (w : World) : Calls Tryz.prog 183 #[.pointer (some ⟨b, 0, none⟩)] w fun e w' => e = .returned (.bool false) ∧ w' = w := by
  go_enter Tryz.func183, Tryz.ntmps183
  go_wp2
  go_ret
  exact ⟨rfl, rfl⟩
end Go.Proofs.YtfkjokbhnblndaaGreatDoor

namespace Go.Proofs.YtfkjokbhnblndaaGreatDoor
open Go.RowKit Go.Shelf
set_option linter.unusedVariables false
set_option linter.unusedSimpArgs false

abbrev tWp : TypeId := 60
/-- the coder that is a writer -/
abbrev cW (b : Nat) : Value := .iface tWp (.pointer (some ⟨b, 0, none⟩))
theorem WK.blk {B b k : Nat} {w w' : World} {c : Array Value} {T : TypeId} {f : Nat × Nat} (h : WK B b w w') (hk : w.heap[k]? = some (.cells c T f)) (hb : k ≠ b) (hT : T ≠ 5) : w'.heap[k]? = some (.cells c T f) :=
  h.2 k _ hk (fun e => hb (Option.some.inj e)) (fun cs f' e => hT (by cases e; rfl))
theorem setCell_self {w : World} {b i : Nat} {v : Value} (h : w.cell? ⟨b, i, none⟩ = some v) : w.setCell ⟨b, i, none⟩ v = w := by
  unfold World.setCell
  unfold World.cell? at h
  have e : (w.heap.modify b fun
      | .cells c elem frozen => .cells (if (none : Option Nat).isSome then c else c.setIfInBounds i v) elem frozen
      | o => o) = w.heap := by
    apply Array.ext (by simp)
    intro j h1 h2
    rw [Array.getElem_modify]
    split
    · rename_i e
      subst e
      simp only [Array.getElem?_eq_getElem h2] at h
      split at h
      · rename_i c T f hc
        simp only [Option.some.injEq] at hc
        rw [hc]
        simp at h
        obtain ⟨hi, hv⟩ := Array.getElem?_eq_some_iff.1 h
        simp only [Option.isSome_none, Bool.false_eq_true, if_false]
        congr 1
        apply Array.ext (by simp)
        intro k h3 h4
        rw [Array.getElem_setIfInBounds]
        · split
          · rename_i e; subst e; exact hv.symm
          · rfl
      · cases h
    · rfl
  exact congrArg (fun x => { w with heap := x }) e

set_option maxRecDepth 100000 in
set_option maxHeartbeats 1000000 in
theorem wflag_any (B b : Nat) (l : List UInt8) (ab ao : Nat) (v : Bool) (w : World) (h : Wrt B b l w) (hn : w.cell? ⟨ab, ao, none⟩ = some (.bool v)) (hf : w.frozen? ⟨ab, ao, none⟩ = false) (hab : ab < B) (hlen : l.length ≤ 100000000000) (hBw : B ≤ w.heap.size) (hbw : b < w.heap.size) :
    Calls Tryz.prog 52 #[cW b, .pointer (some ⟨ab, ao, none⟩)] w fun e w' => e = .returned (.tuple #[]) ∧ Wrt B b (l ++ nuS (boN v)) w' ∧ WK B b w w' := by
  have KN := Lib.hid (fun W n a (h : Wrt B b l W) (hn : W.cell? a = some (.int .i64 n)) (hz : a.spot = none) h1 h2 (hB : B ≤ W.heap.size) => wnum_any B b l a n W h hn hz h1 h2 hlen hB)
  have HW := Lib.hid h
  have HC := Lib.hid hn
  clear h
  have hab2 : ab < w.heap.size := Nat.lt_of_lt_of_le hab hBw
  go_enter Tryz.func52, Tryz.ntmps52
  cases v with
  | true =>
    go_wp2_with fail
    have hb1 := alloc_here w (.cells #[.int .i64 1] 3)
    have HE := Lib.hid (ext_alloc (Below.refl _ w) (.cells #[.int .i64 1] 3))
    refine (KN.out _ 1 _ (HW.out.ext HE.out) (cell_of hb1 rfl) rfl (by decide) (by decide) (Nat.le_trans hBw HE.out.size)).mono ?_
    rintro _ w2 ⟨rfl, hW2, hk⟩
    have hb2 := hk.blk hb1 (by omega) (by decide)
    have hc2 : w2.cell? ⟨ab, ao, none⟩ = some (.bool true) := (hk.1.cell (p := ⟨ab, ao, none⟩) hab).trans ((HE.out.below.cell (p := ⟨ab, ao, none⟩) hab2).trans HC.out)
    have hf2 : w2.frozen? ⟨ab, ao, none⟩ = false := by
      have e : w2.heap[ab]? = w.heap[ab]? := (hk.1.block ab hab).trans (HE.out.below.block ab hab2)
      unfold World.frozen? at hf ⊢
      rw [e]; exact hf
    have hs2 : ab < w2.heap.size := Nat.lt_of_lt_of_le hab2 (Nat.le_trans HE.out.size hk.1.size)
    have d0 := cell_of (i := 0) hb2 rfl
    have HK := Lib.hid (WK.trans (WK.of_ext HE.out hBw) hk)
    clear hb1 hb2 hk hn hf
    go_wp2
    go_end0
    rw [setCell_self hc2]
    exact ⟨rfl, hW2, HK.out⟩
  | false =>
    go_wp2_with fail
    have hb1 := alloc_here w (.cells #[.int .i64 0] 3)
    have HE := Lib.hid (ext_alloc (Below.refl _ w) (.cells #[.int .i64 0] 3))
    refine (KN.out _ 0 _ (HW.out.ext HE.out) (cell_of hb1 rfl) rfl (by decide) (by decide) (Nat.le_trans hBw HE.out.size)).mono ?_
    rintro _ w2 ⟨rfl, hW2, hk⟩
    have hb2 := hk.blk hb1 (by omega) (by decide)
    have hc2 : w2.cell? ⟨ab, ao, none⟩ = some (.bool false) := (hk.1.cell (p := ⟨ab, ao, none⟩) hab).trans ((HE.out.below.cell (p := ⟨ab, ao, none⟩) hab2).trans HC.out)
    have hf2 : w2.frozen? ⟨ab, ao, none⟩ = false := by
      have e : w2.heap[ab]? = w.heap[ab]? := (hk.1.block ab hab).trans (HE.out.below.block ab hab2)
      unfold World.frozen? at hf ⊢
      rw [e]; exact hf
    have hs2 : ab < w2.heap.size := Nat.lt_of_lt_of_le hab2 (Nat.le_trans HE.out.size hk.1.size)
    have d0 := cell_of (i := 0) hb2 rfl
    have HK := Lib.hid (WK.trans (WK.of_ext HE.out hBw) hk)
    clear hb1 hb2 hk hn hf
    go_wp2
    go_end0
    rw [setCell_self hc2]
    exact ⟨rfl, hW2, HK.out⟩
end Go.Proofs.YtfkjokbhnblndaaGreatDoor

namespace Go.Proofs.YtfkjokbhnblndaaGreatDoor
open Go.RowKit Go.Shelf
set_option linter.unusedVariables false
set_option linter.unusedSimpArgs false

/-- what describing at a writer leaves -/
def WPost (B b : Nat) (l s : List UInt8) (W : World) (e : Ending) (w' : World) : Prop := e = .returned (.tuple #[]) ∧ Wrt B b (l ++ s) w' ∧ WK B b W w'
theorem WK.exw {w0 W w' : World} {b : Nat} (h : WK w0.heap.size b W w') (hE : Ext w0 W) : Ext w0 w' := Below.trans hE h.1
theorem Wrt.lt {B b : Nat} {l : List UInt8} {w : World} (h : Wrt B b l w) : b < w.heap.size := by
  rcases h with ⟨_, _, h, _⟩ | ⟨_, _, h, _⟩
  · exact lt_of_block h
  · exact lt_of_block h
theorem free_ext {w W : World} {b o : Nat} (h : w.frozen? ⟨b, o, none⟩ = false) (hb : b < w.heap.size) (hE : Ext w W) : W.frozen? ⟨b, o, none⟩ = false := by
  unfold World.frozen? at h ⊢
  rw [hE.below.block b hb]; exact h
set_option maxRecDepth 100000 in
set_option maxHeartbeats 4000000 in
theorem wIns_any (w0 : World) (b : Nat) (x : Ins) (rb ro : Nat) (a : Option Addr) (c : Nat) (hx : Ins.cells w0 rb ro x a c) (hI : IntsAt w0 a x.args) (hwf : x.wf) (l : List UInt8) (W : World) (hX : Ext w0 W) (hW : Wrt w0.heap.size b l W) (hlen : (l ++ insS x).length ≤ 100000000000) :
    Calls Tryz.prog 54 #[cW b, .pointer (some ⟨rb, ro, none⟩)] W (WPost w0.heap.size b l (insS x) W) := by
  have K0 := Lib.hid (fun l1 W1 (hE : Ext w0 W1) (h : Wrt w0.heap.size b l1 W1) (hl : l1.length ≤ 100000000000) => (show Calls Tryz.prog 182 #[.pointer (some ⟨b, 0, none⟩), .pointer (some ⟨rb, ro, none⟩)] W1 (WPost w0.heap.size b l1 (nuS x.op) W1) from wnum_any w0.heap.size b l1 ⟨rb, ro, none⟩ x.op W1 h (cell_ext hx.c0 hE) rfl hwf.op.1 hwf.op.2 hl hE.size))
  have K1 := Lib.hid (fun l1 W1 (hE : Ext w0 W1) (h : Wrt w0.heap.size b l1 W1) (hl : l1.length ≤ 100000000000) => (show Calls Tryz.prog 182 #[.pointer (some ⟨b, 0, none⟩), .pointer (some ⟨rb, ro + 1, none⟩)] W1 (WPost w0.heap.size b l1 (nuS x.a) W1) from wnum_any w0.heap.size b l1 ⟨rb, ro + 1, none⟩ x.a W1 h (cell_ext hx.c1 hE) rfl hwf.a.1 hwf.a.2 hl hE.size))
  have K2 := Lib.hid (fun l1 W1 (hE : Ext w0 W1) (h : Wrt w0.heap.size b l1 W1) (hl : l1.length ≤ 100000000000) => (show Calls Tryz.prog 182 #[.pointer (some ⟨b, 0, none⟩), .pointer (some ⟨rb, ro + 2, none⟩)] W1 (WPost w0.heap.size b l1 (nuS x.b) W1) from wnum_any w0.heap.size b l1 ⟨rb, ro + 2, none⟩ x.b W1 h (cell_ext hx.c2 hE) rfl hwf.b.1 hwf.b.2 hl hE.size))
  have K3 := Lib.hid (fun l1 W1 (hE : Ext w0 W1) (h : Wrt w0.heap.size b l1 W1) (hl : l1.length ≤ 100000000000) => (show Calls Tryz.prog 182 #[.pointer (some ⟨b, 0, none⟩), .pointer (some ⟨rb, ro + 3, none⟩)] W1 (WPost w0.heap.size b l1 (nuS x.c) W1) from wnum_any w0.heap.size b l1 ⟨rb, ro + 3, none⟩ x.c W1 h (cell_ext hx.c3 hE) rfl hwf.c.1 hwf.c.2 hl hE.size))
  have K4 := Lib.hid (fun l1 W1 (hE : Ext w0 W1) (h : Wrt w0.heap.size b l1 W1) (hl : l1.length ≤ 100000000000) => (show Calls Tryz.prog 181 #[.pointer (some ⟨b, 0, none⟩), .pointer (some ⟨rb, ro + 4, none⟩)] W1 (WPost w0.heap.size b l1 (lsS x.args) W1) from wlist_any w0.heap.size b l1 ⟨rb, ro + 4, none⟩ x.args a c W1 h (cell_ext hx.c4 hE) rfl (hI.below hE) (by have := hwf.len; unfold maxLen; omega) hwf.args hl hE.size))
  have hna_l : ∀ W, Sem.run Tryz.prog (nilAhead 358 tWp (.pointer (some ⟨b, 0, none⟩)) "nursery/program.list") W = .ok (some false) W := fun W => by kernel_rfl
  have hna_n : ∀ W, Sem.run Tryz.prog (nilAhead 358 tWp (.pointer (some ⟨b, 0, none⟩)) "nursery/program.number") W = .ok (some false) W := fun W => by kernel_rfl
  have HX0 := Lib.hid hX
  have HW0 := Lib.hid hW
  have HK0 := Lib.hid (WK.refl w0.heap.size b W)
  have HLEN := Lib.hid hlen
  clear hX hW hlen hx hwf hI
  go_enter Tryz.func54, Tryz.ntmps54
  go_wp2
  refine wp_region_tail (l1 := [_, _, _, _, _, _, _]) (l2 := [_]) (by kernel_rfl) Ext (fun W => Below.refl _ W) (fun W => show Below W.heap.size W { W with drawn := W.drawn + 1 } from ⟨rfl, rfl, rfl, Nat.le_refl _, fun _ _ => rfl⟩) Ext.trans
    (fun i s W => match i with
      | 0 => s 0 = cW b
      | 1 => s 1 = .pointer (some ⟨rb, ro, none⟩)
      | 2 => s 2 = .pointer (some ⟨rb, ro, none⟩)
      | 3 => s 3 = .pointer (some ⟨rb, ro, none⟩)
      | 4 => s 4 = .func (.method "nursery/program.number") #[cW b] #[]
      | 5 => s 5 = .func (.method "nursery/program.number") #[cW b] #[]
      | 6 => s 6 = cW b
      | _ => True)
    (fun i => [i])
    (by
      intro i s s' W W' h hs hE
      have hs := hs i (by simp)
      match i, h, hs with
      | 0, h, hs => exact hs.trans h
      | 1, h, hs => exact hs.trans h
      | 2, h, hs => exact hs.trans h
      | 3, h, hs => exact hs.trans h
      | 4, h, hs => exact hs.trans h
      | 5, h, hs => exact hs.trans h
      | 6, h, hs => exact hs.trans h
      | i + 7, h, hs => exact trivial)
    (by kernel_rfl) (by kernel_rfl) (by kernel_rfl) 44 rfl (by kernel_rfl) (by kernel_rfl) ?_ ?_
  · intro i op ho a' W hA

    match i, ho with
    | 0, ho =>
      obtain rfl := Option.some.inj ho
      have e1 : a'.eval (.tmp 0) = cW b := hA.keep 0 (by kernel_rfl)
      refine GoesG.value (cW b) rfl ?_ (Below.refl _ _) (fun s h1 h2 => h1 rfl)
      simp only [execOp, e1]
      simp [go_sem]
    | 1, ho =>
      obtain rfl := Option.some.inj ho
      have e1 : a'.eval (.tmp 1) = .pointer (some ⟨rb, ro, none⟩) := hA.keep 1 (by kernel_rfl)
      refine GoesG.value (.pointer (some ⟨rb, ro, none⟩)) rfl ?_ (Below.refl _ _) (fun s h1 h2 => h1 rfl)
      simp only [execOp, e1]
      simp [go_sem]
    | 2, ho =>
      obtain rfl := Option.some.inj ho
      have e1 : a'.eval (.tmp 5) = .pointer (some ⟨rb, ro, none⟩) := (sv_dst (l := _) rfl).symm.trans (hA.new 1 (by decide) (by kernel_rfl))
      refine GoesG.value (.pointer (some ⟨rb, ro, none⟩)) rfl ?_ (Below.refl _ _) (fun s h1 h2 => h1 rfl)
      simp only [execOp, e1]
      simp [go_sem]
    | 3, ho =>
      obtain rfl := Option.some.inj ho
      have e1 : a'.eval (.tmp 6) = .pointer (some ⟨rb, ro, none⟩) := (sv_dst (l := _) rfl).symm.trans (hA.new 2 (by decide) (by kernel_rfl))
      refine GoesG.value (.pointer (some ⟨rb, ro, none⟩)) rfl ?_ (Below.refl _ _) (fun s h1 h2 => h1 rfl)
      simp only [execOp, e1]
      simp [go_sem]
    | 4, ho =>
      obtain rfl := Option.some.inj ho
      have e1 : a'.eval (.tmp 4) = cW b := (sv_dst (l := _) rfl).symm.trans (hA.new 0 (by decide) (by kernel_rfl))
      refine GoesG.value (.func (.method "nursery/program.number") #[cW b] #[]) rfl ?_ (Below.refl _ _) (fun s h1 h2 => h1 rfl)
      simp only [execOp, e1]
      simp [go_sem]
      simpa [Act.eval] using e1
    | 5, ho =>
      obtain rfl := Option.some.inj ho
      have e1 : a'.eval (.tmp 8) = .func (.method "nursery/program.number") #[cW b] #[] := (sv_dst (l := _) rfl).symm.trans (hA.new 4 (by decide) (by kernel_rfl))
      refine GoesG.value (.func (.method "nursery/program.number") #[cW b] #[]) rfl ?_ (Below.refl _ _) (fun s h1 h2 => h1 rfl)
      simp only [execOp, e1]
      simp [go_sem, hna_n]
    | 6, ho =>
      obtain rfl := Option.some.inj ho
      have e1 : a'.eval (.tmp 4) = cW b := (sv_dst (l := _) rfl).symm.trans (hA.new 0 (by decide) (by kernel_rfl))
      refine GoesG.value (cW b) rfl ?_ (Below.refl _ _) (fun s h1 h2 => h1 rfl)
      simp only [execOp, e1]
      simp [go_sem]
    | i + 7, ho => cases ho
  · intro vs w1d hvs hG0 hΦ
    obtain ⟨y0, y1, y2, y3, y4, y5, y6, rfl⟩ : ∃ y0 y1 y2 y3 y4 y5 y6, vs = y0 :: y1 :: y2 :: y3 :: y4 :: y5 :: y6 :: [] := by
      match vs, hvs with
      | y0 :: y1 :: y2 :: y3 :: y4 :: y5 :: y6 :: [], _ => exact ⟨y0, y1, y2, y3, y4, y5, y6, rfl⟩
    have e0 : y0 = cW b := hΦ 0 (by decide)
    subst e0
    have e1 : y1 = .pointer (some ⟨rb, ro, none⟩) := hΦ 1 (by decide)
    subst e1
    have e2 : y2 = .pointer (some ⟨rb, ro, none⟩) := hΦ 2 (by decide)
    subst e2
    have e3 : y3 = .pointer (some ⟨rb, ro, none⟩) := hΦ 3 (by decide)
    subst e3
    have e4 : y4 = .func (.method "nursery/program.number") #[cW b] #[] := hΦ 4 (by decide)
    subst e4
    have e5 : y5 = .func (.method "nursery/program.number") #[cW b] #[] := hΦ 5 (by decide)
    subst e5
    have e6 : y6 = cW b := hΦ 6 (by decide)
    subst e6
    clear hΦ hvs
    simp only [putAll, Act.put, List.setIfInBounds_toArray, List.set_cons_succ, List.set_cons_zero]
    have HD0 := Lib.hid hG0
    clear hG0
    go_wp2_with fail
    refine (show Calls _ _ _ _ _ from K0.out _ _ (Ext.trans HX0.out HD0.out) (HW0.out.ext HD0.out) (by have := HLEN.out; simp only [insS, List.length_append] at this ⊢; omega)).mono ?_
    rintro _ w1 ⟨rfl, hW, hk⟩
    have HX1 := Lib.hid (hk.exw (Ext.trans HX0.out HD0.out))
    have HW1 := Lib.hid hW
    have HK1 := Lib.hid (WK.trans HK0.out (WK.trans (WK.of_ext HD0.out HX0.out.size) hk))
    clear hW hk
    go_wp2
    refine wp_region_tail (l1 := [_, _, _, _, _, _, _]) (l2 := [_]) (by kernel_rfl) Ext (fun W => Below.refl _ W) (fun W => show Below W.heap.size W { W with drawn := W.drawn + 1 } from ⟨rfl, rfl, rfl, Nat.le_refl _, fun _ _ => rfl⟩) Ext.trans
      (fun i s W => match i with
        | 0 => s 0 = cW b
        | 1 => s 1 = .pointer (some ⟨rb, ro, none⟩)
        | 2 => s 2 = .pointer (some ⟨rb, ro, none⟩)
        | 3 => s 3 = .pointer (some ⟨rb, ro + 1, none⟩)
        | 4 => s 4 = .func (.method "nursery/program.number") #[cW b] #[]
        | 5 => s 5 = .func (.method "nursery/program.number") #[cW b] #[]
        | 6 => s 6 = cW b
        | _ => True)
      (fun i => [i])
      (by
        intro i s s' W W' h hs hE
        have hs := hs i (by simp)
        match i, h, hs with
        | 0, h, hs => exact hs.trans h
        | 1, h, hs => exact hs.trans h
        | 2, h, hs => exact hs.trans h
        | 3, h, hs => exact hs.trans h
        | 4, h, hs => exact hs.trans h
        | 5, h, hs => exact hs.trans h
        | 6, h, hs => exact hs.trans h
        | i + 7, h, hs => exact trivial)
      (by kernel_rfl) (by kernel_rfl) (by kernel_rfl) 44 rfl (by kernel_rfl) (by kernel_rfl) ?_ ?_
    · intro i op ho a' W hA

      match i, ho with
      | 0, ho =>
        obtain rfl := Option.some.inj ho
        have e1 : a'.eval (.tmp 0) = cW b := hA.keep 0 (by kernel_rfl)
        refine GoesG.value (cW b) rfl ?_ (Below.refl _ _) (fun s h1 h2 => h1 rfl)
        simp only [execOp, e1]
        simp [go_sem]
      | 1, ho =>
        obtain rfl := Option.some.inj ho
        have e1 : a'.eval (.tmp 1) = .pointer (some ⟨rb, ro, none⟩) := hA.keep 1 (by kernel_rfl)
        refine GoesG.value (.pointer (some ⟨rb, ro, none⟩)) rfl ?_ (Below.refl _ _) (fun s h1 h2 => h1 rfl)
        simp only [execOp, e1]
        simp [go_sem]
      | 2, ho =>
        obtain rfl := Option.some.inj ho
        have e1 : a'.eval (.tmp 13) = .pointer (some ⟨rb, ro, none⟩) := (sv_dst (l := _) rfl).symm.trans (hA.new 1 (by decide) (by kernel_rfl))
        refine GoesG.value (.pointer (some ⟨rb, ro, none⟩)) rfl ?_ (Below.refl _ _) (fun s h1 h2 => h1 rfl)
        simp only [execOp, e1]
        simp [go_sem]
      | 3, ho =>
        obtain rfl := Option.some.inj ho
        have e1 : a'.eval (.tmp 14) = .pointer (some ⟨rb, ro, none⟩) := (sv_dst (l := _) rfl).symm.trans (hA.new 2 (by decide) (by kernel_rfl))
        refine GoesG.value (.pointer (some ⟨rb, ro + 1, none⟩)) rfl ?_ (Below.refl _ _) (fun s h1 h2 => h1 rfl)
        simp only [execOp, e1]
        simp [go_sem]
      | 4, ho =>
        obtain rfl := Option.some.inj ho
        have e1 : a'.eval (.tmp 12) = cW b := (sv_dst (l := _) rfl).symm.trans (hA.new 0 (by decide) (by kernel_rfl))
        refine GoesG.value (.func (.method "nursery/program.number") #[cW b] #[]) rfl ?_ (Below.refl _ _) (fun s h1 h2 => h1 rfl)
        simp only [execOp, e1]
        simp [go_sem]
        simpa [Act.eval] using e1
      | 5, ho =>
        obtain rfl := Option.some.inj ho
        have e1 : a'.eval (.tmp 16) = .func (.method "nursery/program.number") #[cW b] #[] := (sv_dst (l := _) rfl).symm.trans (hA.new 4 (by decide) (by kernel_rfl))
        refine GoesG.value (.func (.method "nursery/program.number") #[cW b] #[]) rfl ?_ (Below.refl _ _) (fun s h1 h2 => h1 rfl)
        simp only [execOp, e1]
        simp [go_sem, hna_n]
      | 6, ho =>
        obtain rfl := Option.some.inj ho
        have e1 : a'.eval (.tmp 12) = cW b := (sv_dst (l := _) rfl).symm.trans (hA.new 0 (by decide) (by kernel_rfl))
        refine GoesG.value (cW b) rfl ?_ (Below.refl _ _) (fun s h1 h2 => h1 rfl)
        simp only [execOp, e1]
        simp [go_sem]
      | i + 7, ho => cases ho
    · intro vs w2d hvs hG1 hΦ
      obtain ⟨y0, y1, y2, y3, y4, y5, y6, rfl⟩ : ∃ y0 y1 y2 y3 y4 y5 y6, vs = y0 :: y1 :: y2 :: y3 :: y4 :: y5 :: y6 :: [] := by
        match vs, hvs with
        | y0 :: y1 :: y2 :: y3 :: y4 :: y5 :: y6 :: [], _ => exact ⟨y0, y1, y2, y3, y4, y5, y6, rfl⟩
      have e0 : y0 = cW b := hΦ 0 (by decide)
      subst e0
      have e1 : y1 = .pointer (some ⟨rb, ro, none⟩) := hΦ 1 (by decide)
      subst e1
      have e2 : y2 = .pointer (some ⟨rb, ro, none⟩) := hΦ 2 (by decide)
      subst e2
      have e3 : y3 = .pointer (some ⟨rb, ro + 1, none⟩) := hΦ 3 (by decide)
      subst e3
      have e4 : y4 = .func (.method "nursery/program.number") #[cW b] #[] := hΦ 4 (by decide)
      subst e4
      have e5 : y5 = .func (.method "nursery/program.number") #[cW b] #[] := hΦ 5 (by decide)
      subst e5
      have e6 : y6 = cW b := hΦ 6 (by decide)
      subst e6
      clear hΦ hvs
      simp only [putAll, Act.put, List.setIfInBounds_toArray, List.set_cons_succ, List.set_cons_zero]
      have HD1 := Lib.hid hG1
      clear hG1
      go_wp2_with fail
      refine (show Calls _ _ _ _ _ from K1.out _ _ (Ext.trans HX1.out HD1.out) (HW1.out.ext HD1.out) (by have := HLEN.out; simp only [insS, List.length_append] at this ⊢; omega)).mono ?_
      rintro _ w2 ⟨rfl, hW, hk⟩
      have HX2 := Lib.hid (hk.exw (Ext.trans HX1.out HD1.out))
      have HW2 := Lib.hid hW
      have HK2 := Lib.hid (WK.trans HK1.out (WK.trans (WK.of_ext HD1.out HX1.out.size) hk))
      clear hW hk
      go_wp2
      refine wp_region_tail (l1 := [_, _, _, _, _, _, _]) (l2 := [_]) (by kernel_rfl) Ext (fun W => Below.refl _ W) (fun W => show Below W.heap.size W { W with drawn := W.drawn + 1 } from ⟨rfl, rfl, rfl, Nat.le_refl _, fun _ _ => rfl⟩) Ext.trans
        (fun i s W => match i with
          | 0 => s 0 = cW b
          | 1 => s 1 = .pointer (some ⟨rb, ro, none⟩)
          | 2 => s 2 = .pointer (some ⟨rb, ro, none⟩)
          | 3 => s 3 = .pointer (some ⟨rb, ro + 2, none⟩)
          | 4 => s 4 = .func (.method "nursery/program.number") #[cW b] #[]
          | 5 => s 5 = .func (.method "nursery/program.number") #[cW b] #[]
          | 6 => s 6 = cW b
          | _ => True)
        (fun i => [i])
        (by
          intro i s s' W W' h hs hE
          have hs := hs i (by simp)
          match i, h, hs with
          | 0, h, hs => exact hs.trans h
          | 1, h, hs => exact hs.trans h
          | 2, h, hs => exact hs.trans h
          | 3, h, hs => exact hs.trans h
          | 4, h, hs => exact hs.trans h
          | 5, h, hs => exact hs.trans h
          | 6, h, hs => exact hs.trans h
          | i + 7, h, hs => exact trivial)
        (by kernel_rfl) (by kernel_rfl) (by kernel_rfl) 44 rfl (by kernel_rfl) (by kernel_rfl) ?_ ?_
      · intro i op ho a' W hA

        match i, ho with
        | 0, ho =>
          obtain rfl := Option.some.inj ho
          have e1 : a'.eval (.tmp 0) = cW b := hA.keep 0 (by kernel_rfl)
          refine GoesG.value (cW b) rfl ?_ (Below.refl _ _) (fun s h1 h2 => h1 rfl)
          simp only [execOp, e1]
          simp [go_sem]
        | 1, ho =>
          obtain rfl := Option.some.inj ho
          have e1 : a'.eval (.tmp 1) = .pointer (some ⟨rb, ro, none⟩) := hA.keep 1 (by kernel_rfl)
          refine GoesG.value (.pointer (some ⟨rb, ro, none⟩)) rfl ?_ (Below.refl _ _) (fun s h1 h2 => h1 rfl)
          simp only [execOp, e1]
          simp [go_sem]
        | 2, ho =>
          obtain rfl := Option.some.inj ho
          have e1 : a'.eval (.tmp 21) = .pointer (some ⟨rb, ro, none⟩) := (sv_dst (l := _) rfl).symm.trans (hA.new 1 (by decide) (by kernel_rfl))
          refine GoesG.value (.pointer (some ⟨rb, ro, none⟩)) rfl ?_ (Below.refl _ _) (fun s h1 h2 => h1 rfl)
          simp only [execOp, e1]
          simp [go_sem]
        | 3, ho =>
          obtain rfl := Option.some.inj ho
          have e1 : a'.eval (.tmp 22) = .pointer (some ⟨rb, ro, none⟩) := (sv_dst (l := _) rfl).symm.trans (hA.new 2 (by decide) (by kernel_rfl))
          refine GoesG.value (.pointer (some ⟨rb, ro + 2, none⟩)) rfl ?_ (Below.refl _ _) (fun s h1 h2 => h1 rfl)
          simp only [execOp, e1]
          simp [go_sem]
        | 4, ho =>
          obtain rfl := Option.some.inj ho
          have e1 : a'.eval (.tmp 20) = cW b := (sv_dst (l := _) rfl).symm.trans (hA.new 0 (by decide) (by kernel_rfl))
          refine GoesG.value (.func (.method "nursery/program.number") #[cW b] #[]) rfl ?_ (Below.refl _ _) (fun s h1 h2 => h1 rfl)
          simp only [execOp, e1]
          simp [go_sem]
          simpa [Act.eval] using e1
        | 5, ho =>
          obtain rfl := Option.some.inj ho
          have e1 : a'.eval (.tmp 24) = .func (.method "nursery/program.number") #[cW b] #[] := (sv_dst (l := _) rfl).symm.trans (hA.new 4 (by decide) (by kernel_rfl))
          refine GoesG.value (.func (.method "nursery/program.number") #[cW b] #[]) rfl ?_ (Below.refl _ _) (fun s h1 h2 => h1 rfl)
          simp only [execOp, e1]
          simp [go_sem, hna_n]
        | 6, ho =>
          obtain rfl := Option.some.inj ho
          have e1 : a'.eval (.tmp 20) = cW b := (sv_dst (l := _) rfl).symm.trans (hA.new 0 (by decide) (by kernel_rfl))
          refine GoesG.value (cW b) rfl ?_ (Below.refl _ _) (fun s h1 h2 => h1 rfl)
          simp only [execOp, e1]
          simp [go_sem]
        | i + 7, ho => cases ho
      · intro vs w3d hvs hG2 hΦ
        obtain ⟨y0, y1, y2, y3, y4, y5, y6, rfl⟩ : ∃ y0 y1 y2 y3 y4 y5 y6, vs = y0 :: y1 :: y2 :: y3 :: y4 :: y5 :: y6 :: [] := by
          match vs, hvs with
          | y0 :: y1 :: y2 :: y3 :: y4 :: y5 :: y6 :: [], _ => exact ⟨y0, y1, y2, y3, y4, y5, y6, rfl⟩
        have e0 : y0 = cW b := hΦ 0 (by decide)
        subst e0
        have e1 : y1 = .pointer (some ⟨rb, ro, none⟩) := hΦ 1 (by decide)
        subst e1
        have e2 : y2 = .pointer (some ⟨rb, ro, none⟩) := hΦ 2 (by decide)
        subst e2
        have e3 : y3 = .pointer (some ⟨rb, ro + 2, none⟩) := hΦ 3 (by decide)
        subst e3
        have e4 : y4 = .func (.method "nursery/program.number") #[cW b] #[] := hΦ 4 (by decide)
        subst e4
        have e5 : y5 = .func (.method "nursery/program.number") #[cW b] #[] := hΦ 5 (by decide)
        subst e5
        have e6 : y6 = cW b := hΦ 6 (by decide)
        subst e6
        clear hΦ hvs
        simp only [putAll, Act.put, List.setIfInBounds_toArray, List.set_cons_succ, List.set_cons_zero]
        have HD2 := Lib.hid hG2
        clear hG2
        go_wp2_with fail
        refine (show Calls _ _ _ _ _ from K2.out _ _ (Ext.trans HX2.out HD2.out) (HW2.out.ext HD2.out) (by have := HLEN.out; simp only [insS, List.length_append] at this ⊢; omega)).mono ?_
        rintro _ w3 ⟨rfl, hW, hk⟩
        have HX3 := Lib.hid (hk.exw (Ext.trans HX2.out HD2.out))
        have HW3 := Lib.hid hW
        have HK3 := Lib.hid (WK.trans HK2.out (WK.trans (WK.of_ext HD2.out HX2.out.size) hk))
        clear hW hk
        go_wp2
        refine wp_region_tail (l1 := [_, _, _, _, _, _, _]) (l2 := [_]) (by kernel_rfl) Ext (fun W => Below.refl _ W) (fun W => show Below W.heap.size W { W with drawn := W.drawn + 1 } from ⟨rfl, rfl, rfl, Nat.le_refl _, fun _ _ => rfl⟩) Ext.trans
          (fun i s W => match i with
            | 0 => s 0 = cW b
            | 1 => s 1 = .pointer (some ⟨rb, ro, none⟩)
            | 2 => s 2 = .pointer (some ⟨rb, ro, none⟩)
            | 3 => s 3 = .pointer (some ⟨rb, ro + 3, none⟩)
            | 4 => s 4 = .func (.method "nursery/program.number") #[cW b] #[]
            | 5 => s 5 = .func (.method "nursery/program.number") #[cW b] #[]
            | 6 => s 6 = cW b
            | _ => True)
          (fun i => [i])
          (by
            intro i s s' W W' h hs hE
            have hs := hs i (by simp)
            match i, h, hs with
            | 0, h, hs => exact hs.trans h
            | 1, h, hs => exact hs.trans h
            | 2, h, hs => exact hs.trans h
            | 3, h, hs => exact hs.trans h
            | 4, h, hs => exact hs.trans h
            | 5, h, hs => exact hs.trans h
            | 6, h, hs => exact hs.trans h
            | i + 7, h, hs => exact trivial)
          (by kernel_rfl) (by kernel_rfl) (by kernel_rfl) 44 rfl (by kernel_rfl) (by kernel_rfl) ?_ ?_
        · intro i op ho a' W hA

          match i, ho with
          | 0, ho =>
            obtain rfl := Option.some.inj ho
            have e1 : a'.eval (.tmp 0) = cW b := hA.keep 0 (by kernel_rfl)
            refine GoesG.value (cW b) rfl ?_ (Below.refl _ _) (fun s h1 h2 => h1 rfl)
            simp only [execOp, e1]
            simp [go_sem]
          | 1, ho =>
            obtain rfl := Option.some.inj ho
            have e1 : a'.eval (.tmp 1) = .pointer (some ⟨rb, ro, none⟩) := hA.keep 1 (by kernel_rfl)
            refine GoesG.value (.pointer (some ⟨rb, ro, none⟩)) rfl ?_ (Below.refl _ _) (fun s h1 h2 => h1 rfl)
            simp only [execOp, e1]
            simp [go_sem]
          | 2, ho =>
            obtain rfl := Option.some.inj ho
            have e1 : a'.eval (.tmp 29) = .pointer (some ⟨rb, ro, none⟩) := (sv_dst (l := _) rfl).symm.trans (hA.new 1 (by decide) (by kernel_rfl))
            refine GoesG.value (.pointer (some ⟨rb, ro, none⟩)) rfl ?_ (Below.refl _ _) (fun s h1 h2 => h1 rfl)
            simp only [execOp, e1]
            simp [go_sem]
          | 3, ho =>
            obtain rfl := Option.some.inj ho
            have e1 : a'.eval (.tmp 30) = .pointer (some ⟨rb, ro, none⟩) := (sv_dst (l := _) rfl).symm.trans (hA.new 2 (by decide) (by kernel_rfl))
            refine GoesG.value (.pointer (some ⟨rb, ro + 3, none⟩)) rfl ?_ (Below.refl _ _) (fun s h1 h2 => h1 rfl)
            simp only [execOp, e1]
            simp [go_sem]
          | 4, ho =>
            obtain rfl := Option.some.inj ho
            have e1 : a'.eval (.tmp 28) = cW b := (sv_dst (l := _) rfl).symm.trans (hA.new 0 (by decide) (by kernel_rfl))
            refine GoesG.value (.func (.method "nursery/program.number") #[cW b] #[]) rfl ?_ (Below.refl _ _) (fun s h1 h2 => h1 rfl)
            simp only [execOp, e1]
            simp [go_sem]
            simpa [Act.eval] using e1
          | 5, ho =>
            obtain rfl := Option.some.inj ho
            have e1 : a'.eval (.tmp 32) = .func (.method "nursery/program.number") #[cW b] #[] := (sv_dst (l := _) rfl).symm.trans (hA.new 4 (by decide) (by kernel_rfl))
            refine GoesG.value (.func (.method "nursery/program.number") #[cW b] #[]) rfl ?_ (Below.refl _ _) (fun s h1 h2 => h1 rfl)
            simp only [execOp, e1]
            simp [go_sem, hna_n]
          | 6, ho =>
            obtain rfl := Option.some.inj ho
            have e1 : a'.eval (.tmp 28) = cW b := (sv_dst (l := _) rfl).symm.trans (hA.new 0 (by decide) (by kernel_rfl))
            refine GoesG.value (cW b) rfl ?_ (Below.refl _ _) (fun s h1 h2 => h1 rfl)
            simp only [execOp, e1]
            simp [go_sem]
          | i + 7, ho => cases ho
        · intro vs w4d hvs hG3 hΦ
          obtain ⟨y0, y1, y2, y3, y4, y5, y6, rfl⟩ : ∃ y0 y1 y2 y3 y4 y5 y6, vs = y0 :: y1 :: y2 :: y3 :: y4 :: y5 :: y6 :: [] := by
            match vs, hvs with
            | y0 :: y1 :: y2 :: y3 :: y4 :: y5 :: y6 :: [], _ => exact ⟨y0, y1, y2, y3, y4, y5, y6, rfl⟩
          have e0 : y0 = cW b := hΦ 0 (by decide)
          subst e0
          have e1 : y1 = .pointer (some ⟨rb, ro, none⟩) := hΦ 1 (by decide)
          subst e1
          have e2 : y2 = .pointer (some ⟨rb, ro, none⟩) := hΦ 2 (by decide)
          subst e2
          have e3 : y3 = .pointer (some ⟨rb, ro + 3, none⟩) := hΦ 3 (by decide)
          subst e3
          have e4 : y4 = .func (.method "nursery/program.number") #[cW b] #[] := hΦ 4 (by decide)
          subst e4
          have e5 : y5 = .func (.method "nursery/program.number") #[cW b] #[] := hΦ 5 (by decide)
          subst e5
          have e6 : y6 = cW b := hΦ 6 (by decide)
          subst e6
          clear hΦ hvs
          simp only [putAll, Act.put, List.setIfInBounds_toArray, List.set_cons_succ, List.set_cons_zero]
          have HD3 := Lib.hid hG3
          clear hG3
          go_wp2_with fail
          refine (show Calls _ _ _ _ _ from K3.out _ _ (Ext.trans HX3.out HD3.out) (HW3.out.ext HD3.out) (by have := HLEN.out; simp only [insS, List.length_append] at this ⊢; omega)).mono ?_
          rintro _ w4 ⟨rfl, hW, hk⟩
          have HX4 := Lib.hid (hk.exw (Ext.trans HX3.out HD3.out))
          have HW4 := Lib.hid hW
          have HK4 := Lib.hid (WK.trans HK3.out (WK.trans (WK.of_ext HD3.out HX3.out.size) hk))
          clear hW hk
          go_wp2
          refine wp_region_tail (l1 := [_, _, _, _, _, _, _]) (l2 := [_]) (by kernel_rfl) Ext (fun W => Below.refl _ W) (fun W => show Below W.heap.size W { W with drawn := W.drawn + 1 } from ⟨rfl, rfl, rfl, Nat.le_refl _, fun _ _ => rfl⟩) Ext.trans
            (fun i s W => match i with
              | 0 => s 0 = cW b
              | 1 => s 1 = .pointer (some ⟨rb, ro, none⟩)
              | 2 => s 2 = .pointer (some ⟨rb, ro, none⟩)
              | 3 => s 3 = .pointer (some ⟨rb, ro + 4, none⟩)
              | 4 => s 4 = .func (.method "nursery/program.list") #[cW b] #[]
              | 5 => s 5 = .func (.method "nursery/program.list") #[cW b] #[]
              | 6 => s 6 = cW b
              | _ => True)
            (fun i => [i])
            (by
              intro i s s' W W' h hs hE
              have hs := hs i (by simp)
              match i, h, hs with
              | 0, h, hs => exact hs.trans h
              | 1, h, hs => exact hs.trans h
              | 2, h, hs => exact hs.trans h
              | 3, h, hs => exact hs.trans h
              | 4, h, hs => exact hs.trans h
              | 5, h, hs => exact hs.trans h
              | 6, h, hs => exact hs.trans h
              | i + 7, h, hs => exact trivial)
            (by kernel_rfl) (by kernel_rfl) (by kernel_rfl) 44 rfl (by kernel_rfl) (by kernel_rfl) ?_ ?_
          · intro i op ho a' W hA

            match i, ho with
            | 0, ho =>
              obtain rfl := Option.some.inj ho
              have e1 : a'.eval (.tmp 0) = cW b := hA.keep 0 (by kernel_rfl)
              refine GoesG.value (cW b) rfl ?_ (Below.refl _ _) (fun s h1 h2 => h1 rfl)
              simp only [execOp, e1]
              simp [go_sem]
            | 1, ho =>
              obtain rfl := Option.some.inj ho
              have e1 : a'.eval (.tmp 1) = .pointer (some ⟨rb, ro, none⟩) := hA.keep 1 (by kernel_rfl)
              refine GoesG.value (.pointer (some ⟨rb, ro, none⟩)) rfl ?_ (Below.refl _ _) (fun s h1 h2 => h1 rfl)
              simp only [execOp, e1]
              simp [go_sem]
            | 2, ho =>
              obtain rfl := Option.some.inj ho
              have e1 : a'.eval (.tmp 37) = .pointer (some ⟨rb, ro, none⟩) := (sv_dst (l := _) rfl).symm.trans (hA.new 1 (by decide) (by kernel_rfl))
              refine GoesG.value (.pointer (some ⟨rb, ro, none⟩)) rfl ?_ (Below.refl _ _) (fun s h1 h2 => h1 rfl)
              simp only [execOp, e1]
              simp [go_sem]
            | 3, ho =>
              obtain rfl := Option.some.inj ho
              have e1 : a'.eval (.tmp 38) = .pointer (some ⟨rb, ro, none⟩) := (sv_dst (l := _) rfl).symm.trans (hA.new 2 (by decide) (by kernel_rfl))
              refine GoesG.value (.pointer (some ⟨rb, ro + 4, none⟩)) rfl ?_ (Below.refl _ _) (fun s h1 h2 => h1 rfl)
              simp only [execOp, e1]
              simp [go_sem]
            | 4, ho =>
              obtain rfl := Option.some.inj ho
              have e1 : a'.eval (.tmp 36) = cW b := (sv_dst (l := _) rfl).symm.trans (hA.new 0 (by decide) (by kernel_rfl))
              refine GoesG.value (.func (.method "nursery/program.list") #[cW b] #[]) rfl ?_ (Below.refl _ _) (fun s h1 h2 => h1 rfl)
              simp only [execOp, e1]
              simp [go_sem]
              simpa [Act.eval] using e1
            | 5, ho =>
              obtain rfl := Option.some.inj ho
              have e1 : a'.eval (.tmp 40) = .func (.method "nursery/program.list") #[cW b] #[] := (sv_dst (l := _) rfl).symm.trans (hA.new 4 (by decide) (by kernel_rfl))
              refine GoesG.value (.func (.method "nursery/program.list") #[cW b] #[]) rfl ?_ (Below.refl _ _) (fun s h1 h2 => h1 rfl)
              simp only [execOp, e1]
              simp [go_sem, hna_l]
            | 6, ho =>
              obtain rfl := Option.some.inj ho
              have e1 : a'.eval (.tmp 36) = cW b := (sv_dst (l := _) rfl).symm.trans (hA.new 0 (by decide) (by kernel_rfl))
              refine GoesG.value (cW b) rfl ?_ (Below.refl _ _) (fun s h1 h2 => h1 rfl)
              simp only [execOp, e1]
              simp [go_sem]
            | i + 7, ho => cases ho
          · intro vs w5d hvs hG4 hΦ
            obtain ⟨y0, y1, y2, y3, y4, y5, y6, rfl⟩ : ∃ y0 y1 y2 y3 y4 y5 y6, vs = y0 :: y1 :: y2 :: y3 :: y4 :: y5 :: y6 :: [] := by
              match vs, hvs with
              | y0 :: y1 :: y2 :: y3 :: y4 :: y5 :: y6 :: [], _ => exact ⟨y0, y1, y2, y3, y4, y5, y6, rfl⟩
            have e0 : y0 = cW b := hΦ 0 (by decide)
            subst e0
            have e1 : y1 = .pointer (some ⟨rb, ro, none⟩) := hΦ 1 (by decide)
            subst e1
            have e2 : y2 = .pointer (some ⟨rb, ro, none⟩) := hΦ 2 (by decide)
            subst e2
            have e3 : y3 = .pointer (some ⟨rb, ro + 4, none⟩) := hΦ 3 (by decide)
            subst e3
            have e4 : y4 = .func (.method "nursery/program.list") #[cW b] #[] := hΦ 4 (by decide)
            subst e4
            have e5 : y5 = .func (.method "nursery/program.list") #[cW b] #[] := hΦ 5 (by decide)
            subst e5
            have e6 : y6 = cW b := hΦ 6 (by decide)
            subst e6
            clear hΦ hvs
            simp only [putAll, Act.put, List.setIfInBounds_toArray, List.set_cons_succ, List.set_cons_zero]
            have HD4 := Lib.hid hG4
            clear hG4
            go_wp2_with fail
            refine (show Calls _ _ _ _ _ from K4.out _ _ (Ext.trans HX4.out HD4.out) (HW4.out.ext HD4.out) (by have := HLEN.out; simp only [insS, List.length_append] at this ⊢; omega)).mono ?_
            rintro _ w5 ⟨rfl, hW, hk⟩
            have HX5 := Lib.hid (hk.exw (Ext.trans HX4.out HD4.out))
            have HW5 := Lib.hid hW
            have HK5 := Lib.hid (WK.trans HK4.out (WK.trans (WK.of_ext HD4.out HX4.out.size) hk))
            clear hW hk
            go_wp2
            go_end0
            exact ⟨rfl, (by have := HW5.out; simpa only [insS, List.append_assoc] using this), HK5.out⟩
set_option maxRecDepth 100000 in
set_option maxHeartbeats 4000000 in
theorem wOb_any (w0 : World) (b : Nat) (x : Ob) (rb ro : Nat) (hx : Ob.cells w0 rb ro x) (hwf : x.wf) (hnm : x.name.length ≤ 1000000) (hm : MaxL w0) (hm3 : 3 < w0.heap.size) (l : List UInt8) (W : World) (hX : Ext w0 W) (hW : Wrt w0.heap.size b l W) (hlen : (l ++ obS x).length ≤ 100000000000) :
    Calls Tryz.prog 56 #[cW b, .pointer (some ⟨rb, ro, none⟩)] W (WPost w0.heap.size b l (obS x) W) := by
  have K0 := Lib.hid (fun l1 W1 (hE : Ext w0 W1) (h : Wrt w0.heap.size b l1 W1) (hl : l1.length ≤ 100000000000) => (show Calls Tryz.prog 184 #[.pointer (some ⟨b, 0, none⟩), .pointer (some ⟨rb, ro, none⟩)] W1 (WPost w0.heap.size b l1 (txS x.name) W1) from wtext_any w0.heap.size b l1 ⟨rb, ro, none⟩ x.name W1 h (cell_ext hx.c0 hE) rfl hnm (hm.below hm3 hE) hl hE.size))
  have K1 := Lib.hid (fun l1 W1 (hE : Ext w0 W1) (h : Wrt w0.heap.size b l1 W1) (hl : l1.length ≤ 100000000000) => (show Calls Tryz.prog 182 #[.pointer (some ⟨b, 0, none⟩), .pointer (some ⟨rb, ro + 1, none⟩)] W1 (WPost w0.heap.size b l1 (nuS x.kind) W1) from wnum_any w0.heap.size b l1 ⟨rb, ro + 1, none⟩ x.kind W1 h (cell_ext hx.c1 hE) rfl hwf.kind.1 hwf.kind.2 hl hE.size))
  have K2 := Lib.hid (fun l1 W1 (hE : Ext w0 W1) (h : Wrt w0.heap.size b l1 W1) (hl : l1.length ≤ 100000000000) => (show Calls Tryz.prog 182 #[.pointer (some ⟨b, 0, none⟩), .pointer (some ⟨rb, ro + 2, none⟩)] W1 (WPost w0.heap.size b l1 (nuS x.size) W1) from wnum_any w0.heap.size b l1 ⟨rb, ro + 2, none⟩ x.size W1 h (cell_ext hx.c2 hE) rfl hwf.size.1 hwf.size.2 hl hE.size))
  have K3 := Lib.hid (fun l1 W1 (hE : Ext w0 W1) (h : Wrt w0.heap.size b l1 W1) (hl : l1.length ≤ 100000000000) => (show Calls Tryz.prog 182 #[.pointer (some ⟨b, 0, none⟩), .pointer (some ⟨rb, ro + 3, none⟩)] W1 (WPost w0.heap.size b l1 (nuS x.oth) W1) from wnum_any w0.heap.size b l1 ⟨rb, ro + 3, none⟩ x.oth W1 h (cell_ext hx.c3 hE) rfl hwf.oth.1 hwf.oth.2 hl hE.size))
  have hna_n : ∀ W, Sem.run Tryz.prog (nilAhead 358 tWp (.pointer (some ⟨b, 0, none⟩)) "nursery/program.number") W = .ok (some false) W := fun W => by kernel_rfl
  have hna_t : ∀ W, Sem.run Tryz.prog (nilAhead 358 tWp (.pointer (some ⟨b, 0, none⟩)) "nursery/program.text") W = .ok (some false) W := fun W => by kernel_rfl
  have HX0 := Lib.hid hX
  have HW0 := Lib.hid hW
  have HK0 := Lib.hid (WK.refl w0.heap.size b W)
  have HLEN := Lib.hid hlen
  clear hX hW hlen hx hwf hnm hm hm3
  go_enter Tryz.func56, Tryz.ntmps56
  go_wp2
  refine wp_region_tail (l1 := [_, _, _, _, _, _, _]) (l2 := [_]) (by kernel_rfl) Ext (fun W => Below.refl _ W) (fun W => show Below W.heap.size W { W with drawn := W.drawn + 1 } from ⟨rfl, rfl, rfl, Nat.le_refl _, fun _ _ => rfl⟩) Ext.trans
    (fun i s W => match i with
      | 0 => s 0 = cW b
      | 1 => s 1 = .pointer (some ⟨rb, ro, none⟩)
      | 2 => s 2 = .pointer (some ⟨rb, ro, none⟩)
      | 3 => s 3 = .pointer (some ⟨rb, ro, none⟩)
      | 4 => s 4 = .func (.method "nursery/program.text") #[cW b] #[]
      | 5 => s 5 = .func (.method "nursery/program.text") #[cW b] #[]
      | 6 => s 6 = cW b
      | _ => True)
    (fun i => [i])
    (by
      intro i s s' W W' h hs hE
      have hs := hs i (by simp)
      match i, h, hs with
      | 0, h, hs => exact hs.trans h
      | 1, h, hs => exact hs.trans h
      | 2, h, hs => exact hs.trans h
      | 3, h, hs => exact hs.trans h
      | 4, h, hs => exact hs.trans h
      | 5, h, hs => exact hs.trans h
      | 6, h, hs => exact hs.trans h
      | i + 7, h, hs => exact trivial)
    (by kernel_rfl) (by kernel_rfl) (by kernel_rfl) 36 rfl (by kernel_rfl) (by kernel_rfl) ?_ ?_
  · intro i op ho a' W hA

    match i, ho with
    | 0, ho =>
      obtain rfl := Option.some.inj ho
      have e1 : a'.eval (.tmp 0) = cW b := hA.keep 0 (by kernel_rfl)
      refine GoesG.value (cW b) rfl ?_ (Below.refl _ _) (fun s h1 h2 => h1 rfl)
      simp only [execOp, e1]
      simp [go_sem]
    | 1, ho =>
      obtain rfl := Option.some.inj ho
      have e1 : a'.eval (.tmp 1) = .pointer (some ⟨rb, ro, none⟩) := hA.keep 1 (by kernel_rfl)
      refine GoesG.value (.pointer (some ⟨rb, ro, none⟩)) rfl ?_ (Below.refl _ _) (fun s h1 h2 => h1 rfl)
      simp only [execOp, e1]
      simp [go_sem]
    | 2, ho =>
      obtain rfl := Option.some.inj ho
      have e1 : a'.eval (.tmp 5) = .pointer (some ⟨rb, ro, none⟩) := (sv_dst (l := _) rfl).symm.trans (hA.new 1 (by decide) (by kernel_rfl))
      refine GoesG.value (.pointer (some ⟨rb, ro, none⟩)) rfl ?_ (Below.refl _ _) (fun s h1 h2 => h1 rfl)
      simp only [execOp, e1]
      simp [go_sem]
    | 3, ho =>
      obtain rfl := Option.some.inj ho
      have e1 : a'.eval (.tmp 6) = .pointer (some ⟨rb, ro, none⟩) := (sv_dst (l := _) rfl).symm.trans (hA.new 2 (by decide) (by kernel_rfl))
      refine GoesG.value (.pointer (some ⟨rb, ro, none⟩)) rfl ?_ (Below.refl _ _) (fun s h1 h2 => h1 rfl)
      simp only [execOp, e1]
      simp [go_sem]
    | 4, ho =>
      obtain rfl := Option.some.inj ho
      have e1 : a'.eval (.tmp 4) = cW b := (sv_dst (l := _) rfl).symm.trans (hA.new 0 (by decide) (by kernel_rfl))
      refine GoesG.value (.func (.method "nursery/program.text") #[cW b] #[]) rfl ?_ (Below.refl _ _) (fun s h1 h2 => h1 rfl)
      simp only [execOp, e1]
      simp [go_sem]
      simpa [Act.eval] using e1
    | 5, ho =>
      obtain rfl := Option.some.inj ho
      have e1 : a'.eval (.tmp 8) = .func (.method "nursery/program.text") #[cW b] #[] := (sv_dst (l := _) rfl).symm.trans (hA.new 4 (by decide) (by kernel_rfl))
      refine GoesG.value (.func (.method "nursery/program.text") #[cW b] #[]) rfl ?_ (Below.refl _ _) (fun s h1 h2 => h1 rfl)
      simp only [execOp, e1]
      simp [go_sem, hna_t]
    | 6, ho =>
      obtain rfl := Option.some.inj ho
      have e1 : a'.eval (.tmp 4) = cW b := (sv_dst (l := _) rfl).symm.trans (hA.new 0 (by decide) (by kernel_rfl))
      refine GoesG.value (cW b) rfl ?_ (Below.refl _ _) (fun s h1 h2 => h1 rfl)
      simp only [execOp, e1]
      simp [go_sem]
    | i + 7, ho => cases ho
  · intro vs w1d hvs hG0 hΦ
    obtain ⟨y0, y1, y2, y3, y4, y5, y6, rfl⟩ : ∃ y0 y1 y2 y3 y4 y5 y6, vs = y0 :: y1 :: y2 :: y3 :: y4 :: y5 :: y6 :: [] := by
      match vs, hvs with
      | y0 :: y1 :: y2 :: y3 :: y4 :: y5 :: y6 :: [], _ => exact ⟨y0, y1, y2, y3, y4, y5, y6, rfl⟩
    have e0 : y0 = cW b := hΦ 0 (by decide)
    subst e0
    have e1 : y1 = .pointer (some ⟨rb, ro, none⟩) := hΦ 1 (by decide)
    subst e1
    have e2 : y2 = .pointer (some ⟨rb, ro, none⟩) := hΦ 2 (by decide)
    subst e2
    have e3 : y3 = .pointer (some ⟨rb, ro, none⟩) := hΦ 3 (by decide)
    subst e3
    have e4 : y4 = .func (.method "nursery/program.text") #[cW b] #[] := hΦ 4 (by decide)
    subst e4
    have e5 : y5 = .func (.method "nursery/program.text") #[cW b] #[] := hΦ 5 (by decide)
    subst e5
    have e6 : y6 = cW b := hΦ 6 (by decide)
    subst e6
    clear hΦ hvs
    simp only [putAll, Act.put, List.setIfInBounds_toArray, List.set_cons_succ, List.set_cons_zero]
    have HD0 := Lib.hid hG0
    clear hG0
    go_wp2_with fail
    refine (show Calls _ _ _ _ _ from K0.out _ _ (Ext.trans HX0.out HD0.out) (HW0.out.ext HD0.out) (by have := HLEN.out; simp only [obS, List.length_append] at this ⊢; omega)).mono ?_
    rintro _ w1 ⟨rfl, hW, hk⟩
    have HX1 := Lib.hid (hk.exw (Ext.trans HX0.out HD0.out))
    have HW1 := Lib.hid hW
    have HK1 := Lib.hid (WK.trans HK0.out (WK.trans (WK.of_ext HD0.out HX0.out.size) hk))
    clear hW hk
    go_wp2
    refine wp_region_tail (l1 := [_, _, _, _, _, _, _]) (l2 := [_]) (by kernel_rfl) Ext (fun W => Below.refl _ W) (fun W => show Below W.heap.size W { W with drawn := W.drawn + 1 } from ⟨rfl, rfl, rfl, Nat.le_refl _, fun _ _ => rfl⟩) Ext.trans
      (fun i s W => match i with
        | 0 => s 0 = cW b
        | 1 => s 1 = .pointer (some ⟨rb, ro, none⟩)
        | 2 => s 2 = .pointer (some ⟨rb, ro, none⟩)
        | 3 => s 3 = .pointer (some ⟨rb, ro + 1, none⟩)
        | 4 => s 4 = .func (.method "nursery/program.number") #[cW b] #[]
        | 5 => s 5 = .func (.method "nursery/program.number") #[cW b] #[]
        | 6 => s 6 = cW b
        | _ => True)
      (fun i => [i])
      (by
        intro i s s' W W' h hs hE
        have hs := hs i (by simp)
        match i, h, hs with
        | 0, h, hs => exact hs.trans h
        | 1, h, hs => exact hs.trans h
        | 2, h, hs => exact hs.trans h
        | 3, h, hs => exact hs.trans h
        | 4, h, hs => exact hs.trans h
        | 5, h, hs => exact hs.trans h
        | 6, h, hs => exact hs.trans h
        | i + 7, h, hs => exact trivial)
      (by kernel_rfl) (by kernel_rfl) (by kernel_rfl) 36 rfl (by kernel_rfl) (by kernel_rfl) ?_ ?_
    · intro i op ho a' W hA

      match i, ho with
      | 0, ho =>
        obtain rfl := Option.some.inj ho
        have e1 : a'.eval (.tmp 0) = cW b := hA.keep 0 (by kernel_rfl)
        refine GoesG.value (cW b) rfl ?_ (Below.refl _ _) (fun s h1 h2 => h1 rfl)
        simp only [execOp, e1]
        simp [go_sem]
      | 1, ho =>
        obtain rfl := Option.some.inj ho
        have e1 : a'.eval (.tmp 1) = .pointer (some ⟨rb, ro, none⟩) := hA.keep 1 (by kernel_rfl)
        refine GoesG.value (.pointer (some ⟨rb, ro, none⟩)) rfl ?_ (Below.refl _ _) (fun s h1 h2 => h1 rfl)
        simp only [execOp, e1]
        simp [go_sem]
      | 2, ho =>
        obtain rfl := Option.some.inj ho
        have e1 : a'.eval (.tmp 13) = .pointer (some ⟨rb, ro, none⟩) := (sv_dst (l := _) rfl).symm.trans (hA.new 1 (by decide) (by kernel_rfl))
        refine GoesG.value (.pointer (some ⟨rb, ro, none⟩)) rfl ?_ (Below.refl _ _) (fun s h1 h2 => h1 rfl)
        simp only [execOp, e1]
        simp [go_sem]
      | 3, ho =>
        obtain rfl := Option.some.inj ho
        have e1 : a'.eval (.tmp 14) = .pointer (some ⟨rb, ro, none⟩) := (sv_dst (l := _) rfl).symm.trans (hA.new 2 (by decide) (by kernel_rfl))
        refine GoesG.value (.pointer (some ⟨rb, ro + 1, none⟩)) rfl ?_ (Below.refl _ _) (fun s h1 h2 => h1 rfl)
        simp only [execOp, e1]
        simp [go_sem]
      | 4, ho =>
        obtain rfl := Option.some.inj ho
        have e1 : a'.eval (.tmp 12) = cW b := (sv_dst (l := _) rfl).symm.trans (hA.new 0 (by decide) (by kernel_rfl))
        refine GoesG.value (.func (.method "nursery/program.number") #[cW b] #[]) rfl ?_ (Below.refl _ _) (fun s h1 h2 => h1 rfl)
        simp only [execOp, e1]
        simp [go_sem]
        simpa [Act.eval] using e1
      | 5, ho =>
        obtain rfl := Option.some.inj ho
        have e1 : a'.eval (.tmp 16) = .func (.method "nursery/program.number") #[cW b] #[] := (sv_dst (l := _) rfl).symm.trans (hA.new 4 (by decide) (by kernel_rfl))
        refine GoesG.value (.func (.method "nursery/program.number") #[cW b] #[]) rfl ?_ (Below.refl _ _) (fun s h1 h2 => h1 rfl)
        simp only [execOp, e1]
        simp [go_sem, hna_n]
      | 6, ho =>
        obtain rfl := Option.some.inj ho
        have e1 : a'.eval (.tmp 12) = cW b := (sv_dst (l := _) rfl).symm.trans (hA.new 0 (by decide) (by kernel_rfl))
        refine GoesG.value (cW b) rfl ?_ (Below.refl _ _) (fun s h1 h2 => h1 rfl)
        simp only [execOp, e1]
        simp [go_sem]
      | i + 7, ho => cases ho
    · intro vs w2d hvs hG1 hΦ
      obtain ⟨y0, y1, y2, y3, y4, y5, y6, rfl⟩ : ∃ y0 y1 y2 y3 y4 y5 y6, vs = y0 :: y1 :: y2 :: y3 :: y4 :: y5 :: y6 :: [] := by
        match vs, hvs with
        | y0 :: y1 :: y2 :: y3 :: y4 :: y5 :: y6 :: [], _ => exact ⟨y0, y1, y2, y3, y4, y5, y6, rfl⟩
      have e0 : y0 = cW b := hΦ 0 (by decide)
      subst e0
      have e1 : y1 = .pointer (some ⟨rb, ro, none⟩) := hΦ 1 (by decide)
      subst e1
      have e2 : y2 = .pointer (some ⟨rb, ro, none⟩) := hΦ 2 (by decide)
      subst e2
      have e3 : y3 = .pointer (some ⟨rb, ro + 1, none⟩) := hΦ 3 (by decide)
      subst e3
      have e4 : y4 = .func (.method "nursery/program.number") #[cW b] #[] := hΦ 4 (by decide)
      subst e4
      have e5 : y5 = .func (.method "nursery/program.number") #[cW b] #[] := hΦ 5 (by decide)
      subst e5
      have e6 : y6 = cW b := hΦ 6 (by decide)
      subst e6
      clear hΦ hvs
      simp only [putAll, Act.put, List.setIfInBounds_toArray, List.set_cons_succ, List.set_cons_zero]
      have HD1 := Lib.hid hG1
      clear hG1
      go_wp2_with fail
      refine (show Calls _ _ _ _ _ from K1.out _ _ (Ext.trans HX1.out HD1.out) (HW1.out.ext HD1.out) (by have := HLEN.out; simp only [obS, List.length_append] at this ⊢; omega)).mono ?_
      rintro _ w2 ⟨rfl, hW, hk⟩
      have HX2 := Lib.hid (hk.exw (Ext.trans HX1.out HD1.out))
      have HW2 := Lib.hid hW
      have HK2 := Lib.hid (WK.trans HK1.out (WK.trans (WK.of_ext HD1.out HX1.out.size) hk))
      clear hW hk
      go_wp2
      refine wp_region_tail (l1 := [_, _, _, _, _, _, _]) (l2 := [_]) (by kernel_rfl) Ext (fun W => Below.refl _ W) (fun W => show Below W.heap.size W { W with drawn := W.drawn + 1 } from ⟨rfl, rfl, rfl, Nat.le_refl _, fun _ _ => rfl⟩) Ext.trans
        (fun i s W => match i with
          | 0 => s 0 = cW b
          | 1 => s 1 = .pointer (some ⟨rb, ro, none⟩)
          | 2 => s 2 = .pointer (some ⟨rb, ro, none⟩)
          | 3 => s 3 = .pointer (some ⟨rb, ro + 2, none⟩)
          | 4 => s 4 = .func (.method "nursery/program.number") #[cW b] #[]
          | 5 => s 5 = .func (.method "nursery/program.number") #[cW b] #[]
          | 6 => s 6 = cW b
          | _ => True)
        (fun i => [i])
        (by
          intro i s s' W W' h hs hE
          have hs := hs i (by simp)
          match i, h, hs with
          | 0, h, hs => exact hs.trans h
          | 1, h, hs => exact hs.trans h
          | 2, h, hs => exact hs.trans h
          | 3, h, hs => exact hs.trans h
          | 4, h, hs => exact hs.trans h
          | 5, h, hs => exact hs.trans h
          | 6, h, hs => exact hs.trans h
          | i + 7, h, hs => exact trivial)
        (by kernel_rfl) (by kernel_rfl) (by kernel_rfl) 36 rfl (by kernel_rfl) (by kernel_rfl) ?_ ?_
      · intro i op ho a' W hA

        match i, ho with
        | 0, ho =>
          obtain rfl := Option.some.inj ho
          have e1 : a'.eval (.tmp 0) = cW b := hA.keep 0 (by kernel_rfl)
          refine GoesG.value (cW b) rfl ?_ (Below.refl _ _) (fun s h1 h2 => h1 rfl)
          simp only [execOp, e1]
          simp [go_sem]
        | 1, ho =>
          obtain rfl := Option.some.inj ho
          have e1 : a'.eval (.tmp 1) = .pointer (some ⟨rb, ro, none⟩) := hA.keep 1 (by kernel_rfl)
          refine GoesG.value (.pointer (some ⟨rb, ro, none⟩)) rfl ?_ (Below.refl _ _) (fun s h1 h2 => h1 rfl)
          simp only [execOp, e1]
          simp [go_sem]
        | 2, ho =>
          obtain rfl := Option.some.inj ho
          have e1 : a'.eval (.tmp 21) = .pointer (some ⟨rb, ro, none⟩) := (sv_dst (l := _) rfl).symm.trans (hA.new 1 (by decide) (by kernel_rfl))
          refine GoesG.value (.pointer (some ⟨rb, ro, none⟩)) rfl ?_ (Below.refl _ _) (fun s h1 h2 => h1 rfl)
          simp only [execOp, e1]
          simp [go_sem]
        | 3, ho =>
          obtain rfl := Option.some.inj ho
          have e1 : a'.eval (.tmp 22) = .pointer (some ⟨rb, ro, none⟩) := (sv_dst (l := _) rfl).symm.trans (hA.new 2 (by decide) (by kernel_rfl))
          refine GoesG.value (.pointer (some ⟨rb, ro + 2, none⟩)) rfl ?_ (Below.refl _ _) (fun s h1 h2 => h1 rfl)
          simp only [execOp, e1]
          simp [go_sem]
        | 4, ho =>
          obtain rfl := Option.some.inj ho
          have e1 : a'.eval (.tmp 20) = cW b := (sv_dst (l := _) rfl).symm.trans (hA.new 0 (by decide) (by kernel_rfl))
          refine GoesG.value (.func (.method "nursery/program.number") #[cW b] #[]) rfl ?_ (Below.refl _ _) (fun s h1 h2 => h1 rfl)
          simp only [execOp, e1]
          simp [go_sem]
          simpa [Act.eval] using e1
        | 5, ho =>
          obtain rfl := Option.some.inj ho
          have e1 : a'.eval (.tmp 24) = .func (.method "nursery/program.number") #[cW b] #[] := (sv_dst (l := _) rfl).symm.trans (hA.new 4 (by decide) (by kernel_rfl))
          refine GoesG.value (.func (.method "nursery/program.number") #[cW b] #[]) rfl ?_ (Below.refl _ _) (fun s h1 h2 => h1 rfl)
          simp only [execOp, e1]
          simp [go_sem, hna_n]
        | 6, ho =>
          obtain rfl := Option.some.inj ho
          have e1 : a'.eval (.tmp 20) = cW b := (sv_dst (l := _) rfl).symm.trans (hA.new 0 (by decide) (by kernel_rfl))
          refine GoesG.value (cW b) rfl ?_ (Below.refl _ _) (fun s h1 h2 => h1 rfl)
          simp only [execOp, e1]
          simp [go_sem]
        | i + 7, ho => cases ho
      · intro vs w3d hvs hG2 hΦ
        obtain ⟨y0, y1, y2, y3, y4, y5, y6, rfl⟩ : ∃ y0 y1 y2 y3 y4 y5 y6, vs = y0 :: y1 :: y2 :: y3 :: y4 :: y5 :: y6 :: [] := by
          match vs, hvs with
          | y0 :: y1 :: y2 :: y3 :: y4 :: y5 :: y6 :: [], _ => exact ⟨y0, y1, y2, y3, y4, y5, y6, rfl⟩
        have e0 : y0 = cW b := hΦ 0 (by decide)
        subst e0
        have e1 : y1 = .pointer (some ⟨rb, ro, none⟩) := hΦ 1 (by decide)
        subst e1
        have e2 : y2 = .pointer (some ⟨rb, ro, none⟩) := hΦ 2 (by decide)
        subst e2
        have e3 : y3 = .pointer (some ⟨rb, ro + 2, none⟩) := hΦ 3 (by decide)
        subst e3
        have e4 : y4 = .func (.method "nursery/program.number") #[cW b] #[] := hΦ 4 (by decide)
        subst e4
        have e5 : y5 = .func (.method "nursery/program.number") #[cW b] #[] := hΦ 5 (by decide)
        subst e5
        have e6 : y6 = cW b := hΦ 6 (by decide)
        subst e6
        clear hΦ hvs
        simp only [putAll, Act.put, List.setIfInBounds_toArray, List.set_cons_succ, List.set_cons_zero]
        have HD2 := Lib.hid hG2
        clear hG2
        go_wp2_with fail
        refine (show Calls _ _ _ _ _ from K2.out _ _ (Ext.trans HX2.out HD2.out) (HW2.out.ext HD2.out) (by have := HLEN.out; simp only [obS, List.length_append] at this ⊢; omega)).mono ?_
        rintro _ w3 ⟨rfl, hW, hk⟩
        have HX3 := Lib.hid (hk.exw (Ext.trans HX2.out HD2.out))
        have HW3 := Lib.hid hW
        have HK3 := Lib.hid (WK.trans HK2.out (WK.trans (WK.of_ext HD2.out HX2.out.size) hk))
        clear hW hk
        go_wp2
        refine wp_region_tail (l1 := [_, _, _, _, _, _, _]) (l2 := [_]) (by kernel_rfl) Ext (fun W => Below.refl _ W) (fun W => show Below W.heap.size W { W with drawn := W.drawn + 1 } from ⟨rfl, rfl, rfl, Nat.le_refl _, fun _ _ => rfl⟩) Ext.trans
          (fun i s W => match i with
            | 0 => s 0 = cW b
            | 1 => s 1 = .pointer (some ⟨rb, ro, none⟩)
            | 2 => s 2 = .pointer (some ⟨rb, ro, none⟩)
            | 3 => s 3 = .pointer (some ⟨rb, ro + 3, none⟩)
            | 4 => s 4 = .func (.method "nursery/program.number") #[cW b] #[]
            | 5 => s 5 = .func (.method "nursery/program.number") #[cW b] #[]
            | 6 => s 6 = cW b
            | _ => True)
          (fun i => [i])
          (by
            intro i s s' W W' h hs hE
            have hs := hs i (by simp)
            match i, h, hs with
            | 0, h, hs => exact hs.trans h
            | 1, h, hs => exact hs.trans h
            | 2, h, hs => exact hs.trans h
            | 3, h, hs => exact hs.trans h
            | 4, h, hs => exact hs.trans h
            | 5, h, hs => exact hs.trans h
            | 6, h, hs => exact hs.trans h
            | i + 7, h, hs => exact trivial)
          (by kernel_rfl) (by kernel_rfl) (by kernel_rfl) 36 rfl (by kernel_rfl) (by kernel_rfl) ?_ ?_
        · intro i op ho a' W hA

          match i, ho with
          | 0, ho =>
            obtain rfl := Option.some.inj ho
            have e1 : a'.eval (.tmp 0) = cW b := hA.keep 0 (by kernel_rfl)
            refine GoesG.value (cW b) rfl ?_ (Below.refl _ _) (fun s h1 h2 => h1 rfl)
            simp only [execOp, e1]
            simp [go_sem]
          | 1, ho =>
            obtain rfl := Option.some.inj ho
            have e1 : a'.eval (.tmp 1) = .pointer (some ⟨rb, ro, none⟩) := hA.keep 1 (by kernel_rfl)
            refine GoesG.value (.pointer (some ⟨rb, ro, none⟩)) rfl ?_ (Below.refl _ _) (fun s h1 h2 => h1 rfl)
            simp only [execOp, e1]
            simp [go_sem]
          | 2, ho =>
            obtain rfl := Option.some.inj ho
            have e1 : a'.eval (.tmp 29) = .pointer (some ⟨rb, ro, none⟩) := (sv_dst (l := _) rfl).symm.trans (hA.new 1 (by decide) (by kernel_rfl))
            refine GoesG.value (.pointer (some ⟨rb, ro, none⟩)) rfl ?_ (Below.refl _ _) (fun s h1 h2 => h1 rfl)
            simp only [execOp, e1]
            simp [go_sem]
          | 3, ho =>
            obtain rfl := Option.some.inj ho
            have e1 : a'.eval (.tmp 30) = .pointer (some ⟨rb, ro, none⟩) := (sv_dst (l := _) rfl).symm.trans (hA.new 2 (by decide) (by kernel_rfl))
            refine GoesG.value (.pointer (some ⟨rb, ro + 3, none⟩)) rfl ?_ (Below.refl _ _) (fun s h1 h2 => h1 rfl)
            simp only [execOp, e1]
            simp [go_sem]
          | 4, ho =>
            obtain rfl := Option.some.inj ho
            have e1 : a'.eval (.tmp 28) = cW b := (sv_dst (l := _) rfl).symm.trans (hA.new 0 (by decide) (by kernel_rfl))
            refine GoesG.value (.func (.method "nursery/program.number") #[cW b] #[]) rfl ?_ (Below.refl _ _) (fun s h1 h2 => h1 rfl)
            simp only [execOp, e1]
            simp [go_sem]
            simpa [Act.eval] using e1
          | 5, ho =>
            obtain rfl := Option.some.inj ho
            have e1 : a'.eval (.tmp 32) = .func (.method "nursery/program.number") #[cW b] #[] := (sv_dst (l := _) rfl).symm.trans (hA.new 4 (by decide) (by kernel_rfl))
            refine GoesG.value (.func (.method "nursery/program.number") #[cW b] #[]) rfl ?_ (Below.refl _ _) (fun s h1 h2 => h1 rfl)
            simp only [execOp, e1]
            simp [go_sem, hna_n]
          | 6, ho =>
            obtain rfl := Option.some.inj ho
            have e1 : a'.eval (.tmp 28) = cW b := (sv_dst (l := _) rfl).symm.trans (hA.new 0 (by decide) (by kernel_rfl))
            refine GoesG.value (cW b) rfl ?_ (Below.refl _ _) (fun s h1 h2 => h1 rfl)
            simp only [execOp, e1]
            simp [go_sem]
          | i + 7, ho => cases ho
        · intro vs w4d hvs hG3 hΦ
          obtain ⟨y0, y1, y2, y3, y4, y5, y6, rfl⟩ : ∃ y0 y1 y2 y3 y4 y5 y6, vs = y0 :: y1 :: y2 :: y3 :: y4 :: y5 :: y6 :: [] := by
            match vs, hvs with
            | y0 :: y1 :: y2 :: y3 :: y4 :: y5 :: y6 :: [], _ => exact ⟨y0, y1, y2, y3, y4, y5, y6, rfl⟩
          have e0 : y0 = cW b := hΦ 0 (by decide)
          subst e0
          have e1 : y1 = .pointer (some ⟨rb, ro, none⟩) := hΦ 1 (by decide)
          subst e1
          have e2 : y2 = .pointer (some ⟨rb, ro, none⟩) := hΦ 2 (by decide)
          subst e2
          have e3 : y3 = .pointer (some ⟨rb, ro + 3, none⟩) := hΦ 3 (by decide)
          subst e3
          have e4 : y4 = .func (.method "nursery/program.number") #[cW b] #[] := hΦ 4 (by decide)
          subst e4
          have e5 : y5 = .func (.method "nursery/program.number") #[cW b] #[] := hΦ 5 (by decide)
          subst e5
          have e6 : y6 = cW b := hΦ 6 (by decide)
          subst e6
          clear hΦ hvs
          simp only [putAll, Act.put, List.setIfInBounds_toArray, List.set_cons_succ, List.set_cons_zero]
          have HD3 := Lib.hid hG3
          clear hG3
          go_wp2_with fail
          refine (show Calls _ _ _ _ _ from K3.out _ _ (Ext.trans HX3.out HD3.out) (HW3.out.ext HD3.out) (by have := HLEN.out; simp only [obS, List.length_append] at this ⊢; omega)).mono ?_
          rintro _ w4 ⟨rfl, hW, hk⟩
          have HX4 := Lib.hid (hk.exw (Ext.trans HX3.out HD3.out))
          have HW4 := Lib.hid hW
          have HK4 := Lib.hid (WK.trans HK3.out (WK.trans (WK.of_ext HD3.out HX3.out.size) hk))
          clear hW hk
          go_wp2
          go_end0
          exact ⟨rfl, (by have := HW4.out; simpa only [obS, List.append_assoc] using this), HK4.out⟩
set_option maxRecDepth 100000 in
set_option maxHeartbeats 4000000 in
theorem wVa_any (w0 : World) (b : Nat) (x : Va) (rb ro : Nat) (hx : Va.cells w0 rb ro x) (hwf : x.wf) (hnm : x.name.length ≤ 1000000) (hm : MaxL w0) (hm3 : 3 < w0.heap.size) (hf : w0.frozen? ⟨rb, ro + 2, none⟩ = false) (l : List UInt8) (W : World) (hX : Ext w0 W) (hW : Wrt w0.heap.size b l W) (hlen : (l ++ vaS x).length ≤ 100000000000) :
    Calls Tryz.prog 58 #[cW b, .pointer (some ⟨rb, ro, none⟩)] W (WPost w0.heap.size b l (vaS x) W) := by
  have K0 := Lib.hid (fun l1 W1 (hE : Ext w0 W1) (h : Wrt w0.heap.size b l1 W1) (hl : l1.length ≤ 100000000000) => (show Calls Tryz.prog 184 #[.pointer (some ⟨b, 0, none⟩), .pointer (some ⟨rb, ro, none⟩)] W1 (WPost w0.heap.size b l1 (txS x.name) W1) from wtext_any w0.heap.size b l1 ⟨rb, ro, none⟩ x.name W1 h (cell_ext hx.c0 hE) rfl hnm (hm.below hm3 hE) hl hE.size))
  have K1 := Lib.hid (fun l1 W1 (hE : Ext w0 W1) (h : Wrt w0.heap.size b l1 W1) (hl : l1.length ≤ 100000000000) => (show Calls Tryz.prog 182 #[.pointer (some ⟨b, 0, none⟩), .pointer (some ⟨rb, ro + 1, none⟩)] W1 (WPost w0.heap.size b l1 (nuS x.init) W1) from wnum_any w0.heap.size b l1 ⟨rb, ro + 1, none⟩ x.init W1 h (cell_ext hx.c1 hE) rfl hwf.init.1 hwf.init.2 hl hE.size))
  have K2 := Lib.hid (fun l1 W1 (hE : Ext w0 W1) (h : Wrt w0.heap.size b l1 W1) (hl : l1.length ≤ 100000000000) => (show Calls Tryz.prog 52 #[cW b, .pointer (some ⟨rb, ro + 2, none⟩)] W1 (WPost w0.heap.size b l1 (nuS (boN x.atomic)) W1) from wflag_any w0.heap.size b l1 rb (ro + 2) x.atomic W1 h (cell_ext hx.c2 hE) (free_ext hf (cell_lt2 hx.c2) hE) (cell_lt2 hx.c2) hl hE.size (Wrt.lt h)))
  have hna_n : ∀ W, Sem.run Tryz.prog (nilAhead 358 tWp (.pointer (some ⟨b, 0, none⟩)) "nursery/program.number") W = .ok (some false) W := fun W => by kernel_rfl
  have hna_t : ∀ W, Sem.run Tryz.prog (nilAhead 358 tWp (.pointer (some ⟨b, 0, none⟩)) "nursery/program.text") W = .ok (some false) W := fun W => by kernel_rfl
  have HX0 := Lib.hid hX
  have HW0 := Lib.hid hW
  have HK0 := Lib.hid (WK.refl w0.heap.size b W)
  have HLEN := Lib.hid hlen
  clear hX hW hlen hx hwf hnm hm hm3 hf
  go_enter Tryz.func58, Tryz.ntmps58
  go_wp2
  refine wp_region_tail (l1 := [_, _, _, _, _, _, _]) (l2 := [_]) (by kernel_rfl) Ext (fun W => Below.refl _ W) (fun W => show Below W.heap.size W { W with drawn := W.drawn + 1 } from ⟨rfl, rfl, rfl, Nat.le_refl _, fun _ _ => rfl⟩) Ext.trans
    (fun i s W => match i with
      | 0 => s 0 = cW b
      | 1 => s 1 = .pointer (some ⟨rb, ro, none⟩)
      | 2 => s 2 = .pointer (some ⟨rb, ro, none⟩)
      | 3 => s 3 = .pointer (some ⟨rb, ro, none⟩)
      | 4 => s 4 = .func (.method "nursery/program.text") #[cW b] #[]
      | 5 => s 5 = .func (.method "nursery/program.text") #[cW b] #[]
      | 6 => s 6 = cW b
      | _ => True)
    (fun i => [i])
    (by
      intro i s s' W W' h hs hE
      have hs := hs i (by simp)
      match i, h, hs with
      | 0, h, hs => exact hs.trans h
      | 1, h, hs => exact hs.trans h
      | 2, h, hs => exact hs.trans h
      | 3, h, hs => exact hs.trans h
      | 4, h, hs => exact hs.trans h
      | 5, h, hs => exact hs.trans h
      | 6, h, hs => exact hs.trans h
      | i + 7, h, hs => exact trivial)
    (by kernel_rfl) (by kernel_rfl) (by kernel_rfl) 25 rfl (by kernel_rfl) (by kernel_rfl) ?_ ?_
  · intro i op ho a' W hA

    match i, ho with
    | 0, ho =>
      obtain rfl := Option.some.inj ho
      have e1 : a'.eval (.tmp 0) = cW b := hA.keep 0 (by kernel_rfl)
      refine GoesG.value (cW b) rfl ?_ (Below.refl _ _) (fun s h1 h2 => h1 rfl)
      simp only [execOp, e1]
      simp [go_sem]
    | 1, ho =>
      obtain rfl := Option.some.inj ho
      have e1 : a'.eval (.tmp 1) = .pointer (some ⟨rb, ro, none⟩) := hA.keep 1 (by kernel_rfl)
      refine GoesG.value (.pointer (some ⟨rb, ro, none⟩)) rfl ?_ (Below.refl _ _) (fun s h1 h2 => h1 rfl)
      simp only [execOp, e1]
      simp [go_sem]
    | 2, ho =>
      obtain rfl := Option.some.inj ho
      have e1 : a'.eval (.tmp 5) = .pointer (some ⟨rb, ro, none⟩) := (sv_dst (l := _) rfl).symm.trans (hA.new 1 (by decide) (by kernel_rfl))
      refine GoesG.value (.pointer (some ⟨rb, ro, none⟩)) rfl ?_ (Below.refl _ _) (fun s h1 h2 => h1 rfl)
      simp only [execOp, e1]
      simp [go_sem]
    | 3, ho =>
      obtain rfl := Option.some.inj ho
      have e1 : a'.eval (.tmp 6) = .pointer (some ⟨rb, ro, none⟩) := (sv_dst (l := _) rfl).symm.trans (hA.new 2 (by decide) (by kernel_rfl))
      refine GoesG.value (.pointer (some ⟨rb, ro, none⟩)) rfl ?_ (Below.refl _ _) (fun s h1 h2 => h1 rfl)
      simp only [execOp, e1]
      simp [go_sem]
    | 4, ho =>
      obtain rfl := Option.some.inj ho
      have e1 : a'.eval (.tmp 4) = cW b := (sv_dst (l := _) rfl).symm.trans (hA.new 0 (by decide) (by kernel_rfl))
      refine GoesG.value (.func (.method "nursery/program.text") #[cW b] #[]) rfl ?_ (Below.refl _ _) (fun s h1 h2 => h1 rfl)
      simp only [execOp, e1]
      simp [go_sem]
      simpa [Act.eval] using e1
    | 5, ho =>
      obtain rfl := Option.some.inj ho
      have e1 : a'.eval (.tmp 8) = .func (.method "nursery/program.text") #[cW b] #[] := (sv_dst (l := _) rfl).symm.trans (hA.new 4 (by decide) (by kernel_rfl))
      refine GoesG.value (.func (.method "nursery/program.text") #[cW b] #[]) rfl ?_ (Below.refl _ _) (fun s h1 h2 => h1 rfl)
      simp only [execOp, e1]
      simp [go_sem, hna_t]
    | 6, ho =>
      obtain rfl := Option.some.inj ho
      have e1 : a'.eval (.tmp 4) = cW b := (sv_dst (l := _) rfl).symm.trans (hA.new 0 (by decide) (by kernel_rfl))
      refine GoesG.value (cW b) rfl ?_ (Below.refl _ _) (fun s h1 h2 => h1 rfl)
      simp only [execOp, e1]
      simp [go_sem]
    | i + 7, ho => cases ho
  · intro vs w1d hvs hG0 hΦ
    obtain ⟨y0, y1, y2, y3, y4, y5, y6, rfl⟩ : ∃ y0 y1 y2 y3 y4 y5 y6, vs = y0 :: y1 :: y2 :: y3 :: y4 :: y5 :: y6 :: [] := by
      match vs, hvs with
      | y0 :: y1 :: y2 :: y3 :: y4 :: y5 :: y6 :: [], _ => exact ⟨y0, y1, y2, y3, y4, y5, y6, rfl⟩
    have e0 : y0 = cW b := hΦ 0 (by decide)
    subst e0
    have e1 : y1 = .pointer (some ⟨rb, ro, none⟩) := hΦ 1 (by decide)
    subst e1
    have e2 : y2 = .pointer (some ⟨rb, ro, none⟩) := hΦ 2 (by decide)
    subst e2
    have e3 : y3 = .pointer (some ⟨rb, ro, none⟩) := hΦ 3 (by decide)
    subst e3
    have e4 : y4 = .func (.method "nursery/program.text") #[cW b] #[] := hΦ 4 (by decide)
    subst e4
    have e5 : y5 = .func (.method "nursery/program.text") #[cW b] #[] := hΦ 5 (by decide)
    subst e5
    have e6 : y6 = cW b := hΦ 6 (by decide)
    subst e6
    clear hΦ hvs
    simp only [putAll, Act.put, List.setIfInBounds_toArray, List.set_cons_succ, List.set_cons_zero]
    have HD0 := Lib.hid hG0
    clear hG0
    go_wp2_with fail
    refine (show Calls _ _ _ _ _ from K0.out _ _ (Ext.trans HX0.out HD0.out) (HW0.out.ext HD0.out) (by have := HLEN.out; simp only [vaS, List.length_append] at this ⊢; omega)).mono ?_
    rintro _ w1 ⟨rfl, hW, hk⟩
    have HX1 := Lib.hid (hk.exw (Ext.trans HX0.out HD0.out))
    have HW1 := Lib.hid hW
    have HK1 := Lib.hid (WK.trans HK0.out (WK.trans (WK.of_ext HD0.out HX0.out.size) hk))
    clear hW hk
    go_wp2
    refine wp_region_tail (l1 := [_, _, _, _, _, _, _]) (l2 := [_]) (by kernel_rfl) Ext (fun W => Below.refl _ W) (fun W => show Below W.heap.size W { W with drawn := W.drawn + 1 } from ⟨rfl, rfl, rfl, Nat.le_refl _, fun _ _ => rfl⟩) Ext.trans
      (fun i s W => match i with
        | 0 => s 0 = cW b
        | 1 => s 1 = .pointer (some ⟨rb, ro, none⟩)
        | 2 => s 2 = .pointer (some ⟨rb, ro, none⟩)
        | 3 => s 3 = .pointer (some ⟨rb, ro + 1, none⟩)
        | 4 => s 4 = .func (.method "nursery/program.number") #[cW b] #[]
        | 5 => s 5 = .func (.method "nursery/program.number") #[cW b] #[]
        | 6 => s 6 = cW b
        | _ => True)
      (fun i => [i])
      (by
        intro i s s' W W' h hs hE
        have hs := hs i (by simp)
        match i, h, hs with
        | 0, h, hs => exact hs.trans h
        | 1, h, hs => exact hs.trans h
        | 2, h, hs => exact hs.trans h
        | 3, h, hs => exact hs.trans h
        | 4, h, hs => exact hs.trans h
        | 5, h, hs => exact hs.trans h
        | 6, h, hs => exact hs.trans h
        | i + 7, h, hs => exact trivial)
      (by kernel_rfl) (by kernel_rfl) (by kernel_rfl) 25 rfl (by kernel_rfl) (by kernel_rfl) ?_ ?_
    · intro i op ho a' W hA

      match i, ho with
      | 0, ho =>
        obtain rfl := Option.some.inj ho
        have e1 : a'.eval (.tmp 0) = cW b := hA.keep 0 (by kernel_rfl)
        refine GoesG.value (cW b) rfl ?_ (Below.refl _ _) (fun s h1 h2 => h1 rfl)
        simp only [execOp, e1]
        simp [go_sem]
      | 1, ho =>
        obtain rfl := Option.some.inj ho
        have e1 : a'.eval (.tmp 1) = .pointer (some ⟨rb, ro, none⟩) := hA.keep 1 (by kernel_rfl)
        refine GoesG.value (.pointer (some ⟨rb, ro, none⟩)) rfl ?_ (Below.refl _ _) (fun s h1 h2 => h1 rfl)
        simp only [execOp, e1]
        simp [go_sem]
      | 2, ho =>
        obtain rfl := Option.some.inj ho
        have e1 : a'.eval (.tmp 13) = .pointer (some ⟨rb, ro, none⟩) := (sv_dst (l := _) rfl).symm.trans (hA.new 1 (by decide) (by kernel_rfl))
        refine GoesG.value (.pointer (some ⟨rb, ro, none⟩)) rfl ?_ (Below.refl _ _) (fun s h1 h2 => h1 rfl)
        simp only [execOp, e1]
        simp [go_sem]
      | 3, ho =>
        obtain rfl := Option.some.inj ho
        have e1 : a'.eval (.tmp 14) = .pointer (some ⟨rb, ro, none⟩) := (sv_dst (l := _) rfl).symm.trans (hA.new 2 (by decide) (by kernel_rfl))
        refine GoesG.value (.pointer (some ⟨rb, ro + 1, none⟩)) rfl ?_ (Below.refl _ _) (fun s h1 h2 => h1 rfl)
        simp only [execOp, e1]
        simp [go_sem]
      | 4, ho =>
        obtain rfl := Option.some.inj ho
        have e1 : a'.eval (.tmp 12) = cW b := (sv_dst (l := _) rfl).symm.trans (hA.new 0 (by decide) (by kernel_rfl))
        refine GoesG.value (.func (.method "nursery/program.number") #[cW b] #[]) rfl ?_ (Below.refl _ _) (fun s h1 h2 => h1 rfl)
        simp only [execOp, e1]
        simp [go_sem]
        simpa [Act.eval] using e1
      | 5, ho =>
        obtain rfl := Option.some.inj ho
        have e1 : a'.eval (.tmp 16) = .func (.method "nursery/program.number") #[cW b] #[] := (sv_dst (l := _) rfl).symm.trans (hA.new 4 (by decide) (by kernel_rfl))
        refine GoesG.value (.func (.method "nursery/program.number") #[cW b] #[]) rfl ?_ (Below.refl _ _) (fun s h1 h2 => h1 rfl)
        simp only [execOp, e1]
        simp [go_sem, hna_n]
      | 6, ho =>
        obtain rfl := Option.some.inj ho
        have e1 : a'.eval (.tmp 12) = cW b := (sv_dst (l := _) rfl).symm.trans (hA.new 0 (by decide) (by kernel_rfl))
        refine GoesG.value (cW b) rfl ?_ (Below.refl _ _) (fun s h1 h2 => h1 rfl)
        simp only [execOp, e1]
        simp [go_sem]
      | i + 7, ho => cases ho
    · intro vs w2d hvs hG1 hΦ
      obtain ⟨y0, y1, y2, y3, y4, y5, y6, rfl⟩ : ∃ y0 y1 y2 y3 y4 y5 y6, vs = y0 :: y1 :: y2 :: y3 :: y4 :: y5 :: y6 :: [] := by
        match vs, hvs with
        | y0 :: y1 :: y2 :: y3 :: y4 :: y5 :: y6 :: [], _ => exact ⟨y0, y1, y2, y3, y4, y5, y6, rfl⟩
      have e0 : y0 = cW b := hΦ 0 (by decide)
      subst e0
      have e1 : y1 = .pointer (some ⟨rb, ro, none⟩) := hΦ 1 (by decide)
      subst e1
      have e2 : y2 = .pointer (some ⟨rb, ro, none⟩) := hΦ 2 (by decide)
      subst e2
      have e3 : y3 = .pointer (some ⟨rb, ro + 1, none⟩) := hΦ 3 (by decide)
      subst e3
      have e4 : y4 = .func (.method "nursery/program.number") #[cW b] #[] := hΦ 4 (by decide)
      subst e4
      have e5 : y5 = .func (.method "nursery/program.number") #[cW b] #[] := hΦ 5 (by decide)
      subst e5
      have e6 : y6 = cW b := hΦ 6 (by decide)
      subst e6
      clear hΦ hvs
      simp only [putAll, Act.put, List.setIfInBounds_toArray, List.set_cons_succ, List.set_cons_zero]
      have HD1 := Lib.hid hG1
      clear hG1
      go_wp2_with fail
      refine (show Calls _ _ _ _ _ from K1.out _ _ (Ext.trans HX1.out HD1.out) (HW1.out.ext HD1.out) (by have := HLEN.out; simp only [vaS, List.length_append] at this ⊢; omega)).mono ?_
      rintro _ w2 ⟨rfl, hW, hk⟩
      have HX2 := Lib.hid (hk.exw (Ext.trans HX1.out HD1.out))
      have HW2 := Lib.hid hW
      have HK2 := Lib.hid (WK.trans HK1.out (WK.trans (WK.of_ext HD1.out HX1.out.size) hk))
      clear hW hk
      go_wp2_with fail
      refine (show Calls _ _ _ _ _ from K2.out _ _ HX2.out HW2.out (by have := HLEN.out; simp only [vaS, List.length_append] at this ⊢; omega)).mono ?_
      rintro _ w3 ⟨rfl, hW, hk⟩
      have HX3 := Lib.hid (hk.exw HX2.out)
      have HW3 := Lib.hid hW
      have HK3 := Lib.hid (WK.trans HK2.out hk)
      clear hW hk
      go_wp2
      go_end0
      exact ⟨rfl, (by have := HW3.out; simpa only [vaS, List.append_assoc] using this), HK3.out⟩
end Go.Proofs.YtfkjokbhnblndaaGreatDoor

namespace Go.Proofs.YtfkjokbhnblndaaGreatDoor
open Go.RowKit Go.Shelf
set_option linter.unusedVariables false
set_option linter.unusedSimpArgs false

set_option maxRecDepth 100000 in
set_option maxHeartbeats 4000000 in
theorem weach_Ins (w0 : World) (b : Nat) (xs : List Ins) (p : Option Addr) (c ab ao : Nat) (hcell : w0.cell? ⟨ab, ao, none⟩ = some (.slice p xs.length c)) (hxl : xs.length ≤ 17592186044416)
    (hp : ∀ i, i < xs.length → ∃ rb ro, p = some ⟨rb, ro, none⟩)
    (KE0 : ∀ i (h : i < xs.length) rb ro, p = some ⟨rb, ro, none⟩ → ∀ l1 W1, Ext w0 W1 → Wrt w0.heap.size b l1 W1 → (l1 ++ insS xs[i]).length ≤ 100000000000 → Calls Tryz.prog 54 #[cW b, .pointer (some ⟨rb, ro + i * 5, none⟩)] W1 (WPost w0.heap.size b l1 (insS xs[i]) W1))
    (l : List UInt8) (W : World) (hX : Ext w0 W) (hW : Wrt w0.heap.size b l W) (hlen : (l ++ seqS insS xs).length ≤ 100000000000) :
    Calls Tryz.prog 53 #[cW b, .pointer (some ⟨ab, ao, none⟩), .func (.func 54) #[] #[]] W (WPost w0.heap.size b l (seqS insS xs) W) := by
  obtain ⟨n, hn⟩ : ∃ n, xs.length = n := ⟨_, rfl⟩
  have HN := Lib.hid hn
  have HC := Lib.hid (fun W1 (hE : Ext w0 W1) => show W1.cell? ⟨ab, ao, none⟩ = some (.slice p n c) from by rw [← hn]; exact cell_ext hcell hE)
  have hc0 := HC.out W hX
  have hab : ab < W.heap.size := cell_lt2 hc0
  have KE := Lib.hid KE0
  have KN := Lib.hid (fun l1 W1 n a (h : Wrt w0.heap.size b l1 W1) hn hz h1 h2 hl hB => wnum_any w0.heap.size b l1 a n W1 h hn hz h1 h2 hl hB)
  have HX0 := Lib.hid hX
  have HW0 := Lib.hid hW
  have hlf : ∀ i, (l ++ (nuS n ++ (xs.take i).flatMap insS)).length ≤ 100000000000 := fun i => by
    have h1 := flat_take_le insS xs i
    rw [← hn]
    unfold seqS at hlen
    simp only [List.length_append] at hlen ⊢
    omega
  have HL := Lib.hid hlf
  have hl0 : l.length ≤ 100000000000 := by have := hlf 0; simp only [List.length_append] at this; omega
  have HP := Lib.hid hp
  have hnl : n ≤ 17592186044416 := by omega
  have hb1 := alloc_here W (.cells #[.int .i64 (n : Int)] 3)
  have HE1 := Lib.hid (ext_alloc (Below.refl _ W) (.cells #[.int .i64 (n : Int)] 3))
  have HB1 := Lib.hid hb1
  have hbB := Lib.hid (Wrt.lt hW)
  clear hX hW hlen hlf hp KE0 hcell hb1 hn hxl
  go_enter Tryz.func53, Tryz.ntmps53
  go_wp2_with fail
  refine (show Calls _ _ _ _ _ from KN.out l _ (n : Int) ⟨W.heap.size, 0, none⟩ (HW0.out.ext HE1.out) (cell_of HB1.out rfl) rfl (by omega) (by omega) hl0 (Nat.le_trans HX0.out.size HE1.out.size)).mono ?_
  rintro _ w2 ⟨rfl, hW2, hk⟩
  have HX2 := Lib.hid (hk.exw (Ext.trans HX0.out HE1.out))
  have HK2 := Lib.hid (WK.trans (WK.of_ext HE1.out HX0.out.size) hk)
  have HW2 := Lib.hid hW2
  clear hk hW2
  go_wp2_with fail
  refine (wreading_any b _).mono ?_
  rintro _ _ ⟨rfl, rfl⟩
  have hc2 := HC.out _ HX2.out
  go_wp2
  go_loopw [30] (fun v wr => ∃ i : Nat, v = .int .i64 (i : Int) ∧ i ≤ n ∧ Ext w0 wr ∧ Wrt w0.heap.size b (l ++ (nuS n ++ (xs.take i).flatMap insS)) wr ∧ WK w0.heap.size b W wr) (fun v _ => n - (intOf v).toNat)
  case atStart => exact ⟨0, rfl, Nat.zero_le _, HX2.out, (by have := HW2.out; simpa using this), HK2.out⟩
  case round =>
    obtain ⟨i, rfl, hi, hX3, hW3, hk3⟩ := hrel
    have HX3 := Lib.hid hX3
    have HW3 := Lib.hid hW3
    have HK3 := Lib.hid hk3
    clear hX3 hW3 hk3
    by_cases hlt : i < n
    · have hix : i < xs.length := by rw [HN.out]; exact hlt
      obtain ⟨rb, ro, rfl⟩ := HP.out i hix
      have hc3 := HC.out _ HX3.out
      have h0 : (0 : Int) ≤ (i : Int) := by omega
      have hlt2 : (i : Int) < (n : Int) := by omega
      have HK := Lib.hid (KE.out i hix rb ro rfl _ _ HX3.out HW3.out (by
        have := HL.out (i + 1)
        rwa [← flat_take_succ insS hix, ← List.append_assoc, ← List.append_assoc, List.append_assoc l] at this))
      have HT := Lib.hid (flat_take_succ insS hix)
      generalize xs[i] = xi at HK HT
      clear hix
      go_wp2_with fail
      refine (show Calls _ _ _ _ _ from HK.out).mono ?_
      rintro _ w4 ⟨rfl, hW4, hk4⟩
      have HX4 := Lib.hid (hk4.exw HX3.out)
      have HK4 := Lib.hid (WK.trans HK3.out hk4)
      have HW4 := Lib.hid (show Wrt w0.heap.size b (l ++ (nuS n ++ (xs.take (i + 1)).flatMap insS)) w4 from by
        rw [← HT.out]; simpa only [List.append_assoc] using hW4)
      clear hW4 hk4 HK HT
      go_wp2
      go_roundw
      case rel => exact ⟨i + 1, by go_num, by omega, HX4.out, HW4.out, HK4.out⟩
      case measure => simp [intOf]; omega
    · obtain rfl : i = n := by omega
      go_wp2
      go_end0
      exact ⟨rfl, (by have := HW3.out; rw [List.take_of_length_le (by rw [HN.out]; exact Nat.le_refl _), ← HN.out] at this; exact this), HK3.out⟩
set_option maxRecDepth 100000 in
set_option maxHeartbeats 4000000 in
theorem weach_Ob (w0 : World) (b : Nat) (xs : List Ob) (p : Option Addr) (c ab ao : Nat) (hcell : w0.cell? ⟨ab, ao, none⟩ = some (.slice p xs.length c)) (hxl : xs.length ≤ 17592186044416)
    (hp : ∀ i, i < xs.length → ∃ rb ro, p = some ⟨rb, ro, none⟩)
    (KE0 : ∀ i (h : i < xs.length) rb ro, p = some ⟨rb, ro, none⟩ → ∀ l1 W1, Ext w0 W1 → Wrt w0.heap.size b l1 W1 → (l1 ++ obS xs[i]).length ≤ 100000000000 → Calls Tryz.prog 56 #[cW b, .pointer (some ⟨rb, ro + i * 4, none⟩)] W1 (WPost w0.heap.size b l1 (obS xs[i]) W1))
    (l : List UInt8) (W : World) (hX : Ext w0 W) (hW : Wrt w0.heap.size b l W) (hlen : (l ++ seqS obS xs).length ≤ 100000000000) :
    Calls Tryz.prog 55 #[cW b, .pointer (some ⟨ab, ao, none⟩), .func (.func 56) #[] #[]] W (WPost w0.heap.size b l (seqS obS xs) W) := by
  obtain ⟨n, hn⟩ : ∃ n, xs.length = n := ⟨_, rfl⟩
  have HN := Lib.hid hn
  have HC := Lib.hid (fun W1 (hE : Ext w0 W1) => show W1.cell? ⟨ab, ao, none⟩ = some (.slice p n c) from by rw [← hn]; exact cell_ext hcell hE)
  have hc0 := HC.out W hX
  have hab : ab < W.heap.size := cell_lt2 hc0
  have KE := Lib.hid KE0
  have KN := Lib.hid (fun l1 W1 n a (h : Wrt w0.heap.size b l1 W1) hn hz h1 h2 hl hB => wnum_any w0.heap.size b l1 a n W1 h hn hz h1 h2 hl hB)
  have HX0 := Lib.hid hX
  have HW0 := Lib.hid hW
  have hlf : ∀ i, (l ++ (nuS n ++ (xs.take i).flatMap obS)).length ≤ 100000000000 := fun i => by
    have h1 := flat_take_le obS xs i
    rw [← hn]
    unfold seqS at hlen
    simp only [List.length_append] at hlen ⊢
    omega
  have HL := Lib.hid hlf
  have hl0 : l.length ≤ 100000000000 := by have := hlf 0; simp only [List.length_append] at this; omega
  have HP := Lib.hid hp
  have hnl : n ≤ 17592186044416 := by omega
  have hb1 := alloc_here W (.cells #[.int .i64 (n : Int)] 3)
  have HE1 := Lib.hid (ext_alloc (Below.refl _ W) (.cells #[.int .i64 (n : Int)] 3))
  have HB1 := Lib.hid hb1
  have hbB := Lib.hid (Wrt.lt hW)
  clear hX hW hlen hlf hp KE0 hcell hb1 hn hxl
  go_enter Tryz.func55, Tryz.ntmps55
  go_wp2_with fail
  refine (show Calls _ _ _ _ _ from KN.out l _ (n : Int) ⟨W.heap.size, 0, none⟩ (HW0.out.ext HE1.out) (cell_of HB1.out rfl) rfl (by omega) (by omega) hl0 (Nat.le_trans HX0.out.size HE1.out.size)).mono ?_
  rintro _ w2 ⟨rfl, hW2, hk⟩
  have HX2 := Lib.hid (hk.exw (Ext.trans HX0.out HE1.out))
  have HK2 := Lib.hid (WK.trans (WK.of_ext HE1.out HX0.out.size) hk)
  have HW2 := Lib.hid hW2
  clear hk hW2
  go_wp2_with fail
  refine (wreading_any b _).mono ?_
  rintro _ _ ⟨rfl, rfl⟩
  have hc2 := HC.out _ HX2.out
  go_wp2
  go_loopw [30] (fun v wr => ∃ i : Nat, v = .int .i64 (i : Int) ∧ i ≤ n ∧ Ext w0 wr ∧ Wrt w0.heap.size b (l ++ (nuS n ++ (xs.take i).flatMap obS)) wr ∧ WK w0.heap.size b W wr) (fun v _ => n - (intOf v).toNat)
  case atStart => exact ⟨0, rfl, Nat.zero_le _, HX2.out, (by have := HW2.out; simpa using this), HK2.out⟩
  case round =>
    obtain ⟨i, rfl, hi, hX3, hW3, hk3⟩ := hrel
    have HX3 := Lib.hid hX3
    have HW3 := Lib.hid hW3
    have HK3 := Lib.hid hk3
    clear hX3 hW3 hk3
    by_cases hlt : i < n
    · have hix : i < xs.length := by rw [HN.out]; exact hlt
      obtain ⟨rb, ro, rfl⟩ := HP.out i hix
      have hc3 := HC.out _ HX3.out
      have h0 : (0 : Int) ≤ (i : Int) := by omega
      have hlt2 : (i : Int) < (n : Int) := by omega
      have HK := Lib.hid (KE.out i hix rb ro rfl _ _ HX3.out HW3.out (by
        have := HL.out (i + 1)
        rwa [← flat_take_succ obS hix, ← List.append_assoc, ← List.append_assoc, List.append_assoc l] at this))
      have HT := Lib.hid (flat_take_succ obS hix)
      generalize xs[i] = xi at HK HT
      clear hix
      go_wp2_with fail
      refine (show Calls _ _ _ _ _ from HK.out).mono ?_
      rintro _ w4 ⟨rfl, hW4, hk4⟩
      have HX4 := Lib.hid (hk4.exw HX3.out)
      have HK4 := Lib.hid (WK.trans HK3.out hk4)
      have HW4 := Lib.hid (show Wrt w0.heap.size b (l ++ (nuS n ++ (xs.take (i + 1)).flatMap obS)) w4 from by
        rw [← HT.out]; simpa only [List.append_assoc] using hW4)
      clear hW4 hk4 HK HT
      go_wp2
      go_roundw
      case rel => exact ⟨i + 1, by go_num, by omega, HX4.out, HW4.out, HK4.out⟩
      case measure => simp [intOf]; omega
    · obtain rfl : i = n := by omega
      go_wp2
      go_end0
      exact ⟨rfl, (by have := HW3.out; rw [List.take_of_length_le (by rw [HN.out]; exact Nat.le_refl _), ← HN.out] at this; exact this), HK3.out⟩
set_option maxRecDepth 100000 in
set_option maxHeartbeats 4000000 in
theorem weach_Va (w0 : World) (b : Nat) (xs : List Va) (p : Option Addr) (c ab ao : Nat) (hcell : w0.cell? ⟨ab, ao, none⟩ = some (.slice p xs.length c)) (hxl : xs.length ≤ 17592186044416)
    (hp : ∀ i, i < xs.length → ∃ rb ro, p = some ⟨rb, ro, none⟩)
    (KE0 : ∀ i (h : i < xs.length) rb ro, p = some ⟨rb, ro, none⟩ → ∀ l1 W1, Ext w0 W1 → Wrt w0.heap.size b l1 W1 → (l1 ++ vaS xs[i]).length ≤ 100000000000 → Calls Tryz.prog 58 #[cW b, .pointer (some ⟨rb, ro + i * 3, none⟩)] W1 (WPost w0.heap.size b l1 (vaS xs[i]) W1))
    (l : List UInt8) (W : World) (hX : Ext w0 W) (hW : Wrt w0.heap.size b l W) (hlen : (l ++ seqS vaS xs).length ≤ 100000000000) :
    Calls Tryz.prog 57 #[cW b, .pointer (some ⟨ab, ao, none⟩), .func (.func 58) #[] #[]] W (WPost w0.heap.size b l (seqS vaS xs) W) := by
  obtain ⟨n, hn⟩ : ∃ n, xs.length = n := ⟨_, rfl⟩
  have HN := Lib.hid hn
  have HC := Lib.hid (fun W1 (hE : Ext w0 W1) => show W1.cell? ⟨ab, ao, none⟩ = some (.slice p n c) from by rw [← hn]; exact cell_ext hcell hE)
  have hc0 := HC.out W hX
  have hab : ab < W.heap.size := cell_lt2 hc0
  have KE := Lib.hid KE0
  have KN := Lib.hid (fun l1 W1 n a (h : Wrt w0.heap.size b l1 W1) hn hz h1 h2 hl hB => wnum_any w0.heap.size b l1 a n W1 h hn hz h1 h2 hl hB)
  have HX0 := Lib.hid hX
  have HW0 := Lib.hid hW
  have hlf : ∀ i, (l ++ (nuS n ++ (xs.take i).flatMap vaS)).length ≤ 100000000000 := fun i => by
    have h1 := flat_take_le vaS xs i
    rw [← hn]
    unfold seqS at hlen
    simp only [List.length_append] at hlen ⊢
    omega
  have HL := Lib.hid hlf
  have hl0 : l.length ≤ 100000000000 := by have := hlf 0; simp only [List.length_append] at this; omega
  have HP := Lib.hid hp
  have hnl : n ≤ 17592186044416 := by omega
  have hb1 := alloc_here W (.cells #[.int .i64 (n : Int)] 3)
  have HE1 := Lib.hid (ext_alloc (Below.refl _ W) (.cells #[.int .i64 (n : Int)] 3))
  have HB1 := Lib.hid hb1
  have hbB := Lib.hid (Wrt.lt hW)
  clear hX hW hlen hlf hp KE0 hcell hb1 hn hxl
  go_enter Tryz.func57, Tryz.ntmps57
  go_wp2_with fail
  refine (show Calls _ _ _ _ _ from KN.out l _ (n : Int) ⟨W.heap.size, 0, none⟩ (HW0.out.ext HE1.out) (cell_of HB1.out rfl) rfl (by omega) (by omega) hl0 (Nat.le_trans HX0.out.size HE1.out.size)).mono ?_
  rintro _ w2 ⟨rfl, hW2, hk⟩
  have HX2 := Lib.hid (hk.exw (Ext.trans HX0.out HE1.out))
  have HK2 := Lib.hid (WK.trans (WK.of_ext HE1.out HX0.out.size) hk)
  have HW2 := Lib.hid hW2
  clear hk hW2
  go_wp2_with fail
  refine (wreading_any b _).mono ?_
  rintro _ _ ⟨rfl, rfl⟩
  have hc2 := HC.out _ HX2.out
  go_wp2
  go_loopw [30] (fun v wr => ∃ i : Nat, v = .int .i64 (i : Int) ∧ i ≤ n ∧ Ext w0 wr ∧ Wrt w0.heap.size b (l ++ (nuS n ++ (xs.take i).flatMap vaS)) wr ∧ WK w0.heap.size b W wr) (fun v _ => n - (intOf v).toNat)
  case atStart => exact ⟨0, rfl, Nat.zero_le _, HX2.out, (by have := HW2.out; simpa using this), HK2.out⟩
  case round =>
    obtain ⟨i, rfl, hi, hX3, hW3, hk3⟩ := hrel
    have HX3 := Lib.hid hX3
    have HW3 := Lib.hid hW3
    have HK3 := Lib.hid hk3
    clear hX3 hW3 hk3
    by_cases hlt : i < n
    · have hix : i < xs.length := by rw [HN.out]; exact hlt
      obtain ⟨rb, ro, rfl⟩ := HP.out i hix
      have hc3 := HC.out _ HX3.out
      have h0 : (0 : Int) ≤ (i : Int) := by omega
      have hlt2 : (i : Int) < (n : Int) := by omega
      have HK := Lib.hid (KE.out i hix rb ro rfl _ _ HX3.out HW3.out (by
        have := HL.out (i + 1)
        rwa [← flat_take_succ vaS hix, ← List.append_assoc, ← List.append_assoc, List.append_assoc l] at this))
      have HT := Lib.hid (flat_take_succ vaS hix)
      generalize xs[i] = xi at HK HT
      clear hix
      go_wp2_with fail
      refine (show Calls _ _ _ _ _ from HK.out).mono ?_
      rintro _ w4 ⟨rfl, hW4, hk4⟩
      have HX4 := Lib.hid (hk4.exw HX3.out)
      have HK4 := Lib.hid (WK.trans HK3.out hk4)
      have HW4 := Lib.hid (show Wrt w0.heap.size b (l ++ (nuS n ++ (xs.take (i + 1)).flatMap vaS)) w4 from by
        rw [← HT.out]; simpa only [List.append_assoc] using hW4)
      clear hW4 hk4 HK HT
      go_wp2
      go_roundw
      case rel => exact ⟨i + 1, by go_num, by omega, HX4.out, HW4.out, HK4.out⟩
      case measure => simp [intOf]; omega
    · obtain rfl : i = n := by omega
      go_wp2
      go_end0
      exact ⟨rfl, (by have := HW3.out; rw [List.take_of_length_le (by rw [HN.out]; exact Nat.le_refl _), ← HN.out] at this; exact this), HK3.out⟩
set_option maxRecDepth 100000 in
set_option maxHeartbeats 4000000 in
theorem weach_Fn (w0 : World) (b : Nat) (xs : List Fn) (p : Option Addr) (c ab ao : Nat) (hcell : w0.cell? ⟨ab, ao, none⟩ = some (.slice p xs.length c)) (hxl : xs.length ≤ 17592186044416)
    (hp : ∀ i, i < xs.length → ∃ rb ro, p = some ⟨rb, ro, none⟩)
    (KE0 : ∀ i (h : i < xs.length) rb ro, p = some ⟨rb, ro, none⟩ → ∀ l1 W1, Ext w0 W1 → Wrt w0.heap.size b l1 W1 → (l1 ++ fnS xs[i]).length ≤ 100000000000 → Calls Tryz.prog 51 #[cW b, .pointer (some ⟨rb, ro + i * 6, none⟩)] W1 (WPost w0.heap.size b l1 (fnS xs[i]) W1))
    (l : List UInt8) (W : World) (hX : Ext w0 W) (hW : Wrt w0.heap.size b l W) (hlen : (l ++ seqS fnS xs).length ≤ 100000000000) :
    Calls Tryz.prog 50 #[cW b, .pointer (some ⟨ab, ao, none⟩), .func (.func 51) #[] #[]] W (WPost w0.heap.size b l (seqS fnS xs) W) := by
  obtain ⟨n, hn⟩ : ∃ n, xs.length = n := ⟨_, rfl⟩
  have HN := Lib.hid hn
  have HC := Lib.hid (fun W1 (hE : Ext w0 W1) => show W1.cell? ⟨ab, ao, none⟩ = some (.slice p n c) from by rw [← hn]; exact cell_ext hcell hE)
  have hc0 := HC.out W hX
  have hab : ab < W.heap.size := cell_lt2 hc0
  have KE := Lib.hid KE0
  have KN := Lib.hid (fun l1 W1 n a (h : Wrt w0.heap.size b l1 W1) hn hz h1 h2 hl hB => wnum_any w0.heap.size b l1 a n W1 h hn hz h1 h2 hl hB)
  have HX0 := Lib.hid hX
  have HW0 := Lib.hid hW
  have hlf : ∀ i, (l ++ (nuS n ++ (xs.take i).flatMap fnS)).length ≤ 100000000000 := fun i => by
    have h1 := flat_take_le fnS xs i
    rw [← hn]
    unfold seqS at hlen
    simp only [List.length_append] at hlen ⊢
    omega
  have HL := Lib.hid hlf
  have hl0 : l.length ≤ 100000000000 := by have := hlf 0; simp only [List.length_append] at this; omega
  have HP := Lib.hid hp
  have hnl : n ≤ 17592186044416 := by omega
  have hb1 := alloc_here W (.cells #[.int .i64 (n : Int)] 3)
  have HE1 := Lib.hid (ext_alloc (Below.refl _ W) (.cells #[.int .i64 (n : Int)] 3))
  have HB1 := Lib.hid hb1
  have hbB := Lib.hid (Wrt.lt hW)
  clear hX hW hlen hlf hp KE0 hcell hb1 hn hxl
  go_enter Tryz.func50, Tryz.ntmps50
  go_wp2_with fail
  refine (show Calls _ _ _ _ _ from KN.out l _ (n : Int) ⟨W.heap.size, 0, none⟩ (HW0.out.ext HE1.out) (cell_of HB1.out rfl) rfl (by omega) (by omega) hl0 (Nat.le_trans HX0.out.size HE1.out.size)).mono ?_
  rintro _ w2 ⟨rfl, hW2, hk⟩
  have HX2 := Lib.hid (hk.exw (Ext.trans HX0.out HE1.out))
  have HK2 := Lib.hid (WK.trans (WK.of_ext HE1.out HX0.out.size) hk)
  have HW2 := Lib.hid hW2
  clear hk hW2
  go_wp2_with fail
  refine (wreading_any b _).mono ?_
  rintro _ _ ⟨rfl, rfl⟩
  have hc2 := HC.out _ HX2.out
  go_wp2
  go_loopw [30] (fun v wr => ∃ i : Nat, v = .int .i64 (i : Int) ∧ i ≤ n ∧ Ext w0 wr ∧ Wrt w0.heap.size b (l ++ (nuS n ++ (xs.take i).flatMap fnS)) wr ∧ WK w0.heap.size b W wr) (fun v _ => n - (intOf v).toNat)
  case atStart => exact ⟨0, rfl, Nat.zero_le _, HX2.out, (by have := HW2.out; simpa using this), HK2.out⟩
  case round =>
    obtain ⟨i, rfl, hi, hX3, hW3, hk3⟩ := hrel
    have HX3 := Lib.hid hX3
    have HW3 := Lib.hid hW3
    have HK3 := Lib.hid hk3
    clear hX3 hW3 hk3
    by_cases hlt : i < n
    · have hix : i < xs.length := by rw [HN.out]; exact hlt
      obtain ⟨rb, ro, rfl⟩ := HP.out i hix
      have hc3 := HC.out _ HX3.out
      have h0 : (0 : Int) ≤ (i : Int) := by omega
      have hlt2 : (i : Int) < (n : Int) := by omega
      have HK := Lib.hid (KE.out i hix rb ro rfl _ _ HX3.out HW3.out (by
        have := HL.out (i + 1)
        rwa [← flat_take_succ fnS hix, ← List.append_assoc, ← List.append_assoc, List.append_assoc l] at this))
      have HT := Lib.hid (flat_take_succ fnS hix)
      generalize xs[i] = xi at HK HT
      clear hix
      go_wp2_with fail
      refine (show Calls _ _ _ _ _ from HK.out).mono ?_
      rintro _ w4 ⟨rfl, hW4, hk4⟩
      have HX4 := Lib.hid (hk4.exw HX3.out)
      have HK4 := Lib.hid (WK.trans HK3.out hk4)
      have HW4 := Lib.hid (show Wrt w0.heap.size b (l ++ (nuS n ++ (xs.take (i + 1)).flatMap fnS)) w4 from by
        rw [← HT.out]; simpa only [List.append_assoc] using hW4)
      clear hW4 hk4 HK HT
      go_wp2
      go_roundw
      case rel => exact ⟨i + 1, by go_num, by omega, HX4.out, HW4.out, HK4.out⟩
      case measure => simp [intOf]; omega
    · obtain rfl : i = n := by omega
      go_wp2
      go_end0
      exact ⟨rfl, (by have := HW3.out; rw [List.take_of_length_le (by rw [HN.out]; exact Nat.le_refl _), ← HN.out] at this; exact this), HK3.out⟩
end Go.Proofs.YtfkjokbhnblndaaGreatDoor

namespace Go.Proofs.YtfkjokbhnblndaaGreatDoor
open Go.RowKit Go.Shelf
set_option linter.unusedVariables false
set_option linter.unusedSimpArgs false

set_option maxRecDepth 100000 in
set_option maxHeartbeats 4000000 in
theorem wFn_one (w0 : World) (b : Nat) (x : Fn) (rb ro : Nat) (a : Option Addr) (c : Nat) (hx : Fn.cells w0 rb ro x a c) (hwf : x.wf) (hnm : x.name.length ≤ 1000000) (hm : MaxL w0) (hm3 : 3 < w0.heap.size) (hf : w0.frozen? ⟨rb, ro + 4, none⟩ = false)
    (hec : ∀ l1 W1, Ext w0 W1 → Wrt w0.heap.size b l1 W1 → (l1 ++ seqS insS x.code).length ≤ 100000000000 → Calls Tryz.prog 53 #[cW b, .pointer (some ⟨rb, ro + 5, none⟩), .func (.func 54) #[] #[]] W1 (WPost w0.heap.size b l1 (seqS insS x.code) W1)) (l : List UInt8) (W : World) (hX : Ext w0 W) (hW : Wrt w0.heap.size b l W) (hlen : (l ++ fnS x).length ≤ 100000000000) :
    Calls Tryz.prog 51 #[cW b, .pointer (some ⟨rb, ro, none⟩)] W (WPost w0.heap.size b l (fnS x) W) := by
  have K0 := Lib.hid (fun l1 W1 (hE : Ext w0 W1) (h : Wrt w0.heap.size b l1 W1) (hl : l1.length ≤ 100000000000) => (show Calls Tryz.prog 184 #[.pointer (some ⟨b, 0, none⟩), .pointer (some ⟨rb, ro, none⟩)] W1 (WPost w0.heap.size b l1 (txS x.name) W1) from wtext_any w0.heap.size b l1 ⟨rb, ro, none⟩ x.name W1 h (cell_ext hx.c0 hE) rfl hnm (hm.below hm3 hE) hl hE.size))
  have K1 := Lib.hid (fun l1 W1 (hE : Ext w0 W1) (h : Wrt w0.heap.size b l1 W1) (hl : l1.length ≤ 100000000000) => (show Calls Tryz.prog 182 #[.pointer (some ⟨b, 0, none⟩), .pointer (some ⟨rb, ro + 1, none⟩)] W1 (WPost w0.heap.size b l1 (nuS x.params) W1) from wnum_any w0.heap.size b l1 ⟨rb, ro + 1, none⟩ x.params W1 h (cell_ext hx.c1 hE) rfl hwf.params.1 hwf.params.2 hl hE.size))
  have K2 := Lib.hid (fun l1 W1 (hE : Ext w0 W1) (h : Wrt w0.heap.size b l1 W1) (hl : l1.length ≤ 100000000000) => (show Calls Tryz.prog 182 #[.pointer (some ⟨b, 0, none⟩), .pointer (some ⟨rb, ro + 2, none⟩)] W1 (WPost w0.heap.size b l1 (nuS x.regs) W1) from wnum_any w0.heap.size b l1 ⟨rb, ro + 2, none⟩ x.regs W1 h (cell_ext hx.c2 hE) rfl hwf.regs.1 hwf.regs.2 hl hE.size))
  have K3 := Lib.hid (fun l1 W1 (hE : Ext w0 W1) (h : Wrt w0.heap.size b l1 W1) (hl : l1.length ≤ 100000000000) => (show Calls Tryz.prog 182 #[.pointer (some ⟨b, 0, none⟩), .pointer (some ⟨rb, ro + 3, none⟩)] W1 (WPost w0.heap.size b l1 (nuS x.prio) W1) from wnum_any w0.heap.size b l1 ⟨rb, ro + 3, none⟩ x.prio W1 h (cell_ext hx.c3 hE) rfl hwf.prio.1 hwf.prio.2 hl hE.size))
  have K4 := Lib.hid (fun l1 W1 (hE : Ext w0 W1) (h : Wrt w0.heap.size b l1 W1) (hl : l1.length ≤ 100000000000) => (show Calls Tryz.prog 52 #[cW b, .pointer (some ⟨rb, ro + 4, none⟩)] W1 (WPost w0.heap.size b l1 (nuS (boN x.cl)) W1) from wflag_any w0.heap.size b l1 rb (ro + 4) x.cl W1 h (cell_ext hx.c4 hE) (free_ext hf (cell_lt2 hx.c4) hE) (cell_lt2 hx.c4) hl hE.size (Wrt.lt h)))
  have K5 := Lib.hid (fun l1 W1 (hE : Ext w0 W1) (h : Wrt w0.heap.size b l1 W1) (hl : (l1 ++ seqS insS x.code).length ≤ 100000000000) => (show Calls Tryz.prog 53 #[cW b, .pointer (some ⟨rb, ro + 5, none⟩), .func (.func 54) #[] #[]] W1 (WPost w0.heap.size b l1 (seqS insS x.code) W1) from hec l1 W1 hE h hl))
  have hna_n : ∀ W, Sem.run Tryz.prog (nilAhead 358 tWp (.pointer (some ⟨b, 0, none⟩)) "nursery/program.number") W = .ok (some false) W := fun W => by kernel_rfl
  have hna_t : ∀ W, Sem.run Tryz.prog (nilAhead 358 tWp (.pointer (some ⟨b, 0, none⟩)) "nursery/program.text") W = .ok (some false) W := fun W => by kernel_rfl
  have HX0 := Lib.hid hX
  have HW0 := Lib.hid hW
  have HK0 := Lib.hid (WK.refl w0.heap.size b W)
  have HLEN := Lib.hid hlen
  clear hX hW hlen hx hwf hnm hm hm3 hf hec
  go_enter Tryz.func51, Tryz.ntmps51
  go_wp2
  refine wp_region_tail (l1 := [_, _, _, _, _, _, _]) (l2 := [_]) (by kernel_rfl) Ext (fun W => Below.refl _ W) (fun W => show Below W.heap.size W { W with drawn := W.drawn + 1 } from ⟨rfl, rfl, rfl, Nat.le_refl _, fun _ _ => rfl⟩) Ext.trans
    (fun i s W => match i with
      | 0 => s 0 = cW b
      | 1 => s 1 = .pointer (some ⟨rb, ro, none⟩)
      | 2 => s 2 = .pointer (some ⟨rb, ro, none⟩)
      | 3 => s 3 = .pointer (some ⟨rb, ro, none⟩)
      | 4 => s 4 = .func (.method "nursery/program.text") #[cW b] #[]
      | 5 => s 5 = .func (.method "nursery/program.text") #[cW b] #[]
      | 6 => s 6 = cW b
      | _ => True)
    (fun i => [i])
    (by
      intro i s s' W W' h hs hE
      have hs := hs i (by simp)
      match i, h, hs with
      | 0, h, hs => exact hs.trans h
      | 1, h, hs => exact hs.trans h
      | 2, h, hs => exact hs.trans h
      | 3, h, hs => exact hs.trans h
      | 4, h, hs => exact hs.trans h
      | 5, h, hs => exact hs.trans h
      | 6, h, hs => exact hs.trans h
      | i + 7, h, hs => exact trivial)
    (by kernel_rfl) (by kernel_rfl) (by kernel_rfl) 46 rfl (by kernel_rfl) (by kernel_rfl) ?_ ?_
  · intro i op ho a' W hA

    match i, ho with
    | 0, ho =>
      obtain rfl := Option.some.inj ho
      have e1 : a'.eval (.tmp 0) = cW b := hA.keep 0 (by kernel_rfl)
      refine GoesG.value (cW b) rfl ?_ (Below.refl _ _) (fun s h1 h2 => h1 rfl)
      simp only [execOp, e1]
      simp [go_sem]
    | 1, ho =>
      obtain rfl := Option.some.inj ho
      have e1 : a'.eval (.tmp 1) = .pointer (some ⟨rb, ro, none⟩) := hA.keep 1 (by kernel_rfl)
      refine GoesG.value (.pointer (some ⟨rb, ro, none⟩)) rfl ?_ (Below.refl _ _) (fun s h1 h2 => h1 rfl)
      simp only [execOp, e1]
      simp [go_sem]
    | 2, ho =>
      obtain rfl := Option.some.inj ho
      have e1 : a'.eval (.tmp 5) = .pointer (some ⟨rb, ro, none⟩) := (sv_dst (l := _) rfl).symm.trans (hA.new 1 (by decide) (by kernel_rfl))
      refine GoesG.value (.pointer (some ⟨rb, ro, none⟩)) rfl ?_ (Below.refl _ _) (fun s h1 h2 => h1 rfl)
      simp only [execOp, e1]
      simp [go_sem]
    | 3, ho =>
      obtain rfl := Option.some.inj ho
      have e1 : a'.eval (.tmp 6) = .pointer (some ⟨rb, ro, none⟩) := (sv_dst (l := _) rfl).symm.trans (hA.new 2 (by decide) (by kernel_rfl))
      refine GoesG.value (.pointer (some ⟨rb, ro, none⟩)) rfl ?_ (Below.refl _ _) (fun s h1 h2 => h1 rfl)
      simp only [execOp, e1]
      simp [go_sem]
    | 4, ho =>
      obtain rfl := Option.some.inj ho
      have e1 : a'.eval (.tmp 4) = cW b := (sv_dst (l := _) rfl).symm.trans (hA.new 0 (by decide) (by kernel_rfl))
      refine GoesG.value (.func (.method "nursery/program.text") #[cW b] #[]) rfl ?_ (Below.refl _ _) (fun s h1 h2 => h1 rfl)
      simp only [execOp, e1]
      simp [go_sem]
      simpa [Act.eval] using e1
    | 5, ho =>
      obtain rfl := Option.some.inj ho
      have e1 : a'.eval (.tmp 8) = .func (.method "nursery/program.text") #[cW b] #[] := (sv_dst (l := _) rfl).symm.trans (hA.new 4 (by decide) (by kernel_rfl))
      refine GoesG.value (.func (.method "nursery/program.text") #[cW b] #[]) rfl ?_ (Below.refl _ _) (fun s h1 h2 => h1 rfl)
      simp only [execOp, e1]
      simp [go_sem, hna_t]
    | 6, ho =>
      obtain rfl := Option.some.inj ho
      have e1 : a'.eval (.tmp 4) = cW b := (sv_dst (l := _) rfl).symm.trans (hA.new 0 (by decide) (by kernel_rfl))
      refine GoesG.value (cW b) rfl ?_ (Below.refl _ _) (fun s h1 h2 => h1 rfl)
      simp only [execOp, e1]
      simp [go_sem]
    | i + 7, ho => cases ho
  · intro vs w1d hvs hG0 hΦ
    obtain ⟨y0, y1, y2, y3, y4, y5, y6, rfl⟩ : ∃ y0 y1 y2 y3 y4 y5 y6, vs = y0 :: y1 :: y2 :: y3 :: y4 :: y5 :: y6 :: [] := by
      match vs, hvs with
      | y0 :: y1 :: y2 :: y3 :: y4 :: y5 :: y6 :: [], _ => exact ⟨y0, y1, y2, y3, y4, y5, y6, rfl⟩
    have e0 : y0 = cW b := hΦ 0 (by decide)
    subst e0
    have e1 : y1 = .pointer (some ⟨rb, ro, none⟩) := hΦ 1 (by decide)
    subst e1
    have e2 : y2 = .pointer (some ⟨rb, ro, none⟩) := hΦ 2 (by decide)
    subst e2
    have e3 : y3 = .pointer (some ⟨rb, ro, none⟩) := hΦ 3 (by decide)
    subst e3
    have e4 : y4 = .func (.method "nursery/program.text") #[cW b] #[] := hΦ 4 (by decide)
    subst e4
    have e5 : y5 = .func (.method "nursery/program.text") #[cW b] #[] := hΦ 5 (by decide)
    subst e5
    have e6 : y6 = cW b := hΦ 6 (by decide)
    subst e6
    clear hΦ hvs
    simp only [putAll, Act.put, List.setIfInBounds_toArray, List.set_cons_succ, List.set_cons_zero]
    have HD0 := Lib.hid hG0
    clear hG0
    go_wp2_with fail
    refine (show Calls _ _ _ _ _ from K0.out _ _ (Ext.trans HX0.out HD0.out) (HW0.out.ext HD0.out) (by have := HLEN.out; simp only [fnS, List.length_append] at this ⊢; omega)).mono ?_
    rintro _ w1 ⟨rfl, hW, hk⟩
    have HX1 := Lib.hid (hk.exw (Ext.trans HX0.out HD0.out))
    have HW1 := Lib.hid hW
    have HK1 := Lib.hid (WK.trans HK0.out (WK.trans (WK.of_ext HD0.out HX0.out.size) hk))
    clear hW hk
    go_wp2
    refine wp_region_tail (l1 := [_, _, _, _, _, _, _]) (l2 := [_]) (by kernel_rfl) Ext (fun W => Below.refl _ W) (fun W => show Below W.heap.size W { W with drawn := W.drawn + 1 } from ⟨rfl, rfl, rfl, Nat.le_refl _, fun _ _ => rfl⟩) Ext.trans
      (fun i s W => match i with
        | 0 => s 0 = cW b
        | 1 => s 1 = .pointer (some ⟨rb, ro, none⟩)
        | 2 => s 2 = .pointer (some ⟨rb, ro, none⟩)
        | 3 => s 3 = .pointer (some ⟨rb, ro + 1, none⟩)
        | 4 => s 4 = .func (.method "nursery/program.number") #[cW b] #[]
        | 5 => s 5 = .func (.method "nursery/program.number") #[cW b] #[]
        | 6 => s 6 = cW b
        | _ => True)
      (fun i => [i])
      (by
        intro i s s' W W' h hs hE
        have hs := hs i (by simp)
        match i, h, hs with
        | 0, h, hs => exact hs.trans h
        | 1, h, hs => exact hs.trans h
        | 2, h, hs => exact hs.trans h
        | 3, h, hs => exact hs.trans h
        | 4, h, hs => exact hs.trans h
        | 5, h, hs => exact hs.trans h
        | 6, h, hs => exact hs.trans h
        | i + 7, h, hs => exact trivial)
      (by kernel_rfl) (by kernel_rfl) (by kernel_rfl) 46 rfl (by kernel_rfl) (by kernel_rfl) ?_ ?_
    · intro i op ho a' W hA

      match i, ho with
      | 0, ho =>
        obtain rfl := Option.some.inj ho
        have e1 : a'.eval (.tmp 0) = cW b := hA.keep 0 (by kernel_rfl)
        refine GoesG.value (cW b) rfl ?_ (Below.refl _ _) (fun s h1 h2 => h1 rfl)
        simp only [execOp, e1]
        simp [go_sem]
      | 1, ho =>
        obtain rfl := Option.some.inj ho
        have e1 : a'.eval (.tmp 1) = .pointer (some ⟨rb, ro, none⟩) := hA.keep 1 (by kernel_rfl)
        refine GoesG.value (.pointer (some ⟨rb, ro, none⟩)) rfl ?_ (Below.refl _ _) (fun s h1 h2 => h1 rfl)
        simp only [execOp, e1]
        simp [go_sem]
      | 2, ho =>
        obtain rfl := Option.some.inj ho
        have e1 : a'.eval (.tmp 13) = .pointer (some ⟨rb, ro, none⟩) := (sv_dst (l := _) rfl).symm.trans (hA.new 1 (by decide) (by kernel_rfl))
        refine GoesG.value (.pointer (some ⟨rb, ro, none⟩)) rfl ?_ (Below.refl _ _) (fun s h1 h2 => h1 rfl)
        simp only [execOp, e1]
        simp [go_sem]
      | 3, ho =>
        obtain rfl := Option.some.inj ho
        have e1 : a'.eval (.tmp 14) = .pointer (some ⟨rb, ro, none⟩) := (sv_dst (l := _) rfl).symm.trans (hA.new 2 (by decide) (by kernel_rfl))
        refine GoesG.value (.pointer (some ⟨rb, ro + 1, none⟩)) rfl ?_ (Below.refl _ _) (fun s h1 h2 => h1 rfl)
        simp only [execOp, e1]
        simp [go_sem]
      | 4, ho =>
        obtain rfl := Option.some.inj ho
        have e1 : a'.eval (.tmp 12) = cW b := (sv_dst (l := _) rfl).symm.trans (hA.new 0 (by decide) (by kernel_rfl))
        refine GoesG.value (.func (.method "nursery/program.number") #[cW b] #[]) rfl ?_ (Below.refl _ _) (fun s h1 h2 => h1 rfl)
        simp only [execOp, e1]
        simp [go_sem]
        simpa [Act.eval] using e1
      | 5, ho =>
        obtain rfl := Option.some.inj ho
        have e1 : a'.eval (.tmp 16) = .func (.method "nursery/program.number") #[cW b] #[] := (sv_dst (l := _) rfl).symm.trans (hA.new 4 (by decide) (by kernel_rfl))
        refine GoesG.value (.func (.method "nursery/program.number") #[cW b] #[]) rfl ?_ (Below.refl _ _) (fun s h1 h2 => h1 rfl)
        simp only [execOp, e1]
        simp [go_sem, hna_n]
      | 6, ho =>
        obtain rfl := Option.some.inj ho
        have e1 : a'.eval (.tmp 12) = cW b := (sv_dst (l := _) rfl).symm.trans (hA.new 0 (by decide) (by kernel_rfl))
        refine GoesG.value (cW b) rfl ?_ (Below.refl _ _) (fun s h1 h2 => h1 rfl)
        simp only [execOp, e1]
        simp [go_sem]
      | i + 7, ho => cases ho
    · intro vs w2d hvs hG1 hΦ
      obtain ⟨y0, y1, y2, y3, y4, y5, y6, rfl⟩ : ∃ y0 y1 y2 y3 y4 y5 y6, vs = y0 :: y1 :: y2 :: y3 :: y4 :: y5 :: y6 :: [] := by
        match vs, hvs with
        | y0 :: y1 :: y2 :: y3 :: y4 :: y5 :: y6 :: [], _ => exact ⟨y0, y1, y2, y3, y4, y5, y6, rfl⟩
      have e0 : y0 = cW b := hΦ 0 (by decide)
      subst e0
      have e1 : y1 = .pointer (some ⟨rb, ro, none⟩) := hΦ 1 (by decide)
      subst e1
      have e2 : y2 = .pointer (some ⟨rb, ro, none⟩) := hΦ 2 (by decide)
      subst e2
      have e3 : y3 = .pointer (some ⟨rb, ro + 1, none⟩) := hΦ 3 (by decide)
      subst e3
      have e4 : y4 = .func (.method "nursery/program.number") #[cW b] #[] := hΦ 4 (by decide)
      subst e4
      have e5 : y5 = .func (.method "nursery/program.number") #[cW b] #[] := hΦ 5 (by decide)
      subst e5
      have e6 : y6 = cW b := hΦ 6 (by decide)
      subst e6
      clear hΦ hvs
      simp only [putAll, Act.put, List.setIfInBounds_toArray, List.set_cons_succ, List.set_cons_zero]
      have HD1 := Lib.hid hG1
      clear hG1
      go_wp2_with fail
      refine (show Calls _ _ _ _ _ from K1.out _ _ (Ext.trans HX1.out HD1.out) (HW1.out.ext HD1.out) (by have := HLEN.out; simp only [fnS, List.length_append] at this ⊢; omega)).mono ?_
      rintro _ w2 ⟨rfl, hW, hk⟩
      have HX2 := Lib.hid (hk.exw (Ext.trans HX1.out HD1.out))
      have HW2 := Lib.hid hW
      have HK2 := Lib.hid (WK.trans HK1.out (WK.trans (WK.of_ext HD1.out HX1.out.size) hk))
      clear hW hk
      go_wp2
      refine wp_region_tail (l1 := [_, _, _, _, _, _, _]) (l2 := [_]) (by kernel_rfl) Ext (fun W => Below.refl _ W) (fun W => show Below W.heap.size W { W with drawn := W.drawn + 1 } from ⟨rfl, rfl, rfl, Nat.le_refl _, fun _ _ => rfl⟩) Ext.trans
        (fun i s W => match i with
          | 0 => s 0 = cW b
          | 1 => s 1 = .pointer (some ⟨rb, ro, none⟩)
          | 2 => s 2 = .pointer (some ⟨rb, ro, none⟩)
          | 3 => s 3 = .pointer (some ⟨rb, ro + 2, none⟩)
          | 4 => s 4 = .func (.method "nursery/program.number") #[cW b] #[]
          | 5 => s 5 = .func (.method "nursery/program.number") #[cW b] #[]
          | 6 => s 6 = cW b
          | _ => True)
        (fun i => [i])
        (by
          intro i s s' W W' h hs hE
          have hs := hs i (by simp)
          match i, h, hs with
          | 0, h, hs => exact hs.trans h
          | 1, h, hs => exact hs.trans h
          | 2, h, hs => exact hs.trans h
          | 3, h, hs => exact hs.trans h
          | 4, h, hs => exact hs.trans h
          | 5, h, hs => exact hs.trans h
          | 6, h, hs => exact hs.trans h
          | i + 7, h, hs => exact trivial)
        (by kernel_rfl) (by kernel_rfl) (by kernel_rfl) 46 rfl (by kernel_rfl) (by kernel_rfl) ?_ ?_
      · intro i op ho a' W hA

        match i, ho with
        | 0, ho =>
          obtain rfl := Option.some.inj ho
          have e1 : a'.eval (.tmp 0) = cW b := hA.keep 0 (by kernel_rfl)
          refine GoesG.value (cW b) rfl ?_ (Below.refl _ _) (fun s h1 h2 => h1 rfl)
          simp only [execOp, e1]
          simp [go_sem]
        | 1, ho =>
          obtain rfl := Option.some.inj ho
          have e1 : a'.eval (.tmp 1) = .pointer (some ⟨rb, ro, none⟩) := hA.keep 1 (by kernel_rfl)
          refine GoesG.value (.pointer (some ⟨rb, ro, none⟩)) rfl ?_ (Below.refl _ _) (fun s h1 h2 => h1 rfl)
          simp only [execOp, e1]
          simp [go_sem]
        | 2, ho =>
          obtain rfl := Option.some.inj ho
          have e1 : a'.eval (.tmp 21) = .pointer (some ⟨rb, ro, none⟩) := (sv_dst (l := _) rfl).symm.trans (hA.new 1 (by decide) (by kernel_rfl))
          refine GoesG.value (.pointer (some ⟨rb, ro, none⟩)) rfl ?_ (Below.refl _ _) (fun s h1 h2 => h1 rfl)
          simp only [execOp, e1]
          simp [go_sem]
        | 3, ho =>
          obtain rfl := Option.some.inj ho
          have e1 : a'.eval (.tmp 22) = .pointer (some ⟨rb, ro, none⟩) := (sv_dst (l := _) rfl).symm.trans (hA.new 2 (by decide) (by kernel_rfl))
          refine GoesG.value (.pointer (some ⟨rb, ro + 2, none⟩)) rfl ?_ (Below.refl _ _) (fun s h1 h2 => h1 rfl)
          simp only [execOp, e1]
          simp [go_sem]
        | 4, ho =>
          obtain rfl := Option.some.inj ho
          have e1 : a'.eval (.tmp 20) = cW b := (sv_dst (l := _) rfl).symm.trans (hA.new 0 (by decide) (by kernel_rfl))
          refine GoesG.value (.func (.method "nursery/program.number") #[cW b] #[]) rfl ?_ (Below.refl _ _) (fun s h1 h2 => h1 rfl)
          simp only [execOp, e1]
          simp [go_sem]
          simpa [Act.eval] using e1
        | 5, ho =>
          obtain rfl := Option.some.inj ho
          have e1 : a'.eval (.tmp 24) = .func (.method "nursery/program.number") #[cW b] #[] := (sv_dst (l := _) rfl).symm.trans (hA.new 4 (by decide) (by kernel_rfl))
          refine GoesG.value (.func (.method "nursery/program.number") #[cW b] #[]) rfl ?_ (Below.refl _ _) (fun s h1 h2 => h1 rfl)
          simp only [execOp, e1]
          simp [go_sem, hna_n]
        | 6, ho =>
          obtain rfl := Option.some.inj ho
          have e1 : a'.eval (.tmp 20) = cW b := (sv_dst (l := _) rfl).symm.trans (hA.new 0 (by decide) (by kernel_rfl))
          refine GoesG.value (cW b) rfl ?_ (Below.refl _ _) (fun s h1 h2 => h1 rfl)
          simp only [execOp, e1]
          simp [go_sem]
        | i + 7, ho => cases ho
      · intro vs w3d hvs hG2 hΦ
        obtain ⟨y0, y1, y2, y3, y4, y5, y6, rfl⟩ : ∃ y0 y1 y2 y3 y4 y5 y6, vs = y0 :: y1 :: y2 :: y3 :: y4 :: y5 :: y6 :: [] := by
          match vs, hvs with
          | y0 :: y1 :: y2 :: y3 :: y4 :: y5 :: y6 :: [], _ => exact ⟨y0, y1, y2, y3, y4, y5, y6, rfl⟩
        have e0 : y0 = cW b := hΦ 0 (by decide)
        subst e0
        have e1 : y1 = .pointer (some ⟨rb, ro, none⟩) := hΦ 1 (by decide)
        subst e1
        have e2 : y2 = .pointer (some ⟨rb, ro, none⟩) := hΦ 2 (by decide)
        subst e2
        have e3 : y3 = .pointer (some ⟨rb, ro + 2, none⟩) := hΦ 3 (by decide)
        subst e3
        have e4 : y4 = .func (.method "nursery/program.number") #[cW b] #[] := hΦ 4 (by decide)
        subst e4
        have e5 : y5 = .func (.method "nursery/program.number") #[cW b] #[] := hΦ 5 (by decide)
        subst e5
        have e6 : y6 = cW b := hΦ 6 (by decide)
        subst e6
        clear hΦ hvs
        simp only [putAll, Act.put, List.setIfInBounds_toArray, List.set_cons_succ, List.set_cons_zero]
        have HD2 := Lib.hid hG2
        clear hG2
        go_wp2_with fail
        refine (show Calls _ _ _ _ _ from K2.out _ _ (Ext.trans HX2.out HD2.out) (HW2.out.ext HD2.out) (by have := HLEN.out; simp only [fnS, List.length_append] at this ⊢; omega)).mono ?_
        rintro _ w3 ⟨rfl, hW, hk⟩
        have HX3 := Lib.hid (hk.exw (Ext.trans HX2.out HD2.out))
        have HW3 := Lib.hid hW
        have HK3 := Lib.hid (WK.trans HK2.out (WK.trans (WK.of_ext HD2.out HX2.out.size) hk))
        clear hW hk
        go_wp2
        refine wp_region_tail (l1 := [_, _, _, _, _, _, _]) (l2 := [_]) (by kernel_rfl) Ext (fun W => Below.refl _ W) (fun W => show Below W.heap.size W { W with drawn := W.drawn + 1 } from ⟨rfl, rfl, rfl, Nat.le_refl _, fun _ _ => rfl⟩) Ext.trans
          (fun i s W => match i with
            | 0 => s 0 = cW b
            | 1 => s 1 = .pointer (some ⟨rb, ro, none⟩)
            | 2 => s 2 = .pointer (some ⟨rb, ro, none⟩)
            | 3 => s 3 = .pointer (some ⟨rb, ro + 3, none⟩)
            | 4 => s 4 = .func (.method "nursery/program.number") #[cW b] #[]
            | 5 => s 5 = .func (.method "nursery/program.number") #[cW b] #[]
            | 6 => s 6 = cW b
            | _ => True)
          (fun i => [i])
          (by
            intro i s s' W W' h hs hE
            have hs := hs i (by simp)
            match i, h, hs with
            | 0, h, hs => exact hs.trans h
            | 1, h, hs => exact hs.trans h
            | 2, h, hs => exact hs.trans h
            | 3, h, hs => exact hs.trans h
            | 4, h, hs => exact hs.trans h
            | 5, h, hs => exact hs.trans h
            | 6, h, hs => exact hs.trans h
            | i + 7, h, hs => exact trivial)
          (by kernel_rfl) (by kernel_rfl) (by kernel_rfl) 46 rfl (by kernel_rfl) (by kernel_rfl) ?_ ?_
        · intro i op ho a' W hA

          match i, ho with
          | 0, ho =>
            obtain rfl := Option.some.inj ho
            have e1 : a'.eval (.tmp 0) = cW b := hA.keep 0 (by kernel_rfl)
            refine GoesG.value (cW b) rfl ?_ (Below.refl _ _) (fun s h1 h2 => h1 rfl)
            simp only [execOp, e1]
            simp [go_sem]
          | 1, ho =>
            obtain rfl := Option.some.inj ho
            have e1 : a'.eval (.tmp 1) = .pointer (some ⟨rb, ro, none⟩) := hA.keep 1 (by kernel_rfl)
            refine GoesG.value (.pointer (some ⟨rb, ro, none⟩)) rfl ?_ (Below.refl _ _) (fun s h1 h2 => h1 rfl)
            simp only [execOp, e1]
            simp [go_sem]
          | 2, ho =>
            obtain rfl := Option.some.inj ho
            have e1 : a'.eval (.tmp 29) = .pointer (some ⟨rb, ro, none⟩) := (sv_dst (l := _) rfl).symm.trans (hA.new 1 (by decide) (by kernel_rfl))
            refine GoesG.value (.pointer (some ⟨rb, ro, none⟩)) rfl ?_ (Below.refl _ _) (fun s h1 h2 => h1 rfl)
            simp only [execOp, e1]
            simp [go_sem]
          | 3, ho =>
            obtain rfl := Option.some.inj ho
            have e1 : a'.eval (.tmp 30) = .pointer (some ⟨rb, ro, none⟩) := (sv_dst (l := _) rfl).symm.trans (hA.new 2 (by decide) (by kernel_rfl))
            refine GoesG.value (.pointer (some ⟨rb, ro + 3, none⟩)) rfl ?_ (Below.refl _ _) (fun s h1 h2 => h1 rfl)
            simp only [execOp, e1]
            simp [go_sem]
          | 4, ho =>
            obtain rfl := Option.some.inj ho
            have e1 : a'.eval (.tmp 28) = cW b := (sv_dst (l := _) rfl).symm.trans (hA.new 0 (by decide) (by kernel_rfl))
            refine GoesG.value (.func (.method "nursery/program.number") #[cW b] #[]) rfl ?_ (Below.refl _ _) (fun s h1 h2 => h1 rfl)
            simp only [execOp, e1]
            simp [go_sem]
            simpa [Act.eval] using e1
          | 5, ho =>
            obtain rfl := Option.some.inj ho
            have e1 : a'.eval (.tmp 32) = .func (.method "nursery/program.number") #[cW b] #[] := (sv_dst (l := _) rfl).symm.trans (hA.new 4 (by decide) (by kernel_rfl))
            refine GoesG.value (.func (.method "nursery/program.number") #[cW b] #[]) rfl ?_ (Below.refl _ _) (fun s h1 h2 => h1 rfl)
            simp only [execOp, e1]
            simp [go_sem, hna_n]
          | 6, ho =>
            obtain rfl := Option.some.inj ho
            have e1 : a'.eval (.tmp 28) = cW b := (sv_dst (l := _) rfl).symm.trans (hA.new 0 (by decide) (by kernel_rfl))
            refine GoesG.value (cW b) rfl ?_ (Below.refl _ _) (fun s h1 h2 => h1 rfl)
            simp only [execOp, e1]
            simp [go_sem]
          | i + 7, ho => cases ho
        · intro vs w4d hvs hG3 hΦ
          obtain ⟨y0, y1, y2, y3, y4, y5, y6, rfl⟩ : ∃ y0 y1 y2 y3 y4 y5 y6, vs = y0 :: y1 :: y2 :: y3 :: y4 :: y5 :: y6 :: [] := by
            match vs, hvs with
            | y0 :: y1 :: y2 :: y3 :: y4 :: y5 :: y6 :: [], _ => exact ⟨y0, y1, y2, y3, y4, y5, y6, rfl⟩
          have e0 : y0 = cW b := hΦ 0 (by decide)
          subst e0
          have e1 : y1 = .pointer (some ⟨rb, ro, none⟩) := hΦ 1 (by decide)
          subst e1
          have e2 : y2 = .pointer (some ⟨rb, ro, none⟩) := hΦ 2 (by decide)
          subst e2
          have e3 : y3 = .pointer (some ⟨rb, ro + 3, none⟩) := hΦ 3 (by decide)
          subst e3
          have e4 : y4 = .func (.method "nursery/program.number") #[cW b] #[] := hΦ 4 (by decide)
          subst e4
          have e5 : y5 = .func (.method "nursery/program.number") #[cW b] #[] := hΦ 5 (by decide)
          subst e5
          have e6 : y6 = cW b := hΦ 6 (by decide)
          subst e6
          clear hΦ hvs
          simp only [putAll, Act.put, List.setIfInBounds_toArray, List.set_cons_succ, List.set_cons_zero]
          have HD3 := Lib.hid hG3
          clear hG3
          go_wp2_with fail
          refine (show Calls _ _ _ _ _ from K3.out _ _ (Ext.trans HX3.out HD3.out) (HW3.out.ext HD3.out) (by have := HLEN.out; simp only [fnS, List.length_append] at this ⊢; omega)).mono ?_
          rintro _ w4 ⟨rfl, hW, hk⟩
          have HX4 := Lib.hid (hk.exw (Ext.trans HX3.out HD3.out))
          have HW4 := Lib.hid hW
          have HK4 := Lib.hid (WK.trans HK3.out (WK.trans (WK.of_ext HD3.out HX3.out.size) hk))
          clear hW hk
          go_wp2_with fail
          refine (show Calls _ _ _ _ _ from K4.out _ _ HX4.out HW4.out (by have := HLEN.out; simp only [fnS, List.length_append] at this ⊢; omega)).mono ?_
          rintro _ w5 ⟨rfl, hW, hk⟩
          have HX5 := Lib.hid (hk.exw HX4.out)
          have HW5 := Lib.hid hW
          have HK5 := Lib.hid (WK.trans HK4.out hk)
          clear hW hk
          go_wp2_with fail
          refine (show Calls _ _ _ _ _ from K5.out _ _ HX5.out HW5.out (by have := HLEN.out; simp only [fnS, List.length_append] at this ⊢; omega)).mono ?_
          rintro _ w6 ⟨rfl, hW, hk⟩
          have HX6 := Lib.hid (hk.exw HX5.out)
          have HW6 := Lib.hid hW
          have HK6 := Lib.hid (WK.trans HK5.out hk)
          clear hW hk
          go_wp2
          go_end0
          exact ⟨rfl, (by have := HW6.out; simpa only [fnS, List.append_assoc] using this), HK6.out⟩
theorem wFn_any (w0 : World) (b : Nat) (x : Fn) (rb ro : Nat) (a : Option Addr) (c : Nat) (hx : Fn.cells w0 rb ro x a c) (hR : InsRow w0 a x.code) (hwf : x.wf) (hnm : x.name.length ≤ 1000000) (hm : MaxL w0) (hm3 : 3 < w0.heap.size) (hf : w0.frozen? ⟨rb, ro + 4, none⟩ = false) (l : List UInt8) (W : World) (hX : Ext w0 W) (hW : Wrt w0.heap.size b l W) (hlen : (l ++ fnS x).length ≤ 100000000000) :
    Calls Tryz.prog 51 #[cW b, .pointer (some ⟨rb, ro, none⟩)] W (WPost w0.heap.size b l (fnS x) W) :=
  wFn_one w0 b x rb ro a c hx hwf hnm hm hm3 hf (fun l1 W1 hE h hl => weach_Ins w0 b x.code a c rb (ro + 5) hx.c5 hwf.len (fun i hi => by
    obtain ⟨b', o', a', c', e, _⟩ := hR i hi
    exact ⟨b', o', e⟩) (fun i hi rb' ro' e l2 W2 hE2 h2 hl2 => by
    obtain ⟨b', o', a', c', e', hc, hI, _⟩ := hR i hi
    rw [e] at e'
    cases e'
    exact wIns_any w0 b x.code[i] rb' (ro' + i * 5) a' c' hc hI (hwf.code _ (List.getElem_mem hi)) l2 W2 hE2 h2 hl2) l1 W1 hE h hl) l W hX hW hlen
end Go.Proofs.YtfkjokbhnblndaaGreatDoor

namespace Go.Proofs.YtfkjokbhnblndaaGreatDoor
open Go.RowKit Go.Shelf
set_option linter.unusedVariables false
set_option linter.unusedSimpArgs false

/-- the cells of the booleans of a program can be stored to -/
structure PgFree (w : World) (p : Pg) (A : PA) : Prop where
  fs : ∀ b o, A.fa = some ⟨b, o, none⟩ → ∀ i, i < p.fs.length → w.frozen? ⟨b, o + i * 6 + 4, none⟩ = false
  vs : ∀ b o, A.va = some ⟨b, o, none⟩ → ∀ i, i < p.vs.length → w.frozen? ⟨b, o + i * 3 + 2, none⟩ = false
/-- names that are not too long -/
structure NmB (p : Pg) : Prop where
  fs : ∀ x ∈ p.fs, x.name.length ≤ 1000000
  os : ∀ x ∈ p.os, x.name.length ≤ 1000000
  vs : ∀ x ∈ p.vs, x.name.length ≤ 1000000
theorem PgFree.ext {w W : World} {p : Pg} {A : PA} (h : PgFree w p A) (hA : PgAt w p A) (hE : Ext w W) : PgFree W p A := by
  refine ⟨fun b o e i hi => free_ext (h.fs b o e i hi) ?_ hE, fun b o e i hi => free_ext (h.vs b o e i hi) ?_ hE⟩
  · obtain ⟨b', o', a, c, e', hc, _⟩ := hA.fs i hi
    rw [e] at e'
    cases e'
    exact cell_lt2 hc.c4
  · obtain ⟨b', o', e', hc⟩ := hA.vs i hi
    rw [e] at e'
    cases e'
    exact cell_lt2 hc.c2

set_option maxRecDepth 100000 in
set_option maxHeartbeats 4000000 in
theorem wdesc_any (w0 : World) (b : Nat) (p : Pg) (A : PA) (pb : Nat) (hbox : w0.heap[pb]? = some (.cells #[.slice A.fa p.fs.length A.fc, .slice A.oa p.os.length A.oc, .slice A.va p.vs.length A.vc] 26 (0, 0))) (hAt : PgAt w0 p A) (hFr : PgFree w0 p A) (hN : NmB p) (hm : MaxL w0) (hm3 : 3 < w0.heap.size)
    (l : List UInt8) (W : World) (hX : Ext w0 W) (hW : Wrt w0.heap.size b l W) (hlen : (l ++ pgS p).length ≤ 100000000000) :
    Calls Tryz.prog 26 #[cW b, .pointer (some ⟨pb, 0, none⟩)] W (WPost w0.heap.size b l (pgS p) W) := by
  have KT := Lib.hid (fun l1 W1 a (hE : Ext w0 W1) (h : Wrt w0.heap.size b l1 W1) hn hz (hl : l1.length ≤ 100000000000) => (show Calls Tryz.prog 184 #[.pointer (some ⟨b, 0, none⟩), .pointer (some a)] W1 (WPost w0.heap.size b l1 (txS [78, 80, 49]) W1) from wtext_any w0.heap.size b l1 a [78, 80, 49] W1 h hn hz (by decide) (hm.below hm3 hE) hl hE.size))
  have KF := Lib.hid (fun l1 W1 (hE : Ext w0 W1) (h : Wrt w0.heap.size b l1 W1) (hl : (l1 ++ seqS fnS p.fs).length ≤ 100000000000) => weach_Fn w0 b p.fs A.fa A.fc pb 0 (cell_of hbox rfl) hAt.wf.nf (fun i hi => by
      obtain ⟨b', o', a', c', e, _⟩ := hAt.fs i hi
      exact ⟨b', o', e⟩) (fun i hi rb' ro' e l2 W2 hE2 h2 hl2 => by
      obtain ⟨b', o', a', c', e', hc, hI⟩ := hAt.fs i hi
      have e2 := e
      rw [e] at e'
      cases e'
      exact wFn_any w0 b p.fs[i] rb' (ro' + i * 6) a' c' hc hI (hAt.wf.fs _ (List.getElem_mem hi)) (hN.fs _ (List.getElem_mem hi)) hm hm3 (hFr.fs rb' ro' e2 i hi) l2 W2 hE2 h2 hl2) l1 W1 hE h hl)
  have KO := Lib.hid (fun l1 W1 (hE : Ext w0 W1) (h : Wrt w0.heap.size b l1 W1) (hl : (l1 ++ seqS obS p.os).length ≤ 100000000000) => weach_Ob w0 b p.os A.oa A.oc pb 1 (cell_of hbox rfl) hAt.wf.no (fun i hi => by
      obtain ⟨b', o', e, _⟩ := hAt.os i hi
      exact ⟨b', o', e⟩) (fun i hi rb' ro' e l2 W2 hE2 h2 hl2 => by
      obtain ⟨b', o', e', hc⟩ := hAt.os i hi
      rw [e] at e'
      cases e'
      exact wOb_any w0 b p.os[i] rb' (ro' + i * 4) hc (hAt.wf.os _ (List.getElem_mem hi)) (hN.os _ (List.getElem_mem hi)) hm hm3 l2 W2 hE2 h2 hl2) l1 W1 hE h hl)
  have KV := Lib.hid (fun l1 W1 (hE : Ext w0 W1) (h : Wrt w0.heap.size b l1 W1) (hl : (l1 ++ seqS vaS p.vs).length ≤ 100000000000) => weach_Va w0 b p.vs A.va A.vc pb 2 (cell_of hbox rfl) hAt.wf.nv (fun i hi => by
      obtain ⟨b', o', e, _⟩ := hAt.vs i hi
      exact ⟨b', o', e⟩) (fun i hi rb' ro' e l2 W2 hE2 h2 hl2 => by
      obtain ⟨b', o', e', hc⟩ := hAt.vs i hi
      have e2 := e
      rw [e] at e'
      cases e'
      exact wVa_any w0 b p.vs[i] rb' (ro' + i * 3) hc (hAt.wf.vs _ (List.getElem_mem hi)) (hN.vs _ (List.getElem_mem hi)) hm hm3 (hFr.vs rb' ro' e2 i hi) l2 W2 hE2 h2 hl2) l1 W1 hE h hl)
  have HX0 := Lib.hid hX
  have HW0 := Lib.hid hW
  have HLEN := Lib.hid hlen
  have hb1 := alloc_here W (.cells #[sV [78, 80, 49]] 9)
  have HB1 := Lib.hid hb1
  have HE1 := Lib.hid (ext_alloc (Below.refl _ W) (.cells #[sV [78, 80, 49]] 9))
  clear hX hW hlen hbox hAt hFr hN hm hb1
  go_enter Tryz.func26, Tryz.ntmps26
  go_wp2_with fail
  refine (show Calls _ _ _ _ _ from KT.out l _ ⟨W.heap.size, 0, none⟩ (Ext.trans HX0.out HE1.out) (HW0.out.ext HE1.out) (cell_of HB1.out rfl) rfl (by have := HLEN.out; simp only [List.length_append] at this; omega)).mono ?_
  rintro _ w1 ⟨rfl, hW1, hk⟩
  have HX1 := Lib.hid (hk.exw (Ext.trans HX0.out HE1.out))
  have HK1 := Lib.hid (WK.trans (WK.of_ext HE1.out HX0.out.size) hk)
  have HW1 := Lib.hid hW1
  clear hk hW1
  go_wp2_with fail
  refine (show Calls _ _ _ _ _ from KF.out _ _ HX1.out HW1.out (by have := HLEN.out; simp only [pgS, List.length_append] at this ⊢; omega)).mono ?_
  rintro _ w2 ⟨rfl, hW2, hk⟩
  have HX2 := Lib.hid (hk.exw HX1.out)
  have HK2 := Lib.hid (WK.trans HK1.out hk)
  have HW2 := Lib.hid hW2
  clear hk hW2
  go_wp2_with fail
  refine (show Calls _ _ _ _ _ from KO.out _ _ HX2.out HW2.out (by have := HLEN.out; simp only [pgS, List.length_append] at this ⊢; omega)).mono ?_
  rintro _ w3 ⟨rfl, hW3, hk⟩
  have HX3 := Lib.hid (hk.exw HX2.out)
  have HK3 := Lib.hid (WK.trans HK2.out hk)
  have HW3 := Lib.hid hW3
  clear hk hW3
  go_wp2_with fail
  refine (show Calls _ _ _ _ _ from KV.out _ _ HX3.out HW3.out (by have := HLEN.out; simp only [pgS, List.length_append] at this ⊢; omega)).mono ?_
  rintro _ w4 ⟨rfl, hW4, hk⟩
  have HK4 := Lib.hid (WK.trans HK3.out hk)
  have HW4 := Lib.hid hW4
  clear hk hW4
  go_wp2
  go_end0
  exact ⟨rfl, (by have := HW4.out; simpa only [pgS, List.append_assoc] using this), HK4.out⟩

/-- what sealing gives -/
def sealR (l : List UInt8) : List UInt8 × Int := if l.length ≤ 100000 then (frame l, 0) else ([], 4)
/-- what Encode gives -/
def encR (p : Pg) : List UInt8 × Int := if ckPg p = 0 then sealR (pgS p) else ([], ckPg p)
theorem Seal_any (l : List UInt8) (w : World) (hl : l.length ≤ maxLen) : Gives Tryz.prog 27 #[sV l] w (.tuple #[sV (sealR l).1, .int .i64 (sealR l).2]) := by
  unfold sealR
  by_cases h : l.length ≤ 100000
  · rw [if_pos h]; exact Seal_yes l w h
  · rw [if_neg h]; exact Seal_no l w (by omega) hl
theorem Valid.nmB {p : Pg} (h : Valid p) : NmB p := by
  refine ⟨fun x hx => ?_, fun x hx => ?_, fun x hx => ?_⟩
  · obtain ⟨i, hi, rfl⟩ := List.getElem_of_mem hx
    have := (isNm_len (h.fn hi).nm).2; omega
  · obtain ⟨i, hi, rfl⟩ := List.getElem_of_mem hx
    have := (isNm_len (h.ob hi).nm).2; omega
  · obtain ⟨i, hi, rfl⟩ := List.getElem_of_mem hx
    have := (isNm_len (h.va hi).nm).2; omega
theorem pgS_len {p : Pg} (h : Valid p) : (pgS p).length ≤ 10000000000 := by
  have hf : ∀ x ∈ p.fs, (fnS x).length ≤ 50000000 := by
    intro x hx
    obtain ⟨i, hi, rfl⟩ := List.getElem_of_mem hx
    have h1 := (h.fn hi).len
    have h2 := seqS_len insS 200036 p.fs[i].code (fun y _ => insS_len y)
    have := txS_len p.fs[i].name; have := nuS_len p.fs[i].params; have := nuS_len p.fs[i].regs; have := nuS_len p.fs[i].prio; have := nuS_len (boN p.fs[i].cl); have := nuS_len p.fs[i].code.length
    unfold fnS seqS
    simp only [List.length_append]
    have : p.fs[i].code.length * 200036 ≤ 200 * 200036 := Nat.mul_le_mul_right _ h1
    omega
  have ho : ∀ x ∈ p.os, (obS x).length ≤ 300000 := by
    intro x hx
    have := txS_len x.name; have := nuS_len x.kind; have := nuS_len x.size; have := nuS_len x.oth
    unfold obS
    simp only [List.length_append]; omega
  have hv : ∀ x ∈ p.vs, (vaS x).length ≤ 300000 := by
    intro x hx
    have := txS_len x.name; have := nuS_len x.init; have := nuS_len (boN x.atomic)
    unfold vaS
    simp only [List.length_append]; omega
  have h1 := seqS_len fnS _ p.fs hf
  have h2 := seqS_len obS _ p.os ho
  have h3 := seqS_len vaS _ p.vs hv
  have := txS_len [78, 80, 49]; have := nuS_len p.fs.length; have := nuS_len p.os.length; have := nuS_len p.vs.length
  have := h.f2; have := h.o2; have := h.v2
  unfold pgS seqS
  simp only [List.length_append]
  omega
theorem nil_len {S : List UInt8} {n : Nat} (h : S.length ≤ n) : ([] ++ S).length ≤ n := by rw [List.nil_append]; exact h
theorem pgS_ne (p : Pg) : pgS p ≠ [] := by
  unfold pgS
  intro h
  have := (List.append_eq_nil_iff.1 h).1
  revert this
  decide

set_option maxRecDepth 100000 in
set_option maxHeartbeats 4000000 in
theorem Encode_walk (A : PA) (n1 n2 n3 : Nat) (S : List UInt8) (w : World) (hne : S ≠ []) (hln : S.length ≤ maxLen)
    (hC : ∀ W, Ext w W → Gives Tryz.prog 17 #[.agg #[.slice A.fa n1 A.fc, .slice A.oa n2 A.oc, .slice A.va n3 A.vc]] W (.int .i64 0))
    (hD : ∀ (w0 W : World) (pb b : Nat), Ext w w0 → w0.heap[pb]? = some (.cells #[.slice A.fa n1 A.fc, .slice A.oa n2 A.oc, .slice A.va n3 A.vc] 26 (0, 0)) → Ext w0 W → Wrt w0.heap.size b [] W →
      Calls Tryz.prog 26 #[cW b, .pointer (some ⟨pb, 0, none⟩)] W (fun e w' => e = .returned (.tuple #[]) ∧ Wrt w0.heap.size b S w' ∧ WK w0.heap.size b W w')) :
    Gives Tryz.prog 12 #[.agg #[.slice A.fa n1 A.fc, .slice A.oa n2 A.oc, .slice A.va n3 A.vc]] w (.tuple #[sV (sealR S).1, .int .i64 (sealR S).2]) := by
  have KC := Lib.hid hC
  have KD := Lib.hid hD
  have HNE := Lib.hid hne
  have KS := Lib.hid (fun W => Seal_any S W hln)
  clear hC hD hne hln
  unfold Gives
  have HX1 := Lib.hid (ext_alloc (Below.refl _ w) (.cells #[.slice A.fa n1 A.fc, .slice A.oa n2 A.oc, .slice A.va n3 A.vc] 26))
  have HB1 := Lib.hid (alloc_here w (.cells #[.slice A.fa n1 A.fc, .slice A.oa n2 A.oc, .slice A.va n3 A.vc] 26))
  go_enter Tryz.func12, Tryz.ntmps12
  go_wp2_with fail
  refine (show Gives _ _ _ _ _ from KC.out _ HX1.out).mono ?_
  intro w1 hE
  replace hE : Ext (w.alloc (.cells #[.slice A.fa n1 A.fc, .slice A.oa n2 A.oc, .slice A.va n3 A.vc] 26)) w1 := hE
  have HX2 := Lib.hid (Ext.trans HX1.out hE)
  have HB2 := Lib.hid ((hE.below.block _ (lt_of_block HB1.out)).trans HB1.out)
  clear hE
  have HX3 := Lib.hid (ext_alloc (Below.refl _ w1) (.cells #[.pointer none, .slice none 0 0] 65))
  have HW3 := Lib.hid (Wrt.fresh w1)
  go_wp2_with fail
  refine (show Calls _ _ _ _ _ from KD.out w1 _ w.heap.size w1.heap.size HX2.out HB2.out HX3.out HW3.out).mono ?_
  rintro _ w3 ⟨rfl, hW3, hk⟩
  have HW4 := Lib.hid hW3
  have HX4 := Lib.hid (hk.exw HX3.out)
  clear hk hW3
  go_wp2_with fail
  refine (wstr_any w1.heap.size w1.heap.size S _ HW4.out HNE.out).mono ?_
  rintro _ w4 ⟨rfl, hB⟩
  have HX5 := Lib.hid (Ext.trans HX2.out (Below.trans HX4.out hB))
  clear hB
  obtain ⟨r1, hr1⟩ : ∃ r, (sealR S).1 = r := ⟨_, rfl⟩
  obtain ⟨r2, hr2⟩ : ∃ r, (sealR S).2 = r := ⟨_, rfl⟩
  rw [hr1, hr2] at KS
  have HR := Lib.hid (And.intro hr1 hr2)
  clear hr1 hr2
  go_wp2_with fail
  refine (show Gives _ _ _ _ _ from KS.out _).mono ?_
  intro w5 hE5
  have HX6 := Lib.hid (Ext.trans HX5.out hE5)
  clear hE5
  go_wp2
  go_ret2
  exact ⟨by rw [HR.out.1, HR.out.2]; rfl, HX6.out⟩
theorem Encode_yes (p : Pg) (A : PA) (w : World) (hAt : PgAt w p A) (hFr : PgFree w p A) (hm : MaxL w) (hc : ckPg p = 0) : Gives Tryz.prog 12 #[PV p A] w (.tuple #[sV (encR p).1, .int .i64 (encR p).2]) := by
  have hV := valid_iff.1 hc
  have hE : encR p = sealR (pgS p) := by unfold encR; rw [if_pos hc]
  rw [hE]
  have hl := pgS_len hV
  have hne := pgS_ne p
  have hD : ∀ (w0 W : World) (pb b : Nat), Ext w w0 → w0.heap[pb]? = some (.cells #[.slice A.fa p.fs.length A.fc, .slice A.oa p.os.length A.oc, .slice A.va p.vs.length A.vc] 26 (0, 0)) → Ext w0 W → Wrt w0.heap.size b [] W →
      Calls Tryz.prog 26 #[cW b, .pointer (some ⟨pb, 0, none⟩)] W (WPost w0.heap.size b [] (pgS p) W) :=
    fun w0 W pb b hE0 hb hX hW => wdesc_any w0 b p A pb hb (hAt.ext hE0) (hFr.ext hAt hE0) hV.nmB (hm.below hm.lt hE0) (Nat.lt_of_lt_of_le hm.lt hE0.size) [] W hX hW (nil_len (Nat.le_trans hl (by decide)))
  generalize pgS p = S at *
  refine Encode_walk A p.fs.length p.os.length p.vs.length S w hne (Nat.le_trans hl (by decide)) (fun W hE => ?_) (fun w0 W pb b hE0 hb hX hW => (hD w0 W pb b hE0 hb hX hW).mono fun e w' h => ?_)
  · have := Check_any p A W (hAt.ext hE)
    rw [hc] at this
    exact this
  · obtain ⟨h1, h2, h3⟩ := h
    exact ⟨h1, by rwa [List.nil_append] at h2, h3⟩
set_option maxRecDepth 100000 in
set_option maxHeartbeats 4000000 in
theorem Encode_no (p : Pg) (A : PA) (w : World) (hAt : PgAt w p A) (hFr : PgFree w p A) (hm : MaxL w) (hc : ¬ ckPg p = 0) : Gives Tryz.prog 12 #[PV p A] w (.tuple #[sV (encR p).1, .int .i64 (encR p).2]) := by
  have KC := Lib.hid (fun W (hE : Ext w W) => Check_any p A W (hAt.ext hE))
  have hm3 := hm.lt
  unfold Gives
  have hE : encR p = ([], ckPg p) := by unfold encR; rw [if_neg hc]
  rw [hE]
  have HX1 := Lib.hid (ext_alloc (Below.refl _ w) (.cells #[.slice A.fa p.fs.length A.fc, .slice A.oa p.os.length A.oc, .slice A.va p.vs.length A.vc] 26))
  clear hAt hFr hm hE
  dsimp only [PV] at KC ⊢
  generalize p.fs.length = n1 at *
  generalize p.os.length = n2 at *
  generalize p.vs.length = n3 at *
  generalize ckPg p = c at *
  have g1 : (c == 0) = false := by simpa using hc
  have g2 : (c != 0) = true := by simpa using hc
  clear hc
  go_enter Tryz.func12, Tryz.ntmps12
  go_wp2_with fail
  refine (show Gives _ _ _ _ _ from KC.out _ HX1.out).mono ?_
  intro w1 hE
  have HX2 := Lib.hid (Ext.trans HX1.out hE)
  clear hE
  go_wp2
  go_ret2
  exact ⟨rfl, HX2.out⟩
theorem Encode_any (p : Pg) (A : PA) (w : World) (hAt : PgAt w p A) (hFr : PgFree w p A) (hm : MaxL w) : Gives Tryz.prog 12 #[PV p A] w (.tuple #[sV (encR p).1, .int .i64 (encR p).2]) := by
  by_cases hc : ckPg p = 0
  · exact Encode_yes p A w hAt hFr hm hc
  · exact Encode_no p A w hAt hFr hm hc
end Go.Proofs.YtfkjokbhnblndaaGreatDoor

