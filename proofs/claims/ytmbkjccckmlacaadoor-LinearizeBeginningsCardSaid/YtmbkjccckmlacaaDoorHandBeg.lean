/- The statement LinearizeBeginningsCardSaid: for every input the law returns true, and the arguments read as before; the tables of the library that it lists are tied to the text. The frame round the walk of the law. (With it: LinearizeBeginnings: if a history has a linearization, each of its beginnings has one.) -/
import Derived.Stop.LaidErr
import Derived.Test.YtmbkjccckmlacaaDoorCards
import Derived.Test.YtmbkjccckmlacaaDoorTie
import Derived.WalkKit
import Derived.ProofKit
import Derived.OpenShut
import Derived.ShutString
import Derived.ChangeOld
import Derived.Below
import Derived.Deep.DeepHandedRow
import Derived.Lib.LaidTab
import Derived.Shelf.Vars
import Derived.Test.YtmbkjccckmlacaaDoorPart7

namespace Go.Proofs.YtmbkjccckmlacaaDoor
open Go.RowKit
set_option linter.unusedVariables false
set_option linter.unusedSimpArgs false

theorem u8_bdL {n : Int} (h : (Lit.int .u8 n).wf = true) : 0 ≤ n ∧ n ≤ 255 := by
  simpa [Lit.wf, IntKind.min, IntKind.max, IntKind.signed, IntKind.bits] using h
theorem grH_le {n : Nat} (h : grH n = false) : n ≤ 40 := by
  unfold grH at h
  simp at h
  omega
/-- the model's cells, in all later worlds -/
theorem md_later (w : World) (k z : Int) : ∀ W, Ext (w.alloc (.cells #[.int .i64 k, .int .i64 z] 23)) W → W.cell? ⟨w.heap.size, 0, none⟩ = some (.int .i64 k) ∧ W.cell? ⟨w.heap.size, 1, none⟩ = some (.int .i64 z) := fun W hW => by
  have hb := (hW.below.block _ (lt_of_block (alloc_here w (.cells #[.int .i64 k, .int .i64 z] 23)))).trans (alloc_here w (.cells #[.int .i64 k, .int .i64 z] 23))
  exact ⟨cell_of hb rfl, cell_of hb rfl⟩
theorem begL_len (l : List Cl) (p : Int) : (begL l p).length ≤ l.length := by
  unfold begL
  rw [List.length_map]
  exact List.length_filter_le _ _
set_option maxRecDepth 100000 in
set_option maxHeartbeats 4000000 in
theorem linearizeBeginnings_walk (k z : Int) (l : List Cl) (a : Option Addr) (c : Nat) (n8 : Int) (w : World) (hO : OpIn w a c l) (h8 : (Lit.int .u8 n8).wf = true) (hT : TabW w) :
    Gives Tryd.prog 3 #[.agg #[.int .i64 k, .int .i64 z], .slice a l.length c, .int .u8 n8] w (.bool true) := by
  obtain ⟨g8a, g8b⟩ := u8_bdL h8
  obtain ⟨hHs, hlc, hlm, -⟩ := hO
  unfold Gives
  have KA := Lib.hid (fun W (hW : Ext w W) => awake_any W (hT.below hW.below))
  have HX1 := Lib.hid (ext_allocN w (.cells #[.int .i64 k, .int .i64 z] 23))
  have HMD := Lib.hid (md_later w k z)
  have KS := Lib.hid (fun W (hW : Ext w W) => Search_any k z l a c W (hHs.ext hW) hlm (hT.below hW.below))
  have KG := Lib.hid (fun W => great_any l.length a c W)
  cases hg : grH l.length with
  | true =>
    rw [hg] at KG
    clear h8 hlc hlm hHs hT
    generalize l.length = len at *
    go_enter Tryd.func3, Tryd.ntmps3
    go_wp2_with fail
    refine (KG.out _).mono ?_
    intro w2 hE2
    have HE2 := Lib.hid (Ext.trans HX1.out hE2)
    clear hE2
    go_wp2_with fail
    refine (KA.out _ HE2.out).mono ?_
    intro w3 hE3
    have HE3 := Lib.hid (Ext.trans HE2.out hE3)
    clear hE3
    go_wp2
    go_ret
    exact ⟨rfl, HE3.out⟩
  | false =>
    have hl := grH_le hg
    rw [hg] at KG
    have HL := Lib.hid (fun (h : (srhR k z l).2.1 = true) => beg_law (p := n8 % 14) (by omega) h)
    have KB := Lib.hid (fun W (hW : Ext w W) => beginning_any l (n8 % 14) a c W (hHs.ext hW) (by omega))
    have KS2 := Lib.hid (fun W (x : Option Addr) (cc : Nat) (h : HsAt W x (begL l (n8 % 14))) (ht : TabW W) => Search_any k z (begL l (n8 % 14)) x cc W h (by have := begL_len l (n8 % 14); unfold maxLen; omega) ht)
    have KC := Lib.hid (fun W (x : Option Addr) (cc : Nat) (h : HsAt W x (begL l (n8 % 14))) => Check_any (begL l (n8 % 14)) x cc W (by have := begL_len l (n8 % 14); unfold maxLen; omega) h)
    have HTB := Lib.hid (fun W (hW : Ext w W) => hT.below hW.below)
    have HBL := Lib.hid (begL_len l (n8 % 14))
    generalize srhR k z l = S at *
    obtain ⟨s1, is, er⟩ := S
    unfold ShP at KS KS2
    dsimp only at KS HL
    clear h8 hlc hlm hHs hT hg
    generalize begL l (n8 % 14) = b at *
    have HL40 := Lib.hid hl
    clear hl
    generalize l.length = len at *
    by_cases he : er = 0
    · subst he
      cases is with
      | false =>
        go_enter Tryd.func3, Tryd.ntmps3
        go_wp2_with fail
        refine (KG.out _).mono ?_
        intro w2 hE2
        obtain ⟨m0, m1⟩ := HMD.out w2 hE2
        have HE2 := Lib.hid (Ext.trans HX1.out hE2)
        clear hE2
        go_wp2_with fail
        refine (KS.out _ HE2.out).mono ?_
        rintro e w3 ⟨v, rfl, hr, hE3⟩
        have HE3 := Lib.hid (Ext.trans HE2.out hE3)
        clear hE3 hr m0 m1
        go_wp2_with fail
        refine (KA.out _ HE3.out).mono ?_
        intro w4 hE4
        have HE4 := Lib.hid (Ext.trans HE3.out hE4)
        clear hE4
        go_wp2
        go_ret
        exact ⟨rfl, HE4.out⟩
      | true =>
        obtain ⟨hck, hsr⟩ := HL.out rfl
        have KC2 := Lib.hid (fun W x cc h => by have := KC.out W x cc h; rw [hck] at this; exact this)
        have KS3 := Lib.hid (fun W x cc h ht => by have := KS2.out W x cc h ht; rw [hsr] at this; exact this)
        clear hck hsr KC KS2 HL
        go_enter Tryd.func3, Tryd.ntmps3
        go_wp2_with fail
        refine (KG.out _).mono ?_
        intro w2 hE2
        obtain ⟨m0, m1⟩ := HMD.out w2 hE2
        have HX2 := Lib.hid hE2
        have HE2 := Lib.hid (Ext.trans HX1.out hE2)
        clear hE2
        go_wp2_with fail
        refine (KS.out _ HE2.out).mono ?_
        rintro e w3 ⟨v, rfl, hr, hE3⟩
        have HX3 := Lib.hid (Ext.trans HX2.out hE3)
        have HE3 := Lib.hid (Ext.trans HE2.out hE3)
        clear hE3 hr m0 m1
        go_wp2_with fail
        refine (KB.out _ HE3.out).mono ?_
        rintro e w4 ⟨v4, rfl, hr4, hE4⟩
        obtain ⟨x4, c4, rfl, h4⟩ := hr4.look
        have HH4 := Lib.hid h4
        obtain ⟨m0, m1⟩ := HMD.out w4 (Ext.trans HX3.out hE4)
        have HX4 := Lib.hid (Ext.trans HX3.out hE4)
        have HE4 := Lib.hid (Ext.trans HE3.out hE4)
        clear hE4 hr4 h4
        generalize b.length = lb at *
        go_wp2_with fail
        refine (KS3.out _ x4 c4 HH4.out (HTB.out _ HE4.out)).mono ?_
        rintro e w5 ⟨v5, rfl, hr5, hE5⟩
        have HE5 := Lib.hid (Ext.trans HE4.out hE5)
        have HH5 := Lib.hid (HH4.out.ext hE5)
        clear hE5 hr5 m0 m1
        go_wp2_with fail
        refine (KC2.out _ x4 c4 HH5.out).mono ?_
        intro w6 hE6
        have HE6 := Lib.hid (Ext.trans HE5.out hE6)
        clear hE6
        go_wp2_with fail
        refine (KA.out _ HE6.out).mono ?_
        intro w7 hE7
        have HE7 := Lib.hid (Ext.trans HE6.out hE7)
        clear hE7
        go_wp2
        go_ret
        exact ⟨rfl, HE7.out⟩
    · have hne : (er != 0) = true := by rw [bne_iff_ne]; exact he
      clear he HL KS2 KC KB
      go_enter Tryd.func3, Tryd.ntmps3
      go_wp2_with fail
      refine (KG.out _).mono ?_
      intro w2 hE2
      obtain ⟨m0, m1⟩ := HMD.out w2 hE2
      have HE2 := Lib.hid (Ext.trans HX1.out hE2)
      clear hE2
      go_wp2_with fail
      refine (KS.out _ HE2.out).mono ?_
      rintro e w3 ⟨v, rfl, hr, hE3⟩
      have HE3 := Lib.hid (Ext.trans HE2.out hE3)
      clear hE3 hr m0 m1
      go_wp2_with fail
      refine (KA.out _ HE3.out).mono ?_
      intro w4 hE4
      have HE4 := Lib.hid (Ext.trans HE3.out hE4)
      clear hE4
      go_wp2
      go_ret
      exact ⟨rfl, HE4.out⟩
end Go.Proofs.YtmbkjccckmlacaaDoor

namespace Go.Proofs.YtmbkjccckmlacaaDoor.linearizeBeginnings
open Go.ChangeShapes Go.WideShapes Go.ChangeAt Go.RowKit
open Go.ChangeMaps (open_string shut_string)
set_option linter.unusedVariables false

theorem own : ownKnob Tryd.prog.godebug = none := by kernel_rfl
theorem laidOut : laidOutB Tryd.prog = true := by kernel_rfl
/-- the cells of a datum of plain values -/
def flat : Nat → DataW Unit → List Value
  | _, .lit l => [l.value]
  | n + 1, .agg ps => ps.flatMap (flat n)
  | _, _ => []
/-- a world for the witness: the settled one, the listed tables holding what the text lays -/
def lay (d : DataW Unit) : Obj → Obj
  | .cells _ t frozen => .cells (flat 4 d).toArray t frozen
  | o => o
noncomputable def laidWorld (os : Os) : World :=
  { World.holding Tryd.prog os ⟨#[], #[], []⟩ with heap := ((((World.holding Tryd.prog os ⟨#[], #[], []⟩).heap.modify 1 (lay Rows.laid_math_bits_deBruijn32tab)).modify 2 (lay Rows.laid_math_bits_deBruijn64tab)).modify 0 (lay Rows.laid_internal_strconv_uint64pow10)) }
theorem laid_met (os : Os) : laidMet Tryd.prog Rows.linearizeBeginningsRow.laid ((laidWorld os).forCall (fun _ _ => 0) ⟨#[], #[.agg #[.int .i64 0, .int .i64 0], .slice none 0 0, .int .u8 0], []⟩).memory :=
  laidMet_of_run' 8 (by kernel_rfl) (by kernel_rfl)
theorem reads (os : Os) {H : Type} (enc : TypeId × Value → H) : ∃ places, DataW.whole enc Tryd.prog ((laidWorld os).forCall (fun _ _ => 0) ⟨#[], #[.agg #[.int .i64 0, .int .i64 0], .slice none 0 0, .int .u8 0], []⟩).memory Tryd.f3.params.toList Rows.linearizeBeginningsSpec.vars false (#[.agg #[.int .i64 0, .int .i64 0], .slice none 0 0, .int .u8 0] : Array Value).toList 8 = some ([.agg [.lit (.int .i64 0), .lit (.int .i64 0)], .nil, .lit (.int .u8 0)], [], places) :=
  ⟨[], by kernel_rfl⟩
theorem tab (W : World) (h : laidMetH Tryd.prog Rows.linearizeBeginningsRow.laid W) : TabW W := by
  have h1 : laidMet Tryd.prog Rows.linearizeBeginningsRow.laid W := h
  exact Lib.tabIs_of_head (g := 0) (t := 129) (e := 116) (n := 20) (by kernel_rfl) (by kernel_rfl) Tryd.underlying129 Tryd.underlying116 (by kernel_rfl) (by kernel_rfl) h1.tail.tail
set_option maxRecDepth 100000 in
theorem contract (H : Type) (enc : TypeId × Value → H) (W : World) (base : Nat) (args : Array Value) (ds gs : List (DataW H)) (before : List MemPlace)
    (hval0 : ∀ (j : Nat) t v, Tryd.f3.params[j]? = some t → args[j]? = some v → Value.okWide Tryd.prog W .any base t v)
    (hW : DataW.Whole enc Tryd.prog Tryd.f3.params.toList Rows.linearizeBeginningsSpec.vars false W args.toList ds gs before) (hz : (DataW.weightsEach Tryd.prog (Tryd.f3.params.toList ++ (OpenSpec.ofChange Rows.linearizeBeginningsSpec).bare.plain.varTypes Tryd.prog) (ds ++ gs)).all (· ≤ reachBytes) = true) (hL : laidMetH Tryd.prog Rows.linearizeBeginningsRow.laid W) :
    Calls Tryd.prog 3 args W fun e W' => ∃ v, e = .returned v ∧ Rows.linearizeBeginningsSpec.post enc Tryd.prog Tryd.f3 false true false false W args v W' := by
  have hval := hval0
  have hW' := hW
  obtain ⟨p, q, hA0, hV, rfl, hfz, hnd⟩ := hW
  have hA : DataW.TrodAll enc Tryd.prog W 0 (fun _ => true) true Tryd.f3.params.toList args.toList ds p := hA0
  rw [Tryd.params3] at hA hval
  obtain ⟨v0, vs0, d0, ds0, p0, q0, hargs, rfl, rfl, h0, r0⟩ := trodAll_cons hA
  obtain ⟨v1, vs1, d1, ds1, p1, q1, rfl, rfl, rfl, h1, r1⟩ := trodAll_cons r0
  obtain ⟨v2, vs2, d2, ds2, p2, q2, rfl, rfl, rfl, h2, r2⟩ := trodAll_cons r1
  obtain ⟨rfl, rfl, rfl⟩ := trodAll_nil r2
  obtain rfl : args = #[v0, v1, v2] := by cases args; simp_all
  obtain ⟨rfl, rfl⟩ := trodVars_none hV
  have k0 := h0
  have lt0 : ∀ x ∈ p0, x.block < W.heap.size := by obtain ⟨m, hm⟩ := k0; exact DataW.trod_lt m _ _ _ hm
  obtain ⟨mk0, mz0, rfl, wk0, wz0⟩ := open_md (hval 0 23 v0 rfl rfl) h0
  obtain ⟨a1, len1, cap1, rfl⟩ := okWide_slice Tryd.underlying24 (hval 1 24 v1 rfl rfl)
  have k1 := h1
  have lt1 : ∀ x ∈ p1, x.block < W.heap.size := by obtain ⟨m, hm⟩ := k1; exact DataW.trod_lt m _ _ _ hm
  obtain ⟨tk1, rfl, w1⟩ := open_ops h1
  obtain ⟨a2, rfl, rfl, rfl, w2⟩ := open_int Tryd.underlying5 (hval 2 5 v2 rfl rfl) h2
  clear hA0 hval0 hz
  refine (linearizeBeginnings_walk mk0 mz0 tk1 a1 cap1 a2 W w1 w2 (tab W hL)).mono fun W' bel => ?_
  exact ⟨_, rfl, _, _, _, [], _, [], hW', trodAll_mk1 (shut_bool Tryd.underlying4 _), (trodAll_cons_mk (Below.trod laidOut (by kernel_rfl) (of_decide_eq_true (by kernel_rfl)) k0 bel lt0) (trodAll_cons_mk (Below.trod laidOut (by kernel_rfl) (of_decide_eq_true (by kernel_rfl)) k1 bel lt1) (trodAll_cons_mk (shut_int Tryd.underlying5 w2) trodAll_mk0))), rfl, bel.frame _, fun h => by cases h⟩

set_option maxRecDepth 100000 in
theorem lifted (os : Os) (started : os.Started) (H : Type) (enc : TypeId × Value → H) (F : Stop.Interp) :
    ReturnsInHanded {} Tryd.checked os 3 .any ((OpenSpec.ofChange Rows.linearizeBeginningsSpec).preRow enc Tryd.prog Tryd.f3 Rows.linearizeBeginningsRow.domain false Rows.linearizeBeginningsRow.laid) (((OpenSpec.ofChange Rows.linearizeBeginningsSpec).at F).post enc Tryd.prog Tryd.f3 false true false false) := by
  obtain ⟨places, hx⟩ := reads os enc
  refine returnsInHanded_of_row (C := Tryd.checked) (s := OpenSpec.ofChange Rows.linearizeBeginningsSpec) own started (by kernel_rfl) Tryd.func3
    (witness_row_at (enc := enc) (C := Tryd.checked) false (laidWorld os) #[.agg #[.int .i64 0, .int .i64 0], .slice none 0 0, .int .u8 0] rfl (by kernel_rfl) (by kernel_rfl) (by kernel_rfl)
      (OpenSpec.preRow_of_cond 8 hx (by kernel_rfl) (fun k hk => by cases hk) (by kernel_rfl) (laid_met os))) ?_
  intro W base args ds gs before hval hW _ _ hz hL hsh _
  exact contract H enc W base args ds gs before hval hW hz hL

theorem said : Rows.LinearizeBeginningsSaid :=
  OpenClaim.holds_of_cond 3 Tryd.f3 rfl rfl rfl rfl rfl rfl rfl ⟨rfl, rfl, rfl, rfl, rfl⟩ rfl rfl rfl rfl rfl (by kernel_rfl) Tryd.func3 (by kernel_rfl)
    (of_decide_eq_true (by kernel_rfl)) (by unfold Func.isWrapper; first | (rw [if_pos (by decide +kernel)]; kernel_rfl) | (rw [if_neg (by decide +kernel)]; exact ⟨rfl, rfl⟩))
    (fun os started H enc _ F => by rw [OpenClaim.pre_eq_preRow]; exact lifted os started H enc F)

theorem plain (f : FuncId) (fn : Func) (hf : Tryd.pinned.checked.prog.funcNamed "nursery/nurserylaw44.LinearizeBeginnings" = some f) (hfn : Tryd.pinned.checked.prog.funcs[f]? = some fn) :
    false = Tryd.pinned.checked.prog.looks [] ∧ ∀ (j : Nat) t, fn.params[j]? = some t → Tryd.pinned.checked.prog.wantsStandIn t = false := by
  obtain rfl : f = 3 := Option.some.inj ((show Tryd.prog.funcNamed "nursery/nurserylaw44.LinearizeBeginnings" = some 3 by kernel_rfl).symm.trans hf) |>.symm
  obtain rfl : fn = Tryd.f3 := (Option.some.inj (Tryd.func3.symm.trans hfn)).symm
  refine ⟨by kernel_rfl, fun j t ht => ?_⟩
  rw [Tryd.params3] at ht
  rcases j with _ | _ | _ | j
  · obtain rfl : t = 23 := by simpa using ht.symm
    exact (show Tryd.prog.wantsStandIn 23 = false by kernel_rfl)
  · obtain rfl : t = 24 := by simpa using ht.symm
    exact (show Tryd.prog.wantsStandIn 24 = false by kernel_rfl)
  · obtain rfl : t = 5 := by simpa using ht.symm
    exact (show Tryd.prog.wantsStandIn 5 = false by kernel_rfl)
  · simp at ht

/-- the statement -/
theorem proved : Rows.LinearizeBeginningsCardSaid :=
  Claim7.holds_tied_plain_at .later [] _ _ _ _ said (fun _ h => by cases h) (by kernel_rfl) (fun _ h => by cases h) linearizeBeginnings_row_tie rfl ⟨rfl, rfl⟩ (by kernel_rfl) rfl plain (by kernel_rfl)
#print axioms proved
end Go.Proofs.YtmbkjccckmlacaaDoor.linearizeBeginnings

