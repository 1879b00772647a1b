/- The statement ExprEvalCardSaid: for every input the law returns true, and the arguments read as before; the tables of the library that it lists are tied to the text. The frame round the walk of the law. (With it: ExprEval: the walk.) -/
import Derived.Test.YtgkalcboklhdgaaDoorCards
import Derived.Test.YtgkalcboklhdgaaDoorTie
import Derived.WalkKit
import Derived.ProofKit
import Derived.OpenShut
import Derived.ShutString
import Derived.ChangeOld
import Derived.Below
import Derived.Deep.DeepHandedRow
import Derived.Lib.LaidTab
import Derived.Shelf.Vars
import Derived.Test.YtgkalcboklhdgaaDoorPart8

namespace Go.Proofs.YtgkalcboklhdgaaDoor
open Go.RowKit
set_option linter.unusedVariables false
set_option linter.unusedSimpArgs false
open Ex

set_option maxRecDepth 100000 in
set_option maxHeartbeats 4000000 in
theorem exprEval_walk (e : Ex) (p : Option Addr) (c : Nat) (bs : List Bn) (pb : Option Addr) (cb : Nat) (w : World) (hA : Ex.At w p e) (hB : BAt w pb bs) :
    Gives Tryd.prog 3 #[e.val p c, .slice pb bs.length cb] w (.bool true) := by
  have C0 := Lib.hid (fun W (h : Ext w W) => show Gives _ _ #[.agg #[.int .i64 e.kind, .int .i64 e.op, sV e.name, .int .i64 e.value, .slice p e.args.length c]] _ _ from Great_any e p c W (hA.below h))
  have CG := Lib.hid (fun W (h : Ext w W) => GreatBindings_any bs pb cb W (hB.below h))
  have C1 := Lib.hid (fun W (h : Ext w W) => show Gives _ _ #[.agg #[.int .i64 e.kind, .int .i64 e.op, sV e.name, .int .i64 e.value, .slice p e.args.length c], _] _ (.tuple #[.int .i64 (tyR bs e).1, .int .i64 (tyR bs e).2]) from Type_any bs pb cb e p c W (hA.below h) (hB.below h))
  have C2 := Lib.hid (fun W (h : Ext w W) => show Gives _ _ #[.agg #[.int .i64 e.kind, .int .i64 e.op, sV e.name, .int .i64 e.value, .slice p e.args.length c], _] _ (.tuple #[.int .i64 (tyR bs e).1, .int .i64 (tyR bs e).2]) from refType_any bs pb cb e p c W (hA.below h) (hB.below h))
  have C3 := Lib.hid (fun W (h : Ext w W) => show Gives _ _ #[.agg #[.int .i64 e.kind, .int .i64 e.op, sV e.name, .int .i64 e.value, .slice p e.args.length c], _] _ (.tuple #[.int .i64 (evR bs e).1, .int .i64 (evR bs e).2]) from Eval_any bs pb cb e p c W (hA.below h) (hB.below h))
  have C4 := Lib.hid (fun W (h : Ext w W) => show Gives _ _ #[.agg #[.int .i64 e.kind, .int .i64 e.op, sV e.name, .int .i64 e.value, .slice p e.args.length c], _] _ (.tuple #[.int .i64 (evR bs e).1, .int .i64 (evR bs e).2]) from refEval_any bs pb cb e p c W (hA.below h) (hB.below h))
  have CA := Lib.hid (fun W => awake_any W)
  have hv : e.val p c = .agg #[.int .i64 e.kind, .int .i64 e.op, sV e.name, .int .i64 e.value, .slice p e.args.length c] := rfl
  rw [hv]
  clear hv hA hB
  generalize (tyR bs e).1 = t0 at *
  generalize (tyR bs e).2 = t1 at *
  generalize (evR bs e).1 = r0 at *
  generalize (evR bs e).2 = r1 at *
  generalize e.great = ge at *
  generalize gbs bs = gb at *
  generalize bs.length = lb at *
  generalize e.kind = k1 at *
  generalize e.op = o1 at *
  generalize e.name = n1 at *
  generalize e.value = v1 at *
  generalize e.args.length = l1 at *
  have HE0 := Lib.hid (show Ext (w.alloc (.cells #[.int .i64 k1, .int .i64 o1, sV n1, .int .i64 v1, .slice p l1 c] tEx)) (w.alloc (.cells #[.int .i64 k1, .int .i64 o1, sV n1, .int .i64 v1, .slice p l1 c] tEx)) from Below.refl _ _)
  unfold Gives
  cases ge with
  | true =>
    go_enter Tryd.func3, Tryd.ntmps3
    obtain ⟨b0, b1, b2, b3, b4, hW⟩ := HE0.out.box
    go_wp2_with fail
    refine (C0.out _ hW).mono ?_
    intro w1 hB
    have HE1 := Lib.hid (Ext.trans HE0.out hB)
    clear hB b0 b1 b2 b3 b4 hW
    obtain ⟨b0, b1, b2, b3, b4, hW⟩ := HE1.out.box
    go_wp2_with fail
    refine (CA.out _).mono ?_
    intro w2 hB
    have HE2 := Lib.hid (Ext.trans HE1.out hB)
    clear hB b0 b1 b2 b3 b4 hW
    obtain ⟨b0, b1, b2, b3, b4, hW⟩ := HE2.out.box
    clear b0 b1 b2 b3 b4
    go_wp2
    go_ret
    exact ⟨rfl, hW⟩
  | false =>
    cases gb with
    | true =>
      go_enter Tryd.func3, Tryd.ntmps3
      obtain ⟨b0, b1, b2, b3, b4, hW⟩ := HE0.out.box
      go_wp2_with fail
      refine (C0.out _ hW).mono ?_
      intro w1 hB
      have HE1 := Lib.hid (Ext.trans HE0.out hB)
      clear hB b0 b1 b2 b3 b4 hW
      obtain ⟨b0, b1, b2, b3, b4, hW⟩ := HE1.out.box
      go_wp2_with fail
      refine (CG.out _ hW).mono ?_
      intro w2 hB
      have HE2 := Lib.hid (Ext.trans HE1.out hB)
      clear hB b0 b1 b2 b3 b4 hW
      obtain ⟨b0, b1, b2, b3, b4, hW⟩ := HE2.out.box
      go_wp2_with fail
      refine (CA.out _).mono ?_
      intro w3 hB
      have HE3 := Lib.hid (Ext.trans HE2.out hB)
      clear hB b0 b1 b2 b3 b4 hW
      obtain ⟨b0, b1, b2, b3, b4, hW⟩ := HE3.out.box
      clear b0 b1 b2 b3 b4
      go_wp2
      go_ret
      exact ⟨rfl, hW⟩
    | false =>
      go_enter Tryd.func3, Tryd.ntmps3
      obtain ⟨b0, b1, b2, b3, b4, hW⟩ := HE0.out.box
      go_wp2_with fail
      refine (C0.out _ hW).mono ?_
      intro w1 hB
      have HE1 := Lib.hid (Ext.trans HE0.out hB)
      clear hB b0 b1 b2 b3 b4 hW
      obtain ⟨b0, b1, b2, b3, b4, hW⟩ := HE1.out.box
      go_wp2_with fail
      refine (CG.out _ hW).mono ?_
      intro w2 hB
      have HE2 := Lib.hid (Ext.trans HE1.out hB)
      clear hB b0 b1 b2 b3 b4 hW
      obtain ⟨b0, b1, b2, b3, b4, hW⟩ := HE2.out.box
      go_wp2_with fail
      refine (C1.out _ hW).mono ?_
      intro w3 hB
      have HE3 := Lib.hid (Ext.trans HE2.out hB)
      clear hB b0 b1 b2 b3 b4 hW
      obtain ⟨b0, b1, b2, b3, b4, hW⟩ := HE3.out.box
      go_wp2_with fail
      refine (C2.out _ hW).mono ?_
      intro w4 hB
      have HE4 := Lib.hid (Ext.trans HE3.out hB)
      clear hB b0 b1 b2 b3 b4 hW
      obtain ⟨b0, b1, b2, b3, b4, hW⟩ := HE4.out.box
      go_wp2_with fail
      refine (C3.out _ hW).mono ?_
      intro w5 hB
      have HE5 := Lib.hid (Ext.trans HE4.out hB)
      clear hB b0 b1 b2 b3 b4 hW
      obtain ⟨b0, b1, b2, b3, b4, hW⟩ := HE5.out.box
      go_wp2_with fail
      refine (C4.out _ hW).mono ?_
      intro w6 hB
      have HE6 := Lib.hid (Ext.trans HE5.out hB)
      clear hB b0 b1 b2 b3 b4 hW
      obtain ⟨b0, b1, b2, b3, b4, hW⟩ := HE6.out.box
      go_wp2_with fail
      refine (CA.out _).mono ?_
      intro w7 hB
      have HE7 := Lib.hid (Ext.trans HE6.out hB)
      clear hB b0 b1 b2 b3 b4 hW
      obtain ⟨b0, b1, b2, b3, b4, hW⟩ := HE7.out.box
      clear b0 b1 b2 b3 b4
      go_wp2
      go_ret
      exact ⟨rfl, hW⟩

end Go.Proofs.YtgkalcboklhdgaaDoor

namespace Go.Proofs.YtgkalcboklhdgaaDoor.exprEval
open Go.ChangeShapes Go.WideShapes Go.ChangeAt Go.RowKit
open Go.ChangeMaps (open_string shut_string)
set_option linter.unusedVariables false

theorem own : ownKnob Tryd.prog.godebug = none := by kernel_rfl
theorem laidOut : laidOutB Tryd.prog = true := by kernel_rfl
/-- the cells of a datum of plain values -/
def flat : Nat → DataW Unit → List Value
  | _, .lit l => [l.value]
  | n + 1, .agg ps => ps.flatMap (flat n)
  | _, _ => []
/-- a world for the witness: the settled one, the listed tables holding what the text lays -/
def lay (d : DataW Unit) : Obj → Obj
  | .cells _ t frozen => .cells (flat 4 d).toArray t frozen
  | o => o
noncomputable def laidWorld (os : Os) : World :=
  { World.holding Tryd.prog os ⟨#[], #[], []⟩ with heap := ((((World.holding Tryd.prog os ⟨#[], #[], []⟩).heap.modify 1 (lay Rows.laid_math_bits_deBruijn32tab)).modify 2 (lay Rows.laid_math_bits_deBruijn64tab)).modify 0 (lay Rows.laid_internal_strconv_uint64pow10)) }
theorem laid_met (os : Os) : laidMet Tryd.prog Rows.exprEvalRow.laid ((laidWorld os).forCall (fun _ _ => 0) ⟨#[], #[.agg #[.int .i64 0, .int .i64 0, .string ByteArray.empty, .int .i64 0, .slice none 0 0], .slice none 0 0], []⟩).memory :=
  laidMet_of_run' 8 (by kernel_rfl) (by kernel_rfl)
theorem reads (os : Os) {H : Type} (enc : TypeId × Value → H) : ∃ places, DataW.whole enc Tryd.prog ((laidWorld os).forCall (fun _ _ => 0) ⟨#[], #[.agg #[.int .i64 0, .int .i64 0, .string ByteArray.empty, .int .i64 0, .slice none 0 0], .slice none 0 0], []⟩).memory Tryd.f3.params.toList Rows.exprEvalSpec.vars false (#[.agg #[.int .i64 0, .int .i64 0, .string ByteArray.empty, .int .i64 0, .slice none 0 0], .slice none 0 0] : Array Value).toList 8 = some ([.agg [.lit (.int .i64 0), .lit (.int .i64 0), .lit (.string []), .lit (.int .i64 0), .nil], .nil], [], places) :=
  ⟨[], by kernel_rfl⟩
set_option maxRecDepth 100000 in
theorem contract (H : Type) (enc : TypeId × Value → H) (W : World) (base : Nat) (args : Array Value) (ds gs : List (DataW H)) (before : List MemPlace)
    (hval0 : ∀ (j : Nat) t v, Tryd.f3.params[j]? = some t → args[j]? = some v → Value.okWide Tryd.prog W .any base t v)
    (hW : DataW.Whole enc Tryd.prog Tryd.f3.params.toList Rows.exprEvalSpec.vars false W args.toList ds gs before) (hz : (DataW.weightsEach Tryd.prog (Tryd.f3.params.toList ++ (OpenSpec.ofChange Rows.exprEvalSpec).bare.plain.varTypes Tryd.prog) (ds ++ gs)).all (· ≤ reachBytes) = true) :
    Calls Tryd.prog 3 args W fun e W' => ∃ v, e = .returned v ∧ Rows.exprEvalSpec.post enc Tryd.prog Tryd.f3 false true false false W args v W' := by
  have hval := hval0
  have hW' := hW
  obtain ⟨p, q, hA0, hV, rfl, hfz, hnd⟩ := hW
  have hA : DataW.TrodAll enc Tryd.prog W 0 (fun _ => true) true Tryd.f3.params.toList args.toList ds p := hA0
  rw [Tryd.params3] at hA hval
  obtain ⟨v0, vs0, d0, ds0, p0, q0, hargs, rfl, rfl, h0, r0⟩ := trodAll_cons hA
  obtain ⟨v1, vs1, d1, ds1, p1, q1, rfl, rfl, rfl, h1, r1⟩ := trodAll_cons r0
  obtain ⟨rfl, rfl, rfl⟩ := trodAll_nil r1
  obtain rfl : args = #[v0, v1] := by cases args; simp_all
  obtain ⟨rfl, rfl⟩ := trodVars_none hV
  have k0 := h0
  have lt0 : ∀ x ∈ p0, x.block < W.heap.size := by obtain ⟨m, hm⟩ := k0; exact DataW.trod_lt m _ _ _ hm
  obtain ⟨e0, pe0, ce0, rfl, w0⟩ := open_ex (hval 0 24 v0 rfl rfl) h0 (fun n hn => by have := List.all_eq_true.1 hz n (DataW.weights_mem_each (j := 0) rfl rfl n hn); simpa using this)
  obtain ⟨a1, len1, cap1, rfl⟩ := okWide_slice Tryd.underlying25 (hval 1 25 v1 rfl rfl)
  have k1 := h1
  have lt1 : ∀ x ∈ p1, x.block < W.heap.size := by obtain ⟨m, hm⟩ := k1; exact DataW.trod_lt m _ _ _ hm
  obtain ⟨bs1, rfl, w1⟩ := open_bns h1 (fun n hn => by have := List.all_eq_true.1 hz n (DataW.weights_mem_each (j := 1) rfl rfl n hn); simpa using this)
  clear hA0 hval0 hz
  refine (exprEval_walk e0 pe0 ce0 bs1 a1 cap1 W w0 w1).mono fun W' bel => ?_
  exact ⟨_, rfl, _, _, _, [], _, [], hW', trodAll_mk1 (shut_bool Tryd.underlying4 _), (trodAll_cons_mk (Below.trod laidOut (by kernel_rfl) (of_decide_eq_true (by kernel_rfl)) k0 bel lt0) (trodAll_cons_mk (Below.trod laidOut (by kernel_rfl) (of_decide_eq_true (by kernel_rfl)) k1 bel lt1) trodAll_mk0)), rfl, bel.frame _, fun h => by cases h⟩

set_option maxRecDepth 100000 in
theorem lifted (os : Os) (started : os.Started) (H : Type) (enc : TypeId × Value → H) (F : Stop.Interp) :
    ReturnsInHanded {} Tryd.checked os 3 .any ((OpenSpec.ofChange Rows.exprEvalSpec).preRow enc Tryd.prog Tryd.f3 Rows.exprEvalRow.domain false Rows.exprEvalRow.laid) (((OpenSpec.ofChange Rows.exprEvalSpec).at F).post enc Tryd.prog Tryd.f3 false true false false) := by
  obtain ⟨places, hx⟩ := reads os enc
  refine returnsInHanded_of_row (C := Tryd.checked) (s := OpenSpec.ofChange Rows.exprEvalSpec) own started (by kernel_rfl) Tryd.func3
    (witness_row_at (enc := enc) (C := Tryd.checked) false (laidWorld os) #[.agg #[.int .i64 0, .int .i64 0, .string ByteArray.empty, .int .i64 0, .slice none 0 0], .slice none 0 0] rfl (by kernel_rfl) (by kernel_rfl) (by kernel_rfl)
      (OpenSpec.preRow_of_cond 8 hx (by kernel_rfl) (fun k hk => by cases hk) (by kernel_rfl) (laid_met os))) ?_
  intro W base args ds gs before hval hW _ _ hz _ hsh _
  exact contract H enc W base args ds gs before hval hW hz

theorem said : Rows.ExprEvalSaid :=
  OpenClaim.holds_of_cond 3 Tryd.f3 rfl rfl rfl rfl rfl rfl rfl ⟨rfl, rfl, rfl, rfl, rfl⟩ rfl rfl rfl rfl rfl (by kernel_rfl) Tryd.func3 (by kernel_rfl)
    (of_decide_eq_true (by kernel_rfl)) (by unfold Func.isWrapper; first | (rw [if_pos (by decide +kernel)]; kernel_rfl) | (rw [if_neg (by decide +kernel)]; exact ⟨rfl, rfl⟩))
    (fun os started H enc _ F => by rw [OpenClaim.pre_eq_preRow]; exact lifted os started H enc F)

theorem plain (f : FuncId) (fn : Func) (hf : Tryd.pinned.checked.prog.funcNamed "nursery/nurserylaw09.ExprEval" = some f) (hfn : Tryd.pinned.checked.prog.funcs[f]? = some fn) :
    false = Tryd.pinned.checked.prog.looks [] ∧ ∀ (j : Nat) t, fn.params[j]? = some t → Tryd.pinned.checked.prog.wantsStandIn t = false := by
  obtain rfl : f = 3 := Option.some.inj ((show Tryd.prog.funcNamed "nursery/nurserylaw09.ExprEval" = some 3 by kernel_rfl).symm.trans hf) |>.symm
  obtain rfl : fn = Tryd.f3 := (Option.some.inj (Tryd.func3.symm.trans hfn)).symm
  refine ⟨by kernel_rfl, fun j t ht => ?_⟩
  rw [Tryd.params3] at ht
  rcases j with _ | _ | j
  · obtain rfl : t = 24 := by simpa using ht.symm
    exact (show Tryd.prog.wantsStandIn 24 = false by kernel_rfl)
  · obtain rfl : t = 25 := by simpa using ht.symm
    exact (show Tryd.prog.wantsStandIn 25 = false by kernel_rfl)
  · simp at ht

/-- the statement -/
theorem proved : Rows.ExprEvalCardSaid :=
  Claim7.holds_tied_plain_at .later [] _ _ _ _ said (fun _ h => by cases h) (by kernel_rfl) (fun _ h => by cases h) exprEval_row_tie rfl ⟨rfl, rfl⟩ (by kernel_rfl) rfl plain (by kernel_rfl)
#print axioms proved
end Go.Proofs.YtgkalcboklhdgaaDoor.exprEval

