/- The statement LexerParenthesesCardSaid: for every input the law returns true, and the arguments read as before; the tables of the library that it lists are tied to the text. The frame round the walk of the law. (With it: LexerParentheses: the walk.) -/
import Derived.Stop.LaidErr
import Derived.Test.YtmokejjndkibhaaDoorCards
import Derived.Test.YtmokejjndkibhaaDoorTie
import Derived.WalkKit
import Derived.ProofKit
import Derived.OpenShut
import Derived.ShutString
import Derived.ChangeOld
import Derived.Below
import Derived.Deep.DeepHandedRow
import Derived.Lib.LaidTab
import Derived.Shelf.Vars
import Derived.Test.YtmokejjndkibhaaDoorPart11

namespace Go.Proofs.YtmokejjndkibhaaDoor
open Go.RowKit Go.Shelf Ex
set_option linter.unusedVariables false
set_option linter.unusedSimpArgs false

theorem rd_of (s : List UInt8) : ∃ r, (toksR s).2.2 = 0 → Rd (toksR s).1 (.bin 1) 0 r := by
  obtain ⟨r, hr⟩ := Rd.all (toksR s).1
  exact ⟨r, fun _ => hr⟩
set_option maxRecDepth 100000 in
set_option maxHeartbeats 4000000 in
theorem lexerParentheses_walk (a0 : ByteArray) (w : World) (h0 : a0.size ≤ 140737488351232) (hTab : TabW w) (hM : MaxL w) : Gives Tryd.prog 4 #[.string a0] w (.bool true) := by
  obtain ⟨s, rfl⟩ := sB_of a0
  have hsz := sB_size s
  have KA := Lib.hid (fun W (hW : Ext w W) => lxAwake_any W (hTab.below hW) (hM.ext hW))
  unfold Gives
  by_cases hl : 400 < s.length
  · clear hTab hM
    go_enter Tryd.func4, Tryd.ntmps4
    go_wp2_with fail
    refine (KA.out _ (Below.refl _ _)).mono ?_
    intro w1 hE
    go_wp2
    go_ret
    exact ⟨rfl, hE⟩
  · obtain ⟨r, hr⟩ := rd_of s
    have HPL := Lib.hid (fun h => par_law (s := s) (r := r) (by omega) hr h)
    have K1 := Lib.hid (Parse_any s w (by omega) hTab hM r hr)
    have K2 := Lib.hid (fun W (hW : Ext w W) r2 h2 => (show Calls Tryd.prog 8 #[sV (40 :: (s ++ [10, 41]))] W _ from Parse_any (40 :: (s ++ [10, 41])) W (by simp; omega) (hTab.below hW) (hM.ext hW) r2 h2))
    have hap1 : sB [40] ++ sB s = sB (40 :: s) := by rw [sB_app]; rfl
    have hap2 : sB (40 :: s) ++ sB [10, 41] = sB (40 :: (s ++ [10, 41])) := by rw [sB_app]; rfl
    clear hTab hM hr
    generalize psR s r = P1 at *
    obtain ⟨x1, p1, e1⟩ := P1
    by_cases he : e1 = 0
    · subst he
      obtain ⟨r2, hr2, hps, hck⟩ := HPL.out rfl
      have K3 := Lib.hid (fun W (hW : Ext w W) => K2.out W hW r2 (fun _ => hr2))
      rw [hps] at K3
      have HCK := Lib.hid hck
      clear K2 hr2 hps hck HPL
      dsimp only at K1 K3
      obtain ⟨k1, o1, n1, v1, es⟩ := x1
      dsimp only [Ex.val, Ex.kind, Ex.op, Ex.name, Ex.value, Ex.args] at K1 K3
      obtain ⟨m, hm⟩ : ∃ m, es.length = m := ⟨_, rfl⟩
      rw [hm] at K1 K3
      have HM := Lib.hid hm
      clear hm
      go_enter Tryd.func4, Tryd.ntmps4
      go_wp2_with fail
      refine (show Calls _ _ _ _ _ from K1.out).mono ?_
      rintro _ w1 ⟨q1, c1, rfl, hA1, hE1⟩
      dsimp only
      have HA1 := Lib.hid hA1
      have HE1 := Lib.hid hE1
      clear hA1 hE1
      have HX2 := Lib.hid (ext_alloc w1 (.cells #[.int .i64 k1, .int .i64 o1, sV n1, .int .i64 v1, .slice q1 m c1] 25))
      have HB2 := Lib.hid (alloc_here w1 (.cells #[.int .i64 k1, .int .i64 o1, sV n1, .int .i64 v1, .slice q1 m c1] 25))
      go_wp2_with fail
      refine (K3.out _ (Ext.trans HE1.out HX2.out)).mono ?_
      rintro _ w3 ⟨q2, c2, rfl, hA3, hE3⟩
      dsimp only
      have HE3 := Lib.hid (Ext.trans HX2.out hE3)
      have HB3 := Lib.hid ((hE3.below.block _ (lt_of_block HB2.out)).trans HB2.out)
      have HA3 := Lib.hid hA3
      clear hE3 hA3
      have HX4 := Lib.hid (ext_alloc w3 (.cells #[.int .i64 k1, .int .i64 o1, sV n1, .int .i64 v1, .slice q2 m c2] 25))
      have hb4 := alloc_here w3 (.cells #[.int .i64 k1, .int .i64 o1, sV n1, .int .i64 v1, .slice q2 m c2] 25)
      have hc4 := (HX4.out.below.block _ (lt_of_block HB3.out)).trans HB3.out
      have KE := Lib.hid (fun W (hW : Ext (w3.alloc (.cells #[.int .i64 k1, .int .i64 o1, sV n1, .int .i64 v1, .slice q2 m c2] 25)) W) => (show Gives Tryd.prog 11 #[.agg #[.int .i64 k1, .int .i64 o1, sV n1, .int .i64 v1, .slice q1 m c1], .agg #[.int .i64 k1, .int .i64 o1, sV n1, .int .i64 v1, .slice q2 m c2]] W (.bool true) from by
        have := refEqualX_any (.mk k1 o1 n1 v1 es) (.mk k1 o1 n1 v1 es) q1 q2 c1 c2 W (HA1.out.at.below (Ext.trans HE3.out (Ext.trans HX4.out hW))) (HA3.out.at.below (Ext.trans HX4.out hW))
        rw [HCK.out, eqX_self] at this
        rw [← HM.out]
        exact this))
      have z0 := cell_of (i := 0) hb4 rfl
      have z1 := cell_of (i := 1) hb4 rfl
      have z2 := cell_of (i := 2) hb4 rfl
      have z3 := cell_of (i := 3) hb4 rfl
      have z4 := cell_of (i := 4) hb4 rfl
      have y0 := cell_of (i := 0) hc4 rfl
      have y1 := cell_of (i := 1) hc4 rfl
      have y2 := cell_of (i := 2) hc4 rfl
      have y3 := cell_of (i := 3) hc4 rfl
      have y4 := cell_of (i := 4) hc4 rfl
      clear hb4 hc4
      go_wp2_with fail
      refine (KE.out _ (Below.refl _ _)).mono ?_
      intro w5 hE5
      have HE5 := Lib.hid (Ext.trans HE1.out (Ext.trans HE3.out (Ext.trans HX4.out hE5)))
      clear hE5 z0 z1 z2 z3 z4 y0 y1 y2 y3 y4
      go_wp2_with fail
      refine (KA.out _ HE5.out).mono ?_
      intro w6 hE6
      have HE6 := Lib.hid (Ext.trans HE5.out hE6)
      clear hE6
      go_wp2
      go_ret
      exact ⟨rfl, HE6.out⟩
    · obtain ⟨r2, hr2⟩ := rd_of (40 :: (s ++ [10, 41]))
      have K3 := Lib.hid (fun W (hW : Ext w W) => K2.out W hW r2 hr2)
      clear K2 hr2 HPL
      generalize psR (40 :: (s ++ [10, 41])) r2 = P2 at *
      obtain ⟨x2, p2, e2⟩ := P2
      dsimp only at K1 K3
      obtain ⟨k1, o1, n1, v1, es⟩ := x1
      obtain ⟨k2, o2, n2, v2, fs⟩ := x2
      dsimp only [Ex.val, Ex.kind, Ex.op, Ex.name, Ex.value, Ex.args] at K1 K3
      generalize es.length = m1 at K1
      generalize fs.length = m2 at K3
      have g1 : (e1 == 0) = false := by simpa using he
      have g2 : (e1 != 0) = true := by simpa using he
      clear he
      go_enter Tryd.func4, Tryd.ntmps4
      go_wp2_with fail
      refine (show Calls _ _ _ _ _ from K1.out).mono ?_
      rintro _ w1 ⟨q1, c1, rfl, hA1, hE1⟩
      dsimp only
      have HE1 := Lib.hid hE1
      clear hA1 hE1
      have HX2 := Lib.hid (ext_alloc w1 (.cells #[.int .i64 k1, .int .i64 o1, sV n1, .int .i64 v1, .slice q1 m1 c1] 25))
      go_wp2_with fail
      refine (K3.out _ (Ext.trans HE1.out HX2.out)).mono ?_
      rintro _ w3 ⟨q2, c2, rfl, hA3, hE3⟩
      dsimp only
      have HE3 := Lib.hid (Ext.trans HE1.out (Ext.trans HX2.out hE3))
      clear hE3 hA3
      have HX4 := Lib.hid (ext_alloc w3 (.cells #[.int .i64 k2, .int .i64 o2, sV n2, .int .i64 v2, .slice q2 m2 c2] 25))
      go_wp2_with fail
      refine (KA.out _ (Ext.trans HE3.out HX4.out)).mono ?_
      intro w6 hE6
      have HE6 := Lib.hid (Ext.trans (Ext.trans HE3.out HX4.out) hE6)
      clear hE6
      go_wp2
      go_ret
      exact ⟨rfl, HE6.out⟩
end Go.Proofs.YtmokejjndkibhaaDoor

namespace Go.Proofs.YtmokejjndkibhaaDoor.lexerParentheses
open Go.ChangeShapes Go.WideShapes Go.ChangeAt Go.RowKit
open Go.ChangeMaps (open_string shut_string)
set_option linter.unusedVariables false

theorem own : ownKnob Tryd.prog.godebug = none := by kernel_rfl
theorem laidOut : laidOutB Tryd.prog = true := by kernel_rfl
/-- the cells of a datum of plain values -/
def flat : Nat → DataW Unit → List Value
  | _, .lit l => [l.value]
  | n + 1, .agg ps => ps.flatMap (flat n)
  | _, _ => []
/-- a world for the witness: the settled one, the listed tables holding what the text lays -/
def lay (d : DataW Unit) : Obj → Obj
  | .cells _ t frozen => .cells (flat 4 d).toArray t frozen
  | o => o
noncomputable def laidWorld (os : Os) : World :=
  { World.holding Tryd.prog os ⟨#[], #[], []⟩ with heap := ((((World.holding Tryd.prog os ⟨#[], #[], []⟩).heap.modify 2 (lay Rows.laid_math_bits_deBruijn32tab)).modify 3 (lay Rows.laid_math_bits_deBruijn64tab)).modify 1 (lay Rows.laid_internal_strconv_uint64pow10)) }
theorem laid_met (os : Os) : laidMet Tryd.prog Rows.lexerParenthesesRow.laid ((laidWorld os).forCall (fun _ _ => 0) ⟨#[], #[.string ByteArray.empty], []⟩).memory :=
  laidMet_of_run' 8 (by kernel_rfl) (by kernel_rfl)
theorem reads (os : Os) {H : Type} (enc : TypeId × Value → H) : ∃ places, DataW.whole enc Tryd.prog ((laidWorld os).forCall (fun _ _ => 0) ⟨#[], #[.string ByteArray.empty], []⟩).memory Tryd.f4.params.toList Rows.lexerParenthesesSpec.vars false (#[.string ByteArray.empty] : Array Value).toList 8 = some ([.lit (.string [])], [], places) :=
  ⟨[], by kernel_rfl⟩
theorem shape (W : World) (h : W.ShapedOpen Tryd.prog) : MaxL W := cell_of_shapedOpen_int (zero := #[.int .i64 0]) h (of_decide_eq_true (by kernel_rfl)) (by kernel_rfl) (by kernel_rfl) (by kernel_rfl) (by kernel_rfl) Tryd.underlying3

theorem tab (W : World) (h : laidMetH Tryd.prog Rows.lexerParenthesesRow.laid W) : TabW W := by
  have h1 : laidMet Tryd.prog Rows.lexerParenthesesRow.laid W := h
  exact Lib.tabIs_of_head (g := 1) (t := 121) (e := 113) (n := 20) (by kernel_rfl) (by kernel_rfl) Tryd.underlying121 Tryd.underlying113 (by kernel_rfl) (by kernel_rfl) h1.tail.tail
set_option maxRecDepth 100000 in
theorem contract (H : Type) (enc : TypeId × Value → H) (W : World) (base : Nat) (args : Array Value) (ds gs : List (DataW H)) (before : List MemPlace)
    (hval0 : ∀ (j : Nat) t v, Tryd.f4.params[j]? = some t → args[j]? = some v → Value.okWide Tryd.prog W .any base t v)
    (hW : DataW.Whole enc Tryd.prog Tryd.f4.params.toList Rows.lexerParenthesesSpec.vars false W args.toList ds gs before) (hz : (DataW.weightsEach Tryd.prog (Tryd.f4.params.toList ++ (OpenSpec.ofChange Rows.lexerParenthesesSpec).bare.plain.varTypes Tryd.prog) (ds ++ gs)).all (· ≤ reachBytes) = true) (hL : laidMetH Tryd.prog Rows.lexerParenthesesRow.laid W) (hm : MaxL W) :
    Calls Tryd.prog 4 args W fun e W' => ∃ v, e = .returned v ∧ Rows.lexerParenthesesSpec.post enc Tryd.prog Tryd.f4 false true false false W args v W' := by
  have hval := hval0
  have hW' := hW
  obtain ⟨p, q, hA0, hV, rfl, hfz, hnd⟩ := hW
  have hA : DataW.TrodAll enc Tryd.prog W 0 (fun _ => true) true Tryd.f4.params.toList args.toList ds p := hA0
  rw [Tryd.params4] at hA hval
  obtain ⟨v0, vs0, d0, ds0, p0, q0, hargs, rfl, rfl, h0, r0⟩ := trodAll_cons hA
  obtain ⟨rfl, rfl, rfl⟩ := trodAll_nil r0
  obtain rfl : args = #[v0] := by cases args; simp_all
  obtain ⟨rfl, rfl⟩ := trodVars_none hV
  obtain ⟨a0, rfl, rfl, rfl, w0⟩ := open_string Tryd.underlying9 (hval 0 9 v0 rfl rfl) h0
  have s0 : a0.size ≤ 140737488351232 := by rw [Lib.size_eq]; exact sized_string hz (j := 0) rfl rfl
  clear hA0 hval0 hz
  simp only [List.append_nil] at hW'
  refine (lexerParentheses_walk a0 W s0 (tab W hL) hm).mono fun W' bel => ?_
  exact ⟨_, rfl, _, _, _, [], [], [], hW', trodAll_mk1 (shut_bool Tryd.underlying4 _), (trodAll_cons_mk (shut_string Tryd.underlying9 w0) trodAll_mk0), rfl, bel.frame _, fun h => by cases h⟩

set_option maxRecDepth 100000 in
theorem lifted (os : Os) (started : os.Started) (H : Type) (enc : TypeId × Value → H) (F : Stop.Interp) :
    ReturnsInHanded {} Tryd.checked os 4 .any ((OpenSpec.ofChange Rows.lexerParenthesesSpec).preRow enc Tryd.prog Tryd.f4 Rows.lexerParenthesesRow.domain false Rows.lexerParenthesesRow.laid) (((OpenSpec.ofChange Rows.lexerParenthesesSpec).at F).post enc Tryd.prog Tryd.f4 false true false false) := by
  obtain ⟨places, hx⟩ := reads os enc
  refine returnsInHanded_of_row (C := Tryd.checked) (s := OpenSpec.ofChange Rows.lexerParenthesesSpec) own started (by kernel_rfl) Tryd.func4
    (witness_row_at (enc := enc) (C := Tryd.checked) false (laidWorld os) #[.string ByteArray.empty] rfl (by kernel_rfl) (by kernel_rfl) (by kernel_rfl)
      (OpenSpec.preRow_of_cond 8 hx (by kernel_rfl) (fun k hk => by cases hk) (by kernel_rfl) (laid_met os))) ?_
  intro W base args ds gs before hval hW _ _ hz hL hsh _
  exact contract H enc W base args ds gs before hval hW hz hL (shape W hsh)

theorem said : Rows.LexerParenthesesSaid :=
  OpenClaim.holds_of_cond 4 Tryd.f4 rfl rfl rfl rfl rfl rfl rfl ⟨rfl, rfl, rfl, rfl, rfl⟩ rfl rfl rfl rfl rfl (by kernel_rfl) Tryd.func4 (by kernel_rfl)
    (of_decide_eq_true (by kernel_rfl)) (by unfold Func.isWrapper; first | (rw [if_pos (by decide +kernel)]; kernel_rfl) | (rw [if_neg (by decide +kernel)]; exact ⟨rfl, rfl⟩))
    (fun os started H enc _ F => by rw [OpenClaim.pre_eq_preRow]; exact lifted os started H enc F)

theorem plain (f : FuncId) (fn : Func) (hf : Tryd.pinned.checked.prog.funcNamed "nursery/nurserylaw10.LexerParentheses" = some f) (hfn : Tryd.pinned.checked.prog.funcs[f]? = some fn) :
    true = Tryd.pinned.checked.prog.looks [] ∧ ∀ (j : Nat) t, fn.params[j]? = some t → Tryd.pinned.checked.prog.wantsStandIn t = false := by
  obtain rfl : f = 4 := Option.some.inj ((show Tryd.prog.funcNamed "nursery/nurserylaw10.LexerParentheses" = some 4 by kernel_rfl).symm.trans hf) |>.symm
  obtain rfl : fn = Tryd.f4 := (Option.some.inj (Tryd.func4.symm.trans hfn)).symm
  refine ⟨by kernel_rfl, fun j t ht => ?_⟩
  rw [Tryd.params4] at ht
  rcases j with _ | j
  · obtain rfl : t = 9 := by simpa using ht.symm
    exact (show Tryd.prog.wantsStandIn 9 = false by kernel_rfl)
  · simp at ht

/-- the statement -/
theorem proved : Rows.LexerParenthesesCardSaid :=
  Claim7.holds_tied_plain_at .later [] _ _ _ _ said (fun _ h => by cases h) (by kernel_rfl) (fun _ h => by cases h) lexerParentheses_row_tie rfl ⟨rfl, rfl⟩ (by kernel_rfl) rfl plain (by kernel_rfl)
#print axioms proved
end Go.Proofs.YtmokejjndkibhaaDoor.lexerParentheses

