/- The statement LexerRoundTripCardSaid: for every input the law returns true, and the arguments read as before; the tables of the library that it lists are tied to the text. The frame round the walk of the law. (With it: LexerRoundTrip: parsing the text of a valid expression yields it.) -/
import Derived.Stop.LaidErr
import Derived.Test.YtmokejjndkibhaaGreatDoorCards
import Derived.Test.YtmokejjndkibhaaGreatDoorTie
import Derived.WalkKit
import Derived.ProofKit
import Derived.OpenShut
import Derived.ShutString
import Derived.ChangeOld
import Derived.Below
import Derived.Deep.DeepHandedRow
import Derived.Lib.LaidTab
import Derived.Shelf.Vars
import Derived.Test.YtmokejjndkibhaaGreatDoorPart12
import Derived.Test.YtmokejjndkibhaaGreatDoorPart11
import Derived.Test.YtmokejjndkibhaaGreatDoorPart6

namespace Go.Proofs.YtmokejjndkibhaaGreatDoor
open Go.RowKit Go.Shelf Ex
set_option linter.unusedVariables false
set_option linter.unusedSimpArgs false

mutual
theorem nm_ok : ∀ e : Ex, e.fe = 0 → ∀ n ∈ nmE e, isNm n = true
  | .mk k o m v ts, hf => by
    obtain ⟨hpc, hfes⟩ := fe_mk hf
    intro n hn
    by_cases hk : k = 2
    · have e : nmE (.mk k o m v ts) = [m] := by simp only [nmE]; exact if_pos hk
      rw [e] at hn
      obtain rfl := List.mem_singleton.1 hn
      rcases pc_zero hpc with ⟨h0, _⟩ | ⟨_, _, _, _, h⟩ | ⟨h0, _⟩ | ⟨h0, _⟩
      · omega
      · exact h
      · omega
      · omega
    · have e : nmE (.mk k o m v ts) = nmL ts := by simp only [nmE]; exact if_neg hk
      rw [e] at hn
      exact nms_ok ts hfes n hn
theorem nms_ok : ∀ ts : List Ex, fes ts = 0 → ∀ n ∈ nmL ts, isNm n = true
  | [], _ => fun n h => by simp [nmL] at h
  | t :: ts, hf => by
    simp only [Ex.fes] at hf
    have hft : t.fe = 0 := by
      by_cases h0 : t.fe = 0
      · exact h0
      · rw [if_pos h0] at hf; exact absurd hf h0
    rw [if_neg (by simp [hft])] at hf
    intro n hn
    simp only [nmL, List.mem_append] at hn
    rcases hn with h | h
    · exact nm_ok t hft n h
    · exact nms_ok ts hf n h
end
theorem nmR_kw {e : Ex} (hc : e.chk = 0) (h : (nmR e).any kwB = false) : ∀ s ∈ nmE e, kwB s = false := by
  intro s hs
  unfold nmR at h
  rw [if_neg (by simp [hc])] at h
  have h1 := List.any_eq_false.1 h s (((fold_spec (nmE e) [] List.Pairwise.nil).2 s).2 (.inl hs))
  simpa using h1
theorem nmR_sizes {e : Ex} (hc : e.chk = 0) : ∀ s ∈ nmR e, s.length ≤ 1000000 := by
  intro s hs
  unfold nmR at hs
  rw [if_neg (by simp [hc])] at hs
  rcases ((fold_spec (nmE e) [] List.Pairwise.nil).2 s).1 hs with h | h
  · have := (nm_all (nm_ok e (chk_zero hc).2.2 s h)).1
    omega
  · cases h
theorem nmR_len (e : Ex) : (nmR e).length ≤ 1000000000 := by
  unfold nmR
  split
  · simp
  · rename_i h
    have h0 : e.chk = 0 := Classical.not_not.1 h
    have h1 := (chk_zero h0).1
    have h2 := nmE_size e
    have h3 := fold_len (nmE e) []
    simp only [List.length_nil] at h3
    omega
set_option maxRecDepth 100000 in
set_option maxHeartbeats 4000000 in
theorem lexerRoundTrip_walk (x1 : Ex) (q1 : Option Addr) (c1 : Nat) (w : World) (hA : Ex.At w q1 x1) (hTab : TabW w) (hM : MaxL w) : Gives Tryz.prog 9 #[x1.val q1 c1] w (.bool true) := by
  have KA := Lib.hid (fun W (hW : Ext w W) => lxAwake_any W (hTab.below hW) (hM.ext hW))
  unfold Gives
  have HA := Lib.hid hA
  have KPR0 := Lib.hid (fun W (hW : Ext w W) => PrintZ_any x1 q1 c1 W (hTab.below hW) (hA.below hW))
  by_cases hck : x1.chk = 0
  · have KPR := Lib.hid (fun W (hW : Ext w W) => (show Gives Tryz.prog 27 #[x1.val q1 c1] W (.tuple #[sV (txt decI x1), .int .i64 0]) from by
      have := KPR0.out W hW
      have hp : prR decI x1 = (txt decI x1, 0) := by unfold prR; rw [if_neg (by simp [hck])]
      rw [hp] at this
      exact this))
    have htl := txt_4000 hck
    have KN := Lib.hid (fun W (hW : Ext w W) => Names_any x1 q1 c1 W (hA.below hW))
    have KC := Lib.hid (fun x c W (hW : Ext w W) hS => KwContains_any (nmR x1) x c W hS (nmR_len x1) (nmR_sizes hck) (hM.ext hW))
    have K3 := Lib.hid (fun (hb : (nmR x1).any kwB = false) W (hW : Ext w W) => (by
      obtain ⟨r2, hr2, hps⟩ := txt_parse hck (nmR_kw hck hb)
      have := Parse_any (txt decI x1) W (by omega) (hTab.below hW) (hM.ext hW) r2 (fun _ => hr2)
      rw [hps] at this; exact this : Calls Tryz.prog 11 #[sV (txt decI x1)] W fun e w' => ∃ q cc, e = .returned (.tuple #[x1.val q cc, .int .i64 0, .int .i64 0]) ∧ AtB (W.heap.size ≤ ·) w' q x1 ∧ Ext W w'))
    have HCK := Lib.hid hck
    clear hA hTab hM hck KPR0
    generalize (nmR x1).any kwB = kb at *
    generalize nmR x1 = NL at *
    generalize txt decI x1 = T at *
    have htz := sB_size T
    obtain ⟨k1, o1, n1, v1, es⟩ := x1
    dsimp only [Ex.val, Ex.kind, Ex.op, Ex.name, Ex.value, Ex.args] at KN K3 KPR ⊢
    obtain ⟨m, hm⟩ : ∃ m, es.length = m := ⟨_, rfl⟩
    simp only [hm] at K3 KPR KN ⊢
    have HM := Lib.hid hm
    clear hm
    have HX2 := Lib.hid (ext_alloc w (.cells #[.int .i64 k1, .int .i64 o1, sV n1, .int .i64 v1, .slice q1 m c1] 25))
    have hb2 := alloc_here w (.cells #[.int .i64 k1, .int .i64 o1, sV n1, .int .i64 v1, .slice q1 m c1] 25)
    have HB2 := Lib.hid hb2
    have z0 := cell_of (i := 0) hb2 rfl
    have z1 := cell_of (i := 1) hb2 rfl
    have z2 := cell_of (i := 2) hb2 rfl
    have z3 := cell_of (i := 3) hb2 rfl
    have z4 := cell_of (i := 4) hb2 rfl
    clear hb2
    go_enter Tryz.func9, Tryz.ntmps9
    go_wp2_with fail
    refine (KPR.out _ HX2.out).mono ?_
    intro w2 hE
    replace hE : Ext _ w2 := hE
    have HE2 := Lib.hid (Ext.trans HX2.out hE)
    have hb3 := (hE.below.block _ (lt_of_block HB2.out)).trans HB2.out
    have HB3 := Lib.hid hb3
    clear hE z0 z1 z2 z3 z4
    have z0 := cell_of (i := 0) hb3 rfl
    have z1 := cell_of (i := 1) hb3 rfl
    have z2 := cell_of (i := 2) hb3 rfl
    have z3 := cell_of (i := 3) hb3 rfl
    have z4 := cell_of (i := 4) hb3 rfl
    clear hb3
    go_wp2_with fail
    refine (show Calls _ _ _ _ _ from KN.out _ HE2.out).mono ?_
    rintro _ w3 ⟨v', rfl, hr, hE⟩
    obtain ⟨xs, xc, rfl, hS⟩ := hr.strs
    have HS := Lib.hid hS
    have HE3 := Lib.hid (Ext.trans HE2.out hE)
    have HB4 := Lib.hid ((hE.below.block _ (lt_of_block HB3.out)).trans HB3.out)
    clear hE z0 z1 z2 z3 z4 hr hS
    go_wp2_with fail
    refine (KC.out _ _ _ HE3.out HS.out).mono ?_
    intro w4 hE
    replace hE : Ext _ w4 := hE
    have HE4 := Lib.hid (Ext.trans HE3.out hE)
    have HB5 := Lib.hid ((hE.below.block _ (lt_of_block HB4.out)).trans HB4.out)
    clear hE
    cases kb with
    | true =>
      go_wp2_with fail
      refine (KA.out _ HE4.out).mono ?_
      intro w6 hE6
      have HE6 := Lib.hid (Ext.trans HE4.out hE6)
      clear hE6
      go_wp2
      go_ret
      exact ⟨rfl, HE6.out⟩
    | false =>
      go_wp2_with fail
      refine (show Calls _ _ _ _ _ from K3.out (by first | rfl | trivial) _ HE4.out).mono ?_
      rintro _ w5 ⟨q2, c2, rfl, hA5, hE⟩
      dsimp only
      have HA5 := Lib.hid hA5
      have HE5 := Lib.hid (Ext.trans HE4.out hE)
      have HB6 := Lib.hid ((hE.below.block _ (lt_of_block HB5.out)).trans HB5.out)
      clear hE hA5
      have HX4 := Lib.hid (ext_alloc w5 (.cells #[.int .i64 k1, .int .i64 o1, sV n1, .int .i64 v1, .slice q2 m c2] 25))
      have hb4 := alloc_here w5 (.cells #[.int .i64 k1, .int .i64 o1, sV n1, .int .i64 v1, .slice q2 m c2] 25)
      have hc4 := (HX4.out.below.block _ (lt_of_block HB6.out)).trans HB6.out
      have KE := Lib.hid (fun W (hW : Ext (w5.alloc (.cells #[.int .i64 k1, .int .i64 o1, sV n1, .int .i64 v1, .slice q2 m c2] 25)) W) => (show Gives Tryz.prog 30 #[.agg #[.int .i64 k1, .int .i64 o1, sV n1, .int .i64 v1, .slice q1 m c1], .agg #[.int .i64 k1, .int .i64 o1, sV n1, .int .i64 v1, .slice q2 m c2]] W (.bool true) from by
        have := refEqualX_any (.mk k1 o1 n1 v1 es) (.mk k1 o1 n1 v1 es) q1 q2 c1 c2 W (HA.out.below (Ext.trans HE5.out (Ext.trans HX4.out hW))) (HA5.out.at.below (Ext.trans HX4.out hW))
        rw [HCK.out, eqX_self] at this
        rw [← HM.out]
        exact this))
      have z0 := cell_of (i := 0) hb4 rfl
      have z1 := cell_of (i := 1) hb4 rfl
      have z2 := cell_of (i := 2) hb4 rfl
      have z3 := cell_of (i := 3) hb4 rfl
      have z4 := cell_of (i := 4) hb4 rfl
      have y0 := cell_of (i := 0) hc4 rfl
      have y1 := cell_of (i := 1) hc4 rfl
      have y2 := cell_of (i := 2) hc4 rfl
      have y3 := cell_of (i := 3) hc4 rfl
      have y4 := cell_of (i := 4) hc4 rfl
      clear hb4 hc4
      go_wp2_with fail
      refine (KE.out _ (Below.refl _ _)).mono ?_
      intro w5 hE5
      have HE6 := Lib.hid (Ext.trans HE5.out (Ext.trans HX4.out hE5))
      clear hE5 z0 z1 z2 z3 z4 y0 y1 y2 y3 y4
      go_wp2_with fail
      refine (KA.out _ HE6.out).mono ?_
      intro w6 hE6
      have HE7 := Lib.hid (Ext.trans HE6.out hE6)
      clear hE6
      go_wp2
      go_ret
      exact ⟨rfl, HE7.out⟩
  · have KPR := Lib.hid (fun W (hW : Ext w W) => (show Gives Tryz.prog 27 #[x1.val q1 c1] W (.tuple #[sV (prR decI x1).1, .int .i64 x1.chk]) from by
      have := KPR0.out W hW
      have hp : (prR decI x1).2 = x1.chk := by unfold prR; rw [if_pos hck]
      rw [hp] at this
      exact this))
    have g1 : (x1.chk == 0) = false := by simpa using hck
    have g2 : (x1.chk != 0) = true := by simpa using hck
    clear hA hTab hM hck KPR0
    generalize (prR decI x1).1 = T at *
    generalize x1.chk = e1 at *
    obtain ⟨k1, o1, n1, v1, es⟩ := x1
    dsimp only [Ex.val, Ex.kind, Ex.op, Ex.name, Ex.value, Ex.args] at KPR ⊢
    generalize es.length = m at *
    have HX2 := Lib.hid (ext_alloc w (.cells #[.int .i64 k1, .int .i64 o1, sV n1, .int .i64 v1, .slice q1 m c1] 25))
    have hb2 := alloc_here w (.cells #[.int .i64 k1, .int .i64 o1, sV n1, .int .i64 v1, .slice q1 m c1] 25)
    have z0 := cell_of (i := 0) hb2 rfl
    have z1 := cell_of (i := 1) hb2 rfl
    have z2 := cell_of (i := 2) hb2 rfl
    have z3 := cell_of (i := 3) hb2 rfl
    have z4 := cell_of (i := 4) hb2 rfl
    clear hb2
    go_enter Tryz.func9, Tryz.ntmps9
    go_wp2_with fail
    refine (KPR.out _ HX2.out).mono ?_
    intro w2 hE
    replace hE : Ext _ w2 := hE
    have HE2 := Lib.hid (Ext.trans HX2.out hE)
    clear hE z0 z1 z2 z3 z4
    go_wp2_with fail
    refine (KA.out _ HE2.out).mono ?_
    intro w6 hE6
    have HE6 := Lib.hid (Ext.trans HE2.out hE6)
    clear hE6
    go_wp2
    go_ret
    exact ⟨rfl, HE6.out⟩
end Go.Proofs.YtmokejjndkibhaaGreatDoor

namespace Go.Proofs.YtmokejjndkibhaaGreatDoor.lexerRoundTrip
open Go.ChangeShapes Go.WideShapes Go.ChangeAt Go.RowKit
open Go.ChangeMaps (open_string shut_string)
set_option linter.unusedVariables false

theorem own : ownKnob Tryz.prog.godebug = none := by kernel_rfl
theorem laidOut : laidOutB Tryz.prog = true := by kernel_rfl
/-- the cells of a datum of plain values -/
def flat : Nat → DataW Unit → List Value
  | _, .lit l => [l.value]
  | n + 1, .agg ps => ps.flatMap (flat n)
  | _, _ => []
/-- a world for the witness: the settled one, the listed tables holding what the text lays -/
def lay (d : DataW Unit) : Obj → Obj
  | .cells _ t frozen => .cells (flat 4 d).toArray t frozen
  | o => o
noncomputable def laidWorld (os : Os) : World :=
  { World.holding Tryz.prog os ⟨#[], #[], []⟩ with heap := ((((World.holding Tryz.prog os ⟨#[], #[], []⟩).heap.modify 2 (lay Rows.laid_math_bits_deBruijn32tab)).modify 3 (lay Rows.laid_math_bits_deBruijn64tab)).modify 1 (lay Rows.laid_internal_strconv_uint64pow10)) }
theorem laid_met (os : Os) : laidMet Tryz.prog Rows.lexerRoundTripRow.laid ((laidWorld os).forCall (fun _ _ => 0) ⟨#[], #[.agg #[.int .i64 0, .int .i64 0, .string ByteArray.empty, .int .i64 0, .slice none 0 0]], []⟩).memory :=
  laidMet_of_run' 8 (by kernel_rfl) (by kernel_rfl)
theorem reads (os : Os) {H : Type} (enc : TypeId × Value → H) : ∃ places, DataW.whole enc Tryz.prog ((laidWorld os).forCall (fun _ _ => 0) ⟨#[], #[.agg #[.int .i64 0, .int .i64 0, .string ByteArray.empty, .int .i64 0, .slice none 0 0]], []⟩).memory Tryz.f9.params.toList Rows.lexerRoundTripSpec.vars false (#[.agg #[.int .i64 0, .int .i64 0, .string ByteArray.empty, .int .i64 0, .slice none 0 0]] : Array Value).toList 8 = some ([.agg [.lit (.int .i64 0), .lit (.int .i64 0), .lit (.string []), .lit (.int .i64 0), .nil]], [], places) :=
  ⟨[], by kernel_rfl⟩
theorem shape (W : World) (h : W.ShapedOpen Tryz.prog) : MaxL W := cell_of_shapedOpen_int (zero := #[.int .i64 0]) h (of_decide_eq_true (by kernel_rfl)) (by kernel_rfl) (by kernel_rfl) (by kernel_rfl) (by kernel_rfl) Tryz.underlying3

theorem tab (W : World) (h : laidMetH Tryz.prog Rows.lexerRoundTripRow.laid W) : TabW W := by
  have h1 : laidMet Tryz.prog Rows.lexerRoundTripRow.laid W := h
  exact Lib.tabIs_of_head (g := 1) (t := 153) (e := 131) (n := 20) (by kernel_rfl) (by kernel_rfl) Tryz.underlying153 Tryz.underlying131 (by kernel_rfl) (by kernel_rfl) h1.tail.tail
set_option maxRecDepth 100000 in
theorem contract (H : Type) (enc : TypeId × Value → H) (W : World) (base : Nat) (args : Array Value) (ds gs : List (DataW H)) (before : List MemPlace)
    (hval0 : ∀ (j : Nat) t v, Tryz.f9.params[j]? = some t → args[j]? = some v → Value.okWide Tryz.prog W .any base t v)
    (hW : DataW.Whole enc Tryz.prog Tryz.f9.params.toList Rows.lexerRoundTripSpec.vars false W args.toList ds gs before) (hz : (DataW.weightsEach Tryz.prog (Tryz.f9.params.toList ++ (OpenSpec.ofChange Rows.lexerRoundTripSpec).bare.plain.varTypes Tryz.prog) (ds ++ gs)).all (· ≤ reachBytes) = true) (hL : laidMetH Tryz.prog Rows.lexerRoundTripRow.laid W) (hm : MaxL W) :
    Calls Tryz.prog 9 args W fun e W' => ∃ v, e = .returned v ∧ Rows.lexerRoundTripSpec.post enc Tryz.prog Tryz.f9 false true false false W args v W' := by
  have hval := hval0
  have hW' := hW
  obtain ⟨p, q, hA0, hV, rfl, hfz, hnd⟩ := hW
  have hA : DataW.TrodAll enc Tryz.prog W 0 (fun _ => true) true Tryz.f9.params.toList args.toList ds p := hA0
  rw [Tryz.params9] at hA hval
  obtain ⟨v0, vs0, d0, ds0, p0, q0, hargs, rfl, rfl, h0, r0⟩ := trodAll_cons hA
  obtain ⟨rfl, rfl, rfl⟩ := trodAll_nil r0
  obtain rfl : args = #[v0] := by cases args; simp_all
  obtain ⟨rfl, rfl⟩ := trodVars_none hV
  have k0 := h0
  have lt0 : ∀ x ∈ p0, x.block < W.heap.size := by obtain ⟨m, hm⟩ := k0; exact DataW.trod_lt m _ _ _ hm
  obtain ⟨e0, pe0, ce0, rfl, w0⟩ := open_ex (hval 0 25 v0 rfl rfl) h0 (fun n hn => by have := List.all_eq_true.1 hz n (DataW.weights_mem_each (j := 0) rfl rfl n hn); simpa using this)
  clear hA0 hval0 hz
  refine (lexerRoundTrip_walk e0 pe0 ce0 W w0 (tab W hL) hm).mono fun W' bel => ?_
  exact ⟨_, rfl, _, _, _, [], _, [], hW', trodAll_mk1 (shut_bool Tryz.underlying4 _), (trodAll_cons_mk (Below.trod laidOut (by kernel_rfl) (of_decide_eq_true (by kernel_rfl)) k0 bel lt0) trodAll_mk0), rfl, bel.frame _, fun h => by cases h⟩

set_option maxRecDepth 100000 in
theorem lifted (os : Os) (started : os.Started) (H : Type) (enc : TypeId × Value → H) (F : Stop.Interp) :
    ReturnsInHanded {} Tryz.checked os 9 .any ((OpenSpec.ofChange Rows.lexerRoundTripSpec).preRow enc Tryz.prog Tryz.f9 Rows.lexerRoundTripRow.domain false Rows.lexerRoundTripRow.laid) (((OpenSpec.ofChange Rows.lexerRoundTripSpec).at F).post enc Tryz.prog Tryz.f9 false true false false) := by
  obtain ⟨places, hx⟩ := reads os enc
  refine returnsInHanded_of_row (C := Tryz.checked) (s := OpenSpec.ofChange Rows.lexerRoundTripSpec) own started (by kernel_rfl) Tryz.func9
    (witness_row_at (enc := enc) (C := Tryz.checked) false (laidWorld os) #[.agg #[.int .i64 0, .int .i64 0, .string ByteArray.empty, .int .i64 0, .slice none 0 0]] rfl (by kernel_rfl) (by kernel_rfl) (by kernel_rfl)
      (OpenSpec.preRow_of_cond 8 hx (by kernel_rfl) (fun k hk => by cases hk) (by kernel_rfl) (laid_met os))) ?_
  intro W base args ds gs before hval hW _ _ hz hL hsh _
  exact contract H enc W base args ds gs before hval hW hz hL (shape W hsh)

theorem said : Rows.LexerRoundTripSaid :=
  OpenClaim.holds_of_cond 9 Tryz.f9 rfl rfl rfl rfl rfl rfl rfl ⟨rfl, rfl, rfl, rfl, rfl⟩ rfl rfl rfl rfl rfl (by kernel_rfl) Tryz.func9 (by kernel_rfl)
    (of_decide_eq_true (by kernel_rfl)) (by unfold Func.isWrapper; first | (rw [if_pos (by decide +kernel)]; kernel_rfl) | (rw [if_neg (by decide +kernel)]; exact ⟨rfl, rfl⟩))
    (fun os started H enc _ F => by rw [OpenClaim.pre_eq_preRow]; exact lifted os started H enc F)

theorem plain (f : FuncId) (fn : Func) (hf : Tryz.pinned.checked.prog.funcNamed "nursery/nurserylaw10.LexerRoundTrip" = some f) (hfn : Tryz.pinned.checked.prog.funcs[f]? = some fn) :
    true = Tryz.pinned.checked.prog.looks [] ∧ ∀ (j : Nat) t, fn.params[j]? = some t → Tryz.pinned.checked.prog.wantsStandIn t = false := by
  obtain rfl : f = 9 := Option.some.inj ((show Tryz.prog.funcNamed "nursery/nurserylaw10.LexerRoundTrip" = some 9 by kernel_rfl).symm.trans hf) |>.symm
  obtain rfl : fn = Tryz.f9 := (Option.some.inj (Tryz.func9.symm.trans hfn)).symm
  refine ⟨by kernel_rfl, fun j t ht => ?_⟩
  rw [Tryz.params9] at ht
  rcases j with _ | j
  · obtain rfl : t = 25 := by simpa using ht.symm
    exact (show Tryz.prog.wantsStandIn 25 = false by kernel_rfl)
  · simp at ht

/-- the statement -/
theorem proved : Rows.LexerRoundTripCardSaid :=
  Claim7.holds_tied_plain_at .later [] _ _ _ _ said (fun _ h => by cases h) (by kernel_rfl) (fun _ h => by cases h) lexerRoundTrip_row_tie rfl ⟨rfl, rfl⟩ (by kernel_rfl) rfl plain (by kernel_rfl)
#print axioms proved
end Go.Proofs.YtmokejjndkibhaaGreatDoor.lexerRoundTrip

