/- The statement LexerPositionsCardSaid: for every input the law returns true, and the arguments read as before; the tables of the library that it lists are tied to the text. The frame round the walk of the law. (With it: The lexer's Position.; LexerPositions: lines and columns ascend.) -/
import Derived.Stop.LaidErr
import Derived.Test.YtmokejjndkibhaaGreatDoorCards
import Derived.Test.YtmokejjndkibhaaGreatDoorTie
import Derived.WalkKit
import Derived.ProofKit
import Derived.OpenShut
import Derived.ShutString
import Derived.ChangeOld
import Derived.Below
import Derived.Deep.DeepHandedRow
import Derived.Lib.LaidTab
import Derived.Shelf.Vars
import Derived.Test.YtmokejjndkibhaaGreatDoorPart12
import Derived.Test.YtmokejjndkibhaaGreatDoorPart7
import Derived.Test.YtmokejjndkibhaaGreatDoorPart10
import Derived.Test.YtmokejjndkibhaaGreatDoorPart11

namespace Go.Proofs.YtmokejjndkibhaaGreatDoor
open Go.RowKit Go.Shelf Ex
set_option linter.unusedVariables false
set_option linter.unusedSimpArgs false
attribute [local go_sem] sB_extract

theorem posR_in {s : List UInt8} {k : Nat} (h : k ≤ s.length) : posR s (k : Int) = posF (s.take k) := by
  unfold posR
  rw [if_neg (by omega)]
  simp
theorem posR_out {s : List UInt8} {a : Int} (h : a < 0 ∨ (s.length : Int) < a) : posR s a = (0, 0) := by
  unfold posR; rw [if_pos h]
theorem posF_bd (l : List UInt8) : 1 ≤ (posF l).1 ∧ (posF l).1 ≤ l.length + 1 ∧ 1 ≤ (posF l).2 ∧ (posF l).2 ≤ l.length + 1 := by
  refine snoc_ind (P := fun l => 1 ≤ (posF l).1 ∧ (posF l).1 ≤ l.length + 1 ∧ 1 ≤ (posF l).2 ∧ (posF l).2 ≤ l.length + 1) ?_ ?_ l
  · simp [posF]
  · intro l c ih
    rw [posF_snoc, List.length_append]
    simp only [List.length_singleton]
    split
    · dsimp only; omega
    · dsimp only; omega
set_option maxRecDepth 100000 in
set_option maxHeartbeats 4000000 in
theorem Position_any (s : List UInt8) (a : Int) (w : World) (hl : s.length ≤ 1000000) : Gives Tryz.prog 22 #[sV s, .int .i64 a] w (.tuple #[.int .i64 (posR s a).1, .int .i64 (posR s a).2]) := by
  unfold Gives
  have hsz := sB_size s
  by_cases h1 : a < 0
  · rw [posR_out (.inl h1)]
    go_enter Tryz.func22, Tryz.ntmps22
    go_wp2
    go_ret2
    exact ⟨rfl, Below.refl _ w⟩
  · by_cases h2 : (s.length : Int) < a
    · rw [posR_out (.inr h2)]
      go_enter Tryz.func22, Tryz.ntmps22
      go_wp2
      go_ret2
      exact ⟨rfl, Below.refl _ w⟩
    · obtain ⟨k, rfl⟩ : ∃ k : Nat, a = k := ⟨a.toNat, by omega⟩
      have hk : k ≤ s.length := by omega
      rw [posR_in hk]
      have hlen : (s.take k).length = k := by simp; omega
      have hP := posF_eq (s.take k)
      have hB := posF_bd (s.take k)
      rw [hP] at hB
      rw [hlen] at hP hB
      dsimp only at hB
      rw [hP]
      dsimp only
      obtain ⟨hb1, hb2, hb3, hb4⟩ := hB
      have K1 := Lib.hid (fun W => (show Calls Tryz.prog 50 #[sV (s.take k), .string ⟨#[10]⟩] W fun e w' => e = .returned (.int .i64 (Lib.countByte (s.take k) 10)) ∧ w' = W from by
        have := Tryz.strings_Count_one (sB (s.take k)) 10 W
        rw [sB_data] at this
        exact this))
      have K2 := Lib.hid (fun W => (show Calls Tryz.prog 51 #[sV (s.take k), .int .u8 10] W fun e w' => e = .returned (.int .i64 (Lib.lastIndexByte (sB (s.take k)) 10)) ∧ w' = W from
        Tryz.strings_LastIndexByte (sB (s.take k)) 10 (by rw [sB_size]; omega) W))
      clear hP
      generalize Lib.countByte (s.take k) 10 = nc at *
      generalize Lib.lastIndexByte (sB (s.take k)) 10 = nl at *
      go_enter Tryz.func22, Tryz.ntmps22
      go_wp2
      go_quiet (first
        | (go_at_call 50; exact Calls.quiet_of_same ((K1.out _).mono fun e w3 h => ⟨h.1, h.2⟩))
        | (go_at_call 51; exact Calls.quiet_of_same ((K2.out _).mono fun e w3 h => ⟨h.1, h.2⟩)))
      go_wp2
      go_ret2
      exact ⟨rfl, Ext.drewN' (Below.refl _ w)⟩
end Go.Proofs.YtmokejjndkibhaaGreatDoor

namespace Go.Proofs.YtmokejjndkibhaaGreatDoor
open Go.RowKit Go.Shelf Ex
set_option linter.unusedVariables false
set_option linter.unusedSimpArgs false

set_option maxRecDepth 100000 in
set_option maxHeartbeats 4000000 in
theorem lexerPositions_walk (a0 : ByteArray) (w : World) (h0 : a0.size ≤ 140737488351232) (hTab : TabW w) (hM : MaxL w) : Gives Tryz.prog 8 #[.string a0] w (.bool true) := by
  obtain ⟨s, rfl⟩ := sB_of a0
  have hsz := sB_size s
  have KA := Lib.hid (fun W (hW : Ext w W) => lxAwake_any W (hTab.below hW) (hM.ext hW))
  unfold Gives
  clear hTab hM
  by_cases hl : 400 < s.length
  · go_enter Tryz.func8, Tryz.ntmps8
    go_wp2_with fail
    refine (KA.out _ (Below.refl _ _)).mono ?_
    intro w1 hE
    go_wp2
    go_ret
    exact ⟨rfl, hE⟩
  · have KP0 := Lib.hid (fun W => (show Gives Tryz.prog 22 #[sV s, .int .i64 0] W (.tuple #[.int .i64 1, .int .i64 1]) from by
      have := Position_any s ((0 : Nat) : Int) W (by omega)
      rw [posR_in (Nat.zero_le _)] at this
      exact this))
    have KPN := Lib.hid (fun W => (show Gives Tryz.prog 22 #[sV s, .int .i64 ((s.length : Int) + 1)] W (.tuple #[.int .i64 0, .int .i64 0]) from by
      have := Position_any s ((s.length : Int) + 1) W (by omega)
      rw [posR_out (.inr (by omega))] at this
      exact this))
    have KPJ := Lib.hid (fun (j : Nat) (hj : j < s.length) W => (show Gives Tryz.prog 22 #[sV s, .int .i64 ((j : Int) + 1)] W (.tuple #[.int .i64 (posF (s.take (j + 1))).1, .int .i64 (posF (s.take (j + 1))).2]) from by
      have := Position_any s ((j + 1 : Nat) : Int) W (by omega)
      rw [posR_in (by omega)] at this
      exact this))
    have HF := Lib.hid (fun (j : Nat) (hj : j < s.length) => posF_at hj)
    go_enter Tryz.func8, Tryz.ntmps8
    go_wp2_with fail
    refine (KP0.out _).mono ?_
    intro w1 hE
    have HE1 := Lib.hid hE
    clear hE
    go_wp2
    go_loopw [28, 3, 4] (fun i l c wr => ∃ (j : Nat) (L C : Int), j ≤ s.length ∧ i = .int .i64 (j : Int) ∧ l = .int .i64 L ∧ c = .int .i64 C ∧ posF (s.take j) = (L, C) ∧ 1 ≤ L ∧ L ≤ j + 1 ∧ 1 ≤ C ∧ C ≤ j + 1 ∧ Ext w wr) (fun i _ _ _ => s.length - (intOf i).toNat)
    case atStart => exact ⟨0, 1, 1, Nat.zero_le _, rfl, rfl, rfl, rfl, by omega, by omega, by omega, by omega, HE1.out⟩
    case round =>
      obtain ⟨j, L, C, hj, rfl, rfl, rfl, hP, hL1, hL2, hC1, hC2, hE⟩ := hrel
      have HE := Lib.hid hE
      clear hE
      by_cases hlt : j < s.length
      · have hF := HF.out j hlt
        have KJ := KPJ.out j hlt
        rw [hP] at hF
        obtain ⟨c0, hc0⟩ : ∃ c0 : Nat, (s[j]).toNat = c0 := ⟨_, rfl⟩
        rw [hc0] at hF
        by_cases hc : c0 = 10
        · subst hc
          rw [if_pos rfl] at hF
          have HFF := Lib.hid hF
          have K1 := Lib.hid (fun W => (show Gives Tryz.prog 22 #[sV s, .int .i64 ((j : Int) + 1)] W (.tuple #[.int .i64 (L + 1), .int .i64 1]) from by
            have := KJ W
            rw [hF] at this; exact this))
          clear KJ hF hP
          go_wp2_with fail
          refine (K1.out _).mono ?_
          intro w2 hE2
          have HE2 := Lib.hid (Ext.trans HE.out hE2)
          clear hE2
          go_wp2
          go_roundw
          case rel => exact ⟨j + 1, L + 1, 1, by omega, by go_num, rfl, rfl, HFF.out, by omega, by omega, by omega, by omega, HE2.out⟩
          case measure => simp [intOf]; omega
        · rw [if_neg hc] at hF
          have HFF := Lib.hid hF
          have hc' : ((c0 : Int) == 10) = false := by simpa using (show ¬ (c0 : Int) = 10 by omega)
          have K1 := Lib.hid (fun W => (show Gives Tryz.prog 22 #[sV s, .int .i64 ((j : Int) + 1)] W (.tuple #[.int .i64 L, .int .i64 (C + 1)]) from by
            have := KJ W
            rw [hF] at this; exact this))
          clear KJ hF hP hc
          go_wp2_with fail
          refine (K1.out _).mono ?_
          intro w2 hE2
          have HE2 := Lib.hid (Ext.trans HE.out hE2)
          clear hE2
          go_wp2
          go_roundw
          case rel => exact ⟨j + 1, L, C + 1, by omega, by go_num, rfl, rfl, HFF.out, by omega, by omega, by omega, by omega, HE2.out⟩
          case measure => simp [intOf]; omega
      · obtain rfl : j = s.length := by omega
        clear hP
        go_wp2_with fail
        refine (KPN.out _).mono ?_
        intro w3 hE3
        have HE3 := Lib.hid (Ext.trans HE.out hE3)
        clear hE3
        go_wp2_with fail
        refine (KA.out _ HE3.out).mono ?_
        intro w6 hE6
        have HE6 := Lib.hid (Ext.trans HE3.out hE6)
        clear hE6
        go_wp2
        go_ret
        exact ⟨rfl, HE6.out⟩
end Go.Proofs.YtmokejjndkibhaaGreatDoor

namespace Go.Proofs.YtmokejjndkibhaaGreatDoor.lexerPositions
open Go.ChangeShapes Go.WideShapes Go.ChangeAt Go.RowKit
open Go.ChangeMaps (open_string shut_string)
set_option linter.unusedVariables false

theorem own : ownKnob Tryz.prog.godebug = none := by kernel_rfl
theorem laidOut : laidOutB Tryz.prog = true := by kernel_rfl
/-- the cells of a datum of plain values -/
def flat : Nat → DataW Unit → List Value
  | _, .lit l => [l.value]
  | n + 1, .agg ps => ps.flatMap (flat n)
  | _, _ => []
/-- a world for the witness: the settled one, the listed tables holding what the text lays -/
def lay (d : DataW Unit) : Obj → Obj
  | .cells _ t frozen => .cells (flat 4 d).toArray t frozen
  | o => o
noncomputable def laidWorld (os : Os) : World :=
  { World.holding Tryz.prog os ⟨#[], #[], []⟩ with heap := ((((World.holding Tryz.prog os ⟨#[], #[], []⟩).heap.modify 2 (lay Rows.laid_math_bits_deBruijn32tab)).modify 3 (lay Rows.laid_math_bits_deBruijn64tab)).modify 1 (lay Rows.laid_internal_strconv_uint64pow10)) }
theorem laid_met (os : Os) : laidMet Tryz.prog Rows.lexerPositionsRow.laid ((laidWorld os).forCall (fun _ _ => 0) ⟨#[], #[.string ByteArray.empty], []⟩).memory :=
  laidMet_of_run' 8 (by kernel_rfl) (by kernel_rfl)
theorem reads (os : Os) {H : Type} (enc : TypeId × Value → H) : ∃ places, DataW.whole enc Tryz.prog ((laidWorld os).forCall (fun _ _ => 0) ⟨#[], #[.string ByteArray.empty], []⟩).memory Tryz.f8.params.toList Rows.lexerPositionsSpec.vars false (#[.string ByteArray.empty] : Array Value).toList 8 = some ([.lit (.string [])], [], places) :=
  ⟨[], by kernel_rfl⟩
theorem shape (W : World) (h : W.ShapedOpen Tryz.prog) : MaxL W := cell_of_shapedOpen_int (zero := #[.int .i64 0]) h (of_decide_eq_true (by kernel_rfl)) (by kernel_rfl) (by kernel_rfl) (by kernel_rfl) (by kernel_rfl) Tryz.underlying3

theorem tab (W : World) (h : laidMetH Tryz.prog Rows.lexerPositionsRow.laid W) : TabW W := by
  have h1 : laidMet Tryz.prog Rows.lexerPositionsRow.laid W := h
  exact Lib.tabIs_of_head (g := 1) (t := 153) (e := 131) (n := 20) (by kernel_rfl) (by kernel_rfl) Tryz.underlying153 Tryz.underlying131 (by kernel_rfl) (by kernel_rfl) h1.tail.tail
set_option maxRecDepth 100000 in
theorem contract (H : Type) (enc : TypeId × Value → H) (W : World) (base : Nat) (args : Array Value) (ds gs : List (DataW H)) (before : List MemPlace)
    (hval0 : ∀ (j : Nat) t v, Tryz.f8.params[j]? = some t → args[j]? = some v → Value.okWide Tryz.prog W .any base t v)
    (hW : DataW.Whole enc Tryz.prog Tryz.f8.params.toList Rows.lexerPositionsSpec.vars false W args.toList ds gs before) (hz : (DataW.weightsEach Tryz.prog (Tryz.f8.params.toList ++ (OpenSpec.ofChange Rows.lexerPositionsSpec).bare.plain.varTypes Tryz.prog) (ds ++ gs)).all (· ≤ reachBytes) = true) (hL : laidMetH Tryz.prog Rows.lexerPositionsRow.laid W) (hm : MaxL W) :
    Calls Tryz.prog 8 args W fun e W' => ∃ v, e = .returned v ∧ Rows.lexerPositionsSpec.post enc Tryz.prog Tryz.f8 false true false false W args v W' := by
  have hval := hval0
  have hW' := hW
  obtain ⟨p, q, hA0, hV, rfl, hfz, hnd⟩ := hW
  have hA : DataW.TrodAll enc Tryz.prog W 0 (fun _ => true) true Tryz.f8.params.toList args.toList ds p := hA0
  rw [Tryz.params8] at hA hval
  obtain ⟨v0, vs0, d0, ds0, p0, q0, hargs, rfl, rfl, h0, r0⟩ := trodAll_cons hA
  obtain ⟨rfl, rfl, rfl⟩ := trodAll_nil r0
  obtain rfl : args = #[v0] := by cases args; simp_all
  obtain ⟨rfl, rfl⟩ := trodVars_none hV
  obtain ⟨a0, rfl, rfl, rfl, w0⟩ := open_string Tryz.underlying9 (hval 0 9 v0 rfl rfl) h0
  have s0 : a0.size ≤ 140737488351232 := by rw [Lib.size_eq]; exact sized_string hz (j := 0) rfl rfl
  clear hA0 hval0 hz
  simp only [List.append_nil] at hW'
  refine (lexerPositions_walk a0 W s0 (tab W hL) hm).mono fun W' bel => ?_
  exact ⟨_, rfl, _, _, _, [], [], [], hW', trodAll_mk1 (shut_bool Tryz.underlying4 _), (trodAll_cons_mk (shut_string Tryz.underlying9 w0) trodAll_mk0), rfl, bel.frame _, fun h => by cases h⟩

set_option maxRecDepth 100000 in
theorem lifted (os : Os) (started : os.Started) (H : Type) (enc : TypeId × Value → H) (F : Stop.Interp) :
    ReturnsInHanded {} Tryz.checked os 8 .any ((OpenSpec.ofChange Rows.lexerPositionsSpec).preRow enc Tryz.prog Tryz.f8 Rows.lexerPositionsRow.domain false Rows.lexerPositionsRow.laid) (((OpenSpec.ofChange Rows.lexerPositionsSpec).at F).post enc Tryz.prog Tryz.f8 false true false false) := by
  obtain ⟨places, hx⟩ := reads os enc
  refine returnsInHanded_of_row (C := Tryz.checked) (s := OpenSpec.ofChange Rows.lexerPositionsSpec) own started (by kernel_rfl) Tryz.func8
    (witness_row_at (enc := enc) (C := Tryz.checked) false (laidWorld os) #[.string ByteArray.empty] rfl (by kernel_rfl) (by kernel_rfl) (by kernel_rfl)
      (OpenSpec.preRow_of_cond 8 hx (by kernel_rfl) (fun k hk => by cases hk) (by kernel_rfl) (laid_met os))) ?_
  intro W base args ds gs before hval hW _ _ hz hL hsh _
  exact contract H enc W base args ds gs before hval hW hz hL (shape W hsh)

theorem said : Rows.LexerPositionsSaid :=
  OpenClaim.holds_of_cond 8 Tryz.f8 rfl rfl rfl rfl rfl rfl rfl ⟨rfl, rfl, rfl, rfl, rfl⟩ rfl rfl rfl rfl rfl (by kernel_rfl) Tryz.func8 (by kernel_rfl)
    (of_decide_eq_true (by kernel_rfl)) (by unfold Func.isWrapper; first | (rw [if_pos (by decide +kernel)]; kernel_rfl) | (rw [if_neg (by decide +kernel)]; exact ⟨rfl, rfl⟩))
    (fun os started H enc _ F => by rw [OpenClaim.pre_eq_preRow]; exact lifted os started H enc F)

theorem plain (f : FuncId) (fn : Func) (hf : Tryz.pinned.checked.prog.funcNamed "nursery/nurserylaw10.LexerPositions" = some f) (hfn : Tryz.pinned.checked.prog.funcs[f]? = some fn) :
    true = Tryz.pinned.checked.prog.looks [] ∧ ∀ (j : Nat) t, fn.params[j]? = some t → Tryz.pinned.checked.prog.wantsStandIn t = false := by
  obtain rfl : f = 8 := Option.some.inj ((show Tryz.prog.funcNamed "nursery/nurserylaw10.LexerPositions" = some 8 by kernel_rfl).symm.trans hf) |>.symm
  obtain rfl : fn = Tryz.f8 := (Option.some.inj (Tryz.func8.symm.trans hfn)).symm
  refine ⟨by kernel_rfl, fun j t ht => ?_⟩
  rw [Tryz.params8] at ht
  rcases j with _ | j
  · obtain rfl : t = 9 := by simpa using ht.symm
    exact (show Tryz.prog.wantsStandIn 9 = false by kernel_rfl)
  · simp at ht

/-- the statement -/
theorem proved : Rows.LexerPositionsCardSaid :=
  Claim7.holds_tied_plain_at .later [] _ _ _ _ said (fun _ h => by cases h) (by kernel_rfl) (fun _ h => by cases h) lexerPositions_row_tie rfl ⟨rfl, rfl⟩ (by kernel_rfl) rfl plain (by kernel_rfl)
#print axioms proved
end Go.Proofs.YtmokejjndkibhaaGreatDoor.lexerPositions

