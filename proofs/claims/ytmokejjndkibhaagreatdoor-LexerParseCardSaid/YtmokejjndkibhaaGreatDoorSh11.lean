/- Lemmas and walks for the statements of this seat, part 11, merged from smaller texts: Reading: an expression of a higher precedence; what the law's examples read as.; The law's expressions; awake.; Tokens of a text behind which a line feed follows; reading within other tokens: plain.; Plain: different valid expressions have different texts.; Plain: different valid expressions have different texts, the proof.; The tokens of the text of a valid expression: plain.; Reading the tokens of a printed text: plain.; Parsing the text of a valid expression yields the expression: plain. -/
import Derived.Test.YtmokejjndkibhaaGreatDoorSh10
import Derived.Test.YtmokejjndkibhaaGreatDoorSh7
import Derived.Test.YtmokejjndkibhaaGreatDoorSh4
import Derived.Test.YtmokejjndkibhaaGreatDoorSh5
import Derived.Test.YtmokejjndkibhaaGreatDoorSh3

namespace Go.Proofs.YtmokejjndkibhaaGreatDoor
open Go.RowKit Ex
set_option linter.unusedVariables false
set_option linter.unusedSimpArgs false

/-- what reads at a precedence reads at a lower one, if no operator of a precedence between them follows -/
theorem Rd.lift {l : List Tk} {k j : Nat} {e : Ex} : ∀ (n p : Nat), p + n ≤ 6 → Rd l (.bin (p + n)) k (.ok e j) → (∀ q, p ≤ q → q < p + n → (opAt l j).2 ≠ ((q : Nat) : Int)) → Rd l (.bin p) k (.ok e j)
  | 0, p, _, h, _ => h
  | n + 1, p, hp, h, ho => Rd.lift n p (by omega) (.bin (by omega) h (.fin (ho (p + n) (by omega) (by omega)))) (fun q h1 h2 => ho q h1 (by omega))
theorem Rd.opd {l : List Tk} {k j p : Nat} {e : Ex} (hp : p ≤ 6) (h : Rd l .opd k (.ok e j)) (ho : ∀ q, p ≤ q → q < 6 → (opAt l j).2 ≠ ((q : Nat) : Int)) : Rd l (.bin p) k (.ok e j) := by
  have h6 : Rd l (.bin (p + (6 - p))) k (.ok e j) := by rw [show p + (6 - p) = 6 by omega]; exact .six (Nat.le_refl _) h
  exact Rd.lift (6 - p) p (by omega) h6 (fun q h1 h2 => ho q h1 (by omega))
/-- no operator follows -/
theorem no_op {l : List Tk} {j p m : Nat} (hp : 1 ≤ p) (h : (opAt l j).2 = 0) : ∀ q, p ≤ q → q < m → (opAt l j).2 ≠ ((q : Nat) : Int) := fun q h1 h2 e => by rw [h] at e; omega
/-- operators of a lower precedence follow -/
theorem low_op {l : List Tk} {j p m : Nat} {x : Nat} (h : (opAt l j).2 = (x : Int)) (hx : x < p) : ∀ q, p ≤ q → q < m → (opAt l j).2 ≠ ((q : Nat) : Int) := fun q h1 h2 e => by rw [h] at e; omega

mutual
theorem eqX_self : ∀ e : Ex, eqE e e = true
  | .mk k o n v ts => by
    have := eqXL_self ts
    simp [eqE_def, Ex.args, this]
theorem eqXL_self : ∀ es : List Ex, eqL es es = true
  | [] => by simp [eqL]
  | e :: es => by simp [eqL, eqX_self e, eqXL_self es]
end

def awS1 : List UInt8 := [120, 60, 61, 49, 48, 32, 35, 32, 101, 110, 100]
def awS2 : List UInt8 := [97, 32, 43, 32, 98, 32, 42, 32, 45, 50]
def awS3 : List UInt8 := [97, 32, 60, 32, 98, 32, 60, 32, 99]
def awL1 : List Tk := [⟨1, [120], 0, 0⟩, ⟨3, [60, 61], 0, 1⟩, ⟨2, [49, 48], 10, 3⟩, ⟨0, [], 0, 11⟩]
def awL2 : List Tk := [⟨1, [97], 0, 0⟩, ⟨3, [43], 0, 2⟩, ⟨1, [98], 0, 4⟩, ⟨3, [42], 0, 6⟩, ⟨3, [45], 0, 8⟩, ⟨2, [50], 2, 9⟩, ⟨0, [], 0, 10⟩]
def awL3 : List Tk := [⟨1, [97], 0, 0⟩, ⟨3, [60], 0, 2⟩, ⟨1, [98], 0, 4⟩, ⟨3, [60], 0, 6⟩, ⟨1, [99], 0, 8⟩, ⟨0, [], 0, 9⟩]
theorem aw1 : toksR awS1 = (awL1, 0, 0) := by decide +kernel
theorem aw2 : toksR awS2 = (awL2, 0, 0) := by decide +kernel
theorem aw3 : toksR awS3 = (awL3, 0, 0) := by decide +kernel
abbrev awTwo : Ex := unX 1 (numX 2)
abbrev awE : Ex := binX 3 (namX [97]) (binX 5 (namX [98]) awTwo)
abbrev awF : Ex := binX 10 (namX [97]) (namX [98])
theorem num_two (p : Int) : numOk ⟨2, [50], 2, p⟩ = true := by
  have : Lib.decDigits 2 = [50] := by rw [Lib.decDigits_one (by decide)]; decide
  unfold numOk
  simp [this]
theorem aw2_rd : Rd awL2 (.bin 1) 0 (.ok awE 6) := by
  have ha : Rd awL2 .opd 0 (.ok (namX [97]) 1) := .nam (by decide) rfl (by decide)
  have hb : Rd awL2 .opd 2 (.ok (namX [98]) 3) := .nam (by decide) rfl (by decide)
  have h2 : Rd awL2 .opd 4 (.ok awTwo 6) := .neg (by decide) (.num (k := 5) (by decide) rfl (num_two _))
  have o1 : opAt awL2 1 = (3, 4) := by decide
  have o3 : opAt awL2 3 = (5, 5) := by decide
  have o6 : opAt awL2 6 = (0, 0) := by decide
  have h5 : Rd awL2 (.bin 5) 2 (.ok (binX 5 (namX [98]) awTwo) 6) := .bin (by decide) (.six (by decide) hb) (.more (p := 5) (by decide) (by rw [o3]; rfl) (.six (by decide) h2) (by rw [o3]; exact .fin (by rw [o6]; decide)))
  have h4 : Rd awL2 (.bin 4) 0 (.ok awE 6) := .bin (by decide) (Rd.opd (by decide) ha (low_op (x := 4) (by rw [o1]; rfl) (by decide))) (.more (p := 4) (by decide) (by rw [o1]; rfl) h5 (by rw [o1]; exact .fin (by rw [o6]; decide)))
  exact Rd.lift 3 1 (by decide) h4 (no_op (by decide) (by rw [o6]))
theorem aw3_rd : Rd awL3 (.bin 1) 0 (.ok awF 3) := by
  have ha : Rd awL3 .opd 0 (.ok (namX [97]) 1) := .nam (by decide) rfl (by decide)
  have hb : Rd awL3 .opd 2 (.ok (namX [98]) 3) := .nam (by decide) rfl (by decide)
  have o1 : opAt awL3 1 = (10, 3) := by decide
  have o3 : opAt awL3 3 = (10, 3) := by decide
  have h3 : Rd awL3 (.bin 3) 0 (.ok awF 3) := .bin (by decide) (Rd.opd (by decide) ha (low_op (x := 3) (by rw [o1]; rfl) (by decide))) (by
    have := Rd.three (l := awL3) (p := 3) (k := 1) (e := namX [97]) (f := namX [98]) (j := 3) rfl (by rw [o1]; rfl) (Rd.opd (by decide) hb (low_op (x := 3) (by rw [o3]; rfl) (by decide)))
    rw [o1] at this
    exact this)
  exact Rd.lift 2 1 (by decide) h3 (fun q h1 h2 => by rw [o3]; show (3 : Int) ≠ _; omega)
theorem awE_chk : awE.chk = 0 := by decide +kernel
theorem aw2_ps : psR awS2 (.ok awE 6) = (awE, 0, 0) := by
  unfold psR
  rw [aw2]
  simp [psL, awL2, awE_chk]
theorem aw3_ps : psR awS3 (.ok awF 3) = (exZ, 6, 3) := by
  unfold psR
  rw [aw3]
  simp [psL, awL3]
end Go.Proofs.YtmokejjndkibhaaGreatDoor

namespace Go.Proofs.YtmokejjndkibhaaGreatDoor
open Go.RowKit Go.Shelf Ex
set_option linter.unusedVariables false
set_option linter.unusedSimpArgs false

theorem GoesG.callG {P : Program} {l : List Oper} {R : World → World → Prop} {Φ : Nat → (Nat → Value) → World → Prop} {i : Nat} {o : Oper} {a' : Act} {W : World} {Q : Exit → Act → World → Prop} (f : FuncId) (args : Array Value) (j : Nat) (g b : Bool) (hg : o.guard = some (j, g)) (hv : sv l a' j = .bool b) (hbg : (b == g) = true) (hrun : (execOp a'.eval o).run P W = .ok (.enter f args) W)
    (hc : Calls P f args W fun e W' => ∃ v, e = .returned v ∧ R W W' ∧ ∀ s : Nat → Value, (o.dst.isSome = true → s i = v) → (∀ k, k ≠ i → ancB l l.length i k = true → s k = sv l a' k) → Φ i s W') : GoesG P l R Φ i o a' W Q := by
  unfold GoesG
  rw [if_pos (by rw [wanted_of hg hv, hbg])]
  unfold Oper.wp
  rw [hrun]
  exact hc.mono fun e W' ⟨v, he, hR, hΦ⟩ => by subst he; exact ⟨v, rfl, hR, hΦ⟩

abbrev namV (s : List UInt8) : Value := .agg #[.int .i64 2, .int .i64 0, sV s, .int .i64 0, .slice none 0 0]
set_option maxHeartbeats 1000000 in
theorem lawName_any (s : List UInt8) (w : World) : Gives Tryz.prog 33 #[sV s] w (namV s) := by
  unfold Gives
  have hE : Ext w (w.alloc (.cells #[.int .i64 2, .int .i64 0, sV s, .int .i64 0, .slice none 0 0] 25)) := ext_alloc _ _
  have hb := alloc_here w (.cells #[.int .i64 2, .int .i64 0, sV s, .int .i64 0, .slice none 0 0] 25)
  have HB := Lib.hid hb
  have HE := Lib.hid hE
  clear hE hb
  go_enter Tryz.func33, Tryz.ntmps33
  go_wp2
  have z0 := cell_of (i := 0) HB.out rfl
  have z1 := cell_of (i := 1) HB.out rfl
  have z2 := cell_of (i := 2) HB.out rfl
  have z3 := cell_of (i := 3) HB.out rfl
  have z4 := cell_of (i := 4) HB.out rfl
  exact bodyPost_ret (v := .agg #[.int .i64 2, .int .i64 0, sV s, .int .i64 0, .slice none 0 0]) (by simp [results, Tryz.f33, go_sem, z0, z1, z2, z3, z4]) rfl ⟨rfl, HE.out⟩
theorem Ex.At.toT {w : World} {p : Option Addr} {e : Ex} (h : Ex.At w p e) : AtB (fun _ => True) w p e := h.toB.imp (fun _ _ _ => trivial)
set_option maxRecDepth 100000 in
set_option maxHeartbeats 2000000 in
theorem lawBin_any (op : Int) (h0 : 0 ≤ op) (h1 : op ≤ 100) (a b : Ex) (p q : Option Addr) (c d : Nat) (w : World) (hA : Ex.At w p a) (hB : Ex.At w q b) :
    Calls Tryz.prog 32 #[.int .i64 op, a.val p c, b.val q d] w fun e w' => ∃ r, e = .returned ((binX op a b).val r 2) ∧ Ex.At w' r (binX op a b) ∧ Ext w w' := by
  have HA := Lib.hid hA
  have HB := Lib.hid hB
  clear hA hB
  obtain ⟨k1, o1, n1, v1, ts⟩ := a
  obtain ⟨k2, o2, n2, v2, us⟩ := b
  dsimp only [Ex.val, Ex.kind, Ex.op, Ex.name, Ex.value, Ex.args]
  obtain ⟨m1, hm1⟩ : ∃ m, ts.length = m := ⟨_, rfl⟩
  obtain ⟨m2, hm2⟩ : ∃ m, us.length = m := ⟨_, rfl⟩
  rw [hm1, hm2]
  have HM1 := Lib.hid hm1
  have HM2 := Lib.hid hm2
  clear hm1 hm2
  have HX := Lib.hid (show Ext w ((((w.alloc (.cells #[.int .i64 k1, .int .i64 o1, sV n1, .int .i64 v1, .slice p m1 c] 25)).alloc (.cells #[.int .i64 k2, .int .i64 o2, sV n2, .int .i64 v2, .slice q m2 d] 25)).alloc (.cells #[.int .i64 4, .int .i64 op, .string { data := #[] }, .int .i64 0, .slice (some ⟨w.heap.size + 3, 0, none⟩) 2 2] 25)).alloc (.cells #[.int .i64 k1, .int .i64 o1, sV n1, .int .i64 v1, .slice p m1 c, .int .i64 k2, .int .i64 o2, sV n2, .int .i64 v2, .slice q m2 d] 25)) from ((((Below.refl _ w).alloc (Nat.le_refl _) _).alloc (by simp) _).alloc (by simp; omega) _).alloc (by simp; omega) _)
  have HR := Lib.hid (show ((((w.alloc (.cells #[.int .i64 k1, .int .i64 o1, sV n1, .int .i64 v1, .slice p m1 c] 25)).alloc (.cells #[.int .i64 k2, .int .i64 o2, sV n2, .int .i64 v2, .slice q m2 d] 25)).alloc (.cells #[.int .i64 4, .int .i64 op, .string { data := #[] }, .int .i64 0, .slice (some ⟨w.heap.size + 3, 0, none⟩) 2 2] 25)).alloc (.cells #[.int .i64 k1, .int .i64 o1, sV n1, .int .i64 v1, .slice p m1 c, .int .i64 k2, .int .i64 o2, sV n2, .int .i64 v2, .slice q m2 d] 25)).heap[w.heap.size + 3]? = some (.cells #[.int .i64 k1, .int .i64 o1, sV n1, .int .i64 v1, .slice p m1 c, .int .i64 k2, .int .i64 o2, sV n2, .int .i64 v2, .slice q m2 d] 25) from by
    have := alloc_here (((w.alloc (.cells #[.int .i64 k1, .int .i64 o1, sV n1, .int .i64 v1, .slice p m1 c] 25)).alloc (.cells #[.int .i64 k2, .int .i64 o2, sV n2, .int .i64 v2, .slice q m2 d] 25)).alloc (.cells #[.int .i64 4, .int .i64 op, .string { data := #[] }, .int .i64 0, .slice (some ⟨w.heap.size + 3, 0, none⟩) 2 2] 25)) (.cells #[.int .i64 k1, .int .i64 o1, sV n1, .int .i64 v1, .slice p m1 c, .int .i64 k2, .int .i64 o2, sV n2, .int .i64 v2, .slice q m2 d] 25)
    rw [World.size_alloc, World.size_alloc, World.size_alloc] at this; exact this)
  have HZ := Lib.hid (show ((((w.alloc (.cells #[.int .i64 k1, .int .i64 o1, sV n1, .int .i64 v1, .slice p m1 c] 25)).alloc (.cells #[.int .i64 k2, .int .i64 o2, sV n2, .int .i64 v2, .slice q m2 d] 25)).alloc (.cells #[.int .i64 4, .int .i64 op, .string { data := #[] }, .int .i64 0, .slice (some ⟨w.heap.size + 3, 0, none⟩) 2 2] 25)).alloc (.cells #[.int .i64 k1, .int .i64 o1, sV n1, .int .i64 v1, .slice p m1 c, .int .i64 k2, .int .i64 o2, sV n2, .int .i64 v2, .slice q m2 d] 25)).heap[w.heap.size + 2]? = some (.cells #[.int .i64 4, .int .i64 op, .string { data := #[] }, .int .i64 0, .slice (some ⟨w.heap.size + 3, 0, none⟩) 2 2] 25) from by
    rw [Below.heap_alloc _ _ _ (by rw [World.size_alloc, World.size_alloc, World.size_alloc]; omega)]
    have := alloc_here ((w.alloc (.cells #[.int .i64 k1, .int .i64 o1, sV n1, .int .i64 v1, .slice p m1 c] 25)).alloc (.cells #[.int .i64 k2, .int .i64 o2, sV n2, .int .i64 v2, .slice q m2 d] 25)) (.cells #[.int .i64 4, .int .i64 op, .string { data := #[] }, .int .i64 0, .slice (some ⟨w.heap.size + 3, 0, none⟩) 2 2] 25)
    rw [World.size_alloc, World.size_alloc] at this; exact this)
  go_enter Tryz.func32, Tryz.ntmps32
  go_wp2
  have z0 := cell_of (i := 0) HZ.out rfl
  have z1 := cell_of (i := 1) HZ.out rfl
  have z2 := cell_of (i := 2) HZ.out rfl
  have z3 := cell_of (i := 3) HZ.out rfl
  have z4 := cell_of (i := 4) HZ.out rfl
  generalize ((((w.alloc (.cells #[.int .i64 k1, .int .i64 o1, sV n1, .int .i64 v1, .slice p m1 c] 25)).alloc (.cells #[.int .i64 k2, .int .i64 o2, sV n2, .int .i64 v2, .slice q m2 d] 25)).alloc (.cells #[.int .i64 4, .int .i64 op, .string { data := #[] }, .int .i64 0, .slice (some ⟨w.heap.size + 3, 0, none⟩) 2 2] 25)).alloc (.cells #[.int .i64 k1, .int .i64 o1, sV n1, .int .i64 v1, .slice p m1 c, .int .i64 k2, .int .i64 o2, sV n2, .int .i64 v2, .slice q m2 d] 25)) = X at *
  exact bodyPost_ret (v := .agg #[.int .i64 4, .int .i64 op, .string { data := #[] }, .int .i64 0, .slice (some ⟨w.heap.size + 3, 0, none⟩) 2 2]) (by simp [results, Tryz.f32, go_sem, z0, z1, z2, z3, z4]) rfl ⟨some ⟨w.heap.size + 3, 0, none⟩, by first | rfl | (rw [sB_nil]; rfl), (at_bin h0 h1 (by rw [HR.out, ← HM1.out, ← HM2.out]; rfl) trivial (HA.out.below HX.out).toT (HB.out.below HX.out).toT).at, HX.out⟩
set_option maxRecDepth 100000 in
set_option maxHeartbeats 8000000 in
theorem lxAwake_any (w : World) (hTab : TabW w) (hM : MaxL w) : Gives Tryz.prog 10 #[] w (.bool true) := by
  unfold Gives
  have KT := Lib.hid (by have := Tokens_any awS1 w (by decide); rw [aw1] at this; exact this : Calls Tryz.prog 14 #[.string { data := #[120, 60, 61, 49, 48, 32, 35, 32, 101, 110, 100] }] w fun e w' => ∃ v, e = .returned (.tuple #[v, .int .i64 0, .int .i64 0]) ∧ RowT w.heap.size v awL1 w' ∧ Ext w w')
  have KP1 := Lib.hid (fun W (hW : Ext w W) => (by
    have := Parse_any awS2 W (by decide) (hTab.below hW) (hM.ext hW) (.ok awE 6) (fun _ => by rw [aw2]; exact aw2_rd)
    rw [aw2_ps] at this; exact this : Calls Tryz.prog 11 #[.string { data := #[97, 32, 43, 32, 98, 32, 42, 32, 45, 50] }] W fun e w' => ∃ q cc, e = .returned (.tuple #[.agg #[.int .i64 4, .int .i64 3, .string { data := #[] }, .int .i64 0, .slice q 2 cc], .int .i64 0, .int .i64 0]) ∧ AtB (W.heap.size ≤ ·) w' q awE ∧ Ext W w'))
  have KP2 := Lib.hid (fun W (hW : Ext w W) => (by
    have := Parse_any awS3 W (by decide) (hTab.below hW) (hM.ext hW) (.ok awF 3) (fun _ => by rw [aw3]; exact aw3_rd)
    rw [aw3_ps] at this; exact this : Calls Tryz.prog 11 #[.string { data := #[97, 32, 60, 32, 98, 32, 60, 32, 99] }] W fun e w' => ∃ q cc, e = .returned (.tuple #[.agg #[.int .i64 0, .int .i64 0, .string { data := #[] }, .int .i64 0, .slice q 0 cc], .int .i64 6, .int .i64 3]) ∧ AtB (W.heap.size ≤ ·) w' q exZ ∧ Ext W w'))
  clear hTab hM
  go_enter Tryz.func10, Tryz.ntmps10
  go_wp2_with fail
  refine (show Calls _ _ _ _ _ from KT.out).mono ?_
  rintro _ w1 ⟨v, rfl, hrow, hE1⟩
  dsimp only
  obtain ⟨p, c, rfl, htr, hlc⟩ := hrow.at
  have HT := Lib.hid htr
  have HE1 := Lib.hid hE1
  clear hrow htr hE1
  have hlen : awL1.length = 4 := rfl
  rw [hlen]
  clear hlen hlc
  go_wp2_with fail
  refine (KP1.out _ HE1.out).mono ?_
  rintro _ w2 ⟨q1, c1, rfl, hA1, hE2⟩
  dsimp only
  have HA1 := Lib.hid hA1
  have HE2 := Lib.hid hE2
  clear hA1 hE2
  have HE3 := Lib.hid (ext_alloc w2 (.cells #[.int .i64 4, .int .i64 3, .string { data := #[] }, .int .i64 0, .slice q1 2 c1] 25))
  have HB3 := Lib.hid (alloc_here w2 (.cells #[.int .i64 4, .int .i64 3, .string { data := #[] }, .int .i64 0, .slice q1 2 c1] 25))
  go_wp2_with fail
  refine (KP2.out _ (Ext.trans HE1.out (Ext.trans HE2.out HE3.out))).mono ?_
  rintro _ w3 ⟨q2, c2, rfl, hA2, hE4⟩
  dsimp only
  have HE4 := Lib.hid (Ext.trans HE3.out hE4)
  have HB4 := Lib.hid ((hE4.below.block _ (lt_of_block HB3.out)).trans HB3.out)
  clear hA2 hE4
  go_upto_region 6 with fail
  obtain ⟨w9, hw9⟩ : ∃ W, (((w3.alloc (.cells #[.int .i64 0, .int .i64 0, .string { data := #[] }, .int .i64 0, .slice q2 0 c2] 25)).alloc (.cells #[.int .i64 1, .int .i64 0, .string { data := #[] }, .int .i64 2, .slice none 0 0] 25)).alloc (.cells #[.int .i64 3, .int .i64 1, .string { data := #[] }, .int .i64 0, .slice (some ⟨w3.heap.size + 1, 0, none⟩) 1 1] 25)).alloc (.cells #[.int .i64 1, .string { data := #[120] }, .int .i64 0, .int .i64 0, .int .i64 3, .string { data := #[60, 61] }, .int .i64 0, .int .i64 1, .int .i64 2, .string { data := #[49, 48] }, .int .i64 10, .int .i64 3, .int .i64 0, .string { data := #[] }, .int .i64 0, .int .i64 11] 36) = W := ⟨_, rfl⟩
  rw [hw9]
  have hE9 : Ext w3 w9 := by rw [← hw9]; exact ((((Below.refl _ w3).alloc (Nat.le_refl _) _).alloc (by simp) _).alloc (by simp; omega) _).alloc (by simp; omega) _
  have hk := alloc_here (((w3.alloc (.cells #[.int .i64 0, .int .i64 0, .string { data := #[] }, .int .i64 0, .slice q2 0 c2] 25)).alloc (.cells #[.int .i64 1, .int .i64 0, .string { data := #[] }, .int .i64 2, .slice none 0 0] 25)).alloc (.cells #[.int .i64 3, .int .i64 1, .string { data := #[] }, .int .i64 0, .slice (some ⟨w3.heap.size + 1, 0, none⟩) 1 1] 25)) (.cells #[.int .i64 1, .string { data := #[120] }, .int .i64 0, .int .i64 0, .int .i64 3, .string { data := #[60, 61] }, .int .i64 0, .int .i64 1, .int .i64 2, .string { data := #[49, 48] }, .int .i64 10, .int .i64 3, .int .i64 0, .string { data := #[] }, .int .i64 0, .int .i64 11] 36)
  rw [hw9, World.size_alloc, World.size_alloc, World.size_alloc] at hk
  have h2 : w9.heap[w3.heap.size + 1 + 1]? = some (.cells #[.int .i64 3, .int .i64 1, .string { data := #[] }, .int .i64 0, .slice (some ⟨w3.heap.size + 1, 0, none⟩) 1 1] 25 (0, 0)) := by
    rw [← hw9, Below.heap_alloc _ _ _ (by rw [World.size_alloc, World.size_alloc, World.size_alloc]; omega)]
    have := alloc_here ((w3.alloc (.cells #[.int .i64 0, .int .i64 0, .string { data := #[] }, .int .i64 0, .slice q2 0 c2] 25)).alloc (.cells #[.int .i64 1, .int .i64 0, .string { data := #[] }, .int .i64 2, .slice none 0 0] 25)) (.cells #[.int .i64 3, .int .i64 1, .string { data := #[] }, .int .i64 0, .slice (some ⟨w3.heap.size + 1, 0, none⟩) 1 1] 25)
    rw [World.size_alloc, World.size_alloc] at this; exact this
  have h1 : w9.heap[w3.heap.size + 1]? = some (.cells #[.int .i64 1, .int .i64 0, .string { data := #[] }, .int .i64 2, .slice none 0 0] 25 (0, 0)) := by
    rw [← hw9, Below.heap_alloc _ _ _ (by rw [World.size_alloc, World.size_alloc, World.size_alloc]; omega), Below.heap_alloc _ _ _ (by rw [World.size_alloc, World.size_alloc]; omega)]
    have := alloc_here (w3.alloc (.cells #[.int .i64 0, .int .i64 0, .string { data := #[] }, .int .i64 0, .slice q2 0 c2] 25)) (.cells #[.int .i64 1, .int .i64 0, .string { data := #[] }, .int .i64 2, .slice none 0 0] 25)
    rw [World.size_alloc] at this; exact this
  have HB9 := Lib.hid ((hE9.below.block _ (lt_of_block HB4.out)).trans HB4.out)
  have HC9 := Lib.hid h2
  have HTW := Lib.hid (show Ex.At w9 (some ⟨w3.heap.size + 1, 0, none⟩) awTwo from (at_un (S := fun _ => True) (e := numX 2) (q := none) (cc := 0) (by decide) h1 trivial (AtB_leaf _ _ _ (fits_num 2 (by decide) (by decide)))).at)
  have HTK := Lib.hid (show TkRow w9 (some ⟨w3.heap.size + 1 + 1 + 1, 0, none⟩) awL1 from fun i hi => by
    have hi4 : i < 4 := hi
    refine ⟨_, 0, rfl, ?_⟩
    match i, hi4 with
    | 0, _ => exact ⟨cell_of hk rfl, cell_of hk rfl, cell_of hk rfl, cell_of hk rfl⟩
    | 1, _ => exact ⟨cell_of hk rfl, cell_of hk rfl, cell_of hk rfl, cell_of hk rfl⟩
    | 2, _ => exact ⟨cell_of hk rfl, cell_of hk rfl, cell_of hk rfl, cell_of hk rfl⟩
    | 3, _ => exact ⟨cell_of hk rfl, cell_of hk rfl, cell_of hk rfl, cell_of hk rfl⟩)
  have HE9 := Lib.hid (Ext.trans HE1.out (Ext.trans HE2.out (Ext.trans HE4.out hE9)))
  have HTP := Lib.hid (show TkRow w9 p awL1 from HT.out.ext (Ext.trans HE2.out (Ext.trans HE4.out hE9)))
  have HAE := Lib.hid (show Ex.At w9 q1 awE from (HA1.out.ext (Ext.trans HE4.out hE9)).at)
  clear hw9 hE9 hk h1 h2 KT KP1 KP2
  refine wp_region_tail (l1 := [_, _, _, _, _, _, _, _, _, _, _, _, _, _, _, _, _, _, _, _, _, _, _, _, _, _, _, _, _, _, _, _]) (l2 := [_]) (by kernel_rfl) Ext (fun W => Below.refl _ W) (fun W => show Below W.heap.size W { W with drawn := W.drawn + 1 } from ⟨rfl, rfl, rfl, Nat.le_refl _, fun _ _ => rfl⟩) Ext.trans
    (fun i s W => match i with
      | 0 => s 0 = .int .i64 0
      | 1 => s 1 = .bool true
      | 2 => s 2 = .bool true
      | 3 => s 3 = .slice p 4 c
      | 4 => s 4 = .slice (some ⟨w3.heap.size + 1 + 1 + 1, 0, none⟩) 4 4
      | 5 => s 5 = .bool true
      | 6 => s 6 = .bool true
      | 7 => s 7 = .bool true
      | 8 => s 8 = .int .i64 0
      | 9 => s 9 = .bool true
      | 10 => s 10 = .bool true
      | 11 => s 11 = .bool true
      | 12 => s 12 = .int .i64 0
      | 13 => s 13 = .bool true
      | 14 => s 14 = .bool true
      | 15 => s 15 = .bool true
      | 16 => s 16 = .agg #[.int .i64 4, .int .i64 3, .string { data := #[] }, .int .i64 0, .slice q1 2 c1]
      | 17 => s 17 = .agg #[.int .i64 2, .int .i64 0, sV [97], .int .i64 0, .slice none 0 0]
      | 18 => s 18 = .agg #[.int .i64 2, .int .i64 0, sV [98], .int .i64 0, .slice none 0 0]
      | 19 => s 19 = .agg #[.int .i64 3, .int .i64 1, .string { data := #[] }, .int .i64 0, .slice (some ⟨w3.heap.size + 1, 0, none⟩) 1 1]
      | 20 => ∃ r, s 20 = (binX 5 (namX [98]) awTwo).val r 2 ∧ Ex.At W r (binX 5 (namX [98]) awTwo)
      | 21 => ∃ r, s 21 = awE.val r 2 ∧ Ex.At W r awE
      | 22 => s 22 = .bool true
      | 23 => s 23 = .bool true
      | 24 => s 24 = .bool true
      | 25 => s 25 = .int .i64 3
      | 26 => s 26 = .bool true
      | 27 => s 27 = .bool true
      | 28 => s 28 = .bool true
      | 29 => s 29 = .int .i64 6
      | 30 => s 30 = .bool true
      | 31 => s 31 = .bool true
      | _ => True)
    (fun i => [i])
    (by
      intro i s s' W W' h hs hE
      have hs := hs i (by simp)
      match i, h, hs with
      | 0, h, hs => exact hs.trans h
      | 1, h, hs => exact hs.trans h
      | 2, h, hs => exact hs.trans h
      | 3, h, hs => exact hs.trans h
      | 4, h, hs => exact hs.trans h
      | 5, h, hs => exact hs.trans h
      | 6, h, hs => exact hs.trans h
      | 7, h, hs => exact hs.trans h
      | 8, h, hs => exact hs.trans h
      | 9, h, hs => exact hs.trans h
      | 10, h, hs => exact hs.trans h
      | 11, h, hs => exact hs.trans h
      | 12, h, hs => exact hs.trans h
      | 13, h, hs => exact hs.trans h
      | 14, h, hs => exact hs.trans h
      | 15, h, hs => exact hs.trans h
      | 16, h, hs => exact hs.trans h
      | 17, h, hs => exact hs.trans h
      | 18, h, hs => exact hs.trans h
      | 19, h, hs => exact hs.trans h
      | 20, ⟨r, h1, h2⟩, hs => exact ⟨r, hs.trans h1, h2.below hE⟩
      | 21, ⟨r, h1, h2⟩, hs => exact ⟨r, hs.trans h1, h2.below hE⟩
      | 22, h, hs => exact hs.trans h
      | 23, h, hs => exact hs.trans h
      | 24, h, hs => exact hs.trans h
      | 25, h, hs => exact hs.trans h
      | 26, h, hs => exact hs.trans h
      | 27, h, hs => exact hs.trans h
      | 28, h, hs => exact hs.trans h
      | 29, h, hs => exact hs.trans h
      | 30, h, hs => exact hs.trans h
      | 31, h, hs => exact hs.trans h
      | i + 32, h, hs => exact trivial)
    (by kernel_rfl) (by kernel_rfl) (by kernel_rfl) 67 rfl (by kernel_rfl) (by kernel_rfl) ?_ ?_
  · intro i op ho a' W hA
    have x0 : W.cell? ⟨w2.heap.size, 0, none⟩ = _ := Ext.cellE (cell_of HB9.out rfl) hA.rel
    have x1 : W.cell? ⟨w2.heap.size, 1, none⟩ = _ := Ext.cellE (cell_of HB9.out rfl) hA.rel
    have x2 : W.cell? ⟨w2.heap.size, 2, none⟩ = _ := Ext.cellE (cell_of HB9.out rfl) hA.rel
    have x3 : W.cell? ⟨w2.heap.size, 3, none⟩ = _ := Ext.cellE (cell_of HB9.out rfl) hA.rel
    have x4 : W.cell? ⟨w2.heap.size, 4, none⟩ = _ := Ext.cellE (cell_of HB9.out rfl) hA.rel
    have y0 : W.cell? ⟨w3.heap.size + 1 + 1, 0, none⟩ = _ := Ext.cellE (cell_of HC9.out rfl) hA.rel
    have y1 : W.cell? ⟨w3.heap.size + 1 + 1, 1, none⟩ = _ := Ext.cellE (cell_of HC9.out rfl) hA.rel
    have y2 : W.cell? ⟨w3.heap.size + 1 + 1, 2, none⟩ = _ := Ext.cellE (cell_of HC9.out rfl) hA.rel
    have y3 : W.cell? ⟨w3.heap.size + 1 + 1, 3, none⟩ = _ := Ext.cellE (cell_of HC9.out rfl) hA.rel
    have y4 : W.cell? ⟨w3.heap.size + 1 + 1, 4, none⟩ = _ := Ext.cellE (cell_of HC9.out rfl) hA.rel
    match i, ho with
    | 0, ho =>
      obtain rfl := Option.some.inj ho
      have e1 : a'.eval (.tmp 3) = .int .i64 0 := hA.keep 3 (by kernel_rfl)
      refine GoesG.value (.int .i64 0) rfl ?_ (Below.refl _ _) (fun s h1 h2 => h1 rfl)
      simp only [execOp, e1]
      simp [go_sem, x0, x1, x2, x3, x4, y0, y1, y2, y3, y4]
    | 1, ho =>
      obtain rfl := Option.some.inj ho
      have e1 : a'.eval (.tmp 35) = .int .i64 0 := (sv_dst (l := _) rfl).symm.trans (hA.new 0 (by decide) (by kernel_rfl))
      refine GoesG.value (.bool true) rfl ?_ (Below.refl _ _) (fun s h1 h2 => h1 rfl)
      simp only [execOp, e1]
      simp [go_sem, x0, x1, x2, x3, x4, y0, y1, y2, y3, y4]
    | 2, ho =>
      obtain rfl := Option.some.inj ho
      have e1 : a'.eval (.tmp 36) = .bool true := (sv_dst (l := _) rfl).symm.trans (hA.new 1 (by decide) (by kernel_rfl))
      refine GoesG.value (.bool true) rfl ?_ (Below.refl _ _) (fun s h1 h2 => h1 rfl)
      simp only [execOp, e1]
      simp [go_sem, x0, x1, x2, x3, x4, y0, y1, y2, y3, y4]
    | 3, ho =>
      obtain rfl := Option.some.inj ho
      have hg := hA.new 2 (by decide) (by kernel_rfl)
      have e1 : a'.eval (.tmp 1) = .slice p 4 c := hA.keep 1 (by kernel_rfl)
      refine GoesG.valueW (.slice p 4 c) 2 true true rfl hg rfl ?_ (Below.refl _ _) (fun s h1 h2 => h1 rfl)
      simp only [execOp, e1]
      simp [go_sem, x0, x1, x2, x3, x4, y0, y1, y2, y3, y4]
    | 4, ho =>
      obtain rfl := Option.some.inj ho
      have hg := hA.new 2 (by decide) (by kernel_rfl)
      have e1 : a'.eval (.tmp 11) = .slice (some ⟨w3.heap.size + 1 + 1 + 1, 0, none⟩) 4 4 := hA.keep 11 (by kernel_rfl)
      refine GoesG.valueW (.slice (some ⟨w3.heap.size + 1 + 1 + 1, 0, none⟩) 4 4) 2 true true rfl hg rfl ?_ (Below.refl _ _) (fun s h1 h2 => h1 rfl)
      simp only [execOp, e1]
      simp [go_sem, x0, x1, x2, x3, x4, y0, y1, y2, y3, y4]
    | 5, ho =>
      obtain rfl := Option.some.inj ho
      have hg := hA.new 2 (by decide) (by kernel_rfl)
      have e1 : a'.eval (.tmp 38) = .slice p 4 c := (sv_dst (l := _) rfl).symm.trans (hA.new 3 (by decide) (by kernel_rfl))
      have e2 : a'.eval (.tmp 39) = .slice (some ⟨w3.heap.size + 1 + 1 + 1, 0, none⟩) 4 4 := (sv_dst (l := _) rfl).symm.trans (hA.new 4 (by decide) (by kernel_rfl))
      refine GoesG.callG 31 #[.slice p 4 c, .slice (some ⟨w3.heap.size + 1 + 1 + 1, 0, none⟩) 4 4] 2 true true rfl hg rfl ?_ (Calls.mono (EqT_any awL1 p (some ⟨w3.heap.size + 1 + 1 + 1, 0, none⟩) c 4 W (HTP.out.ext hA.rel) (HTK.out.ext hA.rel) (by decide)) ?_)
      · simp [execOp, resolve, invoke, Deferred.ofValue, e1, e2]
        rfl
      · rintro _ W2 ⟨rfl, hE2⟩
        exact ⟨_, rfl, hE2, fun s h1 h2 => h1 rfl⟩
    | 6, ho =>
      obtain rfl := Option.some.inj ho
      have e1 : a'.eval (.tmp 37) = .bool true := (sv_dst (l := _) rfl).symm.trans (hA.new 2 (by decide) (by kernel_rfl))
      have e2 : a'.eval (.tmp 40) = .bool true := (sv_dst (l := _) rfl).symm.trans (hA.new 5 (by decide) (by kernel_rfl))
      refine GoesG.value (.bool true) rfl ?_ (Below.refl _ _) (fun s h1 h2 => h1 rfl)
      simp only [execOp, e1, e2]
      simp [go_sem, x0, x1, x2, x3, x4, y0, y1, y2, y3, y4]
    | 7, ho =>
      obtain rfl := Option.some.inj ho
      have e1 : a'.eval (.tmp 41) = .bool true := (sv_dst (l := _) rfl).symm.trans (hA.new 6 (by decide) (by kernel_rfl))
      refine GoesG.value (.bool true) rfl ?_ (Below.refl _ _) (fun s h1 h2 => h1 rfl)
      simp only [execOp, e1]
      simp [go_sem, x0, x1, x2, x3, x4, y0, y1, y2, y3, y4]
    | 8, ho =>
      obtain rfl := Option.some.inj ho
      have hg := hA.new 7 (by decide) (by kernel_rfl)
      have e1 : a'.eval (.tmp 6) = .int .i64 0 := hA.keep 6 (by kernel_rfl)
      refine GoesG.valueW (.int .i64 0) 7 true true rfl hg rfl ?_ (Below.refl _ _) (fun s h1 h2 => h1 rfl)
      simp only [execOp, e1]
      simp [go_sem, x0, x1, x2, x3, x4, y0, y1, y2, y3, y4]
    | 9, ho =>
      obtain rfl := Option.some.inj ho
      have hg := hA.new 7 (by decide) (by kernel_rfl)
      have e1 : a'.eval (.tmp 43) = .int .i64 0 := (sv_dst (l := _) rfl).symm.trans (hA.new 8 (by decide) (by kernel_rfl))
      refine GoesG.valueW (.bool true) 7 true true rfl hg rfl ?_ (Below.refl _ _) (fun s h1 h2 => h1 rfl)
      simp only [execOp, e1]
      simp [go_sem, x0, x1, x2, x3, x4, y0, y1, y2, y3, y4]
    | 10, ho =>
      obtain rfl := Option.some.inj ho
      have e1 : a'.eval (.tmp 42) = .bool true := (sv_dst (l := _) rfl).symm.trans (hA.new 7 (by decide) (by kernel_rfl))
      have e2 : a'.eval (.tmp 44) = .bool true := (sv_dst (l := _) rfl).symm.trans (hA.new 9 (by decide) (by kernel_rfl))
      refine GoesG.value (.bool true) rfl ?_ (Below.refl _ _) (fun s h1 h2 => h1 rfl)
      simp only [execOp, e1, e2]
      simp [go_sem, x0, x1, x2, x3, x4, y0, y1, y2, y3, y4]
    | 11, ho =>
      obtain rfl := Option.some.inj ho
      have e1 : a'.eval (.tmp 45) = .bool true := (sv_dst (l := _) rfl).symm.trans (hA.new 10 (by decide) (by kernel_rfl))
      refine GoesG.value (.bool true) rfl ?_ (Below.refl _ _) (fun s h1 h2 => h1 rfl)
      simp only [execOp, e1]
      simp [go_sem, x0, x1, x2, x3, x4, y0, y1, y2, y3, y4]
    | 12, ho =>
      obtain rfl := Option.some.inj ho
      have hg := hA.new 11 (by decide) (by kernel_rfl)
      have e1 : a'.eval (.tmp 5) = .int .i64 0 := hA.keep 5 (by kernel_rfl)
      refine GoesG.valueW (.int .i64 0) 11 true true rfl hg rfl ?_ (Below.refl _ _) (fun s h1 h2 => h1 rfl)
      simp only [execOp, e1]
      simp [go_sem, x0, x1, x2, x3, x4, y0, y1, y2, y3, y4]
    | 13, ho =>
      obtain rfl := Option.some.inj ho
      have hg := hA.new 11 (by decide) (by kernel_rfl)
      have e1 : a'.eval (.tmp 47) = .int .i64 0 := (sv_dst (l := _) rfl).symm.trans (hA.new 12 (by decide) (by kernel_rfl))
      refine GoesG.valueW (.bool true) 11 true true rfl hg rfl ?_ (Below.refl _ _) (fun s h1 h2 => h1 rfl)
      simp only [execOp, e1]
      simp [go_sem, x0, x1, x2, x3, x4, y0, y1, y2, y3, y4]
    | 14, ho =>
      obtain rfl := Option.some.inj ho
      have e1 : a'.eval (.tmp 46) = .bool true := (sv_dst (l := _) rfl).symm.trans (hA.new 11 (by decide) (by kernel_rfl))
      have e2 : a'.eval (.tmp 48) = .bool true := (sv_dst (l := _) rfl).symm.trans (hA.new 13 (by decide) (by kernel_rfl))
      refine GoesG.value (.bool true) rfl ?_ (Below.refl _ _) (fun s h1 h2 => h1 rfl)
      simp only [execOp, e1, e2]
      simp [go_sem, x0, x1, x2, x3, x4, y0, y1, y2, y3, y4]
    | 15, ho =>
      obtain rfl := Option.some.inj ho
      have e1 : a'.eval (.tmp 49) = .bool true := (sv_dst (l := _) rfl).symm.trans (hA.new 14 (by decide) (by kernel_rfl))
      refine GoesG.value (.bool true) rfl ?_ (Below.refl _ _) (fun s h1 h2 => h1 rfl)
      simp only [execOp, e1]
      simp [go_sem, x0, x1, x2, x3, x4, y0, y1, y2, y3, y4]
    | 16, ho =>
      obtain rfl := Option.some.inj ho
      have hg := hA.new 15 (by decide) (by kernel_rfl)
      have e1 : a'.eval (.tmp 4) = .pointer (some ⟨w2.heap.size, 0, none⟩) := hA.keep 4 (by kernel_rfl)
      refine GoesG.valueW (.agg #[.int .i64 4, .int .i64 3, .string { data := #[] }, .int .i64 0, .slice q1 2 c1]) 15 true true rfl hg rfl ?_ (Below.refl _ _) (fun s h1 h2 => h1 rfl)
      simp only [execOp, e1]
      simp [go_sem, x0, x1, x2, x3, x4, y0, y1, y2, y3, y4]
    | 17, ho =>
      obtain rfl := Option.some.inj ho
      have hg := hA.new 15 (by decide) (by kernel_rfl)
      refine GoesG.callG 33 #[sV [97]] 15 true true rfl hg rfl ?_ (Calls.mono (lawName_any [97] W) ?_)
      · simp [execOp, resolve, invoke, Deferred.ofValue]
        rfl
      · rintro _ W2 ⟨rfl, hE2⟩
        exact ⟨_, rfl, hE2, fun s h1 h2 => h1 rfl⟩
    | 18, ho =>
      obtain rfl := Option.some.inj ho
      have hg := hA.new 15 (by decide) (by kernel_rfl)
      refine GoesG.callG 33 #[sV [98]] 15 true true rfl hg rfl ?_ (Calls.mono (lawName_any [98] W) ?_)
      · simp [execOp, resolve, invoke, Deferred.ofValue]
        rfl
      · rintro _ W2 ⟨rfl, hE2⟩
        exact ⟨_, rfl, hE2, fun s h1 h2 => h1 rfl⟩
    | 19, ho =>
      obtain rfl := Option.some.inj ho
      have hg := hA.new 15 (by decide) (by kernel_rfl)
      have e1 : a'.eval (.tmp 10) = .pointer (some ⟨w3.heap.size + 1 + 1, 0, none⟩) := hA.keep 10 (by kernel_rfl)
      refine GoesG.valueW (.agg #[.int .i64 3, .int .i64 1, .string { data := #[] }, .int .i64 0, .slice (some ⟨w3.heap.size + 1, 0, none⟩) 1 1]) 15 true true rfl hg rfl ?_ (Below.refl _ _) (fun s h1 h2 => h1 rfl)
      simp only [execOp, e1]
      simp [go_sem, x0, x1, x2, x3, x4, y0, y1, y2, y3, y4]
    | 20, ho =>
      obtain rfl := Option.some.inj ho
      have hg := hA.new 15 (by decide) (by kernel_rfl)
      have e1 : a'.eval (.tmp 53) = .agg #[.int .i64 2, .int .i64 0, sV [98], .int .i64 0, .slice none 0 0] := (sv_dst (l := _) rfl).symm.trans (hA.new 18 (by decide) (by kernel_rfl))
      have e2 : a'.eval (.tmp 54) = .agg #[.int .i64 3, .int .i64 1, .string { data := #[] }, .int .i64 0, .slice (some ⟨w3.heap.size + 1, 0, none⟩) 1 1] := (sv_dst (l := _) rfl).symm.trans (hA.new 19 (by decide) (by kernel_rfl))
      refine GoesG.callG 32 #[.int .i64 5, .agg #[.int .i64 2, .int .i64 0, sV [98], .int .i64 0, .slice none 0 0], .agg #[.int .i64 3, .int .i64 1, .string { data := #[] }, .int .i64 0, .slice (some ⟨w3.heap.size + 1, 0, none⟩) 1 1]] 15 true true rfl hg rfl ?_ (Calls.mono (lawBin_any 5 (by decide) (by decide) (namX [98]) awTwo none (some ⟨w3.heap.size + 1, 0, none⟩) 0 1 W (AtB_leaf (fun _ => True) W none (fits_nam (by decide))).at (HTW.out.below hA.rel)) ?_)
      · simp [execOp, resolve, invoke, Deferred.ofValue, e1, e2]
        rfl
      · rintro _ W2 ⟨r2, rfl, hAt, hE2⟩
        exact ⟨_, rfl, hE2, fun s h1 h2 => ⟨r2, h1 rfl, hAt⟩⟩
    | 21, ho =>
      obtain rfl := Option.some.inj ho
      have hg := hA.new 15 (by decide) (by kernel_rfl)
      have e1 : a'.eval (.tmp 52) = .agg #[.int .i64 2, .int .i64 0, sV [97], .int .i64 0, .slice none 0 0] := (sv_dst (l := _) rfl).symm.trans (hA.new 17 (by decide) (by kernel_rfl))
      obtain ⟨r0, h20, hA20⟩ := hA.new 20 (by decide) (by kernel_rfl)
      have e2 : a'.eval (.tmp 55) = (binX 5 (namX [98]) awTwo).val r0 2 := (sv_dst (l := _) rfl).symm.trans h20
      refine GoesG.callG 32 #[.int .i64 3, .agg #[.int .i64 2, .int .i64 0, sV [97], .int .i64 0, .slice none 0 0], (binX 5 (namX [98]) awTwo).val r0 2] 15 true true rfl hg rfl ?_ (Calls.mono (lawBin_any 3 (by decide) (by decide) (namX [97]) (binX 5 (namX [98]) awTwo) none r0 0 2 W (AtB_leaf (fun _ => True) W none (fits_nam (by decide))).at hA20) ?_)
      · simp [execOp, resolve, invoke, Deferred.ofValue, e1, e2]
        rfl
      · rintro _ W2 ⟨r2, rfl, hAt, hE2⟩
        exact ⟨_, rfl, hE2, fun s h1 h2 => ⟨r2, h1 rfl, hAt⟩⟩
    | 22, ho =>
      obtain rfl := Option.some.inj ho
      have hg := hA.new 15 (by decide) (by kernel_rfl)
      have e1 : a'.eval (.tmp 51) = .agg #[.int .i64 4, .int .i64 3, .string { data := #[] }, .int .i64 0, .slice q1 2 c1] := (sv_dst (l := _) rfl).symm.trans (hA.new 16 (by decide) (by kernel_rfl))
      obtain ⟨r0, h21, hA21⟩ := hA.new 21 (by decide) (by kernel_rfl)
      have e2 : a'.eval (.tmp 56) = awE.val r0 2 := (sv_dst (l := _) rfl).symm.trans h21
      have hq := refEqualX_any awE awE q1 r0 c1 2 W (HAE.out.below hA.rel) hA21
      rw [awE_chk, eqX_self] at hq
      refine GoesG.callG 30 #[.agg #[.int .i64 4, .int .i64 3, .string { data := #[] }, .int .i64 0, .slice q1 2 c1], awE.val r0 2] 15 true true rfl hg rfl ?_ (Calls.mono (show Gives _ _ #[.agg #[.int .i64 4, .int .i64 3, .string { data := #[] }, .int .i64 0, .slice q1 2 c1], awE.val r0 2] W (.bool true) from hq) ?_)
      · simp [execOp, resolve, invoke, Deferred.ofValue, e1, e2]
        rfl
      · rintro _ W2 ⟨rfl, hE2⟩
        exact ⟨_, rfl, hE2, fun s h1 h2 => h1 rfl⟩
    | 23, ho =>
      obtain rfl := Option.some.inj ho
      have e1 : a'.eval (.tmp 50) = .bool true := (sv_dst (l := _) rfl).symm.trans (hA.new 15 (by decide) (by kernel_rfl))
      have e2 : a'.eval (.tmp 57) = .bool true := (sv_dst (l := _) rfl).symm.trans (hA.new 22 (by decide) (by kernel_rfl))
      refine GoesG.value (.bool true) rfl ?_ (Below.refl _ _) (fun s h1 h2 => h1 rfl)
      simp only [execOp, e1, e2]
      simp [go_sem, x0, x1, x2, x3, x4, y0, y1, y2, y3, y4]
    | 24, ho =>
      obtain rfl := Option.some.inj ho
      have e1 : a'.eval (.tmp 58) = .bool true := (sv_dst (l := _) rfl).symm.trans (hA.new 23 (by decide) (by kernel_rfl))
      refine GoesG.value (.bool true) rfl ?_ (Below.refl _ _) (fun s h1 h2 => h1 rfl)
      simp only [execOp, e1]
      simp [go_sem, x0, x1, x2, x3, x4, y0, y1, y2, y3, y4]
    | 25, ho =>
      obtain rfl := Option.some.inj ho
      have hg := hA.new 24 (by decide) (by kernel_rfl)
      have e1 : a'.eval (.tmp 9) = .int .i64 3 := hA.keep 9 (by kernel_rfl)
      refine GoesG.valueW (.int .i64 3) 24 true true rfl hg rfl ?_ (Below.refl _ _) (fun s h1 h2 => h1 rfl)
      simp only [execOp, e1]
      simp [go_sem, x0, x1, x2, x3, x4, y0, y1, y2, y3, y4]
    | 26, ho =>
      obtain rfl := Option.some.inj ho
      have hg := hA.new 24 (by decide) (by kernel_rfl)
      have e1 : a'.eval (.tmp 60) = .int .i64 3 := (sv_dst (l := _) rfl).symm.trans (hA.new 25 (by decide) (by kernel_rfl))
      refine GoesG.valueW (.bool true) 24 true true rfl hg rfl ?_ (Below.refl _ _) (fun s h1 h2 => h1 rfl)
      simp only [execOp, e1]
      simp [go_sem, x0, x1, x2, x3, x4, y0, y1, y2, y3, y4]
    | 27, ho =>
      obtain rfl := Option.some.inj ho
      have e1 : a'.eval (.tmp 59) = .bool true := (sv_dst (l := _) rfl).symm.trans (hA.new 24 (by decide) (by kernel_rfl))
      have e2 : a'.eval (.tmp 61) = .bool true := (sv_dst (l := _) rfl).symm.trans (hA.new 26 (by decide) (by kernel_rfl))
      refine GoesG.value (.bool true) rfl ?_ (Below.refl _ _) (fun s h1 h2 => h1 rfl)
      simp only [execOp, e1, e2]
      simp [go_sem, x0, x1, x2, x3, x4, y0, y1, y2, y3, y4]
    | 28, ho =>
      obtain rfl := Option.some.inj ho
      have e1 : a'.eval (.tmp 62) = .bool true := (sv_dst (l := _) rfl).symm.trans (hA.new 27 (by decide) (by kernel_rfl))
      refine GoesG.value (.bool true) rfl ?_ (Below.refl _ _) (fun s h1 h2 => h1 rfl)
      simp only [execOp, e1]
      simp [go_sem, x0, x1, x2, x3, x4, y0, y1, y2, y3, y4]
    | 29, ho =>
      obtain rfl := Option.some.inj ho
      have hg := hA.new 28 (by decide) (by kernel_rfl)
      have e1 : a'.eval (.tmp 8) = .int .i64 6 := hA.keep 8 (by kernel_rfl)
      refine GoesG.valueW (.int .i64 6) 28 true true rfl hg rfl ?_ (Below.refl _ _) (fun s h1 h2 => h1 rfl)
      simp only [execOp, e1]
      simp [go_sem, x0, x1, x2, x3, x4, y0, y1, y2, y3, y4]
    | 30, ho =>
      obtain rfl := Option.some.inj ho
      have hg := hA.new 28 (by decide) (by kernel_rfl)
      have e1 : a'.eval (.tmp 64) = .int .i64 6 := (sv_dst (l := _) rfl).symm.trans (hA.new 29 (by decide) (by kernel_rfl))
      refine GoesG.valueW (.bool true) 28 true true rfl hg rfl ?_ (Below.refl _ _) (fun s h1 h2 => h1 rfl)
      simp only [execOp, e1]
      simp [go_sem, x0, x1, x2, x3, x4, y0, y1, y2, y3, y4]
    | 31, ho =>
      obtain rfl := Option.some.inj ho
      have e1 : a'.eval (.tmp 63) = .bool true := (sv_dst (l := _) rfl).symm.trans (hA.new 28 (by decide) (by kernel_rfl))
      have e2 : a'.eval (.tmp 65) = .bool true := (sv_dst (l := _) rfl).symm.trans (hA.new 30 (by decide) (by kernel_rfl))
      refine GoesG.value (.bool true) rfl ?_ (Below.refl _ _) (fun s h1 h2 => h1 rfl)
      simp only [execOp, e1, e2]
      simp [go_sem, x0, x1, x2, x3, x4, y0, y1, y2, y3, y4]
    | i + 32, ho => cases ho
  · intro vs w4 hvs hG hΦ
    obtain ⟨z0, z1, z2, z3, z4, z5, z6, z7, z8, z9, z10, z11, z12, z13, z14, z15, z16, z17, z18, z19, z20, z21, z22, z23, z24, z25, z26, z27, z28, z29, z30, z31, rfl⟩ : ∃ z0 z1 z2 z3 z4 z5 z6 z7 z8 z9 z10 z11 z12 z13 z14 z15 z16 z17 z18 z19 z20 z21 z22 z23 z24 z25 z26 z27 z28 z29 z30 z31, vs = z0 :: z1 :: z2 :: z3 :: z4 :: z5 :: z6 :: z7 :: z8 :: z9 :: z10 :: z11 :: z12 :: z13 :: z14 :: z15 :: z16 :: z17 :: z18 :: z19 :: z20 :: z21 :: z22 :: z23 :: z24 :: z25 :: z26 :: z27 :: z28 :: z29 :: z30 :: z31 :: [] := by
      match vs, hvs with
      | z0 :: z1 :: z2 :: z3 :: z4 :: z5 :: z6 :: z7 :: z8 :: z9 :: z10 :: z11 :: z12 :: z13 :: z14 :: z15 :: z16 :: z17 :: z18 :: z19 :: z20 :: z21 :: z22 :: z23 :: z24 :: z25 :: z26 :: z27 :: z28 :: z29 :: z30 :: z31 :: [], _ => exact ⟨z0, z1, z2, z3, z4, z5, z6, z7, z8, z9, z10, z11, z12, z13, z14, z15, z16, z17, z18, z19, z20, z21, z22, z23, z24, z25, z26, z27, z28, z29, z30, z31, rfl⟩
    have e0 : z0 = .int .i64 0 := hΦ 0 (by decide)
    subst e0
    have e1 : z1 = .bool true := hΦ 1 (by decide)
    subst e1
    have e2 : z2 = .bool true := hΦ 2 (by decide)
    subst e2
    have e3 : z3 = .slice p 4 c := hΦ 3 (by decide)
    subst e3
    have e4 : z4 = .slice (some ⟨w3.heap.size + 1 + 1 + 1, 0, none⟩) 4 4 := hΦ 4 (by decide)
    subst e4
    have e5 : z5 = .bool true := hΦ 5 (by decide)
    subst e5
    have e6 : z6 = .bool true := hΦ 6 (by decide)
    subst e6
    have e7 : z7 = .bool true := hΦ 7 (by decide)
    subst e7
    have e8 : z8 = .int .i64 0 := hΦ 8 (by decide)
    subst e8
    have e9 : z9 = .bool true := hΦ 9 (by decide)
    subst e9
    have e10 : z10 = .bool true := hΦ 10 (by decide)
    subst e10
    have e11 : z11 = .bool true := hΦ 11 (by decide)
    subst e11
    have e12 : z12 = .int .i64 0 := hΦ 12 (by decide)
    subst e12
    have e13 : z13 = .bool true := hΦ 13 (by decide)
    subst e13
    have e14 : z14 = .bool true := hΦ 14 (by decide)
    subst e14
    have e15 : z15 = .bool true := hΦ 15 (by decide)
    subst e15
    have e16 : z16 = .agg #[.int .i64 4, .int .i64 3, .string { data := #[] }, .int .i64 0, .slice q1 2 c1] := hΦ 16 (by decide)
    subst e16
    have e17 : z17 = .agg #[.int .i64 2, .int .i64 0, sV [97], .int .i64 0, .slice none 0 0] := hΦ 17 (by decide)
    subst e17
    have e18 : z18 = .agg #[.int .i64 2, .int .i64 0, sV [98], .int .i64 0, .slice none 0 0] := hΦ 18 (by decide)
    subst e18
    have e19 : z19 = .agg #[.int .i64 3, .int .i64 1, .string { data := #[] }, .int .i64 0, .slice (some ⟨w3.heap.size + 1, 0, none⟩) 1 1] := hΦ 19 (by decide)
    subst e19
    have p20 : ∃ r, z20 = (binX 5 (namX [98]) awTwo).val r 2 ∧ Ex.At w4 r (binX 5 (namX [98]) awTwo) := hΦ 20 (by decide)
    have p21 : ∃ r, z21 = awE.val r 2 ∧ Ex.At w4 r awE := hΦ 21 (by decide)
    have e22 : z22 = .bool true := hΦ 22 (by decide)
    subst e22
    have e23 : z23 = .bool true := hΦ 23 (by decide)
    subst e23
    have e24 : z24 = .bool true := hΦ 24 (by decide)
    subst e24
    have e25 : z25 = .int .i64 3 := hΦ 25 (by decide)
    subst e25
    have e26 : z26 = .bool true := hΦ 26 (by decide)
    subst e26
    have e27 : z27 = .bool true := hΦ 27 (by decide)
    subst e27
    have e28 : z28 = .bool true := hΦ 28 (by decide)
    subst e28
    have e29 : z29 = .int .i64 6 := hΦ 29 (by decide)
    subst e29
    have e30 : z30 = .bool true := hΦ 30 (by decide)
    subst e30
    have e31 : z31 = .bool true := hΦ 31 (by decide)
    subst e31
    clear hΦ hvs
    simp only [putAll, Act.put, List.setIfInBounds_toArray, List.set_cons_succ, List.set_cons_zero]
    go_wp2
    go_ret
    exact ⟨rfl, Ext.trans HE9.out hG⟩
end Go.Proofs.YtmokejjndkibhaaGreatDoor

namespace Go.Proofs.YtmokejjndkibhaaGreatDoor
open Go.RowKit Ex
set_option linter.unusedVariables false
set_option linter.unusedSimpArgs false

/-- the tokens of a text determine toksR -/
theorem Toks.det {s : List UInt8} {a : Nat} {l : List Tk} {p e : Int} (h : Toks s a l p e) : ∀ {l' : List Tk} {p' e' : Int}, Toks s a l' p' e' → l = l' ∧ p = p' ∧ e = e' := by
  induction h with
  | fin h =>
    intro l' p' e' h'
    cases h' with
    | fin _ => exact ⟨rfl, rfl, rfl⟩
    | bad g _ _ => omega
    | cons g _ _ => omega
    | later g _ _ _ => omega
  | bad h ht he =>
    intro l' p' e' h'
    cases h' with
    | fin _ => omega
    | bad g gt _ => rw [ht] at gt; cases gt; exact ⟨rfl, rfl, rfl⟩
    | cons g gt _ => rw [ht] at gt; cases gt; exact absurd rfl he
    | later g gt _ _ => rw [ht] at gt; cases gt; exact absurd rfl he
  | cons h ht h1 ih =>
    intro l' p' e' h'
    cases h' with
    | fin _ => omega
    | bad g gt ge => rw [ht] at gt; cases gt; exact absurd rfl ge
    | cons g gt g1 => rw [ht] at gt; cases gt; obtain ⟨rfl, _, _⟩ := ih g1; exact ⟨rfl, rfl, rfl⟩
    | later g gt ge g1 => rw [ht] at gt; cases gt; obtain ⟨_, _, h3⟩ := ih g1; exact absurd h3.symm ge
  | later h ht he h1 ih =>
    intro l' p' e' h'
    cases h' with
    | fin _ => omega
    | bad g gt ge => rw [ht] at gt; cases gt; exact absurd rfl ge
    | cons g gt g1 => rw [ht] at gt; cases gt; obtain ⟨_, _, h3⟩ := ih g1; exact absurd h3 he
    | later g gt ge g1 => rw [ht] at gt; cases gt; obtain ⟨_, h2, h3⟩ := ih g1; exact ⟨rfl, h2, h3⟩
theorem Toks.toksR {s : List UInt8} (hs : s.length ≤ 4000) {l : List Tk} {p e : Int} (h : Toks s 0 l p e) : toksR s = (l, p, e) := by
  obtain ⟨h1, h2, h3⟩ := (toksR_toks s hs).det h
  rw [← h1, ← h2, ← h3]

/-- what reading looks at in two tokens is the same -/
def SameK (a b : Tk) : Prop := a.kind = b.kind ∧ a.text = b.text ∧ a.val = b.val
theorem SameK.num {a b : Tk} (h : SameK a b) : numOk a = numOk b := by unfold numOk; rw [h.2.1, h.2.2]
theorem SameK.nam {a b : Tk} (h : SameK a b) : namOk a = namOk b := by unfold namOk; rw [h.2.1]
/-- within l' from d on the tokens are those of l, up to m -/
def Emb (l l' : List Tk) (d m : Nat) : Prop := ∀ i, i < m → ∃ (h : i < l.length) (h' : d + i < l'.length), SameK l[i] l'[d + i]
theorem Emb.sg {l l' : List Tk} {d m k : Nat} (h : Emb l l' d m) (hk : k < m) (x : List UInt8) : sgB l' (d + k) x = sgB l k x := by
  obtain ⟨h1, h2, h3, h4, h5⟩ := h k hk
  rw [sgB_at h1, sgB_at h2, h3, h4]
theorem Emb.op {l l' : List Tk} {d m k : Nat} (h : Emb l l' d m) (hk : k < m) : opAt l' (d + k) = opAt l k := by
  obtain ⟨h1, h2, h3, h4, h5⟩ := h k hk
  rw [opAt_at h1, opAt_at h2, h3, h4]
end Go.Proofs.YtmokejjndkibhaaGreatDoor

namespace Go.Proofs.YtmokejjndkibhaaGreatDoor
set_option linter.unusedVariables false
set_option linter.unusedSimpArgs false
open Ex

/-- the depth behind a byte -/
def nx (d : Nat) (c : UInt8) : Nat := if c = 40 then d + 1 else if c = 41 then d - 1 else d
/-- a text cut at the spaces outside of brackets -/
def sp : Nat → List UInt8 → List UInt8 → List (List UInt8)
  | _, cur, [] => [cur]
  | d, cur, c :: s => if c = 32 ∧ d = 0 then cur :: sp 0 [] s else sp (nx d c) (cur ++ [c]) s
def dep : Nat → List UInt8 → Nat
  | d, [] => d
  | d, c :: s => dep (nx d c) s
theorem dep_app : ∀ (x y : List UInt8) (d : Nat), dep d (x ++ y) = dep (dep d x) y
  | [], y, d => rfl
  | c :: x, y, d => by simp only [List.cons_append, dep]; exact dep_app x y _
theorem sp_step {d : Nat} {cur : List UInt8} {c : UInt8} {s : List UInt8} (h : ¬ (c = 32 ∧ d = 0)) : sp d cur (c :: s) = sp (nx d c) (cur ++ [c]) s := by
  simp only [sp]; rw [if_neg h]
def Safe (x : List UInt8) : Prop := ∀ d cur y, 1 ≤ d → sp d cur (x ++ y) = sp d (cur ++ x) y
def Flat (x : List UInt8) : Prop := ∀ d, dep d x = d
theorem safe_br {x : List UInt8} (h : Safe x) : Safe ([40] ++ x ++ [41]) := fun d cur y hd => by
  have h1 : [40] ++ x ++ [41] ++ y = 40 :: (x ++ 41 :: y) := by simp
  have hc : ¬ ((40 : UInt8) = 32 ∧ d = 0) := by omega
  have hc2 : ¬ ((41 : UInt8) = 32 ∧ d + 1 = 0) := by omega
  rw [h1]
  simp only [sp]
  rw [if_neg hc, show nx d 40 = d + 1 from rfl, h (d + 1) _ _ (by omega)]
  simp only [sp]
  rw [if_neg hc2, show nx (d + 1) 41 = d from rfl]
  simp
theorem flat_br {x : List UInt8} (h : Flat x) : Flat ([40] ++ x ++ [41]) := fun d => by
  rw [dep_app, dep_app]
  show dep (dep (d + 1) x) [41] = d
  rw [h]; rfl
theorem sp_br {x : List UInt8} (h : Safe x) (cur : List UInt8) : sp 0 cur ([40] ++ x ++ [41]) = [cur ++ ([40] ++ x ++ [41])] := by
  have h1 : [40] ++ x ++ [41] = 40 :: (x ++ [41]) := by simp
  rw [h1, sp_step (by decide), show nx 0 40 = 1 from rfl, h 1 _ _ (by omega), sp_step (by decide)]
  simp [sp]

theorem name_bytes {x : List UInt8} (h : isNm x = true) : ∃ c s, x = c :: s ∧ (97 ≤ c.toNat ∧ c.toNat ≤ 122) ∧ ∀ b ∈ x, 48 ≤ b.toNat := by
  unfold isNm at h
  rw [Bool.and_eq_true] at h
  obtain ⟨h1, h2⟩ := h
  have h1 := of_decide_eq_true h1
  have hall : ∀ j, j < x.length → okAt j (x.getD j 0) = true := by
    have : ∀ n, okTo x n = true → ∀ j, j < n → okAt j (x.getD j 0) = true := by
      intro n
      induction n with
      | zero => intro _ j hj; omega
      | succ n ih =>
        intro h j hj
        simp only [okTo, Bool.and_eq_true] at h
        by_cases e : j = n
        · subst e; exact h.2
        · exact ih h.1 j (by omega)
    exact this _ h2
  cases x with
  | nil => simp at h1
  | cons c s =>
    refine ⟨c, s, rfl, ?_, fun b hb => ?_⟩
    · have := hall 0 (by simp)
      simpa [okAt, letter] using this
    · obtain ⟨j, hj, rfl⟩ := List.getElem_of_mem hb
      have := hall j hj
      rw [List.getD_eq_getElem?_getD, List.getElem?_eq_getElem hj] at this
      simp only [Option.getD_some, okAt, letter, other, Bool.or_eq_true, Bool.and_eq_true, decide_eq_true_eq] at this
      omega
/-- what a sign begins with -/
def signOk (w : List UInt8) : Bool := match w with
  | [] => false
  | c :: s => decide (c.toNat < 48 ∨ (57 < c.toNat ∧ c.toNat < 97) ∨ 122 < c.toNat) && decide (c ≠ 40) && (decide (c ≠ 45) || s.isEmpty) && (decide (c ≠ 33) || (s == [61])) && (c :: s).all fun b => decide (b ≠ 40 ∧ b ≠ 41 ∧ b ≠ 32)
theorem sign_ok : ∀ n : Nat, n < 16 → 3 ≤ n → signOk (opOf (n : Int)).sign = true := by decide
theorem sign_inj : ∀ n : Nat, n < 16 → 3 ≤ n → ∀ m : Nat, m < 16 → 3 ≤ m → (opOf (n : Int)).sign = (opOf (m : Int)).sign → n = m := by decide
/-- a text that begins as no sign does -/
def Atom (x : List UInt8) : Prop := ∃ c s, x = c :: s ∧ ((48 ≤ c.toNat ∧ c.toNat ≤ 57) ∨ (97 ≤ c.toNat ∧ c.toNat ≤ 122) ∨ c = 40 ∨ (c = 45 ∧ s ≠ []) ∨ (c = 33 ∧ ∃ b r, s = b :: r ∧ b ≠ 61))
theorem Atom.no_sign {x : List UInt8} (h : Atom x) (n : Nat) (h1 : n < 16) (h2 : 3 ≤ n) : (opOf (n : Int)).sign ≠ x := by
  intro e
  have hs := sign_ok n h1 h2
  rw [e] at hs
  obtain ⟨c, s, rfl, h⟩ := h
  simp only [signOk, Bool.and_eq_true, Bool.or_eq_true, decide_eq_true_eq] at hs
  obtain ⟨⟨⟨⟨g1, g2⟩, g3⟩, g4⟩, _⟩ := hs
  rcases h with h | h | h | ⟨h, h'⟩ | ⟨h, b, r, h', h''⟩
  · omega
  · omega
  · exact g2 h
  · rcases g3 with g | g
    · exact g h
    · exact h' (by simpa using g)
  · rcases g4 with g | g
    · exact g h
    · rw [h'] at g
      simp at g
      exact h'' g.1
/-- every sign among ws binds at least as tightly as k -/
def Lo (k : Int) (ws : List (List UInt8)) : Prop := ∀ w ∈ ws, ∀ n : Nat, n < 16 → 3 ≤ n → (opOf (n : Int)).sign = w → k ≤ (opOf (n : Int)).prec
theorem Lo.atom {x : List UInt8} (h : Atom x) (k : Int) : Lo k [x] := fun w hw n h1 h2 e => by
  obtain rfl := List.mem_singleton.1 hw
  exact absurd e (h.no_sign n h1 h2)
theorem Lo.mono {k k' : Int} {a : List (List UInt8)} (ha : Lo k a) (h : k' ≤ k) : Lo k' a := fun w hw n h1 h2 e => Int.le_trans h (ha w hw n h1 h2 e)
theorem Lo.sign (n : Nat) (h1 : n < 16) (h2 : 3 ≤ n) : Lo (opOf (n : Int)).prec [(opOf (n : Int)).sign] := fun w hw m g1 g2 e => by
  obtain rfl := List.mem_singleton.1 hw
  rw [sign_inj m g1 g2 n h1 h2 e]; exact Int.le_refl _
end Go.Proofs.YtmokejjndkibhaaGreatDoor

namespace Go.Proofs.YtmokejjndkibhaaGreatDoor
set_option linter.unusedVariables false
set_option linter.unusedSimpArgs false
open Ex

/-- what is known of a text that stands in a place that asks for l -/
structure Info (l : Int) (x : List UInt8) : Prop where
  safe : Safe x
  flat : Flat x
  head : ∃ c s, x = c :: s ∧ c ≠ 61
  lo : Lo l (sp 0 [] x)
  one : 6 ≤ l → (∀ cur, sp 0 cur x = [cur ++ x]) ∧ Atom x
theorem Info.put {p : Int} {x : List UInt8} (h : Info p x) (l : Int) : Info l (brk l p x) := by
  unfold brk
  by_cases hp : p < l
  · rw [if_pos hp]
    have ha : Atom ([40] ++ x ++ [41]) := ⟨40, x ++ [41], by simp, .inr (.inr (.inl rfl))⟩
    exact ⟨safe_br h.safe, flat_br h.flat, ⟨40, x ++ [41], by simp, by decide⟩, by rw [sp_br h.safe, List.nil_append]; exact Lo.atom ha l, fun _ => ⟨sp_br h.safe, ha⟩⟩
  · rw [if_neg hp]
    exact ⟨h.safe, h.flat, h.head, h.lo.mono (by omega), fun h6 => h.one (by omega)⟩
end Go.Proofs.YtmokejjndkibhaaGreatDoor

namespace Go.Proofs.YtmokejjndkibhaaGreatDoor
open Go.RowKit Ex
set_option linter.unusedVariables false
set_option linter.unusedSimpArgs false

theorem nm_all {x : List UInt8} (h : isNm x = true) : x.length ≤ 30 ∧ (∀ c ∈ x, insC c = true) ∧ ∃ c s, x = c :: s ∧ letB c = true := by
  obtain ⟨c, s, hx, hc, _⟩ := name_bytes h
  unfold isNm at h
  rw [Bool.and_eq_true] at h
  obtain ⟨h1, h2⟩ := h
  have h1 := of_decide_eq_true h1
  have hall : ∀ j, j < x.length → okAt j (x.getD j 0) = true := by
    intro j hj
    cases hok : okAt j (x.getD j 0) with
    | true => rfl
    | false => rw [okTo_no x j hok x.length hj] at h2; cases h2
  refine ⟨h1.2, fun b hb => ?_, c, s, hx, by unfold letB; simp; omega⟩
  obtain ⟨j, hj, rfl⟩ := List.getElem_of_mem hb
  have := hall j hj
  rw [show x.getD j 0 = x[j] by simp [hj]] at this
  unfold okAt letter other at this
  unfold insC letB digB
  simp only [Bool.or_eq_true, Bool.and_eq_true, decide_eq_true_eq] at this ⊢
  rcases this with h | ⟨_, h | h⟩
  · exact .inl (.inl h)
  · exact .inl (.inr h)
  · exact .inr h
def stT (t : Tk) : Tk := { t with pos := 0 }
/-- from a to b the tokens of X are ts -/
def LexAt (X : List UInt8) (a : Nat) (ts : List Tk) (b : Nat) : Prop := ∀ l, Toks X b l 0 0 → ∃ ts', ts'.map stT = ts ∧ Toks X a (ts' ++ l) 0 0
theorem LexAt.trans {X : List UInt8} {a b c : Nat} {t u : List Tk} (h : LexAt X a t b) (g : LexAt X b u c) : LexAt X a (t ++ u) c := fun l hl => by
  obtain ⟨u', hu, h1⟩ := g l hl
  obtain ⟨t', ht, h2⟩ := h _ h1
  exact ⟨t' ++ u', by rw [List.map_append, ht, hu], by rw [List.append_assoc]; exact h2⟩
/-- brackets among tokens -/
def tkB (limit p : Int) (ts : List Tk) : List Tk := if p < limit then ⟨3, [40], 0, 0⟩ :: (ts ++ [⟨3, [41], 0, 0⟩]) else ts
end Go.Proofs.YtmokejjndkibhaaGreatDoor

namespace Go.Proofs.YtmokejjndkibhaaGreatDoor
open Go.RowKit Ex
set_option linter.unusedVariables false
set_option linter.unusedSimpArgs false

theorem Emb.left {t u L : List Tk} {d : Nat} (h : Emb (t ++ u) L d (t ++ u).length) : Emb t L d t.length := fun i hi => by
  obtain ⟨h1, h2, h3⟩ := h i (by simp; omega)
  exact ⟨hi, h2, by rw [List.getElem_append_left hi] at h3; exact h3⟩
theorem Emb.right {t u L : List Tk} {d : Nat} (h : Emb (t ++ u) L d (t ++ u).length) : Emb u L (d + t.length) u.length := fun i hi => by
  obtain ⟨h1, h2, h3⟩ := h (t.length + i) (by simp; omega)
  refine ⟨hi, by omega, ?_⟩
  rw [List.getElem_append_right (by omega)] at h3
  simp only [show t.length + i - t.length = i by omega, show d + (t.length + i) = d + t.length + i by omega] at h3
  exact h3
theorem Emb.one {k v p : Int} {x : List UInt8} {L : List Tk} {d : Nat} (h : Emb [⟨k, x, v, p⟩] L d 1) : ∃ hd : d < L.length, L[d].kind = k ∧ L[d].text = x ∧ L[d].val = v := by
  obtain ⟨_, h2, h3, h4, h5⟩ := h 0 (by omega)
  exact ⟨h2, h3.symm, h4.symm, h5.symm⟩
theorem Emb.sign {x : List UInt8} {p : Int} {L : List Tk} {d : Nat} (h : Emb [⟨3, x, 0, p⟩] L d 1) : sgB L d x = true ∧ opAt L d = lxF x := by
  obtain ⟨h1, h2, h3, _⟩ := h.one
  exact ⟨by rw [sgB_at h1]; simp [h2, h3], by rw [opAt_at h1, if_pos h2, h3]⟩
/-- what follows is no operator of these precedences -/
def NoOp (L : List Tk) (j a b : Nat) : Prop := ∀ q, a ≤ q → q < b → (opAt L j).2 ≠ ((q : Nat) : Int)
theorem NoOp.mono {L : List Tk} {j a b a' b' : Nat} (h : NoOp L j a b) (h1 : a ≤ a') (h2 : b' ≤ b) : NoOp L j a' b' := fun q g1 g2 => h q (by omega) (by omega)
/-- e reads at every precedence that its own allows; and what a loop goes on with -/
structure Reads (L : List Tk) (d : Nat) (e : Ex) (len : Nat) (pr : Int) : Prop where
  at_ : ∀ p : Nat, 1 ≤ p → (p : Int) ≤ pr → p ≤ 6 → NoOp L (d + len) p 6 → Rd L (.bin p) d (.ok e (d + len))
  on : ∀ p : Nat, 1 ≤ p → p ≤ 5 → (p : Int) ≤ pr → (p ≠ 3 ∨ (p : Int) < pr) → NoOp L (d + len) (p + 1) 6 → ∀ r, Rd L (.loop p e) (d + len) r → Rd L (.bin p) d r
theorem Reads.of_opd {L : List Tk} {d : Nat} {e : Ex} {len : Nat} {pr : Int} (h : Rd L .opd d (.ok e (d + len))) : Reads L d e len pr :=
  ⟨fun p h1 h2 h3 hn => Rd.opd h3 h hn, fun p h1 h2 h3 _ hn r hr => .bin h2 (Rd.opd (by omega) h hn) hr⟩
/-- in brackets or not -/
theorem Reads.brk {L : List Tk} {d : Nat} {e : Ex} {ts : List Tk} {pr limit : Int} (hl : limit ≤ 6) (hE : Emb (tkB limit pr ts) L d (tkB limit pr ts).length) (hpr : 1 ≤ pr) (ih : ∀ d, Emb ts L d ts.length → Reads L d e ts.length pr) : Reads L d e (tkB limit pr ts).length limit := by
  unfold tkB at *
  by_cases hp : pr < limit
  · rw [if_pos hp] at *
    have e1 : (⟨3, [40], 0, 0⟩ :: (ts ++ [⟨3, [41], 0, 0⟩]) : List Tk) = [⟨3, [40], 0, 0⟩] ++ (ts ++ [⟨3, [41], 0, 0⟩]) := rfl
    rw [e1] at hE
    have g1 := hE.left.sign
    have g2 := hE.right
    have g3 := g2.left
    have g4 := g2.right.sign
    have hr := (ih _ g3).at_ 1 (by omega) (by omega) (by omega) (fun q h1 h2 => by rw [g4.2]; show (0 : Int) ≠ _; omega)
    have ho : Rd L .opd d (.ok e (d + 1 + ts.length + 1)) := .par g1.1 hr g4.1
    have el : d + 1 + ts.length + 1 = d + (⟨3, [40], 0, 0⟩ :: (ts ++ [⟨3, [41], 0, 0⟩]) : List Tk).length := by simp; omega
    rw [el] at ho
    exact Reads.of_opd ho
  · rw [if_neg hp] at *
    have h := ih _ hE
    exact ⟨fun p h1 h2 h3 hn => h.at_ p h1 (by omega) h3 hn, fun p h1 h2 h3 h4 hn r hr => h.on p h1 h2 (by omega) (by omega) hn r hr⟩
end Go.Proofs.YtmokejjndkibhaaGreatDoor

namespace Go.Proofs.YtmokejjndkibhaaGreatDoor
open Go.RowKit Ex
set_option linter.unusedVariables false
set_option linter.unusedSimpArgs false

end Go.Proofs.YtmokejjndkibhaaGreatDoor

