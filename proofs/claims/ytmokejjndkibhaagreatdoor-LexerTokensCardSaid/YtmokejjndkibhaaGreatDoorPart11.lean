/- Lemmas and walks for the statements of this seat, part 11, merged from smaller texts: Reading: an expression of a higher precedence; what the law's examples read as.; The law's expressions; awake.; Tokens of a text behind which a line feed follows; reading within other tokens: plain.; Plain: different valid expressions have different texts.; Plain: different valid expressions have different texts, the proof.; The tokens of the text of a valid expression: plain.; Reading the tokens of a printed text: plain.; Parsing the text of a valid expression yields the expression: plain. -/
import Derived.Test.YtmokejjndkibhaaGreatDoorPart10
import Derived.Test.YtmokejjndkibhaaGreatDoorPart7
import Derived.Test.YtmokejjndkibhaaGreatDoorPart4
import Derived.Test.YtmokejjndkibhaaGreatDoorPart5
import Derived.Test.YtmokejjndkibhaaGreatDoorPart3

namespace Go.Proofs.YtmokejjndkibhaaGreatDoor
open Go.RowKit Ex
set_option linter.unusedVariables false
set_option linter.unusedSimpArgs false

/-- what reads at a precedence reads at a lower one, if no operator of a precedence between them follows -/
theorem Rd.lift {l : List Tk} {k j : Nat} {e : Ex} : ∀ (n p : Nat), p + n ≤ 6 → Rd l (.bin (p + n)) k (.ok e j) → (∀ q, p ≤ q → q < p + n → (opAt l j).2 ≠ ((q : Nat) : Int)) → Rd l (.bin p) k (.ok e j)
  | 0, p, _, h, _ => h
  | n + 1, p, hp, h, ho => Rd.lift n p (by omega) (.bin (by omega) h (.fin (ho (p + n) (by omega) (by omega)))) (fun q h1 h2 => ho q h1 (by omega))
theorem Rd.opd {l : List Tk} {k j p : Nat} {e : Ex} (hp : p ≤ 6) (h : Rd l .opd k (.ok e j)) (ho : ∀ q, p ≤ q → q < 6 → (opAt l j).2 ≠ ((q : Nat) : Int)) : Rd l (.bin p) k (.ok e j) := by
  have h6 : Rd l (.bin (p + (6 - p))) k (.ok e j) := by rw [show p + (6 - p) = 6 by omega]; exact .six (Nat.le_refl _) h
  exact Rd.lift (6 - p) p (by omega) h6 (fun q h1 h2 => ho q h1 (by omega))
/-- no operator follows -/
theorem no_op {l : List Tk} {j p m : Nat} (hp : 1 ≤ p) (h : (opAt l j).2 = 0) : ∀ q, p ≤ q → q < m → (opAt l j).2 ≠ ((q : Nat) : Int) := fun q h1 h2 e => by rw [h] at e; omega
/-- operators of a lower precedence follow -/
theorem low_op {l : List Tk} {j p m : Nat} {x : Nat} (h : (opAt l j).2 = (x : Int)) (hx : x < p) : ∀ q, p ≤ q → q < m → (opAt l j).2 ≠ ((q : Nat) : Int) := fun q h1 h2 e => by rw [h] at e; omega

theorem bad_lift {l : List Tk} {k j : Nat} : ∀ (n p : Nat), p + n ≤ 6 → Rd l (.bin (p + n)) k (.bad j) → Rd l (.bin p) k (.bad j)
  | 0, p, _, h => h
  | n + 1, p, hp, h => bad_lift n p (by omega) (.binB (by omega) h)

mutual
theorem eqX_self : ∀ e : Ex, eqE e e = true
  | .mk k o n v ts => by
    have := eqXL_self ts
    simp [eqE_def, Ex.args, this]
theorem eqXL_self : ∀ es : List Ex, eqL es es = true
  | [] => by simp [eqL]
  | e :: es => by simp [eqL, eqX_self e, eqXL_self es]
end

def awS1 : List UInt8 := [120, 60, 61, 49, 48, 32, 35, 32, 101, 110, 100]
def awS2 : List UInt8 := [97, 32, 43, 32, 98, 32, 42, 32, 45, 50]
def awS3 : List UInt8 := [97, 32, 60, 32, 98, 32, 60, 32, 99]
def awL1 : List Tk := [⟨1, [120], 0, 0⟩, ⟨3, [60, 61], 0, 1⟩, ⟨2, [49, 48], 10, 3⟩, ⟨0, [], 0, 11⟩]
def awL2 : List Tk := [⟨1, [97], 0, 0⟩, ⟨3, [43], 0, 2⟩, ⟨1, [98], 0, 4⟩, ⟨3, [42], 0, 6⟩, ⟨3, [45], 0, 8⟩, ⟨2, [50], 2, 9⟩, ⟨0, [], 0, 10⟩]
def awL3 : List Tk := [⟨1, [97], 0, 0⟩, ⟨3, [60], 0, 2⟩, ⟨1, [98], 0, 4⟩, ⟨3, [60], 0, 6⟩, ⟨1, [99], 0, 8⟩, ⟨0, [], 0, 9⟩]
theorem aw1 : toksR awS1 = (awL1, 0, 0) := by decide +kernel
theorem aw2 : toksR awS2 = (awL2, 0, 0) := by decide +kernel
theorem aw3 : toksR awS3 = (awL3, 0, 0) := by decide +kernel
abbrev awTwo : Ex := unX 1 (numX 2)
abbrev awE : Ex := binX 3 (namX [97]) (binX 5 (namX [98]) awTwo)
abbrev awF : Ex := binX 10 (namX [97]) (namX [98])
theorem num_two (p : Int) : numOk ⟨2, [50], 2, p⟩ = true := by
  have : Lib.decDigits 2 = [50] := by rw [Lib.decDigits_one (by decide)]; decide
  unfold numOk
  simp [this]
theorem aw2_rd : Rd awL2 (.bin 1) 0 (.ok awE 6) := by
  have ha : Rd awL2 .opd 0 (.ok (namX [97]) 1) := .nam (by decide) rfl (by decide)
  have hb : Rd awL2 .opd 2 (.ok (namX [98]) 3) := .nam (by decide) rfl (by decide)
  have h2 : Rd awL2 .opd 4 (.ok awTwo 6) := .neg (by decide) (.num (k := 5) (by decide) rfl (num_two _))
  have o1 : opAt awL2 1 = (3, 4) := by decide
  have o3 : opAt awL2 3 = (5, 5) := by decide
  have o6 : opAt awL2 6 = (0, 0) := by decide
  have h5 : Rd awL2 (.bin 5) 2 (.ok (binX 5 (namX [98]) awTwo) 6) := .bin (by decide) (.six (by decide) hb) (.more (p := 5) (by decide) (by rw [o3]; rfl) (.six (by decide) h2) (by rw [o3]; exact .fin (by rw [o6]; decide)))
  have h4 : Rd awL2 (.bin 4) 0 (.ok awE 6) := .bin (by decide) (Rd.opd (by decide) ha (low_op (x := 4) (by rw [o1]; rfl) (by decide))) (.more (p := 4) (by decide) (by rw [o1]; rfl) h5 (by rw [o1]; exact .fin (by rw [o6]; decide)))
  exact Rd.lift 3 1 (by decide) h4 (no_op (by decide) (by rw [o6]))
theorem aw3_rd : Rd awL3 (.bin 1) 0 (.ok awF 3) := by
  have ha : Rd awL3 .opd 0 (.ok (namX [97]) 1) := .nam (by decide) rfl (by decide)
  have hb : Rd awL3 .opd 2 (.ok (namX [98]) 3) := .nam (by decide) rfl (by decide)
  have o1 : opAt awL3 1 = (10, 3) := by decide
  have o3 : opAt awL3 3 = (10, 3) := by decide
  have h3 : Rd awL3 (.bin 3) 0 (.ok awF 3) := .bin (by decide) (Rd.opd (by decide) ha (low_op (x := 3) (by rw [o1]; rfl) (by decide))) (by
    have := Rd.three (l := awL3) (p := 3) (k := 1) (e := namX [97]) (f := namX [98]) (j := 3) rfl (by rw [o1]; rfl) (Rd.opd (by decide) hb (low_op (x := 3) (by rw [o3]; rfl) (by decide)))
    rw [o1] at this
    exact this)
  exact Rd.lift 2 1 (by decide) h3 (fun q h1 h2 => by rw [o3]; show (3 : Int) ≠ _; omega)
theorem awE_chk : awE.chk = 0 := by decide +kernel
theorem aw2_ps : psR awS2 (.ok awE 6) = (awE, 0, 0) := by
  unfold psR
  rw [aw2]
  simp [psL, awL2, awE_chk]
theorem aw3_ps : psR awS3 (.ok awF 3) = (exZ, 6, 3) := by
  unfold psR
  rw [aw3]
  simp [psL, awL3]
end Go.Proofs.YtmokejjndkibhaaGreatDoor

namespace Go.Proofs.YtmokejjndkibhaaGreatDoor
open Go.RowKit Go.Shelf Ex
set_option linter.unusedVariables false
set_option linter.unusedSimpArgs false

theorem GoesG.callG {P : Program} {l : List Oper} {R : World → World → Prop} {Φ : Nat → (Nat → Value) → World → Prop} {i : Nat} {o : Oper} {a' : Act} {W : World} {Q : Exit → Act → World → Prop} (f : FuncId) (args : Array Value) (j : Nat) (g b : Bool) (hg : o.guard = some (j, g)) (hv : sv l a' j = .bool b) (hbg : (b == g) = true) (hrun : (execOp a'.eval o).run P W = .ok (.enter f args) W)
    (hc : Calls P f args W fun e W' => ∃ v, e = .returned v ∧ R W W' ∧ ∀ s : Nat → Value, (o.dst.isSome = true → s i = v) → (∀ k, k ≠ i → ancB l l.length i k = true → s k = sv l a' k) → Φ i s W') : GoesG P l R Φ i o a' W Q := by
  unfold GoesG
  rw [if_pos (by rw [wanted_of hg hv, hbg])]
  unfold Oper.wp
  rw [hrun]
  exact hc.mono fun e W' ⟨v, he, hR, hΦ⟩ => by subst he; exact ⟨v, rfl, hR, hΦ⟩

abbrev namV (s : List UInt8) : Value := .agg #[.int .i64 2, .int .i64 0, sV s, .int .i64 0, .slice none 0 0]
set_option maxHeartbeats 1000000 in
theorem lawName_any (s : List UInt8) (w : World) : Gives Tryz.prog 33 #[sV s] w (namV s) := by
  unfold Gives
  have hE : Ext w (w.alloc (.cells #[.int .i64 2, .int .i64 0, sV s, .int .i64 0, .slice none 0 0] 25)) := ext_alloc _ _
  have hb := alloc_here w (.cells #[.int .i64 2, .int .i64 0, sV s, .int .i64 0, .slice none 0 0] 25)
  have HB := Lib.hid hb
  have HE := Lib.hid hE
  clear hE hb
  go_enter Tryz.func33, Tryz.ntmps33
  go_wp2
  have z0 := cell_of (i := 0) HB.out rfl
  have z1 := cell_of (i := 1) HB.out rfl
  have z2 := cell_of (i := 2) HB.out rfl
  have z3 := cell_of (i := 3) HB.out rfl
  have z4 := cell_of (i := 4) HB.out rfl
  exact bodyPost_ret (v := .agg #[.int .i64 2, .int .i64 0, sV s, .int .i64 0, .slice none 0 0]) (by simp [results, Tryz.f33, go_sem, z0, z1, z2, z3, z4]) rfl ⟨rfl, HE.out⟩
theorem Ex.At.toT {w : World} {p : Option Addr} {e : Ex} (h : Ex.At w p e) : AtB (fun _ => True) w p e := h.toB.imp (fun _ _ _ => trivial)
set_option maxRecDepth 100000 in
set_option maxHeartbeats 2000000 in
theorem lawBin_any (op : Int) (h0 : 0 ≤ op) (h1 : op ≤ 100) (a b : Ex) (p q : Option Addr) (c d : Nat) (w : World) (hA : Ex.At w p a) (hB : Ex.At w q b) :
    Calls Tryz.prog 32 #[.int .i64 op, a.val p c, b.val q d] w fun e w' => ∃ r, e = .returned ((binX op a b).val r 2) ∧ Ex.At w' r (binX op a b) ∧ Ext w w' := by
  have HA := Lib.hid hA
  have HB := Lib.hid hB
  clear hA hB
  obtain ⟨k1, o1, n1, v1, ts⟩ := a
  obtain ⟨k2, o2, n2, v2, us⟩ := b
  dsimp only [Ex.val, Ex.kind, Ex.op, Ex.name, Ex.value, Ex.args]
  obtain ⟨m1, hm1⟩ : ∃ m, ts.length = m := ⟨_, rfl⟩
  obtain ⟨m2, hm2⟩ : ∃ m, us.length = m := ⟨_, rfl⟩
  rw [hm1, hm2]
  have HM1 := Lib.hid hm1
  have HM2 := Lib.hid hm2
  clear hm1 hm2
  have HX := Lib.hid (show Ext w ((((w.alloc (.cells #[.int .i64 k1, .int .i64 o1, sV n1, .int .i64 v1, .slice p m1 c] 25)).alloc (.cells #[.int .i64 k2, .int .i64 o2, sV n2, .int .i64 v2, .slice q m2 d] 25)).alloc (.cells #[.int .i64 4, .int .i64 op, .string { data := #[] }, .int .i64 0, .slice (some ⟨w.heap.size + 3, 0, none⟩) 2 2] 25)).alloc (.cells #[.int .i64 k1, .int .i64 o1, sV n1, .int .i64 v1, .slice p m1 c, .int .i64 k2, .int .i64 o2, sV n2, .int .i64 v2, .slice q m2 d] 25)) from ((((Below.refl _ w).alloc (Nat.le_refl _) _).alloc (by simp) _).alloc (by simp; omega) _).alloc (by simp; omega) _)
  have HR := Lib.hid (show ((((w.alloc (.cells #[.int .i64 k1, .int .i64 o1, sV n1, .int .i64 v1, .slice p m1 c] 25)).alloc (.cells #[.int .i64 k2, .int .i64 o2, sV n2, .int .i64 v2, .slice q m2 d] 25)).alloc (.cells #[.int .i64 4, .int .i64 op, .string { data := #[] }, .int .i64 0, .slice (some ⟨w.heap.size + 3, 0, none⟩) 2 2] 25)).alloc (.cells #[.int .i64 k1, .int .i64 o1, sV n1, .int .i64 v1, .slice p m1 c, .int .i64 k2, .int .i64 o2, sV n2, .int .i64 v2, .slice q m2 d] 25)).heap[w.heap.size + 3]? = some (.cells #[.int .i64 k1, .int .i64 o1, sV n1, .int .i64 v1, .slice p m1 c, .int .i64 k2, .int .i64 o2, sV n2, .int .i64 v2, .slice q m2 d] 25) from by
    have := alloc_here (((w.alloc (.cells #[.int .i64 k1, .int .i64 o1, sV n1, .int .i64 v1, .slice p m1 c] 25)).alloc (.cells #[.int .i64 k2, .int .i64 o2, sV n2, .int .i64 v2, .slice q m2 d] 25)).alloc (.cells #[.int .i64 4, .int .i64 op, .string { data := #[] }, .int .i64 0, .slice (some ⟨w.heap.size + 3, 0, none⟩) 2 2] 25)) (.cells #[.int .i64 k1, .int .i64 o1, sV n1, .int .i64 v1, .slice p m1 c, .int .i64 k2, .int .i64 o2, sV n2, .int .i64 v2, .slice q m2 d] 25)
    rw [World.size_alloc, World.size_alloc, World.size_alloc] at this; exact this)
  have HZ := Lib.hid (show ((((w.alloc (.cells #[.int .i64 k1, .int .i64 o1, sV n1, .int .i64 v1, .slice p m1 c] 25)).alloc (.cells #[.int .i64 k2, .int .i64 o2, sV n2, .int .i64 v2, .slice q m2 d] 25)).alloc (.cells #[.int .i64 4, .int .i64 op, .string { data := #[] }, .int .i64 0, .slice (some ⟨w.heap.size + 3, 0, none⟩) 2 2] 25)).alloc (.cells #[.int .i64 k1, .int .i64 o1, sV n1, .int .i64 v1, .slice p m1 c, .int .i64 k2, .int .i64 o2, sV n2, .int .i64 v2, .slice q m2 d] 25)).heap[w.heap.size + 2]? = some (.cells #[.int .i64 4, .int .i64 op, .string { data := #[] }, .int .i64 0, .slice (some ⟨w.heap.size + 3, 0, none⟩) 2 2] 25) from by
    rw [Below.heap_alloc _ _ _ (by rw [World.size_alloc, World.size_alloc, World.size_alloc]; omega)]
    have := alloc_here ((w.alloc (.cells #[.int .i64 k1, .int .i64 o1, sV n1, .int .i64 v1, .slice p m1 c] 25)).alloc (.cells #[.int .i64 k2, .int .i64 o2, sV n2, .int .i64 v2, .slice q m2 d] 25)) (.cells #[.int .i64 4, .int .i64 op, .string { data := #[] }, .int .i64 0, .slice (some ⟨w.heap.size + 3, 0, none⟩) 2 2] 25)
    rw [World.size_alloc, World.size_alloc] at this; exact this)
  go_enter Tryz.func32, Tryz.ntmps32
  go_wp2
  have z0 := cell_of (i := 0) HZ.out rfl
  have z1 := cell_of (i := 1) HZ.out rfl
  have z2 := cell_of (i := 2) HZ.out rfl
  have z3 := cell_of (i := 3) HZ.out rfl
  have z4 := cell_of (i := 4) HZ.out rfl
  generalize ((((w.alloc (.cells #[.int .i64 k1, .int .i64 o1, sV n1, .int .i64 v1, .slice p m1 c] 25)).alloc (.cells #[.int .i64 k2, .int .i64 o2, sV n2, .int .i64 v2, .slice q m2 d] 25)).alloc (.cells #[.int .i64 4, .int .i64 op, .string { data := #[] }, .int .i64 0, .slice (some ⟨w.heap.size + 3, 0, none⟩) 2 2] 25)).alloc (.cells #[.int .i64 k1, .int .i64 o1, sV n1, .int .i64 v1, .slice p m1 c, .int .i64 k2, .int .i64 o2, sV n2, .int .i64 v2, .slice q m2 d] 25)) = X at *
  exact bodyPost_ret (v := .agg #[.int .i64 4, .int .i64 op, .string { data := #[] }, .int .i64 0, .slice (some ⟨w.heap.size + 3, 0, none⟩) 2 2]) (by simp [results, Tryz.f32, go_sem, z0, z1, z2, z3, z4]) rfl ⟨some ⟨w.heap.size + 3, 0, none⟩, by first | rfl | (rw [sB_nil]; rfl), (at_bin h0 h1 (by rw [HR.out, ← HM1.out, ← HM2.out]; rfl) trivial (HA.out.below HX.out).toT (HB.out.below HX.out).toT).at, HX.out⟩
set_option maxRecDepth 100000 in
set_option maxHeartbeats 8000000 in
theorem lxAwake_any (w : World) (hTab : TabW w) (hM : MaxL w) : Gives Tryz.prog 10 #[] w (.bool true) := by
  unfold Gives
  have KT := Lib.hid (by have := Tokens_any awS1 w (by decide); rw [aw1] at this; exact this : Calls Tryz.prog 14 #[.string { data := #[120, 60, 61, 49, 48, 32, 35, 32, 101, 110, 100] }] w fun e w' => ∃ v, e = .returned (.tuple #[v, .int .i64 0, .int .i64 0]) ∧ RowT w.heap.size v awL1 w' ∧ Ext w w')
  have KP1 := Lib.hid (fun W (hW : Ext w W) => (by
    have := Parse_any awS2 W (by decide) (hTab.below hW) (hM.ext hW) (.ok awE 6) (fun _ => by rw [aw2]; exact aw2_rd)
    rw [aw2_ps] at this; exact this : Calls Tryz.prog 11 #[.string { data := #[97, 32, 43, 32, 98, 32, 42, 32, 45, 50] }] W fun e w' => ∃ q cc, e = .returned (.tuple #[.agg #[.int .i64 4, .int .i64 3, .string { data := #[] }, .int .i64 0, .slice q 2 cc], .int .i64 0, .int .i64 0]) ∧ AtB (W.heap.size ≤ ·) w' q awE ∧ Ext W w'))
  have KP2 := Lib.hid (fun W (hW : Ext w W) => (by
    have := Parse_any awS3 W (by decide) (hTab.below hW) (hM.ext hW) (.ok awF 3) (fun _ => by rw [aw3]; exact aw3_rd)
    rw [aw3_ps] at this; exact this : Calls Tryz.prog 11 #[.string { data := #[97, 32, 60, 32, 98, 32, 60, 32, 99] }] W fun e w' => ∃ q cc, e = .returned (.tuple #[.agg #[.int .i64 0, .int .i64 0, .string { data := #[] }, .int .i64 0, .slice q 0 cc], .int .i64 6, .int .i64 3]) ∧ AtB (W.heap.size ≤ ·) w' q exZ ∧ Ext W w'))
  clear hTab hM
  go_enter Tryz.func10, Tryz.ntmps10
  go_wp2_with fail
  refine (show Calls _ _ _ _ _ from KT.out).mono ?_
  rintro _ w1 ⟨v, rfl, hrow, hE1⟩
  dsimp only
  obtain ⟨p, c, rfl, htr, hlc⟩ := hrow.at
  have HT := Lib.hid htr
  have HE1 := Lib.hid hE1
  clear hrow htr hE1
  have hlen : awL1.length = 4 := rfl
  rw [hlen]
  clear hlen hlc
  go_wp2_with fail
  refine (KP1.out _ HE1.out).mono ?_
  rintro _ w2 ⟨q1, c1, rfl, hA1, hE2⟩
  dsimp only
  have HA1 := Lib.hid hA1
  have HE2 := Lib.hid hE2
  clear hA1 hE2
  have HE3 := Lib.hid (ext_alloc w2 (.cells #[.int .i64 4, .int .i64 3, .string { data := #[] }, .int .i64 0, .slice q1 2 c1] 25))
  have HB3 := Lib.hid (alloc_here w2 (.cells #[.int .i64 4, .int .i64 3, .string { data := #[] }, .int .i64 0, .slice q1 2 c1] 25))
  go_wp2_with fail
  refine (KP2.out _ (Ext.trans HE1.out (Ext.trans HE2.out HE3.out))).mono ?_
  rintro _ w3 ⟨q2, c2, rfl, hA2, hE4⟩
  dsimp only
  have HE4 := Lib.hid (Ext.trans HE3.out hE4)
  have HB4 := Lib.hid ((hE4.below.block _ (lt_of_block HB3.out)).trans HB3.out)
  clear hA2 hE4
  go_upto_region 6 with fail
  obtain ⟨w9, hw9⟩ : ∃ W, (((w3.alloc (.cells #[.int .i64 0, .int .i64 0, .string { data := #[] }, .int .i64 0, .slice q2 0 c2] 25)).alloc (.cells #[.int .i64 1, .int .i64 0, .string { data := #[] }, .int .i64 2, .slice none 0 0] 25)).alloc (.cells #[.int .i64 3, .int .i64 1, .string { data := #[] }, .int .i64 0, .slice (some ⟨w3.heap.size + 1, 0, none⟩) 1 1] 25)).alloc (.cells #[.int .i64 1, .string { data := #[120] }, .int .i64 0, .int .i64 0, .int .i64 3, .string { data := #[60, 61] }, .int .i64 0, .int .i64 1, .int .i64 2, .string { data := #[49, 48] }, .int .i64 10, .int .i64 3, .int .i64 0, .string { data := #[] }, .int .i64 0, .int .i64 11] 36) = W := ⟨_, rfl⟩
  rw [hw9]
  have hE9 : Ext w3 w9 := by rw [← hw9]; exact ((((Below.refl _ w3).alloc (Nat.le_refl _) _).alloc (by simp) _).alloc (by simp; omega) _).alloc (by simp; omega) _
  have hk := alloc_here (((w3.alloc (.cells #[.int .i64 0, .int .i64 0, .string { data := #[] }, .int .i64 0, .slice q2 0 c2] 25)).alloc (.cells #[.int .i64 1, .int .i64 0, .string { data := #[] }, .int .i64 2, .slice none 0 0] 25)).alloc (.cells #[.int .i64 3, .int .i64 1, .string { data := #[] }, .int .i64 0, .slice (some ⟨w3.heap.size + 1, 0, none⟩) 1 1] 25)) (.cells #[.int .i64 1, .string { data := #[120] }, .int .i64 0, .int .i64 0, .int .i64 3, .string { data := #[60, 61] }, .int .i64 0, .int .i64 1, .int .i64 2, .string { data := #[49, 48] }, .int .i64 10, .int .i64 3, .int .i64 0, .string { data := #[] }, .int .i64 0, .int .i64 11] 36)
  rw [hw9, World.size_alloc, World.size_alloc, World.size_alloc] at hk
  have h2 : w9.heap[w3.heap.size + 1 + 1]? = some (.cells #[.int .i64 3, .int .i64 1, .string { data := #[] }, .int .i64 0, .slice (some ⟨w3.heap.size + 1, 0, none⟩) 1 1] 25 (0, 0)) := by
    rw [← hw9, Below.heap_alloc _ _ _ (by rw [World.size_alloc, World.size_alloc, World.size_alloc]; omega)]
    have := alloc_here ((w3.alloc (.cells #[.int .i64 0, .int .i64 0, .string { data := #[] }, .int .i64 0, .slice q2 0 c2] 25)).alloc (.cells #[.int .i64 1, .int .i64 0, .string { data := #[] }, .int .i64 2, .slice none 0 0] 25)) (.cells #[.int .i64 3, .int .i64 1, .string { data := #[] }, .int .i64 0, .slice (some ⟨w3.heap.size + 1, 0, none⟩) 1 1] 25)
    rw [World.size_alloc, World.size_alloc] at this; exact this
  have h1 : w9.heap[w3.heap.size + 1]? = some (.cells #[.int .i64 1, .int .i64 0, .string { data := #[] }, .int .i64 2, .slice none 0 0] 25 (0, 0)) := by
    rw [← hw9, Below.heap_alloc _ _ _ (by rw [World.size_alloc, World.size_alloc, World.size_alloc]; omega), Below.heap_alloc _ _ _ (by rw [World.size_alloc, World.size_alloc]; omega)]
    have := alloc_here (w3.alloc (.cells #[.int .i64 0, .int .i64 0, .string { data := #[] }, .int .i64 0, .slice q2 0 c2] 25)) (.cells #[.int .i64 1, .int .i64 0, .string { data := #[] }, .int .i64 2, .slice none 0 0] 25)
    rw [World.size_alloc] at this; exact this
  have HB9 := Lib.hid ((hE9.below.block _ (lt_of_block HB4.out)).trans HB4.out)
  have HC9 := Lib.hid h2
  have HTW := Lib.hid (show Ex.At w9 (some ⟨w3.heap.size + 1, 0, none⟩) awTwo from (at_un (S := fun _ => True) (e := numX 2) (q := none) (cc := 0) (by decide) h1 trivial (AtB_leaf _ _ _ (fits_num 2 (by decide) (by decide)))).at)
  have HTK := Lib.hid (show TkRow w9 (some ⟨w3.heap.size + 1 + 1 + 1, 0, none⟩) awL1 from fun i hi => by
    have hi4 : i < 4 := hi
    refine ⟨_, 0, rfl, ?_⟩
    match i, hi4 with
    | 0, _ => exact ⟨cell_of hk rfl, cell_of hk rfl, cell_of hk rfl, cell_of hk rfl⟩
    | 1, _ => exact ⟨cell_of hk rfl, cell_of hk rfl, cell_of hk rfl, cell_of hk rfl⟩
    | 2, _ => exact ⟨cell_of hk rfl, cell_of hk rfl, cell_of hk rfl, cell_of hk rfl⟩
    | 3, _ => exact ⟨cell_of hk rfl, cell_of hk rfl, cell_of hk rfl, cell_of hk rfl⟩)
  have HE9 := Lib.hid (Ext.trans HE1.out (Ext.trans HE2.out (Ext.trans HE4.out hE9)))
  have HTP := Lib.hid (show TkRow w9 p awL1 from HT.out.ext (Ext.trans HE2.out (Ext.trans HE4.out hE9)))
  have HAE := Lib.hid (show Ex.At w9 q1 awE from (HA1.out.ext (Ext.trans HE4.out hE9)).at)
  clear hw9 hE9 hk h1 h2 KT KP1 KP2
  refine wp_region_tail (l1 := [_, _, _, _, _, _, _, _, _, _, _, _, _, _, _, _, _, _, _, _, _, _, _, _, _, _, _, _, _, _, _, _]) (l2 := [_]) (by kernel_rfl) Ext (fun W => Below.refl _ W) (fun W => show Below W.heap.size W { W with drawn := W.drawn + 1 } from ⟨rfl, rfl, rfl, Nat.le_refl _, fun _ _ => rfl⟩) Ext.trans
    (fun i s W => match i with
      | 0 => s 0 = .int .i64 0
      | 1 => s 1 = .bool true
      | 2 => s 2 = .bool true
      | 3 => s 3 = .slice p 4 c
      | 4 => s 4 = .slice (some ⟨w3.heap.size + 1 + 1 + 1, 0, none⟩) 4 4
      | 5 => s 5 = .bool true
      | 6 => s 6 = .bool true
      | 7 => s 7 = .bool true
      | 8 => s 8 = .int .i64 0
      | 9 => s 9 = .bool true
      | 10 => s 10 = .bool true
      | 11 => s 11 = .bool true
      | 12 => s 12 = .int .i64 0
      | 13 => s 13 = .bool true
      | 14 => s 14 = .bool true
      | 15 => s 15 = .bool true
      | 16 => s 16 = .agg #[.int .i64 4, .int .i64 3, .string { data := #[] }, .int .i64 0, .slice q1 2 c1]
      | 17 => s 17 = .agg #[.int .i64 2, .int .i64 0, sV [97], .int .i64 0, .slice none 0 0]
      | 18 => s 18 = .agg #[.int .i64 2, .int .i64 0, sV [98], .int .i64 0, .slice none 0 0]
      | 19 => s 19 = .agg #[.int .i64 3, .int .i64 1, .string { data := #[] }, .int .i64 0, .slice (some ⟨w3.heap.size + 1, 0, none⟩) 1 1]
      | 20 => ∃ r, s 20 = (binX 5 (namX [98]) awTwo).val r 2 ∧ Ex.At W r (binX 5 (namX [98]) awTwo)
      | 21 => ∃ r, s 21 = awE.val r 2 ∧ Ex.At W r awE
      | 22 => s 22 = .bool true
      | 23 => s 23 = .bool true
      | 24 => s 24 = .bool true
      | 25 => s 25 = .int .i64 3
      | 26 => s 26 = .bool true
      | 27 => s 27 = .bool true
      | 28 => s 28 = .bool true
      | 29 => s 29 = .int .i64 6
      | 30 => s 30 = .bool true
      | 31 => s 31 = .bool true
      | _ => True)
    (fun i => [i])
    (by
      intro i s s' W W' h hs hE
      have hs := hs i (by simp)
      match i, h, hs with
      | 0, h, hs => exact hs.trans h
      | 1, h, hs => exact hs.trans h
      | 2, h, hs => exact hs.trans h
      | 3, h, hs => exact hs.trans h
      | 4, h, hs => exact hs.trans h
      | 5, h, hs => exact hs.trans h
      | 6, h, hs => exact hs.trans h
      | 7, h, hs => exact hs.trans h
      | 8, h, hs => exact hs.trans h
      | 9, h, hs => exact hs.trans h
      | 10, h, hs => exact hs.trans h
      | 11, h, hs => exact hs.trans h
      | 12, h, hs => exact hs.trans h
      | 13, h, hs => exact hs.trans h
      | 14, h, hs => exact hs.trans h
      | 15, h, hs => exact hs.trans h
      | 16, h, hs => exact hs.trans h
      | 17, h, hs => exact hs.trans h
      | 18, h, hs => exact hs.trans h
      | 19, h, hs => exact hs.trans h
      | 20, ⟨r, h1, h2⟩, hs => exact ⟨r, hs.trans h1, h2.below hE⟩
      | 21, ⟨r, h1, h2⟩, hs => exact ⟨r, hs.trans h1, h2.below hE⟩
      | 22, h, hs => exact hs.trans h
      | 23, h, hs => exact hs.trans h
      | 24, h, hs => exact hs.trans h
      | 25, h, hs => exact hs.trans h
      | 26, h, hs => exact hs.trans h
      | 27, h, hs => exact hs.trans h
      | 28, h, hs => exact hs.trans h
      | 29, h, hs => exact hs.trans h
      | 30, h, hs => exact hs.trans h
      | 31, h, hs => exact hs.trans h
      | i + 32, h, hs => exact trivial)
    (by kernel_rfl) (by kernel_rfl) (by kernel_rfl) 67 rfl (by kernel_rfl) (by kernel_rfl) ?_ ?_
  · intro i op ho a' W hA
    have x0 : W.cell? ⟨w2.heap.size, 0, none⟩ = _ := Ext.cellE (cell_of HB9.out rfl) hA.rel
    have x1 : W.cell? ⟨w2.heap.size, 1, none⟩ = _ := Ext.cellE (cell_of HB9.out rfl) hA.rel
    have x2 : W.cell? ⟨w2.heap.size, 2, none⟩ = _ := Ext.cellE (cell_of HB9.out rfl) hA.rel
    have x3 : W.cell? ⟨w2.heap.size, 3, none⟩ = _ := Ext.cellE (cell_of HB9.out rfl) hA.rel
    have x4 : W.cell? ⟨w2.heap.size, 4, none⟩ = _ := Ext.cellE (cell_of HB9.out rfl) hA.rel
    have y0 : W.cell? ⟨w3.heap.size + 1 + 1, 0, none⟩ = _ := Ext.cellE (cell_of HC9.out rfl) hA.rel
    have y1 : W.cell? ⟨w3.heap.size + 1 + 1, 1, none⟩ = _ := Ext.cellE (cell_of HC9.out rfl) hA.rel
    have y2 : W.cell? ⟨w3.heap.size + 1 + 1, 2, none⟩ = _ := Ext.cellE (cell_of HC9.out rfl) hA.rel
    have y3 : W.cell? ⟨w3.heap.size + 1 + 1, 3, none⟩ = _ := Ext.cellE (cell_of HC9.out rfl) hA.rel
    have y4 : W.cell? ⟨w3.heap.size + 1 + 1, 4, none⟩ = _ := Ext.cellE (cell_of HC9.out rfl) hA.rel
    match i, ho with
    | 0, ho =>
      obtain rfl := Option.some.inj ho
      have e1 : a'.eval (.tmp 3) = .int .i64 0 := hA.keep 3 (by kernel_rfl)
      refine GoesG.value (.int .i64 0) rfl ?_ (Below.refl _ _) (fun s h1 h2 => h1 rfl)
      simp only [execOp, e1]
      simp [go_sem, x0, x1, x2, x3, x4, y0, y1, y2, y3, y4]
    | 1, ho =>
      obtain rfl := Option.some.inj ho
      have e1 : a'.eval (.tmp 35) = .int .i64 0 := (sv_dst (l := _) rfl).symm.trans (hA.new 0 (by decide) (by kernel_rfl))
      refine GoesG.value (.bool true) rfl ?_ (Below.refl _ _) (fun s h1 h2 => h1 rfl)
      simp only [execOp, e1]
      simp [go_sem, x0, x1, x2, x3, x4, y0, y1, y2, y3, y4]
    | 2, ho =>
      obtain rfl := Option.some.inj ho
      have e1 : a'.eval (.tmp 36) = .bool true := (sv_dst (l := _) rfl).symm.trans (hA.new 1 (by decide) (by kernel_rfl))
      refine GoesG.value (.bool true) rfl ?_ (Below.refl _ _) (fun s h1 h2 => h1 rfl)
      simp only [execOp, e1]
      simp [go_sem, x0, x1, x2, x3, x4, y0, y1, y2, y3, y4]
    | 3, ho =>
      obtain rfl := Option.some.inj ho
      have hg := hA.new 2 (by decide) (by kernel_rfl)
      have e1 : a'.eval (.tmp 1) = .slice p 4 c := hA.keep 1 (by kernel_rfl)
      refine GoesG.valueW (.slice p 4 c) 2 true true rfl hg rfl ?_ (Below.refl _ _) (fun s h1 h2 => h1 rfl)
      simp only [execOp, e1]
      simp [go_sem, x0, x1, x2, x3, x4, y0, y1, y2, y3, y4]
    | 4, ho =>
      obtain rfl := Option.some.inj ho
      have hg := hA.new 2 (by decide) (by kernel_rfl)
      have e1 : a'.eval (.tmp 11) = .slice (some ⟨w3.heap.size + 1 + 1 + 1, 0, none⟩) 4 4 := hA.keep 11 (by kernel_rfl)
      refine GoesG.valueW (.slice (some ⟨w3.heap.size + 1 + 1 + 1, 0, none⟩) 4 4) 2 true true rfl hg rfl ?_ (Below.refl _ _) (fun s h1 h2 => h1 rfl)
      simp only [execOp, e1]
      simp [go_sem, x0, x1, x2, x3, x4, y0, y1, y2, y3, y4]
    | 5, ho =>
      obtain rfl := Option.some.inj ho
      have hg := hA.new 2 (by decide) (by kernel_rfl)
      have e1 : a'.eval (.tmp 38) = .slice p 4 c := (sv_dst (l := _) rfl).symm.trans (hA.new 3 (by decide) (by kernel_rfl))
      have e2 : a'.eval (.tmp 39) = .slice (some ⟨w3.heap.size + 1 + 1 + 1, 0, none⟩) 4 4 := (sv_dst (l := _) rfl).symm.trans (hA.new 4 (by decide) (by kernel_rfl))
      refine GoesG.callG 31 #[.slice p 4 c, .slice (some ⟨w3.heap.size + 1 + 1 + 1, 0, none⟩) 4 4] 2 true true rfl hg rfl ?_ (Calls.mono (EqT_any awL1 p (some ⟨w3.heap.size + 1 + 1 + 1, 0, none⟩) c 4 W (HTP.out.ext hA.rel) (HTK.out.ext hA.rel) (by decide)) ?_)
      · simp [execOp, resolve, invoke, Deferred.ofValue, e1, e2]
        rfl
      · rintro _ W2 ⟨rfl, hE2⟩
        exact ⟨_, rfl, hE2, fun s h1 h2 => h1 rfl⟩
    | 6, ho =>
      obtain rfl := Option.some.inj ho
      have e1 : a'.eval (.tmp 37) = .bool true := (sv_dst (l := _) rfl).symm.trans (hA.new 2 (by decide) (by kernel_rfl))
      have e2 : a'.eval (.tmp 40) = .bool true := (sv_dst (l := _) rfl).symm.trans (hA.new 5 (by decide) (by kernel_rfl))
      refine GoesG.value (.bool true) rfl ?_ (Below.refl _ _) (fun s h1 h2 => h1 rfl)
      simp only [execOp, e1, e2]
      simp [go_sem, x0, x1, x2, x3, x4, y0, y1, y2, y3, y4]
    | 7, ho =>
      obtain rfl := Option.some.inj ho
      have e1 : a'.eval (.tmp 41) = .bool true := (sv_dst (l := _) rfl).symm.trans (hA.new 6 (by decide) (by kernel_rfl))
      refine GoesG.value (.bool true) rfl ?_ (Below.refl _ _) (fun s h1 h2 => h1 rfl)
      simp only [execOp, e1]
      simp [go_sem, x0, x1, x2, x3, x4, y0, y1, y2, y3, y4]
    | 8, ho =>
      obtain rfl := Option.some.inj ho
      have hg := hA.new 7 (by decide) (by kernel_rfl)
      have e1 : a'.eval (.tmp 6) = .int .i64 0 := hA.keep 6 (by kernel_rfl)
      refine GoesG.valueW (.int .i64 0) 7 true true rfl hg rfl ?_ (Below.refl _ _) (fun s h1 h2 => h1 rfl)
      simp only [execOp, e1]
      simp [go_sem, x0, x1, x2, x3, x4, y0, y1, y2, y3, y4]
    | 9, ho =>
      obtain rfl := Option.some.inj ho
      have hg := hA.new 7 (by decide) (by kernel_rfl)
      have e1 : a'.eval (.tmp 43) = .int .i64 0 := (sv_dst (l := _) rfl).symm.trans (hA.new 8 (by decide) (by kernel_rfl))
      refine GoesG.valueW (.bool true) 7 true true rfl hg rfl ?_ (Below.refl _ _) (fun s h1 h2 => h1 rfl)
      simp only [execOp, e1]
      simp [go_sem, x0, x1, x2, x3, x4, y0, y1, y2, y3, y4]
    | 10, ho =>
      obtain rfl := Option.some.inj ho
      have e1 : a'.eval (.tmp 42) = .bool true := (sv_dst (l := _) rfl).symm.trans (hA.new 7 (by decide) (by kernel_rfl))
      have e2 : a'.eval (.tmp 44) = .bool true := (sv_dst (l := _) rfl).symm.trans (hA.new 9 (by decide) (by kernel_rfl))
      refine GoesG.value (.bool true) rfl ?_ (Below.refl _ _) (fun s h1 h2 => h1 rfl)
      simp only [execOp, e1, e2]
      simp [go_sem, x0, x1, x2, x3, x4, y0, y1, y2, y3, y4]
    | 11, ho =>
      obtain rfl := Option.some.inj ho
      have e1 : a'.eval (.tmp 45) = .bool true := (sv_dst (l := _) rfl).symm.trans (hA.new 10 (by decide) (by kernel_rfl))
      refine GoesG.value (.bool true) rfl ?_ (Below.refl _ _) (fun s h1 h2 => h1 rfl)
      simp only [execOp, e1]
      simp [go_sem, x0, x1, x2, x3, x4, y0, y1, y2, y3, y4]
    | 12, ho =>
      obtain rfl := Option.some.inj ho
      have hg := hA.new 11 (by decide) (by kernel_rfl)
      have e1 : a'.eval (.tmp 5) = .int .i64 0 := hA.keep 5 (by kernel_rfl)
      refine GoesG.valueW (.int .i64 0) 11 true true rfl hg rfl ?_ (Below.refl _ _) (fun s h1 h2 => h1 rfl)
      simp only [execOp, e1]
      simp [go_sem, x0, x1, x2, x3, x4, y0, y1, y2, y3, y4]
    | 13, ho =>
      obtain rfl := Option.some.inj ho
      have hg := hA.new 11 (by decide) (by kernel_rfl)
      have e1 : a'.eval (.tmp 47) = .int .i64 0 := (sv_dst (l := _) rfl).symm.trans (hA.new 12 (by decide) (by kernel_rfl))
      refine GoesG.valueW (.bool true) 11 true true rfl hg rfl ?_ (Below.refl _ _) (fun s h1 h2 => h1 rfl)
      simp only [execOp, e1]
      simp [go_sem, x0, x1, x2, x3, x4, y0, y1, y2, y3, y4]
    | 14, ho =>
      obtain rfl := Option.some.inj ho
      have e1 : a'.eval (.tmp 46) = .bool true := (sv_dst (l := _) rfl).symm.trans (hA.new 11 (by decide) (by kernel_rfl))
      have e2 : a'.eval (.tmp 48) = .bool true := (sv_dst (l := _) rfl).symm.trans (hA.new 13 (by decide) (by kernel_rfl))
      refine GoesG.value (.bool true) rfl ?_ (Below.refl _ _) (fun s h1 h2 => h1 rfl)
      simp only [execOp, e1, e2]
      simp [go_sem, x0, x1, x2, x3, x4, y0, y1, y2, y3, y4]
    | 15, ho =>
      obtain rfl := Option.some.inj ho
      have e1 : a'.eval (.tmp 49) = .bool true := (sv_dst (l := _) rfl).symm.trans (hA.new 14 (by decide) (by kernel_rfl))
      refine GoesG.value (.bool true) rfl ?_ (Below.refl _ _) (fun s h1 h2 => h1 rfl)
      simp only [execOp, e1]
      simp [go_sem, x0, x1, x2, x3, x4, y0, y1, y2, y3, y4]
    | 16, ho =>
      obtain rfl := Option.some.inj ho
      have hg := hA.new 15 (by decide) (by kernel_rfl)
      have e1 : a'.eval (.tmp 4) = .pointer (some ⟨w2.heap.size, 0, none⟩) := hA.keep 4 (by kernel_rfl)
      refine GoesG.valueW (.agg #[.int .i64 4, .int .i64 3, .string { data := #[] }, .int .i64 0, .slice q1 2 c1]) 15 true true rfl hg rfl ?_ (Below.refl _ _) (fun s h1 h2 => h1 rfl)
      simp only [execOp, e1]
      simp [go_sem, x0, x1, x2, x3, x4, y0, y1, y2, y3, y4]
    | 17, ho =>
      obtain rfl := Option.some.inj ho
      have hg := hA.new 15 (by decide) (by kernel_rfl)
      refine GoesG.callG 33 #[sV [97]] 15 true true rfl hg rfl ?_ (Calls.mono (lawName_any [97] W) ?_)
      · simp [execOp, resolve, invoke, Deferred.ofValue]
        rfl
      · rintro _ W2 ⟨rfl, hE2⟩
        exact ⟨_, rfl, hE2, fun s h1 h2 => h1 rfl⟩
    | 18, ho =>
      obtain rfl := Option.some.inj ho
      have hg := hA.new 15 (by decide) (by kernel_rfl)
      refine GoesG.callG 33 #[sV [98]] 15 true true rfl hg rfl ?_ (Calls.mono (lawName_any [98] W) ?_)
      · simp [execOp, resolve, invoke, Deferred.ofValue]
        rfl
      · rintro _ W2 ⟨rfl, hE2⟩
        exact ⟨_, rfl, hE2, fun s h1 h2 => h1 rfl⟩
    | 19, ho =>
      obtain rfl := Option.some.inj ho
      have hg := hA.new 15 (by decide) (by kernel_rfl)
      have e1 : a'.eval (.tmp 10) = .pointer (some ⟨w3.heap.size + 1 + 1, 0, none⟩) := hA.keep 10 (by kernel_rfl)
      refine GoesG.valueW (.agg #[.int .i64 3, .int .i64 1, .string { data := #[] }, .int .i64 0, .slice (some ⟨w3.heap.size + 1, 0, none⟩) 1 1]) 15 true true rfl hg rfl ?_ (Below.refl _ _) (fun s h1 h2 => h1 rfl)
      simp only [execOp, e1]
      simp [go_sem, x0, x1, x2, x3, x4, y0, y1, y2, y3, y4]
    | 20, ho =>
      obtain rfl := Option.some.inj ho
      have hg := hA.new 15 (by decide) (by kernel_rfl)
      have e1 : a'.eval (.tmp 53) = .agg #[.int .i64 2, .int .i64 0, sV [98], .int .i64 0, .slice none 0 0] := (sv_dst (l := _) rfl).symm.trans (hA.new 18 (by decide) (by kernel_rfl))
      have e2 : a'.eval (.tmp 54) = .agg #[.int .i64 3, .int .i64 1, .string { data := #[] }, .int .i64 0, .slice (some ⟨w3.heap.size + 1, 0, none⟩) 1 1] := (sv_dst (l := _) rfl).symm.trans (hA.new 19 (by decide) (by kernel_rfl))
      refine GoesG.callG 32 #[.int .i64 5, .agg #[.int .i64 2, .int .i64 0, sV [98], .int .i64 0, .slice none 0 0], .agg #[.int .i64 3, .int .i64 1, .string { data := #[] }, .int .i64 0, .slice (some ⟨w3.heap.size + 1, 0, none⟩) 1 1]] 15 true true rfl hg rfl ?_ (Calls.mono (lawBin_any 5 (by decide) (by decide) (namX [98]) awTwo none (some ⟨w3.heap.size + 1, 0, none⟩) 0 1 W (AtB_leaf (fun _ => True) W none (fits_nam (by decide))).at (HTW.out.below hA.rel)) ?_)
      · simp [execOp, resolve, invoke, Deferred.ofValue, e1, e2]
        rfl
      · rintro _ W2 ⟨r2, rfl, hAt, hE2⟩
        exact ⟨_, rfl, hE2, fun s h1 h2 => ⟨r2, h1 rfl, hAt⟩⟩
    | 21, ho =>
      obtain rfl := Option.some.inj ho
      have hg := hA.new 15 (by decide) (by kernel_rfl)
      have e1 : a'.eval (.tmp 52) = .agg #[.int .i64 2, .int .i64 0, sV [97], .int .i64 0, .slice none 0 0] := (sv_dst (l := _) rfl).symm.trans (hA.new 17 (by decide) (by kernel_rfl))
      obtain ⟨r0, h20, hA20⟩ := hA.new 20 (by decide) (by kernel_rfl)
      have e2 : a'.eval (.tmp 55) = (binX 5 (namX [98]) awTwo).val r0 2 := (sv_dst (l := _) rfl).symm.trans h20
      refine GoesG.callG 32 #[.int .i64 3, .agg #[.int .i64 2, .int .i64 0, sV [97], .int .i64 0, .slice none 0 0], (binX 5 (namX [98]) awTwo).val r0 2] 15 true true rfl hg rfl ?_ (Calls.mono (lawBin_any 3 (by decide) (by decide) (namX [97]) (binX 5 (namX [98]) awTwo) none r0 0 2 W (AtB_leaf (fun _ => True) W none (fits_nam (by decide))).at hA20) ?_)
      · simp [execOp, resolve, invoke, Deferred.ofValue, e1, e2]
        rfl
      · rintro _ W2 ⟨r2, rfl, hAt, hE2⟩
        exact ⟨_, rfl, hE2, fun s h1 h2 => ⟨r2, h1 rfl, hAt⟩⟩
    | 22, ho =>
      obtain rfl := Option.some.inj ho
      have hg := hA.new 15 (by decide) (by kernel_rfl)
      have e1 : a'.eval (.tmp 51) = .agg #[.int .i64 4, .int .i64 3, .string { data := #[] }, .int .i64 0, .slice q1 2 c1] := (sv_dst (l := _) rfl).symm.trans (hA.new 16 (by decide) (by kernel_rfl))
      obtain ⟨r0, h21, hA21⟩ := hA.new 21 (by decide) (by kernel_rfl)
      have e2 : a'.eval (.tmp 56) = awE.val r0 2 := (sv_dst (l := _) rfl).symm.trans h21
      have hq := refEqualX_any awE awE q1 r0 c1 2 W (HAE.out.below hA.rel) hA21
      rw [awE_chk, eqX_self] at hq
      refine GoesG.callG 30 #[.agg #[.int .i64 4, .int .i64 3, .string { data := #[] }, .int .i64 0, .slice q1 2 c1], awE.val r0 2] 15 true true rfl hg rfl ?_ (Calls.mono (show Gives _ _ #[.agg #[.int .i64 4, .int .i64 3, .string { data := #[] }, .int .i64 0, .slice q1 2 c1], awE.val r0 2] W (.bool true) from hq) ?_)
      · simp [execOp, resolve, invoke, Deferred.ofValue, e1, e2]
        rfl
      · rintro _ W2 ⟨rfl, hE2⟩
        exact ⟨_, rfl, hE2, fun s h1 h2 => h1 rfl⟩
    | 23, ho =>
      obtain rfl := Option.some.inj ho
      have e1 : a'.eval (.tmp 50) = .bool true := (sv_dst (l := _) rfl).symm.trans (hA.new 15 (by decide) (by kernel_rfl))
      have e2 : a'.eval (.tmp 57) = .bool true := (sv_dst (l := _) rfl).symm.trans (hA.new 22 (by decide) (by kernel_rfl))
      refine GoesG.value (.bool true) rfl ?_ (Below.refl _ _) (fun s h1 h2 => h1 rfl)
      simp only [execOp, e1, e2]
      simp [go_sem, x0, x1, x2, x3, x4, y0, y1, y2, y3, y4]
    | 24, ho =>
      obtain rfl := Option.some.inj ho
      have e1 : a'.eval (.tmp 58) = .bool true := (sv_dst (l := _) rfl).symm.trans (hA.new 23 (by decide) (by kernel_rfl))
      refine GoesG.value (.bool true) rfl ?_ (Below.refl _ _) (fun s h1 h2 => h1 rfl)
      simp only [execOp, e1]
      simp [go_sem, x0, x1, x2, x3, x4, y0, y1, y2, y3, y4]
    | 25, ho =>
      obtain rfl := Option.some.inj ho
      have hg := hA.new 24 (by decide) (by kernel_rfl)
      have e1 : a'.eval (.tmp 9) = .int .i64 3 := hA.keep 9 (by kernel_rfl)
      refine GoesG.valueW (.int .i64 3) 24 true true rfl hg rfl ?_ (Below.refl _ _) (fun s h1 h2 => h1 rfl)
      simp only [execOp, e1]
      simp [go_sem, x0, x1, x2, x3, x4, y0, y1, y2, y3, y4]
    | 26, ho =>
      obtain rfl := Option.some.inj ho
      have hg := hA.new 24 (by decide) (by kernel_rfl)
      have e1 : a'.eval (.tmp 60) = .int .i64 3 := (sv_dst (l := _) rfl).symm.trans (hA.new 25 (by decide) (by kernel_rfl))
      refine GoesG.valueW (.bool true) 24 true true rfl hg rfl ?_ (Below.refl _ _) (fun s h1 h2 => h1 rfl)
      simp only [execOp, e1]
      simp [go_sem, x0, x1, x2, x3, x4, y0, y1, y2, y3, y4]
    | 27, ho =>
      obtain rfl := Option.some.inj ho
      have e1 : a'.eval (.tmp 59) = .bool true := (sv_dst (l := _) rfl).symm.trans (hA.new 24 (by decide) (by kernel_rfl))
      have e2 : a'.eval (.tmp 61) = .bool true := (sv_dst (l := _) rfl).symm.trans (hA.new 26 (by decide) (by kernel_rfl))
      refine GoesG.value (.bool true) rfl ?_ (Below.refl _ _) (fun s h1 h2 => h1 rfl)
      simp only [execOp, e1, e2]
      simp [go_sem, x0, x1, x2, x3, x4, y0, y1, y2, y3, y4]
    | 28, ho =>
      obtain rfl := Option.some.inj ho
      have e1 : a'.eval (.tmp 62) = .bool true := (sv_dst (l := _) rfl).symm.trans (hA.new 27 (by decide) (by kernel_rfl))
      refine GoesG.value (.bool true) rfl ?_ (Below.refl _ _) (fun s h1 h2 => h1 rfl)
      simp only [execOp, e1]
      simp [go_sem, x0, x1, x2, x3, x4, y0, y1, y2, y3, y4]
    | 29, ho =>
      obtain rfl := Option.some.inj ho
      have hg := hA.new 28 (by decide) (by kernel_rfl)
      have e1 : a'.eval (.tmp 8) = .int .i64 6 := hA.keep 8 (by kernel_rfl)
      refine GoesG.valueW (.int .i64 6) 28 true true rfl hg rfl ?_ (Below.refl _ _) (fun s h1 h2 => h1 rfl)
      simp only [execOp, e1]
      simp [go_sem, x0, x1, x2, x3, x4, y0, y1, y2, y3, y4]
    | 30, ho =>
      obtain rfl := Option.some.inj ho
      have hg := hA.new 28 (by decide) (by kernel_rfl)
      have e1 : a'.eval (.tmp 64) = .int .i64 6 := (sv_dst (l := _) rfl).symm.trans (hA.new 29 (by decide) (by kernel_rfl))
      refine GoesG.valueW (.bool true) 28 true true rfl hg rfl ?_ (Below.refl _ _) (fun s h1 h2 => h1 rfl)
      simp only [execOp, e1]
      simp [go_sem, x0, x1, x2, x3, x4, y0, y1, y2, y3, y4]
    | 31, ho =>
      obtain rfl := Option.some.inj ho
      have e1 : a'.eval (.tmp 63) = .bool true := (sv_dst (l := _) rfl).symm.trans (hA.new 28 (by decide) (by kernel_rfl))
      have e2 : a'.eval (.tmp 65) = .bool true := (sv_dst (l := _) rfl).symm.trans (hA.new 30 (by decide) (by kernel_rfl))
      refine GoesG.value (.bool true) rfl ?_ (Below.refl _ _) (fun s h1 h2 => h1 rfl)
      simp only [execOp, e1, e2]
      simp [go_sem, x0, x1, x2, x3, x4, y0, y1, y2, y3, y4]
    | i + 32, ho => cases ho
  · intro vs w4 hvs hG hΦ
    obtain ⟨z0, z1, z2, z3, z4, z5, z6, z7, z8, z9, z10, z11, z12, z13, z14, z15, z16, z17, z18, z19, z20, z21, z22, z23, z24, z25, z26, z27, z28, z29, z30, z31, rfl⟩ : ∃ z0 z1 z2 z3 z4 z5 z6 z7 z8 z9 z10 z11 z12 z13 z14 z15 z16 z17 z18 z19 z20 z21 z22 z23 z24 z25 z26 z27 z28 z29 z30 z31, vs = z0 :: z1 :: z2 :: z3 :: z4 :: z5 :: z6 :: z7 :: z8 :: z9 :: z10 :: z11 :: z12 :: z13 :: z14 :: z15 :: z16 :: z17 :: z18 :: z19 :: z20 :: z21 :: z22 :: z23 :: z24 :: z25 :: z26 :: z27 :: z28 :: z29 :: z30 :: z31 :: [] := by
      match vs, hvs with
      | z0 :: z1 :: z2 :: z3 :: z4 :: z5 :: z6 :: z7 :: z8 :: z9 :: z10 :: z11 :: z12 :: z13 :: z14 :: z15 :: z16 :: z17 :: z18 :: z19 :: z20 :: z21 :: z22 :: z23 :: z24 :: z25 :: z26 :: z27 :: z28 :: z29 :: z30 :: z31 :: [], _ => exact ⟨z0, z1, z2, z3, z4, z5, z6, z7, z8, z9, z10, z11, z12, z13, z14, z15, z16, z17, z18, z19, z20, z21, z22, z23, z24, z25, z26, z27, z28, z29, z30, z31, rfl⟩
    have e0 : z0 = .int .i64 0 := hΦ 0 (by decide)
    subst e0
    have e1 : z1 = .bool true := hΦ 1 (by decide)
    subst e1
    have e2 : z2 = .bool true := hΦ 2 (by decide)
    subst e2
    have e3 : z3 = .slice p 4 c := hΦ 3 (by decide)
    subst e3
    have e4 : z4 = .slice (some ⟨w3.heap.size + 1 + 1 + 1, 0, none⟩) 4 4 := hΦ 4 (by decide)
    subst e4
    have e5 : z5 = .bool true := hΦ 5 (by decide)
    subst e5
    have e6 : z6 = .bool true := hΦ 6 (by decide)
    subst e6
    have e7 : z7 = .bool true := hΦ 7 (by decide)
    subst e7
    have e8 : z8 = .int .i64 0 := hΦ 8 (by decide)
    subst e8
    have e9 : z9 = .bool true := hΦ 9 (by decide)
    subst e9
    have e10 : z10 = .bool true := hΦ 10 (by decide)
    subst e10
    have e11 : z11 = .bool true := hΦ 11 (by decide)
    subst e11
    have e12 : z12 = .int .i64 0 := hΦ 12 (by decide)
    subst e12
    have e13 : z13 = .bool true := hΦ 13 (by decide)
    subst e13
    have e14 : z14 = .bool true := hΦ 14 (by decide)
    subst e14
    have e15 : z15 = .bool true := hΦ 15 (by decide)
    subst e15
    have e16 : z16 = .agg #[.int .i64 4, .int .i64 3, .string { data := #[] }, .int .i64 0, .slice q1 2 c1] := hΦ 16 (by decide)
    subst e16
    have e17 : z17 = .agg #[.int .i64 2, .int .i64 0, sV [97], .int .i64 0, .slice none 0 0] := hΦ 17 (by decide)
    subst e17
    have e18 : z18 = .agg #[.int .i64 2, .int .i64 0, sV [98], .int .i64 0, .slice none 0 0] := hΦ 18 (by decide)
    subst e18
    have e19 : z19 = .agg #[.int .i64 3, .int .i64 1, .string { data := #[] }, .int .i64 0, .slice (some ⟨w3.heap.size + 1, 0, none⟩) 1 1] := hΦ 19 (by decide)
    subst e19
    have p20 : ∃ r, z20 = (binX 5 (namX [98]) awTwo).val r 2 ∧ Ex.At w4 r (binX 5 (namX [98]) awTwo) := hΦ 20 (by decide)
    have p21 : ∃ r, z21 = awE.val r 2 ∧ Ex.At w4 r awE := hΦ 21 (by decide)
    have e22 : z22 = .bool true := hΦ 22 (by decide)
    subst e22
    have e23 : z23 = .bool true := hΦ 23 (by decide)
    subst e23
    have e24 : z24 = .bool true := hΦ 24 (by decide)
    subst e24
    have e25 : z25 = .int .i64 3 := hΦ 25 (by decide)
    subst e25
    have e26 : z26 = .bool true := hΦ 26 (by decide)
    subst e26
    have e27 : z27 = .bool true := hΦ 27 (by decide)
    subst e27
    have e28 : z28 = .bool true := hΦ 28 (by decide)
    subst e28
    have e29 : z29 = .int .i64 6 := hΦ 29 (by decide)
    subst e29
    have e30 : z30 = .bool true := hΦ 30 (by decide)
    subst e30
    have e31 : z31 = .bool true := hΦ 31 (by decide)
    subst e31
    clear hΦ hvs
    simp only [putAll, Act.put, List.setIfInBounds_toArray, List.set_cons_succ, List.set_cons_zero]
    go_wp2
    go_ret
    exact ⟨rfl, Ext.trans HE9.out hG⟩
end Go.Proofs.YtmokejjndkibhaaGreatDoor

namespace Go.Proofs.YtmokejjndkibhaaGreatDoor
open Go.RowKit Ex
set_option linter.unusedVariables false
set_option linter.unusedSimpArgs false

/-- a byte that ends a token and is none -/
def sepC (c : UInt8) : Prop := c.toNat = 10 ∨ c.toNat = 32 ∨ c.toNat = 9 ∨ c.toNat = 35
theorem sepC_ins {c : UInt8} (h : sepC c) : insC c = false := by
  unfold sepC at h
  unfold insC letB digB
  simp; omega
theorem sepC_dig {c : UInt8} (h : sepC c) : digB c = false := by
  unfold sepC at h
  unfold digB
  simp; omega
theorem sepC_let {c : UInt8} (h : sepC c) : letB c = false := by
  unfold sepC at h
  unfold letB
  simp; omega
theorem cntW_app {q : UInt8 → Bool} {c : UInt8} (h : q c = false) (y : List UInt8) : ∀ x : List UInt8, cntW q (x ++ c :: y) = cntW q x
  | [] => by rw [List.nil_append, cntW_cons, h]; rfl
  | a :: x => by rw [List.cons_append, cntW_cons, cntW_cons, cntW_app h y x]
theorem sg2_snd : ∀ x ∈ sg2, ∀ c, x[1]? = some c → ¬ (c.toNat = 10 ∨ c.toNat = 32 ∨ c.toNat = 9 ∨ c.toNat = 35) := by decide
theorem pre_two {x z : List UInt8} (hl : z.length = 2) {c : UInt8} {y : List UInt8} (hx : x ≠ []) (hc : z[1]? ≠ some c) : z.isPrefixOf (x ++ c :: y) = z.isPrefixOf x := by
  match z, hl with
  | [a, b], _ =>
    match x, hx with
    | [d], _ =>
      have : ¬ b = c := fun e => hc (by simp [e])
      simp [List.isPrefixOf, this]
    | d :: e :: x, _ => simp [List.isPrefixOf]
theorem sgLen_app {x : List UInt8} (hx : x ≠ []) {c : UInt8} (h : sepC c) (y : List UInt8) : sgLen (x ++ c :: y) = sgLen x := by
  have e : (sg2.any fun z => z.isPrefixOf (x ++ c :: y)) = sg2.any fun z => z.isPrefixOf x := by
    have : ∀ l : List (List UInt8), (∀ z ∈ l, z ∈ sg2) → (l.any fun z => z.isPrefixOf (x ++ c :: y)) = l.any fun z => z.isPrefixOf x := by
      intro l
      induction l with
      | nil => intro _; rfl
      | cons z l ih =>
        intro hz
        have hm := hz z (List.mem_cons_self ..)
        rw [List.any_cons, List.any_cons, ih (fun z' h' => hz z' (List.mem_cons_of_mem _ h')), pre_two ((by decide : ∀ z ∈ sg2, z.length = 2) z hm) hx (fun e => sg2_snd z hm c e h)]
    exact this sg2 (fun _ h => h)
  unfold sgLen
  rw [e]
  cases x with
  | nil => exact absurd rfl hx
  | cons a x => rfl
/-- a token, a separator behind its text -/
theorem oneT_app {x : List UInt8} (hx : x ≠ []) {c : UInt8} (h : sepC c) (y : List UInt8) (p : Int) : oneT (x ++ c :: y) p = oneT x p := by
  have e1 := cntW_app (sepC_ins h) y x
  have e2 := cntW_app (sepC_dig h) y x
  have e3 := sgLen_app hx h y
  have l1 := cntW_le insC x
  have l2 := cntW_le digB x
  have l3 := sgLen_le x
  have t1 : (x ++ c :: y).take (cntW insC x) = x.take (cntW insC x) := List.take_append_of_le_length l1
  have t2 : (x ++ c :: y).take (cntW digB x) = x.take (cntW digB x) := List.take_append_of_le_length l2
  have t3 : (x ++ c :: y).take (sgLen x) = x.take (sgLen x) := List.take_append_of_le_length l3
  have e4 : ((x ++ c :: y)[cntW digB x]?).any (fun d => letB d || decide (d.toNat = 95)) = (x[cntW digB x]?).any (fun d => letB d || decide (d.toNat = 95)) := by
    rcases Nat.lt_or_ge (cntW digB x) x.length with g | g
    · rw [List.getElem?_append_left g]
    · rw [List.getElem?_append_right g, List.getElem?_eq_none g, show cntW digB x - x.length = 0 by omega]
      have := sepC_let h
      have h95 : ¬ c.toNat = 95 := by unfold sepC at h; omega
      simp [this, h95]
  cases x with
  | nil => exact absurd rfl hx
  | cons a x =>
    simp only [List.cons_append] at e1 e2 e3 e4 t1 t2 t3 ⊢
    unfold oneT
    dsimp only
    rw [e1, e2, e3, t1, t2, t3, e4]
theorem oneT_pos {x : List UInt8} {p p' : Int} {t : Tk} (h : oneT x p = (t, 0)) (hx : x ≠ []) : oneT x p' = ({ t with pos := p' }, 0) := by
  cases x with
  | nil => exact absurd rfl hx
  | cons a x =>
    unfold oneT at h ⊢
    dsimp only at h ⊢
    split at h
    · rename_i h1
      rw [if_pos h1]
      split at h
      · simp at h
      · rename_i h2
        rw [if_neg h2]
        simp only [Prod.mk.injEq, and_true] at h
        subst h; rfl
    · rename_i h1
      rw [if_neg h1]
      split at h
      · rename_i h2
        rw [if_pos h2]
        split at h
        · simp at h
        · rename_i h3
          rw [if_neg h3]
          split at h
          · simp at h
          · rename_i h4
            rw [if_neg h4]
            simp only [Prod.mk.injEq, and_true] at h
            subst h; rfl
      · rename_i h2
        rw [if_neg h2]
        split at h
        · simp at h
        · rename_i h3
          rw [if_neg h3]
          simp only [Prod.mk.injEq, and_true] at h
          subst h; rfl
/-- blanks, a line feed behind them -/
theorem skipB_app (y : List UInt8) : ∀ (com : Bool) (x : List UInt8), skipB com (x ++ 10 :: y) = if skipB com x < x.length then skipB com x else x.length + 1 + skipB false y
  | com, [] => by simp [skipB]
  | com, c :: x => by
    have h1 := skipB_app y true x
    have h2 := skipB_app y false x
    have l1 := skipB_le true x
    have l2 := skipB_le false x
    simp only [List.cons_append, skipB, List.length_cons, h1, h2]
    by_cases c1 : c.toNat = 10
    · simp only [c1, if_true]; split <;> split <;> omega
    · simp only [c1, if_false]
      cases com with
      | true => simp only [if_true]; split <;> split <;> omega
      | false =>
        simp only [Bool.false_eq_true, if_false]
        by_cases c2 : c.toNat = 35
        · simp only [c2, if_true]; split <;> split <;> omega
        · simp only [c2, if_false]
          by_cases c3 : c.toNat = 32 ∨ c.toNat = 9
          · simp only [c3, if_true]; split <;> split <;> omega
          · simp only [c3, if_false]; split <;> omega
def shT (d : Nat) (t : Tk) : Tk := { t with pos := t.pos + d }
theorem Toks.of_blk {s : List UInt8} {a b : Nat} {l : List Tk} {p e : Int} (h : Toks s b l p e) (hb : blk s a = blk s b) : Toks s a l p e := by
  cases h with
  | fin g => exact .fin (by rw [hb]; exact g)
  | bad g ht he => rw [← hb] at g ht ⊢; exact .bad g ht he
  | cons g ht g1 => rw [← hb] at g ht g1; exact .cons g ht g1
  | later g ht he g1 => rw [← hb] at g ht g1; exact .later g ht he g1
/-- the tokens of s, between other text and a line feed -/
theorem Toks.inside {s : List UInt8} (pre y : List UInt8) {a : Nat} {l : List Tk} {p e : Int} (h : Toks s a l p e) : e = 0 → a ≤ s.length → ∀ {l' : List Tk}, Toks (pre ++ s ++ 10 :: y) (pre.length + s.length + 1) l' 0 0 →
    ∃ ts, l = ts ++ [⟨0, [], 0, s.length⟩] ∧ Toks (pre ++ s ++ 10 :: y) (pre.length + a) (ts.map (shT pre.length) ++ l') 0 0 := by
  have hdrop : ∀ k, k ≤ s.length → (pre ++ s ++ 10 :: y).drop (pre.length + k) = s.drop k ++ 10 :: y := fun k hk => by
    rw [List.append_assoc, List.drop_append, List.drop_eq_nil_of_le (by omega), List.nil_append, show pre.length + k - pre.length = k by omega, List.drop_append_of_le_length hk]
  have hblk : ∀ a, a ≤ s.length → blk (pre ++ s ++ 10 :: y) (pre.length + a) = if blk s a < s.length then pre.length + blk s a else blk (pre ++ s ++ 10 :: y) (pre.length + s.length + 1) := fun a ha => by
    unfold blk
    rw [hdrop a ha, skipB_app, List.length_drop]
    have hl : (pre ++ s ++ 10 :: y).drop (pre.length + s.length + 1) = y := by
      rw [List.drop_append, List.drop_eq_nil_of_le (by simp only [List.length_append]; omega), List.nil_append]
      simp only [List.length_append]
      rw [show pre.length + s.length + 1 - (pre.length + s.length) = 1 by omega]; rfl
    rw [hl]
    split
    · rename_i h1; rw [if_pos (by omega)]; omega
    · rename_i h1; rw [if_neg (by omega)]; omega
  induction h with
  | fin h =>
    intro _ ha l' hl'
    refine ⟨[], rfl, ?_⟩
    have hb := hblk _ ha
    rw [if_neg (by omega)] at hb
    simp only [List.map_nil, List.nil_append]
    exact hl'.of_blk hb
  | bad h ht he => intro h0; exact absurd h0 he
  | cons h ht h1 ih =>
    intro he0 ha l' hl'
    rename_i a t l
    have ho := oneT_at h ht
    obtain ⟨ts, hts, h2⟩ := ih rfl (by omega) hl'
    refine ⟨t :: ts, by rw [hts]; rfl, ?_⟩
    have hb := hblk _ ha
    rw [if_pos h] at hb
    have hne : s.drop (blk s a) ≠ [] := by intro e; have := congrArg List.length e; simp at this; omega
    have h3 : oneT ((pre ++ s ++ 10 :: y).drop (blk (pre ++ s ++ 10 :: y) (pre.length + a))) ((blk (pre ++ s ++ 10 :: y) (pre.length + a) : Nat) : Int) = (shT pre.length t, 0) := by
      rw [hb, hdrop _ (by omega), oneT_app hne (.inl rfl), oneT_pos ht hne]
      have := ho.2.2.2.1
      simp only [shT, Prod.mk.injEq, and_true]
      rw [this]
      obtain ⟨t1, t2, t3, t4⟩ := t
      simp; omega
    simp only [List.map_cons, List.cons_append]
    refine .cons (by rw [hb]; simp; omega) h3 ?_
    rw [hb]
    rw [show pre.length + blk s a + (shT pre.length t).text.length = pre.length + (blk s a + t.text.length) by show pre.length + blk s a + t.text.length = _; omega]
    exact h2
  | later h ht he h1 ih => intro h0; exact absurd h0 he
/-- the tokens of a text determine toksR -/
theorem Toks.det {s : List UInt8} {a : Nat} {l : List Tk} {p e : Int} (h : Toks s a l p e) : ∀ {l' : List Tk} {p' e' : Int}, Toks s a l' p' e' → l = l' ∧ p = p' ∧ e = e' := by
  induction h with
  | fin h =>
    intro l' p' e' h'
    cases h' with
    | fin _ => exact ⟨rfl, rfl, rfl⟩
    | bad g _ _ => omega
    | cons g _ _ => omega
    | later g _ _ _ => omega
  | bad h ht he =>
    intro l' p' e' h'
    cases h' with
    | fin _ => omega
    | bad g gt _ => rw [ht] at gt; cases gt; exact ⟨rfl, rfl, rfl⟩
    | cons g gt _ => rw [ht] at gt; cases gt; exact absurd rfl he
    | later g gt _ _ => rw [ht] at gt; cases gt; exact absurd rfl he
  | cons h ht h1 ih =>
    intro l' p' e' h'
    cases h' with
    | fin _ => omega
    | bad g gt ge => rw [ht] at gt; cases gt; exact absurd rfl ge
    | cons g gt g1 => rw [ht] at gt; cases gt; obtain ⟨rfl, _, _⟩ := ih g1; exact ⟨rfl, rfl, rfl⟩
    | later g gt ge g1 => rw [ht] at gt; cases gt; obtain ⟨_, _, h3⟩ := ih g1; exact absurd h3.symm ge
  | later h ht he h1 ih =>
    intro l' p' e' h'
    cases h' with
    | fin _ => omega
    | bad g gt ge => rw [ht] at gt; cases gt; exact absurd rfl ge
    | cons g gt g1 => rw [ht] at gt; cases gt; obtain ⟨_, _, h3⟩ := ih g1; exact absurd h3 he
    | later g gt ge g1 => rw [ht] at gt; cases gt; obtain ⟨_, h2, h3⟩ := ih g1; exact ⟨rfl, h2, h3⟩
theorem Toks.toksR {s : List UInt8} (hs : s.length ≤ 4000) {l : List Tk} {p e : Int} (h : Toks s 0 l p e) : toksR s = (l, p, e) := by
  obtain ⟨h1, h2, h3⟩ := (toksR_toks s hs).det h
  rw [← h1, ← h2, ← h3]

/-- what reading looks at in two tokens is the same -/
def SameK (a b : Tk) : Prop := a.kind = b.kind ∧ a.text = b.text ∧ a.val = b.val
theorem SameK.num {a b : Tk} (h : SameK a b) : numOk a = numOk b := by unfold numOk; rw [h.2.1, h.2.2]
theorem SameK.nam {a b : Tk} (h : SameK a b) : namOk a = namOk b := by unfold namOk; rw [h.2.1]
/-- within l' from d on the tokens are those of l, up to m -/
def Emb (l l' : List Tk) (d m : Nat) : Prop := ∀ i, i < m → ∃ (h : i < l.length) (h' : d + i < l'.length), SameK l[i] l'[d + i]
theorem Emb.sg {l l' : List Tk} {d m k : Nat} (h : Emb l l' d m) (hk : k < m) (x : List UInt8) : sgB l' (d + k) x = sgB l k x := by
  obtain ⟨h1, h2, h3, h4, h5⟩ := h k hk
  rw [sgB_at h1, sgB_at h2, h3, h4]
theorem Emb.op {l l' : List Tk} {d m k : Nat} (h : Emb l l' d m) (hk : k < m) : opAt l' (d + k) = opAt l k := by
  obtain ⟨h1, h2, h3, h4, h5⟩ := h k hk
  rw [opAt_at h1, opAt_at h2, h3, h4]
/-- what reads well reads the same elsewhere, if what follows is the same operator -/
theorem Rd.emb {l l' : List Tk} {d m : Nat} (h : Emb l l' d m) (ho : opAt l' (d + m) = opAt l m) {md : Md} {k : Nat} {r : Res} (hr : Rd l md k r) : ∀ {e : Ex} {j : Nat}, r = .ok e j → 1 ≤ md.lvl → k ≤ l.length → j ≤ m → Rd l' md (d + k) (.ok e (d + j)) := by
  have op : ∀ k, k ≤ m → opAt l' (d + k) = opAt l k := fun k hk => by
    rcases Nat.lt_or_ge k m with h1 | h1
    · exact h.op h1
    · obtain rfl : k = m := by omega
      exact ho
  induction hr with
  | num h0 h1 h2 =>
    rename_i k1
    intro e j hr hl hk hj; cases hr
    obtain ⟨g1, g2, g3⟩ := h k1 (by omega)
    have := Rd.num (l := l') (k := d + k1) g2 (by rw [← g3.1]; exact h1) (by rw [← g3.num]; exact h2)
    rw [← g3.2.2] at this
    exact this
  | nam h0 h1 h2 =>
    rename_i k1
    intro e j hr hl hk hj; cases hr
    obtain ⟨g1, g2, g3⟩ := h k1 (by omega)
    have := Rd.nam (l := l') (k := d + k1) g2 (by rw [← g3.1]; exact h1) (by rw [← g3.nam]; exact h2)
    rw [← g3.2.1] at this
    exact this
  | neg h0 h1 ih =>
    intro e j hr hl hk hj; cases hr
    obtain ⟨hs, _⟩ := sgB_some h0
    have hb := h1.bound (by decide) (by omega)
    simp only [Res.end_] at hb
    exact .neg (by rw [h.sg (by omega)]; exact h0) (ih rfl (by decide) (by omega) hj)
  | negB => intro e j hr; cases hr
  | no h0 h1 ih =>
    intro e j hr hl hk hj; cases hr
    obtain ⟨hs, _⟩ := sgB_some h0
    have hb := h1.bound (by decide) (by omega)
    simp only [Res.end_] at hb
    exact .no (by rw [h.sg (by omega)]; exact h0) (ih rfl (by decide) (by omega) hj)
  | noB => intro e j hr; cases hr
  | par h0 h1 h2 ih =>
    rename_i k1 j1 e1
    intro e j hr hl hk hj; cases hr
    obtain ⟨hs, _⟩ := sgB_some h0
    have hb := h1.bound (by decide) (by omega)
    simp only [Res.end_] at hb
    exact Rd.par (k := d + k1) (j := d + j1) (by rw [h.sg (by omega)]; exact h0) (ih rfl (by decide) (by omega) (by omega)) (by rw [h.sg (by omega)]; exact h2)
  | parN => intro e j hr; cases hr
  | parB => intro e j hr; cases hr
  | out => intro e j hr; cases hr
  | bad => intro e j hr; cases hr
  | six hp h0 ih => intro e j hr hl hk hj; exact .six hp (ih hr (by decide) hk hj)
  | binB => intro e j hr; cases hr
  | bin hp h0 h1 ih ih1 =>
    intro e j hr hl hk hj
    subst hr
    simp only [Md.lvl] at *
    have hb := h0.bound (by simp only [Md.lvl]; omega) hk
    simp only [Res.end_] at hb
    have hb1 := h1.bound hl hb.2.1
    simp only [Res.end_] at hb1
    exact .bin hp (ih rfl (by omega) hk (by omega)) (ih1 rfl hl hb.2.1 hj)
  | fin h0 => intro e j hr hl hk hj; cases hr; exact .fin (by rw [op _ hj]; exact h0)
  | argB => intro e j hr; cases hr
  | three hp h0 h1 ih =>
    rename_i k1 p1 j1 e1 f1
    intro e j hr hl hk hj; cases hr
    simp only [Md.lvl] at *
    have hlt := opAt_lt h0 hl
    have hb := h1.bound (by simp only [Md.lvl]; omega) (by omega)
    simp only [Res.end_] at hb
    have hop := op k1 (by omega)
    have := Rd.three (l := l') (k := d + k1) (j := d + j1) (e := e1) hp (by rw [hop]; exact h0) (ih rfl (by omega) (by omega) hj)
    rw [hop] at this
    exact this
  | more hp h0 h1 h2 ih ih2 =>
    rename_i k1 p1 j1 e1 f1 r1
    intro e j hr hl hk hj
    subst hr
    simp only [Md.lvl] at *
    have hlt := opAt_lt h0 hl
    have hb := h1.bound (by simp only [Md.lvl]; omega) (by omega)
    simp only [Res.end_] at hb
    have hb2 := h2.bound hl hb.2.1
    simp only [Res.end_] at hb2
    have hop := op k1 (by omega)
    have := Rd.more (l := l') (k := d + k1) (j := d + j1) (e := e1) hp (by rw [hop]; exact h0) (ih rfl (by omega) (by omega) (by omega)) (by rw [hop]; exact ih2 rfl hl hb.2.1 hj)
    exact this
end Go.Proofs.YtmokejjndkibhaaGreatDoor

namespace Go.Proofs.YtmokejjndkibhaaGreatDoor
set_option linter.unusedVariables false
set_option linter.unusedSimpArgs false
open Ex

/-- the depth behind a byte -/
def nx (d : Nat) (c : UInt8) : Nat := if c = 40 then d + 1 else if c = 41 then d - 1 else d
/-- a text cut at the spaces outside of brackets -/
def sp : Nat → List UInt8 → List UInt8 → List (List UInt8)
  | _, cur, [] => [cur]
  | d, cur, c :: s => if c = 32 ∧ d = 0 then cur :: sp 0 [] s else sp (nx d c) (cur ++ [c]) s
def dep : Nat → List UInt8 → Nat
  | d, [] => d
  | d, c :: s => dep (nx d c) s
theorem dep_app : ∀ (x y : List UInt8) (d : Nat), dep d (x ++ y) = dep (dep d x) y
  | [], y, d => rfl
  | c :: x, y, d => by simp only [List.cons_append, dep]; exact dep_app x y _
theorem sp_cut : ∀ (x : List UInt8) (d : Nat) (cur y : List UInt8), dep d x = 0 → sp d cur (x ++ 32 :: y) = sp d cur x ++ sp 0 [] y
  | [], d, cur, y, h => by have : d = 0 := h; subst this; simp [sp]
  | c :: x, d, cur, y, h => by
    simp only [dep] at h
    simp only [List.cons_append, sp]
    by_cases hc : c = 32 ∧ d = 0
    · obtain ⟨rfl, rfl⟩ := hc
      rw [if_pos ⟨rfl, rfl⟩, if_pos ⟨rfl, rfl⟩, sp_cut x 0 [] y h]; rfl
    · rw [if_neg hc, if_neg hc, sp_cut x _ _ y h]
theorem sp_step {d : Nat} {cur : List UInt8} {c : UInt8} {s : List UInt8} (h : ¬ (c = 32 ∧ d = 0)) : sp d cur (c :: s) = sp (nx d c) (cur ++ [c]) s := by
  simp only [sp]; rw [if_neg h]
theorem sp_cur : ∀ (x : List UInt8) (d : Nat), ∃ h t, ∀ cur, sp d cur x = (cur ++ h) :: t
  | [], d => ⟨[], [], fun cur => by simp [sp]⟩
  | c :: x, d => by
    by_cases hc : c = 32 ∧ d = 0
    · exact ⟨[], sp 0 [] x, fun cur => by simp only [sp]; rw [if_pos hc, List.append_nil]⟩
    · obtain ⟨h, t, hh⟩ := sp_cur x (nx d c)
      exact ⟨c :: h, t, fun cur => by simp only [sp]; rw [if_neg hc, hh]; simp⟩
def Safe (x : List UInt8) : Prop := ∀ d cur y, 1 ≤ d → sp d cur (x ++ y) = sp d (cur ++ x) y
def Flat (x : List UInt8) : Prop := ∀ d, dep d x = d
theorem Safe.app {x y : List UInt8} (hx : Safe x) (hy : Safe y) : Safe (x ++ y) := fun d cur z h => by
  rw [List.append_assoc, hx d cur _ h, hy d _ _ h, List.append_assoc]
theorem Flat.app {x y : List UInt8} (hx : Flat x) (hy : Flat y) : Flat (x ++ y) := fun d => by rw [dep_app, hx d, hy d]
theorem nx_plain {d : Nat} {c : UInt8} (h : c ≠ 40 ∧ c ≠ 41) : nx d c = d := by unfold nx; rw [if_neg h.1, if_neg h.2]
theorem safe_plain : ∀ (x : List UInt8), (∀ c ∈ x, c ≠ 40 ∧ c ≠ 41) → Safe x
  | [], _ => fun d cur y _ => by simp
  | c :: x, h => fun d cur y hd => by
    have hc : ¬ (c = 32 ∧ d = 0) := by omega
    simp only [List.cons_append, sp]
    rw [if_neg hc, nx_plain (h c (by simp)), safe_plain x (fun c hc => h c (List.mem_cons_of_mem _ hc)) d _ y hd]
    simp
theorem flat_plain : ∀ (x : List UInt8), (∀ c ∈ x, c ≠ 40 ∧ c ≠ 41) → Flat x
  | [], _ => fun d => rfl
  | c :: x, h => fun d => by
    simp only [dep]
    rw [nx_plain (h c (by simp))]
    exact flat_plain x (fun c hc => h c (List.mem_cons_of_mem _ hc)) d
theorem sp_one : ∀ (x : List UInt8) (d : Nat) (cur : List UInt8), (∀ c ∈ x, c ≠ 32) → sp d cur x = [cur ++ x]
  | [], d, cur, _ => by simp [sp]
  | c :: x, d, cur, h => by
    have hc : ¬ (c = 32 ∧ d = 0) := fun e => h c (by simp) e.1
    simp only [sp]
    rw [if_neg hc, sp_one x _ _ (fun c hc => h c (List.mem_cons_of_mem _ hc))]
    simp
theorem safe_br {x : List UInt8} (h : Safe x) : Safe ([40] ++ x ++ [41]) := fun d cur y hd => by
  have h1 : [40] ++ x ++ [41] ++ y = 40 :: (x ++ 41 :: y) := by simp
  have hc : ¬ ((40 : UInt8) = 32 ∧ d = 0) := by omega
  have hc2 : ¬ ((41 : UInt8) = 32 ∧ d + 1 = 0) := by omega
  rw [h1]
  simp only [sp]
  rw [if_neg hc, show nx d 40 = d + 1 from rfl, h (d + 1) _ _ (by omega)]
  simp only [sp]
  rw [if_neg hc2, show nx (d + 1) 41 = d from rfl]
  simp
theorem flat_br {x : List UInt8} (h : Flat x) : Flat ([40] ++ x ++ [41]) := fun d => by
  rw [dep_app, dep_app]
  show dep (dep (d + 1) x) [41] = d
  rw [h]; rfl
theorem sp_br {x : List UInt8} (h : Safe x) (cur : List UInt8) : sp 0 cur ([40] ++ x ++ [41]) = [cur ++ ([40] ++ x ++ [41])] := by
  have h1 : [40] ++ x ++ [41] = 40 :: (x ++ [41]) := by simp
  rw [h1, sp_step (by decide), show nx 0 40 = 1 from rfl, h 1 _ _ (by omega), sp_step (by decide)]
  simp [sp]

/-- the bytes of numerals, names and signs -/
theorem digits_bytes : ∀ (k n : Nat), n < 10 ^ k → ∀ c ∈ Lib.decDigits n, 48 ≤ c.toNat ∧ c.toNat ≤ 57 := by
  have h1 : ∀ n, n < 10 → ∀ c ∈ Lib.decDigits n, 48 ≤ c.toNat ∧ c.toNat ≤ 57 := by
    intro n hn
    have : ∀ n, n < 10 → ((Lib.decDigits n).all fun c => decide (48 ≤ c.toNat ∧ c.toNat ≤ 57)) = true := by
      intro n hn
      rw [Lib.decDigits_one hn]
      revert n
      decide
    exact fun c hc => by simpa using List.all_eq_true.1 (this n hn) c hc
  intro k
  induction k with
  | zero => intro n h; exact h1 n (by simp at h; omega)
  | succ k ih =>
    intro n h c hc
    by_cases h9 : n < 10
    · exact h1 n h9 c hc
    · rw [Lib.decDigits.eq_def, dif_neg h9, List.mem_append] at hc
      rcases hc with hc | hc
      · exact ih (n / 10) (by rw [Nat.div_lt_iff_lt_mul (by omega)]; rw [Nat.pow_succ] at h; exact h) c hc
      · have := h1 (n % 10) (by omega) c (by rw [Lib.decDigits_one (by omega)]; exact hc)
        exact this
theorem name_bytes {x : List UInt8} (h : isNm x = true) : ∃ c s, x = c :: s ∧ (97 ≤ c.toNat ∧ c.toNat ≤ 122) ∧ ∀ b ∈ x, 48 ≤ b.toNat := by
  unfold isNm at h
  rw [Bool.and_eq_true] at h
  obtain ⟨h1, h2⟩ := h
  have h1 := of_decide_eq_true h1
  have hall : ∀ j, j < x.length → okAt j (x.getD j 0) = true := by
    have : ∀ n, okTo x n = true → ∀ j, j < n → okAt j (x.getD j 0) = true := by
      intro n
      induction n with
      | zero => intro _ j hj; omega
      | succ n ih =>
        intro h j hj
        simp only [okTo, Bool.and_eq_true] at h
        by_cases e : j = n
        · subst e; exact h.2
        · exact ih h.1 j (by omega)
    exact this _ h2
  cases x with
  | nil => simp at h1
  | cons c s =>
    refine ⟨c, s, rfl, ?_, fun b hb => ?_⟩
    · have := hall 0 (by simp)
      simpa [okAt, letter] using this
    · obtain ⟨j, hj, rfl⟩ := List.getElem_of_mem hb
      have := hall j hj
      rw [List.getD_eq_getElem?_getD, List.getElem?_eq_getElem hj] at this
      simp only [Option.getD_some, okAt, letter, other, Bool.or_eq_true, Bool.and_eq_true, decide_eq_true_eq] at this
      omega
/-- what a sign begins with -/
def signOk (w : List UInt8) : Bool := match w with
  | [] => false
  | c :: s => decide (c.toNat < 48 ∨ (57 < c.toNat ∧ c.toNat < 97) ∨ 122 < c.toNat) && decide (c ≠ 40) && (decide (c ≠ 45) || s.isEmpty) && (decide (c ≠ 33) || (s == [61])) && (c :: s).all fun b => decide (b ≠ 40 ∧ b ≠ 41 ∧ b ≠ 32)
theorem sign_ok : ∀ n : Nat, n < 16 → 3 ≤ n → signOk (opOf (n : Int)).sign = true := by decide
theorem sign_inj : ∀ n : Nat, n < 16 → 3 ≤ n → ∀ m : Nat, m < 16 → 3 ≤ m → (opOf (n : Int)).sign = (opOf (m : Int)).sign → n = m := by decide
theorem sign_prec : ∀ n : Nat, n < 16 → 3 ≤ n → 1 ≤ (opOf (n : Int)).prec ∧ (opOf (n : Int)).prec ≤ 5 := by decide
/-- a text that begins as no sign does -/
def Atom (x : List UInt8) : Prop := ∃ c s, x = c :: s ∧ ((48 ≤ c.toNat ∧ c.toNat ≤ 57) ∨ (97 ≤ c.toNat ∧ c.toNat ≤ 122) ∨ c = 40 ∨ (c = 45 ∧ s ≠ []) ∨ (c = 33 ∧ ∃ b r, s = b :: r ∧ b ≠ 61))
theorem Atom.no_sign {x : List UInt8} (h : Atom x) (n : Nat) (h1 : n < 16) (h2 : 3 ≤ n) : (opOf (n : Int)).sign ≠ x := by
  intro e
  have hs := sign_ok n h1 h2
  rw [e] at hs
  obtain ⟨c, s, rfl, h⟩ := h
  simp only [signOk, Bool.and_eq_true, Bool.or_eq_true, decide_eq_true_eq] at hs
  obtain ⟨⟨⟨⟨g1, g2⟩, g3⟩, g4⟩, _⟩ := hs
  rcases h with h | h | h | ⟨h, h'⟩ | ⟨h, b, r, h', h''⟩
  · omega
  · omega
  · exact g2 h
  · rcases g3 with g | g
    · exact g h
    · exact h' (by simpa using g)
  · rcases g4 with g | g
    · exact g h
    · rw [h'] at g
      simp at g
      exact h'' g.1
/-- every sign among ws binds at least as tightly as k -/
def Lo (k : Int) (ws : List (List UInt8)) : Prop := ∀ w ∈ ws, ∀ n : Nat, n < 16 → 3 ≤ n → (opOf (n : Int)).sign = w → k ≤ (opOf (n : Int)).prec
theorem Lo.atom {x : List UInt8} (h : Atom x) (k : Int) : Lo k [x] := fun w hw n h1 h2 e => by
  obtain rfl := List.mem_singleton.1 hw
  exact absurd e (h.no_sign n h1 h2)
theorem Lo.app {k : Int} {a b : List (List UInt8)} (ha : Lo k a) (hb : Lo k b) : Lo k (a ++ b) := fun w hw => by
  rcases List.mem_append.1 hw with h | h
  · exact ha w h
  · exact hb w h
theorem Lo.mono {k k' : Int} {a : List (List UInt8)} (ha : Lo k a) (h : k' ≤ k) : Lo k' a := fun w hw n h1 h2 e => Int.le_trans h (ha w hw n h1 h2 e)
theorem Lo.sign (n : Nat) (h1 : n < 16) (h2 : 3 ≤ n) : Lo (opOf (n : Int)).prec [(opOf (n : Int)).sign] := fun w hw m g1 g2 e => by
  obtain rfl := List.mem_singleton.1 hw
  rw [sign_inj m g1 g2 n h1 h2 e]; exact Int.le_refl _
/-- the sign that binds least, the last of them -/
theorem one_main {A B A' B' : List (List UInt8)} {n m : Nat} (h1 : n < 16) (h2 : 3 ≤ n) (g1 : m < 16) (g2 : 3 ≤ m)
    (hA : Lo (opOf (n : Int)).prec A) (hB : Lo ((opOf (n : Int)).prec + 1) B) (hA' : Lo (opOf (m : Int)).prec A') (hB' : Lo ((opOf (m : Int)).prec + 1) B')
    (e : A ++ ((opOf (n : Int)).sign :: B) = A' ++ ((opOf (m : Int)).sign :: B')) : A = A' ∧ n = m ∧ B = B' := by
  rcases List.append_eq_append_iff.1 e with ⟨u, hu, hv⟩ | ⟨u, hu, hv⟩
  · cases u with
    | nil =>
      simp only [List.append_nil, List.nil_append] at hu hv
      obtain ⟨e1, e2⟩ := List.cons.inj hv
      exact ⟨hu.symm, sign_inj n h1 h2 m g1 g2 e1, e2⟩
    | cons x u =>
      exfalso
      obtain ⟨e1, e2⟩ := List.cons.inj hv
      have a1 := hA' (opOf (n : Int)).sign (by rw [hu, ← e1]; simp) n h1 h2 rfl
      have a2 := hB (opOf (m : Int)).sign (by rw [e2]; simp) m g1 g2 rfl
      omega
  · cases u with
    | nil =>
      simp only [List.append_nil, List.nil_append] at hu hv
      obtain ⟨e1, e2⟩ := List.cons.inj hv
      exact ⟨hu, (sign_inj m g1 g2 n h1 h2 e1).symm, e2.symm⟩
    | cons x u =>
      exfalso
      obtain ⟨e1, e2⟩ := List.cons.inj hv
      have a1 := hA (opOf (m : Int)).sign (by rw [hu, ← e1]; simp) m g1 g2 rfl
      have a2 := hB' (opOf (n : Int)).sign (by rw [e2]; simp) n h1 h2 rfl
      omega

end Go.Proofs.YtmokejjndkibhaaGreatDoor

namespace Go.Proofs.YtmokejjndkibhaaGreatDoor
set_option linter.unusedVariables false
set_option linter.unusedSimpArgs false
open Ex

/-- what is known of a text that stands in a place that asks for l -/
structure Info (l : Int) (x : List UInt8) : Prop where
  safe : Safe x
  flat : Flat x
  head : ∃ c s, x = c :: s ∧ c ≠ 61
  lo : Lo l (sp 0 [] x)
  one : 6 ≤ l → (∀ cur, sp 0 cur x = [cur ++ x]) ∧ Atom x
theorem Info.put {p : Int} {x : List UInt8} (h : Info p x) (l : Int) : Info l (brk l p x) := by
  unfold brk
  by_cases hp : p < l
  · rw [if_pos hp]
    have ha : Atom ([40] ++ x ++ [41]) := ⟨40, x ++ [41], by simp, .inr (.inr (.inl rfl))⟩
    exact ⟨safe_br h.safe, flat_br h.flat, ⟨40, x ++ [41], by simp, by decide⟩, by rw [sp_br h.safe, List.nil_append]; exact Lo.atom ha l, fun _ => ⟨sp_br h.safe, ha⟩⟩
  · rw [if_neg hp]
    exact ⟨h.safe, h.flat, h.head, h.lo.mono (by omega), fun h6 => h.one (by omega)⟩
theorem one_of {x : List UInt8} (h : sp 0 [] x = [x]) (cur : List UInt8) : sp 0 cur x = [cur ++ x] := by
  obtain ⟨a, t, ha⟩ := sp_cur x 0
  have := ha []
  rw [h, List.nil_append] at this
  obtain ⟨rfl, rfl⟩ := List.cons.inj this
  rw [ha]
theorem bin_cut {L R s : List UInt8} (hL : Flat L) (hs : ∀ c ∈ s, c ≠ 40 ∧ c ≠ 41 ∧ c ≠ 32) : sp 0 [] (L ++ [32] ++ s ++ [32] ++ R) = sp 0 [] L ++ (s :: sp 0 [] R) := by
  have e : L ++ [32] ++ s ++ [32] ++ R = L ++ 32 :: (s ++ 32 :: R) := by simp
  rw [e, sp_cut L 0 [] _ (hL 0), sp_cut s 0 [] _ (flat_plain s (fun c hc => ⟨(hs c hc).1, (hs c hc).2.1⟩) 0), sp_one s 0 [] (fun c hc => (hs c hc).2.2)]
  simp
theorem sign_bytes (n : Nat) (h1 : n < 16) (h2 : 3 ≤ n) : ∀ c ∈ (opOf (n : Int)).sign, c ≠ 40 ∧ c ≠ 41 ∧ c ≠ 32 := by
  have h := sign_ok n h1 h2
  unfold signOk at h
  intro c hc
  generalize (opOf (n : Int)).sign = w at *
  cases w with
  | nil => cases hc
  | cons x s =>
    simp only [Bool.and_eq_true] at h
    simpa using List.all_eq_true.1 h.2 c hc
theorem decI_bytes {v : Int} (h2 : v ≤ 1099511627776) : ∀ c ∈ decI v, 48 ≤ c.toNat ∧ c.toNat ≤ 57 := digits_bytes 13 v.toNat (by omega)
theorem digits_ne (n : Nat) : ∃ c s, Lib.decDigits n = c :: s := by
  cases h : Lib.decDigits n with
  | nil =>
    exfalso
    by_cases h9 : n < 10
    · rw [Lib.decDigits_one h9] at h; cases h
    · rw [Lib.decDigits.eq_def, dif_neg h9] at h; simp at h
  | cons c s => exact ⟨c, s, rfl⟩
theorem plain_of {x : List UInt8} (h : ∀ c ∈ x, 48 ≤ c.toNat) : (∀ c ∈ x, c ≠ 40 ∧ c ≠ 41) ∧ ∀ c ∈ x, c ≠ 32 := by
  constructor
  · intro c hc
    have := h c hc
    constructor <;> (rintro rfl; simp at this)
  · intro c hc
    have := h c hc
    rintro rfl; simp at this

theorem txt_un (o : Int) (t : Ex) : txt decI (.mk 3 o [] 0 [t]) = (if o = 1 then [45] else [33]) ++ brk 6 (prec t) (txt decI t) := by simp [txt, txts]
theorem txt_bin (o : Int) (t u : Ex) : txt decI (.mk 4 o [] 0 [t, u]) = brk (if (opOf o).prec = 3 then 4 else (opOf o).prec) (prec t) (txt decI t) ++ [32] ++ (opOf o).sign ++ [32] ++ brk ((opOf o).prec + 1) (prec u) (txt decI u) := by simp [txt, txts]
theorem prec_le {o : Int} (h1 : 3 ≤ o) (h2 : o ≤ 15) : ∃ n : Nat, o = n ∧ n < 16 ∧ 3 ≤ n := ⟨o.toNat, by omega, by omega, by omega⟩
/-- the kind, read off a text -/
def headK : List UInt8 → Int
  | [] => 0
  | c :: _ => if c = 40 then 5 else if c.toNat ≤ 47 then 3 else if c.toNat ≤ 57 then 1 else 2
def kindT (x : List UInt8) : Int := if (sp 0 [] x).length ≠ 1 then 4 else headK x
theorem kindT_one {x : List UInt8} (h : sp 0 [] x = [x]) : kindT x = headK x := by
  unfold kindT
  rw [if_neg (by simp [h])]
theorem txt_info : ∀ (n : Nat) (e : Ex), e.size ≤ n → e.fe = 0 → Info (prec e) (txt decI e) ∧ kindT (txt decI e) = e.kind := by
  intro n
  induction n with
  | zero => intro e he; have := e.size_pos; omega
  | succ n ih =>
    intro e he hfe
    obtain ⟨k, o, nm, v, ts⟩ := e
    obtain ⟨hpc, hfes⟩ := fe_mk hfe
    rcases pc_zero hpc with ⟨rfl, rfl, rfl, hm, hv1, hv2⟩ | ⟨rfl, rfl, rfl, hm, hnm⟩ | ⟨rfl, rfl, rfl, hm, ho⟩ | ⟨rfl, rfl, rfl, hm, ho1, ho2⟩
    · obtain rfl := List.eq_nil_of_length_eq_zero hm
      have HT : txt decI (.mk 1 0 [] v []) = decI v := by simp [txt]
      rw [HT]
      have hb := decI_bytes hv2
      obtain ⟨hp1, hp2⟩ := plain_of (fun c hc => (hb c hc).1)
      obtain ⟨c, s, hcs⟩ := digits_ne v.toNat
      have hcs : decI v = c :: s := hcs
      have hc := hb c (by rw [hcs]; simp)
      have h1 : ∀ cur, sp 0 cur (decI v) = [cur ++ decI v] := fun cur => sp_one _ _ _ hp2
      have ha : Atom (decI v) := ⟨c, s, hcs, .inl hc⟩
      refine ⟨⟨safe_plain _ hp1, flat_plain _ hp1, ⟨c, s, hcs, by rintro rfl; simp at hc⟩, by rw [h1]; exact Lo.atom ha _, fun _ => ⟨h1, ha⟩⟩, ?_⟩
      rw [kindT_one (h1 []), hcs]
      show (if c = 40 then (5 : Int) else _) = 1
      rw [if_neg (by rintro rfl; simp at hc), if_neg (by omega), if_pos hc.2]
    · obtain rfl := List.eq_nil_of_length_eq_zero hm
      have HT : txt decI (.mk 2 0 nm 0 []) = nm := by simp [txt]
      rw [HT]
      obtain ⟨c, s, hcs, hc, hb⟩ := name_bytes hnm
      obtain ⟨hp1, hp2⟩ := plain_of hb
      have h1 : ∀ cur, sp 0 cur nm = [cur ++ nm] := fun cur => sp_one _ _ _ hp2
      have ha : Atom nm := ⟨c, s, hcs, .inr (.inl hc)⟩
      refine ⟨⟨safe_plain _ hp1, flat_plain _ hp1, ⟨c, s, hcs, by rintro rfl; simp at hc⟩, by rw [h1]; exact Lo.atom ha _, fun _ => ⟨h1, ha⟩⟩, ?_⟩
      rw [kindT_one (h1 []), hcs]
      show (if c = 40 then (5 : Int) else _) = 2
      rw [if_neg (by rintro rfl; simp at hc), if_neg (by omega), if_neg (by omega)]
    · obtain ⟨t, rfl⟩ := len1 hm
      have hft : t.fe = 0 := by simpa using fes_get hfes 0 (by simp)
      have hsz : t.size ≤ n := by simp only [Ex.size, Ex.sizes] at he; omega
      have hI := (ih t hsz hft).1.put 6
      rw [txt_un]
      generalize brk 6 (prec t) (txt decI t) = x at *
      obtain ⟨c, s, hcs, hc⟩ := hI.head
      have h1 := (hI.one (by omega)).1
      have go : ∀ b : UInt8, (b = 45 ∨ b = 33) → Info 6 ([b] ++ x) ∧ kindT ([b] ++ x) = 3 := by
        intro b hb
        have hb1 : b ≠ 40 ∧ b ≠ 41 := by rcases hb with rfl | rfl <;> decide
        have hb2 : b ≠ 32 := by rcases hb with rfl | rfl <;> decide
        have hw : sp 0 [] ([b] ++ x) = [[b] ++ x] := by
          show sp 0 [] (b :: x) = _
          rw [sp_step (fun e => hb2 e.1), nx_plain hb1, h1]
          rfl
        have ha : Atom ([b] ++ x) := ⟨b, x, rfl, by
          rcases hb with rfl | rfl
          · exact .inr (.inr (.inr (.inl ⟨rfl, by rw [hcs]; simp⟩)))
          · exact .inr (.inr (.inr (.inr ⟨rfl, c, s, hcs, hc⟩)))⟩
        refine ⟨⟨(safe_plain [b] (by simpa using hb1)).app hI.safe, (flat_plain [b] (by simpa using hb1)).app hI.flat, ⟨b, x, rfl, by rcases hb with rfl | rfl <;> decide⟩, by rw [hw]; exact Lo.atom ha _, fun _ => ⟨one_of hw, ha⟩⟩, ?_⟩
        rw [kindT_one hw]
        rcases hb with rfl | rfl <;> rfl
      rcases ho with rfl | rfl
      · exact go 45 (.inl rfl)
      · exact go 33 (.inr rfl)
    · obtain ⟨t, u, rfl⟩ := len2 hm
      have hft : t.fe = 0 := by simpa using fes_get hfes 0 (by simp)
      have hfu : u.fe = 0 := by simpa using fes_get hfes 1 (by simp)
      have hsz : t.size ≤ n := by simp only [Ex.size, Ex.sizes] at he; omega
      have hsz2 : u.size ≤ n := by simp only [Ex.size, Ex.sizes] at he; omega
      obtain ⟨m, rfl, hm1, hm2⟩ := prec_le ho1 ho2
      have hL := (ih t hsz hft).1.put (if (opOf (m : Int)).prec = 3 then 4 else (opOf (m : Int)).prec)
      have hR := (ih u hsz2 hfu).1.put ((opOf (m : Int)).prec + 1)
      rw [txt_bin]
      obtain ⟨hp1, hp2⟩ := sign_prec m hm1 hm2
      have hs := sign_bytes m hm1 hm2
      have hls := Lo.sign m hm1 hm2
      generalize brk (if (opOf (m : Int)).prec = 3 then 4 else (opOf (m : Int)).prec) (prec t) (txt decI t) = L at *
      generalize brk ((opOf (m : Int)).prec + 1) (prec u) (txt decI u) = R at *
      have hpe : prec (.mk 4 (m : Int) [] 0 [t, u]) = (opOf (m : Int)).prec := by simp [prec, Ex.kind, Ex.op]
      rw [hpe]
      have hw := bin_cut (R := R) hL.flat hs
      have hp32 : ∀ c ∈ [(32 : UInt8)], c ≠ 40 ∧ c ≠ 41 := by decide
      have hss : ∀ c ∈ (opOf (m : Int)).sign, c ≠ 40 ∧ c ≠ 41 := fun c hc => ⟨(hs c hc).1, (hs c hc).2.1⟩
      have hlo : (opOf (m : Int)).prec ≤ (if (opOf (m : Int)).prec = 3 then 4 else (opOf (m : Int)).prec) := by split <;> omega
      refine ⟨⟨(((hL.safe.app (safe_plain _ hp32)).app (safe_plain _ hss)).app (safe_plain _ hp32)).app hR.safe, (((hL.flat.app (flat_plain _ hp32)).app (flat_plain _ hss)).app (flat_plain _ hp32)).app hR.flat, ?_, ?_, fun h6 => by omega⟩, ?_⟩
      · obtain ⟨c, s, hcs, hc⟩ := hL.head
        exact ⟨c, s ++ [32] ++ (opOf (m : Int)).sign ++ [32] ++ R, by rw [hcs]; simp, hc⟩
      · rw [hw]
        exact (hL.lo.mono hlo).app (Lo.app (a := [_]) hls (hR.lo.mono (by omega)))
      · unfold kindT
        rw [hw, if_pos]
        · rfl
        · obtain ⟨h, t', hh⟩ := sp_cur L 0
          rw [hh]
          simp only [List.length_append, List.length_cons]
          omega

/-- put together again -/
def joinS : List (List UInt8) → List UInt8
  | [] => []
  | [w] => w
  | w :: v :: ws => w ++ 32 :: joinS (v :: ws)
theorem sp_join : ∀ (x : List UInt8) (d : Nat) (cur : List UInt8), joinS (sp d cur x) = cur ++ x
  | [], d, cur => by simp [sp, joinS]
  | c :: x, d, cur => by
    by_cases hc : c = 32 ∧ d = 0
    · obtain ⟨rfl, rfl⟩ := hc
      simp only [sp]
      rw [if_pos (by simp)]
      have ih := sp_join x 0 []
      obtain ⟨h, t, hh⟩ := sp_cur x 0
      rw [hh] at ih ⊢
      simp only [joinS]
      rw [ih]; simp
    · rw [sp_step hc, sp_join x]; simp
theorem sp_inj {x y : List UInt8} (h : sp 0 [] x = sp 0 [] y) : x = y := by
  have h1 := sp_join x 0 []
  rw [h, sp_join y] at h1
  simpa using h1.symm
theorem digits_inj : ∀ (k m n : Nat), m < 10 ^ k → Lib.decDigits m = Lib.decDigits n → m = n := by
  have two : ∀ n, ¬ n < 10 → 2 ≤ (Lib.decDigits n).length := by
    intro n h
    obtain ⟨c, s, e⟩ := digits_ne (n / 10)
    rw [Lib.decDigits.eq_def, dif_neg h, e]; simp
  have one : ∀ m n, m < 10 → n < 10 → UInt8.ofNat (48 + m) = UInt8.ofNat (48 + n) → m = n := by
    intro m n hm hn e
    have := congrArg UInt8.toNat e
    simp at this
    omega
  intro k
  induction k with
  | zero =>
    intro m n hm e
    have : m = 0 := by simpa using hm
    subst this
    by_cases hn : n < 10
    · rw [Lib.decDigits_one (by omega), Lib.decDigits_one hn] at e
      exact one 0 n (by omega) hn (List.cons.inj e).1
    · have := two n hn
      rw [← e, Lib.decDigits_one (by omega)] at this
      simp at this
  | succ k ih =>
    intro m n hm e
    by_cases h1 : m < 10
    · by_cases hn : n < 10
      · rw [Lib.decDigits_one h1, Lib.decDigits_one hn] at e
        exact one m n h1 hn (List.cons.inj e).1
      · have := two n hn
        rw [← e, Lib.decDigits_one h1] at this
        simp at this
    · by_cases hn : n < 10
      · have := two m h1
        rw [e, Lib.decDigits_one hn] at this
        simp at this
      · rw [Lib.decDigits.eq_def m, Lib.decDigits.eq_def n, dif_neg h1, dif_neg hn] at e
        obtain ⟨e1, e2⟩ := List.append_inj' e rfl
        have h3 := ih (m / 10) (n / 10) (by rw [Nat.div_lt_iff_lt_mul (by omega)]; rw [Nat.pow_succ] at hm; exact hm) e1
        have h4 := one (m % 10) (n % 10) (by omega) (by omega) (List.cons.inj e2).1
        omega

theorem txt_inj : ∀ (n : Nat) (a : Ex), a.size ≤ n → ∀ b : Ex, a.fe = 0 → b.fe = 0 → txt decI a = txt decI b → a = b := by
  intro n
  induction n with
  | zero => intro e he; have := e.size_pos; omega
  | succ n ih =>
    intro a ha b hfa hfb heq
    have hk : a.kind = b.kind := by rw [← (txt_info _ a (Nat.le_refl _) hfa).2, heq]; exact (txt_info _ b (Nat.le_refl _) hfb).2
    have BI : ∀ (l : Int) (t t' : Ex), t.size ≤ n → t.fe = 0 → t'.fe = 0 → brk l (prec t) (txt decI t) = brk l (prec t') (txt decI t') → t = t' := by
      intro l t t' hs h h' e
      have hc : ∀ (x : List UInt8) (u : Ex), Safe x → u.fe = 0 → [40] ++ x ++ [41] = txt decI u → False := by
        intro x u hx hu e
        have hku := (txt_info _ u (Nat.le_refl _) hu).2
        rw [← e] at hku
        have : kindT ([40] ++ x ++ [41]) = 5 := by
          rw [kindT_one (by rw [sp_br hx, List.nil_append])]; rfl
        rw [this] at hku
        obtain ⟨k, o, nm, v, ts⟩ := u
        have hku : (5 : Int) = k := hku
        rcases pc_zero (fe_mk hu).1 with ⟨h0, _⟩ | ⟨h0, _⟩ | ⟨h0, _⟩ | ⟨h0, _⟩ <;> omega
      have hI := (txt_info _ t (Nat.le_refl _) h).1
      have hI' := (txt_info _ t' (Nat.le_refl _) h').1
      unfold brk at e
      by_cases h1 : prec t < l
      · by_cases h2 : prec t' < l
        · rw [if_pos h1, if_pos h2] at e
          have e2 := List.append_cancel_right e
          exact ih t hs t' h h' (List.append_cancel_left e2)
        · rw [if_pos h1, if_neg h2] at e
          exact (hc _ _ hI.safe h' e).elim
      · by_cases h2 : prec t' < l
        · rw [if_neg h1, if_pos h2] at e
          exact (hc _ _ hI'.safe h e.symm).elim
        · rw [if_neg h1, if_neg h2] at e
          exact ih t hs t' h h' e
    obtain ⟨k, o, nm, v, ts⟩ := a
    obtain ⟨k', o', nm', v', ts'⟩ := b
    obtain rfl : k = k' := hk
    obtain ⟨hpc, hfes⟩ := fe_mk hfa
    obtain ⟨hpc', hfes'⟩ := fe_mk hfb
    rcases pc_zero hpc with ⟨rfl, rfl, rfl, hm, hv1, hv2⟩ | ⟨rfl, rfl, rfl, hm, hnm⟩ | ⟨rfl, rfl, rfl, hm, ho⟩ | ⟨rfl, rfl, rfl, hm, ho1, ho2⟩
    · rcases pc_zero hpc' with ⟨_, rfl, rfl, hm', hv1', hv2'⟩ | ⟨h0, _⟩ | ⟨h0, _⟩ | ⟨h0, _⟩
      · obtain rfl := List.eq_nil_of_length_eq_zero hm
        obtain rfl := List.eq_nil_of_length_eq_zero hm'
        have e : decI v = decI v' := by simpa [txt] using heq
        have := digits_inj 13 v.toNat v'.toNat (by omega) e
        rw [show v = v' by omega]
      · cases h0
      · cases h0
      · cases h0
    · rcases pc_zero hpc' with ⟨h0, _⟩ | ⟨_, rfl, rfl, hm', hnm'⟩ | ⟨h0, _⟩ | ⟨h0, _⟩
      · cases h0
      · obtain rfl := List.eq_nil_of_length_eq_zero hm
        obtain rfl := List.eq_nil_of_length_eq_zero hm'
        have e : nm = nm' := by simpa [txt] using heq
        rw [e]
      · cases h0
      · cases h0
    · rcases pc_zero hpc' with ⟨h0, _⟩ | ⟨h0, _⟩ | ⟨_, rfl, rfl, hm', ho'⟩ | ⟨h0, _⟩
      · cases h0
      · cases h0
      · obtain ⟨t, rfl⟩ := len1 hm
        obtain ⟨t', rfl⟩ := len1 hm'
        have hft : t.fe = 0 := by simpa using fes_get hfes 0 (by simp)
        have hft' : t'.fe = 0 := by simpa using fes_get hfes' 0 (by simp)
        have hsz : t.size ≤ n := by simp only [Ex.size, Ex.sizes] at ha; omega
        rw [txt_un, txt_un] at heq
        have hoo : o = o' ∧ brk 6 (prec t) (txt decI t) = brk 6 (prec t') (txt decI t') := by
          rcases ho with rfl | rfl <;> rcases ho' with rfl | rfl
          · exact ⟨rfl, List.append_cancel_left heq⟩
          · exact absurd (List.cons.inj heq).1 (by decide)
          · exact absurd (List.cons.inj heq).1 (by decide)
          · exact ⟨rfl, List.append_cancel_left heq⟩
        obtain ⟨rfl, e⟩ := hoo
        rw [BI 6 t t' hsz hft hft' e]
      · cases h0
    · rcases pc_zero hpc' with ⟨h0, _⟩ | ⟨h0, _⟩ | ⟨h0, _⟩ | ⟨_, rfl, rfl, hm', ho1', ho2'⟩
      · cases h0
      · cases h0
      · cases h0
      · obtain ⟨t, u, rfl⟩ := len2 hm
        obtain ⟨t', u', rfl⟩ := len2 hm'
        have hft : t.fe = 0 := by simpa using fes_get hfes 0 (by simp)
        have hfu : u.fe = 0 := by simpa using fes_get hfes 1 (by simp)
        have hft' : t'.fe = 0 := by simpa using fes_get hfes' 0 (by simp)
        have hfu' : u'.fe = 0 := by simpa using fes_get hfes' 1 (by simp)
        have hsz : t.size ≤ n := by simp only [Ex.size, Ex.sizes] at ha; omega
        have hsz2 : u.size ≤ n := by simp only [Ex.size, Ex.sizes] at ha; omega
        obtain ⟨m, rfl, hm1, hm2⟩ := prec_le ho1 ho2
        obtain ⟨q, rfl, hq1, hq2⟩ := prec_le ho1' ho2'
        have hL := (txt_info _ t (Nat.le_refl _) hft).1.put (if (opOf (m : Int)).prec = 3 then 4 else (opOf (m : Int)).prec)
        have hR := (txt_info _ u (Nat.le_refl _) hfu).1.put ((opOf (m : Int)).prec + 1)
        have hL' := (txt_info _ t' (Nat.le_refl _) hft').1.put (if (opOf (q : Int)).prec = 3 then 4 else (opOf (q : Int)).prec)
        have hR' := (txt_info _ u' (Nat.le_refl _) hfu').1.put ((opOf (q : Int)).prec + 1)
        have lo1 : ∀ z : Int, z ≤ (if z = 3 then 4 else z) := fun z => by split <;> omega
        rw [txt_bin, txt_bin] at heq
        have hw := congrArg (sp 0 []) heq
        rw [bin_cut hL.flat (sign_bytes m hm1 hm2), bin_cut hL'.flat (sign_bytes q hq1 hq2)] at hw
        obtain ⟨e1, e2, e3⟩ := one_main hm1 hm2 hq1 hq2 (hL.lo.mono (lo1 _)) hR.lo (hL'.lo.mono (lo1 _)) hR'.lo hw
        subst e2
        rw [BI _ t t' hsz hft hft' (sp_inj e1), BI _ u u' hsz2 hfu hfu' (sp_inj e3)]
theorem eqE_self : ∀ (n : Nat) (a : Ex), a.size ≤ n → eqE a a = true := by
  intro n
  induction n with
  | zero => intro e he; have := e.size_pos; omega
  | succ n ih =>
    intro a ha
    obtain ⟨k, o, nm, v, ts⟩ := a
    have hl : ∀ ts : List Ex, sizes ts ≤ n → eqL ts ts = true := by
      intro ts
      induction ts with
      | nil => intro _; rfl
      | cons t ts iht =>
        intro h
        simp only [sizes] at h
        simp only [eqL]
        rw [ih t (by omega), iht (by omega)]; rfl
    simp only [Ex.size] at ha
    simp only [eqE, beq_self_eq_true, hl ts (by omega), Bool.and_true]
theorem eqE_eq : ∀ (n : Nat) (a : Ex), a.size ≤ n → ∀ b, eqE a b = true → a = b := by
  intro n
  induction n with
  | zero => intro e he; have := e.size_pos; omega
  | succ n ih =>
    intro a ha b h
    obtain ⟨k, o, nm, v, ts⟩ := a
    obtain ⟨k', o', nm', v', ts'⟩ := b
    rw [eqE_def] at h
    simp only [Bool.and_eq_true, beq_iff_eq] at h
    obtain ⟨h1, h2, h3, h4, h5⟩ := h
    have hl : ∀ ts ts' : List Ex, sizes ts ≤ n → eqL ts ts' = true → ts = ts' := by
      intro ts
      induction ts with
      | nil =>
        intro ts' _ h
        cases ts' with
        | nil => rfl
        | cons t ts' => simp [eqL] at h
      | cons t ts iht =>
        intro ts' hs h
        cases ts' with
        | nil => simp [eqL] at h
        | cons t' ts' =>
          simp only [sizes] at hs
          simp only [eqL, Bool.and_eq_true] at h
          rw [ih t (by omega) t' h.1, iht ts' (by omega) h.2]
    simp only [Ex.size] at ha
    simp only [Ex.kind, Ex.op, Ex.name, Ex.value, Ex.args] at h1 h2 h3 h4 h5
    rw [h1, h2, h3, h4, hl ts ts' (by omega) h5]
/-- the law's first half -/
theorem texts_eq (a b : Ex) (ha : (prR decI a).2 = 0) (hb : (prR decI b).2 = 0) : ((prR decI a).1 == (prR decI b).1) = (a.chk == 0 && (b.chk == 0 && eqE a b)) := by
  have go : ∀ e : Ex, (prR decI e).2 = 0 → e.chk = 0 ∧ (prR decI e).1 = txt decI e := by
    intro e h
    unfold prR at h ⊢
    by_cases h0 : e.chk ≠ 0
    · rw [if_pos h0] at h; exact absurd h h0
    · rw [if_neg h0]; exact ⟨Classical.not_not.1 h0, rfl⟩
  obtain ⟨a1, a2⟩ := go a ha
  obtain ⟨b1, b2⟩ := go b hb
  rw [a2, b2, a1, b1]
  simp only [beq_self_eq_true, Bool.true_and]
  by_cases h : txt decI a = txt decI b
  · have e := txt_inj _ a (Nat.le_refl _) b (chk_zero a1).2.2 (chk_zero b1).2.2 h
    subst e
    rw [eqE_self _ a (Nat.le_refl _)]
    simp
  · have h2 : eqE a b = false := by
      cases hq : eqE a b with
      | false => rfl
      | true => exact absurd (by rw [eqE_eq _ a (Nat.le_refl _) b hq]) h
    rw [h2]
    simpa using h

end Go.Proofs.YtmokejjndkibhaaGreatDoor

namespace Go.Proofs.YtmokejjndkibhaaGreatDoor
open Go.RowKit Ex
set_option linter.unusedVariables false
set_option linter.unusedSimpArgs false

/-- what may stand behind a text -/
def Nx (y : List UInt8) : Prop := ∀ c, y.head? = some c → c = 32 ∨ c = 41
theorem cntW_all {q : UInt8 → Bool} {y : List UInt8} (hy : ∀ c, y.head? = some c → q c = false) : ∀ w : List UInt8, (∀ c ∈ w, q c = true) → cntW q (w ++ y) = w.length
  | [], _ => by
    cases y with
    | nil => rfl
    | cons c y => rw [List.nil_append, cntW_cons, hy c rfl]; rfl
  | a :: w, h => by
    rw [List.cons_append, cntW_cons, h a (List.mem_cons_self ..), if_pos rfl, cntW_all hy w (fun c hc => h c (List.mem_cons_of_mem _ hc)), List.length_cons]
    omega
theorem take_app (w y : List UInt8) : (w ++ y).take w.length = w := by simp
theorem get_app (w y : List UInt8) : (w ++ y)[w.length]? = y.head? := by
  rw [List.getElem?_append_right (Nat.le_refl _), Nat.sub_self]
  cases y <;> rfl
theorem lex_num {v : Int} (h0 : 0 ≤ v) (h1 : v ≤ 1099511627776) {y : List UInt8} (hy : Nx y) (p : Int) : oneT (decI v ++ y) p = (⟨2, decI v, v, p⟩, 0) := by
  obtain ⟨d1, d2, d3, d4⟩ := dec_digits v.toNat
  have hn : numV (decI v) = v := by show numV (Lib.decDigits v.toNat) = v; rw [numV_nat d1, d3]; omega
  have hdig : ∀ c ∈ decI v, digB c = true := fun c hc => (digB_iff c).2 (d1 c hc)
  have hc := cntW_all (q := digB) (y := y) (fun c hc => by rcases hy c hc with rfl | rfl <;> decide) (decI v) hdig
  have hnz : 1 < (decI v).length → ∀ c, (decI v).head? = some c → c.toNat ≠ 48 := fun hl c hc => by
    by_cases hv : v.toNat < 10
    · have : decI v = [UInt8.ofNat (48 + v.toNat)] := Lib.decDigits_one hv
      rw [this] at hl; simp at hl
    · exact d4 (by omega) c hc
  have hg := get_app (decI v) y
  have ht := take_app (decI v) y
  have hd2 : decI v ≠ [] := d2
  generalize decI v = w at *
  cases w with
  | nil => exact absurd rfl hd2
  | cons c w =>
    have hcd := hdig c (List.mem_cons_self ..)
    have hcl : letB c = false := by
      have := (digB_iff c).1 hcd
      unfold letB; simp; omega
    simp only [List.cons_append] at hc hg ht ⊢
    unfold oneT
    dsimp only
    rw [if_neg (by simp [hcl]), if_pos hcd, hc, ht, hn, if_neg, if_neg (by omega)]
    rintro (⟨e1, e2⟩ | e)
    · exact hnz e1 c rfl e2
    · rw [hg] at e
      cases hy' : y.head? with
      | none => rw [hy'] at e; cases e
      | some d =>
        rw [hy'] at e
        rcases hy d hy' with rfl | rfl <;> exact absurd e (by decide)
theorem nm_all {x : List UInt8} (h : isNm x = true) : x.length ≤ 30 ∧ (∀ c ∈ x, insC c = true) ∧ ∃ c s, x = c :: s ∧ letB c = true := by
  obtain ⟨c, s, hx, hc, _⟩ := name_bytes h
  unfold isNm at h
  rw [Bool.and_eq_true] at h
  obtain ⟨h1, h2⟩ := h
  have h1 := of_decide_eq_true h1
  have hall : ∀ j, j < x.length → okAt j (x.getD j 0) = true := by
    intro j hj
    cases hok : okAt j (x.getD j 0) with
    | true => rfl
    | false => rw [okTo_no x j hok x.length hj] at h2; cases h2
  refine ⟨h1.2, fun b hb => ?_, c, s, hx, by unfold letB; simp; omega⟩
  obtain ⟨j, hj, rfl⟩ := List.getElem_of_mem hb
  have := hall j hj
  rw [show x.getD j 0 = x[j] by simp [hj]] at this
  unfold okAt letter other at this
  unfold insC letB digB
  simp only [Bool.or_eq_true, Bool.and_eq_true, decide_eq_true_eq] at this ⊢
  rcases this with h | ⟨_, h | h⟩
  · exact .inl (.inl h)
  · exact .inl (.inr h)
  · exact .inr h
theorem lex_nam {w : List UInt8} (h : isNm w = true) {y : List UInt8} (hy : Nx y) (p : Int) : oneT (w ++ y) p = (⟨1, w, 0, p⟩, 0) := by
  obtain ⟨h1, h2, c, s, rfl, hc⟩ := nm_all h
  have hcn := cntW_all (q := insC) (y := y) (fun c hc => by rcases hy c hc with rfl | rfl <;> decide) (c :: s) h2
  have ht := take_app (c :: s) y
  simp only [List.cons_append] at hcn ht ⊢
  unfold oneT
  dsimp only
  rw [if_pos hc, hcn, ht, if_neg (by omega)]
theorem lex_sg1 {c : UInt8} (hc : sg1.contains c = true) (hl : letB c = false) (hd : digB c = false) {y : List UInt8} (hy : ∀ d, y.head? = some d → [c, d] ∉ sg2) (p : Int) : oneT (c :: y) p = (⟨3, [c], 0, p⟩, 0) := by
  have e : sgLen (c :: y) = 1 := by
    rw [sgLen_one (fun x hx => ?_), if_pos hc]
    have h2 := (by decide : ∀ z ∈ sg2, z.length = 2) x hx
    match x, h2 with
    | [a, b], _ =>
      cases y with
      | nil => simp [List.isPrefixOf]
      | cons d y =>
        have := hy d rfl
        by_cases e1 : a = c
        · by_cases e2 : b = d
          · subst e1; subst e2; exact absurd hx this
          · simp [List.isPrefixOf, e2]
        · simp [List.isPrefixOf, e1]
  unfold oneT
  dsimp only
  rw [if_neg (by simp [hl]), if_neg (by simp [hd]), e, if_neg (by decide)]
  rfl
theorem lex_sg2 {x : List UInt8} (hx : x ∈ sg2) (y : List UInt8) (p : Int) : oneT (x ++ y) p = (⟨3, x, 0, p⟩, 0) := by
  have hl := (by decide : ∀ z ∈ sg2, z.length = 2 ∧ ∀ c, z.head? = some c → letB c = false ∧ digB c = false) x hx
  have hp : x.isPrefixOf (x ++ y) = true := List.isPrefixOf_iff_prefix.2 (List.prefix_append x y)
  obtain ⟨h1, h2⟩ := sgLen_two hx hl.1 hp
  match x, hl with
  | [a, b], hl =>
    obtain ⟨h3, h4⟩ := hl.2 a rfl
    simp only [List.cons_append, List.nil_append] at h1 h2 ⊢
    unfold oneT
    dsimp only
    rw [if_neg (by simp [h3]), if_neg (by simp [h4]), h1, if_neg (by decide), h2]

def stT (t : Tk) : Tk := { t with pos := 0 }
/-- from a to b the tokens of X are ts -/
def LexAt (X : List UInt8) (a : Nat) (ts : List Tk) (b : Nat) : Prop := ∀ l, Toks X b l 0 0 → ∃ ts', ts'.map stT = ts ∧ Toks X a (ts' ++ l) 0 0
theorem LexAt.trans {X : List UInt8} {a b c : Nat} {t u : List Tk} (h : LexAt X a t b) (g : LexAt X b u c) : LexAt X a (t ++ u) c := fun l hl => by
  obtain ⟨u', hu, h1⟩ := g l hl
  obtain ⟨t', ht, h2⟩ := h _ h1
  exact ⟨t' ++ u', by rw [List.map_append, ht, hu], by rw [List.append_assoc]; exact h2⟩
theorem lex1 {X : List UInt8} {a : Nat} {k v : Int} {c : UInt8} {w y : List UInt8} (hX : X.drop a = c :: w ++ y) (hc : c.toNat ≠ 10 ∧ c.toNat ≠ 32 ∧ c.toNat ≠ 9 ∧ c.toNat ≠ 35) (ho : ∀ p, oneT (c :: w ++ y) p = (⟨k, c :: w, v, p⟩, 0)) : LexAt X a [⟨k, c :: w, v, 0⟩] (a + (c :: w).length) := fun l hl => by
  have hb : blk X a = a := by
    unfold blk; rw [hX]; simp [skipB, hc]
  have hlt : a < X.length := by
    rcases Nat.lt_or_ge a X.length with h | h
    · exact h
    · rw [List.drop_eq_nil_of_le h] at hX; cases hX
  refine ⟨[⟨k, c :: w, v, (a : Int)⟩], rfl, .cons (by rw [hb]; exact hlt) (by rw [hb, hX]; exact ho _) ?_⟩
  rw [hb]
  exact hl
theorem lexS {X : List UInt8} {a : Nat} {y : List UInt8} (hX : X.drop a = 32 :: y) : LexAt X a [] (a + 1) := fun l hl => by
  refine ⟨[], rfl, hl.of_blk ?_⟩
  have h1 : X.drop (a + 1) = y := by rw [← List.drop_drop, hX]; rfl
  unfold blk
  rw [hX, h1]
  simp only [skipB]
  rw [if_neg (by decide), if_neg (by decide), if_neg (by decide), if_pos (.inl rfl)]
  omega
theorem drop_add {X x y : List UInt8} {a : Nat} (h : X.drop a = x ++ y) : X.drop (a + x.length) = y := by
  rw [← List.drop_drop, h, List.drop_left]

/-- brackets among tokens -/
def tkB (limit p : Int) (ts : List Tk) : List Tk := if p < limit then ⟨3, [40], 0, 0⟩ :: (ts ++ [⟨3, [41], 0, 0⟩]) else ts
mutual
def tkE : Ex → List Tk
  | .mk k o n v ts => if k = 1 then [⟨2, decI v, v, 0⟩] else if k = 2 then [⟨1, n, 0, 0⟩] else if k = 3 then ⟨3, if o = 1 then [45] else [33], 0, 0⟩ :: tkB 6 ((tkEs ts).getD 0 (0, [])).1 ((tkEs ts).getD 0 (0, [])).2 else
      tkB (if (opOf o).prec = 3 then 4 else (opOf o).prec) ((tkEs ts).getD 0 (0, [])).1 ((tkEs ts).getD 0 (0, [])).2 ++ ([⟨3, (opOf o).sign, 0, 0⟩] ++ tkB ((opOf o).prec + 1) ((tkEs ts).getD 1 (0, [])).1 ((tkEs ts).getD 1 (0, [])).2)
def tkEs : List Ex → List (Int × List Tk)
  | [] => []
  | e :: es => (prec e, tkE e) :: tkEs es
end
theorem tkE_un (o : Int) (t : Ex) : tkE (.mk 3 o [] 0 [t]) = ⟨3, if o = 1 then [45] else [33], 0, 0⟩ :: tkB 6 (prec t) (tkE t) := by simp [tkE, tkEs]
theorem tkE_bin (o : Int) (t u : Ex) : tkE (.mk 4 o [] 0 [t, u]) = tkB (if (opOf o).prec = 3 then 4 else (opOf o).prec) (prec t) (tkE t) ++ ([⟨3, (opOf o).sign, 0, 0⟩] ++ tkB ((opOf o).prec + 1) (prec u) (tkE u)) := by simp [tkE, tkEs]
theorem sign_kind : ∀ n : Nat, n < 16 → 3 ≤ n → (opOf (n : Int)).sign ∈ sg2 ∨ ∃ c ∈ sg1, (opOf (n : Int)).sign = [c] := by
  have : ∀ n : Nat, n < 16 → 3 ≤ n → (opOf (n : Int)).sign ∈ sg2 ∨ (sg1.any fun c => (opOf (n : Int)).sign == [c]) = true := by decide
  intro n h1 h2
  rcases this n h1 h2 with h | h
  · exact .inl h
  · obtain ⟨c, hc, he⟩ := List.any_eq_true.1 h
    exact .inr ⟨c, hc, by simpa using he⟩
theorem lex_sign {n : Nat} (h1 : n < 16) (h2 : 3 ≤ n) {X : List UInt8} {a : Nat} {y : List UInt8} (hX : X.drop a = (opOf (n : Int)).sign ++ (32 :: y)) : LexAt X a [⟨3, (opOf (n : Int)).sign, 0, 0⟩] (a + (opOf (n : Int)).sign.length) := by
  rcases sign_kind n h1 h2 with h | ⟨c, hc, he⟩
  · have hq := (by decide : ∀ z ∈ sg2, z ≠ [] ∧ ∀ c, z.head? = some c → (c.toNat ≠ 10 ∧ c.toNat ≠ 32 ∧ c.toNat ≠ 9 ∧ c.toNat ≠ 35))
    generalize (opOf (n : Int)).sign = z at *
    have hz := hq z h
    obtain ⟨c, w, rfl⟩ : ∃ c w, z = c :: w := by
      cases z with
      | nil => exact absurd rfl hz.1
      | cons c w => exact ⟨c, w, rfl⟩
    have hc := hz.2 c rfl
    exact lex1 hX hc (fun p => lex_sg2 h _ p)
  · rw [he] at hX ⊢
    have hq := (by decide : ∀ c ∈ sg1, letB c = false ∧ digB c = false ∧ (c.toNat ≠ 10 ∧ c.toNat ≠ 32 ∧ c.toNat ≠ 9 ∧ c.toNat ≠ 35) ∧ [c, 32] ∉ sg2) c hc
    exact lex1 (w := []) hX hq.2.2.1 (fun p => lex_sg1 (List.contains_iff_mem.2 hc) hq.1 hq.2.1 (fun d hd => by simp at hd; subst hd; exact hq.2.2.2) p)
theorem lex_brk {X : List UInt8} {a : Nat} {limit p : Int} {t y : List UInt8} {ts : List Tk} (hy : Nx y) (hX : X.drop a = brk limit p t ++ y)
    (ih : ∀ a y, Nx y → X.drop a = t ++ y → LexAt X a ts (a + t.length)) : LexAt X a (tkB limit p ts) (a + (brk limit p t).length) := by
  unfold brk tkB at *
  by_cases hp : p < limit
  · rw [if_pos hp] at hX ⊢
    rw [if_pos hp]
    have e1 : X.drop a = 40 :: [] ++ (t ++ (41 :: y)) := by rw [hX]; simp
    have g1 := lex1 (k := 3) (v := 0) e1 (by decide) (fun q => lex_sg1 (by decide) (by decide) (by decide) (fun d hd => (by
      have : ∀ z ∈ sg2, z.head? ≠ some 40 := by decide
      exact fun h => this _ h rfl)) q)
    have e2 := drop_add e1
    have g2 := ih _ _ (fun c hc => by simp at hc; exact .inr hc.symm) e2
    have e3 := drop_add e2
    have e3' : X.drop (a + (40 :: ([] : List UInt8)).length + t.length) = 41 :: [] ++ y := by rw [e3]; rfl
    have g3 := lex1 (k := 3) (v := 0) e3' (by decide) (fun q => lex_sg1 (by decide) (by decide) (by decide) (fun d hd => (by
      have : ∀ z ∈ sg2, z.head? ≠ some 41 := by decide
      exact fun h => this _ h rfl)) q)
    have g := g1.trans (g2.trans g3)
    have el : a + (40 :: ([] : List UInt8)).length + t.length + (41 :: ([] : List UInt8)).length = a + ([40] ++ t ++ [41]).length := by simp; omega
    rw [el] at g
    exact g
  · rw [if_neg hp] at hX ⊢
    rw [if_neg hp]
    exact ih a y hy hX
theorem lex_E : ∀ (n : Nat) (e : Ex), e.size ≤ n → e.fe = 0 → ∀ (X : List UInt8) (a : Nat) (y : List UInt8), Nx y → X.drop a = txt decI e ++ y → LexAt X a (tkE e) (a + (txt decI e).length) := by
  intro n
  induction n with
  | zero => intro e he; have := e.size_pos; omega
  | succ n ih =>
    intro e he hfe X a y hy hX
    obtain ⟨k, o, nm, v, ts⟩ := e
    obtain ⟨hpc, hfes⟩ := fe_mk hfe
    rcases pc_zero hpc with ⟨rfl, rfl, rfl, hm, hv1, hv2⟩ | ⟨rfl, rfl, rfl, hm, hnm⟩ | ⟨rfl, rfl, rfl, hm, ho⟩ | ⟨rfl, rfl, rfl, hm, ho1, ho2⟩
    · obtain rfl := List.eq_nil_of_length_eq_zero hm
      have HT : txt decI (.mk 1 0 [] v []) = decI v := by simp [txt]
      have HK : tkE (.mk 1 0 [] v []) = [⟨2, decI v, v, 0⟩] := by simp [tkE]
      rw [HT] at hX ⊢
      rw [HK]
      obtain ⟨c, s, hcs⟩ := digits_ne v.toNat
      have hcs : decI v = c :: s := hcs
      have hc := decI_bytes hv2 c (by rw [hcs]; simp)
      have hl := fun p => lex_num hv1 hv2 hy p
      rw [hcs] at hX hl ⊢
      exact lex1 hX (by omega) hl
    · obtain rfl := List.eq_nil_of_length_eq_zero hm
      have HT : txt decI (.mk 2 0 nm 0 []) = nm := by simp [txt]
      have HK : tkE (.mk 2 0 nm 0 []) = [⟨1, nm, 0, 0⟩] := by simp [tkE]
      rw [HT] at hX ⊢
      rw [HK]
      obtain ⟨c, s, hcs, hc, _⟩ := name_bytes hnm
      have hl := fun p => lex_nam hnm hy p
      rw [hcs] at hX hl ⊢
      exact lex1 hX (by omega) hl
    · obtain ⟨t, rfl⟩ := len1 hm
      have hft : t.fe = 0 := by simpa using fes_get hfes 0 (by simp)
      have hsz : t.size ≤ n := by simp only [Ex.size, Ex.sizes] at he; omega
      have hI := (txt_info _ t (Nat.le_refl _) hft).1.put 6
      obtain ⟨c, s, hcs, hc⟩ := hI.head
      rw [txt_un] at hX ⊢
      rw [tkE_un]
      have go : ∀ b : UInt8, (b = 45 ∨ b = 33) → X.drop a = ([b] ++ brk 6 (prec t) (txt decI t)) ++ y → LexAt X a (⟨3, [b], 0, 0⟩ :: tkB 6 (prec t) (tkE t)) (a + ([b] ++ brk 6 (prec t) (txt decI t)).length) := by
        intro b hb hX
        have e1 : X.drop a = b :: [] ++ (brk 6 (prec t) (txt decI t) ++ y) := by rw [hX]; simp
        have g1 := lex1 (k := 3) (v := 0) e1 (by rcases hb with rfl | rfl <;> decide) (fun q => by
          refine lex_sg1 (by rcases hb with rfl | rfl <;> decide) (by rcases hb with rfl | rfl <;> decide) (by rcases hb with rfl | rfl <;> decide) (fun d hd => ?_) q
          rw [hcs] at hd
          simp at hd
          subst hd
          rcases hb with rfl | rfl
          · have : ∀ z ∈ sg2, z.head? ≠ some 45 := by decide
            exact fun h => this _ h rfl
          · intro h
            simp only [sg2, List.mem_cons, List.not_mem_nil, or_false, List.cons.injEq, and_true] at h
            rcases h with ⟨h, _⟩ | ⟨h, _⟩ | ⟨h, _⟩ | ⟨_, h⟩ | ⟨h, _⟩ | ⟨h, _⟩ <;> first | exact hc h | exact absurd h (by decide))
        have e2 := drop_add e1
        have g2 := lex_brk (ts := tkE t) hy e2 (fun a y hy hX => ih t hsz hft X a y hy hX)
        have g := g1.trans g2
        have el : a + (b :: ([] : List UInt8)).length + (brk 6 (prec t) (txt decI t)).length = a + ([b] ++ brk 6 (prec t) (txt decI t)).length := by simp; omega
        rw [el] at g
        exact g
      rcases ho with rfl | rfl
      · exact go 45 (.inl rfl) hX
      · exact go 33 (.inr rfl) hX
    · obtain ⟨t, u, rfl⟩ := len2 hm
      have hft : t.fe = 0 := by simpa using fes_get hfes 0 (by simp)
      have hfu : u.fe = 0 := by simpa using fes_get hfes 1 (by simp)
      have hsz : t.size ≤ n := by simp only [Ex.size, Ex.sizes] at he; omega
      have hsz2 : u.size ≤ n := by simp only [Ex.size, Ex.sizes] at he; omega
      obtain ⟨m, rfl, hm1, hm2⟩ := prec_le ho1 ho2
      rw [txt_bin] at hX ⊢
      rw [tkE_bin]
      have e1 : X.drop a = brk (if (opOf (m : Int)).prec = 3 then 4 else (opOf (m : Int)).prec) (prec t) (txt decI t) ++ (32 :: ((opOf (m : Int)).sign ++ (32 :: (brk ((opOf (m : Int)).prec + 1) (prec u) (txt decI u) ++ y)))) := by rw [hX]; simp
      have g1 := lex_brk (ts := tkE t) (fun c hc => by simp at hc; exact .inl hc.symm) e1 (fun a y hy hX => ih t hsz hft X a y hy hX)
      have e2 := drop_add e1
      have g2 := lexS e2
      have e3 := drop_add (x := [32]) e2
      have g3 := lex_sign hm1 hm2 e3
      have e4 := drop_add e3
      have g4 := lexS e4
      have e5 := drop_add (x := [32]) e4
      have g5 := lex_brk (ts := tkE u) hy e5 (fun a y hy hX => ih u hsz2 hfu X a y hy hX)
      have g := g1.trans (g2.trans (g3.trans (g4.trans g5)))
      simp only [List.nil_append] at g
      have el : ∀ (L R S : List UInt8), a + L.length + 1 + S.length + 1 + R.length = a + (L ++ [32] ++ S ++ [32] ++ R).length := fun L R S => by simp; omega
      rw [← el]
      exact g
end Go.Proofs.YtmokejjndkibhaaGreatDoor

namespace Go.Proofs.YtmokejjndkibhaaGreatDoor
open Go.RowKit Ex
set_option linter.unusedVariables false
set_option linter.unusedSimpArgs false

theorem Emb.left {t u L : List Tk} {d : Nat} (h : Emb (t ++ u) L d (t ++ u).length) : Emb t L d t.length := fun i hi => by
  obtain ⟨h1, h2, h3⟩ := h i (by simp; omega)
  exact ⟨hi, h2, by rw [List.getElem_append_left hi] at h3; exact h3⟩
theorem Emb.right {t u L : List Tk} {d : Nat} (h : Emb (t ++ u) L d (t ++ u).length) : Emb u L (d + t.length) u.length := fun i hi => by
  obtain ⟨h1, h2, h3⟩ := h (t.length + i) (by simp; omega)
  refine ⟨hi, by omega, ?_⟩
  rw [List.getElem_append_right (by omega)] at h3
  simp only [show t.length + i - t.length = i by omega, show d + (t.length + i) = d + t.length + i by omega] at h3
  exact h3
theorem Emb.one {k v p : Int} {x : List UInt8} {L : List Tk} {d : Nat} (h : Emb [⟨k, x, v, p⟩] L d 1) : ∃ hd : d < L.length, L[d].kind = k ∧ L[d].text = x ∧ L[d].val = v := by
  obtain ⟨_, h2, h3, h4, h5⟩ := h 0 (by omega)
  exact ⟨h2, h3.symm, h4.symm, h5.symm⟩
theorem Emb.sign {x : List UInt8} {p : Int} {L : List Tk} {d : Nat} (h : Emb [⟨3, x, 0, p⟩] L d 1) : sgB L d x = true ∧ opAt L d = lxF x := by
  obtain ⟨h1, h2, h3, _⟩ := h.one
  exact ⟨by rw [sgB_at h1]; simp [h2, h3], by rw [opAt_at h1, if_pos h2, h3]⟩
theorem sign_op : ∀ n : Nat, n < 16 → 3 ≤ n → lxF (opOf (n : Int)).sign = ((n : Int), (opOf (n : Int)).prec) := by decide
/-- what follows is no operator of these precedences -/
def NoOp (L : List Tk) (j a b : Nat) : Prop := ∀ q, a ≤ q → q < b → (opAt L j).2 ≠ ((q : Nat) : Int)
theorem NoOp.mono {L : List Tk} {j a b a' b' : Nat} (h : NoOp L j a b) (h1 : a ≤ a') (h2 : b' ≤ b) : NoOp L j a' b' := fun q g1 g2 => h q (by omega) (by omega)
theorem bin6_opd {L : List Tk} {k : Nat} {r : Res} (h : Rd L (.bin 6) k r) : Rd L .opd k r := by
  cases h with
  | six _ h => exact h
  | binB hp _ => omega
  | bin hp _ _ => omega
/-- e reads at every precedence that its own allows; and what a loop goes on with -/
structure Reads (L : List Tk) (d : Nat) (e : Ex) (len : Nat) (pr : Int) : Prop where
  at_ : ∀ p : Nat, 1 ≤ p → (p : Int) ≤ pr → p ≤ 6 → NoOp L (d + len) p 6 → Rd L (.bin p) d (.ok e (d + len))
  on : ∀ p : Nat, 1 ≤ p → p ≤ 5 → (p : Int) ≤ pr → (p ≠ 3 ∨ (p : Int) < pr) → NoOp L (d + len) (p + 1) 6 → ∀ r, Rd L (.loop p e) (d + len) r → Rd L (.bin p) d r
theorem Reads.of_opd {L : List Tk} {d : Nat} {e : Ex} {len : Nat} {pr : Int} (h : Rd L .opd d (.ok e (d + len))) : Reads L d e len pr :=
  ⟨fun p h1 h2 h3 hn => Rd.opd h3 h hn, fun p h1 h2 h3 _ hn r hr => .bin h2 (Rd.opd (by omega) h hn) hr⟩
/-- in brackets or not -/
theorem Reads.brk {L : List Tk} {d : Nat} {e : Ex} {ts : List Tk} {pr limit : Int} (hl : limit ≤ 6) (hE : Emb (tkB limit pr ts) L d (tkB limit pr ts).length) (hpr : 1 ≤ pr) (ih : ∀ d, Emb ts L d ts.length → Reads L d e ts.length pr) : Reads L d e (tkB limit pr ts).length limit := by
  unfold tkB at *
  by_cases hp : pr < limit
  · rw [if_pos hp] at *
    have e1 : (⟨3, [40], 0, 0⟩ :: (ts ++ [⟨3, [41], 0, 0⟩]) : List Tk) = [⟨3, [40], 0, 0⟩] ++ (ts ++ [⟨3, [41], 0, 0⟩]) := rfl
    rw [e1] at hE
    have g1 := hE.left.sign
    have g2 := hE.right
    have g3 := g2.left
    have g4 := g2.right.sign
    have hr := (ih _ g3).at_ 1 (by omega) (by omega) (by omega) (fun q h1 h2 => by rw [g4.2]; show (0 : Int) ≠ _; omega)
    have ho : Rd L .opd d (.ok e (d + 1 + ts.length + 1)) := .par g1.1 hr g4.1
    have el : d + 1 + ts.length + 1 = d + (⟨3, [40], 0, 0⟩ :: (ts ++ [⟨3, [41], 0, 0⟩]) : List Tk).length := by simp; omega
    rw [el] at ho
    exact Reads.of_opd ho
  · rw [if_neg hp] at *
    have h := ih _ hE
    exact ⟨fun p h1 h2 h3 hn => h.at_ p h1 (by omega) h3 hn, fun p h1 h2 h3 h4 hn r hr => h.on p h1 h2 (by omega) (by omega) hn r hr⟩
theorem prec_pos {e : Ex} (h : e.fe = 0) : 1 ≤ prec e := by
  obtain ⟨k, o, nm, v, ts⟩ := e
  obtain ⟨hpc, _⟩ := fe_mk h
  rcases pc_zero hpc with ⟨rfl, _⟩ | ⟨rfl, _⟩ | ⟨rfl, _⟩ | ⟨rfl, _, _, _, ho1, ho2⟩
  · simp [prec, Ex.kind]
  · simp [prec, Ex.kind]
  · simp [prec, Ex.kind]
  · obtain ⟨m, rfl, hm1, hm2⟩ := prec_le ho1 ho2
    have hpe : prec (.mk 4 (m : Int) nm v ts) = (opOf (m : Int)).prec := by simp [prec, Ex.kind, Ex.op]
    rw [hpe]
    exact (sign_prec m hm1 hm2).1
theorem read_E : ∀ (n : Nat) (e : Ex), e.size ≤ n → e.fe = 0 → (∀ s ∈ nmE e, kwB s = false) → ∀ (L : List Tk) (d : Nat), Emb (tkE e) L d (tkE e).length → 1 ≤ prec e ∧ Reads L d e (tkE e).length (prec e) := by
  intro n
  induction n with
  | zero => intro e he; have := e.size_pos; omega
  | succ n ih =>
    intro e he hfe hkw L d hE
    obtain ⟨k, o, nm, v, ts⟩ := e
    obtain ⟨hpc, hfes⟩ := fe_mk hfe
    rcases pc_zero hpc with ⟨rfl, rfl, rfl, hm, hv1, hv2⟩ | ⟨rfl, rfl, rfl, hm, hnm⟩ | ⟨rfl, rfl, rfl, hm, ho⟩ | ⟨rfl, rfl, rfl, hm, ho1, ho2⟩
    · obtain rfl := List.eq_nil_of_length_eq_zero hm
      have HK : tkE (.mk 1 0 [] v []) = [⟨2, decI v, v, 0⟩] := by simp [tkE]
      rw [HK] at hE ⊢
      refine ⟨by simp [prec, Ex.kind], Reads.of_opd ?_⟩
      obtain ⟨h1, h2, h3, h4⟩ := hE.one
      have hn : numOk L[d] = true := by
        unfold numOk
        rw [h4, h3]
        simp only [decide_eq_true_eq]
        exact ⟨hv1, hv2, rfl⟩
      have := Rd.num h1 h2 hn
      rw [h4] at this
      exact this
    · obtain rfl := List.eq_nil_of_length_eq_zero hm
      have HK : tkE (.mk 2 0 nm 0 []) = [⟨1, nm, 0, 0⟩] := by simp [tkE]
      rw [HK] at hE ⊢
      refine ⟨by simp [prec, Ex.kind], Reads.of_opd ?_⟩
      obtain ⟨h1, h2, h3, h4⟩ := hE.one
      have hn : namOk L[d] = true := by
        unfold namOk
        rw [h3, hnm, hkw nm (by simp [nmE])]
        rfl
      have := Rd.nam h1 h2 hn
      rw [h3] at this
      exact this
    · obtain ⟨t, rfl⟩ := len1 hm
      have hft : t.fe = 0 := by simpa using fes_get hfes 0 (by simp)
      have hsz : t.size ≤ n := by simp only [Ex.size, Ex.sizes] at he; omega
      have hkt : ∀ s ∈ nmE t, kwB s = false := fun s hs => hkw s (by simp [nmE, nmL, hs])
      rw [tkE_un] at hE ⊢
      refine ⟨by simp [prec, Ex.kind], Reads.of_opd ?_⟩
      have e1 : ∀ x : List UInt8, (⟨3, x, 0, 0⟩ :: tkB 6 (prec t) (tkE t) : List Tk) = [⟨3, x, 0, 0⟩] ++ tkB 6 (prec t) (tkE t) := fun _ => rfl
      rw [e1] at hE ⊢
      have g1 := hE.left.sign
      have g2 := Reads.brk (Int.le_refl 6) hE.right (by
        have := (prec_pos hft); exact this) (fun d hE => (ih t hsz hft hkt L d hE).2)
      have g3 := bin6_opd (g2.at_ 6 (by omega) (by omega) (by omega) (fun q h1 h2 => by omega))
      have el : d + 1 + (tkB 6 (prec t) (tkE t)).length = d + ([⟨3, if o = 1 then [45] else [33], 0, 0⟩] ++ tkB 6 (prec t) (tkE t) : List Tk).length := by simp; omega
      rw [← el]
      rcases ho with rfl | rfl
      · exact .neg g1.1 g3
      · exact .no g1.1 g3
    · obtain ⟨t, u, rfl⟩ := len2 hm
      have hft : t.fe = 0 := by simpa using fes_get hfes 0 (by simp)
      have hfu : u.fe = 0 := by simpa using fes_get hfes 1 (by simp)
      have hsz : t.size ≤ n := by simp only [Ex.size, Ex.sizes] at he; omega
      have hsz2 : u.size ≤ n := by simp only [Ex.size, Ex.sizes] at he; omega
      have hkt : ∀ s ∈ nmE t, kwB s = false := fun s hs => hkw s (by simp [nmE, nmL, hs])
      have hku : ∀ s ∈ nmE u, kwB s = false := fun s hs => hkw s (by simp [nmE, nmL, hs])
      obtain ⟨m, rfl, hm1, hm2⟩ := prec_le ho1 ho2
      obtain ⟨hp1, hp2⟩ := sign_prec m hm1 hm2
      have hso := sign_op m hm1 hm2
      have hpe : prec (.mk 4 (m : Int) [] 0 [t, u]) = (opOf (m : Int)).prec := by simp [prec, Ex.kind, Ex.op]
      rw [hpe]
      rw [tkE_bin] at hE ⊢
      obtain ⟨P, hP⟩ : ∃ P : Nat, (opOf (m : Int)).prec = (P : Int) := ⟨(opOf (m : Int)).prec.toNat, by omega⟩
      rw [hP] at hE hp1 hp2 hso ⊢
      have gL := Reads.brk (e := t) (by split <;> omega) hE.left (prec_pos hft) (fun d hE => (ih t hsz hft hkt L d hE).2)
      have gs := hE.right.left.sign
      have gR := Reads.brk (e := u) (by omega) hE.right.right (prec_pos hfu) (fun d hE => (ih u hsz2 hfu hku L d hE).2)
      rw [hso] at gs
      generalize tkB (if (P : Int) = 3 then 4 else (P : Int)) (prec t) (tkE t) = tl at *
      generalize tkB ((P : Int) + 1) (prec u) (tkE u) = tr at *
      simp only [List.length_append, List.length_singleton] at gR gs ⊢
      have el : d + (tl.length + (1 + tr.length)) = d + tl.length + 1 + tr.length := by omega
      have hon : P ≠ 3 → NoOp L (d + (tl.length + (1 + tr.length))) (P + 1) 6 → ∀ r, Rd L (.loop P (binX m t u)) (d + (tl.length + (1 + tr.length))) r → Rd L (.bin P) d r := by
        intro h3 hn r hr
        rw [if_neg (by omega)] at gL
        rw [el] at hn hr
        refine gL.on P (by omega) (by omega) (by omega) (.inl h3) (fun q h1 h2 => by rw [gs.2]; show (P : Int) ≠ _; omega) r ?_
        have hR := gR.at_ (P + 1) (by omega) (by omega) (by omega) hn
        exact .more h3 (by rw [gs.2]) hR (by rw [gs.2]; exact hr)
      have hat : NoOp L (d + (tl.length + (1 + tr.length))) P 6 → Rd L (.bin P) d (.ok (binX m t u) (d + (tl.length + (1 + tr.length)))) := by
        intro hn
        by_cases h3 : P = 3
        · rw [if_pos (by omega)] at gL
          rw [el] at hn ⊢
          have hL := gL.at_ 4 (by omega) (by omega) (by omega) (fun q h1 h2 => by rw [gs.2]; show (P : Int) ≠ _; omega)
          have hR := gR.at_ (P + 1) (by omega) (by omega) (by omega) (hn.mono (by omega) (Nat.le_refl _))
          subst h3
          have := Rd.three rfl (by rw [gs.2]) hR (l := L) (p := 3) (e := t)
          rw [gs.2] at this
          exact .bin (by omega) hL this
        · exact hon h3 (hn.mono (by omega) (Nat.le_refl _)) _ (.fin (hn P (Nat.le_refl _) (by omega)))
      refine ⟨by omega, fun p h1 h2 h3 hn => ?_, fun p h1 h2 h3 h4 hn r hr => ?_⟩
      · have h := hat (hn.mono (by omega) (Nat.le_refl _))
        obtain ⟨c, rfl⟩ : ∃ c, P = p + c := ⟨P - p, by omega⟩
        exact Rd.lift c p (by omega) h (fun q g1 g2 => hn q g1 (by omega))
      · by_cases hpp : p = P
        · subst hpp
          exact hon (by rcases h4 with h | h <;> omega) hn r hr
        · have h := hat (hn.mono (by omega) (Nat.le_refl _))
          obtain ⟨c, rfl⟩ : ∃ c, P = (p + 1) + c := ⟨P - (p + 1), by omega⟩
          exact .bin h2 (Rd.lift c (p + 1) (by omega) h (fun q g1 g2 => hn q g1 (by omega))) hr
end Go.Proofs.YtmokejjndkibhaaGreatDoor

namespace Go.Proofs.YtmokejjndkibhaaGreatDoor
open Go.RowKit Ex
set_option linter.unusedVariables false
set_option linter.unusedSimpArgs false

theorem brk_len2 (l p : Int) (t : List UInt8) : (brk l p t).length ≤ t.length + 2 := by
  unfold brk; split <;> simp
theorem dec_len {v : Int} (h0 : 0 ≤ v) (h1 : v ≤ 1099511627776) : (decI v).length ≤ 13 := by
  show (Lib.decDigits v.toNat).length ≤ 13
  have : ∀ (k n : Nat), n < 10 ^ (k + 1) → (Lib.decDigits n).length ≤ k + 1 := by
    intro k
    induction k with
    | zero => intro n h; rw [Lib.decDigits_one (by simpa using h)]; simp
    | succ k ih =>
      intro n h
      by_cases h9 : n < 10
      · rw [Lib.decDigits_one h9]; simp
      · rw [Lib.decDigits.eq_def, dif_neg h9]
        have := ih (n / 10) (by rw [Nat.pow_succ] at h; omega)
        simp; omega
  exact this 12 v.toNat (by omega)
theorem sign_len2 : ∀ n : Nat, n < 16 → 3 ≤ n → (opOf (n : Int)).sign.length ≤ 2 := by decide
theorem txt_small : ∀ (n : Nat) (e : Ex), e.size ≤ n → e.fe = 0 → (txt decI e).length + 2 ≤ 36 * e.size := by
  intro n
  induction n with
  | zero => intro e he; have := e.size_pos; omega
  | succ n ih =>
    intro e he hfe
    obtain ⟨k, o, nm, v, ts⟩ := e
    obtain ⟨hpc, hfes⟩ := fe_mk hfe
    rcases pc_zero hpc with ⟨rfl, rfl, rfl, hm, hv1, hv2⟩ | ⟨rfl, rfl, rfl, hm, hnm⟩ | ⟨rfl, rfl, rfl, hm, ho⟩ | ⟨rfl, rfl, rfl, hm, ho1, ho2⟩
    · obtain rfl := List.eq_nil_of_length_eq_zero hm
      have HT : txt decI (.mk 1 0 [] v []) = decI v := by simp [txt]
      have HS : (Ex.mk 1 0 [] v []).size = 1 := by simp [Ex.size, Ex.sizes]
      have := dec_len hv1 hv2
      rw [HT, HS]; omega
    · obtain rfl := List.eq_nil_of_length_eq_zero hm
      have HT : txt decI (.mk 2 0 nm 0 []) = nm := by simp [txt]
      have HS : (Ex.mk 2 0 nm 0 []).size = 1 := by simp [Ex.size, Ex.sizes]
      have := (nm_all hnm).1
      rw [HT, HS]; omega
    · obtain ⟨t, rfl⟩ := len1 hm
      have hft : t.fe = 0 := by simpa using fes_get hfes 0 (by simp)
      have hsz : t.size ≤ n := by simp only [Ex.size, Ex.sizes] at he; omega
      have h1 := ih t hsz hft
      have h2 := brk_len2 6 (prec t) (txt decI t)
      have h3 : (if o = 1 then [45] else [33] : List UInt8).length = 1 := by split <;> rfl
      have HS : (Ex.mk 3 o [] 0 [t]).size = 1 + t.size := by simp [Ex.size, Ex.sizes]
      rw [txt_un, HS, List.length_append, h3]; omega
    · obtain ⟨t, u, rfl⟩ := len2 hm
      have hft : t.fe = 0 := by simpa using fes_get hfes 0 (by simp)
      have hfu : u.fe = 0 := by simpa using fes_get hfes 1 (by simp)
      have hsz : t.size ≤ n := by simp only [Ex.size, Ex.sizes] at he; omega
      have hsz2 : u.size ≤ n := by simp only [Ex.size, Ex.sizes] at he; omega
      obtain ⟨m, rfl, hm1, hm2⟩ := prec_le ho1 ho2
      have h1 := ih t hsz hft
      have h2 := ih u hsz2 hfu
      have h3 := brk_len2 (if (opOf (m : Int)).prec = 3 then 4 else (opOf (m : Int)).prec) (prec t) (txt decI t)
      have h4 := brk_len2 ((opOf (m : Int)).prec + 1) (prec u) (txt decI u)
      have h5 := sign_len2 m hm1 hm2
      have HS : (Ex.mk 4 (m : Int) [] 0 [t, u]).size = 1 + (t.size + u.size) := by simp [Ex.size, Ex.sizes]
      rw [txt_bin, HS]
      simp only [List.length_append, List.length_singleton]
      omega
theorem txt_4000 {e : Ex} (hc : e.chk = 0) : (txt decI e).length ≤ 3600 := by
  obtain ⟨h1, _, h2⟩ := chk_zero hc
  have := txt_small e.size e (Nat.le_refl _) h2
  omega
theorem txt_parse {e : Ex} (hc : e.chk = 0) (hkw : ∀ s ∈ nmE e, kwB s = false) : ∃ r, Rd (toksR (txt decI e)).1 (.bin 1) 0 r ∧ psR (txt decI e) r = (e, 0, 0) := by
  have hl := txt_4000 hc
  obtain ⟨_, _, hfe⟩ := chk_zero hc
  have hlex := lex_E e.size e (Nat.le_refl _) hfe (txt decI e) 0 [] (fun c h => by cases h) (by simp)
  rw [Nat.zero_add] at hlex
  have hb : blk (txt decI e) (txt decI e).length = (txt decI e).length := by unfold blk; rw [List.drop_eq_nil_of_le (Nat.le_refl _)]; rfl
  obtain ⟨ts, hts, hT⟩ := hlex _ (.fin (by rw [hb]; exact Nat.le_refl _))
  have hR := hT.toksR (by omega)
  have hlen : ts.length = (tkE e).length := by rw [← hts]; simp
  have hE : Emb (tkE e) (ts ++ [⟨0, [], 0, ((txt decI e).length : Int)⟩]) 0 (tkE e).length := fun i hi => by
    refine ⟨hi, by simp; omega, ?_⟩
    have e1 : (tkE e)[i] = stT (ts[i]'(by omega)) := by
      have : (ts.map stT)[i]'(by simp; omega) = stT (ts[i]'(by omega)) := by simp
      rw [← this]
      congr 1
      exact hts.symm
    have e2 : (ts ++ [⟨0, [], 0, ((txt decI e).length : Int)⟩] : List Tk)[0 + i]'(by simp; omega) = ts[i]'(by omega) := by
      simp only [Nat.zero_add]
      rw [List.getElem_append_left (by omega)]
    rw [e1, e2]
    exact ⟨rfl, rfl, rfl⟩
  obtain ⟨hp, hrd⟩ := read_E e.size e (Nat.le_refl _) hfe hkw _ 0 hE
  have hend : (ts ++ [⟨0, [], 0, ((txt decI e).length : Int)⟩] : List Tk)[(tkE e).length]? = some ⟨0, [], 0, ((txt decI e).length : Int)⟩ := by
    rw [List.getElem?_append_right (by omega), hlen, Nat.sub_self]; rfl
  have hr := hrd.at_ 1 (by omega) (by omega) (by omega) (fun q h1 h2 => by
    unfold opAt
    rw [Nat.zero_add, hend]
    show (0 : Int) ≠ _
    omega)
  rw [Nat.zero_add] at hr
  refine ⟨.ok e (tkE e).length, by rw [hR]; exact hr, ?_⟩
  unfold psR
  rw [hR]
  dsimp only
  rw [if_neg (by decide)]
  unfold psL
  dsimp only
  rw [List.getD_eq_getElem?_getD, hend]
  simp [hc]
/-- what is read has no reserved names -/
theorem Rd.noKw {l : List Tk} {md : Md} {k : Nat} {r : Res} (h : Rd l md k r) : ∀ {e : Ex} {j : Nat}, r = .ok e j → (∀ p e0, md = .loop p e0 → ∀ s ∈ nmE e0, kwB s = false) → ∀ s ∈ nmE e, kwB s = false := by
  induction h with
  | num => intro e j hr _ s hs; cases hr; simp [nmE, nmL] at hs
  | nam h h1 h2 =>
    intro e j hr _ s hs; cases hr
    simp [nmE] at hs
    subst hs
    unfold namOk at h2
    simp at h2
    exact h2.2
  | neg h h1 ih => intro e j hr _ s hs; cases hr; simp [nmE, nmL] at hs; exact ih rfl (fun p e0 h => by cases h) s hs
  | negB => intro e j hr; cases hr
  | no h h1 ih => intro e j hr _ s hs; cases hr; simp [nmE, nmL] at hs; exact ih rfl (fun p e0 h => by cases h) s hs
  | noB => intro e j hr; cases hr
  | par h h1 h2 ih => intro e j hr _ s hs; cases hr; exact ih rfl (fun p e0 h => by cases h) s hs
  | parN => intro e j hr; cases hr
  | parB => intro e j hr; cases hr
  | out => intro e j hr; cases hr
  | bad => intro e j hr; cases hr
  | six hp h ih => intro e j hr _ s hs; exact ih hr (fun p e0 h => by cases h) s hs
  | binB => intro e j hr; cases hr
  | bin hp h h1 ih ih1 => intro e j hr _ s hs; exact ih1 hr (fun p e0 h => by cases h; exact ih rfl (fun p e0 h => by cases h)) s hs
  | fin h => intro e j hr h0 s hs; cases hr; exact h0 _ _ rfl s hs
  | argB => intro e j hr; cases hr
  | three hp h h1 ih =>
    intro e j hr h0 s hs; cases hr
    simp [nmE, nmL] at hs
    rcases hs with hs | hs
    · exact h0 _ _ rfl s hs
    · exact ih rfl (fun p e0 h => by cases h) s hs
  | more hp h h1 h2 ih ih2 =>
    intro e j hr h0 s hs
    refine ih2 hr (fun p e0 h => ?_) s hs
    cases h
    intro s hs
    simp [nmE, nmL] at hs
    rcases hs with hs | hs
    · exact h0 _ _ rfl s hs
    · exact ih rfl (fun p e0 h => by cases h) s hs
/-- what parses has no reserved names, and is valid -/
theorem ps_ok {s : List UInt8} {r : Res} (hR : (toksR s).2.2 = 0 → Rd (toksR s).1 (.bin 1) 0 r) (h0 : (psR s r).2.2 = 0) : (psR s r).1.chk = 0 ∧ ∀ x ∈ nmE (psR s r).1, kwB x = false := by
  by_cases he : (toksR s).2.2 = 0
  · have hR := hR he
    have hps : psR s r = psL (toksR s).1 r := by unfold psR; rw [if_neg (by simp [he])]
    rw [hps] at h0 ⊢
    cases r with
    | bad n => exact absurd (show (3 : Int) = 0 from h0) (by decide)
    | ok x n =>
      unfold psL at h0 ⊢
      dsimp only at h0 ⊢
      by_cases hk : ((toksR s).1.getD n tk0).kind ≠ 0
      · rw [if_pos hk] at h0; exact absurd (show (3 : Int) = 0 from h0) (by decide)
      · rw [if_neg hk] at h0 ⊢
        by_cases hc : x.chk ≠ 0
        · rw [if_pos hc] at h0; exact absurd h0 hc
        · rw [if_neg hc]
          exact ⟨by simpa using hc, hR.noKw rfl (fun p e0 h => by cases h)⟩
  · unfold psR at h0; rw [if_pos he] at h0; exact absurd h0 he
/-- what does not parse gives the zero expression -/
theorem ps_bad {s : List UInt8} {r : Res} (h0 : (psR s r).2.2 ≠ 0) : (psR s r).1 = exZ := by
  unfold psR at h0 ⊢
  split
  · rfl
  · rename_i h
    rw [if_neg h] at h0
    cases r with
    | bad n => rfl
    | ok x n =>
      unfold psL at h0 ⊢
      dsimp only at h0 ⊢
      split
      · rfl
      · rename_i h1
        rw [if_neg h1] at h0
        split
        · rfl
        · rename_i h2
          rw [if_neg h2] at h0
          exact absurd rfl h0
end Go.Proofs.YtmokejjndkibhaaGreatDoor

