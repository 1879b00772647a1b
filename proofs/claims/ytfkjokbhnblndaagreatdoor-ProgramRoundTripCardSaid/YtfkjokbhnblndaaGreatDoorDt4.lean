/- The reader of programs: what it reads, plain; its methods. The reader's methods. Printed by mk_wrr2.py. The reader: booleans, an instruction, an object, a variable. Printed by mk_wrr3.py. Rows that a reader makes. The reader: lists of anything. Printed by mk_wrn.py. The reader: lists of nursery/api.Object. Printed by mk_wrn.py. The reader: lists of nursery/api.Var. Printed by mk_wrn.py. The reader: lists of nursery/api.Func. Printed by mk_wrn.py. -/
import Derived.Laws.MakeOwn
import Derived.Test.YtfkjokbhnblndaaGreatDoorDt3
import Derived.Test.YtfkjokbhnblndaaGreatDoorDt2

namespace Go.Proofs.YtfkjokbhnblndaaGreatDoor
open Go.RowKit Go.Shelf
attribute [local go_sem] sB_extract
set_option linter.unusedVariables false
set_option linter.unusedSimpArgs false

/-- what is left to read, and whether something is wrong -/
abbrev RSt := List UInt8 × Bool
def gNum (s : RSt) : Int × RSt := ((rdI s.1).1, (s.1.drop (rdI s.1).2.1, s.2 || decide ((rdI s.1).2.2 ≠ 0)))
def gTxt (s : RSt) : List UInt8 × RSt := ((rdX s.1).1, (s.1.drop (rdX s.1).2.1, s.2 || decide ((rdX s.1).2.2 ≠ 0)))
def gLst (s : RSt) : List Int × RSt := ((rdL s.1).1, (s.1.drop (rdL s.1).2.1, s.2 || decide ((rdL s.1).2.2 ≠ 0)))
theorem gNum_le (s : RSt) : (gNum s).2.1.length ≤ s.1.length := by simp [gNum]
theorem gTxt_le (s : RSt) : (gTxt s).2.1.length ≤ s.1.length := by simp [gTxt]
theorem gLst_le (s : RSt) : (gLst s).2.1.length ≤ s.1.length := by simp [gLst]
theorem gNum_bd (s : RSt) : -9223372036854775808 ≤ (gNum s).1 ∧ (gNum s).1 ≤ 9223372036854775807 := by
  unfold gNum
  dsimp only
  rcases rdI_err s.1 with h | ⟨h, _⟩
  · have := rdI_ok s.1 (rdI s.1).1 (rdI s.1).2.1 (by rw [← h])
    omega
  · rw [h]; omega
theorem rdI_sz (s : List UInt8) : (rdI s).2.1 ≤ s.length := by
  rcases rdI_err s with h | ⟨_, h, _⟩
  · exact (rdI_ok s (rdI s).1 (rdI s).2.1 (by rw [← h])).2.2.1
  · rw [h]; omega
theorem rdX_sz (s : List UInt8) : (rdX s).2.1 ≤ s.length := by
  by_cases h : (rdX s).2.2 = 0
  · exact (rdX_ok h).2.1
  · rw [(rdX_err h).2]; omega
theorem rdL_sz (s : List UInt8) : (rdL s).2.1 ≤ s.length := by
  by_cases h : (rdL s).2.2 = 0
  · exact (rdL_ok h).2.2.1
  · rw [(rdL_err h).2]; omega
theorem gTxt_bd (s : RSt) : (gTxt s).1.length ≤ 100000 := by
  unfold gTxt
  dsimp only
  by_cases h : (rdX s.1).2.2 = 0
  · exact (rdX_ok h).2.2.2
  · rw [(rdX_err h).1]; simp
theorem gLst_bd (s : RSt) : ∀ n ∈ (gLst s).1, -9223372036854775808 ≤ n ∧ n ≤ 9223372036854775807 := by
  unfold gLst
  dsimp only
  intro n hn
  by_cases h : (rdL s.1).2.2 = 0
  · have := List.all_eq_true.1 (rdL_ok h).1 n hn
    rw [inR_iff] at this
    omega
  · rw [(rdL_err h).1] at hn; cases hn

abbrev tRq : TypeId := 75
abbrev tRp : TypeId := 73
/-- the coder that is a reader -/
abbrev cR (b : Nat) : Value := .iface tRp (.pointer (some ⟨b, 0, none⟩))
/-- a reader in memory -/
def rdQ (s : RSt) : Obj := .cells #[sV s.1, .bool s.2] tRq (0, 0)
/-- all blocks but two are as they were -/
structure Ot2 (R g : Nat) (w w' : World) : Prop where
  os : w'.os = w.os
  tape : w'.tape = w.tape
  output : w'.output = w.output
  size : w.heap.size ≤ w'.heap.size
  other : ∀ j, j < w.heap.size → j ≠ R → j ≠ g → w'.heap[j]? = w.heap[j]?
theorem Ot2.refl (R g : Nat) (w : World) : Ot2 R g w w := ⟨rfl, rfl, rfl, Nat.le_refl _, fun _ _ _ _ => rfl⟩
theorem Ot2.trans {R g : Nat} {a b c : World} (h : Ot2 R g a b) (k : Ot2 R g b c) : Ot2 R g a c :=
  ⟨k.os.trans h.os, k.tape.trans h.tape, k.output.trans h.output, Nat.le_trans h.size k.size, fun j hj h1 h2 => (k.other j (Nat.lt_of_lt_of_le hj h.size) h1 h2).trans (h.other j hj h1 h2)⟩
theorem Ot2.of_ext {R g : Nat} {w w' : World} (h : Ext w w') : Ot2 R g w w' := ⟨h.os, h.tape, h.output, h.size, fun j hj _ _ => h.below.block j hj⟩
/-- a block that the call has made stands for no old one -/
theorem Ot2.new {R g k B : Nat} {w w' : World} (h : Ot2 R k w w') (hk : B ≤ k) (hB : B ≤ w.heap.size) : ∀ j, j < B → j ≠ R → w'.heap[j]? = w.heap[j]? := fun j hj h1 => h.other j (by omega) h1 (by omega)
theorem Ot2.setR {R g i : Nat} (w : World) (v : Value) : Ot2 R g w (w.setCell ⟨R, i, none⟩ v) := ⟨rfl, rfl, rfl, by simp [World.setCell], fun j _ h1 _ => Below.heap_setCell _ _ _ _ h1⟩
theorem Ot2.setG {R g i : Nat} (w : World) (v : Value) : Ot2 R g w (w.setCell ⟨g, i, none⟩ v) := ⟨rfl, rfl, rfl, by simp [World.setCell], fun j _ _ h2 => Below.heap_setCell _ _ _ _ h2⟩
theorem Ot2.block {R g k : Nat} {w w' : World} {o : Obj} (h : Ot2 R g w w') (hk : w.heap[k]? = some o) (h1 : k ≠ R) (h2 : k ≠ g) : w'.heap[k]? = some o := (h.other k (lt_of_block hk) h1 h2).trans hk
theorem heap_set {w : World} {b i : Nat} {c : Array Value} {T : TypeId} {f : Nat × Nat} (h : w.heap[b]? = some (.cells c T f)) (v : Value) : (w.setCell ⟨b, i, none⟩ v).heap[b]? = some (.cells (c.setIfInBounds i v) T f) := by
  simp only [World.setCell, Array.getElem?_modify]
  simp [h]

set_option maxRecDepth 100000 in
set_option maxHeartbeats 1000000 in
theorem rskip_any (R : Nat) (st : RSt) (n : Nat) (e : Int) (w : World) (h : w.heap[R]? = some (rdQ st)) (hn : n ≤ st.1.length) (hl : st.1.length ≤ 10000000) :
    Calls Tryz.prog 211 #[.pointer (some ⟨R, 0, none⟩), .int .i64 (n : Int), .int .i64 e] w fun r w' => r = .returned (.tuple #[]) ∧ w'.heap[R]? = some (rdQ (st.1.drop n, st.2 || decide (e ≠ 0))) ∧ Ot2 R R w w' := by
  obtain ⟨s, b⟩ := st
  have d0 : w.cell? ⟨R, 0, none⟩ = some (sV s) := cell_of h rfl
  have d1 : w.cell? ⟨R, 1, none⟩ = some (.bool b) := cell_of h rfl
  have f0 : ∀ i, w.frozen? ⟨R, i, none⟩ = false := fun i => free_of h
  dsimp only at hn hl
  obtain ⟨v, hv⟩ : ∃ v, (b || decide (e ≠ 0)) = v := ⟨_, rfl⟩
  have HH := Lib.hid h
  have HV := Lib.hid hv
  have hsl : (0 : Int) ≤ (n : Int) := by omega
  have hsl2 : (n : Int) ≤ (s.length : Int) := by omega
  have fin : ∀ V, V = v → (((w.setCell ⟨R, 1, none⟩ (.bool V)).setCell ⟨R, 0, none⟩ (sV (s.drop n))).heap[R]? = some (rdQ (s.drop n, b || decide (e ≠ 0))) ∧ Ot2 R R w ((w.setCell ⟨R, 1, none⟩ (.bool V)).setCell ⟨R, 0, none⟩ (sV (s.drop n)))) := by
    intro V hV
    subst hV
    refine ⟨?_, Ot2.trans (Ot2.setR _ _) (Ot2.setR _ _)⟩
    rw [HV.out]
    exact heap_set (heap_set HH.out _) _
  have FIN := Lib.hid fin
  clear fin h
  cases b with
  | true =>
    have hv' : v = true := by rw [← hv]; rfl
    clear hv
    go_enter Tryz.func211, Tryz.ntmps211
    go_wp2
    go_end0
    refine ⟨rfl, ?_⟩
    have := FIN.out true hv'.symm
    first | exact this | (simp only [List.take_length]; exact this)
  | false =>
    by_cases he : e = 0
    · subst he
      have hv' : v = false := by rw [← hv]; rfl
      clear hv
      go_enter Tryz.func211, Tryz.ntmps211
      go_wp2
      go_end0
      refine ⟨rfl, ?_⟩
      have := FIN.out false hv'.symm
      first | exact this | (simp only [List.take_length]; exact this)
    · have g1 : (e == 0) = false := by simpa using he
      have g2 : (e != 0) = true := by simpa using he
      have hv' : v = true := by rw [← hv]; simp [he]
      clear hv he
      go_enter Tryz.func211, Tryz.ntmps211
      go_wp2
      go_end0
      refine ⟨rfl, ?_⟩
      have := FIN.out true hv'.symm
      first | exact this | (simp only [List.take_length]; exact this)
end Go.Proofs.YtfkjokbhnblndaaGreatDoor

namespace Go.Proofs.YtfkjokbhnblndaaGreatDoor
open Go.RowKit Go.Shelf
set_option linter.unusedVariables false
set_option linter.unusedSimpArgs false

theorem cell_at {w : World} {b i : Nat} {c : Array Value} {T : TypeId} {f : Nat × Nat} (h : w.heap[b]? = some (.cells c T f)) (hi : i < c.size) : w.cell? ⟨b, i, none⟩ = some c[i] := cell_of h (by simp [hi])
theorem _root_.Go.Proofs.YtfkjokbhnblndaaGreatDoor.RowI.ot2 {B R g : Nat} {v : Value} {l : List Int} {w w' : World} (h : RowI B v l w) (hO : Ot2 R g w w') (h1 : R < B) (h2 : g < B) : RowI B v l w' := by
  unfold RowI World.ownsRow at *
  refine ⟨h.1, ?_⟩
  rcases h.2 with hn | ⟨k, cap, cur, rfl, hb, hk, rest⟩
  · exact .inl hn
  · exact .inr ⟨k, cap, cur, rfl, hb, hO.block hk (by omega) (by omega), rest⟩
theorem Ot2.wide {R g : Nat} {w w' : World} (h : Ot2 R R w w') : Ot2 R g w w' := ⟨h.os, h.tape, h.output, h.size, fun j hj h1 _ => h.other j hj h1 h1⟩
set_option maxRecDepth 100000 in
set_option maxHeartbeats 1000000 in
theorem rnum_any (R pb po : Nat) (st : RSt) (cs : Array Value) (T : TypeId) (w : World) (hR : w.heap[R]? = some (rdQ st)) (hP : w.heap[pb]? = some (.cells cs T (0, 0))) (hne : pb ≠ R) (hpo : po < cs.size) (hl : st.1.length ≤ 10000000) :
    Calls Tryz.prog 207 #[.pointer (some ⟨R, 0, none⟩), .pointer (some ⟨pb, po, none⟩)] w fun e w' => e = .returned (.tuple #[]) ∧ w'.heap[R]? = some (rdQ (gNum st).2) ∧ w'.heap[pb]? = some (.cells (cs.setIfInBounds po (.int .i64 (gNum st).1)) T (0, 0)) ∧ Ot2 R pb w w' := by
  have KR := Lib.hid (ReadInt_any st.1 w (by omega))
  have d0 : w.cell? ⟨R, 0, none⟩ = some (sV st.1) := cell_of hR rfl
  have KS := Lib.hid (fun W h => rskip_any R st (rdI st.1).2.1 (rdI st.1).2.2 W h (rdI_sz st.1) hl)
  have HR := Lib.hid hR
  have HP := Lib.hid hP
  have HG := Lib.hid (show (gNum st).2 = (st.1.drop (rdI st.1).2.1, st.2 || decide ((rdI st.1).2.2 ≠ 0)) from rfl)
  have HG1 := Lib.hid (show (gNum st).1 = (rdI st.1).1 from rfl)
  rw [HG.out, HG1.out]
  clear hR hP hl
  generalize (st.1.drop (rdI st.1).2.1, st.2 || decide ((rdI st.1).2.2 ≠ 0)) = st2 at *
  unfold rdV at KR
  generalize (rdI st.1).1 = v at *
  generalize (rdI st.1).2.1 = n at *
  generalize (rdI st.1).2.2 = er at *
  generalize st.1 = s at d0 KR
  clear HG HG1
  go_enter Tryz.func207, Tryz.ntmps207
  go_wp2_with fail
  refine (show Gives _ _ _ _ _ from KR.out).mono ?_
  intro w1 hE1
  replace hE1 : Ext w w1 := hE1
  have HE1 := Lib.hid hE1
  clear hE1
  have HR1 := Lib.hid ((HE1.out.below.block _ (lt_of_block HR.out)).trans HR.out)
  have HP1 := Lib.hid ((HE1.out.below.block _ (lt_of_block HP.out)).trans HP.out)
  go_wp2_with fail
  refine (show Calls _ _ _ _ _ from KS.out _ HR1.out).mono ?_
  rintro _ w2 ⟨rfl, hR2, hO⟩
  have HR2 := Lib.hid hR2
  have HO := Lib.hid hO
  have HP2 := Lib.hid (hO.block HP1.out hne hne)
  clear hR2 hO d0
  have e0 := cell_at HP2.out hpo
  have e1 : w2.frozen? ⟨pb, po, none⟩ = false := free_of HP2.out
  go_wp2
  go_end0
  exact ⟨rfl, (Below.heap_setCell _ _ _ _ (fun e => hne e.symm)).trans HR2.out, heap_set HP2.out _, Ot2.trans (Ot2.trans (Ot2.of_ext HE1.out) (HO.out.wide)) (Ot2.setG _ _)⟩
set_option maxRecDepth 100000 in
set_option maxHeartbeats 1000000 in
theorem rtext_any (R pb po : Nat) (st : RSt) (cs : Array Value) (T : TypeId) (w : World) (hR : w.heap[R]? = some (rdQ st)) (hP : w.heap[pb]? = some (.cells cs T (0, 0))) (hne : pb ≠ R) (hpo : po < cs.size) (hl : st.1.length ≤ 10000000) :
    Calls Tryz.prog 209 #[.pointer (some ⟨R, 0, none⟩), .pointer (some ⟨pb, po, none⟩)] w fun e w' => e = .returned (.tuple #[]) ∧ w'.heap[R]? = some (rdQ (gTxt st).2) ∧ w'.heap[pb]? = some (.cells (cs.setIfInBounds po (sV (gTxt st).1)) T (0, 0)) ∧ Ot2 R pb w w' := by
  have KR := Lib.hid (ReadText_any st.1 w hl)
  have d0 : w.cell? ⟨R, 0, none⟩ = some (sV st.1) := cell_of hR rfl
  have KS := Lib.hid (fun W h => rskip_any R st (rdX st.1).2.1 (rdX st.1).2.2 W h (rdX_sz st.1) hl)
  have HR := Lib.hid hR
  have HP := Lib.hid hP
  have HG := Lib.hid (show (gTxt st).2 = (st.1.drop (rdX st.1).2.1, st.2 || decide ((rdX st.1).2.2 ≠ 0)) from rfl)
  have HG1 := Lib.hid (show (gTxt st).1 = (rdX st.1).1 from rfl)
  rw [HG.out, HG1.out]
  clear hR hP hl
  generalize (st.1.drop (rdX st.1).2.1, st.2 || decide ((rdX st.1).2.2 ≠ 0)) = st2 at *
  unfold rdXV at KR
  generalize (rdX st.1).1 = v at *
  generalize (rdX st.1).2.1 = n at *
  generalize (rdX st.1).2.2 = er at *
  generalize st.1 = s at d0 KR
  clear HG HG1
  go_enter Tryz.func209, Tryz.ntmps209
  go_wp2_with fail
  refine (show Gives _ _ _ _ _ from KR.out).mono ?_
  intro w1 hE1
  replace hE1 : Ext w w1 := hE1
  have HE1 := Lib.hid hE1
  clear hE1
  have HR1 := Lib.hid ((HE1.out.below.block _ (lt_of_block HR.out)).trans HR.out)
  have HP1 := Lib.hid ((HE1.out.below.block _ (lt_of_block HP.out)).trans HP.out)
  go_wp2_with fail
  refine (show Calls _ _ _ _ _ from KS.out _ HR1.out).mono ?_
  rintro _ w2 ⟨rfl, hR2, hO⟩
  have HR2 := Lib.hid hR2
  have HO := Lib.hid hO
  have HP2 := Lib.hid (hO.block HP1.out hne hne)
  clear hR2 hO d0
  have e0 := cell_at HP2.out hpo
  have e1 : w2.frozen? ⟨pb, po, none⟩ = false := free_of HP2.out
  go_wp2
  go_end0
  exact ⟨rfl, (Below.heap_setCell _ _ _ _ (fun e => hne e.symm)).trans HR2.out, heap_set HP2.out _, Ot2.trans (Ot2.trans (Ot2.of_ext HE1.out) (HO.out.wide)) (Ot2.setG _ _)⟩
set_option maxRecDepth 100000 in
set_option maxHeartbeats 1000000 in
theorem rlist_any (R pb po : Nat) (st : RSt) (cs : Array Value) (T : TypeId) (w : World) (hR : w.heap[R]? = some (rdQ st)) (hP : w.heap[pb]? = some (.cells cs T (0, 0))) (hne : pb ≠ R) (hpo : po < cs.size) (hl : st.1.length ≤ 10000000) :
    Calls Tryz.prog 206 #[.pointer (some ⟨R, 0, none⟩), .pointer (some ⟨pb, po, none⟩)] w fun e w' => e = .returned (.tuple #[]) ∧ w'.heap[R]? = some (rdQ (gLst st).2) ∧ (∃ x c, w'.heap[pb]? = some (.cells (cs.setIfInBounds po (.slice x (gLst st).1.length c)) T (0, 0)) ∧ RowI w.heap.size (.slice x (gLst st).1.length c) (gLst st).1 w') ∧ Ot2 R pb w w' := by
  have KR := Lib.hid (ReadList_any st.1 w hl)
  have d0 : w.cell? ⟨R, 0, none⟩ = some (sV st.1) := cell_of hR rfl
  have KS := Lib.hid (fun W h => rskip_any R st (rdL st.1).2.1 (rdL st.1).2.2 W h (rdL_sz st.1) hl)
  have HR := Lib.hid hR
  have HP := Lib.hid hP
  have HG := Lib.hid (show (gLst st).2 = (st.1.drop (rdL st.1).2.1, st.2 || decide ((rdL st.1).2.2 ≠ 0)) from rfl)
  have HG1 := Lib.hid (show (gLst st).1 = (rdL st.1).1 from rfl)
  rw [HG.out, HG1.out]
  clear hR hP hl
  generalize (st.1.drop (rdL st.1).2.1, st.2 || decide ((rdL st.1).2.2 ≠ 0)) = st2 at *
  unfold GivesR at KR
  generalize (rdL st.1).1 = v at *
  generalize (rdL st.1).2.1 = n at *
  generalize (rdL st.1).2.2 = er at *
  generalize st.1 = s at d0 KR
  clear HG HG1
  go_enter Tryz.func206, Tryz.ntmps206
  go_wp2_with fail
  refine (show Calls _ _ _ _ _ from KR.out).mono ?_
  rintro _ w1 ⟨⟨x, c, rfl, hI⟩, hE1⟩
  replace hE1 : Ext w w1 := hE1
  have HI := Lib.hid hI
  clear hI
  have HE1 := Lib.hid hE1
  clear hE1
  have HR1 := Lib.hid ((HE1.out.below.block _ (lt_of_block HR.out)).trans HR.out)
  have HP1 := Lib.hid ((HE1.out.below.block _ (lt_of_block HP.out)).trans HP.out)
  go_wp2_with fail
  refine (show Calls _ _ _ _ _ from KS.out _ HR1.out).mono ?_
  rintro _ w2 ⟨rfl, hR2, hO⟩
  have HR2 := Lib.hid hR2
  have HO := Lib.hid hO
  have HP2 := Lib.hid (hO.block HP1.out hne hne)
  clear hR2 hO d0
  have e0 := cell_at HP2.out hpo
  have e1 : w2.frozen? ⟨pb, po, none⟩ = false := free_of HP2.out
  go_wp2
  go_end0
  exact ⟨rfl, (Below.heap_setCell _ _ _ _ (fun e => hne e.symm)).trans HR2.out, ⟨x, c, heap_set HP2.out _, HI.out.ot2 (Ot2.trans HO.out.wide (Ot2.setG _ _)) (lt_of_block HR.out) (lt_of_block HP.out)⟩, Ot2.trans (Ot2.trans (Ot2.of_ext HE1.out) (HO.out.wide)) (Ot2.setG _ _)⟩
end Go.Proofs.YtfkjokbhnblndaaGreatDoor

namespace Go.Proofs.YtfkjokbhnblndaaGreatDoor
open Go.RowKit Go.Shelf
set_option linter.unusedVariables false
set_option linter.unusedSimpArgs false

theorem Ot2.fresh {R g k : Nat} {w w1 w2 : World} (hE : Ext w w1) (h : Ot2 R k w1 w2) (hk : w.heap.size ≤ k) : Ot2 R g w w2 :=
  ⟨h.os.trans hE.os, h.tape.trans hE.tape, h.output.trans hE.output, Nat.le_trans hE.size h.size, fun j hj h1 _ => (h.other j (Nat.lt_of_lt_of_le hj hE.size) h1 (by omega)).trans (hE.below.block j hj)⟩
def gFlg (s : RSt) : Bool × RSt := ((gNum s).1 == 1, (gNum s).2)
def gIns (s : RSt) : Ins × RSt := (⟨(gNum s).1, (gNum (gNum s).2).1, (gNum (gNum (gNum s).2).2).1, (gNum (gNum (gNum (gNum s).2).2).2).1, (gLst (gNum (gNum (gNum (gNum s).2).2).2).2).1⟩, (gLst (gNum (gNum (gNum (gNum s).2).2).2).2).2)
def gOb (s : RSt) : Ob × RSt := (⟨(gTxt s).1, (gNum (gTxt s).2).1, (gNum (gNum (gTxt s).2).2).1, (gNum (gNum (gNum (gTxt s).2).2).2).1⟩, (gNum (gNum (gNum (gTxt s).2).2).2).2)
def gVa (s : RSt) : Va × RSt := (⟨(gTxt s).1, (gNum (gTxt s).2).1, (gFlg (gNum (gTxt s).2).2).1⟩, (gFlg (gNum (gTxt s).2).2).2)

set_option maxRecDepth 100000 in
set_option maxHeartbeats 1000000 in
theorem rflag_any (R pb po : Nat) (st : RSt) (cs : Array Value) (T : TypeId) (v0 : Bool) (w : World) (hR : w.heap[R]? = some (rdQ st)) (hP : w.heap[pb]? = some (.cells cs T (0, 0))) (hne : pb ≠ R) (hpo : po < cs.size) (hv : cs[po]? = some (.bool v0)) (hl : st.1.length ≤ 10000000) :
    Calls Tryz.prog 52 #[cR R, .pointer (some ⟨pb, po, none⟩)] w fun e w' => e = .returned (.tuple #[]) ∧ w'.heap[R]? = some (rdQ (gFlg st).2) ∧ w'.heap[pb]? = some (.cells (cs.setIfInBounds po (.bool (gFlg st).1)) T (0, 0)) ∧ Ot2 R pb w w' := by
  have KN := Lib.hid (fun W nb x (h : W.heap[R]? = some (rdQ st)) (hb : W.heap[nb]? = some (.cells #[x] 3 (0, 0))) (hn : nb ≠ R) => rnum_any R nb 0 st #[x] 3 W h hb hn (by simp) hl)
  have HG := Lib.hid (show (gFlg st).2 = (gNum st).2 from rfl)
  have HG1 := Lib.hid (show (gFlg st).1 = ((gNum st).1 == 1) from rfl)
  rw [HG.out, HG1.out]
  have dP : w.cell? ⟨pb, po, none⟩ = some (.bool v0) := cell_of hP hv
  have HR := Lib.hid hR
  have HP := Lib.hid hP
  have hlR : R < w.heap.size := lt_of_block hR
  have hlP : pb < w.heap.size := lt_of_block hP
  clear hR hP HG HG1 hl hv
  generalize (gNum st).2 = st2 at *
  generalize (gNum st).1 = n at *
  go_enter Tryz.func52, Tryz.ntmps52
  cases v0 with
  | true =>
    go_wp2_with fail
    have hb1 := alloc_here w (.cells #[.int .i64 1] 3)
    have HE := Lib.hid (ext_alloc (Below.refl _ w) (.cells #[.int .i64 1] 3))
    have HP1 := Lib.hid ((HE.out.below.block _ hlP).trans HP.out)
    refine (show Calls _ _ _ _ _ from KN.out _ w.heap.size (.int .i64 1) ((HE.out.below.block _ hlR).trans HR.out) hb1 (by omega)).mono ?_
    rintro _ w2 ⟨rfl, hR2, hb2, hO⟩
    have HR2 := Lib.hid hR2
    have HO := Lib.hid (show Ot2 R pb w w2 from Ot2.fresh HE.out hO (Nat.le_refl _))
    have HP2 := Lib.hid (hO.block HP1.out hne (by omega))
    have d0 : w2.cell? ⟨w.heap.size, 0, none⟩ = some (.int .i64 n) := cell_of hb2 rfl
    have e0 := cell_at HP2.out hpo
    have e1 : w2.frozen? ⟨pb, po, none⟩ = false := free_of HP2.out
    have hs2 := lt_of_block HP2.out
    clear hb1 hR2 hb2 hO dP
    go_wp2
    go_end0
    exact ⟨rfl, (Below.heap_setCell _ _ _ _ (fun e => hne e.symm)).trans HR2.out, heap_set HP2.out _, Ot2.trans HO.out (Ot2.setG _ _)⟩
  | false =>
    go_wp2_with fail
    have hb1 := alloc_here w (.cells #[.int .i64 0] 3)
    have HE := Lib.hid (ext_alloc (Below.refl _ w) (.cells #[.int .i64 0] 3))
    have HP1 := Lib.hid ((HE.out.below.block _ hlP).trans HP.out)
    refine (show Calls _ _ _ _ _ from KN.out _ w.heap.size (.int .i64 0) ((HE.out.below.block _ hlR).trans HR.out) hb1 (by omega)).mono ?_
    rintro _ w2 ⟨rfl, hR2, hb2, hO⟩
    have HR2 := Lib.hid hR2
    have HO := Lib.hid (show Ot2 R pb w w2 from Ot2.fresh HE.out hO (Nat.le_refl _))
    have HP2 := Lib.hid (hO.block HP1.out hne (by omega))
    have d0 : w2.cell? ⟨w.heap.size, 0, none⟩ = some (.int .i64 n) := cell_of hb2 rfl
    have e0 := cell_at HP2.out hpo
    have e1 : w2.frozen? ⟨pb, po, none⟩ = false := free_of HP2.out
    have hs2 := lt_of_block HP2.out
    clear hb1 hR2 hb2 hO dP
    go_wp2
    go_end0
    exact ⟨rfl, (Below.heap_setCell _ _ _ _ (fun e => hne e.symm)).trans HR2.out, heap_set HP2.out _, Ot2.trans HO.out (Ot2.setG _ _)⟩
set_option maxRecDepth 100000 in
set_option maxHeartbeats 4000000 in
theorem rIns_any (R g o : Nat) (st : RSt) (cs : Array Value) (T : TypeId) (w : World) (hR : w.heap[R]? = some (rdQ st)) (hP : w.heap[g]? = some (.cells cs T (0, 0))) (hne : g ≠ R) (ho : o + 5 ≤ cs.size) (hl : st.1.length ≤ 10000000) :
    Calls Tryz.prog 54 #[cR R, .pointer (some ⟨g, o, none⟩)] w fun e w' => e = .returned (.tuple #[]) ∧ w'.heap[R]? = some (rdQ (gLst (gNum (gNum (gNum (gNum st).2).2).2).2).2) ∧ Ot2 R g w w' ∧ ∃ x c, w'.heap[g]? = some (.cells (((((cs.setIfInBounds o (.int .i64 (gNum st).1)).setIfInBounds (o + 1) (.int .i64 (gNum (gNum st).2).1)).setIfInBounds (o + 2) (.int .i64 (gNum (gNum (gNum st).2).2).1)).setIfInBounds (o + 3) (.int .i64 (gNum (gNum (gNum (gNum st).2).2).2).1)).setIfInBounds (o + 4) (.slice x (gLst (gNum (gNum (gNum (gNum st).2).2).2).2).1.length c)) T (0, 0)) ∧ RowI w.heap.size (.slice x (gLst (gNum (gNum (gNum (gNum st).2).2).2).2).1.length c) (gLst (gNum (gNum (gNum (gNum st).2).2).2).2).1 w' := by
  have hl0 : st.1.length ≤ 10000000 := hl
  have hl1 : (gNum st).2.1.length ≤ 10000000 := Nat.le_trans (gNum_le st) hl0
  have hl2 : (gNum (gNum st).2).2.1.length ≤ 10000000 := Nat.le_trans (gNum_le (gNum st).2) hl1
  have hl3 : (gNum (gNum (gNum st).2).2).2.1.length ≤ 10000000 := Nat.le_trans (gNum_le (gNum (gNum st).2).2) hl2
  have hl4 : (gNum (gNum (gNum (gNum st).2).2).2).2.1.length ≤ 10000000 := Nat.le_trans (gNum_le (gNum (gNum (gNum st).2).2).2) hl3
  have K0 := Lib.hid (fun W (h : W.heap[R]? = some (rdQ st)) (hb : W.heap[g]? = some (.cells cs T (0, 0))) => rnum_any R g o st cs T W h hb hne (by first | omega | (simp; omega)) (by omega))
  have K1 := Lib.hid (fun W (h : W.heap[R]? = some (rdQ (gNum st).2)) (hb : W.heap[g]? = some (.cells (cs.setIfInBounds o (.int .i64 (gNum st).1)) T (0, 0))) => rnum_any R g (o + 1) (gNum st).2 (cs.setIfInBounds o (.int .i64 (gNum st).1)) T W h hb hne (by first | omega | (simp; omega)) (by omega))
  have K2 := Lib.hid (fun W (h : W.heap[R]? = some (rdQ (gNum (gNum st).2).2)) (hb : W.heap[g]? = some (.cells ((cs.setIfInBounds o (.int .i64 (gNum st).1)).setIfInBounds (o + 1) (.int .i64 (gNum (gNum st).2).1)) T (0, 0))) => rnum_any R g (o + 2) (gNum (gNum st).2).2 ((cs.setIfInBounds o (.int .i64 (gNum st).1)).setIfInBounds (o + 1) (.int .i64 (gNum (gNum st).2).1)) T W h hb hne (by first | omega | (simp; omega)) (by omega))
  have K3 := Lib.hid (fun W (h : W.heap[R]? = some (rdQ (gNum (gNum (gNum st).2).2).2)) (hb : W.heap[g]? = some (.cells (((cs.setIfInBounds o (.int .i64 (gNum st).1)).setIfInBounds (o + 1) (.int .i64 (gNum (gNum st).2).1)).setIfInBounds (o + 2) (.int .i64 (gNum (gNum (gNum st).2).2).1)) T (0, 0))) => rnum_any R g (o + 3) (gNum (gNum (gNum st).2).2).2 (((cs.setIfInBounds o (.int .i64 (gNum st).1)).setIfInBounds (o + 1) (.int .i64 (gNum (gNum st).2).1)).setIfInBounds (o + 2) (.int .i64 (gNum (gNum (gNum st).2).2).1)) T W h hb hne (by first | omega | (simp; omega)) (by omega))
  have K4 := Lib.hid (fun W (h : W.heap[R]? = some (rdQ (gNum (gNum (gNum (gNum st).2).2).2).2)) (hb : W.heap[g]? = some (.cells ((((cs.setIfInBounds o (.int .i64 (gNum st).1)).setIfInBounds (o + 1) (.int .i64 (gNum (gNum st).2).1)).setIfInBounds (o + 2) (.int .i64 (gNum (gNum (gNum st).2).2).1)).setIfInBounds (o + 3) (.int .i64 (gNum (gNum (gNum (gNum st).2).2).2).1)) T (0, 0))) => rlist_any R g (o + 4) (gNum (gNum (gNum (gNum st).2).2).2).2 ((((cs.setIfInBounds o (.int .i64 (gNum st).1)).setIfInBounds (o + 1) (.int .i64 (gNum (gNum st).2).1)).setIfInBounds (o + 2) (.int .i64 (gNum (gNum (gNum st).2).2).1)).setIfInBounds (o + 3) (.int .i64 (gNum (gNum (gNum (gNum st).2).2).2).1)) T W h hb hne (by first | omega | (simp; omega)) (by omega))
  have hna_l : ∀ W, Sem.run Tryz.prog (nilAhead 358 tRp (.pointer (some ⟨R, 0, none⟩)) "nursery/program.list") W = .ok (some false) W := fun W => by kernel_rfl
  have hna_n : ∀ W, Sem.run Tryz.prog (nilAhead 358 tRp (.pointer (some ⟨R, 0, none⟩)) "nursery/program.number") W = .ok (some false) W := fun W => by kernel_rfl
  have HR0 := Lib.hid hR
  have HP0 := Lib.hid hP
  have HO0 := Lib.hid (Ot2.refl R g w)
  have hgR : g < w.heap.size ∧ R < w.heap.size := ⟨lt_of_block hP, lt_of_block hR⟩
  have HGR := Lib.hid hgR
  clear hl0 hl hR hP hgR ho hl1 hl2 hl3 hl4
  generalize (gNum st).1 = v1 at *
  generalize (gNum st).2 = s1 at *
  generalize (gNum s1).1 = v2 at *
  generalize (gNum s1).2 = s2 at *
  generalize (gNum s2).1 = v3 at *
  generalize (gNum s2).2 = s3 at *
  generalize (gNum s3).1 = v4 at *
  generalize (gNum s3).2 = s4 at *
  generalize (gLst s4).1 = v5 at *
  generalize (gLst s4).2 = s5 at *
  go_enter Tryz.func54, Tryz.ntmps54
  go_wp2
  refine wp_region_tail (l1 := [_, _, _, _, _, _, _]) (l2 := [_]) (by kernel_rfl) Ext (fun W => Below.refl _ W) (fun W => show Below W.heap.size W { W with drawn := W.drawn + 1 } from ⟨rfl, rfl, rfl, Nat.le_refl _, fun _ _ => rfl⟩) Ext.trans
    (fun i s W => match i with
      | 0 => s 0 = cR R
      | 1 => s 1 = .pointer (some ⟨g, o, none⟩)
      | 2 => s 2 = .pointer (some ⟨g, o, none⟩)
      | 3 => s 3 = .pointer (some ⟨g, o, none⟩)
      | 4 => s 4 = .func (.method "nursery/program.number") #[cR R] #[]
      | 5 => s 5 = .func (.method "nursery/program.number") #[cR R] #[]
      | 6 => s 6 = cR R
      | _ => True)
    (fun i => [i])
    (by
      intro i s s' W W' h hs hE
      have hs := hs i (by simp)
      match i, h, hs with
      | 0, h, hs => exact hs.trans h
      | 1, h, hs => exact hs.trans h
      | 2, h, hs => exact hs.trans h
      | 3, h, hs => exact hs.trans h
      | 4, h, hs => exact hs.trans h
      | 5, h, hs => exact hs.trans h
      | 6, h, hs => exact hs.trans h
      | i + 7, h, hs => exact trivial)
    (by kernel_rfl) (by kernel_rfl) (by kernel_rfl) 44 rfl (by kernel_rfl) (by kernel_rfl) ?_ ?_
  · intro i op ho a' W hA

    match i, ho with
    | 0, ho =>
      obtain rfl := Option.some.inj ho
      have e1 : a'.eval (.tmp 0) = cR R := hA.keep 0 (by kernel_rfl)
      refine GoesG.value (cR R) rfl ?_ (Below.refl _ _) (fun s h1 h2 => h1 rfl)
      simp only [execOp, e1]
      simp [go_sem]
    | 1, ho =>
      obtain rfl := Option.some.inj ho
      have e1 : a'.eval (.tmp 1) = .pointer (some ⟨g, o, none⟩) := hA.keep 1 (by kernel_rfl)
      refine GoesG.value (.pointer (some ⟨g, o, none⟩)) rfl ?_ (Below.refl _ _) (fun s h1 h2 => h1 rfl)
      simp only [execOp, e1]
      simp [go_sem]
    | 2, ho =>
      obtain rfl := Option.some.inj ho
      have e1 : a'.eval (.tmp 5) = .pointer (some ⟨g, o, none⟩) := (sv_dst (l := _) rfl).symm.trans (hA.new 1 (by decide) (by kernel_rfl))
      refine GoesG.value (.pointer (some ⟨g, o, none⟩)) rfl ?_ (Below.refl _ _) (fun s h1 h2 => h1 rfl)
      simp only [execOp, e1]
      simp [go_sem]
    | 3, ho =>
      obtain rfl := Option.some.inj ho
      have e1 : a'.eval (.tmp 6) = .pointer (some ⟨g, o, none⟩) := (sv_dst (l := _) rfl).symm.trans (hA.new 2 (by decide) (by kernel_rfl))
      refine GoesG.value (.pointer (some ⟨g, o, none⟩)) rfl ?_ (Below.refl _ _) (fun s h1 h2 => h1 rfl)
      simp only [execOp, e1]
      simp [go_sem]
    | 4, ho =>
      obtain rfl := Option.some.inj ho
      have e1 : a'.eval (.tmp 4) = cR R := (sv_dst (l := _) rfl).symm.trans (hA.new 0 (by decide) (by kernel_rfl))
      refine GoesG.value (.func (.method "nursery/program.number") #[cR R] #[]) rfl ?_ (Below.refl _ _) (fun s h1 h2 => h1 rfl)
      simp only [execOp, e1]
      simp [go_sem]
      simpa [Act.eval] using e1
    | 5, ho =>
      obtain rfl := Option.some.inj ho
      have e1 : a'.eval (.tmp 8) = .func (.method "nursery/program.number") #[cR R] #[] := (sv_dst (l := _) rfl).symm.trans (hA.new 4 (by decide) (by kernel_rfl))
      refine GoesG.value (.func (.method "nursery/program.number") #[cR R] #[]) rfl ?_ (Below.refl _ _) (fun s h1 h2 => h1 rfl)
      simp only [execOp, e1]
      simp [go_sem, hna_n]
    | 6, ho =>
      obtain rfl := Option.some.inj ho
      have e1 : a'.eval (.tmp 4) = cR R := (sv_dst (l := _) rfl).symm.trans (hA.new 0 (by decide) (by kernel_rfl))
      refine GoesG.value (cR R) rfl ?_ (Below.refl _ _) (fun s h1 h2 => h1 rfl)
      simp only [execOp, e1]
      simp [go_sem]
    | i + 7, ho => cases ho
  · intro vs w1d hvs hG0 hΦ
    obtain ⟨y0, y1, y2, y3, y4, y5, y6, rfl⟩ : ∃ y0 y1 y2 y3 y4 y5 y6, vs = y0 :: y1 :: y2 :: y3 :: y4 :: y5 :: y6 :: [] := by
      match vs, hvs with
      | y0 :: y1 :: y2 :: y3 :: y4 :: y5 :: y6 :: [], _ => exact ⟨y0, y1, y2, y3, y4, y5, y6, rfl⟩
    have e0 : y0 = cR R := hΦ 0 (by decide)
    subst e0
    have e1 : y1 = .pointer (some ⟨g, o, none⟩) := hΦ 1 (by decide)
    subst e1
    have e2 : y2 = .pointer (some ⟨g, o, none⟩) := hΦ 2 (by decide)
    subst e2
    have e3 : y3 = .pointer (some ⟨g, o, none⟩) := hΦ 3 (by decide)
    subst e3
    have e4 : y4 = .func (.method "nursery/program.number") #[cR R] #[] := hΦ 4 (by decide)
    subst e4
    have e5 : y5 = .func (.method "nursery/program.number") #[cR R] #[] := hΦ 5 (by decide)
    subst e5
    have e6 : y6 = cR R := hΦ 6 (by decide)
    subst e6
    clear hΦ hvs
    simp only [putAll, Act.put, List.setIfInBounds_toArray, List.set_cons_succ, List.set_cons_zero]
    have HD0 := Lib.hid hG0
    clear hG0
    go_wp2_with fail
    refine (show Calls _ _ _ _ _ from K0.out _ ((HD0.out.below.block _ (lt_of_block HR0.out)).trans HR0.out) ((HD0.out.below.block _ (lt_of_block HP0.out)).trans HP0.out)).mono ?_
    rintro _ w1 ⟨rfl, hR, hP, hO⟩
    have HR1 := Lib.hid hR
    have HP1 := Lib.hid hP
    have HO1 := Lib.hid (Ot2.trans HO0.out (Ot2.trans (Ot2.of_ext HD0.out) hO))
    clear hR hP hO
    go_wp2
    refine wp_region_tail (l1 := [_, _, _, _, _, _, _]) (l2 := [_]) (by kernel_rfl) Ext (fun W => Below.refl _ W) (fun W => show Below W.heap.size W { W with drawn := W.drawn + 1 } from ⟨rfl, rfl, rfl, Nat.le_refl _, fun _ _ => rfl⟩) Ext.trans
      (fun i s W => match i with
        | 0 => s 0 = cR R
        | 1 => s 1 = .pointer (some ⟨g, o, none⟩)
        | 2 => s 2 = .pointer (some ⟨g, o, none⟩)
        | 3 => s 3 = .pointer (some ⟨g, o + 1, none⟩)
        | 4 => s 4 = .func (.method "nursery/program.number") #[cR R] #[]
        | 5 => s 5 = .func (.method "nursery/program.number") #[cR R] #[]
        | 6 => s 6 = cR R
        | _ => True)
      (fun i => [i])
      (by
        intro i s s' W W' h hs hE
        have hs := hs i (by simp)
        match i, h, hs with
        | 0, h, hs => exact hs.trans h
        | 1, h, hs => exact hs.trans h
        | 2, h, hs => exact hs.trans h
        | 3, h, hs => exact hs.trans h
        | 4, h, hs => exact hs.trans h
        | 5, h, hs => exact hs.trans h
        | 6, h, hs => exact hs.trans h
        | i + 7, h, hs => exact trivial)
      (by kernel_rfl) (by kernel_rfl) (by kernel_rfl) 44 rfl (by kernel_rfl) (by kernel_rfl) ?_ ?_
    · intro i op ho a' W hA

      match i, ho with
      | 0, ho =>
        obtain rfl := Option.some.inj ho
        have e1 : a'.eval (.tmp 0) = cR R := hA.keep 0 (by kernel_rfl)
        refine GoesG.value (cR R) rfl ?_ (Below.refl _ _) (fun s h1 h2 => h1 rfl)
        simp only [execOp, e1]
        simp [go_sem]
      | 1, ho =>
        obtain rfl := Option.some.inj ho
        have e1 : a'.eval (.tmp 1) = .pointer (some ⟨g, o, none⟩) := hA.keep 1 (by kernel_rfl)
        refine GoesG.value (.pointer (some ⟨g, o, none⟩)) rfl ?_ (Below.refl _ _) (fun s h1 h2 => h1 rfl)
        simp only [execOp, e1]
        simp [go_sem]
      | 2, ho =>
        obtain rfl := Option.some.inj ho
        have e1 : a'.eval (.tmp 13) = .pointer (some ⟨g, o, none⟩) := (sv_dst (l := _) rfl).symm.trans (hA.new 1 (by decide) (by kernel_rfl))
        refine GoesG.value (.pointer (some ⟨g, o, none⟩)) rfl ?_ (Below.refl _ _) (fun s h1 h2 => h1 rfl)
        simp only [execOp, e1]
        simp [go_sem]
      | 3, ho =>
        obtain rfl := Option.some.inj ho
        have e1 : a'.eval (.tmp 14) = .pointer (some ⟨g, o, none⟩) := (sv_dst (l := _) rfl).symm.trans (hA.new 2 (by decide) (by kernel_rfl))
        refine GoesG.value (.pointer (some ⟨g, o + 1, none⟩)) rfl ?_ (Below.refl _ _) (fun s h1 h2 => h1 rfl)
        simp only [execOp, e1]
        simp [go_sem]
      | 4, ho =>
        obtain rfl := Option.some.inj ho
        have e1 : a'.eval (.tmp 12) = cR R := (sv_dst (l := _) rfl).symm.trans (hA.new 0 (by decide) (by kernel_rfl))
        refine GoesG.value (.func (.method "nursery/program.number") #[cR R] #[]) rfl ?_ (Below.refl _ _) (fun s h1 h2 => h1 rfl)
        simp only [execOp, e1]
        simp [go_sem]
        simpa [Act.eval] using e1
      | 5, ho =>
        obtain rfl := Option.some.inj ho
        have e1 : a'.eval (.tmp 16) = .func (.method "nursery/program.number") #[cR R] #[] := (sv_dst (l := _) rfl).symm.trans (hA.new 4 (by decide) (by kernel_rfl))
        refine GoesG.value (.func (.method "nursery/program.number") #[cR R] #[]) rfl ?_ (Below.refl _ _) (fun s h1 h2 => h1 rfl)
        simp only [execOp, e1]
        simp [go_sem, hna_n]
      | 6, ho =>
        obtain rfl := Option.some.inj ho
        have e1 : a'.eval (.tmp 12) = cR R := (sv_dst (l := _) rfl).symm.trans (hA.new 0 (by decide) (by kernel_rfl))
        refine GoesG.value (cR R) rfl ?_ (Below.refl _ _) (fun s h1 h2 => h1 rfl)
        simp only [execOp, e1]
        simp [go_sem]
      | i + 7, ho => cases ho
    · intro vs w2d hvs hG1 hΦ
      obtain ⟨y0, y1, y2, y3, y4, y5, y6, rfl⟩ : ∃ y0 y1 y2 y3 y4 y5 y6, vs = y0 :: y1 :: y2 :: y3 :: y4 :: y5 :: y6 :: [] := by
        match vs, hvs with
        | y0 :: y1 :: y2 :: y3 :: y4 :: y5 :: y6 :: [], _ => exact ⟨y0, y1, y2, y3, y4, y5, y6, rfl⟩
      have e0 : y0 = cR R := hΦ 0 (by decide)
      subst e0
      have e1 : y1 = .pointer (some ⟨g, o, none⟩) := hΦ 1 (by decide)
      subst e1
      have e2 : y2 = .pointer (some ⟨g, o, none⟩) := hΦ 2 (by decide)
      subst e2
      have e3 : y3 = .pointer (some ⟨g, o + 1, none⟩) := hΦ 3 (by decide)
      subst e3
      have e4 : y4 = .func (.method "nursery/program.number") #[cR R] #[] := hΦ 4 (by decide)
      subst e4
      have e5 : y5 = .func (.method "nursery/program.number") #[cR R] #[] := hΦ 5 (by decide)
      subst e5
      have e6 : y6 = cR R := hΦ 6 (by decide)
      subst e6
      clear hΦ hvs
      simp only [putAll, Act.put, List.setIfInBounds_toArray, List.set_cons_succ, List.set_cons_zero]
      have HD1 := Lib.hid hG1
      clear hG1
      go_wp2_with fail
      refine (show Calls _ _ _ _ _ from K1.out _ ((HD1.out.below.block _ (lt_of_block HR1.out)).trans HR1.out) ((HD1.out.below.block _ (lt_of_block HP1.out)).trans HP1.out)).mono ?_
      rintro _ w2 ⟨rfl, hR, hP, hO⟩
      have HR2 := Lib.hid hR
      have HP2 := Lib.hid hP
      have HO2 := Lib.hid (Ot2.trans HO1.out (Ot2.trans (Ot2.of_ext HD1.out) hO))
      clear hR hP hO
      go_wp2
      refine wp_region_tail (l1 := [_, _, _, _, _, _, _]) (l2 := [_]) (by kernel_rfl) Ext (fun W => Below.refl _ W) (fun W => show Below W.heap.size W { W with drawn := W.drawn + 1 } from ⟨rfl, rfl, rfl, Nat.le_refl _, fun _ _ => rfl⟩) Ext.trans
        (fun i s W => match i with
          | 0 => s 0 = cR R
          | 1 => s 1 = .pointer (some ⟨g, o, none⟩)
          | 2 => s 2 = .pointer (some ⟨g, o, none⟩)
          | 3 => s 3 = .pointer (some ⟨g, o + 2, none⟩)
          | 4 => s 4 = .func (.method "nursery/program.number") #[cR R] #[]
          | 5 => s 5 = .func (.method "nursery/program.number") #[cR R] #[]
          | 6 => s 6 = cR R
          | _ => True)
        (fun i => [i])
        (by
          intro i s s' W W' h hs hE
          have hs := hs i (by simp)
          match i, h, hs with
          | 0, h, hs => exact hs.trans h
          | 1, h, hs => exact hs.trans h
          | 2, h, hs => exact hs.trans h
          | 3, h, hs => exact hs.trans h
          | 4, h, hs => exact hs.trans h
          | 5, h, hs => exact hs.trans h
          | 6, h, hs => exact hs.trans h
          | i + 7, h, hs => exact trivial)
        (by kernel_rfl) (by kernel_rfl) (by kernel_rfl) 44 rfl (by kernel_rfl) (by kernel_rfl) ?_ ?_
      · intro i op ho a' W hA

        match i, ho with
        | 0, ho =>
          obtain rfl := Option.some.inj ho
          have e1 : a'.eval (.tmp 0) = cR R := hA.keep 0 (by kernel_rfl)
          refine GoesG.value (cR R) rfl ?_ (Below.refl _ _) (fun s h1 h2 => h1 rfl)
          simp only [execOp, e1]
          simp [go_sem]
        | 1, ho =>
          obtain rfl := Option.some.inj ho
          have e1 : a'.eval (.tmp 1) = .pointer (some ⟨g, o, none⟩) := hA.keep 1 (by kernel_rfl)
          refine GoesG.value (.pointer (some ⟨g, o, none⟩)) rfl ?_ (Below.refl _ _) (fun s h1 h2 => h1 rfl)
          simp only [execOp, e1]
          simp [go_sem]
        | 2, ho =>
          obtain rfl := Option.some.inj ho
          have e1 : a'.eval (.tmp 21) = .pointer (some ⟨g, o, none⟩) := (sv_dst (l := _) rfl).symm.trans (hA.new 1 (by decide) (by kernel_rfl))
          refine GoesG.value (.pointer (some ⟨g, o, none⟩)) rfl ?_ (Below.refl _ _) (fun s h1 h2 => h1 rfl)
          simp only [execOp, e1]
          simp [go_sem]
        | 3, ho =>
          obtain rfl := Option.some.inj ho
          have e1 : a'.eval (.tmp 22) = .pointer (some ⟨g, o, none⟩) := (sv_dst (l := _) rfl).symm.trans (hA.new 2 (by decide) (by kernel_rfl))
          refine GoesG.value (.pointer (some ⟨g, o + 2, none⟩)) rfl ?_ (Below.refl _ _) (fun s h1 h2 => h1 rfl)
          simp only [execOp, e1]
          simp [go_sem]
        | 4, ho =>
          obtain rfl := Option.some.inj ho
          have e1 : a'.eval (.tmp 20) = cR R := (sv_dst (l := _) rfl).symm.trans (hA.new 0 (by decide) (by kernel_rfl))
          refine GoesG.value (.func (.method "nursery/program.number") #[cR R] #[]) rfl ?_ (Below.refl _ _) (fun s h1 h2 => h1 rfl)
          simp only [execOp, e1]
          simp [go_sem]
          simpa [Act.eval] using e1
        | 5, ho =>
          obtain rfl := Option.some.inj ho
          have e1 : a'.eval (.tmp 24) = .func (.method "nursery/program.number") #[cR R] #[] := (sv_dst (l := _) rfl).symm.trans (hA.new 4 (by decide) (by kernel_rfl))
          refine GoesG.value (.func (.method "nursery/program.number") #[cR R] #[]) rfl ?_ (Below.refl _ _) (fun s h1 h2 => h1 rfl)
          simp only [execOp, e1]
          simp [go_sem, hna_n]
        | 6, ho =>
          obtain rfl := Option.some.inj ho
          have e1 : a'.eval (.tmp 20) = cR R := (sv_dst (l := _) rfl).symm.trans (hA.new 0 (by decide) (by kernel_rfl))
          refine GoesG.value (cR R) rfl ?_ (Below.refl _ _) (fun s h1 h2 => h1 rfl)
          simp only [execOp, e1]
          simp [go_sem]
        | i + 7, ho => cases ho
      · intro vs w3d hvs hG2 hΦ
        obtain ⟨y0, y1, y2, y3, y4, y5, y6, rfl⟩ : ∃ y0 y1 y2 y3 y4 y5 y6, vs = y0 :: y1 :: y2 :: y3 :: y4 :: y5 :: y6 :: [] := by
          match vs, hvs with
          | y0 :: y1 :: y2 :: y3 :: y4 :: y5 :: y6 :: [], _ => exact ⟨y0, y1, y2, y3, y4, y5, y6, rfl⟩
        have e0 : y0 = cR R := hΦ 0 (by decide)
        subst e0
        have e1 : y1 = .pointer (some ⟨g, o, none⟩) := hΦ 1 (by decide)
        subst e1
        have e2 : y2 = .pointer (some ⟨g, o, none⟩) := hΦ 2 (by decide)
        subst e2
        have e3 : y3 = .pointer (some ⟨g, o + 2, none⟩) := hΦ 3 (by decide)
        subst e3
        have e4 : y4 = .func (.method "nursery/program.number") #[cR R] #[] := hΦ 4 (by decide)
        subst e4
        have e5 : y5 = .func (.method "nursery/program.number") #[cR R] #[] := hΦ 5 (by decide)
        subst e5
        have e6 : y6 = cR R := hΦ 6 (by decide)
        subst e6
        clear hΦ hvs
        simp only [putAll, Act.put, List.setIfInBounds_toArray, List.set_cons_succ, List.set_cons_zero]
        have HD2 := Lib.hid hG2
        clear hG2
        go_wp2_with fail
        refine (show Calls _ _ _ _ _ from K2.out _ ((HD2.out.below.block _ (lt_of_block HR2.out)).trans HR2.out) ((HD2.out.below.block _ (lt_of_block HP2.out)).trans HP2.out)).mono ?_
        rintro _ w3 ⟨rfl, hR, hP, hO⟩
        have HR3 := Lib.hid hR
        have HP3 := Lib.hid hP
        have HO3 := Lib.hid (Ot2.trans HO2.out (Ot2.trans (Ot2.of_ext HD2.out) hO))
        clear hR hP hO
        go_wp2
        refine wp_region_tail (l1 := [_, _, _, _, _, _, _]) (l2 := [_]) (by kernel_rfl) Ext (fun W => Below.refl _ W) (fun W => show Below W.heap.size W { W with drawn := W.drawn + 1 } from ⟨rfl, rfl, rfl, Nat.le_refl _, fun _ _ => rfl⟩) Ext.trans
          (fun i s W => match i with
            | 0 => s 0 = cR R
            | 1 => s 1 = .pointer (some ⟨g, o, none⟩)
            | 2 => s 2 = .pointer (some ⟨g, o, none⟩)
            | 3 => s 3 = .pointer (some ⟨g, o + 3, none⟩)
            | 4 => s 4 = .func (.method "nursery/program.number") #[cR R] #[]
            | 5 => s 5 = .func (.method "nursery/program.number") #[cR R] #[]
            | 6 => s 6 = cR R
            | _ => True)
          (fun i => [i])
          (by
            intro i s s' W W' h hs hE
            have hs := hs i (by simp)
            match i, h, hs with
            | 0, h, hs => exact hs.trans h
            | 1, h, hs => exact hs.trans h
            | 2, h, hs => exact hs.trans h
            | 3, h, hs => exact hs.trans h
            | 4, h, hs => exact hs.trans h
            | 5, h, hs => exact hs.trans h
            | 6, h, hs => exact hs.trans h
            | i + 7, h, hs => exact trivial)
          (by kernel_rfl) (by kernel_rfl) (by kernel_rfl) 44 rfl (by kernel_rfl) (by kernel_rfl) ?_ ?_
        · intro i op ho a' W hA

          match i, ho with
          | 0, ho =>
            obtain rfl := Option.some.inj ho
            have e1 : a'.eval (.tmp 0) = cR R := hA.keep 0 (by kernel_rfl)
            refine GoesG.value (cR R) rfl ?_ (Below.refl _ _) (fun s h1 h2 => h1 rfl)
            simp only [execOp, e1]
            simp [go_sem]
          | 1, ho =>
            obtain rfl := Option.some.inj ho
            have e1 : a'.eval (.tmp 1) = .pointer (some ⟨g, o, none⟩) := hA.keep 1 (by kernel_rfl)
            refine GoesG.value (.pointer (some ⟨g, o, none⟩)) rfl ?_ (Below.refl _ _) (fun s h1 h2 => h1 rfl)
            simp only [execOp, e1]
            simp [go_sem]
          | 2, ho =>
            obtain rfl := Option.some.inj ho
            have e1 : a'.eval (.tmp 29) = .pointer (some ⟨g, o, none⟩) := (sv_dst (l := _) rfl).symm.trans (hA.new 1 (by decide) (by kernel_rfl))
            refine GoesG.value (.pointer (some ⟨g, o, none⟩)) rfl ?_ (Below.refl _ _) (fun s h1 h2 => h1 rfl)
            simp only [execOp, e1]
            simp [go_sem]
          | 3, ho =>
            obtain rfl := Option.some.inj ho
            have e1 : a'.eval (.tmp 30) = .pointer (some ⟨g, o, none⟩) := (sv_dst (l := _) rfl).symm.trans (hA.new 2 (by decide) (by kernel_rfl))
            refine GoesG.value (.pointer (some ⟨g, o + 3, none⟩)) rfl ?_ (Below.refl _ _) (fun s h1 h2 => h1 rfl)
            simp only [execOp, e1]
            simp [go_sem]
          | 4, ho =>
            obtain rfl := Option.some.inj ho
            have e1 : a'.eval (.tmp 28) = cR R := (sv_dst (l := _) rfl).symm.trans (hA.new 0 (by decide) (by kernel_rfl))
            refine GoesG.value (.func (.method "nursery/program.number") #[cR R] #[]) rfl ?_ (Below.refl _ _) (fun s h1 h2 => h1 rfl)
            simp only [execOp, e1]
            simp [go_sem]
            simpa [Act.eval] using e1
          | 5, ho =>
            obtain rfl := Option.some.inj ho
            have e1 : a'.eval (.tmp 32) = .func (.method "nursery/program.number") #[cR R] #[] := (sv_dst (l := _) rfl).symm.trans (hA.new 4 (by decide) (by kernel_rfl))
            refine GoesG.value (.func (.method "nursery/program.number") #[cR R] #[]) rfl ?_ (Below.refl _ _) (fun s h1 h2 => h1 rfl)
            simp only [execOp, e1]
            simp [go_sem, hna_n]
          | 6, ho =>
            obtain rfl := Option.some.inj ho
            have e1 : a'.eval (.tmp 28) = cR R := (sv_dst (l := _) rfl).symm.trans (hA.new 0 (by decide) (by kernel_rfl))
            refine GoesG.value (cR R) rfl ?_ (Below.refl _ _) (fun s h1 h2 => h1 rfl)
            simp only [execOp, e1]
            simp [go_sem]
          | i + 7, ho => cases ho
        · intro vs w4d hvs hG3 hΦ
          obtain ⟨y0, y1, y2, y3, y4, y5, y6, rfl⟩ : ∃ y0 y1 y2 y3 y4 y5 y6, vs = y0 :: y1 :: y2 :: y3 :: y4 :: y5 :: y6 :: [] := by
            match vs, hvs with
            | y0 :: y1 :: y2 :: y3 :: y4 :: y5 :: y6 :: [], _ => exact ⟨y0, y1, y2, y3, y4, y5, y6, rfl⟩
          have e0 : y0 = cR R := hΦ 0 (by decide)
          subst e0
          have e1 : y1 = .pointer (some ⟨g, o, none⟩) := hΦ 1 (by decide)
          subst e1
          have e2 : y2 = .pointer (some ⟨g, o, none⟩) := hΦ 2 (by decide)
          subst e2
          have e3 : y3 = .pointer (some ⟨g, o + 3, none⟩) := hΦ 3 (by decide)
          subst e3
          have e4 : y4 = .func (.method "nursery/program.number") #[cR R] #[] := hΦ 4 (by decide)
          subst e4
          have e5 : y5 = .func (.method "nursery/program.number") #[cR R] #[] := hΦ 5 (by decide)
          subst e5
          have e6 : y6 = cR R := hΦ 6 (by decide)
          subst e6
          clear hΦ hvs
          simp only [putAll, Act.put, List.setIfInBounds_toArray, List.set_cons_succ, List.set_cons_zero]
          have HD3 := Lib.hid hG3
          clear hG3
          go_wp2_with fail
          refine (show Calls _ _ _ _ _ from K3.out _ ((HD3.out.below.block _ (lt_of_block HR3.out)).trans HR3.out) ((HD3.out.below.block _ (lt_of_block HP3.out)).trans HP3.out)).mono ?_
          rintro _ w4 ⟨rfl, hR, hP, hO⟩
          have HR4 := Lib.hid hR
          have HP4 := Lib.hid hP
          have HO4 := Lib.hid (Ot2.trans HO3.out (Ot2.trans (Ot2.of_ext HD3.out) hO))
          clear hR hP hO
          go_wp2
          refine wp_region_tail (l1 := [_, _, _, _, _, _, _]) (l2 := [_]) (by kernel_rfl) Ext (fun W => Below.refl _ W) (fun W => show Below W.heap.size W { W with drawn := W.drawn + 1 } from ⟨rfl, rfl, rfl, Nat.le_refl _, fun _ _ => rfl⟩) Ext.trans
            (fun i s W => match i with
              | 0 => s 0 = cR R
              | 1 => s 1 = .pointer (some ⟨g, o, none⟩)
              | 2 => s 2 = .pointer (some ⟨g, o, none⟩)
              | 3 => s 3 = .pointer (some ⟨g, o + 4, none⟩)
              | 4 => s 4 = .func (.method "nursery/program.list") #[cR R] #[]
              | 5 => s 5 = .func (.method "nursery/program.list") #[cR R] #[]
              | 6 => s 6 = cR R
              | _ => True)
            (fun i => [i])
            (by
              intro i s s' W W' h hs hE
              have hs := hs i (by simp)
              match i, h, hs with
              | 0, h, hs => exact hs.trans h
              | 1, h, hs => exact hs.trans h
              | 2, h, hs => exact hs.trans h
              | 3, h, hs => exact hs.trans h
              | 4, h, hs => exact hs.trans h
              | 5, h, hs => exact hs.trans h
              | 6, h, hs => exact hs.trans h
              | i + 7, h, hs => exact trivial)
            (by kernel_rfl) (by kernel_rfl) (by kernel_rfl) 44 rfl (by kernel_rfl) (by kernel_rfl) ?_ ?_
          · intro i op ho a' W hA

            match i, ho with
            | 0, ho =>
              obtain rfl := Option.some.inj ho
              have e1 : a'.eval (.tmp 0) = cR R := hA.keep 0 (by kernel_rfl)
              refine GoesG.value (cR R) rfl ?_ (Below.refl _ _) (fun s h1 h2 => h1 rfl)
              simp only [execOp, e1]
              simp [go_sem]
            | 1, ho =>
              obtain rfl := Option.some.inj ho
              have e1 : a'.eval (.tmp 1) = .pointer (some ⟨g, o, none⟩) := hA.keep 1 (by kernel_rfl)
              refine GoesG.value (.pointer (some ⟨g, o, none⟩)) rfl ?_ (Below.refl _ _) (fun s h1 h2 => h1 rfl)
              simp only [execOp, e1]
              simp [go_sem]
            | 2, ho =>
              obtain rfl := Option.some.inj ho
              have e1 : a'.eval (.tmp 37) = .pointer (some ⟨g, o, none⟩) := (sv_dst (l := _) rfl).symm.trans (hA.new 1 (by decide) (by kernel_rfl))
              refine GoesG.value (.pointer (some ⟨g, o, none⟩)) rfl ?_ (Below.refl _ _) (fun s h1 h2 => h1 rfl)
              simp only [execOp, e1]
              simp [go_sem]
            | 3, ho =>
              obtain rfl := Option.some.inj ho
              have e1 : a'.eval (.tmp 38) = .pointer (some ⟨g, o, none⟩) := (sv_dst (l := _) rfl).symm.trans (hA.new 2 (by decide) (by kernel_rfl))
              refine GoesG.value (.pointer (some ⟨g, o + 4, none⟩)) rfl ?_ (Below.refl _ _) (fun s h1 h2 => h1 rfl)
              simp only [execOp, e1]
              simp [go_sem]
            | 4, ho =>
              obtain rfl := Option.some.inj ho
              have e1 : a'.eval (.tmp 36) = cR R := (sv_dst (l := _) rfl).symm.trans (hA.new 0 (by decide) (by kernel_rfl))
              refine GoesG.value (.func (.method "nursery/program.list") #[cR R] #[]) rfl ?_ (Below.refl _ _) (fun s h1 h2 => h1 rfl)
              simp only [execOp, e1]
              simp [go_sem]
              simpa [Act.eval] using e1
            | 5, ho =>
              obtain rfl := Option.some.inj ho
              have e1 : a'.eval (.tmp 40) = .func (.method "nursery/program.list") #[cR R] #[] := (sv_dst (l := _) rfl).symm.trans (hA.new 4 (by decide) (by kernel_rfl))
              refine GoesG.value (.func (.method "nursery/program.list") #[cR R] #[]) rfl ?_ (Below.refl _ _) (fun s h1 h2 => h1 rfl)
              simp only [execOp, e1]
              simp [go_sem, hna_l]
            | 6, ho =>
              obtain rfl := Option.some.inj ho
              have e1 : a'.eval (.tmp 36) = cR R := (sv_dst (l := _) rfl).symm.trans (hA.new 0 (by decide) (by kernel_rfl))
              refine GoesG.value (cR R) rfl ?_ (Below.refl _ _) (fun s h1 h2 => h1 rfl)
              simp only [execOp, e1]
              simp [go_sem]
            | i + 7, ho => cases ho
          · intro vs w5d hvs hG4 hΦ
            obtain ⟨y0, y1, y2, y3, y4, y5, y6, rfl⟩ : ∃ y0 y1 y2 y3 y4 y5 y6, vs = y0 :: y1 :: y2 :: y3 :: y4 :: y5 :: y6 :: [] := by
              match vs, hvs with
              | y0 :: y1 :: y2 :: y3 :: y4 :: y5 :: y6 :: [], _ => exact ⟨y0, y1, y2, y3, y4, y5, y6, rfl⟩
            have e0 : y0 = cR R := hΦ 0 (by decide)
            subst e0
            have e1 : y1 = .pointer (some ⟨g, o, none⟩) := hΦ 1 (by decide)
            subst e1
            have e2 : y2 = .pointer (some ⟨g, o, none⟩) := hΦ 2 (by decide)
            subst e2
            have e3 : y3 = .pointer (some ⟨g, o + 4, none⟩) := hΦ 3 (by decide)
            subst e3
            have e4 : y4 = .func (.method "nursery/program.list") #[cR R] #[] := hΦ 4 (by decide)
            subst e4
            have e5 : y5 = .func (.method "nursery/program.list") #[cR R] #[] := hΦ 5 (by decide)
            subst e5
            have e6 : y6 = cR R := hΦ 6 (by decide)
            subst e6
            clear hΦ hvs
            simp only [putAll, Act.put, List.setIfInBounds_toArray, List.set_cons_succ, List.set_cons_zero]
            have HD4 := Lib.hid hG4
            clear hG4
            go_wp2_with fail
            refine (show Calls _ _ _ _ _ from K4.out _ ((HD4.out.below.block _ (lt_of_block HR4.out)).trans HR4.out) ((HD4.out.below.block _ (lt_of_block HP4.out)).trans HP4.out)).mono ?_
            rintro _ w5 ⟨rfl, hR, ⟨x, c, hP, hI⟩, hO⟩
            have HI := Lib.hid hI
            clear hI
            have HSZ := Lib.hid (Nat.le_trans HO4.out.size HD4.out.size)
            have HR5 := Lib.hid hR
            have HP5 := Lib.hid hP
            have HO5 := Lib.hid (Ot2.trans HO4.out (Ot2.trans (Ot2.of_ext HD4.out) hO))
            clear hR hP hO
            go_wp2
            go_end0
            exact ⟨rfl, HR5.out, HO5.out, x, c, HP5.out, World.ownsRow.mono HI.out HSZ.out⟩
set_option maxRecDepth 100000 in
set_option maxHeartbeats 4000000 in
theorem rOb_any (R g o : Nat) (st : RSt) (cs : Array Value) (T : TypeId) (w : World) (hR : w.heap[R]? = some (rdQ st)) (hP : w.heap[g]? = some (.cells cs T (0, 0))) (hne : g ≠ R) (ho : o + 4 ≤ cs.size) (hl : st.1.length ≤ 10000000) :
    Calls Tryz.prog 56 #[cR R, .pointer (some ⟨g, o, none⟩)] w fun e w' => e = .returned (.tuple #[]) ∧ w'.heap[R]? = some (rdQ (gNum (gNum (gNum (gTxt st).2).2).2).2) ∧ Ot2 R g w w' ∧ w'.heap[g]? = some (.cells ((((cs.setIfInBounds o (sV (gTxt st).1)).setIfInBounds (o + 1) (.int .i64 (gNum (gTxt st).2).1)).setIfInBounds (o + 2) (.int .i64 (gNum (gNum (gTxt st).2).2).1)).setIfInBounds (o + 3) (.int .i64 (gNum (gNum (gNum (gTxt st).2).2).2).1)) T (0, 0)) := by
  have hl0 : st.1.length ≤ 10000000 := hl
  have hl1 : (gTxt st).2.1.length ≤ 10000000 := Nat.le_trans (gTxt_le st) hl0
  have hl2 : (gNum (gTxt st).2).2.1.length ≤ 10000000 := Nat.le_trans (gNum_le (gTxt st).2) hl1
  have hl3 : (gNum (gNum (gTxt st).2).2).2.1.length ≤ 10000000 := Nat.le_trans (gNum_le (gNum (gTxt st).2).2) hl2
  have K0 := Lib.hid (fun W (h : W.heap[R]? = some (rdQ st)) (hb : W.heap[g]? = some (.cells cs T (0, 0))) => rtext_any R g o st cs T W h hb hne (by first | omega | (simp; omega)) (by omega))
  have K1 := Lib.hid (fun W (h : W.heap[R]? = some (rdQ (gTxt st).2)) (hb : W.heap[g]? = some (.cells (cs.setIfInBounds o (sV (gTxt st).1)) T (0, 0))) => rnum_any R g (o + 1) (gTxt st).2 (cs.setIfInBounds o (sV (gTxt st).1)) T W h hb hne (by first | omega | (simp; omega)) (by omega))
  have K2 := Lib.hid (fun W (h : W.heap[R]? = some (rdQ (gNum (gTxt st).2).2)) (hb : W.heap[g]? = some (.cells ((cs.setIfInBounds o (sV (gTxt st).1)).setIfInBounds (o + 1) (.int .i64 (gNum (gTxt st).2).1)) T (0, 0))) => rnum_any R g (o + 2) (gNum (gTxt st).2).2 ((cs.setIfInBounds o (sV (gTxt st).1)).setIfInBounds (o + 1) (.int .i64 (gNum (gTxt st).2).1)) T W h hb hne (by first | omega | (simp; omega)) (by omega))
  have K3 := Lib.hid (fun W (h : W.heap[R]? = some (rdQ (gNum (gNum (gTxt st).2).2).2)) (hb : W.heap[g]? = some (.cells (((cs.setIfInBounds o (sV (gTxt st).1)).setIfInBounds (o + 1) (.int .i64 (gNum (gTxt st).2).1)).setIfInBounds (o + 2) (.int .i64 (gNum (gNum (gTxt st).2).2).1)) T (0, 0))) => rnum_any R g (o + 3) (gNum (gNum (gTxt st).2).2).2 (((cs.setIfInBounds o (sV (gTxt st).1)).setIfInBounds (o + 1) (.int .i64 (gNum (gTxt st).2).1)).setIfInBounds (o + 2) (.int .i64 (gNum (gNum (gTxt st).2).2).1)) T W h hb hne (by first | omega | (simp; omega)) (by omega))
  have hna_n : ∀ W, Sem.run Tryz.prog (nilAhead 358 tRp (.pointer (some ⟨R, 0, none⟩)) "nursery/program.number") W = .ok (some false) W := fun W => by kernel_rfl
  have hna_t : ∀ W, Sem.run Tryz.prog (nilAhead 358 tRp (.pointer (some ⟨R, 0, none⟩)) "nursery/program.text") W = .ok (some false) W := fun W => by kernel_rfl
  have HR0 := Lib.hid hR
  have HP0 := Lib.hid hP
  have HO0 := Lib.hid (Ot2.refl R g w)
  have hgR : g < w.heap.size ∧ R < w.heap.size := ⟨lt_of_block hP, lt_of_block hR⟩
  have HGR := Lib.hid hgR
  clear hl0 hl hR hP hgR ho hl1 hl2 hl3
  generalize (gTxt st).1 = v1 at *
  generalize (gTxt st).2 = s1 at *
  generalize (gNum s1).1 = v2 at *
  generalize (gNum s1).2 = s2 at *
  generalize (gNum s2).1 = v3 at *
  generalize (gNum s2).2 = s3 at *
  generalize (gNum s3).1 = v4 at *
  generalize (gNum s3).2 = s4 at *
  go_enter Tryz.func56, Tryz.ntmps56
  go_wp2
  refine wp_region_tail (l1 := [_, _, _, _, _, _, _]) (l2 := [_]) (by kernel_rfl) Ext (fun W => Below.refl _ W) (fun W => show Below W.heap.size W { W with drawn := W.drawn + 1 } from ⟨rfl, rfl, rfl, Nat.le_refl _, fun _ _ => rfl⟩) Ext.trans
    (fun i s W => match i with
      | 0 => s 0 = cR R
      | 1 => s 1 = .pointer (some ⟨g, o, none⟩)
      | 2 => s 2 = .pointer (some ⟨g, o, none⟩)
      | 3 => s 3 = .pointer (some ⟨g, o, none⟩)
      | 4 => s 4 = .func (.method "nursery/program.text") #[cR R] #[]
      | 5 => s 5 = .func (.method "nursery/program.text") #[cR R] #[]
      | 6 => s 6 = cR R
      | _ => True)
    (fun i => [i])
    (by
      intro i s s' W W' h hs hE
      have hs := hs i (by simp)
      match i, h, hs with
      | 0, h, hs => exact hs.trans h
      | 1, h, hs => exact hs.trans h
      | 2, h, hs => exact hs.trans h
      | 3, h, hs => exact hs.trans h
      | 4, h, hs => exact hs.trans h
      | 5, h, hs => exact hs.trans h
      | 6, h, hs => exact hs.trans h
      | i + 7, h, hs => exact trivial)
    (by kernel_rfl) (by kernel_rfl) (by kernel_rfl) 36 rfl (by kernel_rfl) (by kernel_rfl) ?_ ?_
  · intro i op ho a' W hA

    match i, ho with
    | 0, ho =>
      obtain rfl := Option.some.inj ho
      have e1 : a'.eval (.tmp 0) = cR R := hA.keep 0 (by kernel_rfl)
      refine GoesG.value (cR R) rfl ?_ (Below.refl _ _) (fun s h1 h2 => h1 rfl)
      simp only [execOp, e1]
      simp [go_sem]
    | 1, ho =>
      obtain rfl := Option.some.inj ho
      have e1 : a'.eval (.tmp 1) = .pointer (some ⟨g, o, none⟩) := hA.keep 1 (by kernel_rfl)
      refine GoesG.value (.pointer (some ⟨g, o, none⟩)) rfl ?_ (Below.refl _ _) (fun s h1 h2 => h1 rfl)
      simp only [execOp, e1]
      simp [go_sem]
    | 2, ho =>
      obtain rfl := Option.some.inj ho
      have e1 : a'.eval (.tmp 5) = .pointer (some ⟨g, o, none⟩) := (sv_dst (l := _) rfl).symm.trans (hA.new 1 (by decide) (by kernel_rfl))
      refine GoesG.value (.pointer (some ⟨g, o, none⟩)) rfl ?_ (Below.refl _ _) (fun s h1 h2 => h1 rfl)
      simp only [execOp, e1]
      simp [go_sem]
    | 3, ho =>
      obtain rfl := Option.some.inj ho
      have e1 : a'.eval (.tmp 6) = .pointer (some ⟨g, o, none⟩) := (sv_dst (l := _) rfl).symm.trans (hA.new 2 (by decide) (by kernel_rfl))
      refine GoesG.value (.pointer (some ⟨g, o, none⟩)) rfl ?_ (Below.refl _ _) (fun s h1 h2 => h1 rfl)
      simp only [execOp, e1]
      simp [go_sem]
    | 4, ho =>
      obtain rfl := Option.some.inj ho
      have e1 : a'.eval (.tmp 4) = cR R := (sv_dst (l := _) rfl).symm.trans (hA.new 0 (by decide) (by kernel_rfl))
      refine GoesG.value (.func (.method "nursery/program.text") #[cR R] #[]) rfl ?_ (Below.refl _ _) (fun s h1 h2 => h1 rfl)
      simp only [execOp, e1]
      simp [go_sem]
      simpa [Act.eval] using e1
    | 5, ho =>
      obtain rfl := Option.some.inj ho
      have e1 : a'.eval (.tmp 8) = .func (.method "nursery/program.text") #[cR R] #[] := (sv_dst (l := _) rfl).symm.trans (hA.new 4 (by decide) (by kernel_rfl))
      refine GoesG.value (.func (.method "nursery/program.text") #[cR R] #[]) rfl ?_ (Below.refl _ _) (fun s h1 h2 => h1 rfl)
      simp only [execOp, e1]
      simp [go_sem, hna_t]
    | 6, ho =>
      obtain rfl := Option.some.inj ho
      have e1 : a'.eval (.tmp 4) = cR R := (sv_dst (l := _) rfl).symm.trans (hA.new 0 (by decide) (by kernel_rfl))
      refine GoesG.value (cR R) rfl ?_ (Below.refl _ _) (fun s h1 h2 => h1 rfl)
      simp only [execOp, e1]
      simp [go_sem]
    | i + 7, ho => cases ho
  · intro vs w1d hvs hG0 hΦ
    obtain ⟨y0, y1, y2, y3, y4, y5, y6, rfl⟩ : ∃ y0 y1 y2 y3 y4 y5 y6, vs = y0 :: y1 :: y2 :: y3 :: y4 :: y5 :: y6 :: [] := by
      match vs, hvs with
      | y0 :: y1 :: y2 :: y3 :: y4 :: y5 :: y6 :: [], _ => exact ⟨y0, y1, y2, y3, y4, y5, y6, rfl⟩
    have e0 : y0 = cR R := hΦ 0 (by decide)
    subst e0
    have e1 : y1 = .pointer (some ⟨g, o, none⟩) := hΦ 1 (by decide)
    subst e1
    have e2 : y2 = .pointer (some ⟨g, o, none⟩) := hΦ 2 (by decide)
    subst e2
    have e3 : y3 = .pointer (some ⟨g, o, none⟩) := hΦ 3 (by decide)
    subst e3
    have e4 : y4 = .func (.method "nursery/program.text") #[cR R] #[] := hΦ 4 (by decide)
    subst e4
    have e5 : y5 = .func (.method "nursery/program.text") #[cR R] #[] := hΦ 5 (by decide)
    subst e5
    have e6 : y6 = cR R := hΦ 6 (by decide)
    subst e6
    clear hΦ hvs
    simp only [putAll, Act.put, List.setIfInBounds_toArray, List.set_cons_succ, List.set_cons_zero]
    have HD0 := Lib.hid hG0
    clear hG0
    go_wp2_with fail
    refine (show Calls _ _ _ _ _ from K0.out _ ((HD0.out.below.block _ (lt_of_block HR0.out)).trans HR0.out) ((HD0.out.below.block _ (lt_of_block HP0.out)).trans HP0.out)).mono ?_
    rintro _ w1 ⟨rfl, hR, hP, hO⟩
    have HR1 := Lib.hid hR
    have HP1 := Lib.hid hP
    have HO1 := Lib.hid (Ot2.trans HO0.out (Ot2.trans (Ot2.of_ext HD0.out) hO))
    clear hR hP hO
    go_wp2
    refine wp_region_tail (l1 := [_, _, _, _, _, _, _]) (l2 := [_]) (by kernel_rfl) Ext (fun W => Below.refl _ W) (fun W => show Below W.heap.size W { W with drawn := W.drawn + 1 } from ⟨rfl, rfl, rfl, Nat.le_refl _, fun _ _ => rfl⟩) Ext.trans
      (fun i s W => match i with
        | 0 => s 0 = cR R
        | 1 => s 1 = .pointer (some ⟨g, o, none⟩)
        | 2 => s 2 = .pointer (some ⟨g, o, none⟩)
        | 3 => s 3 = .pointer (some ⟨g, o + 1, none⟩)
        | 4 => s 4 = .func (.method "nursery/program.number") #[cR R] #[]
        | 5 => s 5 = .func (.method "nursery/program.number") #[cR R] #[]
        | 6 => s 6 = cR R
        | _ => True)
      (fun i => [i])
      (by
        intro i s s' W W' h hs hE
        have hs := hs i (by simp)
        match i, h, hs with
        | 0, h, hs => exact hs.trans h
        | 1, h, hs => exact hs.trans h
        | 2, h, hs => exact hs.trans h
        | 3, h, hs => exact hs.trans h
        | 4, h, hs => exact hs.trans h
        | 5, h, hs => exact hs.trans h
        | 6, h, hs => exact hs.trans h
        | i + 7, h, hs => exact trivial)
      (by kernel_rfl) (by kernel_rfl) (by kernel_rfl) 36 rfl (by kernel_rfl) (by kernel_rfl) ?_ ?_
    · intro i op ho a' W hA

      match i, ho with
      | 0, ho =>
        obtain rfl := Option.some.inj ho
        have e1 : a'.eval (.tmp 0) = cR R := hA.keep 0 (by kernel_rfl)
        refine GoesG.value (cR R) rfl ?_ (Below.refl _ _) (fun s h1 h2 => h1 rfl)
        simp only [execOp, e1]
        simp [go_sem]
      | 1, ho =>
        obtain rfl := Option.some.inj ho
        have e1 : a'.eval (.tmp 1) = .pointer (some ⟨g, o, none⟩) := hA.keep 1 (by kernel_rfl)
        refine GoesG.value (.pointer (some ⟨g, o, none⟩)) rfl ?_ (Below.refl _ _) (fun s h1 h2 => h1 rfl)
        simp only [execOp, e1]
        simp [go_sem]
      | 2, ho =>
        obtain rfl := Option.some.inj ho
        have e1 : a'.eval (.tmp 13) = .pointer (some ⟨g, o, none⟩) := (sv_dst (l := _) rfl).symm.trans (hA.new 1 (by decide) (by kernel_rfl))
        refine GoesG.value (.pointer (some ⟨g, o, none⟩)) rfl ?_ (Below.refl _ _) (fun s h1 h2 => h1 rfl)
        simp only [execOp, e1]
        simp [go_sem]
      | 3, ho =>
        obtain rfl := Option.some.inj ho
        have e1 : a'.eval (.tmp 14) = .pointer (some ⟨g, o, none⟩) := (sv_dst (l := _) rfl).symm.trans (hA.new 2 (by decide) (by kernel_rfl))
        refine GoesG.value (.pointer (some ⟨g, o + 1, none⟩)) rfl ?_ (Below.refl _ _) (fun s h1 h2 => h1 rfl)
        simp only [execOp, e1]
        simp [go_sem]
      | 4, ho =>
        obtain rfl := Option.some.inj ho
        have e1 : a'.eval (.tmp 12) = cR R := (sv_dst (l := _) rfl).symm.trans (hA.new 0 (by decide) (by kernel_rfl))
        refine GoesG.value (.func (.method "nursery/program.number") #[cR R] #[]) rfl ?_ (Below.refl _ _) (fun s h1 h2 => h1 rfl)
        simp only [execOp, e1]
        simp [go_sem]
        simpa [Act.eval] using e1
      | 5, ho =>
        obtain rfl := Option.some.inj ho
        have e1 : a'.eval (.tmp 16) = .func (.method "nursery/program.number") #[cR R] #[] := (sv_dst (l := _) rfl).symm.trans (hA.new 4 (by decide) (by kernel_rfl))
        refine GoesG.value (.func (.method "nursery/program.number") #[cR R] #[]) rfl ?_ (Below.refl _ _) (fun s h1 h2 => h1 rfl)
        simp only [execOp, e1]
        simp [go_sem, hna_n]
      | 6, ho =>
        obtain rfl := Option.some.inj ho
        have e1 : a'.eval (.tmp 12) = cR R := (sv_dst (l := _) rfl).symm.trans (hA.new 0 (by decide) (by kernel_rfl))
        refine GoesG.value (cR R) rfl ?_ (Below.refl _ _) (fun s h1 h2 => h1 rfl)
        simp only [execOp, e1]
        simp [go_sem]
      | i + 7, ho => cases ho
    · intro vs w2d hvs hG1 hΦ
      obtain ⟨y0, y1, y2, y3, y4, y5, y6, rfl⟩ : ∃ y0 y1 y2 y3 y4 y5 y6, vs = y0 :: y1 :: y2 :: y3 :: y4 :: y5 :: y6 :: [] := by
        match vs, hvs with
        | y0 :: y1 :: y2 :: y3 :: y4 :: y5 :: y6 :: [], _ => exact ⟨y0, y1, y2, y3, y4, y5, y6, rfl⟩
      have e0 : y0 = cR R := hΦ 0 (by decide)
      subst e0
      have e1 : y1 = .pointer (some ⟨g, o, none⟩) := hΦ 1 (by decide)
      subst e1
      have e2 : y2 = .pointer (some ⟨g, o, none⟩) := hΦ 2 (by decide)
      subst e2
      have e3 : y3 = .pointer (some ⟨g, o + 1, none⟩) := hΦ 3 (by decide)
      subst e3
      have e4 : y4 = .func (.method "nursery/program.number") #[cR R] #[] := hΦ 4 (by decide)
      subst e4
      have e5 : y5 = .func (.method "nursery/program.number") #[cR R] #[] := hΦ 5 (by decide)
      subst e5
      have e6 : y6 = cR R := hΦ 6 (by decide)
      subst e6
      clear hΦ hvs
      simp only [putAll, Act.put, List.setIfInBounds_toArray, List.set_cons_succ, List.set_cons_zero]
      have HD1 := Lib.hid hG1
      clear hG1
      go_wp2_with fail
      refine (show Calls _ _ _ _ _ from K1.out _ ((HD1.out.below.block _ (lt_of_block HR1.out)).trans HR1.out) ((HD1.out.below.block _ (lt_of_block HP1.out)).trans HP1.out)).mono ?_
      rintro _ w2 ⟨rfl, hR, hP, hO⟩
      have HR2 := Lib.hid hR
      have HP2 := Lib.hid hP
      have HO2 := Lib.hid (Ot2.trans HO1.out (Ot2.trans (Ot2.of_ext HD1.out) hO))
      clear hR hP hO
      go_wp2
      refine wp_region_tail (l1 := [_, _, _, _, _, _, _]) (l2 := [_]) (by kernel_rfl) Ext (fun W => Below.refl _ W) (fun W => show Below W.heap.size W { W with drawn := W.drawn + 1 } from ⟨rfl, rfl, rfl, Nat.le_refl _, fun _ _ => rfl⟩) Ext.trans
        (fun i s W => match i with
          | 0 => s 0 = cR R
          | 1 => s 1 = .pointer (some ⟨g, o, none⟩)
          | 2 => s 2 = .pointer (some ⟨g, o, none⟩)
          | 3 => s 3 = .pointer (some ⟨g, o + 2, none⟩)
          | 4 => s 4 = .func (.method "nursery/program.number") #[cR R] #[]
          | 5 => s 5 = .func (.method "nursery/program.number") #[cR R] #[]
          | 6 => s 6 = cR R
          | _ => True)
        (fun i => [i])
        (by
          intro i s s' W W' h hs hE
          have hs := hs i (by simp)
          match i, h, hs with
          | 0, h, hs => exact hs.trans h
          | 1, h, hs => exact hs.trans h
          | 2, h, hs => exact hs.trans h
          | 3, h, hs => exact hs.trans h
          | 4, h, hs => exact hs.trans h
          | 5, h, hs => exact hs.trans h
          | 6, h, hs => exact hs.trans h
          | i + 7, h, hs => exact trivial)
        (by kernel_rfl) (by kernel_rfl) (by kernel_rfl) 36 rfl (by kernel_rfl) (by kernel_rfl) ?_ ?_
      · intro i op ho a' W hA

        match i, ho with
        | 0, ho =>
          obtain rfl := Option.some.inj ho
          have e1 : a'.eval (.tmp 0) = cR R := hA.keep 0 (by kernel_rfl)
          refine GoesG.value (cR R) rfl ?_ (Below.refl _ _) (fun s h1 h2 => h1 rfl)
          simp only [execOp, e1]
          simp [go_sem]
        | 1, ho =>
          obtain rfl := Option.some.inj ho
          have e1 : a'.eval (.tmp 1) = .pointer (some ⟨g, o, none⟩) := hA.keep 1 (by kernel_rfl)
          refine GoesG.value (.pointer (some ⟨g, o, none⟩)) rfl ?_ (Below.refl _ _) (fun s h1 h2 => h1 rfl)
          simp only [execOp, e1]
          simp [go_sem]
        | 2, ho =>
          obtain rfl := Option.some.inj ho
          have e1 : a'.eval (.tmp 21) = .pointer (some ⟨g, o, none⟩) := (sv_dst (l := _) rfl).symm.trans (hA.new 1 (by decide) (by kernel_rfl))
          refine GoesG.value (.pointer (some ⟨g, o, none⟩)) rfl ?_ (Below.refl _ _) (fun s h1 h2 => h1 rfl)
          simp only [execOp, e1]
          simp [go_sem]
        | 3, ho =>
          obtain rfl := Option.some.inj ho
          have e1 : a'.eval (.tmp 22) = .pointer (some ⟨g, o, none⟩) := (sv_dst (l := _) rfl).symm.trans (hA.new 2 (by decide) (by kernel_rfl))
          refine GoesG.value (.pointer (some ⟨g, o + 2, none⟩)) rfl ?_ (Below.refl _ _) (fun s h1 h2 => h1 rfl)
          simp only [execOp, e1]
          simp [go_sem]
        | 4, ho =>
          obtain rfl := Option.some.inj ho
          have e1 : a'.eval (.tmp 20) = cR R := (sv_dst (l := _) rfl).symm.trans (hA.new 0 (by decide) (by kernel_rfl))
          refine GoesG.value (.func (.method "nursery/program.number") #[cR R] #[]) rfl ?_ (Below.refl _ _) (fun s h1 h2 => h1 rfl)
          simp only [execOp, e1]
          simp [go_sem]
          simpa [Act.eval] using e1
        | 5, ho =>
          obtain rfl := Option.some.inj ho
          have e1 : a'.eval (.tmp 24) = .func (.method "nursery/program.number") #[cR R] #[] := (sv_dst (l := _) rfl).symm.trans (hA.new 4 (by decide) (by kernel_rfl))
          refine GoesG.value (.func (.method "nursery/program.number") #[cR R] #[]) rfl ?_ (Below.refl _ _) (fun s h1 h2 => h1 rfl)
          simp only [execOp, e1]
          simp [go_sem, hna_n]
        | 6, ho =>
          obtain rfl := Option.some.inj ho
          have e1 : a'.eval (.tmp 20) = cR R := (sv_dst (l := _) rfl).symm.trans (hA.new 0 (by decide) (by kernel_rfl))
          refine GoesG.value (cR R) rfl ?_ (Below.refl _ _) (fun s h1 h2 => h1 rfl)
          simp only [execOp, e1]
          simp [go_sem]
        | i + 7, ho => cases ho
      · intro vs w3d hvs hG2 hΦ
        obtain ⟨y0, y1, y2, y3, y4, y5, y6, rfl⟩ : ∃ y0 y1 y2 y3 y4 y5 y6, vs = y0 :: y1 :: y2 :: y3 :: y4 :: y5 :: y6 :: [] := by
          match vs, hvs with
          | y0 :: y1 :: y2 :: y3 :: y4 :: y5 :: y6 :: [], _ => exact ⟨y0, y1, y2, y3, y4, y5, y6, rfl⟩
        have e0 : y0 = cR R := hΦ 0 (by decide)
        subst e0
        have e1 : y1 = .pointer (some ⟨g, o, none⟩) := hΦ 1 (by decide)
        subst e1
        have e2 : y2 = .pointer (some ⟨g, o, none⟩) := hΦ 2 (by decide)
        subst e2
        have e3 : y3 = .pointer (some ⟨g, o + 2, none⟩) := hΦ 3 (by decide)
        subst e3
        have e4 : y4 = .func (.method "nursery/program.number") #[cR R] #[] := hΦ 4 (by decide)
        subst e4
        have e5 : y5 = .func (.method "nursery/program.number") #[cR R] #[] := hΦ 5 (by decide)
        subst e5
        have e6 : y6 = cR R := hΦ 6 (by decide)
        subst e6
        clear hΦ hvs
        simp only [putAll, Act.put, List.setIfInBounds_toArray, List.set_cons_succ, List.set_cons_zero]
        have HD2 := Lib.hid hG2
        clear hG2
        go_wp2_with fail
        refine (show Calls _ _ _ _ _ from K2.out _ ((HD2.out.below.block _ (lt_of_block HR2.out)).trans HR2.out) ((HD2.out.below.block _ (lt_of_block HP2.out)).trans HP2.out)).mono ?_
        rintro _ w3 ⟨rfl, hR, hP, hO⟩
        have HR3 := Lib.hid hR
        have HP3 := Lib.hid hP
        have HO3 := Lib.hid (Ot2.trans HO2.out (Ot2.trans (Ot2.of_ext HD2.out) hO))
        clear hR hP hO
        go_wp2
        refine wp_region_tail (l1 := [_, _, _, _, _, _, _]) (l2 := [_]) (by kernel_rfl) Ext (fun W => Below.refl _ W) (fun W => show Below W.heap.size W { W with drawn := W.drawn + 1 } from ⟨rfl, rfl, rfl, Nat.le_refl _, fun _ _ => rfl⟩) Ext.trans
          (fun i s W => match i with
            | 0 => s 0 = cR R
            | 1 => s 1 = .pointer (some ⟨g, o, none⟩)
            | 2 => s 2 = .pointer (some ⟨g, o, none⟩)
            | 3 => s 3 = .pointer (some ⟨g, o + 3, none⟩)
            | 4 => s 4 = .func (.method "nursery/program.number") #[cR R] #[]
            | 5 => s 5 = .func (.method "nursery/program.number") #[cR R] #[]
            | 6 => s 6 = cR R
            | _ => True)
          (fun i => [i])
          (by
            intro i s s' W W' h hs hE
            have hs := hs i (by simp)
            match i, h, hs with
            | 0, h, hs => exact hs.trans h
            | 1, h, hs => exact hs.trans h
            | 2, h, hs => exact hs.trans h
            | 3, h, hs => exact hs.trans h
            | 4, h, hs => exact hs.trans h
            | 5, h, hs => exact hs.trans h
            | 6, h, hs => exact hs.trans h
            | i + 7, h, hs => exact trivial)
          (by kernel_rfl) (by kernel_rfl) (by kernel_rfl) 36 rfl (by kernel_rfl) (by kernel_rfl) ?_ ?_
        · intro i op ho a' W hA

          match i, ho with
          | 0, ho =>
            obtain rfl := Option.some.inj ho
            have e1 : a'.eval (.tmp 0) = cR R := hA.keep 0 (by kernel_rfl)
            refine GoesG.value (cR R) rfl ?_ (Below.refl _ _) (fun s h1 h2 => h1 rfl)
            simp only [execOp, e1]
            simp [go_sem]
          | 1, ho =>
            obtain rfl := Option.some.inj ho
            have e1 : a'.eval (.tmp 1) = .pointer (some ⟨g, o, none⟩) := hA.keep 1 (by kernel_rfl)
            refine GoesG.value (.pointer (some ⟨g, o, none⟩)) rfl ?_ (Below.refl _ _) (fun s h1 h2 => h1 rfl)
            simp only [execOp, e1]
            simp [go_sem]
          | 2, ho =>
            obtain rfl := Option.some.inj ho
            have e1 : a'.eval (.tmp 29) = .pointer (some ⟨g, o, none⟩) := (sv_dst (l := _) rfl).symm.trans (hA.new 1 (by decide) (by kernel_rfl))
            refine GoesG.value (.pointer (some ⟨g, o, none⟩)) rfl ?_ (Below.refl _ _) (fun s h1 h2 => h1 rfl)
            simp only [execOp, e1]
            simp [go_sem]
          | 3, ho =>
            obtain rfl := Option.some.inj ho
            have e1 : a'.eval (.tmp 30) = .pointer (some ⟨g, o, none⟩) := (sv_dst (l := _) rfl).symm.trans (hA.new 2 (by decide) (by kernel_rfl))
            refine GoesG.value (.pointer (some ⟨g, o + 3, none⟩)) rfl ?_ (Below.refl _ _) (fun s h1 h2 => h1 rfl)
            simp only [execOp, e1]
            simp [go_sem]
          | 4, ho =>
            obtain rfl := Option.some.inj ho
            have e1 : a'.eval (.tmp 28) = cR R := (sv_dst (l := _) rfl).symm.trans (hA.new 0 (by decide) (by kernel_rfl))
            refine GoesG.value (.func (.method "nursery/program.number") #[cR R] #[]) rfl ?_ (Below.refl _ _) (fun s h1 h2 => h1 rfl)
            simp only [execOp, e1]
            simp [go_sem]
            simpa [Act.eval] using e1
          | 5, ho =>
            obtain rfl := Option.some.inj ho
            have e1 : a'.eval (.tmp 32) = .func (.method "nursery/program.number") #[cR R] #[] := (sv_dst (l := _) rfl).symm.trans (hA.new 4 (by decide) (by kernel_rfl))
            refine GoesG.value (.func (.method "nursery/program.number") #[cR R] #[]) rfl ?_ (Below.refl _ _) (fun s h1 h2 => h1 rfl)
            simp only [execOp, e1]
            simp [go_sem, hna_n]
          | 6, ho =>
            obtain rfl := Option.some.inj ho
            have e1 : a'.eval (.tmp 28) = cR R := (sv_dst (l := _) rfl).symm.trans (hA.new 0 (by decide) (by kernel_rfl))
            refine GoesG.value (cR R) rfl ?_ (Below.refl _ _) (fun s h1 h2 => h1 rfl)
            simp only [execOp, e1]
            simp [go_sem]
          | i + 7, ho => cases ho
        · intro vs w4d hvs hG3 hΦ
          obtain ⟨y0, y1, y2, y3, y4, y5, y6, rfl⟩ : ∃ y0 y1 y2 y3 y4 y5 y6, vs = y0 :: y1 :: y2 :: y3 :: y4 :: y5 :: y6 :: [] := by
            match vs, hvs with
            | y0 :: y1 :: y2 :: y3 :: y4 :: y5 :: y6 :: [], _ => exact ⟨y0, y1, y2, y3, y4, y5, y6, rfl⟩
          have e0 : y0 = cR R := hΦ 0 (by decide)
          subst e0
          have e1 : y1 = .pointer (some ⟨g, o, none⟩) := hΦ 1 (by decide)
          subst e1
          have e2 : y2 = .pointer (some ⟨g, o, none⟩) := hΦ 2 (by decide)
          subst e2
          have e3 : y3 = .pointer (some ⟨g, o + 3, none⟩) := hΦ 3 (by decide)
          subst e3
          have e4 : y4 = .func (.method "nursery/program.number") #[cR R] #[] := hΦ 4 (by decide)
          subst e4
          have e5 : y5 = .func (.method "nursery/program.number") #[cR R] #[] := hΦ 5 (by decide)
          subst e5
          have e6 : y6 = cR R := hΦ 6 (by decide)
          subst e6
          clear hΦ hvs
          simp only [putAll, Act.put, List.setIfInBounds_toArray, List.set_cons_succ, List.set_cons_zero]
          have HD3 := Lib.hid hG3
          clear hG3
          go_wp2_with fail
          refine (show Calls _ _ _ _ _ from K3.out _ ((HD3.out.below.block _ (lt_of_block HR3.out)).trans HR3.out) ((HD3.out.below.block _ (lt_of_block HP3.out)).trans HP3.out)).mono ?_
          rintro _ w4 ⟨rfl, hR, hP, hO⟩
          have HR4 := Lib.hid hR
          have HP4 := Lib.hid hP
          have HO4 := Lib.hid (Ot2.trans HO3.out (Ot2.trans (Ot2.of_ext HD3.out) hO))
          clear hR hP hO
          go_wp2
          go_end0
          exact ⟨rfl, HR4.out, HO4.out, HP4.out⟩
set_option maxRecDepth 100000 in
set_option maxHeartbeats 4000000 in
theorem rVa_any (R g o : Nat) (st : RSt) (cs : Array Value) (T : TypeId) (w : World) (hR : w.heap[R]? = some (rdQ st)) (hP : w.heap[g]? = some (.cells cs T (0, 0))) (hne : g ≠ R) (ho : o + 3 ≤ cs.size) (hl : st.1.length ≤ 10000000) (hbf : cs[o + 2]? = some (.bool false)) :
    Calls Tryz.prog 58 #[cR R, .pointer (some ⟨g, o, none⟩)] w fun e w' => e = .returned (.tuple #[]) ∧ w'.heap[R]? = some (rdQ (gFlg (gNum (gTxt st).2).2).2) ∧ Ot2 R g w w' ∧ w'.heap[g]? = some (.cells (((cs.setIfInBounds o (sV (gTxt st).1)).setIfInBounds (o + 1) (.int .i64 (gNum (gTxt st).2).1)).setIfInBounds (o + 2) (.bool (gFlg (gNum (gTxt st).2).2).1)) T (0, 0)) := by
  have hl0 : st.1.length ≤ 10000000 := hl
  have hl1 : (gTxt st).2.1.length ≤ 10000000 := Nat.le_trans (gTxt_le st) hl0
  have hl2 : (gNum (gTxt st).2).2.1.length ≤ 10000000 := Nat.le_trans (gNum_le (gTxt st).2) hl1
  have K0 := Lib.hid (fun W (h : W.heap[R]? = some (rdQ st)) (hb : W.heap[g]? = some (.cells cs T (0, 0))) => rtext_any R g o st cs T W h hb hne (by first | omega | (simp; omega)) (by omega))
  have K1 := Lib.hid (fun W (h : W.heap[R]? = some (rdQ (gTxt st).2)) (hb : W.heap[g]? = some (.cells (cs.setIfInBounds o (sV (gTxt st).1)) T (0, 0))) => rnum_any R g (o + 1) (gTxt st).2 (cs.setIfInBounds o (sV (gTxt st).1)) T W h hb hne (by first | omega | (simp; omega)) (by omega))
  have K2 := Lib.hid (fun W (h : W.heap[R]? = some (rdQ (gNum (gTxt st).2).2)) (hb : W.heap[g]? = some (.cells ((cs.setIfInBounds o (sV (gTxt st).1)).setIfInBounds (o + 1) (.int .i64 (gNum (gTxt st).2).1)) T (0, 0))) => rflag_any R g (o + 2) (gNum (gTxt st).2).2 ((cs.setIfInBounds o (sV (gTxt st).1)).setIfInBounds (o + 1) (.int .i64 (gNum (gTxt st).2).1)) T false W h hb hne (by first | omega | (simp; omega)) (by simp [Array.getElem?_setIfInBounds, hbf]) (by omega))
  have hna_n : ∀ W, Sem.run Tryz.prog (nilAhead 358 tRp (.pointer (some ⟨R, 0, none⟩)) "nursery/program.number") W = .ok (some false) W := fun W => by kernel_rfl
  have hna_t : ∀ W, Sem.run Tryz.prog (nilAhead 358 tRp (.pointer (some ⟨R, 0, none⟩)) "nursery/program.text") W = .ok (some false) W := fun W => by kernel_rfl
  have HR0 := Lib.hid hR
  have HP0 := Lib.hid hP
  have HO0 := Lib.hid (Ot2.refl R g w)
  have hgR : g < w.heap.size ∧ R < w.heap.size := ⟨lt_of_block hP, lt_of_block hR⟩
  have HGR := Lib.hid hgR
  clear hl0 hl hR hP hgR ho hbf hl1 hl2
  generalize (gTxt st).1 = v1 at *
  generalize (gTxt st).2 = s1 at *
  generalize (gNum s1).1 = v2 at *
  generalize (gNum s1).2 = s2 at *
  generalize (gFlg s2).1 = v3 at *
  generalize (gFlg s2).2 = s3 at *
  go_enter Tryz.func58, Tryz.ntmps58
  go_wp2
  refine wp_region_tail (l1 := [_, _, _, _, _, _, _]) (l2 := [_]) (by kernel_rfl) Ext (fun W => Below.refl _ W) (fun W => show Below W.heap.size W { W with drawn := W.drawn + 1 } from ⟨rfl, rfl, rfl, Nat.le_refl _, fun _ _ => rfl⟩) Ext.trans
    (fun i s W => match i with
      | 0 => s 0 = cR R
      | 1 => s 1 = .pointer (some ⟨g, o, none⟩)
      | 2 => s 2 = .pointer (some ⟨g, o, none⟩)
      | 3 => s 3 = .pointer (some ⟨g, o, none⟩)
      | 4 => s 4 = .func (.method "nursery/program.text") #[cR R] #[]
      | 5 => s 5 = .func (.method "nursery/program.text") #[cR R] #[]
      | 6 => s 6 = cR R
      | _ => True)
    (fun i => [i])
    (by
      intro i s s' W W' h hs hE
      have hs := hs i (by simp)
      match i, h, hs with
      | 0, h, hs => exact hs.trans h
      | 1, h, hs => exact hs.trans h
      | 2, h, hs => exact hs.trans h
      | 3, h, hs => exact hs.trans h
      | 4, h, hs => exact hs.trans h
      | 5, h, hs => exact hs.trans h
      | 6, h, hs => exact hs.trans h
      | i + 7, h, hs => exact trivial)
    (by kernel_rfl) (by kernel_rfl) (by kernel_rfl) 25 rfl (by kernel_rfl) (by kernel_rfl) ?_ ?_
  · intro i op ho a' W hA

    match i, ho with
    | 0, ho =>
      obtain rfl := Option.some.inj ho
      have e1 : a'.eval (.tmp 0) = cR R := hA.keep 0 (by kernel_rfl)
      refine GoesG.value (cR R) rfl ?_ (Below.refl _ _) (fun s h1 h2 => h1 rfl)
      simp only [execOp, e1]
      simp [go_sem]
    | 1, ho =>
      obtain rfl := Option.some.inj ho
      have e1 : a'.eval (.tmp 1) = .pointer (some ⟨g, o, none⟩) := hA.keep 1 (by kernel_rfl)
      refine GoesG.value (.pointer (some ⟨g, o, none⟩)) rfl ?_ (Below.refl _ _) (fun s h1 h2 => h1 rfl)
      simp only [execOp, e1]
      simp [go_sem]
    | 2, ho =>
      obtain rfl := Option.some.inj ho
      have e1 : a'.eval (.tmp 5) = .pointer (some ⟨g, o, none⟩) := (sv_dst (l := _) rfl).symm.trans (hA.new 1 (by decide) (by kernel_rfl))
      refine GoesG.value (.pointer (some ⟨g, o, none⟩)) rfl ?_ (Below.refl _ _) (fun s h1 h2 => h1 rfl)
      simp only [execOp, e1]
      simp [go_sem]
    | 3, ho =>
      obtain rfl := Option.some.inj ho
      have e1 : a'.eval (.tmp 6) = .pointer (some ⟨g, o, none⟩) := (sv_dst (l := _) rfl).symm.trans (hA.new 2 (by decide) (by kernel_rfl))
      refine GoesG.value (.pointer (some ⟨g, o, none⟩)) rfl ?_ (Below.refl _ _) (fun s h1 h2 => h1 rfl)
      simp only [execOp, e1]
      simp [go_sem]
    | 4, ho =>
      obtain rfl := Option.some.inj ho
      have e1 : a'.eval (.tmp 4) = cR R := (sv_dst (l := _) rfl).symm.trans (hA.new 0 (by decide) (by kernel_rfl))
      refine GoesG.value (.func (.method "nursery/program.text") #[cR R] #[]) rfl ?_ (Below.refl _ _) (fun s h1 h2 => h1 rfl)
      simp only [execOp, e1]
      simp [go_sem]
      simpa [Act.eval] using e1
    | 5, ho =>
      obtain rfl := Option.some.inj ho
      have e1 : a'.eval (.tmp 8) = .func (.method "nursery/program.text") #[cR R] #[] := (sv_dst (l := _) rfl).symm.trans (hA.new 4 (by decide) (by kernel_rfl))
      refine GoesG.value (.func (.method "nursery/program.text") #[cR R] #[]) rfl ?_ (Below.refl _ _) (fun s h1 h2 => h1 rfl)
      simp only [execOp, e1]
      simp [go_sem, hna_t]
    | 6, ho =>
      obtain rfl := Option.some.inj ho
      have e1 : a'.eval (.tmp 4) = cR R := (sv_dst (l := _) rfl).symm.trans (hA.new 0 (by decide) (by kernel_rfl))
      refine GoesG.value (cR R) rfl ?_ (Below.refl _ _) (fun s h1 h2 => h1 rfl)
      simp only [execOp, e1]
      simp [go_sem]
    | i + 7, ho => cases ho
  · intro vs w1d hvs hG0 hΦ
    obtain ⟨y0, y1, y2, y3, y4, y5, y6, rfl⟩ : ∃ y0 y1 y2 y3 y4 y5 y6, vs = y0 :: y1 :: y2 :: y3 :: y4 :: y5 :: y6 :: [] := by
      match vs, hvs with
      | y0 :: y1 :: y2 :: y3 :: y4 :: y5 :: y6 :: [], _ => exact ⟨y0, y1, y2, y3, y4, y5, y6, rfl⟩
    have e0 : y0 = cR R := hΦ 0 (by decide)
    subst e0
    have e1 : y1 = .pointer (some ⟨g, o, none⟩) := hΦ 1 (by decide)
    subst e1
    have e2 : y2 = .pointer (some ⟨g, o, none⟩) := hΦ 2 (by decide)
    subst e2
    have e3 : y3 = .pointer (some ⟨g, o, none⟩) := hΦ 3 (by decide)
    subst e3
    have e4 : y4 = .func (.method "nursery/program.text") #[cR R] #[] := hΦ 4 (by decide)
    subst e4
    have e5 : y5 = .func (.method "nursery/program.text") #[cR R] #[] := hΦ 5 (by decide)
    subst e5
    have e6 : y6 = cR R := hΦ 6 (by decide)
    subst e6
    clear hΦ hvs
    simp only [putAll, Act.put, List.setIfInBounds_toArray, List.set_cons_succ, List.set_cons_zero]
    have HD0 := Lib.hid hG0
    clear hG0
    go_wp2_with fail
    refine (show Calls _ _ _ _ _ from K0.out _ ((HD0.out.below.block _ (lt_of_block HR0.out)).trans HR0.out) ((HD0.out.below.block _ (lt_of_block HP0.out)).trans HP0.out)).mono ?_
    rintro _ w1 ⟨rfl, hR, hP, hO⟩
    have HR1 := Lib.hid hR
    have HP1 := Lib.hid hP
    have HO1 := Lib.hid (Ot2.trans HO0.out (Ot2.trans (Ot2.of_ext HD0.out) hO))
    clear hR hP hO
    go_wp2
    refine wp_region_tail (l1 := [_, _, _, _, _, _, _]) (l2 := [_]) (by kernel_rfl) Ext (fun W => Below.refl _ W) (fun W => show Below W.heap.size W { W with drawn := W.drawn + 1 } from ⟨rfl, rfl, rfl, Nat.le_refl _, fun _ _ => rfl⟩) Ext.trans
      (fun i s W => match i with
        | 0 => s 0 = cR R
        | 1 => s 1 = .pointer (some ⟨g, o, none⟩)
        | 2 => s 2 = .pointer (some ⟨g, o, none⟩)
        | 3 => s 3 = .pointer (some ⟨g, o + 1, none⟩)
        | 4 => s 4 = .func (.method "nursery/program.number") #[cR R] #[]
        | 5 => s 5 = .func (.method "nursery/program.number") #[cR R] #[]
        | 6 => s 6 = cR R
        | _ => True)
      (fun i => [i])
      (by
        intro i s s' W W' h hs hE
        have hs := hs i (by simp)
        match i, h, hs with
        | 0, h, hs => exact hs.trans h
        | 1, h, hs => exact hs.trans h
        | 2, h, hs => exact hs.trans h
        | 3, h, hs => exact hs.trans h
        | 4, h, hs => exact hs.trans h
        | 5, h, hs => exact hs.trans h
        | 6, h, hs => exact hs.trans h
        | i + 7, h, hs => exact trivial)
      (by kernel_rfl) (by kernel_rfl) (by kernel_rfl) 25 rfl (by kernel_rfl) (by kernel_rfl) ?_ ?_
    · intro i op ho a' W hA

      match i, ho with
      | 0, ho =>
        obtain rfl := Option.some.inj ho
        have e1 : a'.eval (.tmp 0) = cR R := hA.keep 0 (by kernel_rfl)
        refine GoesG.value (cR R) rfl ?_ (Below.refl _ _) (fun s h1 h2 => h1 rfl)
        simp only [execOp, e1]
        simp [go_sem]
      | 1, ho =>
        obtain rfl := Option.some.inj ho
        have e1 : a'.eval (.tmp 1) = .pointer (some ⟨g, o, none⟩) := hA.keep 1 (by kernel_rfl)
        refine GoesG.value (.pointer (some ⟨g, o, none⟩)) rfl ?_ (Below.refl _ _) (fun s h1 h2 => h1 rfl)
        simp only [execOp, e1]
        simp [go_sem]
      | 2, ho =>
        obtain rfl := Option.some.inj ho
        have e1 : a'.eval (.tmp 13) = .pointer (some ⟨g, o, none⟩) := (sv_dst (l := _) rfl).symm.trans (hA.new 1 (by decide) (by kernel_rfl))
        refine GoesG.value (.pointer (some ⟨g, o, none⟩)) rfl ?_ (Below.refl _ _) (fun s h1 h2 => h1 rfl)
        simp only [execOp, e1]
        simp [go_sem]
      | 3, ho =>
        obtain rfl := Option.some.inj ho
        have e1 : a'.eval (.tmp 14) = .pointer (some ⟨g, o, none⟩) := (sv_dst (l := _) rfl).symm.trans (hA.new 2 (by decide) (by kernel_rfl))
        refine GoesG.value (.pointer (some ⟨g, o + 1, none⟩)) rfl ?_ (Below.refl _ _) (fun s h1 h2 => h1 rfl)
        simp only [execOp, e1]
        simp [go_sem]
      | 4, ho =>
        obtain rfl := Option.some.inj ho
        have e1 : a'.eval (.tmp 12) = cR R := (sv_dst (l := _) rfl).symm.trans (hA.new 0 (by decide) (by kernel_rfl))
        refine GoesG.value (.func (.method "nursery/program.number") #[cR R] #[]) rfl ?_ (Below.refl _ _) (fun s h1 h2 => h1 rfl)
        simp only [execOp, e1]
        simp [go_sem]
        simpa [Act.eval] using e1
      | 5, ho =>
        obtain rfl := Option.some.inj ho
        have e1 : a'.eval (.tmp 16) = .func (.method "nursery/program.number") #[cR R] #[] := (sv_dst (l := _) rfl).symm.trans (hA.new 4 (by decide) (by kernel_rfl))
        refine GoesG.value (.func (.method "nursery/program.number") #[cR R] #[]) rfl ?_ (Below.refl _ _) (fun s h1 h2 => h1 rfl)
        simp only [execOp, e1]
        simp [go_sem, hna_n]
      | 6, ho =>
        obtain rfl := Option.some.inj ho
        have e1 : a'.eval (.tmp 12) = cR R := (sv_dst (l := _) rfl).symm.trans (hA.new 0 (by decide) (by kernel_rfl))
        refine GoesG.value (cR R) rfl ?_ (Below.refl _ _) (fun s h1 h2 => h1 rfl)
        simp only [execOp, e1]
        simp [go_sem]
      | i + 7, ho => cases ho
    · intro vs w2d hvs hG1 hΦ
      obtain ⟨y0, y1, y2, y3, y4, y5, y6, rfl⟩ : ∃ y0 y1 y2 y3 y4 y5 y6, vs = y0 :: y1 :: y2 :: y3 :: y4 :: y5 :: y6 :: [] := by
        match vs, hvs with
        | y0 :: y1 :: y2 :: y3 :: y4 :: y5 :: y6 :: [], _ => exact ⟨y0, y1, y2, y3, y4, y5, y6, rfl⟩
      have e0 : y0 = cR R := hΦ 0 (by decide)
      subst e0
      have e1 : y1 = .pointer (some ⟨g, o, none⟩) := hΦ 1 (by decide)
      subst e1
      have e2 : y2 = .pointer (some ⟨g, o, none⟩) := hΦ 2 (by decide)
      subst e2
      have e3 : y3 = .pointer (some ⟨g, o + 1, none⟩) := hΦ 3 (by decide)
      subst e3
      have e4 : y4 = .func (.method "nursery/program.number") #[cR R] #[] := hΦ 4 (by decide)
      subst e4
      have e5 : y5 = .func (.method "nursery/program.number") #[cR R] #[] := hΦ 5 (by decide)
      subst e5
      have e6 : y6 = cR R := hΦ 6 (by decide)
      subst e6
      clear hΦ hvs
      simp only [putAll, Act.put, List.setIfInBounds_toArray, List.set_cons_succ, List.set_cons_zero]
      have HD1 := Lib.hid hG1
      clear hG1
      go_wp2_with fail
      refine (show Calls _ _ _ _ _ from K1.out _ ((HD1.out.below.block _ (lt_of_block HR1.out)).trans HR1.out) ((HD1.out.below.block _ (lt_of_block HP1.out)).trans HP1.out)).mono ?_
      rintro _ w2 ⟨rfl, hR, hP, hO⟩
      have HR2 := Lib.hid hR
      have HP2 := Lib.hid hP
      have HO2 := Lib.hid (Ot2.trans HO1.out (Ot2.trans (Ot2.of_ext HD1.out) hO))
      clear hR hP hO
      go_wp2_with fail
      refine (show Calls _ _ _ _ _ from K2.out _ HR2.out HP2.out).mono ?_
      rintro _ w3 ⟨rfl, hR, hP, hO⟩
      have HR3 := Lib.hid hR
      have HP3 := Lib.hid hP
      have HO3 := Lib.hid (Ot2.trans HO2.out hO)
      clear hR hP hO
      go_wp2
      go_end0
      exact ⟨rfl, HR3.out, HO3.out, HP3.out⟩
end Go.Proofs.YtfkjokbhnblndaaGreatDoor

namespace Go.Proofs.YtfkjokbhnblndaaGreatDoor
open Go.RowKit Go.Shelf
set_option linter.unusedVariables false
set_option linter.unusedSimpArgs false

theorem rreading_any (b : Nat) (w : World) : Calls Tryz.prog 208 #[.pointer (some ⟨b, 0, none⟩)] w fun e w' => e = .returned (.bool true) ∧ w' = w := by
  go_enter Tryz.func208, Tryz.ntmps208
  go_wp2
  go_ret
  exact ⟨rfl, rfl⟩
theorem run_make_k {P : Program} (t e : TypeId) (z : Array Value) (k bytes : Nat) (ht : P.underlying t = some (.slice e)) (hinfo : (P.info? e).map (fun i => (i.zero.map Value.cells, i.size, i.bytes)) = some (some z, k, bytes))
    (n : Nat) (hb : bytes * n ≤ 281474976710656) (h63 : n ≤ 9223372036854775807) (w : World) :
    (Instr.makeSlice t (.int .i64 (n : Int)) (.int .i64 (n : Int))).run P w = .ok (.slice (some ⟨w.heap.size, 0, none⟩) n n) (w.alloc (.cells (madeCells z (n * k)) e)) := by
  obtain ⟨i, hi, hz⟩ := Option.map_eq_some_iff.1 hinfo
  simp only [Prod.mk.injEq, Option.map_eq_some_iff] at hz
  obtain ⟨⟨v, hv, hvz⟩, hs, hby⟩ := hz
  have hb' : (i.bytes : Int) * (n : Int) ≤ 281474976710656 := by
    rw [hby]
    have h : ((bytes * n : Nat) : Int) ≤ 281474976710656 := by omega
    rwa [Int.natCast_mul] at h
  have := run_make w t e i v ht hi hv .i64 .i64 n n (by omega) (Int.le_refl _) hb' (by omega)
  rw [Int.toNat_natCast, hs, hvz] at this
  exact this
theorem made_get (z : Array Value) (n q : Nat) (h : q < n) : (madeCells z n)[q]? = some (z[q % z.size]!) := by
  simp [madeCells, h]

/-- reading a number of things -/
def gRep {α : Type} (one : RSt → α × RSt) : Nat → RSt → List α × RSt
  | 0, s => ([], s)
  | n + 1, s => ((one s).1 :: (gRep one n (one s).2).1, (gRep one n (one s).2).2)
def gCnt (n : Int) : Nat := if n < 0 ∨ 1000 < n then 0 else n.toNat
def gEach {α : Type} (one : RSt → α × RSt) (s : RSt) : List α × RSt := gRep one (gCnt (gNum s).1) (gNum s).2
theorem gRep_len {α : Type} (one : RSt → α × RSt) : ∀ n s, (gRep one n s).1.length = n
  | 0, _ => rfl
  | n + 1, s => by simp [gRep, gRep_len one n]
/-- how a thing lies in memory: in block g from o on, what it refers to in blocks from B on -/
abbrev SlT (α : Type) := Nat → World → Nat → Nat → α → Prop
def SlKeep {α : Type} (Sl : SlT α) (k : Nat) : Prop := ∀ B w w' R g0 g o x, Sl B w g o x → Ot2 R g0 w w' → R < B → g0 < B → (∀ q, o ≤ q → q < o + k → w'.cell? ⟨g, q, none⟩ = w.cell? ⟨g, q, none⟩) → Sl B w' g o x
def SlDown {α : Type} (Sl : SlT α) : Prop := ∀ B B' w g o x, Sl B w g o x → B' ≤ B → Sl B' w g o x
/-- a row of things, in a block of its own from B on -/
def RowS {α : Type} (Sl : SlT α) (k : Nat) (T : TypeId) (B : Nat) (w : World) (a : Option Addr) (l : List α) : Prop :=
  ∃ g cs, a = some ⟨g, 0, none⟩ ∧ B ≤ g ∧ w.heap[g]? = some (.cells cs T (0, 0)) ∧ cs.size = l.length * k ∧ ∀ j (h : j < l.length), Sl (g + 1) w g (j * k) l[j]
theorem RowS.keep {α : Type} {Sl : SlT α} {k : Nat} {T : TypeId} {B R g0 : Nat} {w w' : World} {a : Option Addr} {l : List α} (hK : SlKeep Sl k) (h : RowS Sl k T B w a l) (hO : Ot2 R g0 w w') (h1 : R < B) (h2 : g0 < B) : RowS Sl k T B w' a l := by
  obtain ⟨g, cs, ha, hB, hg, hs, hj⟩ := h
  have hg' : w'.heap[g]? = some (.cells cs T (0, 0)) := hO.block hg (by omega) (by omega)
  refine ⟨g, cs, ha, hB, hg', hs, fun j hj' => hK _ _ _ _ _ _ _ _ (hj j hj') hO (by omega) (by omega) (fun q _ _ => ?_)⟩
  unfold World.cell?
  dsimp only
  rw [hg, hg']
theorem RowS.down {α : Type} {Sl : SlT α} {k : Nat} {T : TypeId} {B B' : Nat} {w : World} {a : Option Addr} {l : List α} (h : RowS Sl k T B w a l) (hB : B' ≤ B) : RowS Sl k T B' w a l := by
  obtain ⟨g, cs, ha, hB2, hg, hs, hj⟩ := h
  exact ⟨g, cs, ha, by omega, hg, hs, hj⟩
def InsSl : SlT Ins := fun B w g o x => ∃ a c, Ins.cells w g o x a c ∧ RowI B (.slice a x.args.length c) x.args w
def ObSl : SlT Ob := fun _ w g o x => Ob.cells w g o x
def VaSl : SlT Va := fun _ w g o x => Va.cells w g o x
def FnSl : SlT Fn := fun B w g o x => ∃ a c, Fn.cells w g o x a c ∧ x.code.length ≤ c ∧ RowS InsSl 5 50 B w a x.code
theorem InsSl.keep : SlKeep InsSl 5 := by
  rintro B w w' R g0 g o x ⟨a, c, h, hI⟩ hO h1 h2 hq
  refine ⟨a, c, ⟨?_, ?_, ?_, ?_, ?_⟩, hI.ot2 hO h1 h2⟩
  · rw [hq o (by omega) (by omega)]; exact h.c0
  · rw [hq (o + 1) (by omega) (by omega)]; exact h.c1
  · rw [hq (o + 2) (by omega) (by omega)]; exact h.c2
  · rw [hq (o + 3) (by omega) (by omega)]; exact h.c3
  · rw [hq (o + 4) (by omega) (by omega)]; exact h.c4
theorem ObSl.keep : SlKeep ObSl 4 := by
  rintro B w w' R g0 g o x h hO h1 h2 hq
  refine ⟨?_, ?_, ?_, ?_⟩
  · rw [hq o (by omega) (by omega)]; exact h.c0
  · rw [hq (o + 1) (by omega) (by omega)]; exact h.c1
  · rw [hq (o + 2) (by omega) (by omega)]; exact h.c2
  · rw [hq (o + 3) (by omega) (by omega)]; exact h.c3
theorem VaSl.keep : SlKeep VaSl 3 := by
  rintro B w w' R g0 g o x h hO h1 h2 hq
  refine ⟨?_, ?_, ?_⟩
  · rw [hq o (by omega) (by omega)]; exact h.c0
  · rw [hq (o + 1) (by omega) (by omega)]; exact h.c1
  · rw [hq (o + 2) (by omega) (by omega)]; exact h.c2
theorem FnSl.keep : SlKeep FnSl 6 := by
  rintro B w w' R g0 g o x ⟨a, c, h, hc, hI⟩ hO h1 h2 hq
  refine ⟨a, c, ⟨?_, ?_, ?_, ?_, ?_, ?_⟩, hc, hI.keep InsSl.keep hO h1 h2⟩
  · rw [hq o (by omega) (by omega)]; exact h.c0
  · rw [hq (o + 1) (by omega) (by omega)]; exact h.c1
  · rw [hq (o + 2) (by omega) (by omega)]; exact h.c2
  · rw [hq (o + 3) (by omega) (by omega)]; exact h.c3
  · rw [hq (o + 4) (by omega) (by omega)]; exact h.c4
  · rw [hq (o + 5) (by omega) (by omega)]; exact h.c5
theorem InsSl.down : SlDown InsSl := fun B B' w g o x ⟨a, c, h, hI⟩ hB => ⟨a, c, h, World.ownsRow.mono hI hB⟩
theorem FnSl.down : SlDown FnSl := fun B B' w g o x ⟨a, c, h, hc, hI⟩ hB => ⟨a, c, h, hc, hI.down hB⟩
theorem ObSl.down : SlDown ObSl := fun _ _ _ _ _ _ h _ => h
theorem VaSl.down : SlDown VaSl := fun _ _ _ _ _ _ h _ => h
/-- what one thing's reading leaves -/
def ROne {α : Type} (one : RSt → α × RSt) (Sl : SlT α) (k : Nat) (R g o : Nat) (st : RSt) (cs : Array Value) (T : TypeId) (w : World) (e : Ending) (w' : World) : Prop :=
  e = .returned (.tuple #[]) ∧ w'.heap[R]? = some (rdQ (one st).2) ∧ Ot2 R g w w' ∧ ∃ cs', w'.heap[g]? = some (.cells cs' T (0, 0)) ∧ cs'.size = cs.size ∧ (∀ q, q < o ∨ o + k ≤ q → cs'[q]? = cs[q]?) ∧ Sl w.heap.size w' g o (one st).1
theorem rIns_one (R g o : Nat) (st : RSt) (cs : Array Value) (T : TypeId) (w : World) (hR : w.heap[R]? = some (rdQ st)) (hP : w.heap[g]? = some (.cells cs T (0, 0))) (hne : g ≠ R) (ho : o + 5 ≤ cs.size) (hl : st.1.length ≤ 10000000) :
    Calls Tryz.prog 54 #[cR R, .pointer (some ⟨g, o, none⟩)] w (ROne gIns InsSl 5 R g o st cs T w) := by
  refine (rIns_any R g o st cs T w hR hP hne ho hl).mono ?_
  rintro e w' ⟨h1, h2, h3, x, c, h4, h5⟩
  refine ⟨h1, h2, h3, _, h4, by simp, fun q hq => ?_, x, c, ⟨cell_of h4 ?_, cell_of h4 ?_, cell_of h4 ?_, cell_of h4 ?_, cell_of h4 ?_⟩, h5⟩
  · simp only [Array.getElem?_setIfInBounds]
    rw [if_neg (by omega), if_neg (by omega), if_neg (by omega), if_neg (by omega), if_neg (by omega)]
  all_goals (simp only [Array.getElem?_setIfInBounds, Array.size_setIfInBounds]; simp; exact ⟨by omega, rfl⟩)
theorem rOb_one (R g o : Nat) (st : RSt) (cs : Array Value) (T : TypeId) (w : World) (hR : w.heap[R]? = some (rdQ st)) (hP : w.heap[g]? = some (.cells cs T (0, 0))) (hne : g ≠ R) (ho : o + 4 ≤ cs.size) (hl : st.1.length ≤ 10000000) :
    Calls Tryz.prog 56 #[cR R, .pointer (some ⟨g, o, none⟩)] w (ROne gOb ObSl 4 R g o st cs T w) := by
  refine (rOb_any R g o st cs T w hR hP hne ho hl).mono ?_
  rintro e w' ⟨h1, h2, h3, h4⟩
  refine ⟨h1, h2, h3, _, h4, by simp, fun q hq => ?_, ⟨cell_of h4 ?_, cell_of h4 ?_, cell_of h4 ?_, cell_of h4 ?_⟩⟩
  · simp only [Array.getElem?_setIfInBounds]
    rw [if_neg (by omega), if_neg (by omega), if_neg (by omega), if_neg (by omega)]
  all_goals (simp only [Array.getElem?_setIfInBounds, Array.size_setIfInBounds]; simp; exact ⟨by omega, rfl⟩)
theorem rVa_one (R g o : Nat) (st : RSt) (cs : Array Value) (T : TypeId) (w : World) (hR : w.heap[R]? = some (rdQ st)) (hP : w.heap[g]? = some (.cells cs T (0, 0))) (hne : g ≠ R) (ho : o + 3 ≤ cs.size) (hl : st.1.length ≤ 10000000) (hbf : cs[o + 2]? = some (.bool false)) :
    Calls Tryz.prog 58 #[cR R, .pointer (some ⟨g, o, none⟩)] w (ROne gVa VaSl 3 R g o st cs T w) := by
  refine (rVa_any R g o st cs T w hR hP hne ho hl hbf).mono ?_
  rintro e w' ⟨h1, h2, h3, h4⟩
  refine ⟨h1, h2, h3, _, h4, by simp, fun q hq => ?_, ⟨cell_of h4 ?_, cell_of h4 ?_, cell_of h4 ?_⟩⟩
  · simp only [Array.getElem?_setIfInBounds]
    rw [if_neg (by omega), if_neg (by omega), if_neg (by omega)]
  all_goals (simp only [Array.getElem?_setIfInBounds, Array.size_setIfInBounds]; simp; exact ⟨by omega, rfl⟩)
end Go.Proofs.YtfkjokbhnblndaaGreatDoor

namespace Go.Proofs.YtfkjokbhnblndaaGreatDoor
open Go.RowKit Go.Shelf
set_option linter.unusedVariables false
set_option linter.unusedSimpArgs false

theorem Ot2.then {R p G : Nat} {w a b : World} (h : Ot2 R p w a) (k : Ot2 R G a b) (hG : w.heap.size ≤ G) : Ot2 R p w b :=
  ⟨k.os.trans h.os, k.tape.trans h.tape, k.output.trans h.output, Nat.le_trans h.size k.size, fun j hj h1 h2 => (k.other j (Nat.lt_of_lt_of_le hj h.size) h1 (by omega)).trans (h.other j hj h1 h2)⟩
theorem cell_heap {w w' : World} {g q : Nat} {c c' : Array Value} {T : TypeId} (h : w.heap[g]? = some (.cells c T (0, 0))) (h' : w'.heap[g]? = some (.cells c' T (0, 0))) (hq : c'[q]? = c[q]?) : w'.cell? ⟨g, q, none⟩ = w.cell? ⟨g, q, none⟩ := by
  unfold World.cell?
  dsimp only
  rw [h, h']
  exact hq
/-- a round of reading a list -/
structure RIn {α : Type} (one : RSt → α × RSt) (Sl : SlT α) (k : Nat) (tT : TypeId) (Zt : Array Value → Nat → Prop) (R G pb n : Nat) (P' : Obj) (XS : List α) (SF : RSt) (w : World) (i : Nat) (wr : World) : Prop where
  ex : ∃ (xs : List α) (si : RSt) (ci : Array Value), xs.length = i ∧ xs ++ (gRep one (n - i) si).1 = XS ∧ (gRep one (n - i) si).2 = SF ∧ si.1.length ≤ 10000000 ∧ wr.heap[R]? = some (rdQ si) ∧ wr.heap[G]? = some (.cells ci tT (0, 0)) ∧ ci.size = n * k ∧ (∀ j, i ≤ j → j < n → Zt ci (j * k)) ∧ ∀ j (h : j < xs.length), Sl (G + 1) wr G (j * k) xs[j]
  pbx : wr.heap[pb]? = some P'
  ot : Ot2 R pb w wr
theorem RIn.step {α : Type} {one : RSt → α × RSt} {Sl : SlT α} {k : Nat} {tT : TypeId} {Zt : Array Value → Nat → Prop} {R G pb n : Nat} {P' : Obj} {XS : List α} {SF : RSt} {w wr w4 : World} {i : Nat} (hK : SlKeep Sl k) (hD : SlDown Sl)
    (hle : ∀ s, (one s).2.1.length ≤ s.1.length) (hZt : ∀ (c c' : Array Value) o, (∀ q, o ≤ q → q < o + k → c'[q]? = c[q]?) → Zt c o → Zt c' o) (hlt : i < n) (hRG : R < G) (hpG : pb < G) (hpR : pb ≠ R) (hwG : w.heap.size ≤ G)
    {xs : List α} {si : RSt} {ci : Array Value} (h1 : xs.length = i) (h2 : xs ++ (gRep one (n - i) si).1 = XS) (h3 : (gRep one (n - i) si).2 = SF) (h4 : si.1.length ≤ 10000000) (h6 : wr.heap[G]? = some (.cells ci tT (0, 0))) (h7 : ci.size = n * k) (h8 : ∀ j, i ≤ j → j < n → Zt ci (j * k)) (h9 : ∀ j (h : j < xs.length), Sl (G + 1) wr G (j * k) xs[j])
    (hp : wr.heap[pb]? = some P') (hot : Ot2 R pb w wr)
    (a2 : w4.heap[R]? = some (rdQ (one si).2)) (a3 : Ot2 R G wr w4) {cs' : Array Value} (b1 : w4.heap[G]? = some (.cells cs' tT (0, 0))) (b2 : cs'.size = ci.size) (b3 : ∀ q, q < i * k ∨ i * k + k ≤ q → cs'[q]? = ci[q]?) (b4 : Sl wr.heap.size w4 G (i * k) (one si).1) :
    RIn one Sl k tT Zt R G pb n P' XS SF w (i + 1) w4 := by
  have hni : n - i = (n - (i + 1)) + 1 := by omega
  rw [hni] at h2 h3
  have hmul : ∀ j, j < i → j * k + k ≤ i * k := fun j hj => by
    have := Nat.mul_le_mul_right k (show j + 1 ≤ i by omega)
    rwa [Nat.add_mul, Nat.one_mul] at this
  refine ⟨⟨xs ++ [(one si).1], (one si).2, cs', by simp [h1], ?_, h3, Nat.le_trans (hle si) h4, a2, b1, by rw [b2, h7], fun j hj hjn => ?_, fun j hj => ?_⟩, a3.block hp hpR (by omega), hot.then a3 hwG⟩
  · rw [← h2]; simp [gRep]
  · refine hZt ci cs' _ (fun q hq _ => b3 q (.inr ?_)) (h8 j (by omega) hjn)
    have := Nat.mul_le_mul_right k (show i + 1 ≤ j by omega)
    rw [Nat.add_mul, Nat.one_mul] at this
    omega
  · by_cases hji : j < xs.length
    · rw [List.getElem_append_left hji]
      refine hK _ _ _ _ _ _ _ _ (h9 j hji) a3 (by omega) (by omega) (fun q hq1 hq2 => cell_heap h6 b1 (b3 q (.inl ?_)))
      have := hmul j (by omega)
      omega
    · have : j = i := by simp at hj; omega
      subst this
      rw [List.getElem_append_right (by omega)]
      simp only [h1, Nat.sub_self, List.getElem_cons_zero]
      exact hD _ _ _ _ _ _ b4 (lt_of_block h6)
theorem hmul2 (i n k : Nat) (h : i < n) : i * k + k ≤ n * k := by
  have := Nat.mul_le_mul_right k (show i + 1 ≤ n by omega)
  rwa [Nat.add_mul, Nat.one_mul] at this
theorem gIns_le (s : RSt) : (gIns s).2.1.length ≤ s.1.length := Nat.le_trans (gLst_le _) (Nat.le_trans (gNum_le _) (Nat.le_trans (gNum_le _) (Nat.le_trans (gNum_le _) (gNum_le s))))
theorem gOb_le (s : RSt) : (gOb s).2.1.length ≤ s.1.length := Nat.le_trans (gNum_le _) (Nat.le_trans (gNum_le _) (Nat.le_trans (gNum_le _) (gTxt_le s)))
theorem gVa_le (s : RSt) : (gVa s).2.1.length ≤ s.1.length := Nat.le_trans (gNum_le _) (Nat.le_trans (gNum_le _) (gTxt_le s))
theorem gRep_le {α : Type} (one : RSt → α × RSt) (h : ∀ s, (one s).2.1.length ≤ s.1.length) : ∀ n s, (gRep one n s).2.1.length ≤ s.1.length
  | 0, _ => Nat.le_refl _
  | n + 1, s => Nat.le_trans (gRep_le one h n _) (h s)
theorem gEach_le {α : Type} (one : RSt → α × RSt) (h : ∀ s, (one s).2.1.length ≤ s.1.length) (s : RSt) : (gEach one s).2.1.length ≤ s.1.length := Nat.le_trans (gRep_le one h _ _) (gNum_le s)
def gFn (s : RSt) : Fn × RSt := (⟨(gTxt s).1, (gNum (gTxt s).2).1, (gNum (gNum (gTxt s).2).2).1, (gNum (gNum (gNum (gTxt s).2).2).2).1, (gFlg (gNum (gNum (gNum (gTxt s).2).2).2).2).1, (gEach gIns (gFlg (gNum (gNum (gNum (gTxt s).2).2).2).2).2).1⟩, (gEach gIns (gFlg (gNum (gNum (gNum (gTxt s).2).2).2).2).2).2)
theorem gFn_le (s : RSt) : (gFn s).2.1.length ≤ s.1.length := Nat.le_trans (gEach_le gIns gIns_le _) (Nat.le_trans (gNum_le _) (Nat.le_trans (gNum_le _) (Nat.le_trans (gNum_le _) (Nat.le_trans (gNum_le _) (gTxt_le s)))))
set_option maxRecDepth 100000 in
set_option maxHeartbeats 4000000 in
theorem reach_Ins_some (R pb po : Nat) (st : RSt) (cs : Array Value) (T : TypeId) (w : World) (hR : w.heap[R]? = some (rdQ st)) (hP : w.heap[pb]? = some (.cells cs T (0, 0))) (hne : pb ≠ R) (hpo : po < cs.size) (hz : cs[po]? = some (.slice none 0 0)) (hl : st.1.length ≤ 10000000) (n : Nat) (hm : (gNum st).1 = (n : Int)) (hn : n ≤ 1000)
    (KE0 : ∀ (g i : Nat) (st' : RSt) (cs' : Array Value) (w' : World), w'.heap[R]? = some (rdQ st') → w'.heap[g]? = some (.cells cs' 50 (0, 0)) → g ≠ R → i * 5 + 5 ≤ cs'.size → st'.1.length ≤ 10000000 → (fun _ _ => True) cs' (i * 5) → Calls Tryz.prog 54 #[cR R, .pointer (some ⟨g, i * 5, none⟩)] w' (ROne gIns InsSl 5 R g (i * 5) st' cs' 50 w')) :
    Calls Tryz.prog 53 #[cR R, .pointer (some ⟨pb, po, none⟩), .func (.func 54) #[] #[]] w fun e w' => e = .returned (.tuple #[]) ∧ w'.heap[R]? = some (rdQ (gEach gIns st).2) ∧ Ot2 R pb w w' ∧
      ∃ a, w'.heap[pb]? = some (.cells (cs.setIfInBounds po (.slice a (gEach gIns st).1.length (gEach gIns st).1.length)) T (0, 0)) ∧ RowS InsSl 5 50 w.heap.size w' a (gEach gIns st).1 := by
  have KN := Lib.hid (fun W nb x (h : W.heap[R]? = some (rdQ st)) (hb : W.heap[nb]? = some (.cells #[x] 3 (0, 0))) (hn : nb ≠ R) => rnum_any R nb 0 st #[x] 3 W h hb hn (by simp) (by omega))
  have KE := Lib.hid KE0
  have dP : w.cell? ⟨pb, po, none⟩ = some (.slice none 0 0) := cell_of hP hz
  have HR := Lib.hid hR
  have HP := Lib.hid hP
  have hlR : R < w.heap.size := lt_of_block hR
  have hlP : pb < w.heap.size := lt_of_block hP
  have HL1 := Lib.hid (Nat.le_trans (gNum_le st) hl)
  clear hR hP hz hl KE0
  have hcn : ¬ ((n : Int) < 0 ∨ 1000 < (n : Int)) := by omega
  have HG := Lib.hid (show gEach gIns st = gRep gIns n (gNum st).2 from by
    unfold gEach gCnt
    rw [hm, if_neg hcn, Int.toNat_natCast])
  rw [HG.out]
  have HXL := Lib.hid (gRep_len gIns n (gNum st).2)
  rw [HXL.out]
  have hmk := fun W => run_make_k (P := Tryz.prog) 45 50 #[.int .i64 0, .int .i64 0, .int .i64 0, .int .i64 0, .slice none 0 0] 5 56 Tryz.underlying45 (by kernel_rfl) n (by omega) (by omega) W
  obtain ⟨c0, hc0⟩ : ∃ c, madeCells #[.int .i64 0, .int .i64 0, .int .i64 0, .int .i64 0, .slice none 0 0] (n * 5) = c := ⟨_, rfl⟩
  have HC0 := Lib.hid (show c0.size = n * 5 from by rw [← hc0]; exact size_madeCells _ _)
  have HZ0 := Lib.hid (show ∀ j, 0 ≤ j → j < n → (fun _ _ => True) c0 (j * 5) from fun j _ hj => by
    have hj2 := hmul2 j n 5 hj
    rw [← hc0]
    trivial)
  rw [hc0] at hmk
  have hg : ¬ (1000 : Int) < (n : Int) := by omega
  clear hc0 HG hcn
  generalize hst1 : (gNum st).2 = st1 at *
  rw [hm] at KN
  clear hm hst1
  obtain ⟨m, hmn⟩ : ∃ m : Int, (n : Int) = m := ⟨_, rfl⟩
  obtain ⟨XS, hXS⟩ : ∃ x, (gRep gIns n st1).1 = x := ⟨_, rfl⟩
  obtain ⟨SF, hSF⟩ : ∃ x, (gRep gIns n st1).2 = x := ⟨_, rfl⟩
  have HS := Lib.hid (And.intro hXS hSF)
  rw [hXS, hSF]
  rw [hXS] at HXL
  clear hXS hSF
  rw [hmn] at KN
  go_enter Tryz.func53, Tryz.ntmps53
  go_wp2_with fail
  have hb1 := alloc_here w (.cells #[.int .i64 0] 3)
  have HE := Lib.hid (ext_alloc (Below.refl _ w) (.cells #[.int .i64 0] 3))
  have HP1 := Lib.hid ((HE.out.below.block _ hlP).trans HP.out)
  refine (show Calls _ _ _ _ _ from KN.out _ w.heap.size (.int .i64 0) ((HE.out.below.block _ hlR).trans HR.out) hb1 (by omega)).mono ?_
  rintro _ w2 ⟨rfl, hR2, hb2, hO⟩
  have HR2 := Lib.hid hR2
  have HO := Lib.hid (show Ot2 R pb w w2 from Ot2.fresh HE.out hO (Nat.le_refl _))
  have HP2 := Lib.hid (hO.block HP1.out hne (by omega))
  have hb2 : w2.heap[w.heap.size]? = some (.cells #[.int .i64 m] 3 (0, 0)) := hb2
  have HB2 := Lib.hid hb2
  clear hb1 hR2 hb2 hO
  go_wp2_with fail
  refine (rreading_any R _).mono ?_
  rintro _ w3 ⟨rfl, h3⟩
  obtain rfl := h3.symm
  have d0 : w2.cell? ⟨w.heap.size, 0, none⟩ = some (.int .i64 m) := cell_of HB2.out rfl
  have d1 : w2.frozen? ⟨w.heap.size, 0, none⟩ = false := free_of HB2.out
  have e0 := cell_at HP2.out hpo
  have e1 : w2.frozen? ⟨pb, po, none⟩ = false := free_of HP2.out
  have hs0 := lt_of_block HB2.out
  have hs2 := lt_of_block HP2.out
  subst hmn
  go_upto_region 6 with fail
  obtain ⟨w5, hw5⟩ : ∃ W, ((w2.setCell ⟨pb, po, none⟩ (.slice (some ⟨w2.heap.size, 0, none⟩) n n)).alloc (.cells c0 50)) = W := ⟨_, rfl⟩
  have hsz5 : (w2.setCell ⟨pb, po, none⟩ (.slice (some ⟨w2.heap.size, 0, none⟩) n n)).heap.size = w2.heap.size := by simp [World.setCell]
  have HA5 := Lib.hid (show Ext (w2.setCell ⟨pb, po, none⟩ (.slice (some ⟨w2.heap.size, 0, none⟩) n n)) w5 from by rw [← hw5]; exact ext_alloc (Below.refl _ _) _)
  have HG5 := Lib.hid (show w5.heap[w2.heap.size]? = some (.cells c0 50 (0, 0)) from by
    have := alloc_here (w2.setCell ⟨pb, po, none⟩ (.slice (some ⟨w2.heap.size, 0, none⟩) n n)) (.cells c0 50)
    rw [hsz5, hw5] at this; exact this)
  have hp5 := heap_set (i := po) HP2.out (.slice (some ⟨w2.heap.size, 0, none⟩) n n)
  have HP5 := Lib.hid ((HA5.out.below.block _ (lt_of_block hp5)).trans hp5)
  have HR5 := Lib.hid ((HA5.out.below.block _ (by rw [hsz5]; exact lt_of_block HR2.out)).trans ((Below.heap_setCell _ _ _ _ (fun e => hne e.symm)).trans HR2.out))
  have HO5 := Lib.hid (Ot2.trans (Ot2.trans HO.out (Ot2.setG (g := pb) (i := po) w2 (.slice (some ⟨w2.heap.size, 0, none⟩) n n))) (Ot2.of_ext HA5.out))
  clear hp5 hsz5
  have HPO := Lib.hid (show (cs.setIfInBounds po (.slice (some ⟨w2.heap.size, 0, none⟩) n n))[po]? = some (.slice (some ⟨w2.heap.size, 0, none⟩) n n) from by simp [hpo])
  have hwG : w.heap.size ≤ w2.heap.size := Nat.le_of_lt hs0
  have hRG : R < w2.heap.size := by omega
  rw [hw5]
  clear hw5 d0 d1 e0 e1 hs0 dP
  obtain ⟨Gb, hGb⟩ : ∃ b, w2.heap.size = b := ⟨_, rfl⟩
  rw [hGb] at HP5 HG5 HPO hwG hRG hs2 ⊢
  clear hGb
  have f0 := cell_of HP5.out HPO.out
  go_wp2
  go_loopw [30] (fun v wr => ∃ i : Nat, v = .int .i64 (i : Int) ∧ i ≤ n ∧ RIn gIns InsSl 5 50 (fun _ _ => True) R Gb pb n (.cells (cs.setIfInBounds po (.slice (some ⟨Gb, 0, none⟩) n n)) T (0, 0)) XS SF w i wr) (fun v _ => n - (intOf v).toNat)
  case atStart => exact ⟨0, rfl, Nat.zero_le _, ⟨⟨[], st1, c0, rfl, (by rw [List.nil_append]; exact HS.out.1), HS.out.2, HL1.out, HR5.out, HG5.out, HC0.out, HZ0.out, fun j hj => absurd hj (Nat.not_lt_zero _)⟩, HP5.out, HO5.out⟩⟩
  case round =>
    obtain ⟨i, rfl, hi, ⟨⟨xs, si, ci, h1, h2, h3, h4, h5, h6, h7, h8, h9⟩, hp, hot⟩⟩ := hrel
    by_cases hlt : i < n
    · have h0 : (0 : Int) ≤ (i : Int) := by omega
      have hlt2 : (i : Int) < (n : Int) := by omega
      have f1 := cell_of hp HPO.out
      have HK := Lib.hid (KE.out Gb i si ci _ h5 h6 (by omega) (by rw [h7]; exact hmul2 i n 5 hlt) h4 (h8 i (Nat.le_refl _) hlt))
      have HH := Lib.hid (And.intro h1 (And.intro h2 (And.intro h3 (And.intro h4 (And.intro h6 (And.intro h7 (And.intro h8 (And.intro h9 (And.intro hp hot)))))))))
      clear h1 h2 h3 h4 h5 h6 h7 h8 h9 hp hot
      go_wp2_with fail
      refine (show Calls _ _ _ _ _ from HK.out).mono ?_
      rintro _ w6 ⟨rfl, a2, a3, cs', b1, b2, b3, b4⟩
      have HS6 := Lib.hid (show RIn gIns InsSl 5 50 (fun _ _ => True) R Gb pb n (.cells (cs.setIfInBounds po (.slice (some ⟨Gb, 0, none⟩) n n)) T (0, 0)) XS SF w (i + 1) w6 from by
        obtain ⟨h1, h2, h3, h4, h6, h7, h8, h9, hp, hot⟩ := HH.out
        exact RIn.step InsSl.keep InsSl.down gIns_le (fun _ _ _ _ h => h) hlt hRG hs2 hne hwG h1 h2 h3 h4 h6 h7 h8 h9 hp hot a2 a3 b1 b2 b3 b4)
      clear a2 a3 b1 b2 b3 b4 HH HK
      go_wp2
      go_roundw
      case rel => exact ⟨i + 1, by go_num, by omega, HS6.out⟩
      case measure => simp [intOf]; omega
    · have hin : i = n := by omega
      have HF := Lib.hid (show xs = XS ∧ si = SF from by
        rw [hin, Nat.sub_self] at h2 h3
        exact ⟨by rw [← h2]; simp [gRep], h3⟩)
      have HH := Lib.hid (And.intro h5 (And.intro h6 (And.intro h7 (And.intro h9 (And.intro hp hot)))))
      have f1 := cell_of hp HPO.out
      clear h1 h2 h3 h4 h5 h6 h7 h8 h9 hp hot
      subst hin
      go_wp2
      go_end0
      obtain ⟨g5, g6, g7, g9, gp, gt⟩ := HH.out
      obtain ⟨q1, q2⟩ := HF.out
      subst q1
      subst q2
      exact ⟨rfl, g5, gt, some ⟨Gb, 0, none⟩, gp, Gb, ci, rfl, hwG, g6, by rw [g7, HXL.out], g9⟩
set_option maxRecDepth 100000 in
set_option maxHeartbeats 4000000 in
theorem reach_Ins_low (R pb po : Nat) (st : RSt) (cs : Array Value) (T : TypeId) (w : World) (hR : w.heap[R]? = some (rdQ st)) (hP : w.heap[pb]? = some (.cells cs T (0, 0))) (hne : pb ≠ R) (hpo : po < cs.size) (hz : cs[po]? = some (.slice none 0 0)) (hl : st.1.length ≤ 10000000) (hm : (gNum st).1 < 0)
    (KE0 : ∀ (g i : Nat) (st' : RSt) (cs' : Array Value) (w' : World), w'.heap[R]? = some (rdQ st') → w'.heap[g]? = some (.cells cs' 50 (0, 0)) → g ≠ R → i * 5 + 5 ≤ cs'.size → st'.1.length ≤ 10000000 → (fun _ _ => True) cs' (i * 5) → Calls Tryz.prog 54 #[cR R, .pointer (some ⟨g, i * 5, none⟩)] w' (ROne gIns InsSl 5 R g (i * 5) st' cs' 50 w')) :
    Calls Tryz.prog 53 #[cR R, .pointer (some ⟨pb, po, none⟩), .func (.func 54) #[] #[]] w fun e w' => e = .returned (.tuple #[]) ∧ w'.heap[R]? = some (rdQ (gEach gIns st).2) ∧ Ot2 R pb w w' ∧
      ∃ a, w'.heap[pb]? = some (.cells (cs.setIfInBounds po (.slice a (gEach gIns st).1.length (gEach gIns st).1.length)) T (0, 0)) ∧ RowS InsSl 5 50 w.heap.size w' a (gEach gIns st).1 := by
  have KN := Lib.hid (fun W nb x (h : W.heap[R]? = some (rdQ st)) (hb : W.heap[nb]? = some (.cells #[x] 3 (0, 0))) (hn : nb ≠ R) => rnum_any R nb 0 st #[x] 3 W h hb hn (by simp) (by omega))
  have KE := Lib.hid KE0
  have dP : w.cell? ⟨pb, po, none⟩ = some (.slice none 0 0) := cell_of hP hz
  have HR := Lib.hid hR
  have HP := Lib.hid hP
  have hlR : R < w.heap.size := lt_of_block hR
  have hlP : pb < w.heap.size := lt_of_block hP
  have HL1 := Lib.hid (Nat.le_trans (gNum_le st) hl)
  clear hR hP hz hl KE0
  have hcn : (gNum st).1 < 0 ∨ 1000 < (gNum st).1 := .inl hm
  have HG := Lib.hid (show gEach gIns st = ([], (gNum st).2) from by
    unfold gEach gCnt
    rw [if_pos hcn]; rfl)
  rw [HG.out]
  obtain ⟨XS, hXS⟩ : ∃ x : List Ins, [] = x := ⟨_, rfl⟩
  have HXL := Lib.hid (show XS.length = 0 from by rw [← hXS]; rfl)
  have hmk : ∀ W, (Instr.makeSlice 45 (.int .i64 0) (.int .i64 0)).run Tryz.prog W = .ok (.slice (some ⟨W.heap.size, 0, none⟩) 0 0) (W.alloc (.cells (madeCells #[.int .i64 0, .int .i64 0, .int .i64 0, .int .i64 0, .slice none 0 0] (0 * 5)) 50)) := fun W => run_make_k (P := Tryz.prog) 45 50 #[.int .i64 0, .int .i64 0, .int .i64 0, .int .i64 0, .slice none 0 0] 5 56 Tryz.underlying45 (by kernel_rfl) 0 (by omega) (by omega) W
  obtain ⟨c0, hc0⟩ : ∃ c, madeCells #[.int .i64 0, .int .i64 0, .int .i64 0, .int .i64 0, .slice none 0 0] (0 * 5) = c := ⟨_, rfl⟩
  have HC0 := Lib.hid (show c0.size = 0 * 5 from by rw [← hc0]; exact size_madeCells _ _)
  have HZ0 := Lib.hid (show ∀ j, 0 ≤ j → j < 0 → (fun _ _ => True) c0 (j * 5) from fun j _ hj => absurd hj (Nat.not_lt_zero _))
  rw [hc0] at hmk
  clear hc0 HG hcn
  dsimp only
  have HXL2 := Lib.hid (show ([] : List Ins).length = 0 from rfl)
  rw [HXL2.out]
  generalize hst1 : (gNum st).2 = st1 at *
  generalize (gNum st).1 = m at *
  clear hst1
  obtain ⟨SF, hSF⟩ : ∃ x, st1 = x := ⟨_, rfl⟩
  have HS := Lib.hid (show (gRep gIns (0 - 0) st1).1 = XS ∧ (gRep gIns (0 - 0) st1).2 = SF from ⟨hXS, hSF⟩)
  rw [hXS, hSF]
  clear hXS hSF
  go_enter Tryz.func53, Tryz.ntmps53
  go_wp2_with fail
  have hb1 := alloc_here w (.cells #[.int .i64 0] 3)
  have HE := Lib.hid (ext_alloc (Below.refl _ w) (.cells #[.int .i64 0] 3))
  have HP1 := Lib.hid ((HE.out.below.block _ hlP).trans HP.out)
  refine (show Calls _ _ _ _ _ from KN.out _ w.heap.size (.int .i64 0) ((HE.out.below.block _ hlR).trans HR.out) hb1 (by omega)).mono ?_
  rintro _ w2 ⟨rfl, hR2, hb2, hO⟩
  have HR2 := Lib.hid hR2
  have HO := Lib.hid (show Ot2 R pb w w2 from Ot2.fresh HE.out hO (Nat.le_refl _))
  have HP2 := Lib.hid (hO.block HP1.out hne (by omega))
  have hb2 : w2.heap[w.heap.size]? = some (.cells #[.int .i64 m] 3 (0, 0)) := hb2
  have HB2 := Lib.hid hb2
  clear hb1 hR2 hb2 hO
  go_wp2_with fail
  refine (rreading_any R _).mono ?_
  rintro _ w3 ⟨rfl, h3⟩
  obtain rfl := h3.symm
  have d0 : w2.cell? ⟨w.heap.size, 0, none⟩ = some (.int .i64 m) := cell_of HB2.out rfl
  have d1 : w2.frozen? ⟨w.heap.size, 0, none⟩ = false := free_of HB2.out
  have e0 := cell_at HP2.out hpo
  have e1 : w2.frozen? ⟨pb, po, none⟩ = false := free_of HP2.out
  have hs0 := lt_of_block HB2.out
  have hs2 := lt_of_block HP2.out
  go_upto_region 6 with fail
  have HQ2 := Lib.hid (heap_set (i := 0) HB2.out (.int .i64 0))
  obtain ⟨w2', hw2'⟩ : ∃ W, w2.setCell ⟨w.heap.size, 0, none⟩ (.int .i64 0) = W := ⟨_, rfl⟩
  have hsz2 : w2'.heap.size = w2.heap.size := by rw [← hw2']; simp [World.setCell]
  have HR2' := Lib.hid (show w2'.heap[R]? = some (rdQ st1) from by rw [← hw2']; exact (Below.heap_setCell _ _ _ _ (show R ≠ w.heap.size by omega)).trans HR2.out)
  have HP2' := Lib.hid (show w2'.heap[pb]? = some (.cells cs T (0, 0)) from by rw [← hw2']; exact (Below.heap_setCell _ _ _ _ (show pb ≠ w.heap.size by omega)).trans HP2.out)
  have HO' := Lib.hid (show Ot2 R pb w w2' from by rw [← hw2']; exact HO.out.then (Ot2.setG (R := R) (g := w.heap.size) (i := 0) w2 (.int .i64 0)) (Nat.le_refl _))
  rw [hw2', ← hsz2]
  rw [← hsz2] at hs0 hs2
  clear hw2' HQ2 HB2 d0 d1 e0 e1 HR2 HP2 HO
  obtain ⟨w5, hw5⟩ : ∃ W, ((w2'.setCell ⟨pb, po, none⟩ (.slice (some ⟨w2'.heap.size, 0, none⟩) 0 0)).alloc (.cells c0 50)) = W := ⟨_, rfl⟩
  have hsz5 : (w2'.setCell ⟨pb, po, none⟩ (.slice (some ⟨w2'.heap.size, 0, none⟩) 0 0)).heap.size = w2'.heap.size := by simp [World.setCell]
  have HA5 := Lib.hid (show Ext (w2'.setCell ⟨pb, po, none⟩ (.slice (some ⟨w2'.heap.size, 0, none⟩) 0 0)) w5 from by rw [← hw5]; exact ext_alloc (Below.refl _ _) _)
  have HG5 := Lib.hid (show w5.heap[w2'.heap.size]? = some (.cells c0 50 (0, 0)) from by
    have := alloc_here (w2'.setCell ⟨pb, po, none⟩ (.slice (some ⟨w2'.heap.size, 0, none⟩) 0 0)) (.cells c0 50)
    rw [hsz5, hw5] at this; exact this)
  have hp5 := heap_set (i := po) HP2'.out (.slice (some ⟨w2'.heap.size, 0, none⟩) 0 0)
  have HP5 := Lib.hid ((HA5.out.below.block _ (lt_of_block hp5)).trans hp5)
  have HR5 := Lib.hid ((HA5.out.below.block _ (by rw [hsz5]; exact lt_of_block HR2'.out)).trans ((Below.heap_setCell _ _ _ _ (fun e => hne e.symm)).trans HR2'.out))
  have HO5 := Lib.hid (Ot2.trans (Ot2.trans HO'.out (Ot2.setG (g := pb) (i := po) w2' (.slice (some ⟨w2'.heap.size, 0, none⟩) 0 0))) (Ot2.of_ext HA5.out))
  clear hp5 hsz5
  have HPO := Lib.hid (show (cs.setIfInBounds po (.slice (some ⟨w2'.heap.size, 0, none⟩) 0 0))[po]? = some (.slice (some ⟨w2'.heap.size, 0, none⟩) 0 0) from by simp [hpo])
  have hwG : w.heap.size ≤ w2'.heap.size := Nat.le_of_lt hs0
  have hRG : R < w2'.heap.size := by omega
  rw [hw5]
  clear hw5 hs0 dP
  obtain ⟨Gb, hGb⟩ : ∃ b, w2'.heap.size = b := ⟨_, rfl⟩
  rw [hGb] at HP5 HG5 HPO hwG hRG hs2 ⊢
  clear hGb
  have f0 := cell_of HP5.out HPO.out
  go_wp2
  go_loopw [30] (fun v wr => ∃ i : Nat, v = .int .i64 (i : Int) ∧ i ≤ 0 ∧ RIn gIns InsSl 5 50 (fun _ _ => True) R Gb pb 0 (.cells (cs.setIfInBounds po (.slice (some ⟨Gb, 0, none⟩) 0 0)) T (0, 0)) XS SF w i wr) (fun v _ => 0 - (intOf v).toNat)
  case atStart => exact ⟨0, rfl, Nat.zero_le _, ⟨⟨[], st1, c0, rfl, (by rw [List.nil_append]; exact HS.out.1), HS.out.2, HL1.out, HR5.out, HG5.out, HC0.out, HZ0.out, fun j hj => absurd hj (Nat.not_lt_zero _)⟩, HP5.out, HO5.out⟩⟩
  case round =>
    obtain ⟨i, rfl, hi, ⟨⟨xs, si, ci, h1, h2, h3, h4, h5, h6, h7, h8, h9⟩, hp, hot⟩⟩ := hrel
    by_cases hlt : i < 0
    · exact absurd hlt (Nat.not_lt_zero _)
    · have hin : i = 0 := by omega
      have HF := Lib.hid (show xs = XS ∧ si = SF from by
        rw [hin, Nat.sub_self] at h2 h3
        exact ⟨by rw [← h2]; simp [gRep], h3⟩)
      have HH := Lib.hid (And.intro h5 (And.intro h6 (And.intro h7 (And.intro h9 (And.intro hp hot)))))
      have f1 := cell_of hp HPO.out
      clear h1 h2 h3 h4 h5 h6 h7 h8 h9 hp hot
      subst hin
      go_wp2
      go_end0
      obtain ⟨g5, g6, g7, g9, gp, gt⟩ := HH.out
      obtain ⟨q1, q2⟩ := HF.out
      subst q1
      subst q2
      exact ⟨rfl, g5, gt, some ⟨Gb, 0, none⟩, gp, Gb, ci, rfl, hwG, g6, by rw [g7, HXL.out], g9⟩
set_option maxRecDepth 100000 in
set_option maxHeartbeats 4000000 in
theorem reach_Ins_high (R pb po : Nat) (st : RSt) (cs : Array Value) (T : TypeId) (w : World) (hR : w.heap[R]? = some (rdQ st)) (hP : w.heap[pb]? = some (.cells cs T (0, 0))) (hne : pb ≠ R) (hpo : po < cs.size) (hz : cs[po]? = some (.slice none 0 0)) (hl : st.1.length ≤ 10000000) (hm : 1000 < (gNum st).1)
    (KE0 : ∀ (g i : Nat) (st' : RSt) (cs' : Array Value) (w' : World), w'.heap[R]? = some (rdQ st') → w'.heap[g]? = some (.cells cs' 50 (0, 0)) → g ≠ R → i * 5 + 5 ≤ cs'.size → st'.1.length ≤ 10000000 → (fun _ _ => True) cs' (i * 5) → Calls Tryz.prog 54 #[cR R, .pointer (some ⟨g, i * 5, none⟩)] w' (ROne gIns InsSl 5 R g (i * 5) st' cs' 50 w')) :
    Calls Tryz.prog 53 #[cR R, .pointer (some ⟨pb, po, none⟩), .func (.func 54) #[] #[]] w fun e w' => e = .returned (.tuple #[]) ∧ w'.heap[R]? = some (rdQ (gEach gIns st).2) ∧ Ot2 R pb w w' ∧
      ∃ a, w'.heap[pb]? = some (.cells (cs.setIfInBounds po (.slice a (gEach gIns st).1.length (gEach gIns st).1.length)) T (0, 0)) ∧ RowS InsSl 5 50 w.heap.size w' a (gEach gIns st).1 := by
  have KN := Lib.hid (fun W nb x (h : W.heap[R]? = some (rdQ st)) (hb : W.heap[nb]? = some (.cells #[x] 3 (0, 0))) (hn : nb ≠ R) => rnum_any R nb 0 st #[x] 3 W h hb hn (by simp) (by omega))
  have KE := Lib.hid KE0
  have dP : w.cell? ⟨pb, po, none⟩ = some (.slice none 0 0) := cell_of hP hz
  have HR := Lib.hid hR
  have HP := Lib.hid hP
  have hlR : R < w.heap.size := lt_of_block hR
  have hlP : pb < w.heap.size := lt_of_block hP
  have HL1 := Lib.hid (Nat.le_trans (gNum_le st) hl)
  clear hR hP hz hl KE0
  have hcn : (gNum st).1 < 0 ∨ 1000 < (gNum st).1 := .inr hm
  have HG := Lib.hid (show gEach gIns st = ([], (gNum st).2) from by
    unfold gEach gCnt
    rw [if_pos hcn]; rfl)
  rw [HG.out]
  obtain ⟨XS, hXS⟩ : ∃ x : List Ins, [] = x := ⟨_, rfl⟩
  have HXL := Lib.hid (show XS.length = 0 from by rw [← hXS]; rfl)
  have hmk : ∀ W, (Instr.makeSlice 45 (.int .i64 0) (.int .i64 0)).run Tryz.prog W = .ok (.slice (some ⟨W.heap.size, 0, none⟩) 0 0) (W.alloc (.cells (madeCells #[.int .i64 0, .int .i64 0, .int .i64 0, .int .i64 0, .slice none 0 0] (0 * 5)) 50)) := fun W => run_make_k (P := Tryz.prog) 45 50 #[.int .i64 0, .int .i64 0, .int .i64 0, .int .i64 0, .slice none 0 0] 5 56 Tryz.underlying45 (by kernel_rfl) 0 (by omega) (by omega) W
  obtain ⟨c0, hc0⟩ : ∃ c, madeCells #[.int .i64 0, .int .i64 0, .int .i64 0, .int .i64 0, .slice none 0 0] (0 * 5) = c := ⟨_, rfl⟩
  have HC0 := Lib.hid (show c0.size = 0 * 5 from by rw [← hc0]; exact size_madeCells _ _)
  have HZ0 := Lib.hid (show ∀ j, 0 ≤ j → j < 0 → (fun _ _ => True) c0 (j * 5) from fun j _ hj => absurd hj (Nat.not_lt_zero _))
  rw [hc0] at hmk
  clear hc0 HG hcn
  dsimp only
  have HXL2 := Lib.hid (show ([] : List Ins).length = 0 from rfl)
  rw [HXL2.out]
  generalize hst1 : (gNum st).2 = st1 at *
  generalize (gNum st).1 = m at *
  clear hst1
  obtain ⟨SF, hSF⟩ : ∃ x, st1 = x := ⟨_, rfl⟩
  have HS := Lib.hid (show (gRep gIns (0 - 0) st1).1 = XS ∧ (gRep gIns (0 - 0) st1).2 = SF from ⟨hXS, hSF⟩)
  rw [hXS, hSF]
  clear hXS hSF
  have hx0 : ¬ m < 0 := by omega
  go_enter Tryz.func53, Tryz.ntmps53
  go_wp2_with fail
  have hb1 := alloc_here w (.cells #[.int .i64 0] 3)
  have HE := Lib.hid (ext_alloc (Below.refl _ w) (.cells #[.int .i64 0] 3))
  have HP1 := Lib.hid ((HE.out.below.block _ hlP).trans HP.out)
  refine (show Calls _ _ _ _ _ from KN.out _ w.heap.size (.int .i64 0) ((HE.out.below.block _ hlR).trans HR.out) hb1 (by omega)).mono ?_
  rintro _ w2 ⟨rfl, hR2, hb2, hO⟩
  have HR2 := Lib.hid hR2
  have HO := Lib.hid (show Ot2 R pb w w2 from Ot2.fresh HE.out hO (Nat.le_refl _))
  have HP2 := Lib.hid (hO.block HP1.out hne (by omega))
  have hb2 : w2.heap[w.heap.size]? = some (.cells #[.int .i64 m] 3 (0, 0)) := hb2
  have HB2 := Lib.hid hb2
  clear hb1 hR2 hb2 hO
  go_wp2_with fail
  refine (rreading_any R _).mono ?_
  rintro _ w3 ⟨rfl, h3⟩
  obtain rfl := h3.symm
  have d0 : w2.cell? ⟨w.heap.size, 0, none⟩ = some (.int .i64 m) := cell_of HB2.out rfl
  have d1 : w2.frozen? ⟨w.heap.size, 0, none⟩ = false := free_of HB2.out
  have e0 := cell_at HP2.out hpo
  have e1 : w2.frozen? ⟨pb, po, none⟩ = false := free_of HP2.out
  have hs0 := lt_of_block HB2.out
  have hs2 := lt_of_block HP2.out
  go_upto_region 6 with fail
  have HQ2 := Lib.hid (heap_set (i := 0) HB2.out (.int .i64 0))
  obtain ⟨w2', hw2'⟩ : ∃ W, w2.setCell ⟨w.heap.size, 0, none⟩ (.int .i64 0) = W := ⟨_, rfl⟩
  have hsz2 : w2'.heap.size = w2.heap.size := by rw [← hw2']; simp [World.setCell]
  have HR2' := Lib.hid (show w2'.heap[R]? = some (rdQ st1) from by rw [← hw2']; exact (Below.heap_setCell _ _ _ _ (show R ≠ w.heap.size by omega)).trans HR2.out)
  have HP2' := Lib.hid (show w2'.heap[pb]? = some (.cells cs T (0, 0)) from by rw [← hw2']; exact (Below.heap_setCell _ _ _ _ (show pb ≠ w.heap.size by omega)).trans HP2.out)
  have HO' := Lib.hid (show Ot2 R pb w w2' from by rw [← hw2']; exact HO.out.then (Ot2.setG (R := R) (g := w.heap.size) (i := 0) w2 (.int .i64 0)) (Nat.le_refl _))
  rw [hw2', ← hsz2]
  rw [← hsz2] at hs0 hs2
  clear hw2' HQ2 HB2 d0 d1 e0 e1 HR2 HP2 HO
  obtain ⟨w5, hw5⟩ : ∃ W, ((w2'.setCell ⟨pb, po, none⟩ (.slice (some ⟨w2'.heap.size, 0, none⟩) 0 0)).alloc (.cells c0 50)) = W := ⟨_, rfl⟩
  have hsz5 : (w2'.setCell ⟨pb, po, none⟩ (.slice (some ⟨w2'.heap.size, 0, none⟩) 0 0)).heap.size = w2'.heap.size := by simp [World.setCell]
  have HA5 := Lib.hid (show Ext (w2'.setCell ⟨pb, po, none⟩ (.slice (some ⟨w2'.heap.size, 0, none⟩) 0 0)) w5 from by rw [← hw5]; exact ext_alloc (Below.refl _ _) _)
  have HG5 := Lib.hid (show w5.heap[w2'.heap.size]? = some (.cells c0 50 (0, 0)) from by
    have := alloc_here (w2'.setCell ⟨pb, po, none⟩ (.slice (some ⟨w2'.heap.size, 0, none⟩) 0 0)) (.cells c0 50)
    rw [hsz5, hw5] at this; exact this)
  have hp5 := heap_set (i := po) HP2'.out (.slice (some ⟨w2'.heap.size, 0, none⟩) 0 0)
  have HP5 := Lib.hid ((HA5.out.below.block _ (lt_of_block hp5)).trans hp5)
  have HR5 := Lib.hid ((HA5.out.below.block _ (by rw [hsz5]; exact lt_of_block HR2'.out)).trans ((Below.heap_setCell _ _ _ _ (fun e => hne e.symm)).trans HR2'.out))
  have HO5 := Lib.hid (Ot2.trans (Ot2.trans HO'.out (Ot2.setG (g := pb) (i := po) w2' (.slice (some ⟨w2'.heap.size, 0, none⟩) 0 0))) (Ot2.of_ext HA5.out))
  clear hp5 hsz5
  have HPO := Lib.hid (show (cs.setIfInBounds po (.slice (some ⟨w2'.heap.size, 0, none⟩) 0 0))[po]? = some (.slice (some ⟨w2'.heap.size, 0, none⟩) 0 0) from by simp [hpo])
  have hwG : w.heap.size ≤ w2'.heap.size := Nat.le_of_lt hs0
  have hRG : R < w2'.heap.size := by omega
  rw [hw5]
  clear hw5 hs0 dP
  obtain ⟨Gb, hGb⟩ : ∃ b, w2'.heap.size = b := ⟨_, rfl⟩
  rw [hGb] at HP5 HG5 HPO hwG hRG hs2 ⊢
  clear hGb
  have f0 := cell_of HP5.out HPO.out
  go_wp2
  go_loopw [30] (fun v wr => ∃ i : Nat, v = .int .i64 (i : Int) ∧ i ≤ 0 ∧ RIn gIns InsSl 5 50 (fun _ _ => True) R Gb pb 0 (.cells (cs.setIfInBounds po (.slice (some ⟨Gb, 0, none⟩) 0 0)) T (0, 0)) XS SF w i wr) (fun v _ => 0 - (intOf v).toNat)
  case atStart => exact ⟨0, rfl, Nat.zero_le _, ⟨⟨[], st1, c0, rfl, (by rw [List.nil_append]; exact HS.out.1), HS.out.2, HL1.out, HR5.out, HG5.out, HC0.out, HZ0.out, fun j hj => absurd hj (Nat.not_lt_zero _)⟩, HP5.out, HO5.out⟩⟩
  case round =>
    obtain ⟨i, rfl, hi, ⟨⟨xs, si, ci, h1, h2, h3, h4, h5, h6, h7, h8, h9⟩, hp, hot⟩⟩ := hrel
    by_cases hlt : i < 0
    · exact absurd hlt (Nat.not_lt_zero _)
    · have hin : i = 0 := by omega
      have HF := Lib.hid (show xs = XS ∧ si = SF from by
        rw [hin, Nat.sub_self] at h2 h3
        exact ⟨by rw [← h2]; simp [gRep], h3⟩)
      have HH := Lib.hid (And.intro h5 (And.intro h6 (And.intro h7 (And.intro h9 (And.intro hp hot)))))
      have f1 := cell_of hp HPO.out
      clear h1 h2 h3 h4 h5 h6 h7 h8 h9 hp hot
      subst hin
      go_wp2
      go_end0
      obtain ⟨g5, g6, g7, g9, gp, gt⟩ := HH.out
      obtain ⟨q1, q2⟩ := HF.out
      subst q1
      subst q2
      exact ⟨rfl, g5, gt, some ⟨Gb, 0, none⟩, gp, Gb, ci, rfl, hwG, g6, by rw [g7, HXL.out], g9⟩
theorem reach_Ins (R pb po : Nat) (st : RSt) (cs : Array Value) (T : TypeId) (w : World) (hR : w.heap[R]? = some (rdQ st)) (hP : w.heap[pb]? = some (.cells cs T (0, 0))) (hne : pb ≠ R) (hpo : po < cs.size) (hz : cs[po]? = some (.slice none 0 0)) (hl : st.1.length ≤ 10000000)
    (KE0 : ∀ (g i : Nat) (st' : RSt) (cs' : Array Value) (w' : World), w'.heap[R]? = some (rdQ st') → w'.heap[g]? = some (.cells cs' 50 (0, 0)) → g ≠ R → i * 5 + 5 ≤ cs'.size → st'.1.length ≤ 10000000 → (fun _ _ => True) cs' (i * 5) → Calls Tryz.prog 54 #[cR R, .pointer (some ⟨g, i * 5, none⟩)] w' (ROne gIns InsSl 5 R g (i * 5) st' cs' 50 w')) :
    Calls Tryz.prog 53 #[cR R, .pointer (some ⟨pb, po, none⟩), .func (.func 54) #[] #[]] w fun e w' => e = .returned (.tuple #[]) ∧ w'.heap[R]? = some (rdQ (gEach gIns st).2) ∧ Ot2 R pb w w' ∧
      ∃ a, w'.heap[pb]? = some (.cells (cs.setIfInBounds po (.slice a (gEach gIns st).1.length (gEach gIns st).1.length)) T (0, 0)) ∧ RowS InsSl 5 50 w.heap.size w' a (gEach gIns st).1 := by
  by_cases h1 : (gNum st).1 < 0
  · exact reach_Ins_low R pb po st cs T w hR hP hne hpo hz hl h1 KE0
  · by_cases h2 : 1000 < (gNum st).1
    · exact reach_Ins_high R pb po st cs T w hR hP hne hpo hz hl h2 KE0
    · exact reach_Ins_some R pb po st cs T w hR hP hne hpo hz hl (gNum st).1.toNat (by omega) (by omega) KE0
end Go.Proofs.YtfkjokbhnblndaaGreatDoor

namespace Go.Proofs.YtfkjokbhnblndaaGreatDoor
open Go.RowKit Go.Shelf
set_option linter.unusedVariables false
set_option linter.unusedSimpArgs false

set_option maxRecDepth 100000 in
set_option maxHeartbeats 4000000 in
theorem reach_Ob_some (R pb po : Nat) (st : RSt) (cs : Array Value) (T : TypeId) (w : World) (hR : w.heap[R]? = some (rdQ st)) (hP : w.heap[pb]? = some (.cells cs T (0, 0))) (hne : pb ≠ R) (hpo : po < cs.size) (hz : cs[po]? = some (.slice none 0 0)) (hl : st.1.length ≤ 10000000) (n : Nat) (hm : (gNum st).1 = (n : Int)) (hn : n ≤ 1000)
    (KE0 : ∀ (g i : Nat) (st' : RSt) (cs' : Array Value) (w' : World), w'.heap[R]? = some (rdQ st') → w'.heap[g]? = some (.cells cs' 52 (0, 0)) → g ≠ R → i * 4 + 4 ≤ cs'.size → st'.1.length ≤ 10000000 → (fun _ _ => True) cs' (i * 4) → Calls Tryz.prog 56 #[cR R, .pointer (some ⟨g, i * 4, none⟩)] w' (ROne gOb ObSl 4 R g (i * 4) st' cs' 52 w')) :
    Calls Tryz.prog 55 #[cR R, .pointer (some ⟨pb, po, none⟩), .func (.func 56) #[] #[]] w fun e w' => e = .returned (.tuple #[]) ∧ w'.heap[R]? = some (rdQ (gEach gOb st).2) ∧ Ot2 R pb w w' ∧
      ∃ a, w'.heap[pb]? = some (.cells (cs.setIfInBounds po (.slice a (gEach gOb st).1.length (gEach gOb st).1.length)) T (0, 0)) ∧ RowS ObSl 4 52 w.heap.size w' a (gEach gOb st).1 := by
  have KN := Lib.hid (fun W nb x (h : W.heap[R]? = some (rdQ st)) (hb : W.heap[nb]? = some (.cells #[x] 3 (0, 0))) (hn : nb ≠ R) => rnum_any R nb 0 st #[x] 3 W h hb hn (by simp) (by omega))
  have KE := Lib.hid KE0
  have dP : w.cell? ⟨pb, po, none⟩ = some (.slice none 0 0) := cell_of hP hz
  have HR := Lib.hid hR
  have HP := Lib.hid hP
  have hlR : R < w.heap.size := lt_of_block hR
  have hlP : pb < w.heap.size := lt_of_block hP
  have HL1 := Lib.hid (Nat.le_trans (gNum_le st) hl)
  clear hR hP hz hl KE0
  have hcn : ¬ ((n : Int) < 0 ∨ 1000 < (n : Int)) := by omega
  have HG := Lib.hid (show gEach gOb st = gRep gOb n (gNum st).2 from by
    unfold gEach gCnt
    rw [hm, if_neg hcn, Int.toNat_natCast])
  rw [HG.out]
  have HXL := Lib.hid (gRep_len gOb n (gNum st).2)
  rw [HXL.out]
  have hmk := fun W => run_make_k (P := Tryz.prog) 23 52 #[.string { data := #[] }, .int .i64 0, .int .i64 0, .int .i64 0] 4 40 Tryz.underlying23 (by kernel_rfl) n (by omega) (by omega) W
  obtain ⟨c0, hc0⟩ : ∃ c, madeCells #[.string { data := #[] }, .int .i64 0, .int .i64 0, .int .i64 0] (n * 4) = c := ⟨_, rfl⟩
  have HC0 := Lib.hid (show c0.size = n * 4 from by rw [← hc0]; exact size_madeCells _ _)
  have HZ0 := Lib.hid (show ∀ j, 0 ≤ j → j < n → (fun _ _ => True) c0 (j * 4) from fun j _ hj => by
    have hj2 := hmul2 j n 4 hj
    rw [← hc0]
    trivial)
  rw [hc0] at hmk
  have hg : ¬ (1000 : Int) < (n : Int) := by omega
  clear hc0 HG hcn
  generalize hst1 : (gNum st).2 = st1 at *
  rw [hm] at KN
  clear hm hst1
  obtain ⟨m, hmn⟩ : ∃ m : Int, (n : Int) = m := ⟨_, rfl⟩
  obtain ⟨XS, hXS⟩ : ∃ x, (gRep gOb n st1).1 = x := ⟨_, rfl⟩
  obtain ⟨SF, hSF⟩ : ∃ x, (gRep gOb n st1).2 = x := ⟨_, rfl⟩
  have HS := Lib.hid (And.intro hXS hSF)
  rw [hXS, hSF]
  rw [hXS] at HXL
  clear hXS hSF
  rw [hmn] at KN
  go_enter Tryz.func55, Tryz.ntmps55
  go_wp2_with fail
  have hb1 := alloc_here w (.cells #[.int .i64 0] 3)
  have HE := Lib.hid (ext_alloc (Below.refl _ w) (.cells #[.int .i64 0] 3))
  have HP1 := Lib.hid ((HE.out.below.block _ hlP).trans HP.out)
  refine (show Calls _ _ _ _ _ from KN.out _ w.heap.size (.int .i64 0) ((HE.out.below.block _ hlR).trans HR.out) hb1 (by omega)).mono ?_
  rintro _ w2 ⟨rfl, hR2, hb2, hO⟩
  have HR2 := Lib.hid hR2
  have HO := Lib.hid (show Ot2 R pb w w2 from Ot2.fresh HE.out hO (Nat.le_refl _))
  have HP2 := Lib.hid (hO.block HP1.out hne (by omega))
  have hb2 : w2.heap[w.heap.size]? = some (.cells #[.int .i64 m] 3 (0, 0)) := hb2
  have HB2 := Lib.hid hb2
  clear hb1 hR2 hb2 hO
  go_wp2_with fail
  refine (rreading_any R _).mono ?_
  rintro _ w3 ⟨rfl, h3⟩
  obtain rfl := h3.symm
  have d0 : w2.cell? ⟨w.heap.size, 0, none⟩ = some (.int .i64 m) := cell_of HB2.out rfl
  have d1 : w2.frozen? ⟨w.heap.size, 0, none⟩ = false := free_of HB2.out
  have e0 := cell_at HP2.out hpo
  have e1 : w2.frozen? ⟨pb, po, none⟩ = false := free_of HP2.out
  have hs0 := lt_of_block HB2.out
  have hs2 := lt_of_block HP2.out
  subst hmn
  go_upto_region 6 with fail
  obtain ⟨w5, hw5⟩ : ∃ W, ((w2.setCell ⟨pb, po, none⟩ (.slice (some ⟨w2.heap.size, 0, none⟩) n n)).alloc (.cells c0 52)) = W := ⟨_, rfl⟩
  have hsz5 : (w2.setCell ⟨pb, po, none⟩ (.slice (some ⟨w2.heap.size, 0, none⟩) n n)).heap.size = w2.heap.size := by simp [World.setCell]
  have HA5 := Lib.hid (show Ext (w2.setCell ⟨pb, po, none⟩ (.slice (some ⟨w2.heap.size, 0, none⟩) n n)) w5 from by rw [← hw5]; exact ext_alloc (Below.refl _ _) _)
  have HG5 := Lib.hid (show w5.heap[w2.heap.size]? = some (.cells c0 52 (0, 0)) from by
    have := alloc_here (w2.setCell ⟨pb, po, none⟩ (.slice (some ⟨w2.heap.size, 0, none⟩) n n)) (.cells c0 52)
    rw [hsz5, hw5] at this; exact this)
  have hp5 := heap_set (i := po) HP2.out (.slice (some ⟨w2.heap.size, 0, none⟩) n n)
  have HP5 := Lib.hid ((HA5.out.below.block _ (lt_of_block hp5)).trans hp5)
  have HR5 := Lib.hid ((HA5.out.below.block _ (by rw [hsz5]; exact lt_of_block HR2.out)).trans ((Below.heap_setCell _ _ _ _ (fun e => hne e.symm)).trans HR2.out))
  have HO5 := Lib.hid (Ot2.trans (Ot2.trans HO.out (Ot2.setG (g := pb) (i := po) w2 (.slice (some ⟨w2.heap.size, 0, none⟩) n n))) (Ot2.of_ext HA5.out))
  clear hp5 hsz5
  have HPO := Lib.hid (show (cs.setIfInBounds po (.slice (some ⟨w2.heap.size, 0, none⟩) n n))[po]? = some (.slice (some ⟨w2.heap.size, 0, none⟩) n n) from by simp [hpo])
  have hwG : w.heap.size ≤ w2.heap.size := Nat.le_of_lt hs0
  have hRG : R < w2.heap.size := by omega
  rw [hw5]
  clear hw5 d0 d1 e0 e1 hs0 dP
  obtain ⟨Gb, hGb⟩ : ∃ b, w2.heap.size = b := ⟨_, rfl⟩
  rw [hGb] at HP5 HG5 HPO hwG hRG hs2 ⊢
  clear hGb
  have f0 := cell_of HP5.out HPO.out
  go_wp2
  go_loopw [30] (fun v wr => ∃ i : Nat, v = .int .i64 (i : Int) ∧ i ≤ n ∧ RIn gOb ObSl 4 52 (fun _ _ => True) R Gb pb n (.cells (cs.setIfInBounds po (.slice (some ⟨Gb, 0, none⟩) n n)) T (0, 0)) XS SF w i wr) (fun v _ => n - (intOf v).toNat)
  case atStart => exact ⟨0, rfl, Nat.zero_le _, ⟨⟨[], st1, c0, rfl, (by rw [List.nil_append]; exact HS.out.1), HS.out.2, HL1.out, HR5.out, HG5.out, HC0.out, HZ0.out, fun j hj => absurd hj (Nat.not_lt_zero _)⟩, HP5.out, HO5.out⟩⟩
  case round =>
    obtain ⟨i, rfl, hi, ⟨⟨xs, si, ci, h1, h2, h3, h4, h5, h6, h7, h8, h9⟩, hp, hot⟩⟩ := hrel
    by_cases hlt : i < n
    · have h0 : (0 : Int) ≤ (i : Int) := by omega
      have hlt2 : (i : Int) < (n : Int) := by omega
      have f1 := cell_of hp HPO.out
      have HK := Lib.hid (KE.out Gb i si ci _ h5 h6 (by omega) (by rw [h7]; exact hmul2 i n 4 hlt) h4 (h8 i (Nat.le_refl _) hlt))
      have HH := Lib.hid (And.intro h1 (And.intro h2 (And.intro h3 (And.intro h4 (And.intro h6 (And.intro h7 (And.intro h8 (And.intro h9 (And.intro hp hot)))))))))
      clear h1 h2 h3 h4 h5 h6 h7 h8 h9 hp hot
      go_wp2_with fail
      refine (show Calls _ _ _ _ _ from HK.out).mono ?_
      rintro _ w6 ⟨rfl, a2, a3, cs', b1, b2, b3, b4⟩
      have HS6 := Lib.hid (show RIn gOb ObSl 4 52 (fun _ _ => True) R Gb pb n (.cells (cs.setIfInBounds po (.slice (some ⟨Gb, 0, none⟩) n n)) T (0, 0)) XS SF w (i + 1) w6 from by
        obtain ⟨h1, h2, h3, h4, h6, h7, h8, h9, hp, hot⟩ := HH.out
        exact RIn.step ObSl.keep ObSl.down gOb_le (fun _ _ _ _ h => h) hlt hRG hs2 hne hwG h1 h2 h3 h4 h6 h7 h8 h9 hp hot a2 a3 b1 b2 b3 b4)
      clear a2 a3 b1 b2 b3 b4 HH HK
      go_wp2
      go_roundw
      case rel => exact ⟨i + 1, by go_num, by omega, HS6.out⟩
      case measure => simp [intOf]; omega
    · have hin : i = n := by omega
      have HF := Lib.hid (show xs = XS ∧ si = SF from by
        rw [hin, Nat.sub_self] at h2 h3
        exact ⟨by rw [← h2]; simp [gRep], h3⟩)
      have HH := Lib.hid (And.intro h5 (And.intro h6 (And.intro h7 (And.intro h9 (And.intro hp hot)))))
      have f1 := cell_of hp HPO.out
      clear h1 h2 h3 h4 h5 h6 h7 h8 h9 hp hot
      subst hin
      go_wp2
      go_end0
      obtain ⟨g5, g6, g7, g9, gp, gt⟩ := HH.out
      obtain ⟨q1, q2⟩ := HF.out
      subst q1
      subst q2
      exact ⟨rfl, g5, gt, some ⟨Gb, 0, none⟩, gp, Gb, ci, rfl, hwG, g6, by rw [g7, HXL.out], g9⟩
set_option maxRecDepth 100000 in
set_option maxHeartbeats 4000000 in
theorem reach_Ob_low (R pb po : Nat) (st : RSt) (cs : Array Value) (T : TypeId) (w : World) (hR : w.heap[R]? = some (rdQ st)) (hP : w.heap[pb]? = some (.cells cs T (0, 0))) (hne : pb ≠ R) (hpo : po < cs.size) (hz : cs[po]? = some (.slice none 0 0)) (hl : st.1.length ≤ 10000000) (hm : (gNum st).1 < 0)
    (KE0 : ∀ (g i : Nat) (st' : RSt) (cs' : Array Value) (w' : World), w'.heap[R]? = some (rdQ st') → w'.heap[g]? = some (.cells cs' 52 (0, 0)) → g ≠ R → i * 4 + 4 ≤ cs'.size → st'.1.length ≤ 10000000 → (fun _ _ => True) cs' (i * 4) → Calls Tryz.prog 56 #[cR R, .pointer (some ⟨g, i * 4, none⟩)] w' (ROne gOb ObSl 4 R g (i * 4) st' cs' 52 w')) :
    Calls Tryz.prog 55 #[cR R, .pointer (some ⟨pb, po, none⟩), .func (.func 56) #[] #[]] w fun e w' => e = .returned (.tuple #[]) ∧ w'.heap[R]? = some (rdQ (gEach gOb st).2) ∧ Ot2 R pb w w' ∧
      ∃ a, w'.heap[pb]? = some (.cells (cs.setIfInBounds po (.slice a (gEach gOb st).1.length (gEach gOb st).1.length)) T (0, 0)) ∧ RowS ObSl 4 52 w.heap.size w' a (gEach gOb st).1 := by
  have KN := Lib.hid (fun W nb x (h : W.heap[R]? = some (rdQ st)) (hb : W.heap[nb]? = some (.cells #[x] 3 (0, 0))) (hn : nb ≠ R) => rnum_any R nb 0 st #[x] 3 W h hb hn (by simp) (by omega))
  have KE := Lib.hid KE0
  have dP : w.cell? ⟨pb, po, none⟩ = some (.slice none 0 0) := cell_of hP hz
  have HR := Lib.hid hR
  have HP := Lib.hid hP
  have hlR : R < w.heap.size := lt_of_block hR
  have hlP : pb < w.heap.size := lt_of_block hP
  have HL1 := Lib.hid (Nat.le_trans (gNum_le st) hl)
  clear hR hP hz hl KE0
  have hcn : (gNum st).1 < 0 ∨ 1000 < (gNum st).1 := .inl hm
  have HG := Lib.hid (show gEach gOb st = ([], (gNum st).2) from by
    unfold gEach gCnt
    rw [if_pos hcn]; rfl)
  rw [HG.out]
  obtain ⟨XS, hXS⟩ : ∃ x : List Ob, [] = x := ⟨_, rfl⟩
  have HXL := Lib.hid (show XS.length = 0 from by rw [← hXS]; rfl)
  have hmk : ∀ W, (Instr.makeSlice 23 (.int .i64 0) (.int .i64 0)).run Tryz.prog W = .ok (.slice (some ⟨W.heap.size, 0, none⟩) 0 0) (W.alloc (.cells (madeCells #[.string { data := #[] }, .int .i64 0, .int .i64 0, .int .i64 0] (0 * 4)) 52)) := fun W => run_make_k (P := Tryz.prog) 23 52 #[.string { data := #[] }, .int .i64 0, .int .i64 0, .int .i64 0] 4 40 Tryz.underlying23 (by kernel_rfl) 0 (by omega) (by omega) W
  obtain ⟨c0, hc0⟩ : ∃ c, madeCells #[.string { data := #[] }, .int .i64 0, .int .i64 0, .int .i64 0] (0 * 4) = c := ⟨_, rfl⟩
  have HC0 := Lib.hid (show c0.size = 0 * 4 from by rw [← hc0]; exact size_madeCells _ _)
  have HZ0 := Lib.hid (show ∀ j, 0 ≤ j → j < 0 → (fun _ _ => True) c0 (j * 4) from fun j _ hj => absurd hj (Nat.not_lt_zero _))
  rw [hc0] at hmk
  clear hc0 HG hcn
  dsimp only
  have HXL2 := Lib.hid (show ([] : List Ob).length = 0 from rfl)
  rw [HXL2.out]
  generalize hst1 : (gNum st).2 = st1 at *
  generalize (gNum st).1 = m at *
  clear hst1
  obtain ⟨SF, hSF⟩ : ∃ x, st1 = x := ⟨_, rfl⟩
  have HS := Lib.hid (show (gRep gOb (0 - 0) st1).1 = XS ∧ (gRep gOb (0 - 0) st1).2 = SF from ⟨hXS, hSF⟩)
  rw [hXS, hSF]
  clear hXS hSF
  go_enter Tryz.func55, Tryz.ntmps55
  go_wp2_with fail
  have hb1 := alloc_here w (.cells #[.int .i64 0] 3)
  have HE := Lib.hid (ext_alloc (Below.refl _ w) (.cells #[.int .i64 0] 3))
  have HP1 := Lib.hid ((HE.out.below.block _ hlP).trans HP.out)
  refine (show Calls _ _ _ _ _ from KN.out _ w.heap.size (.int .i64 0) ((HE.out.below.block _ hlR).trans HR.out) hb1 (by omega)).mono ?_
  rintro _ w2 ⟨rfl, hR2, hb2, hO⟩
  have HR2 := Lib.hid hR2
  have HO := Lib.hid (show Ot2 R pb w w2 from Ot2.fresh HE.out hO (Nat.le_refl _))
  have HP2 := Lib.hid (hO.block HP1.out hne (by omega))
  have hb2 : w2.heap[w.heap.size]? = some (.cells #[.int .i64 m] 3 (0, 0)) := hb2
  have HB2 := Lib.hid hb2
  clear hb1 hR2 hb2 hO
  go_wp2_with fail
  refine (rreading_any R _).mono ?_
  rintro _ w3 ⟨rfl, h3⟩
  obtain rfl := h3.symm
  have d0 : w2.cell? ⟨w.heap.size, 0, none⟩ = some (.int .i64 m) := cell_of HB2.out rfl
  have d1 : w2.frozen? ⟨w.heap.size, 0, none⟩ = false := free_of HB2.out
  have e0 := cell_at HP2.out hpo
  have e1 : w2.frozen? ⟨pb, po, none⟩ = false := free_of HP2.out
  have hs0 := lt_of_block HB2.out
  have hs2 := lt_of_block HP2.out
  go_upto_region 6 with fail
  have HQ2 := Lib.hid (heap_set (i := 0) HB2.out (.int .i64 0))
  obtain ⟨w2', hw2'⟩ : ∃ W, w2.setCell ⟨w.heap.size, 0, none⟩ (.int .i64 0) = W := ⟨_, rfl⟩
  have hsz2 : w2'.heap.size = w2.heap.size := by rw [← hw2']; simp [World.setCell]
  have HR2' := Lib.hid (show w2'.heap[R]? = some (rdQ st1) from by rw [← hw2']; exact (Below.heap_setCell _ _ _ _ (show R ≠ w.heap.size by omega)).trans HR2.out)
  have HP2' := Lib.hid (show w2'.heap[pb]? = some (.cells cs T (0, 0)) from by rw [← hw2']; exact (Below.heap_setCell _ _ _ _ (show pb ≠ w.heap.size by omega)).trans HP2.out)
  have HO' := Lib.hid (show Ot2 R pb w w2' from by rw [← hw2']; exact HO.out.then (Ot2.setG (R := R) (g := w.heap.size) (i := 0) w2 (.int .i64 0)) (Nat.le_refl _))
  rw [hw2', ← hsz2]
  rw [← hsz2] at hs0 hs2
  clear hw2' HQ2 HB2 d0 d1 e0 e1 HR2 HP2 HO
  obtain ⟨w5, hw5⟩ : ∃ W, ((w2'.setCell ⟨pb, po, none⟩ (.slice (some ⟨w2'.heap.size, 0, none⟩) 0 0)).alloc (.cells c0 52)) = W := ⟨_, rfl⟩
  have hsz5 : (w2'.setCell ⟨pb, po, none⟩ (.slice (some ⟨w2'.heap.size, 0, none⟩) 0 0)).heap.size = w2'.heap.size := by simp [World.setCell]
  have HA5 := Lib.hid (show Ext (w2'.setCell ⟨pb, po, none⟩ (.slice (some ⟨w2'.heap.size, 0, none⟩) 0 0)) w5 from by rw [← hw5]; exact ext_alloc (Below.refl _ _) _)
  have HG5 := Lib.hid (show w5.heap[w2'.heap.size]? = some (.cells c0 52 (0, 0)) from by
    have := alloc_here (w2'.setCell ⟨pb, po, none⟩ (.slice (some ⟨w2'.heap.size, 0, none⟩) 0 0)) (.cells c0 52)
    rw [hsz5, hw5] at this; exact this)
  have hp5 := heap_set (i := po) HP2'.out (.slice (some ⟨w2'.heap.size, 0, none⟩) 0 0)
  have HP5 := Lib.hid ((HA5.out.below.block _ (lt_of_block hp5)).trans hp5)
  have HR5 := Lib.hid ((HA5.out.below.block _ (by rw [hsz5]; exact lt_of_block HR2'.out)).trans ((Below.heap_setCell _ _ _ _ (fun e => hne e.symm)).trans HR2'.out))
  have HO5 := Lib.hid (Ot2.trans (Ot2.trans HO'.out (Ot2.setG (g := pb) (i := po) w2' (.slice (some ⟨w2'.heap.size, 0, none⟩) 0 0))) (Ot2.of_ext HA5.out))
  clear hp5 hsz5
  have HPO := Lib.hid (show (cs.setIfInBounds po (.slice (some ⟨w2'.heap.size, 0, none⟩) 0 0))[po]? = some (.slice (some ⟨w2'.heap.size, 0, none⟩) 0 0) from by simp [hpo])
  have hwG : w.heap.size ≤ w2'.heap.size := Nat.le_of_lt hs0
  have hRG : R < w2'.heap.size := by omega
  rw [hw5]
  clear hw5 hs0 dP
  obtain ⟨Gb, hGb⟩ : ∃ b, w2'.heap.size = b := ⟨_, rfl⟩
  rw [hGb] at HP5 HG5 HPO hwG hRG hs2 ⊢
  clear hGb
  have f0 := cell_of HP5.out HPO.out
  go_wp2
  go_loopw [30] (fun v wr => ∃ i : Nat, v = .int .i64 (i : Int) ∧ i ≤ 0 ∧ RIn gOb ObSl 4 52 (fun _ _ => True) R Gb pb 0 (.cells (cs.setIfInBounds po (.slice (some ⟨Gb, 0, none⟩) 0 0)) T (0, 0)) XS SF w i wr) (fun v _ => 0 - (intOf v).toNat)
  case atStart => exact ⟨0, rfl, Nat.zero_le _, ⟨⟨[], st1, c0, rfl, (by rw [List.nil_append]; exact HS.out.1), HS.out.2, HL1.out, HR5.out, HG5.out, HC0.out, HZ0.out, fun j hj => absurd hj (Nat.not_lt_zero _)⟩, HP5.out, HO5.out⟩⟩
  case round =>
    obtain ⟨i, rfl, hi, ⟨⟨xs, si, ci, h1, h2, h3, h4, h5, h6, h7, h8, h9⟩, hp, hot⟩⟩ := hrel
    by_cases hlt : i < 0
    · exact absurd hlt (Nat.not_lt_zero _)
    · have hin : i = 0 := by omega
      have HF := Lib.hid (show xs = XS ∧ si = SF from by
        rw [hin, Nat.sub_self] at h2 h3
        exact ⟨by rw [← h2]; simp [gRep], h3⟩)
      have HH := Lib.hid (And.intro h5 (And.intro h6 (And.intro h7 (And.intro h9 (And.intro hp hot)))))
      have f1 := cell_of hp HPO.out
      clear h1 h2 h3 h4 h5 h6 h7 h8 h9 hp hot
      subst hin
      go_wp2
      go_end0
      obtain ⟨g5, g6, g7, g9, gp, gt⟩ := HH.out
      obtain ⟨q1, q2⟩ := HF.out
      subst q1
      subst q2
      exact ⟨rfl, g5, gt, some ⟨Gb, 0, none⟩, gp, Gb, ci, rfl, hwG, g6, by rw [g7, HXL.out], g9⟩
set_option maxRecDepth 100000 in
set_option maxHeartbeats 4000000 in
theorem reach_Ob_high (R pb po : Nat) (st : RSt) (cs : Array Value) (T : TypeId) (w : World) (hR : w.heap[R]? = some (rdQ st)) (hP : w.heap[pb]? = some (.cells cs T (0, 0))) (hne : pb ≠ R) (hpo : po < cs.size) (hz : cs[po]? = some (.slice none 0 0)) (hl : st.1.length ≤ 10000000) (hm : 1000 < (gNum st).1)
    (KE0 : ∀ (g i : Nat) (st' : RSt) (cs' : Array Value) (w' : World), w'.heap[R]? = some (rdQ st') → w'.heap[g]? = some (.cells cs' 52 (0, 0)) → g ≠ R → i * 4 + 4 ≤ cs'.size → st'.1.length ≤ 10000000 → (fun _ _ => True) cs' (i * 4) → Calls Tryz.prog 56 #[cR R, .pointer (some ⟨g, i * 4, none⟩)] w' (ROne gOb ObSl 4 R g (i * 4) st' cs' 52 w')) :
    Calls Tryz.prog 55 #[cR R, .pointer (some ⟨pb, po, none⟩), .func (.func 56) #[] #[]] w fun e w' => e = .returned (.tuple #[]) ∧ w'.heap[R]? = some (rdQ (gEach gOb st).2) ∧ Ot2 R pb w w' ∧
      ∃ a, w'.heap[pb]? = some (.cells (cs.setIfInBounds po (.slice a (gEach gOb st).1.length (gEach gOb st).1.length)) T (0, 0)) ∧ RowS ObSl 4 52 w.heap.size w' a (gEach gOb st).1 := by
  have KN := Lib.hid (fun W nb x (h : W.heap[R]? = some (rdQ st)) (hb : W.heap[nb]? = some (.cells #[x] 3 (0, 0))) (hn : nb ≠ R) => rnum_any R nb 0 st #[x] 3 W h hb hn (by simp) (by omega))
  have KE := Lib.hid KE0
  have dP : w.cell? ⟨pb, po, none⟩ = some (.slice none 0 0) := cell_of hP hz
  have HR := Lib.hid hR
  have HP := Lib.hid hP
  have hlR : R < w.heap.size := lt_of_block hR
  have hlP : pb < w.heap.size := lt_of_block hP
  have HL1 := Lib.hid (Nat.le_trans (gNum_le st) hl)
  clear hR hP hz hl KE0
  have hcn : (gNum st).1 < 0 ∨ 1000 < (gNum st).1 := .inr hm
  have HG := Lib.hid (show gEach gOb st = ([], (gNum st).2) from by
    unfold gEach gCnt
    rw [if_pos hcn]; rfl)
  rw [HG.out]
  obtain ⟨XS, hXS⟩ : ∃ x : List Ob, [] = x := ⟨_, rfl⟩
  have HXL := Lib.hid (show XS.length = 0 from by rw [← hXS]; rfl)
  have hmk : ∀ W, (Instr.makeSlice 23 (.int .i64 0) (.int .i64 0)).run Tryz.prog W = .ok (.slice (some ⟨W.heap.size, 0, none⟩) 0 0) (W.alloc (.cells (madeCells #[.string { data := #[] }, .int .i64 0, .int .i64 0, .int .i64 0] (0 * 4)) 52)) := fun W => run_make_k (P := Tryz.prog) 23 52 #[.string { data := #[] }, .int .i64 0, .int .i64 0, .int .i64 0] 4 40 Tryz.underlying23 (by kernel_rfl) 0 (by omega) (by omega) W
  obtain ⟨c0, hc0⟩ : ∃ c, madeCells #[.string { data := #[] }, .int .i64 0, .int .i64 0, .int .i64 0] (0 * 4) = c := ⟨_, rfl⟩
  have HC0 := Lib.hid (show c0.size = 0 * 4 from by rw [← hc0]; exact size_madeCells _ _)
  have HZ0 := Lib.hid (show ∀ j, 0 ≤ j → j < 0 → (fun _ _ => True) c0 (j * 4) from fun j _ hj => absurd hj (Nat.not_lt_zero _))
  rw [hc0] at hmk
  clear hc0 HG hcn
  dsimp only
  have HXL2 := Lib.hid (show ([] : List Ob).length = 0 from rfl)
  rw [HXL2.out]
  generalize hst1 : (gNum st).2 = st1 at *
  generalize (gNum st).1 = m at *
  clear hst1
  obtain ⟨SF, hSF⟩ : ∃ x, st1 = x := ⟨_, rfl⟩
  have HS := Lib.hid (show (gRep gOb (0 - 0) st1).1 = XS ∧ (gRep gOb (0 - 0) st1).2 = SF from ⟨hXS, hSF⟩)
  rw [hXS, hSF]
  clear hXS hSF
  have hx0 : ¬ m < 0 := by omega
  go_enter Tryz.func55, Tryz.ntmps55
  go_wp2_with fail
  have hb1 := alloc_here w (.cells #[.int .i64 0] 3)
  have HE := Lib.hid (ext_alloc (Below.refl _ w) (.cells #[.int .i64 0] 3))
  have HP1 := Lib.hid ((HE.out.below.block _ hlP).trans HP.out)
  refine (show Calls _ _ _ _ _ from KN.out _ w.heap.size (.int .i64 0) ((HE.out.below.block _ hlR).trans HR.out) hb1 (by omega)).mono ?_
  rintro _ w2 ⟨rfl, hR2, hb2, hO⟩
  have HR2 := Lib.hid hR2
  have HO := Lib.hid (show Ot2 R pb w w2 from Ot2.fresh HE.out hO (Nat.le_refl _))
  have HP2 := Lib.hid (hO.block HP1.out hne (by omega))
  have hb2 : w2.heap[w.heap.size]? = some (.cells #[.int .i64 m] 3 (0, 0)) := hb2
  have HB2 := Lib.hid hb2
  clear hb1 hR2 hb2 hO
  go_wp2_with fail
  refine (rreading_any R _).mono ?_
  rintro _ w3 ⟨rfl, h3⟩
  obtain rfl := h3.symm
  have d0 : w2.cell? ⟨w.heap.size, 0, none⟩ = some (.int .i64 m) := cell_of HB2.out rfl
  have d1 : w2.frozen? ⟨w.heap.size, 0, none⟩ = false := free_of HB2.out
  have e0 := cell_at HP2.out hpo
  have e1 : w2.frozen? ⟨pb, po, none⟩ = false := free_of HP2.out
  have hs0 := lt_of_block HB2.out
  have hs2 := lt_of_block HP2.out
  go_upto_region 6 with fail
  have HQ2 := Lib.hid (heap_set (i := 0) HB2.out (.int .i64 0))
  obtain ⟨w2', hw2'⟩ : ∃ W, w2.setCell ⟨w.heap.size, 0, none⟩ (.int .i64 0) = W := ⟨_, rfl⟩
  have hsz2 : w2'.heap.size = w2.heap.size := by rw [← hw2']; simp [World.setCell]
  have HR2' := Lib.hid (show w2'.heap[R]? = some (rdQ st1) from by rw [← hw2']; exact (Below.heap_setCell _ _ _ _ (show R ≠ w.heap.size by omega)).trans HR2.out)
  have HP2' := Lib.hid (show w2'.heap[pb]? = some (.cells cs T (0, 0)) from by rw [← hw2']; exact (Below.heap_setCell _ _ _ _ (show pb ≠ w.heap.size by omega)).trans HP2.out)
  have HO' := Lib.hid (show Ot2 R pb w w2' from by rw [← hw2']; exact HO.out.then (Ot2.setG (R := R) (g := w.heap.size) (i := 0) w2 (.int .i64 0)) (Nat.le_refl _))
  rw [hw2', ← hsz2]
  rw [← hsz2] at hs0 hs2
  clear hw2' HQ2 HB2 d0 d1 e0 e1 HR2 HP2 HO
  obtain ⟨w5, hw5⟩ : ∃ W, ((w2'.setCell ⟨pb, po, none⟩ (.slice (some ⟨w2'.heap.size, 0, none⟩) 0 0)).alloc (.cells c0 52)) = W := ⟨_, rfl⟩
  have hsz5 : (w2'.setCell ⟨pb, po, none⟩ (.slice (some ⟨w2'.heap.size, 0, none⟩) 0 0)).heap.size = w2'.heap.size := by simp [World.setCell]
  have HA5 := Lib.hid (show Ext (w2'.setCell ⟨pb, po, none⟩ (.slice (some ⟨w2'.heap.size, 0, none⟩) 0 0)) w5 from by rw [← hw5]; exact ext_alloc (Below.refl _ _) _)
  have HG5 := Lib.hid (show w5.heap[w2'.heap.size]? = some (.cells c0 52 (0, 0)) from by
    have := alloc_here (w2'.setCell ⟨pb, po, none⟩ (.slice (some ⟨w2'.heap.size, 0, none⟩) 0 0)) (.cells c0 52)
    rw [hsz5, hw5] at this; exact this)
  have hp5 := heap_set (i := po) HP2'.out (.slice (some ⟨w2'.heap.size, 0, none⟩) 0 0)
  have HP5 := Lib.hid ((HA5.out.below.block _ (lt_of_block hp5)).trans hp5)
  have HR5 := Lib.hid ((HA5.out.below.block _ (by rw [hsz5]; exact lt_of_block HR2'.out)).trans ((Below.heap_setCell _ _ _ _ (fun e => hne e.symm)).trans HR2'.out))
  have HO5 := Lib.hid (Ot2.trans (Ot2.trans HO'.out (Ot2.setG (g := pb) (i := po) w2' (.slice (some ⟨w2'.heap.size, 0, none⟩) 0 0))) (Ot2.of_ext HA5.out))
  clear hp5 hsz5
  have HPO := Lib.hid (show (cs.setIfInBounds po (.slice (some ⟨w2'.heap.size, 0, none⟩) 0 0))[po]? = some (.slice (some ⟨w2'.heap.size, 0, none⟩) 0 0) from by simp [hpo])
  have hwG : w.heap.size ≤ w2'.heap.size := Nat.le_of_lt hs0
  have hRG : R < w2'.heap.size := by omega
  rw [hw5]
  clear hw5 hs0 dP
  obtain ⟨Gb, hGb⟩ : ∃ b, w2'.heap.size = b := ⟨_, rfl⟩
  rw [hGb] at HP5 HG5 HPO hwG hRG hs2 ⊢
  clear hGb
  have f0 := cell_of HP5.out HPO.out
  go_wp2
  go_loopw [30] (fun v wr => ∃ i : Nat, v = .int .i64 (i : Int) ∧ i ≤ 0 ∧ RIn gOb ObSl 4 52 (fun _ _ => True) R Gb pb 0 (.cells (cs.setIfInBounds po (.slice (some ⟨Gb, 0, none⟩) 0 0)) T (0, 0)) XS SF w i wr) (fun v _ => 0 - (intOf v).toNat)
  case atStart => exact ⟨0, rfl, Nat.zero_le _, ⟨⟨[], st1, c0, rfl, (by rw [List.nil_append]; exact HS.out.1), HS.out.2, HL1.out, HR5.out, HG5.out, HC0.out, HZ0.out, fun j hj => absurd hj (Nat.not_lt_zero _)⟩, HP5.out, HO5.out⟩⟩
  case round =>
    obtain ⟨i, rfl, hi, ⟨⟨xs, si, ci, h1, h2, h3, h4, h5, h6, h7, h8, h9⟩, hp, hot⟩⟩ := hrel
    by_cases hlt : i < 0
    · exact absurd hlt (Nat.not_lt_zero _)
    · have hin : i = 0 := by omega
      have HF := Lib.hid (show xs = XS ∧ si = SF from by
        rw [hin, Nat.sub_self] at h2 h3
        exact ⟨by rw [← h2]; simp [gRep], h3⟩)
      have HH := Lib.hid (And.intro h5 (And.intro h6 (And.intro h7 (And.intro h9 (And.intro hp hot)))))
      have f1 := cell_of hp HPO.out
      clear h1 h2 h3 h4 h5 h6 h7 h8 h9 hp hot
      subst hin
      go_wp2
      go_end0
      obtain ⟨g5, g6, g7, g9, gp, gt⟩ := HH.out
      obtain ⟨q1, q2⟩ := HF.out
      subst q1
      subst q2
      exact ⟨rfl, g5, gt, some ⟨Gb, 0, none⟩, gp, Gb, ci, rfl, hwG, g6, by rw [g7, HXL.out], g9⟩
theorem reach_Ob (R pb po : Nat) (st : RSt) (cs : Array Value) (T : TypeId) (w : World) (hR : w.heap[R]? = some (rdQ st)) (hP : w.heap[pb]? = some (.cells cs T (0, 0))) (hne : pb ≠ R) (hpo : po < cs.size) (hz : cs[po]? = some (.slice none 0 0)) (hl : st.1.length ≤ 10000000)
    (KE0 : ∀ (g i : Nat) (st' : RSt) (cs' : Array Value) (w' : World), w'.heap[R]? = some (rdQ st') → w'.heap[g]? = some (.cells cs' 52 (0, 0)) → g ≠ R → i * 4 + 4 ≤ cs'.size → st'.1.length ≤ 10000000 → (fun _ _ => True) cs' (i * 4) → Calls Tryz.prog 56 #[cR R, .pointer (some ⟨g, i * 4, none⟩)] w' (ROne gOb ObSl 4 R g (i * 4) st' cs' 52 w')) :
    Calls Tryz.prog 55 #[cR R, .pointer (some ⟨pb, po, none⟩), .func (.func 56) #[] #[]] w fun e w' => e = .returned (.tuple #[]) ∧ w'.heap[R]? = some (rdQ (gEach gOb st).2) ∧ Ot2 R pb w w' ∧
      ∃ a, w'.heap[pb]? = some (.cells (cs.setIfInBounds po (.slice a (gEach gOb st).1.length (gEach gOb st).1.length)) T (0, 0)) ∧ RowS ObSl 4 52 w.heap.size w' a (gEach gOb st).1 := by
  by_cases h1 : (gNum st).1 < 0
  · exact reach_Ob_low R pb po st cs T w hR hP hne hpo hz hl h1 KE0
  · by_cases h2 : 1000 < (gNum st).1
    · exact reach_Ob_high R pb po st cs T w hR hP hne hpo hz hl h2 KE0
    · exact reach_Ob_some R pb po st cs T w hR hP hne hpo hz hl (gNum st).1.toNat (by omega) (by omega) KE0
end Go.Proofs.YtfkjokbhnblndaaGreatDoor

namespace Go.Proofs.YtfkjokbhnblndaaGreatDoor
open Go.RowKit Go.Shelf
set_option linter.unusedVariables false
set_option linter.unusedSimpArgs false

set_option maxRecDepth 100000 in
set_option maxHeartbeats 4000000 in
theorem reach_Va_some (R pb po : Nat) (st : RSt) (cs : Array Value) (T : TypeId) (w : World) (hR : w.heap[R]? = some (rdQ st)) (hP : w.heap[pb]? = some (.cells cs T (0, 0))) (hne : pb ≠ R) (hpo : po < cs.size) (hz : cs[po]? = some (.slice none 0 0)) (hl : st.1.length ≤ 10000000) (n : Nat) (hm : (gNum st).1 = (n : Int)) (hn : n ≤ 1000)
    (KE0 : ∀ (g i : Nat) (st' : RSt) (cs' : Array Value) (w' : World), w'.heap[R]? = some (rdQ st') → w'.heap[g]? = some (.cells cs' 54 (0, 0)) → g ≠ R → i * 3 + 3 ≤ cs'.size → st'.1.length ≤ 10000000 → (fun c o => c[o + 2]? = some (.bool false)) cs' (i * 3) → Calls Tryz.prog 58 #[cR R, .pointer (some ⟨g, i * 3, none⟩)] w' (ROne gVa VaSl 3 R g (i * 3) st' cs' 54 w')) :
    Calls Tryz.prog 57 #[cR R, .pointer (some ⟨pb, po, none⟩), .func (.func 58) #[] #[]] w fun e w' => e = .returned (.tuple #[]) ∧ w'.heap[R]? = some (rdQ (gEach gVa st).2) ∧ Ot2 R pb w w' ∧
      ∃ a, w'.heap[pb]? = some (.cells (cs.setIfInBounds po (.slice a (gEach gVa st).1.length (gEach gVa st).1.length)) T (0, 0)) ∧ RowS VaSl 3 54 w.heap.size w' a (gEach gVa st).1 := by
  have KN := Lib.hid (fun W nb x (h : W.heap[R]? = some (rdQ st)) (hb : W.heap[nb]? = some (.cells #[x] 3 (0, 0))) (hn : nb ≠ R) => rnum_any R nb 0 st #[x] 3 W h hb hn (by simp) (by omega))
  have KE := Lib.hid KE0
  have dP : w.cell? ⟨pb, po, none⟩ = some (.slice none 0 0) := cell_of hP hz
  have HR := Lib.hid hR
  have HP := Lib.hid hP
  have hlR : R < w.heap.size := lt_of_block hR
  have hlP : pb < w.heap.size := lt_of_block hP
  have HL1 := Lib.hid (Nat.le_trans (gNum_le st) hl)
  clear hR hP hz hl KE0
  have hcn : ¬ ((n : Int) < 0 ∨ 1000 < (n : Int)) := by omega
  have HG := Lib.hid (show gEach gVa st = gRep gVa n (gNum st).2 from by
    unfold gEach gCnt
    rw [hm, if_neg hcn, Int.toNat_natCast])
  rw [HG.out]
  have HXL := Lib.hid (gRep_len gVa n (gNum st).2)
  rw [HXL.out]
  have hmk := fun W => run_make_k (P := Tryz.prog) 24 54 #[.string { data := #[] }, .int .i64 0, .bool false] 3 32 Tryz.underlying24 (by kernel_rfl) n (by omega) (by omega) W
  obtain ⟨c0, hc0⟩ : ∃ c, madeCells #[.string { data := #[] }, .int .i64 0, .bool false] (n * 3) = c := ⟨_, rfl⟩
  have HC0 := Lib.hid (show c0.size = n * 3 from by rw [← hc0]; exact size_madeCells _ _)
  have HZ0 := Lib.hid (show ∀ j, 0 ≤ j → j < n → (fun c o => c[o + 2]? = some (.bool false)) c0 (j * 3) from fun j _ hj => by
    have hj2 := hmul2 j n 3 hj
    rw [← hc0]
    have hq : (j * 3 + 2) % 3 = 2 := by omega
    dsimp only
    rw [made_get _ _ _ (by omega)]
    show some (#[Value.string { data := #[] }, .int .i64 0, .bool false][(j * 3 + 2) % 3]!) = _
    rw [hq]; rfl)
  rw [hc0] at hmk
  have hg : ¬ (1000 : Int) < (n : Int) := by omega
  clear hc0 HG hcn
  generalize hst1 : (gNum st).2 = st1 at *
  rw [hm] at KN
  clear hm hst1
  obtain ⟨m, hmn⟩ : ∃ m : Int, (n : Int) = m := ⟨_, rfl⟩
  obtain ⟨XS, hXS⟩ : ∃ x, (gRep gVa n st1).1 = x := ⟨_, rfl⟩
  obtain ⟨SF, hSF⟩ : ∃ x, (gRep gVa n st1).2 = x := ⟨_, rfl⟩
  have HS := Lib.hid (And.intro hXS hSF)
  rw [hXS, hSF]
  rw [hXS] at HXL
  clear hXS hSF
  rw [hmn] at KN
  go_enter Tryz.func57, Tryz.ntmps57
  go_wp2_with fail
  have hb1 := alloc_here w (.cells #[.int .i64 0] 3)
  have HE := Lib.hid (ext_alloc (Below.refl _ w) (.cells #[.int .i64 0] 3))
  have HP1 := Lib.hid ((HE.out.below.block _ hlP).trans HP.out)
  refine (show Calls _ _ _ _ _ from KN.out _ w.heap.size (.int .i64 0) ((HE.out.below.block _ hlR).trans HR.out) hb1 (by omega)).mono ?_
  rintro _ w2 ⟨rfl, hR2, hb2, hO⟩
  have HR2 := Lib.hid hR2
  have HO := Lib.hid (show Ot2 R pb w w2 from Ot2.fresh HE.out hO (Nat.le_refl _))
  have HP2 := Lib.hid (hO.block HP1.out hne (by omega))
  have hb2 : w2.heap[w.heap.size]? = some (.cells #[.int .i64 m] 3 (0, 0)) := hb2
  have HB2 := Lib.hid hb2
  clear hb1 hR2 hb2 hO
  go_wp2_with fail
  refine (rreading_any R _).mono ?_
  rintro _ w3 ⟨rfl, h3⟩
  obtain rfl := h3.symm
  have d0 : w2.cell? ⟨w.heap.size, 0, none⟩ = some (.int .i64 m) := cell_of HB2.out rfl
  have d1 : w2.frozen? ⟨w.heap.size, 0, none⟩ = false := free_of HB2.out
  have e0 := cell_at HP2.out hpo
  have e1 : w2.frozen? ⟨pb, po, none⟩ = false := free_of HP2.out
  have hs0 := lt_of_block HB2.out
  have hs2 := lt_of_block HP2.out
  subst hmn
  go_upto_region 6 with fail
  obtain ⟨w5, hw5⟩ : ∃ W, ((w2.setCell ⟨pb, po, none⟩ (.slice (some ⟨w2.heap.size, 0, none⟩) n n)).alloc (.cells c0 54)) = W := ⟨_, rfl⟩
  have hsz5 : (w2.setCell ⟨pb, po, none⟩ (.slice (some ⟨w2.heap.size, 0, none⟩) n n)).heap.size = w2.heap.size := by simp [World.setCell]
  have HA5 := Lib.hid (show Ext (w2.setCell ⟨pb, po, none⟩ (.slice (some ⟨w2.heap.size, 0, none⟩) n n)) w5 from by rw [← hw5]; exact ext_alloc (Below.refl _ _) _)
  have HG5 := Lib.hid (show w5.heap[w2.heap.size]? = some (.cells c0 54 (0, 0)) from by
    have := alloc_here (w2.setCell ⟨pb, po, none⟩ (.slice (some ⟨w2.heap.size, 0, none⟩) n n)) (.cells c0 54)
    rw [hsz5, hw5] at this; exact this)
  have hp5 := heap_set (i := po) HP2.out (.slice (some ⟨w2.heap.size, 0, none⟩) n n)
  have HP5 := Lib.hid ((HA5.out.below.block _ (lt_of_block hp5)).trans hp5)
  have HR5 := Lib.hid ((HA5.out.below.block _ (by rw [hsz5]; exact lt_of_block HR2.out)).trans ((Below.heap_setCell _ _ _ _ (fun e => hne e.symm)).trans HR2.out))
  have HO5 := Lib.hid (Ot2.trans (Ot2.trans HO.out (Ot2.setG (g := pb) (i := po) w2 (.slice (some ⟨w2.heap.size, 0, none⟩) n n))) (Ot2.of_ext HA5.out))
  clear hp5 hsz5
  have HPO := Lib.hid (show (cs.setIfInBounds po (.slice (some ⟨w2.heap.size, 0, none⟩) n n))[po]? = some (.slice (some ⟨w2.heap.size, 0, none⟩) n n) from by simp [hpo])
  have hwG : w.heap.size ≤ w2.heap.size := Nat.le_of_lt hs0
  have hRG : R < w2.heap.size := by omega
  rw [hw5]
  clear hw5 d0 d1 e0 e1 hs0 dP
  obtain ⟨Gb, hGb⟩ : ∃ b, w2.heap.size = b := ⟨_, rfl⟩
  rw [hGb] at HP5 HG5 HPO hwG hRG hs2 ⊢
  clear hGb
  have f0 := cell_of HP5.out HPO.out
  go_wp2
  go_loopw [30] (fun v wr => ∃ i : Nat, v = .int .i64 (i : Int) ∧ i ≤ n ∧ RIn gVa VaSl 3 54 (fun c o => c[o + 2]? = some (.bool false)) R Gb pb n (.cells (cs.setIfInBounds po (.slice (some ⟨Gb, 0, none⟩) n n)) T (0, 0)) XS SF w i wr) (fun v _ => n - (intOf v).toNat)
  case atStart => exact ⟨0, rfl, Nat.zero_le _, ⟨⟨[], st1, c0, rfl, (by rw [List.nil_append]; exact HS.out.1), HS.out.2, HL1.out, HR5.out, HG5.out, HC0.out, HZ0.out, fun j hj => absurd hj (Nat.not_lt_zero _)⟩, HP5.out, HO5.out⟩⟩
  case round =>
    obtain ⟨i, rfl, hi, ⟨⟨xs, si, ci, h1, h2, h3, h4, h5, h6, h7, h8, h9⟩, hp, hot⟩⟩ := hrel
    by_cases hlt : i < n
    · have h0 : (0 : Int) ≤ (i : Int) := by omega
      have hlt2 : (i : Int) < (n : Int) := by omega
      have f1 := cell_of hp HPO.out
      have HK := Lib.hid (KE.out Gb i si ci _ h5 h6 (by omega) (by rw [h7]; exact hmul2 i n 3 hlt) h4 (h8 i (Nat.le_refl _) hlt))
      have HH := Lib.hid (And.intro h1 (And.intro h2 (And.intro h3 (And.intro h4 (And.intro h6 (And.intro h7 (And.intro h8 (And.intro h9 (And.intro hp hot)))))))))
      clear h1 h2 h3 h4 h5 h6 h7 h8 h9 hp hot
      go_wp2_with fail
      refine (show Calls _ _ _ _ _ from HK.out).mono ?_
      rintro _ w6 ⟨rfl, a2, a3, cs', b1, b2, b3, b4⟩
      have HS6 := Lib.hid (show RIn gVa VaSl 3 54 (fun c o => c[o + 2]? = some (.bool false)) R Gb pb n (.cells (cs.setIfInBounds po (.slice (some ⟨Gb, 0, none⟩) n n)) T (0, 0)) XS SF w (i + 1) w6 from by
        obtain ⟨h1, h2, h3, h4, h6, h7, h8, h9, hp, hot⟩ := HH.out
        exact RIn.step VaSl.keep VaSl.down gVa_le (fun c c' o h hz => by rw [h (o + 2) (by omega) (by omega)]; exact hz) hlt hRG hs2 hne hwG h1 h2 h3 h4 h6 h7 h8 h9 hp hot a2 a3 b1 b2 b3 b4)
      clear a2 a3 b1 b2 b3 b4 HH HK
      go_wp2
      go_roundw
      case rel => exact ⟨i + 1, by go_num, by omega, HS6.out⟩
      case measure => simp [intOf]; omega
    · have hin : i = n := by omega
      have HF := Lib.hid (show xs = XS ∧ si = SF from by
        rw [hin, Nat.sub_self] at h2 h3
        exact ⟨by rw [← h2]; simp [gRep], h3⟩)
      have HH := Lib.hid (And.intro h5 (And.intro h6 (And.intro h7 (And.intro h9 (And.intro hp hot)))))
      have f1 := cell_of hp HPO.out
      clear h1 h2 h3 h4 h5 h6 h7 h8 h9 hp hot
      subst hin
      go_wp2
      go_end0
      obtain ⟨g5, g6, g7, g9, gp, gt⟩ := HH.out
      obtain ⟨q1, q2⟩ := HF.out
      subst q1
      subst q2
      exact ⟨rfl, g5, gt, some ⟨Gb, 0, none⟩, gp, Gb, ci, rfl, hwG, g6, by rw [g7, HXL.out], g9⟩
set_option maxRecDepth 100000 in
set_option maxHeartbeats 4000000 in
theorem reach_Va_low (R pb po : Nat) (st : RSt) (cs : Array Value) (T : TypeId) (w : World) (hR : w.heap[R]? = some (rdQ st)) (hP : w.heap[pb]? = some (.cells cs T (0, 0))) (hne : pb ≠ R) (hpo : po < cs.size) (hz : cs[po]? = some (.slice none 0 0)) (hl : st.1.length ≤ 10000000) (hm : (gNum st).1 < 0)
    (KE0 : ∀ (g i : Nat) (st' : RSt) (cs' : Array Value) (w' : World), w'.heap[R]? = some (rdQ st') → w'.heap[g]? = some (.cells cs' 54 (0, 0)) → g ≠ R → i * 3 + 3 ≤ cs'.size → st'.1.length ≤ 10000000 → (fun c o => c[o + 2]? = some (.bool false)) cs' (i * 3) → Calls Tryz.prog 58 #[cR R, .pointer (some ⟨g, i * 3, none⟩)] w' (ROne gVa VaSl 3 R g (i * 3) st' cs' 54 w')) :
    Calls Tryz.prog 57 #[cR R, .pointer (some ⟨pb, po, none⟩), .func (.func 58) #[] #[]] w fun e w' => e = .returned (.tuple #[]) ∧ w'.heap[R]? = some (rdQ (gEach gVa st).2) ∧ Ot2 R pb w w' ∧
      ∃ a, w'.heap[pb]? = some (.cells (cs.setIfInBounds po (.slice a (gEach gVa st).1.length (gEach gVa st).1.length)) T (0, 0)) ∧ RowS VaSl 3 54 w.heap.size w' a (gEach gVa st).1 := by
  have KN := Lib.hid (fun W nb x (h : W.heap[R]? = some (rdQ st)) (hb : W.heap[nb]? = some (.cells #[x] 3 (0, 0))) (hn : nb ≠ R) => rnum_any R nb 0 st #[x] 3 W h hb hn (by simp) (by omega))
  have KE := Lib.hid KE0
  have dP : w.cell? ⟨pb, po, none⟩ = some (.slice none 0 0) := cell_of hP hz
  have HR := Lib.hid hR
  have HP := Lib.hid hP
  have hlR : R < w.heap.size := lt_of_block hR
  have hlP : pb < w.heap.size := lt_of_block hP
  have HL1 := Lib.hid (Nat.le_trans (gNum_le st) hl)
  clear hR hP hz hl KE0
  have hcn : (gNum st).1 < 0 ∨ 1000 < (gNum st).1 := .inl hm
  have HG := Lib.hid (show gEach gVa st = ([], (gNum st).2) from by
    unfold gEach gCnt
    rw [if_pos hcn]; rfl)
  rw [HG.out]
  obtain ⟨XS, hXS⟩ : ∃ x : List Va, [] = x := ⟨_, rfl⟩
  have HXL := Lib.hid (show XS.length = 0 from by rw [← hXS]; rfl)
  have hmk : ∀ W, (Instr.makeSlice 24 (.int .i64 0) (.int .i64 0)).run Tryz.prog W = .ok (.slice (some ⟨W.heap.size, 0, none⟩) 0 0) (W.alloc (.cells (madeCells #[.string { data := #[] }, .int .i64 0, .bool false] (0 * 3)) 54)) := fun W => run_make_k (P := Tryz.prog) 24 54 #[.string { data := #[] }, .int .i64 0, .bool false] 3 32 Tryz.underlying24 (by kernel_rfl) 0 (by omega) (by omega) W
  obtain ⟨c0, hc0⟩ : ∃ c, madeCells #[.string { data := #[] }, .int .i64 0, .bool false] (0 * 3) = c := ⟨_, rfl⟩
  have HC0 := Lib.hid (show c0.size = 0 * 3 from by rw [← hc0]; exact size_madeCells _ _)
  have HZ0 := Lib.hid (show ∀ j, 0 ≤ j → j < 0 → (fun c o => c[o + 2]? = some (.bool false)) c0 (j * 3) from fun j _ hj => absurd hj (Nat.not_lt_zero _))
  rw [hc0] at hmk
  clear hc0 HG hcn
  dsimp only
  have HXL2 := Lib.hid (show ([] : List Va).length = 0 from rfl)
  rw [HXL2.out]
  generalize hst1 : (gNum st).2 = st1 at *
  generalize (gNum st).1 = m at *
  clear hst1
  obtain ⟨SF, hSF⟩ : ∃ x, st1 = x := ⟨_, rfl⟩
  have HS := Lib.hid (show (gRep gVa (0 - 0) st1).1 = XS ∧ (gRep gVa (0 - 0) st1).2 = SF from ⟨hXS, hSF⟩)
  rw [hXS, hSF]
  clear hXS hSF
  go_enter Tryz.func57, Tryz.ntmps57
  go_wp2_with fail
  have hb1 := alloc_here w (.cells #[.int .i64 0] 3)
  have HE := Lib.hid (ext_alloc (Below.refl _ w) (.cells #[.int .i64 0] 3))
  have HP1 := Lib.hid ((HE.out.below.block _ hlP).trans HP.out)
  refine (show Calls _ _ _ _ _ from KN.out _ w.heap.size (.int .i64 0) ((HE.out.below.block _ hlR).trans HR.out) hb1 (by omega)).mono ?_
  rintro _ w2 ⟨rfl, hR2, hb2, hO⟩
  have HR2 := Lib.hid hR2
  have HO := Lib.hid (show Ot2 R pb w w2 from Ot2.fresh HE.out hO (Nat.le_refl _))
  have HP2 := Lib.hid (hO.block HP1.out hne (by omega))
  have hb2 : w2.heap[w.heap.size]? = some (.cells #[.int .i64 m] 3 (0, 0)) := hb2
  have HB2 := Lib.hid hb2
  clear hb1 hR2 hb2 hO
  go_wp2_with fail
  refine (rreading_any R _).mono ?_
  rintro _ w3 ⟨rfl, h3⟩
  obtain rfl := h3.symm
  have d0 : w2.cell? ⟨w.heap.size, 0, none⟩ = some (.int .i64 m) := cell_of HB2.out rfl
  have d1 : w2.frozen? ⟨w.heap.size, 0, none⟩ = false := free_of HB2.out
  have e0 := cell_at HP2.out hpo
  have e1 : w2.frozen? ⟨pb, po, none⟩ = false := free_of HP2.out
  have hs0 := lt_of_block HB2.out
  have hs2 := lt_of_block HP2.out
  go_upto_region 6 with fail
  have HQ2 := Lib.hid (heap_set (i := 0) HB2.out (.int .i64 0))
  obtain ⟨w2', hw2'⟩ : ∃ W, w2.setCell ⟨w.heap.size, 0, none⟩ (.int .i64 0) = W := ⟨_, rfl⟩
  have hsz2 : w2'.heap.size = w2.heap.size := by rw [← hw2']; simp [World.setCell]
  have HR2' := Lib.hid (show w2'.heap[R]? = some (rdQ st1) from by rw [← hw2']; exact (Below.heap_setCell _ _ _ _ (show R ≠ w.heap.size by omega)).trans HR2.out)
  have HP2' := Lib.hid (show w2'.heap[pb]? = some (.cells cs T (0, 0)) from by rw [← hw2']; exact (Below.heap_setCell _ _ _ _ (show pb ≠ w.heap.size by omega)).trans HP2.out)
  have HO' := Lib.hid (show Ot2 R pb w w2' from by rw [← hw2']; exact HO.out.then (Ot2.setG (R := R) (g := w.heap.size) (i := 0) w2 (.int .i64 0)) (Nat.le_refl _))
  rw [hw2', ← hsz2]
  rw [← hsz2] at hs0 hs2
  clear hw2' HQ2 HB2 d0 d1 e0 e1 HR2 HP2 HO
  obtain ⟨w5, hw5⟩ : ∃ W, ((w2'.setCell ⟨pb, po, none⟩ (.slice (some ⟨w2'.heap.size, 0, none⟩) 0 0)).alloc (.cells c0 54)) = W := ⟨_, rfl⟩
  have hsz5 : (w2'.setCell ⟨pb, po, none⟩ (.slice (some ⟨w2'.heap.size, 0, none⟩) 0 0)).heap.size = w2'.heap.size := by simp [World.setCell]
  have HA5 := Lib.hid (show Ext (w2'.setCell ⟨pb, po, none⟩ (.slice (some ⟨w2'.heap.size, 0, none⟩) 0 0)) w5 from by rw [← hw5]; exact ext_alloc (Below.refl _ _) _)
  have HG5 := Lib.hid (show w5.heap[w2'.heap.size]? = some (.cells c0 54 (0, 0)) from by
    have := alloc_here (w2'.setCell ⟨pb, po, none⟩ (.slice (some ⟨w2'.heap.size, 0, none⟩) 0 0)) (.cells c0 54)
    rw [hsz5, hw5] at this; exact this)
  have hp5 := heap_set (i := po) HP2'.out (.slice (some ⟨w2'.heap.size, 0, none⟩) 0 0)
  have HP5 := Lib.hid ((HA5.out.below.block _ (lt_of_block hp5)).trans hp5)
  have HR5 := Lib.hid ((HA5.out.below.block _ (by rw [hsz5]; exact lt_of_block HR2'.out)).trans ((Below.heap_setCell _ _ _ _ (fun e => hne e.symm)).trans HR2'.out))
  have HO5 := Lib.hid (Ot2.trans (Ot2.trans HO'.out (Ot2.setG (g := pb) (i := po) w2' (.slice (some ⟨w2'.heap.size, 0, none⟩) 0 0))) (Ot2.of_ext HA5.out))
  clear hp5 hsz5
  have HPO := Lib.hid (show (cs.setIfInBounds po (.slice (some ⟨w2'.heap.size, 0, none⟩) 0 0))[po]? = some (.slice (some ⟨w2'.heap.size, 0, none⟩) 0 0) from by simp [hpo])
  have hwG : w.heap.size ≤ w2'.heap.size := Nat.le_of_lt hs0
  have hRG : R < w2'.heap.size := by omega
  rw [hw5]
  clear hw5 hs0 dP
  obtain ⟨Gb, hGb⟩ : ∃ b, w2'.heap.size = b := ⟨_, rfl⟩
  rw [hGb] at HP5 HG5 HPO hwG hRG hs2 ⊢
  clear hGb
  have f0 := cell_of HP5.out HPO.out
  go_wp2
  go_loopw [30] (fun v wr => ∃ i : Nat, v = .int .i64 (i : Int) ∧ i ≤ 0 ∧ RIn gVa VaSl 3 54 (fun c o => c[o + 2]? = some (.bool false)) R Gb pb 0 (.cells (cs.setIfInBounds po (.slice (some ⟨Gb, 0, none⟩) 0 0)) T (0, 0)) XS SF w i wr) (fun v _ => 0 - (intOf v).toNat)
  case atStart => exact ⟨0, rfl, Nat.zero_le _, ⟨⟨[], st1, c0, rfl, (by rw [List.nil_append]; exact HS.out.1), HS.out.2, HL1.out, HR5.out, HG5.out, HC0.out, HZ0.out, fun j hj => absurd hj (Nat.not_lt_zero _)⟩, HP5.out, HO5.out⟩⟩
  case round =>
    obtain ⟨i, rfl, hi, ⟨⟨xs, si, ci, h1, h2, h3, h4, h5, h6, h7, h8, h9⟩, hp, hot⟩⟩ := hrel
    by_cases hlt : i < 0
    · exact absurd hlt (Nat.not_lt_zero _)
    · have hin : i = 0 := by omega
      have HF := Lib.hid (show xs = XS ∧ si = SF from by
        rw [hin, Nat.sub_self] at h2 h3
        exact ⟨by rw [← h2]; simp [gRep], h3⟩)
      have HH := Lib.hid (And.intro h5 (And.intro h6 (And.intro h7 (And.intro h9 (And.intro hp hot)))))
      have f1 := cell_of hp HPO.out
      clear h1 h2 h3 h4 h5 h6 h7 h8 h9 hp hot
      subst hin
      go_wp2
      go_end0
      obtain ⟨g5, g6, g7, g9, gp, gt⟩ := HH.out
      obtain ⟨q1, q2⟩ := HF.out
      subst q1
      subst q2
      exact ⟨rfl, g5, gt, some ⟨Gb, 0, none⟩, gp, Gb, ci, rfl, hwG, g6, by rw [g7, HXL.out], g9⟩
set_option maxRecDepth 100000 in
set_option maxHeartbeats 4000000 in
theorem reach_Va_high (R pb po : Nat) (st : RSt) (cs : Array Value) (T : TypeId) (w : World) (hR : w.heap[R]? = some (rdQ st)) (hP : w.heap[pb]? = some (.cells cs T (0, 0))) (hne : pb ≠ R) (hpo : po < cs.size) (hz : cs[po]? = some (.slice none 0 0)) (hl : st.1.length ≤ 10000000) (hm : 1000 < (gNum st).1)
    (KE0 : ∀ (g i : Nat) (st' : RSt) (cs' : Array Value) (w' : World), w'.heap[R]? = some (rdQ st') → w'.heap[g]? = some (.cells cs' 54 (0, 0)) → g ≠ R → i * 3 + 3 ≤ cs'.size → st'.1.length ≤ 10000000 → (fun c o => c[o + 2]? = some (.bool false)) cs' (i * 3) → Calls Tryz.prog 58 #[cR R, .pointer (some ⟨g, i * 3, none⟩)] w' (ROne gVa VaSl 3 R g (i * 3) st' cs' 54 w')) :
    Calls Tryz.prog 57 #[cR R, .pointer (some ⟨pb, po, none⟩), .func (.func 58) #[] #[]] w fun e w' => e = .returned (.tuple #[]) ∧ w'.heap[R]? = some (rdQ (gEach gVa st).2) ∧ Ot2 R pb w w' ∧
      ∃ a, w'.heap[pb]? = some (.cells (cs.setIfInBounds po (.slice a (gEach gVa st).1.length (gEach gVa st).1.length)) T (0, 0)) ∧ RowS VaSl 3 54 w.heap.size w' a (gEach gVa st).1 := by
  have KN := Lib.hid (fun W nb x (h : W.heap[R]? = some (rdQ st)) (hb : W.heap[nb]? = some (.cells #[x] 3 (0, 0))) (hn : nb ≠ R) => rnum_any R nb 0 st #[x] 3 W h hb hn (by simp) (by omega))
  have KE := Lib.hid KE0
  have dP : w.cell? ⟨pb, po, none⟩ = some (.slice none 0 0) := cell_of hP hz
  have HR := Lib.hid hR
  have HP := Lib.hid hP
  have hlR : R < w.heap.size := lt_of_block hR
  have hlP : pb < w.heap.size := lt_of_block hP
  have HL1 := Lib.hid (Nat.le_trans (gNum_le st) hl)
  clear hR hP hz hl KE0
  have hcn : (gNum st).1 < 0 ∨ 1000 < (gNum st).1 := .inr hm
  have HG := Lib.hid (show gEach gVa st = ([], (gNum st).2) from by
    unfold gEach gCnt
    rw [if_pos hcn]; rfl)
  rw [HG.out]
  obtain ⟨XS, hXS⟩ : ∃ x : List Va, [] = x := ⟨_, rfl⟩
  have HXL := Lib.hid (show XS.length = 0 from by rw [← hXS]; rfl)
  have hmk : ∀ W, (Instr.makeSlice 24 (.int .i64 0) (.int .i64 0)).run Tryz.prog W = .ok (.slice (some ⟨W.heap.size, 0, none⟩) 0 0) (W.alloc (.cells (madeCells #[.string { data := #[] }, .int .i64 0, .bool false] (0 * 3)) 54)) := fun W => run_make_k (P := Tryz.prog) 24 54 #[.string { data := #[] }, .int .i64 0, .bool false] 3 32 Tryz.underlying24 (by kernel_rfl) 0 (by omega) (by omega) W
  obtain ⟨c0, hc0⟩ : ∃ c, madeCells #[.string { data := #[] }, .int .i64 0, .bool false] (0 * 3) = c := ⟨_, rfl⟩
  have HC0 := Lib.hid (show c0.size = 0 * 3 from by rw [← hc0]; exact size_madeCells _ _)
  have HZ0 := Lib.hid (show ∀ j, 0 ≤ j → j < 0 → (fun c o => c[o + 2]? = some (.bool false)) c0 (j * 3) from fun j _ hj => absurd hj (Nat.not_lt_zero _))
  rw [hc0] at hmk
  clear hc0 HG hcn
  dsimp only
  have HXL2 := Lib.hid (show ([] : List Va).length = 0 from rfl)
  rw [HXL2.out]
  generalize hst1 : (gNum st).2 = st1 at *
  generalize (gNum st).1 = m at *
  clear hst1
  obtain ⟨SF, hSF⟩ : ∃ x, st1 = x := ⟨_, rfl⟩
  have HS := Lib.hid (show (gRep gVa (0 - 0) st1).1 = XS ∧ (gRep gVa (0 - 0) st1).2 = SF from ⟨hXS, hSF⟩)
  rw [hXS, hSF]
  clear hXS hSF
  have hx0 : ¬ m < 0 := by omega
  go_enter Tryz.func57, Tryz.ntmps57
  go_wp2_with fail
  have hb1 := alloc_here w (.cells #[.int .i64 0] 3)
  have HE := Lib.hid (ext_alloc (Below.refl _ w) (.cells #[.int .i64 0] 3))
  have HP1 := Lib.hid ((HE.out.below.block _ hlP).trans HP.out)
  refine (show Calls _ _ _ _ _ from KN.out _ w.heap.size (.int .i64 0) ((HE.out.below.block _ hlR).trans HR.out) hb1 (by omega)).mono ?_
  rintro _ w2 ⟨rfl, hR2, hb2, hO⟩
  have HR2 := Lib.hid hR2
  have HO := Lib.hid (show Ot2 R pb w w2 from Ot2.fresh HE.out hO (Nat.le_refl _))
  have HP2 := Lib.hid (hO.block HP1.out hne (by omega))
  have hb2 : w2.heap[w.heap.size]? = some (.cells #[.int .i64 m] 3 (0, 0)) := hb2
  have HB2 := Lib.hid hb2
  clear hb1 hR2 hb2 hO
  go_wp2_with fail
  refine (rreading_any R _).mono ?_
  rintro _ w3 ⟨rfl, h3⟩
  obtain rfl := h3.symm
  have d0 : w2.cell? ⟨w.heap.size, 0, none⟩ = some (.int .i64 m) := cell_of HB2.out rfl
  have d1 : w2.frozen? ⟨w.heap.size, 0, none⟩ = false := free_of HB2.out
  have e0 := cell_at HP2.out hpo
  have e1 : w2.frozen? ⟨pb, po, none⟩ = false := free_of HP2.out
  have hs0 := lt_of_block HB2.out
  have hs2 := lt_of_block HP2.out
  go_upto_region 6 with fail
  have HQ2 := Lib.hid (heap_set (i := 0) HB2.out (.int .i64 0))
  obtain ⟨w2', hw2'⟩ : ∃ W, w2.setCell ⟨w.heap.size, 0, none⟩ (.int .i64 0) = W := ⟨_, rfl⟩
  have hsz2 : w2'.heap.size = w2.heap.size := by rw [← hw2']; simp [World.setCell]
  have HR2' := Lib.hid (show w2'.heap[R]? = some (rdQ st1) from by rw [← hw2']; exact (Below.heap_setCell _ _ _ _ (show R ≠ w.heap.size by omega)).trans HR2.out)
  have HP2' := Lib.hid (show w2'.heap[pb]? = some (.cells cs T (0, 0)) from by rw [← hw2']; exact (Below.heap_setCell _ _ _ _ (show pb ≠ w.heap.size by omega)).trans HP2.out)
  have HO' := Lib.hid (show Ot2 R pb w w2' from by rw [← hw2']; exact HO.out.then (Ot2.setG (R := R) (g := w.heap.size) (i := 0) w2 (.int .i64 0)) (Nat.le_refl _))
  rw [hw2', ← hsz2]
  rw [← hsz2] at hs0 hs2
  clear hw2' HQ2 HB2 d0 d1 e0 e1 HR2 HP2 HO
  obtain ⟨w5, hw5⟩ : ∃ W, ((w2'.setCell ⟨pb, po, none⟩ (.slice (some ⟨w2'.heap.size, 0, none⟩) 0 0)).alloc (.cells c0 54)) = W := ⟨_, rfl⟩
  have hsz5 : (w2'.setCell ⟨pb, po, none⟩ (.slice (some ⟨w2'.heap.size, 0, none⟩) 0 0)).heap.size = w2'.heap.size := by simp [World.setCell]
  have HA5 := Lib.hid (show Ext (w2'.setCell ⟨pb, po, none⟩ (.slice (some ⟨w2'.heap.size, 0, none⟩) 0 0)) w5 from by rw [← hw5]; exact ext_alloc (Below.refl _ _) _)
  have HG5 := Lib.hid (show w5.heap[w2'.heap.size]? = some (.cells c0 54 (0, 0)) from by
    have := alloc_here (w2'.setCell ⟨pb, po, none⟩ (.slice (some ⟨w2'.heap.size, 0, none⟩) 0 0)) (.cells c0 54)
    rw [hsz5, hw5] at this; exact this)
  have hp5 := heap_set (i := po) HP2'.out (.slice (some ⟨w2'.heap.size, 0, none⟩) 0 0)
  have HP5 := Lib.hid ((HA5.out.below.block _ (lt_of_block hp5)).trans hp5)
  have HR5 := Lib.hid ((HA5.out.below.block _ (by rw [hsz5]; exact lt_of_block HR2'.out)).trans ((Below.heap_setCell _ _ _ _ (fun e => hne e.symm)).trans HR2'.out))
  have HO5 := Lib.hid (Ot2.trans (Ot2.trans HO'.out (Ot2.setG (g := pb) (i := po) w2' (.slice (some ⟨w2'.heap.size, 0, none⟩) 0 0))) (Ot2.of_ext HA5.out))
  clear hp5 hsz5
  have HPO := Lib.hid (show (cs.setIfInBounds po (.slice (some ⟨w2'.heap.size, 0, none⟩) 0 0))[po]? = some (.slice (some ⟨w2'.heap.size, 0, none⟩) 0 0) from by simp [hpo])
  have hwG : w.heap.size ≤ w2'.heap.size := Nat.le_of_lt hs0
  have hRG : R < w2'.heap.size := by omega
  rw [hw5]
  clear hw5 hs0 dP
  obtain ⟨Gb, hGb⟩ : ∃ b, w2'.heap.size = b := ⟨_, rfl⟩
  rw [hGb] at HP5 HG5 HPO hwG hRG hs2 ⊢
  clear hGb
  have f0 := cell_of HP5.out HPO.out
  go_wp2
  go_loopw [30] (fun v wr => ∃ i : Nat, v = .int .i64 (i : Int) ∧ i ≤ 0 ∧ RIn gVa VaSl 3 54 (fun c o => c[o + 2]? = some (.bool false)) R Gb pb 0 (.cells (cs.setIfInBounds po (.slice (some ⟨Gb, 0, none⟩) 0 0)) T (0, 0)) XS SF w i wr) (fun v _ => 0 - (intOf v).toNat)
  case atStart => exact ⟨0, rfl, Nat.zero_le _, ⟨⟨[], st1, c0, rfl, (by rw [List.nil_append]; exact HS.out.1), HS.out.2, HL1.out, HR5.out, HG5.out, HC0.out, HZ0.out, fun j hj => absurd hj (Nat.not_lt_zero _)⟩, HP5.out, HO5.out⟩⟩
  case round =>
    obtain ⟨i, rfl, hi, ⟨⟨xs, si, ci, h1, h2, h3, h4, h5, h6, h7, h8, h9⟩, hp, hot⟩⟩ := hrel
    by_cases hlt : i < 0
    · exact absurd hlt (Nat.not_lt_zero _)
    · have hin : i = 0 := by omega
      have HF := Lib.hid (show xs = XS ∧ si = SF from by
        rw [hin, Nat.sub_self] at h2 h3
        exact ⟨by rw [← h2]; simp [gRep], h3⟩)
      have HH := Lib.hid (And.intro h5 (And.intro h6 (And.intro h7 (And.intro h9 (And.intro hp hot)))))
      have f1 := cell_of hp HPO.out
      clear h1 h2 h3 h4 h5 h6 h7 h8 h9 hp hot
      subst hin
      go_wp2
      go_end0
      obtain ⟨g5, g6, g7, g9, gp, gt⟩ := HH.out
      obtain ⟨q1, q2⟩ := HF.out
      subst q1
      subst q2
      exact ⟨rfl, g5, gt, some ⟨Gb, 0, none⟩, gp, Gb, ci, rfl, hwG, g6, by rw [g7, HXL.out], g9⟩
theorem reach_Va (R pb po : Nat) (st : RSt) (cs : Array Value) (T : TypeId) (w : World) (hR : w.heap[R]? = some (rdQ st)) (hP : w.heap[pb]? = some (.cells cs T (0, 0))) (hne : pb ≠ R) (hpo : po < cs.size) (hz : cs[po]? = some (.slice none 0 0)) (hl : st.1.length ≤ 10000000)
    (KE0 : ∀ (g i : Nat) (st' : RSt) (cs' : Array Value) (w' : World), w'.heap[R]? = some (rdQ st') → w'.heap[g]? = some (.cells cs' 54 (0, 0)) → g ≠ R → i * 3 + 3 ≤ cs'.size → st'.1.length ≤ 10000000 → (fun c o => c[o + 2]? = some (.bool false)) cs' (i * 3) → Calls Tryz.prog 58 #[cR R, .pointer (some ⟨g, i * 3, none⟩)] w' (ROne gVa VaSl 3 R g (i * 3) st' cs' 54 w')) :
    Calls Tryz.prog 57 #[cR R, .pointer (some ⟨pb, po, none⟩), .func (.func 58) #[] #[]] w fun e w' => e = .returned (.tuple #[]) ∧ w'.heap[R]? = some (rdQ (gEach gVa st).2) ∧ Ot2 R pb w w' ∧
      ∃ a, w'.heap[pb]? = some (.cells (cs.setIfInBounds po (.slice a (gEach gVa st).1.length (gEach gVa st).1.length)) T (0, 0)) ∧ RowS VaSl 3 54 w.heap.size w' a (gEach gVa st).1 := by
  by_cases h1 : (gNum st).1 < 0
  · exact reach_Va_low R pb po st cs T w hR hP hne hpo hz hl h1 KE0
  · by_cases h2 : 1000 < (gNum st).1
    · exact reach_Va_high R pb po st cs T w hR hP hne hpo hz hl h2 KE0
    · exact reach_Va_some R pb po st cs T w hR hP hne hpo hz hl (gNum st).1.toNat (by omega) (by omega) KE0
end Go.Proofs.YtfkjokbhnblndaaGreatDoor

namespace Go.Proofs.YtfkjokbhnblndaaGreatDoor
open Go.RowKit Go.Shelf
set_option linter.unusedVariables false
set_option linter.unusedSimpArgs false

set_option maxRecDepth 100000 in
set_option maxHeartbeats 4000000 in
theorem reach_Fn_some (R pb po : Nat) (st : RSt) (cs : Array Value) (T : TypeId) (w : World) (hR : w.heap[R]? = some (rdQ st)) (hP : w.heap[pb]? = some (.cells cs T (0, 0))) (hne : pb ≠ R) (hpo : po < cs.size) (hz : cs[po]? = some (.slice none 0 0)) (hl : st.1.length ≤ 10000000) (n : Nat) (hm : (gNum st).1 = (n : Int)) (hn : n ≤ 1000)
    (KE0 : ∀ (g i : Nat) (st' : RSt) (cs' : Array Value) (w' : World), w'.heap[R]? = some (rdQ st') → w'.heap[g]? = some (.cells cs' 47 (0, 0)) → g ≠ R → i * 6 + 6 ≤ cs'.size → st'.1.length ≤ 10000000 → (fun c o => c[o + 4]? = some (.bool false) ∧ c[o + 5]? = some (.slice none 0 0)) cs' (i * 6) → Calls Tryz.prog 51 #[cR R, .pointer (some ⟨g, i * 6, none⟩)] w' (ROne gFn FnSl 6 R g (i * 6) st' cs' 47 w')) :
    Calls Tryz.prog 50 #[cR R, .pointer (some ⟨pb, po, none⟩), .func (.func 51) #[] #[]] w fun e w' => e = .returned (.tuple #[]) ∧ w'.heap[R]? = some (rdQ (gEach gFn st).2) ∧ Ot2 R pb w w' ∧
      ∃ a, w'.heap[pb]? = some (.cells (cs.setIfInBounds po (.slice a (gEach gFn st).1.length (gEach gFn st).1.length)) T (0, 0)) ∧ RowS FnSl 6 47 w.heap.size w' a (gEach gFn st).1 := by
  have KN := Lib.hid (fun W nb x (h : W.heap[R]? = some (rdQ st)) (hb : W.heap[nb]? = some (.cells #[x] 3 (0, 0))) (hn : nb ≠ R) => rnum_any R nb 0 st #[x] 3 W h hb hn (by simp) (by omega))
  have KE := Lib.hid KE0
  have dP : w.cell? ⟨pb, po, none⟩ = some (.slice none 0 0) := cell_of hP hz
  have HR := Lib.hid hR
  have HP := Lib.hid hP
  have hlR : R < w.heap.size := lt_of_block hR
  have hlP : pb < w.heap.size := lt_of_block hP
  have HL1 := Lib.hid (Nat.le_trans (gNum_le st) hl)
  clear hR hP hz hl KE0
  have hcn : ¬ ((n : Int) < 0 ∨ 1000 < (n : Int)) := by omega
  have HG := Lib.hid (show gEach gFn st = gRep gFn n (gNum st).2 from by
    unfold gEach gCnt
    rw [hm, if_neg hcn, Int.toNat_natCast])
  rw [HG.out]
  have HXL := Lib.hid (gRep_len gFn n (gNum st).2)
  rw [HXL.out]
  have hmk := fun W => run_make_k (P := Tryz.prog) 22 47 #[.string { data := #[] }, .int .i64 0, .int .i64 0, .int .i64 0, .bool false, .slice none 0 0] 6 72 Tryz.underlying22 (by kernel_rfl) n (by omega) (by omega) W
  obtain ⟨c0, hc0⟩ : ∃ c, madeCells #[.string { data := #[] }, .int .i64 0, .int .i64 0, .int .i64 0, .bool false, .slice none 0 0] (n * 6) = c := ⟨_, rfl⟩
  have HC0 := Lib.hid (show c0.size = n * 6 from by rw [← hc0]; exact size_madeCells _ _)
  have HZ0 := Lib.hid (show ∀ j, 0 ≤ j → j < n → (fun c o => c[o + 4]? = some (.bool false) ∧ c[o + 5]? = some (.slice none 0 0)) c0 (j * 6) from fun j _ hj => by
    have hj2 := hmul2 j n 6 hj
    rw [← hc0]
    have hq : (j * 6 + 4) % 6 = 4 := by omega
    have hq2 : (j * 6 + 5) % 6 = 5 := by omega
    dsimp only
    rw [made_get _ _ _ (by omega), made_get _ _ _ (by omega)]
    show some (#[Value.string { data := #[] }, .int .i64 0, .int .i64 0, .int .i64 0, .bool false, .slice none 0 0][(j * 6 + 4) % 6]!) = _ ∧ some (#[Value.string { data := #[] }, .int .i64 0, .int .i64 0, .int .i64 0, .bool false, .slice none 0 0][(j * 6 + 5) % 6]!) = _
    rw [hq, hq2]; exact ⟨rfl, rfl⟩)
  rw [hc0] at hmk
  have hg : ¬ (1000 : Int) < (n : Int) := by omega
  clear hc0 HG hcn
  generalize hst1 : (gNum st).2 = st1 at *
  rw [hm] at KN
  clear hm hst1
  obtain ⟨m, hmn⟩ : ∃ m : Int, (n : Int) = m := ⟨_, rfl⟩
  obtain ⟨XS, hXS⟩ : ∃ x, (gRep gFn n st1).1 = x := ⟨_, rfl⟩
  obtain ⟨SF, hSF⟩ : ∃ x, (gRep gFn n st1).2 = x := ⟨_, rfl⟩
  have HS := Lib.hid (And.intro hXS hSF)
  rw [hXS, hSF]
  rw [hXS] at HXL
  clear hXS hSF
  rw [hmn] at KN
  go_enter Tryz.func50, Tryz.ntmps50
  go_wp2_with fail
  have hb1 := alloc_here w (.cells #[.int .i64 0] 3)
  have HE := Lib.hid (ext_alloc (Below.refl _ w) (.cells #[.int .i64 0] 3))
  have HP1 := Lib.hid ((HE.out.below.block _ hlP).trans HP.out)
  refine (show Calls _ _ _ _ _ from KN.out _ w.heap.size (.int .i64 0) ((HE.out.below.block _ hlR).trans HR.out) hb1 (by omega)).mono ?_
  rintro _ w2 ⟨rfl, hR2, hb2, hO⟩
  have HR2 := Lib.hid hR2
  have HO := Lib.hid (show Ot2 R pb w w2 from Ot2.fresh HE.out hO (Nat.le_refl _))
  have HP2 := Lib.hid (hO.block HP1.out hne (by omega))
  have hb2 : w2.heap[w.heap.size]? = some (.cells #[.int .i64 m] 3 (0, 0)) := hb2
  have HB2 := Lib.hid hb2
  clear hb1 hR2 hb2 hO
  go_wp2_with fail
  refine (rreading_any R _).mono ?_
  rintro _ w3 ⟨rfl, h3⟩
  obtain rfl := h3.symm
  have d0 : w2.cell? ⟨w.heap.size, 0, none⟩ = some (.int .i64 m) := cell_of HB2.out rfl
  have d1 : w2.frozen? ⟨w.heap.size, 0, none⟩ = false := free_of HB2.out
  have e0 := cell_at HP2.out hpo
  have e1 : w2.frozen? ⟨pb, po, none⟩ = false := free_of HP2.out
  have hs0 := lt_of_block HB2.out
  have hs2 := lt_of_block HP2.out
  subst hmn
  go_upto_region 6 with fail
  obtain ⟨w5, hw5⟩ : ∃ W, ((w2.setCell ⟨pb, po, none⟩ (.slice (some ⟨w2.heap.size, 0, none⟩) n n)).alloc (.cells c0 47)) = W := ⟨_, rfl⟩
  have hsz5 : (w2.setCell ⟨pb, po, none⟩ (.slice (some ⟨w2.heap.size, 0, none⟩) n n)).heap.size = w2.heap.size := by simp [World.setCell]
  have HA5 := Lib.hid (show Ext (w2.setCell ⟨pb, po, none⟩ (.slice (some ⟨w2.heap.size, 0, none⟩) n n)) w5 from by rw [← hw5]; exact ext_alloc (Below.refl _ _) _)
  have HG5 := Lib.hid (show w5.heap[w2.heap.size]? = some (.cells c0 47 (0, 0)) from by
    have := alloc_here (w2.setCell ⟨pb, po, none⟩ (.slice (some ⟨w2.heap.size, 0, none⟩) n n)) (.cells c0 47)
    rw [hsz5, hw5] at this; exact this)
  have hp5 := heap_set (i := po) HP2.out (.slice (some ⟨w2.heap.size, 0, none⟩) n n)
  have HP5 := Lib.hid ((HA5.out.below.block _ (lt_of_block hp5)).trans hp5)
  have HR5 := Lib.hid ((HA5.out.below.block _ (by rw [hsz5]; exact lt_of_block HR2.out)).trans ((Below.heap_setCell _ _ _ _ (fun e => hne e.symm)).trans HR2.out))
  have HO5 := Lib.hid (Ot2.trans (Ot2.trans HO.out (Ot2.setG (g := pb) (i := po) w2 (.slice (some ⟨w2.heap.size, 0, none⟩) n n))) (Ot2.of_ext HA5.out))
  clear hp5 hsz5
  have HPO := Lib.hid (show (cs.setIfInBounds po (.slice (some ⟨w2.heap.size, 0, none⟩) n n))[po]? = some (.slice (some ⟨w2.heap.size, 0, none⟩) n n) from by simp [hpo])
  have hwG : w.heap.size ≤ w2.heap.size := Nat.le_of_lt hs0
  have hRG : R < w2.heap.size := by omega
  rw [hw5]
  clear hw5 d0 d1 e0 e1 hs0 dP
  obtain ⟨Gb, hGb⟩ : ∃ b, w2.heap.size = b := ⟨_, rfl⟩
  rw [hGb] at HP5 HG5 HPO hwG hRG hs2 ⊢
  clear hGb
  have f0 := cell_of HP5.out HPO.out
  go_wp2
  go_loopw [30] (fun v wr => ∃ i : Nat, v = .int .i64 (i : Int) ∧ i ≤ n ∧ RIn gFn FnSl 6 47 (fun c o => c[o + 4]? = some (.bool false) ∧ c[o + 5]? = some (.slice none 0 0)) R Gb pb n (.cells (cs.setIfInBounds po (.slice (some ⟨Gb, 0, none⟩) n n)) T (0, 0)) XS SF w i wr) (fun v _ => n - (intOf v).toNat)
  case atStart => exact ⟨0, rfl, Nat.zero_le _, ⟨⟨[], st1, c0, rfl, (by rw [List.nil_append]; exact HS.out.1), HS.out.2, HL1.out, HR5.out, HG5.out, HC0.out, HZ0.out, fun j hj => absurd hj (Nat.not_lt_zero _)⟩, HP5.out, HO5.out⟩⟩
  case round =>
    obtain ⟨i, rfl, hi, ⟨⟨xs, si, ci, h1, h2, h3, h4, h5, h6, h7, h8, h9⟩, hp, hot⟩⟩ := hrel
    by_cases hlt : i < n
    · have h0 : (0 : Int) ≤ (i : Int) := by omega
      have hlt2 : (i : Int) < (n : Int) := by omega
      have f1 := cell_of hp HPO.out
      have HK := Lib.hid (KE.out Gb i si ci _ h5 h6 (by omega) (by rw [h7]; exact hmul2 i n 6 hlt) h4 (h8 i (Nat.le_refl _) hlt))
      have HH := Lib.hid (And.intro h1 (And.intro h2 (And.intro h3 (And.intro h4 (And.intro h6 (And.intro h7 (And.intro h8 (And.intro h9 (And.intro hp hot)))))))))
      clear h1 h2 h3 h4 h5 h6 h7 h8 h9 hp hot
      go_wp2_with fail
      refine (show Calls _ _ _ _ _ from HK.out).mono ?_
      rintro _ w6 ⟨rfl, a2, a3, cs', b1, b2, b3, b4⟩
      have HS6 := Lib.hid (show RIn gFn FnSl 6 47 (fun c o => c[o + 4]? = some (.bool false) ∧ c[o + 5]? = some (.slice none 0 0)) R Gb pb n (.cells (cs.setIfInBounds po (.slice (some ⟨Gb, 0, none⟩) n n)) T (0, 0)) XS SF w (i + 1) w6 from by
        obtain ⟨h1, h2, h3, h4, h6, h7, h8, h9, hp, hot⟩ := HH.out
        exact RIn.step FnSl.keep FnSl.down gFn_le (fun c c' o h hz => by rw [h (o + 4) (by omega) (by omega), h (o + 5) (by omega) (by omega)]; exact hz) hlt hRG hs2 hne hwG h1 h2 h3 h4 h6 h7 h8 h9 hp hot a2 a3 b1 b2 b3 b4)
      clear a2 a3 b1 b2 b3 b4 HH HK
      go_wp2
      go_roundw
      case rel => exact ⟨i + 1, by go_num, by omega, HS6.out⟩
      case measure => simp [intOf]; omega
    · have hin : i = n := by omega
      have HF := Lib.hid (show xs = XS ∧ si = SF from by
        rw [hin, Nat.sub_self] at h2 h3
        exact ⟨by rw [← h2]; simp [gRep], h3⟩)
      have HH := Lib.hid (And.intro h5 (And.intro h6 (And.intro h7 (And.intro h9 (And.intro hp hot)))))
      have f1 := cell_of hp HPO.out
      clear h1 h2 h3 h4 h5 h6 h7 h8 h9 hp hot
      subst hin
      go_wp2
      go_end0
      obtain ⟨g5, g6, g7, g9, gp, gt⟩ := HH.out
      obtain ⟨q1, q2⟩ := HF.out
      subst q1
      subst q2
      exact ⟨rfl, g5, gt, some ⟨Gb, 0, none⟩, gp, Gb, ci, rfl, hwG, g6, by rw [g7, HXL.out], g9⟩
set_option maxRecDepth 100000 in
set_option maxHeartbeats 4000000 in
theorem reach_Fn_low (R pb po : Nat) (st : RSt) (cs : Array Value) (T : TypeId) (w : World) (hR : w.heap[R]? = some (rdQ st)) (hP : w.heap[pb]? = some (.cells cs T (0, 0))) (hne : pb ≠ R) (hpo : po < cs.size) (hz : cs[po]? = some (.slice none 0 0)) (hl : st.1.length ≤ 10000000) (hm : (gNum st).1 < 0)
    (KE0 : ∀ (g i : Nat) (st' : RSt) (cs' : Array Value) (w' : World), w'.heap[R]? = some (rdQ st') → w'.heap[g]? = some (.cells cs' 47 (0, 0)) → g ≠ R → i * 6 + 6 ≤ cs'.size → st'.1.length ≤ 10000000 → (fun c o => c[o + 4]? = some (.bool false) ∧ c[o + 5]? = some (.slice none 0 0)) cs' (i * 6) → Calls Tryz.prog 51 #[cR R, .pointer (some ⟨g, i * 6, none⟩)] w' (ROne gFn FnSl 6 R g (i * 6) st' cs' 47 w')) :
    Calls Tryz.prog 50 #[cR R, .pointer (some ⟨pb, po, none⟩), .func (.func 51) #[] #[]] w fun e w' => e = .returned (.tuple #[]) ∧ w'.heap[R]? = some (rdQ (gEach gFn st).2) ∧ Ot2 R pb w w' ∧
      ∃ a, w'.heap[pb]? = some (.cells (cs.setIfInBounds po (.slice a (gEach gFn st).1.length (gEach gFn st).1.length)) T (0, 0)) ∧ RowS FnSl 6 47 w.heap.size w' a (gEach gFn st).1 := by
  have KN := Lib.hid (fun W nb x (h : W.heap[R]? = some (rdQ st)) (hb : W.heap[nb]? = some (.cells #[x] 3 (0, 0))) (hn : nb ≠ R) => rnum_any R nb 0 st #[x] 3 W h hb hn (by simp) (by omega))
  have KE := Lib.hid KE0
  have dP : w.cell? ⟨pb, po, none⟩ = some (.slice none 0 0) := cell_of hP hz
  have HR := Lib.hid hR
  have HP := Lib.hid hP
  have hlR : R < w.heap.size := lt_of_block hR
  have hlP : pb < w.heap.size := lt_of_block hP
  have HL1 := Lib.hid (Nat.le_trans (gNum_le st) hl)
  clear hR hP hz hl KE0
  have hcn : (gNum st).1 < 0 ∨ 1000 < (gNum st).1 := .inl hm
  have HG := Lib.hid (show gEach gFn st = ([], (gNum st).2) from by
    unfold gEach gCnt
    rw [if_pos hcn]; rfl)
  rw [HG.out]
  obtain ⟨XS, hXS⟩ : ∃ x : List Fn, [] = x := ⟨_, rfl⟩
  have HXL := Lib.hid (show XS.length = 0 from by rw [← hXS]; rfl)
  have hmk : ∀ W, (Instr.makeSlice 22 (.int .i64 0) (.int .i64 0)).run Tryz.prog W = .ok (.slice (some ⟨W.heap.size, 0, none⟩) 0 0) (W.alloc (.cells (madeCells #[.string { data := #[] }, .int .i64 0, .int .i64 0, .int .i64 0, .bool false, .slice none 0 0] (0 * 6)) 47)) := fun W => run_make_k (P := Tryz.prog) 22 47 #[.string { data := #[] }, .int .i64 0, .int .i64 0, .int .i64 0, .bool false, .slice none 0 0] 6 72 Tryz.underlying22 (by kernel_rfl) 0 (by omega) (by omega) W
  obtain ⟨c0, hc0⟩ : ∃ c, madeCells #[.string { data := #[] }, .int .i64 0, .int .i64 0, .int .i64 0, .bool false, .slice none 0 0] (0 * 6) = c := ⟨_, rfl⟩
  have HC0 := Lib.hid (show c0.size = 0 * 6 from by rw [← hc0]; exact size_madeCells _ _)
  have HZ0 := Lib.hid (show ∀ j, 0 ≤ j → j < 0 → (fun c o => c[o + 4]? = some (.bool false) ∧ c[o + 5]? = some (.slice none 0 0)) c0 (j * 6) from fun j _ hj => absurd hj (Nat.not_lt_zero _))
  rw [hc0] at hmk
  clear hc0 HG hcn
  dsimp only
  have HXL2 := Lib.hid (show ([] : List Fn).length = 0 from rfl)
  rw [HXL2.out]
  generalize hst1 : (gNum st).2 = st1 at *
  generalize (gNum st).1 = m at *
  clear hst1
  obtain ⟨SF, hSF⟩ : ∃ x, st1 = x := ⟨_, rfl⟩
  have HS := Lib.hid (show (gRep gFn (0 - 0) st1).1 = XS ∧ (gRep gFn (0 - 0) st1).2 = SF from ⟨hXS, hSF⟩)
  rw [hXS, hSF]
  clear hXS hSF
  go_enter Tryz.func50, Tryz.ntmps50
  go_wp2_with fail
  have hb1 := alloc_here w (.cells #[.int .i64 0] 3)
  have HE := Lib.hid (ext_alloc (Below.refl _ w) (.cells #[.int .i64 0] 3))
  have HP1 := Lib.hid ((HE.out.below.block _ hlP).trans HP.out)
  refine (show Calls _ _ _ _ _ from KN.out _ w.heap.size (.int .i64 0) ((HE.out.below.block _ hlR).trans HR.out) hb1 (by omega)).mono ?_
  rintro _ w2 ⟨rfl, hR2, hb2, hO⟩
  have HR2 := Lib.hid hR2
  have HO := Lib.hid (show Ot2 R pb w w2 from Ot2.fresh HE.out hO (Nat.le_refl _))
  have HP2 := Lib.hid (hO.block HP1.out hne (by omega))
  have hb2 : w2.heap[w.heap.size]? = some (.cells #[.int .i64 m] 3 (0, 0)) := hb2
  have HB2 := Lib.hid hb2
  clear hb1 hR2 hb2 hO
  go_wp2_with fail
  refine (rreading_any R _).mono ?_
  rintro _ w3 ⟨rfl, h3⟩
  obtain rfl := h3.symm
  have d0 : w2.cell? ⟨w.heap.size, 0, none⟩ = some (.int .i64 m) := cell_of HB2.out rfl
  have d1 : w2.frozen? ⟨w.heap.size, 0, none⟩ = false := free_of HB2.out
  have e0 := cell_at HP2.out hpo
  have e1 : w2.frozen? ⟨pb, po, none⟩ = false := free_of HP2.out
  have hs0 := lt_of_block HB2.out
  have hs2 := lt_of_block HP2.out
  go_upto_region 6 with fail
  have HQ2 := Lib.hid (heap_set (i := 0) HB2.out (.int .i64 0))
  obtain ⟨w2', hw2'⟩ : ∃ W, w2.setCell ⟨w.heap.size, 0, none⟩ (.int .i64 0) = W := ⟨_, rfl⟩
  have hsz2 : w2'.heap.size = w2.heap.size := by rw [← hw2']; simp [World.setCell]
  have HR2' := Lib.hid (show w2'.heap[R]? = some (rdQ st1) from by rw [← hw2']; exact (Below.heap_setCell _ _ _ _ (show R ≠ w.heap.size by omega)).trans HR2.out)
  have HP2' := Lib.hid (show w2'.heap[pb]? = some (.cells cs T (0, 0)) from by rw [← hw2']; exact (Below.heap_setCell _ _ _ _ (show pb ≠ w.heap.size by omega)).trans HP2.out)
  have HO' := Lib.hid (show Ot2 R pb w w2' from by rw [← hw2']; exact HO.out.then (Ot2.setG (R := R) (g := w.heap.size) (i := 0) w2 (.int .i64 0)) (Nat.le_refl _))
  rw [hw2', ← hsz2]
  rw [← hsz2] at hs0 hs2
  clear hw2' HQ2 HB2 d0 d1 e0 e1 HR2 HP2 HO
  obtain ⟨w5, hw5⟩ : ∃ W, ((w2'.setCell ⟨pb, po, none⟩ (.slice (some ⟨w2'.heap.size, 0, none⟩) 0 0)).alloc (.cells c0 47)) = W := ⟨_, rfl⟩
  have hsz5 : (w2'.setCell ⟨pb, po, none⟩ (.slice (some ⟨w2'.heap.size, 0, none⟩) 0 0)).heap.size = w2'.heap.size := by simp [World.setCell]
  have HA5 := Lib.hid (show Ext (w2'.setCell ⟨pb, po, none⟩ (.slice (some ⟨w2'.heap.size, 0, none⟩) 0 0)) w5 from by rw [← hw5]; exact ext_alloc (Below.refl _ _) _)
  have HG5 := Lib.hid (show w5.heap[w2'.heap.size]? = some (.cells c0 47 (0, 0)) from by
    have := alloc_here (w2'.setCell ⟨pb, po, none⟩ (.slice (some ⟨w2'.heap.size, 0, none⟩) 0 0)) (.cells c0 47)
    rw [hsz5, hw5] at this; exact this)
  have hp5 := heap_set (i := po) HP2'.out (.slice (some ⟨w2'.heap.size, 0, none⟩) 0 0)
  have HP5 := Lib.hid ((HA5.out.below.block _ (lt_of_block hp5)).trans hp5)
  have HR5 := Lib.hid ((HA5.out.below.block _ (by rw [hsz5]; exact lt_of_block HR2'.out)).trans ((Below.heap_setCell _ _ _ _ (fun e => hne e.symm)).trans HR2'.out))
  have HO5 := Lib.hid (Ot2.trans (Ot2.trans HO'.out (Ot2.setG (g := pb) (i := po) w2' (.slice (some ⟨w2'.heap.size, 0, none⟩) 0 0))) (Ot2.of_ext HA5.out))
  clear hp5 hsz5
  have HPO := Lib.hid (show (cs.setIfInBounds po (.slice (some ⟨w2'.heap.size, 0, none⟩) 0 0))[po]? = some (.slice (some ⟨w2'.heap.size, 0, none⟩) 0 0) from by simp [hpo])
  have hwG : w.heap.size ≤ w2'.heap.size := Nat.le_of_lt hs0
  have hRG : R < w2'.heap.size := by omega
  rw [hw5]
  clear hw5 hs0 dP
  obtain ⟨Gb, hGb⟩ : ∃ b, w2'.heap.size = b := ⟨_, rfl⟩
  rw [hGb] at HP5 HG5 HPO hwG hRG hs2 ⊢
  clear hGb
  have f0 := cell_of HP5.out HPO.out
  go_wp2
  go_loopw [30] (fun v wr => ∃ i : Nat, v = .int .i64 (i : Int) ∧ i ≤ 0 ∧ RIn gFn FnSl 6 47 (fun c o => c[o + 4]? = some (.bool false) ∧ c[o + 5]? = some (.slice none 0 0)) R Gb pb 0 (.cells (cs.setIfInBounds po (.slice (some ⟨Gb, 0, none⟩) 0 0)) T (0, 0)) XS SF w i wr) (fun v _ => 0 - (intOf v).toNat)
  case atStart => exact ⟨0, rfl, Nat.zero_le _, ⟨⟨[], st1, c0, rfl, (by rw [List.nil_append]; exact HS.out.1), HS.out.2, HL1.out, HR5.out, HG5.out, HC0.out, HZ0.out, fun j hj => absurd hj (Nat.not_lt_zero _)⟩, HP5.out, HO5.out⟩⟩
  case round =>
    obtain ⟨i, rfl, hi, ⟨⟨xs, si, ci, h1, h2, h3, h4, h5, h6, h7, h8, h9⟩, hp, hot⟩⟩ := hrel
    by_cases hlt : i < 0
    · exact absurd hlt (Nat.not_lt_zero _)
    · have hin : i = 0 := by omega
      have HF := Lib.hid (show xs = XS ∧ si = SF from by
        rw [hin, Nat.sub_self] at h2 h3
        exact ⟨by rw [← h2]; simp [gRep], h3⟩)
      have HH := Lib.hid (And.intro h5 (And.intro h6 (And.intro h7 (And.intro h9 (And.intro hp hot)))))
      have f1 := cell_of hp HPO.out
      clear h1 h2 h3 h4 h5 h6 h7 h8 h9 hp hot
      subst hin
      go_wp2
      go_end0
      obtain ⟨g5, g6, g7, g9, gp, gt⟩ := HH.out
      obtain ⟨q1, q2⟩ := HF.out
      subst q1
      subst q2
      exact ⟨rfl, g5, gt, some ⟨Gb, 0, none⟩, gp, Gb, ci, rfl, hwG, g6, by rw [g7, HXL.out], g9⟩
set_option maxRecDepth 100000 in
set_option maxHeartbeats 4000000 in
theorem reach_Fn_high (R pb po : Nat) (st : RSt) (cs : Array Value) (T : TypeId) (w : World) (hR : w.heap[R]? = some (rdQ st)) (hP : w.heap[pb]? = some (.cells cs T (0, 0))) (hne : pb ≠ R) (hpo : po < cs.size) (hz : cs[po]? = some (.slice none 0 0)) (hl : st.1.length ≤ 10000000) (hm : 1000 < (gNum st).1)
    (KE0 : ∀ (g i : Nat) (st' : RSt) (cs' : Array Value) (w' : World), w'.heap[R]? = some (rdQ st') → w'.heap[g]? = some (.cells cs' 47 (0, 0)) → g ≠ R → i * 6 + 6 ≤ cs'.size → st'.1.length ≤ 10000000 → (fun c o => c[o + 4]? = some (.bool false) ∧ c[o + 5]? = some (.slice none 0 0)) cs' (i * 6) → Calls Tryz.prog 51 #[cR R, .pointer (some ⟨g, i * 6, none⟩)] w' (ROne gFn FnSl 6 R g (i * 6) st' cs' 47 w')) :
    Calls Tryz.prog 50 #[cR R, .pointer (some ⟨pb, po, none⟩), .func (.func 51) #[] #[]] w fun e w' => e = .returned (.tuple #[]) ∧ w'.heap[R]? = some (rdQ (gEach gFn st).2) ∧ Ot2 R pb w w' ∧
      ∃ a, w'.heap[pb]? = some (.cells (cs.setIfInBounds po (.slice a (gEach gFn st).1.length (gEach gFn st).1.length)) T (0, 0)) ∧ RowS FnSl 6 47 w.heap.size w' a (gEach gFn st).1 := by
  have KN := Lib.hid (fun W nb x (h : W.heap[R]? = some (rdQ st)) (hb : W.heap[nb]? = some (.cells #[x] 3 (0, 0))) (hn : nb ≠ R) => rnum_any R nb 0 st #[x] 3 W h hb hn (by simp) (by omega))
  have KE := Lib.hid KE0
  have dP : w.cell? ⟨pb, po, none⟩ = some (.slice none 0 0) := cell_of hP hz
  have HR := Lib.hid hR
  have HP := Lib.hid hP
  have hlR : R < w.heap.size := lt_of_block hR
  have hlP : pb < w.heap.size := lt_of_block hP
  have HL1 := Lib.hid (Nat.le_trans (gNum_le st) hl)
  clear hR hP hz hl KE0
  have hcn : (gNum st).1 < 0 ∨ 1000 < (gNum st).1 := .inr hm
  have HG := Lib.hid (show gEach gFn st = ([], (gNum st).2) from by
    unfold gEach gCnt
    rw [if_pos hcn]; rfl)
  rw [HG.out]
  obtain ⟨XS, hXS⟩ : ∃ x : List Fn, [] = x := ⟨_, rfl⟩
  have HXL := Lib.hid (show XS.length = 0 from by rw [← hXS]; rfl)
  have hmk : ∀ W, (Instr.makeSlice 22 (.int .i64 0) (.int .i64 0)).run Tryz.prog W = .ok (.slice (some ⟨W.heap.size, 0, none⟩) 0 0) (W.alloc (.cells (madeCells #[.string { data := #[] }, .int .i64 0, .int .i64 0, .int .i64 0, .bool false, .slice none 0 0] (0 * 6)) 47)) := fun W => run_make_k (P := Tryz.prog) 22 47 #[.string { data := #[] }, .int .i64 0, .int .i64 0, .int .i64 0, .bool false, .slice none 0 0] 6 72 Tryz.underlying22 (by kernel_rfl) 0 (by omega) (by omega) W
  obtain ⟨c0, hc0⟩ : ∃ c, madeCells #[.string { data := #[] }, .int .i64 0, .int .i64 0, .int .i64 0, .bool false, .slice none 0 0] (0 * 6) = c := ⟨_, rfl⟩
  have HC0 := Lib.hid (show c0.size = 0 * 6 from by rw [← hc0]; exact size_madeCells _ _)
  have HZ0 := Lib.hid (show ∀ j, 0 ≤ j → j < 0 → (fun c o => c[o + 4]? = some (.bool false) ∧ c[o + 5]? = some (.slice none 0 0)) c0 (j * 6) from fun j _ hj => absurd hj (Nat.not_lt_zero _))
  rw [hc0] at hmk
  clear hc0 HG hcn
  dsimp only
  have HXL2 := Lib.hid (show ([] : List Fn).length = 0 from rfl)
  rw [HXL2.out]
  generalize hst1 : (gNum st).2 = st1 at *
  generalize (gNum st).1 = m at *
  clear hst1
  obtain ⟨SF, hSF⟩ : ∃ x, st1 = x := ⟨_, rfl⟩
  have HS := Lib.hid (show (gRep gFn (0 - 0) st1).1 = XS ∧ (gRep gFn (0 - 0) st1).2 = SF from ⟨hXS, hSF⟩)
  rw [hXS, hSF]
  clear hXS hSF
  have hx0 : ¬ m < 0 := by omega
  go_enter Tryz.func50, Tryz.ntmps50
  go_wp2_with fail
  have hb1 := alloc_here w (.cells #[.int .i64 0] 3)
  have HE := Lib.hid (ext_alloc (Below.refl _ w) (.cells #[.int .i64 0] 3))
  have HP1 := Lib.hid ((HE.out.below.block _ hlP).trans HP.out)
  refine (show Calls _ _ _ _ _ from KN.out _ w.heap.size (.int .i64 0) ((HE.out.below.block _ hlR).trans HR.out) hb1 (by omega)).mono ?_
  rintro _ w2 ⟨rfl, hR2, hb2, hO⟩
  have HR2 := Lib.hid hR2
  have HO := Lib.hid (show Ot2 R pb w w2 from Ot2.fresh HE.out hO (Nat.le_refl _))
  have HP2 := Lib.hid (hO.block HP1.out hne (by omega))
  have hb2 : w2.heap[w.heap.size]? = some (.cells #[.int .i64 m] 3 (0, 0)) := hb2
  have HB2 := Lib.hid hb2
  clear hb1 hR2 hb2 hO
  go_wp2_with fail
  refine (rreading_any R _).mono ?_
  rintro _ w3 ⟨rfl, h3⟩
  obtain rfl := h3.symm
  have d0 : w2.cell? ⟨w.heap.size, 0, none⟩ = some (.int .i64 m) := cell_of HB2.out rfl
  have d1 : w2.frozen? ⟨w.heap.size, 0, none⟩ = false := free_of HB2.out
  have e0 := cell_at HP2.out hpo
  have e1 : w2.frozen? ⟨pb, po, none⟩ = false := free_of HP2.out
  have hs0 := lt_of_block HB2.out
  have hs2 := lt_of_block HP2.out
  go_upto_region 6 with fail
  have HQ2 := Lib.hid (heap_set (i := 0) HB2.out (.int .i64 0))
  obtain ⟨w2', hw2'⟩ : ∃ W, w2.setCell ⟨w.heap.size, 0, none⟩ (.int .i64 0) = W := ⟨_, rfl⟩
  have hsz2 : w2'.heap.size = w2.heap.size := by rw [← hw2']; simp [World.setCell]
  have HR2' := Lib.hid (show w2'.heap[R]? = some (rdQ st1) from by rw [← hw2']; exact (Below.heap_setCell _ _ _ _ (show R ≠ w.heap.size by omega)).trans HR2.out)
  have HP2' := Lib.hid (show w2'.heap[pb]? = some (.cells cs T (0, 0)) from by rw [← hw2']; exact (Below.heap_setCell _ _ _ _ (show pb ≠ w.heap.size by omega)).trans HP2.out)
  have HO' := Lib.hid (show Ot2 R pb w w2' from by rw [← hw2']; exact HO.out.then (Ot2.setG (R := R) (g := w.heap.size) (i := 0) w2 (.int .i64 0)) (Nat.le_refl _))
  rw [hw2', ← hsz2]
  rw [← hsz2] at hs0 hs2
  clear hw2' HQ2 HB2 d0 d1 e0 e1 HR2 HP2 HO
  obtain ⟨w5, hw5⟩ : ∃ W, ((w2'.setCell ⟨pb, po, none⟩ (.slice (some ⟨w2'.heap.size, 0, none⟩) 0 0)).alloc (.cells c0 47)) = W := ⟨_, rfl⟩
  have hsz5 : (w2'.setCell ⟨pb, po, none⟩ (.slice (some ⟨w2'.heap.size, 0, none⟩) 0 0)).heap.size = w2'.heap.size := by simp [World.setCell]
  have HA5 := Lib.hid (show Ext (w2'.setCell ⟨pb, po, none⟩ (.slice (some ⟨w2'.heap.size, 0, none⟩) 0 0)) w5 from by rw [← hw5]; exact ext_alloc (Below.refl _ _) _)
  have HG5 := Lib.hid (show w5.heap[w2'.heap.size]? = some (.cells c0 47 (0, 0)) from by
    have := alloc_here (w2'.setCell ⟨pb, po, none⟩ (.slice (some ⟨w2'.heap.size, 0, none⟩) 0 0)) (.cells c0 47)
    rw [hsz5, hw5] at this; exact this)
  have hp5 := heap_set (i := po) HP2'.out (.slice (some ⟨w2'.heap.size, 0, none⟩) 0 0)
  have HP5 := Lib.hid ((HA5.out.below.block _ (lt_of_block hp5)).trans hp5)
  have HR5 := Lib.hid ((HA5.out.below.block _ (by rw [hsz5]; exact lt_of_block HR2'.out)).trans ((Below.heap_setCell _ _ _ _ (fun e => hne e.symm)).trans HR2'.out))
  have HO5 := Lib.hid (Ot2.trans (Ot2.trans HO'.out (Ot2.setG (g := pb) (i := po) w2' (.slice (some ⟨w2'.heap.size, 0, none⟩) 0 0))) (Ot2.of_ext HA5.out))
  clear hp5 hsz5
  have HPO := Lib.hid (show (cs.setIfInBounds po (.slice (some ⟨w2'.heap.size, 0, none⟩) 0 0))[po]? = some (.slice (some ⟨w2'.heap.size, 0, none⟩) 0 0) from by simp [hpo])
  have hwG : w.heap.size ≤ w2'.heap.size := Nat.le_of_lt hs0
  have hRG : R < w2'.heap.size := by omega
  rw [hw5]
  clear hw5 hs0 dP
  obtain ⟨Gb, hGb⟩ : ∃ b, w2'.heap.size = b := ⟨_, rfl⟩
  rw [hGb] at HP5 HG5 HPO hwG hRG hs2 ⊢
  clear hGb
  have f0 := cell_of HP5.out HPO.out
  go_wp2
  go_loopw [30] (fun v wr => ∃ i : Nat, v = .int .i64 (i : Int) ∧ i ≤ 0 ∧ RIn gFn FnSl 6 47 (fun c o => c[o + 4]? = some (.bool false) ∧ c[o + 5]? = some (.slice none 0 0)) R Gb pb 0 (.cells (cs.setIfInBounds po (.slice (some ⟨Gb, 0, none⟩) 0 0)) T (0, 0)) XS SF w i wr) (fun v _ => 0 - (intOf v).toNat)
  case atStart => exact ⟨0, rfl, Nat.zero_le _, ⟨⟨[], st1, c0, rfl, (by rw [List.nil_append]; exact HS.out.1), HS.out.2, HL1.out, HR5.out, HG5.out, HC0.out, HZ0.out, fun j hj => absurd hj (Nat.not_lt_zero _)⟩, HP5.out, HO5.out⟩⟩
  case round =>
    obtain ⟨i, rfl, hi, ⟨⟨xs, si, ci, h1, h2, h3, h4, h5, h6, h7, h8, h9⟩, hp, hot⟩⟩ := hrel
    by_cases hlt : i < 0
    · exact absurd hlt (Nat.not_lt_zero _)
    · have hin : i = 0 := by omega
      have HF := Lib.hid (show xs = XS ∧ si = SF from by
        rw [hin, Nat.sub_self] at h2 h3
        exact ⟨by rw [← h2]; simp [gRep], h3⟩)
      have HH := Lib.hid (And.intro h5 (And.intro h6 (And.intro h7 (And.intro h9 (And.intro hp hot)))))
      have f1 := cell_of hp HPO.out
      clear h1 h2 h3 h4 h5 h6 h7 h8 h9 hp hot
      subst hin
      go_wp2
      go_end0
      obtain ⟨g5, g6, g7, g9, gp, gt⟩ := HH.out
      obtain ⟨q1, q2⟩ := HF.out
      subst q1
      subst q2
      exact ⟨rfl, g5, gt, some ⟨Gb, 0, none⟩, gp, Gb, ci, rfl, hwG, g6, by rw [g7, HXL.out], g9⟩
theorem reach_Fn (R pb po : Nat) (st : RSt) (cs : Array Value) (T : TypeId) (w : World) (hR : w.heap[R]? = some (rdQ st)) (hP : w.heap[pb]? = some (.cells cs T (0, 0))) (hne : pb ≠ R) (hpo : po < cs.size) (hz : cs[po]? = some (.slice none 0 0)) (hl : st.1.length ≤ 10000000)
    (KE0 : ∀ (g i : Nat) (st' : RSt) (cs' : Array Value) (w' : World), w'.heap[R]? = some (rdQ st') → w'.heap[g]? = some (.cells cs' 47 (0, 0)) → g ≠ R → i * 6 + 6 ≤ cs'.size → st'.1.length ≤ 10000000 → (fun c o => c[o + 4]? = some (.bool false) ∧ c[o + 5]? = some (.slice none 0 0)) cs' (i * 6) → Calls Tryz.prog 51 #[cR R, .pointer (some ⟨g, i * 6, none⟩)] w' (ROne gFn FnSl 6 R g (i * 6) st' cs' 47 w')) :
    Calls Tryz.prog 50 #[cR R, .pointer (some ⟨pb, po, none⟩), .func (.func 51) #[] #[]] w fun e w' => e = .returned (.tuple #[]) ∧ w'.heap[R]? = some (rdQ (gEach gFn st).2) ∧ Ot2 R pb w w' ∧
      ∃ a, w'.heap[pb]? = some (.cells (cs.setIfInBounds po (.slice a (gEach gFn st).1.length (gEach gFn st).1.length)) T (0, 0)) ∧ RowS FnSl 6 47 w.heap.size w' a (gEach gFn st).1 := by
  by_cases h1 : (gNum st).1 < 0
  · exact reach_Fn_low R pb po st cs T w hR hP hne hpo hz hl h1 KE0
  · by_cases h2 : 1000 < (gNum st).1
    · exact reach_Fn_high R pb po st cs T w hR hP hne hpo hz hl h2 KE0
    · exact reach_Fn_some R pb po st cs T w hR hP hne hpo hz hl (gNum st).1.toNat (by omega) (by omega) KE0
end Go.Proofs.YtfkjokbhnblndaaGreatDoor

