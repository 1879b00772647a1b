/- Lemmas and walks for the statements of this seat, part 10, merged from smaller texts: The reader's binary.; The reader's binary: the loop.; The reader: operand and binary together; read, whose deferred closure recovers.; lexer.read.; The lexer's sign.; Tokens.; What Parse gives: plain.; lexer.Parse.; Tokens compared; slices.Equal of rows of tokens. -/
import Derived.Deep.LoopGhost
import Derived.StillTailTactics
import Derived.Deep.CutBlock
import Derived.Defers
import Derived.Recover
import Derived.Lib.IndexAny
import Derived.Laws.StructEq
import Derived.Test.YtmokejjndkibhaaGreatDoorSh9
import Derived.Test.YtmokejjndkibhaaGreatDoorSh4
import Derived.Test.YtmokejjndkibhaaGreatDoorSh7

namespace Go.Proofs.YtmokejjndkibhaaGreatDoor
open Go.RowKit Go.Shelf Ex
set_option linter.unusedVariables false
set_option linter.unusedSimpArgs false

theorem Rd.loop_fin {l : List Tk} {p k : Nat} {e : Ex} {r : Res} (h : Rd l (.loop p e) k r) (ho : (opAt l k).2 ≠ (p : Int)) : r = .ok e k := by
  cases h with
  | fin _ => rfl
  | argB h _ => exact absurd h ho
  | three _ h _ => exact absurd h ho
  | more _ h _ _ => exact absurd h ho
theorem Rd.loop_go {l : List Tk} {p k : Nat} {e : Ex} {r : Res} (h : Rd l (.loop p e) k r) (ho : (opAt l k).2 = (p : Int)) :
    (∃ j, r = .bad j ∧ Rd l (.bin (p + 1)) (k + 1) (.bad j)) ∨ ∃ f j, Rd l (.bin (p + 1)) (k + 1) (.ok f j) ∧ ((p = 3 ∧ r = .ok (binX (opAt l k).1 e f) j) ∨ (p ≠ 3 ∧ Rd l (.loop p (binX (opAt l k).1 e f)) j r)) := by
  cases h with
  | fin h => exact absurd ho h
  | argB _ h => exact .inl ⟨_, rfl, h⟩
  | three hp _ h => exact .inr ⟨_, _, h, .inl ⟨hp, rfl⟩⟩
  | more hp _ h1 h2 => exact .inr ⟨_, _, h1, .inr ⟨hp, h2⟩⟩
theorem GoesG.dies {P : Program} {l : List Oper} {R : World → World → Prop} {Φ : Nat → (Nat → Value) → World → Prop} {i : Nat} {o : Oper} {a' : Act} {W : World} {Q : Exit → Act → World → Prop} {chain : List PanicEntry} (f : FuncId) (args : Array Value) (hg : o.guard = none) (hrun : (execOp a'.eval o).run P W = .ok (.enter f args) W)
    (hc : Calls P f args W fun e W' => e = .panicked chain ∧ Q (.panic chain) a' W') : GoesG P l R Φ i o a' W Q := by
  unfold GoesG
  rw [if_pos (by simp [Region.wanted, hg])]
  unfold Oper.wp
  rw [hrun]
  exact hc.mono fun e W' ⟨he, hq⟩ => by subst he; exact hq
theorem lxF_op (x : List UInt8) : 0 ≤ (lxF x).1 ∧ (lxF x).1 ≤ 100 := by
  unfold lxF
  cases h : lxL.find? (fun p => p.1 == x) with
  | none => decide
  | some y =>
    have hm := List.mem_of_find?_eq_some h
    have : ∀ y ∈ lxL, 0 ≤ y.2.1 ∧ y.2.1 ≤ 100 := by decide
    exact this y hm
/-- all blocks but k are as they were, and a reader that stands at its end stays there -/
def OthE (k : Nat) (O : Obj) (w w' : World) : Prop := Oth k w w' ∧ (w.heap[k]? = some O → w'.heap[k]? = some O)
theorem OthE.refl (k : Nat) (O : Obj) (w : World) : OthE k O w w := ⟨Oth.refl k w, id⟩
theorem OthE.drawn (k : Nat) (O : Obj) (w : World) : OthE k O w { w with drawn := w.drawn + 1 } := ⟨Oth.drawn k w, id⟩
theorem OthE.trans {k : Nat} {O : Obj} {a b c : World} (h : OthE k O a b) (g : OthE k O b c) : OthE k O a c := ⟨h.1.trans g.1, fun e => g.2 (h.2 e)⟩
theorem OthE.of_ext {k : Nat} {O : Obj} {w w' : World} (h : Ext w w') : OthE k O w w' := ⟨Oth.of_ext h, fun e => (h.below.block k (lt_of_block e)).trans e⟩

set_option maxRecDepth 100000 in
set_option maxHeartbeats 4000000 in
theorem binary_six {w0 : World} {R : Nat} {p : Option Addr} {c : Nat} {l : List Tk} (hE : RdE w0 R p c l) (k : Nat) (IO : OpC w0 R p c l k) : BiC w0 R p c l 6 k := by
  intro w r hb hrd hR
  have hR2 : Rd l .opd k r := by cases hR with | six _ h => exact h | binB hp _ => omega | bin hp _ _ => omega
  have HRl := Lib.hid (lt_of_block hrd)
  have HX1 := Lib.hid (ext_alloc w (.cells #[.int .i64 0, .int .i64 0, .string { data := #[] }, .int .i64 0, .slice none 0 0] 25))
  have HZ1 := Lib.hid (alloc_here w (.cells #[.int .i64 0, .int .i64 0, .string { data := #[] }, .int .i64 0, .slice none 0 0] 25))
  have KC := Lib.hid (IO (w.alloc (.cells #[.int .i64 0, .int .i64 0, .string { data := #[] }, .int .i64 0, .slice none 0 0] 25)) r (low_ext hb HX1.out) ((Below.heap_alloc w _ R HRl.out).trans hrd) hR2)
  clear hR hR2 IO hrd
  cases r with
  | bad j =>
    go_enter Tryz.func61, Tryz.ntmps61
    go_wp2_with fail
    refine (show Calls _ _ _ _ _ from KC.out).mono ?_
    rintro _ w7 ⟨rfl, hO⟩
    dsimp only
    exact ⟨rfl, rfl, (Oth.of_ext HX1.out).trans hO⟩
  | ok e j =>
    obtain ⟨k1, o1, n1, v1, ts⟩ := e
    go_enter Tryz.func61, Tryz.ntmps61
    go_wp2_with fail
    refine (show Calls _ _ _ _ _ from KC.out).mono ?_
    rintro _ w7 ⟨q, cc, rfl, hA, hO, hr⟩
    dsimp only [Ex.val, Ex.kind, Ex.op, Ex.name, Ex.value, Ex.args]
    obtain ⟨m, hm⟩ : ∃ m, ts.length = m := ⟨_, rfl⟩
    rw [hm]
    have HM := Lib.hid hm
    have HA := Lib.hid hA
    have HO := Lib.hid hO
    have HR := Lib.hid hr
    have hz7 := (hO.other _ (lt_of_block HZ1.out) (by have := HRl.out; omega)).trans HZ1.out
    have HZ7 := Lib.hid hz7
    have z0 := cell_of (i := 0) hz7 rfl
    have z1 := cell_of (i := 1) hz7 rfl
    have z2 := cell_of (i := 2) hz7 rfl
    have z3 := cell_of (i := 3) hz7 rfl
    have z4 := cell_of (i := 4) hz7 rfl
    have zf : ∀ i, w7.frozen? ⟨w.heap.size, i, none⟩ = false := fun i => free_of hz7
    clear hz7 hA hO hr hm
    go_wp2
    obtain ⟨W', hW', h3, h4, h5⟩ := put5n HZ7.out rfl (.int .i64 k1) (.int .i64 o1) (sV n1) (.int .i64 v1) (.slice q m cc)
    rw [hW']
    clear z0 z1 z2 z3 z4 zf
    have z0 := cell_of (i := 0) h3 rfl
    have z1 := cell_of (i := 1) h3 rfl
    have z2 := cell_of (i := 2) h3 rfl
    have z3 := cell_of (i := 3) h3 rfl
    have z4 := cell_of (i := 4) h3 rfl
    exact bodyPost_ret (v := .agg #[.int .i64 k1, .int .i64 o1, sV n1, .int .i64 v1, .slice q m cc]) (by simp [results, Tryz.f61, go_sem, z0, z1, z2, z3, z4]) rfl ⟨q, cc, by rw [← HM.out]; rfl, HA.out.keep (fun b hb hl => ⟨by rw [World.size_alloc] at hb; omega, h5 b (by rw [World.size_alloc] at hb; omega)⟩), ((Oth.of_ext HX1.out).trans HO.out).then (h4 _ (Nat.le_refl _)), (h5 R (by have := HRl.out; omega)).trans HR.out⟩

end Go.Proofs.YtmokejjndkibhaaGreatDoor

namespace Go.Proofs.YtmokejjndkibhaaGreatDoor
open Go.RowKit Go.Shelf Ex
set_option linter.unusedVariables false
set_option linter.unusedSimpArgs false

set_option maxRecDepth 100000 in
set_option maxHeartbeats 4000000 in
theorem binary_bad {w0 : World} {R : Nat} {p : Option Addr} {c : Nat} {l : List Tk} (hE : RdE w0 R p c l) (P : Nat) (hP : P ≤ 5) (hP0 : 1 ≤ P) (k : Nat) (hk : k ≤ l.length) (I1 : BiC w0 R p c l (P + 1) k) (j : Nat) (h : Rd l (.bin (P + 1)) k (.bad j)) (w : World) (hb : Below w0.heap.size w0 w) (hrd : w.heap[R]? = some (rdO p l.length c k)) :
    Calls Tryz.prog 61 #[.pointer (some ⟨R, 0, none⟩), .int .i64 (P : Int)] w (Got R p l.length c w (.bad j)) := by
  have HE := Lib.hid hE
  have HB0 := Lib.hid hb
  have HRl := Lib.hid (lt_of_block hrd)
  have hRl := HRl.out
  have HX1 := Lib.hid (ext_alloc w (.cells #[.int .i64 0, .int .i64 0, .string { data := #[] }, .int .i64 0, .slice none 0 0] 25))
  have HZ1 := Lib.hid (alloc_here w (.cells #[.int .i64 0, .int .i64 0, .string { data := #[] }, .int .i64 0, .slice none 0 0] 25))
  have HR1 := Lib.hid ((Below.heap_alloc w (.cells #[.int .i64 0, .int .i64 0, .string { data := #[] }, .int .i64 0, .slice none 0 0] 25) R HRl.out).trans hrd)
  have HL1 := Lib.hid (low_ext hb HX1.out)
  have KC := Lib.hid (show Calls Tryz.prog 61 #[.pointer (some ⟨R, 0, none⟩), .int .i64 ((P : Int) + 1)] (w.alloc (.cells #[.int .i64 0, .int .i64 0, .string { data := #[] }, .int .i64 0, .slice none 0 0] 25)) (Got R p l.length c (w.alloc (.cells #[.int .i64 0, .int .i64 0, .string { data := #[] }, .int .i64 0, .slice none 0 0] 25)) (.bad j)) from by
    have := I1 (w.alloc (.cells #[.int .i64 0, .int .i64 0, .string { data := #[] }, .int .i64 0, .slice none 0 0] 25)) _ HL1.out HR1.out h
    rw [show (((P + 1 : Nat) : Int)) = (P : Int) + 1 by omega] at this
    exact this)
  have hP5 : (P : Int) ≤ 5 := by omega
  have hP1 : (1 : Int) ≤ (P : Int) := by omega
  have hP6 : ¬ (5 : Int) < (P : Int) := by omega
  clear hE hb hrd I1 h
  go_enter Tryz.func61, Tryz.ntmps61
  go_wp2_with fail
  refine (show Calls _ _ _ _ _ from KC.out).mono ?_
  rintro _ w7 ⟨rfl, hO⟩
  dsimp only
  exact ⟨rfl, rfl, (Oth.of_ext HX1.out).trans hO⟩

set_option maxRecDepth 100000 in
set_option maxHeartbeats 16000000 in
theorem binary_ok {w0 : World} {R : Nat} {p : Option Addr} {c : Nat} {l : List Tk} (hE : RdE w0 R p c l) (P : Nat) (hP : P ≤ 5) (hP0 : 1 ≤ P) (k : Nat) (hk : k ≤ l.length) (I1 : BiC w0 R p c l (P + 1) k) (IS : ∀ j, k < j → j ≤ l.length → BiC w0 R p c l (P + 1) j) (e : Ex) (j : Nat) (r : Res) (h : Rd l (.bin (P + 1)) k (.ok e j)) (h1 : Rd l (.loop P e) j r) (w : World) (hb : Below w0.heap.size w0 w) (hrd : w.heap[R]? = some (rdO p l.length c k)) :
    Calls Tryz.prog 61 #[.pointer (some ⟨R, 0, none⟩), .int .i64 (P : Int)] w (Got R p l.length c w r) := by
  have HE := Lib.hid hE
  have HB0 := Lib.hid hb
  have HRl := Lib.hid (lt_of_block hrd)
  have hRl := HRl.out
  have HX1 := Lib.hid (ext_alloc w (.cells #[.int .i64 0, .int .i64 0, .string { data := #[] }, .int .i64 0, .slice none 0 0] 25))
  have HZ1 := Lib.hid (alloc_here w (.cells #[.int .i64 0, .int .i64 0, .string { data := #[] }, .int .i64 0, .slice none 0 0] 25))
  have HR1 := Lib.hid ((Below.heap_alloc w (.cells #[.int .i64 0, .int .i64 0, .string { data := #[] }, .int .i64 0, .slice none 0 0] 25) R HRl.out).trans hrd)
  have HL1 := Lib.hid (low_ext hb HX1.out)
  have KC := Lib.hid (show Calls Tryz.prog 61 #[.pointer (some ⟨R, 0, none⟩), .int .i64 ((P : Int) + 1)] (w.alloc (.cells #[.int .i64 0, .int .i64 0, .string { data := #[] }, .int .i64 0, .slice none 0 0] 25)) (Got R p l.length c (w.alloc (.cells #[.int .i64 0, .int .i64 0, .string { data := #[] }, .int .i64 0, .slice none 0 0] 25)) (.ok e j)) from by
    have := I1 (w.alloc (.cells #[.int .i64 0, .int .i64 0, .string { data := #[] }, .int .i64 0, .slice none 0 0] 25)) _ HL1.out HR1.out h
    rw [show (((P + 1 : Nat) : Int)) = (P : Int) + 1 by omega] at this
    exact this)
  have hP5 : (P : Int) ≤ 5 := by omega
  have hP1 : (1 : Int) ≤ (P : Int) := by omega
  have hP6 : ¬ (5 : Int) < (P : Int) := by omega
  obtain ⟨hj1, hj2, hj3⟩ := h.bound (by simp only [Md.lvl]; omega) hk
  have hj3 := hj3 rfl (fun _ _ => by simp)
  simp only [Res.end_] at hj2 hj3
  have hn9 := hE.len
  have hcap := hE.cap
  have HTK := Lib.hid hE.tks
  have HOP := Lib.hid (fun j (hj : j < l.length) => opAt_at (l := l) hj)
  have HOPO := Lib.hid (fun j (hj : l.length ≤ j) => opAt_out (l := l) hj)
  have HJJ := Lib.hid hj3
  have HJ2 := Lib.hid hj2
  have IS := Lib.hid IS
  have H1 := Lib.hid h1
  obtain ⟨n, hn⟩ : ∃ n, l.length = n := ⟨_, rfl⟩
  have HN := Lib.hid hn
  rw [hn] at hn9 hcap KC HOPO HR1 HJ2
  rw [hn]
  clear hE hb hrd I1 h hn hk hj1 hj2 hj3 h1
  obtain ⟨k1, o1, n1, v1, ts⟩ := e
  go_enter Tryz.func61, Tryz.ntmps61
  go_wp2_with fail
  refine (show Calls _ _ _ _ _ from KC.out).mono ?_
  rintro _ w7 ⟨q, cc, rfl, hA, hO, hr⟩
  dsimp only [Ex.val, Ex.kind, Ex.op, Ex.name, Ex.value, Ex.args]
  obtain ⟨m, hm⟩ : ∃ m, ts.length = m := ⟨_, rfl⟩
  rw [hm]
  have HM := Lib.hid hm
  have HA := Lib.hid hA
  have HO := Lib.hid hO
  have HR := Lib.hid hr
  have HZ7 := Lib.hid ((hO.other _ (lt_of_block HZ1.out) (by have := HRl.out; omega)).trans HZ1.out)
  clear hA hO hr hm hRl
  go_upto_block 0 with fail
  obtain ⟨w8, hw8⟩ : ∃ W, w7.alloc (.cells #[.int .i64 k1, .int .i64 o1, sV n1, .int .i64 v1, .slice q m cc] 25) = W := ⟨_, rfl⟩
  rw [hw8]
  obtain ⟨B5, hB5⟩ : ∃ b, w7.heap.size = b := ⟨_, rfl⟩
  have HX8 := Lib.hid (show Ext w7 w8 from by rw [← hw8]; exact ext_alloc _ _)
  have HB8 := Lib.hid (show w8.heap[B5]? = some (.cells #[.int .i64 k1, .int .i64 o1, sV n1, .int .i64 v1, .slice q m cc] tEx (0, 0)) from by rw [← hw8, ← hB5]; exact alloc_here _ _)
  have HB57 := Lib.hid hB5
  rw [hB5]
  have HB5l := Lib.hid (show w.heap.size < B5 from by rw [← hB5]; exact lt_of_block HZ7.out)
  have HRB5 := Lib.hid (show R ≠ B5 from by have := lt_of_block HR.out; omega)
  clear hw8 hB5
  go_wp2
  go_loopg [] (n - j) (fun n' wr => ∃ (e : Ex) (j : Nat) (q : Option Addr) (cc : Nat), n' + j = n ∧ k < j ∧ Rd l (.loop P e) j r ∧ Oth R w wr ∧ wr.heap[R]? = some (rdO p n c j) ∧ wr.heap[B5]? = some (.cells #[.int .i64 e.kind, .int .i64 e.op, sV e.name, .int .i64 e.value, .slice q e.args.length cc] tEx (0, 0)) ∧ wr.heap[w.heap.size]? = some (.cells #[.int .i64 0, .int .i64 0, .string { data := #[] }, .int .i64 0, .slice none 0 0] 25) ∧ B5 < wr.heap.size ∧ AtB (fun b => w.heap.size < b ∧ b ≠ B5) wr q e)
  case atStart => exact ⟨.mk k1 o1 n1 v1 ts, j, q, cc, by have := HJ2.out; omega, HJJ.out, H1.out, ((Oth.of_ext HX1.out).trans HO.out).trans (Oth.of_ext HX8.out), (HX8.out.below.block _ (lt_of_block HR.out)).trans HR.out, by rw [← HM.out] at HB8; exact HB8.out, (HX8.out.below.block _ (lt_of_block HZ7.out)).trans HZ7.out, lt_of_block HB8.out, (HA.out.imp (fun b hb hl => ⟨by rw [World.size_alloc] at hb; omega, by have := HB57.out; omega⟩)).ext HX8.out⟩
  case round =>
    clear HB8 HX8 HZ7 HR HO HA HB57 HM KC HX1 HZ1 HR1 HL1 H1 HJJ HJ2
    obtain ⟨e, j, q, cc, hnj, hkj, hL, hO, hrd, hb5, hz, hBL, hA⟩ := hrel
    obtain ⟨k1, o1, n1, v1, ts⟩ := e
    dsimp only [Ex.kind, Ex.op, Ex.name, Ex.value, Ex.args] at hb5
    obtain ⟨m, hm⟩ : ∃ m, ts.length = m := ⟨_, rfl⟩
    rw [hm] at hb5
    have HM := Lib.hid hm
    have HL := Lib.hid hL
    have HOD := Lib.hid hO
    have HRD := Lib.hid hrd
    have HBD := Lib.hid hb5
    have HZD := Lib.hid hz
    have HAD := Lib.hid hA
    have HBL := Lib.hid hBL
    have HNJ := Lib.hid hnj
    have HKJ := Lib.hid hkj
    have HLD := Lib.hid (show Below w0.heap.size w0 wr from Below.trans HB0.out (hO.below HE.out.low HB0.out.size))
    have hR0 : wr.cell? ⟨R, 0, none⟩ = some (.slice p n c) := cell_of hrd rfl
    have hR1 : wr.cell? ⟨R, 1, none⟩ = some (.int .i64 (j : Int)) := cell_of hrd rfl
    have hjn : j ≤ n := by omega
    clear hO hrd hb5 hz hA hL hm hBL hnj hkj
    by_cases hjl : j < n
    · obtain ⟨b, off, hp, q0, q1, q2, q3⟩ := HTK.out j (by rw [HN.out]; exact hjl)
      have hp0 := Lib.hid hp
      subst hp
      have c0 := (HLD.out.cell (p := ⟨b, off + j * 4, none⟩) (cell_lt' q0)).trans q0
      have c1 := (HLD.out.cell (p := ⟨b, off + j * 4 + 1, none⟩) (cell_lt' q1)).trans q1
      have hop := HOP.out j (by rw [HN.out]; exact hjl)
      have HQ1 := Lib.hid q1
      clear q0 q1 q2 q3
      generalize (l[j]'(by rw [HN.out]; exact hjl)).kind = tk at *
      generalize (l[j]'(by rw [HN.out]; exact hjl)).text = tx at *
      have HOPJ := Lib.hid hop
      clear hop
      have hj0 : (0 : Int) ≤ (j : Int) := by omega
      have hjl2 : (j : Int) < (n : Int) := by omega
      by_cases h3 : tk = 3
      · subst h3
        rw [if_pos rfl] at HOPJ
        clear HOP
        have hopb := lxF_op tx
        have KO := Lib.hid (fun W => operators2_any tx W)
        generalize lxF tx = z at *
        obtain ⟨op, pr⟩ := z
        dsimp only at hopb KO HOPJ
        have HOPB := Lib.hid hopb
        clear hopb
        by_cases ho : pr = (P : Int)
        · subst ho
          go_wp2
          go_quiet (fail)
          obtain ⟨wa, hwd⟩ : ∃ W, World.drewN wr nq = W := ⟨_, rfl⟩
          rw [hwd]
          have hXd : Ext wr wa := by rw [← hwd]; exact Ext.drewN' (Below.refl _ _)
          replace HRD := Lib.hid ((hXd.below.block _ (lt_of_block HRD.out)).trans HRD.out)
          replace HBD := Lib.hid ((hXd.below.block _ (lt_of_block HBD.out)).trans HBD.out)
          replace HZD := Lib.hid ((hXd.below.block _ (lt_of_block HZD.out)).trans HZD.out)
          replace HAD := Lib.hid (HAD.out.ext hXd)
          replace HOD := Lib.hid (HOD.out.trans (Oth.of_ext hXd))
          replace HLD := Lib.hid (low_ext HLD.out hXd)
          replace HBL := Lib.hid (Nat.lt_of_lt_of_le HBL.out hXd.size)
          clear hwd hXd
          go_wp2_with fail
          have a0 : wa.cell? ⟨R, 0, none⟩ = some (.slice (some ⟨b, off, none⟩) n c) := cell_of HRD.out rfl
          have a1 : wa.cell? ⟨R, 1, none⟩ = some (.int .i64 (j : Int)) := cell_of HRD.out rfl
          have a2 := (HLD.out.cell (p := ⟨b, off + j * 4 + 1, none⟩) (cell_lt' HQ1.out)).trans HQ1.out
          have b0 := fun U : Up wa => Up.cell a0 U
          have b1 := fun U : Up wa => Up.cell a1 U
          have b2 := fun U : Up wa => Up.cell a2 U
          refine wp_region_up (by kernel_rfl) (by kernel_rfl) ?_
          repeat (go_big_quiet_step ((go_at_call 92; exact Up.call (KO.out _))))
          refine wpQuiet_nil ?_
          rintro w4 ⟨U, rfl⟩
          have hXb : Ext wa U.W := U.ext
          generalize U.W = wb at *
          clear a0 a1 a2 b0 b1 b2
          replace HRD := Lib.hid ((hXb.below.block _ (lt_of_block HRD.out)).trans HRD.out)
          replace HBD := Lib.hid ((hXb.below.block _ (lt_of_block HBD.out)).trans HBD.out)
          replace HZD := Lib.hid ((hXb.below.block _ (lt_of_block HZD.out)).trans HZD.out)
          replace HAD := Lib.hid (HAD.out.ext hXb)
          replace HOD := Lib.hid (HOD.out.trans (Oth.of_ext hXb))
          replace HLD := Lib.hid (low_ext HLD.out hXb)
          replace HBL := Lib.hid (Nat.lt_of_lt_of_le HBL.out hXb.size)
          clear hXb
          have a1 : wb.cell? ⟨R, 1, none⟩ = some (.int .i64 (j : Int)) := cell_of HRD.out rfl
          have af : ∀ i, wb.frozen? ⟨R, i, none⟩ = false := fun i => free_of HRD.out
          go_upto_region 8 with fail
          obtain ⟨w10, hw10⟩ : ∃ W, wb.setCell ⟨R, 1, none⟩ (.int .i64 ((j : Int) + 1)) = W := ⟨_, rfl⟩
          rw [hw10]
          have HR10 := Lib.hid (show w10.heap[R]? = some (rdO (some ⟨b, off, none⟩) n c (j + 1)) from by
            have h := ((Turn.refl HRD.out).setCell (i := 1) (.int .i64 ((j : Int) + 1))).here
            rw [hw10] at h
            rw [h]; simp)
          have hs : Oth R wb w10 := by rw [← hw10]; exact Oth.set R 1 _ wb
          have HO10 := Lib.hid (HOD.out.trans hs)
          have HB10 := Lib.hid ((hs.other _ (lt_of_block HBD.out) (Ne.symm HRB5.out)).trans HBD.out)
          have HZ10 := Lib.hid ((hs.other _ (lt_of_block HZD.out) (by have := HRl.out; omega)).trans HZD.out)
          have HA10 := Lib.hid (HAD.out.oth hs (fun b hb => by have := HRl.out; omega))
          have HL10 := Lib.hid (show Below w0.heap.size w0 w10 from Below.trans HB0.out (HO10.out.below HE.out.low HB0.out.size))
          replace HBL := Lib.hid (Nat.lt_of_lt_of_le HBL.out hs.size)
          have HL10D := Lib.hid (show Below w0.heap.size w0 { w10 with drawn := w10.drawn + 1 } from ⟨HL10.out.os, HL10.out.tape, HL10.out.output, HL10.out.size, HL10.out.block⟩)
          have HR10D := Lib.hid (show ({ w10 with drawn := w10.drawn + 1 } : World).heap[R]? = some (rdO (some ⟨b, off, none⟩) n c (j + 1)) from HR10.out)
          have HWR := Lib.hid (show IntKind.i64.wrap ((P : Int) + 1) = (P : Int) + 1 from wrapi (by omega) (by omega))
          have HY0 := Lib.hid (fun W (h : Oth R w10 W) => (show W.cell? ⟨B5, 0, none⟩ = some (.int .i64 k1) from cell_of ((h.other _ HBL.out (Ne.symm HRB5.out)).trans HB10.out) rfl))
          have HY1 := Lib.hid (fun W (h : Oth R w10 W) => (show W.cell? ⟨B5, 1, none⟩ = some (.int .i64 o1) from cell_of ((h.other _ HBL.out (Ne.symm HRB5.out)).trans HB10.out) rfl))
          have HY2 := Lib.hid (fun W (h : Oth R w10 W) => (show W.cell? ⟨B5, 2, none⟩ = some (sV n1) from cell_of ((h.other _ HBL.out (Ne.symm HRB5.out)).trans HB10.out) rfl))
          have HY3 := Lib.hid (fun W (h : Oth R w10 W) => (show W.cell? ⟨B5, 3, none⟩ = some (.int .i64 v1) from cell_of ((h.other _ HBL.out (Ne.symm HRB5.out)).trans HB10.out) rfl))
          have HY4 := Lib.hid (fun W (h : Oth R w10 W) => (show W.cell? ⟨B5, 4, none⟩ = some (.slice q m cc) from cell_of ((h.other _ HBL.out (Ne.symm HRB5.out)).trans HB10.out) rfl))
          clear hw10 hs
          have HGO := HL.out.loop_go (by rw [HOPJ.out])
          rw [HOPJ.out] at HGO
          dsimp only [if_true] at HGO
          rcases HGO with ⟨j2, hr, hR2⟩ | ⟨f, j2, hR2, hR3⟩
          · have HRES := Lib.hid hr
            have K2 := Lib.hid (fun W (hb : Below w0.heap.size w0 W) (hr : W.heap[R]? = some (rdO (some ⟨b, off, none⟩) n c (j + 1))) => (show Calls Tryz.prog 61 #[.pointer (some ⟨R, 0, none⟩), .int .i64 ((P : Int) + 1)] W (Got R (some ⟨b, off, none⟩) n c W (.bad j2)) from by
              have := IS.out (j + 1) (by have := HKJ.out; omega) (by rw [HN.out]; omega) W _ hb (by rw [HN.out]; exact hr) hR2
              rw [HN.out, show (((P + 1 : Nat) : Int)) = (P : Int) + 1 by omega] at this
              exact this))
            clear hr hR2
            refine wp_region_tails (l1 := [_, _, _, _, _, _, _, _]) (l2 := [_]) (by kernel_rfl) (OthE R (rdO (some ⟨b, off, none⟩) n c 0)) (OthE.refl R (rdO (some ⟨b, off, none⟩) n c 0)) (OthE.drawn R (rdO (some ⟨b, off, none⟩) n c 0)) OthE.trans
              (fun i s W => match i with
                | 0 => s 0 = .int .i64 op
                | 1 => s 1 = .agg #[.int .i64 k1, .int .i64 o1, sV n1, .int .i64 v1, .slice q m cc]
                | 2 => s 2 = .pointer (some ⟨R, 0, none⟩)
                | 3 => s 3 = .int .i64 (P : Int)
                | 4 => s 4 = .int .i64 ((P : Int) + 1)
                | 5 => False
                | 6 => False
                | 7 => False
                | _ => True)
              (fun i => i == 5 || i == 6 || i == 7) (fun i => [i])
              (by
                intro i s s' W W' h hs hE
                have hs := hs i (by simp)
                match i, h, hs with
                | 0, h, hs => exact hs.trans h
                | 1, h, hs => exact hs.trans h
                | 2, h, hs => exact hs.trans h
                | 3, h, hs => exact hs.trans h
                | 4, h, hs => exact hs.trans h
                | 5, h, hs => exact h
                | 6, h, hs => exact h
                | 7, h, hs => exact h
                | i + 8, h, hs => exact trivial)
              (by kernel_rfl) (by kernel_rfl) (by kernel_rfl) 76 rfl (by kernel_rfl) (by kernel_rfl) ?_ ?_
            · intro i op ho a' W hS
              have hA := hS.toAtG
              have hwr := HWR.out
              have x0 := HY0.out W (by first | exact hA.rel.1 | exact hA.rel)
              have x1 := HY1.out W (by first | exact hA.rel.1 | exact hA.rel)
              have x2 := HY2.out W (by first | exact hA.rel.1 | exact hA.rel)
              have x3 := HY3.out W (by first | exact hA.rel.1 | exact hA.rel)
              have x4 := HY4.out W (by first | exact hA.rel.1 | exact hA.rel)
              match i, ho with
              | 0, ho =>
                obtain rfl := Option.some.inj ho
                refine GoesS.still (OthE.refl R (rdO (some ⟨b, off, none⟩) n c 0) W) ?_
                have e1 : a'.eval (.tmp 6) = .int .i64 op := hA.keep 6 (by kernel_rfl)
                refine GoesG.value (.int .i64 op) rfl ?_ rfl (fun s h1 h2 => h1 rfl)
                simp only [execOp, e1]
                simp [go_sem, x0, x1, x2, x3, x4, hP5, hP1, hwr]
              | 1, ho =>
                obtain rfl := Option.some.inj ho
                refine GoesS.still (OthE.refl R (rdO (some ⟨b, off, none⟩) n c 0) W) ?_
                have e1 : a'.eval (.tmp 5) = .pointer (some ⟨B5, 0, none⟩) := hA.keep 5 (by kernel_rfl)
                refine GoesG.value (.agg #[.int .i64 k1, .int .i64 o1, sV n1, .int .i64 v1, .slice q m cc]) rfl ?_ rfl (fun s h1 h2 => h1 rfl)
                simp only [execOp, e1]
                simp [go_sem, x0, x1, x2, x3, x4, hP5, hP1, hwr]
              | 2, ho =>
                obtain rfl := Option.some.inj ho
                refine GoesS.still (OthE.refl R (rdO (some ⟨b, off, none⟩) n c 0) W) ?_
                have e1 : a'.eval (.tmp 0) = .pointer (some ⟨R, 0, none⟩) := hA.keep 0 (by kernel_rfl)
                refine GoesG.value (.pointer (some ⟨R, 0, none⟩)) rfl ?_ rfl (fun s h1 h2 => h1 rfl)
                simp only [execOp, e1]
                simp [go_sem, x0, x1, x2, x3, x4, hP5, hP1, hwr]
              | 3, ho =>
                obtain rfl := Option.some.inj ho
                refine GoesS.still (OthE.refl R (rdO (some ⟨b, off, none⟩) n c 0) W) ?_
                have e1 : a'.eval (.tmp 1) = .int .i64 (P : Int) := hA.keep 1 (by kernel_rfl)
                refine GoesG.value (.int .i64 (P : Int)) rfl ?_ rfl (fun s h1 h2 => h1 rfl)
                simp only [execOp, e1]
                simp [go_sem, x0, x1, x2, x3, x4, hP5, hP1, hwr]
              | 4, ho =>
                obtain rfl := Option.some.inj ho
                refine GoesS.still (OthE.refl R (rdO (some ⟨b, off, none⟩) n c 0) W) ?_
                have e1 : a'.eval (.tmp 68) = .int .i64 (P : Int) := (sv_dst (l := _) rfl).symm.trans (hA.new 3 (by decide) (by kernel_rfl))
                refine GoesG.value (.int .i64 ((P : Int) + 1)) rfl ?_ rfl (fun s h1 h2 => h1 rfl)
                simp only [execOp, e1]
                simp [go_sem, x0, x1, x2, x3, x4, hP5, hP1, hwr]
              | 5, ho =>
                obtain rfl := Option.some.inj ho
                have e1 : a'.eval (.tmp 67) = .pointer (some ⟨R, 0, none⟩) := (sv_dst (l := _) rfl).symm.trans (hA.new 2 (by decide) (by kernel_rfl))
                have e2 : a'.eval (.tmp 69) = .int .i64 ((P : Int) + 1) := (sv_dst (l := _) rfl).symm.trans (hA.new 4 (by decide) (by kernel_rfl))
                have hW := hS.same (by decide)
                subst hW
                refine GoesS.of (by decide) (GoesG.dies (chain := [{ v := .iface tWr (.int .i64 (j2 : Int)), recovered := false }]) 61 #[.pointer (some ⟨R, 0, none⟩), .int .i64 ((P : Int) + 1)] rfl ?_ ((K2.out _ HL10D.out HR10D.out).mono ?_))
                · simp [execOp, resolve, invoke, Deferred.ofValue, e1, e2]
                  rfl
                · rintro _ W2 ⟨rfl, hO⟩
                  exact ⟨rfl, hA.defers, by rw [HRES.out]; exact ⟨rfl, HO10.out.trans ((Oth.drawn _ _).trans hO)⟩⟩
              | 6, ho =>
                obtain rfl := Option.some.inj ho
                exact absurd (hA.new 5 (by decide) (by kernel_rfl)) (by intro h; exact h)
              | 7, ho =>
                obtain rfl := Option.some.inj ho
                exact absurd (hA.new 5 (by decide) (by kernel_rfl)) (by intro h; exact h)
              | i + 8, ho => cases ho
            · intro vs w11 hvs hG hΦ
              obtain ⟨z0, z1, z2, z3, z4, z5, z6, z7, rfl⟩ : ∃ z0 z1 z2 z3 z4 z5 z6 z7, vs = z0 :: z1 :: z2 :: z3 :: z4 :: z5 :: z6 :: z7 :: [] := by
                match vs, hvs with
                | z0 :: z1 :: z2 :: z3 :: z4 :: z5 :: z6 :: z7 :: [], _ => exact ⟨z0, z1, z2, z3, z4, z5, z6, z7, rfl⟩
              have e0 : z0 = .int .i64 op := hΦ 0 (by decide)
              subst e0
              have e1 : z1 = .agg #[.int .i64 k1, .int .i64 o1, sV n1, .int .i64 v1, .slice q m cc] := hΦ 1 (by decide)
              subst e1
              have e2 : z2 = .pointer (some ⟨R, 0, none⟩) := hΦ 2 (by decide)
              subst e2
              have e3 : z3 = .int .i64 (P : Int) := hΦ 3 (by decide)
              subst e3
              have e4 : z4 = .int .i64 ((P : Int) + 1) := hΦ 4 (by decide)
              subst e4
              have p5 : False := hΦ 5 (by decide)
              have p6 : False := hΦ 6 (by decide)
              have p7 : False := hΦ 7 (by decide)
              clear hΦ hvs
              simp only [putAll, Act.put, List.setIfInBounds_toArray, List.set_cons_succ, List.set_cons_zero]
              exact absurd p7 (by intro h; exact h)
          · have HR3 := Lib.hid hR3
            have hbd := hR2.bound (by simp only [Md.lvl]; omega) (by rw [HN.out]; omega)
            have hbd2 := hbd.2.2 rfl (fun _ _ => by simp)
            simp only [Res.end_] at hbd hbd2
            rw [HN.out] at hbd
            have HJ2 := Lib.hid (show j + 1 < j2 ∧ j2 ≤ n from ⟨hbd2, hbd.2.1⟩)
            have K2 := Lib.hid (fun W (hb : Below w0.heap.size w0 W) (hr : W.heap[R]? = some (rdO (some ⟨b, off, none⟩) n c (j + 1))) => (show Calls Tryz.prog 61 #[.pointer (some ⟨R, 0, none⟩), .int .i64 ((P : Int) + 1)] W (Got R (some ⟨b, off, none⟩) n c W (.ok f j2)) from by
              have := IS.out (j + 1) (by have := HKJ.out; omega) (by rw [HN.out]; omega) W _ hb (by rw [HN.out]; exact hr) hR2
              rw [HN.out, show (((P + 1 : Nat) : Int)) = (P : Int) + 1 by omega] at this
              exact this))
            clear hR2 hR3 hbd hbd2
            refine wp_region_tails (l1 := [_, _, _, _, _, _, _, _]) (l2 := [_]) (by kernel_rfl) (OthE R (rdO (some ⟨b, off, none⟩) n c j2)) (OthE.refl R (rdO (some ⟨b, off, none⟩) n c j2)) (OthE.drawn R (rdO (some ⟨b, off, none⟩) n c j2)) OthE.trans
              (fun i s W => match i with
                | 0 => s 0 = .int .i64 op
                | 1 => s 1 = .agg #[.int .i64 k1, .int .i64 o1, sV n1, .int .i64 v1, .slice q m cc]
                | 2 => s 2 = .pointer (some ⟨R, 0, none⟩)
                | 3 => s 3 = .int .i64 (P : Int)
                | 4 => s 4 = .int .i64 ((P : Int) + 1)
                | 5 => ∃ q2 c2, s 5 = f.val q2 c2 ∧ AtB (fun b => w.heap.size < b ∧ b ≠ B5) W q2 f ∧ W.heap[R]? = some (rdO (some ⟨b, off, none⟩) n c j2)
                | 6 => ∃ g q2 c2, s 6 = .slice (some ⟨g, 0, none⟩) 2 2 ∧ (w.heap.size < g ∧ g ≠ B5) ∧ W.heap[g]? = some (.cells #[.int .i64 k1, .int .i64 o1, sV n1, .int .i64 v1, .slice q m cc, .int .i64 f.kind, .int .i64 f.op, sV f.name, .int .i64 f.value, .slice q2 f.args.length c2] tEx (0, 0)) ∧ AtB (fun b => w.heap.size < b ∧ b ≠ B5) W q2 f ∧ W.heap[R]? = some (rdO (some ⟨b, off, none⟩) n c j2)
                | 7 => ∃ g q2 c2, s 7 = .agg #[.int .i64 4, .int .i64 op, .string { data := #[] }, .int .i64 0, .slice (some ⟨g, 0, none⟩) 2 2] ∧ (w.heap.size < g ∧ g ≠ B5) ∧ W.heap[g]? = some (.cells #[.int .i64 k1, .int .i64 o1, sV n1, .int .i64 v1, .slice q m cc, .int .i64 f.kind, .int .i64 f.op, sV f.name, .int .i64 f.value, .slice q2 f.args.length c2] tEx (0, 0)) ∧ AtB (fun b => w.heap.size < b ∧ b ≠ B5) W q2 f ∧ W.heap[R]? = some (rdO (some ⟨b, off, none⟩) n c j2)
                | _ => True)
              (fun i => i == 5 || i == 6 || i == 7) (fun i => [i])
              (by
                intro i s s' W W' h hs hE
                have hs := hs i (by simp)
                match i, h, hs with
                | 0, h, hs => exact hs.trans h
                | 1, h, hs => exact hs.trans h
                | 2, h, hs => exact hs.trans h
                | 3, h, hs => exact hs.trans h
                | 4, h, hs => exact hs.trans h
                | 5, ⟨q2, c2, h1, h2, h3⟩, hs => exact ⟨q2, c2, hs.trans h1, h2.oth hE.1 (fun b hb => by have := HRl.out; omega), hE.2 h3⟩
                | 6, ⟨g, q2, c2, h1, h2, h3, h4, h5⟩, hs => exact ⟨g, q2, c2, hs.trans h1, h2, (hE.1.other _ (lt_of_block h3) (by have := HRl.out; omega)).trans h3, h4.oth hE.1 (fun b hb => by have := HRl.out; omega), hE.2 h5⟩
                | 7, ⟨g, q2, c2, h1, h2, h3, h4, h5⟩, hs => exact ⟨g, q2, c2, hs.trans h1, h2, (hE.1.other _ (lt_of_block h3) (by have := HRl.out; omega)).trans h3, h4.oth hE.1 (fun b hb => by have := HRl.out; omega), hE.2 h5⟩
                | i + 8, h, hs => exact trivial)
              (by kernel_rfl) (by kernel_rfl) (by kernel_rfl) 76 rfl (by kernel_rfl) (by kernel_rfl) ?_ ?_
            · intro i op ho a' W hS
              have hA := hS.toAtG
              have hwr := HWR.out
              have x0 := HY0.out W (by first | exact hA.rel.1 | exact hA.rel)
              have x1 := HY1.out W (by first | exact hA.rel.1 | exact hA.rel)
              have x2 := HY2.out W (by first | exact hA.rel.1 | exact hA.rel)
              have x3 := HY3.out W (by first | exact hA.rel.1 | exact hA.rel)
              have x4 := HY4.out W (by first | exact hA.rel.1 | exact hA.rel)
              match i, ho with
              | 0, ho =>
                obtain rfl := Option.some.inj ho
                refine GoesS.still (OthE.refl R (rdO (some ⟨b, off, none⟩) n c j2) W) ?_
                have e1 : a'.eval (.tmp 6) = .int .i64 op := hA.keep 6 (by kernel_rfl)
                refine GoesG.value (.int .i64 op) rfl ?_ rfl (fun s h1 h2 => h1 rfl)
                simp only [execOp, e1]
                simp [go_sem, x0, x1, x2, x3, x4, hP5, hP1, hwr]
              | 1, ho =>
                obtain rfl := Option.some.inj ho
                refine GoesS.still (OthE.refl R (rdO (some ⟨b, off, none⟩) n c j2) W) ?_
                have e1 : a'.eval (.tmp 5) = .pointer (some ⟨B5, 0, none⟩) := hA.keep 5 (by kernel_rfl)
                refine GoesG.value (.agg #[.int .i64 k1, .int .i64 o1, sV n1, .int .i64 v1, .slice q m cc]) rfl ?_ rfl (fun s h1 h2 => h1 rfl)
                simp only [execOp, e1]
                simp [go_sem, x0, x1, x2, x3, x4, hP5, hP1, hwr]
              | 2, ho =>
                obtain rfl := Option.some.inj ho
                refine GoesS.still (OthE.refl R (rdO (some ⟨b, off, none⟩) n c j2) W) ?_
                have e1 : a'.eval (.tmp 0) = .pointer (some ⟨R, 0, none⟩) := hA.keep 0 (by kernel_rfl)
                refine GoesG.value (.pointer (some ⟨R, 0, none⟩)) rfl ?_ rfl (fun s h1 h2 => h1 rfl)
                simp only [execOp, e1]
                simp [go_sem, x0, x1, x2, x3, x4, hP5, hP1, hwr]
              | 3, ho =>
                obtain rfl := Option.some.inj ho
                refine GoesS.still (OthE.refl R (rdO (some ⟨b, off, none⟩) n c j2) W) ?_
                have e1 : a'.eval (.tmp 1) = .int .i64 (P : Int) := hA.keep 1 (by kernel_rfl)
                refine GoesG.value (.int .i64 (P : Int)) rfl ?_ rfl (fun s h1 h2 => h1 rfl)
                simp only [execOp, e1]
                simp [go_sem, x0, x1, x2, x3, x4, hP5, hP1, hwr]
              | 4, ho =>
                obtain rfl := Option.some.inj ho
                refine GoesS.still (OthE.refl R (rdO (some ⟨b, off, none⟩) n c j2) W) ?_
                have e1 : a'.eval (.tmp 68) = .int .i64 (P : Int) := (sv_dst (l := _) rfl).symm.trans (hA.new 3 (by decide) (by kernel_rfl))
                refine GoesG.value (.int .i64 ((P : Int) + 1)) rfl ?_ rfl (fun s h1 h2 => h1 rfl)
                simp only [execOp, e1]
                simp [go_sem, x0, x1, x2, x3, x4, hP5, hP1, hwr]
              | 5, ho =>
                obtain rfl := Option.some.inj ho
                have e1 : a'.eval (.tmp 67) = .pointer (some ⟨R, 0, none⟩) := (sv_dst (l := _) rfl).symm.trans (hA.new 2 (by decide) (by kernel_rfl))
                have e2 : a'.eval (.tmp 69) = .int .i64 ((P : Int) + 1) := (sv_dst (l := _) rfl).symm.trans (hA.new 4 (by decide) (by kernel_rfl))
                have hW := hS.same (by decide)
                subst hW
                refine GoesS.of (by decide) (GoesG.call 61 #[.pointer (some ⟨R, 0, none⟩), .int .i64 ((P : Int) + 1)] rfl ?_ ((K2.out _ HL10D.out HR10D.out).mono ?_))
                · simp [execOp, resolve, invoke, Deferred.ofValue, e1, e2]
                  rfl
                · rintro _ W2 ⟨q2, c2, rfl, hA2, hO, hr2⟩
                  dsimp only
                  exact ⟨_, rfl, ⟨hO, fun _ => hr2⟩, fun s h1 h2 => ⟨q2, c2, h1 rfl, hA2.imp (fun b hb _ => ⟨by have := HB5l.out; have := HBL.out; have hh : w10.heap.size ≤ b := hb; omega, by have := HBL.out; have hh : w10.heap.size ≤ b := hb; omega⟩), hr2⟩⟩
              | 6, ho =>
                obtain rfl := Option.some.inj ho
                have e1 : a'.eval (.tmp 66) = .agg #[.int .i64 k1, .int .i64 o1, sV n1, .int .i64 v1, .slice q m cc] := (sv_dst (l := _) rfl).symm.trans (hA.new 1 (by decide) (by kernel_rfl))
                obtain ⟨q2, c2, h50, h51, h52⟩ := hA.new 5 (by decide) (by kernel_rfl)
                have e2 : a'.eval (.tmp 70) = f.val q2 c2 := (sv_dst (l := _) rfl).symm.trans h50
                have hGS : w10.heap.size ≤ W.heap.size := hA.rel.1.size
                refine GoesS.of (by decide) (GoesG.value (.slice (some ⟨W.heap.size, 0, none⟩) 2 2) (W' := W.alloc (.cells #[.int .i64 k1, .int .i64 o1, sV n1, .int .i64 v1, .slice q m cc, .int .i64 f.kind, .int .i64 f.op, sV f.name, .int .i64 f.value, .slice q2 f.args.length c2] tEx (0, 0))) rfl ?_ (OthE.of_ext (ext_alloc _ _)) (fun s h1 h2 => ⟨W.heap.size, q2, c2, h1 rfl, ⟨by have := HB5l.out; have := HBL.out; omega, by have := HBL.out; omega⟩, alloc_here _ _, h51.ext (ext_alloc _ _), ((ext_alloc _ _).below.block _ (lt_of_block h52)).trans h52⟩))
                simp only [execOp]
                have f1 : a'.tmps[66]?.getD undef = .agg #[.int .i64 k1, .int .i64 o1, sV n1, .int .i64 v1, .slice q m cc] := by simpa [go_sem] using e1
                have f2 : a'.tmps[70]?.getD undef = f.val q2 c2 := by simpa [go_sem] using e2
                simp [go_sem, e1, e2, f1, f2, Ex.val]
              | 7, ho =>
                obtain rfl := Option.some.inj ho
                have e1 : a'.eval (.tmp 65) = .int .i64 op := (sv_dst (l := _) rfl).symm.trans (hA.new 0 (by decide) (by kernel_rfl))
                obtain ⟨g, q2, c2, h60, h61, h62, h63, h64⟩ := hA.new 6 (by decide) (by kernel_rfl)
                have e2 : a'.eval (.tmp 71) = .slice (some ⟨g, 0, none⟩) 2 2 := (sv_dst (l := _) rfl).symm.trans h60
                refine GoesS.of (by decide) (GoesG.value (.agg #[.int .i64 4, .int .i64 op, .string { data := #[] }, .int .i64 0, .slice (some ⟨g, 0, none⟩) 2 2]) rfl ?_ (OthE.refl _ _ _) (fun s h1 h2 => ⟨g, q2, c2, h1 rfl, h61, h62, h63, h64⟩))
                have f1 : a'.tmps[65]?.getD undef = .int .i64 op := by simpa [go_sem] using e1
                have f2 : a'.tmps[71]?.getD undef = .slice (some ⟨g, 0, none⟩) 2 2 := by simpa [go_sem] using e2
                simp only [execOp]
                simp [go_sem, e1, e2, f1, f2]
              | i + 8, ho => cases ho
            · intro vs w11 hvs hG hΦ
              obtain ⟨z0, z1, z2, z3, z4, z5, z6, z7, rfl⟩ : ∃ z0 z1 z2 z3 z4 z5 z6 z7, vs = z0 :: z1 :: z2 :: z3 :: z4 :: z5 :: z6 :: z7 :: [] := by
                match vs, hvs with
                | z0 :: z1 :: z2 :: z3 :: z4 :: z5 :: z6 :: z7 :: [], _ => exact ⟨z0, z1, z2, z3, z4, z5, z6, z7, rfl⟩
              have e0 : z0 = .int .i64 op := hΦ 0 (by decide)
              subst e0
              have e1 : z1 = .agg #[.int .i64 k1, .int .i64 o1, sV n1, .int .i64 v1, .slice q m cc] := hΦ 1 (by decide)
              subst e1
              have e2 : z2 = .pointer (some ⟨R, 0, none⟩) := hΦ 2 (by decide)
              subst e2
              have e3 : z3 = .int .i64 (P : Int) := hΦ 3 (by decide)
              subst e3
              have e4 : z4 = .int .i64 ((P : Int) + 1) := hΦ 4 (by decide)
              subst e4
              have p5 : ∃ q2 c2, z5 = f.val q2 c2 ∧ AtB (fun b => w.heap.size < b ∧ b ≠ B5) w11 q2 f ∧ w11.heap[R]? = some (rdO (some ⟨b, off, none⟩) n c j2) := hΦ 5 (by decide)
              have p6 : ∃ g q2 c2, z6 = .slice (some ⟨g, 0, none⟩) 2 2 ∧ (w.heap.size < g ∧ g ≠ B5) ∧ w11.heap[g]? = some (.cells #[.int .i64 k1, .int .i64 o1, sV n1, .int .i64 v1, .slice q m cc, .int .i64 f.kind, .int .i64 f.op, sV f.name, .int .i64 f.value, .slice q2 f.args.length c2] tEx (0, 0)) ∧ AtB (fun b => w.heap.size < b ∧ b ≠ B5) w11 q2 f ∧ w11.heap[R]? = some (rdO (some ⟨b, off, none⟩) n c j2) := hΦ 6 (by decide)
              have p7 : ∃ g q2 c2, z7 = .agg #[.int .i64 4, .int .i64 op, .string { data := #[] }, .int .i64 0, .slice (some ⟨g, 0, none⟩) 2 2] ∧ (w.heap.size < g ∧ g ≠ B5) ∧ w11.heap[g]? = some (.cells #[.int .i64 k1, .int .i64 o1, sV n1, .int .i64 v1, .slice q m cc, .int .i64 f.kind, .int .i64 f.op, sV f.name, .int .i64 f.value, .slice q2 f.args.length c2] tEx (0, 0)) ∧ AtB (fun b => w.heap.size < b ∧ b ≠ B5) w11 q2 f ∧ w11.heap[R]? = some (rdO (some ⟨b, off, none⟩) n c j2) := hΦ 7 (by decide)
              clear hΦ hvs
              simp only [putAll, Act.put, List.setIfInBounds_toArray, List.set_cons_succ, List.set_cons_zero]
              obtain ⟨g, q2, c2, rfl, hg1, hg2, hA2, hr2⟩ := p7
              have HG := Lib.hid hG.1
              have HG1 := Lib.hid hg1
              have HG2 := Lib.hid hg2
              have HA2 := Lib.hid hA2
              have HR2 := Lib.hid hr2
              have hb11 := (HG.out.other _ (lt_of_block HB10.out) (Ne.symm HRB5.out)).trans HB10.out
              have HB11 := Lib.hid hb11
              have y0 := cell_of (i := 0) hb11 rfl
              have y1 := cell_of (i := 1) hb11 rfl
              have y2 := cell_of (i := 2) hb11 rfl
              have y3 := cell_of (i := 3) hb11 rfl
              have y4 := cell_of (i := 4) hb11 rfl
              have yf : ∀ i, w11.frozen? ⟨B5, i, none⟩ = false := fun i => free_of hb11
              clear hG hg1 hg2 hA2 hr2 hb11
              go_upto_region 9 with fail
              obtain ⟨w12, hw12, h3, h4, h5⟩ := put5n HB11.out rfl (.int .i64 4) (.int .i64 op) (.string { data := #[] }) (.int .i64 0) (.slice (some ⟨g, 0, none⟩) 2 2)
              rw [hw12]
              have HBD := Lib.hid h3
              have HX12 := Lib.hid (show ∀ b, b ≠ B5 → w12.heap[b]? = w11.heap[b]? from h5)
              have HZD := Lib.hid ((h5 _ (by have := HB5l.out; omega)).trans ((HG.out.other _ (lt_of_block HZ10.out) (by have := HRl.out; omega)).trans HZ10.out))
              have HRD := Lib.hid ((h5 R HRB5.out).trans HR2.out)
              have HOD := Lib.hid ((HO10.out.trans HG.out).then (h4 _ (Nat.le_of_lt HB5l.out)))
              have HAD := Lib.hid (show AtB (fun b => w.heap.size < b ∧ b ≠ B5) w12 (some ⟨g, 0, none⟩) (binX op (.mk k1 o1 n1 v1 ts) f) from
                at_bin HOPB.out.1 HOPB.out.2 (by rw [h5 _ HG1.out.2, HG2.out, ← HM.out]; rfl) HG1.out ((HA10.out.oth HG.out (fun b hb => by have := HRl.out; omega)).keep (fun b hb hl => ⟨hb, h5 b hb.2⟩)) (HA2.out.keep (fun b hb hl => ⟨hb, h5 b hb.2⟩)))
              have HBL12 := Lib.hid (lt_of_block h3)
              clear hw12 h3 h4 h5 y0 y1 y2 y3 y4 yf
              by_cases hP3 : P = 3
              · subst hP3
                have HRES := Lib.hid (show r = .ok (binX op (.mk k1 o1 n1 v1 ts) f) j2 by
                  rcases HR3.out with ⟨_, h⟩ | ⟨h, _⟩
                  · exact h
                  · exact absurd rfl h)
                have hz := HZD.out
                have hb5 := HBD.out
                have z0 := cell_of (i := 0) hz rfl
                have z1 := cell_of (i := 1) hz rfl
                have z2 := cell_of (i := 2) hz rfl
                have z3 := cell_of (i := 3) hz rfl
                have z4 := cell_of (i := 4) hz rfl
                have zf : ∀ i, w12.frozen? ⟨w.heap.size, i, none⟩ = false := fun i => free_of hz
                have y0 := cell_of (i := 0) hb5 rfl
                have y1 := cell_of (i := 1) hb5 rfl
                have y2 := cell_of (i := 2) hb5 rfl
                have y3 := cell_of (i := 3) hb5 rfl
                have y4 := cell_of (i := 4) hb5 rfl
                clear hz hb5
                go_wp2
                obtain ⟨W', hW', h3, h4, h5⟩ := put5n HZD.out rfl (.int .i64 4) (.int .i64 op) (.string { data := #[] }) (.int .i64 0) (.slice (some ⟨g, 0, none⟩) 2 2)
                rw [hW']
                clear z0 z1 z2 z3 z4 zf y0 y1 y2 y3 y4
                have z0 := cell_of (i := 0) h3 rfl
                have z1 := cell_of (i := 1) h3 rfl
                have z2 := cell_of (i := 2) h3 rfl
                have z3 := cell_of (i := 3) h3 rfl
                have z4 := cell_of (i := 4) h3 rfl
                exact bodyPost_ret (v := .agg #[.int .i64 4, .int .i64 op, .string { data := #[] }, .int .i64 0, .slice (some ⟨g, 0, none⟩) 2 2]) (by simp [results, Tryz.f61, go_sem, z0, z1, z2, z3, z4]) rfl (by
                  rw [HRES.out]
                  exact ⟨some ⟨g, 0, none⟩, 2, by first | rfl | (rw [sB_nil]; rfl) | (rw [← HM.out]; rfl), HAD.out.keep (fun b hb hl => ⟨Nat.le_of_lt hb.1, h5 b (by have := hb.1; omega)⟩), HOD.out.then (h4 _ (Nat.le_refl _)), (h5 R (by have := HRl.out; omega)).trans HRD.out⟩)
              · have HL3 := Lib.hid (show Rd l (.loop P (binX op (.mk k1 o1 n1 v1 ts) f)) j2 r by
                  rcases HR3.out with ⟨h, _⟩ | ⟨_, h⟩
                  · exact absurd h hP3
                  · exact h)
                have hP3' : ((P : Int) == 3) = false := by rw [beq_eq_false_iff_ne]; omega
                have hP3'' : ¬ ((P : Int) = 3) := by omega
                clear hP3
                go_wp2
                go_roundg (n - j2)
                case rel => exact ⟨binX op (.mk k1 o1 n1 v1 ts) f, j2, some ⟨g, 0, none⟩, 2, by have := HJ2.out; omega, by have := HJ2.out; have := HKJ.out; omega, HL3.out, HOD.out, HRD.out, HBD.out, HZD.out, HBL12.out, HAD.out⟩
                case measure => have := HJ2.out; have := HNJ.out; omega
        · have ho' : (pr == (P : Int)) = false := by simpa using ho
          have ho2 : (pr != (P : Int)) = true := by simpa using ho
          have HRES := Lib.hid (HL.out.loop_fin (by rw [HOPJ.out]; exact ho))
          go_wp2
          go_quiet (fail)
          obtain ⟨wa, hwd⟩ : ∃ W, World.drewN wr nq = W := ⟨_, rfl⟩
          rw [hwd]
          have hXd : Ext wr wa := by rw [← hwd]; exact Ext.drewN' (Below.refl _ _)
          replace HRD := Lib.hid ((hXd.below.block _ (lt_of_block HRD.out)).trans HRD.out)
          replace HBD := Lib.hid ((hXd.below.block _ (lt_of_block HBD.out)).trans HBD.out)
          replace HZD := Lib.hid ((hXd.below.block _ (lt_of_block HZD.out)).trans HZD.out)
          replace HAD := Lib.hid (HAD.out.ext hXd)
          replace HOD := Lib.hid (HOD.out.trans (Oth.of_ext hXd))
          replace HLD := Lib.hid (low_ext HLD.out hXd)
          replace HBL := Lib.hid (Nat.lt_of_lt_of_le HBL.out hXd.size)
          clear hwd hXd
          go_wp2_with fail
          have a0 : wa.cell? ⟨R, 0, none⟩ = some (.slice (some ⟨b, off, none⟩) n c) := cell_of HRD.out rfl
          have a1 : wa.cell? ⟨R, 1, none⟩ = some (.int .i64 (j : Int)) := cell_of HRD.out rfl
          have a2 := (HLD.out.cell (p := ⟨b, off + j * 4 + 1, none⟩) (cell_lt' HQ1.out)).trans HQ1.out
          have b0 := fun U : Up wa => Up.cell a0 U
          have b1 := fun U : Up wa => Up.cell a1 U
          have b2 := fun U : Up wa => Up.cell a2 U
          refine wp_region_up (by kernel_rfl) (by kernel_rfl) ?_
          repeat (go_big_quiet_step ((go_at_call 92; exact Up.call (KO.out _))))
          refine wpQuiet_nil ?_
          rintro w4 ⟨U, rfl⟩
          have hXb : Ext wa U.W := U.ext
          generalize U.W = wb at *
          clear a0 a1 a2 b0 b1 b2
          replace HRD := Lib.hid ((hXb.below.block _ (lt_of_block HRD.out)).trans HRD.out)
          replace HBD := Lib.hid ((hXb.below.block _ (lt_of_block HBD.out)).trans HBD.out)
          replace HZD := Lib.hid ((hXb.below.block _ (lt_of_block HZD.out)).trans HZD.out)
          replace HAD := Lib.hid (HAD.out.ext hXb)
          replace HOD := Lib.hid (HOD.out.trans (Oth.of_ext hXb))
          replace HLD := Lib.hid (low_ext HLD.out hXb)
          replace HBL := Lib.hid (Nat.lt_of_lt_of_le HBL.out hXb.size)
          clear hXb
          have a1 : wb.cell? ⟨R, 1, none⟩ = some (.int .i64 (j : Int)) := cell_of HRD.out rfl
          have af : ∀ i, wb.frozen? ⟨R, i, none⟩ = false := fun i => free_of HRD.out
          have hz := HZD.out
          have hb5 := HBD.out
          have z0 := cell_of (i := 0) hz rfl
          have z1 := cell_of (i := 1) hz rfl
          have z2 := cell_of (i := 2) hz rfl
          have z3 := cell_of (i := 3) hz rfl
          have z4 := cell_of (i := 4) hz rfl
          have zf : ∀ i, wb.frozen? ⟨w.heap.size, i, none⟩ = false := fun i => free_of hz
          have y0 := cell_of (i := 0) hb5 rfl
          have y1 := cell_of (i := 1) hb5 rfl
          have y2 := cell_of (i := 2) hb5 rfl
          have y3 := cell_of (i := 3) hb5 rfl
          have y4 := cell_of (i := 4) hb5 rfl
          clear hz hb5
          go_wp2
          obtain ⟨W', hW', h3, h4, h5⟩ := put5n HZD.out rfl (.int .i64 k1) (.int .i64 o1) (sV n1) (.int .i64 v1) (.slice q m cc)
          rw [hW']
          clear z0 z1 z2 z3 z4 zf y0 y1 y2 y3 y4
          have z0 := cell_of (i := 0) h3 rfl
          have z1 := cell_of (i := 1) h3 rfl
          have z2 := cell_of (i := 2) h3 rfl
          have z3 := cell_of (i := 3) h3 rfl
          have z4 := cell_of (i := 4) h3 rfl
          exact bodyPost_ret (v := .agg #[.int .i64 k1, .int .i64 o1, sV n1, .int .i64 v1, .slice q m cc]) (by simp [results, Tryz.f61, go_sem, z0, z1, z2, z3, z4]) rfl (by
            rw [HRES.out]
            exact ⟨q, cc, by first | rfl | (rw [sB_nil]; rfl) | (rw [← HM.out]; rfl), HAD.out.keep (fun b hb hl => ⟨Nat.le_of_lt hb.1, h5 b (by have := hb.1; omega)⟩), HOD.out.then (h4 _ (Nat.le_refl _)), (h5 R (by have := HRl.out; omega)).trans HRD.out⟩)
      · have h3' : (tk == 3) = false := by simpa using h3
        have HRES := Lib.hid (HL.out.loop_fin (by rw [HOPJ.out, if_neg h3]; show (0 : Int) ≠ (P : Int); omega))
        go_wp2
        go_quiet (fail)
        obtain ⟨wa, hwd⟩ : ∃ W, World.drewN wr nq = W := ⟨_, rfl⟩
        rw [hwd]
        have hXd : Ext wr wa := by rw [← hwd]; exact Ext.drewN' (Below.refl _ _)
        replace HRD := Lib.hid ((hXd.below.block _ (lt_of_block HRD.out)).trans HRD.out)
        replace HBD := Lib.hid ((hXd.below.block _ (lt_of_block HBD.out)).trans HBD.out)
        replace HZD := Lib.hid ((hXd.below.block _ (lt_of_block HZD.out)).trans HZD.out)
        replace HAD := Lib.hid (HAD.out.ext hXd)
        replace HOD := Lib.hid (HOD.out.trans (Oth.of_ext hXd))
        replace HLD := Lib.hid (low_ext HLD.out hXd)
        replace HBL := Lib.hid (Nat.lt_of_lt_of_le HBL.out hXd.size)
        clear hwd hXd
        have hz := HZD.out
        have hb5 := HBD.out
        have z0 := cell_of (i := 0) hz rfl
        have z1 := cell_of (i := 1) hz rfl
        have z2 := cell_of (i := 2) hz rfl
        have z3 := cell_of (i := 3) hz rfl
        have z4 := cell_of (i := 4) hz rfl
        have zf : ∀ i, wa.frozen? ⟨w.heap.size, i, none⟩ = false := fun i => free_of hz
        have y0 := cell_of (i := 0) hb5 rfl
        have y1 := cell_of (i := 1) hb5 rfl
        have y2 := cell_of (i := 2) hb5 rfl
        have y3 := cell_of (i := 3) hb5 rfl
        have y4 := cell_of (i := 4) hb5 rfl
        clear hz hb5
        go_wp2
        obtain ⟨W', hW', h3, h4, h5⟩ := put5n HZD.out rfl (.int .i64 k1) (.int .i64 o1) (sV n1) (.int .i64 v1) (.slice q m cc)
        rw [hW']
        clear z0 z1 z2 z3 z4 zf y0 y1 y2 y3 y4
        have z0 := cell_of (i := 0) h3 rfl
        have z1 := cell_of (i := 1) h3 rfl
        have z2 := cell_of (i := 2) h3 rfl
        have z3 := cell_of (i := 3) h3 rfl
        have z4 := cell_of (i := 4) h3 rfl
        exact bodyPost_ret (v := .agg #[.int .i64 k1, .int .i64 o1, sV n1, .int .i64 v1, .slice q m cc]) (by simp [results, Tryz.f61, go_sem, z0, z1, z2, z3, z4]) rfl (by
          rw [HRES.out]
          exact ⟨q, cc, by first | rfl | (rw [sB_nil]; rfl) | (rw [← HM.out]; rfl), HAD.out.keep (fun b hb hl => ⟨Nat.le_of_lt hb.1, h5 b (by have := hb.1; omega)⟩), HOD.out.then (h4 _ (Nat.le_refl _)), (h5 R (by have := HRl.out; omega)).trans HRD.out⟩)
    · have HRES := Lib.hid (HL.out.loop_fin (by rw [HOPO.out j (by omega)]; show (0 : Int) ≠ (P : Int); omega))
      have hd : decide ((j : Int) < (n : Int)) = false := by simpa using hjl
      have hd2 : decide (j < n) = false := by simpa using hjl
      go_wp2
      go_quiet (fail)
      obtain ⟨wa, hwd⟩ : ∃ W, World.drewN wr nq = W := ⟨_, rfl⟩
      rw [hwd]
      have hXd : Ext wr wa := by rw [← hwd]; exact Ext.drewN' (Below.refl _ _)
      replace HRD := Lib.hid ((hXd.below.block _ (lt_of_block HRD.out)).trans HRD.out)
      replace HBD := Lib.hid ((hXd.below.block _ (lt_of_block HBD.out)).trans HBD.out)
      replace HZD := Lib.hid ((hXd.below.block _ (lt_of_block HZD.out)).trans HZD.out)
      replace HAD := Lib.hid (HAD.out.ext hXd)
      replace HOD := Lib.hid (HOD.out.trans (Oth.of_ext hXd))
      replace HLD := Lib.hid (low_ext HLD.out hXd)
      replace HBL := Lib.hid (Nat.lt_of_lt_of_le HBL.out hXd.size)
      clear hwd hXd
      have hz := HZD.out
      have hb5 := HBD.out
      have z0 := cell_of (i := 0) hz rfl
      have z1 := cell_of (i := 1) hz rfl
      have z2 := cell_of (i := 2) hz rfl
      have z3 := cell_of (i := 3) hz rfl
      have z4 := cell_of (i := 4) hz rfl
      have zf : ∀ i, wa.frozen? ⟨w.heap.size, i, none⟩ = false := fun i => free_of hz
      have y0 := cell_of (i := 0) hb5 rfl
      have y1 := cell_of (i := 1) hb5 rfl
      have y2 := cell_of (i := 2) hb5 rfl
      have y3 := cell_of (i := 3) hb5 rfl
      have y4 := cell_of (i := 4) hb5 rfl
      clear hz hb5
      go_wp2
      obtain ⟨W', hW', h3, h4, h5⟩ := put5n HZD.out rfl (.int .i64 k1) (.int .i64 o1) (sV n1) (.int .i64 v1) (.slice q m cc)
      rw [hW']
      clear z0 z1 z2 z3 z4 zf y0 y1 y2 y3 y4
      have z0 := cell_of (i := 0) h3 rfl
      have z1 := cell_of (i := 1) h3 rfl
      have z2 := cell_of (i := 2) h3 rfl
      have z3 := cell_of (i := 3) h3 rfl
      have z4 := cell_of (i := 4) h3 rfl
      exact bodyPost_ret (v := .agg #[.int .i64 k1, .int .i64 o1, sV n1, .int .i64 v1, .slice q m cc]) (by simp [results, Tryz.f61, go_sem, z0, z1, z2, z3, z4]) rfl (by
        rw [HRES.out]
        exact ⟨q, cc, by first | rfl | (rw [sB_nil]; rfl) | (rw [← HM.out]; rfl), HAD.out.keep (fun b hb hl => ⟨Nat.le_of_lt hb.1, h5 b (by have := hb.1; omega)⟩), HOD.out.then (h4 _ (Nat.le_refl _)), (h5 R (by have := HRl.out; omega)).trans HRD.out⟩)

end Go.Proofs.YtmokejjndkibhaaGreatDoor

namespace Go.Proofs.YtmokejjndkibhaaGreatDoor
open Go.RowKit Go.Shelf Ex
set_option linter.unusedVariables false
set_option linter.unusedSimpArgs false

theorem binary_step {w0 : World} {R : Nat} {p : Option Addr} {c : Nat} {l : List Tk} (hE : RdE w0 R p c l) (P : Nat) (hP : P ≤ 5) (hP0 : 1 ≤ P) (k : Nat) (hk : k ≤ l.length) (I1 : BiC w0 R p c l (P + 1) k) (IS : ∀ j, k < j → j ≤ l.length → BiC w0 R p c l (P + 1) j) : BiC w0 R p c l P k := by
  intro w r hb hrd hR
  cases hR with
  | six h _ => omega
  | binB _ h => exact binary_bad hE P hP hP0 k hk I1 _ h w hb hrd
  | bin _ h h1 => exact binary_ok hE P hP hP0 k hk I1 IS _ _ _ h h1 w hb hrd
theorem reading_any {w0 : World} {R : Nat} {p : Option Addr} {c : Nat} {l : List Tk} (hE : RdE w0 R p c l) : ∀ (m k : Nat), k ≤ l.length → l.length - k ≤ m → OpC w0 R p c l k ∧ ∀ P, 1 ≤ P → P ≤ 6 → BiC w0 R p c l P k := by
  intro m
  induction m using Nat.strongRecOn with
  | _ m ih =>
    intro k hk hm
    have next : ∀ j, k < j → j ≤ l.length → OpC w0 R p c l j ∧ ∀ P, 1 ≤ P → P ≤ 6 → BiC w0 R p c l P j := fun j hj hj2 => ih (l.length - j) (by omega) j hj2 (Nat.le_refl _)
    have ho : OpC w0 R p c l k := operand_step hE k hk (fun h => (next (k + 1) (by omega) (by omega)).1) (fun h => (next (k + 1) (by omega) (by omega)).2 1 (by omega) (by omega))
    have hb : ∀ n P, P + n = 6 → 1 ≤ P → BiC w0 R p c l P k := by
      intro n
      induction n with
      | zero =>
        intro P hP _
        obtain rfl : P = 6 := by omega
        exact binary_six hE k ho
      | succ n ihn => intro P hP h1; exact binary_step hE P (by omega) h1 k hk (ihn (P + 1) (by omega) (by omega)) (fun j hj hj2 => (next j hj hj2).2 (P + 1) (by omega) (by omega))
    exact ⟨ho, fun P h1 h6 => hb (6 - P) P (by omega) h1⟩

theorem read_idle (a b c : Addr) (w : World) :
    CallsD Tryz.prog 60 #[.pointer (some a), .pointer (some b), .pointer (some c)] .returning w fun e u' w' => e = .returned (.tuple #[]) ∧ u' = .returning ∧ w' = w := by
  refine callsD_of_wpS Tryz.func60 rfl fun c₀ cs hu => ?_
  apply wpS_seq
  apply wpS_region
  simp [wpOpsS, go_sem, recoverD, hu, Tryz.ntmps60, Exit.thenS]
  apply wpS_seq
  apply wpS_region
  simp [wpOpsS, go_sem, Exit.thenS]
  refine wpS_cond (t := false) (by simp [Act.eval, Array.replicate]) ?_
  simp only [Bool.false_eq_true, if_false]
  refine wpS_of_wp (wp_skip ?_)
  cases c₀
  simp_all [bodyPostS, results, Tryz.f60]
theorem read_panic (a b c : Nat) (k : Int) (w : World) (x0 x1 x2 x3 x4 y z : Value) (ha : w.heap[a]? = some (.cells #[x0, x1, x2, x3, x4] 25 (0, 0))) (hb : w.heap[b]? = some (.cells #[y] 3 (0, 0))) (hc : w.heap[c]? = some (.cells #[z] 26 (0, 0))) (hab : b ≠ a) (hac : c ≠ a) (hbc : c ≠ b) :
    CallsD Tryz.prog 60 #[.pointer (some ⟨a, 0, none⟩), .pointer (some ⟨b, 0, none⟩), .pointer (some ⟨c, 0, none⟩)] (.panicking ({ v := .iface tWr (.int .i64 k), recovered := false } :: [])) w fun e u' w' => e = .returned (.tuple #[]) ∧ u' = .panicking ({ v := .iface tWr (.int .i64 k), recovered := true } :: []) ∧
      w' = (((((((w.setCell ⟨a, 0, none⟩ (.int .i64 0)).setCell ⟨a, 1, none⟩ (.int .i64 0)).setCell ⟨a, 2, none⟩ (.string { data := #[] })).setCell ⟨a, 3, none⟩ (.int .i64 0)).setCell ⟨a, 4, none⟩ (.slice none 0 0)).setCell ⟨b, 0, none⟩ (.int .i64 k)).setCell ⟨c, 0, none⟩ (.int .i64 3)) := by
  refine callsD_of_wpS Tryz.func60 rfl fun c₀ cs hu => ?_
  apply wpS_seq
  apply wpS_region
  simp [wpOpsS, go_sem, recoverD, hu, Tryz.ntmps60, Exit.thenS]
  apply wpS_seq
  apply wpS_region
  simp [wpOpsS, go_sem, Exit.thenS]
  refine wpS_cond (t := true) (by simp [Act.eval, Array.replicate]) ?_
  simp only [if_true]
  have ta : ∀ w, (Instr.typeAssert (.iface tWr (.int .i64 k)) 20 tWr true).run Tryz.prog w = .ok (.tuple #[.int .i64 k, .bool true]) w := fun w => by kernel_rfl
  have a0 := cell_of (i := 0) ha rfl
  have a1 := cell_of (i := 1) ha rfl
  have a2 := cell_of (i := 2) ha rfl
  have a3 := cell_of (i := 3) ha rfl
  have a4 := cell_of (i := 4) ha rfl
  obtain ⟨p1, p2, p3⟩ := put5 ha rfl (.int .i64 0) (.int .i64 0) (.string { data := #[] }) (.int .i64 0) (.slice none 0 0)
  have hb2 := (p3 b hab).trans hb
  have hc2 := (p3 c hac).trans hc
  have hc3 := (Below.heap_setCell _ ⟨b, 0, none⟩ (.int .i64 k) _ hbc).trans hc2
  have b0 := cell_of (i := 0) hb2 rfl
  have c0 := cell_of (i := 0) hc3 rfl
  have fb := free_of (i := 0) hb2
  have fc := free_of (i := 0) hc3
  have fa : ∀ i, w.frozen? ⟨a, i, none⟩ = false := fun i => free_of ha
  apply wpS_seq
  apply wpS_region
  simp [wpOpsS, go_sem, ta, Exit.thenS]
  apply wpS_seq
  apply wpS_seq
  apply wpS_region
  simp [wpOpsS, go_sem, Exit.thenS]
  refine wpS_cond (t := false) (by simp [Act.eval, Array.replicate]) ?_
  simp only [Bool.false_eq_true, if_false]
  refine wpS_of_wp (wp_skip ?_)
  simp only [Exit.thenS]
  apply wpS_region
  simp [wpOpsS, go_sem, Array.replicate, a0, a1, a2, a3, a4, b0, c0, fa, fb, fc, bodyPostS, results, Tryz.f60]
end Go.Proofs.YtmokejjndkibhaaGreatDoor

namespace Go.Proofs.YtmokejjndkibhaaGreatDoor
open Go.RowKit Go.Shelf Ex
set_option linter.unusedVariables false
set_option linter.unusedSimpArgs false

/-- what read gives -/
def RdRes (w : World) (r : Res) (e : Ending) (w' : World) : Prop := match r with
  | .ok x k => ∃ q cc, e = .returned (.tuple #[x.val q cc, .int .i64 (k : Int), .int .i64 0]) ∧ AtB (w.heap.size ≤ ·) w' q x ∧ Ext w w'
  | .bad k => e = .returned (.tuple #[exZ.val none 0, .int .i64 (k : Int), .int .i64 3]) ∧ Ext w w'
abbrev rd0 : Obj := .cells #[.int .i64 0, .int .i64 0, .string { data := #[] }, .int .i64 0, .slice none 0 0] 25
abbrev rd1 : Obj := .cells #[.int .i64 0] 3
abbrev rd2 : Obj := .cells #[.int .i64 0] 26
set_option maxRecDepth 100000 in
set_option maxHeartbeats 4000000 in
theorem read_any (l : List Tk) (p : Option Addr) (c : Nat) (w : World) (hT : TkRow w p l) (hl : l.length ≤ 10000) (hc : l.length ≤ c) (htx : ∀ t ∈ l, t.text.length ≤ 140737488351232) (hTab : TabW w) (hM : MaxL w) (r : Res) (hR : Rd l (.bin 1) 0 r) :
    Calls Tryz.prog 34 #[.slice p l.length c] w (RdRes w r) := by
  have hmf : ∀ (fn : Fn) (first cap : Array Value) (w : World), (Instr.makeFunc fn first cap).run Tryz.prog w = .ok (.func fn first cap) w := fun _ _ _ _ => rfl
  have HX3 := Lib.hid (show Ext w (((w.alloc rd0).alloc rd1).alloc rd2) from (((Below.refl _ w).alloc (Nat.le_refl _) _).alloc (by simp) _).alloc (by simp; omega) _)
  have HX4 := Lib.hid (ext_alloc (((w.alloc rd0).alloc rd1).alloc rd2) (rdO p l.length c 0))
  have HS3 := Lib.hid (show (((w.alloc rd0).alloc rd1).alloc rd2).heap.size = w.heap.size + 3 by simp)
  have HR4 := Lib.hid (show ((((w.alloc rd0).alloc rd1).alloc rd2).alloc (rdO p l.length c 0)).heap[w.heap.size + 3]? = some (rdO p l.length c 0) from by
    have := alloc_here (((w.alloc rd0).alloc rd1).alloc rd2) (rdO p l.length c 0)
    rw [HS3.out] at this; exact this)
  have HZ0 := Lib.hid (show ((((w.alloc rd0).alloc rd1).alloc rd2).alloc (rdO p l.length c 0)).heap[w.heap.size]? = some rd0 from by
    rw [Below.heap_alloc _ _ _ (by rw [World.size_alloc, World.size_alloc, World.size_alloc]; omega), Below.heap_alloc _ _ _ (by rw [World.size_alloc, World.size_alloc]; omega), Below.heap_alloc _ _ _ (by rw [World.size_alloc]; omega)]; exact alloc_here _ _)
  have HZ1 := Lib.hid (show ((((w.alloc rd0).alloc rd1).alloc rd2).alloc (rdO p l.length c 0)).heap[w.heap.size + 1]? = some rd1 from by
    rw [Below.heap_alloc _ _ _ (by rw [World.size_alloc, World.size_alloc, World.size_alloc]; omega), Below.heap_alloc _ _ _ (by rw [World.size_alloc, World.size_alloc]; omega)]
    have := alloc_here (w.alloc rd0) rd1
    rw [World.size_alloc] at this; exact this)
  have HZ2 := Lib.hid (show ((((w.alloc rd0).alloc rd1).alloc rd2).alloc (rdO p l.length c 0)).heap[w.heap.size + 2]? = some rd2 from by
    rw [Below.heap_alloc _ _ _ (by rw [World.size_alloc, World.size_alloc, World.size_alloc]; omega)]
    have := alloc_here ((w.alloc rd0).alloc rd1) rd2
    rw [World.size_alloc, World.size_alloc] at this; exact this)
  have hE : RdE (((w.alloc rd0).alloc rd1).alloc rd2) (w.heap.size + 3) p c l := ⟨hT.ext HX3.out, hTab.below HX3.out, hM.ext HX3.out, by rw [HS3.out]; exact Nat.le_refl _, hl, hc, htx⟩
  have KC := Lib.hid ((reading_any hE l.length 0 (Nat.zero_le _) (by omega)).2 1 (by omega) (by omega) _ r HX4.out HR4.out hR)
  clear hE hT hTab hM htx hR
  cases r with
  | bad k =>
    go_enter_defers Tryz.func34, Tryz.ntmps34
    go_wp2_with fail
    refine (show Calls _ _ _ _ _ from KC.out).mono ?_
    rintro _ w5 ⟨rfl, hO⟩
    dsimp only
    have hz0 := (hO.other _ (lt_of_block HZ0.out) (by omega)).trans HZ0.out
    have hz1 := (hO.other _ (lt_of_block HZ1.out) (by omega)).trans HZ1.out
    have hz2 := (hO.other _ (lt_of_block HZ2.out) (by omega)).trans HZ2.out
    refine leaves_cons (f := 60) (args := #[.pointer (some ⟨w.heap.size, 0, none⟩), .pointer (some ⟨w.heap.size + 1, 0, none⟩), .pointer (some ⟨w.heap.size + 1 + 1, 0, none⟩)]) (by simp) (by simp [go_sem]) ?_
    refine (read_panic w.heap.size (w.heap.size + 1) (w.heap.size + 1 + 1) (k : Int) w5 _ _ _ _ _ _ _ hz0 hz1 hz2 (by omega) (by omega) (by omega)).mono ?_
    rintro e u' w'' ⟨rfl, rfl, rfl⟩
    obtain ⟨W', hW', h3, h4, h5⟩ := put5n hz0 rfl (.int .i64 0) (.int .i64 0) (.string { data := #[] }) (.int .i64 0) (.slice none 0 0)
    rw [hW']
    have hc1 : ((W'.setCell ⟨w.heap.size + 1, 0, none⟩ (.int .i64 (k : Int))).setCell ⟨w.heap.size + 1 + 1, 0, none⟩ (.int .i64 3)).heap[w.heap.size + 1]? = some (.cells #[.int .i64 (k : Int)] 3 (0, 0)) := by
      rw [Below.heap_setCell _ _ _ _ (by show w.heap.size + 1 ≠ w.heap.size + 1 + 1; omega)]
      have := ((Turn.refl ((h5 _ (by omega)).trans hz1)).setCell (i := 0) (.int .i64 (k : Int))).here
      rw [this]; rfl
    have hc2 : ((W'.setCell ⟨w.heap.size + 1, 0, none⟩ (.int .i64 (k : Int))).setCell ⟨w.heap.size + 1 + 1, 0, none⟩ (.int .i64 3)).heap[w.heap.size + 1 + 1]? = some (.cells #[.int .i64 3] 26 (0, 0)) := by
      have := ((Turn.refl (((Below.heap_setCell W' ⟨w.heap.size + 1, 0, none⟩ (.int .i64 (k : Int)) _ (by show w.heap.size + 1 + 1 ≠ w.heap.size + 1; omega)).trans ((h5 (w.heap.size + 1 + 1) (by omega)).trans hz2)))).setCell (i := 0) (.int .i64 3)).here
      rw [this]; rfl
    have hc0 : ((W'.setCell ⟨w.heap.size + 1, 0, none⟩ (.int .i64 (k : Int))).setCell ⟨w.heap.size + 1 + 1, 0, none⟩ (.int .i64 3)).heap[w.heap.size]? = some (.cells #[.int .i64 0, .int .i64 0, .string { data := #[] }, .int .i64 0, .slice none 0 0] 25 (0, 0)) := by
      rw [Below.heap_setCell _ _ _ _ (by show w.heap.size ≠ w.heap.size + 1 + 1; omega), Below.heap_setCell _ _ _ _ (by show w.heap.size ≠ w.heap.size + 1; omega)]
      exact h3
    have HX : Ext w ((W'.setCell ⟨w.heap.size + 1, 0, none⟩ (.int .i64 (k : Int))).setCell ⟨w.heap.size + 1 + 1, 0, none⟩ (.int .i64 3)) := by
      have hx5 : Ext w w5 := Below.trans HX3.out (Below.trans (HX4.out.below.mono HX3.out.size) (hO.below (by omega) (by have := HX3.out.size; have := HX4.out.size; omega)))
      exact ((Below.trans hx5 (h4 _ (Nat.le_refl _))).setCell (by show w.heap.size ≤ w.heap.size + 1; omega) _).setCell (by show w.heap.size ≤ w.heap.size + 1 + 1; omega) _
    generalize (W'.setCell ⟨w.heap.size + 1, 0, none⟩ (.int .i64 (k : Int))).setCell ⟨w.heap.size + 1 + 1, 0, none⟩ (.int .i64 3) = W at *
    have z0 := cell_of (i := 0) hc0 rfl
    have z1 := cell_of (i := 1) hc0 rfl
    have z2 := cell_of (i := 2) hc0 rfl
    have z3 := cell_of (i := 3) hc0 rfl
    have z4 := cell_of (i := 4) hc0 rfl
    have y0 := cell_of (i := 0) hc1 rfl
    have y1 := cell_of (i := 0) hc2 rfl
    have HQ : RdRes w (.bad k) (.returned (.tuple #[.agg #[.int .i64 0, .int .i64 0, .string { data := #[] }, .int .i64 0, .slice none 0 0], .int .i64 (k : Int), .int .i64 3])) W := ⟨rfl, HX⟩
    simp [Leaves, settle, results, Tryz.f34, go_sem, z0, z1, z2, z3, z4, y0, y1]
    exact HQ
  | ok x k =>
    obtain ⟨k1, o1, n1, v1, ts⟩ := x
    go_enter_defers Tryz.func34, Tryz.ntmps34
    go_wp2_with fail
    refine (show Calls _ _ _ _ _ from KC.out).mono ?_
    rintro _ w5 ⟨q, cc, rfl, hA, hO, hr⟩
    dsimp only [Ex.val, Ex.kind, Ex.op, Ex.name, Ex.value, Ex.args]
    obtain ⟨m, hm⟩ : ∃ m, ts.length = m := ⟨_, rfl⟩
    rw [hm]
    have HM := Lib.hid hm
    have hz0 := (hO.other _ (lt_of_block HZ0.out) (by omega)).trans HZ0.out
    have hz1 := (hO.other _ (lt_of_block HZ1.out) (by omega)).trans HZ1.out
    have hz2 := (hO.other _ (lt_of_block HZ2.out) (by omega)).trans HZ2.out
    have HY0 := Lib.hid hz0
    have HY1 := Lib.hid hz1
    have HY2 := Lib.hid hz2
    have HR5 := Lib.hid hr
    have HA := Lib.hid hA
    have HX5 := Lib.hid (show Ext w w5 from Below.trans HX3.out (Below.trans (HX4.out.below.mono HX3.out.size) (hO.below (by omega) (by have := HX3.out.size; have := HX4.out.size; omega))))
    have z0 := cell_of (i := 0) hz0 rfl
    have z1 := cell_of (i := 1) hz0 rfl
    have z2 := cell_of (i := 2) hz0 rfl
    have z3 := cell_of (i := 3) hz0 rfl
    have z4 := cell_of (i := 4) hz0 rfl
    have zf : ∀ i, w5.frozen? ⟨w.heap.size, i, none⟩ = false := fun i => free_of hz0
    clear hz0 hz1 hz2 hO hr hA hm
    go_upto_region 4 with fail
    obtain ⟨w6, hw6, h3, h4, h5⟩ := put5n HY0.out rfl (.int .i64 k1) (.int .i64 o1) (sV n1) (.int .i64 v1) (.slice q m cc)
    rw [hw6]
    have HX6 := Lib.hid (show Ext w w6 from Below.trans HX5.out (h4 _ (Nat.le_refl _)))
    have HR6 := Lib.hid ((h5 _ (by omega)).trans HR5.out)
    replace HY0 := Lib.hid h3
    replace HY1 := Lib.hid ((h5 _ (by omega)).trans HY1.out)
    replace HY2 := Lib.hid ((h5 _ (by omega)).trans HY2.out)
    replace HA := Lib.hid (show AtB (fun b => w.heap.size < b ∧ b ≠ w.heap.size + 1 ∧ b ≠ w.heap.size + 2) w6 q (.mk k1 o1 n1 v1 ts) from HA.out.keep (fun b hb hl => by
      have hs : ((((w.alloc rd0).alloc rd1).alloc rd2).alloc (rdO p l.length c 0)).heap.size = w.heap.size + 4 := by rw [World.size_alloc, HS3.out]
      rw [hs] at hb
      exact ⟨⟨by omega, by omega, by omega⟩, h5 b (by omega)⟩))
    clear hw6 h3 h4 h5 z0 z1 z2 z3 z4 zf KC
    have z0 := cell_of (i := 0) HY0.out rfl
    have z1 := cell_of (i := 1) HY0.out rfl
    have z2 := cell_of (i := 2) HY0.out rfl
    have z3 := cell_of (i := 3) HY0.out rfl
    have z4 := cell_of (i := 4) HY0.out rfl
    have r1 : w6.cell? ⟨w.heap.size + 3, 1, none⟩ = some (.int .i64 (k : Int)) := cell_of HR6.out rfl
    have r2 : w6.cell? ⟨w.heap.size + 1 + 1 + 1, 1, none⟩ = some (.int .i64 (k : Int)) := r1
    have q1 : w6.cell? ⟨w.heap.size + 1, 0, none⟩ = some (.int .i64 0) := cell_of HY1.out rfl
    have q2 : w6.cell? ⟨w.heap.size + 1 + 1, 0, none⟩ = some (.int .i64 0) := cell_of HY2.out rfl
    have zf : ∀ i, w6.frozen? ⟨w.heap.size, i, none⟩ = false := fun i => free_of HY0.out
    have yf : ∀ i, w6.frozen? ⟨w.heap.size + 1, i, none⟩ = false := fun i => free_of HY1.out
    have xf : ∀ i, w6.frozen? ⟨w.heap.size + 1 + 1, i, none⟩ = false := fun i => free_of HY2.out
    go_region
    all_goals
      obtain ⟨W', hW', h3, h4, h5⟩ := put5n HY0.out rfl (.int .i64 k1) (.int .i64 o1) (.string (sB n1)) (.int .i64 v1) (.slice q m cc)
      rw [hW']
      have hc1 : ((W'.setCell ⟨w.heap.size + 1, 0, none⟩ (.int .i64 (k : Int))).setCell ⟨w.heap.size + 1 + 1, 0, none⟩ (.int .i64 0)).heap[w.heap.size + 1]? = some (.cells #[.int .i64 (k : Int)] 3 (0, 0)) := by
        rw [Below.heap_setCell _ _ _ _ (by show w.heap.size + 1 ≠ w.heap.size + 1 + 1; omega)]
        have := ((Turn.refl ((h5 _ (by omega)).trans HY1.out)).setCell (i := 0) (.int .i64 (k : Int))).here
        rw [this]; rfl
      have hc2 : ((W'.setCell ⟨w.heap.size + 1, 0, none⟩ (.int .i64 (k : Int))).setCell ⟨w.heap.size + 1 + 1, 0, none⟩ (.int .i64 0)).heap[w.heap.size + 1 + 1]? = some (.cells #[.int .i64 0] 26 (0, 0)) := by
        have := ((Turn.refl (((Below.heap_setCell W' ⟨w.heap.size + 1, 0, none⟩ (.int .i64 (k : Int)) _ (by show w.heap.size + 1 + 1 ≠ w.heap.size + 1; omega)).trans ((h5 (w.heap.size + 1 + 1) (by omega)).trans HY2.out)))).setCell (i := 0) (.int .i64 0)).here
        rw [this]; rfl
      have hc0 : ((W'.setCell ⟨w.heap.size + 1, 0, none⟩ (.int .i64 (k : Int))).setCell ⟨w.heap.size + 1 + 1, 0, none⟩ (.int .i64 0)).heap[w.heap.size]? = some (.cells #[.int .i64 k1, .int .i64 o1, .string (sB n1), .int .i64 v1, .slice q m cc] 25 (0, 0)) := by
        rw [Below.heap_setCell _ _ _ _ (by show w.heap.size ≠ w.heap.size + 1 + 1; omega), Below.heap_setCell _ _ _ _ (by show w.heap.size ≠ w.heap.size + 1; omega)]
        exact h3
      have HX : Ext w ((W'.setCell ⟨w.heap.size + 1, 0, none⟩ (.int .i64 (k : Int))).setCell ⟨w.heap.size + 1 + 1, 0, none⟩ (.int .i64 0)) :=
        ((Below.trans HX6.out (h4 _ (Nat.le_refl _))).setCell (by show w.heap.size ≤ w.heap.size + 1; omega) _).setCell (by show w.heap.size ≤ w.heap.size + 1 + 1; omega) _
      have hAt : AtB (w.heap.size ≤ ·) ((W'.setCell ⟨w.heap.size + 1, 0, none⟩ (.int .i64 (k : Int))).setCell ⟨w.heap.size + 1 + 1, 0, none⟩ (.int .i64 0)) q (.mk k1 o1 n1 v1 ts) := HA.out.keep (fun b hb hl => ⟨by omega, by
        rw [Below.heap_setCell _ _ _ _ (by show b ≠ w.heap.size + 1 + 1; omega), Below.heap_setCell _ _ _ _ (by show b ≠ w.heap.size + 1; omega)]
        exact h5 b (by omega)⟩)
      clear h3 h4 h5 hW' z0 z1 z2 z3 z4 r1 r2 q1 q2 zf yf xf
      generalize (W'.setCell ⟨w.heap.size + 1, 0, none⟩ (.int .i64 (k : Int))).setCell ⟨w.heap.size + 1 + 1, 0, none⟩ (.int .i64 0) = W at *
      have z0 := cell_of (i := 0) hc0 rfl
      have z1 := cell_of (i := 1) hc0 rfl
      have z2 := cell_of (i := 2) hc0 rfl
      have z3 := cell_of (i := 3) hc0 rfl
      have z4 := cell_of (i := 4) hc0 rfl
      have y0 := cell_of (i := 0) hc1 rfl
      have y1 := cell_of (i := 0) hc2 rfl
      have HQ : RdRes w (.ok (.mk k1 o1 n1 v1 ts) k) (.returned (.tuple #[.agg #[.int .i64 k1, .int .i64 o1, .string (sB n1), .int .i64 v1, .slice q m cc], .int .i64 (k : Int), .int .i64 0])) W.drew :=
        ⟨q, cc, by rw [← HM.out]; rfl, hAt.ext (Below.refl _ W).drew, Ext.trans HX (Below.refl _ W).drew⟩
      clear hAt HX hc0 hc1 hc2
      go_wp2
      refine leaves_cons (f := 60) (args := #[.pointer (some ⟨w.heap.size, 0, none⟩), .pointer (some ⟨w.heap.size + 1, 0, none⟩), .pointer (some ⟨w.heap.size + 1 + 1, 0, none⟩)]) (by simp) (by simp [go_sem]) ?_
      refine (read_idle ⟨w.heap.size, 0, none⟩ ⟨w.heap.size + 1, 0, none⟩ ⟨w.heap.size + 1 + 1, 0, none⟩ _).mono ?_
      rintro e u' w'' ⟨rfl, rfl, rfl⟩
      simp [Leaves, settle, results, Tryz.f34, go_sem, z0, z1, z2, z3, z4, y0, y1]
      exact HQ
end Go.Proofs.YtmokejjndkibhaaGreatDoor

namespace Go.Proofs.YtmokejjndkibhaaGreatDoor
open Go.RowKit
set_option linter.unusedVariables false
set_option linter.unusedSimpArgs false

theorem sg2_len : ∀ j (h : j < sg2.length), (sg2[j]).length = 2
  | 0, _ | 1, _ | 2, _ | 3, _ | 4, _ | 5, _ => rfl
theorem sgLen_two {X x : List UInt8} (hx : x ∈ sg2) (hl : x.length = 2) (h : x.isPrefixOf X = true) : sgLen X = 2 ∧ X.take 2 = x := by
  have h1 := List.isPrefixOf_iff_prefix.1 h
  refine ⟨?_, ?_⟩
  · unfold sgLen
    rw [if_pos (List.any_eq_true.2 ⟨x, hx, h⟩)]
  · have := List.prefix_iff_eq_take.1 h1
    rw [hl] at this
    exact this.symm
theorem sgLen_one {c : UInt8} {X : List UInt8} (h : ∀ x ∈ sg2, x.isPrefixOf (c :: X) = false) : sgLen (c :: X) = if sg1.contains c then 1 else 0 := by
  unfold sgLen
  rw [if_neg (fun e => by obtain ⟨x, hx, hp⟩ := List.any_eq_true.1 e; rw [h x hx] at hp; cases hp)]
theorem oneT_sign {s : List UInt8} {a : Nat} (h : a < s.length) (hl : letB s[a] = false) (hd : digB s[a] = false) (p : Int) :
    oneT (s.drop a) p = if sgLen (s.drop a) = 0 then (tk0, 3) else (⟨3, (s.drop a).take (sgLen (s.drop a)), 0, p⟩, 0) := by
  rw [List.drop_eq_getElem_cons h]
  unfold oneT
  dsimp only
  rw [if_neg (by simp [hl]), if_neg (by simp [hd])]

set_option maxRecDepth 100000 in
set_option maxHeartbeats 4000000 in
theorem signT_any (s : List UInt8) (a : Nat) (w : World) (hs : s.length ≤ 100000) (h : a < s.length) (hl : letB s[a] = false) (hd : digB s[a] = false) :
    Gives Tryz.prog 41 #[sV s, .int .i64 (a : Int)] w (.tuple #[TV (oneT (s.drop a) (a : Int)).1, .int .i64 (oneT (s.drop a) (a : Int)).2]) := by
  unfold Gives
  rw [oneT_sign h hl hd]
  have hsz := sB_size s
  have hx0 : (sB s).extract a s.length = sB (s.drop a) := by rw [sB_extract, List.take_length]
  have hx1 : (sB s).extract a (a + 1) = ⟨#[s[a]]⟩ := by
    rw [sB_extract, sub_take, List.drop_eq_getElem_cons h]; rfl
  have KH := Lib.hid (fun (x : List UInt8) (W : World) => (show Calls Tryz.prog 19 #[sV (s.drop a), sV x] W fun e w' => e = .returned (.bool (x.isPrefixOf (s.drop a))) ∧ w' = W from by
    have := Tryz.strings_HasPrefix (sB (s.drop a)) (sB x) W
    rw [sB_data, sB_data] at this
    exact this))
  have KC := Lib.hid (fun (c : UInt8) (W : World) => (show Calls Tryz.prog 52 #[.string ⟨#[60, 62, 43, 45, 42, 47, 37, 33, 61, 40, 41, 123, 125, 44, 59]⟩, .string ⟨#[c]⟩] W fun e w' => e = .returned (.bool (sg1.contains c)) ∧ w' = W from by
    have := Tryz.strings_Contains_one ⟨#[60, 62, 43, 45, 42, 47, 37, 33, 61, 40, 41, 123, 125, 44, 59]⟩ c W
    rw [Lib.contains_iff_indexByte]
    exact this))
  have HS1 := Lib.hid (fun (hno : ∀ x ∈ sg2, x.isPrefixOf (s.drop a) = false) => (show sgLen (s.drop a) = if sg1.contains s[a] then 1 else 0 from by
    rw [List.drop_eq_getElem_cons h] at hno ⊢
    exact sgLen_one hno))
  have HS2 := Lib.hid (fun (x : List UInt8) (hx : x ∈ sg2) (h2 : x.length = 2) (hp : x.isPrefixOf (s.drop a) = true) => sgLen_two hx h2 hp)
  have HT1 := Lib.hid (show sB ((s.drop a).take 1) = ⟨#[s[a]]⟩ from by rw [List.drop_eq_getElem_cons h]; rfl)
  generalize (s.drop a) = X at *
  generalize s[a] = ca at *
  clear hl hd
  obtain ⟨R, hR⟩ : ∃ R, (if sgLen X = 0 then (tk0, (3 : Int)) else (⟨3, X.take (sgLen X), 0, (a : Int)⟩, 0)) = R := ⟨_, rfl⟩
  rw [hR]
  have HR := Lib.hid hR
  clear hR
  have HO := Lib.hid (alloc_here (w.alloc tk0O) (.cells #[sV [38, 38], sV [124, 124], sV [61, 61], sV [33, 61], sV [60, 61], sV [62, 61]] 9))
  have HB := Lib.hid ((Below.heap_alloc (w.alloc tk0O) (.cells #[sV [38, 38], sV [124, 124], sV [61, 61], sV [33, 61], sV [60, 61], sV [62, 61]] 9) w.heap.size (by simp)).trans (alloc_here w tk0O))
  have HE := Lib.hid (Ext.trans (ext_alloc w tk0O) (ext_alloc (w.alloc tk0O) (.cells #[sV [38, 38], sV [124, 124], sV [61, 61], sV [33, 61], sV [60, 61], sV [62, 61]] 9)))
  go_enter Tryz.func41, Tryz.ntmps41
  go_wp2
  obtain ⟨W, hW⟩ : ∃ W, (w.alloc tk0O).alloc (.cells #[sV [38, 38], sV [124, 124], sV [61, 61], sV [33, 61], sV [60, 61], sV [62, 61]] 9) = W := ⟨_, rfl⟩
  have HW := Lib.hid hW
  rw [hW] at HO HB HE
  clear hW
  rw [World.size_alloc] at HO
  have hO := HO.out
  have hb := HB.out
  have f0 : ∀ i, W.frozen? ⟨w.heap.size, i, none⟩ = false := fun i => free_of hb
  have d0 := cell_of (i := 0) hb rfl
  have d1 := cell_of (i := 1) hb rfl
  have d2 := cell_of (i := 2) hb rfl
  have d3 := cell_of (i := 3) hb rfl
  have HC : Hid (∀ j (h : j < sg2.length), W.cell? ⟨w.heap.size + 1, j, none⟩ = some (sV sg2[j])) := Lib.hid (fun j h => by
    match j, h with
    | 0, _ => exact cell_of hO rfl
    | 1, _ => exact cell_of hO rfl
    | 2, _ => exact cell_of hO rfl
    | 3, _ => exact cell_of hO rfl
    | 4, _ => exact cell_of hO rfl
    | 5, _ => exact cell_of hO rfl)
  clear hO hb
  go_loopw [7, 10] (fun x7 i wr => ∃ j : Nat, j ≤ 6 ∧ i = .int .i64 (j : Int) ∧ wr = W ∧ ∀ x ∈ sg2.take j, x.isPrefixOf X = false) (fun _ i _ => 6 - (intOf i).toNat)
  case atStart => exact ⟨0, by omega, rfl, HW.out, by simp⟩
  case round =>
    obtain ⟨j, hj, rfl, rfl, hno⟩ := hrel
    have HN := Lib.hid hno
    clear hno
    by_cases hlt : j < 6
    · have hc := HC.out j hlt
      have HX := Lib.hid (List.getElem_mem (l := sg2) hlt)
      have HL := Lib.hid (sg2_len j hlt)
      have HT := Lib.hid (List.take_succ_eq_append_getElem (l := sg2) hlt)
      generalize sg2[j]'hlt = x at *
      obtain ⟨pb, hpb⟩ : ∃ b, x.isPrefixOf X = b := ⟨_, rfl⟩
      have KX := fun W => KH.out x W
      rw [hpb] at KX
      have HP := Lib.hid hpb
      clear hpb
      go_wp2_with fail
      refine (KX _).mono ?_
      rintro _ _ ⟨rfl, rfl⟩
      cases pb with
      | true =>
        obtain ⟨hs1, hs2⟩ := HS2.out x HX.out HL.out HP.out
        have HS3 := Lib.hid hs1
        have HS4 := Lib.hid hs2
        clear hs1 hs2
        go_wp2
        obtain ⟨W', hW', h3, h4, h5⟩ := put4 (HB).out rfl (.int .i64 3) (sV x) (.int .i64 0) (.int .i64 (a : Int))
        rw [hW']
        have e0 := cell_of (i := 0) h3 rfl
        have e1 := cell_of (i := 1) h3 rfl
        have e2 := cell_of (i := 2) h3 rfl
        have e3 := cell_of (i := 3) h3 rfl
        exact bodyPost_ret (v := .tuple #[.agg #[(.int .i64 3), (sV x), (.int .i64 0), (.int .i64 (a : Int))], .int .i64 0]) (by simp [results, Tryz.f41, go_sem, e0, e1, e2, e3]) rfl ⟨(by rw [← HR.out, HS3.out, HS4.out]; rfl), Below.trans (HE).out (h4 _ (Nat.le_refl _))⟩
      | false =>
        go_wp2
        go_roundw
        case rel => exact ⟨j + 1, by omega, by go_num, by first | rfl | trivial, fun y hy => by
          rw [HT.out] at hy
          rcases List.mem_append.1 hy with hy | hy
          · exact HN.out y hy
          · rw [List.mem_singleton.1 hy]; exact HP.out⟩
        case measure => simp [intOf]; omega
    · have HL1 := Lib.hid (HS1.out (fun y hy => HN.out y (by rw [show j = 6 by omega]; exact hy)))
      have KX := fun W => KC.out ca W
      obtain ⟨pb, hpb⟩ : ∃ b, sg1.contains ca = b := ⟨_, rfl⟩
      rw [hpb] at KX HL1
      clear hpb
      go_wp2_with fail
      refine (KX _).mono ?_
      rintro _ _ ⟨rfl, rfl⟩
      cases pb with
      | true =>
        go_wp2
        obtain ⟨W', hW', h3, h4, h5⟩ := put4 (HB).out rfl (.int .i64 3) (.string ⟨#[ca]⟩) (.int .i64 0) (.int .i64 (a : Int))
        rw [hW']
        have e0 := cell_of (i := 0) h3 rfl
        have e1 := cell_of (i := 1) h3 rfl
        have e2 := cell_of (i := 2) h3 rfl
        have e3 := cell_of (i := 3) h3 rfl
        exact bodyPost_ret (v := .tuple #[.agg #[(.int .i64 3), (.string ⟨#[ca]⟩), (.int .i64 0), (.int .i64 (a : Int))], .int .i64 0]) (by simp [results, Tryz.f41, go_sem, e0, e1, e2, e3]) rfl ⟨(by rw [← HR.out, HL1.out, ← HT1.out]; rfl), Below.trans (HE).out (h4 _ (Nat.le_refl _))⟩
      | false =>
        go_wp2
        obtain ⟨W', hW', h3, h4, h5⟩ := put4 (HB).out rfl (.int .i64 0) (.string { data := #[] }) (.int .i64 0) (.int .i64 0)
        rw [hW']
        have e0 := cell_of (i := 0) h3 rfl
        have e1 := cell_of (i := 1) h3 rfl
        have e2 := cell_of (i := 2) h3 rfl
        have e3 := cell_of (i := 3) h3 rfl
        exact bodyPost_ret (v := .tuple #[.agg #[(.int .i64 0), (.string { data := #[] }), (.int .i64 0), (.int .i64 0)], .int .i64 3]) (by simp [results, Tryz.f41, go_sem, e0, e1, e2, e3]) rfl ⟨(by rw [← HR.out, HL1.out]; rfl), Below.trans (HE).out (h4 _ (Nat.le_refl _))⟩
end Go.Proofs.YtmokejjndkibhaaGreatDoor

namespace Go.Proofs.YtmokejjndkibhaaGreatDoor
open Go.RowKit Go.Shelf
set_option linter.unusedVariables false
set_option linter.unusedSimpArgs false
attribute [local go_sem] sB_extract

def blk (s : List UInt8) (a : Nat) : Nat := a + skipB false (s.drop a)
theorem blk_le {s : List UInt8} {a : Nat} (h : a ≤ s.length) : blk s a ≤ s.length := by
  have := skipB_le false (s.drop a)
  rw [List.length_drop] at this
  unfold blk; omega
theorem toksF_end {s : List UInt8} {f a : Nat} {acc : List Tk} (h : s.length ≤ blk s a) : toksF s (f + 1) a acc = (acc ++ [⟨0, [], 0, s.length⟩], 0, 0) := by
  unfold blk at h
  simp only [toksF]
  rw [if_pos h]
theorem toksF_bad {s : List UInt8} {f a : Nat} {acc : List Tk} {t : Tk} {e : Int} (h : ¬ s.length ≤ blk s a) (ht : oneT (s.drop (blk s a)) ((blk s a : Nat) : Int) = (t, e)) (he : e ≠ 0) : toksF s (f + 1) a acc = ([], ((blk s a : Nat) : Int), e) := by
  unfold blk at h ht ⊢
  simp only [toksF]
  rw [if_neg h, ht]
  dsimp only
  rw [if_pos he]
theorem toksF_go {s : List UInt8} {f a : Nat} {acc : List Tk} {t : Tk} {e : Int} (h : ¬ s.length ≤ blk s a) (ht : oneT (s.drop (blk s a)) ((blk s a : Nat) : Int) = (t, e)) (he : e = 0) : toksF s (f + 1) a acc = toksF s f (blk s a + t.text.length) (acc ++ [t]) := by
  unfold blk at h ht ⊢
  simp only [toksF]
  rw [if_neg h, ht]
  dsimp only
  rw [if_neg (by simp [he])]
set_option maxRecDepth 100000 in
set_option maxHeartbeats 8000000 in
theorem Tokens_any (s : List UInt8) (w : World) (hs : s.length ≤ 100000) :
    Calls Tryz.prog 14 #[sV s] w fun e w' => ∃ v, e = .returned (.tuple #[v, .int .i64 (toksR s).2.1, .int .i64 (toksR s).2.2]) ∧ RowT w.heap.size v (toksR s).1 w' ∧ Ext w w' := by
  have hsz := sB_size s
  have HN0 := Lib.hid (RowT.nil w.heap.size w)
  obtain ⟨R, hR⟩ : ∃ R, toksR s = R := ⟨_, rfl⟩
  rw [hR]
  by_cases hbig : 4000 < s.length
  · have HR := Lib.hid (show R = ([], 0, 4) by rw [← hR]; unfold toksR; rw [if_pos hbig])
    clear hR
    go_enter Tryz.func14, Tryz.ntmps14
    go_wp2
    exact bodyPost_ret (v := .tuple #[.slice none 0 0, .int .i64 0, .int .i64 4]) (by simp [results, Tryz.f14, go_sem]) rfl ⟨.slice none 0 0, by rw [HR.out], by rw [HR.out]; exact HN0.out, Below.refl _ _⟩
  · have HR := Lib.hid (show toksF s (s.length + 1) 0 [] = R by rw [← hR]; unfold toksR; rw [if_neg hbig])
    clear hR
    have KB0 : ∀ W, Gives Tryz.prog 40 #[sV s, .int .i64 0] W (.int .i64 ((blk s 0 : Nat) : Int)) := fun W => blank_any s 0 W hs (Nat.zero_le _)
    go_enter Tryz.func14, Tryz.ntmps14
    go_wp2_with fail
    refine (KB0 _).mono ?_
    intro w0 hE0
    have HE0 := Lib.hid (show Ext w w0 from hE0)
    clear hE0
    obtain ⟨k0, hk0⟩ : ∃ k, blk s 0 = k := ⟨_, rfl⟩
    rw [hk0]
    have HK0 := Lib.hid hk0
    clear hk0 KB0
    go_wp2
    go_loopw [5, 6, 7, 8, 9] (fun v5 v6 v7 v8 v9 wr => ∃ (k at0 f : Nat) (acc : List Tk) (vv : Value), vv = v5 ∧ blk s at0 = k ∧ at0 ≤ s.length ∧ s.length + 1 ≤ f + at0 ∧ acc.length ≤ at0 ∧ toksF s f at0 acc = R ∧ v6 = .int .i64 (k : Int) ∧ RowT w.heap.size vv acc wr ∧ Ext w wr) (fun _ v6 _ _ _ _ => s.length - (intOf v6).toNat)
    case atStart => exact ⟨k0, 0, s.length + 1, [], _, rfl, HK0.out, Nat.zero_le _, by omega, Nat.le_refl _, HR.out, rfl, HN0.out.ext HE0.out, HE0.out⟩
    case round =>
      obtain ⟨k, at0, f, acc, vv, rfl, hk, ha0, hf, hac, hR, rfl, hrow, hE⟩ := hrel
      have HROW := Lib.hid hrow
      have HE := Lib.hid hE
      have hkl : k ≤ s.length := by rw [← hk]; exact blk_le ha0
      obtain ⟨f, rfl⟩ : ∃ f', f = f' + 1 := ⟨f - 1, by omega⟩
      have HK := Lib.hid hk
      have HRR := Lib.hid hR
      have hac2 : acc.length ≤ s.length := by omega
      have HF := Lib.hid hf
      have HA0 := Lib.hid ha0
      have HAC := Lib.hid hac
      have HAK := Lib.hid (show at0 ≤ k by rw [← hk]; unfold blk; omega)
      clear hrow hE hk hR hf hac ha0
      have hwz : w.heap.size ≤ wr.heap.size := HE.out.size
      by_cases hlt : k < s.length
      · obtain ⟨⟨T, E⟩, hT⟩ : ∃ T, oneT (s.drop k) (k : Int) = T := ⟨_, rfl⟩
        have HBAD := Lib.hid (fun he : E ≠ 0 => (show R = ([], (k : Int), E) by rw [← HRR.out, toksF_bad (by rw [HK.out]; omega) (by rw [HK.out]; exact hT) he, HK.out]))
        have HGO := Lib.hid (fun he : E = 0 => (show toksF s f (k + T.text.length) (acc ++ [T]) = R by rw [← HRR.out, toksF_go (by rw [HK.out]; omega) (by rw [HK.out]; exact hT) he, HK.out]))
        have HTX := Lib.hid (fun he : E = 0 => (show 1 ≤ T.text.length ∧ k + T.text.length ≤ s.length by
          have h1 := oneT_text (l := s.drop k) (by intro e; have := congrArg List.length e; simp at this; omega) (p := (k : Int)) (by rw [hT]; exact he)
          rw [hT] at h1
          dsimp only at h1
          have h2 := congrArg List.length h1.2.1
          rw [List.length_take, List.length_drop] at h2
          omega))
        have KNA := Lib.hid (fun (h : letB (s[k]'hlt) = true) W => (by have := nameT_any s k W hs hlt h; rw [hT] at this; exact this : Gives Tryz.prog 43 #[sV s, .int .i64 (k : Int)] W (.tuple #[TV T, .int .i64 E])))
        have KNU := Lib.hid (fun (h : letB (s[k]'hlt) = false) (h2 : digB (s[k]'hlt) = true) W => (by have := numberT_any s k W hs hlt h h2; rw [hT] at this; exact this : Gives Tryz.prog 45 #[sV s, .int .i64 (k : Int)] W (.tuple #[TV T, .int .i64 E])))
        have KSI := Lib.hid (fun (h : letB (s[k]'hlt) = false) (h2 : digB (s[k]'hlt) = false) W => (by have := signT_any s k W hs hlt h h2; rw [hT] at this; exact this : Gives Tryz.prog 41 #[sV s, .int .i64 (k : Int)] W (.tuple #[TV T, .int .i64 E])))
        clear hT
        obtain ⟨tk, tx, tv, tp⟩ := T
        dsimp only at HGO HTX
        have KBL := Lib.hid (fun (h : k + tx.length ≤ s.length) W => (show Gives Tryz.prog 40 #[sV s, .int .i64 ((k : Int) + (tx.length : Int))] W (.int .i64 ((blk s (k + tx.length) : Nat) : Int)) from blank_any s (k + tx.length) W hs h))
        obtain ⟨lb, hlb⟩ : ∃ b, letB (s[k]'hlt) = b := ⟨_, rfl⟩
        obtain ⟨db, hdb⟩ : ∃ b, digB (s[k]'hlt) = b := ⟨_, rfl⟩
        have KL : ∀ W, Gives Tryz.prog 42 #[.int .u8 ((s[k]'hlt).toNat : Int)] W (.bool lb) := fun W => by rw [← hlb]; exact lxLetter_any _ W
        have KD : ∀ W, Gives Tryz.prog 44 #[.int .u8 ((s[k]'hlt).toNat : Int)] W (.bool db) := fun W => by rw [← hdb]; exact lxDigit_any _ W
        have HLB := Lib.hid hlb
        have HDB := Lib.hid hdb
        clear hlb hdb
        have hq : k < (sB s).size := by omega
        cases lb with
        | true =>
          go_wp2_with fail
          refine (KL _).mono ?_
          intro w1 hE
          have HE1 := Lib.hid (Ext.trans (show Hid (Ext wr wr) from Below.refl _ _).out hE)
          clear hE
          have KR := KNA.out HLB.out
          go_wp2_with fail
          refine (KR _).mono ?_
          intro w3 hE
          have HE3 := Lib.hid (Ext.trans HE1.out hE)
          clear hE
          by_cases hE0 : E = 0
          · subst hE0
            obtain ⟨hx1, hx2⟩ := HTX.out rfl
            have HG := Lib.hid (HGO.out rfl)
            have KB2 := fun W => KBL.out hx2 W
            have HX2 := Lib.hid hx2
            have HROW3 := Lib.hid ((HROW.out.ext HE3.out).ext (ext_alloc w3 (.cells #[.int .i64 tk, sV tx, .int .i64 tv, .int .i64 tp] tTk)))
            have hsz4 : w.heap.size ≤ (w3.alloc (.cells #[.int .i64 tk, sV tx, .int .i64 tv, .int .i64 tp] tTk)).heap.size := by have h1 := HE3.out.size; have h2 := (ext_alloc w3 (.cells #[.int .i64 tk, sV tx, .int .i64 tv, .int .i64 tp] tTk)).size; omega
            have HE4 := Lib.hid (Ext.trans (Ext.trans HE.out HE3.out) (ext_alloc w3 (.cells #[.int .i64 tk, sV tx, .int .i64 tv, .int .i64 tp] tTk)))
            have hb4 := alloc_here w3 (.cells #[.int .i64 tk, sV tx, .int .i64 tv, .int .i64 tp] tTk)
            have e0 := cell_of (i := 0) hb4 rfl
            have e1 := cell_of (i := 1) hb4 rfl
            have e2 := cell_of (i := 2) hb4 rfl
            have e3 := cell_of (i := 3) hb4 rfl
            have HB4 := Lib.hid hb4
            have HO3 := Lib.hid (show Value.ownBlock vv ≠ some w3.heap.size from fun e => by have := (World.ownsRow.lt (HROW.out.ext HE3.out) _ e).2; omega)
            have hx3 : (k : Int) + (tx.length : Int) ≤ 100000 := by omega
            clear hb4 hx2
            go_wp2_with (at_builtin; go_loud (refine wp_appT (by rfl) _ _ (by rfl) w.heap.size vv acc (by rfl) _ HROW3.out ⟨tk, tx, tv, tp⟩ _ (by rfl) _ (by rfl) (World.size_alloc _ _) (by omega) hsz4 ?_); intro v5n w5 hrow5 hbel5 hkb5; have hc5 : w5.cell? ⟨w3.heap.size, 1, none⟩ = some (sV tx) := cell_of ((hkb5 _ (by simp) HO3.out).trans HB4.out) rfl; have HROW5 := Lib.hid hrow5; have HE5 := Lib.hid (show Ext w w5 from Below.trans HE4.out hbel5); clear hrow5 hbel5 hkb5 e0 e1 e2 e3)
            refine (KB2 _).mono ?_
            intro w6 hE6
            have HE6 := Lib.hid (Ext.trans HE5.out hE6)
            have HROW6 := Lib.hid (HROW5.out.ext hE6)
            clear hE6 hc5
            obtain ⟨kn, hkn⟩ : ∃ kn, blk s (k + tx.length) = kn := ⟨_, rfl⟩
            rw [hkn]
            have HKN := Lib.hid hkn
            have HKK := Lib.hid (show k + tx.length ≤ kn by rw [← hkn]; unfold blk; omega)
            clear hkn KB2
            go_wp2
            go_roundw
            case rel => exact ⟨kn, k + tx.length, f, acc ++ [⟨tk, tx, tv, tp⟩], v5n, rfl, HKN.out, HX2.out, by have := HF.out; have := HAK.out; omega, by simp only [List.length_append, List.length_singleton]; have := HAC.out; have := HAK.out; omega, HG.out, rfl, HROW6.out, HE6.out⟩
            case measure => simp [intOf]; have := HKK.out; omega
          · have HG := Lib.hid (HBAD.out hE0)
            have h9 : ¬ (E = 0) := hE0
            go_wp2
            exact bodyPost_ret (v := .tuple #[.slice none 0 0, .int .i64 (k : Int), .int .i64 E]) (by simp [results, Tryz.f14, go_sem]) rfl ⟨.slice none 0 0, by rw [HG.out], by rw [HG.out]; exact RowT.nil _ _, Ext.trans (Ext.trans HE.out HE3.out) (ext_alloc _ _)⟩
        | false =>
          go_wp2_with fail
          refine (KL _).mono ?_
          intro w1 hE
          have HE1 := Lib.hid (Ext.trans (show Hid (Ext wr wr) from Below.refl _ _).out hE)
          clear hE
          cases db with
          | true =>
            go_wp2_with fail
            refine (KD _).mono ?_
            intro w2 hE
            have HE2 := Lib.hid (Ext.trans HE1.out hE)
            clear hE
            have KR := KNU.out HLB.out HDB.out
            go_wp2_with fail
            refine (KR _).mono ?_
            intro w3 hE
            have HE3 := Lib.hid (Ext.trans HE2.out hE)
            clear hE
            by_cases hE0 : E = 0
            · subst hE0
              obtain ⟨hx1, hx2⟩ := HTX.out rfl
              have HG := Lib.hid (HGO.out rfl)
              have KB2 := fun W => KBL.out hx2 W
              have HX2 := Lib.hid hx2
              have HROW3 := Lib.hid ((HROW.out.ext HE3.out).ext (ext_alloc w3 (.cells #[.int .i64 tk, sV tx, .int .i64 tv, .int .i64 tp] tTk)))
              have hsz4 : w.heap.size ≤ (w3.alloc (.cells #[.int .i64 tk, sV tx, .int .i64 tv, .int .i64 tp] tTk)).heap.size := by have h1 := HE3.out.size; have h2 := (ext_alloc w3 (.cells #[.int .i64 tk, sV tx, .int .i64 tv, .int .i64 tp] tTk)).size; omega
              have HE4 := Lib.hid (Ext.trans (Ext.trans HE.out HE3.out) (ext_alloc w3 (.cells #[.int .i64 tk, sV tx, .int .i64 tv, .int .i64 tp] tTk)))
              have hb4 := alloc_here w3 (.cells #[.int .i64 tk, sV tx, .int .i64 tv, .int .i64 tp] tTk)
              have e0 := cell_of (i := 0) hb4 rfl
              have e1 := cell_of (i := 1) hb4 rfl
              have e2 := cell_of (i := 2) hb4 rfl
              have e3 := cell_of (i := 3) hb4 rfl
              have HB4 := Lib.hid hb4
              have HO3 := Lib.hid (show Value.ownBlock vv ≠ some w3.heap.size from fun e => by have := (World.ownsRow.lt (HROW.out.ext HE3.out) _ e).2; omega)
              have hx3 : (k : Int) + (tx.length : Int) ≤ 100000 := by omega
              clear hb4 hx2
              go_wp2_with (at_builtin; go_loud (refine wp_appT (by rfl) _ _ (by rfl) w.heap.size vv acc (by rfl) _ HROW3.out ⟨tk, tx, tv, tp⟩ _ (by rfl) _ (by rfl) (World.size_alloc _ _) (by omega) hsz4 ?_); intro v5n w5 hrow5 hbel5 hkb5; have hc5 : w5.cell? ⟨w3.heap.size, 1, none⟩ = some (sV tx) := cell_of ((hkb5 _ (by simp) HO3.out).trans HB4.out) rfl; have HROW5 := Lib.hid hrow5; have HE5 := Lib.hid (show Ext w w5 from Below.trans HE4.out hbel5); clear hrow5 hbel5 hkb5 e0 e1 e2 e3)
              refine (KB2 _).mono ?_
              intro w6 hE6
              have HE6 := Lib.hid (Ext.trans HE5.out hE6)
              have HROW6 := Lib.hid (HROW5.out.ext hE6)
              clear hE6 hc5
              obtain ⟨kn, hkn⟩ : ∃ kn, blk s (k + tx.length) = kn := ⟨_, rfl⟩
              rw [hkn]
              have HKN := Lib.hid hkn
              have HKK := Lib.hid (show k + tx.length ≤ kn by rw [← hkn]; unfold blk; omega)
              clear hkn KB2
              go_wp2
              go_roundw
              case rel => exact ⟨kn, k + tx.length, f, acc ++ [⟨tk, tx, tv, tp⟩], v5n, rfl, HKN.out, HX2.out, by have := HF.out; have := HAK.out; omega, by simp only [List.length_append, List.length_singleton]; have := HAC.out; have := HAK.out; omega, HG.out, rfl, HROW6.out, HE6.out⟩
              case measure => simp [intOf]; have := HKK.out; omega
            · have HG := Lib.hid (HBAD.out hE0)
              have h9 : ¬ (E = 0) := hE0
              go_wp2
              exact bodyPost_ret (v := .tuple #[.slice none 0 0, .int .i64 (k : Int), .int .i64 E]) (by simp [results, Tryz.f14, go_sem]) rfl ⟨.slice none 0 0, by rw [HG.out], by rw [HG.out]; exact RowT.nil _ _, Ext.trans (Ext.trans HE.out HE3.out) (ext_alloc _ _)⟩
          | false =>
            go_wp2_with fail
            refine (KD _).mono ?_
            intro w2 hE
            have HE2 := Lib.hid (Ext.trans HE1.out hE)
            clear hE
            have KR := KSI.out HLB.out HDB.out
            go_wp2_with fail
            refine (KR _).mono ?_
            intro w3 hE
            have HE3 := Lib.hid (Ext.trans HE2.out hE)
            clear hE
            by_cases hE0 : E = 0
            · subst hE0
              obtain ⟨hx1, hx2⟩ := HTX.out rfl
              have HG := Lib.hid (HGO.out rfl)
              have KB2 := fun W => KBL.out hx2 W
              have HX2 := Lib.hid hx2
              have HROW3 := Lib.hid ((HROW.out.ext HE3.out).ext (ext_alloc w3 (.cells #[.int .i64 tk, sV tx, .int .i64 tv, .int .i64 tp] tTk)))
              have hsz4 : w.heap.size ≤ (w3.alloc (.cells #[.int .i64 tk, sV tx, .int .i64 tv, .int .i64 tp] tTk)).heap.size := by have h1 := HE3.out.size; have h2 := (ext_alloc w3 (.cells #[.int .i64 tk, sV tx, .int .i64 tv, .int .i64 tp] tTk)).size; omega
              have HE4 := Lib.hid (Ext.trans (Ext.trans HE.out HE3.out) (ext_alloc w3 (.cells #[.int .i64 tk, sV tx, .int .i64 tv, .int .i64 tp] tTk)))
              have hb4 := alloc_here w3 (.cells #[.int .i64 tk, sV tx, .int .i64 tv, .int .i64 tp] tTk)
              have e0 := cell_of (i := 0) hb4 rfl
              have e1 := cell_of (i := 1) hb4 rfl
              have e2 := cell_of (i := 2) hb4 rfl
              have e3 := cell_of (i := 3) hb4 rfl
              have HB4 := Lib.hid hb4
              have HO3 := Lib.hid (show Value.ownBlock vv ≠ some w3.heap.size from fun e => by have := (World.ownsRow.lt (HROW.out.ext HE3.out) _ e).2; omega)
              have hx3 : (k : Int) + (tx.length : Int) ≤ 100000 := by omega
              clear hb4 hx2
              go_wp2_with (at_builtin; go_loud (refine wp_appT (by rfl) _ _ (by rfl) w.heap.size vv acc (by rfl) _ HROW3.out ⟨tk, tx, tv, tp⟩ _ (by rfl) _ (by rfl) (World.size_alloc _ _) (by omega) hsz4 ?_); intro v5n w5 hrow5 hbel5 hkb5; have hc5 : w5.cell? ⟨w3.heap.size, 1, none⟩ = some (sV tx) := cell_of ((hkb5 _ (by simp) HO3.out).trans HB4.out) rfl; have HROW5 := Lib.hid hrow5; have HE5 := Lib.hid (show Ext w w5 from Below.trans HE4.out hbel5); clear hrow5 hbel5 hkb5 e0 e1 e2 e3)
              refine (KB2 _).mono ?_
              intro w6 hE6
              have HE6 := Lib.hid (Ext.trans HE5.out hE6)
              have HROW6 := Lib.hid (HROW5.out.ext hE6)
              clear hE6 hc5
              obtain ⟨kn, hkn⟩ : ∃ kn, blk s (k + tx.length) = kn := ⟨_, rfl⟩
              rw [hkn]
              have HKN := Lib.hid hkn
              have HKK := Lib.hid (show k + tx.length ≤ kn by rw [← hkn]; unfold blk; omega)
              clear hkn KB2
              go_wp2
              go_roundw
              case rel => exact ⟨kn, k + tx.length, f, acc ++ [⟨tk, tx, tv, tp⟩], v5n, rfl, HKN.out, HX2.out, by have := HF.out; have := HAK.out; omega, by simp only [List.length_append, List.length_singleton]; have := HAC.out; have := HAK.out; omega, HG.out, rfl, HROW6.out, HE6.out⟩
              case measure => simp [intOf]; have := HKK.out; omega
            · have HG := Lib.hid (HBAD.out hE0)
              have h9 : ¬ (E = 0) := hE0
              go_wp2
              exact bodyPost_ret (v := .tuple #[.slice none 0 0, .int .i64 (k : Int), .int .i64 E]) (by simp [results, Tryz.f14, go_sem]) rfl ⟨.slice none 0 0, by rw [HG.out], by rw [HG.out]; exact RowT.nil _ _, Ext.trans (Ext.trans HE.out HE3.out) (ext_alloc _ _)⟩
      · have HG := Lib.hid (show R = (acc ++ [⟨0, [], 0, s.length⟩], 0, 0) by rw [← HRR.out, toksF_end (by rw [HK.out]; omega)])
        have HROW1 := Lib.hid HROW.out
        have hsz1 : w.heap.size ≤ wr.heap.size := hwz
        go_wp2_with (at_builtin; go_loud (refine wp_appT (by rfl) _ _ (by rfl) w.heap.size vv acc (by rfl) _ HROW1.out ⟨0, [], 0, s.length⟩ _ (by rfl) _ (by rfl) rfl (by omega) hsz1 ?_); intro v5n w5 hrow5 hbel5 hkb5)
        exact bodyPost_ret (v := .tuple #[v5n, .int .i64 0, .int .i64 0]) (by simp [results, Tryz.f14, go_sem]) rfl ⟨v5n, by rw [HG.out], by rw [HG.out]; exact hrow5, Below.trans HE.out hbel5⟩
end Go.Proofs.YtmokejjndkibhaaGreatDoor

namespace Go.Proofs.YtmokejjndkibhaaGreatDoor
open Go.RowKit Ex
set_option linter.unusedVariables false
set_option linter.unusedSimpArgs false

/-- reading does not pass an end token -/
theorem Rd.stop {l : List Tk} {m : Nat} (hm : m < l.length) (h0 : l[m].kind = 0) {md : Md} {k : Nat} {r : Res} (h : Rd l md k r) : 1 ≤ md.lvl → k ≤ m → r.end_ ≤ m := by
  have ne : ∀ k (hk : k < l.length), l[k].kind ≠ 0 → k ≤ m → k + 1 ≤ m := fun k hk hn hle => by
    rcases Nat.lt_or_ge k m with h1 | h1
    · exact h1
    · obtain rfl : k = m := by omega
      exact absurd h0 hn
  have sg : ∀ k x, sgB l k x = true → k ≤ m → k + 1 ≤ m := fun k x hx hle => by
    obtain ⟨hk, h3, _⟩ := sgB_some hx
    exact ne k hk (by rw [h3]; decide) hle
  have op : ∀ k p, 1 ≤ p → (opAt l k).2 = ((p : Nat) : Int) → k ≤ m → k + 1 ≤ m := fun k p hp ho hle => by
    have hk := opAt_lt ho hp
    refine ne k hk (fun e => ?_) hle
    rw [opAt_at hk, if_neg (by rw [e]; decide)] at ho
    simp at ho; omega
  induction h with
  | num h h1 h2 => intro _ hk; exact ne _ h (by rw [h1]; decide) hk
  | nam h h1 h2 => intro _ hk; exact ne _ h (by rw [h1]; decide) hk
  | neg h h1 ih => intro _ hk; exact ih (by decide) (sg _ _ h hk)
  | negB h h1 ih => intro _ hk; exact ih (by decide) (sg _ _ h hk)
  | no h h1 ih => intro _ hk; exact ih (by decide) (sg _ _ h hk)
  | noB h h1 ih => intro _ hk; exact ih (by decide) (sg _ _ h hk)
  | par h h1 h2 ih => intro _ hk; exact sg _ _ h2 (ih (by decide) (sg _ _ h hk))
  | parN h h1 h2 ih => intro _ hk; exact ih (by decide) (sg _ _ h hk)
  | parB h h1 ih => intro _ hk; exact ih (by decide) (sg _ _ h hk)
  | out h => intro _ hk; omega
  | bad h => intro _ hk; exact hk
  | six hp h ih => intro _ hk; exact ih (by decide) hk
  | binB hp h ih => intro h1 hk; exact ih (by simp only [Md.lvl] at *; omega) hk
  | bin hp h h1 ih ih1 => intro hl hk; simp only [Md.lvl] at *; exact ih1 hl (ih (by omega) hk)
  | fin h => intro _ hk; exact hk
  | argB h h1 ih => intro hl hk; simp only [Md.lvl] at *; exact ih (by omega) (op _ _ hl h hk)
  | three hp h h1 ih => intro hl hk; simp only [Md.lvl] at *; exact ih (by omega) (op _ _ hl h hk)
  | more hp h h1 h2 ih ih2 => intro hl hk; simp only [Md.lvl] at *; exact ih2 hl (ih (by omega) (op _ _ hl h hk))

theorem oneT_kind {l : List UInt8} {p : Int} (h : (oneT l p).2 = 0) (hl : l ≠ []) : (oneT l p).1.kind ≠ 0 := by
  cases l with
  | nil => exact absurd rfl hl
  | cons c l =>
    unfold oneT at h ⊢
    dsimp only at h ⊢
    split
    · rename_i h1
      rw [if_pos h1] at h
      split
      · rename_i h2; rw [if_pos h2] at h; cases h
      · show (1 : Int) ≠ 0; decide
    · rename_i h1
      rw [if_neg h1] at h
      split
      · rename_i h2
        rw [if_pos h2] at h
        split
        · rename_i h3; rw [if_pos h3] at h; cases h
        · rename_i h3
          rw [if_neg h3] at h
          split
          · rename_i h4; rw [if_pos h4] at h; cases h
          · show (2 : Int) ≠ 0; decide
      · rename_i h2
        rw [if_neg h2] at h
        split
        · rename_i h3; rw [if_pos h3] at h; cases h
        · show (3 : Int) ≠ 0; decide
/-- the tokens, from a place on -/
inductive Toks (s : List UInt8) : Nat → List Tk → Int → Int → Prop
  | fin {a : Nat} (h : s.length ≤ blk s a) : Toks s a [⟨0, [], 0, s.length⟩] 0 0
  | bad {a : Nat} {t : Tk} {e : Int} (h : blk s a < s.length) (ht : oneT (s.drop (blk s a)) ((blk s a : Nat) : Int) = (t, e)) (he : e ≠ 0) : Toks s a [] ((blk s a : Nat) : Int) e
  | cons {a : Nat} {t : Tk} {l : List Tk} (h : blk s a < s.length) (ht : oneT (s.drop (blk s a)) ((blk s a : Nat) : Int) = (t, 0)) (h1 : Toks s (blk s a + t.text.length) l 0 0) : Toks s a (t :: l) 0 0
  | later {a : Nat} {t : Tk} {p e : Int} (h : blk s a < s.length) (ht : oneT (s.drop (blk s a)) ((blk s a : Nat) : Int) = (t, 0)) (he : e ≠ 0) (h1 : Toks s (blk s a + t.text.length) [] p e) : Toks s a [] p e
theorem oneT_at {s : List UInt8} {k : Nat} {t : Tk} (hk : k < s.length) (ht : oneT (s.drop k) (k : Int) = (t, 0)) : 1 ≤ t.text.length ∧ k + t.text.length ≤ s.length ∧ t.text = (s.drop k).take t.text.length ∧ t.pos = k ∧ t.kind ≠ 0 := by
  have hne : s.drop k ≠ [] := by intro e; have := congrArg List.length e; simp at this; omega
  have h1 := oneT_text hne (p := (k : Int)) (by rw [ht])
  have h2 := oneT_kind (p := (k : Int)) (by rw [ht]) hne
  rw [ht] at h1 h2
  dsimp only at h1 h2
  have h3 := congrArg List.length h1.2.1
  rw [List.length_take, List.length_drop] at h3
  exact ⟨h1.1, by omega, h1.2.1, h1.2.2, h2⟩
theorem toksF_toks (s : List UInt8) : ∀ (f a : Nat) (acc : List Tk), a ≤ s.length → s.length + 1 ≤ f + a → ∃ l p e, Toks s a l p e ∧ toksF s f a acc = (if e = 0 then acc ++ l else [], p, e)
  | 0, a, acc, ha, hf => by omega
  | f + 1, a, acc, ha, hf => by
    by_cases h : s.length ≤ blk s a
    · exact ⟨_, _, _, .fin h, by rw [toksF_end h, if_pos rfl]⟩
    · obtain ⟨⟨t, e⟩, ht⟩ : ∃ T, oneT (s.drop (blk s a)) ((blk s a : Nat) : Int) = T := ⟨_, rfl⟩
      by_cases he : e = 0
      · subst he
        have h1 := oneT_at (by omega) ht
        obtain ⟨l, p, e, h2, h3⟩ := toksF_toks s f (blk s a + t.text.length) (acc ++ [t]) h1.2.1 (by have : a ≤ blk s a := by { unfold blk; omega }; omega)
        rw [toksF_go h ht rfl, h3]
        by_cases he : e = 0
        · subst he
          have hp : p = 0 := by cases h2 <;> first | rfl | (rename_i he _; exact absurd rfl he) | (rename_i he; exact absurd rfl he)
          subst hp
          exact ⟨t :: l, 0, 0, .cons (by omega) ht h2, by simp⟩
        · have hl : l = [] := by cases h2 <;> first | rfl | exact absurd rfl he
          subst hl
          exact ⟨[], p, e, .later (by omega) ht he h2, by rw [if_neg he, if_neg he]⟩
      · exact ⟨[], _, e, .bad (by omega) ht he, by rw [toksF_bad h ht he, if_neg he]⟩
theorem toksR_toks (s : List UInt8) (hs : s.length ≤ 4000) : Toks s 0 (toksR s).1 (toksR s).2.1 (toksR s).2.2 := by
  obtain ⟨l, p, e, h1, h2⟩ := toksF_toks s (s.length + 1) 0 [] (Nat.zero_le _) (by omega)
  have : toksR s = (l, p, e) := by
    unfold toksR
    rw [if_neg (by omega), h2]
    by_cases he : e = 0
    · rw [if_pos he]; simp
    · rw [if_neg he]
      have hl : l = [] := by cases h1 <;> first | rfl | exact absurd rfl he
      rw [hl]
  rw [this]
  exact h1
/-- the list of tokens of a text without an error: its end token, and what stands before it -/
theorem Toks.form {s : List UInt8} {a : Nat} {l : List Tk} {p e : Int} (h : Toks s a l p e) (he : e = 0) : ∃ ts, l = ts ++ [⟨0, [], 0, s.length⟩] ∧ ts.length + a ≤ max a s.length ∧ ∀ t ∈ ts, t.kind ≠ 0 ∧ 1 ≤ t.text.length ∧ t.text.length ≤ s.length := by
  induction h with
  | fin h => exact ⟨[], rfl, by simp; omega, fun t ht => by cases ht⟩
  | bad h ht h0 => exact absurd he h0
  | cons h ht h1 ih =>
    obtain ⟨ts, h2, h3, h4⟩ := ih rfl
    have h5 := oneT_at h ht
    refine ⟨_ :: ts, by rw [h2]; rfl, ?_, fun x hx => ?_⟩
    · rename_i a t l
      have : a ≤ blk s a := by unfold blk; omega
      simp only [List.length_cons]; omega
    · rcases List.mem_cons.1 hx with rfl | hx
      · exact ⟨h5.2.2.2.2, h5.1, by omega⟩
      · exact h4 x hx
  | later h ht h0 h1 ih => exact absurd he h0
theorem toksR_form {s : List UInt8} (he : (toksR s).2.2 = 0) : s.length ≤ 4000 ∧ (toksR s).2.1 = 0 ∧ ∃ ts, (toksR s).1 = ts ++ [⟨0, [], 0, s.length⟩] ∧ ts.length ≤ s.length ∧ ∀ t ∈ ts, t.kind ≠ 0 ∧ 1 ≤ t.text.length ∧ t.text.length ≤ s.length := by
  have hs : s.length ≤ 4000 := by
    rcases Nat.lt_or_ge 4000 s.length with h | h
    · unfold toksR at he; rw [if_pos h] at he; cases he
    · exact h
  have h := toksR_toks s hs
  obtain ⟨ts, h1, h2, h3⟩ := h.form he
  refine ⟨hs, ?_, ts, h1, by omega, h3⟩
  generalize (toksR s).1 = l at *
  generalize (toksR s).2.1 = p at *
  generalize (toksR s).2.2 = e at *
  subst he
  cases h with
  | fin _ => rfl
  | bad _ _ h0 => exact absurd rfl h0
  | cons _ _ _ => rfl
  | later _ _ h0 _ => exact absurd rfl h0
/-- what Parse gives, if reading the tokens gives r -/
def psL (l : List Tk) (r : Res) : Ex × Int × Int := match r with
  | .bad n => (exZ, (l.getD n tk0).pos, 3)
  | .ok x n => if (l.getD n tk0).kind ≠ 0 then (exZ, (l.getD n tk0).pos, 3) else if x.chk ≠ 0 then (exZ, 0, x.chk) else (x, 0, 0)
def psR (s : List UInt8) (r : Res) : Ex × Int × Int := if (toksR s).2.2 ≠ 0 then (exZ, (toksR s).2.1, (toksR s).2.2) else psL (toksR s).1 r
end Go.Proofs.YtmokejjndkibhaaGreatDoor

namespace Go.Proofs.YtmokejjndkibhaaGreatDoor
open Go.RowKit Go.Shelf Ex
set_option linter.unusedVariables false
set_option linter.unusedSimpArgs false

theorem Clip_any (b off n c : Nat) (w : World) (hc : n ≤ c) (hn : n ≤ 10000) : Calls Tryz.prog 35 #[.slice (some ⟨b, off, none⟩) n c] w fun e w' => e = .returned (.slice (some ⟨b, off, none⟩) n n) ∧ w' = w := by
  go_enter Tryz.func35, Tryz.ntmps35
  go_wp2
  go_ret
  exact ⟨rfl, rfl⟩
theorem getD_at {l : List Tk} {n : Nat} (h : n < l.length) : l.getD n tk0 = l[n] := by simp [List.getD, h]
set_option maxRecDepth 100000 in
set_option maxHeartbeats 4000000 in
theorem Parse_any (s : List UInt8) (w : World) (hs : s.length ≤ 100000) (hTab : TabW w) (hM : MaxL w) (r : Res) (hR : (toksR s).2.2 = 0 → Rd (toksR s).1 (.bin 1) 0 r) :
    Calls Tryz.prog 11 #[sV s] w fun e w' => ∃ q cc, e = .returned (.tuple #[(psR s r).1.val q cc, .int .i64 (psR s r).2.1, .int .i64 (psR s r).2.2]) ∧ AtB (w.heap.size ≤ ·) w' q (psR s r).1 ∧ Ext w w' := by
  obtain ⟨T, hT⟩ : ∃ T, toksR s = T := ⟨_, rfl⟩
  obtain ⟨l, at0, er⟩ := T
  have HX1 := Lib.hid (ext_alloc w rd0)
  have HZ1 := Lib.hid (alloc_here w rd0)
  have KT := Lib.hid (by have := Tokens_any s (w.alloc rd0) hs; rw [hT] at this; exact this : Calls Tryz.prog 14 #[sV s] (w.alloc rd0) fun e w' => ∃ v, e = .returned (.tuple #[v, .int .i64 at0, .int .i64 er]) ∧ RowT (w.alloc rd0).heap.size v l w' ∧ Ext (w.alloc rd0) w')
  by_cases he : er = 0
  · subst he
    obtain ⟨hs4, ha0, ts, hl, hts, htk⟩ := toksR_form (s := s) (by rw [hT])
    have hR := hR (by rw [hT])
    rw [hT] at ha0 hl hR
    dsimp only at ha0 hl hR
    subst ha0
    obtain ⟨pr, hpr⟩ : ∃ x, psR s r = x := ⟨_, rfl⟩
    have HP := Lib.hid (show pr = psL l r by rw [← hpr]; unfold psR; rw [hT]; simp)
    rw [hpr]
    have hln : l.length = ts.length + 1 := by rw [hl]; simp
    have hend : l[ts.length]'(by omega) = ⟨0, [], 0, s.length⟩ := by simp [hl]
    have HB := Lib.hid (show r.end_ ≤ ts.length from hR.stop (m := ts.length) (by omega) (by rw [hend]) (by decide) (Nat.zero_le _))
    have HTX := Lib.hid (show ∀ t ∈ l, t.text.length ≤ 140737488351232 from fun t ht => by
      rw [hl] at ht
      rcases List.mem_append.1 ht with h | h
      · have := (htk t h).2.2; omega
      · rw [List.mem_singleton.1 h]; simp)
    have HR := Lib.hid hR
    have HLN := Lib.hid hln
    have hl9 : l.length ≤ 10000 := by omega
    have HW0 := Lib.hid (hTab.below HX1.out)
    have HM0 := Lib.hid (hM.ext HX1.out)
    clear hpr hT hR hl hts htk hend hs4 hln hTab hM
    go_enter Tryz.func11, Tryz.ntmps11
    go_wp2_with fail
    refine (show Calls _ _ _ _ _ from KT.out).mono ?_
    rintro _ w2 ⟨v, rfl, hrow, hE⟩
    dsimp only
    obtain ⟨p, c, rfl, htr, hlc⟩ := hrow.at
    obtain ⟨b, off, hp, _⟩ := htr 0 (by have := HLN.out; omega)
    subst hp
    have HTR := Lib.hid htr
    have HX2 := Lib.hid (Ext.trans HX1.out hE)
    have HZ2 := Lib.hid ((hE.below.block _ (lt_of_block HZ1.out)).trans HZ1.out)
    have HBL := Lib.hid (show b ≠ w.heap.size from fun e => by
      rcases hrow.2 with ⟨h, _⟩ | ⟨k, cap, cur, hv, hk, _⟩
      · cases h
      · simp only [Value.slice.injEq, Option.some.injEq, Addr.mk.injEq] at hv
        rw [World.size_alloc] at hk
        omega)
    have KR := Lib.hid (fun W (hW : Ext w2 W) => read_any l (some ⟨b, off, none⟩) l.length W (htr.ext hW) hl9 (Nat.le_refl _) HTX.out ((HW0.out.below hE).below hW) ((HM0.out.ext hE).ext hW) r HR.out)
    have KCL := Lib.hid (fun W => Clip_any b off l.length c W hlc hl9)
    clear hE htr hrow
    obtain ⟨n, hn⟩ : ∃ n, l.length = n := ⟨_, rfl⟩
    rw [hn] at KR KCL hl9 hlc HLN
    rw [hn]
    have HN := Lib.hid hn
    clear hn
    cases r with
    | bad k =>
      have HKL := Lib.hid (show k < l.length from by have h1 : k ≤ ts.length := HB.out; have := HLN.out; have := HN.out; omega)
      replace HP := Lib.hid (show pr = (exZ, (l[k]'HKL.out).pos, 3) from by rw [HP.out]; unfold psL; dsimp only; rw [getD_at HKL.out])
      go_wp2_with fail
      refine (KCL.out _).mono ?_
      rintro _ _ ⟨rfl, rfl⟩
      go_wp2_with fail
      refine (KR.out _ (Below.refl _ _)).mono ?_
      rintro _ w3 ⟨rfl, hE3⟩
      dsimp only [Ex.val, exZ, Ex.kind, Ex.op, Ex.name, Ex.value, Ex.args, List.length_nil]
      have HX3 := Lib.hid (Ext.trans HX2.out hE3)
      have HZ3 := Lib.hid ((hE3.below.block _ (lt_of_block HZ2.out)).trans HZ2.out)
      have htr3 := HTR.out.ext hE3
      obtain ⟨b', off', hp, t0, t1, t2, t3⟩ := htr3 k HKL.out
      cases hp
      have hk9 : k < n := by have := HKL.out; have := HN.out; omega
      have hkn : (k : Int) < (n : Int) := by omega
      have hk0 : (0 : Int) ≤ (k : Int) := by omega
      generalize (l[k]'HKL.out).pos = tp at *
      clear hE3 htr3 t0 t1 t2
      go_upto_region 6 with fail
      obtain ⟨w4, hw4⟩ : ∃ W, w3.alloc (.cells #[.int .i64 0, .int .i64 0, sV [], .int .i64 0, .slice none 0 0] 25) = W := ⟨_, rfl⟩
      rw [hw4]
      have hE4 : Ext w3 w4 := by rw [← hw4]; exact ext_alloc _ _
      have HX := Lib.hid (Ext.trans HX3.out hE4)
      have hz := (hE4.below.block _ (lt_of_block HZ3.out)).trans HZ3.out
      have HZ := Lib.hid hz
      replace t3 := Ext.cellE t3 hE4
      have z0 := cell_of (i := 0) hz rfl
      have z1 := cell_of (i := 1) hz rfl
      have z2 := cell_of (i := 2) hz rfl
      have z3 := cell_of (i := 3) hz rfl
      have z4 := cell_of (i := 4) hz rfl
      have zf : ∀ i, w4.frozen? ⟨w.heap.size, i, none⟩ = false := fun i => free_of hz
      have hbl := HBL.out
      clear hw4 hE4 hz
      go_region
      all_goals
        go_wp2
        obtain ⟨W', hW', h3, h4, h5⟩ := put5n HZ.out rfl (.int .i64 0) (.int .i64 0) (.string { data := #[] }) (.int .i64 0) (.slice none 0 0)
        rw [hW']
        clear z0 z1 z2 z3 z4 zf
        have z0 := cell_of (i := 0) h3 rfl
        have z1 := cell_of (i := 1) h3 rfl
        have z2 := cell_of (i := 2) h3 rfl
        have z3 := cell_of (i := 3) h3 rfl
        have z4 := cell_of (i := 4) h3 rfl
        have hXW : Ext w W' := Below.trans HX.out (h4 _ (Nat.le_refl _))
        exact bodyPost_ret (v := .tuple #[.agg #[.int .i64 0, .int .i64 0, .string { data := #[] }, .int .i64 0, .slice none 0 0], .int .i64 tp, .int .i64 3]) (by simp [results, Tryz.f11, go_sem, z0, z1, z2, z3, z4]) rfl ⟨none, 0, by rw [HP.out]; rfl, by rw [HP.out]; exact AtB_leaf _ _ _ exZ_fits, hXW.below.drew⟩
    | ok x k =>
      have HKL := Lib.hid (show k < l.length from by have h1 : k ≤ ts.length := HB.out; have := HLN.out; have := HN.out; omega)
      have HCK := Lib.hid (fun W q cc (hA : Ex.At W q x) => Check_any x q cc W hA)
      have HPX := Lib.hid (show pr = if (l[k]'HKL.out).kind ≠ 0 then (exZ, (l[k]'HKL.out).pos, 3) else if x.chk ≠ 0 then (exZ, 0, x.chk) else (x, 0, 0) from by rw [HP.out]; unfold psL; dsimp only; rw [getD_at HKL.out])
      clear HP
      obtain ⟨ck, hck⟩ : ∃ c, x.chk = c := ⟨_, rfl⟩
      rw [hck] at HPX HCK
      have HCKX := Lib.hid hck
      clear hck
      obtain ⟨k1, o1, n1, v1, es⟩ := x
      go_wp2_with fail
      refine (KCL.out _).mono ?_
      rintro _ _ ⟨rfl, rfl⟩
      go_wp2_with fail
      refine (KR.out _ (Below.refl _ _)).mono ?_
      rintro _ w3 ⟨q, cc, rfl, hA, hE3⟩
      dsimp only [Ex.val, Ex.kind, Ex.op, Ex.name, Ex.value, Ex.args]
      obtain ⟨m, hm⟩ : ∃ m, es.length = m := ⟨_, rfl⟩
      rw [hm]
      have HM := Lib.hid hm
      have HA := Lib.hid hA
      have HX3 := Lib.hid (Ext.trans HX2.out hE3)
      have HS2 := Lib.hid HX2.out.size
      have HZ3 := Lib.hid ((hE3.below.block _ (lt_of_block HZ2.out)).trans HZ2.out)
      have htr3 := HTR.out.ext hE3
      obtain ⟨b', off', hp, t0, t1, t2, t3⟩ := htr3 k HKL.out
      cases hp
      have hk9 : k < n := by have := HKL.out; have := HN.out; omega
      have hkn : (k : Int) < (n : Int) := by omega
      have hk0 : (0 : Int) ≤ (k : Int) := by omega
      generalize (l[k]'HKL.out).pos = tp at *
      generalize (l[k]'HKL.out).kind = tk at *
      clear hE3 htr3 t1 t2 hA hm
      have HT3 := Lib.hid t3
      have t0 := Ext.cellE t0 (ext_alloc w3 (.cells #[.int .i64 k1, .int .i64 o1, sV n1, .int .i64 v1, .slice q m cc] 25))
      by_cases hkz : tk = 0
      · subst hkz
        rw [if_neg (by simp)] at HPX
        clear t3
        go_upto_region 7 with fail
        obtain ⟨w4, hw4⟩ : ∃ W, w3.alloc (.cells #[.int .i64 k1, .int .i64 o1, sV n1, .int .i64 v1, .slice q m cc] 25) = W := ⟨_, rfl⟩
        have hE4 : Ext w3 w4 := by rw [← hw4]; exact ext_alloc _ _
        have HB4 := Lib.hid (show w4.heap[w3.heap.size]? = some (.cells #[.int .i64 k1, .int .i64 o1, sV n1, .int .i64 v1, .slice q m cc] 25 (0, 0)) from by rw [← hw4]; exact alloc_here _ _)
        have HX4 := Lib.hid (Ext.trans HX3.out hE4)
        have HZ4 := Lib.hid ((hE4.below.block _ (lt_of_block HZ3.out)).trans HZ3.out)
        have HA4 := Lib.hid (HA.out.ext hE4)
        rw [hw4]
        clear hw4 hE4 t0
        have KK := Lib.hid (show Gives Tryz.prog 36 #[.agg #[.int .i64 k1, .int .i64 o1, sV n1, .int .i64 v1, .slice q m cc]] w4 (.int .i64 ck) from by
          have := HCK.out w4 q cc HA4.out.at
          rw [← HM.out]; exact this)
        have y0 := cell_of (i := 0) HB4.out rfl
        have y1 := cell_of (i := 1) HB4.out rfl
        have y2 := cell_of (i := 2) HB4.out rfl
        have y3 := cell_of (i := 3) HB4.out rfl
        have y4 := cell_of (i := 4) HB4.out rfl
        go_wp2_with fail
        refine (show Gives _ _ _ _ _ from KK.out).mono ?_
        intro w5 hE
        replace hE : Ext w4 w5 := hE
        have HX := Lib.hid (Ext.trans HX4.out hE)
        have HZ := Lib.hid ((hE.below.block _ (lt_of_block HZ4.out)).trans HZ4.out)
        have HB5 := Lib.hid ((hE.below.block _ (lt_of_block HB4.out)).trans HB4.out)
        have HA5 := Lib.hid (HA4.out.ext hE)
        clear hE y0 y1 y2 y3 y4
        by_cases hc0 : ck = 0
        · subst hc0
          have HP := Lib.hid (show pr = (.mk k1 o1 n1 v1 es, 0, 0) from by rw [HPX.out]; simp)
          have y0 := cell_of (i := 0) HB5.out rfl
          have y1 := cell_of (i := 1) HB5.out rfl
          have y2 := cell_of (i := 2) HB5.out rfl
          have y3 := cell_of (i := 3) HB5.out rfl
          have y4 := cell_of (i := 4) HB5.out rfl
          have z0 := cell_of (i := 0) HZ.out rfl
          have z1 := cell_of (i := 1) HZ.out rfl
          have z2 := cell_of (i := 2) HZ.out rfl
          have z3 := cell_of (i := 3) HZ.out rfl
          have z4 := cell_of (i := 4) HZ.out rfl
          have zf : ∀ i, w5.frozen? ⟨w.heap.size, i, none⟩ = false := fun i => free_of HZ.out
          go_wp2
          clear y0 y1 y2 y3 y4
          obtain ⟨W', hW', h3, h4, h5⟩ := put5n HZ.out rfl (.int .i64 k1) (.int .i64 o1) (sV n1) (.int .i64 v1) (.slice q m cc)
          rw [hW']
          clear z0 z1 z2 z3 z4 zf
          have z0 := cell_of (i := 0) h3 rfl
          have z1 := cell_of (i := 1) h3 rfl
          have z2 := cell_of (i := 2) h3 rfl
          have z3 := cell_of (i := 3) h3 rfl
          have z4 := cell_of (i := 4) h3 rfl
          have hXW : Ext w W' := Below.trans HX.out (h4 _ (Nat.le_refl _))
          exact bodyPost_ret (v := .tuple #[.agg #[.int .i64 k1, .int .i64 o1, sV n1, .int .i64 v1, .slice q m cc], .int .i64 0, .int .i64 0]) (by simp [results, Tryz.f11, go_sem, z0, z1, z2, z3, z4]) rfl ⟨q, cc, by rw [HP.out, ← HM.out]; rfl, by rw [HP.out]; exact HA5.out.keep (fun b hb hl => ⟨Nat.le_trans HS2.out hb, h5 b (Nat.ne_of_gt (Nat.lt_of_lt_of_le (lt_of_block HZ2.out) hb))⟩), hXW⟩
        · have g1 : (ck == 0) = false := by simpa using hc0
          have g2 : (ck != 0) = true := by simpa using hc0
          have HP := Lib.hid (show pr = (exZ, 0, ck) from by rw [HPX.out, if_pos hc0])
          clear hc0
          have z0 := cell_of (i := 0) HZ.out rfl
          have z1 := cell_of (i := 1) HZ.out rfl
          have z2 := cell_of (i := 2) HZ.out rfl
          have z3 := cell_of (i := 3) HZ.out rfl
          have z4 := cell_of (i := 4) HZ.out rfl
          have zf : ∀ i, w5.frozen? ⟨w.heap.size, i, none⟩ = false := fun i => free_of HZ.out
          go_wp2
          obtain ⟨W', hW', h3, h4, h5⟩ := put5n HZ.out rfl (.int .i64 0) (.int .i64 0) (.string { data := #[] }) (.int .i64 0) (.slice none 0 0)
          rw [hW']
          clear z0 z1 z2 z3 z4 zf
          have z0 := cell_of (i := 0) h3 rfl
          have z1 := cell_of (i := 1) h3 rfl
          have z2 := cell_of (i := 2) h3 rfl
          have z3 := cell_of (i := 3) h3 rfl
          have z4 := cell_of (i := 4) h3 rfl
          have hXW : Ext w W' := Below.trans HX.out (h4 _ (Nat.le_refl _))
          exact bodyPost_ret (v := .tuple #[.agg #[.int .i64 0, .int .i64 0, .string { data := #[] }, .int .i64 0, .slice none 0 0], .int .i64 0, .int .i64 ck]) (by simp [results, Tryz.f11, go_sem, z0, z1, z2, z3, z4]) rfl ⟨none, 0, by rw [HP.out]; rfl, by rw [HP.out]; exact AtB_leaf _ _ _ exZ_fits, hXW⟩
      · have g1 : (tk == 0) = false := by simpa using hkz
        have g2 : (tk != 0) = true := by simpa using hkz
        have HP := Lib.hid (show pr = (exZ, tp, 3) from by rw [HPX.out, if_pos hkz])
        clear hkz
        go_upto_region 6 with fail
        obtain ⟨w4, hw4⟩ : ∃ W, w3.alloc (.cells #[.int .i64 k1, .int .i64 o1, sV n1, .int .i64 v1, .slice q m cc] 25) = W := ⟨_, rfl⟩
        rw [hw4]
        have hE4 : Ext w3 w4 := by rw [← hw4]; exact ext_alloc _ _
        have HX := Lib.hid (Ext.trans HX3.out hE4)
        have hz := (hE4.below.block _ (lt_of_block HZ3.out)).trans HZ3.out
        have HZ := Lib.hid hz
        replace t3 := Ext.cellE t3 hE4
        have z0 := cell_of (i := 0) hz rfl
        have z1 := cell_of (i := 1) hz rfl
        have z2 := cell_of (i := 2) hz rfl
        have z3 := cell_of (i := 3) hz rfl
        have z4 := cell_of (i := 4) hz rfl
        have zf : ∀ i, w4.frozen? ⟨w.heap.size, i, none⟩ = false := fun i => free_of hz
        have hbl := HBL.out
        clear hw4 hE4 hz
        go_region
        all_goals
          go_wp2
          obtain ⟨W', hW', h3, h4, h5⟩ := put5n HZ.out rfl (.int .i64 0) (.int .i64 0) (.string { data := #[] }) (.int .i64 0) (.slice none 0 0)
          rw [hW']
          clear z0 z1 z2 z3 z4 zf
          have z0 := cell_of (i := 0) h3 rfl
          have z1 := cell_of (i := 1) h3 rfl
          have z2 := cell_of (i := 2) h3 rfl
          have z3 := cell_of (i := 3) h3 rfl
          have z4 := cell_of (i := 4) h3 rfl
          have hXW : Ext w W' := Below.trans HX.out (h4 _ (Nat.le_refl _))
          exact bodyPost_ret (v := .tuple #[.agg #[.int .i64 0, .int .i64 0, .string { data := #[] }, .int .i64 0, .slice none 0 0], .int .i64 tp, .int .i64 3]) (by simp [results, Tryz.f11, go_sem, z0, z1, z2, z3, z4]) rfl ⟨none, 0, by rw [HP.out]; rfl, by rw [HP.out]; exact AtB_leaf _ _ _ exZ_fits, hXW.below.drew⟩
  · have HP := Lib.hid (show psR s r = (exZ, at0, er) from by unfold psR; rw [hT]; simp [he])
    obtain ⟨pr, hpr⟩ : ∃ x, psR s r = x := ⟨_, rfl⟩
    rw [hpr] at HP
    rw [hpr]
    have g1 : (er == 0) = false := by simpa using he
    have g2 : (er != 0) = true := by simpa using he
    clear hpr hT hR he hTab hM
    go_enter Tryz.func11, Tryz.ntmps11
    go_wp2_with fail
    refine (show Calls _ _ _ _ _ from KT.out).mono ?_
    rintro _ w2 ⟨v, rfl, hrow, hE⟩
    dsimp only
    obtain ⟨p, c, rfl, _, _⟩ := hrow.at
    have HX := Lib.hid (Ext.trans HX1.out hE)
    have HZ := Lib.hid ((hE.below.block _ (lt_of_block HZ1.out)).trans HZ1.out)
    clear hE hrow
    have z0 := cell_of (i := 0) HZ.out rfl
    have z1 := cell_of (i := 1) HZ.out rfl
    have z2 := cell_of (i := 2) HZ.out rfl
    have z3 := cell_of (i := 3) HZ.out rfl
    have z4 := cell_of (i := 4) HZ.out rfl
    have zf : ∀ i, w2.frozen? ⟨w.heap.size, i, none⟩ = false := fun i => free_of HZ.out
    go_wp2
    obtain ⟨W', hW', h3, h4, h5⟩ := put5n HZ.out rfl (.int .i64 0) (.int .i64 0) (.string { data := #[] }) (.int .i64 0) (.slice none 0 0)
    rw [hW']
    clear z0 z1 z2 z3 z4 zf
    have z0 := cell_of (i := 0) h3 rfl
    have z1 := cell_of (i := 1) h3 rfl
    have z2 := cell_of (i := 2) h3 rfl
    have z3 := cell_of (i := 3) h3 rfl
    have z4 := cell_of (i := 4) h3 rfl
    have hXW : Ext w W' := Below.trans HX.out (h4 _ (Nat.le_refl _))
    exact bodyPost_ret (v := .tuple #[.agg #[.int .i64 0, .int .i64 0, .string { data := #[] }, .int .i64 0, .slice none 0 0], .int .i64 at0, .int .i64 er]) (by simp [results, Tryz.f11, go_sem, z0, z1, z2, z3, z4]) rfl ⟨none, 0, by rw [HP.out]; rfl, by rw [HP.out]; exact AtB_leaf _ _ _ exZ_fits, hXW⟩
end Go.Proofs.YtmokejjndkibhaaGreatDoor

namespace Go.Proofs.YtmokejjndkibhaaGreatDoor
open Go.RowKit Go.Shelf Ex
set_option linter.unusedVariables false
set_option linter.unusedSimpArgs false

def tkEq (a b : Tk) : Bool := a.kind == b.kind && (a.text == b.text && (a.val == b.val && a.pos == b.pos))
theorem tkEq_self (a : Tk) : tkEq a a = true := by simp [tkEq]
theorem tk_neq (a1 : Int) (a2 : List UInt8) (a3 a4 b1 : Int) (b2 : List UInt8) (b3 b4 : Int) (w : World) : (binOp .neq 36 (.agg #[.int .i64 a1, sV a2, .int .i64 a3, .int .i64 a4]) (.agg #[.int .i64 b1, sV b2, .int .i64 b3, .int .i64 b4])).run Tryz.prog w = .ok (.bool (!(tkEq ⟨a1, a2, a3, a4⟩ ⟨b1, b2, b3, b4⟩))) w := by
  have hu : Tryz.prog.underlying 36 = some (.struct (Tryz.prog.fieldsOf 36)) := by kernel_rfl
  have hp : Tryz.prog.stoodInHeld 36 = false := by kernel_rfl
  have u3 := Tryz.underlying3
  have a3' := Tryz.isAgg3
  have z3 := Tryz.sizeOf3
  have u9 := Tryz.underlying9
  have a9 := Tryz.isAgg9
  have z9 := Tryz.sizeOf9
  rw [run_neq_struct, show (10000 : Nat) = 9999 + 1 from rfl, run_equalIn_agg w 9999 36 _ _ hu hp]
  simp only [Program.fieldsOf, Tryz.underlying36]
  go_simp
  unfold tkEq
  dsimp only
  cases h1 : (a1 == b1) <;> cases h2 : (a2 == b2) <;> cases h3 : (a3 == b3) <;> cases h4 : (a4 == b4) <;> simp_all
set_option maxRecDepth 100000 in
set_option maxHeartbeats 4000000 in
theorem EqT_any (l : List Tk) (p q : Option Addr) (c d : Nat) (w : World) (hP : TkRow w p l) (hQ : TkRow w q l) (hl : l.length ≤ 10000) :
    Gives Tryz.prog 31 #[.slice p l.length c, .slice q l.length d] w (.bool true) := by
  unfold Gives
  have HP := Lib.hid (fun W (hW : Ext w W) => hP.ext hW)
  have HQ := Lib.hid (fun W (hW : Ext w W) => hQ.ext hW)
  clear hP hQ
  obtain ⟨n, hn⟩ : ∃ n, l.length = n := ⟨_, rfl⟩
  rw [hn] at hl
  rw [hn]
  have HN := Lib.hid hn
  clear hn
  go_enter Tryz.func31, Tryz.ntmps31
  go_wp2
  go_loopw [13] (fun i wr => ∃ k : Nat, k ≤ n ∧ i = .int .i64 (k : Int) ∧ Ext w wr) (fun i _ => n - (intOf i).toNat)
  case atStart => exact ⟨0, Nat.zero_le _, rfl, Below.refl _ _⟩
  case round =>
    obtain ⟨k, hk, rfl, hE⟩ := hrel
    have HE := Lib.hid hE
    clear hE
    by_cases hlt : k < n
    · have hkl : k < l.length := by rw [HN.out]; exact hlt
      have HKL := Lib.hid hkl
      obtain ⟨b1, o1, hp1, c0, c1, c2, c3⟩ := HP.out wr HE.out k HKL.out
      obtain ⟨b2, o2, hp2, d0, d1, d2, d3⟩ := HQ.out wr HE.out k HKL.out
      subst hp1
      subst hp2
      clear hkl
      generalize (l[k]'HKL.out).kind = tk at *
      generalize (l[k]'HKL.out).text = tx at *
      generalize (l[k]'HKL.out).val = tv at *
      generalize (l[k]'HKL.out).pos = tp at *
      have hq := fun W => tk_neq tk tx tv tp tk tx tv tp W
      rw [tkEq_self] at hq
      have hk0 : (0 : Int) ≤ (k : Int) := by omega
      have hkn : (k : Int) < (n : Int) := by omega
      go_wp2
      go_quiet (fail)
      go_wp2
      go_roundw
      case rel => exact ⟨k + 1, by omega, by go_num, Ext.drewN' HE.out⟩
      case measure => simp [intOf]; omega
    · go_wp2
      go_ret
      exact ⟨rfl, HE.out⟩
end Go.Proofs.YtmokejjndkibhaaGreatDoor

