/- Lemmas and walks for the statements of this seat, part 7, merged from smaller texts: Substitute, both.; An expression is the same as itself; the empty expression.; Zero, Equal, and the law's same at one expression.; The plain mathematics of the encoding of integers: base 256 digits, heads. No program here.; codec.digits, codec.integer, codec.fits, codec.Int: their contracts.; codec.integer, codec.fits, codec.Int: their contracts.; The kit's contracts of strings.Builder at this seat's numbers; printed by mk_build.py.; The precedence of an expression.; The Builder's contracts that say what else is kept; WriteByte as a deferred call.; The text of an expression.; argument: an expression in brackets where it must be.; write: the text of an expression onto a Builder: numbers, names, one argument.; write: two arguments.; write and Print. -/
import Derived.RangeFuncBox
import Derived.RangeFuncLeaves
import Derived.RangeFuncNested
import Derived.Shelf.Abstract
import Derived.WalkKit
import Derived.OwnWalkIn
import Derived.TacticsInMore
import Derived.LoopNIn
import Derived.LoopIn
import Derived.Maps.AppendAt
import Derived.Lib.Hide
import Derived.Test.YtgkalcboklhdgaaDoorRows
import Derived.Outline
import Derived.Deep.DeepMust
import Derived.Laws.IdiomStrings
import Derived.Shelf.Strings.Builder1
import Derived.Defers
import Derived.Shelf.Strings.BuilderK
import Derived.StillTailTactics
import Derived.Test.YtgkalcboklhdgaaDoorPart6
import Derived.Test.YtgkalcboklhdgaaDoorPart1
import Derived.Test.YtgkalcboklhdgaaDoorPart5

namespace Go.Proofs.YtgkalcboklhdgaaDoor
open Go.RowKit
set_option linter.unusedVariables false
set_option linter.unusedSimpArgs false
open Ex

/-- what Substitute returns -/
def sbR (e : Ex) (m : List UInt8) (r : Ex) : Ex × Int :=
  if e.chk ≠ 0 ∨ r.chk ≠ 0 then (exZ, 1) else if isNm m = false then (exZ, 5) else if (mp (subOne m r) e).chk ≠ 0 then (exZ, (mp (subOne m r) e).chk) else (mp (subOne m r) e, 0)
/-- the captured boxes -/
def subK (m : List UInt8) (r : Ex) (pr : Option Addr) (cr b1 b2 : Nat) (W : World) : Prop :=
  W.heap[b1]? = some (.cells #[.int .i64 r.kind, .int .i64 r.op, sV r.name, .int .i64 r.value, .slice pr r.args.length cr] tEx (0, 0)) ∧ W.heap[b2]? = some (.cells #[sV m] 9 (0, 0))
theorem Sub1_one (m : List UInt8) (r : Ex) (pr : Option Addr) (cr b1 b2 : Nat) (w₀ : World) (hr : Ex.At w₀ pr r) :
    OneFn (subOne m r) w₀ (subK m r pr cr b1 b2) 49 #[.pointer (some ⟨b1, 0, none⟩), .pointer (some ⟨b2, 0, none⟩)] (fun _ => True) where
  ent := enters_fn Tryd.func49 (by kernel_rfl) rfl
  down := fun _ _ _ _ _ _ _ _ => trivial
  keep := fun W W' h hE => ⟨(hE.below.block b1 (lt_of_block h.1)).trans h.1, (hE.below.block b2 (lt_of_block h.2)).trans h.2⟩
  run := fun e p c W hW hK hA _ => (Sub1_any m r pr cr b1 b2 e p c W 0 9 hK.1 hK.2).mono fun x w' ⟨h1, h2⟩ => ⟨h1, r, pr, cr, by
    rw [h2]
    have : (subOne m r e).isSome = ((e.kind == 2) && (e.name == m)) := by
      unfold subOne
      by_cases h : e.kind = 2 ∧ e.name = m
      · rw [if_pos h]; simp [h.1, h.2]
      · rw [if_neg h]
        by_cases h1 : e.kind = 2
        · have h2 : (e.name == m) = false := by simpa using fun h2 => h ⟨h1, h2⟩
          simp [h2]
        · have h2 : (e.kind == 2) = false := by simpa using h1
          simp [h2]
    rw [this], fun y hy => by
    unfold subOne at hy
    by_cases h : e.kind = 2 ∧ e.name = m
    · rw [if_pos h] at hy; cases hy
      exact ⟨rfl, ((hr.toB.ext hW).ext h1).imp (fun b hb _ => .inl hb)⟩
    · rw [if_neg h] at hy; cases hy⟩
/-- four boxes -/
theorem boxes4 (w : World) (a0 a1 a2 a3 a4 s b0 b1 b2 b3 b4 c0 c1 c2 c3 c4 : Value) (T S : TypeId) :
    ((((w.alloc (.cells #[a0, a1, a2, a3, a4] T)).alloc (.cells #[s] S)).alloc (.cells #[b0, b1, b2, b3, b4] T)).alloc (.cells #[c0, c1, c2, c3, c4] T)).heap[w.heap.size]? = some (.cells #[a0, a1, a2, a3, a4] T (0, 0)) ∧
    ((((w.alloc (.cells #[a0, a1, a2, a3, a4] T)).alloc (.cells #[s] S)).alloc (.cells #[b0, b1, b2, b3, b4] T)).alloc (.cells #[c0, c1, c2, c3, c4] T)).heap[w.heap.size + 1]? = some (.cells #[s] S (0, 0)) ∧
    ((((w.alloc (.cells #[a0, a1, a2, a3, a4] T)).alloc (.cells #[s] S)).alloc (.cells #[b0, b1, b2, b3, b4] T)).alloc (.cells #[c0, c1, c2, c3, c4] T)).heap[w.heap.size + 2]? = some (.cells #[b0, b1, b2, b3, b4] T (0, 0)) ∧
    ((((w.alloc (.cells #[a0, a1, a2, a3, a4] T)).alloc (.cells #[s] S)).alloc (.cells #[b0, b1, b2, b3, b4] T)).alloc (.cells #[c0, c1, c2, c3, c4] T)).heap[w.heap.size + 3]? = some (.cells #[c0, c1, c2, c3, c4] T (0, 0)) ∧
    Ext w ((((w.alloc (.cells #[a0, a1, a2, a3, a4] T)).alloc (.cells #[s] S)).alloc (.cells #[b0, b1, b2, b3, b4] T)).alloc (.cells #[c0, c1, c2, c3, c4] T)) := by
  have k1 := alloc_here w (.cells #[a0, a1, a2, a3, a4] T)
  have k2 := alloc_here (w.alloc (.cells #[a0, a1, a2, a3, a4] T)) (.cells #[s] S)
  have k3 := alloc_here ((w.alloc (.cells #[a0, a1, a2, a3, a4] T)).alloc (.cells #[s] S)) (.cells #[b0, b1, b2, b3, b4] T)
  have k4 := alloc_here (((w.alloc (.cells #[a0, a1, a2, a3, a4] T)).alloc (.cells #[s] S)).alloc (.cells #[b0, b1, b2, b3, b4] T)) (.cells #[c0, c1, c2, c3, c4] T)
  simp only [World.size_alloc] at k2 k3 k4
  have hA : ∀ (W : World) (o : Obj) (i : Nat), i < W.heap.size → (W.alloc o).heap[i]? = W.heap[i]? := fun W o i h => Below.heap_alloc W o i h
  refine ⟨?_, ?_, ?_, k4, ((((Below.refl _ w).alloc (Nat.le_refl _) _).alloc (by simp) _).alloc (by simp <;> omega) _).alloc (by simp <;> omega) _⟩
  · rw [hA _ _ _ (by simp <;> omega), hA _ _ _ (by simp <;> omega), hA _ _ _ (by simp)]; exact k1
  · rw [hA _ _ _ (by simp <;> omega), hA _ _ _ (by simp)]; exact k2
  · rw [hA _ _ _ (by simp)]; exact k3

set_option maxRecDepth 100000 in
set_option maxHeartbeats 4000000 in
theorem Substitute_of (e : Ex) (p : Option Addr) (c : Nat) (m : List UInt8) (hm : m.length ≤ 140737488355328) (r : Ex) (pr : Option Addr) (cr : Nat) (w : World) (hA : Ex.At w p e) (hR : Ex.At w pr r) :
    Calls Tryd.prog 25 #[e.val p c, sV m, r.val pr cr] w fun x w' => Ext w w' ∧ ∃ q d, x = .returned (.tuple #[(sbR e m r).1.val q d, .int .i64 (sbR e m r).2]) ∧ Ex.At w' q (sbR e m r).1 := by
  have C1 := Lib.hid (fun W (h : Ext w W) => show Gives _ _ #[.agg #[.int .i64 e.kind, .int .i64 e.op, sV e.name, .int .i64 e.value, .slice p e.args.length c]] _ _ from Check_any e p c W (hA.below h))
  have C2 := Lib.hid (fun W (h : Ext w W) => show Gives _ _ #[.agg #[.int .i64 r.kind, .int .i64 r.op, sV r.name, .int .i64 r.value, .slice pr r.args.length cr]] _ _ from Check_any r pr cr W (hR.below h))
  have C3 := Lib.hid (fun W => isName_any m W hm)
  have C4 := Lib.hid (fun W (h : Ext w W) (hk : subK m r pr cr (w.heap.size + 2) (w.heap.size + 1) W) => show Calls Tryd.prog 43 #[.agg #[.int .i64 e.kind, .int .i64 e.op, sV e.name, .int .i64 e.value, .slice p e.args.length c], .func (.func 49) #[] #[.pointer (some ⟨w.heap.size + 2, 0, none⟩), .pointer (some ⟨w.heap.size + 1, 0, none⟩)]] W _ from mapped_any (Sub1_one m r pr cr (w.heap.size + 2) (w.heap.size + 1) w hR) e.size e (Nat.le_refl _) p c hA trivial W h hk)
  have hHT : sbR e m r = if e.chk ≠ 0 ∨ r.chk ≠ 0 then (exZ, 1) else if isNm m = false then (exZ, 5) else if (mp (subOne m r) e).chk ≠ 0 then (exZ, (mp (subOne m r) e).chk) else (mp (subOne m r) e, 0) := rfl
  generalize sbR e m r = rr at *
  generalize mp (subOne m r) e = M at *
  have C5 := Lib.hid (fun q d w₄ (hT : Ex.At w₄ q M) W (h : Ext w₄ W) => show Gives _ _ #[.agg #[.int .i64 M.kind, .int .i64 M.op, sV M.name, .int .i64 M.value, .slice q M.args.length d]] _ _ from Check_any M q d W (hT.below h))
  have hv : e.val p c = .agg #[.int .i64 e.kind, .int .i64 e.op, sV e.name, .int .i64 e.value, .slice p e.args.length c] := rfl
  have hv2 : r.val pr cr = .agg #[.int .i64 r.kind, .int .i64 r.op, sV r.name, .int .i64 r.value, .slice pr r.args.length cr] := rfl
  rw [hv, hv2]
  clear hv hv2 hA hR hm
  generalize e.kind = k1 at *
  generalize e.op = o1 at *
  generalize e.name = n1 at *
  generalize e.value = v1 at *
  generalize e.args.length = l1 at *
  generalize e.chk = f1 at *
  generalize r.chk = f2 at *
  generalize M.chk = f3 at *
  generalize isNm m = nb at *
  have HT := Lib.hid hHT
  clear hHT
  obtain ⟨hb0, hbn, hb1, hb2, hE0⟩ := boxes4 w (.int .i64 k1) (.int .i64 o1) (sV n1) (.int .i64 v1) (.slice p l1 c) (sV m) (.int .i64 r.kind) (.int .i64 r.op) (sV r.name) (.int .i64 r.value) (.slice pr r.args.length cr) (.int .i64 0) (.int .i64 0) (.string { data := #[] }) (.int .i64 0) (.slice none 0 0) tEx 9
  have HBE0 := Lib.hid hb0
  have HBR0 := Lib.hid hb1
  have HBZ0 := Lib.hid hb2
  have HBN0 := Lib.hid hbn
  have HW0 := Lib.hid hE0
  clear hb0 hb1 hb2 hE0 hbn
  have D1 := Lib.hid (C1.out _ HW0.out)
  clear C1
  by_cases h1 : f1 = 0
  · subst h1
    by_cases h2 : f2 = 0
    · subst h2
      cases nb with
      | true =>
        by_cases h3 : f3 = 0
        · subst h3
          have HR := Lib.hid (show rr = (M, 0) by rw [HT.out, if_neg (by simp), if_neg (by simp), if_neg (by simp)])
          clear HT
          go_enter Tryd.func25, Tryd.ntmps25
          obtain ⟨d0, d1, d2, d3, d4, f0⟩ := box5 HBE0.out
          obtain ⟨y0, y1, y2, y3, y4, f1⟩ := box5 HBR0.out
          obtain ⟨z0, z1, z2, z3, z4, f2⟩ := box5 HBZ0.out
          have x0 := cell_of (i := 0) HBN0.out rfl
          go_wp2_with fail
          refine (D1.out).mono ?_
          intro w1 hB
          replace hB : Ext _ w1 := hB
          have HBE1 := Lib.hid ((hB.below.block _ (lt_of_block HBE0.out)).trans HBE0.out)
          have HBR1 := Lib.hid ((hB.below.block _ (lt_of_block HBR0.out)).trans HBR0.out)
          have HBZ1 := Lib.hid ((hB.below.block _ (lt_of_block HBZ0.out)).trans HBZ0.out)
          have HBN1 := Lib.hid ((hB.below.block _ (lt_of_block HBN0.out)).trans HBN0.out)
          have HW1 := Lib.hid (Ext.trans HW0.out hB)
          clear hB
          clear d0 d1 d2 d3 d4 f0 y0 y1 y2 y3 y4 f1 z0 z1 z2 z3 z4 f2 x0
          obtain ⟨d0, d1, d2, d3, d4, f0⟩ := box5 HBE1.out
          obtain ⟨y0, y1, y2, y3, y4, f1⟩ := box5 HBR1.out
          obtain ⟨z0, z1, z2, z3, z4, f2⟩ := box5 HBZ1.out
          have x0 := cell_of (i := 0) HBN1.out rfl
          go_wp2_with fail
          refine (C2.out _ HW1.out).mono ?_
          intro w2 hB
          replace hB : Ext _ w2 := hB
          have HBE2 := Lib.hid ((hB.below.block _ (lt_of_block HBE1.out)).trans HBE1.out)
          have HBR2 := Lib.hid ((hB.below.block _ (lt_of_block HBR1.out)).trans HBR1.out)
          have HBZ2 := Lib.hid ((hB.below.block _ (lt_of_block HBZ1.out)).trans HBZ1.out)
          have HBN2 := Lib.hid ((hB.below.block _ (lt_of_block HBN1.out)).trans HBN1.out)
          have HW2 := Lib.hid (Ext.trans HW1.out hB)
          clear hB
          clear d0 d1 d2 d3 d4 f0 y0 y1 y2 y3 y4 f1 z0 z1 z2 z3 z4 f2 x0
          obtain ⟨d0, d1, d2, d3, d4, f0⟩ := box5 HBE2.out
          obtain ⟨y0, y1, y2, y3, y4, f1⟩ := box5 HBR2.out
          obtain ⟨z0, z1, z2, z3, z4, f2⟩ := box5 HBZ2.out
          have x0 := cell_of (i := 0) HBN2.out rfl
          go_wp2_with fail
          refine (C3.out _).mono ?_
          intro w3 hB
          replace hB : Ext _ w3 := hB
          have HBE3 := Lib.hid ((hB.below.block _ (lt_of_block HBE2.out)).trans HBE2.out)
          have HBR3 := Lib.hid ((hB.below.block _ (lt_of_block HBR2.out)).trans HBR2.out)
          have HBZ3 := Lib.hid ((hB.below.block _ (lt_of_block HBZ2.out)).trans HBZ2.out)
          have HBN3 := Lib.hid ((hB.below.block _ (lt_of_block HBN2.out)).trans HBN2.out)
          have HW3 := Lib.hid (Ext.trans HW2.out hB)
          clear hB
          clear d0 d1 d2 d3 d4 f0 y0 y1 y2 y3 y4 f1 z0 z1 z2 z3 z4 f2 x0
          obtain ⟨d0, d1, d2, d3, d4, f0⟩ := box5 HBE3.out
          obtain ⟨y0, y1, y2, y3, y4, f1⟩ := box5 HBR3.out
          obtain ⟨z0, z1, z2, z3, z4, f2⟩ := box5 HBZ3.out
          have x0 := cell_of (i := 0) HBN3.out rfl
          go_wp2_with fail
          refine (C4.out _ HW3.out ⟨HBR3.out, HBN3.out⟩).mono ?_
          rintro _ w4 ⟨hB, q, d, rfl, hT⟩
          replace hB : Ext _ w4 := hB
          have HBE4 := Lib.hid ((hB.below.block _ (lt_of_block HBE3.out)).trans HBE3.out)
          have HBR4 := Lib.hid ((hB.below.block _ (lt_of_block HBR3.out)).trans HBR3.out)
          have HBZ4 := Lib.hid ((hB.below.block _ (lt_of_block HBZ3.out)).trans HBZ3.out)
          have HBN4 := Lib.hid ((hB.below.block _ (lt_of_block HBN3.out)).trans HBN3.out)
          have HW4 := Lib.hid (Ext.trans HW3.out hB)
          clear hB
          clear d0 d1 d2 d3 d4 f0 y0 y1 y2 y3 y4 f1 z0 z1 z2 z3 z4 f2 x0
          have HL4 := Lib.hid (show AtB (fun b => b < w.heap.size ∨ w3.heap.size ≤ b) w4 q M from hT)
          have HS3 := Lib.hid (lt_of_block HBZ3.out)
          have HS4 := Lib.hid (lt_of_block HBZ4.out)
          have D5 := Lib.hid (C5.out q d w4 hT.at)
          clear hT
          unfold Ex.val
          obtain ⟨d0, d1, d2, d3, d4, f0⟩ := box5 HBE4.out
          obtain ⟨y0, y1, y2, y3, y4, f1⟩ := box5 HBR4.out
          obtain ⟨z0, z1, z2, z3, z4, f2⟩ := box5 HBZ4.out
          have x0 := cell_of (i := 0) HBN4.out rfl
          go_wp2_with fail
          refine (D5.out _ ((Below.refl _ w4).alloc (Nat.le_refl _) _)).mono ?_
          intro w5 hB
          replace hB : Ext _ w5 := hB
          have hM := (hB.below.block _ (lt_of_block (alloc_here w4 (.cells #[.int .i64 M.kind, .int .i64 M.op, sV M.name, .int .i64 M.value, .slice q M.args.length d] tEx)))).trans (alloc_here w4 (.cells #[.int .i64 M.kind, .int .i64 M.op, sV M.name, .int .i64 M.value, .slice q M.args.length d] tEx))
          replace hB : Ext w4 w5 := Ext.trans ((Below.refl _ w4).alloc (Nat.le_refl _) _) hB
          have HB5 := Lib.hid hB
          have HBE5 := Lib.hid ((hB.below.block _ (lt_of_block HBE4.out)).trans HBE4.out)
          have HBR5 := Lib.hid ((hB.below.block _ (lt_of_block HBR4.out)).trans HBR4.out)
          have HBZ5 := Lib.hid ((hB.below.block _ (lt_of_block HBZ4.out)).trans HBZ4.out)
          have HBN5 := Lib.hid ((hB.below.block _ (lt_of_block HBN4.out)).trans HBN4.out)
          have HW5 := Lib.hid (Ext.trans HW4.out hB)
          clear hB
          clear d0 d1 d2 d3 d4 f0 y0 y1 y2 y3 y4 f1 z0 z1 z2 z3 z4 f2 x0
          have HM5 := Lib.hid hM
          clear hM
          obtain ⟨q0, q1, q2, q3, q4, qf⟩ := box5 HM5.out
          obtain ⟨d0, d1, d2, d3, d4, f0⟩ := box5 HBE5.out
          obtain ⟨y0, y1, y2, y3, y4, f1⟩ := box5 HBR5.out
          obtain ⟨z0, z1, z2, z3, z4, f2⟩ := box5 HBZ5.out
          have x0 := cell_of (i := 0) HBN5.out rfl
          go_wp2
          obtain ⟨V, hV, g0, g1, g2, g3, g4, h4, h5⟩ := put5b HBZ5.out (.int .i64 M.kind) (.int .i64 M.op) (sV M.name) (.int .i64 M.value) (.slice q M.args.length d)
          rw [hV]
          have hs3 := HS3.out
          exact bodyPost_ret (v := .tuple #[.agg #[.int .i64 M.kind, .int .i64 M.op, sV M.name, .int .i64 M.value, .slice q M.args.length d], .int .i64 0]) (by simp [results, Tryd.f25, go_sem, g0, g1, g2, g3, g4, sB_nil]) rfl ⟨Below.trans HW5.out (h4 _ (by omega)), q, d, by rw [HR.out]; rfl, by
            rw [HR.out]
            exact ((HL4.out.ext HB5.out).keep (S' := fun _ => True) (fun b hb hb2 => ⟨trivial, h5 b (by omega)⟩)).at⟩
        · have hg : (f3 == 0) = false := by simpa using h3
          have hg2 : (f3 != 0) = true := by simpa using h3
          have HR := Lib.hid (show rr = (exZ, f3) by rw [HT.out, if_neg (by simp), if_neg (by simp), if_pos h3])
          clear HT h3
          go_enter Tryd.func25, Tryd.ntmps25
          obtain ⟨d0, d1, d2, d3, d4, f0⟩ := box5 HBE0.out
          obtain ⟨y0, y1, y2, y3, y4, f1⟩ := box5 HBR0.out
          obtain ⟨z0, z1, z2, z3, z4, f2⟩ := box5 HBZ0.out
          have x0 := cell_of (i := 0) HBN0.out rfl
          go_wp2_with fail
          refine (D1.out).mono ?_
          intro w1 hB
          replace hB : Ext _ w1 := hB
          have HBE1 := Lib.hid ((hB.below.block _ (lt_of_block HBE0.out)).trans HBE0.out)
          have HBR1 := Lib.hid ((hB.below.block _ (lt_of_block HBR0.out)).trans HBR0.out)
          have HBZ1 := Lib.hid ((hB.below.block _ (lt_of_block HBZ0.out)).trans HBZ0.out)
          have HBN1 := Lib.hid ((hB.below.block _ (lt_of_block HBN0.out)).trans HBN0.out)
          have HW1 := Lib.hid (Ext.trans HW0.out hB)
          clear hB
          clear d0 d1 d2 d3 d4 f0 y0 y1 y2 y3 y4 f1 z0 z1 z2 z3 z4 f2 x0
          obtain ⟨d0, d1, d2, d3, d4, f0⟩ := box5 HBE1.out
          obtain ⟨y0, y1, y2, y3, y4, f1⟩ := box5 HBR1.out
          obtain ⟨z0, z1, z2, z3, z4, f2⟩ := box5 HBZ1.out
          have x0 := cell_of (i := 0) HBN1.out rfl
          go_wp2_with fail
          refine (C2.out _ HW1.out).mono ?_
          intro w2 hB
          replace hB : Ext _ w2 := hB
          have HBE2 := Lib.hid ((hB.below.block _ (lt_of_block HBE1.out)).trans HBE1.out)
          have HBR2 := Lib.hid ((hB.below.block _ (lt_of_block HBR1.out)).trans HBR1.out)
          have HBZ2 := Lib.hid ((hB.below.block _ (lt_of_block HBZ1.out)).trans HBZ1.out)
          have HBN2 := Lib.hid ((hB.below.block _ (lt_of_block HBN1.out)).trans HBN1.out)
          have HW2 := Lib.hid (Ext.trans HW1.out hB)
          clear hB
          clear d0 d1 d2 d3 d4 f0 y0 y1 y2 y3 y4 f1 z0 z1 z2 z3 z4 f2 x0
          obtain ⟨d0, d1, d2, d3, d4, f0⟩ := box5 HBE2.out
          obtain ⟨y0, y1, y2, y3, y4, f1⟩ := box5 HBR2.out
          obtain ⟨z0, z1, z2, z3, z4, f2⟩ := box5 HBZ2.out
          have x0 := cell_of (i := 0) HBN2.out rfl
          go_wp2_with fail
          refine (C3.out _).mono ?_
          intro w3 hB
          replace hB : Ext _ w3 := hB
          have HBE3 := Lib.hid ((hB.below.block _ (lt_of_block HBE2.out)).trans HBE2.out)
          have HBR3 := Lib.hid ((hB.below.block _ (lt_of_block HBR2.out)).trans HBR2.out)
          have HBZ3 := Lib.hid ((hB.below.block _ (lt_of_block HBZ2.out)).trans HBZ2.out)
          have HBN3 := Lib.hid ((hB.below.block _ (lt_of_block HBN2.out)).trans HBN2.out)
          have HW3 := Lib.hid (Ext.trans HW2.out hB)
          clear hB
          clear d0 d1 d2 d3 d4 f0 y0 y1 y2 y3 y4 f1 z0 z1 z2 z3 z4 f2 x0
          obtain ⟨d0, d1, d2, d3, d4, f0⟩ := box5 HBE3.out
          obtain ⟨y0, y1, y2, y3, y4, f1⟩ := box5 HBR3.out
          obtain ⟨z0, z1, z2, z3, z4, f2⟩ := box5 HBZ3.out
          have x0 := cell_of (i := 0) HBN3.out rfl
          go_wp2_with fail
          refine (C4.out _ HW3.out ⟨HBR3.out, HBN3.out⟩).mono ?_
          rintro _ w4 ⟨hB, q, d, rfl, hT⟩
          replace hB : Ext _ w4 := hB
          have HBE4 := Lib.hid ((hB.below.block _ (lt_of_block HBE3.out)).trans HBE3.out)
          have HBR4 := Lib.hid ((hB.below.block _ (lt_of_block HBR3.out)).trans HBR3.out)
          have HBZ4 := Lib.hid ((hB.below.block _ (lt_of_block HBZ3.out)).trans HBZ3.out)
          have HBN4 := Lib.hid ((hB.below.block _ (lt_of_block HBN3.out)).trans HBN3.out)
          have HW4 := Lib.hid (Ext.trans HW3.out hB)
          clear hB
          clear d0 d1 d2 d3 d4 f0 y0 y1 y2 y3 y4 f1 z0 z1 z2 z3 z4 f2 x0
          have HL4 := Lib.hid (show AtB (fun b => b < w.heap.size ∨ w3.heap.size ≤ b) w4 q M from hT)
          have HS3 := Lib.hid (lt_of_block HBZ3.out)
          have HS4 := Lib.hid (lt_of_block HBZ4.out)
          have D5 := Lib.hid (C5.out q d w4 hT.at)
          clear hT
          unfold Ex.val
          obtain ⟨d0, d1, d2, d3, d4, f0⟩ := box5 HBE4.out
          obtain ⟨y0, y1, y2, y3, y4, f1⟩ := box5 HBR4.out
          obtain ⟨z0, z1, z2, z3, z4, f2⟩ := box5 HBZ4.out
          have x0 := cell_of (i := 0) HBN4.out rfl
          go_wp2_with fail
          refine (D5.out _ ((Below.refl _ w4).alloc (Nat.le_refl _) _)).mono ?_
          intro w5 hB
          replace hB : Ext _ w5 := hB
          have hM := (hB.below.block _ (lt_of_block (alloc_here w4 (.cells #[.int .i64 M.kind, .int .i64 M.op, sV M.name, .int .i64 M.value, .slice q M.args.length d] tEx)))).trans (alloc_here w4 (.cells #[.int .i64 M.kind, .int .i64 M.op, sV M.name, .int .i64 M.value, .slice q M.args.length d] tEx))
          replace hB : Ext w4 w5 := Ext.trans ((Below.refl _ w4).alloc (Nat.le_refl _) _) hB
          have HB5 := Lib.hid hB
          have HBE5 := Lib.hid ((hB.below.block _ (lt_of_block HBE4.out)).trans HBE4.out)
          have HBR5 := Lib.hid ((hB.below.block _ (lt_of_block HBR4.out)).trans HBR4.out)
          have HBZ5 := Lib.hid ((hB.below.block _ (lt_of_block HBZ4.out)).trans HBZ4.out)
          have HBN5 := Lib.hid ((hB.below.block _ (lt_of_block HBN4.out)).trans HBN4.out)
          have HW5 := Lib.hid (Ext.trans HW4.out hB)
          clear hB
          clear d0 d1 d2 d3 d4 f0 y0 y1 y2 y3 y4 f1 z0 z1 z2 z3 z4 f2 x0
          have HM5 := Lib.hid hM
          clear hM
          obtain ⟨d0, d1, d2, d3, d4, f0⟩ := box5 HBE5.out
          obtain ⟨y0, y1, y2, y3, y4, f1⟩ := box5 HBR5.out
          obtain ⟨z0, z1, z2, z3, z4, f2⟩ := box5 HBZ5.out
          have x0 := cell_of (i := 0) HBN5.out rfl
          go_wp2
          obtain ⟨V, hV, g0, g1, g2, g3, g4, h4, h5⟩ := put5b HBZ5.out (.int .i64 0) (.int .i64 0) (.string { data := #[] }) (.int .i64 0) (.slice none 0 0)
          rw [hV]
          exact bodyPost_ret (v := .tuple #[.agg #[.int .i64 0, .int .i64 0, .string { data := #[] }, .int .i64 0, .slice none 0 0], .int .i64 f3]) (by simp [results, Tryd.f25, go_sem, g0, g1, g2, g3, g4, sB_nil]) rfl ⟨Below.trans HW5.out (h4 _ (by omega)), none, 0, by rw [HR.out, sV_nil]; rfl, by rw [HR.out]; exact exZ_at _ _⟩
      | false =>
        have HR := Lib.hid (show rr = (exZ, 5) by rw [HT.out, if_neg (by simp), if_pos rfl])
        clear HT C4 C5
        go_enter Tryd.func25, Tryd.ntmps25
        obtain ⟨d0, d1, d2, d3, d4, f0⟩ := box5 HBE0.out
        obtain ⟨y0, y1, y2, y3, y4, f1⟩ := box5 HBR0.out
        obtain ⟨z0, z1, z2, z3, z4, f2⟩ := box5 HBZ0.out
        have x0 := cell_of (i := 0) HBN0.out rfl
        go_wp2_with fail
        refine (D1.out).mono ?_
        intro w1 hB
        replace hB : Ext _ w1 := hB
        have HBE1 := Lib.hid ((hB.below.block _ (lt_of_block HBE0.out)).trans HBE0.out)
        have HBR1 := Lib.hid ((hB.below.block _ (lt_of_block HBR0.out)).trans HBR0.out)
        have HBZ1 := Lib.hid ((hB.below.block _ (lt_of_block HBZ0.out)).trans HBZ0.out)
        have HBN1 := Lib.hid ((hB.below.block _ (lt_of_block HBN0.out)).trans HBN0.out)
        have HW1 := Lib.hid (Ext.trans HW0.out hB)
        clear hB
        clear d0 d1 d2 d3 d4 f0 y0 y1 y2 y3 y4 f1 z0 z1 z2 z3 z4 f2 x0
        obtain ⟨d0, d1, d2, d3, d4, f0⟩ := box5 HBE1.out
        obtain ⟨y0, y1, y2, y3, y4, f1⟩ := box5 HBR1.out
        obtain ⟨z0, z1, z2, z3, z4, f2⟩ := box5 HBZ1.out
        have x0 := cell_of (i := 0) HBN1.out rfl
        go_wp2_with fail
        refine (C2.out _ HW1.out).mono ?_
        intro w2 hB
        replace hB : Ext _ w2 := hB
        have HBE2 := Lib.hid ((hB.below.block _ (lt_of_block HBE1.out)).trans HBE1.out)
        have HBR2 := Lib.hid ((hB.below.block _ (lt_of_block HBR1.out)).trans HBR1.out)
        have HBZ2 := Lib.hid ((hB.below.block _ (lt_of_block HBZ1.out)).trans HBZ1.out)
        have HBN2 := Lib.hid ((hB.below.block _ (lt_of_block HBN1.out)).trans HBN1.out)
        have HW2 := Lib.hid (Ext.trans HW1.out hB)
        clear hB
        clear d0 d1 d2 d3 d4 f0 y0 y1 y2 y3 y4 f1 z0 z1 z2 z3 z4 f2 x0
        obtain ⟨d0, d1, d2, d3, d4, f0⟩ := box5 HBE2.out
        obtain ⟨y0, y1, y2, y3, y4, f1⟩ := box5 HBR2.out
        obtain ⟨z0, z1, z2, z3, z4, f2⟩ := box5 HBZ2.out
        have x0 := cell_of (i := 0) HBN2.out rfl
        go_wp2_with fail
        refine (C3.out _).mono ?_
        intro w3 hB
        replace hB : Ext _ w3 := hB
        have HBE3 := Lib.hid ((hB.below.block _ (lt_of_block HBE2.out)).trans HBE2.out)
        have HBR3 := Lib.hid ((hB.below.block _ (lt_of_block HBR2.out)).trans HBR2.out)
        have HBZ3 := Lib.hid ((hB.below.block _ (lt_of_block HBZ2.out)).trans HBZ2.out)
        have HBN3 := Lib.hid ((hB.below.block _ (lt_of_block HBN2.out)).trans HBN2.out)
        have HW3 := Lib.hid (Ext.trans HW2.out hB)
        clear hB
        clear d0 d1 d2 d3 d4 f0 y0 y1 y2 y3 y4 f1 z0 z1 z2 z3 z4 f2 x0
        obtain ⟨d0, d1, d2, d3, d4, f0⟩ := box5 HBE3.out
        obtain ⟨y0, y1, y2, y3, y4, f1⟩ := box5 HBR3.out
        obtain ⟨z0, z1, z2, z3, z4, f2⟩ := box5 HBZ3.out
        have x0 := cell_of (i := 0) HBN3.out rfl
        go_wp2
        obtain ⟨V, hV, g0, g1, g2, g3, g4, h4, h5⟩ := put5b HBZ3.out (.int .i64 0) (.int .i64 0) (.string { data := #[] }) (.int .i64 0) (.slice none 0 0)
        rw [hV]
        exact bodyPost_ret (v := .tuple #[.agg #[.int .i64 0, .int .i64 0, .string { data := #[] }, .int .i64 0, .slice none 0 0], .int .i64 5]) (by simp [results, Tryd.f25, go_sem, g0, g1, g2, g3, g4, sB_nil]) rfl ⟨Below.trans HW3.out (h4 _ (by omega)), none, 0, by rw [HR.out, sV_nil]; rfl, by rw [HR.out]; exact exZ_at _ _⟩
    · have hg : (f2 == 0) = false := by simpa using h2
      have hg2 : (f2 != 0) = true := by simpa using h2
      have HR := Lib.hid (show rr = (exZ, 1) by rw [HT.out, if_pos (.inr h2)])
      clear HT C3 C4 C5 h2
      go_enter Tryd.func25, Tryd.ntmps25
      obtain ⟨d0, d1, d2, d3, d4, f0⟩ := box5 HBE0.out
      obtain ⟨y0, y1, y2, y3, y4, f1⟩ := box5 HBR0.out
      obtain ⟨z0, z1, z2, z3, z4, f2⟩ := box5 HBZ0.out
      have x0 := cell_of (i := 0) HBN0.out rfl
      go_wp2_with fail
      refine (D1.out).mono ?_
      intro w1 hB
      replace hB : Ext _ w1 := hB
      have HBE1 := Lib.hid ((hB.below.block _ (lt_of_block HBE0.out)).trans HBE0.out)
      have HBR1 := Lib.hid ((hB.below.block _ (lt_of_block HBR0.out)).trans HBR0.out)
      have HBZ1 := Lib.hid ((hB.below.block _ (lt_of_block HBZ0.out)).trans HBZ0.out)
      have HBN1 := Lib.hid ((hB.below.block _ (lt_of_block HBN0.out)).trans HBN0.out)
      have HW1 := Lib.hid (Ext.trans HW0.out hB)
      clear hB
      clear d0 d1 d2 d3 d4 f0 y0 y1 y2 y3 y4 f1 z0 z1 z2 z3 z4 f2 x0
      obtain ⟨d0, d1, d2, d3, d4, f0⟩ := box5 HBE1.out
      obtain ⟨y0, y1, y2, y3, y4, f1⟩ := box5 HBR1.out
      obtain ⟨z0, z1, z2, z3, z4, f2⟩ := box5 HBZ1.out
      have x0 := cell_of (i := 0) HBN1.out rfl
      go_wp2_with fail
      refine (C2.out _ HW1.out).mono ?_
      intro w2 hB
      replace hB : Ext _ w2 := hB
      have HBE2 := Lib.hid ((hB.below.block _ (lt_of_block HBE1.out)).trans HBE1.out)
      have HBR2 := Lib.hid ((hB.below.block _ (lt_of_block HBR1.out)).trans HBR1.out)
      have HBZ2 := Lib.hid ((hB.below.block _ (lt_of_block HBZ1.out)).trans HBZ1.out)
      have HBN2 := Lib.hid ((hB.below.block _ (lt_of_block HBN1.out)).trans HBN1.out)
      have HW2 := Lib.hid (Ext.trans HW1.out hB)
      clear hB
      clear d0 d1 d2 d3 d4 f0 y0 y1 y2 y3 y4 f1 z0 z1 z2 z3 z4 f2 x0
      obtain ⟨d0, d1, d2, d3, d4, f0⟩ := box5 HBE2.out
      obtain ⟨y0, y1, y2, y3, y4, f1⟩ := box5 HBR2.out
      obtain ⟨z0, z1, z2, z3, z4, f2⟩ := box5 HBZ2.out
      have x0 := cell_of (i := 0) HBN2.out rfl
      go_wp2
      obtain ⟨V, hV, g0, g1, g2, g3, g4, h4, h5⟩ := put5b HBZ2.out (.int .i64 0) (.int .i64 0) (.string { data := #[] }) (.int .i64 0) (.slice none 0 0)
      rw [hV]
      exact bodyPost_ret (v := .tuple #[.agg #[.int .i64 0, .int .i64 0, .string { data := #[] }, .int .i64 0, .slice none 0 0], .int .i64 1]) (by simp [results, Tryd.f25, go_sem, g0, g1, g2, g3, g4, sB_nil]) rfl ⟨Below.trans HW2.out (h4 _ (by omega)), none, 0, by rw [HR.out, sV_nil]; rfl, by rw [HR.out]; exact exZ_at _ _⟩
  · have hg : (f1 == 0) = false := by simpa using h1
    have hg2 : (f1 != 0) = true := by simpa using h1
    have HR := Lib.hid (show rr = (exZ, 1) by rw [HT.out, if_pos (.inl h1)])
    clear HT C2 C3 C4 C5 h1
    go_enter Tryd.func25, Tryd.ntmps25
    obtain ⟨d0, d1, d2, d3, d4, f0⟩ := box5 HBE0.out
    obtain ⟨y0, y1, y2, y3, y4, f1⟩ := box5 HBR0.out
    obtain ⟨z0, z1, z2, z3, z4, f2⟩ := box5 HBZ0.out
    have x0 := cell_of (i := 0) HBN0.out rfl
    go_wp2_with fail
    refine (D1.out).mono ?_
    intro w1 hB
    replace hB : Ext _ w1 := hB
    have HBE1 := Lib.hid ((hB.below.block _ (lt_of_block HBE0.out)).trans HBE0.out)
    have HBR1 := Lib.hid ((hB.below.block _ (lt_of_block HBR0.out)).trans HBR0.out)
    have HBZ1 := Lib.hid ((hB.below.block _ (lt_of_block HBZ0.out)).trans HBZ0.out)
    have HBN1 := Lib.hid ((hB.below.block _ (lt_of_block HBN0.out)).trans HBN0.out)
    have HW1 := Lib.hid (Ext.trans HW0.out hB)
    clear hB
    clear d0 d1 d2 d3 d4 f0 y0 y1 y2 y3 y4 f1 z0 z1 z2 z3 z4 f2 x0
    obtain ⟨d0, d1, d2, d3, d4, f0⟩ := box5 HBE1.out
    obtain ⟨y0, y1, y2, y3, y4, f1⟩ := box5 HBR1.out
    obtain ⟨z0, z1, z2, z3, z4, f2⟩ := box5 HBZ1.out
    have x0 := cell_of (i := 0) HBN1.out rfl
    go_wp2
    obtain ⟨V, hV, g0, g1, g2, g3, g4, h4, h5⟩ := put5b HBZ1.out (.int .i64 0) (.int .i64 0) (.string { data := #[] }) (.int .i64 0) (.slice none 0 0)
    rw [hV]
    exact bodyPost_ret (v := .tuple #[.agg #[.int .i64 0, .int .i64 0, .string { data := #[] }, .int .i64 0, .slice none 0 0], .int .i64 1]) (by simp [results, Tryd.f25, go_sem, g0, g1, g2, g3, g4, sB_nil]) rfl ⟨Below.trans HW1.out (h4 _ (by omega)), none, 0, by rw [HR.out, sV_nil]; rfl, by rw [HR.out]; exact exZ_at _ _⟩

set_option maxRecDepth 100000 in
set_option maxHeartbeats 4000000 in
theorem refSubstitute_of (e : Ex) (p : Option Addr) (c : Nat) (m : List UInt8) (hm : m.length ≤ 140737488355328) (r : Ex) (pr : Option Addr) (cr : Nat) (w : World) (hA : Ex.At w p e) (hR : Ex.At w pr r) :
    Calls Tryd.prog 26 #[e.val p c, sV m, r.val pr cr] w fun x w' => Ext w w' ∧ ∃ q d, x = .returned (.tuple #[(sbR e m r).1.val q d, .int .i64 (sbR e m r).2]) ∧ Ex.At w' q (sbR e m r).1 := by
  have C1 := Lib.hid (fun W (h : Ext w W) => show Gives _ _ #[.agg #[.int .i64 e.kind, .int .i64 e.op, sV e.name, .int .i64 e.value, .slice p e.args.length c]] _ _ from refChk_any e p c W (hA.below h))
  have C2 := Lib.hid (fun W (h : Ext w W) => show Gives _ _ #[.agg #[.int .i64 r.kind, .int .i64 r.op, sV r.name, .int .i64 r.value, .slice pr r.args.length cr]] _ _ from refChk_any r pr cr W (hR.below h))
  have C3 := Lib.hid (fun W => IsName_any m W)
  have C4 := Lib.hid (fun W (h : Ext w W) => show Calls Tryd.prog 50 #[.agg #[.int .i64 e.kind, .int .i64 e.op, sV e.name, .int .i64 e.value, .slice p e.args.length c], sV m, .agg #[.int .i64 r.kind, .int .i64 r.op, sV r.name, .int .i64 r.value, .slice pr r.args.length cr]] W _ from replaced_any w m r pr cr hR e.size e (Nat.le_refl _) p c hA W h)
  have hHT : sbR e m r = if e.chk ≠ 0 ∨ r.chk ≠ 0 then (exZ, 1) else if isNm m = false then (exZ, 5) else if (mp (subOne m r) e).chk ≠ 0 then (exZ, (mp (subOne m r) e).chk) else (mp (subOne m r) e, 0) := rfl
  generalize sbR e m r = rr at *
  generalize mp (subOne m r) e = M at *
  have C5 := Lib.hid (fun q d w₄ (hT : Ex.At w₄ q M) W (h : Ext w₄ W) => show Gives _ _ #[.agg #[.int .i64 M.kind, .int .i64 M.op, sV M.name, .int .i64 M.value, .slice q M.args.length d]] _ _ from refChk_any M q d W (hT.below h))
  have hv : e.val p c = .agg #[.int .i64 e.kind, .int .i64 e.op, sV e.name, .int .i64 e.value, .slice p e.args.length c] := rfl
  have hv2 : r.val pr cr = .agg #[.int .i64 r.kind, .int .i64 r.op, sV r.name, .int .i64 r.value, .slice pr r.args.length cr] := rfl
  rw [hv, hv2]
  clear hv hv2 hA hR hm
  generalize e.kind = k1 at *
  generalize e.op = o1 at *
  generalize e.name = n1 at *
  generalize e.value = v1 at *
  generalize e.args.length = l1 at *
  generalize e.chk = f1 at *
  generalize r.chk = f2 at *
  generalize M.chk = f3 at *
  generalize isNm m = nb at *
  have HT := Lib.hid hHT
  clear hHT
  obtain ⟨hb0, hb1, hb2, hE0⟩ := three_boxes w (.int .i64 k1) (.int .i64 o1) (sV n1) (.int .i64 v1) (.slice p l1 c) (.int .i64 r.kind) (.int .i64 r.op) (sV r.name) (.int .i64 r.value) (.slice pr r.args.length cr) (.int .i64 0) (.int .i64 0) (.string { data := #[] }) (.int .i64 0) (.slice none 0 0) tEx
  have HBE0 := Lib.hid hb0
  have HBR0 := Lib.hid hb1
  have HBZ0 := Lib.hid hb2
  have HW0 := Lib.hid hE0
  clear hb0 hb1 hb2 hE0
  have D1 := Lib.hid (C1.out _ HW0.out)
  clear C1
  by_cases h1 : f1 = 0
  · subst h1
    by_cases h2 : f2 = 0
    · subst h2
      cases nb with
      | true =>
        by_cases h3 : f3 = 0
        · subst h3
          have HR := Lib.hid (show rr = (M, 0) by rw [HT.out, if_neg (by simp), if_neg (by simp), if_neg (by simp)])
          clear HT
          go_enter Tryd.func26, Tryd.ntmps26
          obtain ⟨d0, d1, d2, d3, d4, f0⟩ := box5 HBE0.out
          obtain ⟨y0, y1, y2, y3, y4, f1⟩ := box5 HBR0.out
          obtain ⟨z0, z1, z2, z3, z4, f2⟩ := box5 HBZ0.out
          go_wp2_with fail
          refine (D1.out).mono ?_
          intro w1 hB
          replace hB : Ext _ w1 := hB
          have HBE1 := Lib.hid ((hB.below.block _ (lt_of_block HBE0.out)).trans HBE0.out)
          have HBR1 := Lib.hid ((hB.below.block _ (lt_of_block HBR0.out)).trans HBR0.out)
          have HBZ1 := Lib.hid ((hB.below.block _ (lt_of_block HBZ0.out)).trans HBZ0.out)
          have HW1 := Lib.hid (Ext.trans HW0.out hB)
          clear hB
          clear d0 d1 d2 d3 d4 f0 y0 y1 y2 y3 y4 f1 z0 z1 z2 z3 z4 f2
          obtain ⟨d0, d1, d2, d3, d4, f0⟩ := box5 HBE1.out
          obtain ⟨y0, y1, y2, y3, y4, f1⟩ := box5 HBR1.out
          obtain ⟨z0, z1, z2, z3, z4, f2⟩ := box5 HBZ1.out
          go_wp2_with fail
          refine (C2.out _ HW1.out).mono ?_
          intro w2 hB
          replace hB : Ext _ w2 := hB
          have HBE2 := Lib.hid ((hB.below.block _ (lt_of_block HBE1.out)).trans HBE1.out)
          have HBR2 := Lib.hid ((hB.below.block _ (lt_of_block HBR1.out)).trans HBR1.out)
          have HBZ2 := Lib.hid ((hB.below.block _ (lt_of_block HBZ1.out)).trans HBZ1.out)
          have HW2 := Lib.hid (Ext.trans HW1.out hB)
          clear hB
          clear d0 d1 d2 d3 d4 f0 y0 y1 y2 y3 y4 f1 z0 z1 z2 z3 z4 f2
          obtain ⟨d0, d1, d2, d3, d4, f0⟩ := box5 HBE2.out
          obtain ⟨y0, y1, y2, y3, y4, f1⟩ := box5 HBR2.out
          obtain ⟨z0, z1, z2, z3, z4, f2⟩ := box5 HBZ2.out
          go_wp2_with fail
          refine (C3.out _).mono ?_
          intro w3 hB
          replace hB : Ext _ w3 := hB
          have HBE3 := Lib.hid ((hB.below.block _ (lt_of_block HBE2.out)).trans HBE2.out)
          have HBR3 := Lib.hid ((hB.below.block _ (lt_of_block HBR2.out)).trans HBR2.out)
          have HBZ3 := Lib.hid ((hB.below.block _ (lt_of_block HBZ2.out)).trans HBZ2.out)
          have HW3 := Lib.hid (Ext.trans HW2.out hB)
          clear hB
          clear d0 d1 d2 d3 d4 f0 y0 y1 y2 y3 y4 f1 z0 z1 z2 z3 z4 f2
          obtain ⟨d0, d1, d2, d3, d4, f0⟩ := box5 HBE3.out
          obtain ⟨y0, y1, y2, y3, y4, f1⟩ := box5 HBR3.out
          obtain ⟨z0, z1, z2, z3, z4, f2⟩ := box5 HBZ3.out
          go_wp2_with fail
          refine (C4.out _ HW3.out).mono ?_
          rintro _ w4 ⟨hB, q, d, rfl, hT⟩
          replace hB : Ext _ w4 := hB
          have HBE4 := Lib.hid ((hB.below.block _ (lt_of_block HBE3.out)).trans HBE3.out)
          have HBR4 := Lib.hid ((hB.below.block _ (lt_of_block HBR3.out)).trans HBR3.out)
          have HBZ4 := Lib.hid ((hB.below.block _ (lt_of_block HBZ3.out)).trans HBZ3.out)
          have HW4 := Lib.hid (Ext.trans HW3.out hB)
          clear hB
          clear d0 d1 d2 d3 d4 f0 y0 y1 y2 y3 y4 f1 z0 z1 z2 z3 z4 f2
          have HL4 := Lib.hid (show AtB (fun b => b < w.heap.size ∨ w3.heap.size ≤ b) w4 q M from hT)
          have HS3 := Lib.hid (lt_of_block HBZ3.out)
          have HS4 := Lib.hid (lt_of_block HBZ4.out)
          have D5 := Lib.hid (C5.out q d w4 hT.at)
          clear hT
          unfold Ex.val
          obtain ⟨d0, d1, d2, d3, d4, f0⟩ := box5 HBE4.out
          obtain ⟨y0, y1, y2, y3, y4, f1⟩ := box5 HBR4.out
          obtain ⟨z0, z1, z2, z3, z4, f2⟩ := box5 HBZ4.out
          go_wp2_with fail
          refine (D5.out _ ((Below.refl _ w4).alloc (Nat.le_refl _) _)).mono ?_
          intro w5 hB
          replace hB : Ext _ w5 := hB
          have hM := (hB.below.block _ (lt_of_block (alloc_here w4 (.cells #[.int .i64 M.kind, .int .i64 M.op, sV M.name, .int .i64 M.value, .slice q M.args.length d] tEx)))).trans (alloc_here w4 (.cells #[.int .i64 M.kind, .int .i64 M.op, sV M.name, .int .i64 M.value, .slice q M.args.length d] tEx))
          replace hB : Ext w4 w5 := Ext.trans ((Below.refl _ w4).alloc (Nat.le_refl _) _) hB
          have HB5 := Lib.hid hB
          have HBE5 := Lib.hid ((hB.below.block _ (lt_of_block HBE4.out)).trans HBE4.out)
          have HBR5 := Lib.hid ((hB.below.block _ (lt_of_block HBR4.out)).trans HBR4.out)
          have HBZ5 := Lib.hid ((hB.below.block _ (lt_of_block HBZ4.out)).trans HBZ4.out)
          have HW5 := Lib.hid (Ext.trans HW4.out hB)
          clear hB
          clear d0 d1 d2 d3 d4 f0 y0 y1 y2 y3 y4 f1 z0 z1 z2 z3 z4 f2
          have HM5 := Lib.hid hM
          clear hM
          obtain ⟨q0, q1, q2, q3, q4, qf⟩ := box5 HM5.out
          obtain ⟨d0, d1, d2, d3, d4, f0⟩ := box5 HBE5.out
          obtain ⟨y0, y1, y2, y3, y4, f1⟩ := box5 HBR5.out
          obtain ⟨z0, z1, z2, z3, z4, f2⟩ := box5 HBZ5.out
          go_wp2
          obtain ⟨V, hV, g0, g1, g2, g3, g4, h4, h5⟩ := put5b HBZ5.out (.int .i64 M.kind) (.int .i64 M.op) (sV M.name) (.int .i64 M.value) (.slice q M.args.length d)
          rw [hV]
          have hs3 := HS3.out
          exact bodyPost_ret (v := .tuple #[.agg #[.int .i64 M.kind, .int .i64 M.op, sV M.name, .int .i64 M.value, .slice q M.args.length d], .int .i64 0]) (by simp [results, Tryd.f26, go_sem, g0, g1, g2, g3, g4, sB_nil]) rfl ⟨Below.trans HW5.out (h4 _ (by omega)), q, d, by rw [HR.out]; rfl, by
            rw [HR.out]
            exact ((HL4.out.ext HB5.out).keep (S' := fun _ => True) (fun b hb hb2 => ⟨trivial, h5 b (by omega)⟩)).at⟩
        · have hg : (f3 == 0) = false := by simpa using h3
          have hg2 : (f3 != 0) = true := by simpa using h3
          have HR := Lib.hid (show rr = (exZ, f3) by rw [HT.out, if_neg (by simp), if_neg (by simp), if_pos h3])
          clear HT h3
          go_enter Tryd.func26, Tryd.ntmps26
          obtain ⟨d0, d1, d2, d3, d4, f0⟩ := box5 HBE0.out
          obtain ⟨y0, y1, y2, y3, y4, f1⟩ := box5 HBR0.out
          obtain ⟨z0, z1, z2, z3, z4, f2⟩ := box5 HBZ0.out
          go_wp2_with fail
          refine (D1.out).mono ?_
          intro w1 hB
          replace hB : Ext _ w1 := hB
          have HBE1 := Lib.hid ((hB.below.block _ (lt_of_block HBE0.out)).trans HBE0.out)
          have HBR1 := Lib.hid ((hB.below.block _ (lt_of_block HBR0.out)).trans HBR0.out)
          have HBZ1 := Lib.hid ((hB.below.block _ (lt_of_block HBZ0.out)).trans HBZ0.out)
          have HW1 := Lib.hid (Ext.trans HW0.out hB)
          clear hB
          clear d0 d1 d2 d3 d4 f0 y0 y1 y2 y3 y4 f1 z0 z1 z2 z3 z4 f2
          obtain ⟨d0, d1, d2, d3, d4, f0⟩ := box5 HBE1.out
          obtain ⟨y0, y1, y2, y3, y4, f1⟩ := box5 HBR1.out
          obtain ⟨z0, z1, z2, z3, z4, f2⟩ := box5 HBZ1.out
          go_wp2_with fail
          refine (C2.out _ HW1.out).mono ?_
          intro w2 hB
          replace hB : Ext _ w2 := hB
          have HBE2 := Lib.hid ((hB.below.block _ (lt_of_block HBE1.out)).trans HBE1.out)
          have HBR2 := Lib.hid ((hB.below.block _ (lt_of_block HBR1.out)).trans HBR1.out)
          have HBZ2 := Lib.hid ((hB.below.block _ (lt_of_block HBZ1.out)).trans HBZ1.out)
          have HW2 := Lib.hid (Ext.trans HW1.out hB)
          clear hB
          clear d0 d1 d2 d3 d4 f0 y0 y1 y2 y3 y4 f1 z0 z1 z2 z3 z4 f2
          obtain ⟨d0, d1, d2, d3, d4, f0⟩ := box5 HBE2.out
          obtain ⟨y0, y1, y2, y3, y4, f1⟩ := box5 HBR2.out
          obtain ⟨z0, z1, z2, z3, z4, f2⟩ := box5 HBZ2.out
          go_wp2_with fail
          refine (C3.out _).mono ?_
          intro w3 hB
          replace hB : Ext _ w3 := hB
          have HBE3 := Lib.hid ((hB.below.block _ (lt_of_block HBE2.out)).trans HBE2.out)
          have HBR3 := Lib.hid ((hB.below.block _ (lt_of_block HBR2.out)).trans HBR2.out)
          have HBZ3 := Lib.hid ((hB.below.block _ (lt_of_block HBZ2.out)).trans HBZ2.out)
          have HW3 := Lib.hid (Ext.trans HW2.out hB)
          clear hB
          clear d0 d1 d2 d3 d4 f0 y0 y1 y2 y3 y4 f1 z0 z1 z2 z3 z4 f2
          obtain ⟨d0, d1, d2, d3, d4, f0⟩ := box5 HBE3.out
          obtain ⟨y0, y1, y2, y3, y4, f1⟩ := box5 HBR3.out
          obtain ⟨z0, z1, z2, z3, z4, f2⟩ := box5 HBZ3.out
          go_wp2_with fail
          refine (C4.out _ HW3.out).mono ?_
          rintro _ w4 ⟨hB, q, d, rfl, hT⟩
          replace hB : Ext _ w4 := hB
          have HBE4 := Lib.hid ((hB.below.block _ (lt_of_block HBE3.out)).trans HBE3.out)
          have HBR4 := Lib.hid ((hB.below.block _ (lt_of_block HBR3.out)).trans HBR3.out)
          have HBZ4 := Lib.hid ((hB.below.block _ (lt_of_block HBZ3.out)).trans HBZ3.out)
          have HW4 := Lib.hid (Ext.trans HW3.out hB)
          clear hB
          clear d0 d1 d2 d3 d4 f0 y0 y1 y2 y3 y4 f1 z0 z1 z2 z3 z4 f2
          have HL4 := Lib.hid (show AtB (fun b => b < w.heap.size ∨ w3.heap.size ≤ b) w4 q M from hT)
          have HS3 := Lib.hid (lt_of_block HBZ3.out)
          have HS4 := Lib.hid (lt_of_block HBZ4.out)
          have D5 := Lib.hid (C5.out q d w4 hT.at)
          clear hT
          unfold Ex.val
          obtain ⟨d0, d1, d2, d3, d4, f0⟩ := box5 HBE4.out
          obtain ⟨y0, y1, y2, y3, y4, f1⟩ := box5 HBR4.out
          obtain ⟨z0, z1, z2, z3, z4, f2⟩ := box5 HBZ4.out
          go_wp2_with fail
          refine (D5.out _ ((Below.refl _ w4).alloc (Nat.le_refl _) _)).mono ?_
          intro w5 hB
          replace hB : Ext _ w5 := hB
          have hM := (hB.below.block _ (lt_of_block (alloc_here w4 (.cells #[.int .i64 M.kind, .int .i64 M.op, sV M.name, .int .i64 M.value, .slice q M.args.length d] tEx)))).trans (alloc_here w4 (.cells #[.int .i64 M.kind, .int .i64 M.op, sV M.name, .int .i64 M.value, .slice q M.args.length d] tEx))
          replace hB : Ext w4 w5 := Ext.trans ((Below.refl _ w4).alloc (Nat.le_refl _) _) hB
          have HB5 := Lib.hid hB
          have HBE5 := Lib.hid ((hB.below.block _ (lt_of_block HBE4.out)).trans HBE4.out)
          have HBR5 := Lib.hid ((hB.below.block _ (lt_of_block HBR4.out)).trans HBR4.out)
          have HBZ5 := Lib.hid ((hB.below.block _ (lt_of_block HBZ4.out)).trans HBZ4.out)
          have HW5 := Lib.hid (Ext.trans HW4.out hB)
          clear hB
          clear d0 d1 d2 d3 d4 f0 y0 y1 y2 y3 y4 f1 z0 z1 z2 z3 z4 f2
          have HM5 := Lib.hid hM
          clear hM
          obtain ⟨d0, d1, d2, d3, d4, f0⟩ := box5 HBE5.out
          obtain ⟨y0, y1, y2, y3, y4, f1⟩ := box5 HBR5.out
          obtain ⟨z0, z1, z2, z3, z4, f2⟩ := box5 HBZ5.out
          go_wp2
          obtain ⟨V, hV, g0, g1, g2, g3, g4, h4, h5⟩ := put5b HBZ5.out (.int .i64 0) (.int .i64 0) (.string { data := #[] }) (.int .i64 0) (.slice none 0 0)
          rw [hV]
          exact bodyPost_ret (v := .tuple #[.agg #[.int .i64 0, .int .i64 0, .string { data := #[] }, .int .i64 0, .slice none 0 0], .int .i64 f3]) (by simp [results, Tryd.f26, go_sem, g0, g1, g2, g3, g4, sB_nil]) rfl ⟨Below.trans HW5.out (h4 _ (by omega)), none, 0, by rw [HR.out, sV_nil]; rfl, by rw [HR.out]; exact exZ_at _ _⟩
      | false =>
        have HR := Lib.hid (show rr = (exZ, 5) by rw [HT.out, if_neg (by simp), if_pos rfl])
        clear HT C4 C5
        go_enter Tryd.func26, Tryd.ntmps26
        obtain ⟨d0, d1, d2, d3, d4, f0⟩ := box5 HBE0.out
        obtain ⟨y0, y1, y2, y3, y4, f1⟩ := box5 HBR0.out
        obtain ⟨z0, z1, z2, z3, z4, f2⟩ := box5 HBZ0.out
        go_wp2_with fail
        refine (D1.out).mono ?_
        intro w1 hB
        replace hB : Ext _ w1 := hB
        have HBE1 := Lib.hid ((hB.below.block _ (lt_of_block HBE0.out)).trans HBE0.out)
        have HBR1 := Lib.hid ((hB.below.block _ (lt_of_block HBR0.out)).trans HBR0.out)
        have HBZ1 := Lib.hid ((hB.below.block _ (lt_of_block HBZ0.out)).trans HBZ0.out)
        have HW1 := Lib.hid (Ext.trans HW0.out hB)
        clear hB
        clear d0 d1 d2 d3 d4 f0 y0 y1 y2 y3 y4 f1 z0 z1 z2 z3 z4 f2
        obtain ⟨d0, d1, d2, d3, d4, f0⟩ := box5 HBE1.out
        obtain ⟨y0, y1, y2, y3, y4, f1⟩ := box5 HBR1.out
        obtain ⟨z0, z1, z2, z3, z4, f2⟩ := box5 HBZ1.out
        go_wp2_with fail
        refine (C2.out _ HW1.out).mono ?_
        intro w2 hB
        replace hB : Ext _ w2 := hB
        have HBE2 := Lib.hid ((hB.below.block _ (lt_of_block HBE1.out)).trans HBE1.out)
        have HBR2 := Lib.hid ((hB.below.block _ (lt_of_block HBR1.out)).trans HBR1.out)
        have HBZ2 := Lib.hid ((hB.below.block _ (lt_of_block HBZ1.out)).trans HBZ1.out)
        have HW2 := Lib.hid (Ext.trans HW1.out hB)
        clear hB
        clear d0 d1 d2 d3 d4 f0 y0 y1 y2 y3 y4 f1 z0 z1 z2 z3 z4 f2
        obtain ⟨d0, d1, d2, d3, d4, f0⟩ := box5 HBE2.out
        obtain ⟨y0, y1, y2, y3, y4, f1⟩ := box5 HBR2.out
        obtain ⟨z0, z1, z2, z3, z4, f2⟩ := box5 HBZ2.out
        go_wp2_with fail
        refine (C3.out _).mono ?_
        intro w3 hB
        replace hB : Ext _ w3 := hB
        have HBE3 := Lib.hid ((hB.below.block _ (lt_of_block HBE2.out)).trans HBE2.out)
        have HBR3 := Lib.hid ((hB.below.block _ (lt_of_block HBR2.out)).trans HBR2.out)
        have HBZ3 := Lib.hid ((hB.below.block _ (lt_of_block HBZ2.out)).trans HBZ2.out)
        have HW3 := Lib.hid (Ext.trans HW2.out hB)
        clear hB
        clear d0 d1 d2 d3 d4 f0 y0 y1 y2 y3 y4 f1 z0 z1 z2 z3 z4 f2
        obtain ⟨d0, d1, d2, d3, d4, f0⟩ := box5 HBE3.out
        obtain ⟨y0, y1, y2, y3, y4, f1⟩ := box5 HBR3.out
        obtain ⟨z0, z1, z2, z3, z4, f2⟩ := box5 HBZ3.out
        go_wp2
        obtain ⟨V, hV, g0, g1, g2, g3, g4, h4, h5⟩ := put5b HBZ3.out (.int .i64 0) (.int .i64 0) (.string { data := #[] }) (.int .i64 0) (.slice none 0 0)
        rw [hV]
        exact bodyPost_ret (v := .tuple #[.agg #[.int .i64 0, .int .i64 0, .string { data := #[] }, .int .i64 0, .slice none 0 0], .int .i64 5]) (by simp [results, Tryd.f26, go_sem, g0, g1, g2, g3, g4, sB_nil]) rfl ⟨Below.trans HW3.out (h4 _ (by omega)), none, 0, by rw [HR.out, sV_nil]; rfl, by rw [HR.out]; exact exZ_at _ _⟩
    · have hg : (f2 == 0) = false := by simpa using h2
      have hg2 : (f2 != 0) = true := by simpa using h2
      have HR := Lib.hid (show rr = (exZ, 1) by rw [HT.out, if_pos (.inr h2)])
      clear HT C3 C4 C5 h2
      go_enter Tryd.func26, Tryd.ntmps26
      obtain ⟨d0, d1, d2, d3, d4, f0⟩ := box5 HBE0.out
      obtain ⟨y0, y1, y2, y3, y4, f1⟩ := box5 HBR0.out
      obtain ⟨z0, z1, z2, z3, z4, f2⟩ := box5 HBZ0.out
      go_wp2_with fail
      refine (D1.out).mono ?_
      intro w1 hB
      replace hB : Ext _ w1 := hB
      have HBE1 := Lib.hid ((hB.below.block _ (lt_of_block HBE0.out)).trans HBE0.out)
      have HBR1 := Lib.hid ((hB.below.block _ (lt_of_block HBR0.out)).trans HBR0.out)
      have HBZ1 := Lib.hid ((hB.below.block _ (lt_of_block HBZ0.out)).trans HBZ0.out)
      have HW1 := Lib.hid (Ext.trans HW0.out hB)
      clear hB
      clear d0 d1 d2 d3 d4 f0 y0 y1 y2 y3 y4 f1 z0 z1 z2 z3 z4 f2
      obtain ⟨d0, d1, d2, d3, d4, f0⟩ := box5 HBE1.out
      obtain ⟨y0, y1, y2, y3, y4, f1⟩ := box5 HBR1.out
      obtain ⟨z0, z1, z2, z3, z4, f2⟩ := box5 HBZ1.out
      go_wp2_with fail
      refine (C2.out _ HW1.out).mono ?_
      intro w2 hB
      replace hB : Ext _ w2 := hB
      have HBE2 := Lib.hid ((hB.below.block _ (lt_of_block HBE1.out)).trans HBE1.out)
      have HBR2 := Lib.hid ((hB.below.block _ (lt_of_block HBR1.out)).trans HBR1.out)
      have HBZ2 := Lib.hid ((hB.below.block _ (lt_of_block HBZ1.out)).trans HBZ1.out)
      have HW2 := Lib.hid (Ext.trans HW1.out hB)
      clear hB
      clear d0 d1 d2 d3 d4 f0 y0 y1 y2 y3 y4 f1 z0 z1 z2 z3 z4 f2
      obtain ⟨d0, d1, d2, d3, d4, f0⟩ := box5 HBE2.out
      obtain ⟨y0, y1, y2, y3, y4, f1⟩ := box5 HBR2.out
      obtain ⟨z0, z1, z2, z3, z4, f2⟩ := box5 HBZ2.out
      go_wp2
      obtain ⟨V, hV, g0, g1, g2, g3, g4, h4, h5⟩ := put5b HBZ2.out (.int .i64 0) (.int .i64 0) (.string { data := #[] }) (.int .i64 0) (.slice none 0 0)
      rw [hV]
      exact bodyPost_ret (v := .tuple #[.agg #[.int .i64 0, .int .i64 0, .string { data := #[] }, .int .i64 0, .slice none 0 0], .int .i64 1]) (by simp [results, Tryd.f26, go_sem, g0, g1, g2, g3, g4, sB_nil]) rfl ⟨Below.trans HW2.out (h4 _ (by omega)), none, 0, by rw [HR.out, sV_nil]; rfl, by rw [HR.out]; exact exZ_at _ _⟩
  · have hg : (f1 == 0) = false := by simpa using h1
    have hg2 : (f1 != 0) = true := by simpa using h1
    have HR := Lib.hid (show rr = (exZ, 1) by rw [HT.out, if_pos (.inl h1)])
    clear HT C2 C3 C4 C5 h1
    go_enter Tryd.func26, Tryd.ntmps26
    obtain ⟨d0, d1, d2, d3, d4, f0⟩ := box5 HBE0.out
    obtain ⟨y0, y1, y2, y3, y4, f1⟩ := box5 HBR0.out
    obtain ⟨z0, z1, z2, z3, z4, f2⟩ := box5 HBZ0.out
    go_wp2_with fail
    refine (D1.out).mono ?_
    intro w1 hB
    replace hB : Ext _ w1 := hB
    have HBE1 := Lib.hid ((hB.below.block _ (lt_of_block HBE0.out)).trans HBE0.out)
    have HBR1 := Lib.hid ((hB.below.block _ (lt_of_block HBR0.out)).trans HBR0.out)
    have HBZ1 := Lib.hid ((hB.below.block _ (lt_of_block HBZ0.out)).trans HBZ0.out)
    have HW1 := Lib.hid (Ext.trans HW0.out hB)
    clear hB
    clear d0 d1 d2 d3 d4 f0 y0 y1 y2 y3 y4 f1 z0 z1 z2 z3 z4 f2
    obtain ⟨d0, d1, d2, d3, d4, f0⟩ := box5 HBE1.out
    obtain ⟨y0, y1, y2, y3, y4, f1⟩ := box5 HBR1.out
    obtain ⟨z0, z1, z2, z3, z4, f2⟩ := box5 HBZ1.out
    go_wp2
    obtain ⟨V, hV, g0, g1, g2, g3, g4, h4, h5⟩ := put5b HBZ1.out (.int .i64 0) (.int .i64 0) (.string { data := #[] }) (.int .i64 0) (.slice none 0 0)
    rw [hV]
    exact bodyPost_ret (v := .tuple #[.agg #[.int .i64 0, .int .i64 0, .string { data := #[] }, .int .i64 0, .slice none 0 0], .int .i64 1]) (by simp [results, Tryd.f26, go_sem, g0, g1, g2, g3, g4, sB_nil]) rfl ⟨Below.trans HW1.out (h4 _ (by omega)), none, 0, by rw [HR.out, sV_nil]; rfl, by rw [HR.out]; exact exZ_at _ _⟩

end Go.Proofs.YtgkalcboklhdgaaDoor

namespace Go.Proofs.YtgkalcboklhdgaaDoor
open Go.RowKit
set_option linter.unusedVariables false
set_option linter.unusedSimpArgs false
open Ex

theorem same_up {w : World} {args : Array Value} {U : Up w} (C : ∀ W, Ext w W → Gives Tryd.prog 59 args W (.bool true)) : Calls Tryd.prog 59 args U.W fun e w'' => e = .returned (.bool true) ∧ ∃ U' : Up w, w'' = U'.W := Up.call (C _ U.ext)

set_option maxRecDepth 100000 in
set_option maxHeartbeats 4000000 in
theorem refSame_refl : ∀ (n : Nat) (e : Ex), e.size ≤ n → ∀ (p p' : Option Addr) (c c' : Nat) (w : World), Ex.At w p e → Ex.At w p' e →
    Gives Tryd.prog 59 #[e.val p c, e.val p' c'] w (.bool true) := by
  intro n
  induction n with
  | zero => intro e he; have := e.size_pos; omega
  | succ n ih =>
    intro e he p p' c c' w hA hA'
    have hl : e.args.length ≤ 2199023255488 := hA.fit.2.2.2.2
    have hv : e.val p c = .agg #[.int .i64 e.kind, .int .i64 e.op, sV e.name, .int .i64 e.value, .slice p e.args.length c] := rfl
    have hv' : e.val p' c' = .agg #[.int .i64 e.kind, .int .i64 e.op, sV e.name, .int .i64 e.value, .slice p' e.args.length c'] := rfl
    rw [hv, hv']
    have IH := Lib.hid (fun t (ht : t ∈ e.args) => ih t (by obtain ⟨j, hj, rfl⟩ := List.getElem_of_mem ht; have h1 := size_get e.args j hj; have h2 := size_args e; omega))
    have HR := Lib.hid (show Ex.AtL w p 0 e.args from hA.row)
    have HR' := Lib.hid (show Ex.AtL w p' 0 e.args from hA'.row)
    clear ih he hv hv' hA hA'
    generalize hts : e.args.length = nts at *
    have HTS := Lib.hid hts
    clear hts
    generalize e.kind = k1 at *
    generalize e.op = o1 at *
    generalize e.name = n1 at *
    generalize e.value = v1 at *
    obtain ⟨hb0, hb1, hE0⟩ := two_boxes w (.int .i64 k1) (.int .i64 o1) (sV n1) (.int .i64 v1) (.slice p nts c) (.int .i64 k1) (.int .i64 o1) (sV n1) (.int .i64 v1) (.slice p' nts c') tEx
    have HB0 := Lib.hid hb0
    have HB1 := Lib.hid hb1
    have HE0 := Lib.hid hE0
    clear hb0 hb1 hE0
    unfold Gives
    go_enter Tryd.func59, Tryd.ntmps59
    go_wp2
    go_loopw [5] (fun i wr => ∃ j : Nat, j ≤ nts ∧ i = .int .i64 (j : Int) ∧ Ext ((w.alloc (.cells #[.int .i64 k1, .int .i64 o1, sV n1, .int .i64 v1, .slice p nts c] tEx)).alloc (.cells #[.int .i64 k1, .int .i64 o1, sV n1, .int .i64 v1, .slice p' nts c'] tEx)) wr) (fun i _ => nts - (intOf i).toNat)
    case atStart => exact ⟨0, Nat.zero_le _, rfl, Below.refl _ _⟩
    case round =>
      obtain ⟨j, hj, rfl, hE⟩ := hrel
      have hbe := (hE.below.block _ (lt_of_block HB0.out)).trans HB0.out
      have hbr := (hE.below.block _ (lt_of_block HB1.out)).trans HB1.out
      obtain ⟨d0, d1, d2, d3, d4, f0⟩ := box5 hbe
      obtain ⟨y0, y1, y2, y3, y4, f1⟩ := box5 hbr
      have hEw : Ext w wr := Ext.trans HE0.out hE
      by_cases hlt : j < nts
      · have hjt : j < e.args.length := by rw [HTS.out]; exact hlt
        obtain ⟨b, off, q2, dd2, rfl, hcs, hA1⟩ := HR.out.get j hjt
        obtain ⟨b', off', q3, dd3, rfl, hcs', hA1'⟩ := HR'.out.get j hjt
        rw [Nat.zero_add] at hcs hcs'
        obtain ⟨c0, c1, c2, c3, c4⟩ := hcs.below hEw
        obtain ⟨x0, x1, x2, x3, x4⟩ := hcs'.below hEw
        have D := Lib.hid (fun W (h : Ext wr W) => show Gives _ _ #[.agg #[.int .i64 (e.args[j]).kind, .int .i64 (e.args[j]).op, sV (e.args[j]).name, .int .i64 (e.args[j]).value, .slice q2 (e.args[j]).args.length dd2], .agg #[.int .i64 (e.args[j]).kind, .int .i64 (e.args[j]).op, sV (e.args[j]).name, .int .i64 (e.args[j]).value, .slice q3 (e.args[j]).args.length dd3]] _ _ from IH.out e.args[j] (List.getElem_mem hjt) q2 q3 dd2 dd3 W (hA1.below (Ext.trans hEw h)) (hA1'.below (Ext.trans hEw h)))
        have HE := Lib.hid hE
        clear hcs hcs' hA1 hA1' hE hEw hbe hbr
        generalize (e.args[j]).kind = k2 at *
        generalize (e.args[j]).op = o2 at *
        generalize (e.args[j]).name = n2 at *
        generalize (e.args[j]).value = v2' at *
        generalize (e.args[j]).args.length = l2 at *
        have u0 := fun U : Up wr => Up.cell d4 U
        have u1 := fun U : Up wr => Up.cell y4 U
        have s0 := fun U : Up wr => Up.cell c0 U
        have s1 := fun U : Up wr => Up.cell c1 U
        have s2 := fun U : Up wr => Up.cell c2 U
        have s3 := fun U : Up wr => Up.cell c3 U
        have s4 := fun U : Up wr => Up.cell c4 U
        have t0 := fun U : Up wr => Up.cell x0 U
        have t1 := fun U : Up wr => Up.cell x1 U
        have t2 := fun U : Up wr => Up.cell x2 U
        have t3 := fun U : Up wr => Up.cell x3 U
        have t4 := fun U : Up wr => Up.cell x4 U
        go_wp2
        refine wp_region_up (by kernel_rfl) (by kernel_rfl) ?_
        repeat (go_big_quiet_step ((go_at_call 59; exact same_up D.out)))
        refine wpQuiet_nil ?_
        rintro w4 ⟨U, rfl⟩
        have hE4 := Lib.hid (Ext.trans HE.out U.ext)
        generalize U.W = w4 at *
        clear u0 u1 s0 s1 s2 s3 s4 t0 t1 t2 t3 t4
        go_wp2
        go_roundw
        case rel => exact ⟨j + 1, by omega, by go_num, hE4.out⟩
        case measure => simp [intOf]; omega
      · have HE := Lib.hid hEw
        clear hE hEw hbe hbr
        go_wp2
        go_ret
        exact ⟨rfl, HE.out⟩

end Go.Proofs.YtgkalcboklhdgaaDoor

namespace Go.Proofs.YtgkalcboklhdgaaDoor
open Go.RowKit
set_option linter.unusedVariables false
set_option linter.unusedSimpArgs false
open Ex

set_option maxRecDepth 100000 in
set_option maxHeartbeats 2000000 in
theorem Zero_yes (p : Option Addr) (c : Nat) (w : World) : Gives Tryd.prog 51 #[exZ.val p c] w (.bool true) := by
  have hv : exZ.val p c = .agg #[.int .i64 0, .int .i64 0, sV [], .int .i64 0, .slice p 0 c] := rfl
  rw [hv]
  have HE := Lib.hid ((Below.refl w.heap.size w).alloc (Nat.le_refl _) (.cells #[.int .i64 0, .int .i64 0, sV [], .int .i64 0, .slice p 0 c] tEx))
  unfold Gives
  go_enter Tryd.func51, Tryd.ntmps51
  go_wp2
  go_ret
  exact ⟨rfl, HE.out⟩
set_option maxRecDepth 100000 in
set_option maxHeartbeats 2000000 in
theorem Zero_no (e : Ex) (h : e.kind ≠ 0) (p : Option Addr) (c : Nat) (w : World) : Gives Tryd.prog 51 #[e.val p c] w (.bool false) := by
  have hv : e.val p c = .agg #[.int .i64 e.kind, .int .i64 e.op, sV e.name, .int .i64 e.value, .slice p e.args.length c] := rfl
  rw [hv]
  clear hv
  generalize e.kind = k1 at *
  generalize e.op = o1 at *
  generalize e.name = n1 at *
  generalize e.value = v1 at *
  generalize e.args.length = l1 at *
  have hk : (k1 == 0) = false := by simpa using h
  clear h
  have HE := Lib.hid ((Below.refl w.heap.size w).alloc (Nat.le_refl _) (.cells #[.int .i64 k1, .int .i64 o1, sV n1, .int .i64 v1, .slice p l1 c] tEx))
  unfold Gives
  go_enter Tryd.func51, Tryd.ntmps51
  go_wp2
  go_ret
  exact ⟨rfl, HE.out⟩

set_option maxRecDepth 100000 in
set_option maxHeartbeats 2000000 in
theorem Equal_refl (e : Ex) (h0 : e.chk = 0) (p p' : Option Addr) (c c' : Nat) (w : World) (hA : Ex.At w p e) (hA' : Ex.At w p' e) :
    Gives Tryd.prog 35 #[e.val p c, e.val p' c'] w (.bool true) := by
  have hv : e.val p c = .agg #[.int .i64 e.kind, .int .i64 e.op, sV e.name, .int .i64 e.value, .slice p e.args.length c] := rfl
  have hv' : e.val p' c' = .agg #[.int .i64 e.kind, .int .i64 e.op, sV e.name, .int .i64 e.value, .slice p' e.args.length c'] := rfl
  have C1 := Lib.hid (fun W (h : Ext w W) => show Gives _ _ #[.agg #[.int .i64 e.kind, .int .i64 e.op, sV e.name, .int .i64 e.value, .slice p e.args.length c]] _ _ from h0 ▸ refChk_any e p c W (hA.below h))
  have C2 := Lib.hid (fun W (h : Ext w W) => show Gives _ _ #[.agg #[.int .i64 e.kind, .int .i64 e.op, sV e.name, .int .i64 e.value, .slice p' e.args.length c']] _ _ from h0 ▸ refChk_any e p' c' W (hA'.below h))
  have C3 := Lib.hid (fun W (h : Ext w W) => show Gives _ _ #[.agg #[.int .i64 e.kind, .int .i64 e.op, sV e.name, .int .i64 e.value, .slice p e.args.length c], .agg #[.int .i64 e.kind, .int .i64 e.op, sV e.name, .int .i64 e.value, .slice p' e.args.length c']] _ _ from refSame_refl e.size e (Nat.le_refl _) p p' c c' W (hA.below h) (hA'.below h))
  rw [hv, hv']
  clear hv hv' h0 hA hA'
  generalize e.kind = k1 at *
  generalize e.op = o1 at *
  generalize e.name = n1 at *
  generalize e.value = v1 at *
  generalize e.args.length = l1 at *
  obtain ⟨hb0, hb1, hE0⟩ := two_boxes w (.int .i64 k1) (.int .i64 o1) (sV n1) (.int .i64 v1) (.slice p l1 c) (.int .i64 k1) (.int .i64 o1) (sV n1) (.int .i64 v1) (.slice p' l1 c') tEx
  have HB0 := Lib.hid hb0
  have HB1 := Lib.hid hb1
  have HE0 := Lib.hid hE0
  have D1 := Lib.hid (C1.out _ hE0)
  clear hb0 hb1 hE0 C1
  unfold Gives
  go_enter Tryd.func35, Tryd.ntmps35
  go_wp2_with fail
  refine D1.out.mono ?_
  intro w1 hB
  replace hB : Ext _ w1 := hB
  have K0 := Lib.hid ((hB.below.block _ (lt_of_block HB0.out)).trans HB0.out)
  have K1 := Lib.hid ((hB.below.block _ (lt_of_block HB1.out)).trans HB1.out)
  have HW1 := Lib.hid (Ext.trans HE0.out hB)
  obtain ⟨d0, d1, d2, d3, d4, f0⟩ := box5 K0.out
  obtain ⟨y0, y1, y2, y3, y4, f1⟩ := box5 K1.out
  clear hB D1 HB0 HB1 HE0
  go_wp2_with fail
  refine (C2.out _ HW1.out).mono ?_
  intro w2 hB
  replace hB : Ext _ w2 := hB
  clear d0 d1 d2 d3 d4 f0 y0 y1 y2 y3 y4 f1
  have L0 := Lib.hid ((hB.below.block _ (lt_of_block K0.out)).trans K0.out)
  have L1 := Lib.hid ((hB.below.block _ (lt_of_block K1.out)).trans K1.out)
  have HW2 := Lib.hid (Ext.trans HW1.out hB)
  obtain ⟨d0, d1, d2, d3, d4, f0⟩ := box5 L0.out
  obtain ⟨y0, y1, y2, y3, y4, f1⟩ := box5 L1.out
  clear hB K0 K1 HW1
  go_wp2_with fail
  refine (C3.out _ HW2.out).mono ?_
  intro w3 hB
  replace hB : Ext _ w3 := hB
  have HW3 := Lib.hid (Ext.trans HW2.out hB)
  clear hB d0 d1 d2 d3 d4 f0 y0 y1 y2 y3 y4 f1
  go_wp2
  go_ret
  exact ⟨rfl, HW3.out⟩

theorem kind_of_chk {e : Ex} (h : e.chk = 0) : e.kind ≠ 0 := by
  have h1 := (chk_zero h).2.2
  obtain ⟨k, o, n, v, ts⟩ := e
  rcases pc_zero (fe_mk h1).1 with ⟨rfl, _⟩ | ⟨rfl, _⟩ | ⟨rfl, _⟩ | ⟨rfl, _⟩ <;> simp [Ex.kind]

set_option maxRecDepth 100000 in
set_option maxHeartbeats 2000000 in
theorem lawSame_refl (e : Ex) (h0 : e = exZ ∨ e.chk = 0) (p p' : Option Addr) (c c' : Nat) (w : World) (hA : Ex.At w p e) (hA' : Ex.At w p' e) :
    Gives Tryd.prog 27 #[e.val p c, e.val p' c'] w (.bool true) := by
  have hv : e.val p c = .agg #[.int .i64 e.kind, .int .i64 e.op, sV e.name, .int .i64 e.value, .slice p e.args.length c] := rfl
  have hv' : e.val p' c' = .agg #[.int .i64 e.kind, .int .i64 e.op, sV e.name, .int .i64 e.value, .slice p' e.args.length c'] := rfl
  rcases h0 with h0 | h0
  · have C1 := Lib.hid (fun W => show Gives _ _ #[.agg #[.int .i64 e.kind, .int .i64 e.op, sV e.name, .int .i64 e.value, .slice p e.args.length c]] _ _ from (by rw [h0]; exact Zero_yes p c W))
    have C2 := Lib.hid (fun W => show Gives _ _ #[.agg #[.int .i64 e.kind, .int .i64 e.op, sV e.name, .int .i64 e.value, .slice p' e.args.length c']] _ _ from (by rw [h0]; exact Zero_yes p' c' W))
    rw [hv, hv']
    clear hv hv' h0 hA hA'
    generalize e.kind = k1 at *
    generalize e.op = o1 at *
    generalize e.name = n1 at *
    generalize e.value = v1 at *
    generalize e.args.length = l1 at *
    obtain ⟨hb0, hb1, hE0⟩ := two_boxes w (.int .i64 k1) (.int .i64 o1) (sV n1) (.int .i64 v1) (.slice p l1 c) (.int .i64 k1) (.int .i64 o1) (sV n1) (.int .i64 v1) (.slice p' l1 c') tEx
    have HB0 := Lib.hid hb0
    have HB1 := Lib.hid hb1
    have HE0 := Lib.hid hE0
    clear hb0 hb1 hE0
    unfold Gives
    go_enter Tryd.func27, Tryd.ntmps27
    go_wp2_with fail
    refine (C1.out _).mono ?_
    intro w1 hB
    replace hB : Ext _ w1 := hB
    have K1 := Lib.hid ((hB.below.block _ (lt_of_block HB1.out)).trans HB1.out)
    have HW1 := Lib.hid (Ext.trans HE0.out hB)
    obtain ⟨y0, y1, y2, y3, y4, f1⟩ := box5 K1.out
    clear hB HB0 HB1 HE0
    go_wp2_with fail
    refine (C2.out _).mono ?_
    intro w2 hB
    replace hB : Ext _ w2 := hB
    have HW2 := Lib.hid (Ext.trans HW1.out hB)
    clear hB y0 y1 y2 y3 y4 f1
    go_wp2
    go_ret
    exact ⟨rfl, HW2.out⟩
  · have C1 := Lib.hid (fun W => show Gives _ _ #[.agg #[.int .i64 e.kind, .int .i64 e.op, sV e.name, .int .i64 e.value, .slice p e.args.length c]] _ _ from Zero_no e (kind_of_chk h0) p c W)
    have C2 := Lib.hid (fun W (h : Ext w W) => show Gives _ _ #[.agg #[.int .i64 e.kind, .int .i64 e.op, sV e.name, .int .i64 e.value, .slice p e.args.length c], .agg #[.int .i64 e.kind, .int .i64 e.op, sV e.name, .int .i64 e.value, .slice p' e.args.length c']] _ _ from Equal_refl e h0 p p' c c' W (hA.below h) (hA'.below h))
    rw [hv, hv']
    clear hv hv' h0 hA hA'
    generalize e.kind = k1 at *
    generalize e.op = o1 at *
    generalize e.name = n1 at *
    generalize e.value = v1 at *
    generalize e.args.length = l1 at *
    obtain ⟨hb0, hb1, hE0⟩ := two_boxes w (.int .i64 k1) (.int .i64 o1) (sV n1) (.int .i64 v1) (.slice p l1 c) (.int .i64 k1) (.int .i64 o1) (sV n1) (.int .i64 v1) (.slice p' l1 c') tEx
    have HB0 := Lib.hid hb0
    have HB1 := Lib.hid hb1
    have HE0 := Lib.hid hE0
    clear hb0 hb1 hE0
    unfold Gives
    go_enter Tryd.func27, Tryd.ntmps27
    go_wp2_with fail
    refine (C1.out _).mono ?_
    intro w1 hB
    replace hB : Ext _ w1 := hB
    have K0 := Lib.hid ((hB.below.block _ (lt_of_block HB0.out)).trans HB0.out)
    have K1 := Lib.hid ((hB.below.block _ (lt_of_block HB1.out)).trans HB1.out)
    have HW1 := Lib.hid (Ext.trans HE0.out hB)
    obtain ⟨d0, d1, d2, d3, d4, f0⟩ := box5 K0.out
    obtain ⟨y0, y1, y2, y3, y4, f1⟩ := box5 K1.out
    clear hB HB0 HB1 HE0
    go_wp2_with fail
    refine (C2.out _ HW1.out).mono ?_
    intro w2 hB
    replace hB : Ext _ w2 := hB
    have HW2 := Lib.hid (Ext.trans HW1.out hB)
    clear hB d0 d1 d2 d3 d4 f0 y0 y1 y2 y3 y4 f1
    go_wp2
    go_ret
    exact ⟨rfl, HW2.out⟩

end Go.Proofs.YtgkalcboklhdgaaDoor

namespace Go.Proofs.YtgkalcboklhdgaaDoor

/-- the digits of n in base 256, the most significant first; at most k of them -/
def magF : Nat → Nat → List UInt8
  | 0, _ => []
  | k + 1, n => if n = 0 then [] else magF k (n / 256) ++ [UInt8.ofNat (n % 256)]
def mag (n : Nat) : List UInt8 := magF 9 n

theorem magF_zero (k : Nat) : magF k 0 = [] := by cases k <;> simp [magF]
theorem magF_succ (k n : Nat) (h : n ≠ 0) : magF (k + 1) n = magF k (n / 256) ++ [UInt8.ofNat (n % 256)] := by simp [magF, h]
theorem magF_more : ∀ (k n : Nat), n < 256 ^ k → magF (k + 1) n = magF k n
  | 0, n, h => by
    have : n = 0 := by simpa using h
    subst this; rfl
  | k + 1, n, h => by
    by_cases h0 : n = 0
    · simp [h0, magF_zero]
    · rw [magF_succ _ _ h0, magF_succ _ _ h0, magF_more k (n / 256) (by rw [Nat.div_lt_iff_lt_mul (by omega)]; rw [Nat.pow_succ] at h; exact h)]
theorem mag_zero : mag 0 = [] := rfl
theorem mag_step (n : Nat) (h : n < 256 ^ 9) (h0 : n ≠ 0) : mag n = mag (n / 256) ++ [UInt8.ofNat (n % 256)] := by
  unfold mag
  have h8 : n / 256 < 256 ^ 8 := by omega
  rw [magF_more 8 (n / 256) h8, magF_succ _ _ h0]
theorem magF_len : ∀ (k n : Nat), (magF k n).length ≤ k
  | 0, _ => by simp [magF]
  | k + 1, n => by
    rw [magF]
    split
    · simp
    · have := magF_len k (n / 256); simp; omega
theorem magF_len_of : ∀ (k j n : Nat), n < 256 ^ j → (magF k n).length ≤ j
  | 0, j, _, _ => by simp [magF]
  | k + 1, j, n, h => by
    rw [magF]
    split
    · simp
    · rename_i h0
      cases j with
      | zero => exact absurd (by simpa using h) h0
      | succ j =>
        have := magF_len_of k j (n / 256) (by rw [Nat.div_lt_iff_lt_mul (by omega)]; rw [Nat.pow_succ] at h; exact h)
        simp; omega
theorem mag_len (n : Nat) (h : n < 256 ^ 8) : (mag n).length ≤ 8 := magF_len_of 9 8 n h

def headP (k : Nat) : UInt8 := UInt8.ofNat (128 + k)
def headN (k : Nat) : UInt8 := UInt8.ofNat (127 - k)
theorem headP_nat {k : Nat} (h : k ≤ 8) : (headP k).toNat = 128 + k := by unfold headP; simp; omega
theorem headN_nat {k : Nat} (h : k ≤ 8) : (headN k).toNat = 127 - k := by unfold headN; simp; omega
/-- the encoding of an integer -/
def enc (n : Int) : List UInt8 :=
  if 0 ≤ n then headP (mag n.toNat).length :: mag n.toNat
  else headN (mag (-n - 1).toNat).length :: (mag (-n - 1).toNat).map (fun b => 255 - b)

theorem enc_len (n : Int) (h1 : -4611686018427387904 ≤ n) (h2 : n ≤ 4611686018427387904) : (enc n).length ≤ 9 := by
  unfold enc
  split
  · have := mag_len n.toNat (by omega); simp only [List.length_cons]; omega
  · have := mag_len (-n - 1).toNat (by omega); simp only [List.length_cons, List.length_map]; omega

end Go.Proofs.YtgkalcboklhdgaaDoor

namespace Go.Proofs.YtgkalcboklhdgaaDoor
open Go.RowKit Go.Shelf
set_option linter.unusedVariables false
attribute [local go_sem] Oper.semAt_some

theorem int_eq {k : IntKind} {a b : Int} (h : a = b) : Value.int k a = Value.int k b := by rw [h]

/-- one shift of the loop: what has come, and what comes next -/
theorem mag_shift (m k : Nat) (hm : m < 2 ^ 63) (h : m / 2 ^ (8 * k) ≠ 0) : mag (m / 2 ^ (8 * k)) = mag (m / 2 ^ (8 * (k + 1))) ++ [UInt8.ofNat (m / 2 ^ (8 * k) % 256)] := by
  have e : m / 2 ^ (8 * (k + 1)) = m / 2 ^ (8 * k) / 256 := by
    rw [Nat.div_div_eq_div_mul, Nat.mul_add, Nat.pow_add]
  rw [e]
  exact mag_step _ (Nat.lt_of_le_of_lt (Nat.div_le_self _ _) (by omega)) h
theorem mag_shift0 (m k : Nat) (h : m / 2 ^ (8 * k) = 0) : mag (m / 2 ^ (8 * (k + 1))) = mag (m / 2 ^ (8 * k)) := by
  have e : m / 2 ^ (8 * (k + 1)) = m / 2 ^ (8 * k) / 256 := by
    rw [Nat.div_div_eq_div_mul, Nat.mul_add, Nat.pow_add]
  rw [e, h]
theorem shift_rel {k' : Nat} (hk : k' + 1 ≤ 8) {J : Nat → Prop} (h : J k') : ∃ k : Nat, k ≤ 8 ∧ ((k = 0 ∧ Value.int .i64 (8 * (k' : Int) - 8) = .int .i64 (-8)) ∨ ∃ j, k = j + 1 ∧ Value.int .i64 (8 * (k' : Int) - 8) = .int .i64 (8 * (j : Int))) ∧ J k := by
  cases k' with
  | zero => exact ⟨0, by omega, .inl ⟨rfl, by simp⟩, h⟩
  | succ j => exact ⟨j + 1, by omega, .inr ⟨j, rfl, int_eq (by omega)⟩, h⟩
theorem u8_of (m k : Nat) : (((UInt8.ofNat (m / 2 ^ (8 * k) % 256)).toNat : Nat) : Int) = (m : Int) / 2 ^ (8 * k) % 256 := by
  have : (UInt8.ofNat (m / 2 ^ (8 * k) % 256)).toNat = m / 2 ^ (8 * k) % 256 := by simp
  rw [this]; simp

/-- what a round of the loop over the digits must keep: the box of the number -/
def KeepAt (Bn : Nat) (W W' : World) : Prop := W'.cell? ⟨Bn, 0, none⟩ = W.cell? ⟨Bn, 0, none⟩
theorem keepAt_t {Bn : Nat} {A B C : World} (h : KeepAt Bn A B) (k : KeepAt Bn B C) : KeepAt Bn A C := Eq.trans k h
theorem keepAt_b {Bn : Nat} {w : World} (hn : Bn < w.heap.size) (W : World) (l : Nat) (o o' : Obj) (hl : w.heap.size ≤ l) (h : W.heap[l]? = some o) (h1 : o.isCells = false) (h2 : o.isWalk = false) : KeepAt Bn W (W.putObj l o') :=
  (belowK_b (n₀ := w.heap.size) (w := w) (Nat.le_refl _) W l o o' hl h h1 h2).cell (p := ⟨Bn, 0, none⟩) hn

end Go.Proofs.YtgkalcboklhdgaaDoor

namespace Go.Proofs.YtgkalcboklhdgaaDoor
open Go.RowKit Go.Shelf
set_option linter.unusedVariables false
attribute [local go_sem] Oper.semAt_some

def bV (b : UInt8) : Value := .int .u8 (b.toNat : Int)
def bsV (l : List UInt8) : List Value := l.map bV

theorem infoB : (Tryd.prog.info? 5).map (fun i => (i.zero, i.size, i.bytes)) = some (some (.int .u8 0), 1, 1) := by kernel_rfl

/-- the string of a row of bytes that the call owns -/
theorem conv_own {w : World} {base g cap n : Nat} {l : List UInt8} (hn : n = l.length) (h : w.ownsRow base 5 1 (.slice (some ⟨g, 0, none⟩) n cap) n (bsV l)) :
    (convert 69 9 (.slice (some ⟨g, 0, none⟩) n cap)).run Tryd.prog w = .ok (sV l) w := by
  subst hn
  refine run_convert_bytes_back w 69 9 5 ⟨g, 0, none⟩ cap l Tryd.underlying69 Tryd.underlying5 Tryd.underlying9 (fun j hj => ?_)
  have := h.cells (g := g) rfl j (bV l[j]) (by simp [bsV, hj])
  exact this

theorem set0 (b c : UInt8) (l : List UInt8) (z : Int) (e : (b.toNat : Int) = z) : (bsV (c :: l)).set 0 (.int .u8 z) = bsV (b :: l) := by subst e; rfl
theorem conv_set {w : World} {base g cap n : Nat} {b c : UInt8} {l : List UInt8} {z : Int} (e : (b.toNat : Int) = z) (hn : n = l.length + 1) (h : w.ownsRow base 5 1 (.slice (some ⟨g, 0, none⟩) n cap) n ((bsV (c :: l)).set 0 (.int .u8 z))) :
    (convert 69 9 (.slice (some ⟨g, 0, none⟩) n cap)).run Tryd.prog w = .ok (sV (b :: l)) w :=
  conv_own (l := b :: l) (by simp [hn]) (by rw [set0 b c l z e] at h; exact h)
theorem bsV_app (l : List UInt8) (b : UInt8) : bsV l ++ [.int .u8 (b.toNat : Int)] = bsV (l ++ [b]) := by simp [bsV, bV]
theorem sub255 (b : UInt8) : (((255 - b : UInt8).toNat : Nat) : Int) = 255 - (b.toNat : Int) := by
  have h := b.toNat_lt
  have : (255 - b : UInt8).toNat = 255 - b.toNat := by
    rw [UInt8.toNat_sub_of_le]
    · rfl
    · rw [UInt8.le_iff_toNat_le]; show b.toNat ≤ 255; omega
  omega

end Go.Proofs.YtgkalcboklhdgaaDoor

namespace Go.Proofs.YtgkalcboklhdgaaDoor
open Go.RowKit Go.Shelf
set_option linter.unusedVariables false

def bren : Ren := ⟨fun | 166 => 73 | 167 => 100 | 169 => 58 | 240 => 97 | 276 => 104 | n => n, fun | 0 => 0 | 3 => 3 | 4 => 4 | 5 => 5 | 9 => 9 | 20 => 20 | 37 => 69 | 70 => 68 | 72 => 71 | 75 => 91 | 80 => 73 | 127 => 97 | 164 => 105 | n => n, fun | n => n⟩
theorem bl166 : Go.Proofs.Lays.n166 Tryd.prog bren := {
  mixed := by kernel_rfl
  f166 := Tryd.func73.trans (congrArg some (by kernel_rfl))
  f240 := Tryd.func97.trans (congrArg some (by kernel_rfl))
  f276 := Tryd.func104.trans (congrArg some (by kernel_rfl))
  t0 := Tryd.underlying0
  a0 := Tryd.isAgg0
  z0 := Tryd.sizeOf0
  v0 := Tryd.zeroValue0
  t3 := Tryd.underlying3
  a3 := Tryd.isAgg3
  z3 := Tryd.sizeOf3
  v3 := Tryd.zeroValue3
  t4 := Tryd.underlying4
  a4 := Tryd.isAgg4
  z4 := Tryd.sizeOf4
  v4 := Tryd.zeroValue4
  t9 := Tryd.underlying9
  a9 := Tryd.isAgg9
  z9 := Tryd.sizeOf9
  v9 := Tryd.zeroValue9
  t20 := Tryd.underlying20
  a20 := Tryd.isAgg20
  z20 := Tryd.sizeOf20
  v20 := Tryd.zeroValue20
  t37 := Tryd.underlying69
  a37 := Tryd.isAgg69
  z37 := Tryd.sizeOf69
  v37 := Tryd.zeroValue69
  t70 := Tryd.underlying68
  a70 := Tryd.isAgg68
  z70 := Tryd.sizeOf68
  v70 := Tryd.zeroValue68
  t72 := Tryd.underlying71
  a72 := Tryd.isAgg71
  z72 := Tryd.sizeOf71
  v72 := Tryd.zeroValue71
  t75 := Tryd.underlying91
  a75 := Tryd.isAgg91
  z75 := Tryd.sizeOf91
  v75 := Tryd.zeroValue91
  t164 := Tryd.underlying105
  a164 := Tryd.isAgg105
  z164 := Tryd.sizeOf105
  v164 := Tryd.zeroValue105
}
theorem bl167 : Go.Proofs.Lays.n167 Tryd.prog bren := {
  mixed := by kernel_rfl
  f167 := Tryd.func100.trans (congrArg some (by kernel_rfl))
  f240 := Tryd.func97.trans (congrArg some (by kernel_rfl))
  f276 := Tryd.func104.trans (congrArg some (by kernel_rfl))
  t0 := Tryd.underlying0
  a0 := Tryd.isAgg0
  z0 := Tryd.sizeOf0
  v0 := Tryd.zeroValue0
  t4 := Tryd.underlying4
  a4 := Tryd.isAgg4
  z4 := Tryd.sizeOf4
  v4 := Tryd.zeroValue4
  t5 := Tryd.underlying5
  a5 := Tryd.isAgg5
  z5 := Tryd.sizeOf5
  v5 := Tryd.zeroValue5
  t9 := Tryd.underlying9
  a9 := Tryd.isAgg9
  z9 := Tryd.sizeOf9
  v9 := Tryd.zeroValue9
  t20 := Tryd.underlying20
  a20 := Tryd.isAgg20
  z20 := Tryd.sizeOf20
  v20 := Tryd.zeroValue20
  t37 := Tryd.underlying69
  a37 := Tryd.isAgg69
  z37 := Tryd.sizeOf69
  v37 := Tryd.zeroValue69
  t70 := Tryd.underlying68
  a70 := Tryd.isAgg68
  z70 := Tryd.sizeOf68
  v70 := Tryd.zeroValue68
  t72 := Tryd.underlying71
  a72 := Tryd.isAgg71
  z72 := Tryd.sizeOf71
  v72 := Tryd.zeroValue71
  t75 := Tryd.underlying91
  a75 := Tryd.isAgg91
  z75 := Tryd.sizeOf91
  v75 := Tryd.zeroValue91
  t164 := Tryd.underlying105
  a164 := Tryd.isAgg105
  z164 := Tryd.sizeOf105
  v164 := Tryd.zeroValue105
}
theorem bl169 : Go.Proofs.Lays.n169 Tryd.prog bren := {
  mixed := by kernel_rfl
  f169 := Tryd.func58.trans (congrArg some (by kernel_rfl))
  t0 := Tryd.underlying0
  a0 := Tryd.isAgg0
  z0 := Tryd.sizeOf0
  v0 := Tryd.zeroValue0
  t3 := Tryd.underlying3
  a3 := Tryd.isAgg3
  z3 := Tryd.sizeOf3
  v3 := Tryd.zeroValue3
  t9 := Tryd.underlying9
  a9 := Tryd.isAgg9
  z9 := Tryd.sizeOf9
  v9 := Tryd.zeroValue9
  t37 := Tryd.underlying69
  a37 := Tryd.isAgg69
  z37 := Tryd.sizeOf69
  v37 := Tryd.zeroValue69
  t70 := Tryd.underlying68
  a70 := Tryd.isAgg68
  z70 := Tryd.sizeOf68
  v70 := Tryd.zeroValue68
  t72 := Tryd.underlying71
  a72 := Tryd.isAgg71
  z72 := Tryd.sizeOf71
  v72 := Tryd.zeroValue71
  t127 := Tryd.underlying97
  a127 := Tryd.isAgg97
  z127 := Tryd.sizeOf97
  v127 := Tryd.zeroValue97
}
theorem bextra : Builder.Extra Tryd.prog bren := {
  sizeBuilder := by kernel_rfl
  liesBuilder := by kernel_rfl
  t5 := Tryd.underlying5
  a5 := Tryd.isAgg5
  z5 := Tryd.sizeOf5
  v5 := Tryd.zeroValue5
  infoByte := by kernel_rfl
  cellsByte := by kernel_rfl
  sizeByte := by kernel_rfl
  neB5 := by decide }

/-- a builder of the call's own (its blocks from B on), in block b, holding the bytes l -/
def Bld (B b : Nat) (l : List UInt8) (w : World) : Prop := Lib.IsBuilder 71 5 B b (bsV l) w
theorem strCells_sB (l : List UInt8) : Lib.strCells (sB l) = bsV l := by simp [Lib.strCells, bsV, sB, bV]
theorem bsV_add (a b : List UInt8) : bsV a ++ bsV b = bsV (a ++ b) := by simp [bsV]

theorem Bld.fresh (w : World) : Bld w.heap.size w.heap.size [] (w.alloc (.cells #[.pointer none, .slice none 0 0] 71)) := Lib.fresh_isBuilder _ _ _
theorem ownsRow_extB {base : Nat} {e : TypeId} {k : Nat} {v : Value} {n : Nat} {xs : List Value} {w w' : World} (h : w.ownsRow base e k v n xs) (hb : Below w.heap.size w w') : w'.ownsRow base e k v n xs :=
  h.kept (row := none) ⟨hb.os, hb.tape, hb.output, hb.size, fun i hi _ => hb.block i hi⟩ (by cases v.ownBlock with | none => exact .inl rfl | some j => exact .inr (by simp))
theorem builderAt_ext {T e : TypeId} {B b : Nat} {p : Value} {bs : List Value} {w w' : World} (h : Lib.BuilderAt T e B b p bs w) (hb : Below w.heap.size w w') : Lib.BuilderAt T e B b p bs w' := by
  have hlt := Lib.BuilderAt.lt h
  obtain ⟨h1, v, h2, h3, h4⟩ := h
  exact ⟨h1, v, by rw [hb.block b hlt]; exact h2, ownsRow_extB h3 hb, h4⟩
theorem Bld.ext {B b : Nat} {l : List UInt8} {w w' : World} (h : Bld B b l w) (hb : Below w.heap.size w w') : Bld B b l w' := by
  rcases h with h | h
  · exact .inl (builderAt_ext h hb)
  · exact .inr (builderAt_ext h hb)

theorem writeString_any (B b : Nat) (l s : List UInt8) (w : World) (h : Bld B b l w) (hlen : l.length + s.length ≤ 1000000000000) (hBw : B ≤ w.heap.size) :
    Calls Tryd.prog 73 #[.pointer (some ⟨b, 0, none⟩), sV s] w fun e w' => e = .returned (.tuple #[.int .i64 s.length, .nilIface]) ∧ Bld B b (l ++ s) w' ∧ Below B w w' := by
  refine (Any.Builder_WriteString bl166 bextra B b (bsV l) (sB s) w h (by rw [sB_size]; simp [bsV]; omega) hBw).mono fun e w' h => ?_
  obtain ⟨rfl, h1, h2⟩ := h
  rw [strCells_sB, bsV_add] at h1
  exact ⟨by rw [sB_size], .inr h1, h2⟩
theorem writeByte_any (B b : Nat) (l : List UInt8) (c : UInt8) (n : Int) (hn : (c.toNat : Int) = n) (w : World) (h : Bld B b l w) (hlen : l.length ≤ 1000000000000) (hBw : B ≤ w.heap.size) :
    Calls Tryd.prog 100 #[.pointer (some ⟨b, 0, none⟩), .int .u8 n] w fun e w' => e = .returned .nilIface ∧ Bld B b (l ++ [c]) w' ∧ Below B w w' := by
  subst hn
  refine (Any.Builder_WriteByte bl167 bextra B b (bsV l) (c.toNat : Int) w h (by simp [bsV]; omega) hBw).mono fun e w' h => ?_
  obtain ⟨rfl, h1, h2⟩ := h
  rw [bsV_app] at h1
  exact ⟨rfl, .inr h1, h2⟩
theorem string_any (B b : Nat) (l : List UInt8) (w : World) (h : Bld B b l w) (hBw : B ≤ w.heap.size) :
    Calls Tryd.prog 58 #[.pointer (some ⟨b, 0, none⟩)] w fun e w' => e = .returned (sV l) ∧ Below B w w' :=
  Any.Builder_String_any bl169 bextra B b l w h hBw

end Go.Proofs.YtgkalcboklhdgaaDoor

namespace Go.Proofs.YtgkalcboklhdgaaDoor
open Go.RowKit
set_option linter.unusedVariables false
set_option linter.unusedSimpArgs false
open Ex

/-- how tightly e binds -/
def prec (e : Ex) : Int := if e.kind = 3 then 6 else if e.kind = 4 then (opOf e.op).prec else 7
/-- the values of the region that looks a precedence up -/
def pcR (B : Nat) (o : Int) : Nat → (Nat → Value) → World → Prop
  | 0, s, W => ∃ b, s 0 = .map (some b) ∧ OpsAt W b opL
  | 1, s, _ => s 1 = .pointer (some ⟨B, 1, none⟩)
  | 2, s, _ => s 2 = .int .i64 o
  | 3, s, _ => ∃ fv, s 3 = (opOf o).val fv
  | 4, s, _ => s 4 = .int .i64 (opOf o).prec
  | 5, s, _ => s 5 = .int .i64 (opOf o).prec
  | _, _, _ => True
theorem pcR_st (B : Nat) (o : Int) : ∀ j s s' W W', pcR B o j s W → (∀ i ∈ [j], s' i = s i) → Ext W W' → pcR B o j s' W' := by
  intro j s s' W W' h hs hG
  have hs := hs j (by simp)
  match j, h, hs with
  | 0, ⟨b, h1, h2⟩, hs => exact ⟨b, hs.trans h1, h2.grow (Grow.of_ext (B := 0) (T := tOp) (F := fun _ => True) hG) (by decide) (by decide)⟩
  | 1, h, hs => exact hs.trans h
  | 2, h, hs => exact hs.trans h
  | 3, ⟨fv, h1⟩, hs => exact ⟨fv, hs.trans h1⟩
  | 4, h, hs => exact hs.trans h
  | 5, h, hs => exact hs.trans h
  | n + 6, h, hs => exact trivial

theorem op_prec (x0 : Value) (x1 x2 x3 : Int) (fv : Value) (W : World) : (Instr.field 79 (.agg #[x0, .int .i64 x1, .int .i64 x2, .int .i64 x3, fv]) 1).run Tryd.prog W = .ok (.int .i64 x1) W := by kernel_rfl
set_option maxRecDepth 100000 in
set_option maxHeartbeats 4000000 in
theorem precedence_any (e : Ex) (hk : e.kind = 4 → knownB e.op = true) (p : Option Addr) (c : Nat) (w : World) : Gives Tryd.prog 99 #[e.val p c] w (.int .i64 (prec e)) := by
  have hv : e.val p c = .agg #[.int .i64 e.kind, .int .i64 e.op, sV e.name, .int .i64 e.value, .slice p e.args.length c] := rfl
  rw [hv]
  clear hv
  unfold prec
  generalize e.kind = k1 at *
  generalize e.op = o1 at *
  generalize e.name = n1 at *
  generalize e.value = v1 at *
  generalize e.args.length = l1 at *
  have hE0 := (Below.refl w.heap.size w).alloc (Nat.le_refl _) (.cells #[.int .i64 k1, .int .i64 o1, sV n1, .int .i64 v1, .slice p l1 c] tEx)
  have hbx := alloc_here w (.cells #[.int .i64 k1, .int .i64 o1, sV n1, .int .i64 v1, .slice p l1 c] tEx)
  have HE0 := Lib.hid (show Ext w _ from hE0)
  have HBX := Lib.hid hbx
  clear hE0 hbx
  unfold Gives
  by_cases h3 : k1 = 3
  · subst h3
    clear hk
    rw [if_pos rfl]
    go_enter Tryd.func99, Tryd.ntmps99
    go_wp2
    go_ret
    exact ⟨rfl, HE0.out⟩
  · have g3 : (k1 == 3) = false := by simpa using h3
    rw [if_neg h3]
    by_cases h4 : k1 = 4
    · subst h4
      have hkn := hk rfl
      rw [if_pos rfl]
      clear h3 hk
      go_enter Tryd.func99, Tryd.ntmps99
      go_wp2
      have hbx := HBX.out
      have hE0 := HE0.out
      generalize w.alloc (.cells #[.int .i64 4, .int .i64 o1, sV n1, .int .i64 v1, .slice p l1 c] tEx) = w1 at *
      have hltx := lt_of_block hbx
      refine wp_region_g (by kernel_rfl) Ext (fun W => show Below W.heap.size W { W with drawn := W.drawn + 1 } from ⟨rfl, rfl, rfl, Nat.le_refl _, fun _ _ => rfl⟩) Ext.trans (pcR w.heap.size o1) (fun j => [j]) (pcR_st _ _) (by kernel_rfl) (by kernel_rfl) (by kernel_rfl) 14 rfl (by kernel_rfl) ?_ ?_
      · intro i op ho a' W hA
        have hb : W.heap[w.heap.size]? = _ := (hA.rel.below.block _ hltx).trans hbx
        have c1 : W.cell? ⟨w.heap.size, 1, none⟩ = some (.int .i64 o1) := cell_of hb rfl
        match i, ho with
        | 0, ho =>
          obtain rfl := Option.some.inj ho
          refine GoesG.call 61 #[] rfl ?_ ((operators_any W).mono ?_)
          · simp [execOp, resolve, invoke, Deferred.ofValue]
            rfl
          · rintro e W1 ⟨b, rfl, hO, hE⟩
            exact ⟨_, rfl, hE, fun s h1 h2 => ⟨b, h1 rfl, hO⟩⟩
        | 1, ho =>
          obtain rfl := Option.some.inj ho
          have e1 : a'.eval (.tmp 1) = .pointer (some ⟨w.heap.size, 0, none⟩) := hA.keep 1 (by kernel_rfl)
          refine GoesG.value (.pointer (some ⟨w.heap.size, 1, none⟩)) rfl ?_ (Below.refl _ _) (fun s h1 h2 => h1 rfl)
          simp only [execOp, e1]
          simp [go_sem]
        | 2, ho =>
          obtain rfl := Option.some.inj ho
          have e1 : a'.eval (.tmp 10) = .pointer (some ⟨w.heap.size, 1, none⟩) := (sv_dst (l := _) rfl).symm.trans (hA.new 1 (by decide) (by kernel_rfl))
          refine GoesG.value (.int .i64 o1) rfl ?_ (Below.refl _ _) (fun s h1 h2 => h1 rfl)
          simp only [execOp, e1]
          simp [go_sem, c1]
        | 3, ho =>
          obtain rfl := Option.some.inj ho
          obtain ⟨b, e0, hO⟩ := hA.new 0 (by decide) (by kernel_rfl)
          have e1 : a'.eval (.tmp 9) = .map (some b) := (sv_dst (l := _) rfl).symm.trans e0
          have e2 : a'.eval (.tmp 11) = .int .i64 o1 := (sv_dst (l := _) rfl).symm.trans (hA.new 2 (by decide) (by kernel_rfl))
          obtain ⟨fv, hf, hr⟩ := ops_yes hO o1 hkn
          have hrun := hr false
          refine GoesG.value ((opOf o1).val fv) rfl ?_ (Below.refl _ _) (fun s h1 h2 => ⟨fv, h1 rfl⟩)
          simp only [execOp, e1, e2, Sem.run_bind, hrun, Result.andThen_ok, Sem.run_pure]
          rfl
        | 4, ho =>
          obtain rfl := Option.some.inj ho
          obtain ⟨fv, e0⟩ := hA.new 3 (by decide) (by kernel_rfl)
          have e1 : a'.eval (.tmp 12) = .agg #[sV (opOf o1).sign, .int .i64 (opOf o1).prec, .int .i64 (opOf o1).arg, .int .i64 (opOf o1).res, fv] := (sv_dst (l := _) rfl).symm.trans e0
          refine GoesG.value (.int .i64 (opOf o1).prec) rfl ?_ (Below.refl _ _) (fun s h1 h2 => h1 rfl)
          simp only [execOp, e1]
          simp [go_sem, op_prec]
        | 5, ho =>
          obtain rfl := Option.some.inj ho
          exact GoesG.assign (.tmp 13) rfl rfl (Below.refl _ _) (fun s h1 h2 => (h1 rfl).trans ((sv_dst (l := _) rfl).symm.trans (hA.new 4 (by decide) (by kernel_rfl))))
        | i + 6, ho => cases ho
      · intro vs W hvs hG hΦ
        obtain ⟨u0, u1, u2, u3, u4, u5, rfl⟩ := six vs hvs
        have hu : u5 = .int .i64 (opOf o1).prec := hΦ 5 (by decide)
        subst hu
        have HG := Lib.hid (Ext.trans hE0 hG)
        clear hΦ hG hvs hbx hE0 hltx
        simp only [putAll, Act.put, List.setIfInBounds_toArray, List.set_cons_succ, List.set_cons_zero]
        go_wp2
        go_ret
        exact ⟨rfl, HG.out⟩
    · have g4 : (k1 == 4) = false := by simpa using h4
      rw [if_neg h4]
      clear h3 h4 hk
      go_enter Tryd.func99, Tryd.ntmps99
      go_wp2
      go_ret
      exact ⟨rfl, HE0.out⟩

end Go.Proofs.YtgkalcboklhdgaaDoor

namespace Go.Proofs.YtgkalcboklhdgaaDoor
open Go.RowKit Go.Shelf
set_option linter.unusedVariables false
set_option linter.unusedSimpArgs false
open Ex

def BlF (B b : Nat) (l : List UInt8) (w : World) : Prop := Lib.IsBuilderF 71 5 B b (bsV l) w
/-- what writing to a Builder keeps -/
def WK (B b : Nat) (w w' : World) : Prop := Below B w w' ∧ Lib.OthersKept 5 (some b) w w'
theorem WK.refl (B b : Nat) (w : World) : WK B b w w := ⟨Below.refl _ _, Lib.OthersKept.refl _ _ _⟩
theorem WK.trans {B b : Nat} {u v w : World} (h : WK B b u v) (g : WK B b v w) : WK B b u w := ⟨h.1.trans g.1, h.2.trans g.2⟩
theorem WK.of_ext {B b : Nat} {w w' : World} (h : Ext w w') (hB : B ≤ w.heap.size) : WK B b w w' := ⟨h.below.mono hB, fun k o hk _ _ => (h.below.block k (lt_of_block hk)).trans hk⟩
theorem wk_writeString (B b : Nat) (l s : List UInt8) (w : World) (h : BlF B b l w) (hlen : l.length + s.length ≤ 1000000000000) (hBw : B ≤ w.heap.size) :
    Calls Tryd.prog 73 #[.pointer (some ⟨b, 0, none⟩), sV s] w fun e w' => e = .returned (.tuple #[.int .i64 s.length, .nilIface]) ∧ BlF B b (l ++ s) w' ∧ WK B b w w' := by
  refine (Any.Builder_WriteString_k bl166 bextra B b (bsV l) (sB s) w h (by rw [sB_size]; simp [bsV]; omega) hBw).mono fun e w' h => ?_
  obtain ⟨rfl, h1, h2⟩ := h
  rw [strCells_sB, bsV_add] at h1
  exact ⟨by rw [sB_size], .inr h1, h2⟩
theorem wk_writeByte (B b : Nat) (l : List UInt8) (c : UInt8) (n : Int) (hn : (c.toNat : Int) = n) (w : World) (h : BlF B b l w) (hlen : l.length ≤ 1000000000000) (hBw : B ≤ w.heap.size) :
    Calls Tryd.prog 100 #[.pointer (some ⟨b, 0, none⟩), .int .u8 n] w fun e w' => e = .returned .nilIface ∧ BlF B b (l ++ [c]) w' ∧ WK B b w w' := by
  subst hn
  refine (Any.Builder_WriteByte_k bl167 bextra B b (bsV l) (c.toNat : Int) w h (by simp [bsV]; omega) hBw).mono fun e w' h => ?_
  obtain ⟨rfl, h1, h2⟩ := h
  rw [bsV_app] at h1
  exact ⟨rfl, .inr h1, h2⟩

set_option maxHeartbeats 2000000 in
set_option maxRecDepth 100000 in
theorem writeByte_deferred (B b : Nat) (l : List UInt8) (c : UInt8) (n : Int) (hn : (c.toNat : Int) = n) (u : FrameMode) (w : World) (h : BlF B b l w) (hlen : l.length ≤ 1000000000000) (hBw : B ≤ w.heap.size) :
    CallsD Tryd.prog 100 #[.pointer (some ⟨b, 0, none⟩), .int .u8 n] u w fun e u' w' => u' = u ∧ (e = .returned .nilIface ∧ BlF B b (l ++ [c]) w' ∧ WK B b w w') := by
  subst hn
  obtain ⟨i0, hi, hz0, hz1, hz2⟩ := info_parts bextra.infoByte
  have hCC := Lib.hid (fun (W : World) (hW : BlF B b l W) => Any.Builder_copyCheck_k (P := Tryd.prog) (ρ := bren) { bl167 with } bextra.toX72 B b (bsV l) W hW)
  have hl5 : (bsV l).length = l.length := by simp [bsV]
  go_enter_d Tryd.func100, Tryd.ntmps100
  go_wp2_with fail
  refine (hCC.out _ h).mono ?_
  rintro e w1 ⟨rfl, h1, hb1, hk1⟩
  obtain ⟨hB, v, hbk, hown, hne⟩ := h1
  have c0 : w1.cell? ⟨b, 0, none⟩ = some (.pointer (some ⟨b, 0, none⟩)) := by rw [Lib.cell_of_heap hbk]; rfl
  have c1 : w1.cell? ⟨b, 1, none⟩ = some v := by rw [Lib.cell_of_heap hbk]; rfl
  have hB8 : (Tryd.prog.info? 5) = some i0 := hi
  have hlt := lt_of_block hbk
  have hs1 := hb1.size
  have HK := Lib.hid hbk
  have HK1 := Lib.hid hk1
  have hown1 := hown.alloc (.cells #[.int .u8 (c.toNat : Int)] 5)
  have HO := Lib.hid hown1
  have HW := Lib.hid (fun k hk => (hown.lt k hk).1)
  have HKD := Lib.hid (Lib.ownsRowF_kind hown1)
  have HN := Lib.hid hne
  have HB1 := Lib.hid hb1
  clear h hCC hbk hown hown1 hne hb1 hk1
  go_wp2_with (at_builtin; go_loud (refine wpList_append_ownF _ rfl _ _ 69 rfl B 5 i0 (.int .u8 0) 1 1 Tryd.underlying69 hB8 hz0 hz1 hz2 rfl (by decide) v (bsV l).length (bsV l) rfl HO.out ⟨w1.heap.size, 0, none⟩ 1 1 [.int .u8 (c.toNat : Int)] rfl rfl (cell_one_new _ _ _) (by simp [Value.oneCell']) (by unfold maxLen; omega) (by omega) (by simp; omega) ?_))
  intro v' w2 hown' hgrow _
  have hb2 : w2.heap[b]? = some (.cells #[.pointer (some ⟨b, 0, none⟩), v] 71 (0, 0)) :=
    (hgrow.block b (by simp; omega) (fun e => HN.out e.symm)).trans ((Below.heap_alloc w1 _ b hlt).trans HK.out)
  have d0 : w2.cell? ⟨b, 0, none⟩ = some (.pointer (some ⟨b, 0, none⟩)) := cell_of hb2 rfl
  have d1 : w2.cell? ⟨b, 1, none⟩ = some v := cell_of hb2 rfl
  have f1 : w2.frozen? ⟨b, 1, none⟩ = false := free_of hb2
  obtain ⟨g, cap, rfl⟩ : ∃ g cap, v' = .slice (some ⟨g, 0, none⟩) (l.length + 1) cap := by
    rcases hown'.2 with ⟨_, h0⟩ | ⟨g, cap, cur, m, hv, _⟩
    · omega
    · exact ⟨g, cap, hv⟩
  have HB2 := Lib.hid hb2
  have HO' := Lib.hid hown'
  have HG := Lib.hid hgrow
  clear hb2 hown' hgrow
  go_wp2
  go_ret
  refine ⟨rfl, .inr ?_, ?_, ?_⟩
  · have h5 := Lib.BuilderAtF.put (T := 71) (e := 5) hB HB2.out (bs' := bsV l ++ [.int .u8 (c.toNat : Int)]) (by have h := HO'.out; rw [List.length_append, hl5]; simpa [hl5] using h) (by decide)
    rw [show bsV (l ++ [c]) = bsV l ++ [.int .u8 (c.toNat : Int)] from (bsV_app l c).symm]
    exact h5
  · exact ((HB1.out.alloc (by omega) _).grown HG.out (by simp; omega) (fun k hk => HW.out k hk)).setCell (p := ⟨b, 1, none⟩) hB _
  · exact ((HK1.out.alloc _).grown HG.out HKD.out).setCell ⟨b, 1, none⟩ rfl _

end Go.Proofs.YtgkalcboklhdgaaDoor

namespace Go.Proofs.YtgkalcboklhdgaaDoor
open Go.RowKit Go.Shelf
set_option linter.unusedVariables false
set_option linter.unusedSimpArgs false
open Ex

/-- brackets where the text binds too loosely -/
def brk (limit p : Int) (t : List UInt8) : List UInt8 := if p < limit then [40] ++ t ++ [41] else t
mutual
/-- the text of an expression; dec: the numeral of a number -/
def txt (dec : Int → List UInt8) : Ex → List UInt8
  | .mk k o n v ts => if k = 1 then dec v else if k = 2 then n else if k = 3 then (if o = 1 then [45] else [33]) ++ brk 6 ((txts dec ts).getD 0 (0, [])).1 ((txts dec ts).getD 0 (0, [])).2 else
      brk (if (opOf o).prec = 3 then 4 else (opOf o).prec) ((txts dec ts).getD 0 (0, [])).1 ((txts dec ts).getD 0 (0, [])).2 ++ [32] ++ (opOf o).sign ++ [32] ++ brk ((opOf o).prec + 1) ((txts dec ts).getD 1 (0, [])).1 ((txts dec ts).getD 1 (0, [])).2
def txts (dec : Int → List UInt8) : List Ex → List (Int × List UInt8)
  | [] => []
  | e :: es => (prec e, txt dec e) :: txts dec es
end

end Go.Proofs.YtgkalcboklhdgaaDoor

namespace Go.Proofs.YtgkalcboklhdgaaDoor
open Go.RowKit Go.Shelf
set_option linter.unusedVariables false
set_option linter.unusedSimpArgs false
open Ex

theorem WK.box {B b : Nat} {w w' : World} (h : WK B b w w') {k : Nat} {c : Array Value} {f : Nat × Nat} (hk : w.heap[k]? = some (.cells c tEx f)) (hb : k ≠ b) : w'.heap[k]? = some (.cells c tEx f) :=
  h.2 k _ hk (by simpa using hb) (fun c' fz e => by cases e)
theorem BlF.ne {B b : Nat} {l : List UInt8} {w : World} (h : BlF B b l w) {k : Nat} {c : Array Value} {f : Nat × Nat} (hk : w.heap[k]? = some (.cells c tEx f)) : k ≠ b := by
  rintro rfl
  rcases h with ⟨_, v, hb, _⟩ | ⟨_, v, hb, _⟩ <;> (rw [hk] at hb; cases hb)
theorem BlF.ext {B b : Nat} {l : List UInt8} {w W : World} (h : BlF B b l w) (hE : Ext w W) : BlF B b l W := by
  have hat : ∀ p, Lib.BuilderAtF 71 5 B b p (bsV l) w → Lib.BuilderAtF 71 5 B b p (bsV l) W := by
    rintro p ⟨h1, v, h2, h3, h4⟩
    exact ⟨h1, v, (hE.below.block b (lt_of_block h2)).trans h2, h3.kept (row := none) ⟨hE.os, hE.tape, hE.output, hE.size, fun i hi _ => hE.below.block i hi⟩ (by cases v.ownBlock with | none => exact .inl rfl | some j => exact .inr (by simp)), h4⟩
  rcases h with h | h
  · exact .inl (hat _ h)
  · exact .inr (hat _ h)
theorem BlF.alloc {B b : Nat} {l : List UInt8} {w : World} (h : BlF B b l w) (o : Obj) : BlF B b l (w.alloc o) := Lib.IsBuilderF.alloc h o

set_option maxHeartbeats 2000000 in
set_option maxRecDepth 100000 in
theorem argument_of (N : Nat) (hN : N ≤ 1000000000) (B b : Nat) (l t : List UInt8) (e : Ex) (p : Option Addr) (c : Nat) (limit : Int) (w : World) (hk : e.kind = 4 → knownB e.op = true) (hA : AtB (· < B) w p e) (hBl : BlF B b l w) (hBw : B ≤ w.heap.size) (hlen : l.length + (brk limit (prec e) t).length ≤ N)
    (hw : ∀ W l', AtB (· < B) W p e → BlF B b l' W → l'.length + t.length ≤ N → B ≤ W.heap.size → Calls Tryd.prog 57 #[.pointer (some ⟨b, 0, none⟩), e.val p c] W fun r w' => r = .returned (.tuple #[]) ∧ BlF B b (l' ++ t) w' ∧ WK B b W w') :
    Calls Tryd.prog 75 #[.pointer (some ⟨b, 0, none⟩), e.val p c, .int .i64 limit] w fun r w' => r = .returned (.tuple #[]) ∧ BlF B b (l ++ brk limit (prec e) t) w' ∧ WK B b w w' := by
  have C1 := Lib.hid (fun W => show Gives _ _ #[.agg #[.int .i64 e.kind, .int .i64 e.op, sV e.name, .int .i64 e.value, .slice p e.args.length c]] _ _ from precedence_any e hk p c W)
  have C2 := Lib.hid (fun W l' (h : WK B b w W) (h1 : BlF B b l' W) (h2 : l'.length + t.length ≤ N) => show Calls _ _ #[_, .agg #[.int .i64 e.kind, .int .i64 e.op, sV e.name, .int .i64 e.value, .slice p e.args.length c]] _ _ from hw W l' (hA.keep fun k hk hl => ⟨hk, h.1.block k hk⟩) h1 h2 (Nat.le_trans hBw h.1.size))
  have hv : e.val p c = .agg #[.int .i64 e.kind, .int .i64 e.op, sV e.name, .int .i64 e.value, .slice p e.args.length c] := rfl
  rw [hv]
  clear hv hw hA hk
  generalize prec e = pe at *
  generalize e.kind = k1 at *
  generalize e.op = o1 at *
  generalize e.name = n1 at *
  generalize e.value = v1 at *
  generalize e.args.length = l1 at *
  have HBl := Lib.hid hBl
  have hE := (Below.refl w.heap.size w).alloc (Nat.le_refl _) (.cells #[.int .i64 k1, .int .i64 o1, sV n1, .int .i64 v1, .slice p l1 c] tEx)
  have HX := Lib.hid (And.intro (alloc_here w (.cells #[.int .i64 k1, .int .i64 o1, sV n1, .int .i64 v1, .slice p l1 c] tEx)) (And.intro (hBl.alloc (.cells #[.int .i64 k1, .int .i64 o1, sV n1, .int .i64 v1, .slice p l1 c] tEx)) (show Ext w _ from hE)))
  clear hBl hE
  go_enter_defers Tryd.func75, Tryd.ntmps75
  go_wp2_with fail
  refine (C1.out _).mono ?_
  intro w1 hB1
  replace hB1 : Ext _ w1 := hB1
  have hbx : w1.heap[w.heap.size]? = _ := (hB1.below.block _ (lt_of_block HX.out.1)).trans HX.out.1
  have hE1 : Ext w w1 := Ext.trans HX.out.2.2 hB1
  have hbl1 := HBl.out.ext hE1
  have hne := hbl1.ne hbx
  have HY := Lib.hid (And.intro hbx (And.intro hE1 (And.intro hbl1 hne)))
  clear hbx hE1 hbl1 hne hB1 HX C1
  by_cases hlt : pe < limit
  · have hg : decide (pe < limit) = true := by simpa using hlt
    have HT := Lib.hid (show brk limit pe t = [40] ++ t ++ [41] by unfold brk; rw [if_pos hlt])
    have hBw1 := Nat.le_trans hBw HY.out.2.1.size
    rw [HT.out] at hlen
    simp only [List.length_append, List.length_cons, List.length_nil] at hlen
    clear hlt
    go_wp2_with fail
    refine (wk_writeByte B b l 40 40 rfl w1 HY.out.2.2.1 (by omega) hBw1).mono ?_
    rintro _ w2 ⟨rfl, hbl2, hk2⟩
    have hbx2 := hk2.box HY.out.1 HY.out.2.2.2
    obtain ⟨x0, x1, x2, x3, x4, f0⟩ := box5 hbx2
    have HW2 := Lib.hid ((WK.of_ext (b := b) HY.out.2.1 hBw).trans hk2)
    have HL2 := Lib.hid hbl2
    clear hbx2 hk2 hbl2
    go_wp2_with fail
    refine (C2.out w2 _ HW2.out HL2.out (by simp; omega)).mono ?_
    rintro _ w3 ⟨rfl, hbl3, hk3⟩
    have HW3 := Lib.hid (HW2.out.trans hk3)
    have HL3 := Lib.hid hbl3
    clear x0 x1 x2 x3 x4 f0 hbl3 hk3 HW2 HL2
    go_wp2
    refine leaves_cons (f := 100) (args := #[.pointer (some ⟨b, 0, none⟩), .int .u8 41]) (by simp) (by simp [go_sem]) ?_
    refine (writeByte_deferred B b _ 41 41 rfl .returning w3 HL3.out (by simp; omega) (Nat.le_trans hBw HW3.out.1.size)).mono ?_
    rintro e u' w'' ⟨rfl, rfl, hbl, hk⟩
    refine ⟨.tuple #[], by simp [results, Tryd.f75, go_sem], rfl, ?_, HW3.out.trans hk⟩
    rw [HT.out]
    simpa [List.append_assoc] using hbl
  · have hg : decide (pe < limit) = false := by simpa using hlt
    have HT := Lib.hid (show brk limit pe t = t by unfold brk; rw [if_neg hlt])
    obtain ⟨x0, x1, x2, x3, x4, f0⟩ := box5 HY.out.1
    rw [HT.out] at hlen
    clear hlt
    go_wp2_with fail
    refine (C2.out w1 l (WK.of_ext HY.out.2.1 hBw) HY.out.2.2.1 (by omega)).mono ?_
    rintro _ w3 ⟨rfl, hbl3, hk3⟩
    have HW3 := Lib.hid ((WK.of_ext (b := b) HY.out.2.1 hBw).trans hk3)
    have HL3 := Lib.hid hbl3
    clear x0 x1 x2 x3 x4 f0 hbl3 hk3
    go_wp2
    refine ⟨.tuple #[], by simp [results, Tryd.f75, go_sem], rfl, ?_, HW3.out⟩
    rw [HT.out]
    exact HL3.out

end Go.Proofs.YtgkalcboklhdgaaDoor

namespace Go.Proofs.YtgkalcboklhdgaaDoor
open Go.RowKit Go.Shelf
set_option linter.unusedVariables false
set_option linter.unusedSimpArgs false
open Ex

theorem WK.boxT {B b : Nat} {w w' : World} {T : TypeId} (h : WK B b w w') (hT : T ≠ 5) {k : Nat} {c : Array Value} {f : Nat × Nat} (hk : w.heap[k]? = some (.cells c T f)) (hb : k ≠ b) : w'.heap[k]? = some (.cells c T f) :=
  h.2 k _ hk (by simpa using hb) (fun c' fz e => by cases e; exact hT rfl)
theorem BlF.neT {B b : Nat} {l : List UInt8} {w : World} {T : TypeId} (h : BlF B b l w) (hT : T ≠ 71) {k : Nat} {c : Array Value} {f : Nat × Nat} (hk : w.heap[k]? = some (.cells c T f)) : k ≠ b := by
  rintro rfl
  rcases h with ⟨_, v, hb, _⟩ | ⟨_, v, hb, _⟩ <;> (rw [hk] at hb; cases hb; exact hT rfl)
/-- argument writes what f says -/
def ArgW (N B b : Nat) (w : World) (v : Value) (f : Int → List UInt8) : Prop := ∀ lim l' W, WK B b w W → BlF B b l' W → l'.length + (f lim).length ≤ N →
  Calls Tryd.prog 75 #[.pointer (some ⟨b, 0, none⟩), v, .int .i64 lim] W fun r w' => r = .returned (.tuple #[]) ∧ BlF B b (l' ++ f lim) w' ∧ WK B b W w'
/-- five cells that stay -/
def KeepC (B b : Nat) (w : World) (g off : Nat) (x0 x1 x2 x3 x4 : Value) : Prop := ∀ W, WK B b w W →
  W.cell? ⟨g, off, none⟩ = some x0 ∧ W.cell? ⟨g, off + 1, none⟩ = some x1 ∧ W.cell? ⟨g, off + 2, none⟩ = some x2 ∧ W.cell? ⟨g, off + 3, none⟩ = some x3 ∧ W.cell? ⟨g, off + 4, none⟩ = some x4

set_option maxHeartbeats 4000000 in
set_option maxRecDepth 100000 in
theorem write_num (N : Nat) (hN : N ≤ 1000000000) (B b : Nat) (v : Int) (t : List UInt8) (HI : ∀ W, Calls Tryd.prog 74 #[.int .i64 v] W fun r w' => r = .returned (sV t) ∧ Ext W w') (p : Option Addr) (c : Nat) (l : List UInt8) (w : World) (hBl : BlF B b l w) (hBw : B ≤ w.heap.size) (hlen : l.length + t.length ≤ N) :
    Calls Tryd.prog 57 #[.pointer (some ⟨b, 0, none⟩), .agg #[.int .i64 1, .int .i64 0, sV [], .int .i64 v, .slice p 0 c]] w fun r w' => r = .returned (.tuple #[]) ∧ BlF B b (l ++ t) w' ∧ WK B b w w' := by
  have hE := (Below.refl w.heap.size w).alloc (Nat.le_refl _) (.cells #[.int .i64 1, .int .i64 0, sV [], .int .i64 v, .slice p 0 c] tEx)
  have HX := Lib.hid (And.intro (alloc_here w (.cells #[.int .i64 1, .int .i64 0, sV [], .int .i64 v, .slice p 0 c] tEx)) (And.intro (hBl.ext hE) (show Ext w _ from hE)))
  have hx0 := HX.out.1
  have HNE := Lib.hid (HX.out.2.1.ne hx0)
  have HS1 := Lib.hid (show B ≤ (w.alloc (.cells #[.int .i64 1, .int .i64 0, sV [], .int .i64 v, .slice p 0 c] tEx)).heap.size by simp; omega)
  clear hE hx0
  have C1 := Lib.hid HI
  clear HI
  go_enter Tryd.func57, Tryd.ntmps57
  go_wp2_with fail
  refine (C1.out _).mono ?_
  rintro _ w1 ⟨rfl, hE1⟩
  replace hE1 : Ext _ w1 := hE1
  have HB1 := Lib.hid (HX.out.2.1.ext hE1)
  have HE1 := Lib.hid hE1
  have hs := Nat.le_trans HS1.out hE1.size
  clear hE1
  go_wp2_with fail
  refine (wk_writeString B b l t w1 HB1.out (by omega) hs).mono ?_
  rintro _ w2 ⟨rfl, hbl, hk⟩
  have HR := Lib.hid (And.intro hbl ((WK.of_ext (b := b) (Ext.trans HX.out.2.2 HE1.out) hBw).trans hk))
  clear hbl hk
  go_wp2
  go_end0
  exact ⟨rfl, HR.out.1, HR.out.2⟩

set_option maxHeartbeats 4000000 in
set_option maxRecDepth 100000 in
theorem write_nam (N : Nat) (hN : N ≤ 1000000000) (B b : Nat) (nm : List UInt8) (p : Option Addr) (c : Nat) (l : List UInt8) (w : World) (hBl : BlF B b l w) (hBw : B ≤ w.heap.size) (hlen : l.length + nm.length ≤ N) :
    Calls Tryd.prog 57 #[.pointer (some ⟨b, 0, none⟩), .agg #[.int .i64 2, .int .i64 0, sV nm, .int .i64 0, .slice p 0 c]] w fun r w' => r = .returned (.tuple #[]) ∧ BlF B b (l ++ nm) w' ∧ WK B b w w' := by
  have hE := (Below.refl w.heap.size w).alloc (Nat.le_refl _) (.cells #[.int .i64 2, .int .i64 0, sV nm, .int .i64 0, .slice p 0 c] tEx)
  have HX := Lib.hid (And.intro (alloc_here w (.cells #[.int .i64 2, .int .i64 0, sV nm, .int .i64 0, .slice p 0 c] tEx)) (And.intro (hBl.ext hE) (show Ext w _ from hE)))
  have hx0 := HX.out.1
  have HNE := Lib.hid (HX.out.2.1.ne hx0)
  have HS1 := Lib.hid (show B ≤ (w.alloc (.cells #[.int .i64 2, .int .i64 0, sV nm, .int .i64 0, .slice p 0 c] tEx)).heap.size by simp; omega)
  clear hE hx0
  go_enter Tryd.func57, Tryd.ntmps57
  go_wp2_with fail
  refine (wk_writeString B b l nm _ HX.out.2.1 (by omega) HS1.out).mono ?_
  rintro _ w2 ⟨rfl, hbl, hk⟩
  have HR := Lib.hid (And.intro hbl ((WK.of_ext (b := b) HX.out.2.2 hBw).trans hk))
  clear hbl hk
  go_wp2
  go_end0
  exact ⟨rfl, HR.out.1, HR.out.2⟩

set_option maxHeartbeats 4000000 in
set_option maxRecDepth 100000 in
theorem write_un1 (N : Nat) (hN : N ≤ 1000000000) (B b : Nat) (f : Int → List UInt8) (k1 o1 : Int) (n1 : List UInt8) (v1 : Int) (q : Option Addr) (l1 cc b0 off c : Nat) (l : List UInt8) (w : World) (hBl : BlF B b l w) (hBw : B ≤ w.heap.size)
    (hA : ArgW N B b w (.agg #[.int .i64 k1, .int .i64 o1, sV n1, .int .i64 v1, .slice q l1 cc]) f) (hC : KeepC B b w b0 off (.int .i64 k1) (.int .i64 o1) (sV n1) (.int .i64 v1) (.slice q l1 cc)) (hlen : l.length + ([45] ++ f 6).length ≤ N) :
    Calls Tryd.prog 57 #[.pointer (some ⟨b, 0, none⟩), .agg #[.int .i64 3, .int .i64 1, sV [], .int .i64 0, .slice (some ⟨b0, off, none⟩) 1 c]] w fun r w' => r = .returned (.tuple #[]) ∧ BlF B b (l ++ ([45] ++ f 6)) w' ∧ WK B b w w' := by
  have hE := (Below.refl w.heap.size w).alloc (Nat.le_refl _) (.cells #[.int .i64 3, .int .i64 1, sV [], .int .i64 0, .slice (some ⟨b0, off, none⟩) 1 c] tEx)
  have HX := Lib.hid (And.intro (alloc_here w (.cells #[.int .i64 3, .int .i64 1, sV [], .int .i64 0, .slice (some ⟨b0, off, none⟩) 1 c] tEx)) (And.intro (hBl.ext hE) (show Ext w _ from hE)))
  have hx0 := HX.out.1
  have HNE := Lib.hid (HX.out.2.1.ne hx0)
  have HS1 := Lib.hid (show B ≤ (w.alloc (.cells #[.int .i64 3, .int .i64 1, sV [], .int .i64 0, .slice (some ⟨b0, off, none⟩) 1 c] tEx)).heap.size by simp; omega)
  clear hE hx0
  have HA := Lib.hid hA
  have HC := Lib.hid hC
  clear hA hC
  go_enter Tryd.func57, Tryd.ntmps57
  go_wp2_with fail
  refine (wk_writeString B b l [45] _ (HX.out.2.1.alloc _) (by simp at hlen ⊢; omega) (by have := HS1.out; simp at this ⊢; omega)).mono ?_
  rintro _ w2 ⟨rfl, hbl2, hk2⟩
  have hE2 : Ext w _ := HX.out.2.2.alloc (by simp <;> omega) (.cells #[sV [], sV [45], sV [33]] 9)
  have HW2 := Lib.hid ((WK.of_ext (b := b) hE2 hBw).trans hk2)
  have hbx2 := hk2.boxT (by decide) ((Below.heap_alloc _ _ _ (by simp)).trans HX.out.1) HNE.out
  obtain ⟨x0, x1, x2, x3, x4, f0⟩ := box5 hbx2
  obtain ⟨y0, y1, y2, y3, y4⟩ := HC.out w2 HW2.out
  have HL2 := Lib.hid hbl2
  clear hbl2 hk2 hbx2 hE2
  go_wp2_with fail
  refine (HA.out _ _ w2 HW2.out HL2.out (by simp at hlen ⊢; omega)).mono ?_
  rintro _ w3 ⟨rfl, hbl3, hk3⟩
  have HW3 := Lib.hid (HW2.out.trans hk3)
  have HL3 := Lib.hid hbl3
  clear x0 x1 x2 x3 x4 f0 y0 y1 y2 y3 y4 hbl3 hk3
  go_wp2
  go_end0
  exact ⟨rfl, by simpa using HL3.out, HW3.out⟩

set_option maxHeartbeats 4000000 in
set_option maxRecDepth 100000 in
theorem write_un2 (N : Nat) (hN : N ≤ 1000000000) (B b : Nat) (f : Int → List UInt8) (k1 o1 : Int) (n1 : List UInt8) (v1 : Int) (q : Option Addr) (l1 cc b0 off c : Nat) (l : List UInt8) (w : World) (hBl : BlF B b l w) (hBw : B ≤ w.heap.size)
    (hA : ArgW N B b w (.agg #[.int .i64 k1, .int .i64 o1, sV n1, .int .i64 v1, .slice q l1 cc]) f) (hC : KeepC B b w b0 off (.int .i64 k1) (.int .i64 o1) (sV n1) (.int .i64 v1) (.slice q l1 cc)) (hlen : l.length + ([33] ++ f 6).length ≤ N) :
    Calls Tryd.prog 57 #[.pointer (some ⟨b, 0, none⟩), .agg #[.int .i64 3, .int .i64 2, sV [], .int .i64 0, .slice (some ⟨b0, off, none⟩) 1 c]] w fun r w' => r = .returned (.tuple #[]) ∧ BlF B b (l ++ ([33] ++ f 6)) w' ∧ WK B b w w' := by
  have hE := (Below.refl w.heap.size w).alloc (Nat.le_refl _) (.cells #[.int .i64 3, .int .i64 2, sV [], .int .i64 0, .slice (some ⟨b0, off, none⟩) 1 c] tEx)
  have HX := Lib.hid (And.intro (alloc_here w (.cells #[.int .i64 3, .int .i64 2, sV [], .int .i64 0, .slice (some ⟨b0, off, none⟩) 1 c] tEx)) (And.intro (hBl.ext hE) (show Ext w _ from hE)))
  have hx0 := HX.out.1
  have HNE := Lib.hid (HX.out.2.1.ne hx0)
  have HS1 := Lib.hid (show B ≤ (w.alloc (.cells #[.int .i64 3, .int .i64 2, sV [], .int .i64 0, .slice (some ⟨b0, off, none⟩) 1 c] tEx)).heap.size by simp; omega)
  clear hE hx0
  have HA := Lib.hid hA
  have HC := Lib.hid hC
  clear hA hC
  go_enter Tryd.func57, Tryd.ntmps57
  go_wp2_with fail
  refine (wk_writeString B b l [33] _ (HX.out.2.1.alloc _) (by simp at hlen ⊢; omega) (by have := HS1.out; simp at this ⊢; omega)).mono ?_
  rintro _ w2 ⟨rfl, hbl2, hk2⟩
  have hE2 : Ext w _ := HX.out.2.2.alloc (by simp <;> omega) (.cells #[sV [], sV [45], sV [33]] 9)
  have HW2 := Lib.hid ((WK.of_ext (b := b) hE2 hBw).trans hk2)
  have hbx2 := hk2.boxT (by decide) ((Below.heap_alloc _ _ _ (by simp)).trans HX.out.1) HNE.out
  obtain ⟨x0, x1, x2, x3, x4, f0⟩ := box5 hbx2
  obtain ⟨y0, y1, y2, y3, y4⟩ := HC.out w2 HW2.out
  have HL2 := Lib.hid hbl2
  clear hbl2 hk2 hbx2 hE2
  go_wp2_with fail
  refine (HA.out _ _ w2 HW2.out HL2.out (by simp at hlen ⊢; omega)).mono ?_
  rintro _ w3 ⟨rfl, hbl3, hk3⟩
  have HW3 := Lib.hid (HW2.out.trans hk3)
  have HL3 := Lib.hid hbl3
  clear x0 x1 x2 x3 x4 f0 y0 y1 y2 y3 y4 hbl3 hk3
  go_wp2
  go_end0
  exact ⟨rfl, by simpa using HL3.out, HW3.out⟩

end Go.Proofs.YtgkalcboklhdgaaDoor

namespace Go.Proofs.YtgkalcboklhdgaaDoor
open Go.RowKit Go.Shelf
set_option linter.unusedVariables false
set_option linter.unusedSimpArgs false
open Ex

theorem opOf_prec (o : Int) (hk : knownB o = true) : 1 ≤ (opOf o).prec ∧ (opOf o).prec ≤ 5 := by
  unfold knownB at hk
  obtain ⟨h1, h2⟩ := of_decide_eq_true hk
  obtain ⟨n, rfl⟩ : ∃ n : Nat, o = n := ⟨o.toNat, by omega⟩
  have : ∀ n : Nat, n < 16 → 3 ≤ n → 1 ≤ (opOf (n : Int)).prec ∧ (opOf (n : Int)).prec ≤ 5 := by decide
  exact this n (by omega) (by omega)

set_option maxHeartbeats 2000000 in
set_option maxRecDepth 100000 in
theorem write_bin (N : Nat) (hN : N ≤ 1000000000) (B b : Nat) (f g : Int → List UInt8) (o : Int) (hk : knownB o = true) (k1 o1 : Int) (n1 : List UInt8) (v1 : Int) (q : Option Addr) (l1 cc : Nat) (k2 o2 : Int) (n2 : List UInt8) (v2 : Int) (q2 : Option Addr) (l2 cc2 : Nat) (b0 off c : Nat) (l : List UInt8) (w : World) (hBl : BlF B b l w) (hBw : B ≤ w.heap.size)
    (hA : ArgW N B b w (.agg #[.int .i64 k1, .int .i64 o1, sV n1, .int .i64 v1, .slice q l1 cc]) f) (hC : KeepC B b w b0 off (.int .i64 k1) (.int .i64 o1) (sV n1) (.int .i64 v1) (.slice q l1 cc))
    (hA2 : ArgW N B b w (.agg #[.int .i64 k2, .int .i64 o2, sV n2, .int .i64 v2, .slice q2 l2 cc2]) g) (hC2 : KeepC B b w b0 (off + 5) (.int .i64 k2) (.int .i64 o2) (sV n2) (.int .i64 v2) (.slice q2 l2 cc2))
    (t : List UInt8) (ht : t = f (if (opOf o).prec = 3 then 4 else (opOf o).prec) ++ [32] ++ (opOf o).sign ++ [32] ++ g ((opOf o).prec + 1)) (hlen : l.length + t.length ≤ N) :
    Calls Tryd.prog 57 #[.pointer (some ⟨b, 0, none⟩), .agg #[.int .i64 4, .int .i64 o, sV [], .int .i64 0, .slice (some ⟨b0, off, none⟩) 2 c]] w fun r w' => r = .returned (.tuple #[]) ∧ BlF B b (l ++ t) w' ∧ WK B b w w' := by
  have hE := (Below.refl w.heap.size w).alloc (Nat.le_refl _) (.cells #[.int .i64 4, .int .i64 o, sV [], .int .i64 0, .slice (some ⟨b0, off, none⟩) 2 c] tEx)
  have HX := Lib.hid (And.intro (alloc_here w (.cells #[.int .i64 4, .int .i64 o, sV [], .int .i64 0, .slice (some ⟨b0, off, none⟩) 2 c] tEx)) (And.intro (hBl.ext hE) (show Ext w _ from hE)))
  have hx0 := HX.out.1
  have HNE := Lib.hid (HX.out.2.1.ne hx0)
  have HS1 := Lib.hid (show B ≤ (w.alloc (.cells #[.int .i64 4, .int .i64 o, sV [], .int .i64 0, .slice (some ⟨b0, off, none⟩) 2 c] tEx)).heap.size by simp; omega)
  clear hE hx0
  have HA := Lib.hid hA
  have HC := Lib.hid hC
  have HA2 := Lib.hid hA2
  have HC2 := Lib.hid hC2
  have hP := opOf_prec o hk
  have hbx := HX.out.1
  have HTX := Lib.hid ht
  clear hA hC hA2 hC2 ht
  go_enter Tryd.func57, Tryd.ntmps57
  go_wp2_with fail
  generalize w.alloc (.cells #[.int .i64 4, .int .i64 o, sV [], .int .i64 0, .slice (some ⟨b0, off, none⟩) 2 c] tEx) = w1 at *
  have hltx := lt_of_block hbx
  refine wp_region_g (by kernel_rfl) (Grow w1.heap.size tOp (opF (o))) (Grow.drawn _ _ _) Grow.trans (op25 (w.heap.size) w1.heap.size (o)) op25D (op25_st (w.heap.size) _ (o)) (by kernel_rfl) (by kernel_rfl) (by kernel_rfl) 69 rfl (by kernel_rfl) ?_ ?_
  · intro i op ho a' W hA
    have hb : W.heap[w.heap.size]? = some (.cells #[.int .i64 4, .int .i64 o, sV [], .int .i64 0, .slice (some ⟨b0, off, none⟩) 2 c] tEx (0, 0)) := (hA.rel.low hltx hltx).trans hbx
    have c1 : W.cell? ⟨w.heap.size, 1, none⟩ = some (.int .i64 (o)) := cell_of hb rfl
    match i, ho with
    | 0, ho =>
      obtain rfl := Option.some.inj ho
      refine GoesG.call 61 #[] rfl ?_ ((operators_any W).mono ?_)
      · simp [execOp, resolve, invoke, Deferred.ofValue]
        rfl
      · rintro e W1 ⟨b, rfl, hO, hE⟩
        exact ⟨_, rfl, Grow.of_ext hE, fun s h1 h2 => ⟨b, h1 rfl, hO⟩⟩
    | 1, ho =>
      obtain rfl := Option.some.inj ho
      have e1 : a'.eval (.tmp 3) = .pointer (some ⟨w.heap.size, 0, none⟩) := hA.keep 3 (by kernel_rfl)
      refine GoesG.value (.pointer (some ⟨w.heap.size, 1, none⟩)) rfl ?_ (Grow.refl _ _ _ _) (fun s h1 h2 => h1 rfl)
      simp only [execOp, e1]
      simp [go_sem]
    | 2, ho =>
      obtain rfl := Option.some.inj ho
      have e1 : a'.eval (.tmp 9) = .pointer (some ⟨w.heap.size, 1, none⟩) := (sv_dst (l := _) rfl).symm.trans (hA.new 1 (by decide) (by kernel_rfl))
      refine GoesG.value (.int .i64 (o)) rfl ?_ (Grow.refl _ _ _ _) (fun s h1 h2 => h1 rfl)
      simp only [execOp, e1]
      simp [go_sem, c1]
    | 3, ho =>
      obtain rfl := Option.some.inj ho
      obtain ⟨b, e0, hO⟩ := hA.new 0 (by decide) (by kernel_rfl)
      have e1 : a'.eval (.tmp 8) = .map (some b) := (sv_dst (l := _) rfl).symm.trans e0
      have e2 : a'.eval (.tmp 10) = .int .i64 (o) := (sv_dst (l := _) rfl).symm.trans (hA.new 2 (by decide) (by kernel_rfl))
      obtain ⟨fv, hf, hr⟩ := ops_yes hO (o) hk
      have hrun := hr false
      refine GoesG.value ((opOf (o)).val fv) rfl ?_ (Grow.refl _ _ _ _) (fun s h1 h2 => ⟨fv, h1 rfl, fnOk_one hf⟩)
      simp only [execOp, e1, e2, Sem.run_bind, hrun, Result.andThen_ok, Sem.run_pure]
      rfl
    | 4, ho =>
      obtain rfl := Option.some.inj ho
      refine GoesG.value (.pointer (some ⟨W.heap.size, 0, none⟩)) (W' := W.alloc (.cells #[sV [], .int .i64 0, .int .i64 0, .int .i64 0, .nilFunc] tOp)) rfl ?_ (Grow.of_ext ((Below.refl _ W).alloc (Nat.le_refl _) _)) (fun s h1 h2 => ⟨_, _, h1 rfl, hA.rel.size, alloc_here _ _, rfl⟩)
      simp only [execOp]
      simp [go_sem]
      rfl
    | 5, ho =>
      obtain rfl := Option.some.inj ho
      obtain ⟨g, cc, e0, hB2, hg, hcc⟩ := hA.new 4 (by decide) (by kernel_rfl)
      obtain ⟨fv, e5, hone⟩ := hA.new 3 (by decide) (by kernel_rfl)
      have e1 : a'.eval (.tmp 4) = .pointer (some ⟨g, 0, none⟩) := (sv_dst (l := _) rfl).symm.trans e0
      have e2 : a'.eval (.tmp 11) = .agg #[sV (opOf (o)).sign, .int .i64 (opOf (o)).prec, .int .i64 (opOf (o)).arg, .int .i64 (opOf (o)).res, fv] := (sv_dst (l := _) rfl).symm.trans e5
      exact GoesG.store rfl tOp (.tmp 4) (.tmp 11) rfl g _ e1 e2 tOp cc hg (by kernel_rfl) hcc (by simp [Value.oneCell']; exact hone) rfl (Grow.row hg hB2 hcc.symm ⟨fv, rfl⟩)
        (fun s h2 => ⟨g, _, (h2 4 (by decide) (by kernel_rfl)).trans e0, hB2, setRow_heap _ _ _ _ _ _ hg, fv, rfl⟩)
    | i + 6, ho => cases ho
  · intro vs W3 hvs hG hΦ
    obtain ⟨u0, u1, u2, u3, u4, u5, rfl⟩ := six vs hvs
    obtain ⟨g2, cc, hu4, hBg, hg2, fv, hcc⟩ : ∃ g cc, u4 = .pointer (some ⟨g, 0, none⟩) ∧ w1.heap.size ≤ g ∧ W3.heap[g]? = some (.cells cc tOp (0, 0)) ∧ opF (o) cc := hΦ 5 (by decide)
    subst hcc hu4
    have hW3 : Ext w1 W3 := hG.ext
    clear hΦ hG hvs
    simp only [putAll, Act.put, List.setIfInBounds_toArray, List.set_cons_succ, List.set_cons_zero]
    have hEx := Ext.trans HX.out.2.2 hW3
    have HW3 := Lib.hid (WK.of_ext (b := b) hEx hBw)
    have HL3 := Lib.hid (HX.out.2.1.ext hW3)
    have HB3 := Lib.hid ((hW3.below.block _ (lt_of_block hbx)).trans hbx)
    have HG3 := Lib.hid hg2
    have HNG := Lib.hid (HL3.out.neT (by decide) hg2)
    clear hltx hbx hW3 hEx hk HX
    generalize (opOf o).prec = pr at *
    generalize (opOf o).sign = sg at *
    obtain ⟨z0, z1, z2, z3, z4, z5⟩ := box5 HB3.out
    obtain ⟨g0, g1, g4⟩ : W3.cell? ⟨g2, 0, none⟩ = some (sV sg) ∧ W3.cell? ⟨g2, 1, none⟩ = some (.int .i64 pr) ∧ True := ⟨cell_of HG3.out rfl, cell_of HG3.out rfl, trivial⟩
    obtain ⟨y0, y1, y2, y3, y4⟩ := HC.out W3 HW3.out
    clear g4 hg2 z5
    by_cases h3 : pr = 3
    · subst h3
      have HT := Lib.hid (show t = f 4 ++ ([32] ++ sg ++ [32]) ++ g (4) by rw [HTX.out]; simp)
      clear HTX
      have hlen' := hlen
      rw [HT.out] at hlen'
      simp only [List.length_append, List.length_cons, List.length_nil] at hlen'

      go_wp2_with fail
      refine (HA.out _ l W3 HW3.out HL3.out (by omega)).mono ?_
      rintro _ w4 ⟨rfl, hbl4, hk4⟩
      have HW4 := Lib.hid (HW3.out.trans hk4)
      have HL4 := Lib.hid hbl4
      have HB4 := Lib.hid (hk4.boxT (by decide) HB3.out HNE.out)
      have HG4 := Lib.hid (hk4.boxT (by decide) HG3.out HNG.out)
      clear z0 z1 z2 z3 z4 g0 g1 y0 y1 y2 y3 y4 hbl4 hk4
      obtain ⟨g0, g1⟩ : w4.cell? ⟨g2, 0, none⟩ = some (sV sg) ∧ w4.cell? ⟨g2, 1, none⟩ = some (.int .i64 3) := ⟨cell_of HG4.out rfl, cell_of HG4.out rfl⟩
      go_wp2_with fail
      refine (wk_writeString B b _ ([32] ++ sg ++ [32]) w4 HL4.out (by simp only [List.length_append, List.length_cons, List.length_nil]; omega) (Nat.le_trans hBw HW4.out.1.size)).mono ?_
      rintro _ w5 ⟨rfl, hbl5, hk5⟩
      have HW5 := Lib.hid (HW4.out.trans hk5)
      have HL5 := Lib.hid hbl5
      have HB5 := Lib.hid (hk5.boxT (by decide) HB4.out HNE.out)
      have HG5 := Lib.hid (hk5.boxT (by decide) HG4.out HNG.out)
      clear g0 g1 hbl5 hk5
      obtain ⟨g0, g1⟩ : w5.cell? ⟨g2, 0, none⟩ = some (sV sg) ∧ w5.cell? ⟨g2, 1, none⟩ = some (.int .i64 3) := ⟨cell_of HG5.out rfl, cell_of HG5.out rfl⟩
      obtain ⟨z0, z1, z2, z3, z4, z5⟩ := box5 HB5.out
      obtain ⟨y0, y1, y2, y3, y4⟩ := HC2.out w5 HW5.out
      clear z5
      go_wp2_with fail
      have hEd : Ext w5 w5.drew := (Below.refl _ w5).drew
      have hs5 := Nat.le_trans hBw HW5.out.1.size
      go_still_tail 8, (by kernel_rfl)
      have HW6 := Lib.hid (HW5.out.trans (WK.of_ext (b := b) hEd hs5))
      have HL6 := Lib.hid (HL5.out.ext hEd)
      clear z0 z1 z2 z3 z4 g0 g1 y0 y1 y2 y3 y4 hEd
      go_wp2_with fail
      refine (HA2.out (4) _ w5.drew HW6.out HL6.out (by simp only [List.length_append, List.length_cons, List.length_nil]; omega)).mono ?_
      rintro _ w7 ⟨rfl, hbl7, hk7⟩
      have HR := Lib.hid (And.intro hbl7 (HW6.out.trans hk7))
      clear hbl7 hk7
      go_wp2
      go_end0
      exact ⟨rfl, by rw [HT.out]; simpa [List.append_assoc] using HR.out.1, HR.out.2⟩
    · have h3b : (pr == 3) = false := by simpa using h3
      have HT := Lib.hid (show t = f pr ++ ([32] ++ sg ++ [32]) ++ g (pr + 1) by rw [HTX.out]; rw [if_neg h3]; simp)
      clear HTX
      have hlen' := hlen
      rw [HT.out] at hlen'
      simp only [List.length_append, List.length_cons, List.length_nil] at hlen'
      clear h3
      go_wp2_with fail
      refine (HA.out _ l W3 HW3.out HL3.out (by omega)).mono ?_
      rintro _ w4 ⟨rfl, hbl4, hk4⟩
      have HW4 := Lib.hid (HW3.out.trans hk4)
      have HL4 := Lib.hid hbl4
      have HB4 := Lib.hid (hk4.boxT (by decide) HB3.out HNE.out)
      have HG4 := Lib.hid (hk4.boxT (by decide) HG3.out HNG.out)
      clear z0 z1 z2 z3 z4 g0 g1 y0 y1 y2 y3 y4 hbl4 hk4
      obtain ⟨g0, g1⟩ : w4.cell? ⟨g2, 0, none⟩ = some (sV sg) ∧ w4.cell? ⟨g2, 1, none⟩ = some (.int .i64 pr) := ⟨cell_of HG4.out rfl, cell_of HG4.out rfl⟩
      go_wp2_with fail
      refine (wk_writeString B b _ ([32] ++ sg ++ [32]) w4 HL4.out (by simp only [List.length_append, List.length_cons, List.length_nil]; omega) (Nat.le_trans hBw HW4.out.1.size)).mono ?_
      rintro _ w5 ⟨rfl, hbl5, hk5⟩
      have HW5 := Lib.hid (HW4.out.trans hk5)
      have HL5 := Lib.hid hbl5
      have HB5 := Lib.hid (hk5.boxT (by decide) HB4.out HNE.out)
      have HG5 := Lib.hid (hk5.boxT (by decide) HG4.out HNG.out)
      clear g0 g1 hbl5 hk5
      obtain ⟨g0, g1⟩ : w5.cell? ⟨g2, 0, none⟩ = some (sV sg) ∧ w5.cell? ⟨g2, 1, none⟩ = some (.int .i64 pr) := ⟨cell_of HG5.out rfl, cell_of HG5.out rfl⟩
      obtain ⟨z0, z1, z2, z3, z4, z5⟩ := box5 HB5.out
      obtain ⟨y0, y1, y2, y3, y4⟩ := HC2.out w5 HW5.out
      clear z5
      go_wp2_with fail
      have hEd : Ext w5 w5.drew := (Below.refl _ w5).drew
      have hs5 := Nat.le_trans hBw HW5.out.1.size
      go_still_tail 8, (by kernel_rfl)
      have HW6 := Lib.hid (HW5.out.trans (WK.of_ext (b := b) hEd hs5))
      have HL6 := Lib.hid (HL5.out.ext hEd)
      clear z0 z1 z2 z3 z4 g0 g1 y0 y1 y2 y3 y4 hEd
      go_wp2_with fail
      refine (HA2.out (pr + 1) _ w5.drew HW6.out HL6.out (by simp only [List.length_append, List.length_cons, List.length_nil]; omega)).mono ?_
      rintro _ w7 ⟨rfl, hbl7, hk7⟩
      have HR := Lib.hid (And.intro hbl7 (HW6.out.trans hk7))
      clear hbl7 hk7
      go_wp2
      go_end0
      exact ⟨rfl, by rw [HT.out]; simpa [List.append_assoc] using HR.out.1, HR.out.2⟩

end Go.Proofs.YtgkalcboklhdgaaDoor

namespace Go.Proofs.YtgkalcboklhdgaaDoor
open Go.RowKit Go.Shelf
set_option linter.unusedVariables false
set_option linter.unusedSimpArgs false
open Ex

/-- all numbers of an expression -/
def nums (ok : Int → Prop) : Ex → Prop
  | .mk k _ _ v ts => (k = 1 → ok v) ∧ numsL ok ts
where numsL (ok : Int → Prop) : List Ex → Prop
  | [] => True
  | e :: es => nums ok e ∧ numsL ok es
theorem known_of {t : Ex} (h : t.fe = 0) (hk : t.kind = 4) : knownB t.op = true := by
  obtain ⟨k, o, n, v, ts⟩ := t
  rcases pc_zero (fe_mk h).1 with ⟨rfl, _⟩ | ⟨rfl, _⟩ | ⟨rfl, _⟩ | ⟨rfl, _, _, _, h1, h2⟩
  · cases hk
  · cases hk
  · cases hk
  · exact decide_eq_true (And.intro h1 h2)
theorem keepC_of {B b : Nat} {w : World} {g off : Nat} {t : Ex} {q : Option Addr} {cc : Nat} (hg : g < B) (h : cells w g off t q cc) :
    KeepC B b w g off (.int .i64 t.kind) (.int .i64 t.op) (sV t.name) (.int .i64 t.value) (.slice q t.args.length cc) := fun W hW => h.block (hW.1.block g hg)

set_option maxHeartbeats 1000000 in
theorem write_any (ok : Int → Prop) (dec : Int → List UInt8) (HI : ∀ v W, ok v → Calls Tryd.prog 74 #[.int .i64 v] W fun r w' => r = .returned (sV (dec v)) ∧ Ext W w') (N : Nat) (hN : N ≤ 1000000000) (B b : Nat) :
    ∀ (n : Nat) (e : Ex), e.size ≤ n → e.fe = 0 → nums ok e → ∀ (p : Option Addr) (c : Nat) (l : List UInt8) (w : World), AtB (· < B) w p e → BlF B b l w → B ≤ w.heap.size → l.length + (txt dec e).length ≤ N →
      Calls Tryd.prog 57 #[.pointer (some ⟨b, 0, none⟩), e.val p c] w fun r w' => r = .returned (.tuple #[]) ∧ BlF B b (l ++ txt dec e) w' ∧ WK B b w w' := by
  intro n
  induction n with
  | zero => intro e he; have := e.size_pos; omega
  | succ n ih =>
    intro e he hfe hnum p c l w hA hBl hBw hlen
    obtain ⟨k, o, nm, v, ts⟩ := e
    obtain ⟨hpc, hfes⟩ := fe_mk hfe
    have AR : ∀ (t : Ex) (q : Option Addr) (cc : Nat), t.size ≤ n → t.fe = 0 → nums ok t → AtB (· < B) w q t → ArgW N B b w (.agg #[.int .i64 t.kind, .int .i64 t.op, sV t.name, .int .i64 t.value, .slice q t.args.length cc]) (fun lim => brk lim (prec t) (txt dec t)) :=
      fun t q cc hs hf hn hAt lim l' W hW hb hl =>
        argument_of N hN B b l' (txt dec t) t q cc lim W (known_of hf) (hAt.keep fun k hk _ => ⟨hk, hW.1.block k hk⟩) hb (Nat.le_trans hBw hW.1.size) hl (fun W' l'' a1 a2 a3 a4 => ih t hs hf hn q cc l'' W' a1 a2 a4 a3)
    rcases pc_zero hpc with ⟨rfl, rfl, rfl, hm, hv1, hv2⟩ | ⟨rfl, rfl, rfl, hm, hnm⟩ | ⟨rfl, rfl, rfl, hm, ho⟩ | ⟨rfl, rfl, rfl, hm, ho1, ho2⟩
    · obtain rfl := List.eq_nil_of_length_eq_zero hm
      have HT : txt dec (.mk 1 0 [] v []) = dec v := by simp [txt]
      rw [HT] at hlen ⊢
      exact write_num N hN B b v (dec v) (fun W => HI v W (hnum.1 rfl)) p c l w hBl hBw hlen
    · obtain rfl := List.eq_nil_of_length_eq_zero hm
      have HT : txt dec (.mk 2 0 nm 0 []) = nm := by simp [txt]
      rw [HT] at hlen ⊢
      exact write_nam N hN B b nm p c l w hBl hBw hlen
    · obtain ⟨t, rfl⟩ : ∃ t, ts = [t] := by
        match ts, hm with
        | [t], _ => exact ⟨t, rfl⟩
      obtain ⟨⟨b0, off, q, cc, rfl, hb0, hcs, hA1⟩, _⟩ := hA.2
      have hft : t.fe = 0 := by simpa using fes_get hfes 0 (by simp)
      have hsz : t.size ≤ n := by simp only [Ex.size, Ex.sizes] at he; omega
      have hcs' : cells w b0 off t q cc := by simpa using hcs
      have HT : txt dec (.mk 3 o [] 0 [t]) = (if o = 1 then [45] else [33]) ++ brk 6 (prec t) (txt dec t) := by simp [txt, txts]
      rw [HT] at hlen ⊢
      rcases ho with rfl | rfl
      · exact write_un1 N hN B b (fun lim => brk lim (prec t) (txt dec t)) _ _ _ _ _ _ _ b0 off c l w hBl hBw (AR t q cc hsz hft hnum.2.1 hA1) (keepC_of hb0 hcs') hlen
      · exact write_un2 N hN B b (fun lim => brk lim (prec t) (txt dec t)) _ _ _ _ _ _ _ b0 off c l w hBl hBw (AR t q cc hsz hft hnum.2.1 hA1) (keepC_of hb0 hcs') hlen
    · obtain ⟨t, u, rfl⟩ : ∃ t u, ts = [t, u] := by
        match ts, hm with
        | [t, u], _ => exact ⟨t, u, rfl⟩
      obtain ⟨⟨b0, off, q, cc, rfl, hb0, hcs, hA1⟩, ⟨b0', off', q', cc', he2, hb0', hcs', hA2⟩, _⟩ := hA.2
      cases he2
      have hft : t.fe = 0 := by simpa using fes_get hfes 0 (by simp)
      have hfu : u.fe = 0 := by simpa using fes_get hfes 1 (by simp)
      have hsz : t.size ≤ n := by simp only [Ex.size, Ex.sizes] at he; omega
      have hsz2 : u.size ≤ n := by simp only [Ex.size, Ex.sizes] at he; omega
      have hcs1 : cells w b0 off t q cc := by simpa using hcs
      have hcs2 : cells w b0 (off + 5) u q' cc' := by simpa using hcs'
      have HT : txt dec (.mk 4 o [] 0 [t, u]) = brk (if (opOf o).prec = 3 then 4 else (opOf o).prec) (prec t) (txt dec t) ++ [32] ++ (opOf o).sign ++ [32] ++ brk ((opOf o).prec + 1) (prec u) (txt dec u) := by simp [txt, txts]
      rw [HT] at hlen ⊢
      have hk : knownB o = true := by unfold knownB; simp; omega
      exact write_bin N hN B b (fun lim => brk lim (prec t) (txt dec t)) (fun lim => brk lim (prec u) (txt dec u)) o hk _ _ _ _ _ _ _ _ _ _ _ _ _ _ b0 off c l w hBl hBw (AR t q cc hsz hft hnum.2.1 hA1) (keepC_of hb0 hcs1) (AR u q' cc' hsz2 hfu hnum.2.2.1 hA2) (keepC_of hb0 hcs2) _ rfl hlen

/-- Print -/
def prR (dec : Int → List UInt8) (e : Ex) : List UInt8 × Int := if e.chk ≠ 0 then ([], e.chk) else (txt dec e, 0)
set_option maxHeartbeats 2000000 in
set_option maxRecDepth 100000 in
theorem Print_any (ok : Int → Prop) (dec : Int → List UInt8) (HI : ∀ v W, ok v → Calls Tryd.prog 74 #[.int .i64 v] W fun r w' => r = .returned (sV (dec v)) ∧ Ext W w') (e : Ex) (hok : e.chk = 0 → nums ok e ∧ (txt dec e).length ≤ 1000000000) (p : Option Addr) (c : Nat) (w : World) (hA : Ex.At w p e) :
    Gives Tryd.prog 34 #[e.val p c] w (.tuple #[sV (prR dec e).1, .int .i64 (prR dec e).2]) := by
  have C1 := Lib.hid (fun W (h : Ext w W) => show Gives _ _ #[.agg #[.int .i64 e.kind, .int .i64 e.op, sV e.name, .int .i64 e.value, .slice p e.args.length c]] _ _ from Check_any e p c W (hA.below h))
  have C2 := Lib.hid (fun (h0 : e.chk = 0) W (h : Ext w W) => show Calls _ _ #[_, .agg #[.int .i64 e.kind, .int .i64 e.op, sV e.name, .int .i64 e.value, .slice p e.args.length c]] _ _ from
    write_any ok dec HI 1000000000 (Nat.le_refl _) W.heap.size W.heap.size e.size e (Nat.le_refl _) (chk_zero h0).2.2 (hok h0).1 p c [] (W.alloc (.cells #[.pointer none, .slice none 0 0] 71)) ((hA.below h).toB.ext ((Below.refl _ W).alloc (Nat.le_refl _) _)) (Lib.IsBuilderF.of (Lib.fresh_isBuilder _ _ W)) (by simp) (by simpa using (hok h0).2))
  have hv : e.val p c = .agg #[.int .i64 e.kind, .int .i64 e.op, sV e.name, .int .i64 e.value, .slice p e.args.length c] := rfl
  rw [hv]
  clear hv hA hok HI
  unfold prR
  generalize txt dec e = tt at *
  generalize e.chk = ce at *
  generalize e.kind = k1 at *
  generalize e.op = o1 at *
  generalize e.name = n1 at *
  generalize e.value = v1 at *
  generalize e.args.length = l1 at *
  have HE0 := Lib.hid (show Ext (w.alloc (.cells #[.int .i64 k1, .int .i64 o1, sV n1, .int .i64 v1, .slice p l1 c] tEx)) (w.alloc (.cells #[.int .i64 k1, .int .i64 o1, sV n1, .int .i64 v1, .slice p l1 c] tEx)) from Below.refl _ _)
  unfold Gives
  by_cases h0 : ce = 0
  · subst h0
    have D2 := Lib.hid (C2.out rfl)
    rw [if_neg (by simp)]
    clear C2
    go_enter Tryd.func34, Tryd.ntmps34
    obtain ⟨b0, b1, b2, b3, b4, hW⟩ := HE0.out.box
    go_wp2_with fail
    refine (C1.out _ hW).mono ?_
    intro w1 hB
    have HE1 := Lib.hid (Ext.trans HE0.out hB)
    clear hB b0 b1 b2 b3 b4 hW
    obtain ⟨b0, b1, b2, b3, b4, hW⟩ := HE1.out.box
    have hlt : w.heap.size < w1.heap.size := by have := HE1.out.size; simp at this; omega
    have hs1 := hW.size
    go_wp2_with fail
    refine (D2.out _ hW).mono ?_
    rintro _ w2 ⟨rfl, hbl, hk⟩
    have HB2 := Lib.hid hbl
    have HK2 := Lib.hid hk
    clear hbl hk b0 b1 b2 b3 b4 hlt
    go_wp2_with fail
    refine (Any.Builder_String_any_k bl169 bextra w1.heap.size w1.heap.size tt w2 HB2.out (Nat.le_trans (by simp) HK2.out.1.size)).mono ?_
    rintro _ w3 ⟨rfl, hbl, hB3, hk3⟩
    have HR := Lib.hid (show Ext w w3 from Ext.trans hW (((Below.refl _ w1).alloc (Nat.le_refl _) _).trans (HK2.out.1.trans hB3)))
    clear hbl hB3 hk3
    go_wp2
    go_ret2
    exact ⟨rfl, HR.out⟩
  · have h0' : (ce == 0) = false := by simpa using h0
    have h1' : (ce != 0) = true := by simpa using h0
    rw [if_pos h0]
    clear C2 h0
    go_enter Tryd.func34, Tryd.ntmps34
    obtain ⟨b0, b1, b2, b3, b4, hW⟩ := HE0.out.box
    go_wp2_with fail
    refine (C1.out _ hW).mono ?_
    intro w1 hB
    have HE1 := Lib.hid (Ext.trans HE0.out hB)
    clear hB b0 b1 b2 b3 b4 hW
    obtain ⟨b0, b1, b2, b3, b4, hW⟩ := HE1.out.box
    clear b0 b1 b2 b3 b4
    go_wp2
    go_ret2
    exact ⟨rfl, hW⟩

end Go.Proofs.YtgkalcboklhdgaaDoor

