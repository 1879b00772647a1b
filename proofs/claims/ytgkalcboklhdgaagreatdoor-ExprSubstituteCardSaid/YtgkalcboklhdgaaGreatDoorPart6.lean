/- Lemmas and walks for the statements of this seat, part 6, merged from smaller texts: codec.integer, codec.fits, codec.Int: their contracts.; The kit's contracts of strings.Builder at this seat's numbers; printed by mk_build.py.; The precedence of an expression.; The Builder's contracts that say what else is kept; WriteByte as a deferred call.; The text of an expression.; argument: an expression in brackets where it must be.; write: the text of an expression onto a Builder: numbers, names, one argument.; write: two arguments.; write and Print.; The law's builders of expressions.; Plain: what Fold returns is checked.; awake: the examples of the chapter.; Arguments that came in: an expression as a tree, bindings as a list.; expr's equal, for any two expressions. -/
import Derived.Outline
import Derived.Deep.DeepMust
import Derived.Laws.IdiomStrings
import Derived.Shelf.Strings.Builder1
import Derived.Defers
import Derived.Shelf.Strings.BuilderK
import Derived.StillTailTactics
import Derived.Deep.Slices
import Derived.Deep.Fields
import Derived.ChangeSame
import Derived.Lib.SmallJoins
import Derived.SizedLaws
import Derived.Test.YtgkalcboklhdgaaGreatDoorPart5
import Derived.Test.YtgkalcboklhdgaaGreatDoorPart1
import Derived.Test.YtgkalcboklhdgaaGreatDoorPart4

namespace Go.Proofs.YtgkalcboklhdgaaGreatDoor
open Go.RowKit Go.Shelf
set_option linter.unusedVariables false
attribute [local go_sem] Oper.semAt_some

def bV (b : UInt8) : Value := .int .u8 (b.toNat : Int)
def bsV (l : List UInt8) : List Value := l.map bV

theorem infoB : (Tryz.prog.info? 5).map (fun i => (i.zero, i.size, i.bytes)) = some (some (.int .u8 0), 1, 1) := by kernel_rfl

/-- the string of a row of bytes that the call owns -/
theorem conv_own {w : World} {base g cap n : Nat} {l : List UInt8} (hn : n = l.length) (h : w.ownsRow base 5 1 (.slice (some ⟨g, 0, none⟩) n cap) n (bsV l)) :
    (convert 56 9 (.slice (some ⟨g, 0, none⟩) n cap)).run Tryz.prog w = .ok (sV l) w := by
  subst hn
  refine run_convert_bytes_back w 56 9 5 ⟨g, 0, none⟩ cap l Tryz.underlying56 Tryz.underlying5 Tryz.underlying9 (fun j hj => ?_)
  have := h.cells (g := g) rfl j (bV l[j]) (by simp [bsV, hj])
  exact this

theorem set0 (b c : UInt8) (l : List UInt8) (z : Int) (e : (b.toNat : Int) = z) : (bsV (c :: l)).set 0 (.int .u8 z) = bsV (b :: l) := by subst e; rfl
theorem conv_set {w : World} {base g cap n : Nat} {b c : UInt8} {l : List UInt8} {z : Int} (e : (b.toNat : Int) = z) (hn : n = l.length + 1) (h : w.ownsRow base 5 1 (.slice (some ⟨g, 0, none⟩) n cap) n ((bsV (c :: l)).set 0 (.int .u8 z))) :
    (convert 56 9 (.slice (some ⟨g, 0, none⟩) n cap)).run Tryz.prog w = .ok (sV (b :: l)) w :=
  conv_own (l := b :: l) (by simp [hn]) (by rw [set0 b c l z e] at h; exact h)
theorem bsV_app (l : List UInt8) (b : UInt8) : bsV l ++ [.int .u8 (b.toNat : Int)] = bsV (l ++ [b]) := by simp [bsV, bV]
theorem sub255 (b : UInt8) : (((255 - b : UInt8).toNat : Nat) : Int) = 255 - (b.toNat : Int) := by
  have h := b.toNat_lt
  have : (255 - b : UInt8).toNat = 255 - b.toNat := by
    rw [UInt8.toNat_sub_of_le]
    · rfl
    · rw [UInt8.le_iff_toNat_le]; show b.toNat ≤ 255; omega
  omega

end Go.Proofs.YtgkalcboklhdgaaGreatDoor

namespace Go.Proofs.YtgkalcboklhdgaaGreatDoor
open Go.RowKit Go.Shelf
set_option linter.unusedVariables false

def bren : Ren := ⟨fun | 166 => 60 | 167 => 83 | 169 => 35 | 240 => 80 | 276 => 113 | n => n, fun | 0 => 0 | 3 => 3 | 4 => 4 | 5 => 5 | 9 => 9 | 20 => 20 | 37 => 56 | 70 => 55 | 72 => 58 | 75 => 79 | 80 => 60 | 127 => 89 | 164 => 124 | n => n, fun | n => n⟩
theorem bl166 : Go.Proofs.Lays.n166 Tryz.prog bren := {
  mixed := by kernel_rfl
  f166 := Tryz.func60.trans (congrArg some (by kernel_rfl))
  f240 := Tryz.func80.trans (congrArg some (by kernel_rfl))
  f276 := Tryz.func113.trans (congrArg some (by kernel_rfl))
  t0 := Tryz.underlying0
  a0 := Tryz.isAgg0
  z0 := Tryz.sizeOf0
  v0 := Tryz.zeroValue0
  t3 := Tryz.underlying3
  a3 := Tryz.isAgg3
  z3 := Tryz.sizeOf3
  v3 := Tryz.zeroValue3
  t4 := Tryz.underlying4
  a4 := Tryz.isAgg4
  z4 := Tryz.sizeOf4
  v4 := Tryz.zeroValue4
  t9 := Tryz.underlying9
  a9 := Tryz.isAgg9
  z9 := Tryz.sizeOf9
  v9 := Tryz.zeroValue9
  t20 := Tryz.underlying20
  a20 := Tryz.isAgg20
  z20 := Tryz.sizeOf20
  v20 := Tryz.zeroValue20
  t37 := Tryz.underlying56
  a37 := Tryz.isAgg56
  z37 := Tryz.sizeOf56
  v37 := Tryz.zeroValue56
  t70 := Tryz.underlying55
  a70 := Tryz.isAgg55
  z70 := Tryz.sizeOf55
  v70 := Tryz.zeroValue55
  t72 := Tryz.underlying58
  a72 := Tryz.isAgg58
  z72 := Tryz.sizeOf58
  v72 := Tryz.zeroValue58
  t75 := Tryz.underlying79
  a75 := Tryz.isAgg79
  z75 := Tryz.sizeOf79
  v75 := Tryz.zeroValue79
  t164 := Tryz.underlying124
  a164 := Tryz.isAgg124
  z164 := Tryz.sizeOf124
  v164 := Tryz.zeroValue124
}
theorem bl167 : Go.Proofs.Lays.n167 Tryz.prog bren := {
  mixed := by kernel_rfl
  f167 := Tryz.func83.trans (congrArg some (by kernel_rfl))
  f240 := Tryz.func80.trans (congrArg some (by kernel_rfl))
  f276 := Tryz.func113.trans (congrArg some (by kernel_rfl))
  t0 := Tryz.underlying0
  a0 := Tryz.isAgg0
  z0 := Tryz.sizeOf0
  v0 := Tryz.zeroValue0
  t4 := Tryz.underlying4
  a4 := Tryz.isAgg4
  z4 := Tryz.sizeOf4
  v4 := Tryz.zeroValue4
  t5 := Tryz.underlying5
  a5 := Tryz.isAgg5
  z5 := Tryz.sizeOf5
  v5 := Tryz.zeroValue5
  t9 := Tryz.underlying9
  a9 := Tryz.isAgg9
  z9 := Tryz.sizeOf9
  v9 := Tryz.zeroValue9
  t20 := Tryz.underlying20
  a20 := Tryz.isAgg20
  z20 := Tryz.sizeOf20
  v20 := Tryz.zeroValue20
  t37 := Tryz.underlying56
  a37 := Tryz.isAgg56
  z37 := Tryz.sizeOf56
  v37 := Tryz.zeroValue56
  t70 := Tryz.underlying55
  a70 := Tryz.isAgg55
  z70 := Tryz.sizeOf55
  v70 := Tryz.zeroValue55
  t72 := Tryz.underlying58
  a72 := Tryz.isAgg58
  z72 := Tryz.sizeOf58
  v72 := Tryz.zeroValue58
  t75 := Tryz.underlying79
  a75 := Tryz.isAgg79
  z75 := Tryz.sizeOf79
  v75 := Tryz.zeroValue79
  t164 := Tryz.underlying124
  a164 := Tryz.isAgg124
  z164 := Tryz.sizeOf124
  v164 := Tryz.zeroValue124
}
theorem bl169 : Go.Proofs.Lays.n169 Tryz.prog bren := {
  mixed := by kernel_rfl
  f169 := Tryz.func35.trans (congrArg some (by kernel_rfl))
  t0 := Tryz.underlying0
  a0 := Tryz.isAgg0
  z0 := Tryz.sizeOf0
  v0 := Tryz.zeroValue0
  t3 := Tryz.underlying3
  a3 := Tryz.isAgg3
  z3 := Tryz.sizeOf3
  v3 := Tryz.zeroValue3
  t9 := Tryz.underlying9
  a9 := Tryz.isAgg9
  z9 := Tryz.sizeOf9
  v9 := Tryz.zeroValue9
  t37 := Tryz.underlying56
  a37 := Tryz.isAgg56
  z37 := Tryz.sizeOf56
  v37 := Tryz.zeroValue56
  t70 := Tryz.underlying55
  a70 := Tryz.isAgg55
  z70 := Tryz.sizeOf55
  v70 := Tryz.zeroValue55
  t72 := Tryz.underlying58
  a72 := Tryz.isAgg58
  z72 := Tryz.sizeOf58
  v72 := Tryz.zeroValue58
  t127 := Tryz.underlying89
  a127 := Tryz.isAgg89
  z127 := Tryz.sizeOf89
  v127 := Tryz.zeroValue89
}
theorem bextra : Builder.Extra Tryz.prog bren := {
  sizeBuilder := by kernel_rfl
  liesBuilder := by kernel_rfl
  t5 := Tryz.underlying5
  a5 := Tryz.isAgg5
  z5 := Tryz.sizeOf5
  v5 := Tryz.zeroValue5
  infoByte := by kernel_rfl
  cellsByte := by kernel_rfl
  sizeByte := by kernel_rfl
  neB5 := by decide }

/-- a builder of the call's own (its blocks from B on), in block b, holding the bytes l -/
def Bld (B b : Nat) (l : List UInt8) (w : World) : Prop := Lib.IsBuilder 58 5 B b (bsV l) w
theorem strCells_sB (l : List UInt8) : Lib.strCells (sB l) = bsV l := by simp [Lib.strCells, bsV, sB, bV]
theorem bsV_add (a b : List UInt8) : bsV a ++ bsV b = bsV (a ++ b) := by simp [bsV]

theorem Bld.fresh (w : World) : Bld w.heap.size w.heap.size [] (w.alloc (.cells #[.pointer none, .slice none 0 0] 58)) := Lib.fresh_isBuilder _ _ _
theorem ownsRow_extB {base : Nat} {e : TypeId} {k : Nat} {v : Value} {n : Nat} {xs : List Value} {w w' : World} (h : w.ownsRow base e k v n xs) (hb : Below w.heap.size w w') : w'.ownsRow base e k v n xs :=
  h.kept (row := none) ⟨hb.os, hb.tape, hb.output, hb.size, fun i hi _ => hb.block i hi⟩ (by cases v.ownBlock with | none => exact .inl rfl | some j => exact .inr (by simp))
theorem builderAt_ext {T e : TypeId} {B b : Nat} {p : Value} {bs : List Value} {w w' : World} (h : Lib.BuilderAt T e B b p bs w) (hb : Below w.heap.size w w') : Lib.BuilderAt T e B b p bs w' := by
  have hlt := Lib.BuilderAt.lt h
  obtain ⟨h1, v, h2, h3, h4⟩ := h
  exact ⟨h1, v, by rw [hb.block b hlt]; exact h2, ownsRow_extB h3 hb, h4⟩
theorem Bld.ext {B b : Nat} {l : List UInt8} {w w' : World} (h : Bld B b l w) (hb : Below w.heap.size w w') : Bld B b l w' := by
  rcases h with h | h
  · exact .inl (builderAt_ext h hb)
  · exact .inr (builderAt_ext h hb)

theorem writeString_any (B b : Nat) (l s : List UInt8) (w : World) (h : Bld B b l w) (hlen : l.length + s.length ≤ 1000000000000) (hBw : B ≤ w.heap.size) :
    Calls Tryz.prog 60 #[.pointer (some ⟨b, 0, none⟩), sV s] w fun e w' => e = .returned (.tuple #[.int .i64 s.length, .nilIface]) ∧ Bld B b (l ++ s) w' ∧ Below B w w' := by
  refine (Any.Builder_WriteString bl166 bextra B b (bsV l) (sB s) w h (by rw [sB_size]; simp [bsV]; omega) hBw).mono fun e w' h => ?_
  obtain ⟨rfl, h1, h2⟩ := h
  rw [strCells_sB, bsV_add] at h1
  exact ⟨by rw [sB_size], .inr h1, h2⟩
theorem writeByte_any (B b : Nat) (l : List UInt8) (c : UInt8) (n : Int) (hn : (c.toNat : Int) = n) (w : World) (h : Bld B b l w) (hlen : l.length ≤ 1000000000000) (hBw : B ≤ w.heap.size) :
    Calls Tryz.prog 83 #[.pointer (some ⟨b, 0, none⟩), .int .u8 n] w fun e w' => e = .returned .nilIface ∧ Bld B b (l ++ [c]) w' ∧ Below B w w' := by
  subst hn
  refine (Any.Builder_WriteByte bl167 bextra B b (bsV l) (c.toNat : Int) w h (by simp [bsV]; omega) hBw).mono fun e w' h => ?_
  obtain ⟨rfl, h1, h2⟩ := h
  rw [bsV_app] at h1
  exact ⟨rfl, .inr h1, h2⟩
theorem string_any (B b : Nat) (l : List UInt8) (w : World) (h : Bld B b l w) (hBw : B ≤ w.heap.size) :
    Calls Tryz.prog 35 #[.pointer (some ⟨b, 0, none⟩)] w fun e w' => e = .returned (sV l) ∧ Below B w w' :=
  Any.Builder_String_any bl169 bextra B b l w h hBw

end Go.Proofs.YtgkalcboklhdgaaGreatDoor

namespace Go.Proofs.YtgkalcboklhdgaaGreatDoor
open Go.RowKit
set_option linter.unusedVariables false
set_option linter.unusedSimpArgs false
open Ex

/-- how tightly e binds -/
def prec (e : Ex) : Int := if e.kind = 3 then 6 else if e.kind = 4 then (opOf e.op).prec else 7
/-- the values of the region that looks a precedence up -/
def pcR (B : Nat) (o : Int) : Nat → (Nat → Value) → World → Prop
  | 0, s, W => ∃ b, s 0 = .map (some b) ∧ OpsAt W b opL
  | 1, s, _ => s 1 = .pointer (some ⟨B, 1, none⟩)
  | 2, s, _ => s 2 = .int .i64 o
  | 3, s, _ => ∃ fv, s 3 = (opOf o).val fv
  | 4, s, _ => s 4 = .int .i64 (opOf o).prec
  | 5, s, _ => s 5 = .int .i64 (opOf o).prec
  | _, _, _ => True
theorem pcR_st (B : Nat) (o : Int) : ∀ j s s' W W', pcR B o j s W → (∀ i ∈ [j], s' i = s i) → Ext W W' → pcR B o j s' W' := by
  intro j s s' W W' h hs hG
  have hs := hs j (by simp)
  match j, h, hs with
  | 0, ⟨b, h1, h2⟩, hs => exact ⟨b, hs.trans h1, h2.grow (Grow.of_ext (B := 0) (T := tOp) (F := fun _ => True) hG) (by decide) (by decide)⟩
  | 1, h, hs => exact hs.trans h
  | 2, h, hs => exact hs.trans h
  | 3, ⟨fv, h1⟩, hs => exact ⟨fv, hs.trans h1⟩
  | 4, h, hs => exact hs.trans h
  | 5, h, hs => exact hs.trans h
  | n + 6, h, hs => exact trivial

theorem op_prec (x0 : Value) (x1 x2 x3 : Int) (fv : Value) (W : World) : (Instr.field 86 (.agg #[x0, .int .i64 x1, .int .i64 x2, .int .i64 x3, fv]) 1).run Tryz.prog W = .ok (.int .i64 x1) W := by kernel_rfl
set_option maxRecDepth 100000 in
set_option maxHeartbeats 4000000 in
theorem precedence_any (e : Ex) (hk : e.kind = 4 → knownB e.op = true) (p : Option Addr) (c : Nat) (w : World) : Gives Tryz.prog 82 #[e.val p c] w (.int .i64 (prec e)) := by
  have hv : e.val p c = .agg #[.int .i64 e.kind, .int .i64 e.op, sV e.name, .int .i64 e.value, .slice p e.args.length c] := rfl
  rw [hv]
  clear hv
  unfold prec
  generalize e.kind = k1 at *
  generalize e.op = o1 at *
  generalize e.name = n1 at *
  generalize e.value = v1 at *
  generalize e.args.length = l1 at *
  have hE0 := (Below.refl w.heap.size w).alloc (Nat.le_refl _) (.cells #[.int .i64 k1, .int .i64 o1, sV n1, .int .i64 v1, .slice p l1 c] tEx)
  have hbx := alloc_here w (.cells #[.int .i64 k1, .int .i64 o1, sV n1, .int .i64 v1, .slice p l1 c] tEx)
  have HE0 := Lib.hid (show Ext w _ from hE0)
  have HBX := Lib.hid hbx
  clear hE0 hbx
  unfold Gives
  by_cases h3 : k1 = 3
  · subst h3
    clear hk
    rw [if_pos rfl]
    go_enter Tryz.func82, Tryz.ntmps82
    go_wp2
    go_ret
    exact ⟨rfl, HE0.out⟩
  · have g3 : (k1 == 3) = false := by simpa using h3
    rw [if_neg h3]
    by_cases h4 : k1 = 4
    · subst h4
      have hkn := hk rfl
      rw [if_pos rfl]
      clear h3 hk
      go_enter Tryz.func82, Tryz.ntmps82
      go_wp2
      have hbx := HBX.out
      have hE0 := HE0.out
      generalize w.alloc (.cells #[.int .i64 4, .int .i64 o1, sV n1, .int .i64 v1, .slice p l1 c] tEx) = w1 at *
      have hltx := lt_of_block hbx
      refine wp_region_g (by kernel_rfl) Ext (fun W => show Below W.heap.size W { W with drawn := W.drawn + 1 } from ⟨rfl, rfl, rfl, Nat.le_refl _, fun _ _ => rfl⟩) Ext.trans (pcR w.heap.size o1) (fun j => [j]) (pcR_st _ _) (by kernel_rfl) (by kernel_rfl) (by kernel_rfl) 14 rfl (by kernel_rfl) ?_ ?_
      · intro i op ho a' W hA
        have hb : W.heap[w.heap.size]? = _ := (hA.rel.below.block _ hltx).trans hbx
        have c1 : W.cell? ⟨w.heap.size, 1, none⟩ = some (.int .i64 o1) := cell_of hb rfl
        match i, ho with
        | 0, ho =>
          obtain rfl := Option.some.inj ho
          refine GoesG.call 63 #[] rfl ?_ ((operators_any W).mono ?_)
          · simp [execOp, resolve, invoke, Deferred.ofValue]
            rfl
          · rintro e W1 ⟨b, rfl, hO, hE⟩
            exact ⟨_, rfl, hE, fun s h1 h2 => ⟨b, h1 rfl, hO⟩⟩
        | 1, ho =>
          obtain rfl := Option.some.inj ho
          have e1 : a'.eval (.tmp 1) = .pointer (some ⟨w.heap.size, 0, none⟩) := hA.keep 1 (by kernel_rfl)
          refine GoesG.value (.pointer (some ⟨w.heap.size, 1, none⟩)) rfl ?_ (Below.refl _ _) (fun s h1 h2 => h1 rfl)
          simp only [execOp, e1]
          simp [go_sem]
        | 2, ho =>
          obtain rfl := Option.some.inj ho
          have e1 : a'.eval (.tmp 10) = .pointer (some ⟨w.heap.size, 1, none⟩) := (sv_dst (l := _) rfl).symm.trans (hA.new 1 (by decide) (by kernel_rfl))
          refine GoesG.value (.int .i64 o1) rfl ?_ (Below.refl _ _) (fun s h1 h2 => h1 rfl)
          simp only [execOp, e1]
          simp [go_sem, c1]
        | 3, ho =>
          obtain rfl := Option.some.inj ho
          obtain ⟨b, e0, hO⟩ := hA.new 0 (by decide) (by kernel_rfl)
          have e1 : a'.eval (.tmp 9) = .map (some b) := (sv_dst (l := _) rfl).symm.trans e0
          have e2 : a'.eval (.tmp 11) = .int .i64 o1 := (sv_dst (l := _) rfl).symm.trans (hA.new 2 (by decide) (by kernel_rfl))
          obtain ⟨fv, hf, hr⟩ := ops_yes hO o1 hkn
          have hrun := hr false
          refine GoesG.value ((opOf o1).val fv) rfl ?_ (Below.refl _ _) (fun s h1 h2 => ⟨fv, h1 rfl⟩)
          simp only [execOp, e1, e2, Sem.run_bind, hrun, Result.andThen_ok, Sem.run_pure]
          rfl
        | 4, ho =>
          obtain rfl := Option.some.inj ho
          obtain ⟨fv, e0⟩ := hA.new 3 (by decide) (by kernel_rfl)
          have e1 : a'.eval (.tmp 12) = .agg #[sV (opOf o1).sign, .int .i64 (opOf o1).prec, .int .i64 (opOf o1).arg, .int .i64 (opOf o1).res, fv] := (sv_dst (l := _) rfl).symm.trans e0
          refine GoesG.value (.int .i64 (opOf o1).prec) rfl ?_ (Below.refl _ _) (fun s h1 h2 => h1 rfl)
          simp only [execOp, e1]
          simp [go_sem, op_prec]
        | 5, ho =>
          obtain rfl := Option.some.inj ho
          exact GoesG.assign (.tmp 13) rfl rfl (Below.refl _ _) (fun s h1 h2 => (h1 rfl).trans ((sv_dst (l := _) rfl).symm.trans (hA.new 4 (by decide) (by kernel_rfl))))
        | i + 6, ho => cases ho
      · intro vs W hvs hG hΦ
        obtain ⟨u0, u1, u2, u3, u4, u5, rfl⟩ := six vs hvs
        have hu : u5 = .int .i64 (opOf o1).prec := hΦ 5 (by decide)
        subst hu
        have HG := Lib.hid (Ext.trans hE0 hG)
        clear hΦ hG hvs hbx hE0 hltx
        simp only [putAll, Act.put, List.setIfInBounds_toArray, List.set_cons_succ, List.set_cons_zero]
        go_wp2
        go_ret
        exact ⟨rfl, HG.out⟩
    · have g4 : (k1 == 4) = false := by simpa using h4
      rw [if_neg h4]
      clear h3 h4 hk
      go_enter Tryz.func82, Tryz.ntmps82
      go_wp2
      go_ret
      exact ⟨rfl, HE0.out⟩

end Go.Proofs.YtgkalcboklhdgaaGreatDoor

namespace Go.Proofs.YtgkalcboklhdgaaGreatDoor
open Go.RowKit Go.Shelf
set_option linter.unusedVariables false
set_option linter.unusedSimpArgs false
open Ex

def BlF (B b : Nat) (l : List UInt8) (w : World) : Prop := Lib.IsBuilderF 58 5 B b (bsV l) w
/-- what writing to a Builder keeps -/
def WK (B b : Nat) (w w' : World) : Prop := Below B w w' ∧ Lib.OthersKept 5 (some b) w w'
theorem WK.refl (B b : Nat) (w : World) : WK B b w w := ⟨Below.refl _ _, Lib.OthersKept.refl _ _ _⟩
theorem WK.trans {B b : Nat} {u v w : World} (h : WK B b u v) (g : WK B b v w) : WK B b u w := ⟨h.1.trans g.1, h.2.trans g.2⟩
theorem WK.of_ext {B b : Nat} {w w' : World} (h : Ext w w') (hB : B ≤ w.heap.size) : WK B b w w' := ⟨h.below.mono hB, fun k o hk _ _ => (h.below.block k (lt_of_block hk)).trans hk⟩
theorem wk_writeString (B b : Nat) (l s : List UInt8) (w : World) (h : BlF B b l w) (hlen : l.length + s.length ≤ 1000000000000) (hBw : B ≤ w.heap.size) :
    Calls Tryz.prog 60 #[.pointer (some ⟨b, 0, none⟩), sV s] w fun e w' => e = .returned (.tuple #[.int .i64 s.length, .nilIface]) ∧ BlF B b (l ++ s) w' ∧ WK B b w w' := by
  refine (Any.Builder_WriteString_k bl166 bextra B b (bsV l) (sB s) w h (by rw [sB_size]; simp [bsV]; omega) hBw).mono fun e w' h => ?_
  obtain ⟨rfl, h1, h2⟩ := h
  rw [strCells_sB, bsV_add] at h1
  exact ⟨by rw [sB_size], .inr h1, h2⟩
theorem wk_writeByte (B b : Nat) (l : List UInt8) (c : UInt8) (n : Int) (hn : (c.toNat : Int) = n) (w : World) (h : BlF B b l w) (hlen : l.length ≤ 1000000000000) (hBw : B ≤ w.heap.size) :
    Calls Tryz.prog 83 #[.pointer (some ⟨b, 0, none⟩), .int .u8 n] w fun e w' => e = .returned .nilIface ∧ BlF B b (l ++ [c]) w' ∧ WK B b w w' := by
  subst hn
  refine (Any.Builder_WriteByte_k bl167 bextra B b (bsV l) (c.toNat : Int) w h (by simp [bsV]; omega) hBw).mono fun e w' h => ?_
  obtain ⟨rfl, h1, h2⟩ := h
  rw [bsV_app] at h1
  exact ⟨rfl, .inr h1, h2⟩

set_option maxHeartbeats 2000000 in
set_option maxRecDepth 100000 in
theorem writeByte_deferred (B b : Nat) (l : List UInt8) (c : UInt8) (n : Int) (hn : (c.toNat : Int) = n) (u : FrameMode) (w : World) (h : BlF B b l w) (hlen : l.length ≤ 1000000000000) (hBw : B ≤ w.heap.size) :
    CallsD Tryz.prog 83 #[.pointer (some ⟨b, 0, none⟩), .int .u8 n] u w fun e u' w' => u' = u ∧ (e = .returned .nilIface ∧ BlF B b (l ++ [c]) w' ∧ WK B b w w') := by
  subst hn
  obtain ⟨i0, hi, hz0, hz1, hz2⟩ := info_parts bextra.infoByte
  have hCC := Lib.hid (fun (W : World) (hW : BlF B b l W) => Any.Builder_copyCheck_k (P := Tryz.prog) (ρ := bren) { bl167 with } bextra.toX72 B b (bsV l) W hW)
  have hl5 : (bsV l).length = l.length := by simp [bsV]
  go_enter_d Tryz.func83, Tryz.ntmps83
  go_wp2_with fail
  refine (hCC.out _ h).mono ?_
  rintro e w1 ⟨rfl, h1, hb1, hk1⟩
  obtain ⟨hB, v, hbk, hown, hne⟩ := h1
  have c0 : w1.cell? ⟨b, 0, none⟩ = some (.pointer (some ⟨b, 0, none⟩)) := by rw [Lib.cell_of_heap hbk]; rfl
  have c1 : w1.cell? ⟨b, 1, none⟩ = some v := by rw [Lib.cell_of_heap hbk]; rfl
  have hB8 : (Tryz.prog.info? 5) = some i0 := hi
  have hlt := lt_of_block hbk
  have hs1 := hb1.size
  have HK := Lib.hid hbk
  have HK1 := Lib.hid hk1
  have hown1 := hown.alloc (.cells #[.int .u8 (c.toNat : Int)] 5)
  have HO := Lib.hid hown1
  have HW := Lib.hid (fun k hk => (hown.lt k hk).1)
  have HKD := Lib.hid (Lib.ownsRowF_kind hown1)
  have HN := Lib.hid hne
  have HB1 := Lib.hid hb1
  clear h hCC hbk hown hown1 hne hb1 hk1
  go_wp2_with (at_builtin; go_loud (refine wpList_append_ownF _ rfl _ _ 56 rfl B 5 i0 (.int .u8 0) 1 1 Tryz.underlying56 hB8 hz0 hz1 hz2 rfl (by decide) v (bsV l).length (bsV l) rfl HO.out ⟨w1.heap.size, 0, none⟩ 1 1 [.int .u8 (c.toNat : Int)] rfl rfl (cell_one_new _ _ _) (by simp [Value.oneCell']) (by unfold maxLen; omega) (by omega) (by simp; omega) ?_))
  intro v' w2 hown' hgrow _
  have hb2 : w2.heap[b]? = some (.cells #[.pointer (some ⟨b, 0, none⟩), v] 58 (0, 0)) :=
    (hgrow.block b (by simp; omega) (fun e => HN.out e.symm)).trans ((Below.heap_alloc w1 _ b hlt).trans HK.out)
  have d0 : w2.cell? ⟨b, 0, none⟩ = some (.pointer (some ⟨b, 0, none⟩)) := cell_of hb2 rfl
  have d1 : w2.cell? ⟨b, 1, none⟩ = some v := cell_of hb2 rfl
  have f1 : w2.frozen? ⟨b, 1, none⟩ = false := free_of hb2
  obtain ⟨g, cap, rfl⟩ : ∃ g cap, v' = .slice (some ⟨g, 0, none⟩) (l.length + 1) cap := by
    rcases hown'.2 with ⟨_, h0⟩ | ⟨g, cap, cur, m, hv, _⟩
    · omega
    · exact ⟨g, cap, hv⟩
  have HB2 := Lib.hid hb2
  have HO' := Lib.hid hown'
  have HG := Lib.hid hgrow
  clear hb2 hown' hgrow
  go_wp2
  go_ret
  refine ⟨rfl, .inr ?_, ?_, ?_⟩
  · have h5 := Lib.BuilderAtF.put (T := 58) (e := 5) hB HB2.out (bs' := bsV l ++ [.int .u8 (c.toNat : Int)]) (by have h := HO'.out; rw [List.length_append, hl5]; simpa [hl5] using h) (by decide)
    rw [show bsV (l ++ [c]) = bsV l ++ [.int .u8 (c.toNat : Int)] from (bsV_app l c).symm]
    exact h5
  · exact ((HB1.out.alloc (by omega) _).grown HG.out (by simp; omega) (fun k hk => HW.out k hk)).setCell (p := ⟨b, 1, none⟩) hB _
  · exact ((HK1.out.alloc _).grown HG.out HKD.out).setCell ⟨b, 1, none⟩ rfl _

end Go.Proofs.YtgkalcboklhdgaaGreatDoor

namespace Go.Proofs.YtgkalcboklhdgaaGreatDoor
open Go.RowKit Go.Shelf
set_option linter.unusedVariables false
set_option linter.unusedSimpArgs false
open Ex

/-- brackets where the text binds too loosely -/
def brk (limit p : Int) (t : List UInt8) : List UInt8 := if p < limit then [40] ++ t ++ [41] else t
mutual
/-- the text of an expression; dec: the numeral of a number -/
def txt (dec : Int → List UInt8) : Ex → List UInt8
  | .mk k o n v ts => if k = 1 then dec v else if k = 2 then n else if k = 3 then (if o = 1 then [45] else [33]) ++ brk 6 ((txts dec ts).getD 0 (0, [])).1 ((txts dec ts).getD 0 (0, [])).2 else
      brk (if (opOf o).prec = 3 then 4 else (opOf o).prec) ((txts dec ts).getD 0 (0, [])).1 ((txts dec ts).getD 0 (0, [])).2 ++ [32] ++ (opOf o).sign ++ [32] ++ brk ((opOf o).prec + 1) ((txts dec ts).getD 1 (0, [])).1 ((txts dec ts).getD 1 (0, [])).2
def txts (dec : Int → List UInt8) : List Ex → List (Int × List UInt8)
  | [] => []
  | e :: es => (prec e, txt dec e) :: txts dec es
end

end Go.Proofs.YtgkalcboklhdgaaGreatDoor

namespace Go.Proofs.YtgkalcboklhdgaaGreatDoor
open Go.RowKit Go.Shelf
set_option linter.unusedVariables false
set_option linter.unusedSimpArgs false
open Ex

theorem WK.box {B b : Nat} {w w' : World} (h : WK B b w w') {k : Nat} {c : Array Value} {f : Nat × Nat} (hk : w.heap[k]? = some (.cells c tEx f)) (hb : k ≠ b) : w'.heap[k]? = some (.cells c tEx f) :=
  h.2 k _ hk (by simpa using hb) (fun c' fz e => by cases e)
theorem BlF.ne {B b : Nat} {l : List UInt8} {w : World} (h : BlF B b l w) {k : Nat} {c : Array Value} {f : Nat × Nat} (hk : w.heap[k]? = some (.cells c tEx f)) : k ≠ b := by
  rintro rfl
  rcases h with ⟨_, v, hb, _⟩ | ⟨_, v, hb, _⟩ <;> (rw [hk] at hb; cases hb)
theorem BlF.ext {B b : Nat} {l : List UInt8} {w W : World} (h : BlF B b l w) (hE : Ext w W) : BlF B b l W := by
  have hat : ∀ p, Lib.BuilderAtF 58 5 B b p (bsV l) w → Lib.BuilderAtF 58 5 B b p (bsV l) W := by
    rintro p ⟨h1, v, h2, h3, h4⟩
    exact ⟨h1, v, (hE.below.block b (lt_of_block h2)).trans h2, h3.kept (row := none) ⟨hE.os, hE.tape, hE.output, hE.size, fun i hi _ => hE.below.block i hi⟩ (by cases v.ownBlock with | none => exact .inl rfl | some j => exact .inr (by simp)), h4⟩
  rcases h with h | h
  · exact .inl (hat _ h)
  · exact .inr (hat _ h)
theorem BlF.alloc {B b : Nat} {l : List UInt8} {w : World} (h : BlF B b l w) (o : Obj) : BlF B b l (w.alloc o) := Lib.IsBuilderF.alloc h o

set_option maxHeartbeats 2000000 in
set_option maxRecDepth 100000 in
theorem argument_of (KW : World → Prop) (N : Nat) (hN : N ≤ 1000000000) (B b : Nat) (l t : List UInt8) (e : Ex) (p : Option Addr) (c : Nat) (limit : Int) (w : World) (hk : e.kind = 4 → knownB e.op = true) (hA : AtB (· < B) w p e) (hBl : BlF B b l w) (hBw : B ≤ w.heap.size) (hlen : l.length + (brk limit (prec e) t).length ≤ N) (hKB : ∀ W W', Below B W W' → KW W → KW W') (hKw : KW w)
    (hw : ∀ W l', KW W → AtB (· < B) W p e → BlF B b l' W → l'.length + t.length ≤ N → B ≤ W.heap.size → Calls Tryz.prog 34 #[.pointer (some ⟨b, 0, none⟩), e.val p c] W fun r w' => r = .returned (.tuple #[]) ∧ BlF B b (l' ++ t) w' ∧ WK B b W w') :
    Calls Tryz.prog 62 #[.pointer (some ⟨b, 0, none⟩), e.val p c, .int .i64 limit] w fun r w' => r = .returned (.tuple #[]) ∧ BlF B b (l ++ brk limit (prec e) t) w' ∧ WK B b w w' := by
  have C1 := Lib.hid (fun W => show Gives _ _ #[.agg #[.int .i64 e.kind, .int .i64 e.op, sV e.name, .int .i64 e.value, .slice p e.args.length c]] _ _ from precedence_any e hk p c W)
  have C2 := Lib.hid (fun W l' (h : WK B b w W) (h1 : BlF B b l' W) (h2 : l'.length + t.length ≤ N) => show Calls _ _ #[_, .agg #[.int .i64 e.kind, .int .i64 e.op, sV e.name, .int .i64 e.value, .slice p e.args.length c]] _ _ from hw W l' (hKB _ _ h.1 hKw) (hA.keep fun k hk hl => ⟨hk, h.1.block k hk⟩) h1 h2 (Nat.le_trans hBw h.1.size))
  have hv : e.val p c = .agg #[.int .i64 e.kind, .int .i64 e.op, sV e.name, .int .i64 e.value, .slice p e.args.length c] := rfl
  rw [hv]
  clear hv hw hA hk hKB hKw
  generalize prec e = pe at *
  generalize e.kind = k1 at *
  generalize e.op = o1 at *
  generalize e.name = n1 at *
  generalize e.value = v1 at *
  generalize e.args.length = l1 at *
  have HBl := Lib.hid hBl
  have hE := (Below.refl w.heap.size w).alloc (Nat.le_refl _) (.cells #[.int .i64 k1, .int .i64 o1, sV n1, .int .i64 v1, .slice p l1 c] tEx)
  have HX := Lib.hid (And.intro (alloc_here w (.cells #[.int .i64 k1, .int .i64 o1, sV n1, .int .i64 v1, .slice p l1 c] tEx)) (And.intro (hBl.alloc (.cells #[.int .i64 k1, .int .i64 o1, sV n1, .int .i64 v1, .slice p l1 c] tEx)) (show Ext w _ from hE)))
  clear hBl hE
  go_enter_defers Tryz.func62, Tryz.ntmps62
  go_wp2_with fail
  refine (C1.out _).mono ?_
  intro w1 hB1
  replace hB1 : Ext _ w1 := hB1
  have hbx : w1.heap[w.heap.size]? = _ := (hB1.below.block _ (lt_of_block HX.out.1)).trans HX.out.1
  have hE1 : Ext w w1 := Ext.trans HX.out.2.2 hB1
  have hbl1 := HBl.out.ext hE1
  have hne := hbl1.ne hbx
  have HY := Lib.hid (And.intro hbx (And.intro hE1 (And.intro hbl1 hne)))
  clear hbx hE1 hbl1 hne hB1 HX C1
  by_cases hlt : pe < limit
  · have hg : decide (pe < limit) = true := by simpa using hlt
    have HT := Lib.hid (show brk limit pe t = [40] ++ t ++ [41] by unfold brk; rw [if_pos hlt])
    have hBw1 := Nat.le_trans hBw HY.out.2.1.size
    rw [HT.out] at hlen
    simp only [List.length_append, List.length_cons, List.length_nil] at hlen
    clear hlt
    go_wp2_with fail
    refine (wk_writeByte B b l 40 40 rfl w1 HY.out.2.2.1 (by omega) hBw1).mono ?_
    rintro _ w2 ⟨rfl, hbl2, hk2⟩
    have hbx2 := hk2.box HY.out.1 HY.out.2.2.2
    obtain ⟨x0, x1, x2, x3, x4, f0⟩ := box5 hbx2
    have HW2 := Lib.hid ((WK.of_ext (b := b) HY.out.2.1 hBw).trans hk2)
    have HL2 := Lib.hid hbl2
    clear hbx2 hk2 hbl2
    go_wp2_with fail
    refine (C2.out w2 _ HW2.out HL2.out (by simp; omega)).mono ?_
    rintro _ w3 ⟨rfl, hbl3, hk3⟩
    have HW3 := Lib.hid (HW2.out.trans hk3)
    have HL3 := Lib.hid hbl3
    clear x0 x1 x2 x3 x4 f0 hbl3 hk3 HW2 HL2
    go_wp2
    refine leaves_cons (f := 83) (args := #[.pointer (some ⟨b, 0, none⟩), .int .u8 41]) (by simp) (by simp [go_sem]) ?_
    refine (writeByte_deferred B b _ 41 41 rfl .returning w3 HL3.out (by simp; omega) (Nat.le_trans hBw HW3.out.1.size)).mono ?_
    rintro e u' w'' ⟨rfl, rfl, hbl, hk⟩
    refine ⟨.tuple #[], by simp [results, Tryz.f62, go_sem], rfl, ?_, HW3.out.trans hk⟩
    rw [HT.out]
    simpa [List.append_assoc] using hbl
  · have hg : decide (pe < limit) = false := by simpa using hlt
    have HT := Lib.hid (show brk limit pe t = t by unfold brk; rw [if_neg hlt])
    obtain ⟨x0, x1, x2, x3, x4, f0⟩ := box5 HY.out.1
    rw [HT.out] at hlen
    clear hlt
    go_wp2_with fail
    refine (C2.out w1 l (WK.of_ext HY.out.2.1 hBw) HY.out.2.2.1 (by omega)).mono ?_
    rintro _ w3 ⟨rfl, hbl3, hk3⟩
    have HW3 := Lib.hid ((WK.of_ext (b := b) HY.out.2.1 hBw).trans hk3)
    have HL3 := Lib.hid hbl3
    clear x0 x1 x2 x3 x4 f0 hbl3 hk3
    go_wp2
    refine ⟨.tuple #[], by simp [results, Tryz.f62, go_sem], rfl, ?_, HW3.out⟩
    rw [HT.out]
    exact HL3.out

end Go.Proofs.YtgkalcboklhdgaaGreatDoor

namespace Go.Proofs.YtgkalcboklhdgaaGreatDoor
open Go.RowKit Go.Shelf
set_option linter.unusedVariables false
set_option linter.unusedSimpArgs false
open Ex

theorem WK.boxT {B b : Nat} {w w' : World} {T : TypeId} (h : WK B b w w') (hT : T ≠ 5) {k : Nat} {c : Array Value} {f : Nat × Nat} (hk : w.heap[k]? = some (.cells c T f)) (hb : k ≠ b) : w'.heap[k]? = some (.cells c T f) :=
  h.2 k _ hk (by simpa using hb) (fun c' fz e => by cases e; exact hT rfl)
theorem BlF.neT {B b : Nat} {l : List UInt8} {w : World} {T : TypeId} (h : BlF B b l w) (hT : T ≠ 58) {k : Nat} {c : Array Value} {f : Nat × Nat} (hk : w.heap[k]? = some (.cells c T f)) : k ≠ b := by
  rintro rfl
  rcases h with ⟨_, v, hb, _⟩ | ⟨_, v, hb, _⟩ <;> (rw [hk] at hb; cases hb; exact hT rfl)
/-- argument writes what f says -/
def ArgW (N B b : Nat) (w : World) (v : Value) (f : Int → List UInt8) : Prop := ∀ lim l' W, WK B b w W → BlF B b l' W → l'.length + (f lim).length ≤ N →
  Calls Tryz.prog 62 #[.pointer (some ⟨b, 0, none⟩), v, .int .i64 lim] W fun r w' => r = .returned (.tuple #[]) ∧ BlF B b (l' ++ f lim) w' ∧ WK B b W w'
/-- five cells that stay -/
def KeepC (B b : Nat) (w : World) (g off : Nat) (x0 x1 x2 x3 x4 : Value) : Prop := ∀ W, WK B b w W →
  W.cell? ⟨g, off, none⟩ = some x0 ∧ W.cell? ⟨g, off + 1, none⟩ = some x1 ∧ W.cell? ⟨g, off + 2, none⟩ = some x2 ∧ W.cell? ⟨g, off + 3, none⟩ = some x3 ∧ W.cell? ⟨g, off + 4, none⟩ = some x4

set_option maxHeartbeats 4000000 in
set_option maxRecDepth 100000 in
theorem write_num (KW : World → Prop) (N : Nat) (hN : N ≤ 1000000000) (B b : Nat) (v : Int) (t : List UInt8) (HI : ∀ W, KW W → Calls Tryz.prog 61 #[.int .i64 v] W fun r w' => r = .returned (sV t) ∧ Ext W w') (p : Option Addr) (c : Nat) (l : List UInt8) (w : World) (hKB : ∀ W W', Below B W W' → KW W → KW W') (hKw : KW w) (hBl : BlF B b l w) (hBw : B ≤ w.heap.size) (hlen : l.length + t.length ≤ N) :
    Calls Tryz.prog 34 #[.pointer (some ⟨b, 0, none⟩), .agg #[.int .i64 1, .int .i64 0, sV [], .int .i64 v, .slice p 0 c]] w fun r w' => r = .returned (.tuple #[]) ∧ BlF B b (l ++ t) w' ∧ WK B b w w' := by
  have hE := (Below.refl w.heap.size w).alloc (Nat.le_refl _) (.cells #[.int .i64 1, .int .i64 0, sV [], .int .i64 v, .slice p 0 c] tEx)
  have HX := Lib.hid (And.intro (alloc_here w (.cells #[.int .i64 1, .int .i64 0, sV [], .int .i64 v, .slice p 0 c] tEx)) (And.intro (hBl.ext hE) (show Ext w _ from hE)))
  have hx0 := HX.out.1
  have HNE := Lib.hid (HX.out.2.1.ne hx0)
  have HS1 := Lib.hid (show B ≤ (w.alloc (.cells #[.int .i64 1, .int .i64 0, sV [], .int .i64 v, .slice p 0 c] tEx)).heap.size by simp; omega)
  clear hE hx0
  have C1 := Lib.hid (fun W h => HI W h)
  have HKW := Lib.hid (hKB _ _ (HX.out.2.2.below.mono hBw) hKw)
  clear HI hKB hKw
  go_enter Tryz.func34, Tryz.ntmps34
  go_wp2_with fail
  refine (C1.out _ HKW.out).mono ?_
  rintro _ w1 ⟨rfl, hE1⟩
  replace hE1 : Ext _ w1 := hE1
  have HB1 := Lib.hid (HX.out.2.1.ext hE1)
  have HE1 := Lib.hid hE1
  have hs := Nat.le_trans HS1.out hE1.size
  clear hE1
  go_wp2_with fail
  refine (wk_writeString B b l t w1 HB1.out (by omega) hs).mono ?_
  rintro _ w2 ⟨rfl, hbl, hk⟩
  have HR := Lib.hid (And.intro hbl ((WK.of_ext (b := b) (Ext.trans HX.out.2.2 HE1.out) hBw).trans hk))
  clear hbl hk
  go_wp2
  go_end0
  exact ⟨rfl, HR.out.1, HR.out.2⟩

set_option maxHeartbeats 4000000 in
set_option maxRecDepth 100000 in
theorem write_nam (N : Nat) (hN : N ≤ 1000000000) (B b : Nat) (nm : List UInt8) (p : Option Addr) (c : Nat) (l : List UInt8) (w : World) (hBl : BlF B b l w) (hBw : B ≤ w.heap.size) (hlen : l.length + nm.length ≤ N) :
    Calls Tryz.prog 34 #[.pointer (some ⟨b, 0, none⟩), .agg #[.int .i64 2, .int .i64 0, sV nm, .int .i64 0, .slice p 0 c]] w fun r w' => r = .returned (.tuple #[]) ∧ BlF B b (l ++ nm) w' ∧ WK B b w w' := by
  have hE := (Below.refl w.heap.size w).alloc (Nat.le_refl _) (.cells #[.int .i64 2, .int .i64 0, sV nm, .int .i64 0, .slice p 0 c] tEx)
  have HX := Lib.hid (And.intro (alloc_here w (.cells #[.int .i64 2, .int .i64 0, sV nm, .int .i64 0, .slice p 0 c] tEx)) (And.intro (hBl.ext hE) (show Ext w _ from hE)))
  have hx0 := HX.out.1
  have HNE := Lib.hid (HX.out.2.1.ne hx0)
  have HS1 := Lib.hid (show B ≤ (w.alloc (.cells #[.int .i64 2, .int .i64 0, sV nm, .int .i64 0, .slice p 0 c] tEx)).heap.size by simp; omega)
  clear hE hx0
  go_enter Tryz.func34, Tryz.ntmps34
  go_wp2_with fail
  refine (wk_writeString B b l nm _ HX.out.2.1 (by omega) HS1.out).mono ?_
  rintro _ w2 ⟨rfl, hbl, hk⟩
  have HR := Lib.hid (And.intro hbl ((WK.of_ext (b := b) HX.out.2.2 hBw).trans hk))
  clear hbl hk
  go_wp2
  go_end0
  exact ⟨rfl, HR.out.1, HR.out.2⟩

set_option maxHeartbeats 4000000 in
set_option maxRecDepth 100000 in
theorem write_un1 (N : Nat) (hN : N ≤ 1000000000) (B b : Nat) (f : Int → List UInt8) (k1 o1 : Int) (n1 : List UInt8) (v1 : Int) (q : Option Addr) (l1 cc b0 off c : Nat) (l : List UInt8) (w : World) (hBl : BlF B b l w) (hBw : B ≤ w.heap.size)
    (hA : ArgW N B b w (.agg #[.int .i64 k1, .int .i64 o1, sV n1, .int .i64 v1, .slice q l1 cc]) f) (hC : KeepC B b w b0 off (.int .i64 k1) (.int .i64 o1) (sV n1) (.int .i64 v1) (.slice q l1 cc)) (hlen : l.length + ([45] ++ f 6).length ≤ N) :
    Calls Tryz.prog 34 #[.pointer (some ⟨b, 0, none⟩), .agg #[.int .i64 3, .int .i64 1, sV [], .int .i64 0, .slice (some ⟨b0, off, none⟩) 1 c]] w fun r w' => r = .returned (.tuple #[]) ∧ BlF B b (l ++ ([45] ++ f 6)) w' ∧ WK B b w w' := by
  have hE := (Below.refl w.heap.size w).alloc (Nat.le_refl _) (.cells #[.int .i64 3, .int .i64 1, sV [], .int .i64 0, .slice (some ⟨b0, off, none⟩) 1 c] tEx)
  have HX := Lib.hid (And.intro (alloc_here w (.cells #[.int .i64 3, .int .i64 1, sV [], .int .i64 0, .slice (some ⟨b0, off, none⟩) 1 c] tEx)) (And.intro (hBl.ext hE) (show Ext w _ from hE)))
  have hx0 := HX.out.1
  have HNE := Lib.hid (HX.out.2.1.ne hx0)
  have HS1 := Lib.hid (show B ≤ (w.alloc (.cells #[.int .i64 3, .int .i64 1, sV [], .int .i64 0, .slice (some ⟨b0, off, none⟩) 1 c] tEx)).heap.size by simp; omega)
  clear hE hx0
  have HA := Lib.hid hA
  have HC := Lib.hid hC
  clear hA hC
  go_enter Tryz.func34, Tryz.ntmps34
  go_wp2_with fail
  refine (wk_writeString B b l [45] _ (HX.out.2.1.alloc _) (by simp at hlen ⊢; omega) (by have := HS1.out; simp at this ⊢; omega)).mono ?_
  rintro _ w2 ⟨rfl, hbl2, hk2⟩
  have hE2 : Ext w _ := HX.out.2.2.alloc (by simp <;> omega) (.cells #[sV [], sV [45], sV [33]] 9)
  have HW2 := Lib.hid ((WK.of_ext (b := b) hE2 hBw).trans hk2)
  have hbx2 := hk2.boxT (by decide) ((Below.heap_alloc _ _ _ (by simp)).trans HX.out.1) HNE.out
  obtain ⟨x0, x1, x2, x3, x4, f0⟩ := box5 hbx2
  obtain ⟨y0, y1, y2, y3, y4⟩ := HC.out w2 HW2.out
  have HL2 := Lib.hid hbl2
  clear hbl2 hk2 hbx2 hE2
  go_wp2_with fail
  refine (HA.out _ _ w2 HW2.out HL2.out (by simp at hlen ⊢; omega)).mono ?_
  rintro _ w3 ⟨rfl, hbl3, hk3⟩
  have HW3 := Lib.hid (HW2.out.trans hk3)
  have HL3 := Lib.hid hbl3
  clear x0 x1 x2 x3 x4 f0 y0 y1 y2 y3 y4 hbl3 hk3
  go_wp2
  go_end0
  exact ⟨rfl, by simpa using HL3.out, HW3.out⟩

set_option maxHeartbeats 4000000 in
set_option maxRecDepth 100000 in
theorem write_un2 (N : Nat) (hN : N ≤ 1000000000) (B b : Nat) (f : Int → List UInt8) (k1 o1 : Int) (n1 : List UInt8) (v1 : Int) (q : Option Addr) (l1 cc b0 off c : Nat) (l : List UInt8) (w : World) (hBl : BlF B b l w) (hBw : B ≤ w.heap.size)
    (hA : ArgW N B b w (.agg #[.int .i64 k1, .int .i64 o1, sV n1, .int .i64 v1, .slice q l1 cc]) f) (hC : KeepC B b w b0 off (.int .i64 k1) (.int .i64 o1) (sV n1) (.int .i64 v1) (.slice q l1 cc)) (hlen : l.length + ([33] ++ f 6).length ≤ N) :
    Calls Tryz.prog 34 #[.pointer (some ⟨b, 0, none⟩), .agg #[.int .i64 3, .int .i64 2, sV [], .int .i64 0, .slice (some ⟨b0, off, none⟩) 1 c]] w fun r w' => r = .returned (.tuple #[]) ∧ BlF B b (l ++ ([33] ++ f 6)) w' ∧ WK B b w w' := by
  have hE := (Below.refl w.heap.size w).alloc (Nat.le_refl _) (.cells #[.int .i64 3, .int .i64 2, sV [], .int .i64 0, .slice (some ⟨b0, off, none⟩) 1 c] tEx)
  have HX := Lib.hid (And.intro (alloc_here w (.cells #[.int .i64 3, .int .i64 2, sV [], .int .i64 0, .slice (some ⟨b0, off, none⟩) 1 c] tEx)) (And.intro (hBl.ext hE) (show Ext w _ from hE)))
  have hx0 := HX.out.1
  have HNE := Lib.hid (HX.out.2.1.ne hx0)
  have HS1 := Lib.hid (show B ≤ (w.alloc (.cells #[.int .i64 3, .int .i64 2, sV [], .int .i64 0, .slice (some ⟨b0, off, none⟩) 1 c] tEx)).heap.size by simp; omega)
  clear hE hx0
  have HA := Lib.hid hA
  have HC := Lib.hid hC
  clear hA hC
  go_enter Tryz.func34, Tryz.ntmps34
  go_wp2_with fail
  refine (wk_writeString B b l [33] _ (HX.out.2.1.alloc _) (by simp at hlen ⊢; omega) (by have := HS1.out; simp at this ⊢; omega)).mono ?_
  rintro _ w2 ⟨rfl, hbl2, hk2⟩
  have hE2 : Ext w _ := HX.out.2.2.alloc (by simp <;> omega) (.cells #[sV [], sV [45], sV [33]] 9)
  have HW2 := Lib.hid ((WK.of_ext (b := b) hE2 hBw).trans hk2)
  have hbx2 := hk2.boxT (by decide) ((Below.heap_alloc _ _ _ (by simp)).trans HX.out.1) HNE.out
  obtain ⟨x0, x1, x2, x3, x4, f0⟩ := box5 hbx2
  obtain ⟨y0, y1, y2, y3, y4⟩ := HC.out w2 HW2.out
  have HL2 := Lib.hid hbl2
  clear hbl2 hk2 hbx2 hE2
  go_wp2_with fail
  refine (HA.out _ _ w2 HW2.out HL2.out (by simp at hlen ⊢; omega)).mono ?_
  rintro _ w3 ⟨rfl, hbl3, hk3⟩
  have HW3 := Lib.hid (HW2.out.trans hk3)
  have HL3 := Lib.hid hbl3
  clear x0 x1 x2 x3 x4 f0 y0 y1 y2 y3 y4 hbl3 hk3
  go_wp2
  go_end0
  exact ⟨rfl, by simpa using HL3.out, HW3.out⟩

end Go.Proofs.YtgkalcboklhdgaaGreatDoor

namespace Go.Proofs.YtgkalcboklhdgaaGreatDoor
open Go.RowKit Go.Shelf
set_option linter.unusedVariables false
set_option linter.unusedSimpArgs false
open Ex

theorem opOf_prec (o : Int) (hk : knownB o = true) : 1 ≤ (opOf o).prec ∧ (opOf o).prec ≤ 5 := by
  unfold knownB at hk
  obtain ⟨h1, h2⟩ := of_decide_eq_true hk
  obtain ⟨n, rfl⟩ : ∃ n : Nat, o = n := ⟨o.toNat, by omega⟩
  have : ∀ n : Nat, n < 16 → 3 ≤ n → 1 ≤ (opOf (n : Int)).prec ∧ (opOf (n : Int)).prec ≤ 5 := by decide
  exact this n (by omega) (by omega)

set_option maxHeartbeats 2000000 in
set_option maxRecDepth 100000 in
theorem write_bin (N : Nat) (hN : N ≤ 1000000000) (B b : Nat) (f g : Int → List UInt8) (o : Int) (hk : knownB o = true) (k1 o1 : Int) (n1 : List UInt8) (v1 : Int) (q : Option Addr) (l1 cc : Nat) (k2 o2 : Int) (n2 : List UInt8) (v2 : Int) (q2 : Option Addr) (l2 cc2 : Nat) (b0 off c : Nat) (l : List UInt8) (w : World) (hBl : BlF B b l w) (hBw : B ≤ w.heap.size)
    (hA : ArgW N B b w (.agg #[.int .i64 k1, .int .i64 o1, sV n1, .int .i64 v1, .slice q l1 cc]) f) (hC : KeepC B b w b0 off (.int .i64 k1) (.int .i64 o1) (sV n1) (.int .i64 v1) (.slice q l1 cc))
    (hA2 : ArgW N B b w (.agg #[.int .i64 k2, .int .i64 o2, sV n2, .int .i64 v2, .slice q2 l2 cc2]) g) (hC2 : KeepC B b w b0 (off + 5) (.int .i64 k2) (.int .i64 o2) (sV n2) (.int .i64 v2) (.slice q2 l2 cc2))
    (t : List UInt8) (ht : t = f (if (opOf o).prec = 3 then 4 else (opOf o).prec) ++ [32] ++ (opOf o).sign ++ [32] ++ g ((opOf o).prec + 1)) (hlen : l.length + t.length ≤ N) :
    Calls Tryz.prog 34 #[.pointer (some ⟨b, 0, none⟩), .agg #[.int .i64 4, .int .i64 o, sV [], .int .i64 0, .slice (some ⟨b0, off, none⟩) 2 c]] w fun r w' => r = .returned (.tuple #[]) ∧ BlF B b (l ++ t) w' ∧ WK B b w w' := by
  have hE := (Below.refl w.heap.size w).alloc (Nat.le_refl _) (.cells #[.int .i64 4, .int .i64 o, sV [], .int .i64 0, .slice (some ⟨b0, off, none⟩) 2 c] tEx)
  have HX := Lib.hid (And.intro (alloc_here w (.cells #[.int .i64 4, .int .i64 o, sV [], .int .i64 0, .slice (some ⟨b0, off, none⟩) 2 c] tEx)) (And.intro (hBl.ext hE) (show Ext w _ from hE)))
  have hx0 := HX.out.1
  have HNE := Lib.hid (HX.out.2.1.ne hx0)
  have HS1 := Lib.hid (show B ≤ (w.alloc (.cells #[.int .i64 4, .int .i64 o, sV [], .int .i64 0, .slice (some ⟨b0, off, none⟩) 2 c] tEx)).heap.size by simp; omega)
  clear hE hx0
  have HA := Lib.hid hA
  have HC := Lib.hid hC
  have HA2 := Lib.hid hA2
  have HC2 := Lib.hid hC2
  have hP := opOf_prec o hk
  have hbx := HX.out.1
  have HTX := Lib.hid ht
  clear hA hC hA2 hC2 ht
  go_enter Tryz.func34, Tryz.ntmps34
  go_wp2_with fail
  generalize w.alloc (.cells #[.int .i64 4, .int .i64 o, sV [], .int .i64 0, .slice (some ⟨b0, off, none⟩) 2 c] tEx) = w1 at *
  have hltx := lt_of_block hbx
  refine wp_region_g (by kernel_rfl) (Grow w1.heap.size tOp (opF (o))) (Grow.drawn _ _ _) Grow.trans (op25 (w.heap.size) w1.heap.size (o)) op25D (op25_st (w.heap.size) _ (o)) (by kernel_rfl) (by kernel_rfl) (by kernel_rfl) 69 rfl (by kernel_rfl) ?_ ?_
  · intro i op ho a' W hA
    have hb : W.heap[w.heap.size]? = some (.cells #[.int .i64 4, .int .i64 o, sV [], .int .i64 0, .slice (some ⟨b0, off, none⟩) 2 c] tEx (0, 0)) := (hA.rel.low hltx hltx).trans hbx
    have c1 : W.cell? ⟨w.heap.size, 1, none⟩ = some (.int .i64 (o)) := cell_of hb rfl
    match i, ho with
    | 0, ho =>
      obtain rfl := Option.some.inj ho
      refine GoesG.call 63 #[] rfl ?_ ((operators_any W).mono ?_)
      · simp [execOp, resolve, invoke, Deferred.ofValue]
        rfl
      · rintro e W1 ⟨b, rfl, hO, hE⟩
        exact ⟨_, rfl, Grow.of_ext hE, fun s h1 h2 => ⟨b, h1 rfl, hO⟩⟩
    | 1, ho =>
      obtain rfl := Option.some.inj ho
      have e1 : a'.eval (.tmp 3) = .pointer (some ⟨w.heap.size, 0, none⟩) := hA.keep 3 (by kernel_rfl)
      refine GoesG.value (.pointer (some ⟨w.heap.size, 1, none⟩)) rfl ?_ (Grow.refl _ _ _ _) (fun s h1 h2 => h1 rfl)
      simp only [execOp, e1]
      simp [go_sem]
    | 2, ho =>
      obtain rfl := Option.some.inj ho
      have e1 : a'.eval (.tmp 9) = .pointer (some ⟨w.heap.size, 1, none⟩) := (sv_dst (l := _) rfl).symm.trans (hA.new 1 (by decide) (by kernel_rfl))
      refine GoesG.value (.int .i64 (o)) rfl ?_ (Grow.refl _ _ _ _) (fun s h1 h2 => h1 rfl)
      simp only [execOp, e1]
      simp [go_sem, c1]
    | 3, ho =>
      obtain rfl := Option.some.inj ho
      obtain ⟨b, e0, hO⟩ := hA.new 0 (by decide) (by kernel_rfl)
      have e1 : a'.eval (.tmp 8) = .map (some b) := (sv_dst (l := _) rfl).symm.trans e0
      have e2 : a'.eval (.tmp 10) = .int .i64 (o) := (sv_dst (l := _) rfl).symm.trans (hA.new 2 (by decide) (by kernel_rfl))
      obtain ⟨fv, hf, hr⟩ := ops_yes hO (o) hk
      have hrun := hr false
      refine GoesG.value ((opOf (o)).val fv) rfl ?_ (Grow.refl _ _ _ _) (fun s h1 h2 => ⟨fv, h1 rfl, fnOk_one hf⟩)
      simp only [execOp, e1, e2, Sem.run_bind, hrun, Result.andThen_ok, Sem.run_pure]
      rfl
    | 4, ho =>
      obtain rfl := Option.some.inj ho
      refine GoesG.value (.pointer (some ⟨W.heap.size, 0, none⟩)) (W' := W.alloc (.cells #[sV [], .int .i64 0, .int .i64 0, .int .i64 0, .nilFunc] tOp)) rfl ?_ (Grow.of_ext ((Below.refl _ W).alloc (Nat.le_refl _) _)) (fun s h1 h2 => ⟨_, _, h1 rfl, hA.rel.size, alloc_here _ _, rfl⟩)
      simp only [execOp]
      simp [go_sem]
      rfl
    | 5, ho =>
      obtain rfl := Option.some.inj ho
      obtain ⟨g, cc, e0, hB2, hg, hcc⟩ := hA.new 4 (by decide) (by kernel_rfl)
      obtain ⟨fv, e5, hone⟩ := hA.new 3 (by decide) (by kernel_rfl)
      have e1 : a'.eval (.tmp 4) = .pointer (some ⟨g, 0, none⟩) := (sv_dst (l := _) rfl).symm.trans e0
      have e2 : a'.eval (.tmp 11) = .agg #[sV (opOf (o)).sign, .int .i64 (opOf (o)).prec, .int .i64 (opOf (o)).arg, .int .i64 (opOf (o)).res, fv] := (sv_dst (l := _) rfl).symm.trans e5
      exact GoesG.store rfl tOp (.tmp 4) (.tmp 11) rfl g _ e1 e2 tOp cc hg (by kernel_rfl) hcc (by simp [Value.oneCell']; exact hone) rfl (Grow.row hg hB2 hcc.symm ⟨fv, rfl⟩)
        (fun s h2 => ⟨g, _, (h2 4 (by decide) (by kernel_rfl)).trans e0, hB2, setRow_heap _ _ _ _ _ _ hg, fv, rfl⟩)
    | i + 6, ho => cases ho
  · intro vs W3 hvs hG hΦ
    obtain ⟨u0, u1, u2, u3, u4, u5, rfl⟩ := six vs hvs
    obtain ⟨g2, cc, hu4, hBg, hg2, fv, hcc⟩ : ∃ g cc, u4 = .pointer (some ⟨g, 0, none⟩) ∧ w1.heap.size ≤ g ∧ W3.heap[g]? = some (.cells cc tOp (0, 0)) ∧ opF (o) cc := hΦ 5 (by decide)
    subst hcc hu4
    have hW3 : Ext w1 W3 := hG.ext
    clear hΦ hG hvs
    simp only [putAll, Act.put, List.setIfInBounds_toArray, List.set_cons_succ, List.set_cons_zero]
    have hEx := Ext.trans HX.out.2.2 hW3
    have HW3 := Lib.hid (WK.of_ext (b := b) hEx hBw)
    have HL3 := Lib.hid (HX.out.2.1.ext hW3)
    have HB3 := Lib.hid ((hW3.below.block _ (lt_of_block hbx)).trans hbx)
    have HG3 := Lib.hid hg2
    have HNG := Lib.hid (HL3.out.neT (by decide) hg2)
    clear hltx hbx hW3 hEx hk HX
    generalize (opOf o).prec = pr at *
    generalize (opOf o).sign = sg at *
    obtain ⟨z0, z1, z2, z3, z4, z5⟩ := box5 HB3.out
    obtain ⟨g0, g1, g4⟩ : W3.cell? ⟨g2, 0, none⟩ = some (sV sg) ∧ W3.cell? ⟨g2, 1, none⟩ = some (.int .i64 pr) ∧ True := ⟨cell_of HG3.out rfl, cell_of HG3.out rfl, trivial⟩
    obtain ⟨y0, y1, y2, y3, y4⟩ := HC.out W3 HW3.out
    clear g4 hg2 z5
    by_cases h3 : pr = 3
    · subst h3
      have HT := Lib.hid (show t = f 4 ++ ([32] ++ sg ++ [32]) ++ g (4) by rw [HTX.out]; simp)
      clear HTX
      have hlen' := hlen
      rw [HT.out] at hlen'
      simp only [List.length_append, List.length_cons, List.length_nil] at hlen'

      go_wp2_with fail
      refine (HA.out _ l W3 HW3.out HL3.out (by omega)).mono ?_
      rintro _ w4 ⟨rfl, hbl4, hk4⟩
      have HW4 := Lib.hid (HW3.out.trans hk4)
      have HL4 := Lib.hid hbl4
      have HB4 := Lib.hid (hk4.boxT (by decide) HB3.out HNE.out)
      have HG4 := Lib.hid (hk4.boxT (by decide) HG3.out HNG.out)
      clear z0 z1 z2 z3 z4 g0 g1 y0 y1 y2 y3 y4 hbl4 hk4
      obtain ⟨g0, g1⟩ : w4.cell? ⟨g2, 0, none⟩ = some (sV sg) ∧ w4.cell? ⟨g2, 1, none⟩ = some (.int .i64 3) := ⟨cell_of HG4.out rfl, cell_of HG4.out rfl⟩
      go_wp2_with fail
      refine (wk_writeString B b _ ([32] ++ sg ++ [32]) w4 HL4.out (by simp only [List.length_append, List.length_cons, List.length_nil]; omega) (Nat.le_trans hBw HW4.out.1.size)).mono ?_
      rintro _ w5 ⟨rfl, hbl5, hk5⟩
      have HW5 := Lib.hid (HW4.out.trans hk5)
      have HL5 := Lib.hid hbl5
      have HB5 := Lib.hid (hk5.boxT (by decide) HB4.out HNE.out)
      have HG5 := Lib.hid (hk5.boxT (by decide) HG4.out HNG.out)
      clear g0 g1 hbl5 hk5
      obtain ⟨g0, g1⟩ : w5.cell? ⟨g2, 0, none⟩ = some (sV sg) ∧ w5.cell? ⟨g2, 1, none⟩ = some (.int .i64 3) := ⟨cell_of HG5.out rfl, cell_of HG5.out rfl⟩
      obtain ⟨z0, z1, z2, z3, z4, z5⟩ := box5 HB5.out
      obtain ⟨y0, y1, y2, y3, y4⟩ := HC2.out w5 HW5.out
      clear z5
      go_wp2_with fail
      have hEd : Ext w5 w5.drew := (Below.refl _ w5).drew
      have hs5 := Nat.le_trans hBw HW5.out.1.size
      go_still_tail 8, (by kernel_rfl)
      have HW6 := Lib.hid (HW5.out.trans (WK.of_ext (b := b) hEd hs5))
      have HL6 := Lib.hid (HL5.out.ext hEd)
      clear z0 z1 z2 z3 z4 g0 g1 y0 y1 y2 y3 y4 hEd
      go_wp2_with fail
      refine (HA2.out (4) _ w5.drew HW6.out HL6.out (by simp only [List.length_append, List.length_cons, List.length_nil]; omega)).mono ?_
      rintro _ w7 ⟨rfl, hbl7, hk7⟩
      have HR := Lib.hid (And.intro hbl7 (HW6.out.trans hk7))
      clear hbl7 hk7
      go_wp2
      go_end0
      exact ⟨rfl, by rw [HT.out]; simpa [List.append_assoc] using HR.out.1, HR.out.2⟩
    · have h3b : (pr == 3) = false := by simpa using h3
      have HT := Lib.hid (show t = f pr ++ ([32] ++ sg ++ [32]) ++ g (pr + 1) by rw [HTX.out]; rw [if_neg h3]; simp)
      clear HTX
      have hlen' := hlen
      rw [HT.out] at hlen'
      simp only [List.length_append, List.length_cons, List.length_nil] at hlen'
      clear h3
      go_wp2_with fail
      refine (HA.out _ l W3 HW3.out HL3.out (by omega)).mono ?_
      rintro _ w4 ⟨rfl, hbl4, hk4⟩
      have HW4 := Lib.hid (HW3.out.trans hk4)
      have HL4 := Lib.hid hbl4
      have HB4 := Lib.hid (hk4.boxT (by decide) HB3.out HNE.out)
      have HG4 := Lib.hid (hk4.boxT (by decide) HG3.out HNG.out)
      clear z0 z1 z2 z3 z4 g0 g1 y0 y1 y2 y3 y4 hbl4 hk4
      obtain ⟨g0, g1⟩ : w4.cell? ⟨g2, 0, none⟩ = some (sV sg) ∧ w4.cell? ⟨g2, 1, none⟩ = some (.int .i64 pr) := ⟨cell_of HG4.out rfl, cell_of HG4.out rfl⟩
      go_wp2_with fail
      refine (wk_writeString B b _ ([32] ++ sg ++ [32]) w4 HL4.out (by simp only [List.length_append, List.length_cons, List.length_nil]; omega) (Nat.le_trans hBw HW4.out.1.size)).mono ?_
      rintro _ w5 ⟨rfl, hbl5, hk5⟩
      have HW5 := Lib.hid (HW4.out.trans hk5)
      have HL5 := Lib.hid hbl5
      have HB5 := Lib.hid (hk5.boxT (by decide) HB4.out HNE.out)
      have HG5 := Lib.hid (hk5.boxT (by decide) HG4.out HNG.out)
      clear g0 g1 hbl5 hk5
      obtain ⟨g0, g1⟩ : w5.cell? ⟨g2, 0, none⟩ = some (sV sg) ∧ w5.cell? ⟨g2, 1, none⟩ = some (.int .i64 pr) := ⟨cell_of HG5.out rfl, cell_of HG5.out rfl⟩
      obtain ⟨z0, z1, z2, z3, z4, z5⟩ := box5 HB5.out
      obtain ⟨y0, y1, y2, y3, y4⟩ := HC2.out w5 HW5.out
      clear z5
      go_wp2_with fail
      have hEd : Ext w5 w5.drew := (Below.refl _ w5).drew
      have hs5 := Nat.le_trans hBw HW5.out.1.size
      go_still_tail 8, (by kernel_rfl)
      have HW6 := Lib.hid (HW5.out.trans (WK.of_ext (b := b) hEd hs5))
      have HL6 := Lib.hid (HL5.out.ext hEd)
      clear z0 z1 z2 z3 z4 g0 g1 y0 y1 y2 y3 y4 hEd
      go_wp2_with fail
      refine (HA2.out (pr + 1) _ w5.drew HW6.out HL6.out (by simp only [List.length_append, List.length_cons, List.length_nil]; omega)).mono ?_
      rintro _ w7 ⟨rfl, hbl7, hk7⟩
      have HR := Lib.hid (And.intro hbl7 (HW6.out.trans hk7))
      clear hbl7 hk7
      go_wp2
      go_end0
      exact ⟨rfl, by rw [HT.out]; simpa [List.append_assoc] using HR.out.1, HR.out.2⟩

end Go.Proofs.YtgkalcboklhdgaaGreatDoor

namespace Go.Proofs.YtgkalcboklhdgaaGreatDoor
open Go.RowKit Go.Shelf
set_option linter.unusedVariables false
set_option linter.unusedSimpArgs false
open Ex

/-- all numbers of an expression -/
def nums (ok : Int → Prop) : Ex → Prop
  | .mk k _ _ v ts => (k = 1 → ok v) ∧ numsL ok ts
where numsL (ok : Int → Prop) : List Ex → Prop
  | [] => True
  | e :: es => nums ok e ∧ numsL ok es
theorem known_of {t : Ex} (h : t.fe = 0) (hk : t.kind = 4) : knownB t.op = true := by
  obtain ⟨k, o, n, v, ts⟩ := t
  rcases pc_zero (fe_mk h).1 with ⟨rfl, _⟩ | ⟨rfl, _⟩ | ⟨rfl, _⟩ | ⟨rfl, _, _, _, h1, h2⟩
  · cases hk
  · cases hk
  · cases hk
  · exact decide_eq_true (And.intro h1 h2)
theorem keepC_of {B b : Nat} {w : World} {g off : Nat} {t : Ex} {q : Option Addr} {cc : Nat} (hg : g < B) (h : cells w g off t q cc) :
    KeepC B b w g off (.int .i64 t.kind) (.int .i64 t.op) (sV t.name) (.int .i64 t.value) (.slice q t.args.length cc) := fun W hW => h.block (hW.1.block g hg)

set_option maxHeartbeats 1000000 in
theorem write_any (ok : Int → Prop) (dec : Int → List UInt8) (KW : World → Prop) (HI : ∀ v W, ok v → KW W → Calls Tryz.prog 61 #[.int .i64 v] W fun r w' => r = .returned (sV (dec v)) ∧ Ext W w') (N : Nat) (hN : N ≤ 1000000000) (B b : Nat) (hKB : ∀ W W', Below B W W' → KW W → KW W') :
    ∀ (n : Nat) (e : Ex), e.size ≤ n → e.fe = 0 → nums ok e → ∀ (p : Option Addr) (c : Nat) (l : List UInt8) (w : World), KW w → AtB (· < B) w p e → BlF B b l w → B ≤ w.heap.size → l.length + (txt dec e).length ≤ N →
      Calls Tryz.prog 34 #[.pointer (some ⟨b, 0, none⟩), e.val p c] w fun r w' => r = .returned (.tuple #[]) ∧ BlF B b (l ++ txt dec e) w' ∧ WK B b w w' := by
  intro n
  induction n with
  | zero => intro e he; have := e.size_pos; omega
  | succ n ih =>
    intro e he hfe hnum p c l w hKw hA hBl hBw hlen
    obtain ⟨k, o, nm, v, ts⟩ := e
    obtain ⟨hpc, hfes⟩ := fe_mk hfe
    have AR : ∀ (t : Ex) (q : Option Addr) (cc : Nat), t.size ≤ n → t.fe = 0 → nums ok t → AtB (· < B) w q t → ArgW N B b w (.agg #[.int .i64 t.kind, .int .i64 t.op, sV t.name, .int .i64 t.value, .slice q t.args.length cc]) (fun lim => brk lim (prec t) (txt dec t)) :=
      fun t q cc hs hf hn hAt lim l' W hW hb hl =>
        argument_of KW N hN B b l' (txt dec t) t q cc lim W (known_of hf) (hAt.keep fun k hk _ => ⟨hk, hW.1.block k hk⟩) hb (Nat.le_trans hBw hW.1.size) hl hKB (hKB _ _ hW.1 hKw) (fun W' l'' a0 a1 a2 a3 a4 => ih t hs hf hn q cc l'' W' a0 a1 a2 a4 a3)
    rcases pc_zero hpc with ⟨rfl, rfl, rfl, hm, hv1, hv2⟩ | ⟨rfl, rfl, rfl, hm, hnm⟩ | ⟨rfl, rfl, rfl, hm, ho⟩ | ⟨rfl, rfl, rfl, hm, ho1, ho2⟩
    · obtain rfl := List.eq_nil_of_length_eq_zero hm
      have HT : txt dec (.mk 1 0 [] v []) = dec v := by simp [txt]
      rw [HT] at hlen ⊢
      exact write_num KW N hN B b v (dec v) (fun W hW => HI v W (hnum.1 rfl) hW) p c l w hKB hKw hBl hBw hlen
    · obtain rfl := List.eq_nil_of_length_eq_zero hm
      have HT : txt dec (.mk 2 0 nm 0 []) = nm := by simp [txt]
      rw [HT] at hlen ⊢
      exact write_nam N hN B b nm p c l w hBl hBw hlen
    · obtain ⟨t, rfl⟩ : ∃ t, ts = [t] := by
        match ts, hm with
        | [t], _ => exact ⟨t, rfl⟩
      obtain ⟨⟨b0, off, q, cc, rfl, hb0, hcs, hA1⟩, _⟩ := hA.2
      have hft : t.fe = 0 := by simpa using fes_get hfes 0 (by simp)
      have hsz : t.size ≤ n := by simp only [Ex.size, Ex.sizes] at he; omega
      have hcs' : cells w b0 off t q cc := by simpa using hcs
      have HT : txt dec (.mk 3 o [] 0 [t]) = (if o = 1 then [45] else [33]) ++ brk 6 (prec t) (txt dec t) := by simp [txt, txts]
      rw [HT] at hlen ⊢
      rcases ho with rfl | rfl
      · exact write_un1 N hN B b (fun lim => brk lim (prec t) (txt dec t)) _ _ _ _ _ _ _ b0 off c l w hBl hBw (AR t q cc hsz hft hnum.2.1 hA1) (keepC_of hb0 hcs') hlen
      · exact write_un2 N hN B b (fun lim => brk lim (prec t) (txt dec t)) _ _ _ _ _ _ _ b0 off c l w hBl hBw (AR t q cc hsz hft hnum.2.1 hA1) (keepC_of hb0 hcs') hlen
    · obtain ⟨t, u, rfl⟩ : ∃ t u, ts = [t, u] := by
        match ts, hm with
        | [t, u], _ => exact ⟨t, u, rfl⟩
      obtain ⟨⟨b0, off, q, cc, rfl, hb0, hcs, hA1⟩, ⟨b0', off', q', cc', he2, hb0', hcs', hA2⟩, _⟩ := hA.2
      cases he2
      have hft : t.fe = 0 := by simpa using fes_get hfes 0 (by simp)
      have hfu : u.fe = 0 := by simpa using fes_get hfes 1 (by simp)
      have hsz : t.size ≤ n := by simp only [Ex.size, Ex.sizes] at he; omega
      have hsz2 : u.size ≤ n := by simp only [Ex.size, Ex.sizes] at he; omega
      have hcs1 : cells w b0 off t q cc := by simpa using hcs
      have hcs2 : cells w b0 (off + 5) u q' cc' := by simpa using hcs'
      have HT : txt dec (.mk 4 o [] 0 [t, u]) = brk (if (opOf o).prec = 3 then 4 else (opOf o).prec) (prec t) (txt dec t) ++ [32] ++ (opOf o).sign ++ [32] ++ brk ((opOf o).prec + 1) (prec u) (txt dec u) := by simp [txt, txts]
      rw [HT] at hlen ⊢
      have hk : knownB o = true := by unfold knownB; simp; omega
      exact write_bin N hN B b (fun lim => brk lim (prec t) (txt dec t)) (fun lim => brk lim (prec u) (txt dec u)) o hk _ _ _ _ _ _ _ _ _ _ _ _ _ _ b0 off c l w hBl hBw (AR t q cc hsz hft hnum.2.1 hA1) (keepC_of hb0 hcs1) (AR u q' cc' hsz2 hfu hnum.2.2.1 hA2) (keepC_of hb0 hcs2) _ rfl hlen

/-- Print -/
def prR (dec : Int → List UInt8) (e : Ex) : List UInt8 × Int := if e.chk ≠ 0 then ([], e.chk) else (txt dec e, 0)
set_option maxHeartbeats 2000000 in
set_option maxRecDepth 100000 in
theorem Print_any (ok : Int → Prop) (dec : Int → List UInt8) (KW : World → Prop) (HI : ∀ v W, ok v → KW W → Calls Tryz.prog 61 #[.int .i64 v] W fun r w' => r = .returned (sV (dec v)) ∧ Ext W w') (e : Ex) (hok : e.chk = 0 → nums ok e ∧ (txt dec e).length ≤ 1000000000) (p : Option Addr) (c : Nat) (w : World) (hKB : ∀ B, w.heap.size ≤ B → ∀ W W', Below B W W' → KW W → KW W') (hKw : KW w) (hA : Ex.At w p e) :
    Gives Tryz.prog 9 #[e.val p c] w (.tuple #[sV (prR dec e).1, .int .i64 (prR dec e).2]) := by
  have C1 := Lib.hid (fun W (h : Ext w W) => show Gives _ _ #[.agg #[.int .i64 e.kind, .int .i64 e.op, sV e.name, .int .i64 e.value, .slice p e.args.length c]] _ _ from Check_any e p c W (hA.below h))
  have C2 := Lib.hid (fun (h0 : e.chk = 0) W (h : Ext w W) => show Calls _ _ #[_, .agg #[.int .i64 e.kind, .int .i64 e.op, sV e.name, .int .i64 e.value, .slice p e.args.length c]] _ _ from
    write_any ok dec KW HI 1000000000 (Nat.le_refl _) W.heap.size W.heap.size (hKB _ h.size) e.size e (Nat.le_refl _) (chk_zero h0).2.2 (hok h0).1 p c [] (W.alloc (.cells #[.pointer none, .slice none 0 0] 58)) (hKB _ (Nat.le_refl _) _ _ (h.below.trans ((Below.refl _ W).alloc h.size _)) hKw) ((hA.below h).toB.ext ((Below.refl _ W).alloc (Nat.le_refl _) _)) (Lib.IsBuilderF.of (Lib.fresh_isBuilder _ _ W)) (by simp) (by simpa using (hok h0).2))
  have hv : e.val p c = .agg #[.int .i64 e.kind, .int .i64 e.op, sV e.name, .int .i64 e.value, .slice p e.args.length c] := rfl
  rw [hv]
  clear hv hA hok HI hKB hKw
  unfold prR
  generalize txt dec e = tt at *
  generalize e.chk = ce at *
  generalize e.kind = k1 at *
  generalize e.op = o1 at *
  generalize e.name = n1 at *
  generalize e.value = v1 at *
  generalize e.args.length = l1 at *
  have HE0 := Lib.hid (show Ext (w.alloc (.cells #[.int .i64 k1, .int .i64 o1, sV n1, .int .i64 v1, .slice p l1 c] tEx)) (w.alloc (.cells #[.int .i64 k1, .int .i64 o1, sV n1, .int .i64 v1, .slice p l1 c] tEx)) from Below.refl _ _)
  unfold Gives
  by_cases h0 : ce = 0
  · subst h0
    have D2 := Lib.hid (C2.out rfl)
    rw [if_neg (by simp)]
    clear C2
    go_enter Tryz.func9, Tryz.ntmps9
    obtain ⟨b0, b1, b2, b3, b4, hW⟩ := HE0.out.box
    go_wp2_with fail
    refine (C1.out _ hW).mono ?_
    intro w1 hB
    have HE1 := Lib.hid (Ext.trans HE0.out hB)
    clear hB b0 b1 b2 b3 b4 hW
    obtain ⟨b0, b1, b2, b3, b4, hW⟩ := HE1.out.box
    have hlt : w.heap.size < w1.heap.size := by have := HE1.out.size; simp at this; omega
    have hs1 := hW.size
    go_wp2_with fail
    refine (D2.out _ hW).mono ?_
    rintro _ w2 ⟨rfl, hbl, hk⟩
    have HB2 := Lib.hid hbl
    have HK2 := Lib.hid hk
    clear hbl hk b0 b1 b2 b3 b4 hlt
    go_wp2_with fail
    refine (Any.Builder_String_any_k bl169 bextra w1.heap.size w1.heap.size tt w2 HB2.out (Nat.le_trans (by simp) HK2.out.1.size)).mono ?_
    rintro _ w3 ⟨rfl, hbl, hB3, hk3⟩
    have HR := Lib.hid (show Ext w w3 from Ext.trans hW (((Below.refl _ w1).alloc (Nat.le_refl _) _).trans (HK2.out.1.trans hB3)))
    clear hbl hB3 hk3
    go_wp2
    go_ret2
    exact ⟨rfl, HR.out⟩
  · have h0' : (ce == 0) = false := by simpa using h0
    have h1' : (ce != 0) = true := by simpa using h0
    rw [if_pos h0]
    clear C2 h0
    go_enter Tryz.func9, Tryz.ntmps9
    obtain ⟨b0, b1, b2, b3, b4, hW⟩ := HE0.out.box
    go_wp2_with fail
    refine (C1.out _ hW).mono ?_
    intro w1 hB
    have HE1 := Lib.hid (Ext.trans HE0.out hB)
    clear hB b0 b1 b2 b3 b4 hW
    obtain ⟨b0, b1, b2, b3, b4, hW⟩ := HE1.out.box
    clear b0 b1 b2 b3 b4
    go_wp2
    go_ret2
    exact ⟨rfl, hW⟩

end Go.Proofs.YtgkalcboklhdgaaGreatDoor

namespace Go.Proofs.YtgkalcboklhdgaaGreatDoor
open Go.RowKit
set_option linter.unusedVariables false
set_option linter.unusedSimpArgs false
open Ex

set_option maxHeartbeats 1000000 in
theorem nam_any (s : List UInt8) (w : World) : Calls Tryz.prog 31 #[sV s] w fun r w' => r = .returned ((Ex.mk 2 0 s 0 []).val none 0) ∧ Ext w w' := by
  have hE : Ext w (w.alloc (.cells #[.int .i64 2, .int .i64 0, sV s, .int .i64 0, .slice none 0 0] tEx)) := (Below.refl _ w).alloc (Nat.le_refl _) _
  have HE := Lib.hid (And.intro (box5 (alloc_here w (.cells #[.int .i64 2, .int .i64 0, sV s, .int .i64 0, .slice none 0 0] tEx))) hE)
  clear hE
  go_enter Tryz.func31, Tryz.ntmps31
  go_wp2
  obtain ⟨⟨e0, e1, e2, e3, e4, _⟩, hE⟩ := HE.out
  have hV : w.alloc (.cells #[.int .i64 2, .int .i64 0, sV s, .int .i64 0, .slice none 0 0] tEx) = w.alloc (.cells #[.int .i64 2, .int .i64 0, .string (sB s), .int .i64 0, .slice none 0 0] tEx) := rfl
  exact bodyPost_ret (v := .agg #[.int .i64 2, .int .i64 0, sV s, .int .i64 0, .slice none 0 0]) (by simp [results, Tryz.f31, go_sem, e0, e1, e2, e3, e4, sB_nil]) rfl ⟨rfl, hE⟩
set_option maxHeartbeats 1000000 in
theorem num_any (n : Int) (w : World) : Calls Tryz.prog 32 #[.int .i64 n] w fun r w' => r = .returned ((Ex.mk 1 0 [] n []).val none 0) ∧ Ext w w' := by
  have hE : Ext w (w.alloc (.cells #[.int .i64 1, .int .i64 0, .string { data := #[] }, .int .i64 n, .slice none 0 0] tEx)) := (Below.refl _ w).alloc (Nat.le_refl _) _
  have HE := Lib.hid (And.intro (box5 (alloc_here w (.cells #[.int .i64 1, .int .i64 0, .string { data := #[] }, .int .i64 n, .slice none 0 0] tEx))) hE)
  clear hE
  go_enter Tryz.func32, Tryz.ntmps32
  go_wp2
  obtain ⟨⟨e0, e1, e2, e3, e4, _⟩, hE⟩ := HE.out
  exact bodyPost_ret (v := .agg #[.int .i64 1, .int .i64 0, .string { data := #[] }, .int .i64 n, .slice none 0 0]) (by simp [results, Tryz.f32, go_sem, e0, e1, e2, e3, e4, sB_nil]) rfl ⟨by rw [sV_nil]; rfl, hE⟩
theorem fits_node {k o : Int} {ts : List Ex} (hk : k = 3 ∨ k = 4) (h1 : -100 ≤ o) (h2 : o ≤ 100) (hl : ts.length ≤ 2) : fits (.mk k o [] 0 ts) :=
  ⟨⟨by show _ ≤ k; omega, by show k ≤ _; omega⟩, ⟨by show _ ≤ o; omega, by show o ≤ _; omega⟩, by show ([] : List UInt8).length ≤ _; simp, ⟨by show _ ≤ (0 : Int); omega, by show (0 : Int) ≤ _; omega⟩, by show ts.length ≤ _; omega⟩
set_option maxHeartbeats 1000000 in
theorem unary_any (S : Nat → Prop) (o : Int) (h1 : -100 ≤ o) (h2 : o ≤ 100) (e : Ex) (p : Option Addr) (c : Nat) (w : World) (hA : AtB S w p e) :
    Calls Tryz.prog 30 #[.int .i64 o, e.val p c] w fun r w' => ∃ q d, r = .returned ((Ex.mk 3 o [] 0 [e]).val q d) ∧ AtB (fun b => S b ∨ w.heap.size ≤ b) w' q (.mk 3 o [] 0 [e]) ∧ Ext w w' := by
  have hv : e.val p c = .agg #[.int .i64 e.kind, .int .i64 e.op, sV e.name, .int .i64 e.value, .slice p e.args.length c] := rfl
  rw [hv]
  obtain ⟨_, hb1, hb2, hE⟩ := three_boxes w (.int .i64 e.kind) (.int .i64 e.op) (sV e.name) (.int .i64 e.value) (.slice p e.args.length c) (.int .i64 3) (.int .i64 o) (.string { data := #[] }) (.int .i64 0) (.slice (some ⟨w.heap.size + 1 + 1, 0, none⟩) 1 1) (.int .i64 e.kind) (.int .i64 e.op) (sV e.name) (.int .i64 e.value) (.slice p e.args.length c) tEx
  have HX := Lib.hid (And.intro hb1 (And.intro hb2 (And.intro hE hA)))
  clear hb1 hb2 hE hA hv
  go_enter Tryz.func30, Tryz.ntmps30
  go_wp2
  obtain ⟨hb1, hb2, hE, hA⟩ := HX.out
  generalize (((w.alloc (.cells #[.int .i64 e.kind, .int .i64 e.op, sV e.name, .int .i64 e.value, .slice p e.args.length c] tEx)).alloc (.cells #[.int .i64 3, .int .i64 o, .string { data := #[] }, .int .i64 0, .slice (some ⟨w.heap.size + 1 + 1, 0, none⟩) 1 1] tEx)).alloc (.cells #[.int .i64 e.kind, .int .i64 e.op, sV e.name, .int .i64 e.value, .slice p e.args.length c] tEx)) = W at *
  obtain ⟨m0, m1, m2, m3, m4, _⟩ := box5 hb1
  obtain ⟨n0, n1, n2, n3, n4, _⟩ := box5 hb2
  exact bodyPost_ret (v := .agg #[.int .i64 3, .int .i64 o, .string { data := #[] }, .int .i64 0, .slice (some ⟨w.heap.size + 1 + 1, 0, none⟩) 1 1]) (by simp [results, Tryz.f30, go_sem, m0, m1, m2, m3, m4, sB_nil]) rfl
    ⟨some ⟨w.heap.size + 1 + 1, 0, none⟩, 1, by rw [sV_nil]; rfl, ⟨fits_node (.inl rfl) h1 h2 (by simp), ⟨_, _, p, c, rfl, .inr (by omega), ⟨n0, n1, n2, n3, n4⟩, (hA.ext hE).imp fun b hb _ => .inl hb⟩, trivial⟩, hE⟩

/-- four blocks: two boxes, a result, a row of two -/
theorem boxes22 (w : World) (a0 a1 a2 a3 a4 b0 b1 b2 b3 b4 c0 c1 c2 c3 c4 : Value) (T : TypeId) :
    ((((w.alloc (.cells #[a0, a1, a2, a3, a4] T)).alloc (.cells #[b0, b1, b2, b3, b4] T)).alloc (.cells #[c0, c1, c2, c3, c4] T)).alloc (.cells #[a0, a1, a2, a3, a4, b0, b1, b2, b3, b4] T)).heap[w.heap.size + 2]? = some (.cells #[c0, c1, c2, c3, c4] T (0, 0)) ∧
    ((((w.alloc (.cells #[a0, a1, a2, a3, a4] T)).alloc (.cells #[b0, b1, b2, b3, b4] T)).alloc (.cells #[c0, c1, c2, c3, c4] T)).alloc (.cells #[a0, a1, a2, a3, a4, b0, b1, b2, b3, b4] T)).heap[w.heap.size + 3]? = some (.cells #[a0, a1, a2, a3, a4, b0, b1, b2, b3, b4] T (0, 0)) ∧
    Ext w ((((w.alloc (.cells #[a0, a1, a2, a3, a4] T)).alloc (.cells #[b0, b1, b2, b3, b4] T)).alloc (.cells #[c0, c1, c2, c3, c4] T)).alloc (.cells #[a0, a1, a2, a3, a4, b0, b1, b2, b3, b4] T)) := by
  obtain ⟨_, _, h3, h4⟩ := three_boxes w a0 a1 a2 a3 a4 b0 b1 b2 b3 b4 c0 c1 c2 c3 c4 T
  have h := alloc_here (((w.alloc (.cells #[a0, a1, a2, a3, a4] T)).alloc (.cells #[b0, b1, b2, b3, b4] T)).alloc (.cells #[c0, c1, c2, c3, c4] T)) (.cells #[a0, a1, a2, a3, a4, b0, b1, b2, b3, b4] T)
  simp only [World.size_alloc] at h
  exact ⟨(Below.heap_alloc _ _ (w.heap.size + 2) (by simp)).trans h3, h, h4.alloc (by simp <;> omega) _⟩
set_option maxHeartbeats 2000000 in
theorem binary_any (S : Nat → Prop) (o : Int) (h1 : -100 ≤ o) (h2 : o ≤ 100) (e f : Ex) (p p' : Option Addr) (c c' : Nat) (w : World) (hA : AtB S w p e) (hB : AtB S w p' f) :
    Calls Tryz.prog 29 #[.int .i64 o, e.val p c, f.val p' c'] w fun r w' => ∃ q d, r = .returned ((Ex.mk 4 o [] 0 [e, f]).val q d) ∧ AtB (fun b => S b ∨ w.heap.size ≤ b) w' q (.mk 4 o [] 0 [e, f]) ∧ Ext w w' := by
  have hv : e.val p c = .agg #[.int .i64 e.kind, .int .i64 e.op, sV e.name, .int .i64 e.value, .slice p e.args.length c] := rfl
  have hv' : f.val p' c' = .agg #[.int .i64 f.kind, .int .i64 f.op, sV f.name, .int .i64 f.value, .slice p' f.args.length c'] := rfl
  rw [hv, hv']
  obtain ⟨hb1, hb2, hE⟩ := boxes22 w (.int .i64 e.kind) (.int .i64 e.op) (sV e.name) (.int .i64 e.value) (.slice p e.args.length c) (.int .i64 f.kind) (.int .i64 f.op) (sV f.name) (.int .i64 f.value) (.slice p' f.args.length c') (.int .i64 4) (.int .i64 o) (.string { data := #[] }) (.int .i64 0) (.slice (some ⟨w.heap.size + 1 + 1 + 1, 0, none⟩) 2 2) tEx
  have HX := Lib.hid (And.intro hb1 (And.intro hb2 (And.intro hE (And.intro hA hB))))
  clear hb1 hb2 hE hA hB hv hv'
  go_enter Tryz.func29, Tryz.ntmps29
  go_wp2
  obtain ⟨hb1, hb2, hE, hA, hB⟩ := HX.out
  generalize ((((w.alloc (.cells #[.int .i64 e.kind, .int .i64 e.op, sV e.name, .int .i64 e.value, .slice p e.args.length c] tEx)).alloc (.cells #[.int .i64 f.kind, .int .i64 f.op, sV f.name, .int .i64 f.value, .slice p' f.args.length c'] tEx)).alloc (.cells #[.int .i64 4, .int .i64 o, .string { data := #[] }, .int .i64 0, .slice (some ⟨w.heap.size + 1 + 1 + 1, 0, none⟩) 2 2] tEx)).alloc (.cells #[.int .i64 e.kind, .int .i64 e.op, sV e.name, .int .i64 e.value, .slice p e.args.length c, .int .i64 f.kind, .int .i64 f.op, sV f.name, .int .i64 f.value, .slice p' f.args.length c'] tEx)) = W at *
  obtain ⟨m0, m1, m2, m3, m4, _⟩ := box5 hb1
  exact bodyPost_ret (v := .agg #[.int .i64 4, .int .i64 o, .string { data := #[] }, .int .i64 0, .slice (some ⟨w.heap.size + 1 + 1 + 1, 0, none⟩) 2 2]) (by simp [results, Tryz.f29, go_sem, m0, m1, m2, m3, m4, sB_nil]) rfl
    ⟨some ⟨w.heap.size + 1 + 1 + 1, 0, none⟩, 2, by rw [sV_nil]; rfl, ⟨fits_node (.inr rfl) h1 h2 (by simp), ⟨_, _, p, c, rfl, .inr (by omega), ⟨cell_of hb2 rfl, cell_of hb2 rfl, cell_of hb2 rfl, cell_of hb2 rfl, cell_of hb2 rfl⟩, (hA.ext hE).imp fun b hb _ => .inl hb⟩, ⟨_, _, p', c', rfl, .inr (by omega), ⟨cell_of hb2 rfl, cell_of hb2 rfl, cell_of hb2 rfl, cell_of hb2 rfl, cell_of hb2 rfl⟩, (hB.ext hE).imp fun b hb _ => .inl hb⟩, trivial⟩, hE⟩

end Go.Proofs.YtgkalcboklhdgaaGreatDoor

namespace Go.Proofs.YtgkalcboklhdgaaGreatDoor
set_option linter.unusedVariables false
set_option linter.unusedSimpArgs false
open Ex

theorem fe_of {k o : Int} {n : List UInt8} {v : Int} {ts : List Ex} (h1 : pc' k o n v ts.length = 0) (h2 : fes ts = 0) : (Ex.mk k o n v ts).fe = 0 := by
  simp only [Ex.fe]
  rw [if_neg (by simp [h1])]; exact h2
theorem pc_num {n : Int} (h1 : 0 ≤ n) (h2 : n ≤ 1099511627776) : pc' 1 0 [] n 0 = 0 := by
  unfold pc'
  rw [if_neg (by omega), if_neg (by simp [arity]), if_neg (by omega), if_neg (by simp), if_neg (by simp)]
theorem pc_neg : pc' 3 1 [] 0 1 = 0 := by decide
theorem lit_fe {n : Int} (h1 : -1099511627776 ≤ n) (h2 : n ≤ 1099511627776) : (lit n).fe = 0 := by
  unfold lit
  by_cases hn : n < 0
  · rw [if_pos hn]
    refine fe_of pc_neg ?_
    simp only [Ex.fes]
    have : (Ex.mk 1 0 [] (-n) []).fe = 0 := fe_of (pc_num (by omega) (by omega)) rfl
    rw [if_neg (by simp [this])]
  · rw [if_neg hn]
    exact fe_of (pc_num (by omega) h2) rfl
theorem lit_size (n : Int) : (lit n).size = (if n < 0 then 2 else 1) ∧ (lit n).height = (if n < 0 then 2 else 1) := by
  unfold lit
  by_cases hn : n < 0
  · simp only [if_pos hn]; exact ⟨rfl, rfl⟩
  · simp only [if_neg hn]; exact ⟨rfl, rfl⟩
/-- a constant below nought has arguments -/
theorem cst_args {k o : Int} {n : List UInt8} {v : Int} {ts : List Ex} (hfe : (Ex.mk k o n v ts).fe = 0) (hc : (cst (.mk k o n v ts)).2 = true) (hn : (cst (.mk k o n v ts)).1 < 0) : 1 ≤ ts.length := by
  rcases pc_zero (fe_mk hfe).1 with ⟨rfl, rfl, rfl, hm, hv1, hv2⟩ | ⟨rfl, rfl, rfl, hm, hnm⟩ | ⟨rfl, rfl, rfl, hm, ho⟩ | ⟨rfl, rfl, rfl, hm, ho1, ho2⟩
  · have h0 := List.eq_nil_of_length_eq_zero hm
    subst h0
    exfalso
    revert hn
    unfold cst
    by_cases h : ((Ex.mk 1 0 [] v []).ty []).2 ≠ 0 ∨ ((Ex.mk 1 0 [] v []).ty []).1 ≠ 1
    · rw [if_pos h]; simp
    · rw [if_neg h]
      have : ((Ex.mk 1 0 [] v []).ev []).1 = v := by simp [Ex.ev, Ex.evs, evN]
      rw [this]; simp; omega
  · have h0 := List.eq_nil_of_length_eq_zero hm
    subst h0
    exfalso
    revert hc
    have h7 : (Ex.mk 2 0 n 0 []).ty [] = (0, 7) := by simp [Ex.ty, Ex.tys, tyN, fdIs]
    unfold cst
    rw [if_pos (.inl (by rw [h7]; decide))]
    simp
  · omega
  · omega
theorem sizes_pos {ts : List Ex} (h : 1 ≤ ts.length) : 1 ≤ sizes ts ∧ 1 ≤ heights ts := by
  cases ts with
  | nil => simp at h
  | cons t ts =>
    simp only [sizes, heights]
    have := t.size_pos; have := t.height_pos
    omega
mutual
theorem mp_ok : ∀ e : Ex, e.fe = 0 → (mp foldOne e).size ≤ e.size ∧ (mp foldOne e).height ≤ e.height ∧ (mp foldOne e).fe = 0
  | .mk k o n v ts, h => by
    obtain ⟨h1, h2⟩ := fe_mk h
    have hb := cst_bd h
    simp only [mp]
    unfold foldOne
    cases hc : (cst (.mk k o n v ts)).2 with
    | true =>
      simp only [if_true]
      obtain ⟨s1, s2⟩ := lit_size (cst (.mk k o n v ts)).1
      refine ⟨?_, ?_, lit_fe hb.1 hb.2⟩
      · rw [s1]
        by_cases hn : (cst (.mk k o n v ts)).1 < 0
        · rw [if_pos hn]; have := (sizes_pos (cst_args h hc hn)).1; simp only [Ex.size]; omega
        · rw [if_neg hn]; simp only [Ex.size]; omega
      · rw [s2]
        by_cases hn : (cst (.mk k o n v ts)).1 < 0
        · rw [if_pos hn]; have := (sizes_pos (cst_args h hc hn)).2; simp only [Ex.height]; omega
        · rw [if_neg hn]; simp only [Ex.height]; omega
    | false =>
      obtain ⟨g1, g2, g3, g4⟩ := mps_ok ts h2
      simp only [Bool.false_eq_true, if_false]
      refine ⟨?_, ?_, fe_of ?_ g3⟩
      · simp only [Ex.size]; unfold foldOne at g1; omega
      · simp only [Ex.height]; unfold foldOne at g2; omega
      · unfold foldOne at g4; rw [g4]; exact h1
theorem mps_ok : ∀ ts : List Ex, fes ts = 0 → sizes (mps foldOne ts) ≤ sizes ts ∧ heights (mps foldOne ts) ≤ heights ts ∧ fes (mps foldOne ts) = 0 ∧ (mps foldOne ts).length = ts.length
  | [], _ => ⟨Nat.le_refl _, Nat.le_refl _, rfl, rfl⟩
  | t :: ts, h => by
    have ht : t.fe = 0 ∧ fes ts = 0 := by
      simp only [Ex.fes] at h
      by_cases h0 : t.fe = 0
      · rw [if_neg (by simp [h0])] at h; exact ⟨h0, h⟩
      · rw [if_pos h0] at h; exact absurd h h0
    obtain ⟨a1, a2, a3⟩ := mp_ok t ht.1
    obtain ⟨b1, b2, b3, b4⟩ := mps_ok ts ht.2
    simp only [mps, sizes, heights, Ex.fes, List.length_cons]
    refine ⟨by omega, by omega, ?_, by omega⟩
    rw [if_neg (by simp [a3])]; exact b3
end
/-- what Fold returns is checked, or the empty expression -/
theorem fdR_ok (e : Ex) : (fdR e).1 = exZ ∨ (fdR e).1.chk = 0 := by
  unfold fdR
  by_cases h : e.chk = 0
  · rw [if_neg (by simp [h])]
    right
    obtain ⟨h1, h2, h3⟩ := chk_zero h
    obtain ⟨g1, g2, g3⟩ := mp_ok e h3
    show (mp foldOne e).chk = 0
    unfold Ex.chk
    rw [if_neg (by omega), if_neg (by omega)]; exact g3
  · rw [if_pos h]; exact .inl rfl
end Go.Proofs.YtgkalcboklhdgaaGreatDoor

namespace Go.Proofs.YtgkalcboklhdgaaGreatDoor
open Go.RowKit Go.Shelf
set_option linter.unusedVariables false
set_option linter.unusedSimpArgs false
open Ex

abbrev aX : Ex := .mk 2 0 [120] 0 []
abbrev aN (n : Int) : Ex := .mk 1 0 [] n []
abbrev aE1 : Ex := .mk 4 3 [] 0 [aX, aN 1]
abbrev aE2 : Ex := .mk 3 1 [] 0 [aE1]
abbrev aE : Ex := .mk 4 5 [] 0 [aE2, aN 2]
abbrev aF1 : Ex := .mk 4 3 [] 0 [aN 2, aN 3]
abbrev aF : Ex := .mk 4 3 [] 0 [aX, aF1]
abbrev aG : Ex := .mk 4 3 [] 0 [aX, aN 5]
def aDec (n : Int) : List UInt8 := if n = 1 then [49] else [50]
def aTxt : List UInt8 := [45, 40, 120, 32, 43, 32, 49, 41, 32, 42, 32, 50]
theorem aE_pr : prR aDec aE = (aTxt, 0) := by decide +kernel
theorem aE_ev : evR [⟨[120], 1, 4⟩] aE = (-10, 0) := by decide +kernel
theorem aF_fd : fdR aF = (aG, 0) := by kernel_rfl
theorem aG_chk : aG.chk = 0 := by decide +kernel
theorem aE_nums : nums (fun v => v = 1 ∨ v = 2) aE := by simp [nums, nums.numsL]
theorem aE_len : (txt aDec aE).length ≤ 1000000000 := by decide +kernel

theorem GoesG.callW {P : Program} {l : List Oper} {R : World → World → Prop} {Φ : Nat → (Nat → Value) → World → Prop} {i : Nat} {o : Oper} {a' : Act} {W : World} {Q : Exit → Act → World → Prop} (f : FuncId) (args : Array Value) (j : Nat) (g b : Bool) (hg : o.guard = some (j, g)) (hv : sv l a' j = .bool b) (hbg : (b == g) = true) (hrun : (execOp a'.eval o).run P W = .ok (.enter f args) W)
    (hc : Calls P f args W fun e W' => ∃ v, e = .returned v ∧ R W W' ∧ ∀ s : Nat → Value, (o.dst.isSome = true → s i = v) → (∀ k, k ≠ i → ancB l l.length i k = true → s k = sv l a' k) → Φ i s W') : GoesG P l R Φ i o a' W Q := by
  unfold GoesG
  rw [if_pos (by rw [wanted_of hg hv, hbg])]
  unfold Oper.wp
  rw [hrun]
  exact hc.mono fun e W' ⟨v, he, hR, hΦ⟩ => by subst he; exact ⟨v, rfl, hR, hΦ⟩

set_option maxHeartbeats 1000000 in
theorem itoa_1 (w : World) : Calls Tryz.prog 61 #[.int .i64 1] w fun r w' => r = .returned (sV [49]) ∧ w' = w := by
  go_enter Tryz.func61, Tryz.ntmps61
  go_wp2
  go_ret
  exact ⟨rfl, rfl⟩
set_option maxHeartbeats 1000000 in
theorem itoa_2 (w : World) : Calls Tryz.prog 61 #[.int .i64 2] w fun r w' => r = .returned (sV [50]) ∧ w' = w := by
  go_enter Tryz.func61, Tryz.ntmps61
  go_wp2
  go_ret
  exact ⟨rfl, rfl⟩
theorem itoa_12 (v : Int) (w : World) (h : v = 1 ∨ v = 2) : Calls Tryz.prog 61 #[.int .i64 v] w fun r w' => r = .returned (sV (aDec v)) ∧ Ext w w' := by
  rcases h with rfl | rfl
  · exact (itoa_1 w).mono fun e w' h => ⟨h.1, by rw [h.2]; exact Below.refl _ _⟩
  · exact (itoa_2 w).mono fun e w' h => ⟨h.1, by rw [h.2]; exact Below.refl _ _⟩

theorem box5z {W : World} {B : Nat} {a0 a1 a2 a3 a4 : Value} {T : TypeId} (h : W.heap[B]? = some (.cells #[a0, a1, a2, a3, a4] T (0, 0))) :
    W.cell? ⟨B, 0, none⟩ = some a0 ∧ W.cell? ⟨B, 1, none⟩ = some a1 ∧ W.cell? ⟨B, 2, none⟩ = some a2 ∧ W.cell? ⟨B, 3, none⟩ = some a3 ∧ W.cell? ⟨B, 4, none⟩ = some a4 ∧ True :=
  ⟨cell_of h rfl, cell_of h rfl, cell_of h rfl, cell_of h rfl, cell_of h rfl, trivial⟩
theorem fitX : fits aX := ⟨⟨by decide, by decide⟩, ⟨by decide, by decide⟩, by decide, ⟨by decide, by decide⟩, by decide⟩
/-- the values of the last region -/
def awV (qG : Option Addr) (dG : Nat) : Nat → Value → Prop
  | 0, x => x = .int .i64 0
  | 1, x => x = .bool true
  | 2, x => x = .bool true
  | 3, x => x = .int .i64 0
  | 4, x => x = .bool true
  | 5, x => x = .bool true
  | 6, x => x = .bool true
  | 7, x => x = .int .i64 0
  | 8, x => x = .bool true
  | 9, x => x = .bool true
  | 10, x => x = .bool true
  | 11, x => x = sV aTxt
  | 12, x => x = .bool true
  | 13, x => x = .bool true
  | 14, x => x = .bool true
  | 15, x => x = .int .i64 (-10)
  | 16, x => x = .bool true
  | 17, x => x = .bool true
  | 18, x => x = .bool true
  | 19, x => x = .agg #[.int .i64 4, .int .i64 3, sV [], .int .i64 0, .slice qG 2 dG]
  | 20, x => x = aX.val none 0
  | 21, x => x = (aN 5).val none 0
  | 23, x => x = .bool true
  | 24, x => x = .bool true
  | 25, x => x = .bool true
  | _, _ => True
def awR (qG : Option Addr) (dG : Nat) (i : Nat) (s : Nat → Value) (W : World) : Prop :=
  if i = 22 then ∃ q d, s 22 = aG.val q d ∧ Ex.At W q aG else awV qG dG i (s i)
theorem awR_st (qG : Option Addr) (dG : Nat) : ∀ i s s' W W', awR qG dG i s W → (∀ j ∈ [i], s' j = s j) → Ext W W' → awR qG dG i s' W' := by
  intro i s s' W W' h hs hG
  unfold awR at h ⊢
  by_cases e : i = 22
  · rw [if_pos e] at h ⊢
    obtain ⟨q, d, h1, h2⟩ := h
    exact ⟨q, d, (by rw [e] at hs; exact (hs 22 (by simp)).trans h1), h2.below hG⟩
  · rw [if_neg e] at h ⊢
    rw [hs i (by simp)]; exact h
theorem n26 {α : Type} (fs : List α) (h : fs.length = 26) : ∃ x0 x1 x2 x3 x4 x5 x6 x7 x8 x9 x10 x11 x12 x13 x14 x15 x16 x17 x18 x19 x20 x21 x22 x23 x24 x25, fs = [x0, x1, x2, x3, x4, x5, x6, x7, x8, x9, x10, x11, x12, x13, x14, x15, x16, x17, x18, x19, x20, x21, x22, x23, x24, x25] := by
  match fs, h with
  | [x0, x1, x2, x3, x4, x5, x6, x7, x8, x9, x10, x11, x12, x13, x14, x15, x16, x17, x18, x19, x20, x21, x22, x23, x24, x25], _ => exact ⟨x0, x1, x2, x3, x4, x5, x6, x7, x8, x9, x10, x11, x12, x13, x14, x15, x16, x17, x18, x19, x20, x21, x22, x23, x24, x25, rfl⟩

theorem Print_aE (q : Option Addr) (d : Nat) (W : World) (hA : Ex.At W q aE) : Gives Tryz.prog 9 #[.agg #[.int .i64 4, .int .i64 5, sV [], .int .i64 0, .slice q 2 d]] W (.tuple #[sV aTxt, .int .i64 0]) := by
  have h := Print_any (fun v => v = 1 ∨ v = 2) aDec (fun _ => True) (fun v W h _ => itoa_12 v W h) aE (fun _ => ⟨aE_nums, aE_len⟩) q d W (fun _ _ _ _ _ _ => trivial) trivial hA
  rw [aE_pr] at h
  exact h
theorem Eval_aE (q : Option Addr) (d : Nat) (pb : Option Addr) (cb : Nat) (W : World) (hA : Ex.At W q aE) (hB : BAt W pb [⟨[120], 1, 4⟩]) : Gives Tryz.prog 25 #[.agg #[.int .i64 4, .int .i64 5, sV [], .int .i64 0, .slice q 2 d], .slice pb 1 cb] W (.tuple #[.int .i64 (-10), .int .i64 0]) := by
  have h := Eval_any [⟨[120], 1, 4⟩] pb cb aE q d W hA hB
  rw [aE_ev] at h
  exact h
theorem Fold_aF (q : Option Addr) (d : Nat) (W : World) (hA : Ex.At W q aF) : Calls Tryz.prog 33 #[aF.val q d] W fun r w' => ∃ q d, r = .returned (.tuple #[.agg #[.int .i64 4, .int .i64 3, sV [], .int .i64 0, .slice q 2 d], .int .i64 0]) ∧ Ex.At w' q aG ∧ Ext W w' := by
  have h := Fold_of aF q d W hA
  rw [aF_fd] at h
  exact h.mono fun r w' ⟨a, q, d, b, c⟩ => ⟨q, d, b, c, a⟩
theorem BAt_x4 {W : World} {g : Nat} {T : TypeId} {f : Nat × Nat} (h : W.heap[g]? = some (.cells #[sV [120], .int .i64 1, .int .i64 4] T f)) : BAt W (some ⟨g, 0, none⟩) [⟨[120], 1, 4⟩] := by
  refine ⟨⟨by simp, fun b hb => ?_⟩, fun j hj => ?_⟩
  · obtain rfl : b = ⟨[120], 1, 4⟩ := by simpa using hb
    exact ⟨by decide, ⟨by decide, by decide⟩, ⟨by decide, by decide⟩⟩
  · obtain rfl : j = 0 := by simpa using hj
    exact ⟨g, 0, rfl, cell_of h rfl, cell_of h rfl, cell_of h rfl⟩

set_option maxRecDepth 100000 in
set_option maxHeartbeats 8000000 in
theorem awake_any (w : World) : Gives Tryz.prog 8 #[] w (.bool true) := by
  unfold Gives
  go_enter Tryz.func8, Tryz.ntmps8
  have HX0 := Lib.hid (show Ext w w from Below.refl _ _)
  go_wp2_with fail
  refine (show Calls _ _ #[.string ⟨#[120]⟩] _ _ from nam_any [120] _).mono ?_
  rintro _ w1 ⟨rfl, hE⟩
  have HX1 := Lib.hid (Ext.trans HX0.out hE)
  clear hE
  go_wp2_with fail
  refine (num_any 1 _).mono ?_
  rintro _ w2 ⟨rfl, hE⟩
  have HX2 := Lib.hid (Ext.trans HX1.out hE)
  clear hE
  go_wp2_with fail
  refine (binary_any (fun _ => True) 3 (by decide) (by decide) aX (aN 1) none none 0 0 _ (AtB_leaf _ _ _ fitX) (AtB_leaf _ _ _ (fits_num 1 (by decide) (by decide)))).mono ?_
  rintro _ w3 ⟨q3, d3, rfl, hA, hE⟩
  have HA3 := Lib.hid (hA.imp (S' := fun _ => True) fun _ _ _ => trivial)
  clear hA
  have HX3 := Lib.hid (Ext.trans HX2.out hE)
  clear hE
  go_wp2_with fail
  refine (unary_any (fun _ => True) 1 (by decide) (by decide) aE1 q3 d3 _ HA3.out).mono ?_
  rintro _ w4 ⟨q4, d4, rfl, hA, hE⟩
  have HA4 := Lib.hid (hA.imp (S' := fun _ => True) fun _ _ _ => trivial)
  clear hA
  have HX4 := Lib.hid (Ext.trans HX3.out hE)
  clear hE
  go_wp2_with fail
  refine (num_any 2 _).mono ?_
  rintro _ w5 ⟨rfl, hE⟩
  have HA5 := Lib.hid (HA4.out.ext hE)
  have HX5 := Lib.hid (Ext.trans HX4.out hE)
  clear hE
  go_wp2_with fail
  refine (binary_any (fun _ => True) 5 (by decide) (by decide) aE2 (aN 2) q4 none d4 0 _ HA5.out (AtB_leaf _ _ _ (fits_num 2 (by decide) (by decide)))).mono ?_
  rintro _ w6 ⟨q6, d6, rfl, hA, hE⟩
  have HA6 := Lib.hid hA.at
  clear hA
  have HX6 := Lib.hid (Ext.trans HX5.out hE)
  clear hE
  rw [show aE.val q6 d6 = .agg #[.int .i64 4, .int .i64 5, sV [], .int .i64 0, .slice q6 2 d6] from rfl]
  have hb := alloc_here w6 (.cells #[.int .i64 4, .int .i64 5, sV [], .int .i64 0, .slice q6 2 d6] tEx)
  have hE : Ext w6 _ := (Below.refl w6.heap.size w6).alloc (Nat.le_refl _) (.cells #[.int .i64 4, .int .i64 5, sV [], .int .i64 0, .slice q6 2 d6] tEx)
  have HB7 := Lib.hid hb
  have HA7 := Lib.hid (HA6.out.below hE)
  have HX7 := Lib.hid (Ext.trans HX6.out hE)
  clear hb hE
  obtain ⟨b0, b1, b2, b3, b4, z⟩ := box5z HB7.out
  go_wp2_with fail
  refine (Print_aE q6 d6 _ HA7.out).mono ?_
  intro w8 hE
  replace hE : Ext _ w8 := hE
  have HB8 := Lib.hid ((hE.below.block _ (lt_of_block HB7.out)).trans HB7.out)
  have HA8 := Lib.hid (HA7.out.below hE)
  have HX8 := Lib.hid (Ext.trans HX7.out hE)
  clear hE b0 b1 b2 b3 b4 z
  obtain ⟨b0, b1, b2, b3, b4, z⟩ := box5z HB8.out
  have hlt8 := lt_of_block HB8.out
  have hE9 : Ext w8 (w8.alloc (.cells #[.string ⟨#[120]⟩, .int .i64 1, .int .i64 4] 39)) := (Below.refl _ _).alloc (Nat.le_refl _) _
  have HC9 := Lib.hid (alloc_here w8 (.cells #[.string ⟨#[120]⟩, .int .i64 1, .int .i64 4] 39))
  have HA9 := Lib.hid (HA8.out.below hE9)
  have HX9 := Lib.hid (Ext.trans HX8.out hE9)
  clear hE9
  go_wp2_with fail
  refine (Eval_aE q6 d6 _ _ _ HA9.out (BAt_x4 HC9.out)).mono ?_
  intro w10 hE
  have HX10 := Lib.hid (Ext.trans HX9.out hE)
  clear hE b0 b1 b2 b3 b4 z hlt8 HA9 HC9 HX9 HA8 HB8 HX8 HA7 HB7 HX7
  go_wp2_with fail
  refine (show Calls _ _ #[.string ⟨#[120]⟩] _ _ from nam_any [120] _).mono ?_
  rintro _ w11 ⟨rfl, hE⟩
  have HX11 := Lib.hid (Ext.trans HX10.out hE)
  clear hE
  go_wp2_with fail
  refine (num_any 2 _).mono ?_
  rintro _ w12 ⟨rfl, hE⟩
  have HX12 := Lib.hid (Ext.trans HX11.out hE)
  clear hE
  go_wp2_with fail
  refine (num_any 3 _).mono ?_
  rintro _ w13 ⟨rfl, hE⟩
  have HX13 := Lib.hid (Ext.trans HX12.out hE)
  clear hE
  go_wp2_with fail
  refine (binary_any (fun _ => True) 3 (by decide) (by decide) (aN 2) (aN 3) none none 0 0 _ (AtB_leaf _ _ _ (fits_num 2 (by decide) (by decide))) (AtB_leaf _ _ _ (fits_num 3 (by decide) (by decide)))).mono ?_
  rintro _ w14 ⟨q14, d14, rfl, hA, hE⟩
  have HA14 := Lib.hid (hA.imp (S' := fun _ => True) fun _ _ _ => trivial)
  clear hA
  have HX14 := Lib.hid (Ext.trans HX13.out hE)
  clear hE
  go_wp2_with fail
  refine (binary_any (fun _ => True) 3 (by decide) (by decide) aX aF1 none q14 0 d14 _ (AtB_leaf _ _ _ fitX) HA14.out).mono ?_
  rintro _ w15 ⟨q15, d15, rfl, hA, hE⟩
  have HA15 := Lib.hid hA.at
  clear hA
  have HX15 := Lib.hid (Ext.trans HX14.out hE)
  clear hE
  go_wp2_with fail
  refine (Fold_aF q15 d15 _ HA15.out).mono ?_
  rintro _ w16 ⟨qG, dG, rfl, hAG, hE⟩
  have HX16 := Lib.hid (Ext.trans HX15.out hE)
  clear hE
  have hb6 := alloc_here w16 (.cells #[.int .i64 4, .int .i64 3, sV [], .int .i64 0, .slice qG 2 dG] tEx)
  have hE : Ext w16 _ := (Below.refl w16.heap.size w16).alloc (Nat.le_refl _) (.cells #[.int .i64 4, .int .i64 3, sV [], .int .i64 0, .slice qG 2 dG] tEx)
  replace hAG := hAG.below hE
  have HX := Lib.hid (Ext.trans HX16.out hE)
  have HG6 := Lib.hid (And.intro hb6 hAG)
  clear hb6 hAG hE
  go_wp2_with fail
  obtain ⟨hb6, hAG⟩ := HG6.out
  generalize w16.alloc (.cells #[.int .i64 4, .int .i64 3, sV [], .int .i64 0, .slice qG 2 dG] tEx) = w17 at *
  generalize w16.heap.size = g6 at *
  have hltx := lt_of_block hb6
  refine wp_region_g (by kernel_rfl) Ext (fun W => show Below W.heap.size W { W with drawn := W.drawn + 1 } from ⟨rfl, rfl, rfl, Nat.le_refl _, fun _ _ => rfl⟩) Ext.trans (awR qG dG) (fun j => [j]) (awR_st _ _) (by kernel_rfl) (by kernel_rfl) (by kernel_rfl) 60 rfl (by kernel_rfl) ?_ ?_
  · intro i op ho a' W hA
    obtain ⟨x0, x1, x2, x3, x4, _⟩ := box5 ((hA.rel.below.block _ hltx).trans hb6)
    have hsq : ((sB aTxt).toList == (ByteArray.mk #[45, 40, 120, 32, 43, 32, 49, 41, 32, 42, 32, 50]).toList) = true := by decide +kernel
    match i, ho with
    | 0, ho =>
      obtain rfl := Option.some.inj ho
      have e1 : a'.eval (.tmp 3) = .int .i64 0 := hA.keep 3 (by kernel_rfl)
      refine GoesG.value (.int .i64 0) rfl ?_ (Below.refl _ _) (fun s h1 h2 => h1 rfl)
      simp only [execOp, e1]
      simp [go_sem, x0, x1, x2, x3, x4, hsq]
    | 1, ho =>
      obtain rfl := Option.some.inj ho
      have e1 : a'.eval (.tmp 35) = .int .i64 0 := (sv_dst (l := _) rfl).symm.trans (hA.new 0 (by decide) (by kernel_rfl))
      refine GoesG.value (.bool true) rfl ?_ (Below.refl _ _) (fun s h1 h2 => h1 rfl)
      simp only [execOp, e1]
      simp [go_sem, x0, x1, x2, x3, x4, hsq]
    | 2, ho =>
      obtain rfl := Option.some.inj ho
      have e1 : a'.eval (.tmp 36) = .bool true := (sv_dst (l := _) rfl).symm.trans (hA.new 1 (by decide) (by kernel_rfl))
      refine GoesG.value (.bool true) rfl ?_ (Below.refl _ _) (fun s h1 h2 => h1 rfl)
      simp only [execOp, e1]
      simp [go_sem, x0, x1, x2, x3, x4, hsq]
    | 3, ho =>
      obtain rfl := Option.some.inj ho
      have hg := hA.new 2 (by decide) (by kernel_rfl)
      have e1 : a'.eval (.tmp 5) = .int .i64 0 := hA.keep 5 (by kernel_rfl)
      refine GoesG.valueW (.int .i64 0) 2 true true rfl hg rfl ?_ (Below.refl _ _) (fun s h1 h2 => h1 rfl)
      simp only [execOp, e1]
      simp [go_sem, x0, x1, x2, x3, x4, hsq]
    | 4, ho =>
      obtain rfl := Option.some.inj ho
      have hg := hA.new 2 (by decide) (by kernel_rfl)
      have e1 : a'.eval (.tmp 38) = .int .i64 0 := (sv_dst (l := _) rfl).symm.trans (hA.new 3 (by decide) (by kernel_rfl))
      refine GoesG.valueW (.bool true) 2 true true rfl hg rfl ?_ (Below.refl _ _) (fun s h1 h2 => h1 rfl)
      simp only [execOp, e1]
      simp [go_sem, x0, x1, x2, x3, x4, hsq]
    | 5, ho =>
      obtain rfl := Option.some.inj ho
      have e1 : a'.eval (.tmp 37) = .bool true := (sv_dst (l := _) rfl).symm.trans (hA.new 2 (by decide) (by kernel_rfl))
      have e2 : a'.eval (.tmp 39) = .bool true := (sv_dst (l := _) rfl).symm.trans (hA.new 4 (by decide) (by kernel_rfl))
      refine GoesG.value (.bool true) rfl ?_ (Below.refl _ _) (fun s h1 h2 => h1 rfl)
      simp only [execOp, e1, e2]
      simp [go_sem, x0, x1, x2, x3, x4, hsq]
    | 6, ho =>
      obtain rfl := Option.some.inj ho
      have e1 : a'.eval (.tmp 40) = .bool true := (sv_dst (l := _) rfl).symm.trans (hA.new 5 (by decide) (by kernel_rfl))
      refine GoesG.value (.bool true) rfl ?_ (Below.refl _ _) (fun s h1 h2 => h1 rfl)
      simp only [execOp, e1]
      simp [go_sem, x0, x1, x2, x3, x4, hsq]
    | 7, ho =>
      obtain rfl := Option.some.inj ho
      have hg := hA.new 6 (by decide) (by kernel_rfl)
      have e1 : a'.eval (.tmp 7) = .int .i64 0 := hA.keep 7 (by kernel_rfl)
      refine GoesG.valueW (.int .i64 0) 6 true true rfl hg rfl ?_ (Below.refl _ _) (fun s h1 h2 => h1 rfl)
      simp only [execOp, e1]
      simp [go_sem, x0, x1, x2, x3, x4, hsq]
    | 8, ho =>
      obtain rfl := Option.some.inj ho
      have hg := hA.new 6 (by decide) (by kernel_rfl)
      have e1 : a'.eval (.tmp 42) = .int .i64 0 := (sv_dst (l := _) rfl).symm.trans (hA.new 7 (by decide) (by kernel_rfl))
      refine GoesG.valueW (.bool true) 6 true true rfl hg rfl ?_ (Below.refl _ _) (fun s h1 h2 => h1 rfl)
      simp only [execOp, e1]
      simp [go_sem, x0, x1, x2, x3, x4, hsq]
    | 9, ho =>
      obtain rfl := Option.some.inj ho
      have e1 : a'.eval (.tmp 41) = .bool true := (sv_dst (l := _) rfl).symm.trans (hA.new 6 (by decide) (by kernel_rfl))
      have e2 : a'.eval (.tmp 43) = .bool true := (sv_dst (l := _) rfl).symm.trans (hA.new 8 (by decide) (by kernel_rfl))
      refine GoesG.value (.bool true) rfl ?_ (Below.refl _ _) (fun s h1 h2 => h1 rfl)
      simp only [execOp, e1, e2]
      simp [go_sem, x0, x1, x2, x3, x4, hsq]
    | 10, ho =>
      obtain rfl := Option.some.inj ho
      have e1 : a'.eval (.tmp 44) = .bool true := (sv_dst (l := _) rfl).symm.trans (hA.new 9 (by decide) (by kernel_rfl))
      refine GoesG.value (.bool true) rfl ?_ (Below.refl _ _) (fun s h1 h2 => h1 rfl)
      simp only [execOp, e1]
      simp [go_sem, x0, x1, x2, x3, x4, hsq]
    | 11, ho =>
      obtain rfl := Option.some.inj ho
      have hg := hA.new 10 (by decide) (by kernel_rfl)
      have e1 : a'.eval (.tmp 2) = sV aTxt := hA.keep 2 (by kernel_rfl)
      refine GoesG.valueW (sV aTxt) 10 true true rfl hg rfl ?_ (Below.refl _ _) (fun s h1 h2 => h1 rfl)
      simp only [execOp, e1]
      simp [go_sem, x0, x1, x2, x3, x4, hsq]
    | 12, ho =>
      obtain rfl := Option.some.inj ho
      have hg := hA.new 10 (by decide) (by kernel_rfl)
      have e1 : a'.eval (.tmp 46) = sV aTxt := (sv_dst (l := _) rfl).symm.trans (hA.new 11 (by decide) (by kernel_rfl))
      refine GoesG.valueW (.bool true) 10 true true rfl hg rfl ?_ (Below.refl _ _) (fun s h1 h2 => h1 rfl)
      simp only [execOp, e1]
      simp [go_sem]
      rfl
    | 13, ho =>
      obtain rfl := Option.some.inj ho
      have e1 : a'.eval (.tmp 45) = .bool true := (sv_dst (l := _) rfl).symm.trans (hA.new 10 (by decide) (by kernel_rfl))
      have e2 : a'.eval (.tmp 47) = .bool true := (sv_dst (l := _) rfl).symm.trans (hA.new 12 (by decide) (by kernel_rfl))
      refine GoesG.value (.bool true) rfl ?_ (Below.refl _ _) (fun s h1 h2 => h1 rfl)
      simp only [execOp, e1, e2]
      simp [go_sem, x0, x1, x2, x3, x4, hsq]
    | 14, ho =>
      obtain rfl := Option.some.inj ho
      have e1 : a'.eval (.tmp 48) = .bool true := (sv_dst (l := _) rfl).symm.trans (hA.new 13 (by decide) (by kernel_rfl))
      refine GoesG.value (.bool true) rfl ?_ (Below.refl _ _) (fun s h1 h2 => h1 rfl)
      simp only [execOp, e1]
      simp [go_sem, x0, x1, x2, x3, x4, hsq]
    | 15, ho =>
      obtain rfl := Option.some.inj ho
      have hg := hA.new 14 (by decide) (by kernel_rfl)
      have e1 : a'.eval (.tmp 4) = .int .i64 (-10) := hA.keep 4 (by kernel_rfl)
      refine GoesG.valueW (.int .i64 (-10)) 14 true true rfl hg rfl ?_ (Below.refl _ _) (fun s h1 h2 => h1 rfl)
      simp only [execOp, e1]
      simp [go_sem, x0, x1, x2, x3, x4, hsq]
    | 16, ho =>
      obtain rfl := Option.some.inj ho
      have hg := hA.new 14 (by decide) (by kernel_rfl)
      have e1 : a'.eval (.tmp 50) = .int .i64 (-10) := (sv_dst (l := _) rfl).symm.trans (hA.new 15 (by decide) (by kernel_rfl))
      refine GoesG.valueW (.bool true) 14 true true rfl hg rfl ?_ (Below.refl _ _) (fun s h1 h2 => h1 rfl)
      simp only [execOp, e1]
      simp [go_sem, x0, x1, x2, x3, x4, hsq]
    | 17, ho =>
      obtain rfl := Option.some.inj ho
      have e1 : a'.eval (.tmp 49) = .bool true := (sv_dst (l := _) rfl).symm.trans (hA.new 14 (by decide) (by kernel_rfl))
      have e2 : a'.eval (.tmp 51) = .bool true := (sv_dst (l := _) rfl).symm.trans (hA.new 16 (by decide) (by kernel_rfl))
      refine GoesG.value (.bool true) rfl ?_ (Below.refl _ _) (fun s h1 h2 => h1 rfl)
      simp only [execOp, e1, e2]
      simp [go_sem, x0, x1, x2, x3, x4, hsq]
    | 18, ho =>
      obtain rfl := Option.some.inj ho
      have e1 : a'.eval (.tmp 52) = .bool true := (sv_dst (l := _) rfl).symm.trans (hA.new 17 (by decide) (by kernel_rfl))
      refine GoesG.value (.bool true) rfl ?_ (Below.refl _ _) (fun s h1 h2 => h1 rfl)
      simp only [execOp, e1]
      simp [go_sem, x0, x1, x2, x3, x4, hsq]
    | 19, ho =>
      obtain rfl := Option.some.inj ho
      have hg := hA.new 18 (by decide) (by kernel_rfl)
      have e1 : a'.eval (.tmp 6) = .pointer (some ⟨g6, 0, none⟩) := hA.keep 6 (by kernel_rfl)
      refine GoesG.valueW (.agg #[.int .i64 4, .int .i64 3, sV [], .int .i64 0, .slice qG 2 dG]) 18 true true rfl hg rfl ?_ (Below.refl _ _) (fun s h1 h2 => h1 rfl)
      simp only [execOp, e1]
      simp [go_sem, x0, x1, x2, x3, x4, hsq]
    | 20, ho =>
      obtain rfl := Option.some.inj ho
      have hg := hA.new 18 (by decide) (by kernel_rfl)
      refine GoesG.callW 31 #[sV [120]] 18 true true rfl hg rfl ?_ ((nam_any [120] W).mono ?_)
      · simp [execOp, resolve, invoke, Deferred.ofValue]
        rfl
      · rintro e W1 ⟨rfl, hE⟩
        exact ⟨_, rfl, hE, fun s h1 h2 => h1 rfl⟩
    | 21, ho =>
      obtain rfl := Option.some.inj ho
      have hg := hA.new 18 (by decide) (by kernel_rfl)
      refine GoesG.callW 32 #[.int .i64 5] 18 true true rfl hg rfl ?_ ((num_any 5 W).mono ?_)
      · simp [execOp, resolve, invoke, Deferred.ofValue]
        rfl
      · rintro e W1 ⟨rfl, hE⟩
        exact ⟨_, rfl, hE, fun s h1 h2 => h1 rfl⟩
    | 22, ho =>
      obtain rfl := Option.some.inj ho
      have hg := hA.new 18 (by decide) (by kernel_rfl)
      have e1 : a'.eval (.tmp 55) = aX.val none 0 := (sv_dst (l := _) rfl).symm.trans (hA.new 20 (by decide) (by kernel_rfl))
      have e2 : a'.eval (.tmp 56) = (aN 5).val none 0 := (sv_dst (l := _) rfl).symm.trans (hA.new 21 (by decide) (by kernel_rfl))
      refine GoesG.callW 29 #[.int .i64 3, aX.val none 0, (aN 5).val none 0] 18 true true rfl hg rfl ?_ ((binary_any (fun _ => True) 3 (by decide) (by decide) aX (aN 5) none none 0 0 W (AtB_leaf _ _ _ fitX) (AtB_leaf _ _ _ (fits_num 5 (by decide) (by decide)))).mono ?_)
      · simp [execOp, resolve, invoke, Deferred.ofValue, e1, e2]
        rfl
      · rintro e W1 ⟨q, d, rfl, hA2, hE⟩
        exact ⟨_, rfl, hE, fun s h1 h2 => ⟨q, d, h1 rfl, hA2.at⟩⟩
    | 23, ho =>
      obtain rfl := Option.some.inj ho
      have hg := hA.new 18 (by decide) (by kernel_rfl)
      obtain ⟨q, d, e0, hA2⟩ := hA.new 22 (by decide) (by kernel_rfl)
      have e1 : a'.eval (.tmp 54) = .agg #[.int .i64 4, .int .i64 3, sV [], .int .i64 0, .slice qG 2 dG] := (sv_dst (l := _) rfl).symm.trans (hA.new 19 (by decide) (by kernel_rfl))
      have e2 : a'.eval (.tmp 57) = aG.val q d := (sv_dst (l := _) rfl).symm.trans e0
      refine GoesG.callW 23 #[aG.val qG dG, aG.val q d] 18 true true rfl hg rfl ?_ ((Equal_refl aG aG_chk qG q dG d W (hAG.below hA.rel) hA2).mono ?_)
      · simp [execOp, resolve, invoke, Deferred.ofValue, e1, e2]
        rfl
      · intro W1 hE
        exact ⟨_, rfl, hE, fun s h1 h2 => h1 rfl⟩
    | 24, ho =>
      obtain rfl := Option.some.inj ho
      have e1 : a'.eval (.tmp 53) = .bool true := (sv_dst (l := _) rfl).symm.trans (hA.new 18 (by decide) (by kernel_rfl))
      have e2 : a'.eval (.tmp 58) = .bool true := (sv_dst (l := _) rfl).symm.trans (hA.new 23 (by decide) (by kernel_rfl))
      refine GoesG.value (.bool true) rfl ?_ (Below.refl _ _) (fun s h1 h2 => h1 rfl)
      simp only [execOp, e1, e2]
      simp [go_sem, x0, x1, x2, x3, x4, hsq]
    | 25, ho =>
      obtain rfl := Option.some.inj ho
      have e1 : a'.eval (.tmp 59) = .bool true := (sv_dst (l := _) rfl).symm.trans (hA.new 24 (by decide) (by kernel_rfl))
      refine GoesG.value (.bool true) rfl ?_ (Below.refl _ _) (fun s h1 h2 => h1 rfl)
      simp only [execOp, e1]
      simp [go_sem, x0, x1, x2, x3, x4, hsq]
    | i + 26, ho => cases ho
  · intro vs W hvs hG hΦ
    obtain ⟨u0, u1, u2, u3, u4, u5, u6, u7, u8, u9, u10, u11, u12, u13, u14, u15, u16, u17, u18, u19, u20, u21, u22, u23, u24, u25, rfl⟩ := n26 vs hvs
    have hu : u25 = .bool true := hΦ 25 (by decide)
    subst hu
    have HG := Lib.hid hG
    clear hΦ hG hvs
    simp only [putAll, Act.put, List.setIfInBounds_toArray, List.set_cons_succ, List.set_cons_zero]
    go_wp2
    go_ret
    exact ⟨rfl, Ext.trans HX.out HG.out⟩

end Go.Proofs.YtgkalcboklhdgaaGreatDoor

namespace Go.Proofs.YtgkalcboklhdgaaGreatDoor
open Go.RowKit Go.ChangeShapes Go.WideShapes Go.Deep Go.Joins
set_option linter.unusedVariables false
set_option linter.unusedSimpArgs false

theorem weights_all_mem {H : Type} {P : Program} {e : TypeId} : ∀ {ds : List (DataW H)} {d : DataW H}, d ∈ ds → ∀ n ∈ d.weights P e, n ∈ DataW.weightsAll P e ds
  | d0 :: ds, d, hd, n, hn => by
    simp only [DataW.weightsAll, List.mem_append]
    rcases List.mem_cons.1 hd with rfl | hd
    · exact .inl hn
    · exact .inr (weights_all_mem hd n hn)
  | [], _, hd, _, _ => by cases hd
theorem add_zero {a : Addr} {w : World} {v : Value} (h : w.cell? (a.add 0) = some v) : a = ⟨a.block, a.off, none⟩ := by
  obtain ⟨b, o, s⟩ := a
  have hs : s = none := World.cell?_spot (a := ⟨b, o, s⟩) (by simpa [Addr.add] using h)
  rw [hs]
theorem add_cell {a : Addr} {j : Nat} {w : World} {v : Value} (h : w.cell? (a.add j) = some v) : w.cell? ⟨a.block, a.off + j, none⟩ = some v := by
  by_cases h0 : j = 0
  · subst h0
    have h1 := add_zero h
    rw [h1] at h
    simpa [Addr.add] using h
  · unfold Addr.add at h
    rw [if_neg h0] at h
    exact h
theorem cells_at {w : World} {base : Nat} {a : Addr} {n : Nat} {cs : List Value} (h : w.cells? base a n = some cs) : ∀ j v, j < n → cs[j]? = some v → w.cell? (a.add j) = some v := by
  intro j v hj hv
  obtain ⟨_, _, hat⟩ := World.cells?_some h
  exact (hat j hj).trans hv

theorem exCells : Tryz.prog.cellsOf 24 = 5 := by kernel_rfl
theorem exBytes : Tryz.prog.bytesOf 24 = 64 := by kernel_rfl
theorem intCells : Tryz.prog.cellsOf 3 = 1 := by kernel_rfl
theorem strCells1 : Tryz.prog.cellsOf 9 = 1 := by kernel_rfl
theorem exsCells : Tryz.prog.cellsOf 22 = 1 := by kernel_rfl

set_option maxRecDepth 100000 in
set_option maxHeartbeats 1000000 in
theorem open_exT {H : Type} {enc : TypeId × Value → H} (W : World) (base : Nat) (sp : Nat → Bool) (hd : Bool) : ∀ (fuel : Nat) (cs : List Value) (x : DataW H × List MemPlace),
    DataW.trod enc Tryz.prog W base sp hd fuel 24 cs = some x → (∀ n ∈ x.1.weights Tryz.prog 24, n ≤ reachBytes) →
    ∃ r : XE, cs = ec r ∧ Ex.AtB (fun _ => True) W r.2.1 r.1 := by
  intro fuel
  induction fuel using Nat.strongRecOn with
  | _ fuel ih =>
    intro cs x h hw
    obtain ⟨xs, n, hn, rfl, hl, hlen, hf⟩ := DataW.trod_struct Tryz.underlying24 h
    rw [exCells] at hl
    match cs, hl, xs, hlen with
    | [c0, c1, c2, c3, c4], _, [y0, y1, y2, y3, y4], _ =>
      have h0 : DataW.trod enc Tryz.prog W base sp hd n 3 [c0] = some y0 := by simpa [intCells] using hf 0 _ rfl
      have h1 : DataW.trod enc Tryz.prog W base sp hd n 3 [c1] = some y1 := by simpa [intCells] using hf 1 _ rfl
      have h2 : DataW.trod enc Tryz.prog W base sp hd n 9 [c2] = some y2 := by simpa [strCells1] using hf 2 _ rfl
      have h3 : DataW.trod enc Tryz.prog W base sp hd n 3 [c3] = some y3 := by simpa [intCells] using hf 3 _ rfl
      have h4 : DataW.trod enc Tryz.prog W base sp hd n 22 [c4] = some y4 := by simpa [exsCells] using hf 4 _ rfl
      simp only [DataW.weights, Tryz.underlying24, List.map_cons, List.map_nil, DataW.weightsEach, List.mem_append] at hw
      obtain ⟨k, hk, rfl, wk⟩ := DataW.trod_int Tryz.underlying3 h0
      obtain ⟨o, ho, rfl, wo⟩ := DataW.trod_int Tryz.underlying3 h1
      obtain ⟨s, hs, rfl, ws⟩ := DataW.trod_string Tryz.underlying9 h2
      obtain ⟨v, hv, rfl, wv⟩ := DataW.trod_int Tryz.underlying3 h3
      cases hk; cases ho; cases hs; cases hv
      obtain ⟨nm, rfl⟩ := sB_of s
      rw [sB_data] at hw
      have hnm : nm.length ≤ reachBytes := hw _ (.inr (.inr (.inl (by simp [DataW.weights]))))
      have hnm : nm.length ≤ 140737488355328 := by unfold reachBytes at hnm; omega
      rcases DataW.trod_slice Tryz.underlying22 h4 with ⟨hc, rfl⟩ | ⟨a, len, cap, elems, rest, n', hn', hc, rfl, hb, hl, hm, hel, hat, _, _⟩
      · cases hc
        exact ⟨(.mk k o nm v [], none, 0), rfl, ⟨i64_bd wk, i64_bd wo, hnm, i64_bd wv, by simp [Ex.args]⟩, trivial⟩
      · cases hc
        have hwl : (elems.length + rest.length) * 64 ≤ reachBytes := by
          have := hw ((elems.length + rest.length) * Tryz.prog.bytesOf 24) (.inr (.inr (.inr (.inr (.inl (by simp [DataW.weights, Tryz.underlying22]))))))
          rwa [exBytes] at this
        have hlen : len ≤ 2199023255488 := by unfold reachBytes at hwl; omega
        have hE : ∀ i, i < len → ∃ r : XE, (∀ j u, (ec r)[j]? = some u → W.cell? (a.add (i * 5 + j)) = some u) ∧ Ex.AtB (fun _ => True) W r.2.1 r.1 := by
          intro i hi
          have hx := hat i hi
          rw [exCells, List.getElem?_eq_getElem (by omega)] at hx
          obtain ⟨cs', hcs, hx⟩ := Option.bind_eq_some_iff.1 hx
          obtain ⟨r, rfl, hr⟩ := ih n' (by omega) cs' _ hx (fun m hm => hw m (.inr (.inr (.inr (.inr (.inl (by
            simp only [DataW.weights, Tryz.underlying22, List.mem_cons, List.mem_append]
            exact .inr (.inl (weights_all_mem (List.mem_map.2 ⟨_, List.getElem_mem (by omega), rfl⟩) m hm)))))))))
          refine ⟨r, fun j u hu => ?_, hr⟩
          have hj : j < 5 := (List.getElem?_eq_some_iff.1 hu).1
          rw [← Go.Deep.add_add]
          exact cells_at hcs j u hj hu
        by_cases h0 : len = 0
        · subst h0
          exact ⟨(.mk k o nm v [], some a, cap), rfl, ⟨i64_bd wk, i64_bd wo, hnm, i64_bd wv, by simp [Ex.args]⟩, trivial⟩
        · haveI : Inhabited XE := ⟨(.mk 0 0 [] 0 [], none, 0)⟩
          obtain ⟨f, hf⟩ := choose_lt hE
          have ha : a = ⟨a.block, a.off, none⟩ := add_zero ((hf 0 (by omega)).1 0 _ rfl)
          have hll : ((List.range len).map fun i => (f i).1).length = len := by simp
          refine ⟨(.mk k o nm v ((List.range len).map fun i => (f i).1), some a, cap), by simp [ec, Ex.kind, Ex.op, Ex.name, Ex.value, Ex.args], ⟨i64_bd wk, i64_bd wo, hnm, i64_bd wv, by simpa [Ex.args] using hlen⟩, ?_⟩
          show Ex.AtBL _ W (some a) 0 _
          rw [ha]
          refine Ex.AtBL.of_get (fun _ => trivial) (fun j hj => ?_)
          have hj' : j < len := by rwa [hll] at hj
          obtain ⟨g1, g2⟩ := hf j hj'
          refine ⟨(f j).2.1, (f j).2.2, ?_, by simpa using g2⟩
          simp only [List.getElem_map, List.getElem_range, Nat.zero_add]
          exact ⟨add_cell (g1 0 _ rfl), add_cell (g1 1 _ rfl), add_cell (g1 2 _ rfl), add_cell (g1 3 _ rfl), add_cell (g1 4 _ rfl)⟩

set_option maxRecDepth 100000 in
/-- an expression that came in -/
theorem open_ex {H : Type} {enc : TypeId × Value → H} {r : Reach} {b0 : Nat} {W : World} {base : Nat} {sp : Nat → Bool} {hd : Bool} {v : Value} {d : DataW H} {ps : List MemPlace} (hval : Value.okWide Tryz.prog W r b0 24 v)
    (h : DataW.Trod enc Tryz.prog W base sp hd 24 v d ps) (hw : ∀ n ∈ d.weights Tryz.prog 24, n ≤ reachBytes) : ∃ (e : Ex) (p : Option Addr) (c : Nat), v = e.val p c ∧ Ex.At W p e := by
  obtain ⟨cs, rfl, hsz⟩ := okWide_struct Tryz.underlying24 hval
  obtain ⟨fuel, hf⟩ := h
  have hf' := hf
  obtain ⟨⟨e, p, c⟩, hc, hA⟩ := open_exT W base sp hd fuel _ _ hf hw
  refine ⟨e, p, c, ?_, hA.at⟩
  simp only [Value.cells, ec] at hc
  obtain ⟨l⟩ := cs
  simp only at hc
  subst hc
  rfl

theorem bnCells : Tryz.prog.cellsOf 39 = 3 := by kernel_rfl
theorem bnBytes : Tryz.prog.bytesOf 39 = 32 := by kernel_rfl
set_option maxRecDepth 100000 in
/-- bindings that came in -/
theorem open_bns {H : Type} {enc : TypeId × Value → H} {W : World} {base : Nat} {sp : Nat → Bool} {hd : Bool} {a0 : Option Addr} {len0 cap0 : Nat} {d : DataW H} {ps : List MemPlace}
    (h : DataW.Trod enc Tryz.prog W base sp hd 25 (.slice a0 len0 cap0) d ps) (hw : ∀ n ∈ d.weights Tryz.prog 25, n ≤ reachBytes) : ∃ bs : List Bn, len0 = bs.length ∧ BAt W a0 bs := by
  obtain ⟨fuel, h⟩ := h
  rcases DataW.trod_slice Tryz.underlying25 h with ⟨hc, he⟩ | ⟨a, len, cap, elems, rest, n', hn', hc, he, hb, hl, hm, hel, hat, _, _⟩
  · obtain ⟨rfl, rfl⟩ := Prod.mk.inj he
    simp [Value.cells] at hc
    obtain ⟨rfl, rfl, rfl⟩ := hc
    exact ⟨[], rfl, BAt.nil _ _⟩
  · obtain ⟨rfl, rfl⟩ := Prod.mk.inj he
    simp [Value.cells] at hc
    obtain ⟨rfl, rfl, rfl⟩ := hc
    have hwl : (elems.length + rest.length) * 32 ≤ reachBytes := by
      have := hw ((elems.length + rest.length) * Tryz.prog.bytesOf 39) (by simp [DataW.weights, Tryz.underlying25])
      rwa [bnBytes] at this
    have hlen : len0 ≤ 4398046510976 := by unfold reachBytes at hwl; omega
    have hE : ∀ i, i < len0 → ∃ b : Bn, b.fits ∧ W.cell? (a.add (i * 3 + 0)) = some (sV b.name) ∧ W.cell? (a.add (i * 3 + 1)) = some (.int .i64 b.type) ∧ W.cell? (a.add (i * 3 + 2)) = some (.int .i64 b.value) := by
      intro i hi
      have hx := hat i hi
      rw [bnCells, List.getElem?_eq_getElem (by omega)] at hx
      obtain ⟨cs', hcs, hx⟩ := Option.bind_eq_some_iff.1 hx
      have hwe : ∀ m ∈ (elems[i]'(by omega)).1.weights Tryz.prog 39, m ≤ reachBytes := fun m hm => hw m (by
        simp only [DataW.weights, Tryz.underlying25, List.mem_cons, List.mem_append]
        exact .inr (.inl (weights_all_mem (List.mem_map.2 ⟨_, List.getElem_mem (by omega), rfl⟩) m hm)))
      obtain ⟨xs, n, hn, hxe, hl, hlen, hf⟩ := DataW.trod_struct Tryz.underlying39 hx
      rw [hxe] at hwe
      rw [bnCells] at hl
      match cs', hl, xs, hlen, hcs with
      | [c0, c1, c2], _, [y0, y1, y2], _, hcs =>
        have h0 : DataW.trod enc Tryz.prog W base sp hd n 9 [c0] = some y0 := by simpa [strCells1] using hf 0 _ rfl
        have h1 : DataW.trod enc Tryz.prog W base sp hd n 3 [c1] = some y1 := by simpa [intCells] using hf 1 _ rfl
        have h2 : DataW.trod enc Tryz.prog W base sp hd n 3 [c2] = some y2 := by simpa [intCells] using hf 2 _ rfl
        simp only [DataW.weights, Tryz.underlying39, List.map_cons, List.map_nil, DataW.weightsEach, List.mem_append] at hwe
        obtain ⟨s, hs, rfl, ws⟩ := DataW.trod_string Tryz.underlying9 h0
        obtain ⟨t, ht, rfl, wt⟩ := DataW.trod_int Tryz.underlying3 h1
        obtain ⟨v, hv, rfl, wv⟩ := DataW.trod_int Tryz.underlying3 h2
        cases ht; cases hs; cases hv
        obtain ⟨nm, rfl⟩ := sB_of s
        rw [sB_data] at hwe
        have hnm : nm.length ≤ reachBytes := hwe _ (.inl (by simp [DataW.weights]))
        have hnm : nm.length ≤ 140737488355328 := by unfold reachBytes at hnm; omega
        refine ⟨⟨nm, t, v⟩, ⟨hnm, i64_bd wt, i64_bd wv⟩, ?_, ?_, ?_⟩
        · rw [← Go.Deep.add_add]; exact cells_at hcs 0 _ (by omega) rfl
        · rw [← Go.Deep.add_add]; exact cells_at hcs 1 _ (by omega) rfl
        · rw [← Go.Deep.add_add]; exact cells_at hcs 2 _ (by omega) rfl
    haveI : Inhabited Bn := ⟨⟨[], 0, 0⟩⟩
    obtain ⟨f, hf⟩ := choose_lt hE
    refine ⟨(List.range len0).map f, by simp, ⟨⟨by simpa using hlen, ?_⟩, ?_⟩⟩
    · intro b hb
      obtain ⟨i, hi, rfl⟩ := List.mem_map.1 hb
      exact (hf i (List.mem_range.1 hi)).1
    · intro j hj
      have hj' : j < len0 := by simpa using hj
      obtain ⟨_, g1, g2, g3⟩ := hf j hj'
      have ha : a = ⟨a.block, a.off, none⟩ := add_zero (hf 0 (by omega)).2.1
      refine ⟨a.block, a.off, congrArg some ha, ?_⟩
      simp only [List.getElem_map, List.getElem_range]
      exact ⟨add_cell g1, add_cell g2, add_cell g3⟩

end Go.Proofs.YtgkalcboklhdgaaGreatDoor

namespace Go.Proofs.YtgkalcboklhdgaaGreatDoor
open Go.RowKit
set_option linter.unusedVariables false
set_option linter.unusedSimpArgs false
open Ex

mutual
/-- two expressions are equal -/
def eqE : Ex → Ex → Bool
  | .mk k o n v ts, .mk k' o' n' v' ts' => k == k' && (o == o' && (n == n' && (v == v' && eqL ts ts')))
def eqL : List Ex → List Ex → Bool
  | [], [] => true
  | t :: ts, t' :: ts' => eqE t t' && eqL ts ts'
  | _, _ => false
end
theorem eqL_len : ∀ (ts ts' : List Ex), ts.length ≠ ts'.length → eqL ts ts' = false
  | [], [], h => absurd rfl h
  | [], _ :: _, _ => by simp [eqL]
  | _ :: _, [], _ => by simp [eqL]
  | t :: ts, t' :: ts', h => by simp only [eqL]; rw [eqL_len ts ts' (by simpa using h)]; simp
theorem eqL_drop (ts ts' : List Ex) (j : Nat) (h : j < ts.length) (h' : j < ts'.length) : eqL (ts.drop j) (ts'.drop j) = (eqE ts[j] ts'[j] && eqL (ts.drop (j + 1)) (ts'.drop (j + 1))) := by
  rw [List.drop_eq_getElem_cons h, List.drop_eq_getElem_cons h']; simp only [eqL]
theorem eqL_end (ts ts' : List Ex) (j : Nat) (h : ¬ j < ts.length) (h' : ts.length = ts'.length) : eqL (ts.drop j) (ts'.drop j) = true := by
  rw [List.drop_eq_nil_of_le (by omega), List.drop_eq_nil_of_le (by omega)]; simp [eqL]

set_option maxRecDepth 100000 in
set_option maxHeartbeats 4000000 in
theorem EqualFunc_any (ts ts' : List Ex) (hl : ts.length ≤ 2199023255488) (hl' : ts'.length ≤ 2199023255488)
    (IH0 : ∀ t ∈ ts, ∀ t' q q' d d' W, Ex.At W q t → Ex.At W q' t' → Gives Tryz.prog 36 #[t.val q d, t'.val q' d'] W (.bool (eqE t t'))) (p p' : Option Addr) (c c' : Nat) (w : World) (hA : Ex.AtL w p 0 ts) (hA' : Ex.AtL w p' 0 ts') :
    Gives Tryz.prog 64 #[.slice p ts.length c, .slice p' ts'.length c', .func (.func 36) #[] #[]] w (.bool (eqL ts ts')) := by
  have IH := Lib.hid IH0
  have HR := Lib.hid hA
  have HR' := Lib.hid hA'
  clear IH0 hA hA'
  obtain ⟨m, hm⟩ : ∃ m, ts.length = m := ⟨_, rfl⟩
  obtain ⟨m', hm'⟩ : ∃ m', ts'.length = m' := ⟨_, rfl⟩
  rw [hm] at hl ⊢
  rw [hm'] at hl' ⊢
  by_cases he : m = m'
  · subst he
    have HM := Lib.hid (And.intro hm hm')
    have HEND := Lib.hid (fun j (h : ¬ j < m) => eqL_end ts ts' j (by omega) (by omega))
    have HST := Lib.hid (fun j (h : j < ts.length) (h2 : j < ts'.length) => eqL_drop ts ts' j h h2)
    clear hm hm'
    unfold Gives
    go_enter Tryz.func64, Tryz.ntmps64
    go_wp2
    go_loopw [17] (fun i wr => ∃ j : Nat, j ≤ m ∧ i = .int .i64 (j : Int) ∧ eqL ts ts' = eqL (ts.drop j) (ts'.drop j) ∧ Ext w wr) (fun i _ => m - (intOf i).toNat)
    case atStart => exact ⟨0, Nat.zero_le _, rfl, by simp, Below.refl _ _⟩
    case round =>
      obtain ⟨j, hj, rfl, hq, hE⟩ := hrel
      have HQ := Lib.hid hq
      clear hq
      by_cases hlt : j < m
      · have hjt : j < ts.length := by rw [HM.out.1]; exact hlt
        have hjt' : j < ts'.length := by rw [HM.out.2]; exact hlt
        obtain ⟨b, off, q2, dd2, rfl, hcs, hA1⟩ := HR.out.get j hjt
        obtain ⟨b', off', q3, dd3, rfl, hcs', hA1'⟩ := HR'.out.get j hjt'
        rw [Nat.zero_add] at hcs hcs'
        obtain ⟨c0, c1, c2, c3, c4⟩ := hcs.below hE
        obtain ⟨x0, x1, x2, x3, x4⟩ := hcs'.below hE
        have lt1 := cell_lt' c0
        have lt2 := cell_lt' x0
        have D := Lib.hid (fun W (h : Ext wr W) => show Gives _ _ #[.agg #[.int .i64 (ts[j]).kind, .int .i64 (ts[j]).op, sV (ts[j]).name, .int .i64 (ts[j]).value, .slice q2 (ts[j]).args.length dd2], .agg #[.int .i64 (ts'[j]).kind, .int .i64 (ts'[j]).op, sV (ts'[j]).name, .int .i64 (ts'[j]).value, .slice q3 (ts'[j]).args.length dd3]] _ _ from IH.out ts[j] (List.getElem_mem hjt) ts'[j] q2 q3 dd2 dd3 W (hA1.below (Ext.trans hE h)) (hA1'.below (Ext.trans hE h)))
        have HS := Lib.hid (HST.out j hjt hjt')
        have HE := Lib.hid hE
        clear hcs hcs' hA1 hA1' hE
        generalize (ts[j]).kind = k2 at *
        generalize (ts[j]).op = o2 at *
        generalize (ts[j]).name = n2 at *
        generalize (ts[j]).value = v2' at *
        generalize (ts[j]).args.length = l2 at *
        generalize (ts'[j]).kind = k3 at *
        generalize (ts'[j]).op = o3 at *
        generalize (ts'[j]).name = n3 at *
        generalize (ts'[j]).value = v3' at *
        generalize (ts'[j]).args.length = l3 at *
        generalize eqE ts[j] ts'[j] = r at *
        obtain ⟨hb0, hb1, hE0⟩ := two_boxes wr (.int .i64 k2) (.int .i64 o2) (sV n2) (.int .i64 v2') (.slice q2 l2 dd2) (.int .i64 k3) (.int .i64 o3) (sV n3) (.int .i64 v3') (.slice q3 l3 dd3) tEx
        have HE0 := Lib.hid hE0
        clear hb0 hb1 hE0
        go_wp2_with fail
        refine (D.out _ HE0.out).mono ?_
        intro w4 hB
        have HE4 := Lib.hid (Ext.trans HE.out (Ext.trans HE0.out hB))
        clear hB D
        cases r with
        | true =>
          have HN := Lib.hid (show eqL ts ts' = eqL (ts.drop (j + 1)) (ts'.drop (j + 1)) by rw [HQ.out, HS.out]; simp)
          clear c0 c1 c2 c3 c4 x0 x1 x2 x3 x4 lt1 lt2
          go_wp2
          go_roundw
          case rel => exact ⟨j + 1, by omega, by go_num, HN.out, HE4.out⟩
          case measure => simp [intOf]; omega
        | false =>
          have HN := Lib.hid (show eqL ts ts' = false by rw [HQ.out, HS.out]; simp)
          clear c0 c1 c2 c3 c4 x0 x1 x2 x3 x4 lt1 lt2
          go_wp2
          go_ret
          exact ⟨by rw [HN.out]; rfl, HE4.out⟩
      · have HE := Lib.hid hE
        have HN := Lib.hid (show eqL ts ts' = true by rw [HQ.out]; exact HEND.out j hlt)
        clear hE
        go_wp2
        go_ret
        exact ⟨by rw [HN.out]; rfl, HE.out⟩
  · have hne : ((m : Int) == (m' : Int)) = false := by rw [beq_eq_false_iff_ne]; omega
    have hne2 : ((m : Int) != (m' : Int)) = true := by rw [bne_iff_ne]; omega
    have HN := Lib.hid (eqL_len ts ts' (by omega))
    clear he hm hm'
    unfold Gives
    go_enter Tryz.func64, Tryz.ntmps64
    go_wp2
    go_ret
    exact ⟨by rw [HN.out]; rfl, Below.refl _ _⟩

theorem eqE_def (a b : Ex) : eqE a b = (a.kind == b.kind && (a.op == b.op && (a.name == b.name && (a.value == b.value && eqL a.args b.args)))) := by
  cases a; cases b; simp [eqE, Ex.kind, Ex.op, Ex.name, Ex.value, Ex.args]

set_option maxRecDepth 100000 in
set_option maxHeartbeats 4000000 in
theorem equal_any : ∀ (n : Nat) (a : Ex), a.size ≤ n → ∀ (b : Ex) (p p' : Option Addr) (c c' : Nat) (w : World), Ex.At w p a → Ex.At w p' b →
    Gives Tryz.prog 36 #[a.val p c, b.val p' c'] w (.bool (eqE a b)) := by
  intro n
  induction n with
  | zero => intro e he; have := e.size_pos; omega
  | succ n ih =>
    intro a ha b p p' c c' w hA hA'
    have hv : a.val p c = .agg #[.int .i64 a.kind, .int .i64 a.op, sV a.name, .int .i64 a.value, .slice p a.args.length c] := rfl
    have hv' : b.val p' c' = .agg #[.int .i64 b.kind, .int .i64 b.op, sV b.name, .int .i64 b.value, .slice p' b.args.length c'] := rfl
    rw [hv, hv']
    have HL := Lib.hid (fun W (h : Ext w W) => EqualFunc_any a.args b.args hA.fit.2.2.2.2 hA'.fit.2.2.2.2 (fun t ht t' q q' d d' W h1 h2 => ih t (by obtain ⟨j, hj, rfl⟩ := List.getElem_of_mem ht; have h1 := size_get a.args j hj; have h2 := size_args a; omega) t' q q' d d' W h1 h2) p p' c c' W (hA.row.below h) (hA'.row.below h))
    have HD := Lib.hid (eqE_def a b)
    clear ih ha hv hv' hA hA'
    generalize eqE a b = r at *
    generalize eqL a.args b.args = rl at *
    generalize a.args.length = l1 at *
    generalize b.args.length = l2 at *
    generalize a.kind = k1 at *
    generalize a.op = o1 at *
    generalize a.name = n1 at *
    generalize a.value = v1 at *
    generalize b.kind = k2 at *
    generalize b.op = o2 at *
    generalize b.name = n2 at *
    generalize b.value = v2 at *
    obtain ⟨hb0, hb1, hE0⟩ := two_boxes w (.int .i64 k1) (.int .i64 o1) (sV n1) (.int .i64 v1) (.slice p l1 c) (.int .i64 k2) (.int .i64 o2) (sV n2) (.int .i64 v2) (.slice p' l2 c') tEx
    have HE0 := Lib.hid hE0
    clear hb0 hb1 hE0
    unfold Gives
    by_cases hk : k1 = k2
    · subst hk
      by_cases ho : o1 = o2
      · subst ho
        by_cases hn : n1 = n2
        · subst hn
          by_cases hx : v1 = v2
          · subst hx
            have HN := Lib.hid (show r = rl by rw [HD.out]; simp)
            go_enter Tryz.func36, Tryz.ntmps36
            go_wp2_with fail
            refine (HL.out _ HE0.out).mono ?_
            intro w1 hB
            have HE1 := Lib.hid (Ext.trans HE0.out hB)
            clear hB HL
            go_wp2
            go_ret
            exact ⟨by rw [HN.out]; rfl, HE1.out⟩
          · have g1 : (v1 == v2) = false := by simpa using hx
            have HN := Lib.hid (show r = false by rw [HD.out]; simp [g1])
            clear HL
            go_enter Tryz.func36, Tryz.ntmps36
            go_wp2
            go_ret
            exact ⟨by rw [HN.out]; rfl, HE0.out⟩
        · have g1 : (n1 == n2) = false := by simpa using hn
          have HN := Lib.hid (show r = false by rw [HD.out]; simp [g1])
          clear HL
          go_enter Tryz.func36, Tryz.ntmps36
          go_wp2
          go_ret
          exact ⟨by rw [HN.out]; rfl, HE0.out⟩
      · have g1 : (o1 == o2) = false := by simpa using ho
        have HN := Lib.hid (show r = false by rw [HD.out]; simp [g1])
        clear HL
        go_enter Tryz.func36, Tryz.ntmps36
        go_wp2
        go_ret
        exact ⟨by rw [HN.out]; rfl, HE0.out⟩
    · have g1 : (k1 == k2) = false := by simpa using hk
      have HN := Lib.hid (show r = false by rw [HD.out]; simp [g1])
      clear HL
      go_enter Tryz.func36, Tryz.ntmps36
      go_wp2
      go_ret
      exact ⟨by rw [HN.out]; rfl, HE0.out⟩

set_option maxRecDepth 100000 in
set_option maxHeartbeats 2000000 in
/-- Equal -/
theorem EqualX_any (a b : Ex) (p p' : Option Addr) (c c' : Nat) (w : World) (hA : Ex.At w p a) (hA' : Ex.At w p' b) :
    Gives Tryz.prog 10 #[a.val p c, b.val p' c'] w (.bool (a.chk == 0 && (b.chk == 0 && eqE a b))) := by
  have hv : a.val p c = .agg #[.int .i64 a.kind, .int .i64 a.op, sV a.name, .int .i64 a.value, .slice p a.args.length c] := rfl
  have hv' : b.val p' c' = .agg #[.int .i64 b.kind, .int .i64 b.op, sV b.name, .int .i64 b.value, .slice p' b.args.length c'] := rfl
  have C1 := Lib.hid (fun W (h : Ext w W) => show Gives _ _ #[.agg #[.int .i64 a.kind, .int .i64 a.op, sV a.name, .int .i64 a.value, .slice p a.args.length c]] _ _ from Check_any a p c W (hA.below h))
  have C2 := Lib.hid (fun W (h : Ext w W) => show Gives _ _ #[.agg #[.int .i64 b.kind, .int .i64 b.op, sV b.name, .int .i64 b.value, .slice p' b.args.length c']] _ _ from Check_any b p' c' W (hA'.below h))
  have C3 := Lib.hid (fun W (h : Ext w W) => show Gives _ _ #[.agg #[.int .i64 a.kind, .int .i64 a.op, sV a.name, .int .i64 a.value, .slice p a.args.length c], .agg #[.int .i64 b.kind, .int .i64 b.op, sV b.name, .int .i64 b.value, .slice p' b.args.length c']] _ _ from equal_any a.size a (Nat.le_refl _) b p p' c c' W (hA.below h) (hA'.below h))
  rw [hv, hv']
  clear hv hv' hA hA'
  generalize eqE a b = r at *
  generalize a.chk = ca at *
  generalize b.chk = cb at *
  generalize a.args.length = l1 at *
  generalize b.args.length = l2 at *
  generalize a.kind = k1 at *
  generalize a.op = o1 at *
  generalize a.name = n1 at *
  generalize a.value = v1 at *
  generalize b.kind = k2 at *
  generalize b.op = o2 at *
  generalize b.name = n2 at *
  generalize b.value = v2 at *
  obtain ⟨hb1, hb2, hE⟩ := two_boxes w (.int .i64 k1) (.int .i64 o1) (sV n1) (.int .i64 v1) (.slice p l1 c) (.int .i64 k2) (.int .i64 o2) (sV n2) (.int .i64 v2) (.slice p' l2 c') tEx
  have Ka := Lib.hid hb1
  have Kb := Lib.hid hb2
  have HX := Lib.hid hE
  clear hb1 hb2 hE
  unfold Gives
  by_cases ha : ca = 0
  · subst ha
    by_cases hb : cb = 0
    · subst hb
      go_enter Tryz.func10, Tryz.ntmps10
      obtain ⟨a0, a1, a2, a3, a4, a5⟩ := box5 Ka.out
      have lta := lt_of_block Ka.out
      obtain ⟨b0, b1, b2, b3, b4, b5⟩ := box5 Kb.out
      have ltb := lt_of_block Kb.out
      go_wp2_with fail
      refine (C1.out _ HX.out).mono ?_
      intro w1 hE
      replace hE : Ext _ w1 := hE
      clear a0 a1 a2 a3 a4 a5 lta
      clear b0 b1 b2 b3 b4 b5 ltb
      replace Ka := Lib.hid ((hE.below.block _ (lt_of_block Ka.out)).trans Ka.out)
      replace Kb := Lib.hid ((hE.below.block _ (lt_of_block Kb.out)).trans Kb.out)
      replace HX := Lib.hid (Ext.trans HX.out hE)
      clear hE
      obtain ⟨a0, a1, a2, a3, a4, a5⟩ := box5 Ka.out
      have lta := lt_of_block Ka.out
      obtain ⟨b0, b1, b2, b3, b4, b5⟩ := box5 Kb.out
      have ltb := lt_of_block Kb.out
      go_wp2_with fail
      refine (C2.out _ HX.out).mono ?_
      intro w2 hE
      replace hE : Ext _ w2 := hE
      clear a0 a1 a2 a3 a4 a5 lta
      clear b0 b1 b2 b3 b4 b5 ltb
      replace Ka := Lib.hid ((hE.below.block _ (lt_of_block Ka.out)).trans Ka.out)
      replace Kb := Lib.hid ((hE.below.block _ (lt_of_block Kb.out)).trans Kb.out)
      replace HX := Lib.hid (Ext.trans HX.out hE)
      clear hE
      obtain ⟨a0, a1, a2, a3, a4, a5⟩ := box5 Ka.out
      have lta := lt_of_block Ka.out
      obtain ⟨b0, b1, b2, b3, b4, b5⟩ := box5 Kb.out
      have ltb := lt_of_block Kb.out
      go_wp2_with fail
      refine (C3.out _ HX.out).mono ?_
      intro w3 hE
      replace hE : Ext _ w3 := hE
      clear a0 a1 a2 a3 a4 a5 lta
      clear b0 b1 b2 b3 b4 b5 ltb
      replace Ka := Lib.hid ((hE.below.block _ (lt_of_block Ka.out)).trans Ka.out)
      replace Kb := Lib.hid ((hE.below.block _ (lt_of_block Kb.out)).trans Kb.out)
      replace HX := Lib.hid (Ext.trans HX.out hE)
      clear hE
      obtain ⟨a0, a1, a2, a3, a4, a5⟩ := box5 Ka.out
      have lta := lt_of_block Ka.out
      obtain ⟨b0, b1, b2, b3, b4, b5⟩ := box5 Kb.out
      have ltb := lt_of_block Kb.out
      clear a0 a1 a2 a3 a4 a5 lta
      clear b0 b1 b2 b3 b4 b5 ltb
      go_wp2
      go_ret
      exact ⟨rfl, HX.out⟩
    · have g1 : (cb == 0) = false := by simpa using hb
      have G := Lib.hid (show (((0 : Int) == 0) && ((cb == 0) && r)) = false by rw [g1]; rfl)
      generalize (((0 : Int) == 0) && ((cb == 0) && r)) = R at *
      go_enter Tryz.func10, Tryz.ntmps10
      obtain ⟨a0, a1, a2, a3, a4, a5⟩ := box5 Ka.out
      have lta := lt_of_block Ka.out
      obtain ⟨b0, b1, b2, b3, b4, b5⟩ := box5 Kb.out
      have ltb := lt_of_block Kb.out
      go_wp2_with fail
      refine (C1.out _ HX.out).mono ?_
      intro w1 hE
      replace hE : Ext _ w1 := hE
      clear a0 a1 a2 a3 a4 a5 lta
      clear b0 b1 b2 b3 b4 b5 ltb
      replace Ka := Lib.hid ((hE.below.block _ (lt_of_block Ka.out)).trans Ka.out)
      replace Kb := Lib.hid ((hE.below.block _ (lt_of_block Kb.out)).trans Kb.out)
      replace HX := Lib.hid (Ext.trans HX.out hE)
      clear hE
      obtain ⟨a0, a1, a2, a3, a4, a5⟩ := box5 Ka.out
      have lta := lt_of_block Ka.out
      obtain ⟨b0, b1, b2, b3, b4, b5⟩ := box5 Kb.out
      have ltb := lt_of_block Kb.out
      go_wp2_with fail
      refine (C2.out _ HX.out).mono ?_
      intro w2 hE
      replace hE : Ext _ w2 := hE
      clear a0 a1 a2 a3 a4 a5 lta
      clear b0 b1 b2 b3 b4 b5 ltb
      replace Ka := Lib.hid ((hE.below.block _ (lt_of_block Ka.out)).trans Ka.out)
      replace Kb := Lib.hid ((hE.below.block _ (lt_of_block Kb.out)).trans Kb.out)
      replace HX := Lib.hid (Ext.trans HX.out hE)
      clear hE
      obtain ⟨a0, a1, a2, a3, a4, a5⟩ := box5 Ka.out
      have lta := lt_of_block Ka.out
      obtain ⟨b0, b1, b2, b3, b4, b5⟩ := box5 Kb.out
      have ltb := lt_of_block Kb.out
      clear a0 a1 a2 a3 a4 a5 lta
      clear b0 b1 b2 b3 b4 b5 ltb
      go_wp2
      go_ret
      exact ⟨by rw [G.out]; rfl, HX.out⟩
  · have g1 : (ca == 0) = false := by simpa using ha
    have G := Lib.hid (show ((ca == 0) && ((cb == 0) && r)) = false by rw [g1]; rfl)
    generalize ((ca == 0) && ((cb == 0) && r)) = R at *
    go_enter Tryz.func10, Tryz.ntmps10
    obtain ⟨a0, a1, a2, a3, a4, a5⟩ := box5 Ka.out
    have lta := lt_of_block Ka.out
    obtain ⟨b0, b1, b2, b3, b4, b5⟩ := box5 Kb.out
    have ltb := lt_of_block Kb.out
    go_wp2_with fail
    refine (C1.out _ HX.out).mono ?_
    intro w1 hE
    replace hE : Ext _ w1 := hE
    clear a0 a1 a2 a3 a4 a5 lta
    clear b0 b1 b2 b3 b4 b5 ltb
    replace Ka := Lib.hid ((hE.below.block _ (lt_of_block Ka.out)).trans Ka.out)
    replace Kb := Lib.hid ((hE.below.block _ (lt_of_block Kb.out)).trans Kb.out)
    replace HX := Lib.hid (Ext.trans HX.out hE)
    clear hE
    obtain ⟨a0, a1, a2, a3, a4, a5⟩ := box5 Ka.out
    have lta := lt_of_block Ka.out
    obtain ⟨b0, b1, b2, b3, b4, b5⟩ := box5 Kb.out
    have ltb := lt_of_block Kb.out
    clear a0 a1 a2 a3 a4 a5 lta
    clear b0 b1 b2 b3 b4 b5 ltb
    go_wp2
    go_ret
    exact ⟨by rw [G.out]; rfl, HX.out⟩

end Go.Proofs.YtgkalcboklhdgaaGreatDoor

