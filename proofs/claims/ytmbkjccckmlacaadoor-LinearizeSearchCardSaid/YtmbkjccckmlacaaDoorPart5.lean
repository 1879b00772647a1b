/- Lemmas and walks for the statements of this seat, part 5, merged from smaller texts: A range over a function whose iterator hands over, with each value, what is known of the memory that it has made for it.; linearize: the iterator of the next nodes.; A region that draws its order: the head quiet (one walk of the lexical order serves all), the tail, each of whose operations waits for all before it, walked as a list.; A drawn region in a round of a range over a function, every operation quiet: one walk of the lexical order serves all.; As Rt, inside a round of a range over a function.; linearize: the memory of the search.; linearize: the memory of the search, more.; linearize: count. Printed by mk_lncl.py.; linearize: long. Printed by mk_lncl.py.; As Rtk, inside a round of a range over a function. Printed by mk_rtki.py. -/
import Derived.RangeFuncNested
import Derived.RangeFuncBound
import Derived.RangeFuncCalls
import Derived.RangeFuncLeaves
import Derived.Shelf.Abstract
import Derived.Shelf.RegionOpen
import Derived.WalkKit
import Derived.OwnWalkIn
import Derived.TacticsInMore
import Derived.LoopNIn
import Derived.LoopIn
import Derived.OrdersIn
import Derived.TacticsIn
import Derived.Maps.OwnIn
import Derived.Sort.CutIn
import Derived.Test.YtmbkjccckmlacaaDoorPart1
import Derived.Test.YtmbkjccckmlacaaDoorPart4
import Derived.Test.YtmbkjccckmlacaaDoorPart2
import Derived.Test.YtmbkjccckmlacaaDoorPart3

namespace Go.Proofs.YtmbkjccckmlacaaDoor
open Go.RowKit
set_option linter.unusedVariables false

/-- how the body of a round may be left -/
def RPost (B : Nat) (I : World → Prop) (Ix : Code → World → Prop) (W : World) : Exit → Act → World → Prop
  | .normal, _, W' => KeepsFrom B W W' ∧ I W'
  | .ret, _, W' => KeepsFrom B W W' ∧ Ix .ret W'
  | .exit id, _, W' => KeepsFrom B W W' ∧ Ix (.exit id) W'
  | .goto t, _, W' => KeepsFrom B W W' ∧ Ix (.goto t) W'
  | .panic _, _, _ => False
  | .outgrown, _, _ => False

/-- an iterator: stage j of N either hands over some x (of which H j x is known), or passes by; Rd is what it reads -/
def IterH {α : Type} (P : Program) (n gf : Nat) (lb : Array Value) (encs : α → Array Value) (H : Nat → α → World → Prop) (Rd : World → Prop) (Skip : Nat → Prop) (N : Nat) : Prop :=
  ∀ (l : Nat) (J : Nat → World → Prop) (Jx : World → Prop) (W : World), (∀ j X Y, J j X → Ext X Y → J j Y) → (∀ j X, J j X → Rd X) → (∀ j X, J j X → j < N → Skip j → J (j + 1) X) →
    (∀ j x X, J j X → j < N → H j x X → YieldAt Fence.wide (n - 1) P l (encs x) X fun e Y => (e = .returned (.bool true) ∧ J (j + 1) Y) ∨ (e = .returned (.bool false) ∧ Jx Y)) →
    J 0 W → CallsIn Fence.wide n P gf (#[.func (.yield l) #[] #[]] ++ lb) W fun e Y => (∃ v, e = .returned v) ∧ (J N Y ∨ Jx Y)

theorem ownFrom_ext {β : Type} {B : Nat} {K : β → World → Prop} (h : OwnFrom B K) {s : β} {X Y : World} (hs : K s X) (hE : Ext X Y) : K s Y :=
  h s X Y none hs ⟨hE.os, hE.tape, hE.output, hE.size, fun k hk _ => hE.below.block k hk⟩ (fun r e => by cases e)

theorem wpIn_range_hand {α : Type} {P : Program} {n : Nat} {g : Operand} {ps : Array Tmp} {assign body : Code} {Q : Exit → Act → World → Prop} {a : Act} {w : World}
    {gf : Nat} {lb : Array Value} (hg : a.eval g = .func (.func gf) #[] lb) (eg : ∀ args w, (callFunc gf args).run P w = .ok (.enter gf args) w)
    {encs : α → Array Value} {H : Nat → α → World → Prop} {Rd : World → Prop} {Skip : Nat → Prop} {N : Nat} (hit : IterH P (n - 1) gf lb encs H Rd Skip N) (hps : ∀ x, (encs x).size = ps.size)
    (I : Nat → World → Prop) (Ix : Code → World → Prop) (hI : OwnFrom w.heap.size I) (hIx : OwnFrom w.heap.size Ix)
    (hIR : ∀ j X, I j X → Rd X) (hskip : ∀ j X, I j X → j < N → Skip j → I (j + 1) X) (h0 : I 0 w)
    (hround : ∀ (l j : Nat) (x : α) (W : World), w.heap.size ≤ l → I j W → j < N → H j x W →
      assign.wpIn (Fence.wide.inRound l) (n - 1 - 1) P (Exit.then (fun a' W' => KeepsFrom w.heap.size W W' ∧ ∀ W2, W2.heap.size = W'.heap.size → (∀ (β : Type) (K : β → World → Prop), OwnFrom w.heap.size K → ∀ s, K s W' → K s W2) →
        body.wpIn (Fence.wide.inRound l) (n - 1 - 1) P (RPost w.heap.size (I (j + 1)) Ix W2) a' W2) (fun _ _ _ => False))
        { tmps := (ps.zip (encs x)).foldl (fun t (p, v) => t.setIfInBounds p v) a.tmps, defers := [] } W)
    (hdone : ∀ (D : Nat) (W : World), w.heap.size ≤ D → I N W → W.heap[D]? = some (.deferred (some [])) → Q .normal { a with defers := { target := .collected D, args := #[] } :: a.defers } W)
    (hstop : ∀ (D : Nat) (c : Code) (W : World), w.heap.size ≤ D → Ix c W → W.heap[D]? = some (.deferred (some [])) → c.wpIn Fence.wide n P Q { a with defers := { target := .collected D, args := #[] } :: a.defers } W) :
    (Code.rangeFunc g ps assign body).wpIn Fence.wide n P Q a w := by
  refine wpIn_rangeFunc fun fn hfn => ?_
  -- the record of the loop, and the block for what the rounds defer
  let rec_ : LoopState → Option Code → Obj := fun st pe => .loop { state := st, pending := pe, fn := fn, tmps := a.tmps, params := ps, assign := assign, body := body, defers := w.heap.size }
  obtain ⟨D, hD⟩ : ∃ D, w.heap.size = D := ⟨_, rfl⟩
  obtain ⟨W1, hW1⟩ : ∃ W1, (w.alloc (.deferred (some []))).alloc (rec_ .ready none) = W1 := ⟨_, rfl⟩
  have hr1 : W1.heap[D + 1]? = some (rec_ .ready none) := by
    have := World.alloc_heap_new (w.alloc (.deferred (some []))) (rec_ .ready none)
    rw [World.size_alloc, hD] at this
    rw [← hW1]; exact this
  have hd1 : W1.heap[D]? = some (.deferred (some [])) := by
    rw [← hW1, ← hD]; exact (Below.heap_alloc _ _ _ (by simp)).trans (World.alloc_heap_new w _)
  have hi1 : I 0 W1 := by rw [← hW1]; exact hI.alloc _ (hI.alloc _ h0)
  refine ⟨D + 1, [{ target := .collected D, args := #[] }], W1, { target := .fn (.func gf) lb, args := #[.func (.yield (D + 1)) #[] #[]] }, W1, gf, #[.func (.yield (D + 1)) #[] #[]] ++ lb, W1, ?_, ?_, ?_, ?_, ?_, ?_⟩
  · rw [← hW1, ← hD]; exact run_enterLoop_outer _ _ _ _ _
  · simp only [resolve, hg]
    simp [go_sem]
  · intro f' hf'; trivial
  · simp [invoke, go_sem, eg]
  · intro h; cases h
  · refine (hit (D + 1) (fun j X => I j X ∧ X.heap[D + 1]? = some (rec_ .ready none) ∧ X.heap[D]? = some (.deferred (some [])))
      (fun X => ∃ c, Ix c X ∧ X.heap[D + 1]? = some (rec_ .done (some c)) ∧ X.heap[D]? = some (.deferred (some []))) W1 ?_ ?_ ?_ ?_ ⟨hi1, hr1, hd1⟩).mono ?_
    · rintro j X Y ⟨h1, h2, h3⟩ hE
      exact ⟨ownFrom_ext hI h1 hE, (hE.below.block _ (lt_of_block h2)).trans h2, (hE.below.block _ (lt_of_block h3)).trans h3⟩
    · rintro j X ⟨h1, -⟩; exact hIR j X h1
    · rintro j X ⟨h1, h2⟩ hj hs; exact ⟨hskip j X h1 hj hs, h2⟩
    · rintro j x X ⟨h1, h2, h3⟩ hj hx
      refine ⟨fn, _, assign, body, run_yield h2 (hps x), roundIn_of_wpIn hfn (wpIn_mono (hround (D + 1) j x X (by omega) h1 hj hx) ?_)⟩
      intro e a' Wa hp
      cases e with
      | normal =>
        obtain ⟨hk, hb⟩ := hp
        have h2a := hk.same _ _ (by omega) h2 rfl
        have h3a := hk.same _ _ (by omega) h3 rfl
        refine ⟨_, run_beginRound h2a rfl, ?_⟩
        obtain ⟨W2, hW2⟩ : ∃ W2, Wa.putObj (D + 1) (rec_ .busy none) = W2 := ⟨_, rfl⟩
        have h22 : W2.heap[D + 1]? = some (rec_ .busy none) := by rw [← hW2]; exact World.putObj_heap_same (lt_of_block h2a)
        have h32 : W2.heap[D]? = some (.deferred (some [])) := by rw [← hW2]; exact (World.putObj_heap_other (by omega)).trans h3a
        have hb2 := hb W2 (by rw [← hW2]; simp) (fun β K hK s hs => by rw [← hW2]; exact hK.putObj _ hs (by omega) h2a rfl)
        change body.wpIn _ _ P _ a' (Wa.putObj (D + 1) (rec_ .busy none))
        rw [hW2]
        refine wpIn_mono hb2 ?_
        have fin : ∀ (jump : Option Code) (W3 : World), KeepsFrom w.heap.size W2 W3 → (Instr.endRound (D + 1) jump).run P W3 = .ok (.bool jump.isNone) (W3.putObj (D + 1) (rec_ (if jump.isNone then .ready else .done) jump)) ∧
            W3.heap[D + 1]? = some (rec_ .busy none) ∧ (W3.putObj (D + 1) (rec_ (if jump.isNone then .ready else .done) jump)).heap[D + 1]? = some (rec_ (if jump.isNone then .ready else .done) jump) ∧
            (W3.putObj (D + 1) (rec_ (if jump.isNone then .ready else .done) jump)).heap[D]? = some (.deferred (some [])) := fun jump W3 hk3 => by
          have h23 := hk3.same _ _ (by omega) h22 rfl
          exact ⟨run_endRound (P := P) jump h23, h23, World.putObj_heap_same (lt_of_block h23), (World.putObj_heap_other (by omega)).trans (hk3.same _ _ (by omega) h32 rfl)⟩
        intro e3 a3 W3 hp3
        cases e3 with
        | normal =>
          obtain ⟨hk3, hi3⟩ := hp3
          obtain ⟨hr, hl, hl2, hd2⟩ := fin none W3 hk3
          exact ⟨_, _, hr, .inl ⟨rfl, hI.putObj _ hi3 (by omega) hl rfl, hl2, hd2⟩⟩
        | ret =>
          obtain ⟨hk3, hi3⟩ := hp3
          obtain ⟨hr, hl, hl2, hd2⟩ := fin (some .ret) W3 hk3
          exact ⟨_, _, hr, .inr ⟨rfl, _, hIx.putObj _ hi3 (by omega) hl rfl, hl2, hd2⟩⟩
        | exit id =>
          obtain ⟨hk3, hi3⟩ := hp3
          obtain ⟨hr, hl, hl2, hd2⟩ := fin (some (.exit id)) W3 hk3
          exact ⟨_, _, hr, .inr ⟨rfl, _, hIx.putObj _ hi3 (by omega) hl rfl, hl2, hd2⟩⟩
        | goto t =>
          obtain ⟨hk3, hi3⟩ := hp3
          obtain ⟨hr, hl, hl2, hd2⟩ := fin (some (.goto t)) W3 hk3
          exact ⟨_, _, hr, .inr ⟨rfl, _, hIx.putObj _ hi3 (by omega) hl rfl, hl2, hd2⟩⟩
        | panic ch => exact hp3.elim
        | outgrown => exact hp3.elim
      | ret => exact hp.elim
      | exit id => exact hp.elim
      | goto t => exact hp.elim
      | panic ch => exact hp.elim
      | outgrown => exact hp.elim
    · rintro e W2 ⟨⟨v, rfl⟩, (⟨hi, hl, hk⟩ | ⟨c, hi, hl, hk⟩)⟩
      · exact ⟨none, _, run_endLoop (P := P) hl (by simp), hdone D _ (by omega) (hI.putObj _ hi (by omega) hl rfl) ((World.putObj_heap_other (by omega)).trans hk)⟩
      · exact ⟨some c, _, run_endLoop (P := P) hl (by simp), hstop D c _ (by omega) (hIx.putObj _ hi (by omega) hl rfl) ((World.putObj_heap_other (by omega)).trans hk)⟩

end Go.Proofs.YtmbkjccckmlacaaDoor

namespace Go.Proofs.YtmbkjccckmlacaaDoor
open Go.RowKit
set_option linter.unusedVariables false
set_option linter.unusedSimpArgs false
attribute [local go_sem] Oper.semAt_some

/-- a next node, and where its state lies -/
structure XN where
  i : Nat
  m : Nd
  a : Option Addr
  c : Nat
def encX (x : XN) : Array Value := #[.int .i64 (x.i : Int), .agg #[.int .i64 (x.m.1 : Int), .slice x.a x.m.2.length x.c]]
/-- where a state lies: behind B, or it is the old one -/
def Org (B : Nat) (a0 : Option Addr) (l : List Int) (a : Option Addr) (m : List Int) : Prop := (∀ x, a = some x → B ≤ x.block) ∨ (a = a0 ∧ m = l)
def HX (k z : Int) (l : List Cl) (n : Nd) (a : Option Addr) (B : Nat) (j : Nat) (x : XN) (X : World) : Prop := x.i = j ∧ nxt k z l n j = some x.m ∧ IntsAt X x.a x.m.2 ∧ x.m.2.length ≤ x.c ∧ Org B a n.2 x.a x.m.2
/-- what the iterator reads -/
structure RdX (A : SA) (k z : Int) (l : List Cl) (n : Nd) (a : Option Addr) (c bs bn B : Nat) (X : World) : Prop where
  sr : Sr X A k z l
  bs : X.heap[bs]? = some (.cells #[.pointer (some ⟨A.p, 0, none⟩)] 60 (0, 0))
  bn : X.heap[bn]? = some (.cells #[.int .i64 (n.1 : Int), .slice a n.2.length c] tNd (0, 0))
  st : IntsAt X a n.2
  sz : B ≤ X.heap.size
set_option maxRecDepth 100000 in
set_option maxHeartbeats 4000000 in
theorem next1_iter (nn : Nat) (A : SA) (k z : Int) (l : List Cl) (n : Nd) (a : Option Addr) (c bs bn B : Nat) (hg : Gd k z l n) (hc : n.2.length ≤ c) (hl : l.length ≤ 12) (hk1 : 1 ≤ k) (hk6 : k ≤ 6) (hen : ∀ i (hi : i < l.length), -1 ≤ l[i].en) :
    IterH Tryd.prog nn 67 #[.pointer (some ⟨bs, 0, none⟩), .pointer (some ⟨bn, 0, none⟩)] encX (HX k z l n a B) (RdX A k z l n a c bs bn B) (fun j => nxt k z l n j = none) l.length := by
  intro y J Jx W hJE hJR hJS hY h0
  have HJE := Lib.hid hJE
  have HJR := Lib.hid hJR
  have HJS := Lib.hid hJS
  have HY := Lib.hid hY
  have HCall := Lib.hid (fun (X : World) (hX : RdX A k z l n a c bs bn B X) i (hi : i < l.length) => callN_any hX.sr n hg a c hX.st hc i hi hl hk1 hk6 (hen i hi))
  obtain ⟨len, hlen⟩ : ∃ n, l.length = n := ⟨_, rfl⟩
  have HL := Lib.hid hlen
  have hR := HJR.out 0 W h0
  have hb := hR.sr.box
  have s2 := cell_of hb (i := 2) rfl
  have b0 := cell_of hR.bs (i := 0) rfl
  rw [hlen] at s2 hl ⊢
  have H0 := Lib.hid h0
  clear hJE hJR hJS hY h0 hR hb hlen
  refine callsIn_of_wp Tryd.func67 rfl trivial ?_ rfl
  simp only [Tryd.ntmps67, List.size_toArray, List.length_cons, List.length_nil, Nat.reduceAdd, Nat.reduceSub, Array.replicate_succ, Array.replicate_zero, List.push_toArray, List.append_toArray, List.nil_append, List.cons_append]
  gi_wp2
  gi_loopw [12] (fun i wr => ∃ j : Nat, j ≤ len ∧ i = .int .i64 (j : Int) ∧ J j wr) (fun i _ => len - (intOf i).toNat)
  case atStart => exact ⟨0, Nat.zero_le _, rfl, H0.out⟩
  case round =>
    obtain ⟨j, hj, rfl, hJ⟩ := hrel
    have HJ := Lib.hid hJ
    have hR := HJR.out j wr hJ
    have HR := Lib.hid hR
    have b0 := cell_of hR.bs (i := 0) rfl
    have n0 := cell_of hR.bn (i := 0) rfl
    have n1 := cell_of hR.bn (i := 1) rfl
    clear hJ hR
    by_cases hlt : j < len
    · have hlt' : j < l.length := by rw [HL.out]; exact hlt
      have HC := Lib.hid (HCall.out wr HR.out j hlt')
      cases hx : nxt k z l n j with
      | none =>
        rw [hx] at HC
        have HS := Lib.hid (fun X (hX : J j X) => HJS.out j X hX (by rw [HL.out]; exact hlt) hx)
        clear hx hlt'
        gi_wp2_with (fail)
        refine ⟨trivial, fun h => (by cases h), callsIn_wide.2 (HC.out.mono ?_)⟩
        rintro e w1 ⟨rfl, hE⟩
        have HE := Lib.hid (Ext.trans hE (ext_allocN w1 (.cells #[.int .i64 0, .slice none 0 0] tNd)))
        clear hE
        gi_wp2
        refine ⟨fun f e => (by cases e), ?_⟩
        gi_wp2
        go_roundw
        case rel => exact ⟨j + 1, by omega, by go_num, HS.out _ (HJE.out j _ _ HJ.out HE.out)⟩
        case measure => simp [intOf]; omega
      | some m =>
        rw [hx] at HC
        have HXm := Lib.hid hx
        clear hx hlt'
        gi_wp2_with (fail)
        refine ⟨trivial, fun h => (by cases h), callsIn_wide.2 (HC.out.mono ?_)⟩
        rintro e w1 ⟨a1, cc1, rfl, h1, h2, hF, hE⟩
        have HOr := Lib.hid (show Org B a n.2 a1 m.2 from hF.imp (fun h x e => Nat.le_trans HR.out.sz (h x e)) id)
        have HE := Lib.hid (Ext.trans hE (ext_allocN w1 (.cells #[.int .i64 (m.1 : Int), .slice a1 m.2.length cc1] tNd)))
        have x0 := cell_of (alloc_here w1 (.cells #[.int .i64 (m.1 : Int), .slice a1 m.2.length cc1] tNd)) (i := 0) rfl
        have x1 := cell_of (alloc_here w1 (.cells #[.int .i64 (m.1 : Int), .slice a1 m.2.length cc1] tNd)) (i := 1) rfl
        have HYx := Lib.hid (HY.out j ⟨j, m, a1, cc1⟩ (w1.alloc (.cells #[.int .i64 (m.1 : Int), .slice a1 m.2.length cc1] tNd)) (HJE.out j _ _ HJ.out HE.out) (by rw [HL.out]; exact hlt) ⟨rfl, HXm.out, h1.ext (ext_allocN _ _), h2, HOr.out⟩)
        obtain ⟨fn, tmps, assign, body, hy, hRd⟩ := HYx.out
        have HRd := Lib.hid hRd
        dsimp only [encX] at hy
        clear hE h1 hRd hF
        gi_wp2
        refine ⟨fun h => (by cases h), HRd.out.mono ?_⟩
        clear hy HRd HYx
        rintro e W3 (⟨rfl, hJ3⟩ | ⟨rfl, hx3⟩)
        · gi_wp2
          go_roundw
          case rel => exact ⟨j + 1, by omega, by go_num, hJ3⟩
          case measure => simp [intOf]; omega
        · gi_wp2
          refine bodyPost_ret (v := .tuple #[]) (by simp [results, Tryd.f67]) rfl ?_
          exact ⟨⟨_, rfl⟩, .inr hx3⟩
    · have hjl : j = len := by omega
      subst j
      have HJl := Lib.hid HJ.out
      gi_wp2
      go_end0
      exact ⟨⟨_, rfl⟩, .inl (HL.out ▸ HJl.out)⟩
end Go.Proofs.YtmbkjccckmlacaaDoor

namespace Go.Proofs.YtmbkjccckmlacaaDoor
open Go.RowKit
set_option linter.unusedVariables false
set_option linter.unusedSimpArgs false

/-- the guards of the head lie in the head -/
def guardB (l : List Oper) : Bool := l.all fun o => match o.guard with | none => true | some (j, _) => decide (j < l.length)

theorem downC_set {l : List Oper} {listed : Array Bool} (h : downC l listed) (hs : listed.size = l.length) {i : Nat} (hi : i ∈ Region.ready .any l.toArray listed) : downC l (listed.setIfInBounds i true) := by
  obtain ⟨g1, o, ho, hw⟩ := mem_ready.1 hi
  have ho' : l[i]? = some o := by simpa using ho
  intro j oj hj hlj e he hb
  by_cases hji : j = i
  · subst hji
    rw [ho'] at hj
    obtain rfl := Option.some.inj hj
    exact getD_set_true (hw e (by simpa using he) hb)
  · rw [getD_set_ne false (Ne.symm hji)] at hlj
    exact getD_set_true (h j oj hj hlj e he hb)

theorem head_any {P : Program} {C : World → Prop} {Qa : Act → Prop} {Q : Exit → Act → World → Prop} {l1 l2 : List Oper} (hback : backB (l1 ++ l2) = true) (ht : tailB (l1 ++ l2) l1.length = true) (hg : guardB l1 = true)
    (hQ : ∀ a W, C W → Qa a → wpList P (l1 ++ l2).toArray Q l2 a W) :
    ∀ (fuel : Nat) (b : List Bool) (a : Act) (W : World), C W → b.length = l1.length → b.count false = fuel → downC (l1 ++ l2) (b ++ List.replicate l2.length false).toArray → wpAnyQ P .any l1.toArray C Qa fuel b.toArray a →
      wpAny P .any (l1 ++ l2).toArray Q (fuel + l2.length) (b ++ List.replicate l2.length false).toArray a W := by
  intro fuel
  induction fuel with
  | zero =>
    intro b a W hC hb hc hd h
    have hall : ∀ j, j < l1.length → b[j]? = some true := fun j hj => by
      have hj' : j < b.length := by omega
      rw [List.getElem?_eq_getElem hj']
      cases hbj : b[j] with
      | true => rfl
      | false =>
        have := List.count_pos_iff.2 (hbj ▸ List.getElem_mem hj')
        omega
    have := tail_any (P := P) (Q := Q) hback ht l2 l1.length (b ++ List.replicate l2.length false).toArray a W (by simp) (Nat.le_refl _) (by simp) (by simp [hb]) (fun j hj => ?_) (fun j hj => ?_) (hQ a W hC h.2)
    · rw [show (l1 ++ l2).length - l1.length = 0 + l2.length by simp] at this
      exact this
    · rw [Array.getD_eq_getD_getElem?]
      simp only [List.getElem?_toArray]
      rw [List.getElem?_append_left (by omega), hall j hj]; rfl
    · rw [Array.getD_eq_getD_getElem?]
      simp only [List.getElem?_toArray]
      rw [List.getElem?_append_right (by omega), List.getElem?_replicate]
      split <;> rfl
  | succ fuel ih =>
    intro b a W hC hb hc hd h
    have hsz : (b ++ List.replicate l2.length false).toArray.size = (l1 ++ l2).length := by simp [hb]
    have hgetl : ∀ j d, j < l1.length → (b ++ List.replicate l2.length false).toArray.getD j d = b.toArray.getD j d := fun j d hj => by
      rw [Array.getD_eq_getD_getElem?, Array.getD_eq_getD_getElem?]
      simp only [List.getElem?_toArray]
      rw [List.getElem?_append_left (by omega)]
    -- the least that is not listed
    obtain ⟨k, hk, hkf, hkl⟩ : ∃ k : Nat, k < l1.length ∧ b[k]? = some false ∧ ∀ j : Nat, j < k → b[j]? = some true := by
      have hex : ∃ k : Nat, b[k]? = some false := by
        have hm : false ∈ b := List.count_pos_iff.1 (by omega)
        exact List.getElem?_of_mem hm
      obtain ⟨k, h1, h2⟩ : ∃ k : Nat, b[k]? = some false ∧ ∀ j : Nat, j < k → ¬ b[j]? = some false := by
        obtain ⟨k, hk⟩ := hex
        induction k using Nat.strongRecOn with
        | _ k ihk =>
          by_cases hlt : ∃ j : Nat, j < k ∧ b[j]? = some false
          · obtain ⟨j, hj, hjf⟩ := hlt
            exact ihk j hj hjf
          · exact ⟨k, hk, fun j hj e => hlt ⟨j, hj, e⟩⟩
      have hkb : k < b.length := (List.getElem?_eq_some_iff.1 h1).1
      refine ⟨k, by omega, h1, fun j hj => ?_⟩
      have hjb : j < b.length := by omega
      have := h2 j hj
      rw [List.getElem?_eq_getElem hjb] at this ⊢
      cases hbj : b[j] with
      | true => rfl
      | false => rw [hbj] at this; exact absurd rfl this
    have hkfull : (b ++ List.replicate l2.length false).toArray.getD k false = false := by
      rw [hgetl k false hk, Array.getD_eq_getD_getElem?]; simp [hkf]
    have hkfull' : (b ++ List.replicate l2.length false).toArray.getD k true = false := by
      rw [hgetl k true hk, Array.getD_eq_getD_getElem?]; simp [hkf]
    have hkr : k ∈ Region.ready .any (l1 ++ l2).toArray (b ++ List.replicate l2.length false).toArray := by
      rw [mem_ready]
      have hkl2 : k < (l1 ++ l2).length := by simp; omega
      refine ⟨hkfull', (l1 ++ l2)[k], by simp, fun e he hbd => ?_⟩
      have hlt := backB_spec hback (List.getElem?_eq_getElem hkl2) he hbd
      rw [hgetl e.on false (by omega), Array.getD_eq_getD_getElem?]
      simp [hkl e.on hlt]
    rw [show fuel + 1 + l2.length = (fuel + l2.length) + 1 by omega]
    refine ⟨fun h0 => absurd hkr (by rw [h0]; simp), fun i hi => ?_⟩
    obtain ⟨g1, o, ho, hw⟩ := mem_ready.1 hi
    have ho' : (l1 ++ l2)[i]? = some o := by simpa using ho
    have hil : i < (l1 ++ l2).length := (List.getElem?_eq_some_iff.1 ho').1
    have hin : i < l1.length := by
      rcases Nat.lt_or_ge i l1.length with h1 | h1
      · exact h1
      · exfalso
        have ha := tailB_spec ht hil h1 (show k < i by omega)
        revert ha
        cases hL : (l1 ++ l2).length with
        | zero => omega
        | succ m =>
          intro ha
          unfold ancB at ha
          rw [ho'] at ha
          obtain ⟨e, he, hh⟩ := List.any_eq_true.1 ha
          simp only [Bool.and_eq_true, Bool.or_eq_true, decide_eq_true_eq] at hh
          have h3 := hw e (by simpa using he) hh.1
          rcases hh.2 with h5 | h5
          · rw [h5, hkfull] at h3; cases h3
          · have := hd.anc _ _ _ h3 h5
            rw [hkfull] at this; cases this
    have hol : l1[i]? = some o := by rw [List.getElem?_append_left hin] at ho'; exact ho'
    have hir : i ∈ Region.ready .any l1.toArray b.toArray := by
      rw [mem_ready]
      refine ⟨by rw [← hgetl i true hin]; exact g1, o, by simpa using hol, fun e he hbd => ?_⟩
      have hlt := backB_spec hback ho' he hbd
      rw [← hgetl e.on false (by omega)]
      exact hw e he hbd
    have hq := h.2 i hir
    have hwant : Region.wanted o (yielded (l1 ++ l2).toArray a.tmps) = Region.wanted o (yielded l1.toArray a.tmps) := by
      unfold Region.wanted
      cases hgd : o.guard with
      | none => rfl
      | some p =>
        obtain ⟨j, want⟩ := p
        have hj := List.all_eq_true.1 hg o (List.mem_of_getElem? hol)
        simp only [hgd, decide_eq_true_eq] at hj
        have : (l1 ++ l2)[j]? = l1[j]? := List.getElem?_append_left hj
        simp only [yielded, List.getElem?_toArray, this]
    have hbi : b[i]? = some false := by
      have hib : i < b.length := by omega
      rw [hgetl i true hin, Array.getD_eq_getD_getElem?] at g1
      simp only [List.getElem?_toArray, List.getElem?_eq_getElem hib, Option.getD_some] at g1
      rw [List.getElem?_eq_getElem hib, g1]
    have hcnt : (b.set i true).count false = fuel := by
      have hib : i < b.length := by omega
      have hb2 : b[i] = false := by rw [List.getElem?_eq_getElem hib] at hbi; exact Option.some.inj hbi
      rw [List.count_set hib, hb2, hc]
      simp
    have hset : ((b ++ List.replicate l2.length false).toArray.setIfInBounds i true) = (b.set i true ++ List.replicate l2.length false).toArray := by
      rw [List.setIfInBounds_toArray, List.set_append_left _ _ (by omega)]
    have hset1 : b.toArray.setIfInBounds i true = (b.set i true).toArray := by rw [List.setIfInBounds_toArray]
    have hd' := downC_set hd hsz hi
    rw [hset] at hd' ⊢
    rw [hset1] at hq
    unfold qOp at hq
    unfold wpOp
    rw [show l1.toArray[i]? = some o by simpa using hol] at hq
    rw [ho]
    dsimp only at hq ⊢
    rw [hwant]
    split
    · rename_i hwt
      rw [if_pos hwt] at hq
      exact .inl (Oper.wp_of_quiet hC (fun a' w' hw' hK => ih _ a' w' hw' (by simpa using hb) hcnt hd' hK) hq)
    · rename_i hwt
      rw [if_neg hwt] at hq
      exact ih _ _ _ hC (by simpa using hb) hcnt hd' hq

/-- the head quiet in the worlds that have all that w had; the tail a list -/
theorem wp_region_uptail {P : Program} {id : Nat} {Q : Exit → Act → World → Prop} {a : Act} {w : World} {l1 l2 : List Oper} (hm : P.follows .mixedOrders = true) (hB : Region.lexB .any l1.toArray = true)
    (hback : backB (l1 ++ l2) = true) (ht : tailB (l1 ++ l2) l1.length = true) (hg : guardB l1 = true)
    (h : wpQuiet P l1.toArray (fun W => ∃ U : Up w, W = U.W) (fun a' => ∀ w', (∃ U : Up w, w' = U.W) → wpList P (l1 ++ l2).toArray Q l2 a' w') l1 a) : (Code.region id (l1 ++ l2).toArray true).wp P Q a w := by
  refine wp_region_any hm ?_
  have hC : (fun W => ∃ U : Up w, W = U.W) { w with drawn := w.drawn + 1 } := ⟨⟨{ w with drawn := w.drawn + 1 }, ⟨rfl, rfl, rfl, Nat.le_refl _, fun _ _ => rfl⟩⟩, rfl⟩
  simp only [Region.lexB, Bool.and_eq_true] at hB
  have hq := wpAnyQ_lex (P := P) (C := fun W => ∃ U : Up w, W = U.W) (md := .any) hB.1 l1 0 (Array.replicate l1.toArray.size false) a (by simp) (by simpa using hB.2) h
  have := head_any (P := P) (Q := Q) (C := fun W => ∃ U : Up w, W = U.W) (Qa := fun a' => ∀ w', (∃ U : Up w, w' = U.W) → wpList P (l1 ++ l2).toArray Q l2 a' w') hback ht hg (fun a' W hW hK => hK W hW) l1.length (List.replicate l1.length false) a { w with drawn := w.drawn + 1 } hC (by simp) (by simp) (fun j oj hj hl => ?_) (by simpa using hq)
  · have e1 : Array.replicate (l1 ++ l2).toArray.size false = (List.replicate l1.length false ++ List.replicate l2.length false).toArray := by
      simp [List.replicate_append_replicate]
    rw [e1]
    simpa using this
  · exfalso
    rw [Array.getD_eq_getD_getElem?] at hl
    simp only [List.replicate_append_replicate, List.getElem?_toArray, List.getElem?_replicate] at hl
    split at hl <;> cases hl
end Go.Proofs.YtmbkjccckmlacaaDoor

namespace Go.Proofs.YtmbkjccckmlacaaDoor
open Go.RowKit
set_option linter.unusedVariables false
set_option linter.unusedSimpArgs false

def noDeferB (l : List Oper) : Bool := l.all fun o => match o.op with | .defer _ => false | _ => true
theorem noDeferB_spec {l : List Oper} (h : noDeferB l = true) {i : Nat} {o : Oper} (ho : l[i]? = some o) : ∀ c, o.op ≠ .defer c := by
  intro c e
  have := List.all_eq_true.1 h o (List.mem_of_getElem? ho)
  rw [e] at this
  cases this
theorem wpIn_of_quietR {P : Program} {C : World → Prop} {l n : Nat} {o : Oper} {a : Act} {K : Act → Prop} {K' : Act → World → Prop} {Q' : Exit → Act → World → Prop} {w : World} (hnd : ∀ c, o.op ≠ .defer c) (hw : C w)
    (h : ∀ a w', C w' → K a → K' a w') (hh : o.quiet P a C K) : o.wpIn (Fence.wide.inRound l) n P a w K' Q' := by
  obtain ⟨v, h1, h2⟩ := hh
  have h3 := h1 w hw
  unfold Oper.quietAt at h3
  unfold Oper.wpIn
  refine ⟨fun f _ => trivial, ?_⟩
  rw [Oper.semAt_eq _ _ _ hnd]
  generalize (execOp a.eval o).run P w = r at *
  cases r with
  | ok x w' =>
    cases x <;> simp only [Oper.quietUpon] at h3 <;> simp only [Oper.uponIn]
    case value u =>
      obtain ⟨e1, e2⟩ := h3
      rw [e1, e2]
      exact h _ _ hw h2
    case skip =>
      obtain ⟨e1, e2⟩ := h3
      rw [e1, ← e2]
      exact h _ _ hw h2
    case enter f args =>
      obtain ⟨e1, hc⟩ := h3
      rw [e1]
      refine ⟨fun hd => (by cases hd), CallsIn.inRound l (callsIn_wide.2 (hc.mono fun e w'' ⟨he, hw''⟩ => ?_))⟩
      subst he
      exact h _ _ hw'' h2
  | halt x w' => simp only [Oper.quietUpon] at h3
theorem wpAnyIn_of_quietR {P : Program} {C : World → Prop} {l n : Nat} {md : Region.Mode} {ops : List Oper} {Q : Act → Prop} {Q' : Exit → Act → World → Prop} (hnd : noDeferB ops = true) (hQ : ∀ a w, C w → Q a → Q' .normal a w) :
    ∀ (fuel : Nat) (listed : Array Bool) (a : Act) (w : World), C w → wpAnyQ P md ops.toArray C Q fuel listed a → wpAnyIn (Fence.wide.inRound l) n P md ops.toArray Q' fuel listed a w
  | 0, _, _, _, hw, h => ⟨h.1, hQ _ _ hw h.2⟩
  | fuel + 1, _, _, _, hw, h => ⟨fun h0 => hQ _ _ hw (h.1 h0), fun i hi => by
      have hh := h.2 i hi
      unfold qOp at hh
      unfold wpOpIn
      split
      · rename_i ho
        simp only [ho] at hh
        exact wpAnyIn_of_quietR hnd hQ fuel _ _ _ hw hh
      · rename_i o ho
        simp only [ho] at hh
        split
        · rename_i hwt
          simp only [hwt, if_true] at hh
          exact wpIn_of_quietR (noDeferB_spec hnd (by simpa using ho)) hw (fun a' w' hw' => wpAnyIn_of_quietR hnd hQ fuel _ a' w' hw') hh
        · rename_i hwt
          simp only [hwt] at hh
          exact ⟨fun f _ => trivial, wpAnyIn_of_quietR hnd hQ fuel _ _ _ hw hh⟩⟩
theorem wpIn_region_up_round {P : Program} {id l n : Nat} {Q : Exit → Act → World → Prop} {a : Act} {w : World} {ops : List Oper} (hm : P.follows .mixedOrders = true) (hB : Region.lexB .any ops.toArray = true) (hnd : noDeferB ops = true)
    (h : wpQuiet P ops.toArray (fun W => ∃ U : Up w, W = U.W) (fun a' => ∀ w', (∃ U : Up w, w' = U.W) → Q .normal a' w') ops a) : (Code.region id ops.toArray true).wpIn (Fence.wide.inRound l) n P Q a w := by
  have hC : (fun W => ∃ U : Up w, W = U.W) { w with drawn := w.drawn + 1 } := ⟨⟨{ w with drawn := w.drawn + 1 }, ⟨rfl, rfl, rfl, Nat.le_refl _, fun _ _ => rfl⟩⟩, rfl⟩
  simp only [Region.lexB, Bool.and_eq_true] at hB
  have hq := wpAnyQ_lex (P := P) (C := fun W => ∃ U : Up w, W = U.W) (md := .any) hB.1 ops 0 (Array.replicate ops.toArray.size false) a (by simp) (by simpa using hB.2) h
  refine wpIn_region_any hm (wpAnyIn_of_quietR (Q := fun a' => ∀ w', (∃ U : Up w, w' = U.W) → Q .normal a' w') hnd (fun _ w' hw' h => h w' hw') _ _ _ _ hC ?_)
  simpa using hq
end Go.Proofs.YtmbkjccckmlacaaDoor

namespace Go.Proofs.YtmbkjccckmlacaaDoor
open Go.RowKit
set_option linter.unusedVariables false

/-- one operation -/
def GoesI (lr n0 : Nat) (P : Program) (l : List Oper) (R : World → World → Prop) (Φ : Nat → (Nat → Value) → World → Prop) (i : Nat) (o : Oper) (a' : Act) (W : World) (Q : Exit → Act → World → Prop) : Prop :=
  if Region.wanted o (yielded l.toArray a'.tmps) then
    o.wpIn (Fence.wide.inRound lr) n0 P a' W (fun a2 W2 => ∃ v, a2 = a'.put o.dst v ∧ R W W2 ∧ ∀ s : Nat → Value, (o.dst.isSome = true → s i = v) → (∀ k, k ≠ i → ancB l l.length i k = true → s k = sv l a' k) → Φ i s W2) Q
  else R W W ∧ ∀ s : Nat → Value, (o.dst.isSome = true → s i = undef) → (∀ k, k ≠ i → ancB l l.length i k = true → s k = sv l a' k) → Φ i s W
/-- an operation that yields a value -/
theorem GoesI.value {lr n0 : Nat} {P : Program} {l : List Oper} {R : World → World → Prop} {Φ : Nat → (Nat → Value) → World → Prop} {i : Nat} {o : Oper} {a' : Act} {W W' : World} {Q : Exit → Act → World → Prop} (v : Value) (hg : o.guard = none) (hnd : ∀ c, o.op ≠ .defer c) (hrun : (execOp a'.eval o).run P W = .ok (.value v) W') (hR : R W W')
    (hΦ : ∀ s : Nat → Value, (o.dst.isSome = true → s i = v) → (∀ k, k ≠ i → ancB l l.length i k = true → s k = sv l a' k) → Φ i s W') : GoesI lr n0 P l R Φ i o a' W Q := by
  unfold GoesI
  rw [if_pos (by simp [Region.wanted, hg])]
  unfold Oper.wpIn
  refine ⟨fun _ _ => trivial, ?_⟩
  rw [Oper.semAt_eq _ _ _ hnd, hrun]
  exact ⟨v, rfl, hR, hΦ⟩
/-- the tail -/
theorem tail_anyI {lr n0 : Nat} {P : Program} {Q : Exit → Act → World → Prop} {l : List Oper} {n : Nat} (hback : backB l = true) (ht : tailB l n = true) :
    ∀ (rest : List Oper) (k : Nat) (listed : Array Bool) (a : Act) (W : World), rest = l.drop k → n ≤ k → k ≤ l.length → listed.size = l.length → (∀ j, j < k → listed.getD j false = true) → (∀ j, k ≤ j → listed.getD j false = false) →
      wpListIn (Fence.wide.inRound lr) n0 P l.toArray Q rest a W → wpAnyIn (Fence.wide.inRound lr) n0 P .any l.toArray Q (l.length - k) listed a W := by
  intro rest
  induction rest with
  | nil =>
    intro k listed a W hr hn hk hs h1 h2 hw
    have hkl : l.length = k := by
      have := congrArg List.length hr
      simp at this; omega
    have h0 : Region.ready .any l.toArray listed = [] := by
      apply List.eq_nil_iff_forall_not_mem.2
      intro i hi
      obtain ⟨g1, o, ho, _⟩ := mem_ready.1 hi
      have hi' : i < l.length := by have := (Array.getElem?_eq_some_iff.1 ho).1; simpa using this
      rw [getD_of_lt (by omega) true false, h1 i (by omega)] at g1
      cases g1
    rw [show l.length - k = 0 by omega]
    exact ⟨h0, hw⟩
  | cons o rest ih =>
    intro k listed a W hr hn hk hs h1 h2 hw
    have hkl : k < l.length := by
      have := congrArg List.length hr
      simp at this; omega
    have hlk : l[k]? = some o := by
      have := congrArg (·[0]?) hr
      simp at this
      simpa using this.symm
    have hrest : rest = l.drop (k + 1) := by
      have := congrArg List.tail hr
      simpa using this
    have hkr : k ∈ Region.ready .any l.toArray listed := by
      rw [mem_ready]
      refine ⟨by rw [getD_of_lt (by omega) true false]; exact h2 k (Nat.le_refl _), o, by simpa using hlk, fun e he hb => ?_⟩
      exact h1 e.on (backB_spec hback hlk he hb)
    rw [show l.length - k = (l.length - (k + 1)) + 1 by omega]
    refine ⟨fun h0 => absurd hkr (by rw [h0]; simp), fun i hi => ?_⟩
    obtain ⟨g1, oi, hoi, hwait⟩ := mem_ready.1 hi
    have hoi' : l[i]? = some oi := by simpa using hoi
    have hil : i < l.length := (List.getElem?_eq_some_iff.1 hoi').1
    have hik : i = k := by
      rw [getD_of_lt (by omega) true false] at g1
      rcases Nat.lt_trichotomy i k with h | h | h
      · rw [h1 i h] at g1; cases g1
      · exact h
      · exfalso
        have ha := tailB_spec ht hil (by omega) h
        revert ha
        cases hL : l.length with
        | zero => omega
        | succ m =>
          intro ha
          unfold ancB at ha
          rw [hoi'] at ha
          obtain ⟨e, he, hh⟩ := List.any_eq_true.1 ha
          simp only [Bool.and_eq_true, Bool.or_eq_true, decide_eq_true_eq] at hh
          have h3 := hwait e (by simpa using he) hh.1
          have h4 : e.on < k := by
            rcases Nat.lt_or_ge e.on k with h5 | h5
            · exact h5
            · rw [h2 e.on h5] at h3; cases h3
          rcases hh.2 with h5 | h5
          · omega
          · have := anc_back hback _ _ _ h5; omega
    subst hik
    have hK : ∀ a' W', wpListIn (Fence.wide.inRound lr) n0 P l.toArray Q rest a' W' → wpAnyIn (Fence.wide.inRound lr) n0 P .any l.toArray Q (l.length - (i + 1)) (listed.setIfInBounds i true) a' W' := by
      intro a' W' hw'
      refine ih (i + 1) _ a' W' hrest (by omega) hkl (by simpa using hs) (fun j hj => ?_) (fun j hj => ?_) hw'
      · by_cases e : j = i
        · subst e; simp [Array.getD_eq_getD_getElem?, hs, hkl]
        · rw [getD_set_ne false (Ne.symm e)]; exact h1 j (by omega)
      · rw [getD_set_ne false (by omega)]; exact h2 j (by omega)
    unfold wpOpIn
    rw [show l.toArray[i]? = some o by simpa using hlk]
    unfold wpListIn at hw
    dsimp only
    split
    · rename_i hwant
      rw [if_pos hwant] at hw
      exact Oper.wpIn_mono hK hw
    · rename_i hwant
      rw [if_neg hwant] at hw
      exact ⟨hw.1, hK _ _ hw.2⟩

theorem wpIn_region_tail {lr n0 : Nat} {P : Program} {id : Nat} {Q : Exit → Act → World → Prop} {a : Act} {w : World} {l1 l2 : List Oper} (hm : P.follows .mixedOrders = true)
    (R : World → World → Prop) (hRr : ∀ W, R W W) (hR0 : ∀ W : World, R W { W with drawn := W.drawn + 1 }) (hRt : ∀ {A B C}, R A B → R B C → R A C)
    (Φ : Nat → (Nat → Value) → World → Prop) (D : Nat → List Nat) (hst : ∀ j s s' W W', Φ j s W → (∀ k ∈ D j, s' k = s k) → R W W' → Φ j s' W')
    (hback : backB (l1 ++ l2) = true) (hun : uniqB (l1 ++ l2) = true) (hreads : readsB (l1 ++ l2) D = true) (N : Nat) (hN : a.tmps.size = N) (hinB : (((l1 ++ l2).filterMap (·.dst)).all fun d => decide (d < N)) = true)
    (htail : tailB (l1 ++ l2) l1.length = true)
    (hstep : ∀ (i : Nat) o, l1[i]? = some o → ∀ a' W, AtG (l1 ++ l2) R Φ a w i o a' W → GoesI lr n0 P (l1 ++ l2) R Φ i o a' W Q)
    (hend : ∀ (vs : List Value) W, vs.length = l1.length → R w W → (∀ j, j < l1.length → Φ j (fun k => vs.getD k undef) W) → wpListIn (Fence.wide.inRound lr) n0 P (l1 ++ l2).toArray Q l2 (putAll l1 vs a) W) :
    (Code.region id (l1 ++ l2).toArray true).wpIn (Fence.wide.inRound lr) n0 P Q a w := by
  have hin : ∀ d ∈ (l1 ++ l2).filterMap (·.dst), d < a.tmps.size := fun d hd => by rw [hN]; exact of_decide_eq_true (List.all_eq_true.1 hinB d hd)
  generalize hl : l1 ++ l2 = l at *
  have hl1 : ∀ j, j < l1.length → l1[j]? = l[j]? := fun j hj => by rw [← hl, List.getElem?_append_left hj]
  have hlen : l1.length ≤ l.length := by rw [← hl]; simp
  have hdrop : l2 = l.drop l1.length := by rw [← hl]; simp
  refine wpIn_region_any hm ?_
  have fin : ∀ (listed : Array Bool) (a' : Act) (W : World), listed.toList.count false = l.length - l1.length → (∀ j, l1.length ≤ j → listed.getD j false = false) → (∀ j, j < l1.length → listed.getD j false = true) → InvG l R Φ a w listed a' W →
      wpAnyIn (Fence.wide.inRound lr) n0 P .any l.toArray Q (l.length - l1.length) listed a' W := by
    intro listed a' W hc hlo hall hI
    refine tail_anyI hback htail l2 l1.length listed a' W hdrop (Nat.le_refl _) hlen hI.lsize hall hlo ?_
    have e : a' = putAll l1 (l1.map fun o => match o.dst with | none => undef | some d => a'.tmps.getD d undef) a := by
      refine act_eq (by rw [putAll_size]; exact hI.size) (by rw [putAll_defers]; exact hI.defers) ?_
      intro d hlt
      by_cases hm : d ∈ l1.filterMap (·.dst)
      · obtain ⟨o, ho, hod⟩ := List.mem_filterMap.1 hm
        obtain ⟨j, hj⟩ := List.getElem?_of_mem ho
        have hjl : j < l1.length := (List.getElem?_eq_some_iff.1 hj).1
        rw [putAll_self l1 _ a j o d (by simp) hj hod (fun i p hp e => uniqB_spec hun (by rw [← hl1 i (List.getElem?_eq_some_iff.1 hp).1]; exact hp) (by rw [← hl1 j hjl]; exact hj) e hod) (by rw [← hI.size]; exact hlt)]
        rw [List.getD_eq_getElem?_getD, List.getElem?_map, hj]
        simp [hod]
      · rw [putAll_other l1 _ a d (fun o ho e => hm (List.mem_filterMap.2 ⟨o, ho, e⟩))]
        refine hI.old d (fun j oj hj hd => ?_)
        rcases Nat.lt_or_ge j l1.length with h | h
        · exact absurd (List.mem_filterMap.2 ⟨oj, List.mem_of_getElem? (by rw [hl1 j h]; exact hj), hd⟩) hm
        · exact hlo j h
    rw [e]
    refine hend _ W (by simp) hI.rel (fun j hj => ?_)
    refine hst j _ _ W W (hI.new j (by omega) (hall j hj)) (fun k hk => ?_) (hRr W)
    have hkj : k ≤ j := by
      have h1 := List.all_eq_true.1 (List.all_eq_true.1 hreads j (List.mem_range.2 (by omega))) k hk
      simp only [Bool.or_eq_true, decide_eq_true_eq] at h1
      rcases h1 with h1 | h1
      · omega
      · exact Nat.le_of_lt (anc_back hback _ _ _ h1)
    have hkl : k < l1.length := by omega
    unfold sv
    rw [List.getD_eq_getElem?_getD, List.getElem?_map, hl1 k hkl]
    cases hk : l[k]? with
    | none => rfl
    | some o => cases hod : o.dst <;> simp [hod]
  have main : ∀ (fuel : Nat) (listed : Array Bool) (a' : Act) (W : World), listed.toList.count false = fuel → (∀ j, l1.length ≤ j → listed.getD j false = false) → InvG l R Φ a w listed a' W → wpAnyIn (Fence.wide.inRound lr) n0 P .any l.toArray Q fuel listed a' W := by
    intro fuel
    have cnt : ∀ (listed : Array Bool), listed.size = l.length → (∀ j, l1.length ≤ j → listed.getD j false = false) → (∀ j, j < l1.length → listed.getD j false = true) → listed.toList.count false = l.length - l1.length := by
      intro listed hs hlo hall
      have e : listed.toList = List.replicate l1.length true ++ List.replicate (l.length - l1.length) false := by
        apply List.ext_getElem?
        intro i
        by_cases hi : i < listed.size
        · have hg : ∀ b, listed.getD i false = b → listed.toList[i]? = some b := fun b hb => by
            rw [getD_of_lt hi false true] at hb
            simp only [Array.getD_eq_getD_getElem?, Array.getElem?_eq_getElem hi, Option.getD_some] at hb
            simp [hi, hb]
          by_cases h : i < l1.length
          · rw [hg true (hall i h), List.getElem?_append_left (by simpa using h)]
            simp [h]
          · rw [hg false (hlo i (by omega)), List.getElem?_append_right (by simp; omega), List.getElem?_replicate, if_pos (by rw [List.length_replicate]; omega)]
        · rw [List.getElem?_eq_none (by simpa using hi), List.getElem?_eq_none (by simp; omega)]
      rw [e, List.count_append, List.count_replicate, List.count_replicate]
      simp
    induction fuel with
    | zero =>
      intro listed a' W hc hlo hI
      have hall' : ∀ i, i < l.length → listed.getD i false = true := by
        intro i hi
        have hi' : i < listed.size := by rw [hI.lsize]; exact hi
        cases hb : listed.getD i false with
        | true => rfl
        | false =>
          exfalso
          have : false ∈ listed.toList := by
            simp only [Array.getD_eq_getD_getElem?, Array.getElem?_eq_getElem hi', Option.getD_some] at hb
            rw [← hb]; simp
          have := List.count_pos_iff.2 this
          omega
      have hall : ∀ i, i < l1.length → listed.getD i false = true := fun i hi => hall' i (by omega)
      have hc2 := cnt listed hI.lsize hlo hall
      have := fin listed a' W hc2 hlo hall hI
      rw [show l.length - l1.length = 0 by omega] at this
      exact this
    | succ fuel ih =>
      intro listed a' W hc hlo hI
      by_cases hall : ∀ j, j < l1.length → listed.getD j false = true
      · have hc2 := cnt listed hI.lsize hlo hall
        have := fin listed a' W hc2 hlo hall hI
        rw [show l.length - l1.length = fuel + 1 by omega] at this
        exact this
      · obtain ⟨j0, hj0⟩ := Classical.not_forall.1 hall
        obtain ⟨hj0l, hj0f⟩ := Classical.not_imp.1 hj0
        refine ⟨fun h0 => ?_, fun i hi => ?_⟩
        · exact absurd (all_listed hback hI.lsize h0 j0 (by omega)) hj0f
        · obtain ⟨hl0, o, ho, hwait⟩ := mem_ready.1 hi
          have ho' : l[i]? = some o := by simpa using ho
          have hil : i < l.length := (List.getElem?_eq_some_iff.1 ho').1
          have hil' : i < listed.size := by rw [hI.lsize]; exact hil
          have hlf : listed.getD i false = false := by
            rw [getD_of_lt hil' false true]; exact hl0
          have hanc : ∀ n k, ancB l n i k = true → listed.getD k false = true := by
            intro n k hk
            cases n with
            | zero => simp [ancB] at hk
            | succ n =>
              unfold ancB at hk
              rw [ho'] at hk
              obtain ⟨e, he, hh⟩ := List.any_eq_true.1 hk
              simp only [Bool.and_eq_true, Bool.or_eq_true, decide_eq_true_eq] at hh
              have h1 := hwait e (by simpa using he) hh.1
              rcases hh.2 with h2 | h2
              · rw [← h2]; exact h1
              · exact hI.down.anc n e.on k h1 h2
          have hi1 : i < l1.length := by
            rcases Nat.lt_or_ge i l1.length with h | h
            · exact h
            · exact absurd (hanc _ _ (tailB_spec htail hil h (by omega : j0 < i))) hj0f
          have hAt : AtG l R Φ a w i o a' W := ⟨hI.rel, hI.size, hI.defers,
            fun d hd => hI.old d (fun j oj hj hdj => by
              have hji := hd j oj hj hdj
              cases hlj : listed.getD j false with
              | false => rfl
              | true =>
                have := hI.down.anc _ j i hlj hji
                rw [hlf] at this; cases this),
            fun j hj ha => hI.new j hj (hanc _ j ha)⟩
          have hG := hstep i o (by rw [hl1 i hi1]; exact ho') a' W hAt
          have hnext : ∀ v W2, R W W2 → (∀ s : Nat → Value, (o.dst.isSome = true → s i = v) → (∀ k, k ≠ i → ancB l l.length i k = true → s k = sv l a' k) → Φ i s W2) → wpAnyIn (Fence.wide.inRound lr) n0 P .any l.toArray Q fuel (listed.setIfInBounds i true) (a'.put o.dst v) W2 := by
            intro v W2 hR hv
            have hin' : ∀ d ∈ l.filterMap (·.dst), d < a'.tmps.size := fun d hd => by rw [hI.size]; exact hin d hd
            have hset : ∀ j, j ≠ i → (listed.setIfInBounds i true).getD j false = listed.getD j false := fun j hj => getD_set_ne false (Ne.symm hj)
            refine ih _ _ _ ?_ (fun j hj => by rw [hset j (by omega)]; exact hlo j hj) ?_
            · have := count_set listed.toList i (by simp [hil']; simpa [Array.getD_eq_getD_getElem?, hil'] using hlf)
              rw [Array.toList_setIfInBounds]; omega
            · refine ⟨hRt hI.rel hR, by simpa using hI.lsize, by rw [put_size]; exact hI.size, by rw [put_defers]; exact hI.defers, ?_, ?_, ?_⟩
              · intro d hd
                have hne : o.dst ≠ some d := fun e => by
                  have := hd i o ho' e
                  simp [Array.getD_eq_getD_getElem?, hil'] at this
                rw [put_other hne]
                refine hI.old d (fun j oj hj hdj => ?_)
                by_cases hji : j = i
                · subst hji; exact hlf
                · have := hd j oj hj hdj
                  rwa [hset j hji] at this
              · intro j hj hlj
                by_cases hji : j = i
                · subst hji
                  exact hv _ (fun hd => sv_put_self ho' hin' hd) (fun k hk _ => sv_put_other hun ho' hk)
                · rw [hset j hji] at hlj
                  refine hst j _ _ _ _ (hI.new j hj hlj) (fun k hk => sv_put_other hun ho' ?_) hR
                  rintro rfl
                  have h1 := List.all_eq_true.1 (List.all_eq_true.1 hreads j (List.mem_range.2 hj)) k hk
                  simp only [Bool.or_eq_true, decide_eq_true_eq] at h1
                  rcases h1 with h1 | h1
                  · exact hji h1.symm
                  · have := hI.down.anc _ j k hlj h1
                    rw [hlf] at this; cases this
              · intro j oj hj hlj e he hb
                by_cases hji : j = i
                · subst hji
                  rw [ho'] at hj; cases hj
                  exact getD_set_true (hwait e he hb)
                · rw [hset j hji] at hlj
                  exact getD_set_true (hI.down j oj hj hlj e he hb)
          unfold wpOpIn
          rw [show l.toArray[i]? = some o by simpa using ho']
          unfold GoesI at hG
          by_cases hwant : Region.wanted o (yielded l.toArray a'.tmps) = true
          · rw [if_pos hwant] at hG
            simp only [hwant, if_true]
            exact Oper.wpIn_mono (fun a2 W2 ⟨v, e, hR, hv⟩ => by rw [e]; exact hnext v W2 hR hv) hG
          · rw [if_neg hwant] at hG
            simp only [hwant]
            exact ⟨fun _ _ => trivial, hnext undef W hG.1 hG.2⟩
  have h0 := main l.length (Array.replicate l.length false) a { w with drawn := w.drawn + 1 } (by simp) (fun j _ => getD_false _ _)
    ⟨hR0 w, by simp, rfl, rfl, fun _ _ => rfl, (fun j _ h => by rw [getD_false] at h; cases h), (fun j oj _ h => by rw [getD_false] at h; cases h)⟩
  simpa using h0

end Go.Proofs.YtmbkjccckmlacaaDoor

namespace Go.Proofs.YtmbkjccckmlacaaDoor
open Go.RowKit
set_option linter.unusedVariables false
set_option linter.unusedSimpArgs false

/-- a call inside a round -/
theorem GoesI.call {lr n0 : Nat} {P : Program} {l : List Oper} {R : World → World → Prop} {Φ : Nat → (Nat → Value) → World → Prop} {i : Nat} {o : Oper} {a' : Act} {W : World} {Q : Exit → Act → World → Prop} (f : FuncId) (args : Array Value) (hg : o.guard = none) (hnd : ∀ c, o.op ≠ .defer c) (hrun : (execOp a'.eval o).run P W = .ok (.enter f args) W)
    (hc : Calls P f args W fun e W' => ∃ v, e = .returned v ∧ R W W' ∧ ∀ s : Nat → Value, (o.dst.isSome = true → s i = v) → (∀ k, k ≠ i → ancB l l.length i k = true → s k = sv l a' k) → Φ i s W') : GoesI lr n0 P l R Φ i o a' W Q := by
  unfold GoesI
  rw [if_pos (by simp [Region.wanted, hg])]
  unfold Oper.wpIn
  refine ⟨fun _ _ => trivial, ?_⟩
  rw [Oper.semAt_eq _ _ _ hnd, hrun]
  refine ⟨fun hd => (by cases hd), CallsIn.inRound lr (callsIn_wide.2 (hc.mono fun e W' ⟨v, he, hR, hΦ⟩ => ?_))⟩
  subst he
  exact ⟨v, rfl, hR, hΦ⟩

theorem TabW.keep {w W : World} (h : TabW w) (hk : ∀ (g : Nat) c t f, w.heap[g]? = some (.cells c t f) → W.heap[g]? = some (.cells c t f)) : TabW W := by
  unfold TabW Lib.TabIs World.var? at h ⊢
  cases hg : Tryd.prog.globalNamed "internal/strconv.uint64pow10" with
  | none => rw [hg] at h; cases h
  | some g =>
    rw [hg] at h
    simp only [Option.bind_some] at h ⊢
    split at h
    · rename_i cs t f hx
      rw [hk _ _ _ _ hx]; exact h
    · cases h
/-- all old blocks but two are as they were -/
structure Mo (c1 c2 : Nat) (w W : World) : Prop where
  os : W.os = w.os
  tape : W.tape = w.tape
  output : W.output = w.output
  size : w.heap.size ≤ W.heap.size
  block : ∀ j, j < w.heap.size → j ≠ c1 → j ≠ c2 → W.heap[j]? = w.heap[j]?
theorem Mo.refl (c1 c2 : Nat) (w : World) : Mo c1 c2 w w := ⟨rfl, rfl, rfl, Nat.le_refl _, fun _ _ _ _ => rfl⟩
theorem Mo.of_ext {c1 c2 : Nat} {w W : World} (h : Ext w W) : Mo c1 c2 w W := ⟨h.os, h.tape, h.output, h.size, fun j hj _ _ => h.below.block j hj⟩
theorem Mo.trans {c1 c2 : Nat} {a b c : World} (h : Mo c1 c2 a b) (g : Mo c1 c2 b c) : Mo c1 c2 a c :=
  ⟨g.os.trans h.os, g.tape.trans h.tape, g.output.trans h.output, Nat.le_trans h.size g.size, fun j hj h1 h2 => (g.block j (Nat.lt_of_lt_of_le hj h.size) h1 h2).trans (h.block j hj h1 h2)⟩
theorem Mo.below {c1 c2 B : Nat} {w W : World} (h : Mo c1 c2 w W) (hB : B ≤ w.heap.size) (h1 : B ≤ c1) (h2 : B ≤ c2) : Below B w W :=
  ⟨h.os, h.tape, h.output, h.size, fun j hj => h.block j (by omega) (by omega) (by omega)⟩
/-- what is remembered is right -/
def MmA (k z : Int) (l : List Cl) (f : Nd → Nat) (W : World) (b : Nat) : Prop := ∃ es, MapSAt W b es ∧ ∀ p ∈ es, ∃ n, Gd k z l n ∧ p = (keyR n, Value.int .i64 ((f n : Nat) : Int))
structure Mem (A : SA) (k z : Int) (l : List Cl) (W : World) : Prop where
  sr : Sr W A k z l
  cm : MmA k z l (cnt k z l) W A.c1
  lm : MmA k z l (lon k z l) W A.c2
  ne : A.c1 ≠ A.c2
  tab : TabW W
theorem MmA.ext {k z : Int} {l : List Cl} {f : Nd → Nat} {w W : World} {b : Nat} (h : MmA k z l f w b) (hE : Ext w W) : MmA k z l f W b := by
  obtain ⟨es, h1, h2⟩ := h
  exact ⟨es, h1.ext hE, h2⟩
theorem Mem.ext {A : SA} {k z : Int} {l : List Cl} {w W : World} (h : Mem A k z l w) (hE : Ext w W) : Mem A k z l W := ⟨h.sr.ext hE, h.cm.ext hE, h.lm.ext hE, h.ne, h.tab.below hE.below⟩
theorem MmA.map {k z : Int} {l : List Cl} {f : Nd → Nat} {w : World} {b : Nat} (h : MmA k z l f w b) : ∃ es c, w.heap[b]? = some (.map es c) := by
  obtain ⟨_, ⟨es, c, h1, -⟩, -⟩ := h
  exact ⟨es, c, h1⟩
/-- the memory may have learned -/
def Mv (A : SA) (k z : Int) (l : List Cl) (w W : World) : Prop := Mo A.c1 A.c2 w W ∧ (Mem A k z l w → Mem A k z l W)
theorem Mv.refl (A : SA) (k z : Int) (l : List Cl) (w : World) : Mv A k z l w w := ⟨Mo.refl _ _ _, id⟩
theorem Mv.of_ext {A : SA} {k z : Int} {l : List Cl} {w W : World} (h : Ext w W) : Mv A k z l w W := ⟨Mo.of_ext h, fun m => m.ext h⟩
theorem Mv.trans {A : SA} {k z : Int} {l : List Cl} {a b c : World} (h : Mv A k z l a b) (g : Mv A k z l b c) : Mv A k z l a c := ⟨h.1.trans g.1, fun m => g.2 (h.2 m)⟩
/-- cells stay -/
theorem Mo.cells {A : SA} {k z : Int} {l : List Cl} {w W : World} {j : Nat} {c : Array Value} {t : TypeId} {f : Nat × Nat} (h : Mo A.c1 A.c2 w W) (hm : Mem A k z l w) (hj : w.heap[j]? = some (.cells c t f)) : W.heap[j]? = some (.cells c t f) := by
  refine (h.block j (lt_of_block hj) (fun e => ?_) (fun e => ?_)).trans hj
  · obtain ⟨es, cl, h1⟩ := hm.cm.map
    rw [← e, hj] at h1; cases h1
  · obtain ⟨es, cl, h1⟩ := hm.lm.map
    rw [← e, hj] at h1; cases h1
theorem Mo.cell {A : SA} {k z : Int} {l : List Cl} {w W : World} {a : Addr} {v : Value} (h : Mo A.c1 A.c2 w W) (hm : Mem A k z l w) (ha : w.cell? a = some v) : W.cell? a = some v := by
  have hb : ∃ c t f, w.heap[a.block]? = some (.cells c t f) := by
    unfold World.cell? at ha
    split at ha
    · rename_i hx; exact ⟨_, _, _, hx⟩
    · cases ha
  obtain ⟨c, t, f, hb⟩ := hb
  have := h.cells hm hb
  unfold World.cell? at ha ⊢
  rw [this]; rw [hb] at ha; exact ha
theorem Mo.ints {A : SA} {k z : Int} {l : List Cl} {w W : World} {a : Option Addr} {m : List Int} (h : Mo A.c1 A.c2 w W) (hm : Mem A k z l w) (ha : IntsAt w a m) : IntsAt W a m := fun i hi => by
  obtain ⟨b, off, e, hc⟩ := ha i hi
  exact ⟨b, off, e, h.cell hm hc⟩
theorem RdX.mo {A : SA} {k z : Int} {l : List Cl} {n : Nd} {a : Option Addr} {c bs bn B : Nat} {w W : World} (h : RdX A k z l n a c bs bn B w) (hv : Mo A.c1 A.c2 w W) (hm : Mem A k z l w) (hm' : Mem A k z l W) : RdX A k z l n a c bs bn B W :=
  ⟨hm'.sr, hv.cells hm h.bs, hv.cells hm h.bn, hv.ints hm h.st, Nat.le_trans h.sz hv.size⟩
/-- a look-up in what is remembered -/
theorem mm_look {k z : Int} {l : List Cl} {f : Nd → Nat} {W : World} {b : Nat} (h : MmA k z l f W b) (n : Nd) :
    (∃ q : Nat, q = f n ∧ (Instr.lookup 77 (.map (some b)) (sV (keyR n)) true).run Tryd.prog W = .ok (.tuple #[.int .i64 (q : Int), .bool true]) W) ∨
    ((Instr.lookup 77 (.map (some b)) (sV (keyR n)) true).run Tryd.prog W = .ok (.tuple #[.int .i64 0, .bool false]) W ∧ ∃ es, MapSAt W b es ∧ (∀ p ∈ es, ∃ n, Gd k z l n ∧ p = (keyR n, Value.int .i64 ((f n : Nat) : Int))) ∧ es.all (fun p => p.1 != keyR n) = true) := by
  obtain ⟨es, ⟨me, cl, hb, hh⟩, h2⟩ := h
  have hz : (zeroValue 3).run Tryd.prog W = .ok (.int .i64 0) W := by kernel_rfl
  have hl := run_lookup_str Tryd.underlying77 Tryd.underlying9 hb hh (.int .i64 0) hz (keyR n) true
  cases hf : es.find? (fun p => p.1 == keyR n) with
  | some p =>
    left
    have hp := List.find?_some hf
    obtain ⟨m, -, rfl⟩ := h2 p (List.mem_of_find?_eq_some hf)
    have e : m = n := keyR_inj (by simpa using hp)
    subst e
    refine ⟨_, rfl, ?_⟩
    rw [hl, hf]; rfl
  | none =>
    right
    refine ⟨by rw [hl, hf]; rfl, es, ⟨me, cl, hb, hh⟩, h2, ?_⟩
    rw [List.all_eq_true]
    intro p hp
    have := List.find?_eq_none.1 hf p hp
    simpa using this
/-- what is learned -/
theorem mm_put {k z : Int} {l : List Cl} {f : Nd → Nat} {W : World} {b : Nat} {es : List (List UInt8 × Value)} (h : MapSAt W b es) (h2 : ∀ p ∈ es, ∃ n, Gd k z l n ∧ p = (keyR n, Value.int .i64 ((f n : Nat) : Int))) (n : Nd) (hg : Gd k z l n) (hno : es.all (fun p => p.1 != keyR n) = true) :
    ∃ W', (Instr.mapUpdate 77 (.map (some b)) (sV (keyR n)) (.int .i64 ((f n : Nat) : Int))).run Tryd.prog W = .ok () W' ∧ MmA k z l f W' b ∧ ∃ o, Turn b o W W' := by
  obtain ⟨me, cl, hb, hh⟩ := h
  obtain ⟨es', c', W', hrun, h3, h4⟩ := run_insert_newS Tryd.underlying77 Tryd.underlying9 hb hh (keyR n) hno (.int .i64 ((f n : Nat) : Int))
  refine ⟨W', hrun, ⟨_, ⟨es', c', h4.here, h3⟩, fun p hp => ?_⟩, _, h4⟩
  rcases List.mem_append.1 hp with hp | hp
  · exact h2 p hp
  · rw [List.mem_singleton.1 hp]
    exact ⟨n, hg, rfl⟩
/-- which of the two has learned -/
theorem Mem.put1 {A : SA} {k z : Int} {l : List Cl} {w W : World} {o : Obj} (h : Mem A k z l w) (hm : MmA k z l (cnt k z l) W A.c1) (hT : Turn A.c1 o w W) : Mem A k z l W ∧ Mo A.c1 A.c2 w W := by
  have hmo : Mo A.c1 A.c2 w W := ⟨hT.os, hT.tape, hT.output, hT.size, fun j hj h1 _ => hT.other j hj h1⟩
  have hne := h.ne
  refine ⟨⟨⟨hmo.cells h h.sr.box, fun i hi => ?_, hmo.cells h h.sr.bf⟩, hm, ?_, hne, ?_⟩, hmo⟩
  · obtain ⟨b, o', e, c0, c1, c2, c3, c4, c5⟩ := h.sr.hs i hi
    exact ⟨b, o', e, hmo.cell h c0, hmo.cell h c1, hmo.cell h c2, hmo.cell h c3, hmo.cell h c4, hmo.cell h c5⟩
  · obtain ⟨es, ⟨me, cl, hb, hh⟩, h2⟩ := h.lm
    exact ⟨es, ⟨me, cl, (hT.other _ (lt_of_block hb) (Ne.symm hne)).trans hb, hh⟩, h2⟩
  · exact h.tab.keep (fun g c t f hg => hmo.cells h hg)
theorem Mem.put2 {A : SA} {k z : Int} {l : List Cl} {w W : World} {o : Obj} (h : Mem A k z l w) (hm : MmA k z l (lon k z l) W A.c2) (hT : Turn A.c2 o w W) : Mem A k z l W ∧ Mo A.c1 A.c2 w W := by
  have hmo : Mo A.c1 A.c2 w W := ⟨hT.os, hT.tape, hT.output, hT.size, fun j hj _ h2 => hT.other j hj h2⟩
  have hne := h.ne
  refine ⟨⟨⟨hmo.cells h h.sr.box, fun i hi => ?_, hmo.cells h h.sr.bf⟩, ?_, hm, hne, ?_⟩, hmo⟩
  · obtain ⟨b, o', e, c0, c1, c2, c3, c4, c5⟩ := h.sr.hs i hi
    exact ⟨b, o', e, hmo.cell h c0, hmo.cell h c1, hmo.cell h c2, hmo.cell h c3, hmo.cell h c4, hmo.cell h c5⟩
  · obtain ⟨es, ⟨me, cl, hb, hh⟩, h2⟩ := h.cm
    exact ⟨es, ⟨me, cl, (hT.other _ (lt_of_block hb) hne).trans hb, hh⟩, h2⟩
  · exact h.tab.keep (fun g c t f hg => hmo.cells h hg)
/-- next: the iterator -/
def NxP (A : SA) (k z : Int) (l : List Cl) (n : Nd) (a : Option Addr) (c : Nat) (w : World) (e : Ending) (w' : World) : Prop :=
  ∃ bs bn, e = .returned (.func (.func 67) #[] #[.pointer (some ⟨bs, 0, none⟩), .pointer (some ⟨bn, 0, none⟩)]) ∧ RdX A k z l n a c bs bn w.heap.size w' ∧ Ext w w'
theorem next_any {A : SA} {k z : Int} {l : List Cl} (n : Nd) (a : Option Addr) (c : Nat) (w : World) (hs : Sr w A k z l) (hA : IntsAt w a n.2) :
    Calls Tryd.prog 42 #[.pointer (some ⟨A.p, 0, none⟩), .agg #[.int .i64 (n.1 : Int), .slice a n.2.length c]] w (NxP A k z l n a c w) := by
  have HE := Lib.hid (show Ext w ((w.alloc (.cells #[.pointer (some ⟨A.p, 0, none⟩)] 60)).alloc (.cells #[.int .i64 (n.1 : Int), .slice a n.2.length c] tNd)) from (ext_allocN w _).alloc (by simp) _)
  have HS := Lib.hid (hs.ext HE.out)
  have HA := Lib.hid (hA.ext HE.out)
  clear hs hA
  go_enter Tryd.func42, Tryd.ntmps42
  go_wp2
  go_ret
  refine ⟨w.heap.size, w.heap.size + 1, rfl, ⟨HS.out, ?_, ?_, HA.out, HE.out.size⟩, HE.out⟩
  · exact (Below.heap_alloc _ _ _ (by simp)).trans (alloc_here _ _)
  · have h := alloc_here (w.alloc (.cells #[.pointer (some ⟨A.p, 0, none⟩)] 60)) (.cells #[.int .i64 (n.1 : Int), .slice a n.2.length c] tNd)
    rw [World.size_alloc] at h
    exact h
end Go.Proofs.YtmbkjccckmlacaaDoor

namespace Go.Proofs.YtmbkjccckmlacaaDoor
open Go.RowKit
set_option linter.unusedVariables false
set_option linter.unusedSimpArgs false
open Go.MapKept
section
variable {P : Program}
/-- a store of a key and a value that lie there already -/
theorem run_insert_oldS {es : Array MapEntry} {clock b : Nat} {l : List (List UInt8 × Value)} {t kt e : TypeId} {w : World} (ht : P.underlying t = some (.map kt e)) (hk : P.underlying kt = some .string) (hb : w.heap[b]? = some (.map es clock)) (h : HoldsS es l) (k : List UInt8) (v : Value) (hin : l.find? (fun p => p.1 == k) = some (k, v)) :
    ∃ es' clock' W, (Instr.mapUpdate t (.map (some b)) (sV k) v).run P w = .ok () W ∧ HoldsS es' l ∧ Turn b (.map es' clock') w W := by
  have hf := holdsS_find (P := P) h kt hk k w
  obtain ⟨i, hz⟩ : ∃ i, (l.zipIdx 0).find? (fun p => p.1.1 == k) = some ((k, v), i) := by
    have hz := zipS_find k l 0
    rw [hin] at hz
    cases hq : (l.zipIdx 0).find? (fun p => p.1.1 == k) with
    | none => rw [hq] at hz; simp at hz
    | some q =>
      rw [hq] at hz
      obtain ⟨⟨k', v'⟩, i⟩ := q
      have h1 : k' = k := by simpa using List.find?_some hq
      have h2 : v' = v := by simpa using hz
      subst h1 h2
      exact ⟨i, rfl⟩
  rw [hz] at hf
  have hli : l[i]? = some (k, v) := by
    have := List.mem_of_find?_eq_some hz
    simpa using List.mem_zipIdx_iff_getElem?.1 this
  have hei : ∃ bn, es[i]? = some { key := sV k, val := v, born := bn } := by
    have := congrArg (·[i]?) h
    simp only [List.getElem?_map, hli, Option.map_some, Array.getElem?_toList] at this
    cases hq : es[i]? with
    | none => rw [hq] at this; simp at this
    | some q =>
      rw [hq] at this
      obtain ⟨a, b, c⟩ := q
      simp at this
      obtain ⟨rfl, rfl⟩ := this
      exact ⟨_, rfl⟩
  obtain ⟨bn, hei⟩ := hei
  have hlt := lt_of_block hb
  have hkt : ∀ W : World, (Instr.keyThatStays (((es[i]?).map (·.key)).getD (sV k)) (sV k)).run P W = .ok (sV k) W := fun W => by
    rw [hei]
    unfold Instr.keyThatStays
    simp [Instr.sameBits, show (sB k == sB k) = true from by rw [sB_beq]; simp]
  refine ⟨es.modify i fun e => { e with key := sV k, val := v }, clock, { w with heap := w.heap.setIfInBounds b (.map (es.modify i fun e => { e with key := sV k, val := v }) clock) }, ?_, ?_, ?_⟩
  · simp only [Instr.mapUpdate, Sem.run_bind, run_underlying ht, Go.MapKept.run_getObj_map hb, check_str kt hk, hf, Result.andThen, Option.map_some, hkt]
    simp [run_setObj_map _ hb]
  · unfold HoldsS at h ⊢
    rw [← h, Array.toList_modify]
    apply List.ext_getElem?
    intro j
    rw [List.getElem?_map, List.getElem?_map, List.getElem?_modify]
    by_cases hij : i = j
    · subst hij
      rw [Array.getElem?_toList, hei]; simp
    · simp [hij]
  · exact ⟨rfl, rfl, rfl, by simp, by simp [hlt], fun j hj hne => by simp [Array.getElem?_setIfInBounds_ne (Ne.symm hne)]⟩
end
/-- what is learned, known or not -/
theorem mm_put2 {k z : Int} {l : List Cl} {f : Nd → Nat} {W : World} {b : Nat} (h : MmA k z l f W b) (n : Nd) (hg : Gd k z l n) :
    ∃ W' o, (Instr.mapUpdate 77 (.map (some b)) (sV (keyR n)) (.int .i64 ((f n : Nat) : Int))).run Tryd.prog W = .ok () W' ∧ MmA k z l f W' b ∧ Turn b o W W' := by
  obtain ⟨es, h1, h2⟩ := h
  cases hf : es.find? (fun p => p.1 == keyR n) with
  | none =>
    obtain ⟨W', a, b, o, c⟩ := mm_put h1 h2 n hg (by
      rw [List.all_eq_true]
      intro p hp
      have := List.find?_eq_none.1 hf p hp
      simpa using this)
    exact ⟨W', o, a, b, c⟩
  | some p =>
    have hp := List.find?_some hf
    obtain ⟨m, hm, rfl⟩ := h2 p (List.mem_of_find?_eq_some hf)
    have e : m = n := keyR_inj (by simpa using hp)
    subst e
    obtain ⟨me, cl, hb, hh⟩ := h1
    obtain ⟨es', c', W', hrun, h3, h4⟩ := run_insert_oldS Tryd.underlying77 Tryd.underlying9 hb hh (keyR m) _ hf
    exact ⟨W', _, hrun, ⟨es, ⟨es', c', h4.here, h3⟩, h2⟩, h4⟩
/-- a look-up, in every later world -/
theorem mm_lookE {k z : Int} {l : List Cl} {f : Nd → Nat} {w : World} {b : Nat} (h : MmA k z l f w b) (n : Nd) :
    (∃ q : Nat, q = f n ∧ ∀ W, Ext w W → (Instr.lookup 77 (.map (some b)) (sV (keyR n)) true).run Tryd.prog W = .ok (.tuple #[.int .i64 (q : Int), .bool true]) W) ∨
    (∀ W, Ext w W → (Instr.lookup 77 (.map (some b)) (sV (keyR n)) true).run Tryd.prog W = .ok (.tuple #[.int .i64 0, .bool false]) W) := by
  obtain ⟨es, hS, h2⟩ := h
  have hl : ∀ W, Ext w W → (Instr.lookup 77 (.map (some b)) (sV (keyR n)) true).run Tryd.prog W = .ok (.tuple #[(((es.find? (fun p => p.1 == keyR n)).map (·.2))).getD (.int .i64 0), .bool ((es.find? (fun p => p.1 == keyR n)).map (·.2)).isSome]) W := fun W hE => by
    obtain ⟨me, cl, hb, hh⟩ := hS.ext hE
    have hz : (zeroValue 3).run Tryd.prog W = .ok (.int .i64 0) W := by kernel_rfl
    exact run_lookup_str Tryd.underlying77 Tryd.underlying9 hb hh (.int .i64 0) hz (keyR n) true
  cases hf : es.find? (fun p => p.1 == keyR n) with
  | some p =>
    left
    have hp := List.find?_some hf
    obtain ⟨m, -, rfl⟩ := h2 p (List.mem_of_find?_eq_some hf)
    have e : m = n := keyR_inj (by simpa using hp)
    subst e
    refine ⟨_, rfl, fun W hE => ?_⟩
    rw [hl W hE, hf]; rfl
  | none =>
    right
    intro W hE
    rw [hl W hE, hf]; rfl
/-- Mem out of an older Mem -/
theorem Mem.of {A : SA} {k z : Int} {l : List Cl} {w X : World} (h : Mem A k z l w) (hm : Mo A.c1 A.c2 w X) (h1 : MmA k z l (cnt k z l) X A.c1) (h2 : MmA k z l (lon k z l) X A.c2) : Mem A k z l X := by
  refine ⟨⟨hm.cells h h.sr.box, fun i hi => ?_, hm.cells h h.sr.bf⟩, h1, h2, h.ne, h.tab.keep (fun g c t f hg => hm.cells h hg)⟩
  obtain ⟨b, o', e, c0, c1, c2, c3, c4, c5⟩ := h.sr.hs i hi
  exact ⟨b, o', e, hm.cell h c0, hm.cell h c1, hm.cell h c2, hm.cell h c3, hm.cell h c4, hm.cell h c5⟩
theorem MmA.lt {k z : Int} {l : List Cl} {f : Nd → Nat} {W : World} {b : Nat} (h : MmA k z l f W b) : b < W.heap.size := by
  obtain ⟨es, h1, -⟩ := h
  exact h1.lt
theorem MmA.block {k z : Int} {l : List Cl} {f : Nd → Nat} {X Y : World} {b : Nat} (h : MmA k z l f X b) (hb : Y.heap[b]? = X.heap[b]?) : MmA k z l f Y b := by
  obtain ⟨es, ⟨me, c, h1, h2⟩, h3⟩ := h
  exact ⟨es, ⟨me, c, hb.trans h1, h2⟩, h3⟩
/-- the loop over the next nodes: what stays, and the box of the sum -/
structure LpI (A : SA) (k z : Int) (l : List Cl) (n : Nd) (a : Option Addr) (c : Nat) (w : World) (b2 bs bn b8 q : Nat) (X : World) : Prop where
  cm : MmA k z l (cnt k z l) X A.c1
  lm : MmA k z l (lon k z l) X A.c2
  mo : Mo A.c1 A.c2 w X
  b2 : X.heap[b2]? = some (.cells #[.pointer (some ⟨A.p, 0, none⟩)] 60 (0, 0))
  bs : X.heap[bs]? = some (.cells #[.pointer (some ⟨A.p, 0, none⟩)] 60 (0, 0))
  bn : X.heap[bn]? = some (.cells #[.int .i64 (n.1 : Int), .slice a n.2.length c] tNd (0, 0))
  b8 : X.heap[b8]? = some (.cells #[.int .i64 (q : Int)] 3 (0, 0))
section
variable {A : SA} {k z : Int} {l : List Cl} {n : Nd} {a : Option Addr} {c : Nat} {w : World} {b2 bs bn b8 : Nat}
theorem LpI.mem {q : Nat} {X : World} (h : LpI A k z l n a c w b2 bs bn b8 q X) (hm : Mem A k z l w) : Mem A k z l X := hm.of h.mo h.cm h.lm
theorem LpI.rd {q : Nat} {X : World} (h : LpI A k z l n a c w b2 bs bn b8 q X) (hm : Mem A k z l w) (hA : IntsAt w a n.2) : RdX A k z l n a c bs bn 0 X := ⟨(h.mem hm).sr, h.bs, h.bn, h.mo.ints hm hA, Nat.zero_le _⟩
theorem LpI.own (B : Nat) (hB : w.heap.size ≤ B) (h1 : A.c1 < B) (h2 : A.c2 < B) (q : Nat → Nat) : OwnFrom B (fun j X => LpI A k z l n a c w b2 bs bn b8 (q j) X) := by
  intro j X Y row h hg hr
  have hk : ∀ b, b < B → b < X.heap.size → Y.heap[b]? = X.heap[b]? := fun b hb hz => hg.block b hz (fun e => by have := (hr b e.symm).1; omega)
  have hc : ∀ {b : Nat} {cs : Array Value} {t : TypeId} {f : Nat × Nat}, X.heap[b]? = some (.cells cs t f) → Y.heap[b]? = some (.cells cs t f) := fun {_ _ _ _} hb => (hg.block _ (lt_of_block hb) (fun e => by
    obtain ⟨-, o, h3, h4⟩ := hr _ e.symm
    rw [hb] at h3; cases h3; cases h4)).trans hb
  exact ⟨h.cm.block (hk _ h1 h.cm.lt), h.lm.block (hk _ h2 h.lm.lt), ⟨hg.os.trans h.mo.os, hg.tape.trans h.mo.tape, hg.output.trans h.mo.output, Nat.le_trans h.mo.size hg.size, fun b hb e1 e2 => (hk b (by omega) (Nat.lt_of_lt_of_le hb h.mo.size)).trans (h.mo.block b hb e1 e2)⟩, hc h.b2, hc h.bs, hc h.bn, hc h.b8⟩
theorem LpI.ext {q : Nat} {X Y : World} (h : LpI A k z l n a c w b2 bs bn b8 q X) (hE : Ext X Y) : LpI A k z l n a c w b2 bs bn b8 q Y :=
  ⟨h.cm.ext hE, h.lm.ext hE, h.mo.trans (Mo.of_ext hE), (hE.below.block _ (lt_of_block h.b2)).trans h.b2, (hE.below.block _ (lt_of_block h.bs)).trans h.bs, (hE.below.block _ (lt_of_block h.bn)).trans h.bn, (hE.below.block _ (lt_of_block h.b8)).trans h.b8⟩
/-- after calls that remember -/
theorem LpI.mv {q : Nat} {X Y : World} (h : LpI A k z l n a c w b2 bs bn b8 q X) (hm : Mem A k z l w) (hv : Mv A k z l X Y) : LpI A k z l n a c w b2 bs bn b8 q Y := by
  have hx := h.mem hm
  have hy := hv.2 hx
  exact ⟨hy.cm, hy.lm, h.mo.trans hv.1, hv.1.cells hx h.b2, hv.1.cells hx h.bs, hv.1.cells hx h.bn, hv.1.cells hx h.b8⟩
/-- a store to the sum -/
theorem LpI.set {q : Nat} {X : World} (h : LpI A k z l n a c w b2 bs bn b8 q X) (hm : Mem A k z l w) (hw : w.heap.size ≤ b8) (q' : Nat) : LpI A k z l n a c w b2 bs bn b8 q' (X.setCell ⟨b8, 0, none⟩ (.int .i64 (q' : Int))) := by
  have n2 : b2 ≠ b8 := fun e => by have := h.b2; rw [e, h.b8] at this; simp at this
  have ns : bs ≠ b8 := fun e => by have := h.bs; rw [e, h.b8] at this; simp at this
  have nn : bn ≠ b8 := fun e => by have := h.bn; rw [e, h.b8] at this; simp at this
  have ho : ∀ b, b ≠ b8 → (X.setCell ⟨b8, 0, none⟩ (.int .i64 (q' : Int))).heap[b]? = X.heap[b]? := fun b hb => Below.heap_setCell _ ⟨b8, 0, none⟩ _ _ hb
  have hb : Below w.heap.size X (X.setCell ⟨b8, 0, none⟩ (.int .i64 (q' : Int))) := (Below.refl _ X).setCell (p := ⟨b8, 0, none⟩) hw _
  have l1 := hm.cm.lt
  have l2 := hm.lm.lt
  refine ⟨h.cm.block (ho _ (by omega)), h.lm.block (ho _ (by omega)), ⟨hb.os.trans h.mo.os, hb.tape.trans h.mo.tape, hb.output.trans h.mo.output, Nat.le_trans h.mo.size hb.size, fun b hb' e1 e2 => (ho b (by omega)).trans (h.mo.block b hb' e1 e2)⟩, (ho _ n2).trans h.b2, (ho _ ns).trans h.bs, (ho _ nn).trans h.bn, ?_⟩
  have := (Turn.refl h.b8).setCell (i := 0) (.int .i64 (q' : Int))
  exact this.here
theorem Mo.keeps {c1 c2 B : Nat} {X Y : World} (h : Mo c1 c2 X Y) (h1 : c1 < B) (h2 : c2 < B) : KeepsFrom B X Y :=
  ⟨h.size, fun b o hB hb _ => (h.block b (lt_of_block hb) (by omega) (by omega)).trans hb⟩
theorem min_run (ats : Array TypeId) (ty : TypeId) (x y : Int) (W : World) : (Builtin.min_ ats ty #[.int .i64 x, .int .i64 y]).run Tryd.prog W = .ok (.int .i64 (if y < x then y else x)) W := by
  simp [Builtin.min_, Builtin.min2]
theorem max_run (ats : Array TypeId) (ty : TypeId) (x y : Int) (W : World) : (Builtin.max_ ats ty #[.int .i64 x, .int .i64 y]).run Tryd.prog W = .ok (.int .i64 (if x < y then y else x)) W := by
  simp [Builtin.max_, Builtin.max2]
theorem own_cells (B : Nat) {b : Nat} {cs : Array Value} {t : TypeId} {f : Nat × Nat} : OwnFrom B (fun (_ : Unit) X => X.heap[b]? = some (.cells cs t f)) := fun _ X Y row h hg hr =>
  (hg.block b (lt_of_block h) (fun e => by
    obtain ⟨-, o, h3, h4⟩ := hr b e.symm
    rw [h] at h3; cases h3; cases h4)).trans h
theorem own_cell (B : Nat) (p : Addr) (v : Value) : OwnFrom B (fun (_ : Unit) X => X.cell? p = some v) := by
  intro _ X Y row (h : X.cell? p = some v) hg hr
  show Y.cell? p = some v
  have hb : ∃ c t f, X.heap[p.block]? = some (.cells c t f) := by
    unfold World.cell? at h
    split at h
    · rename_i hx; exact ⟨_, _, _, hx⟩
    · cases h
  obtain ⟨c, t, f, hb⟩ := hb
  have this : Y.heap[p.block]? = some (.cells c t f) := own_cells B () X Y row hb hg hr
  unfold World.cell? at h ⊢
  rw [this]; rw [hb] at h; exact h
theorem own_intsU (B : Nat) (a : Option Addr) (m : List Int) : OwnFrom B (fun (_ : Unit) X => IntsAt X a m) := fun s X Y row h hg hr i hi => by
  obtain ⟨b, off, e, hc⟩ := h i hi
  exact ⟨b, off, e, own_cell B _ _ s X Y row hc hg hr⟩
theorem keepsFrom_ext {B : Nat} {W W' : World} (h : Below W.heap.size W W') : KeepsFrom B W W' := ⟨h.size, fun i o _ hi _ => (h.block i (lt_of_block hi)).trans hi⟩
end
end Go.Proofs.YtmbkjccckmlacaaDoor

namespace Go.Proofs.YtmbkjccckmlacaaDoor
open Go.RowKit
set_option linter.unusedVariables false
set_option linter.unusedSimpArgs false
attribute [local go_sem] Oper.semAt_some

/-- what a call that remembers gives -/
def CtP (A : SA) (k z : Int) (l : List Cl) (q : Nat) (w : World) (e : Ending) (w' : World) : Prop := e = .returned (.int .i64 (q : Int)) ∧ Mem A k z l w' ∧ Mo A.c1 A.c2 w w'
theorem stR_all {k z : Int} {l : List Int} (h : stR k z l = true) : ∀ x ∈ l, inM x = true := by
  unfold stR at h
  rw [Bool.and_eq_true] at h
  exact List.all_eq_true.1 h.1
theorem enters_nxS : ∀ args w, (callFunc 67 args).run Tryd.prog w = .ok (.enter 67 args) w := enters_fn Tryd.func67 (by kernel_rfl) rfl
set_option maxRecDepth 100000 in
set_option maxHeartbeats 4000000 in
theorem count_any {A : SA} {k z : Int} {l : List Cl} (hl : l.length ≤ 12) (hk1 : 1 ≤ k) (hk6 : k ≤ 6) (hen : ∀ i (hi : i < l.length), -1 ≤ l[i].en) : ∀ (m : Nat) (n : Nd) (a : Option Addr) (c : Nat) (w : World), lft l n = m → Mem A k z l w → Gd k z l n → IntsAt w a n.2 → n.2.length ≤ c →
    Calls Tryd.prog 38 #[.pointer (some ⟨A.p, 0, none⟩), .agg #[.int .i64 (n.1 : Int), .slice a n.2.length c]] w (CtP A k z l (cnt k z l n) w) := by
  intro m
  induction m using Nat.strongRecOn with
  | _ m ih =>
  intro n a c w hm hM hg hA hc
  have IH := Lib.hid ih
  have HM := Lib.hid hM
  have HG := Lib.hid hg
  have HA := Lib.hid hA
  have HC := Lib.hid hc
  have HLT := Lib.hid hm
  have HCO := Lib.hid (fun W (hW : Ext w W) => complete_any (hM.sr.ext hW) n a c hg.lt hl)
  have HKE := Lib.hid (fun W (hW : Ext w W) => key_any n a c W (hM.tab.below hW.below) (hA.ext hW) (pow_le62 hg.lt hl) (stR_len hg.st) (stR_all hg.st))
  have HLO := Lib.hid (mm_lookE hM.cm n)
  have HNX := Lib.hid (fun W (hW : Ext w W) => next_any n a c W (hM.sr.ext hW) (hA.ext hW))
  have HP := Lib.hid (fun W (hW : Ext w W) => (cell_of ((hW.below.block _ (lt_of_block hM.sr.box)).trans hM.sr.box) (i := 5) rfl : W.cell? ⟨A.p, 5, none⟩ = some (.map (some A.c1))))
  clear ih hM hg hA hc hm
  obtain ⟨w1, hw1⟩ : ∃ W, W = (w.alloc (.cells #[.pointer (some ⟨A.p, 0, none⟩)] 60)).alloc (.cells #[.int .i64 (n.1 : Int), .slice a n.2.length c] tNd) := ⟨_, rfl⟩
  have hw1' := hw1.symm
  have HE1 := Lib.hid (show Ext w w1 by rw [hw1]; exact (ext_allocN w _).alloc (by simp) _)
  have B2 := Lib.hid (show w1.heap[w.heap.size]? = some (.cells #[.pointer (some ⟨A.p, 0, none⟩)] 60 (0, 0)) by
    rw [hw1]; exact (Below.heap_alloc _ _ _ (by simp)).trans (alloc_here _ _))
  have B3 := Lib.hid (show w1.heap[w.heap.size + 1]? = some (.cells #[.int .i64 (n.1 : Int), .slice a n.2.length c] tNd (0, 0)) by
    have h1 := alloc_here (w.alloc (.cells #[.pointer (some ⟨A.p, 0, none⟩)] 60)) (.cells #[.int .i64 (n.1 : Int), .slice a n.2.length c] tNd)
    rw [World.size_alloc] at h1
    rw [hw1]; exact h1)
  have HZ1 := Lib.hid (show w1.heap.size = w.heap.size + 2 by rw [hw1]; simp)
  have hBX := Lib.hid (fun W (hW : Ext w1 W) => show W.cell? ⟨w.heap.size, 0, none⟩ = some (.pointer (some ⟨A.p, 0, none⟩)) ∧ W.cell? ⟨w.heap.size + 1, 0, none⟩ = some (.int .i64 (n.1 : Int)) ∧ W.cell? ⟨w.heap.size + 1, 1, none⟩ = some (.slice a n.2.length c) from
    ⟨cell_of ((hW.below.block _ (lt_of_block B2.out)).trans B2.out) rfl, cell_of ((hW.below.block _ (lt_of_block B3.out)).trans B3.out) rfl, cell_of ((hW.below.block _ (lt_of_block B3.out)).trans B3.out) rfl⟩)
  obtain ⟨x2, x30, x31⟩ := hBX.out w1 (Below.refl _ _)
  clear hw1
  refine (callsIn_wide (n := 9)).1 ?_
  refine callsIn_of_wp_marks Tryd.func38 rfl trivial ?_ rfl
  simp only [Tryd.ntmps38, List.size_toArray, List.length_cons, List.length_nil, Nat.reduceAdd, Nat.reduceSub, Array.replicate_succ, Array.replicate_zero, List.push_toArray, List.append_toArray, List.nil_append, List.cons_append]
  gi_wp2_with (fail)
  try rw [hw1']
  refine ⟨trivial, callsIn_wide.2 ((HCO.out _ HE1.out).mono ?_)⟩
  intro w2 hE
  have HE12 := Lib.hid hE
  have HE2 := Lib.hid (Ext.trans HE1.out hE)
  clear hE x2 x30 x31
  obtain ⟨x2, x30, x31⟩ := hBX.out w2 HE12.out
  cases hcm : cmpl l n with
  | true =>
    have HV := Lib.hid (show cnt k z l n = 1 by rw [cnt_eq, hcm]; rfl)
    clear hcm
    gi_wp2
    exact ⟨.int .i64 1, by simp [results, Tryd.f38, go_sem], by rw [HV.out]; rfl, HM.out.ext HE2.out, Mo.of_ext HE2.out⟩
  | false =>
  have HCM := Lib.hid hcm
  clear hcm
  gi_wp2_with (fail)
  refine ⟨trivial, callsIn_wide.2 ((HKE.out _ HE2.out).mono ?_)⟩
  intro w3 hE
  have HE13 := Lib.hid (Ext.trans HE12.out hE)
  have HE3 := Lib.hid (Ext.trans HE2.out hE)
  clear hE x2 x30 x31
  obtain ⟨x2, x30, x31⟩ := hBX.out w3 HE13.out
  have xp := HP.out w3 HE3.out
  rcases HLO.out with ⟨q, hq, hlo⟩ | hlo
  · have HQ := Lib.hid hq
    have hlk := hlo w3 HE3.out
    clear hq hlo
    gi_wp2
    exact ⟨.int .i64 (q : Int), by simp [results, Tryd.f38, go_sem], by rw [HQ.out], HM.out.ext HE3.out, Mo.of_ext HE3.out⟩
  have hlk := hlo w3 HE3.out
  have hz0 : w.heap.size < w3.heap.size := by have := HZ1.out; have := HE13.out.size; omega
  have hz1 : w.heap.size + 1 < w3.heap.size := by have := HZ1.out; have := HE13.out.size; omega
  clear hlo
  gi_wp2_with (fail)
  obtain ⟨w4, hw4⟩ : ∃ W, W = w3.alloc (.cells #[.int .i64 0] 3) := ⟨_, rfl⟩
  rw [← hw4]
  have HE34 := Lib.hid (show Ext w3 w4 by rw [hw4]; exact ext_allocN _ _)
  have B8 := Lib.hid (show w4.heap[w3.heap.size]? = some (.cells #[.int .i64 0] 3 (0, 0)) by rw [hw4]; exact alloc_here _ _)
  have HE4 := Lib.hid (Ext.trans HE3.out HE34.out)
  clear hw4
  refine ⟨trivial, callsIn_wide.2 ((HNX.out _ HE4.out).mono ?_)⟩
  rintro e w5 ⟨bs, bn, rfl, hR, hE⟩
  have HR := Lib.hid hR
  have HE5 := Lib.hid (Ext.trans HE4.out hE)
  have HE15 := Lib.hid (Ext.trans HE13.out (Ext.trans HE34.out hE))
  have HB85 := Lib.hid ((hE.below.block _ (lt_of_block B8.out)).trans B8.out)
  clear hE hR xp hlk
  gi_wp2_with (fail)
  have hc1 : A.c1 < w5.heap.size := Nat.lt_of_lt_of_le HM.out.cm.lt HE5.out.size
  have hc2 : A.c2 < w5.heap.size := Nat.lt_of_lt_of_le HM.out.lm.lt HE5.out.size
  refine wpIn_range_hand (gf := 67) (lb := #[.pointer (some ⟨bs, 0, none⟩), .pointer (some ⟨bn, 0, none⟩)]) rfl enters_nxS (encs := encX) (next1_iter 8 A k z l n a c bs bn 0 HG.out HC.out hl hk1 hk6 hen) (fun _ => rfl)
    (fun j X => LpI A k z l n a c w w.heap.size bs bn w3.heap.size (cntP k z l n j) X) (fun _ _ => False)
    (LpI.own w5.heap.size HE5.out.size hc1 hc2 _) (fun s W W' row hs _ _ => hs)
    (fun j X h => h.rd HM.out HA.out) (fun j X h hj hs => by
      have e : cntP k z l n (j + 1) = cntP k z l n j := by rw [cntP_succ, hs]
      rw [e]; exact h)
    ⟨HM.out.cm.ext HE5.out, HM.out.lm.ext HE5.out, Mo.of_ext HE5.out, (HE15.out.below.block _ (lt_of_block B2.out)).trans B2.out, HR.out.bs, HR.out.bn, HB85.out⟩
    ?round ?done ?stop
  case round =>
    rintro l' j ⟨i, n1, a1, c1⟩ WR hl' hI hj ⟨rfl, hx, hA', hc', -⟩
    dsimp only at hx hA' hc'
    have HI := Lib.hid hI
    have HX1 := Lib.hid hx
    have HA1 := Lib.hid hA'
    have HEX := Lib.hid (ext_allocN WR (.cells #[.int .i64 (n1.1 : Int), .slice a1 n1.2.length c1] tNd))
    clear hI hx hA'
    dsimp only [encX]
    gi_wp2
    refine ⟨keepsFrom_ext HEX.out, fun W2 hsz hK => ?_⟩
    have hI2 := hK Nat _ (LpI.own (n := n) (a := a) (c := c) (b2 := w.heap.size) (bs := bs) (bn := bn) (b8 := w3.heap.size) w5.heap.size HE5.out.size hc1 hc2 (fun j => cntP k z l n j)) i (HI.out.ext HEX.out)
    have hN2 := hK Unit _ (own_cells w5.heap.size) () (alloc_here WR (.cells #[.int .i64 (n1.1 : Int), .slice a1 n1.2.length c1] tNd))
    have hA2 := hK Unit _ (own_intsU w5.heap.size a1 n1.2) () (HA1.out.ext HEX.out)
    have hM2 := hI2.mem HM.out
    have HI2 := Lib.hid hI2
    have HN2 := Lib.hid hN2
    have HM2 := Lib.hid hM2
    have HIC := Lib.hid (fun W' (hv : Mv A k z l W2 W') => IH.out (lft l n1) (by have := nxt_lft HX1.out; have := HLT.out; omega) n1 a1 c1 W' rfl (hv.2 hM2) (HG.out.nxt hk1 hk6 HX1.out) (hv.1.ints hM2 hA2) hc')
    have HS := Lib.hid (show cntP k z l n (i + 1) = min (cntP k z l n i + cnt k z l n1) 10001 by rw [cntP_succ, HX1.out])
    have hb1 : cntP k z l n i ≤ 10001 := cntP_le _ _ _ _ _
    have hb2 : cnt k z l n1 ≤ 10001 := cnt_le _ _ _ _
    have hRefl := fun W => Mv.refl A k z l W
    clear hI2 hN2 hA2 hM2 hK
    generalize cntP k z l n i = cp at *
    generalize cnt k z l n1 = q at *
    have hwr : IntKind.i64.wrap ((cp : Int) + (q : Int)) = (cp : Int) + (q : Int) := by rw [IntKind.wrap_i64]; omega
    have hmn : (if 10001 < (cp : Int) + (q : Int) then 10001 else (cp : Int) + (q : Int) : Int) = ((min (cp + q) 10001 : Nat) : Int) := by split <;> omega
    gi_wp2_with (fail)
    refine wpIn_region_tail (l1 := [_, _, _, _, _, _]) (l2 := [_]) (by kernel_rfl) (Mv A k z l) (fun W => Mv.refl A k z l W) (fun W => Mv.of_ext (show Below W.heap.size W { W with drawn := W.drawn + 1 } from ⟨rfl, rfl, rfl, Nat.le_refl _, fun _ _ => rfl⟩)) Mv.trans
      (fun i s W => match i with
        | 0 => s 0 = .int .i64 (cp : Int)
        | 1 => s 1 = .pointer (some ⟨A.p, 0, none⟩)
        | 2 => s 2 = .agg #[.int .i64 (n1.1 : Int), .slice a1 n1.2.length c1]
        | 3 => s 3 = .int .i64 (q : Int)
        | 4 => s 4 = .int .i64 ((cp : Int) + (q : Int))
        | 5 => s 5 = .int .i64 ((min (cp + q) 10001 : Nat) : Int)
        | _ => True)
      (fun i => [i])
      (by
        intro i s s' W W' h hs hE
        have hs := hs i (by simp)
        match i, h, hs with
        | 0, h, hs => exact hs.trans h
        | 1, h, hs => exact hs.trans h
        | 2, h, hs => exact hs.trans h
        | 3, h, hs => exact hs.trans h
        | 4, h, hs => exact hs.trans h
        | 5, h, hs => exact hs.trans h
        | i + 6, h, hs => exact trivial)
      (by kernel_rfl) (by kernel_rfl) (by kernel_rfl) 45 rfl (by kernel_rfl) (by kernel_rfl) ?_ ?_
    · intro i op ho a' W hA
      have hI3 := HI2.out.mv HM.out hA.rel
      have q8 := cell_of hI3.b8 (i := 0) rfl
      have q2 := cell_of hI3.b2 (i := 0) rfl
      have hN3 := hA.rel.1.cells HM2.out HN2.out
      have q0 := cell_of hN3 (i := 0) rfl
      have q1 := cell_of hN3 (i := 1) rfl
      match i, ho with
      | 0, ho =>
        obtain rfl := Option.some.inj ho
        have e1 : a'.eval (.tmp 8) = .pointer (some ⟨w3.heap.size, 0, none⟩) := hA.keep 8 (by kernel_rfl)
        refine GoesI.value (.int .i64 (cp : Int)) rfl (by intro c hc; cases hc) ?_ (hRefl _) (fun s h1 h2 => h1 rfl)
        simp only [execOp, e1]
        simp [go_sem, q8, q2, q0, q1, hwr]
      | 1, ho =>
        obtain rfl := Option.some.inj ho
        have e1 : a'.eval (.tmp 2) = .pointer (some ⟨w.heap.size, 0, none⟩) := hA.keep 2 (by kernel_rfl)
        refine GoesI.value (.pointer (some ⟨A.p, 0, none⟩)) rfl (by intro c hc; cases hc) ?_ (hRefl _) (fun s h1 h2 => h1 rfl)
        simp only [execOp, e1]
        simp [go_sem, q8, q2, q0, q1, hwr]
      | 2, ho =>
        obtain rfl := Option.some.inj ho
        have e1 : a'.eval (.tmp 10) = .pointer (some ⟨WR.heap.size, 0, none⟩) := hA.keep 10 (by kernel_rfl)
        refine GoesI.value (.agg #[.int .i64 (n1.1 : Int), .slice a1 n1.2.length c1]) rfl (by intro c hc; cases hc) ?_ (hRefl _) (fun s h1 h2 => h1 rfl)
        simp only [execOp, e1]
        simp [go_sem, q8, q2, q0, q1, hwr]
      | 3, ho =>
        obtain rfl := Option.some.inj ho
        have e1 : a'.eval (.tmp 33) = .pointer (some ⟨A.p, 0, none⟩) := (sv_dst (l := _) rfl).symm.trans (hA.new 1 (by decide) (by kernel_rfl))
        have e2 : a'.eval (.tmp 34) = .agg #[.int .i64 (n1.1 : Int), .slice a1 n1.2.length c1] := (sv_dst (l := _) rfl).symm.trans (hA.new 2 (by decide) (by kernel_rfl))
        refine GoesI.call 38 #[.pointer (some ⟨A.p, 0, none⟩), .agg #[.int .i64 (n1.1 : Int), .slice a1 n1.2.length c1]] rfl (by intro c hc; cases hc) ?_ ((HIC.out W hA.rel).mono fun e W' he => ?_)
        · have en := enters_fn Tryd.func38 (by kernel_rfl) rfl
          simp [Act.eval] at e1 e2
          simp [execOp, go_sem, e1, e2, en]
        · obtain ⟨rfl, h1, h2⟩ := he
          exact ⟨_, rfl, ⟨h2, fun _ => h1⟩, fun s h1 h2 => h1 rfl⟩
      | 4, ho =>
        obtain rfl := Option.some.inj ho
        have e1 : a'.eval (.tmp 32) = .int .i64 (cp : Int) := (sv_dst (l := _) rfl).symm.trans (hA.new 0 (by decide) (by kernel_rfl))
        have e2 : a'.eval (.tmp 35) = .int .i64 (q : Int) := (sv_dst (l := _) rfl).symm.trans (hA.new 3 (by decide) (by kernel_rfl))
        refine GoesI.value (.int .i64 ((cp : Int) + (q : Int))) rfl (by intro c hc; cases hc) ?_ (hRefl _) (fun s h1 h2 => h1 rfl)
        simp only [execOp, e1, e2]
        simp [go_sem, q8, q2, q0, q1, hwr]
      | 5, ho =>
        obtain rfl := Option.some.inj ho
        have e1 : a'.eval (.tmp 36) = .int .i64 ((cp : Int) + (q : Int)) := (sv_dst (l := _) rfl).symm.trans (hA.new 4 (by decide) (by kernel_rfl))
        refine GoesI.value (.int .i64 ((min (cp + q) 10001 : Nat) : Int)) rfl (by intro c hc; cases hc) ?_ (hRefl _) (fun s h1 h2 => h1 rfl)
        simp [Act.eval] at e1
        simp only [execOp]
        simp [go_sem, e1, min_run, hmn]
      | i + 6, ho => cases ho
    · intro vs w4 hvs hG hΦ
      obtain ⟨y0, y1, y2, y3, y4, y5, rfl⟩ : ∃ y0 y1 y2 y3 y4 y5, vs = y0 :: y1 :: y2 :: y3 :: y4 :: y5 :: [] := by
        match vs, hvs with
        | y0 :: y1 :: y2 :: y3 :: y4 :: y5 :: [], _ => exact ⟨_, _, _, _, _, _, rfl⟩
      have e0 : y0 = .int .i64 (cp : Int) := hΦ 0 (by decide)
      subst e0
      have e1 : y1 = .pointer (some ⟨A.p, 0, none⟩) := hΦ 1 (by decide)
      subst e1
      have e2 : y2 = .agg #[.int .i64 (n1.1 : Int), .slice a1 n1.2.length c1] := hΦ 2 (by decide)
      subst e2
      have e3 : y3 = .int .i64 (q : Int) := hΦ 3 (by decide)
      subst e3
      have e4 : y4 = .int .i64 ((cp : Int) + (q : Int)) := hΦ 4 (by decide)
      subst e4
      have e5 : y5 = .int .i64 ((min (cp + q) 10001 : Nat) : Int) := hΦ 5 (by decide)
      subst e5
      clear hΦ hvs
      simp only [putAll, Act.put, List.setIfInBounds_toArray, List.set_cons_succ, List.set_cons_zero]
      have hmv : Mv A k z l W2 w4 := hG
      have HMV := Lib.hid hmv
      have HI4 := Lib.hid (HI2.out.mv HM.out hmv)
      have q8 := cell_of HI4.out.b8 (i := 0) rfl
      have f8 := free_of (i := 0) HI4.out.b8
      clear hmv hG
      gi_wp2
      exact ⟨(HMV.out.1.keeps hc1 hc2).trans ((KeepsOthers.setCell _ _ _).from _), by rw [HS.out]; exact HI4.out.set HM.out (by omega) _⟩
  case done =>
    intro D W hD hI hK
    have HI := Lib.hid (show LpI A k z l n a c w w.heap.size bs bn w3.heap.size (cnt k z l n) W by rw [cnt_P k z l n HCM.out]; exact hI)
    have HK := Lib.hid hK
    have q8 := cell_of HI.out.b8 (i := 0) rfl
    have q2 := cell_of HI.out.b2 (i := 0) rfl
    have qp := cell_of (HI.out.mem HM.out).sr.box (i := 5) rfl
    clear hI hK
    gi_wp2_with (fail)
    refine wpIn_wide.2 ?_
    go_still_tail 6, (by kernel_rfl)
    obtain ⟨W', o, hrun, h1, hT⟩ := mm_put2 (W := W.drew) (HI.out.cm.block rfl) n HG.out
    have hoth : ∀ b, b < W.heap.size → b ≠ A.c1 → W'.heap[b]? = W.heap[b]? := fun b hb hne => hT.other b hb hne
    have hmw : Mo A.c1 A.c2 W W' := ⟨hT.os, hT.tape, hT.output, hT.size, fun b hb e1 e2 => hT.other b hb e1⟩
    have l1 := HM.out.cm.lt
    have l2 := HM.out.lm.lt
    have hne := HM.out.ne
    have q8 := cell_of ((hoth _ (lt_of_block HI.out.b8) (by omega)).trans HI.out.b8) (i := 0) rfl
    have HMO := Lib.hid (HI.out.mo.trans hmw)
    have H1 := Lib.hid (show MmA k z l (cnt k z l) W' A.c1 from h1)
    have H2 := Lib.hid (HI.out.lm.block (hoth _ HI.out.lm.lt (by omega)))
    have HK1 := Lib.hid ((hoth _ (lt_of_block HK.out) (by have := HE5.out.size; omega)).trans HK.out)
    clear hoth hmw h1 hT
    go_wp2
    gi_wp2
    refine ⟨by simp, .inl ⟨_, _, rfl, run_takeDeferred HK1.out, ?_⟩⟩
    have hg := grownBy_putObj' W' D (.deferred none)
    have hD2 := HE5.out.size
    have hmo : Mo A.c1 A.c2 w (W'.putObj D (.deferred none)) := ⟨hg.os.trans HMO.out.os, hg.tape.trans HMO.out.tape, hg.output.trans HMO.out.output, Nat.le_trans HMO.out.size hg.size, fun b hb e1 e2 => (hg.block b (Nat.lt_of_lt_of_le hb HMO.out.size) (fun e => by have := Option.some.inj e; omega)).trans (HMO.out.block b hb e1 e2)⟩
    have g1 : ∀ {f b}, MmA k z l f W' b → b < w.heap.size → MmA k z l f (W'.putObj D (.deferred none)) b := fun h hb => h.block (hg.block _ h.lt (fun e => by have := Option.some.inj e; omega))
    exact ⟨.int .i64 ((cnt k z l n : Nat) : Int), by simp [results, Tryd.f38, go_sem], rfl, HM.out.of hmo (g1 H1.out l1) (g1 H2.out l2), hmo⟩
  case stop =>
    rintro D cd W hD h hK
    exact h.elim
end Go.Proofs.YtmbkjccckmlacaaDoor

namespace Go.Proofs.YtmbkjccckmlacaaDoor
open Go.RowKit
set_option linter.unusedVariables false
set_option linter.unusedSimpArgs false
attribute [local go_sem] Oper.semAt_some

set_option maxRecDepth 100000 in
set_option maxHeartbeats 4000000 in
theorem long_any {A : SA} {k z : Int} {l : List Cl} (hl : l.length ≤ 12) (hk1 : 1 ≤ k) (hk6 : k ≤ 6) (hen : ∀ i (hi : i < l.length), -1 ≤ l[i].en) : ∀ (m : Nat) (n : Nd) (a : Option Addr) (c : Nat) (w : World), lft l n = m → Mem A k z l w → Gd k z l n → IntsAt w a n.2 → n.2.length ≤ c →
    Calls Tryd.prog 41 #[.pointer (some ⟨A.p, 0, none⟩), .agg #[.int .i64 (n.1 : Int), .slice a n.2.length c]] w (CtP A k z l (lon k z l n) w) := by
  intro m
  induction m using Nat.strongRecOn with
  | _ m ih =>
  intro n a c w hm hM hg hA hc
  have IH := Lib.hid ih
  have HM := Lib.hid hM
  have HG := Lib.hid hg
  have HA := Lib.hid hA
  have HC := Lib.hid hc
  have HLT := Lib.hid hm
  have HCO := Lib.hid (fun W (hW : Ext w W) => complete_any (hM.sr.ext hW) n a c hg.lt hl)
  have HKE := Lib.hid (fun W (hW : Ext w W) => key_any n a c W (hM.tab.below hW.below) (hA.ext hW) (pow_le62 hg.lt hl) (stR_len hg.st) (stR_all hg.st))
  have HLO := Lib.hid (mm_lookE hM.lm n)
  have HNX := Lib.hid (fun W (hW : Ext w W) => next_any n a c W (hM.sr.ext hW) (hA.ext hW))
  have HP := Lib.hid (fun W (hW : Ext w W) => (cell_of ((hW.below.block _ (lt_of_block hM.sr.box)).trans hM.sr.box) (i := 6) rfl : W.cell? ⟨A.p, 6, none⟩ = some (.map (some A.c2))))
  clear ih hM hg hA hc hm
  obtain ⟨w1, hw1⟩ : ∃ W, W = (w.alloc (.cells #[.pointer (some ⟨A.p, 0, none⟩)] 60)).alloc (.cells #[.int .i64 (n.1 : Int), .slice a n.2.length c] tNd) := ⟨_, rfl⟩
  have hw1' := hw1.symm
  have HE1 := Lib.hid (show Ext w w1 by rw [hw1]; exact (ext_allocN w _).alloc (by simp) _)
  have B2 := Lib.hid (show w1.heap[w.heap.size]? = some (.cells #[.pointer (some ⟨A.p, 0, none⟩)] 60 (0, 0)) by
    rw [hw1]; exact (Below.heap_alloc _ _ _ (by simp)).trans (alloc_here _ _))
  have B3 := Lib.hid (show w1.heap[w.heap.size + 1]? = some (.cells #[.int .i64 (n.1 : Int), .slice a n.2.length c] tNd (0, 0)) by
    have h1 := alloc_here (w.alloc (.cells #[.pointer (some ⟨A.p, 0, none⟩)] 60)) (.cells #[.int .i64 (n.1 : Int), .slice a n.2.length c] tNd)
    rw [World.size_alloc] at h1
    rw [hw1]; exact h1)
  have HZ1 := Lib.hid (show w1.heap.size = w.heap.size + 2 by rw [hw1]; simp)
  have hBX := Lib.hid (fun W (hW : Ext w1 W) => show W.cell? ⟨w.heap.size, 0, none⟩ = some (.pointer (some ⟨A.p, 0, none⟩)) ∧ W.cell? ⟨w.heap.size + 1, 0, none⟩ = some (.int .i64 (n.1 : Int)) ∧ W.cell? ⟨w.heap.size + 1, 1, none⟩ = some (.slice a n.2.length c) from
    ⟨cell_of ((hW.below.block _ (lt_of_block B2.out)).trans B2.out) rfl, cell_of ((hW.below.block _ (lt_of_block B3.out)).trans B3.out) rfl, cell_of ((hW.below.block _ (lt_of_block B3.out)).trans B3.out) rfl⟩)
  obtain ⟨x2, x30, x31⟩ := hBX.out w1 (Below.refl _ _)
  clear hw1
  refine (callsIn_wide (n := 9)).1 ?_
  refine callsIn_of_wp_marks Tryd.func41 rfl trivial ?_ rfl
  simp only [Tryd.ntmps41, List.size_toArray, List.length_cons, List.length_nil, Nat.reduceAdd, Nat.reduceSub, Array.replicate_succ, Array.replicate_zero, List.push_toArray, List.append_toArray, List.nil_append, List.cons_append]
  gi_wp2_with (fail)
  try rw [hw1']
  obtain ⟨w2, hw2⟩ : ∃ W, W = w1 := ⟨_, rfl⟩
  have HE12 := Lib.hid (show Ext w1 w2 by rw [hw2]; exact Below.refl _ _)
  have HE2 := Lib.hid (show Ext w w2 by rw [hw2]; exact HE1.out)
  rw [← hw2]
  clear x2 x30 x31 hw2
  refine ⟨trivial, callsIn_wide.2 ((HKE.out _ HE2.out).mono ?_)⟩
  intro w3 hE
  have HE13 := Lib.hid (Ext.trans HE12.out hE)
  have HE3 := Lib.hid (Ext.trans HE2.out hE)
  clear hE 
  obtain ⟨x2, x30, x31⟩ := hBX.out w3 HE13.out
  have xp := HP.out w3 HE3.out
  rcases HLO.out with ⟨q, hq, hlo⟩ | hlo
  · have HQ := Lib.hid hq
    have hlk := hlo w3 HE3.out
    clear hq hlo
    gi_wp2
    exact ⟨.int .i64 (q : Int), by simp [results, Tryd.f41, go_sem], by rw [HQ.out], HM.out.ext HE3.out, Mo.of_ext HE3.out⟩
  have hlk := hlo w3 HE3.out
  have hz0 : w.heap.size < w3.heap.size := by have := HZ1.out; have := HE13.out.size; omega
  have hz1 : w.heap.size + 1 < w3.heap.size := by have := HZ1.out; have := HE13.out.size; omega
  clear hlo
  gi_wp2_with (fail)
  obtain ⟨w4, hw4⟩ : ∃ W, W = w3.alloc (.cells #[.int .i64 0] 3) := ⟨_, rfl⟩
  rw [← hw4]
  have HE34 := Lib.hid (show Ext w3 w4 by rw [hw4]; exact ext_allocN _ _)
  have B8 := Lib.hid (show w4.heap[w3.heap.size]? = some (.cells #[.int .i64 0] 3 (0, 0)) by rw [hw4]; exact alloc_here _ _)
  have HE4 := Lib.hid (Ext.trans HE3.out HE34.out)
  clear hw4
  refine ⟨trivial, callsIn_wide.2 ((HNX.out _ HE4.out).mono ?_)⟩
  rintro e w5 ⟨bs, bn, rfl, hR, hE⟩
  have HR := Lib.hid hR
  have HE5 := Lib.hid (Ext.trans HE4.out hE)
  have HE15 := Lib.hid (Ext.trans HE13.out (Ext.trans HE34.out hE))
  have HB85 := Lib.hid ((hE.below.block _ (lt_of_block B8.out)).trans B8.out)
  clear hE hR xp hlk
  gi_wp2_with (fail)
  have hc1 : A.c1 < w5.heap.size := Nat.lt_of_lt_of_le HM.out.cm.lt HE5.out.size
  have hc2 : A.c2 < w5.heap.size := Nat.lt_of_lt_of_le HM.out.lm.lt HE5.out.size
  refine wpIn_range_hand (gf := 67) (lb := #[.pointer (some ⟨bs, 0, none⟩), .pointer (some ⟨bn, 0, none⟩)]) rfl enters_nxS (encs := encX) (next1_iter 8 A k z l n a c bs bn 0 HG.out HC.out hl hk1 hk6 hen) (fun _ => rfl)
    (fun j X => LpI A k z l n a c w w.heap.size bs bn w3.heap.size (lonP k z l n j) X) (fun _ _ => False)
    (LpI.own w5.heap.size HE5.out.size hc1 hc2 _) (fun s W W' row hs _ _ => hs)
    (fun j X h => h.rd HM.out HA.out) (fun j X h hj hs => by
      have e : lonP k z l n (j + 1) = lonP k z l n j := by rw [lonP_succ, hs]
      rw [e]; exact h)
    ⟨HM.out.cm.ext HE5.out, HM.out.lm.ext HE5.out, Mo.of_ext HE5.out, (HE15.out.below.block _ (lt_of_block B2.out)).trans B2.out, HR.out.bs, HR.out.bn, HB85.out⟩
    ?round ?done ?stop
  case round =>
    rintro l' j ⟨i, n1, a1, c1⟩ WR hl' hI hj ⟨rfl, hx, hA', hc', -⟩
    dsimp only at hx hA' hc'
    have HI := Lib.hid hI
    have HX1 := Lib.hid hx
    have HA1 := Lib.hid hA'
    have HEX := Lib.hid (ext_allocN WR (.cells #[.int .i64 (n1.1 : Int), .slice a1 n1.2.length c1] tNd))
    clear hI hx hA'
    dsimp only [encX]
    gi_wp2
    refine ⟨keepsFrom_ext HEX.out, fun W2 hsz hK => ?_⟩
    have hI2 := hK Nat _ (LpI.own (n := n) (a := a) (c := c) (b2 := w.heap.size) (bs := bs) (bn := bn) (b8 := w3.heap.size) w5.heap.size HE5.out.size hc1 hc2 (fun j => lonP k z l n j)) i (HI.out.ext HEX.out)
    have hN2 := hK Unit _ (own_cells w5.heap.size) () (alloc_here WR (.cells #[.int .i64 (n1.1 : Int), .slice a1 n1.2.length c1] tNd))
    have hA2 := hK Unit _ (own_intsU w5.heap.size a1 n1.2) () (HA1.out.ext HEX.out)
    have hM2 := hI2.mem HM.out
    have HI2 := Lib.hid hI2
    have HN2 := Lib.hid hN2
    have HM2 := Lib.hid hM2
    have HIC := Lib.hid (fun W' (hv : Mv A k z l W2 W') => IH.out (lft l n1) (by have := nxt_lft HX1.out; have := HLT.out; omega) n1 a1 c1 W' rfl (hv.2 hM2) (HG.out.nxt hk1 hk6 HX1.out) (hv.1.ints hM2 hA2) hc')
    have HS := Lib.hid (show lonP k z l n (i + 1) = max (lonP k z l n i) (1 + lon k z l n1) by rw [lonP_succ, HX1.out])
    have hb1 : lonP k z l n i ≤ 10001 := by have := lonP_le k z l n i; omega
    have hb2 : lon k z l n1 ≤ 10001 := by have := lon_le k z l n1; omega
    have hRefl := fun W => Mv.refl A k z l W
    clear hI2 hN2 hA2 hM2 hK
    generalize lonP k z l n i = cp at *
    generalize lon k z l n1 = q at *
    have hwr : IntKind.i64.wrap (1 + (q : Int)) = 1 + (q : Int) := by rw [IntKind.wrap_i64]; omega
    have hmn : (if (cp : Int) < 1 + (q : Int) then 1 + (q : Int) else (cp : Int) : Int) = ((max cp (1 + q) : Nat) : Int) := by split <;> omega
    gi_wp2_with (fail)
    refine wpIn_region_tail (l1 := [_, _, _, _, _, _]) (l2 := [_]) (by kernel_rfl) (Mv A k z l) (fun W => Mv.refl A k z l W) (fun W => Mv.of_ext (show Below W.heap.size W { W with drawn := W.drawn + 1 } from ⟨rfl, rfl, rfl, Nat.le_refl _, fun _ _ => rfl⟩)) Mv.trans
      (fun i s W => match i with
        | 0 => s 0 = .int .i64 (cp : Int)
        | 1 => s 1 = .pointer (some ⟨A.p, 0, none⟩)
        | 2 => s 2 = .agg #[.int .i64 (n1.1 : Int), .slice a1 n1.2.length c1]
        | 3 => s 3 = .int .i64 (q : Int)
        | 4 => s 4 = .int .i64 (1 + (q : Int))
        | 5 => s 5 = .int .i64 ((max cp (1 + q) : Nat) : Int)
        | _ => True)
      (fun i => [i])
      (by
        intro i s s' W W' h hs hE
        have hs := hs i (by simp)
        match i, h, hs with
        | 0, h, hs => exact hs.trans h
        | 1, h, hs => exact hs.trans h
        | 2, h, hs => exact hs.trans h
        | 3, h, hs => exact hs.trans h
        | 4, h, hs => exact hs.trans h
        | 5, h, hs => exact hs.trans h
        | i + 6, h, hs => exact trivial)
      (by kernel_rfl) (by kernel_rfl) (by kernel_rfl) 42 rfl (by kernel_rfl) (by kernel_rfl) ?_ ?_
    · intro i op ho a' W hA
      have hI3 := HI2.out.mv HM.out hA.rel
      have q8 := cell_of hI3.b8 (i := 0) rfl
      have q2 := cell_of hI3.b2 (i := 0) rfl
      have hN3 := hA.rel.1.cells HM2.out HN2.out
      have q0 := cell_of hN3 (i := 0) rfl
      have q1 := cell_of hN3 (i := 1) rfl
      match i, ho with
      | 0, ho =>
        obtain rfl := Option.some.inj ho
        have e1 : a'.eval (.tmp 8) = .pointer (some ⟨w3.heap.size, 0, none⟩) := hA.keep 8 (by kernel_rfl)
        refine GoesI.value (.int .i64 (cp : Int)) rfl (by intro c hc; cases hc) ?_ (hRefl _) (fun s h1 h2 => h1 rfl)
        simp only [execOp, e1]
        simp [go_sem, q8, q2, q0, q1, hwr]
      | 1, ho =>
        obtain rfl := Option.some.inj ho
        have e1 : a'.eval (.tmp 2) = .pointer (some ⟨w.heap.size, 0, none⟩) := hA.keep 2 (by kernel_rfl)
        refine GoesI.value (.pointer (some ⟨A.p, 0, none⟩)) rfl (by intro c hc; cases hc) ?_ (hRefl _) (fun s h1 h2 => h1 rfl)
        simp only [execOp, e1]
        simp [go_sem, q8, q2, q0, q1, hwr]
      | 2, ho =>
        obtain rfl := Option.some.inj ho
        have e1 : a'.eval (.tmp 10) = .pointer (some ⟨WR.heap.size, 0, none⟩) := hA.keep 10 (by kernel_rfl)
        refine GoesI.value (.agg #[.int .i64 (n1.1 : Int), .slice a1 n1.2.length c1]) rfl (by intro c hc; cases hc) ?_ (hRefl _) (fun s h1 h2 => h1 rfl)
        simp only [execOp, e1]
        simp [go_sem, q8, q2, q0, q1, hwr]
      | 3, ho =>
        obtain rfl := Option.some.inj ho
        have e1 : a'.eval (.tmp 30) = .pointer (some ⟨A.p, 0, none⟩) := (sv_dst (l := _) rfl).symm.trans (hA.new 1 (by decide) (by kernel_rfl))
        have e2 : a'.eval (.tmp 31) = .agg #[.int .i64 (n1.1 : Int), .slice a1 n1.2.length c1] := (sv_dst (l := _) rfl).symm.trans (hA.new 2 (by decide) (by kernel_rfl))
        refine GoesI.call 41 #[.pointer (some ⟨A.p, 0, none⟩), .agg #[.int .i64 (n1.1 : Int), .slice a1 n1.2.length c1]] rfl (by intro c hc; cases hc) ?_ ((HIC.out W hA.rel).mono fun e W' he => ?_)
        · have en := enters_fn Tryd.func41 (by kernel_rfl) rfl
          simp [Act.eval] at e1 e2
          simp [execOp, go_sem, e1, e2, en]
        · obtain ⟨rfl, h1, h2⟩ := he
          exact ⟨_, rfl, ⟨h2, fun _ => h1⟩, fun s h1 h2 => h1 rfl⟩
      | 4, ho =>
        obtain rfl := Option.some.inj ho
        have e1 : a'.eval (.tmp 32) = .int .i64 (q : Int) := (sv_dst (l := _) rfl).symm.trans (hA.new 3 (by decide) (by kernel_rfl))
        refine GoesI.value (.int .i64 (1 + (q : Int))) rfl (by intro c hc; cases hc) ?_ (hRefl _) (fun s h1 h2 => h1 rfl)
        simp only [execOp, e1]
        simp [go_sem, q8, q2, q0, q1, hwr]
      | 5, ho =>
        obtain rfl := Option.some.inj ho
        have e1 : a'.eval (.tmp 29) = .int .i64 (cp : Int) := (sv_dst (l := _) rfl).symm.trans (hA.new 0 (by decide) (by kernel_rfl))
        have e2 : a'.eval (.tmp 33) = .int .i64 (1 + (q : Int)) := (sv_dst (l := _) rfl).symm.trans (hA.new 4 (by decide) (by kernel_rfl))
        refine GoesI.value (.int .i64 ((max cp (1 + q) : Nat) : Int)) rfl (by intro c hc; cases hc) ?_ (hRefl _) (fun s h1 h2 => h1 rfl)
        simp [Act.eval] at e1 e2
        simp only [execOp]
        simp [go_sem, e1, e2, max_run, hmn]
      | i + 6, ho => cases ho
    · intro vs w4 hvs hG hΦ
      obtain ⟨y0, y1, y2, y3, y4, y5, rfl⟩ : ∃ y0 y1 y2 y3 y4 y5, vs = y0 :: y1 :: y2 :: y3 :: y4 :: y5 :: [] := by
        match vs, hvs with
        | y0 :: y1 :: y2 :: y3 :: y4 :: y5 :: [], _ => exact ⟨_, _, _, _, _, _, rfl⟩
      have e0 : y0 = .int .i64 (cp : Int) := hΦ 0 (by decide)
      subst e0
      have e1 : y1 = .pointer (some ⟨A.p, 0, none⟩) := hΦ 1 (by decide)
      subst e1
      have e2 : y2 = .agg #[.int .i64 (n1.1 : Int), .slice a1 n1.2.length c1] := hΦ 2 (by decide)
      subst e2
      have e3 : y3 = .int .i64 (q : Int) := hΦ 3 (by decide)
      subst e3
      have e4 : y4 = .int .i64 (1 + (q : Int)) := hΦ 4 (by decide)
      subst e4
      have e5 : y5 = .int .i64 ((max cp (1 + q) : Nat) : Int) := hΦ 5 (by decide)
      subst e5
      clear hΦ hvs
      simp only [putAll, Act.put, List.setIfInBounds_toArray, List.set_cons_succ, List.set_cons_zero]
      have hmv : Mv A k z l W2 w4 := hG
      have HMV := Lib.hid hmv
      have HI4 := Lib.hid (HI2.out.mv HM.out hmv)
      have q8 := cell_of HI4.out.b8 (i := 0) rfl
      have f8 := free_of (i := 0) HI4.out.b8
      clear hmv hG
      gi_wp2
      exact ⟨(HMV.out.1.keeps hc1 hc2).trans ((KeepsOthers.setCell _ _ _).from _), by rw [HS.out]; exact HI4.out.set HM.out (by omega) _⟩
  case done =>
    intro D W hD hI hK
    have HI := Lib.hid (show LpI A k z l n a c w w.heap.size bs bn w3.heap.size (lon k z l n) W by rw [lon_P]; exact hI)
    have HK := Lib.hid hK
    have q8 := cell_of HI.out.b8 (i := 0) rfl
    have q2 := cell_of HI.out.b2 (i := 0) rfl
    have qp := cell_of (HI.out.mem HM.out).sr.box (i := 6) rfl
    clear hI hK
    gi_wp2_with (fail)
    refine wpIn_wide.2 ?_
    go_still_tail 6, (by kernel_rfl)
    obtain ⟨W', o, hrun, h1, hT⟩ := mm_put2 (W := W.drew) (HI.out.lm.block rfl) n HG.out
    have hoth : ∀ b, b < W.heap.size → b ≠ A.c2 → W'.heap[b]? = W.heap[b]? := fun b hb hne => hT.other b hb hne
    have hmw : Mo A.c1 A.c2 W W' := ⟨hT.os, hT.tape, hT.output, hT.size, fun b hb e1 e2 => hT.other b hb e2⟩
    have l1 := HM.out.cm.lt
    have l2 := HM.out.lm.lt
    have hne := HM.out.ne
    have q8 := cell_of ((hoth _ (lt_of_block HI.out.b8) (by omega)).trans HI.out.b8) (i := 0) rfl
    have HMO := Lib.hid (HI.out.mo.trans hmw)
    have H1 := Lib.hid (show MmA k z l (lon k z l) W' A.c2 from h1)
    have H2 := Lib.hid (HI.out.cm.block (hoth _ HI.out.cm.lt (by omega)))
    have HK1 := Lib.hid ((hoth _ (lt_of_block HK.out) (by have := HE5.out.size; omega)).trans HK.out)
    clear hoth hmw h1 hT
    go_wp2
    gi_wp2
    refine ⟨by simp, .inl ⟨_, _, rfl, run_takeDeferred HK1.out, ?_⟩⟩
    have hg := grownBy_putObj' W' D (.deferred none)
    have hD2 := HE5.out.size
    have hmo : Mo A.c1 A.c2 w (W'.putObj D (.deferred none)) := ⟨hg.os.trans HMO.out.os, hg.tape.trans HMO.out.tape, hg.output.trans HMO.out.output, Nat.le_trans HMO.out.size hg.size, fun b hb e1 e2 => (hg.block b (Nat.lt_of_lt_of_le hb HMO.out.size) (fun e => by have := Option.some.inj e; omega)).trans (HMO.out.block b hb e1 e2)⟩
    have g1 : ∀ {f b}, MmA k z l f W' b → b < w.heap.size → MmA k z l f (W'.putObj D (.deferred none)) b := fun h hb => h.block (hg.block _ h.lt (fun e => by have := Option.some.inj e; omega))
    exact ⟨.int .i64 ((lon k z l n : Nat) : Int), by simp [results, Tryd.f41, go_sem], rfl, HM.out.of hmo (g1 H2.out l1) (g1 H1.out l2), hmo⟩
  case stop =>
    rintro D cd W hD h hK
    exact h.elim
end Go.Proofs.YtmbkjccckmlacaaDoor

namespace Go.Proofs.YtmbkjccckmlacaaDoor
open Go.RowKit
set_option linter.unusedVariables false
set_option linter.unusedSimpArgs false

/-- one operation -/
def GoesKI (lr n0 : Nat) (n : Nat) (P : Program) (l : List Oper) (R : World → World → Prop) (Φ : Nat → (Nat → Value) → World → Prop) (J : Array Bool → (Nat → Value) → World → Prop) (i : Nat) (o : Oper) (listed : Array Bool) (a' : Act) (W : World) (Q : Exit → Act → World → Prop) : Prop :=
  if Region.wanted o (yielded l.toArray a'.tmps) then
    o.wpIn (Fence.wide.inRound lr) n0 P a' W (fun a2 W2 => ∃ v, a2 = a'.put o.dst v ∧ R W W2 ∧ (∀ s : Nat → Value, (o.dst.isSome = true → s i = v) → (∀ k, k ≠ i → s k = svb l n a' k) → J (listed.setIfInBounds i true) s W2) ∧ ∀ s : Nat → Value, (o.dst.isSome = true → s i = v) → (∀ k, k ≠ i → ancB l l.length i k = true → s k = sv l a' k) → Φ i s W2) Q
  else R W W ∧ (∀ s : Nat → Value, (o.dst.isSome = true → s i = undef) → (∀ k, k ≠ i → s k = svb l n a' k) → J (listed.setIfInBounds i true) s W) ∧ ∀ s : Nat → Value, (o.dst.isSome = true → s i = undef) → (∀ k, k ≠ i → ancB l l.length i k = true → s k = sv l a' k) → Φ i s W
/-- an operation that yields a value -/
theorem GoesKI.value {lr n0 : Nat} {n : Nat} {P : Program} {l : List Oper} {R : World → World → Prop} {Φ : Nat → (Nat → Value) → World → Prop} {J : Array Bool → (Nat → Value) → World → Prop} {i : Nat} {o : Oper} {listed : Array Bool} {a' : Act} {W W' : World} {Q : Exit → Act → World → Prop} (v : Value) (hg : o.guard = none) (hnd : ∀ c, o.op ≠ .defer c) (hrun : (execOp a'.eval o).run P W = .ok (.value v) W') (hR : R W W')
    (hJ : ∀ s : Nat → Value, (o.dst.isSome = true → s i = v) → (∀ k, k ≠ i → s k = svb l n a' k) → J (listed.setIfInBounds i true) s W')
    (hΦ : ∀ s : Nat → Value, (o.dst.isSome = true → s i = v) → (∀ k, k ≠ i → ancB l l.length i k = true → s k = sv l a' k) → Φ i s W') : GoesKI lr n0 n P l R Φ J i o listed a' W Q := by
  unfold GoesKI
  rw [if_pos (by simp [Region.wanted, hg])]
  unfold Oper.wpIn
  refine ⟨fun _ _ => trivial, ?_⟩
  rw [Oper.semAt_eq _ _ _ hnd, hrun]
  exact ⟨v, rfl, hR, hJ, hΦ⟩
/-- an operation that yields nothing -/
theorem GoesKI.skip {lr n0 : Nat} {n : Nat} {P : Program} {l : List Oper} {R : World → World → Prop} {Φ : Nat → (Nat → Value) → World → Prop} {J : Array Bool → (Nat → Value) → World → Prop} {i : Nat} {o : Oper} {listed : Array Bool} {a' : Act} {W W' : World} {Q : Exit → Act → World → Prop} (hg : o.guard = none) (hnd : ∀ c, o.op ≠ .defer c) (hd : o.dst = none) (hrun : (execOp a'.eval o).run P W = .ok .skip W') (hR : R W W')
    (hJ : ∀ s : Nat → Value, (∀ k, k ≠ i → s k = svb l n a' k) → J (listed.setIfInBounds i true) s W')
    (hΦ : ∀ s : Nat → Value, (∀ k, k ≠ i → ancB l l.length i k = true → s k = sv l a' k) → Φ i s W') : GoesKI lr n0 n P l R Φ J i o listed a' W Q := by
  unfold GoesKI
  rw [if_pos (by simp [Region.wanted, hg])]
  unfold Oper.wpIn
  refine ⟨fun _ _ => trivial, ?_⟩
  rw [Oper.semAt_eq _ _ _ hnd, hrun]
  exact ⟨undef, rfl, hR, fun s _ h2 => hJ s h2, fun s _ h2 => hΦ s h2⟩

theorem wpIn_region_tailk {lr n0 : Nat} {P : Program} {id : Nat} {Q : Exit → Act → World → Prop} {a : Act} {w : World} {l1 l2 : List Oper} (hm : P.follows .mixedOrders = true)
    (R : World → World → Prop) (hRr : ∀ W, R W W) (hR0 : ∀ W : World, R W { W with drawn := W.drawn + 1 }) (hRt : ∀ {A B C}, R A B → R B C → R A C)
    (Φ : Nat → (Nat → Value) → World → Prop) (J : Array Bool → (Nat → Value) → World → Prop) (hJ0 : ∀ s, J (Array.replicate (l1 ++ l2).length false) s { w with drawn := w.drawn + 1 }) (D : Nat → List Nat) (hst : ∀ j s s' W W', Φ j s W → (∀ k ∈ D j, s' k = s k) → R W W' → Φ j s' W')
    (hback : backB (l1 ++ l2) = true) (hun : uniqB (l1 ++ l2) = true) (hreads : readsB (l1 ++ l2) D = true) (N : Nat) (hN : a.tmps.size = N) (hinB : (((l1 ++ l2).filterMap (·.dst)).all fun d => decide (d < N)) = true)
    (htail : tailB (l1 ++ l2) l1.length = true)
    (hstep : ∀ (i : Nat) o, l1[i]? = some o → ∀ listed a' W, AtK l1.length (l1 ++ l2) R Φ J a w i o listed a' W → GoesKI lr n0 l1.length P (l1 ++ l2) R Φ J i o listed a' W Q)
    (hend : ∀ (vs : List Value) (listed : Array Bool) W, vs.length = l1.length → R w W → J listed (fun k => vs.getD k undef) W → (∀ j, j < l1.length → listed.getD j false = true) → (∀ j, j < l1.length → Φ j (fun k => vs.getD k undef) W) → wpListIn (Fence.wide.inRound lr) n0 P (l1 ++ l2).toArray Q l2 (putAll l1 vs a) W) :
    (Code.region id (l1 ++ l2).toArray true).wpIn (Fence.wide.inRound lr) n0 P Q a w := by
  have hin : ∀ d ∈ (l1 ++ l2).filterMap (·.dst), d < a.tmps.size := fun d hd => by rw [hN]; exact of_decide_eq_true (List.all_eq_true.1 hinB d hd)
  generalize hl : l1 ++ l2 = l at *
  have hl1 : ∀ j, j < l1.length → l1[j]? = l[j]? := fun j hj => by rw [← hl, List.getElem?_append_left hj]
  have hlen : l1.length ≤ l.length := by rw [← hl]; simp
  have hdrop : l2 = l.drop l1.length := by rw [← hl]; simp
  refine wpIn_region_any hm ?_
  have fin : ∀ (listed : Array Bool) (a' : Act) (W : World), listed.toList.count false = l.length - l1.length → (∀ j, l1.length ≤ j → listed.getD j false = false) → (∀ j, j < l1.length → listed.getD j false = true) → InvK l1.length l R Φ J a w listed a' W →
      wpAnyIn (Fence.wide.inRound lr) n0 P .any l.toArray Q (l.length - l1.length) listed a' W := by
    intro listed a' W hc hlo hall hI
    refine tail_anyI hback htail l2 l1.length listed a' W hdrop (Nat.le_refl _) hlen hI.lsize hall hlo ?_
    have e : a' = putAll l1 (l1.map fun o => match o.dst with | none => undef | some d => a'.tmps.getD d undef) a := by
      refine act_eq (by rw [putAll_size]; exact hI.size) (by rw [putAll_defers]; exact hI.defers) ?_
      intro d hlt
      by_cases hm : d ∈ l1.filterMap (·.dst)
      · obtain ⟨o, ho, hod⟩ := List.mem_filterMap.1 hm
        obtain ⟨j, hj⟩ := List.getElem?_of_mem ho
        have hjl : j < l1.length := (List.getElem?_eq_some_iff.1 hj).1
        rw [putAll_self l1 _ a j o d (by simp) hj hod (fun i p hp e => uniqB_spec hun (by rw [← hl1 i (List.getElem?_eq_some_iff.1 hp).1]; exact hp) (by rw [← hl1 j hjl]; exact hj) e hod) (by rw [← hI.size]; exact hlt)]
        rw [List.getD_eq_getElem?_getD, List.getElem?_map, hj]
        simp [hod]
      · rw [putAll_other l1 _ a d (fun o ho e => hm (List.mem_filterMap.2 ⟨o, ho, e⟩))]
        refine hI.old d (fun j oj hj hd => ?_)
        rcases Nat.lt_or_ge j l1.length with h | h
        · exact absurd (List.mem_filterMap.2 ⟨oj, List.mem_of_getElem? (by rw [hl1 j h]; exact hj), hd⟩) hm
        · exact hlo j h
    rw [e]
    have hsame : ∀ k, k < l1.length → (l1.map fun o => match o.dst with | none => undef | some d => a'.tmps.getD d undef).getD k undef = sv l a' k := by
      intro k hkl
      unfold sv
      rw [List.getD_eq_getElem?_getD, List.getElem?_map, hl1 k hkl]
      cases hk : l[k]? with
      | none => rfl
      | some o => cases hod : o.dst <;> simp [hod]
    have hfun : svb l l1.length a' = fun k => (l1.map fun o => match o.dst with | none => undef | some d => a'.tmps.getD d undef).getD k undef := by
      funext k
      unfold svb
      split
      · next h => exact (hsame k h).symm
      · next h => rw [List.getD_eq_getElem?_getD, List.getElem?_eq_none (by simp; omega)]; rfl
    refine hend _ listed W (by simp) hI.rel (hfun ▸ hI.jnv) hall (fun j hj => ?_)
    refine hst j _ _ W W (hI.new j (by omega) (hall j hj)) (fun k hk => ?_) (hRr W)
    have hkj : k ≤ j := by
      have h1 := List.all_eq_true.1 (List.all_eq_true.1 hreads j (List.mem_range.2 (by omega))) k hk
      simp only [Bool.or_eq_true, decide_eq_true_eq] at h1
      rcases h1 with h1 | h1
      · omega
      · exact Nat.le_of_lt (anc_back hback _ _ _ h1)
    have hkl : k < l1.length := by omega
    unfold sv
    rw [List.getD_eq_getElem?_getD, List.getElem?_map, hl1 k hkl]
    cases hk : l[k]? with
    | none => rfl
    | some o => cases hod : o.dst <;> simp [hod]
  have main : ∀ (fuel : Nat) (listed : Array Bool) (a' : Act) (W : World), listed.toList.count false = fuel → (∀ j, l1.length ≤ j → listed.getD j false = false) → InvK l1.length l R Φ J a w listed a' W → wpAnyIn (Fence.wide.inRound lr) n0 P .any l.toArray Q fuel listed a' W := by
    intro fuel
    have cnt : ∀ (listed : Array Bool), listed.size = l.length → (∀ j, l1.length ≤ j → listed.getD j false = false) → (∀ j, j < l1.length → listed.getD j false = true) → listed.toList.count false = l.length - l1.length := by
      intro listed hs hlo hall
      have e : listed.toList = List.replicate l1.length true ++ List.replicate (l.length - l1.length) false := by
        apply List.ext_getElem?
        intro i
        by_cases hi : i < listed.size
        · have hg : ∀ b, listed.getD i false = b → listed.toList[i]? = some b := fun b hb => by
            rw [getD_of_lt hi false true] at hb
            simp only [Array.getD_eq_getD_getElem?, Array.getElem?_eq_getElem hi, Option.getD_some] at hb
            simp [hi, hb]
          by_cases h : i < l1.length
          · rw [hg true (hall i h), List.getElem?_append_left (by simpa using h)]
            simp [h]
          · rw [hg false (hlo i (by omega)), List.getElem?_append_right (by simp; omega), List.getElem?_replicate, if_pos (by rw [List.length_replicate]; omega)]
        · rw [List.getElem?_eq_none (by simpa using hi), List.getElem?_eq_none (by simp; omega)]
      rw [e, List.count_append, List.count_replicate, List.count_replicate]
      simp
    induction fuel with
    | zero =>
      intro listed a' W hc hlo hI
      have hall' : ∀ i, i < l.length → listed.getD i false = true := by
        intro i hi
        have hi' : i < listed.size := by rw [hI.lsize]; exact hi
        cases hb : listed.getD i false with
        | true => rfl
        | false =>
          exfalso
          have : false ∈ listed.toList := by
            simp only [Array.getD_eq_getD_getElem?, Array.getElem?_eq_getElem hi', Option.getD_some] at hb
            rw [← hb]; simp
          have := List.count_pos_iff.2 this
          omega
      have hall : ∀ i, i < l1.length → listed.getD i false = true := fun i hi => hall' i (by omega)
      have hc2 := cnt listed hI.lsize hlo hall
      have := fin listed a' W hc2 hlo hall hI
      rw [show l.length - l1.length = 0 by omega] at this
      exact this
    | succ fuel ih =>
      intro listed a' W hc hlo hI
      by_cases hall : ∀ j, j < l1.length → listed.getD j false = true
      · have hc2 := cnt listed hI.lsize hlo hall
        have := fin listed a' W hc2 hlo hall hI
        rw [show l.length - l1.length = fuel + 1 by omega] at this
        exact this
      · obtain ⟨j0, hj0⟩ := Classical.not_forall.1 hall
        obtain ⟨hj0l, hj0f⟩ := Classical.not_imp.1 hj0
        refine ⟨fun h0 => ?_, fun i hi => ?_⟩
        · exact absurd (all_listed hback hI.lsize h0 j0 (by omega)) hj0f
        · obtain ⟨hl0, o, ho, hwait⟩ := mem_ready.1 hi
          have ho' : l[i]? = some o := by simpa using ho
          have hil : i < l.length := (List.getElem?_eq_some_iff.1 ho').1
          have hil' : i < listed.size := by rw [hI.lsize]; exact hil
          have hlf : listed.getD i false = false := by
            rw [getD_of_lt hil' false true]; exact hl0
          have hanc : ∀ n k, ancB l n i k = true → listed.getD k false = true := by
            intro n k hk
            cases n with
            | zero => simp [ancB] at hk
            | succ n =>
              unfold ancB at hk
              rw [ho'] at hk
              obtain ⟨e, he, hh⟩ := List.any_eq_true.1 hk
              simp only [Bool.and_eq_true, Bool.or_eq_true, decide_eq_true_eq] at hh
              have h1 := hwait e (by simpa using he) hh.1
              rcases hh.2 with h2 | h2
              · rw [← h2]; exact h1
              · exact hI.down.anc n e.on k h1 h2
          have hi1 : i < l1.length := by
            rcases Nat.lt_or_ge i l1.length with h | h
            · exact h
            · exact absurd (hanc _ _ (tailB_spec htail hil h (by omega : j0 < i))) hj0f
          have hAt : AtK l1.length l R Φ J a w i o listed a' W := ⟨⟨hI.rel, hI.size, hI.defers,
            fun d hd => hI.old d (fun j oj hj hdj => by
              have hji := hd j oj hj hdj
              cases hlj : listed.getD j false with
              | false => rfl
              | true =>
                have := hI.down.anc _ j i hlj hji
                rw [hlf] at this; cases this),
            fun j hj ha => hI.new j hj (hanc _ j ha)⟩, hI.jnv, hlf, hI.lsize, fun k hk => hanc _ k hk⟩
          have hG := hstep i o (by rw [hl1 i hi1]; exact ho') listed a' W hAt
          have hnext : ∀ v W2, R W W2 → (∀ s : Nat → Value, (o.dst.isSome = true → s i = v) → (∀ k, k ≠ i → s k = svb l l1.length a' k) → J (listed.setIfInBounds i true) s W2) → (∀ s : Nat → Value, (o.dst.isSome = true → s i = v) → (∀ k, k ≠ i → ancB l l.length i k = true → s k = sv l a' k) → Φ i s W2) → wpAnyIn (Fence.wide.inRound lr) n0 P .any l.toArray Q fuel (listed.setIfInBounds i true) (a'.put o.dst v) W2 := by
            intro v W2 hR hS hv
            have hin' : ∀ d ∈ l.filterMap (·.dst), d < a'.tmps.size := fun d hd => by rw [hI.size]; exact hin d hd
            have hset : ∀ j, j ≠ i → (listed.setIfInBounds i true).getD j false = listed.getD j false := fun j hj => getD_set_ne false (Ne.symm hj)
            refine ih _ _ _ ?_ (fun j hj => by rw [hset j (by omega)]; exact hlo j hj) ?_
            · have := count_set listed.toList i (by simp [hil']; simpa [Array.getD_eq_getD_getElem?, hil'] using hlf)
              rw [Array.toList_setIfInBounds]; omega
            · refine ⟨⟨hRt hI.rel hR, by simpa using hI.lsize, by rw [put_size]; exact hI.size, by rw [put_defers]; exact hI.defers, ?_, ?_, ?_⟩, ?_⟩
              · intro d hd
                have hne : o.dst ≠ some d := fun e => by
                  have := hd i o ho' e
                  simp [Array.getD_eq_getD_getElem?, hil'] at this
                rw [put_other hne]
                refine hI.old d (fun j oj hj hdj => ?_)
                by_cases hji : j = i
                · subst hji; exact hlf
                · have := hd j oj hj hdj
                  rwa [hset j hji] at this
              · intro j hj hlj
                by_cases hji : j = i
                · subst hji
                  exact hv _ (fun hd => sv_put_self ho' hin' hd) (fun k hk _ => sv_put_other hun ho' hk)
                · rw [hset j hji] at hlj
                  refine hst j _ _ _ _ (hI.new j hj hlj) (fun k hk => sv_put_other hun ho' ?_) hR
                  rintro rfl
                  have h1 := List.all_eq_true.1 (List.all_eq_true.1 hreads j (List.mem_range.2 hj)) k hk
                  simp only [Bool.or_eq_true, decide_eq_true_eq] at h1
                  rcases h1 with h1 | h1
                  · exact hji h1.symm
                  · have := hI.down.anc _ j k hlj h1
                    rw [hlf] at this; cases this
              · intro j oj hj hlj e he hb
                by_cases hji : j = i
                · subst hji
                  rw [ho'] at hj; cases hj
                  exact getD_set_true (hwait e he hb)
                · rw [hset j hji] at hlj
                  exact getD_set_true (hI.down j oj hj hlj e he hb)
              · refine hS _ (fun hd => ?_) (fun k hk => ?_)
                · unfold svb; rw [if_pos hi1]; exact sv_put_self ho' hin' hd
                · unfold svb
                  split
                  · exact sv_put_other hun ho' hk
                  · rfl
          unfold wpOpIn
          rw [show l.toArray[i]? = some o by simpa using ho']
          unfold GoesKI at hG
          by_cases hwant : Region.wanted o (yielded l.toArray a'.tmps) = true
          · rw [if_pos hwant] at hG
            simp only [hwant, if_true]
            exact Oper.wpIn_mono (fun a2 W2 ⟨v, e, hR, hS, hv⟩ => by rw [e]; exact hnext v W2 hR hS hv) hG
          · rw [if_neg hwant] at hG
            simp only [hwant]
            exact ⟨fun _ _ => trivial, hnext undef W hG.1 hG.2.1 hG.2.2⟩
  have h0 := main l.length (Array.replicate l.length false) a { w with drawn := w.drawn + 1 } (by simp) (fun j _ => getD_false _ _)
    ⟨⟨hR0 w, by simp, rfl, rfl, fun _ _ => rfl, (fun j _ h => by rw [getD_false] at h; cases h), (fun j oj _ h => by rw [getD_false] at h; cases h)⟩, hJ0 _⟩
  simpa using h0

end Go.Proofs.YtmbkjccckmlacaaDoor

