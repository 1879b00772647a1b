/- Lemmas and walks for the statements of this seat, part 5, merged from smaller texts: mapped: the greatest parts that a function knows are replaced.; Fold of expr.; A region that draws its order and ends with a chain: the head by predicates (Rg), the tail walked as a list.; Appending an expression to a row of the call's own.; fold of the reference.; Fold, both.; replaced of the reference.; Substitute's function.; Substitute, both.; An expression is the same as itself; the empty expression.; Zero, Equal, and the law's same at one expression.; The plain mathematics of the encoding of integers: base 256 digits, heads. No program here.; codec.digits, codec.integer, codec.fits, codec.Int: their contracts. -/
import Derived.Laws.Append
import Derived.RangeFuncBox
import Derived.RangeFuncLeaves
import Derived.RangeFuncNested
import Derived.Shelf.Abstract
import Derived.WalkKit
import Derived.OwnWalkIn
import Derived.TacticsInMore
import Derived.LoopNIn
import Derived.LoopIn
import Derived.Maps.AppendAt
import Derived.Lib.Hide
import Derived.Test.YtgkalcboklhdgaaGreatDoorRows
import Derived.Test.YtgkalcboklhdgaaGreatDoorPart4
import Derived.Test.YtgkalcboklhdgaaGreatDoorPart2
import Derived.Test.YtgkalcboklhdgaaGreatDoorPart1

namespace Go.Proofs.YtgkalcboklhdgaaGreatDoor
open Go.RowKit
set_option linter.unusedVariables false
set_option linter.unusedSimpArgs false
open Ex

mutual
/-- e, its greatest parts that one knows replaced -/
def mp (one : Ex → Option Ex) : Ex → Ex
  | .mk k o n v ts => match one (.mk k o n v ts) with
    | some r => r
    | none => .mk k o n v (mps one ts)
def mps (one : Ex → Option Ex) : List Ex → List Ex
  | [] => []
  | t :: ts => mp one t :: mps one ts
end
theorem mps_map (one : Ex → Option Ex) (ts : List Ex) : mps one ts = ts.map (mp one) := by
  induction ts with
  | nil => rfl
  | cons t ts ih => simp only [mps, List.map_cons, ih]
/-- a function that knows the parts that one knows -/
structure OneFn (one : Ex → Option Ex) (w₀ : World) (K : World → Prop) (fn : FuncId) (cap : Array Value) (Fe : Ex → Prop) : Prop where
  ent : ∀ args w, (callFunc fn args).run Tryz.prog w = .ok (.enter fn args) w
  down : ∀ k o n v ts, Fe (.mk k o n v ts) → ∀ t ∈ ts, Fe t
  keep : ∀ W W', K W → Ext W W' → K W'
  run : ∀ e p c W, Ext w₀ W → K W → Ex.At w₀ p e → Fe e → Calls Tryz.prog fn (#[e.val p c] ++ cap) W fun r w' => Ext W w' ∧ ∃ x q d, r = .returned (.tuple #[x.val q d, .bool (one e).isSome]) ∧
    ∀ y, one e = some y → x = y ∧ AtB (fun b => b < w₀.heap.size ∨ W.heap.size ≤ b) w' q y
/-- the class of blocks of what the elements became -/
def Off (w₀ w : World) (g b : Nat) : Prop := (b < w₀.heap.size ∨ w.heap.size ≤ b) ∧ b ≠ g
/-- a row whose first j elements are replaced -/
def MapInv (f : Ex → Ex) (w₀ w : World) (ts : List Ex) (rs : List XE) (g : Nat) (j : Nat) (rj : List XE) (wr : World) : Prop :=
  rj.length = rs.length ∧ (∀ i (h : i < rj.length) (h2 : i < ts.length), i < j → rj[i].1 = f ts[i] ∧ AtB (Off w₀ w g) wr rj[i].2.1 (f ts[i])) ∧
  (∀ i (h : i < rj.length) (h2 : i < rs.length), j ≤ i → rj[i] = rs[i])
theorem MapInv.start {f : Ex → Ex} {w₀ w : World} {ts : List Ex} {rs : List XE} {g : Nat} {wr : World} : MapInv f w₀ w ts rs g 0 rs wr := ⟨rfl, fun i _ _ h => by omega, fun i _ _ _ => rfl⟩
theorem MapInv.ext {f : Ex → Ex} {w₀ w : World} {ts : List Ex} {rs : List XE} {g j : Nat} {rj : List XE} {wr W : World} (h : MapInv f w₀ w ts rs g j rj wr) (hE : Ext wr W) : MapInv f w₀ w ts rs g j rj W :=
  ⟨h.1, fun i h1 h2 h3 => ⟨(h.2.1 i h1 h2 h3).1, (h.2.1 i h1 h2 h3).2.ext hE⟩, h.2.2⟩
theorem MapInv.step {f : Ex → Ex} {w₀ w : World} {ts : List Ex} {rs : List XE} {g j : Nat} {rj : List XE} {wr W : World} (h : MapInv f w₀ w ts rs g j rj wr) (hj : j < ts.length) (q : Option Addr) (d : Nat)
    (hk : ∀ b, b ≠ g → W.heap[b]? = wr.heap[b]?) (hA : AtB (Off w₀ w g) wr q (f ts[j])) : MapInv f w₀ w ts rs g (j + 1) (rj.set j (f ts[j], q, d)) W := by
  have hK : ∀ {p : Option Addr} {e : Ex}, AtB (Off w₀ w g) wr p e → AtB (Off w₀ w g) W p e := fun h => h.keep (fun b hb _ => ⟨hb, hk b hb.2⟩)
  refine ⟨by rw [List.length_set]; exact h.1, fun i h1 h2 h3 => ?_, fun i h1 h2 h3 => ?_⟩
  · rw [List.length_set] at h1
    by_cases e : j = i
    · subst e; rw [List.getElem_set_self]; exact ⟨rfl, hK hA⟩
    · rw [List.getElem_set_ne e]
      exact ⟨(h.2.1 i h1 h2 (by omega)).1, hK (h.2.1 i h1 h2 (by omega)).2⟩
  · rw [List.length_set] at h1
    rw [List.getElem_set_ne (by omega)]
    exact h.2.2 i h1 h2 (by omega)
/-- all elements are replaced -/
theorem MapInv.done {f : Ex → Ex} {w₀ w : World} {ts : List Ex} {rs : List XE} {g base cap : Nat} {rj : List XE} {wr W : World} {S : Nat → Prop} (h : MapInv f w₀ w ts rs g ts.length rj wr) (hl : rs.length = ts.length)
    (hrow : RowE base (.slice (some ⟨g, 0, none⟩) rj.length cap) rj wr) {k o v : Int} {n : List UInt8} (hf : fits (.mk k o n v ts)) (hS : S g) (hk : ∀ b, b = g ∨ Off w₀ w g b → b < wr.heap.size → W.heap[b]? = wr.heap[b]?) (hSS : ∀ b, Off w₀ w g b → S b) :
    AtB S W (some ⟨g, 0, none⟩) (.mk k o n v (ts.map f)) := by
  have hgl : g < wr.heap.size := (World.ownsRow.lt hrow g rfl).2
  refine ⟨?_, AtBL.of_get (fun _ => hS) (fun i hi => ?_)⟩
  · obtain ⟨f1, f2, f3, f4, f5⟩ := hf
    refine ⟨f1, f2, f3, f4, ?_⟩
    show (ts.map f).length ≤ _
    rw [List.length_map]; exact f5
  · rw [List.length_map] at hi
    have hi2 : i < rj.length := by rw [h.1, hl]; exact hi
    obtain ⟨e1, e2⟩ := h.2.1 i hi2 hi hi
    refine ⟨rj[i].2.1, rj[i].2.2, ?_, ?_⟩
    · rw [List.getElem_map, ← e1, Nat.zero_add, Nat.zero_add]
      exact (RowE.cells hrow i hi2).block (hk g (.inl rfl) hgl)
    · rw [List.getElem_map]
      exact e2.keep (fun b hb hb2 => ⟨hSS b hb, hk b (.inr hb) hb2⟩)
set_option maxHeartbeats 4000000 in
theorem mapped_any {one : Ex → Option Ex} {w₀ : World} {K : World → Prop} {fn : FuncId} {cap : Array Value} {Fe : Ex → Prop} (F : OneFn one w₀ K fn cap Fe) : ∀ (n : Nat) (e : Ex), e.size ≤ n → ∀ (p : Option Addr) (c : Nat), Ex.At w₀ p e → Fe e → ∀ w, Ext w₀ w → K w →
    Calls Tryz.prog 54 #[e.val p c, .func (.func fn) #[] cap] w fun r w' => Ext w w' ∧ ∃ q d, r = .returned ((mp one e).val q d) ∧ AtB (fun b => b < w₀.heap.size ∨ w.heap.size ≤ b) w' q (mp one e) := by
  intro n
  induction n with
  | zero => intro e he; have := e.size_pos; omega
  | succ n ih =>
    intro e he p c hA hFe w hw hK
    have HKK := Lib.hid (fun W (h : Ext w W) => F.keep w W hK h)
    have hent := F.ent
    obtain ⟨rs, hrs, hrA, hcl⟩ := Clone_row (show Ex.At w₀ p (.mk e.kind e.op e.name e.value e.args) by cases e; exact hA)
    have C1 := Lib.hid (fun W (h : Ext w W) => show Calls _ _ (#[.agg #[.int .i64 e.kind, .int .i64 e.op, sV e.name, .int .i64 e.value, .slice p e.args.length c]] ++ cap) _ _ from F.run e p c W (Ext.trans hw h) (F.keep w W hK h) hA hFe)
    have CL := Lib.hid (fun W (h : Ext w W) => hcl W (Ext.trans hw h) c)
    have hv : e.val p c = .agg #[.int .i64 e.kind, .int .i64 e.op, sV e.name, .int .i64 e.value, .slice p e.args.length c] := rfl
    rw [hv]
    have IH := Lib.hid (fun t (ht : t ∈ e.args) => ih t (by obtain ⟨j, hj, rfl⟩ := List.getElem_of_mem ht; have h1 := size_get e.args j hj; have h2 := size_args e; omega))
    have HM := Lib.hid (show mp one e = match one e with | some r => r | none => .mk e.kind e.op e.name e.value (e.args.map (mp one)) by cases e; simp only [mp, mps_map]; rfl)
    clear ih hcl hv
    generalize mp one e = R at *
    generalize hoe : one e = oe at *
    have HFe := Lib.hid (show ∀ t ∈ e.args, Fe t from fun t ht => F.down e.kind e.op e.name e.value e.args (by cases e; exact hFe) t ht)
    have HFit := Lib.hid (show fits (.mk e.kind e.op e.name e.value e.args) by cases e; exact hA.fit)
    have HH := Lib.hid (And.intro hrs (And.intro hrA hw))
    clear hrs hrA hw hoe hA hFe he hK F
    have hl : e.args.length ≤ 2199023255488 := HFit.out.2.2.2.2
    generalize hts : e.args.length = nts at *
    have HTS := Lib.hid hts
    clear hts
    generalize e.kind = k1 at *
    generalize e.op = o1 at *
    generalize e.name = n1 at *
    generalize e.value = v1 at *
    have hb0 := (Below.heap_alloc (w.alloc (.cells #[.int .i64 k1, .int .i64 o1, sV n1, .int .i64 v1, .slice p nts c] tEx)) (.cells #[.int .i64 0, .int .i64 0, .string { data := #[] }, .int .i64 0, .slice none 0 0] tEx) w.heap.size (by simp)).trans (alloc_here _ _)
    have hb1 := alloc_here (w.alloc (.cells #[.int .i64 k1, .int .i64 o1, sV n1, .int .i64 v1, .slice p nts c] tEx)) (.cells #[.int .i64 0, .int .i64 0, .string { data := #[] }, .int .i64 0, .slice none 0 0] tEx)
    rw [World.size_alloc] at hb1
    have hE0 : Ext w ((w.alloc (.cells #[.int .i64 k1, .int .i64 o1, sV n1, .int .i64 v1, .slice p nts c] tEx)).alloc (.cells #[.int .i64 0, .int .i64 0, .string { data := #[] }, .int .i64 0, .slice none 0 0] tEx)) := ((Below.refl _ w).alloc (Nat.le_refl _) _).alloc (by simp) _
    have HB0 := Lib.hid hb0
    have HB1 := Lib.hid hb1
    have HE0 := Lib.hid hE0
    have D1 := Lib.hid (C1.out _ hE0)
    clear hb0 hb1 hE0 C1
    go_enter Tryz.func54, Tryz.ntmps54
    go_wp2_with fail
    refine D1.out.mono ?_
    rintro _ w1 ⟨hB1, x, q, d, rfl, hx⟩
    have hbe : w1.heap[w.heap.size]? = _ := (hB1.below.block _ (lt_of_block HB0.out)).trans HB0.out
    have hbr : w1.heap[w.heap.size + 1]? = _ := (hB1.below.block _ (lt_of_block HB1.out)).trans HB1.out
    have HW1 := Lib.hid (Ext.trans HE0.out hB1)
    have hL1 := lt_of_block hbr
    clear hB1 HB0 HB1 D1 HE0
    have HX := Lib.hid hx
    clear hx
    cases oe with
    | some y =>
      obtain ⟨rfl, hxA⟩ := HX.out y rfl
      have HRx := Lib.hid (show R = x from HM.out)
      have HXA := Lib.hid hxA
      unfold Ex.val
      have hbr2 := (Below.heap_alloc w1 (.cells #[.int .i64 x.kind, .int .i64 x.op, sV x.name, .int .i64 x.value, .slice q x.args.length d] tEx) (w.heap.size + 1) hL1).trans hbr
      have HW2 := Lib.hid (HW1.out.alloc (Nat.le_of_lt (by omega : w.heap.size < w1.heap.size)) (.cells #[.int .i64 x.kind, .int .i64 x.op, sV x.name, .int .i64 x.value, .slice q x.args.length d] tEx))
      have HK := Lib.hid (fun b (hb : b < w1.heap.size) => Below.heap_alloc w1 (.cells #[.int .i64 x.kind, .int .i64 x.op, sV x.name, .int .i64 x.value, .slice q x.args.length d] tEx) b hb)
      have e0 : (w1.alloc (.cells #[.int .i64 x.kind, .int .i64 x.op, sV x.name, .int .i64 x.value, .slice q x.args.length d] tEx)).cell? ⟨w.heap.size + 1, 0, none⟩ = some (.int .i64 0) := cell_of hbr2 rfl
      have e1 : (w1.alloc (.cells #[.int .i64 x.kind, .int .i64 x.op, sV x.name, .int .i64 x.value, .slice q x.args.length d] tEx)).cell? ⟨w.heap.size + 1, 1, none⟩ = some (.int .i64 0) := cell_of hbr2 rfl
      have e2 : (w1.alloc (.cells #[.int .i64 x.kind, .int .i64 x.op, sV x.name, .int .i64 x.value, .slice q x.args.length d] tEx)).cell? ⟨w.heap.size + 1, 2, none⟩ = some (sV []) := cell_of hbr2 (by rw [sV_nil]; rfl)
      have e3 : (w1.alloc (.cells #[.int .i64 x.kind, .int .i64 x.op, sV x.name, .int .i64 x.value, .slice q x.args.length d] tEx)).cell? ⟨w.heap.size + 1, 3, none⟩ = some (.int .i64 0) := cell_of hbr2 rfl
      have e4 : (w1.alloc (.cells #[.int .i64 x.kind, .int .i64 x.op, sV x.name, .int .i64 x.value, .slice q x.args.length d] tEx)).cell? ⟨w.heap.size + 1, 4, none⟩ = some (.slice none 0 0) := cell_of hbr2 rfl
      have f1 : ∀ i, (w1.alloc (.cells #[.int .i64 x.kind, .int .i64 x.op, sV x.name, .int .i64 x.value, .slice q x.args.length d] tEx)).frozen? ⟨w.heap.size + 1, i, none⟩ = false := fun i => free_of hbr2
      have HBR := Lib.hid hbr2
      have HL1 := Lib.hid hL1
      clear hbe hbr hbr2 hL1 HX HW1 HM hxA
      go_wp2
      generalize w1.alloc (.cells #[.int .i64 x.kind, .int .i64 x.op, sV x.name, .int .i64 x.value, .slice q x.args.length d] tEx) = w2 at *
      obtain ⟨h3, h4, h5⟩ := put5 (W := w2) HBR.out rfl (.int .i64 x.kind) (.int .i64 x.op) (.string (sB x.name)) (.int .i64 x.value) (.slice q x.args.length d)
      generalize (((((w2.setCell ⟨w.heap.size + 1, 0, none⟩ (.int .i64 x.kind)).setCell ⟨w.heap.size + 1, 1, none⟩ (.int .i64 x.op)).setCell ⟨w.heap.size + 1, 2, none⟩ (.string (sB x.name))).setCell ⟨w.heap.size + 1, 3, none⟩ (.int .i64 x.value)).setCell ⟨w.heap.size + 1, 4, none⟩ (.slice q x.args.length d)) = W at *
      have e0 : W.cell? ⟨w.heap.size + 1, 0, none⟩ = some (.int .i64 x.kind) := cell_of h3 rfl
      have e1 : W.cell? ⟨w.heap.size + 1, 1, none⟩ = some (.int .i64 x.op) := cell_of h3 rfl
      have e2 : W.cell? ⟨w.heap.size + 1, 2, none⟩ = some (.string (sB x.name)) := cell_of h3 rfl
      have e3 : W.cell? ⟨w.heap.size + 1, 3, none⟩ = some (.int .i64 x.value) := cell_of h3 rfl
      have e4 : W.cell? ⟨w.heap.size + 1, 4, none⟩ = some (.slice q x.args.length d) := cell_of h3 rfl
      have hs0 := HH.out.2.2.size
      have hs2 := HL1.out
      refine bodyPost_ret (v := .agg #[.int .i64 x.kind, .int .i64 x.op, .string (sB x.name), .int .i64 x.value, .slice q x.args.length d]) (by simp [results, Tryz.f54, go_sem, e0, e1, e2, e3, e4, sB_nil]) rfl ⟨Below.trans HW2.out (h4 _ (by omega)), q, d, ?_, ?_⟩
      · rw [HRx.out]; rfl
      · rw [HRx.out]
        refine HXA.out.keep (fun b hb hl => ⟨?_, ?_⟩)
        · rcases hb with hb | hb
          · exact .inl hb
          · exact .inr (by simp at hb; omega)
        · rw [h5 b (by
            rcases hb with hb | hb
            · omega
            · simp at hb; omega), HK.out b hl]
    | none =>
      unfold Ex.val
      generalize x.kind = xk at *
      generalize x.op = xo at *
      generalize x.name = xn at *
      generalize x.value = xv at *
      generalize x.args.length = xl at *
      have hbe2 := (Below.heap_alloc w1 (.cells #[.int .i64 xk, .int .i64 xo, sV xn, .int .i64 xv, .slice q xl d] tEx) w.heap.size (by omega)).trans hbe
      have hbr2 := (Below.heap_alloc w1 (.cells #[.int .i64 xk, .int .i64 xo, sV xn, .int .i64 xv, .slice q xl d] tEx) (w.heap.size + 1) hL1).trans hbr
      have HW2 := Lib.hid (HW1.out.alloc (Nat.le_of_lt (by omega : w.heap.size < w1.heap.size)) (.cells #[.int .i64 xk, .int .i64 xo, sV xn, .int .i64 xv, .slice q xl d] tEx))
      have hL2 : w.heap.size + 1 < (w1.alloc (.cells #[.int .i64 xk, .int .i64 xo, sV xn, .int .i64 xv, .slice q xl d] tEx)).heap.size := by simp; omega
      have f4 : (w1.alloc (.cells #[.int .i64 xk, .int .i64 xo, sV xn, .int .i64 xv, .slice q xl d] tEx)).cell? ⟨w.heap.size, 4, none⟩ = some (.slice p nts c) := cell_of hbe2 rfl
      have HBE := Lib.hid hbe2
      have HBR := Lib.hid hbr2
      have HL2 := Lib.hid hL2
      clear hbe hbr hbe2 hbr2 hL1 hL2 HX HW1
      go_wp2_with fail
      refine (CL.out _ HW2.out).mono ?_
      rintro _ w3 ⟨v, rfl, hrow, hE3⟩
      generalize w1.alloc (.cells #[.int .i64 xk, .int .i64 xo, sV xn, .int .i64 xv, .slice q xl d] tEx) = w2 at *
      have hnl : rs.length = nts := by rw [← HTS.out, ← HH.out.1, List.length_map]
      rcases hrow.forms with ⟨rfl, hr0⟩ | ⟨g, cap, rfl, hgb, hgl⟩
      · skip
        have hn0 : nts = 0 := by rw [← hnl, hr0]; rfl
        subst hn0
        have HA0 := Lib.hid (List.eq_nil_of_length_eq_zero HTS.out)
        clear hnl
        have hbe := (hE3.below.block _ (lt_of_block HBE.out)).trans HBE.out
        have hbr := (hE3.below.block _ (lt_of_block HBR.out)).trans HBR.out
        have d0 : w3.cell? ⟨w.heap.size, 0, none⟩ = some (.int .i64 k1) := cell_of hbe rfl
        have d1 : w3.cell? ⟨w.heap.size, 1, none⟩ = some (.int .i64 o1) := cell_of hbe rfl
        have d2 : w3.cell? ⟨w.heap.size, 2, none⟩ = some (sV n1) := cell_of hbe rfl
        have d3 : w3.cell? ⟨w.heap.size, 3, none⟩ = some (.int .i64 v1) := cell_of hbe rfl
        have d4 : w3.cell? ⟨w.heap.size, 4, none⟩ = some (.slice p 0 c) := cell_of hbe rfl
        have e0 : w3.cell? ⟨w.heap.size + 1, 0, none⟩ = some (.int .i64 0) := cell_of hbr rfl
        have e1 : w3.cell? ⟨w.heap.size + 1, 1, none⟩ = some (.int .i64 0) := cell_of hbr rfl
        have e2 : w3.cell? ⟨w.heap.size + 1, 2, none⟩ = some (sV []) := cell_of hbr (by rw [sV_nil]; rfl)
        have e3 : w3.cell? ⟨w.heap.size + 1, 3, none⟩ = some (.int .i64 0) := cell_of hbr rfl
        have e4 : w3.cell? ⟨w.heap.size + 1, 4, none⟩ = some (.slice none 0 0) := cell_of hbr rfl
        have f0 : ∀ i, w3.frozen? ⟨w.heap.size, i, none⟩ = false := fun i => free_of hbe
        have f1 : ∀ i, w3.frozen? ⟨w.heap.size + 1, i, none⟩ = false := fun i => free_of hbr
        have HE := Lib.hid hE3
        have HBE := Lib.hid hbe
        have HBR := Lib.hid hbr
        clear hrow hE3 f4 hbe hbr
        go_wp2
        go_loopw [23] (fun i wr => i = .int .i64 0 ∧ w3 = wr) (fun i _ => 0)
        case atStart => exact ⟨rfl, rfl⟩
        obtain ⟨rfl, rfl⟩ := hrel
        go_wp2
        obtain ⟨h3, h4, h5⟩ := put5 (W := w3.setCell ⟨w.heap.size, 4, none⟩ (.slice none 0 0)) ((Below.heap_setCell _ ⟨w.heap.size, 4, none⟩ _ _ (by simp)).trans HBR.out) rfl (.int .i64 k1) (.int .i64 o1) (.string (sB n1)) (.int .i64 v1) (.slice none 0 0)
        have h6 : ∀ b, b ≠ w.heap.size → (w3.setCell ⟨w.heap.size, 4, none⟩ (.slice none 0 0)).heap[b]? = w3.heap[b]? := fun b hb => Below.heap_setCell _ ⟨w.heap.size, 4, none⟩ _ _ hb
        have h7 : Below w.heap.size w3 (w3.setCell ⟨w.heap.size, 4, none⟩ (.slice none 0 0)) := (Below.refl _ w3).setCell (p := ⟨w.heap.size, 4, none⟩) (Nat.le_refl _) _
        generalize w3.setCell ⟨w.heap.size, 4, none⟩ (.slice none 0 0) = wq at *
        generalize (((((wq.setCell ⟨w.heap.size + 1, 0, none⟩ (.int .i64 k1)).setCell ⟨w.heap.size + 1, 1, none⟩ (.int .i64 o1)).setCell ⟨w.heap.size + 1, 2, none⟩ (.string (sB n1))).setCell ⟨w.heap.size + 1, 3, none⟩ (.int .i64 v1)).setCell ⟨w.heap.size + 1, 4, none⟩ (.slice none 0 0)) = W at *
        have e0 : W.cell? ⟨w.heap.size + 1, 0, none⟩ = some (.int .i64 k1) := cell_of h3 rfl
        have e1 : W.cell? ⟨w.heap.size + 1, 1, none⟩ = some (.int .i64 o1) := cell_of h3 rfl
        have e2 : W.cell? ⟨w.heap.size + 1, 2, none⟩ = some (.string (sB n1)) := cell_of h3 rfl
        have e3 : W.cell? ⟨w.heap.size + 1, 3, none⟩ = some (.int .i64 v1) := cell_of h3 rfl
        have e4 : W.cell? ⟨w.heap.size + 1, 4, none⟩ = some (.slice none 0 0) := cell_of h3 rfl
        have hs0 := HH.out.2.2.size
        have hs1 := HW2.out.size
        have hs2 := HL2.out
        refine bodyPost_ret (v := .agg #[.int .i64 k1, .int .i64 o1, .string (sB n1), .int .i64 v1, .slice none 0 0]) (by simp [results, Tryz.f54, go_sem, e0, e1, e2, e3, e4, sB_nil]) rfl ⟨Below.trans (Below.trans (Ext.trans HW2.out HE.out) h7) (h4 _ (by omega)), none, 0, ?_, ?_⟩
        · rw [HM.out, HA0.out]; rfl
        · rw [HM.out, HA0.out]
          exact AtB_leaf _ _ _ (by have h := HFit.out; rw [HA0.out] at h; exact h)
      · rw [hnl]
        have HHL := Lib.hid hnl
        have HE3 := Lib.hid hE3
        have HROW := Lib.hid hrow
        have HG := Lib.hid hgb
        clear hnl hrow hgb hgl hE3 f4
        go_wp2
        go_loopw [23] (fun i wr => ∃ j rj, j ≤ nts ∧ i = .int .i64 (j : Int) ∧ RowE w2.heap.size (.slice (some ⟨g, 0, none⟩) rj.length cap) rj wr ∧ MapInv (mp one) w₀ w2 e.args rs g j rj wr ∧ Ext w2 wr) (fun i _ => nts - (intOf i).toNat)
        case atStart => exact ⟨0, rs, Nat.zero_le _, rfl, HROW.out, MapInv.start, HE3.out⟩
        case round =>
          obtain ⟨j, rj, hj, rfl, hr, hI, hE⟩ := hrel
          by_cases hlt : j < nts
          · have hjr : j < rj.length := by rw [hI.1, HHL.out]; exact hlt
            have hjt : j < e.args.length := by rw [HTS.out]; exact hlt
            have hjs : j < rs.length := by rw [HHL.out]; exact hlt
            have hx1 : rj[j] = rs[j] := hI.2.2 j hjr hjs (Nat.le_refl _)
            have hx2 : rs[j].1 = e.args[j] := by
              have h1 := HH.out.1
              have h2 : (rs.map (·.1))[j]? = e.args[j]? := by rw [h1]
              rw [List.getElem?_map, List.getElem?_eq_getElem hjs, List.getElem?_eq_getElem hjt] at h2
              simpa using h2
            have hA1 := HH.out.2.1 j hjs
            obtain ⟨c0, c1, c2, c3, c4⟩ := RowE.cells hr j hjr
            rw [hx1] at c0 c1 c2 c3 c4
            rw [hx2] at c0 c1 c2 c3 c4 hA1
            have D := Lib.hid (fun W (h : Ext w₀ W) (hk : K W) => show Calls _ _ #[.agg #[.int .i64 (e.args[j]).kind, .int .i64 (e.args[j]).op, sV (e.args[j]).name, .int .i64 (e.args[j]).value, .slice rs[j].2.1 (e.args[j]).args.length rs[j].2.2], _] _ _ from IH.out e.args[j] (List.getElem_mem hjt) rs[j].2.1 rs[j].2.2 hA1 (HFe.out _ (List.getElem_mem hjt)) W h hk)
            obtain ⟨T, hT⟩ : ∃ T, mp one e.args[j] = T := ⟨_, rfl⟩
            rw [hT] at D
            have HT := Lib.hid hT
            clear hT
            clear hA1 hx1 hx2
            have HR := Lib.hid hr
            have HI := Lib.hid hI
            have HE := Lib.hid hE
            clear hr hI hE
            have HB := Lib.hid (And.intro hjr (And.intro hjt hjs))
            generalize rs[j].2.1 = q2 at *
            generalize rs[j].2.2 = d2 at *
            generalize (e.args[j]).kind = k2 at *
            generalize (e.args[j]).op = o2 at *
            generalize (e.args[j]).name = n2 at *
            generalize (e.args[j]).value = v2 at *
            generalize (e.args[j]).args.length = l2 at *
            go_wp2_with fail
            refine (D.out _ ?_ ?_).mono ?_
            · exact Ext.trans HH.out.2.2 (Ext.trans HW2.out (Ext.trans HE.out ((Below.refl _ wr).alloc (Nat.le_refl _) _)))
            · exact HKK.out _ (Ext.trans HW2.out (Ext.trans HE.out ((Below.refl _ wr).alloc (Nat.le_refl _) _)))
            clear D
            rintro _ w4 ⟨hE4, q3, d3, rfl, hA3⟩
            unfold Ex.val
            have HE4 := Lib.hid (Ext.trans ((Below.refl _ wr).alloc (Nat.le_refl _) _) hE4)
            have HA3 := Lib.hid hA3
            have hr4 := HR.out.ext HE4.out
            obtain ⟨e0, e1, e2, e3, e4⟩ := RowE.cells hr4 j hjr
            have f0 : ∀ i, w4.frozen? ⟨g, i, none⟩ = false := fun i => World.ownsRow.frozenAt hr4 i
            have HR4 := Lib.hid hr4
            clear hE4 hA3 hr4
            go_wp2
            refine ⟨?_, ?_⟩
            · skip
              have hgl := (World.ownsRow.lt HR.out g rfl).2
              have hs0 := HH.out.2.2.size
              have hs1 := HW2.out.size
              have hs2 := HE.out.size
              have hg := HG.out
              have hA4 : AtB (Off w₀ w2 g) w4 q3 (mp one e.args[j]) := by
                rw [HT.out]
                refine HA3.out.imp (fun b hb _ => ?_)
                rcases hb with hb | hb
                · exact ⟨.inl hb, by omega⟩
                · rw [World.size_alloc] at hb
                  exact ⟨.inr (by omega), by omega⟩
              have hst := MapInv.step (W := set5 w4 g (j * 5) (T, q3, d3)) (HI.out.ext HE4.out) hjt q3 d3 (fun b hb => set5_other hb) hA4
              rw [HT.out] at hst
              have h1 := RowE.store HR4.out j hjr (T, q3, d3)
              have h2 : Ext w2 (set5 w4 g (j * 5) (T, q3, d3)) := Below.trans (Ext.trans HE.out HE4.out) (set5_below hg)
              have hset : set5 w4 g (j * 5) (T, q3, d3) = (((((w4.setCell ⟨g, j * 5, none⟩ (.int .i64 T.kind)).setCell ⟨g, j * 5 + 1, none⟩ (.int .i64 T.op)).setCell ⟨g, j * 5 + 2, none⟩ (.string (sB T.name))).setCell ⟨g, j * 5 + 3, none⟩ (.int .i64 T.value)).setCell ⟨g, j * 5 + 4, none⟩ (.slice q3 T.args.length d3)) := rfl
              rw [hset] at h1 h2 hst
              exact ⟨j + 1, rj.set j (T, q3, d3), by omega, by go_num, h1, hst, h2⟩
            · simp [intOf]; omega
          · have hjn : j = nts := by omega
            subst hjn
            have hbe := (hE.below.block _ (lt_of_block HBE.out)).trans HBE.out
            have hbr := (hE.below.block _ (lt_of_block HBR.out)).trans HBR.out
            have d0 : wr.cell? ⟨w.heap.size, 0, none⟩ = some (.int .i64 k1) := cell_of hbe rfl
            have d1 : wr.cell? ⟨w.heap.size, 1, none⟩ = some (.int .i64 o1) := cell_of hbe rfl
            have d2 : wr.cell? ⟨w.heap.size, 2, none⟩ = some (sV n1) := cell_of hbe rfl
            have d3 : wr.cell? ⟨w.heap.size, 3, none⟩ = some (.int .i64 v1) := cell_of hbe rfl
            have d4 : wr.cell? ⟨w.heap.size, 4, none⟩ = some (.slice p j c) := cell_of hbe rfl
            have e0 : wr.cell? ⟨w.heap.size + 1, 0, none⟩ = some (.int .i64 0) := cell_of hbr rfl
            have e1 : wr.cell? ⟨w.heap.size + 1, 1, none⟩ = some (.int .i64 0) := cell_of hbr rfl
            have e2 : wr.cell? ⟨w.heap.size + 1, 2, none⟩ = some (sV []) := cell_of hbr (by rw [sV_nil]; rfl)
            have e3 : wr.cell? ⟨w.heap.size + 1, 3, none⟩ = some (.int .i64 0) := cell_of hbr rfl
            have e4 : wr.cell? ⟨w.heap.size + 1, 4, none⟩ = some (.slice none 0 0) := cell_of hbr rfl
            have f0 : ∀ i, wr.frozen? ⟨w.heap.size, i, none⟩ = false := fun i => free_of hbe
            have f1 : ∀ i, wr.frozen? ⟨w.heap.size + 1, i, none⟩ = false := fun i => free_of hbr
            have HR := Lib.hid hr
            have HI := Lib.hid hI
            have HE := Lib.hid hE
            have HBE := Lib.hid hbe
            have HBR := Lib.hid hbr
            clear hr hI hE hbe hbr
            go_wp2
            obtain ⟨h3, h4, h5⟩ := put5 (W := wr.setCell ⟨w.heap.size, 4, none⟩ (.slice (some ⟨g, 0, none⟩) j cap)) ((Below.heap_setCell _ ⟨w.heap.size, 4, none⟩ _ _ (by simp)).trans HBR.out) rfl (.int .i64 k1) (.int .i64 o1) (.string (sB n1)) (.int .i64 v1) (.slice (some ⟨g, 0, none⟩) j cap)
            have h6 : ∀ b, b ≠ w.heap.size → (wr.setCell ⟨w.heap.size, 4, none⟩ (.slice (some ⟨g, 0, none⟩) j cap)).heap[b]? = wr.heap[b]? := fun b hb => Below.heap_setCell _ ⟨w.heap.size, 4, none⟩ _ _ hb
            have h7 : Below w.heap.size wr (wr.setCell ⟨w.heap.size, 4, none⟩ (.slice (some ⟨g, 0, none⟩) j cap)) := (Below.refl _ wr).setCell (p := ⟨w.heap.size, 4, none⟩) (Nat.le_refl _) _
            generalize wr.setCell ⟨w.heap.size, 4, none⟩ (.slice (some ⟨g, 0, none⟩) j cap) = wq at *
            generalize (((((wq.setCell ⟨w.heap.size + 1, 0, none⟩ (.int .i64 k1)).setCell ⟨w.heap.size + 1, 1, none⟩ (.int .i64 o1)).setCell ⟨w.heap.size + 1, 2, none⟩ (.string (sB n1))).setCell ⟨w.heap.size + 1, 3, none⟩ (.int .i64 v1)).setCell ⟨w.heap.size + 1, 4, none⟩ (.slice (some ⟨g, 0, none⟩) j cap)) = W at *
            have e0 : W.cell? ⟨w.heap.size + 1, 0, none⟩ = some (.int .i64 k1) := cell_of h3 rfl
            have e1 : W.cell? ⟨w.heap.size + 1, 1, none⟩ = some (.int .i64 o1) := cell_of h3 rfl
            have e2 : W.cell? ⟨w.heap.size + 1, 2, none⟩ = some (.string (sB n1)) := cell_of h3 rfl
            have e3 : W.cell? ⟨w.heap.size + 1, 3, none⟩ = some (.int .i64 v1) := cell_of h3 rfl
            have e4 : W.cell? ⟨w.heap.size + 1, 4, none⟩ = some (.slice (some ⟨g, 0, none⟩) j cap) := cell_of h3 rfl
            have hs0 := HH.out.2.2.size
            have hs1 := HW2.out.size
            have hs2 := HL2.out
            have hg := HG.out
            refine bodyPost_ret (v := .agg #[.int .i64 k1, .int .i64 o1, .string (sB n1), .int .i64 v1, .slice (some ⟨g, 0, none⟩) j cap]) (by simp [results, Tryz.f54, go_sem, e0, e1, e2, e3, e4, sB_nil]) rfl ⟨Below.trans (Below.trans (Ext.trans HW2.out HE.out) h7) (h4 _ (by omega)), some ⟨g, 0, none⟩, cap, ?_, ?_⟩
            · rw [HM.out]
              have hla : (e.args.map (mp one)).length = j := by rw [List.length_map]; exact HTS.out
              show _ = Ending.returned (.agg #[.int .i64 k1, .int .i64 o1, sV n1, .int .i64 v1, .slice (some ⟨g, 0, none⟩) (e.args.map (mp one)).length cap])
              rw [hla]
            · rw [HM.out]
              have hlen : rj.length = j := by rw [HI.out.1, HHL.out]
              refine MapInv.done (base := w2.heap.size) (cap := cap) (by rw [HTS.out]; exact HI.out) (by rw [HTS.out]; exact HHL.out) HR.out HFit.out (.inr (by omega)) (fun b hb hl => ?_) (fun b hb => ?_)
              · have hne : b ≠ w.heap.size ∧ b ≠ w.heap.size + 1 := by
                  rcases hb with rfl | ⟨hb | hb, _⟩
                  · exact ⟨by omega, by omega⟩
                  · exact ⟨by omega, by omega⟩
                  · exact ⟨by omega, by omega⟩
                rw [h5 b hne.2, h6 b hne.1]
              · rcases hb.1 with hb | hb
                · exact .inl hb
                · exact .inr (by omega)

end Go.Proofs.YtgkalcboklhdgaaGreatDoor

namespace Go.Proofs.YtgkalcboklhdgaaGreatDoor
open Go.RowKit
set_option linter.unusedVariables false
set_option linter.unusedSimpArgs false
open Ex

theorem opE_err {k x y : Int} (h : (opE k x y).2 ≠ 0) : (opE k x y).1 = 0 := by
  unfold opE at h ⊢
  by_cases h1 : (opR k x y).2 = 0
  · rw [if_neg (by simp [h1])] at h ⊢
    by_cases h2 : inM (opR k x y).1
    · rw [if_pos h2] at h; exact absurd rfl h
    · rw [if_neg h2]
  · rw [if_pos h1]
theorem ev_err {bs : List Bn} {e : Ex} (h : (e.ev bs).2 ≠ 0) : (e.ev bs).1 = 0 := by
  obtain ⟨k, o, n, v, ts⟩ := e
  simp only [Ex.ev] at h ⊢
  by_cases h1 : (Ex.evs bs ts).1 = 0
  · rw [if_neg (by simp [h1])] at h ⊢
    unfold evN at h ⊢
    by_cases hk1 : k = 1
    · rw [if_pos hk1] at h; exact absurd rfl h
    · rw [if_neg hk1] at h ⊢
      by_cases hk2 : k = 2
      · rw [if_pos hk2] at h; exact absurd rfl h
      · rw [if_neg hk2] at h ⊢
        by_cases hk3 : k = 3
        · rw [if_pos hk3] at h; exact absurd rfl h
        · rw [if_neg hk3] at h ⊢; exact opE_err h
  · rw [if_pos h1]
theorem cst_bd {e : Ex} (hfe : e.fe = 0) : inM (cst e).1 := by
  unfold cst
  by_cases h : (e.ty []).2 ≠ 0 ∨ (e.ty []).1 ≠ 1
  · rw [if_pos h]; decide
  · rw [if_neg h]
    have h1 : (e.ty []).2 = 0 := Decidable.byContradiction fun h1 => h (.inl h1)
    have hs := ev_sound bnds_nil e.size e (Nat.le_refl _) hfe (e.ty []).1 (by rw [← h1])
    by_cases h2 : (e.ev []).2 = 0
    · exact (hs.2 (e.ev []).1 (by rw [← h2])).1
    · show inM (e.ev []).1
      rw [ev_err h2]; decide
/-- what Fold makes of a part -/
def foldOne (e : Ex) : Option Ex := if (cst e).2 then some (lit (cst e).1) else none
theorem put5b {W : World} {B : Nat} {a0 a1 a2 a3 a4 : Value} {T : TypeId} {f : Nat × Nat} (h : W.heap[B]? = some (.cells #[a0, a1, a2, a3, a4] T f)) (x0 x1 x2 x3 x4 : Value) :
    ∃ V, (((((W.setCell ⟨B, 0, none⟩ x0).setCell ⟨B, 1, none⟩ x1).setCell ⟨B, 2, none⟩ x2).setCell ⟨B, 3, none⟩ x3).setCell ⟨B, 4, none⟩ x4) = V ∧ V.cell? ⟨B, 0, none⟩ = some x0 ∧ V.cell? ⟨B, 1, none⟩ = some x1 ∧ V.cell? ⟨B, 2, none⟩ = some x2 ∧ V.cell? ⟨B, 3, none⟩ = some x3 ∧ V.cell? ⟨B, 4, none⟩ = some x4 ∧
    (∀ n₀, n₀ ≤ B → Below n₀ W V) ∧ (∀ b, b ≠ B → V.heap[b]? = W.heap[b]?) := by
  obtain ⟨h3, h4, h5⟩ := put5 h rfl x0 x1 x2 x3 x4
  exact ⟨_, rfl, cell_of h3 rfl, cell_of h3 rfl, cell_of h3 rfl, cell_of h3 rfl, cell_of h3 rfl, h4, h5⟩
/-- the cells of a box of five in a later world -/
theorem box5 {W : World} {B : Nat} {a0 a1 a2 a3 a4 : Value} {T : TypeId} (h : W.heap[B]? = some (.cells #[a0, a1, a2, a3, a4] T (0, 0))) :
    W.cell? ⟨B, 0, none⟩ = some a0 ∧ W.cell? ⟨B, 1, none⟩ = some a1 ∧ W.cell? ⟨B, 2, none⟩ = some a2 ∧ W.cell? ⟨B, 3, none⟩ = some a3 ∧ W.cell? ⟨B, 4, none⟩ = some a4 ∧ (∀ i, W.frozen? ⟨B, i, none⟩ = false) :=
  ⟨cell_of h rfl, cell_of h rfl, cell_of h rfl, cell_of h rfl, cell_of h rfl, fun i => free_of h⟩

/-- two boxes laid one after the other -/
theorem two_boxes (w : World) (a0 a1 a2 a3 a4 b0 b1 b2 b3 b4 : Value) (T : TypeId) :
    ((w.alloc (.cells #[a0, a1, a2, a3, a4] T)).alloc (.cells #[b0, b1, b2, b3, b4] T)).heap[w.heap.size]? = some (.cells #[a0, a1, a2, a3, a4] T (0, 0)) ∧
    ((w.alloc (.cells #[a0, a1, a2, a3, a4] T)).alloc (.cells #[b0, b1, b2, b3, b4] T)).heap[w.heap.size + 1]? = some (.cells #[b0, b1, b2, b3, b4] T (0, 0)) ∧
    Ext w ((w.alloc (.cells #[a0, a1, a2, a3, a4] T)).alloc (.cells #[b0, b1, b2, b3, b4] T)) := by
  refine ⟨(Below.heap_alloc _ _ w.heap.size (by simp)).trans (alloc_here _ _), ?_, ((Below.refl _ w).alloc (Nat.le_refl _) _).alloc (by simp) _⟩
  have h := alloc_here (w.alloc (.cells #[a0, a1, a2, a3, a4] T)) (.cells #[b0, b1, b2, b3, b4] T)
  rw [World.size_alloc] at h; exact h

set_option maxHeartbeats 2000000 in
theorem Fold1_any (e : Ex) (hfe : e.fe = 0) (p : Option Addr) (c : Nat) (w : World) (hA : Ex.At w p e) :
    Calls Tryz.prog 57 #[e.val p c] w fun r w' => Ext w w' ∧ ∃ q d, r = .returned (.tuple #[(lit (cst e).1).val q d, .bool (cst e).2]) ∧ AtB (w.heap.size ≤ ·) w' q (lit (cst e).1) := by
  have C1 := Lib.hid (fun W (h : Ext w W) => show Gives _ _ #[.agg #[.int .i64 e.kind, .int .i64 e.op, sV e.name, .int .i64 e.value, .slice p e.args.length c]] _ _ from constant_any e hfe p c W (hA.below h))
  have C2 := Lib.hid (fun W => literal_any (cst e).1 W (cst_bd hfe).1 (cst_bd hfe).2)
  generalize cst e = r at *
  obtain ⟨n, is⟩ := r
  clear hfe hA
  dsimp only at C1 C2 ⊢
  generalize lit n = T at *
  have hv : e.val p c = .agg #[.int .i64 e.kind, .int .i64 e.op, sV e.name, .int .i64 e.value, .slice p e.args.length c] := rfl
  rw [hv]
  clear hv
  generalize e.kind = k1 at *
  generalize e.op = o1 at *
  generalize e.name = n1 at *
  generalize e.value = v1 at *
  generalize e.args.length = l1 at *
  obtain ⟨hb0, hb1, hE0⟩ := two_boxes w (.int .i64 k1) (.int .i64 o1) (sV n1) (.int .i64 v1) (.slice p l1 c) (.int .i64 0) (.int .i64 0) (.string { data := #[] }) (.int .i64 0) (.slice none 0 0) tEx
  have D1 := Lib.hid (C1.out _ hE0)
  have HB1 := Lib.hid hb1
  have HE0 := Lib.hid hE0
  clear hb0 hb1 hE0 C1
  go_enter Tryz.func57, Tryz.ntmps57
  go_wp2_with fail
  refine D1.out.mono ?_
  intro w1 hB1
  replace hB1 : Ext _ w1 := hB1
  have HB1' := Lib.hid ((hB1.below.block _ (lt_of_block HB1.out)).trans HB1.out)
  have HW1 := Lib.hid (Ext.trans HE0.out hB1)
  clear hB1 D1 HE0
  go_wp2_with fail
  refine (C2.out w1).mono ?_
  rintro _ w2 ⟨q, d, rfl, hT, hE2⟩
  have hbr := (hE2.below.block _ (lt_of_block HB1'.out)).trans HB1'.out
  obtain ⟨e0, e1, e2, e3, e4, f0⟩ := box5 hbr
  have HBR := Lib.hid hbr
  have HT := Lib.hid (hT.imp (S' := fun b => w.heap.size + 2 ≤ b) (fun b hb _ => by have := lt_of_block HB1'.out; omega))
  have HW2 := Lib.hid (Ext.trans HW1.out hE2)
  have HL := Lib.hid (lt_of_block HB1'.out)
  clear hbr hT hE2 C2 HB1'
  unfold Ex.val
  go_wp2
  obtain ⟨V, hV, g0, g1, g2, g3, g4, h4, h5⟩ := put5b HBR.out (.int .i64 T.kind) (.int .i64 T.op) (sV T.name) (.int .i64 T.value) (.slice q T.args.length d)
  rw [hV]
  have hl := HL.out
  refine bodyPost_ret (v := .tuple #[.agg #[.int .i64 T.kind, .int .i64 T.op, sV T.name, .int .i64 T.value, .slice q T.args.length d], .bool is]) (by simp [results, Tryz.f57, go_sem, g0, g1, g2, g3, g4, sB_nil]) rfl ⟨Below.trans HW2.out (h4 _ (by omega)), q, d, rfl, HT.out.keep (fun b hb hb2 => ⟨by omega, h5 b (by omega)⟩)⟩


end Go.Proofs.YtgkalcboklhdgaaGreatDoor

namespace Go.Proofs.YtgkalcboklhdgaaGreatDoor
open Go.RowKit
set_option linter.unusedVariables false

/-- from n on each operation waits for all before it -/
def tailB (l : List Oper) (n : Nat) : Bool := (List.range l.length).all fun j => decide (j < n) || (List.range j).all fun i => ancB l l.length j i
theorem tailB_spec {l : List Oper} {n : Nat} (h : tailB l n = true) {i j : Nat} (hj : j < l.length) (hn : n ≤ j) (hi : i < j) : ancB l l.length j i = true := by
  have h1 := List.all_eq_true.1 h j (List.mem_range.2 hj)
  simp only [Bool.or_eq_true, decide_eq_true_eq] at h1
  rcases h1 with h1 | h1
  · omega
  · exact List.all_eq_true.1 h1 i (List.mem_range.2 hi)

theorem getD_of_lt {listed : Array Bool} {i : Nat} (hi : i < listed.size) (d d' : Bool) : listed.getD i d = listed.getD i d' := by
  simp [Array.getD_eq_getD_getElem?, Array.getElem?_eq_getElem hi]

/-- the tail -/
theorem tail_any {P : Program} {Q : Exit → Act → World → Prop} {l : List Oper} {n : Nat} (hback : backB l = true) (ht : tailB l n = true) :
    ∀ (rest : List Oper) (k : Nat) (listed : Array Bool) (a : Act) (W : World), rest = l.drop k → n ≤ k → k ≤ l.length → listed.size = l.length → (∀ j, j < k → listed.getD j false = true) → (∀ j, k ≤ j → listed.getD j false = false) →
      wpList P l.toArray Q rest a W → wpAny P .any l.toArray Q (l.length - k) listed a W := by
  intro rest
  induction rest with
  | nil =>
    intro k listed a W hr hn hk hs h1 h2 hw
    have hkl : l.length = k := by
      have := congrArg List.length hr
      simp at this; omega
    have h0 : Region.ready .any l.toArray listed = [] := by
      apply List.eq_nil_iff_forall_not_mem.2
      intro i hi
      obtain ⟨g1, o, ho, _⟩ := mem_ready.1 hi
      have hi' : i < l.length := by have := (Array.getElem?_eq_some_iff.1 ho).1; simpa using this
      rw [getD_of_lt (by omega) true false, h1 i (by omega)] at g1
      cases g1
    rw [show l.length - k = 0 by omega]
    exact ⟨h0, hw⟩
  | cons o rest ih =>
    intro k listed a W hr hn hk hs h1 h2 hw
    have hkl : k < l.length := by
      have := congrArg List.length hr
      simp at this; omega
    have hlk : l[k]? = some o := by
      have := congrArg (·[0]?) hr
      simp at this
      simpa using this.symm
    have hrest : rest = l.drop (k + 1) := by
      have := congrArg List.tail hr
      simpa using this
    have hkr : k ∈ Region.ready .any l.toArray listed := by
      rw [mem_ready]
      refine ⟨by rw [getD_of_lt (by omega) true false]; exact h2 k (Nat.le_refl _), o, by simpa using hlk, fun e he hb => ?_⟩
      exact h1 e.on (backB_spec hback hlk he hb)
    rw [show l.length - k = (l.length - (k + 1)) + 1 by omega]
    refine ⟨fun h0 => absurd hkr (by rw [h0]; simp), fun i hi => ?_⟩
    obtain ⟨g1, oi, hoi, hwait⟩ := mem_ready.1 hi
    have hoi' : l[i]? = some oi := by simpa using hoi
    have hil : i < l.length := (List.getElem?_eq_some_iff.1 hoi').1
    have hik : i = k := by
      rw [getD_of_lt (by omega) true false] at g1
      rcases Nat.lt_trichotomy i k with h | h | h
      · rw [h1 i h] at g1; cases g1
      · exact h
      · exfalso
        have ha := tailB_spec ht hil (by omega) h
        revert ha
        cases hL : l.length with
        | zero => omega
        | succ m =>
          intro ha
          unfold ancB at ha
          rw [hoi'] at ha
          obtain ⟨e, he, hh⟩ := List.any_eq_true.1 ha
          simp only [Bool.and_eq_true, Bool.or_eq_true, decide_eq_true_eq] at hh
          have h3 := hwait e (by simpa using he) hh.1
          have h4 : e.on < k := by
            rcases Nat.lt_or_ge e.on k with h5 | h5
            · exact h5
            · rw [h2 e.on h5] at h3; cases h3
          rcases hh.2 with h5 | h5
          · omega
          · have := anc_back hback _ _ _ h5; omega
    subst hik
    have hK : ∀ a' W', wpList P l.toArray Q rest a' W' → wpAny P .any l.toArray Q (l.length - (i + 1)) (listed.setIfInBounds i true) a' W' := by
      intro a' W' hw'
      refine ih (i + 1) _ a' W' hrest (by omega) hkl (by simpa using hs) (fun j hj => ?_) (fun j hj => ?_) hw'
      · by_cases e : j = i
        · subst e; simp [Array.getD_eq_getD_getElem?, hs, hkl]
        · rw [getD_set_ne false (Ne.symm e)]; exact h1 j (by omega)
      · rw [getD_set_ne false (by omega)]; exact h2 j (by omega)
    unfold wpOp
    rw [show l.toArray[i]? = some o by simpa using hlk]
    unfold wpList at hw
    dsimp only
    split
    · rename_i hwant
      rw [if_pos hwant] at hw
      exact hw.imp (Oper.wp_mono hK) id
    · rename_i hwant
      rw [if_neg hwant] at hw
      exact hK _ _ hw

theorem wp_region_tail {P : Program} {id : Nat} {Q : Exit → Act → World → Prop} {a : Act} {w : World} {l1 l2 : List Oper} (hm : P.follows .mixedOrders = true)
    (R : World → World → Prop) (hRr : ∀ W, R W W) (hR0 : ∀ W : World, R W { W with drawn := W.drawn + 1 }) (hRt : ∀ {A B C}, R A B → R B C → R A C)
    (Φ : Nat → (Nat → Value) → World → Prop) (D : Nat → List Nat) (hst : ∀ j s s' W W', Φ j s W → (∀ k ∈ D j, s' k = s k) → R W W' → Φ j s' W')
    (hback : backB (l1 ++ l2) = true) (hun : uniqB (l1 ++ l2) = true) (hreads : readsB (l1 ++ l2) D = true) (N : Nat) (hN : a.tmps.size = N) (hinB : (((l1 ++ l2).filterMap (·.dst)).all fun d => decide (d < N)) = true)
    (htail : tailB (l1 ++ l2) l1.length = true)
    (hstep : ∀ (i : Nat) o, l1[i]? = some o → ∀ a' W, AtG (l1 ++ l2) R Φ a w i o a' W → GoesG P (l1 ++ l2) R Φ i o a' W Q)
    (hend : ∀ (vs : List Value) W, vs.length = l1.length → R w W → (∀ j, j < l1.length → Φ j (fun k => vs.getD k undef) W) → wpList P (l1 ++ l2).toArray Q l2 (putAll l1 vs a) W) :
    (Code.region id (l1 ++ l2).toArray true).wp P Q a w := by
  have hin : ∀ d ∈ (l1 ++ l2).filterMap (·.dst), d < a.tmps.size := fun d hd => by rw [hN]; exact of_decide_eq_true (List.all_eq_true.1 hinB d hd)
  generalize hl : l1 ++ l2 = l at *
  have hl1 : ∀ j, j < l1.length → l1[j]? = l[j]? := fun j hj => by rw [← hl, List.getElem?_append_left hj]
  have hlen : l1.length ≤ l.length := by rw [← hl]; simp
  have hdrop : l2 = l.drop l1.length := by rw [← hl]; simp
  refine wp_region_any hm ?_
  have fin : ∀ (listed : Array Bool) (a' : Act) (W : World), listed.toList.count false = l.length - l1.length → (∀ j, l1.length ≤ j → listed.getD j false = false) → (∀ j, j < l1.length → listed.getD j false = true) → InvG l R Φ a w listed a' W →
      wpAny P .any l.toArray Q (l.length - l1.length) listed a' W := by
    intro listed a' W hc hlo hall hI
    refine tail_any hback htail l2 l1.length listed a' W hdrop (Nat.le_refl _) hlen hI.lsize hall hlo ?_
    have e : a' = putAll l1 (l1.map fun o => match o.dst with | none => undef | some d => a'.tmps.getD d undef) a := by
      refine act_eq (by rw [putAll_size]; exact hI.size) (by rw [putAll_defers]; exact hI.defers) ?_
      intro d hlt
      by_cases hm : d ∈ l1.filterMap (·.dst)
      · obtain ⟨o, ho, hod⟩ := List.mem_filterMap.1 hm
        obtain ⟨j, hj⟩ := List.getElem?_of_mem ho
        have hjl : j < l1.length := (List.getElem?_eq_some_iff.1 hj).1
        rw [putAll_self l1 _ a j o d (by simp) hj hod (fun i p hp e => uniqB_spec hun (by rw [← hl1 i (List.getElem?_eq_some_iff.1 hp).1]; exact hp) (by rw [← hl1 j hjl]; exact hj) e hod) (by rw [← hI.size]; exact hlt)]
        rw [List.getD_eq_getElem?_getD, List.getElem?_map, hj]
        simp [hod]
      · rw [putAll_other l1 _ a d (fun o ho e => hm (List.mem_filterMap.2 ⟨o, ho, e⟩))]
        refine hI.old d (fun j oj hj hd => ?_)
        rcases Nat.lt_or_ge j l1.length with h | h
        · exact absurd (List.mem_filterMap.2 ⟨oj, List.mem_of_getElem? (by rw [hl1 j h]; exact hj), hd⟩) hm
        · exact hlo j h
    rw [e]
    refine hend _ W (by simp) hI.rel (fun j hj => ?_)
    refine hst j _ _ W W (hI.new j (by omega) (hall j hj)) (fun k hk => ?_) (hRr W)
    have hkj : k ≤ j := by
      have h1 := List.all_eq_true.1 (List.all_eq_true.1 hreads j (List.mem_range.2 (by omega))) k hk
      simp only [Bool.or_eq_true, decide_eq_true_eq] at h1
      rcases h1 with h1 | h1
      · omega
      · exact Nat.le_of_lt (anc_back hback _ _ _ h1)
    have hkl : k < l1.length := by omega
    unfold sv
    rw [List.getD_eq_getElem?_getD, List.getElem?_map, hl1 k hkl]
    cases hk : l[k]? with
    | none => rfl
    | some o => cases hod : o.dst <;> simp [hod]
  have main : ∀ (fuel : Nat) (listed : Array Bool) (a' : Act) (W : World), listed.toList.count false = fuel → (∀ j, l1.length ≤ j → listed.getD j false = false) → InvG l R Φ a w listed a' W → wpAny P .any l.toArray Q fuel listed a' W := by
    intro fuel
    have cnt : ∀ (listed : Array Bool), listed.size = l.length → (∀ j, l1.length ≤ j → listed.getD j false = false) → (∀ j, j < l1.length → listed.getD j false = true) → listed.toList.count false = l.length - l1.length := by
      intro listed hs hlo hall
      have e : listed.toList = List.replicate l1.length true ++ List.replicate (l.length - l1.length) false := by
        apply List.ext_getElem?
        intro i
        by_cases hi : i < listed.size
        · have hg : ∀ b, listed.getD i false = b → listed.toList[i]? = some b := fun b hb => by
            rw [getD_of_lt hi false true] at hb
            simp only [Array.getD_eq_getD_getElem?, Array.getElem?_eq_getElem hi, Option.getD_some] at hb
            simp [hi, hb]
          by_cases h : i < l1.length
          · rw [hg true (hall i h), List.getElem?_append_left (by simpa using h)]
            simp [h]
          · rw [hg false (hlo i (by omega)), List.getElem?_append_right (by simp; omega), List.getElem?_replicate, if_pos (by rw [List.length_replicate]; omega)]
        · rw [List.getElem?_eq_none (by simpa using hi), List.getElem?_eq_none (by simp; omega)]
      rw [e, List.count_append, List.count_replicate, List.count_replicate]
      simp
    induction fuel with
    | zero =>
      intro listed a' W hc hlo hI
      have hall' : ∀ i, i < l.length → listed.getD i false = true := by
        intro i hi
        have hi' : i < listed.size := by rw [hI.lsize]; exact hi
        cases hb : listed.getD i false with
        | true => rfl
        | false =>
          exfalso
          have : false ∈ listed.toList := by
            simp only [Array.getD_eq_getD_getElem?, Array.getElem?_eq_getElem hi', Option.getD_some] at hb
            rw [← hb]; simp
          have := List.count_pos_iff.2 this
          omega
      have hall : ∀ i, i < l1.length → listed.getD i false = true := fun i hi => hall' i (by omega)
      have hc2 := cnt listed hI.lsize hlo hall
      have := fin listed a' W hc2 hlo hall hI
      rw [show l.length - l1.length = 0 by omega] at this
      exact this
    | succ fuel ih =>
      intro listed a' W hc hlo hI
      by_cases hall : ∀ j, j < l1.length → listed.getD j false = true
      · have hc2 := cnt listed hI.lsize hlo hall
        have := fin listed a' W hc2 hlo hall hI
        rw [show l.length - l1.length = fuel + 1 by omega] at this
        exact this
      · obtain ⟨j0, hj0⟩ := Classical.not_forall.1 hall
        obtain ⟨hj0l, hj0f⟩ := Classical.not_imp.1 hj0
        refine ⟨fun h0 => ?_, fun i hi => ?_⟩
        · exact absurd (all_listed hback hI.lsize h0 j0 (by omega)) hj0f
        · obtain ⟨hl0, o, ho, hwait⟩ := mem_ready.1 hi
          have ho' : l[i]? = some o := by simpa using ho
          have hil : i < l.length := (List.getElem?_eq_some_iff.1 ho').1
          have hil' : i < listed.size := by rw [hI.lsize]; exact hil
          have hlf : listed.getD i false = false := by
            rw [getD_of_lt hil' false true]; exact hl0
          have hanc : ∀ n k, ancB l n i k = true → listed.getD k false = true := by
            intro n k hk
            cases n with
            | zero => simp [ancB] at hk
            | succ n =>
              unfold ancB at hk
              rw [ho'] at hk
              obtain ⟨e, he, hh⟩ := List.any_eq_true.1 hk
              simp only [Bool.and_eq_true, Bool.or_eq_true, decide_eq_true_eq] at hh
              have h1 := hwait e (by simpa using he) hh.1
              rcases hh.2 with h2 | h2
              · rw [← h2]; exact h1
              · exact hI.down.anc n e.on k h1 h2
          have hi1 : i < l1.length := by
            rcases Nat.lt_or_ge i l1.length with h | h
            · exact h
            · exact absurd (hanc _ _ (tailB_spec htail hil h (by omega : j0 < i))) hj0f
          have hAt : AtG l R Φ a w i o a' W := ⟨hI.rel, hI.size, hI.defers,
            fun d hd => hI.old d (fun j oj hj hdj => by
              have hji := hd j oj hj hdj
              cases hlj : listed.getD j false with
              | false => rfl
              | true =>
                have := hI.down.anc _ j i hlj hji
                rw [hlf] at this; cases this),
            fun j hj ha => hI.new j hj (hanc _ j ha)⟩
          have hG := hstep i o (by rw [hl1 i hi1]; exact ho') a' W hAt
          have hnext : ∀ v W2, R W W2 → (∀ s : Nat → Value, (o.dst.isSome = true → s i = v) → (∀ k, k ≠ i → ancB l l.length i k = true → s k = sv l a' k) → Φ i s W2) → wpAny P .any l.toArray Q fuel (listed.setIfInBounds i true) (a'.put o.dst v) W2 := by
            intro v W2 hR hv
            have hin' : ∀ d ∈ l.filterMap (·.dst), d < a'.tmps.size := fun d hd => by rw [hI.size]; exact hin d hd
            have hset : ∀ j, j ≠ i → (listed.setIfInBounds i true).getD j false = listed.getD j false := fun j hj => getD_set_ne false (Ne.symm hj)
            refine ih _ _ _ ?_ (fun j hj => by rw [hset j (by omega)]; exact hlo j hj) ?_
            · have := count_set listed.toList i (by simp [hil']; simpa [Array.getD_eq_getD_getElem?, hil'] using hlf)
              rw [Array.toList_setIfInBounds]; omega
            · refine ⟨hRt hI.rel hR, by simpa using hI.lsize, by rw [put_size]; exact hI.size, by rw [put_defers]; exact hI.defers, ?_, ?_, ?_⟩
              · intro d hd
                have hne : o.dst ≠ some d := fun e => by
                  have := hd i o ho' e
                  simp [Array.getD_eq_getD_getElem?, hil'] at this
                rw [put_other hne]
                refine hI.old d (fun j oj hj hdj => ?_)
                by_cases hji : j = i
                · subst hji; exact hlf
                · have := hd j oj hj hdj
                  rwa [hset j hji] at this
              · intro j hj hlj
                by_cases hji : j = i
                · subst hji
                  exact hv _ (fun hd => sv_put_self ho' hin' hd) (fun k hk _ => sv_put_other hun ho' hk)
                · rw [hset j hji] at hlj
                  refine hst j _ _ _ _ (hI.new j hj hlj) (fun k hk => sv_put_other hun ho' ?_) hR
                  rintro rfl
                  have h1 := List.all_eq_true.1 (List.all_eq_true.1 hreads j (List.mem_range.2 hj)) k hk
                  simp only [Bool.or_eq_true, decide_eq_true_eq] at h1
                  rcases h1 with h1 | h1
                  · exact hji h1.symm
                  · have := hI.down.anc _ j k hlj h1
                    rw [hlf] at this; cases this
              · intro j oj hj hlj e he hb
                by_cases hji : j = i
                · subst hji
                  rw [ho'] at hj; cases hj
                  exact getD_set_true (hwait e he hb)
                · rw [hset j hji] at hlj
                  exact getD_set_true (hI.down j oj hj hlj e he hb)
          unfold wpOp
          rw [show l.toArray[i]? = some o by simpa using ho']
          unfold GoesG at hG
          by_cases hwant : Region.wanted o (yielded l.toArray a'.tmps) = true
          · rw [if_pos hwant] at hG
            simp only [hwant, if_true]
            exact .inl (Oper.wp_mono (fun a2 W2 ⟨v, e, hR, hv⟩ => by rw [e]; exact hnext v W2 hR hv) hG)
          · rw [if_neg hwant] at hG
            simp only [hwant]
            exact hnext undef W hG.1 hG.2
  have h0 := main l.length (Array.replicate l.length false) a { w with drawn := w.drawn + 1 } (by simp) (fun j _ => getD_false _ _)
    ⟨hR0 w, by simp, rfl, rfl, fun _ _ => rfl, (fun j _ h => by rw [getD_false] at h; cases h), (fun j oj _ h => by rw [getD_false] at h; cases h)⟩
  simpa using h0

end Go.Proofs.YtgkalcboklhdgaaGreatDoor

namespace Go.Proofs.YtgkalcboklhdgaaGreatDoor
open Go.RowKit
set_option linter.unusedVariables false
set_option linter.unusedSimpArgs false
open Ex

/-- where the row lies behind an append: where it lay, or in new memory -/
theorem app_where {w : World} {base : Nat} {v : Value} {rs : List XE} (h : RowE base v rs w) (x : Addr) (r : XE) (hx : ∀ j u, (ec r)[j]? = some u → w.cell? (x.add j) = some u) (hlen : rs.length ≤ 2199023255488) (hbase : base ≤ w.heap.size) :
    ∃ v' w', (Builtin.append_ #[22, 22] 22 #[v, .slice (some x) 1 1]).run Tryz.prog w = .ok v' w' ∧ RowE base v' (rs ++ [r]) w' ∧ w.grownBy w' v.ownBlock ∧ (∀ g, v'.ownBlock = some g → v.ownBlock = some g ∨ w.heap.size ≤ g) := by
  obtain ⟨i0, hi, hz0, hz1, hz2⟩ := info_parts infoEx
  have hl1 : (ec r).length = 1 * 5 := rfl
  have h1 : ∀ u ∈ ec r, u.oneCell' = true := fun u hu => rowC_one [r] u (by simpa [rowC] using hu)
  obtain ⟨v', w', hr, h2, h3, h4⟩ := run_append_own (P := Tryz.prog) w base 22 22 tEx i0 (.agg #[.int .i64 0, .int .i64 0, sV [], .int .i64 0, .slice none 0 0]) 5 64 Tryz.underlying22 hi hz0 hz1 hz2 rfl (by decide) v rs.length (rowC rs) h x 1 1 (ec r) hl1 hx h1 (by unfold maxLen; omega) (by omega) hbase
  have h5 : RowE base v' (rs ++ [r]) w' := by
    unfold RowE
    rw [rowC_app, List.length_append]
    simpa [rowC] using h2
  refine ⟨v', w', hr, h5, h3, ?_⟩
  intro g hg
  have hl2 : (ec r).length = 1 * i0.size := by rw [hz1]; rfl
  have hl3 : (rowC rs).length = rs.length * i0.size := by rw [hz1]; exact rowC_length rs
  rcases h.2 with ⟨rfl, hn⟩ | ⟨g0, cap, cur, rfl, hbg, hg0, hnc, hcm, hcs, htake⟩
  · have hr2 := run_append_nil (P := Tryz.prog) w 22 22 tEx i0 _ Tryz.underlying22 hi hz0 x 1 1 (ec r) hl2 hx (by omega) (by omega) (by rw [hz2]; omega)
    rw [hr2] at hr
    cases hr
    cases hg
    exact .inr (Nat.le_refl _)
  · by_cases hroom : rs.length + 1 ≤ cap
    · have hfit : rs.length * i0.size + (ec r).length ≤ cur.size := by rw [hl1, hcs, hz1]; omega
      have hr2 := run_append_room (P := Tryz.prog) w 22 22 tEx i0 Tryz.underlying22 hi g0 rs.length cap cur hg0 x 1 1 (ec r) hl2 hx h1 hroom hfit
      rw [hr2] at hr
      cases hr
      cases hg
      exact .inl rfl
    · have hr2 := run_append_grow (P := Tryz.prog) w 22 22 tEx i0 _ Tryz.underlying22 hi hz0 ⟨g0, 0, none⟩ rs.length cap (rowC rs) hl3 (World.ownsRow.cells (g := g0) h rfl) x 1 1 (ec r) hl2 hx (by omega) (by omega) (growslice_fits (by omega) (by rw [hz2]; omega))
      rw [hr2] at hr
      cases hr
      cases hg
      exact .inr (Nat.le_refl _)

variable {ops : Array Oper} {rest : List Oper} {o : Oper} {a : Act} {Q : Exit → Act → World → Prop}
theorem wp_appE (hgd : o.guard = none) (s x : Operand) (ho : o.op = .call { callee := .builtin .append, args := #[s, x], argTypes := #[22, 22] }) (hty : o.type = 22)
    (base : Nat) (v : Value) (rs : List XE) (hs : a.eval s = v) (W : World) (h : RowE base v rs W) (r : XE) (hx : a.eval x = .slice (some ⟨W.heap.size, 0, none⟩) 1 1) (hlen : rs.length ≤ 2199023255488) (hbase : base ≤ W.heap.size)
    (hK : ∀ v' w', RowE base v' (rs ++ [r]) w' → Below base W w' → (∀ b, b < W.heap.size → v.ownBlock ≠ some b → w'.heap[b]? = W.heap[b]? ∧ v'.ownBlock ≠ some b) → wpList Tryz.prog ops Q rest (a.put o.dst v') w') : wpList Tryz.prog ops Q (o :: rest) a (W.alloc (.cells #[.int .i64 r.1.kind, .int .i64 r.1.op, sV r.1.name, .int .i64 r.1.value, .slice r.2.1 r.1.args.length r.2.2] tEx)) := by
  have hb := alloc_here W (.cells #[.int .i64 r.1.kind, .int .i64 r.1.op, sV r.1.name, .int .i64 r.1.value, .slice r.2.1 r.1.args.length r.2.2] tEx)
  have hE : Ext W (W.alloc (.cells #[.int .i64 r.1.kind, .int .i64 r.1.op, sV r.1.name, .int .i64 r.1.value, .slice r.2.1 r.1.args.length r.2.2] tEx)) := (Below.refl _ W).alloc (Nat.le_refl _) _
  have hB : Below base W (W.alloc (.cells #[.int .i64 r.1.kind, .int .i64 r.1.op, sV r.1.name, .int .i64 r.1.value, .slice r.2.1 r.1.args.length r.2.2] tEx)) := (Below.refl _ W).alloc hbase _
  have hsz : W.heap.size ≤ (W.alloc (.cells #[.int .i64 r.1.kind, .int .i64 r.1.op, sV r.1.name, .int .i64 r.1.value, .slice r.2.1 r.1.args.length r.2.2] tEx)).heap.size := by simp
  have hcell : ∀ j u, (ec r)[j]? = some u → (W.alloc (.cells #[.int .i64 r.1.kind, .int .i64 r.1.op, sV r.1.name, .int .i64 r.1.value, .slice r.2.1 r.1.args.length r.2.2] tEx)).cell? ((⟨W.heap.size, 0, none⟩ : Addr).add j) = some u := by
    intro j u hu
    have e : (⟨W.heap.size, 0, none⟩ : Addr).add j = ⟨W.heap.size, j, none⟩ := by unfold Addr.add; split <;> simp_all
    rw [e]
    exact cell_of hb (by simpa [ec] using hu)
  obtain ⟨v', w', hr, h2, h3, h4⟩ := app_where (h.ext hE) ⟨W.heap.size, 0, none⟩ r hcell hlen (by omega)
  refine wpList_plain hgd fun K hKK => ?_
  unfold Oper.wp
  simp only [execOp, ho, hty, resolve, invoke, builtin, Sem.run_bind, Sem.run_pure, Result.andThen_ok, List.map_toArray, List.map_cons, List.map_nil, hs, hx, hr]
  refine hKK _ _ (hK v' w' h2 ?_ (fun b hb1 hb2 => ⟨?_, fun e => ?_⟩))
  · exact hB.grown h3 (by omega) (fun k e => (World.ownsRow.lt h k e).1)
  · exact (h3.block b (by omega) (fun e => hb2 e.symm)).trans (hE.below.block b hb1)
  · rcases h4 b e with h5 | h5
    · exact hb2 h5
    · omega

end Go.Proofs.YtgkalcboklhdgaaGreatDoor

namespace Go.Proofs.YtgkalcboklhdgaaGreatDoor
open Go.RowKit
set_option linter.unusedVariables false
set_option linter.unusedSimpArgs false
open Ex

/-- the class of blocks of what a row's elements became -/
def OffV (w₀ w : World) (v : Value) (b : Nat) : Prop := (b < w₀.heap.size ∨ w.heap.size ≤ b) ∧ v.ownBlock ≠ some b
/-- a row of the first elements' images -/
def AppInv (f : Ex → Ex) (w₀ w : World) (ts : List Ex) (v : Value) (rj : List XE) (wr : World) : Prop :=
  ∀ i (h : i < rj.length) (h2 : i < ts.length), rj[i].1 = f ts[i] ∧ AtB (OffV w₀ w v) wr rj[i].2.1 (f ts[i])
theorem AppInv.start {f : Ex → Ex} {w₀ w : World} {ts : List Ex} {v : Value} {wr : World} : AppInv f w₀ w ts v [] wr := fun i h _ => by simp at h
theorem AppInv.ext {f : Ex → Ex} {w₀ w : World} {ts : List Ex} {v : Value} {rj : List XE} {wr W : World} (h : AppInv f w₀ w ts v rj wr) (hE : Ext wr W) : AppInv f w₀ w ts v rj W :=
  fun i h1 h2 => ⟨(h i h1 h2).1, (h i h1 h2).2.ext hE⟩
theorem AppInv.step {f : Ex → Ex} {w₀ w : World} {ts : List Ex} {v v' : Value} {rj : List XE} {wr W : World} (h : AppInv f w₀ w ts v rj wr) (hj : rj.length < ts.length) (q : Option Addr) (d : Nat)
    (hk : ∀ b, b < wr.heap.size → v.ownBlock ≠ some b → W.heap[b]? = wr.heap[b]? ∧ v'.ownBlock ≠ some b) (hA : AtB (OffV w₀ w v) wr q (f ts[rj.length])) : AppInv f w₀ w ts v' (rj ++ [(f ts[rj.length], q, d)]) W := by
  have hK : ∀ {p : Option Addr} {e : Ex}, AtB (OffV w₀ w v) wr p e → AtB (OffV w₀ w v') W p e := fun h => h.keep (fun b hb hl => ⟨⟨hb.1, (hk b hl hb.2).2⟩, (hk b hl hb.2).1⟩)
  intro i h1 h2
  by_cases hi : i < rj.length
  · rw [List.getElem_append_left hi]
    exact ⟨(h i hi h2).1, hK (h i hi h2).2⟩
  · have hie : i = rj.length := by simp at h1; omega
    subst hie
    rw [List.getElem_append_right (Nat.le_refl _)]
    simp only [Nat.sub_self, List.getElem_cons_zero]
    exact ⟨trivial, hK hA⟩
/-- the row is an expression's -/
theorem AppInv.done {f : Ex → Ex} {w₀ w : World} {ts : List Ex} {base : Nat} {v : Value} {rj : List XE} {wr : World} {S : Nat → Prop} (h : AppInv f w₀ w ts v rj wr) (hl : rj.length = ts.length)
    (hrow : RowE base v rj wr) {k o x : Int} {n : List UInt8} (hf : fits (.mk k o n x ts)) (hS : ∀ b, base ≤ b → S b) (hSS : ∀ b, b < w₀.heap.size ∨ w.heap.size ≤ b → S b) :
    ∃ p cap, v = .slice p ts.length cap ∧ ∀ W, (∀ b, base ≤ b ∨ b < w₀.heap.size ∨ w.heap.size ≤ b → b < wr.heap.size → W.heap[b]? = wr.heap[b]?) → AtB S W p (.mk k o n x (ts.map f)) := by
  have hfit : fits (.mk k o n x (ts.map f)) := by
    obtain ⟨f1, f2, f3, f4, f5⟩ := hf
    refine ⟨f1, f2, f3, f4, ?_⟩
    show (ts.map f).length ≤ _
    rw [List.length_map]; exact f5
  rcases hrow.forms with ⟨rfl, hr0⟩ | ⟨g, cap, rfl, hgb, hgl⟩
  · have h0 : ts.length = 0 := by rw [← hl, hr0]; rfl
    have h1 := List.eq_nil_of_length_eq_zero h0
    subst h1
    exact ⟨none, 0, rfl, fun W _ => ⟨hfit, trivial⟩⟩
  · refine ⟨some ⟨g, 0, none⟩, cap, by rw [hl], fun W hk => ⟨hfit, AtBL.of_get (fun _ => hS g hgb) (fun i hi => ?_)⟩⟩
    rw [List.length_map] at hi
    have hi2 : i < rj.length := by rw [hl]; exact hi
    obtain ⟨e1, e2⟩ := h i hi2 hi
    refine ⟨rj[i].2.1, rj[i].2.2, ?_, ?_⟩
    · rw [List.getElem_map, ← e1, Nat.zero_add, Nat.zero_add]
      exact (RowE.cells hrow i hi2).block (hk g (.inl hgb) hgl)
    · rw [List.getElem_map]
      exact e2.keep (fun b hb hb2 => ⟨hSS b hb.1, hk b (.inr hb.1) hb2⟩)
theorem RowE.empty (w : World) (base : Nat) (hb : base ≤ w.heap.size) : RowE base (.slice (some ⟨w.heap.size, 0, none⟩) 0 0) [] (w.alloc (.cells #[] tEx)) :=
  World.ownsRow_lit w #[] 0 hb (by unfold maxLen; omega) (by simp)

end Go.Proofs.YtgkalcboklhdgaaGreatDoor

namespace Go.Proofs.YtgkalcboklhdgaaGreatDoor
open Go.RowKit
set_option linter.unusedVariables false
set_option linter.unusedSimpArgs false
open Ex

/-- the empty expression -/
def exZ : Ex := .mk 0 0 [] 0 []
theorem exZ_fits : fits exZ := by
  refine ⟨⟨by show _ ≤ (0 : Int); omega, by show (0 : Int) ≤ _; omega⟩, ⟨by show _ ≤ (0 : Int); omega, by show (0 : Int) ≤ _; omega⟩, by show ([] : List UInt8).length ≤ _; simp, ⟨by show _ ≤ (0 : Int); omega, by show (0 : Int) ≤ _; omega⟩, by show ([] : List Ex).length ≤ _; simp⟩
theorem exZ_at (w : World) (p : Option Addr) : Ex.At w p exZ := ⟨exZ_fits, trivial⟩
/-- what Fold returns -/
def fdR (e : Ex) : Ex × Int := if e.chk ≠ 0 then (exZ, e.chk) else (mp foldOne e, 0)

theorem Fold1_one (w₀ : World) : OneFn foldOne w₀ (fun _ => True) 57 #[] (fun e => e.fe = 0) where
  ent := enters_fn Tryz.func57 (by kernel_rfl) rfl
  down := fun k o n v ts h t ht => by obtain ⟨j, hj, rfl⟩ := List.getElem_of_mem ht; exact fes_get (fe_mk h).2 j hj
  keep := fun _ _ h _ => h
  run := fun e p c W hW _ hA hfe => (Fold1_any e hfe p c W (hA.below hW)).mono fun r w' ⟨h1, q, d, h2, h3⟩ => ⟨h1, lit (cst e).1, q, d, by
    rw [h2]; unfold foldOne; cases (cst e).2 <;> rfl, fun y hy => by
    unfold foldOne at hy
    cases hb : (cst e).2 with
    | false => rw [hb] at hy; cases hy
    | true => rw [hb] at hy; cases hy; exact ⟨rfl, h3.imp fun b hb _ => .inr hb⟩⟩
theorem AtB.size {S : Nat → Prop} {w : World} {p : Option Addr} {e : Ex} (h : AtB S w p e) : Ex.At w p e := h.at

set_option maxHeartbeats 2000000 in
theorem Fold_of (e : Ex) (p : Option Addr) (c : Nat) (w : World) (hA : Ex.At w p e) :
    Calls Tryz.prog 33 #[e.val p c] w fun r w' => Ext w w' ∧ ∃ q d, r = .returned (.tuple #[(fdR e).1.val q d, .int .i64 (fdR e).2]) ∧ Ex.At w' q (fdR e).1 := by
  have C1 := Lib.hid (fun W (h : Ext w W) => show Gives _ _ #[.agg #[.int .i64 e.kind, .int .i64 e.op, sV e.name, .int .i64 e.value, .slice p e.args.length c]] _ _ from Check_any e p c W (hA.below h))
  have C2 := Lib.hid (fun (h0 : e.fe = 0) W (h : Ext w W) => show Calls Tryz.prog 54 #[.agg #[.int .i64 e.kind, .int .i64 e.op, sV e.name, .int .i64 e.value, .slice p e.args.length c], .func (.func 57) #[] #[]] W _ from mapped_any (Fold1_one w) e.size e (Nat.le_refl _) p c hA h0 W h trivial)
  have HZ := Lib.hid (fun h => (chk_zero (e := e) h).2.2)
  have HT := Lib.hid (show fdR e = if e.chk ≠ 0 then (exZ, e.chk) else (mp foldOne e, 0) from rfl)
  generalize fdR e = r at *
  generalize mp foldOne e = M at *
  have hv : e.val p c = .agg #[.int .i64 e.kind, .int .i64 e.op, sV e.name, .int .i64 e.value, .slice p e.args.length c] := rfl
  rw [hv]
  clear hv hA
  generalize e.kind = k1 at *
  generalize e.op = o1 at *
  generalize e.name = n1 at *
  generalize e.value = v1 at *
  generalize e.args.length = l1 at *
  generalize e.chk = f1 at *
  obtain ⟨hb0, hb1, hE0⟩ := two_boxes w (.int .i64 k1) (.int .i64 o1) (sV n1) (.int .i64 v1) (.slice p l1 c) (.int .i64 0) (.int .i64 0) (.string { data := #[] }) (.int .i64 0) (.slice none 0 0) tEx
  have HB0 := Lib.hid hb0
  have HB1 := Lib.hid hb1
  have HE0 := Lib.hid hE0
  have D1 := Lib.hid (C1.out _ hE0)
  clear hb0 hb1 hE0 C1
  by_cases h1 : f1 = 0
  · subst h1
    have hfe := HZ.out rfl
    have C2' := Lib.hid (C2.out hfe)
    have HR := Lib.hid (show r = (M, 0) by rw [HT.out]; rfl)
    clear C2 HZ hfe HT
    go_enter Tryz.func33, Tryz.ntmps33
    go_wp2_with fail
    refine D1.out.mono ?_
    intro w1 hB1
    replace hB1 : Ext _ w1 := hB1
    have HB0' := Lib.hid ((hB1.below.block _ (lt_of_block HB0.out)).trans HB0.out)
    have HB1' := Lib.hid ((hB1.below.block _ (lt_of_block HB1.out)).trans HB1.out)
    have HW1 := Lib.hid (Ext.trans HE0.out hB1)
    obtain ⟨d0, d1, d2, d3, d4, f0⟩ := box5 HB0'.out
    clear hB1 D1 HE0 HB0 HB1
    go_wp2_with fail
    refine (C2'.out _ HW1.out).mono ?_
    rintro _ w2 ⟨hE2, q, d, rfl, hT⟩
    replace hE2 : Ext w1 w2 := hE2
    have hbr := (hE2.below.block _ (lt_of_block HB1'.out)).trans HB1'.out
    obtain ⟨e0, e1, e2, e3, e4, f1⟩ := box5 hbr
    have HBR := Lib.hid hbr
    have hl1 := lt_of_block HB1'.out
    have HTT := Lib.hid (hT.imp (S' := fun b => b < w.heap.size ∨ w.heap.size + 2 ≤ b) (fun b hb _ => by omega))
    have HW2 := Lib.hid (Ext.trans HW1.out hE2)
    clear hbr hT hE2 C2' HB0' HB1' d0 d1 d2 d3 d4 f0
    unfold Ex.val
    go_wp2
    obtain ⟨V, hV, g0, g1, g2, g3, g4, h4, h5⟩ := put5b HBR.out (.int .i64 M.kind) (.int .i64 M.op) (sV M.name) (.int .i64 M.value) (.slice q M.args.length d)
    rw [hV]
    refine bodyPost_ret (v := .tuple #[.agg #[.int .i64 M.kind, .int .i64 M.op, sV M.name, .int .i64 M.value, .slice q M.args.length d], .int .i64 0]) (by simp [results, Tryz.f33, go_sem, g0, g1, g2, g3, g4, sB_nil]) rfl ⟨Below.trans HW2.out (h4 _ (by omega)), q, d, by rw [HR.out]; rfl, by
      rw [HR.out]
      exact (HTT.out.keep (S' := fun _ => True) (fun b hb hb2 => ⟨trivial, h5 b (by omega)⟩)).at⟩
  · have hg1 : (f1 == 0) = false := by simpa using h1
    have hg2 : (f1 != 0) = true := by simpa using h1
    have HR := Lib.hid (show r = (exZ, f1) by rw [HT.out, if_pos h1])
    clear h1 HT C2 HZ
    go_enter Tryz.func33, Tryz.ntmps33
    go_wp2_with fail
    refine D1.out.mono ?_
    intro w1 hB1
    replace hB1 : Ext _ w1 := hB1
    have hbr := (hB1.below.block _ (lt_of_block HB1.out)).trans HB1.out
    have HW1 := Lib.hid (Ext.trans HE0.out hB1)
    obtain ⟨d0, d1, d2, d3, d4, f0⟩ := box5 hbr
    have HBR := Lib.hid hbr
    clear hB1 D1 HE0 HB0 HB1 hbr
    go_wp2
    obtain ⟨V, hV, g0, g1, g2, g3, g4, h4, h5⟩ := put5b HBR.out (.int .i64 0) (.int .i64 0) (.string { data := #[] }) (.int .i64 0) (.slice none 0 0)
    rw [hV]
    refine bodyPost_ret (v := .tuple #[.agg #[.int .i64 0, .int .i64 0, .string { data := #[] }, .int .i64 0, .slice none 0 0], .int .i64 f1]) (by simp [results, Tryz.f33, go_sem, g0, g1, g2, g3, g4, sB_nil]) rfl ⟨Below.trans HW1.out (h4 _ (by omega)), none, 0, by rw [HR.out, sV_nil]; rfl, by
      rw [HR.out]; exact exZ_at _ _⟩

end Go.Proofs.YtgkalcboklhdgaaGreatDoor

namespace Go.Proofs.YtgkalcboklhdgaaGreatDoor
open Go.RowKit
set_option linter.unusedVariables false
set_option linter.unusedSimpArgs false
open Ex

section
variable {ops : Array Oper} {rest : List Oper} {o : Oper} {a : Act} {Q : Exit → Act → World → Prop}
/-- append of an expression that lies in a block of its own -/
theorem wp_appG (hgd : o.guard = none) (s x : Operand) (ho : o.op = .call { callee := .builtin .append, args := #[s, x], argTypes := #[22, 22] }) (hty : o.type = 22)
    (base : Nat) (v : Value) (rs : List XE) (hs : a.eval s = v) (W : World) (h : RowE base v rs W) (r : XE) (g : Nat) (hx : a.eval x = .slice (some ⟨g, 0, none⟩) 1 1)
    (hg : W.heap[g]? = some (.cells #[.int .i64 r.1.kind, .int .i64 r.1.op, sV r.1.name, .int .i64 r.1.value, .slice r.2.1 r.1.args.length r.2.2] tEx (0, 0))) (hlen : rs.length ≤ 2199023255488) (hbase : base ≤ W.heap.size)
    (hK : ∀ v' w', RowE base v' (rs ++ [r]) w' → Below base W w' → (∀ b, b < W.heap.size → v.ownBlock ≠ some b → w'.heap[b]? = W.heap[b]? ∧ v'.ownBlock ≠ some b) → wpList Tryz.prog ops Q rest (a.put o.dst v') w') : wpList Tryz.prog ops Q (o :: rest) a W := by
  have hcell : ∀ j u, (ec r)[j]? = some u → W.cell? ((⟨g, 0, none⟩ : Addr).add j) = some u := by
    intro j u hu
    have e : (⟨g, 0, none⟩ : Addr).add j = ⟨g, j, none⟩ := by unfold Addr.add; split <;> simp_all
    rw [e]
    exact cell_of hg (by simpa [ec] using hu)
  obtain ⟨v', w', hr, h2, h3, h4⟩ := app_where h ⟨g, 0, none⟩ r hcell hlen hbase
  refine wpList_plain hgd fun K hKK => ?_
  unfold Oper.wp
  simp only [execOp, ho, hty, resolve, invoke, builtin, Sem.run_bind, Sem.run_pure, Result.andThen_ok, List.map_toArray, List.map_cons, List.map_nil, hs, hx, hr]
  refine hKK _ _ (hK v' w' h2 ?_ (fun b hb1 hb2 => ⟨?_, fun e => ?_⟩))
  · exact (Below.refl base W).grown h3 hbase (fun k e => (World.ownsRow.lt h k e).1)
  · exact h3.block b hb1 (fun e => hb2 e.symm)
  · rcases h4 b e with h5 | h5
    · exact hb2 h5
    · omega
end

/-- what Substitute makes of a part -/
def subOne (m : List UInt8) (r : Ex) (e : Ex) : Option Ex := if e.kind = 2 ∧ e.name = m then some r else none
/-- three boxes -/
theorem three_boxes (w : World) (a0 a1 a2 a3 a4 b0 b1 b2 b3 b4 c0 c1 c2 c3 c4 : Value) (T : TypeId) :
    (((w.alloc (.cells #[a0, a1, a2, a3, a4] T)).alloc (.cells #[b0, b1, b2, b3, b4] T)).alloc (.cells #[c0, c1, c2, c3, c4] T)).heap[w.heap.size]? = some (.cells #[a0, a1, a2, a3, a4] T (0, 0)) ∧
    (((w.alloc (.cells #[a0, a1, a2, a3, a4] T)).alloc (.cells #[b0, b1, b2, b3, b4] T)).alloc (.cells #[c0, c1, c2, c3, c4] T)).heap[w.heap.size + 1]? = some (.cells #[b0, b1, b2, b3, b4] T (0, 0)) ∧
    (((w.alloc (.cells #[a0, a1, a2, a3, a4] T)).alloc (.cells #[b0, b1, b2, b3, b4] T)).alloc (.cells #[c0, c1, c2, c3, c4] T)).heap[w.heap.size + 2]? = some (.cells #[c0, c1, c2, c3, c4] T (0, 0)) ∧
    Ext w (((w.alloc (.cells #[a0, a1, a2, a3, a4] T)).alloc (.cells #[b0, b1, b2, b3, b4] T)).alloc (.cells #[c0, c1, c2, c3, c4] T)) := by
  obtain ⟨h1, h2, h3⟩ := two_boxes w a0 a1 a2 a3 a4 b0 b1 b2 b3 b4 T
  refine ⟨(Below.heap_alloc _ _ w.heap.size (by simp; omega)).trans h1, (Below.heap_alloc _ _ (w.heap.size + 1) (by simp)).trans h2, ?_, h3.alloc (by simp; omega) _⟩
  have h := alloc_here ((w.alloc (.cells #[a0, a1, a2, a3, a4] T)).alloc (.cells #[b0, b1, b2, b3, b4] T)) (.cells #[c0, c1, c2, c3, c4] T)
  rw [World.size_alloc, World.size_alloc] at h; exact h

/-- the values of the region that replaces an element -/
def rpR (v : Value) (n b off j : Nat) (p : Option Addr) (nts c : Nat) (t rr : Value) (m : List UInt8) (S : Nat → Prop) (T : Ex) : Nat → (Nat → Value) → World → Prop
  | 0, s, _ => s 0 = v
  | 1, s, _ => s 1 = .pointer (some ⟨n, 4, none⟩)
  | 2, s, _ => s 2 = .slice p nts c
  | 3, s, _ => s 3 = .int .i64 (j : Int)
  | 4, s, _ => s 4 = .pointer (some ⟨b, off + j * 5, none⟩)
  | 5, s, _ => s 5 = t
  | 6, s, _ => s 6 = sV m
  | 7, s, _ => s 7 = rr
  | 8, s, W => ∃ q d, s 8 = T.val q d ∧ AtB S W q T
  | 9, s, W => ∃ g q d, s 9 = .slice (some ⟨g, 0, none⟩) 1 1 ∧ W.heap[g]? = some (.cells #[.int .i64 T.kind, .int .i64 T.op, sV T.name, .int .i64 T.value, .slice q T.args.length d] tEx (0, 0)) ∧ AtB S W q T
  | _, _, _ => True
theorem rpR_st (v : Value) (n b off j : Nat) (p : Option Addr) (nts c : Nat) (t rr : Value) (m : List UInt8) (S : Nat → Prop) (T : Ex) : ∀ i s s' W W', rpR v n b off j p nts c t rr m S T i s W → (∀ k ∈ [i], s' k = s k) → Ext W W' → rpR v n b off j p nts c t rr m S T i s' W' := by
  intro i s s' W W' h hs hE
  have hs := hs i (by simp)
  match i, h, hs with
  | 0, h, hs => exact hs.trans h
  | 1, h, hs => exact hs.trans h
  | 2, h, hs => exact hs.trans h
  | 3, h, hs => exact hs.trans h
  | 4, h, hs => exact hs.trans h
  | 5, h, hs => exact hs.trans h
  | 6, h, hs => exact hs.trans h
  | 7, h, hs => exact hs.trans h
  | 8, ⟨q, d, h1, h2⟩, hs => exact ⟨q, d, hs.trans h1, h2.ext hE⟩
  | 9, ⟨g, q, d, h1, h2, h3⟩, hs => exact ⟨g, q, d, hs.trans h1, (hE.below.block g (lt_of_block h2)).trans h2, h3.ext hE⟩
  | i + 10, h, hs => exact trivial
theorem ten' {α : Type} (fs : List α) (h : fs.length = 10) : ∃ a b c d e f g i j k, fs = [a, b, c, d, e, f, g, i, j, k] := by
  match fs, h with
  | [a, b, c, d, e, f, g, i, j, k], _ => exact ⟨a, b, c, d, e, f, g, i, j, k, rfl⟩

end Go.Proofs.YtgkalcboklhdgaaGreatDoor

namespace Go.Proofs.YtgkalcboklhdgaaGreatDoor
open Go.RowKit
set_option linter.unusedVariables false
set_option linter.unusedSimpArgs false
open Ex

theorem wanted_of {l : List Oper} {a' : Act} {o : Oper} {j : Nat} {g v : Bool} (hg : o.guard = some (j, g)) (hv : sv l a' j = .bool v) : Region.wanted o (yielded l.toArray a'.tmps) = (v == g) := by
  unfold sv at hv
  have hy : yielded l.toArray a'.tmps j = some v := by
    unfold yielded
    cases hd : (l[j]?).bind (·.dst) with
    | none => rw [hd] at hv; cases hv
    | some d =>
      rw [hd] at hv
      dsimp only at hv
      have h1 : a'.tmps[d]? = some (.bool v) := by
        cases ht : a'.tmps[d]? with
        | none => simp [Array.getD_eq_getD_getElem?, ht] at hv; cases hv
        | some x => simp [Array.getD_eq_getD_getElem?, ht] at hv; rw [hv]
      have h2 : (l.toArray[j]?).bind (·.dst) = some d := by simpa using hd
      rw [h2]
      simp [h1]
  simp [Region.wanted, hg, hy]
theorem GoesG.valueW {P : Program} {l : List Oper} {R : World → World → Prop} {Φ : Nat → (Nat → Value) → World → Prop} {i : Nat} {o : Oper} {a' : Act} {W W' : World} {Q : Exit → Act → World → Prop} (v : Value) (j : Nat) (g b : Bool) (hg : o.guard = some (j, g)) (hv : sv l a' j = .bool b) (hbg : (b == g) = true) (hrun : (execOp a'.eval o).run P W = .ok (.value v) W') (hR : R W W')
    (hΦ : ∀ s : Nat → Value, (o.dst.isSome = true → s i = v) → (∀ k, k ≠ i → ancB l l.length i k = true → s k = sv l a' k) → Φ i s W') : GoesG P l R Φ i o a' W Q := by
  unfold GoesG
  rw [if_pos (by rw [wanted_of hg hv, hbg])]
  unfold Oper.wp
  rw [hrun]
  exact ⟨v, rfl, hR, hΦ⟩
theorem GoesG.skipW {P : Program} {l : List Oper} {R : World → World → Prop} {Φ : Nat → (Nat → Value) → World → Prop} {i : Nat} {o : Oper} {a' : Act} {W : World} {Q : Exit → Act → World → Prop} (j : Nat) (g b : Bool) (hg : o.guard = some (j, g)) (hv : sv l a' j = .bool b) (hbg : (b == g) = false) (hR : R W W)
    (hΦ : ∀ s : Nat → Value, Φ i s W) : GoesG P l R Φ i o a' W Q := by
  unfold GoesG
  rw [if_neg (by rw [wanted_of hg hv, hbg]; simp)]
  exact ⟨hR, fun s _ _ => hΦ s⟩

/-- the values of the region that looks at a part -/
def s1V (n : Nat) (rr : Value) (k : Int) (kb nb : Bool) (nm m : List UInt8) : Nat → Value → Prop
  | 0, x => x = rr
  | 1, x => x = .pointer (some ⟨n, 0, none⟩)
  | 2, x => x = .int .i64 k
  | 3, x => x = .bool kb
  | 4, x => x = .bool kb
  | 5, x => kb = true → x = .pointer (some ⟨n, 2, none⟩)
  | 6, x => kb = true → x = sV nm
  | 7, x => kb = true → x = sV m
  | 8, x => kb = true → x = .bool nb
  | 9, x => x = .bool (kb && nb)
  | 11, x => x = .bool (kb && nb)
  | _, _ => True
def s1R (n : Nat) (rr : Value) (F : Array Value → Prop) (k : Int) (kb nb : Bool) (nm m : List UInt8) (i : Nat) (s : Nat → Value) (W : World) : Prop :=
  if i = 10 then ∃ cc, W.heap[n + 1]? = some (.cells cc tEx (0, 0)) ∧ F cc else s1V n rr k kb nb nm m i (s i)
theorem s1R_st (n : Nat) (rr : Value) (F : Array Value → Prop) (k : Int) (kb nb : Bool) (nm m : List UInt8) : ∀ i s s' W W', s1R n rr F k kb nb nm m i s W → (∀ j ∈ [i], s' j = s j) → Grow (n + 1) tEx F W W' → s1R n rr F k kb nb nm m i s' W' := by
  intro i s s' W W' h hs hG
  unfold s1R at h ⊢
  by_cases e : i = 10
  · rw [if_pos e] at h ⊢
    obtain ⟨cc, h1, h2⟩ := h
    exact hG.done h1 h2
  · rw [if_neg e] at h ⊢
    rw [hs i (by simp)]; exact h

theorem twelve {α : Type} (fs : List α) (h : fs.length = 12) : ∃ a b c d e f g i j k l m, fs = [a, b, c, d, e, f, g, i, j, k, l, m] := by
  match fs, h with
  | [a, b, c, d, e, f, g, i, j, k, l, m], _ => exact ⟨a, b, c, d, e, f, g, i, j, k, l, m, rfl⟩

set_option maxRecDepth 100000 in
set_option maxHeartbeats 4000000 in
theorem Sub1_any (m : List UInt8) (r : Ex) (pr : Option Addr) (cr : Nat) (b1 b2 : Nat) (e : Ex) (p : Option Addr) (c : Nat) (w : World) (T1 T2 : TypeId)
    (h1 : w.heap[b1]? = some (.cells #[.int .i64 r.kind, .int .i64 r.op, sV r.name, .int .i64 r.value, .slice pr r.args.length cr] tEx (0, 0))) (h2 : w.heap[b2]? = some (.cells #[sV m] T2 (0, 0))) :
    Calls Tryz.prog 55 #[e.val p c, .pointer (some ⟨b1, 0, none⟩), .pointer (some ⟨b2, 0, none⟩)] w fun x w' => Ext w w' ∧ x = .returned (.tuple #[r.val pr cr, .bool ((e.kind == 2) && (e.name == m))]) := by
  have hv : e.val p c = .agg #[.int .i64 e.kind, .int .i64 e.op, sV e.name, .int .i64 e.value, .slice p e.args.length c] := rfl
  have hv2 : r.val pr cr = .agg #[.int .i64 r.kind, .int .i64 r.op, sV r.name, .int .i64 r.value, .slice pr r.args.length cr] := rfl
  rw [hv, hv2]
  clear hv hv2
  generalize e.kind = k1 at *
  generalize e.op = o1 at *
  generalize e.name = n1 at *
  generalize e.value = v1 at *
  generalize e.args.length = l1 at *
  generalize r.kind = rk at *
  generalize r.op = ro at *
  generalize r.name = rn at *
  generalize r.value = rv at *
  generalize r.args.length = rl at *
  have HQ := Lib.hid (And.intro h1 h2)
  obtain ⟨hb0, hb1, hE0⟩ := two_boxes w (.int .i64 k1) (.int .i64 o1) (sV n1) (.int .i64 v1) (.slice p l1 c) (.int .i64 0) (.int .i64 0) (.string { data := #[] }) (.int .i64 0) (.slice none 0 0) tEx
  have HB0 := Lib.hid hb0
  have HB1 := Lib.hid hb1
  have HE0 := Lib.hid hE0
  clear h1 h2 hb0 hb1 hE0
  generalize hkb : (k1 == 2) = kb
  generalize hnb : (n1 == m) = nb
  go_enter Tryz.func55, Tryz.ntmps55
  go_wp2
  generalize hW1 : ((w.alloc (.cells #[.int .i64 k1, .int .i64 o1, sV n1, .int .i64 v1, .slice p l1 c] tEx)).alloc (.cells #[.int .i64 0, .int .i64 0, .string { data := #[] }, .int .i64 0, .slice none 0 0] tEx)) = w1 at *
  obtain ⟨h1, h2⟩ := HQ.out
  have hx1 : w1.heap[b1]? = _ := (HE0.out.below.block b1 (lt_of_block h1)).trans h1
  have hx2 : w1.heap[b2]? = _ := (HE0.out.below.block b2 (lt_of_block h2)).trans h2
  have hx3 := HB0.out
  have hx4 := HB1.out
  have hl1 := lt_of_block h1
  have hl2 := lt_of_block h2
  have hl3 := lt_of_block hx4
  refine wp_region_g (by kernel_rfl) (Grow (w.heap.size + 1) tEx (fun cc => cc = #[.int .i64 rk, .int .i64 ro, sV rn, .int .i64 rv, .slice pr rl cr])) (Grow.drawn _ _ _) Grow.trans (s1R w.heap.size (.agg #[.int .i64 rk, .int .i64 ro, sV rn, .int .i64 rv, .slice pr rl cr]) (fun cc => cc = #[.int .i64 rk, .int .i64 ro, sV rn, .int .i64 rv, .slice pr rl cr]) k1 kb nb n1 m) (fun j => [j]) (s1R_st _ _ _ _ _ _ _ _) (by kernel_rfl) (by kernel_rfl) (by kernel_rfl) 16 rfl (by kernel_rfl) ?_ ?_
  · intro i op ho a' W hA
    have q1 : W.heap[b1]? = _ := (hA.rel.low (by omega) (by omega)).trans hx1
    have q2 : W.heap[b2]? = _ := (hA.rel.low (by omega) (by omega)).trans hx2
    have q3 : W.heap[w.heap.size]? = _ := (hA.rel.low (by omega) (by omega)).trans hx3
    obtain ⟨x0, x1, x2, x3, x4, _⟩ := box5 q1
    obtain ⟨y0, y1, y2, y3, y4, _⟩ := box5 q3
    have z0 : W.cell? ⟨b2, 0, none⟩ = some (sV m) := cell_of q2 rfl
    match i, ho with
    | 0, ho =>
      obtain rfl := Option.some.inj ho
      have e1 : a'.eval (.tmp 1) = .pointer (some ⟨b1, 0, none⟩) := hA.keep 1 (by kernel_rfl)
      refine GoesG.value (.agg #[.int .i64 rk, .int .i64 ro, sV rn, .int .i64 rv, .slice pr rl cr]) rfl ?_ (Grow.refl _ _ _ _) (fun s h1 h2 => h1 rfl)
      simp only [execOp, e1]
      simp [go_sem, x0, x1, x2, x3, x4]
    | 1, ho =>
      obtain rfl := Option.some.inj ho
      have e1 : a'.eval (.tmp 3) = .pointer (some ⟨w.heap.size, 0, none⟩) := hA.keep 3 (by kernel_rfl)
      refine GoesG.value (.pointer (some ⟨w.heap.size, 0, none⟩)) rfl ?_ (Grow.refl _ _ _ _) (fun s h1 h2 => h1 rfl)
      simp only [execOp, e1]
      simp [go_sem]
    | 2, ho =>
      obtain rfl := Option.some.inj ho
      have e1 : a'.eval (.tmp 7) = .pointer (some ⟨w.heap.size, 0, none⟩) := (sv_dst (l := _) rfl).symm.trans (hA.new 1 (by decide) (by kernel_rfl))
      refine GoesG.value (.int .i64 k1) rfl ?_ (Grow.refl _ _ _ _) (fun s h1 h2 => h1 rfl)
      simp only [execOp, e1]
      simp [go_sem, y0]
    | 3, ho =>
      obtain rfl := Option.some.inj ho
      have e1 : a'.eval (.tmp 8) = .int .i64 k1 := (sv_dst (l := _) rfl).symm.trans (hA.new 2 (by decide) (by kernel_rfl))
      refine GoesG.value (.bool kb) rfl ?_ (Grow.refl _ _ _ _) (fun s h1 h2 => h1 rfl)
      simp only [execOp, e1]
      simp [go_sem, hkb]
    | 4, ho =>
      obtain rfl := Option.some.inj ho
      exact GoesG.move (.tmp 9) rfl rfl (Grow.refl _ _ _ _) (fun s h1 h2 => (h1 rfl).trans ((sv_dst (l := _) rfl).symm.trans (hA.new 3 (by decide) (by kernel_rfl))))
    | 5, ho =>
      obtain rfl := Option.some.inj ho
      have hg := hA.new 4 (by decide) (by kernel_rfl)
      have e1 : a'.eval (.tmp 3) = .pointer (some ⟨w.heap.size, 0, none⟩) := hA.keep 3 (by kernel_rfl)
      cases kb with
      | true =>
        refine GoesG.valueW (.pointer (some ⟨w.heap.size, 2, none⟩)) 4 true true rfl hg rfl ?_ (Grow.refl _ _ _ _) (fun s h1 h2 _ => h1 rfl)
        simp only [execOp, e1]
        simp [go_sem]
      | false => exact GoesG.skipW 4 true false rfl hg rfl (Grow.refl _ _ _ _) (fun s h => by cases h)
    | 6, ho =>
      obtain rfl := Option.some.inj ho
      have hg := hA.new 4 (by decide) (by kernel_rfl)
      cases kb with
      | true =>
        have e1 : a'.eval (.tmp 11) = .pointer (some ⟨w.heap.size, 2, none⟩) := (sv_dst (l := _) rfl).symm.trans (hA.new 5 (by decide) (by kernel_rfl) rfl)
        refine GoesG.valueW (sV n1) 4 true true rfl hg rfl ?_ (Grow.refl _ _ _ _) (fun s h1 h2 _ => h1 rfl)
        simp only [execOp, e1]
        simp [go_sem, y2]
      | false => exact GoesG.skipW 4 true false rfl hg rfl (Grow.refl _ _ _ _) (fun s h => by cases h)
    | 7, ho =>
      obtain rfl := Option.some.inj ho
      have hg := hA.new 4 (by decide) (by kernel_rfl)
      have e1 : a'.eval (.tmp 2) = .pointer (some ⟨b2, 0, none⟩) := hA.keep 2 (by kernel_rfl)
      cases kb with
      | true =>
        refine GoesG.valueW (sV m) 4 true true rfl hg rfl ?_ (Grow.refl _ _ _ _) (fun s h1 h2 _ => h1 rfl)
        simp only [execOp, e1]
        simp [go_sem, z0]
      | false => exact GoesG.skipW 4 true false rfl hg rfl (Grow.refl _ _ _ _) (fun s h => by cases h)
    | 8, ho =>
      obtain rfl := Option.some.inj ho
      have hg := hA.new 4 (by decide) (by kernel_rfl)
      cases kb with
      | true =>
        have e1 : a'.eval (.tmp 12) = sV n1 := (sv_dst (l := _) rfl).symm.trans (hA.new 6 (by decide) (by kernel_rfl) rfl)
        have e2 : a'.eval (.tmp 13) = sV m := (sv_dst (l := _) rfl).symm.trans (hA.new 7 (by decide) (by kernel_rfl) rfl)
        refine GoesG.valueW (.bool nb) 4 true true rfl hg rfl ?_ (Grow.refl _ _ _ _) (fun s h1 h2 _ => h1 rfl)
        simp only [execOp, e1, e2]
        simp [go_sem, hnb]
      | false => exact GoesG.skipW 4 true false rfl hg rfl (Grow.refl _ _ _ _) (fun s h => by cases h)
    | 9, ho =>
      obtain rfl := Option.some.inj ho
      have e1 : a'.eval (.tmp 10) = .bool kb := (sv_dst (l := _) rfl).symm.trans (hA.new 4 (by decide) (by kernel_rfl))
      cases kb with
      | true =>
        have e2 : a'.eval (.tmp 14) = .bool nb := (sv_dst (l := _) rfl).symm.trans (hA.new 8 (by decide) (by kernel_rfl) rfl)
        refine GoesG.value (.bool nb) rfl ?_ (Grow.refl _ _ _ _) (fun s h1 h2 => h1 rfl)
        simp only [execOp, e1, e2]
        simp [go_sem]
      | false =>
        refine GoesG.value (.bool false) rfl ?_ (Grow.refl _ _ _ _) (fun s h1 h2 => h1 rfl)
        simp only [execOp, e1]
        simp [go_sem]
    | 10, ho =>
      obtain rfl := Option.some.inj ho
      obtain ⟨cc, g1, g2⟩ := hA.rel.turn hx4
      have e1 : a'.eval (.tmp 4) = .pointer (some ⟨w.heap.size + 1, 0, none⟩) := hA.keep 4 (by kernel_rfl)
      have e2 : a'.eval (.tmp 6) = .agg #[.int .i64 rk, .int .i64 ro, sV rn, .int .i64 rv, .slice pr rl cr] := (sv_dst (l := _) rfl).symm.trans (hA.new 0 (by decide) (by kernel_rfl))
      exact GoesG.store rfl tEx (.tmp 4) (.tmp 6) rfl (w.heap.size + 1) _ e1 e2 tEx cc g1 (by kernel_rfl) g2 (by simp [Value.oneCell']) rfl (Grow.row g1 (Nat.le_refl _) g2.symm rfl)
        (fun s h2 => ⟨_, setRow_heap _ _ _ _ _ _ g1, rfl⟩)
    | 11, ho =>
      obtain rfl := Option.some.inj ho
      exact GoesG.assign (.tmp 15) rfl rfl (Grow.refl _ _ _ _) (fun s h1 h2 => (h1 rfl).trans ((sv_dst (l := _) rfl).symm.trans (hA.new 9 (by decide) (by kernel_rfl))))
    | i + 12, ho => cases ho
  · intro vs W hvs hG hΦ
    obtain ⟨u0, u1, u2, u3, u4, u5, u6, u7, u8, u9, u10, u11, rfl⟩ := twelve vs hvs
    obtain ⟨cc, hcc, rfl⟩ : ∃ cc, W.heap[w.heap.size + 1]? = some (.cells cc tEx (0, 0)) ∧ cc = #[.int .i64 rk, .int .i64 ro, sV rn, .int .i64 rv, .slice pr rl cr] := hΦ 10 (by decide)
    have hu : u11 = .bool (kb && nb) := hΦ 11 (by decide)
    subst hu
    simp only [putAll, Act.put, List.setIfInBounds_toArray, List.set_cons_succ, List.set_cons_zero]
    have HCC := Lib.hid hcc
    have HGG := Lib.hid hG
    clear hΦ hG hvs hcc hx1 hx2 hx3 hx4 h1 h2 hl1 hl2 hl3
    go_wp2
    obtain ⟨m0, m1, m2, m3, m4, _⟩ := box5 HCC.out
    have hG := HGG.out
    have hE := HE0.out
    exact bodyPost_ret (v := .tuple #[.agg #[.int .i64 rk, .int .i64 ro, sV rn, .int .i64 rv, .slice pr rl cr], .bool (kb && nb)]) (by simp [results, Tryz.f55, go_sem, m0, m1, m2, m3, m4, sB_nil]) rfl
      ⟨⟨hG.os.trans hE.os, hG.tape.trans hE.tape, hG.output.trans hE.output, Nat.le_trans hE.size hG.size, fun j hj => (hG.low (by omega) (Nat.lt_of_lt_of_le hj hE.size)).trans (hE.below.block j hj)⟩, rfl⟩

end Go.Proofs.YtgkalcboklhdgaaGreatDoor

namespace Go.Proofs.YtgkalcboklhdgaaGreatDoor
open Go.RowKit
set_option linter.unusedVariables false
set_option linter.unusedSimpArgs false
open Ex

/-- what Substitute returns -/
def sbR (e : Ex) (m : List UInt8) (r : Ex) : Ex × Int :=
  if e.chk ≠ 0 ∨ r.chk ≠ 0 then (exZ, 1) else if isNm m = false then (exZ, 5) else if (mp (subOne m r) e).chk ≠ 0 then (exZ, (mp (subOne m r) e).chk) else (mp (subOne m r) e, 0)
/-- the captured boxes -/
def subK (m : List UInt8) (r : Ex) (pr : Option Addr) (cr b1 b2 : Nat) (W : World) : Prop :=
  W.heap[b1]? = some (.cells #[.int .i64 r.kind, .int .i64 r.op, sV r.name, .int .i64 r.value, .slice pr r.args.length cr] tEx (0, 0)) ∧ W.heap[b2]? = some (.cells #[sV m] 9 (0, 0))
theorem Sub1_one (m : List UInt8) (r : Ex) (pr : Option Addr) (cr b1 b2 : Nat) (w₀ : World) (hr : Ex.At w₀ pr r) :
    OneFn (subOne m r) w₀ (subK m r pr cr b1 b2) 55 #[.pointer (some ⟨b1, 0, none⟩), .pointer (some ⟨b2, 0, none⟩)] (fun _ => True) where
  ent := enters_fn Tryz.func55 (by kernel_rfl) rfl
  down := fun _ _ _ _ _ _ _ _ => trivial
  keep := fun W W' h hE => ⟨(hE.below.block b1 (lt_of_block h.1)).trans h.1, (hE.below.block b2 (lt_of_block h.2)).trans h.2⟩
  run := fun e p c W hW hK hA _ => (Sub1_any m r pr cr b1 b2 e p c W 0 9 hK.1 hK.2).mono fun x w' ⟨h1, h2⟩ => ⟨h1, r, pr, cr, by
    rw [h2]
    have : (subOne m r e).isSome = ((e.kind == 2) && (e.name == m)) := by
      unfold subOne
      by_cases h : e.kind = 2 ∧ e.name = m
      · rw [if_pos h]; simp [h.1, h.2]
      · rw [if_neg h]
        by_cases h1 : e.kind = 2
        · have h2 : (e.name == m) = false := by simpa using fun h2 => h ⟨h1, h2⟩
          simp [h2]
        · have h2 : (e.kind == 2) = false := by simpa using h1
          simp [h2]
    rw [this], fun y hy => by
    unfold subOne at hy
    by_cases h : e.kind = 2 ∧ e.name = m
    · rw [if_pos h] at hy; cases hy
      exact ⟨rfl, ((hr.toB.ext hW).ext h1).imp (fun b hb _ => .inl hb)⟩
    · rw [if_neg h] at hy; cases hy⟩
/-- four boxes -/
theorem boxes4 (w : World) (a0 a1 a2 a3 a4 s b0 b1 b2 b3 b4 c0 c1 c2 c3 c4 : Value) (T S : TypeId) :
    ((((w.alloc (.cells #[a0, a1, a2, a3, a4] T)).alloc (.cells #[s] S)).alloc (.cells #[b0, b1, b2, b3, b4] T)).alloc (.cells #[c0, c1, c2, c3, c4] T)).heap[w.heap.size]? = some (.cells #[a0, a1, a2, a3, a4] T (0, 0)) ∧
    ((((w.alloc (.cells #[a0, a1, a2, a3, a4] T)).alloc (.cells #[s] S)).alloc (.cells #[b0, b1, b2, b3, b4] T)).alloc (.cells #[c0, c1, c2, c3, c4] T)).heap[w.heap.size + 1]? = some (.cells #[s] S (0, 0)) ∧
    ((((w.alloc (.cells #[a0, a1, a2, a3, a4] T)).alloc (.cells #[s] S)).alloc (.cells #[b0, b1, b2, b3, b4] T)).alloc (.cells #[c0, c1, c2, c3, c4] T)).heap[w.heap.size + 2]? = some (.cells #[b0, b1, b2, b3, b4] T (0, 0)) ∧
    ((((w.alloc (.cells #[a0, a1, a2, a3, a4] T)).alloc (.cells #[s] S)).alloc (.cells #[b0, b1, b2, b3, b4] T)).alloc (.cells #[c0, c1, c2, c3, c4] T)).heap[w.heap.size + 3]? = some (.cells #[c0, c1, c2, c3, c4] T (0, 0)) ∧
    Ext w ((((w.alloc (.cells #[a0, a1, a2, a3, a4] T)).alloc (.cells #[s] S)).alloc (.cells #[b0, b1, b2, b3, b4] T)).alloc (.cells #[c0, c1, c2, c3, c4] T)) := by
  have k1 := alloc_here w (.cells #[a0, a1, a2, a3, a4] T)
  have k2 := alloc_here (w.alloc (.cells #[a0, a1, a2, a3, a4] T)) (.cells #[s] S)
  have k3 := alloc_here ((w.alloc (.cells #[a0, a1, a2, a3, a4] T)).alloc (.cells #[s] S)) (.cells #[b0, b1, b2, b3, b4] T)
  have k4 := alloc_here (((w.alloc (.cells #[a0, a1, a2, a3, a4] T)).alloc (.cells #[s] S)).alloc (.cells #[b0, b1, b2, b3, b4] T)) (.cells #[c0, c1, c2, c3, c4] T)
  simp only [World.size_alloc] at k2 k3 k4
  have hA : ∀ (W : World) (o : Obj) (i : Nat), i < W.heap.size → (W.alloc o).heap[i]? = W.heap[i]? := fun W o i h => Below.heap_alloc W o i h
  refine ⟨?_, ?_, ?_, k4, ((((Below.refl _ w).alloc (Nat.le_refl _) _).alloc (by simp) _).alloc (by simp <;> omega) _).alloc (by simp <;> omega) _⟩
  · rw [hA _ _ _ (by simp <;> omega), hA _ _ _ (by simp <;> omega), hA _ _ _ (by simp)]; exact k1
  · rw [hA _ _ _ (by simp <;> omega), hA _ _ _ (by simp)]; exact k2
  · rw [hA _ _ _ (by simp)]; exact k3

set_option maxRecDepth 100000 in
set_option maxHeartbeats 4000000 in
theorem Substitute_of (e : Ex) (p : Option Addr) (c : Nat) (m : List UInt8) (hm : m.length ≤ 140737488355328) (r : Ex) (pr : Option Addr) (cr : Nat) (w : World) (hA : Ex.At w p e) (hR : Ex.At w pr r) :
    Calls Tryz.prog 26 #[e.val p c, sV m, r.val pr cr] w fun x w' => Ext w w' ∧ ∃ q d, x = .returned (.tuple #[(sbR e m r).1.val q d, .int .i64 (sbR e m r).2]) ∧ Ex.At w' q (sbR e m r).1 := by
  have C1 := Lib.hid (fun W (h : Ext w W) => show Gives _ _ #[.agg #[.int .i64 e.kind, .int .i64 e.op, sV e.name, .int .i64 e.value, .slice p e.args.length c]] _ _ from Check_any e p c W (hA.below h))
  have C2 := Lib.hid (fun W (h : Ext w W) => show Gives _ _ #[.agg #[.int .i64 r.kind, .int .i64 r.op, sV r.name, .int .i64 r.value, .slice pr r.args.length cr]] _ _ from Check_any r pr cr W (hR.below h))
  have C3 := Lib.hid (fun W => isName_any m W hm)
  have C4 := Lib.hid (fun W (h : Ext w W) (hk : subK m r pr cr (w.heap.size + 2) (w.heap.size + 1) W) => show Calls Tryz.prog 54 #[.agg #[.int .i64 e.kind, .int .i64 e.op, sV e.name, .int .i64 e.value, .slice p e.args.length c], .func (.func 55) #[] #[.pointer (some ⟨w.heap.size + 2, 0, none⟩), .pointer (some ⟨w.heap.size + 1, 0, none⟩)]] W _ from mapped_any (Sub1_one m r pr cr (w.heap.size + 2) (w.heap.size + 1) w hR) e.size e (Nat.le_refl _) p c hA trivial W h hk)
  have hHT : sbR e m r = if e.chk ≠ 0 ∨ r.chk ≠ 0 then (exZ, 1) else if isNm m = false then (exZ, 5) else if (mp (subOne m r) e).chk ≠ 0 then (exZ, (mp (subOne m r) e).chk) else (mp (subOne m r) e, 0) := rfl
  generalize sbR e m r = rr at *
  generalize mp (subOne m r) e = M at *
  have C5 := Lib.hid (fun q d w₄ (hT : Ex.At w₄ q M) W (h : Ext w₄ W) => show Gives _ _ #[.agg #[.int .i64 M.kind, .int .i64 M.op, sV M.name, .int .i64 M.value, .slice q M.args.length d]] _ _ from Check_any M q d W (hT.below h))
  have hv : e.val p c = .agg #[.int .i64 e.kind, .int .i64 e.op, sV e.name, .int .i64 e.value, .slice p e.args.length c] := rfl
  have hv2 : r.val pr cr = .agg #[.int .i64 r.kind, .int .i64 r.op, sV r.name, .int .i64 r.value, .slice pr r.args.length cr] := rfl
  rw [hv, hv2]
  clear hv hv2 hA hR hm
  generalize e.kind = k1 at *
  generalize e.op = o1 at *
  generalize e.name = n1 at *
  generalize e.value = v1 at *
  generalize e.args.length = l1 at *
  generalize e.chk = f1 at *
  generalize r.chk = f2 at *
  generalize M.chk = f3 at *
  generalize isNm m = nb at *
  have HT := Lib.hid hHT
  clear hHT
  obtain ⟨hb0, hbn, hb1, hb2, hE0⟩ := boxes4 w (.int .i64 k1) (.int .i64 o1) (sV n1) (.int .i64 v1) (.slice p l1 c) (sV m) (.int .i64 r.kind) (.int .i64 r.op) (sV r.name) (.int .i64 r.value) (.slice pr r.args.length cr) (.int .i64 0) (.int .i64 0) (.string { data := #[] }) (.int .i64 0) (.slice none 0 0) tEx 9
  have HBE0 := Lib.hid hb0
  have HBR0 := Lib.hid hb1
  have HBZ0 := Lib.hid hb2
  have HBN0 := Lib.hid hbn
  have HW0 := Lib.hid hE0
  clear hb0 hb1 hb2 hE0 hbn
  have D1 := Lib.hid (C1.out _ HW0.out)
  clear C1
  by_cases h1 : f1 = 0
  · subst h1
    by_cases h2 : f2 = 0
    · subst h2
      cases nb with
      | true =>
        by_cases h3 : f3 = 0
        · subst h3
          have HR := Lib.hid (show rr = (M, 0) by rw [HT.out, if_neg (by simp), if_neg (by simp), if_neg (by simp)])
          clear HT
          go_enter Tryz.func26, Tryz.ntmps26
          obtain ⟨d0, d1, d2, d3, d4, f0⟩ := box5 HBE0.out
          obtain ⟨y0, y1, y2, y3, y4, f1⟩ := box5 HBR0.out
          obtain ⟨z0, z1, z2, z3, z4, f2⟩ := box5 HBZ0.out
          have x0 := cell_of (i := 0) HBN0.out rfl
          go_wp2_with fail
          refine (D1.out).mono ?_
          intro w1 hB
          replace hB : Ext _ w1 := hB
          have HBE1 := Lib.hid ((hB.below.block _ (lt_of_block HBE0.out)).trans HBE0.out)
          have HBR1 := Lib.hid ((hB.below.block _ (lt_of_block HBR0.out)).trans HBR0.out)
          have HBZ1 := Lib.hid ((hB.below.block _ (lt_of_block HBZ0.out)).trans HBZ0.out)
          have HBN1 := Lib.hid ((hB.below.block _ (lt_of_block HBN0.out)).trans HBN0.out)
          have HW1 := Lib.hid (Ext.trans HW0.out hB)
          clear hB
          clear d0 d1 d2 d3 d4 f0 y0 y1 y2 y3 y4 f1 z0 z1 z2 z3 z4 f2 x0
          obtain ⟨d0, d1, d2, d3, d4, f0⟩ := box5 HBE1.out
          obtain ⟨y0, y1, y2, y3, y4, f1⟩ := box5 HBR1.out
          obtain ⟨z0, z1, z2, z3, z4, f2⟩ := box5 HBZ1.out
          have x0 := cell_of (i := 0) HBN1.out rfl
          go_wp2_with fail
          refine (C2.out _ HW1.out).mono ?_
          intro w2 hB
          replace hB : Ext _ w2 := hB
          have HBE2 := Lib.hid ((hB.below.block _ (lt_of_block HBE1.out)).trans HBE1.out)
          have HBR2 := Lib.hid ((hB.below.block _ (lt_of_block HBR1.out)).trans HBR1.out)
          have HBZ2 := Lib.hid ((hB.below.block _ (lt_of_block HBZ1.out)).trans HBZ1.out)
          have HBN2 := Lib.hid ((hB.below.block _ (lt_of_block HBN1.out)).trans HBN1.out)
          have HW2 := Lib.hid (Ext.trans HW1.out hB)
          clear hB
          clear d0 d1 d2 d3 d4 f0 y0 y1 y2 y3 y4 f1 z0 z1 z2 z3 z4 f2 x0
          obtain ⟨d0, d1, d2, d3, d4, f0⟩ := box5 HBE2.out
          obtain ⟨y0, y1, y2, y3, y4, f1⟩ := box5 HBR2.out
          obtain ⟨z0, z1, z2, z3, z4, f2⟩ := box5 HBZ2.out
          have x0 := cell_of (i := 0) HBN2.out rfl
          go_wp2_with fail
          refine (C3.out _).mono ?_
          intro w3 hB
          replace hB : Ext _ w3 := hB
          have HBE3 := Lib.hid ((hB.below.block _ (lt_of_block HBE2.out)).trans HBE2.out)
          have HBR3 := Lib.hid ((hB.below.block _ (lt_of_block HBR2.out)).trans HBR2.out)
          have HBZ3 := Lib.hid ((hB.below.block _ (lt_of_block HBZ2.out)).trans HBZ2.out)
          have HBN3 := Lib.hid ((hB.below.block _ (lt_of_block HBN2.out)).trans HBN2.out)
          have HW3 := Lib.hid (Ext.trans HW2.out hB)
          clear hB
          clear d0 d1 d2 d3 d4 f0 y0 y1 y2 y3 y4 f1 z0 z1 z2 z3 z4 f2 x0
          obtain ⟨d0, d1, d2, d3, d4, f0⟩ := box5 HBE3.out
          obtain ⟨y0, y1, y2, y3, y4, f1⟩ := box5 HBR3.out
          obtain ⟨z0, z1, z2, z3, z4, f2⟩ := box5 HBZ3.out
          have x0 := cell_of (i := 0) HBN3.out rfl
          go_wp2_with fail
          refine (C4.out _ HW3.out ⟨HBR3.out, HBN3.out⟩).mono ?_
          rintro _ w4 ⟨hB, q, d, rfl, hT⟩
          replace hB : Ext _ w4 := hB
          have HBE4 := Lib.hid ((hB.below.block _ (lt_of_block HBE3.out)).trans HBE3.out)
          have HBR4 := Lib.hid ((hB.below.block _ (lt_of_block HBR3.out)).trans HBR3.out)
          have HBZ4 := Lib.hid ((hB.below.block _ (lt_of_block HBZ3.out)).trans HBZ3.out)
          have HBN4 := Lib.hid ((hB.below.block _ (lt_of_block HBN3.out)).trans HBN3.out)
          have HW4 := Lib.hid (Ext.trans HW3.out hB)
          clear hB
          clear d0 d1 d2 d3 d4 f0 y0 y1 y2 y3 y4 f1 z0 z1 z2 z3 z4 f2 x0
          have HL4 := Lib.hid (show AtB (fun b => b < w.heap.size ∨ w3.heap.size ≤ b) w4 q M from hT)
          have HS3 := Lib.hid (lt_of_block HBZ3.out)
          have HS4 := Lib.hid (lt_of_block HBZ4.out)
          have D5 := Lib.hid (C5.out q d w4 hT.at)
          clear hT
          unfold Ex.val
          obtain ⟨d0, d1, d2, d3, d4, f0⟩ := box5 HBE4.out
          obtain ⟨y0, y1, y2, y3, y4, f1⟩ := box5 HBR4.out
          obtain ⟨z0, z1, z2, z3, z4, f2⟩ := box5 HBZ4.out
          have x0 := cell_of (i := 0) HBN4.out rfl
          go_wp2_with fail
          refine (D5.out _ ((Below.refl _ w4).alloc (Nat.le_refl _) _)).mono ?_
          intro w5 hB
          replace hB : Ext _ w5 := hB
          have hM := (hB.below.block _ (lt_of_block (alloc_here w4 (.cells #[.int .i64 M.kind, .int .i64 M.op, sV M.name, .int .i64 M.value, .slice q M.args.length d] tEx)))).trans (alloc_here w4 (.cells #[.int .i64 M.kind, .int .i64 M.op, sV M.name, .int .i64 M.value, .slice q M.args.length d] tEx))
          replace hB : Ext w4 w5 := Ext.trans ((Below.refl _ w4).alloc (Nat.le_refl _) _) hB
          have HB5 := Lib.hid hB
          have HBE5 := Lib.hid ((hB.below.block _ (lt_of_block HBE4.out)).trans HBE4.out)
          have HBR5 := Lib.hid ((hB.below.block _ (lt_of_block HBR4.out)).trans HBR4.out)
          have HBZ5 := Lib.hid ((hB.below.block _ (lt_of_block HBZ4.out)).trans HBZ4.out)
          have HBN5 := Lib.hid ((hB.below.block _ (lt_of_block HBN4.out)).trans HBN4.out)
          have HW5 := Lib.hid (Ext.trans HW4.out hB)
          clear hB
          clear d0 d1 d2 d3 d4 f0 y0 y1 y2 y3 y4 f1 z0 z1 z2 z3 z4 f2 x0
          have HM5 := Lib.hid hM
          clear hM
          obtain ⟨q0, q1, q2, q3, q4, qf⟩ := box5 HM5.out
          obtain ⟨d0, d1, d2, d3, d4, f0⟩ := box5 HBE5.out
          obtain ⟨y0, y1, y2, y3, y4, f1⟩ := box5 HBR5.out
          obtain ⟨z0, z1, z2, z3, z4, f2⟩ := box5 HBZ5.out
          have x0 := cell_of (i := 0) HBN5.out rfl
          go_wp2
          obtain ⟨V, hV, g0, g1, g2, g3, g4, h4, h5⟩ := put5b HBZ5.out (.int .i64 M.kind) (.int .i64 M.op) (sV M.name) (.int .i64 M.value) (.slice q M.args.length d)
          rw [hV]
          have hs3 := HS3.out
          exact bodyPost_ret (v := .tuple #[.agg #[.int .i64 M.kind, .int .i64 M.op, sV M.name, .int .i64 M.value, .slice q M.args.length d], .int .i64 0]) (by simp [results, Tryz.f26, go_sem, g0, g1, g2, g3, g4, sB_nil]) rfl ⟨Below.trans HW5.out (h4 _ (by omega)), q, d, by rw [HR.out]; rfl, by
            rw [HR.out]
            exact ((HL4.out.ext HB5.out).keep (S' := fun _ => True) (fun b hb hb2 => ⟨trivial, h5 b (by omega)⟩)).at⟩
        · have hg : (f3 == 0) = false := by simpa using h3
          have hg2 : (f3 != 0) = true := by simpa using h3
          have HR := Lib.hid (show rr = (exZ, f3) by rw [HT.out, if_neg (by simp), if_neg (by simp), if_pos h3])
          clear HT h3
          go_enter Tryz.func26, Tryz.ntmps26
          obtain ⟨d0, d1, d2, d3, d4, f0⟩ := box5 HBE0.out
          obtain ⟨y0, y1, y2, y3, y4, f1⟩ := box5 HBR0.out
          obtain ⟨z0, z1, z2, z3, z4, f2⟩ := box5 HBZ0.out
          have x0 := cell_of (i := 0) HBN0.out rfl
          go_wp2_with fail
          refine (D1.out).mono ?_
          intro w1 hB
          replace hB : Ext _ w1 := hB
          have HBE1 := Lib.hid ((hB.below.block _ (lt_of_block HBE0.out)).trans HBE0.out)
          have HBR1 := Lib.hid ((hB.below.block _ (lt_of_block HBR0.out)).trans HBR0.out)
          have HBZ1 := Lib.hid ((hB.below.block _ (lt_of_block HBZ0.out)).trans HBZ0.out)
          have HBN1 := Lib.hid ((hB.below.block _ (lt_of_block HBN0.out)).trans HBN0.out)
          have HW1 := Lib.hid (Ext.trans HW0.out hB)
          clear hB
          clear d0 d1 d2 d3 d4 f0 y0 y1 y2 y3 y4 f1 z0 z1 z2 z3 z4 f2 x0
          obtain ⟨d0, d1, d2, d3, d4, f0⟩ := box5 HBE1.out
          obtain ⟨y0, y1, y2, y3, y4, f1⟩ := box5 HBR1.out
          obtain ⟨z0, z1, z2, z3, z4, f2⟩ := box5 HBZ1.out
          have x0 := cell_of (i := 0) HBN1.out rfl
          go_wp2_with fail
          refine (C2.out _ HW1.out).mono ?_
          intro w2 hB
          replace hB : Ext _ w2 := hB
          have HBE2 := Lib.hid ((hB.below.block _ (lt_of_block HBE1.out)).trans HBE1.out)
          have HBR2 := Lib.hid ((hB.below.block _ (lt_of_block HBR1.out)).trans HBR1.out)
          have HBZ2 := Lib.hid ((hB.below.block _ (lt_of_block HBZ1.out)).trans HBZ1.out)
          have HBN2 := Lib.hid ((hB.below.block _ (lt_of_block HBN1.out)).trans HBN1.out)
          have HW2 := Lib.hid (Ext.trans HW1.out hB)
          clear hB
          clear d0 d1 d2 d3 d4 f0 y0 y1 y2 y3 y4 f1 z0 z1 z2 z3 z4 f2 x0
          obtain ⟨d0, d1, d2, d3, d4, f0⟩ := box5 HBE2.out
          obtain ⟨y0, y1, y2, y3, y4, f1⟩ := box5 HBR2.out
          obtain ⟨z0, z1, z2, z3, z4, f2⟩ := box5 HBZ2.out
          have x0 := cell_of (i := 0) HBN2.out rfl
          go_wp2_with fail
          refine (C3.out _).mono ?_
          intro w3 hB
          replace hB : Ext _ w3 := hB
          have HBE3 := Lib.hid ((hB.below.block _ (lt_of_block HBE2.out)).trans HBE2.out)
          have HBR3 := Lib.hid ((hB.below.block _ (lt_of_block HBR2.out)).trans HBR2.out)
          have HBZ3 := Lib.hid ((hB.below.block _ (lt_of_block HBZ2.out)).trans HBZ2.out)
          have HBN3 := Lib.hid ((hB.below.block _ (lt_of_block HBN2.out)).trans HBN2.out)
          have HW3 := Lib.hid (Ext.trans HW2.out hB)
          clear hB
          clear d0 d1 d2 d3 d4 f0 y0 y1 y2 y3 y4 f1 z0 z1 z2 z3 z4 f2 x0
          obtain ⟨d0, d1, d2, d3, d4, f0⟩ := box5 HBE3.out
          obtain ⟨y0, y1, y2, y3, y4, f1⟩ := box5 HBR3.out
          obtain ⟨z0, z1, z2, z3, z4, f2⟩ := box5 HBZ3.out
          have x0 := cell_of (i := 0) HBN3.out rfl
          go_wp2_with fail
          refine (C4.out _ HW3.out ⟨HBR3.out, HBN3.out⟩).mono ?_
          rintro _ w4 ⟨hB, q, d, rfl, hT⟩
          replace hB : Ext _ w4 := hB
          have HBE4 := Lib.hid ((hB.below.block _ (lt_of_block HBE3.out)).trans HBE3.out)
          have HBR4 := Lib.hid ((hB.below.block _ (lt_of_block HBR3.out)).trans HBR3.out)
          have HBZ4 := Lib.hid ((hB.below.block _ (lt_of_block HBZ3.out)).trans HBZ3.out)
          have HBN4 := Lib.hid ((hB.below.block _ (lt_of_block HBN3.out)).trans HBN3.out)
          have HW4 := Lib.hid (Ext.trans HW3.out hB)
          clear hB
          clear d0 d1 d2 d3 d4 f0 y0 y1 y2 y3 y4 f1 z0 z1 z2 z3 z4 f2 x0
          have HL4 := Lib.hid (show AtB (fun b => b < w.heap.size ∨ w3.heap.size ≤ b) w4 q M from hT)
          have HS3 := Lib.hid (lt_of_block HBZ3.out)
          have HS4 := Lib.hid (lt_of_block HBZ4.out)
          have D5 := Lib.hid (C5.out q d w4 hT.at)
          clear hT
          unfold Ex.val
          obtain ⟨d0, d1, d2, d3, d4, f0⟩ := box5 HBE4.out
          obtain ⟨y0, y1, y2, y3, y4, f1⟩ := box5 HBR4.out
          obtain ⟨z0, z1, z2, z3, z4, f2⟩ := box5 HBZ4.out
          have x0 := cell_of (i := 0) HBN4.out rfl
          go_wp2_with fail
          refine (D5.out _ ((Below.refl _ w4).alloc (Nat.le_refl _) _)).mono ?_
          intro w5 hB
          replace hB : Ext _ w5 := hB
          have hM := (hB.below.block _ (lt_of_block (alloc_here w4 (.cells #[.int .i64 M.kind, .int .i64 M.op, sV M.name, .int .i64 M.value, .slice q M.args.length d] tEx)))).trans (alloc_here w4 (.cells #[.int .i64 M.kind, .int .i64 M.op, sV M.name, .int .i64 M.value, .slice q M.args.length d] tEx))
          replace hB : Ext w4 w5 := Ext.trans ((Below.refl _ w4).alloc (Nat.le_refl _) _) hB
          have HB5 := Lib.hid hB
          have HBE5 := Lib.hid ((hB.below.block _ (lt_of_block HBE4.out)).trans HBE4.out)
          have HBR5 := Lib.hid ((hB.below.block _ (lt_of_block HBR4.out)).trans HBR4.out)
          have HBZ5 := Lib.hid ((hB.below.block _ (lt_of_block HBZ4.out)).trans HBZ4.out)
          have HBN5 := Lib.hid ((hB.below.block _ (lt_of_block HBN4.out)).trans HBN4.out)
          have HW5 := Lib.hid (Ext.trans HW4.out hB)
          clear hB
          clear d0 d1 d2 d3 d4 f0 y0 y1 y2 y3 y4 f1 z0 z1 z2 z3 z4 f2 x0
          have HM5 := Lib.hid hM
          clear hM
          obtain ⟨d0, d1, d2, d3, d4, f0⟩ := box5 HBE5.out
          obtain ⟨y0, y1, y2, y3, y4, f1⟩ := box5 HBR5.out
          obtain ⟨z0, z1, z2, z3, z4, f2⟩ := box5 HBZ5.out
          have x0 := cell_of (i := 0) HBN5.out rfl
          go_wp2
          obtain ⟨V, hV, g0, g1, g2, g3, g4, h4, h5⟩ := put5b HBZ5.out (.int .i64 0) (.int .i64 0) (.string { data := #[] }) (.int .i64 0) (.slice none 0 0)
          rw [hV]
          exact bodyPost_ret (v := .tuple #[.agg #[.int .i64 0, .int .i64 0, .string { data := #[] }, .int .i64 0, .slice none 0 0], .int .i64 f3]) (by simp [results, Tryz.f26, go_sem, g0, g1, g2, g3, g4, sB_nil]) rfl ⟨Below.trans HW5.out (h4 _ (by omega)), none, 0, by rw [HR.out, sV_nil]; rfl, by rw [HR.out]; exact exZ_at _ _⟩
      | false =>
        have HR := Lib.hid (show rr = (exZ, 5) by rw [HT.out, if_neg (by simp), if_pos rfl])
        clear HT C4 C5
        go_enter Tryz.func26, Tryz.ntmps26
        obtain ⟨d0, d1, d2, d3, d4, f0⟩ := box5 HBE0.out
        obtain ⟨y0, y1, y2, y3, y4, f1⟩ := box5 HBR0.out
        obtain ⟨z0, z1, z2, z3, z4, f2⟩ := box5 HBZ0.out
        have x0 := cell_of (i := 0) HBN0.out rfl
        go_wp2_with fail
        refine (D1.out).mono ?_
        intro w1 hB
        replace hB : Ext _ w1 := hB
        have HBE1 := Lib.hid ((hB.below.block _ (lt_of_block HBE0.out)).trans HBE0.out)
        have HBR1 := Lib.hid ((hB.below.block _ (lt_of_block HBR0.out)).trans HBR0.out)
        have HBZ1 := Lib.hid ((hB.below.block _ (lt_of_block HBZ0.out)).trans HBZ0.out)
        have HBN1 := Lib.hid ((hB.below.block _ (lt_of_block HBN0.out)).trans HBN0.out)
        have HW1 := Lib.hid (Ext.trans HW0.out hB)
        clear hB
        clear d0 d1 d2 d3 d4 f0 y0 y1 y2 y3 y4 f1 z0 z1 z2 z3 z4 f2 x0
        obtain ⟨d0, d1, d2, d3, d4, f0⟩ := box5 HBE1.out
        obtain ⟨y0, y1, y2, y3, y4, f1⟩ := box5 HBR1.out
        obtain ⟨z0, z1, z2, z3, z4, f2⟩ := box5 HBZ1.out
        have x0 := cell_of (i := 0) HBN1.out rfl
        go_wp2_with fail
        refine (C2.out _ HW1.out).mono ?_
        intro w2 hB
        replace hB : Ext _ w2 := hB
        have HBE2 := Lib.hid ((hB.below.block _ (lt_of_block HBE1.out)).trans HBE1.out)
        have HBR2 := Lib.hid ((hB.below.block _ (lt_of_block HBR1.out)).trans HBR1.out)
        have HBZ2 := Lib.hid ((hB.below.block _ (lt_of_block HBZ1.out)).trans HBZ1.out)
        have HBN2 := Lib.hid ((hB.below.block _ (lt_of_block HBN1.out)).trans HBN1.out)
        have HW2 := Lib.hid (Ext.trans HW1.out hB)
        clear hB
        clear d0 d1 d2 d3 d4 f0 y0 y1 y2 y3 y4 f1 z0 z1 z2 z3 z4 f2 x0
        obtain ⟨d0, d1, d2, d3, d4, f0⟩ := box5 HBE2.out
        obtain ⟨y0, y1, y2, y3, y4, f1⟩ := box5 HBR2.out
        obtain ⟨z0, z1, z2, z3, z4, f2⟩ := box5 HBZ2.out
        have x0 := cell_of (i := 0) HBN2.out rfl
        go_wp2_with fail
        refine (C3.out _).mono ?_
        intro w3 hB
        replace hB : Ext _ w3 := hB
        have HBE3 := Lib.hid ((hB.below.block _ (lt_of_block HBE2.out)).trans HBE2.out)
        have HBR3 := Lib.hid ((hB.below.block _ (lt_of_block HBR2.out)).trans HBR2.out)
        have HBZ3 := Lib.hid ((hB.below.block _ (lt_of_block HBZ2.out)).trans HBZ2.out)
        have HBN3 := Lib.hid ((hB.below.block _ (lt_of_block HBN2.out)).trans HBN2.out)
        have HW3 := Lib.hid (Ext.trans HW2.out hB)
        clear hB
        clear d0 d1 d2 d3 d4 f0 y0 y1 y2 y3 y4 f1 z0 z1 z2 z3 z4 f2 x0
        obtain ⟨d0, d1, d2, d3, d4, f0⟩ := box5 HBE3.out
        obtain ⟨y0, y1, y2, y3, y4, f1⟩ := box5 HBR3.out
        obtain ⟨z0, z1, z2, z3, z4, f2⟩ := box5 HBZ3.out
        have x0 := cell_of (i := 0) HBN3.out rfl
        go_wp2
        obtain ⟨V, hV, g0, g1, g2, g3, g4, h4, h5⟩ := put5b HBZ3.out (.int .i64 0) (.int .i64 0) (.string { data := #[] }) (.int .i64 0) (.slice none 0 0)
        rw [hV]
        exact bodyPost_ret (v := .tuple #[.agg #[.int .i64 0, .int .i64 0, .string { data := #[] }, .int .i64 0, .slice none 0 0], .int .i64 5]) (by simp [results, Tryz.f26, go_sem, g0, g1, g2, g3, g4, sB_nil]) rfl ⟨Below.trans HW3.out (h4 _ (by omega)), none, 0, by rw [HR.out, sV_nil]; rfl, by rw [HR.out]; exact exZ_at _ _⟩
    · have hg : (f2 == 0) = false := by simpa using h2
      have hg2 : (f2 != 0) = true := by simpa using h2
      have HR := Lib.hid (show rr = (exZ, 1) by rw [HT.out, if_pos (.inr h2)])
      clear HT C3 C4 C5 h2
      go_enter Tryz.func26, Tryz.ntmps26
      obtain ⟨d0, d1, d2, d3, d4, f0⟩ := box5 HBE0.out
      obtain ⟨y0, y1, y2, y3, y4, f1⟩ := box5 HBR0.out
      obtain ⟨z0, z1, z2, z3, z4, f2⟩ := box5 HBZ0.out
      have x0 := cell_of (i := 0) HBN0.out rfl
      go_wp2_with fail
      refine (D1.out).mono ?_
      intro w1 hB
      replace hB : Ext _ w1 := hB
      have HBE1 := Lib.hid ((hB.below.block _ (lt_of_block HBE0.out)).trans HBE0.out)
      have HBR1 := Lib.hid ((hB.below.block _ (lt_of_block HBR0.out)).trans HBR0.out)
      have HBZ1 := Lib.hid ((hB.below.block _ (lt_of_block HBZ0.out)).trans HBZ0.out)
      have HBN1 := Lib.hid ((hB.below.block _ (lt_of_block HBN0.out)).trans HBN0.out)
      have HW1 := Lib.hid (Ext.trans HW0.out hB)
      clear hB
      clear d0 d1 d2 d3 d4 f0 y0 y1 y2 y3 y4 f1 z0 z1 z2 z3 z4 f2 x0
      obtain ⟨d0, d1, d2, d3, d4, f0⟩ := box5 HBE1.out
      obtain ⟨y0, y1, y2, y3, y4, f1⟩ := box5 HBR1.out
      obtain ⟨z0, z1, z2, z3, z4, f2⟩ := box5 HBZ1.out
      have x0 := cell_of (i := 0) HBN1.out rfl
      go_wp2_with fail
      refine (C2.out _ HW1.out).mono ?_
      intro w2 hB
      replace hB : Ext _ w2 := hB
      have HBE2 := Lib.hid ((hB.below.block _ (lt_of_block HBE1.out)).trans HBE1.out)
      have HBR2 := Lib.hid ((hB.below.block _ (lt_of_block HBR1.out)).trans HBR1.out)
      have HBZ2 := Lib.hid ((hB.below.block _ (lt_of_block HBZ1.out)).trans HBZ1.out)
      have HBN2 := Lib.hid ((hB.below.block _ (lt_of_block HBN1.out)).trans HBN1.out)
      have HW2 := Lib.hid (Ext.trans HW1.out hB)
      clear hB
      clear d0 d1 d2 d3 d4 f0 y0 y1 y2 y3 y4 f1 z0 z1 z2 z3 z4 f2 x0
      obtain ⟨d0, d1, d2, d3, d4, f0⟩ := box5 HBE2.out
      obtain ⟨y0, y1, y2, y3, y4, f1⟩ := box5 HBR2.out
      obtain ⟨z0, z1, z2, z3, z4, f2⟩ := box5 HBZ2.out
      have x0 := cell_of (i := 0) HBN2.out rfl
      go_wp2
      obtain ⟨V, hV, g0, g1, g2, g3, g4, h4, h5⟩ := put5b HBZ2.out (.int .i64 0) (.int .i64 0) (.string { data := #[] }) (.int .i64 0) (.slice none 0 0)
      rw [hV]
      exact bodyPost_ret (v := .tuple #[.agg #[.int .i64 0, .int .i64 0, .string { data := #[] }, .int .i64 0, .slice none 0 0], .int .i64 1]) (by simp [results, Tryz.f26, go_sem, g0, g1, g2, g3, g4, sB_nil]) rfl ⟨Below.trans HW2.out (h4 _ (by omega)), none, 0, by rw [HR.out, sV_nil]; rfl, by rw [HR.out]; exact exZ_at _ _⟩
  · have hg : (f1 == 0) = false := by simpa using h1
    have hg2 : (f1 != 0) = true := by simpa using h1
    have HR := Lib.hid (show rr = (exZ, 1) by rw [HT.out, if_pos (.inl h1)])
    clear HT C2 C3 C4 C5 h1
    go_enter Tryz.func26, Tryz.ntmps26
    obtain ⟨d0, d1, d2, d3, d4, f0⟩ := box5 HBE0.out
    obtain ⟨y0, y1, y2, y3, y4, f1⟩ := box5 HBR0.out
    obtain ⟨z0, z1, z2, z3, z4, f2⟩ := box5 HBZ0.out
    have x0 := cell_of (i := 0) HBN0.out rfl
    go_wp2_with fail
    refine (D1.out).mono ?_
    intro w1 hB
    replace hB : Ext _ w1 := hB
    have HBE1 := Lib.hid ((hB.below.block _ (lt_of_block HBE0.out)).trans HBE0.out)
    have HBR1 := Lib.hid ((hB.below.block _ (lt_of_block HBR0.out)).trans HBR0.out)
    have HBZ1 := Lib.hid ((hB.below.block _ (lt_of_block HBZ0.out)).trans HBZ0.out)
    have HBN1 := Lib.hid ((hB.below.block _ (lt_of_block HBN0.out)).trans HBN0.out)
    have HW1 := Lib.hid (Ext.trans HW0.out hB)
    clear hB
    clear d0 d1 d2 d3 d4 f0 y0 y1 y2 y3 y4 f1 z0 z1 z2 z3 z4 f2 x0
    obtain ⟨d0, d1, d2, d3, d4, f0⟩ := box5 HBE1.out
    obtain ⟨y0, y1, y2, y3, y4, f1⟩ := box5 HBR1.out
    obtain ⟨z0, z1, z2, z3, z4, f2⟩ := box5 HBZ1.out
    have x0 := cell_of (i := 0) HBN1.out rfl
    go_wp2
    obtain ⟨V, hV, g0, g1, g2, g3, g4, h4, h5⟩ := put5b HBZ1.out (.int .i64 0) (.int .i64 0) (.string { data := #[] }) (.int .i64 0) (.slice none 0 0)
    rw [hV]
    exact bodyPost_ret (v := .tuple #[.agg #[.int .i64 0, .int .i64 0, .string { data := #[] }, .int .i64 0, .slice none 0 0], .int .i64 1]) (by simp [results, Tryz.f26, go_sem, g0, g1, g2, g3, g4, sB_nil]) rfl ⟨Below.trans HW1.out (h4 _ (by omega)), none, 0, by rw [HR.out, sV_nil]; rfl, by rw [HR.out]; exact exZ_at _ _⟩

end Go.Proofs.YtgkalcboklhdgaaGreatDoor

namespace Go.Proofs.YtgkalcboklhdgaaGreatDoor
open Go.RowKit
set_option linter.unusedVariables false
set_option linter.unusedSimpArgs false
open Ex

theorem same_up {w : World} {args : Array Value} {U : Up w} (C : ∀ W, Ext w W → Gives Tryz.prog 50 args W (.bool true)) : Calls Tryz.prog 50 args U.W fun e w'' => e = .returned (.bool true) ∧ ∃ U' : Up w, w'' = U'.W := Up.call (C _ U.ext)

set_option maxRecDepth 100000 in
set_option maxHeartbeats 4000000 in
theorem refSame_refl : ∀ (n : Nat) (e : Ex), e.size ≤ n → ∀ (p p' : Option Addr) (c c' : Nat) (w : World), Ex.At w p e → Ex.At w p' e →
    Gives Tryz.prog 50 #[e.val p c, e.val p' c'] w (.bool true) := by
  intro n
  induction n with
  | zero => intro e he; have := e.size_pos; omega
  | succ n ih =>
    intro e he p p' c c' w hA hA'
    have hl : e.args.length ≤ 2199023255488 := hA.fit.2.2.2.2
    have hv : e.val p c = .agg #[.int .i64 e.kind, .int .i64 e.op, sV e.name, .int .i64 e.value, .slice p e.args.length c] := rfl
    have hv' : e.val p' c' = .agg #[.int .i64 e.kind, .int .i64 e.op, sV e.name, .int .i64 e.value, .slice p' e.args.length c'] := rfl
    rw [hv, hv']
    have IH := Lib.hid (fun t (ht : t ∈ e.args) => ih t (by obtain ⟨j, hj, rfl⟩ := List.getElem_of_mem ht; have h1 := size_get e.args j hj; have h2 := size_args e; omega))
    have HR := Lib.hid (show Ex.AtL w p 0 e.args from hA.row)
    have HR' := Lib.hid (show Ex.AtL w p' 0 e.args from hA'.row)
    clear ih he hv hv' hA hA'
    generalize hts : e.args.length = nts at *
    have HTS := Lib.hid hts
    clear hts
    generalize e.kind = k1 at *
    generalize e.op = o1 at *
    generalize e.name = n1 at *
    generalize e.value = v1 at *
    obtain ⟨hb0, hb1, hE0⟩ := two_boxes w (.int .i64 k1) (.int .i64 o1) (sV n1) (.int .i64 v1) (.slice p nts c) (.int .i64 k1) (.int .i64 o1) (sV n1) (.int .i64 v1) (.slice p' nts c') tEx
    have HB0 := Lib.hid hb0
    have HB1 := Lib.hid hb1
    have HE0 := Lib.hid hE0
    clear hb0 hb1 hE0
    unfold Gives
    go_enter Tryz.func50, Tryz.ntmps50
    go_wp2
    go_loopw [5] (fun i wr => ∃ j : Nat, j ≤ nts ∧ i = .int .i64 (j : Int) ∧ Ext ((w.alloc (.cells #[.int .i64 k1, .int .i64 o1, sV n1, .int .i64 v1, .slice p nts c] tEx)).alloc (.cells #[.int .i64 k1, .int .i64 o1, sV n1, .int .i64 v1, .slice p' nts c'] tEx)) wr) (fun i _ => nts - (intOf i).toNat)
    case atStart => exact ⟨0, Nat.zero_le _, rfl, Below.refl _ _⟩
    case round =>
      obtain ⟨j, hj, rfl, hE⟩ := hrel
      have hbe := (hE.below.block _ (lt_of_block HB0.out)).trans HB0.out
      have hbr := (hE.below.block _ (lt_of_block HB1.out)).trans HB1.out
      obtain ⟨d0, d1, d2, d3, d4, f0⟩ := box5 hbe
      obtain ⟨y0, y1, y2, y3, y4, f1⟩ := box5 hbr
      have hEw : Ext w wr := Ext.trans HE0.out hE
      by_cases hlt : j < nts
      · have hjt : j < e.args.length := by rw [HTS.out]; exact hlt
        obtain ⟨b, off, q2, dd2, rfl, hcs, hA1⟩ := HR.out.get j hjt
        obtain ⟨b', off', q3, dd3, rfl, hcs', hA1'⟩ := HR'.out.get j hjt
        rw [Nat.zero_add] at hcs hcs'
        obtain ⟨c0, c1, c2, c3, c4⟩ := hcs.below hEw
        obtain ⟨x0, x1, x2, x3, x4⟩ := hcs'.below hEw
        have D := Lib.hid (fun W (h : Ext wr W) => show Gives _ _ #[.agg #[.int .i64 (e.args[j]).kind, .int .i64 (e.args[j]).op, sV (e.args[j]).name, .int .i64 (e.args[j]).value, .slice q2 (e.args[j]).args.length dd2], .agg #[.int .i64 (e.args[j]).kind, .int .i64 (e.args[j]).op, sV (e.args[j]).name, .int .i64 (e.args[j]).value, .slice q3 (e.args[j]).args.length dd3]] _ _ from IH.out e.args[j] (List.getElem_mem hjt) q2 q3 dd2 dd3 W (hA1.below (Ext.trans hEw h)) (hA1'.below (Ext.trans hEw h)))
        have HE := Lib.hid hE
        clear hcs hcs' hA1 hA1' hE hEw hbe hbr
        generalize (e.args[j]).kind = k2 at *
        generalize (e.args[j]).op = o2 at *
        generalize (e.args[j]).name = n2 at *
        generalize (e.args[j]).value = v2' at *
        generalize (e.args[j]).args.length = l2 at *
        have u0 := fun U : Up wr => Up.cell d4 U
        have u1 := fun U : Up wr => Up.cell y4 U
        have s0 := fun U : Up wr => Up.cell c0 U
        have s1 := fun U : Up wr => Up.cell c1 U
        have s2 := fun U : Up wr => Up.cell c2 U
        have s3 := fun U : Up wr => Up.cell c3 U
        have s4 := fun U : Up wr => Up.cell c4 U
        have t0 := fun U : Up wr => Up.cell x0 U
        have t1 := fun U : Up wr => Up.cell x1 U
        have t2 := fun U : Up wr => Up.cell x2 U
        have t3 := fun U : Up wr => Up.cell x3 U
        have t4 := fun U : Up wr => Up.cell x4 U
        go_wp2
        refine wp_region_up (by kernel_rfl) (by kernel_rfl) ?_
        repeat (go_big_quiet_step ((go_at_call 50; exact same_up D.out)))
        refine wpQuiet_nil ?_
        rintro w4 ⟨U, rfl⟩
        have hE4 := Lib.hid (Ext.trans HE.out U.ext)
        generalize U.W = w4 at *
        clear u0 u1 s0 s1 s2 s3 s4 t0 t1 t2 t3 t4
        go_wp2
        go_roundw
        case rel => exact ⟨j + 1, by omega, by go_num, hE4.out⟩
        case measure => simp [intOf]; omega
      · have HE := Lib.hid hEw
        clear hE hEw hbe hbr
        go_wp2
        go_ret
        exact ⟨rfl, HE.out⟩

end Go.Proofs.YtgkalcboklhdgaaGreatDoor

namespace Go.Proofs.YtgkalcboklhdgaaGreatDoor
open Go.RowKit
set_option linter.unusedVariables false
set_option linter.unusedSimpArgs false
open Ex

set_option maxRecDepth 100000 in
set_option maxHeartbeats 2000000 in
theorem Equal_refl (e : Ex) (h0 : e.chk = 0) (p p' : Option Addr) (c c' : Nat) (w : World) (hA : Ex.At w p e) (hA' : Ex.At w p' e) :
    Gives Tryz.prog 23 #[e.val p c, e.val p' c'] w (.bool true) := by
  have hv : e.val p c = .agg #[.int .i64 e.kind, .int .i64 e.op, sV e.name, .int .i64 e.value, .slice p e.args.length c] := rfl
  have hv' : e.val p' c' = .agg #[.int .i64 e.kind, .int .i64 e.op, sV e.name, .int .i64 e.value, .slice p' e.args.length c'] := rfl
  have C1 := Lib.hid (fun W (h : Ext w W) => show Gives _ _ #[.agg #[.int .i64 e.kind, .int .i64 e.op, sV e.name, .int .i64 e.value, .slice p e.args.length c]] _ _ from h0 ▸ refChk_any e p c W (hA.below h))
  have C2 := Lib.hid (fun W (h : Ext w W) => show Gives _ _ #[.agg #[.int .i64 e.kind, .int .i64 e.op, sV e.name, .int .i64 e.value, .slice p' e.args.length c']] _ _ from h0 ▸ refChk_any e p' c' W (hA'.below h))
  have C3 := Lib.hid (fun W (h : Ext w W) => show Gives _ _ #[.agg #[.int .i64 e.kind, .int .i64 e.op, sV e.name, .int .i64 e.value, .slice p e.args.length c], .agg #[.int .i64 e.kind, .int .i64 e.op, sV e.name, .int .i64 e.value, .slice p' e.args.length c']] _ _ from refSame_refl e.size e (Nat.le_refl _) p p' c c' W (hA.below h) (hA'.below h))
  rw [hv, hv']
  clear hv hv' h0 hA hA'
  generalize e.kind = k1 at *
  generalize e.op = o1 at *
  generalize e.name = n1 at *
  generalize e.value = v1 at *
  generalize e.args.length = l1 at *
  obtain ⟨hb0, hb1, hE0⟩ := two_boxes w (.int .i64 k1) (.int .i64 o1) (sV n1) (.int .i64 v1) (.slice p l1 c) (.int .i64 k1) (.int .i64 o1) (sV n1) (.int .i64 v1) (.slice p' l1 c') tEx
  have HB0 := Lib.hid hb0
  have HB1 := Lib.hid hb1
  have HE0 := Lib.hid hE0
  have D1 := Lib.hid (C1.out _ hE0)
  clear hb0 hb1 hE0 C1
  unfold Gives
  go_enter Tryz.func23, Tryz.ntmps23
  go_wp2_with fail
  refine D1.out.mono ?_
  intro w1 hB
  replace hB : Ext _ w1 := hB
  have K0 := Lib.hid ((hB.below.block _ (lt_of_block HB0.out)).trans HB0.out)
  have K1 := Lib.hid ((hB.below.block _ (lt_of_block HB1.out)).trans HB1.out)
  have HW1 := Lib.hid (Ext.trans HE0.out hB)
  obtain ⟨d0, d1, d2, d3, d4, f0⟩ := box5 K0.out
  obtain ⟨y0, y1, y2, y3, y4, f1⟩ := box5 K1.out
  clear hB D1 HB0 HB1 HE0
  go_wp2_with fail
  refine (C2.out _ HW1.out).mono ?_
  intro w2 hB
  replace hB : Ext _ w2 := hB
  clear d0 d1 d2 d3 d4 f0 y0 y1 y2 y3 y4 f1
  have L0 := Lib.hid ((hB.below.block _ (lt_of_block K0.out)).trans K0.out)
  have L1 := Lib.hid ((hB.below.block _ (lt_of_block K1.out)).trans K1.out)
  have HW2 := Lib.hid (Ext.trans HW1.out hB)
  obtain ⟨d0, d1, d2, d3, d4, f0⟩ := box5 L0.out
  obtain ⟨y0, y1, y2, y3, y4, f1⟩ := box5 L1.out
  clear hB K0 K1 HW1
  go_wp2_with fail
  refine (C3.out _ HW2.out).mono ?_
  intro w3 hB
  replace hB : Ext _ w3 := hB
  have HW3 := Lib.hid (Ext.trans HW2.out hB)
  clear hB d0 d1 d2 d3 d4 f0 y0 y1 y2 y3 y4 f1
  go_wp2
  go_ret
  exact ⟨rfl, HW3.out⟩

theorem kind_of_chk {e : Ex} (h : e.chk = 0) : e.kind ≠ 0 := by
  have h1 := (chk_zero h).2.2
  obtain ⟨k, o, n, v, ts⟩ := e
  rcases pc_zero (fe_mk h1).1 with ⟨rfl, _⟩ | ⟨rfl, _⟩ | ⟨rfl, _⟩ | ⟨rfl, _⟩ <;> simp [Ex.kind]

end Go.Proofs.YtgkalcboklhdgaaGreatDoor

namespace Go.Proofs.YtgkalcboklhdgaaGreatDoor

/-- the digits of n in base 256, the most significant first; at most k of them -/
def magF : Nat → Nat → List UInt8
  | 0, _ => []
  | k + 1, n => if n = 0 then [] else magF k (n / 256) ++ [UInt8.ofNat (n % 256)]
def mag (n : Nat) : List UInt8 := magF 9 n

theorem magF_zero (k : Nat) : magF k 0 = [] := by cases k <;> simp [magF]
theorem magF_succ (k n : Nat) (h : n ≠ 0) : magF (k + 1) n = magF k (n / 256) ++ [UInt8.ofNat (n % 256)] := by simp [magF, h]
theorem magF_more : ∀ (k n : Nat), n < 256 ^ k → magF (k + 1) n = magF k n
  | 0, n, h => by
    have : n = 0 := by simpa using h
    subst this; rfl
  | k + 1, n, h => by
    by_cases h0 : n = 0
    · simp [h0, magF_zero]
    · rw [magF_succ _ _ h0, magF_succ _ _ h0, magF_more k (n / 256) (by rw [Nat.div_lt_iff_lt_mul (by omega)]; rw [Nat.pow_succ] at h; exact h)]
theorem mag_zero : mag 0 = [] := rfl
theorem mag_step (n : Nat) (h : n < 256 ^ 9) (h0 : n ≠ 0) : mag n = mag (n / 256) ++ [UInt8.ofNat (n % 256)] := by
  unfold mag
  have h8 : n / 256 < 256 ^ 8 := by omega
  rw [magF_more 8 (n / 256) h8, magF_succ _ _ h0]
theorem magF_len : ∀ (k n : Nat), (magF k n).length ≤ k
  | 0, _ => by simp [magF]
  | k + 1, n => by
    rw [magF]
    split
    · simp
    · have := magF_len k (n / 256); simp; omega
theorem magF_len_of : ∀ (k j n : Nat), n < 256 ^ j → (magF k n).length ≤ j
  | 0, j, _, _ => by simp [magF]
  | k + 1, j, n, h => by
    rw [magF]
    split
    · simp
    · rename_i h0
      cases j with
      | zero => exact absurd (by simpa using h) h0
      | succ j =>
        have := magF_len_of k j (n / 256) (by rw [Nat.div_lt_iff_lt_mul (by omega)]; rw [Nat.pow_succ] at h; exact h)
        simp; omega
theorem mag_len (n : Nat) (h : n < 256 ^ 8) : (mag n).length ≤ 8 := magF_len_of 9 8 n h

def headP (k : Nat) : UInt8 := UInt8.ofNat (128 + k)
def headN (k : Nat) : UInt8 := UInt8.ofNat (127 - k)
theorem headP_nat {k : Nat} (h : k ≤ 8) : (headP k).toNat = 128 + k := by unfold headP; simp; omega
theorem headN_nat {k : Nat} (h : k ≤ 8) : (headN k).toNat = 127 - k := by unfold headN; simp; omega
/-- the encoding of an integer -/
def enc (n : Int) : List UInt8 :=
  if 0 ≤ n then headP (mag n.toNat).length :: mag n.toNat
  else headN (mag (-n - 1).toNat).length :: (mag (-n - 1).toNat).map (fun b => 255 - b)

theorem enc_len (n : Int) (h1 : -4611686018427387904 ≤ n) (h2 : n ≤ 4611686018427387904) : (enc n).length ≤ 9 := by
  unfold enc
  split
  · have := mag_len n.toNat (by omega); simp only [List.length_cons]; omega
  · have := mag_len (-n - 1).toNat (by omega); simp only [List.length_cons, List.length_map]; omega

end Go.Proofs.YtgkalcboklhdgaaGreatDoor

namespace Go.Proofs.YtgkalcboklhdgaaGreatDoor
open Go.RowKit Go.Shelf
set_option linter.unusedVariables false
attribute [local go_sem] Oper.semAt_some

theorem int_eq {k : IntKind} {a b : Int} (h : a = b) : Value.int k a = Value.int k b := by rw [h]

/-- one shift of the loop: what has come, and what comes next -/
theorem mag_shift (m k : Nat) (hm : m < 2 ^ 63) (h : m / 2 ^ (8 * k) ≠ 0) : mag (m / 2 ^ (8 * k)) = mag (m / 2 ^ (8 * (k + 1))) ++ [UInt8.ofNat (m / 2 ^ (8 * k) % 256)] := by
  have e : m / 2 ^ (8 * (k + 1)) = m / 2 ^ (8 * k) / 256 := by
    rw [Nat.div_div_eq_div_mul, Nat.mul_add, Nat.pow_add]
  rw [e]
  exact mag_step _ (Nat.lt_of_le_of_lt (Nat.div_le_self _ _) (by omega)) h
theorem mag_shift0 (m k : Nat) (h : m / 2 ^ (8 * k) = 0) : mag (m / 2 ^ (8 * (k + 1))) = mag (m / 2 ^ (8 * k)) := by
  have e : m / 2 ^ (8 * (k + 1)) = m / 2 ^ (8 * k) / 256 := by
    rw [Nat.div_div_eq_div_mul, Nat.mul_add, Nat.pow_add]
  rw [e, h]
theorem shift_rel {k' : Nat} (hk : k' + 1 ≤ 8) {J : Nat → Prop} (h : J k') : ∃ k : Nat, k ≤ 8 ∧ ((k = 0 ∧ Value.int .i64 (8 * (k' : Int) - 8) = .int .i64 (-8)) ∨ ∃ j, k = j + 1 ∧ Value.int .i64 (8 * (k' : Int) - 8) = .int .i64 (8 * (j : Int))) ∧ J k := by
  cases k' with
  | zero => exact ⟨0, by omega, .inl ⟨rfl, by simp⟩, h⟩
  | succ j => exact ⟨j + 1, by omega, .inr ⟨j, rfl, int_eq (by omega)⟩, h⟩
theorem u8_of (m k : Nat) : (((UInt8.ofNat (m / 2 ^ (8 * k) % 256)).toNat : Nat) : Int) = (m : Int) / 2 ^ (8 * k) % 256 := by
  have : (UInt8.ofNat (m / 2 ^ (8 * k) % 256)).toNat = m / 2 ^ (8 * k) % 256 := by simp
  rw [this]; simp

/-- what a round of the loop over the digits must keep: the box of the number -/
def KeepAt (Bn : Nat) (W W' : World) : Prop := W'.cell? ⟨Bn, 0, none⟩ = W.cell? ⟨Bn, 0, none⟩
theorem keepAt_t {Bn : Nat} {A B C : World} (h : KeepAt Bn A B) (k : KeepAt Bn B C) : KeepAt Bn A C := Eq.trans k h
theorem keepAt_b {Bn : Nat} {w : World} (hn : Bn < w.heap.size) (W : World) (l : Nat) (o o' : Obj) (hl : w.heap.size ≤ l) (h : W.heap[l]? = some o) (h1 : o.isCells = false) (h2 : o.isWalk = false) : KeepAt Bn W (W.putObj l o') :=
  (belowK_b (n₀ := w.heap.size) (w := w) (Nat.le_refl _) W l o o' hl h h1 h2).cell (p := ⟨Bn, 0, none⟩) hn

end Go.Proofs.YtgkalcboklhdgaaGreatDoor

