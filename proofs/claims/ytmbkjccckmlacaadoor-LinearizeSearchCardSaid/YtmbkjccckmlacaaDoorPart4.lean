/- Lemmas and walks for the statements of this seat, part 4, merged from smaller texts: linearize: remove. Printed by mk_lno.py.; linearize: what the methods compute.; Maps with int keys: a store of a new key, and a look-up, at entries that are known.; The walk's law for a store of a new key; where a map lies.; linearize.methods: the maps.; linearize.apply. Printed by mk_lny.py.; linearize: the key of a node.; Different nodes have different keys: plain.; linearize: complete, begin, call.; linearize: call. Printed by mk_lnz2.py. -/
import Derived.Maps.Own
import Derived.OwnWalk
import Derived.Carry
import Derived.Lib.AppendIntMem
import Derived.Lib.LaidTab
import Derived.Lib.ItoaLen
import Derived.Test.YtmbkjccckmlacaaDoorPart3
import Derived.Test.YtmbkjccckmlacaaDoorPart3
import Derived.Test.YtmbkjccckmlacaaDoorPart1
import Derived.Test.YtmbkjccckmlacaaDoorPart1
import Derived.Test.YtmbkjccckmlacaaDoorPart2

namespace Go.Proofs.YtmbkjccckmlacaaDoor
open Go.RowKit
set_option linter.unusedVariables false
set_option linter.unusedSimpArgs false

theorem enters_fn {f : FuncId} {fn : Func} {c : Code} (hf : Tryd.prog.funcs[f]? = some fn) (hname : (fn.name == "runtime.NumGoroutine") = false) (hb : fn.body = some c) : ∀ args w, (callFunc f args).run Tryd.prog w = .ok (.enter f args) w := by
  intro args w
  have h1 : fn.name ≠ "runtime.NumGoroutine" := by simpa using hname
  simp [callFunc, hf, h1, hb, mark]
theorem getD_setN {listed : Array Bool} {i j : Nat} (h : i ≠ j) : (listed.setIfInBounds i true).getD j false = listed.getD j false := by
  simp [Array.getD_eq_getD_getElem?, Array.getElem?_setIfInBounds, h]
theorem getD_setS {listed : Array Bool} {i : Nat} (h : i < listed.size) : (listed.setIfInBounds i true).getD i false = true := by
  simp [Array.getD_eq_getD_getElem?, h]
theorem getD_rep (n i : Nat) : (Array.replicate n false).getD i false = false := by
  simp [Array.getD_eq_getD_getElem?, Array.getElem?_replicate]
  split <;> rfl
/-- operation p makes a row that holds l, operation q turns it into one that holds m -/
def JR (p q B : Nat) (l m : List Int) (listed : Array Bool) (s : Nat → Value) (W : World) : Prop :=
  (listed.getD q false = true → listed.getD p false = true ∧ RowI B (s q) m W) ∧ (listed.getD q false = false → listed.getD p false = true → RowI B (s p) l W)
theorem JR.init {p q B : Nat} {l m : List Int} (n : Nat) (s : Nat → Value) (W : World) : JR p q B l m (Array.replicate n false) s W := by
  constructor
  · intro h; rw [getD_rep] at h; cases h
  · intro _ h; rw [getD_rep] at h; cases h
theorem JR.other {p q B i : Nat} {l m : List Int} {listed : Array Bool} {s s' : Nat → Value} {W : World} (h : JR p q B l m listed s W) (hp : i ≠ p) (hq : i ≠ q) (hs : ∀ k, k ≠ i → s' k = s k) : JR p q B l m (listed.setIfInBounds i true) s' W := by
  unfold JR at h ⊢
  rw [getD_setN hp, getD_setN hq, hs p (Ne.symm hp), hs q (Ne.symm hq)]
  exact h
theorem JR.fst {p q B : Nat} {l m : List Int} {listed : Array Bool} {s s' : Nat → Value} {W W' : World} (h : JR p q B l m listed s W) (hpq : p ≠ q) (hn : listed.getD p false = false) (hr : RowI B (s' p) l W') : JR p q B l m (listed.setIfInBounds p true) s' W' := by
  have hq : listed.getD q false = false := by
    cases e : listed.getD q false with
    | false => rfl
    | true => have := (h.1 e).1; rw [hn] at this; cases this
  unfold JR
  rw [getD_setN hpq, hq]
  exact ⟨fun e => (by cases e), fun _ _ => hr⟩
theorem JR.snd {p q B : Nat} {l m : List Int} {listed : Array Bool} {s s' : Nat → Value} {W W' : World} (h : JR p q B l m listed s W) (hpq : q ≠ p) (hsz : q < listed.size) (hp : listed.getD p false = true) (hr : RowI B (s' q) m W') : JR p q B l m (listed.setIfInBounds q true) s' W' := by
  unfold JR
  rw [getD_setS hsz, getD_setN hpq]
  exact ⟨fun _ => ⟨hp, hr⟩, fun e => (by cases e)⟩
theorem RowI.le {base base' : Nat} {v : Value} {l : List Int} {w : World} (h : RowI base v l w) (hb : base' ≤ base) : RowI base' v l w := by
  obtain ⟨h1, h2⟩ := h
  refine ⟨h1, ?_⟩
  rcases h2 with h2 | ⟨g, cap, cur, e, hg, h3⟩
  · exact .inl h2
  · exact .inr ⟨g, cap, cur, e, Nat.le_trans hb hg, h3⟩
theorem svb_of {l : List Oper} {n : Nat} {a' : Act} {k : Nat} (h : k < n) : svb l n a' k = sv l a' k := by unfold svb; rw [if_pos h]
theorem remove_nil (i : Int) (a : Option Addr) (c : Nat) (w : World) :
    Calls Tryd.prog 83 #[.slice a 0 c, .int .i64 i] w (ApP w a [] ([], -1, 0)) := by
  go_enter Tryd.func83, Tryd.ntmps83
  go_wp2
  go_ret3
  exact ApP.mk (R := ([], -1, 0)) (w := w) IntsAt.nil (Nat.zero_le _) (Below.refl _ _) Frm.same
set_option maxRecDepth 100000 in
set_option maxHeartbeats 2000000 in
theorem remove_at (l : List Int) (i0 : Nat) (a : Option Addr) (c : Nat) (w : World) (hA : IntsAt w a l) (hi : i0 < l.length) (hl : l.length ≤ 1000) :
    Calls Tryd.prog 83 #[.slice a l.length c, .int .i64 (i0 : Int)] w (ApP w a l (l.eraseIdx i0, l[i0]?.getD 0, 0)) := by
  obtain ⟨b, off, rfl, hcell⟩ := hA i0 hi
  rw [List.getElem?_eq_getElem hi]
  dsimp only [Option.getD_some]
  generalize l[i0] = x at *
  have HC := Lib.hid (fun W (hW : Ext w W) => CloneI_row l (some ⟨b, off, none⟩) c W (by omega) (hA.ext hW))
  have HD := Lib.hid (fun v W base (hR : RowI base v l W) (hb : base ≤ W.heap.size) => DelI_any l i0 base v W hi hl hR hb)
  have hi0 : (0 : Int) ≤ (i0 : Int) := by omega
  have hi1 : (i0 : Int) < (l.length : Int) := by omega
  have hbz : b < w.heap.size := cell_lt hcell
  generalize l.eraseIdx i0 = L2 at *
  clear hA
  obtain ⟨n, hn⟩ : ∃ n, l.length = n := ⟨_, rfl⟩
  rw [hn] at HC hi1 hi hl ⊢
  clear hn
  have hne : ((n : Int) == 0) = false := by rw [beq_eq_false_iff_ne]; omega
  have en1 := enters_fn Tryd.func50 (by kernel_rfl) rfl
  have en2 := enters_fn Tryd.func93 (by kernel_rfl) rfl
  have k1 : IntKind.i64.wrap ((i0 : Int) + 1) = (i0 : Int) + 1 := IntWalk.i64_in _ (by omega)
  go_enter Tryd.func83, Tryd.ntmps83
  go_wp2_with fail
  refine wp_region_tailk (l1 := [_, _, _, _, _, _, _, _, _, _, _]) (l2 := [_, _]) (by kernel_rfl) (Below w.heap.size) (fun W => Below.refl _ W) (fun W => ⟨rfl, rfl, rfl, Nat.le_refl _, fun _ _ => rfl⟩) Below.trans
    (fun i s W => match i with
      | 0 => s 0 = .slice (some ⟨b, off, none⟩) n c
      | 2 => s 2 = .int .i64 (i0 : Int)
      | 3 => s 3 = .int .i64 (i0 : Int)
      | 4 => s 4 = .int .i64 ((i0 : Int) + 1)
      | 6 => s 6 = .slice (some ⟨b, off, none⟩) n c
      | 7 => s 7 = .int .i64 (i0 : Int)
      | 8 => s 8 = .pointer (some ⟨b, off + i0, none⟩)
      | 9 => s 9 = .int .i64 x
      | 10 => s 10 = s 5
      | _ => True)
    (JR 1 5 w.heap.size l L2) (fun s => JR.init _ _ _)
    (fun i => match i with | 10 => [10, 5] | i => [i])
    (by
      intro i s s' W W' h hs hE
      match i, h, hs with
      | 0, h, hs => exact (hs 0 (by simp)).trans h
      | 1, h, hs => exact trivial
      | 2, h, hs => exact (hs 2 (by simp)).trans h
      | 3, h, hs => exact (hs 3 (by simp)).trans h
      | 4, h, hs => exact (hs 4 (by simp)).trans h
      | 5, h, hs => exact trivial
      | 6, h, hs => exact (hs 6 (by simp)).trans h
      | 7, h, hs => exact (hs 7 (by simp)).trans h
      | 8, h, hs => exact (hs 8 (by simp)).trans h
      | 9, h, hs => exact (hs 9 (by simp)).trans h
      | 10, h, hs => exact (hs 10 (by simp)).trans (Eq.trans h (hs 5 (by simp)).symm)
      | i + 11, h, hs => exact trivial)
    (by kernel_rfl) (by kernel_rfl) (by kernel_rfl) 21 rfl (by kernel_rfl) (by kernel_rfl) ?_ ?_
  · intro i op ho listed a' W hA
    have hcW : W.cell? ⟨b, off + i0, none⟩ = some (.int .i64 x) := (hA.rel.cell (p := ⟨b, off + i0, none⟩) hbz).trans hcell
    match i, ho with
    | 0, ho =>
      obtain rfl := Option.some.inj ho
      have e1 : a'.eval (.tmp 0) = .slice (some ⟨b, off, none⟩) n c := hA.keep 0 (by kernel_rfl)
      refine GoesK.value (.slice (some ⟨b, off, none⟩) n c) rfl ?_ (Below.refl _ _) (fun s h1 h2 => hA.jnv.other (by decide) (by decide) h2) (fun s h1 h2 => h1 rfl)
      simp only [execOp, e1]
      simp [go_sem, hcW, hi0, hi1, k1]
    | 1, ho =>
      obtain rfl := Option.some.inj ho
      have e1 : a'.eval (.tmp 11) = .slice (some ⟨b, off, none⟩) n c := (sv_dst (l := _) rfl).symm.trans (hA.new 0 (by decide) (by kernel_rfl))
      refine GoesK.call 50 #[.slice (some ⟨b, off, none⟩) n c] rfl ?_ ?_
      · simp [Act.eval] at e1
        simp [execOp, go_sem, e1, en1]
      · refine (HC.out W hA.rel).mono ?_
        rintro e w1 ⟨v1, rfl, hR1, hE1⟩
        exact ⟨v1, rfl, hE1.mono hA.rel.size, fun s h1 h2 => hA.jnv.fst (by decide) hA.nl (by rw [h1 rfl]; exact RowI.le hR1 hA.rel.size), fun s h1 h2 => trivial⟩
    | 2, ho =>
      obtain rfl := Option.some.inj ho
      have e1 : a'.eval (.tmp 1) = .int .i64 (i0 : Int) := hA.keep 1 (by kernel_rfl)
      refine GoesK.value (.int .i64 (i0 : Int)) rfl ?_ (Below.refl _ _) (fun s h1 h2 => hA.jnv.other (by decide) (by decide) h2) (fun s h1 h2 => h1 rfl)
      simp only [execOp, e1]
      simp [go_sem, hcW, hi0, hi1, k1]
    | 3, ho =>
      obtain rfl := Option.some.inj ho
      have e1 : a'.eval (.tmp 1) = .int .i64 (i0 : Int) := hA.keep 1 (by kernel_rfl)
      refine GoesK.value (.int .i64 (i0 : Int)) rfl ?_ (Below.refl _ _) (fun s h1 h2 => hA.jnv.other (by decide) (by decide) h2) (fun s h1 h2 => h1 rfl)
      simp only [execOp, e1]
      simp [go_sem, hcW, hi0, hi1, k1]
    | 4, ho =>
      obtain rfl := Option.some.inj ho
      have e1 : a'.eval (.tmp 14) = .int .i64 (i0 : Int) := (sv_dst (l := _) rfl).symm.trans (hA.new 3 (by decide) (by kernel_rfl))
      refine GoesK.value (.int .i64 ((i0 : Int) + 1)) rfl ?_ (Below.refl _ _) (fun s h1 h2 => hA.jnv.other (by decide) (by decide) h2) (fun s h1 h2 => h1 rfl)
      simp only [execOp, e1]
      simp [go_sem, hcW, hi0, hi1, k1]
    | 5, ho =>
      obtain rfl := Option.some.inj ho
      have e2 : a'.eval (.tmp 13) = .int .i64 (i0 : Int) := (sv_dst (l := _) rfl).symm.trans (hA.new 2 (by decide) (by kernel_rfl))
      have e3 : a'.eval (.tmp 15) = .int .i64 ((i0 : Int) + 1) := (sv_dst (l := _) rfl).symm.trans (hA.new 4 (by decide) (by kernel_rfl))
      have hR1 := hA.jnv.2 hA.nl (hA.lanc 1 (by kernel_rfl))
      rw [svb_of (by decide), sv_dst (l := _) (d := 12) rfl] at hR1
      generalize hv : a'.eval (.tmp 12) = v1 at *
      refine GoesK.call 93 #[v1, .int .i64 (i0 : Int), .int .i64 ((i0 : Int) + 1)] rfl ?_ ?_
      · simp [Act.eval] at e2 e3 hv
        simp [execOp, go_sem, e2, e3, hv, en2]
      · refine (HD.out v1 W _ hR1 hA.rel.size).mono ?_
        rintro e w2 ⟨v2, rfl, hR2, hB2⟩
        exact ⟨v2, rfl, hB2, fun s h1 h2 => hA.jnv.snd (by decide) (by rw [hA.lsz]; decide) (hA.lanc 1 (by kernel_rfl)) (by rw [h1 rfl]; exact hR2), fun s h1 h2 => trivial⟩
    | 6, ho =>
      obtain rfl := Option.some.inj ho
      have e1 : a'.eval (.tmp 0) = .slice (some ⟨b, off, none⟩) n c := hA.keep 0 (by kernel_rfl)
      refine GoesK.value (.slice (some ⟨b, off, none⟩) n c) rfl ?_ (Below.refl _ _) (fun s h1 h2 => hA.jnv.other (by decide) (by decide) h2) (fun s h1 h2 => h1 rfl)
      simp only [execOp, e1]
      simp [go_sem, hcW, hi0, hi1, k1]
    | 7, ho =>
      obtain rfl := Option.some.inj ho
      have e1 : a'.eval (.tmp 1) = .int .i64 (i0 : Int) := hA.keep 1 (by kernel_rfl)
      refine GoesK.value (.int .i64 (i0 : Int)) rfl ?_ (Below.refl _ _) (fun s h1 h2 => hA.jnv.other (by decide) (by decide) h2) (fun s h1 h2 => h1 rfl)
      simp only [execOp, e1]
      simp [go_sem, hcW, hi0, hi1, k1]
    | 8, ho =>
      obtain rfl := Option.some.inj ho
      have e1 : a'.eval (.tmp 17) = .slice (some ⟨b, off, none⟩) n c := (sv_dst (l := _) rfl).symm.trans (hA.new 6 (by decide) (by kernel_rfl))
      have e2 : a'.eval (.tmp 18) = .int .i64 (i0 : Int) := (sv_dst (l := _) rfl).symm.trans (hA.new 7 (by decide) (by kernel_rfl))
      refine GoesK.value (.pointer (some ⟨b, off + i0, none⟩)) rfl ?_ (Below.refl _ _) (fun s h1 h2 => hA.jnv.other (by decide) (by decide) h2) (fun s h1 h2 => h1 rfl)
      simp only [execOp, e1, e2]
      simp [go_sem, hcW, hi0, hi1, k1]
    | 9, ho =>
      obtain rfl := Option.some.inj ho
      have e1 : a'.eval (.tmp 19) = .pointer (some ⟨b, off + i0, none⟩) := (sv_dst (l := _) rfl).symm.trans (hA.new 8 (by decide) (by kernel_rfl))
      refine GoesK.value (.int .i64 x) rfl ?_ (Below.refl _ _) (fun s h1 h2 => hA.jnv.other (by decide) (by decide) h2) (fun s h1 h2 => h1 rfl)
      simp only [execOp, e1]
      simp [go_sem, hcW, hi0, hi1, k1]
    | 10, ho =>
      obtain rfl := Option.some.inj ho
      refine GoesK.value (a'.eval (.tmp 16)) rfl ?_ (Below.refl _ _) (fun s h1 h2 => hA.jnv.other (by decide) (by decide) h2) (fun s h1 h2 => ?_)
      · simp [execOp, go_sem]
      · rw [h1 rfl, h2 5 (by decide) (by kernel_rfl)]
        exact (sv_dst (l := _) (d := 16) rfl).symm
    | i + 11, ho => cases ho
  · intro vs listed w4 hvs hG hJ hall hΦ
    obtain ⟨y0, y1, y2, y3, y4, y5, y6, y7, y8, y9, y10, rfl⟩ : ∃ y0 y1 y2 y3 y4 y5 y6 y7 y8 y9 y10, vs = y0 :: y1 :: y2 :: y3 :: y4 :: y5 :: y6 :: y7 :: y8 :: y9 :: y10 :: [] := by
      match vs, hvs with
      | y0 :: y1 :: y2 :: y3 :: y4 :: y5 :: y6 :: y7 :: y8 :: y9 :: y10 :: [], _ => exact ⟨_, _, _, _, _, _, _, _, _, _, _, rfl⟩
    have h9 : y9 = .int .i64 x := hΦ 9 (by decide)
    have h10 : y10 = y5 := hΦ 10 (by decide)
    have hrow : RowI w.heap.size y5 L2 w4 := (hJ.1 (hall 5 (by decide))).2
    obtain ⟨x2, c2, h5, hi2, hn2, hf2⟩ := hrow.look
    have HF2 := Lib.hid (show Frm w (some ⟨b, off, none⟩) l x2 L2 from .inl hf2)
    have HI2 := Lib.hid hi2
    have HE2 := Lib.hid (show Ext w w4 from hG)
    rw [h5] at h10
    clear hΦ hvs hJ hall hG hi2 hrow hf2
    subst h9 h10 h5
    simp only [putAll, Act.put, List.setIfInBounds_toArray, List.set_cons_succ, List.set_cons_zero]
    go_wp2
    go_ret3
    exact ApP.mk (R := (L2, x, 0)) HI2.out hn2 HE2.out HF2.out
end Go.Proofs.YtmbkjccckmlacaaDoor

namespace Go.Proofs.YtmbkjccckmlacaaDoor
open Go.RowKit
set_option linter.unusedVariables false
set_option linter.unusedSimpArgs false

/-- function g, with what it has captured, is method m of the model k -/
def MtC (g : FuncId) (cap : Array Value) (w0 : World) (k m : Int) : Prop :=
  ∀ (z : Int) (l : List Int) (a : Option Addr) (c : Nat) (arg : Int) (W : World), Ext w0 W → stR k z l = true → IntsAt W a l → l.length ≤ c → inM arg = true →
    Calls Tryd.prog g (#[.agg #[.int .i64 k, .int .i64 z], .slice a l.length c, .int .i64 arg] ++ cap) W (ApP W a l (apM k z l m arg))
theorem stR_one {k z : Int} {l : List Int} (h : stR k z l = true) (hk : k = 1 ∨ k = 2) : ∃ x, l = [x] ∧ -1099511627776 ≤ x ∧ x ≤ 1099511627776 := by
  unfold stR at h
  rw [if_pos hk] at h
  simp only [Bool.and_eq_true, decide_eq_true_eq] at h
  match l, h with
  | [x], h =>
    have := h.1
    simp [inM] at this
    exact ⟨x, rfl, this⟩
theorem stR_lock {z : Int} {l : List Int} (h : stR 6 z l = true) : l = [0] ∨ l = [1] := by
  unfold stR at h
  simp at h
  exact h.2
theorem stR_len {k z : Int} {l : List Int} (h : stR k z l = true) : l.length ≤ 100 := by
  unfold stR at h
  simp only [Bool.and_eq_true] at h
  obtain ⟨-, h⟩ := h
  split at h
  · have := of_decide_eq_true h; omega
  · split at h
    · rcases of_decide_eq_true h with rfl | rfl <;> simp
    · simp only [Bool.and_eq_true, decide_eq_true_eq] at h; omega
theorem stR_asc {z : Int} {l : List Int} (h : stR 5 z l = true) : ascL l = true := by
  unfold stR at h
  simp at h
  exact h.2.2
theorem inM_bd {n : Int} : inM n = true ↔ (-1099511627776 ≤ n ∧ n ≤ 1099511627776) := by simp [inM]
theorem ints_one {W : World} {a : Option Addr} {x : Int} (h : IntsAt W a [x]) : ∃ b off, a = some ⟨b, off, none⟩ ∧ W.cell? ⟨b, off, none⟩ = some (.int .i64 x) := by
  obtain ⟨b, off, e, hc⟩ := h 0 (by simp)
  exact ⟨b, off, e, by simpa using hc⟩
theorem lits_at {W : World} {x : Int} {n : Nat} (hn : n = W.heap.size) : IntsAt (W.alloc (.cells #[.int .i64 x] 3)) (some ⟨n, 0, none⟩) [x] := ints_lit1' W x 3 hn

theorem Mt_read {k : Int} (hk : k = 1 ∨ k = 2) (w0 : World) : MtC 79 #[] w0 k 1 := by
  intro z l a c arg W hW hs hA hc ha
  obtain ⟨x, rfl, hx1, hx2⟩ := stR_one hs hk
  have HR := Lib.hid (show apM k z [x] 1 arg = ([x], x, 0) by unfold apM; rw [if_neg (by simp [knM]), if_neg (by simp [ha])]; rcases hk with rfl | rfl <;> simp)
  rw [HR.out]
  obtain ⟨b, off, rfl, hcell⟩ := ints_one hA
  have HX := Lib.hid (mdX W k z)
  have HA := Lib.hid (hA.ext HX.out)
  have hbz : b < W.heap.size := cell_lt hcell
  clear hA HR
  show Calls _ _ #[_, _, _] _ _
  go_enter Tryd.func79, Tryd.ntmps79
  go_wp2
  go_quiet (fail)
  go_wp2
  go_ret3
  exact ⟨_, _, rfl, HA.out.ext (show Ext _ _ from ⟨rfl, rfl, rfl, Nat.le_refl _, fun _ _ => rfl⟩), hc, Ext.drewN' HX.out, Frm.same⟩
theorem Mt_write (w0 : World) : MtC 80 #[] w0 1 2 := by
  intro z l a c arg W hW hs hA hc ha
  have HR := Lib.hid (show apM 1 z l 2 arg = ([arg], 0, 0) by unfold apM; rw [if_neg (by simp [knM]), if_neg (by simp [ha])]; simp)
  rw [HR.out]
  have HX := Lib.hid (mdX W 1 z)
  clear hA HR
  show Calls _ _ #[_, _, _] _ _
  go_enter Tryd.func80, Tryd.ntmps80
  go_wp2
  go_ret3
  exact ApP.mk (R := ([arg], 0, 0)) (lits_at (by simp)) (by simp) (HX.out.alloc (by simp) _) (Frm.lit (by simp))
theorem Mt_add (w0 : World) : MtC 81 #[] w0 2 2 := by
  intro z l a c arg W hW hs hA hc ha
  obtain ⟨x, rfl, hx1, hx2⟩ := stR_one hs (Or.inr rfl)
  obtain ⟨ha1, ha2⟩ := inM_bd.1 ha
  have HR := Lib.hid (show apM 2 z [x] 2 arg = if inM (x + arg) then ([x + arg], x, 0) else ([], 0, 14) by unfold apM; rw [if_neg (by simp [knM]), if_neg (by simp [ha])]; simp)
  rw [HR.out]
  obtain ⟨b, off, rfl, hcell⟩ := ints_one hA
  have HX := Lib.hid (mdX W 2 z)
  have HA := Lib.hid (hA.ext HX.out)
  have hbz : b < W.heap.size := cell_lt hcell
  have hw1 : IntKind.i64.wrap (x + arg) = x + arg := IntWalk.i64_in _ (by omega)
  clear hA HR
  have HI := Lib.hid (fun W => inRange_any (x + arg) W)
  generalize hS : x + arg = S at *
  have hxa : x + arg = S := hS
  cases hin : inM S with
  | true =>
    rw [hin] at HI
    rw [if_pos rfl]
    clear hS hin
    show Calls _ _ #[_, _, _] _ _
    go_enter Tryd.func81, Tryd.ntmps81
    go_wp2_with fail
    refine (HI.out _).mono ?_
    intro w1 hB
    have HE1 := Lib.hid (Ext.trans HX.out hB)
    have hc1 := ((hB.cell (p := ⟨b, off, none⟩) (cell_lt ((HX.out.below.cell (p := ⟨b, off, none⟩) hbz).trans hcell))).trans ((HX.out.below.cell (p := ⟨b, off, none⟩) hbz).trans hcell))
    have hbz1 : b < w1.heap.size := cell_lt hc1
    clear hB
    go_wp2_with fail
    have hne := World.new_ne w1 ⟨b, off, none⟩ hc1
    go_region_held3 (fun W => W.cell? ⟨b, off, none⟩ = some (.int .i64 x)) (go_keep) (fail)
    all_goals
      go_wp2
      go_ret3
      exact ⟨_, _, rfl, lits_at (by simp), by simp, (HE1.out.alloc HE1.out.size _).drew, Frm.lit HE1.out.size⟩
  | false =>
    rw [hin] at HI
    rw [if_neg (by simp)]
    clear hS hin
    show Calls _ _ #[_, _, _] _ _
    go_enter Tryd.func81, Tryd.ntmps81
    go_wp2_with fail
    refine (HI.out _).mono ?_
    intro w1 hB
    have HE1 := Lib.hid (Ext.trans HX.out hB)
    clear hB
    go_wp2
    go_ret3
    exact ApP.mk (c := 0) (R := ([], 0, 14)) IntsAt.nil (Nat.le_refl _) HE1.out Frm.none
theorem Mt_put {k : Int} (hk : k = 3 ∨ k = 4) (w0 : World) : MtC 77 #[] w0 k 1 := by
  intro z l a c arg W hW hs hA hc ha
  have hl := stR_len hs
  have HR := Lib.hid (show apM k z l 1 arg = insM z l l.length arg by unfold apM; rw [if_neg (by simp [knM]), if_neg (by simp [ha])]; rcases hk with rfl | rfl <;> simp)
  rw [HR.out]
  have HX := Lib.hid (mdX W k z)
  have c0 := mdb0 W k z
  have c1 := mdb1 W k z
  have HI := Lib.hid (insert_any k z l l.length arg a c (W.alloc (.cells #[.int .i64 k, .int .i64 z] 23)) (hA.ext HX.out) (Nat.le_refl _) (by omega) hc)
  generalize insM z l l.length arg = R at *
  clear hA HR
  show Calls _ _ #[_, _, _] _ _
  go_enter Tryd.func77, Tryd.ntmps77
  go_wp2_with fail
  refine HI.out.mono ?_
  rintro e w1 ⟨a1, n1, rfl, h1, h2, h3, h4⟩
  have HF := Lib.hid (h4.up HX.out)
  clear h4
  have H1 := Lib.hid h1
  have H3 := Lib.hid (Ext.trans HX.out h3)
  clear h1 h3
  go_wp2
  go_ret3
  exact ApP.mk H1.out h2 H3.out HF.out
theorem remove_any (l : List Int) (i : Nat) (i0 : Int) (hi0 : i0 = (i : Int) ∨ l = []) (a : Option Addr) (c : Nat) (w : World) (hA : IntsAt w a l) (hi : i < l.length ∨ l = []) (hl : l.length ≤ 1000) :
    Calls Tryd.prog 83 #[.slice a l.length c, .int .i64 i0] w (ApP w a l (remM l i)) := by
  unfold remM
  by_cases h : l = []
  · subst h
    rw [if_pos rfl]
    exact remove_nil i0 a c w
  · rw [if_neg h]
    obtain rfl : i0 = (i : Int) := by rcases hi0 with h' | h'; exact h'; exact absurd h' h
    exact remove_at l i a c w hA (by rcases hi with h' | h'; exact h'; exact absurd h' h) hl
theorem apM_eq (k z : Int) (l : List Int) (m a : Int) (h1 : knM k m = true) (h2 : inM a = true) : apM k z l m a =
    if k = 1 then (if m = 1 then (l, l[0]?.getD 0, 0) else ([a], 0, 0)) else
    if k = 2 then (if m = 1 then (l, l[0]?.getD 0, 0) else if inM (l[0]?.getD 0 + a) then ([l[0]?.getD 0 + a], l[0]?.getD 0, 0) else ([], 0, 14)) else
    if k = 3 then (if m = 1 then insM z l l.length a else remM l 0) else
    if k = 4 then (if m = 1 then insM z l l.length a else remM l (l.length - 1)) else
    if k = 5 then (if m = 1 then (if isM l a then (l, 0, 0) else insM z l (posM l a) a) else if m = 2 then (if isM l a then (l.eraseIdx (posM l a), 1, 0) else (l, 0, 0)) else (l, if isM l a then 1 else 0, 0)) else
    if m = 1 then (if l[0]?.getD 0 = 0 then ([1], 0, 0) else ([], 0, 17)) else (if l[0]?.getD 0 = 1 then ([0], 0, 0) else ([], 0, 17)) := by
  unfold apM; rw [if_neg (by rw [h1]; simp), if_neg (by rw [h2]; simp)]
theorem Mt_take (w0 : World) : MtC 82 #[] w0 3 2 := by
  intro z l a c arg W hW hs hA hc ha
  have hl := stR_len hs
  have HR := Lib.hid (show apM 3 z l 2 arg = remM l 0 by rw [apM_eq _ _ _ _ _ (by simp [knM]) ha]; simp)
  rw [HR.out]
  have HX := Lib.hid (mdX W 3 z)
  have HI := Lib.hid (remove_any l 0 0 (Or.inl rfl) a c (W.alloc (.cells #[.int .i64 3, .int .i64 z] 23)) (hA.ext HX.out) (by cases l with | nil => exact Or.inr rfl | cons => exact Or.inl (by simp)) (by omega))
  generalize remM l 0 = R at *
  clear hA HR
  show Calls _ _ #[_, _, _] _ _
  go_enter Tryd.func82, Tryd.ntmps82
  go_wp2_with fail
  refine HI.out.mono ?_
  rintro e w1 ⟨a1, n1, rfl, h1, h2, h3, h4⟩
  have HF := Lib.hid (h4.up HX.out)
  clear h4
  have H1 := Lib.hid h1
  have H3 := Lib.hid (Ext.trans HX.out h3)
  clear h1 h3
  go_wp2
  go_ret3
  exact ApP.mk H1.out h2 H3.out HF.out
theorem Mt_pop (w0 : World) : MtC 84 #[] w0 4 2 := by
  intro z l a c arg W hW hs hA hc ha
  have hl := stR_len hs
  have HR := Lib.hid (show apM 4 z l 2 arg = remM l (l.length - 1) by rw [apM_eq _ _ _ _ _ (by simp [knM]) ha]; simp)
  rw [HR.out]
  have HX := Lib.hid (mdX W 4 z)
  have HI := Lib.hid (remove_any l (l.length - 1) ((l.length : Int) - 1) (by cases l with | nil => exact Or.inr rfl | cons => exact Or.inl (by simp)) a c (W.alloc (.cells #[.int .i64 4, .int .i64 z] 23)) (hA.ext HX.out) (by cases l with | nil => exact Or.inr rfl | cons => exact Or.inl (by simp)) (by omega))
  generalize remM l (l.length - 1) = R at *
  clear hA HR
  generalize l.length = n at *
  show Calls _ _ #[_, _, _] _ _
  go_enter Tryd.func84, Tryd.ntmps84
  go_wp2_with fail
  refine HI.out.mono ?_
  rintro e w1 ⟨a1, n1, rfl, h1, h2, h3, h4⟩
  have HF := Lib.hid (h4.up HX.out)
  clear h4
  have H1 := Lib.hid h1
  have H3 := Lib.hid (Ext.trans HX.out h3)
  clear h1 h3
  go_wp2
  go_ret3
  exact ApP.mk H1.out h2 H3.out HF.out
theorem posM_le (l : List Int) (x : Int) : posM l x ≤ l.length := (List.takeWhile_sublist _).length_le
theorem isM_lt {l : List Int} {x : Int} (h : isM l x = true) : posM l x < l.length := by
  unfold isM at h
  have := of_decide_eq_true h
  exact (List.getElem?_eq_some_iff.1 this).1
theorem Mt_addE (w0 : World) : MtC 85 #[] w0 5 1 := by
  intro z l a c arg W hW hs hA hc ha
  have hl := stR_len hs
  have HR := Lib.hid (show apM 5 z l 1 arg = if isM l arg then (l, 0, 0) else insM z l (posM l arg) arg by rw [apM_eq _ _ _ _ _ (by simp [knM]) ha]; simp)
  rw [HR.out]
  have HX := Lib.hid (mdX W 5 z)
  have HM := Lib.hid (fun V (hV : Ext (W.alloc (.cells #[.int .i64 5, .int .i64 z] 23)) V) => show V.cell? ⟨W.heap.size, 0, none⟩ = some (.int .i64 5) ∧ V.cell? ⟨W.heap.size, 1, none⟩ = some (.int .i64 z) from
    ⟨(hV.below.cell (cell_lt (mdb0 W 5 z))).trans (mdb0 W 5 z), (hV.below.cell (cell_lt (mdb1 W 5 z))).trans (mdb1 W 5 z)⟩)
  have HB := Lib.hid (BinI_any l arg a c (W.alloc (.cells #[.int .i64 5, .int .i64 z] 23)) (by omega) (hA.ext HX.out) (stR_asc hs))
  have HI := Lib.hid (fun V (hV : Ext W V) => insert_any 5 z l (posM l arg) arg a c V (hA.ext hV) (posM_le _ _) (by omega) hc)
  have HA := Lib.hid (fun V (hV : Ext W V) => hA.ext hV)
  clear hA HR
  generalize posM l arg = p at *
  cases hb : isM l arg with
  | true =>
    rw [hb] at HB
    rw [if_pos rfl]
    clear hb
    show Calls _ _ #[_, _, _] _ _
    go_enter Tryd.func85, Tryd.ntmps85
    go_wp2_with fail
    refine HB.out.mono ?_
    intro w1 hB
    have HE1 := Lib.hid (Ext.trans HX.out hB)
    clear hB
    go_wp2
    go_ret3
    exact ApP.mk (R := (l, 0, 0)) (HA.out _ HE1.out) hc HE1.out Frm.same
  | false =>
    rw [hb] at HB
    rw [if_neg (by simp)]
    generalize insM z l p arg = R at *
    clear hb
    show Calls _ _ #[_, _, _] _ _
    go_enter Tryd.func85, Tryd.ntmps85
    go_wp2_with fail
    refine HB.out.mono ?_
    intro w1 hB
    have HE1 := Lib.hid (Ext.trans HX.out hB)
    obtain ⟨m0, m1⟩ := HM.out _ hB
    clear hB
    go_wp2_with fail
    refine (HI.out _ HE1.out).mono ?_
    rintro e w2 ⟨a1, n1, rfl, h1, h2, h3, h4⟩
    have HF := Lib.hid (h4.up HE1.out)
    clear h4
    have H1 := Lib.hid h1
    have H3 := Lib.hid (Ext.trans HE1.out h3)
    clear h1 h3
    go_wp2
    go_ret3
    exact ApP.mk H1.out h2 H3.out HF.out
theorem Mt_delE (w0 : World) : MtC 86 #[] w0 5 2 := by
  intro z l a c arg W hW hs hA hc ha
  have hl := stR_len hs
  have HR := Lib.hid (show apM 5 z l 2 arg = if isM l arg then (l.eraseIdx (posM l arg), 1, 0) else (l, 0, 0) by rw [apM_eq _ _ _ _ _ (by simp [knM]) ha]; simp)
  rw [HR.out]
  have HX := Lib.hid (mdX W 5 z)
  have HB := Lib.hid (BinI_any l arg a c (W.alloc (.cells #[.int .i64 5, .int .i64 z] 23)) (by omega) (hA.ext HX.out) (stR_asc hs))
  have HA := Lib.hid (fun V (hV : Ext W V) => hA.ext hV)
  have HC := Lib.hid (fun V (hV : Ext W V) => CloneI_row l a c V (by omega) (HA.out V hV))
  clear hA HR
  cases hb : isM l arg with
  | true =>
    have HD := Lib.hid (fun v V base (hR : RowI base v l V) (hb2 : base ≤ V.heap.size) => DelI_any l (posM l arg) base v V (isM_lt hb) (by omega) hR hb2)
    have hp : posM l arg < 1000 := by have := isM_lt hb; omega
    rw [hb] at HB
    rw [if_pos rfl]
    generalize posM l arg = p at *
    generalize l.eraseIdx p = L2 at *
    clear hb
    have k1 : IntKind.i64.wrap ((p : Int) + 1) = (p : Int) + 1 := IntWalk.i64_in _ (by omega)
    have k2 : (p : Int) ≤ 1000 := by omega
    show Calls _ _ #[_, _, _] _ _
    go_enter Tryd.func86, Tryd.ntmps86
    go_wp2_with fail
    refine HB.out.mono ?_
    intro w1 hB
    have HE1 := Lib.hid (Ext.trans HX.out hB)
    clear hB
    go_wp2_with fail
    refine (HC.out _ HE1.out).mono ?_
    rintro e w2 ⟨v2, rfl, hR2, hE2⟩
    have HR2 := Lib.hid hR2
    have HE2 := Lib.hid (Ext.trans HE1.out hE2)
    have hz2 := hE2.size
    have hz1 := HE1.out.size
    clear hR2 hE2
    go_wp2_with fail
    refine (HD.out v2 w2 _ HR2.out hz2).mono ?_
    rintro e w3 ⟨v3, rfl, hR3, hB3⟩
    obtain ⟨x3, c3, rfl, hi3, hn3, hf3⟩ := hR3.look
    have HF := Lib.hid (show Frm W a l x3 L2 from .inl (fun y e => by have := hf3 y e; omega))
    have HI3 := Lib.hid hi3
    have HE3 := Lib.hid (show Ext W w3 from Below.trans HE2.out (hB3.mono hz1))
    clear hi3 hR3 hB3 hf3
    go_wp2
    go_ret3
    exact ApP.mk (R := (L2, 1, 0)) HI3.out hn3 HE3.out HF.out
  | false =>
    rw [hb] at HB
    rw [if_neg (by simp)]
    clear hb
    show Calls _ _ #[_, _, _] _ _
    go_enter Tryd.func86, Tryd.ntmps86
    go_wp2_with fail
    refine HB.out.mono ?_
    intro w1 hB
    have HE1 := Lib.hid (Ext.trans HX.out hB)
    clear hB
    go_wp2
    go_ret3
    exact ApP.mk (R := (l, 0, 0)) (HA.out _ HE1.out) hc HE1.out Frm.same
theorem Mt_hasE (w0 : World) : MtC 87 #[] w0 5 3 := by
  intro z l a c arg W hW hs hA hc ha
  have hl := stR_len hs
  have HR := Lib.hid (show apM 5 z l 3 arg = (l, if isM l arg then 1 else 0, 0) by rw [apM_eq _ _ _ _ _ (by simp [knM]) ha]; simp)
  rw [HR.out]
  have HX := Lib.hid (mdX W 5 z)
  have HB := Lib.hid (BinI_any l arg a c (W.alloc (.cells #[.int .i64 5, .int .i64 z] 23)) (by omega) (hA.ext HX.out) (stR_asc hs))
  have HA := Lib.hid (fun V (hV : Ext W V) => hA.ext hV)
  clear hA HR
  cases hb : isM l arg with
  | true =>
    rw [hb] at HB
    rw [if_pos rfl]
    generalize posM l arg = p at *
    clear hb
    show Calls _ _ #[_, _, _] _ _
    go_enter Tryd.func87, Tryd.ntmps87
    go_wp2_with fail
    refine HB.out.mono ?_
    intro w1 hB
    have HE1 := Lib.hid (Ext.trans HX.out hB)
    clear hB
    go_wp2
    go_ret3
    exact ApP.mk (R := (l, 1, 0)) (HA.out _ HE1.out) hc HE1.out Frm.same
  | false =>
    rw [hb] at HB
    rw [if_neg (by simp)]
    generalize posM l arg = p at *
    clear hb
    show Calls _ _ #[_, _, _] _ _
    go_enter Tryd.func87, Tryd.ntmps87
    go_wp2_with fail
    refine HB.out.mono ?_
    intro w1 hB
    have HE1 := Lib.hid (Ext.trans HX.out hB)
    clear hB
    go_wp2
    go_ret3
    exact ApP.mk (R := (l, 0, 0)) (HA.out _ HE1.out) hc HE1.out Frm.same
theorem Mt_lock {m fr to : Int} (hm : m = 1 ∧ fr = 0 ∧ to = 1 ∨ m = 2 ∧ fr = 1 ∧ to = 0) {w0 : World} {g1 g2 : Nat} (h1 : w0.cell? ⟨g1, 0, none⟩ = some (.int .i64 fr)) (h2 : w0.cell? ⟨g2, 0, none⟩ = some (.int .i64 to)) :
    MtC 95 #[.pointer (some ⟨g1, 0, none⟩), .pointer (some ⟨g2, 0, none⟩)] w0 6 m := by
  intro z l a c arg W hW hs hA hc ha
  have hg1 : W.cell? ⟨g1, 0, none⟩ = some (.int .i64 fr) := (hW.below.cell (cell_lt h1)).trans h1
  have hg2 : W.cell? ⟨g2, 0, none⟩ = some (.int .i64 to) := (hW.below.cell (cell_lt h2)).trans h2
  have hz1 : g1 < W.heap.size := cell_lt hg1
  have hz2 : g2 < W.heap.size := cell_lt hg2
  clear h1 h2
  obtain ⟨x, rfl, hx⟩ : ∃ x, l = [x] ∧ (x = 0 ∨ x = 1) := by
    rcases stR_lock hs with rfl | rfl
    · exact ⟨0, rfl, Or.inl rfl⟩
    · exact ⟨1, rfl, Or.inr rfl⟩
  have HR := Lib.hid (show apM 6 z [x] m arg = if x = fr then ([to], 0, 0) else ([], 0, 17) by
    rw [apM_eq _ _ _ _ _ (by rcases hm with ⟨rfl, _⟩ | ⟨rfl, _⟩ <;> simp [knM]) ha]
    rcases hm with ⟨rfl, rfl, rfl⟩ | ⟨rfl, rfl, rfl⟩ <;> simp)
  rw [HR.out]
  obtain ⟨b, off, rfl, hcell⟩ := ints_one hA
  have HX := Lib.hid (mdX W 6 z)
  have hbz : b < W.heap.size := cell_lt hcell
  clear hA HR
  by_cases he : x = fr
  · rw [if_pos he]
    have d1 : (x != fr) = false := by simpa using he
    clear hx hm
    show Calls _ _ #[_, _, _, _, _] _ _
    subst he
    go_enter Tryd.func95, Tryd.ntmps95
    go_wp2
    go_quiet (fail)
    go_wp2
    go_ret3
    exact ApP.mk (R := ([to], 0, 0)) (lits_at (by simp)) (by simp) ((Ext.drewN' HX.out).alloc (by simp) _) (Frm.lit (by simp))
  · rw [if_neg he]
    have d1 : (x != fr) = true := by simpa using he
    clear hx hm he
    show Calls _ _ #[_, _, _, _, _] _ _
    go_enter Tryd.func95, Tryd.ntmps95
    go_wp2
    go_quiet (fail)
    go_wp2
    go_ret3
    exact ApP.mk (c := 0) (R := ([], 0, 17)) IntsAt.nil (Nat.le_refl _) (Ext.drewN' HX.out) Frm.none
end Go.Proofs.YtmbkjccckmlacaaDoor

namespace Go.Proofs.YtmbkjccckmlacaaDoor
open Go.RowKit
set_option linter.unusedVariables false
set_option linter.unusedSimpArgs false

/-- the entries hold these keys and values, in this order -/
def Holds (es : Array MapEntry) (l : List (Int × Value)) : Prop := es.toList.map (fun e => (e.key, e.val)) = l.map fun p => (Value.int .i64 p.1, p.2)

theorem findNow_at (k : Int) : ∀ (es : List MapEntry) (l : List (Int × Value)) (i : Nat), es.map (fun e => (e.key, e.val)) = l.map (fun p => (Value.int .i64 p.1, p.2)) →
    Instr.findNow (.int .i64) (.int .i64 k) es i = some ((l.zipIdx i).find? (fun p => p.1.1 == k) |>.map fun p => (p.2, p.1.2))
  | [], l, i, h => by
    obtain rfl : l = [] := by simpa using h.symm
    rfl
  | e :: es, [], i, h => by simp at h
  | e :: es, (n, v) :: l, i, h => by
    simp only [List.map_cons, List.cons.injEq, Prod.mk.injEq] at h
    obtain ⟨⟨h1, h2⟩, h3⟩ := h
    have ih := findNow_at k es l (i + 1) h3
    simp only [Instr.findNow, h1, Instr.sameNow, if_true, List.zipIdx_cons, List.find?_cons]
    by_cases hn : n = k
    · subst hn; simp [h2]
    · have e1 : (n == k) = false := by simpa using hn
      have e2 : (k == n) = false := by simpa using Ne.symm hn
      simp only [e1, e2]
      exact ih

variable {P : Program}
open Go.MapKept

theorem holds_find {es : Array MapEntry} {l : List (Int × Value)} (h : Holds es l) (kt : TypeId) (hk : P.underlying kt = some (.int .i64)) (k : Int) (w : World) :
    (Instr.findKey kt (.int .i64 k) es.toList).run P w = .ok ((l.zipIdx 0).find? (fun p => p.1.1 == k) |>.map fun p => (p.2, p.1.2)) w := by
  simp [Instr.findKey, run_underlying hk, findNow_at k es.toList l 0 h, Result.andThen]

theorem check_int (kt : TypeId) (hk : P.underlying kt = some (.int .i64)) (em : Bool) (k : Int) (w : World) : (Instr.checkKey em 10000 kt (.int .i64 k)).run P w = .ok () w := by
  rw [show (10000 : Nat) = 9999 + 1 from rfl, Instr.checkKey]
  simp [run_underlying hk, Result.andThen]

theorem zip_find (k : Int) : ∀ (l : List (Int × Value)) (i : Nat), ((l.zipIdx i).find? (fun p => p.1.1 == k)).map (fun p => p.1.2) = (l.find? (fun p => p.1 == k)).map (·.2)
  | [], _ => rfl
  | (n, v) :: l, i => by
    simp only [List.zipIdx_cons, List.find?_cons]
    cases h : n == k with
    | true => rfl
    | false => exact zip_find k l (i + 1)

/-- a look-up -/
theorem run_lookup_int {es : Array MapEntry} {clock b : Nat} {l : List (Int × Value)} {t kt e : TypeId} {w : World} (ht : P.underlying t = some (.map kt e)) (hk : P.underlying kt = some (.int .i64)) (hb : w.heap[b]? = some (.map es clock)) (h : Holds es l) (z : Value) (hz : (zeroValue e).run P w = .ok z w) (k : Int) (c : Bool) :
    (Instr.lookup t (.map (some b)) (.int .i64 k) c).run P w = .ok (if c then .tuple #[(((l.find? (fun p => p.1 == k)).map (·.2))).getD z, .bool ((l.find? (fun p => p.1 == k)).map (·.2)).isSome] else (((l.find? (fun p => p.1 == k)).map (·.2))).getD z) w := by
  rw [← zip_find k l 0]
  have hf := holds_find (P := P) h kt hk k w
  simp only [Instr.lookup, Sem.run_bind, run_underlying ht, Go.MapKept.run_getObj_map hb, check_int kt hk, hf, Result.andThen, Sem.run_pure]
  cases (l.zipIdx 0).find? (fun p => p.1.1 == k) with
  | none => simp [hz, Result.andThen]
  | some x => simp

/-- a store of a new key -/
theorem run_insert_new {es : Array MapEntry} {clock b : Nat} {l : List (Int × Value)} {t kt e : TypeId} {w : World} (ht : P.underlying t = some (.map kt e)) (hk : P.underlying kt = some (.int .i64)) (hb : w.heap[b]? = some (.map es clock)) (h : Holds es l) (k : Int) (hno : l.all (fun p => p.1 != k) = true) (v : Value) :
    ∃ es' clock' W, (Instr.mapUpdate t (.map (some b)) (.int .i64 k) v).run P w = .ok () W ∧ Holds es' (l ++ [(k, v)]) ∧ Turn b (.map es' clock') w W := by
  have hf := holds_find (P := P) h kt hk k w
  have hn : (l.zipIdx 0).find? (fun p => p.1.1 == k) = none := by
    have hz := zip_find k l 0
    have h0 : l.find? (fun p => p.1 == k) = none := by
      rw [List.find?_eq_none]
      intro x hx
      have := List.all_eq_true.1 hno x hx
      simpa using this
    rw [h0] at hz
    simpa using hz
  rw [hn] at hf
  have hlt := lt_of_block hb
  refine ⟨es.push { key := .int .i64 k, val := v, born := clock }, clock + 1, { w with heap := w.heap.setIfInBounds b (.map (es.push { key := .int .i64 k, val := v, born := clock }) (clock + 1)) }, ?_, ?_, ?_⟩
  · simp only [Instr.mapUpdate, Sem.run_bind, run_underlying ht, Go.MapKept.run_getObj_map hb, check_int kt hk, hf, Result.andThen]
    simp [run_setObj_map _ hb]
  · unfold Holds at h ⊢
    simp [h]
  · exact ⟨rfl, rfl, rfl, by simp, by simp [hlt], fun j hj hne => by simp [Array.getElem?_setIfInBounds_ne (Ne.symm hne)]⟩

end Go.Proofs.YtmbkjccckmlacaaDoor

namespace Go.Proofs.YtmbkjccckmlacaaDoor
open Go.RowKit
set_option linter.unusedVariables false
set_option linter.unusedSimpArgs false

/-- block b is a map with these entries -/
def MapAt (w : World) (b : Nat) (l : List (Int × Value)) : Prop := ∃ es clock, w.heap[b]? = some (.map es clock) ∧ Holds es l
theorem MapAt.ext {w W : World} {b : Nat} {l : List (Int × Value)} (h : MapAt w b l) (hE : Ext w W) : MapAt W b l := by
  obtain ⟨es, c, h1, h2⟩ := h
  exact ⟨es, c, (hE.below.block b (lt_of_block h1)).trans h1, h2⟩
theorem MapAt.lt {w : World} {b : Nat} {l : List (Int × Value)} (h : MapAt w b l) : b < w.heap.size := by
  obtain ⟨es, c, h1, h2⟩ := h
  exact lt_of_block h1
theorem MapAt.made (w : World) : MapAt (w.alloc (.map #[] 0)) w.heap.size [] := ⟨#[], 0, alloc_here _ _, rfl⟩

variable {P : Program} {ops : Array Oper} {rest : List Oper} {o : Oper} {a : Act} {Q : Exit → Act → World → Prop}
theorem wp_insert {w : World} (hg : o.guard = none) (m x v : Operand) (t : TypeId) (hop : o.op = Op.insert t m x v) (kt e : TypeId) (ht : P.underlying t = some (.map kt e)) (hk : P.underlying kt = some (.int .i64))
    (b : Nat) (l : List (Int × Value)) (hm : a.eval m = .map (some b)) (h : MapAt w b l) (k : Int) (val : Value) (hx : a.eval x = .int .i64 k) (hv : a.eval v = val) (hno : l.all (fun p => p.1 != k) = true)
    (hK : ∀ W, MapAt W b (l ++ [(k, val)]) → Below b w W → (∀ j, j < w.heap.size → j ≠ b → W.heap[j]? = w.heap[j]?) → wpList P ops Q rest (a.put o.dst undef) W) : wpList P ops Q (o :: rest) a w := by
  obtain ⟨es, c, h1, h2⟩ := h
  obtain ⟨es', c', W, hrun, h3, h4⟩ := run_insert_new ht hk h1 h2 k hno val
  refine wpList_plain hg fun K' hK' => ?_
  unfold Oper.wp
  simp [execOp, hop, hm, hx, hv, hrun, Result.andThen]
  exact hK' _ _ (hK W ⟨es', c', h4.here, h3⟩ (h4.below (Nat.le_refl _) (Nat.le_of_lt (lt_of_block h1))) h4.other)

end Go.Proofs.YtmbkjccckmlacaaDoor

namespace Go.Proofs.YtmbkjccckmlacaaDoor
open Go.RowKit
set_option linter.unusedVariables false
set_option linter.unusedSimpArgs false

/-- a method as a value -/
def MtAt (W : World) (k m : Int) (fv : Value) : Prop := ∃ g cap, fv = .func (.func g) #[] cap ∧ (∀ args w, (callFunc g args).run Tryd.prog w = .ok (.enter g args) w) ∧ MtC g cap W k m
def InAt (W : World) (b : Nat) (k : Int) : Prop := ∃ L, MapAt W b L ∧ (∀ m, knM k m = true → ∃ fv, (L.find? (fun p => p.1 == m)).map (·.2) = some fv ∧ MtAt W k m fv) ∧ ∀ m, knM k m = false → (L.find? (fun p => p.1 == m)).map (·.2) = none
def MsAt (W : World) (b : Nat) : Prop := ∃ L, MapAt W b L ∧ ∀ k, 1 ≤ k → k ≤ 6 → ∃ b', (L.find? (fun p => p.1 == k)).map (·.2) = some (.map (some b')) ∧ InAt W b' k
theorem MtAt.ext {W V : World} {k m : Int} {fv : Value} (h : MtAt W k m fv) (hE : Ext W V) : MtAt V k m fv := by
  obtain ⟨g, cap, e, h1, h2⟩ := h
  exact ⟨g, cap, e, h1, fun z l a c arg X hX => h2 z l a c arg X (Ext.trans hE hX)⟩
theorem InAt.ext {W V : World} {b : Nat} {k : Int} (h : InAt W b k) (hE : Ext W V) : InAt V b k := by
  obtain ⟨L, h1, h2, h3⟩ := h
  exact ⟨L, h1.ext hE, fun m hm => by obtain ⟨fv, e, h⟩ := h2 m hm; exact ⟨fv, e, h.ext hE⟩, h3⟩
theorem MsAt.ext {W V : World} {b : Nat} (h : MsAt W b) (hE : Ext W V) : MsAt V b := by
  obtain ⟨L, h1, h2⟩ := h
  exact ⟨L, h1.ext hE, fun k h3 h4 => by obtain ⟨b', e, h⟩ := h2 k h3 h4; exact ⟨b', e, h.ext hE⟩⟩
theorem set_any (fr to : Int) (w : World) : Calls Tryd.prog 88 #[.int .i64 fr, .int .i64 to] w fun e W => ∃ g1 g2, e = .returned (.func (.func 95) #[] #[.pointer (some ⟨g1, 0, none⟩), .pointer (some ⟨g2, 0, none⟩)]) ∧ W.cell? ⟨g1, 0, none⟩ = some (.int .i64 fr) ∧ W.cell? ⟨g2, 0, none⟩ = some (.int .i64 to) ∧ Ext w W := by
  go_enter Tryd.func88, Tryd.ntmps88
  go_wp2
  go_ret
  refine ⟨w.heap.size, w.heap.size + 1, rfl, ?_, ?_, ?_⟩
  · have h := alloc_here w (.cells #[.int .i64 fr] 3)
    exact cell_of ((Below.heap_alloc _ _ _ (by simp)).trans h) rfl
  · have h := alloc_here (w.alloc (.cells #[.int .i64 fr] 3)) (.cells #[.int .i64 to] 3)
    rw [World.size_alloc] at h
    exact cell_of h rfl
  · exact (ext_allocN w _).alloc (by simp) _
/-- what has been made so far: the outer map, the inner maps, some cells -/
structure Ms (w0 V : World) (bo : Nat) (LO : List (Int × Value)) (Ls : List (Nat × List (Int × Value))) (Cs : List (Nat × Int)) : Prop where
  out : MapAt V bo LO
  ins : ∀ p ∈ Ls, MapAt V p.1 p.2 ∧ p.1 ≠ bo
  cel : ∀ p ∈ Cs, V.cell? ⟨p.1, 0, none⟩ = some (.int .i64 p.2)
  ext : Ext w0 V
  new : w0.heap.size ≤ bo
theorem MapAt.oth {w W : World} {b bx : Nat} {l : List (Int × Value)} (h : MapAt w b l) (hne : b ≠ bx) (ho : ∀ j, j < w.heap.size → j ≠ bx → W.heap[j]? = w.heap[j]?) : MapAt W b l := by
  obtain ⟨es, c, h1, h2⟩ := h
  exact ⟨es, c, (ho b (lt_of_block h1) hne).trans h1, h2⟩
theorem cell_oth {w W : World} {a : Addr} {v : Value} {bx : Nat} {L : List (Int × Value)} (h : w.cell? a = some v) (hm : MapAt w bx L) (ho : ∀ j, j < w.heap.size → j ≠ bx → W.heap[j]? = w.heap[j]?) : W.cell? a = some v := by
  obtain ⟨es, c, h1, -⟩ := hm
  have hne : a.block ≠ bx := by
    intro e
    rw [← e] at h1
    unfold World.cell? at h
    rw [h1] at h
    cases h
  have := ho a.block (cell_lt h) hne
  unfold World.cell? at h ⊢
  rw [this]; exact h
theorem Ms.grow {w0 V W : World} {bo : Nat} {LO : List (Int × Value)} {Ls : List (Nat × List (Int × Value))} {Cs : List (Nat × Int)} (h : Ms w0 V bo LO Ls Cs) (hE : Ext V W) : Ms w0 W bo LO Ls Cs :=
  ⟨h.out.ext hE, fun p hp => ⟨(h.ins p hp).1.ext hE, (h.ins p hp).2⟩, fun p hp => (hE.below.cell (cell_lt (h.cel p hp))).trans (h.cel p hp), Ext.trans h.ext hE, h.new⟩
theorem Ms.cells {w0 V : World} {bo : Nat} {LO : List (Int × Value)} {Ls : List (Nat × List (Int × Value))} {Cs : List (Nat × Int)} (h : Ms w0 V bo LO Ls Cs) {g1 g2 : Nat} {x y : Int} (h1 : V.cell? ⟨g1, 0, none⟩ = some (.int .i64 x)) (h2 : V.cell? ⟨g2, 0, none⟩ = some (.int .i64 y)) : Ms w0 V bo LO Ls (Cs ++ [(g1, x), (g2, y)]) :=
  ⟨h.out, h.ins, fun p hp => by
    simp only [List.mem_append, List.mem_cons, List.not_mem_nil, or_false] at hp
    rcases hp with hp | rfl | rfl
    · exact h.cel p hp
    · exact h1
    · exact h2, h.ext, h.new⟩
/-- the inner map that is being filled: behind all others -/
structure Mc (w0 V : World) (bo : Nat) (LO : List (Int × Value)) (Ls : List (Nat × List (Int × Value))) (Cs : List (Nat × Int)) (bx : Nat) (L : List (Int × Value)) : Prop extends Ms w0 V bo LO Ls Cs where
  cur : MapAt V bx L
  far : ∀ p ∈ Ls, p.1 < bx
  fao : bo < bx
theorem Ms.begin {w0 V : World} {bo : Nat} {LO : List (Int × Value)} {Ls : List (Nat × List (Int × Value))} {Cs : List (Nat × Int)} (h : Ms w0 V bo LO Ls Cs) : Mc w0 (V.alloc (.map #[] 0)) bo LO Ls Cs V.heap.size [] :=
  { h.grow (ext_allocN V _) with cur := MapAt.made V, far := fun p hp => (h.ins p hp).1.lt, fao := h.out.lt }
theorem Mc.grow {w0 V W : World} {bo bx : Nat} {LO L : List (Int × Value)} {Ls : List (Nat × List (Int × Value))} {Cs : List (Nat × Int)} (h : Mc w0 V bo LO Ls Cs bx L) (hE : Ext V W) : Mc w0 W bo LO Ls Cs bx L :=
  { h.toMs.grow hE with cur := h.cur.ext hE, far := h.far, fao := h.fao }
theorem Mc.cells {w0 V : World} {bo bx : Nat} {LO L : List (Int × Value)} {Ls : List (Nat × List (Int × Value))} {Cs : List (Nat × Int)} (h : Mc w0 V bo LO Ls Cs bx L) {g1 g2 : Nat} {x y : Int} (h1 : V.cell? ⟨g1, 0, none⟩ = some (.int .i64 x)) (h2 : V.cell? ⟨g2, 0, none⟩ = some (.int .i64 y)) : Mc w0 V bo LO Ls (Cs ++ [(g1, x), (g2, y)]) bx L :=
  { h.toMs.cells h1 h2 with cur := h.cur, far := h.far, fao := h.fao }
theorem Mc.put {w0 V W : World} {bo bx : Nat} {LO L L' : List (Int × Value)} {Ls : List (Nat × List (Int × Value))} {Cs : List (Nat × Int)} (h : Mc w0 V bo LO Ls Cs bx L) (hm : MapAt W bx L') (hb : Below bx V W) (ho : ∀ j, j < V.heap.size → j ≠ bx → W.heap[j]? = V.heap[j]?) : Mc w0 W bo LO Ls Cs bx L' :=
  { out := h.out.oth (by have := h.fao; omega) ho, ins := fun p hp => ⟨(h.ins p hp).1.oth (by have := h.far p hp; omega) ho, (h.ins p hp).2⟩, cel := fun p hp => cell_oth (h.cel p hp) h.cur ho, ext := Below.trans h.ext (hb.mono (by have := h.new; have := h.fao; omega)), new := h.new, cur := hm, far := h.far, fao := h.fao }
theorem Mc.done {w0 V W : World} {bo bx : Nat} {LO LO' L : List (Int × Value)} {Ls : List (Nat × List (Int × Value))} {Cs : List (Nat × Int)} (h : Mc w0 V bo LO Ls Cs bx L) (hm : MapAt W bo LO') (hb : Below bo V W) (ho : ∀ j, j < V.heap.size → j ≠ bo → W.heap[j]? = V.heap[j]?) : Ms w0 W bo LO' (Ls ++ [(bx, L)]) Cs :=
  { out := hm, ins := fun p hp => by
      rcases List.mem_append.1 hp with hp | hp
      · exact ⟨(h.ins p hp).1.oth (h.ins p hp).2 ho, (h.ins p hp).2⟩
      · rw [List.mem_singleton.1 hp]
        have := h.fao
        exact ⟨h.cur.oth (by omega) ho, by show bx ≠ bo; omega⟩
    cel := fun p hp => cell_oth (h.cel p hp) h.out ho, ext := Below.trans h.ext (hb.mono h.new), new := h.new }
theorem in_two {W : World} {b : Nat} {k : Int} {f1 f2 : Value} (hk : k ≠ 5) (h : MapAt W b ([] ++ [((1 : Int), f1)] ++ [((2 : Int), f2)])) (h1 : MtAt W k 1 f1) (h2 : MtAt W k 2 f2) : InAt W b k := by
  refine ⟨_, h, fun m hm => ?_, fun m hm => ?_⟩
  · have hm' : m = 1 ∨ m = 2 := by
      simp [knM, hk] at hm; exact hm
    rcases hm' with rfl | rfl
    · exact ⟨f1, rfl, h1⟩
    · exact ⟨f2, rfl, h2⟩
  · have hm' : ¬ m = 1 ∧ ¬ m = 2 := by simp [knM, hk] at hm; exact hm
    have e1 : ((1 : Int) == m) = false := by simpa using fun e => hm'.1 e.symm
    have e2 : ((2 : Int) == m) = false := by simpa using fun e => hm'.2 e.symm
    simp [List.find?, e1, e2]
theorem in_three {W : World} {b : Nat} {f1 f2 f3 : Value} (h : MapAt W b ([] ++ [((1 : Int), f1)] ++ [((2 : Int), f2)] ++ [((3 : Int), f3)])) (h1 : MtAt W 5 1 f1) (h2 : MtAt W 5 2 f2) (h3 : MtAt W 5 3 f3) : InAt W b 5 := by
  refine ⟨_, h, fun m hm => ?_, fun m hm => ?_⟩
  · have hm' : m = 1 ∨ m = 2 ∨ m = 3 := by
      simp [knM] at hm; exact hm
    rcases hm' with rfl | rfl | rfl
    · exact ⟨f1, rfl, h1⟩
    · exact ⟨f2, rfl, h2⟩
    · exact ⟨f3, rfl, h3⟩
  · have hm' : ¬ m = 1 ∧ ¬ m = 2 ∧ ¬ m = 3 := by simp [knM] at hm; exact hm
    have e1 : ((1 : Int) == m) = false := by simpa using fun e => hm'.1 e.symm
    have e2 : ((2 : Int) == m) = false := by simpa using fun e => hm'.2.1 e.symm
    have e3 : ((3 : Int) == m) = false := by simpa using fun e => hm'.2.2 e.symm
    simp [List.find?, e1, e2, e3]
theorem mtAt_fn {W : World} {k m : Int} (g : FuncId) {fn : Func} {c : Code} (hf : Tryd.prog.funcs[g]? = some fn) (hname : (fn.name == "runtime.NumGoroutine") = false) (hb : fn.body = some c) (h : MtC g #[] W k m) : MtAt W k m (.func (.func g) #[] #[]) := ⟨g, #[], rfl, enters_fn hf hname hb, h⟩
theorem ms_fin {w V : World} {bo b1 b2 b3 b4 b5 b6 g1 g2 g3 g4 : Nat} (hM : Ms w V bo ([] ++ [((1 : Int), Value.map (some b1))] ++ [((2 : Int), Value.map (some b2))] ++ [((3 : Int), Value.map (some b3))] ++ [((4 : Int), Value.map (some b4))] ++ [((5 : Int), Value.map (some b5))] ++ [((6 : Int), Value.map (some b6))]) ([] ++ [(b1, ([] ++ [((1 : Int), Value.func (.func 79) #[] #[])] ++ [((2 : Int), Value.func (.func 80) #[] #[])]))] ++ [(b2, ([] ++ [((1 : Int), Value.func (.func 79) #[] #[])] ++ [((2 : Int), Value.func (.func 81) #[] #[])]))] ++ [(b3, ([] ++ [((1 : Int), Value.func (.func 77) #[] #[])] ++ [((2 : Int), Value.func (.func 82) #[] #[])]))] ++ [(b4, ([] ++ [((1 : Int), Value.func (.func 77) #[] #[])] ++ [((2 : Int), Value.func (.func 84) #[] #[])]))] ++ [(b5, ([] ++ [((1 : Int), Value.func (.func 85) #[] #[])] ++ [((2 : Int), Value.func (.func 86) #[] #[])] ++ [((3 : Int), Value.func (.func 87) #[] #[])]))] ++ [(b6, ([] ++ [((1 : Int), Value.func (.func 95) #[] #[.pointer (some ⟨g1, 0, none⟩), .pointer (some ⟨g2, 0, none⟩)])] ++ [((2 : Int), Value.func (.func 95) #[] #[.pointer (some ⟨g3, 0, none⟩), .pointer (some ⟨g4, 0, none⟩)])]))]) ([] ++ [(g1, 0), (g2, 1)] ++ [(g3, 1), (g4, 0)])) : MsAt V bo := by
  refine ⟨_, hM.out, fun k hk1 hk6 => ?_⟩
  have hk : k = 1 ∨ k = 2 ∨ k = 3 ∨ k = 4 ∨ k = 5 ∨ k = 6 := by omega
  rcases hk with rfl | rfl | rfl | rfl | rfl | rfl
  · exact ⟨_, rfl, in_two (by decide) (hM.ins (b1, ([] ++ [((1 : Int), Value.func (.func 79) #[] #[])] ++ [((2 : Int), Value.func (.func 80) #[] #[])])) (by simp)).1 (mtAt_fn _ Tryd.func79 (by kernel_rfl) rfl (Mt_read (Or.inl rfl) _)) (mtAt_fn _ Tryd.func80 (by kernel_rfl) rfl (Mt_write _))⟩
  · exact ⟨_, rfl, in_two (by decide) (hM.ins (b2, ([] ++ [((1 : Int), Value.func (.func 79) #[] #[])] ++ [((2 : Int), Value.func (.func 81) #[] #[])])) (by simp)).1 (mtAt_fn _ Tryd.func79 (by kernel_rfl) rfl (Mt_read (Or.inr rfl) _)) (mtAt_fn _ Tryd.func81 (by kernel_rfl) rfl (Mt_add _))⟩
  · exact ⟨_, rfl, in_two (by decide) (hM.ins (b3, ([] ++ [((1 : Int), Value.func (.func 77) #[] #[])] ++ [((2 : Int), Value.func (.func 82) #[] #[])])) (by simp)).1 (mtAt_fn _ Tryd.func77 (by kernel_rfl) rfl (Mt_put (Or.inl rfl) _)) (mtAt_fn _ Tryd.func82 (by kernel_rfl) rfl (Mt_take _))⟩
  · exact ⟨_, rfl, in_two (by decide) (hM.ins (b4, ([] ++ [((1 : Int), Value.func (.func 77) #[] #[])] ++ [((2 : Int), Value.func (.func 84) #[] #[])])) (by simp)).1 (mtAt_fn _ Tryd.func77 (by kernel_rfl) rfl (Mt_put (Or.inr rfl) _)) (mtAt_fn _ Tryd.func84 (by kernel_rfl) rfl (Mt_pop _))⟩
  · exact ⟨_, rfl, in_three (hM.ins (b5, ([] ++ [((1 : Int), Value.func (.func 85) #[] #[])] ++ [((2 : Int), Value.func (.func 86) #[] #[])] ++ [((3 : Int), Value.func (.func 87) #[] #[])])) (by simp)).1 (mtAt_fn _ Tryd.func85 (by kernel_rfl) rfl (Mt_addE _)) (mtAt_fn _ Tryd.func86 (by kernel_rfl) rfl (Mt_delE _)) (mtAt_fn _ Tryd.func87 (by kernel_rfl) rfl (Mt_hasE _))⟩
  · exact ⟨_, rfl, in_two (by decide) (hM.ins (b6, ([] ++ [((1 : Int), Value.func (.func 95) #[] #[.pointer (some ⟨g1, 0, none⟩), .pointer (some ⟨g2, 0, none⟩)])] ++ [((2 : Int), Value.func (.func 95) #[] #[.pointer (some ⟨g3, 0, none⟩), .pointer (some ⟨g4, 0, none⟩)])])) (by simp)).1
      ⟨_, _, rfl, enters_fn Tryd.func95 (by kernel_rfl) rfl, Mt_lock (Or.inl ⟨rfl, rfl, rfl⟩) (hM.cel (g1, 0) (by simp)) (hM.cel (g2, 1) (by simp))⟩
      ⟨_, _, rfl, enters_fn Tryd.func95 (by kernel_rfl) rfl, Mt_lock (Or.inr ⟨rfl, rfl, rfl⟩) (hM.cel (g3, 1) (by simp)) (hM.cel (g4, 0) (by simp))⟩⟩
set_option maxRecDepth 100000 in
set_option maxHeartbeats 4000000 in
theorem methods_any (w : World) : Calls Tryd.prog 69 #[] w fun e W => ∃ b, e = .returned (.map (some b)) ∧ MsAt W b ∧ Ext w W := by
  have hmm := @run_makeMap Tryd.prog
  have hM0 : Ms w (w.alloc (.map #[] 0)) w.heap.size [] [] [] := ⟨MapAt.made w, by simp, by simp, ext_allocN _ _, Nat.le_refl _⟩
  have hC : Mc w ((w.alloc (.map #[] 0)).alloc (.map #[] 0)) w.heap.size [] [] [] (w.heap.size + 1) [] := by
    have := hM0.begin
    rwa [World.size_alloc] at this
  clear hM0
  go_enter Tryd.func69, Tryd.ntmps69
  go_wp2_with (first
    | (refine wp_insert rfl _ _ _ _ rfl _ _ Tryd.underlying103 Tryd.underlying3 _ _ (by rfl) hC.cur _ _ (by rfl) (by rfl) (by rfl) ?_; intro V hm hb ho; have hC' := hC.put hm hb ho; clear hC hm hb ho; have hC := hC'; clear hC')
    | (refine wp_insert rfl _ _ _ _ rfl _ _ Tryd.underlying104 Tryd.underlying3 _ _ (by rfl) hC.out _ _ (by rfl) (by rfl) (by rfl) ?_; intro V hm hb ho; have hM := hC.done hm hb ho; clear hC hm hb ho; have hC := hM.begin; clear hM))
  refine (set_any _ _ _).mono ?_
  rintro e V1 ⟨g1, g2, rfl, hg1, hg2, hE⟩
  replace hC := (hC.grow hE).cells hg1 hg2
  clear hg1 hg2 hE
  dsimp only
  go_wp2_with (refine wp_insert rfl _ _ _ _ rfl _ _ Tryd.underlying103 Tryd.underlying3 _ _ (by rfl) hC.cur _ _ (by rfl) (by rfl) (by rfl) ?_; intro V hm hb ho; have hC' := hC.put hm hb ho; clear hC hm hb ho; have hC := hC'; clear hC')
  refine (set_any _ _ _).mono ?_
  rintro e V2 ⟨g3, g4, rfl, hg1, hg2, hE⟩
  replace hC := (hC.grow hE).cells hg1 hg2
  clear hg1 hg2 hE
  dsimp only
  go_wp2_with (first | (refine wp_insert rfl _ _ _ _ rfl _ _ Tryd.underlying103 Tryd.underlying3 _ _ (by rfl) hC.cur _ _ (by rfl) (by rfl) (by rfl) ?_; intro V hm hb ho; have hC' := hC.put hm hb ho; clear hC hm hb ho; have hC := hC'; clear hC') | (refine wp_insert rfl _ _ _ _ rfl _ _ Tryd.underlying104 Tryd.underlying3 _ _ (by rfl) hC.out _ _ (by rfl) (by rfl) (by rfl) ?_; intro V hm hb ho; have hM := hC.done hm hb ho; clear hC hm hb ho))
  go_ret
  exact ⟨_, rfl, ms_fin hM, hM.ext⟩
end Go.Proofs.YtmbkjccckmlacaaDoor

namespace Go.Proofs.YtmbkjccckmlacaaDoor
open Go.RowKit
set_option linter.unusedVariables false
set_option linter.unusedSimpArgs false

theorem zeroMt (w : World) : (zeroValue 101).run Tryd.prog w = .ok .nilFunc w := by kernel_rfl
theorem zeroMm (w : World) : (zeroValue 103).run Tryd.prog w = .ok (.map none) w := by kernel_rfl
theorem ms_look {W : World} {b : Nat} (h : MsAt W b) (k : Int) (h1 : 1 ≤ k) (h6 : k ≤ 6) : ∃ b', InAt W b' k ∧ ∀ c, (Instr.lookup 104 (.map (some b)) (.int .i64 k) c).run Tryd.prog W = .ok (if c then .tuple #[.map (some b'), .bool true] else .map (some b')) W := by
  obtain ⟨l, ⟨es, cl, hb, hl⟩, h2⟩ := h
  obtain ⟨b', hf, ho⟩ := h2 k h1 h6
  refine ⟨b', ho, fun c => ?_⟩
  rw [run_lookup_int Tryd.underlying104 Tryd.underlying3 hb hl _ (zeroMm W) k c, hf]
  rfl
theorem in_yes {W : World} {b : Nat} {k : Int} (h : InAt W b k) (m : Int) (hm : knM k m = true) : ∃ fv, MtAt W k m fv ∧ ∀ c, (Instr.lookup 103 (.map (some b)) (.int .i64 m) c).run Tryd.prog W = .ok (if c then .tuple #[fv, .bool true] else fv) W := by
  obtain ⟨l, ⟨es, cl, hb, hl⟩, h2, -⟩ := h
  obtain ⟨fv, hf, ho⟩ := h2 m hm
  refine ⟨fv, ho, fun c => ?_⟩
  rw [run_lookup_int Tryd.underlying103 Tryd.underlying3 hb hl _ (zeroMt W) m c, hf]
  rfl
theorem in_no {W : World} {b : Nat} {k : Int} (h : InAt W b k) (m : Int) (hm : knM k m = false) : ∀ c, (Instr.lookup 103 (.map (some b)) (.int .i64 m) c).run Tryd.prog W = .ok (if c then .tuple #[.nilFunc, .bool false] else .nilFunc) W := by
  obtain ⟨l, ⟨es, cl, hb, hl⟩, -, h3⟩ := h
  intro c
  rw [run_lookup_int Tryd.underlying103 Tryd.underlying3 hb hl _ (zeroMt W) m c, h3 m hm]
  rfl
set_option maxRecDepth 100000 in
set_option maxHeartbeats 2000000 in
theorem apply_any (k z : Int) (l : List Int) (m arg : Int) (a : Option Addr) (c : Nat) (w : World) (hk1 : 1 ≤ k) (hk6 : k ≤ 6) (hs : stR k z l = true) (hA : IntsAt w a l) (hc : l.length ≤ c) :
    Calls Tryd.prog 45 #[.agg #[.int .i64 k, .int .i64 z], .slice a l.length c, .int .i64 m, .int .i64 arg] w (ApP w a l (apM k z l m arg)) := by
  have HR := Lib.hid (show apM k z l m arg = if knM k m = false then ([], 0, 7) else if inM arg = false then ([], 0, 2) else apM k z l m arg by
    by_cases h1 : knM k m = false
    · rw [if_pos h1]; unfold apM; rw [if_pos h1]
    · rw [if_neg h1]
      by_cases h2 : inM arg = false
      · rw [if_pos h2]; unfold apM; rw [if_neg h1, if_pos h2]
      · rw [if_neg h2])
  have HX := Lib.hid (mdX w k z)
  have HMD := Lib.hid (fun V (hV : Ext (w.alloc (.cells #[.int .i64 k, .int .i64 z] 23)) V) => show V.cell? ⟨w.heap.size, 0, none⟩ = some (.int .i64 k) ∧ V.cell? ⟨w.heap.size, 1, none⟩ = some (.int .i64 z) from
    ⟨(hV.below.cell (cell_lt (mdb0 w k z))).trans (mdb0 w k z), (hV.below.cell (cell_lt (mdb1 w k z))).trans (mdb1 w k z)⟩)
  have HMC := Lib.hid (fun g cap w0 (h : MtC g cap w0 k m) (hE : Ext w w0) W (hW : Ext w0 W) (ha : inM arg = true) => h z l a c arg W hW hs (hA.ext (Ext.trans hE hW)) hc ha)
  have HI := Lib.hid (fun W => inRange_any arg W)
  generalize apM k z l m arg = R at *
  clear hA hs
  have HK1 := Lib.hid hk1
  have HK6 := Lib.hid hk6
  clear hk1 hk6
  by_cases hm : knM k m = true
  · have HR2 := Lib.hid (show R = if inM arg = false then ([], 0, 2) else R by have := HR.out; rw [if_neg (by rw [hm]; simp)] at this; exact this)
    have HKN := Lib.hid hm
    clear hm HR
    go_enter Tryd.func45, Tryd.ntmps45
    go_wp2_with fail
    generalize hwk : w.alloc (.cells #[.int .i64 k, .int .i64 z] 23) = wk at *
    clear hwk
    refine wp_region_tail (l1 := [_, _, _, _, _, _, _, _, _, _]) (l2 := [_]) (by kernel_rfl) Ext (fun W => Below.refl _ W) (fun W => show Below W.heap.size W { W with drawn := W.drawn + 1 } from ⟨rfl, rfl, rfl, Nat.le_refl _, fun _ _ => rfl⟩) Ext.trans
      (fun i s W => match i with
        | 0 => ∃ b, s 0 = .map (some b) ∧ MsAt W b
        | 1 => s 1 = .pointer (some ⟨w.heap.size, 0, none⟩)
        | 2 => s 2 = .int .i64 k
        | 3 => ∃ b, s 3 = .map (some b) ∧ InAt W b k
        | 4 => s 4 = .int .i64 m
        | 5 => ∃ fv, s 5 = .tuple #[fv, .bool true] ∧ MtAt W k m fv
        | 6 => ∃ fv, s 6 = .tuple #[fv, .bool true] ∧ MtAt W k m fv
        | 7 => ∃ fv, s 7 = fv ∧ MtAt W k m fv
        | 8 => s 8 = .bool true
        | 9 => ∃ fv, s 9 = fv ∧ MtAt W k m fv
        | _ => True)
      (fun i => [i])
      (by
        intro i s s' W W' h hs hE
        have hs := hs i (by simp)
        match i, h, hs with
        | 0, ⟨b, h, h1⟩, hs => exact ⟨b, hs.trans h, h1.ext hE⟩
        | 1, h, hs => exact hs.trans h
        | 2, h, hs => exact hs.trans h
        | 3, ⟨b, h, h1⟩, hs => exact ⟨b, hs.trans h, h1.ext hE⟩
        | 4, h, hs => exact hs.trans h
        | 5, ⟨fv, h, h1⟩, hs => exact ⟨fv, hs.trans h, h1.ext hE⟩
        | 6, ⟨fv, h, h1⟩, hs => exact ⟨fv, hs.trans h, h1.ext hE⟩
        | 7, ⟨fv, h, h1⟩, hs => exact ⟨fv, hs.trans h, h1.ext hE⟩
        | 8, h, hs => exact hs.trans h
        | 9, ⟨fv, h, h1⟩, hs => exact ⟨fv, hs.trans h, h1.ext hE⟩
        | i + 10, h, hs => exact trivial)
      (by kernel_rfl) (by kernel_rfl) (by kernel_rfl) 35 rfl (by kernel_rfl) (by kernel_rfl) ?_ ?_
    · intro i op ho a' W hA
      obtain ⟨m0, m1⟩ := HMD.out W hA.rel
      match i, ho with
      | 0, ho =>
        obtain rfl := Option.some.inj ho
        refine GoesG.call 69 #[] rfl ?_ ?_
        · have en := enters_fn Tryd.func69 (by kernel_rfl) rfl
          simp [execOp, go_sem, en]
        · refine (methods_any W).mono ?_
          rintro e W2 ⟨b, rfl, h1, h2⟩
          exact ⟨_, rfl, h2, fun s g1 g2 => ⟨b, g1 rfl, h1⟩⟩
      | 1, ho =>
        obtain rfl := Option.some.inj ho
        have e1 : a'.eval (.tmp 4) = .pointer (some ⟨w.heap.size, 0, none⟩) := hA.keep 4 (by kernel_rfl)
        refine GoesG.value (.pointer (some ⟨w.heap.size, 0, none⟩)) rfl ?_ (Below.refl _ _) (fun s h1 h2 => h1 rfl)
        simp only [execOp, e1]
        simp [go_sem, m0, m1]
      | 2, ho =>
        obtain rfl := Option.some.inj ho
        have e1 : a'.eval (.tmp 15) = .pointer (some ⟨w.heap.size, 0, none⟩) := (sv_dst (l := _) rfl).symm.trans (hA.new 1 (by decide) (by kernel_rfl))
        refine GoesG.value (.int .i64 k) rfl ?_ (Below.refl _ _) (fun s h1 h2 => h1 rfl)
        simp only [execOp, e1]
        simp [go_sem, m0, m1]
      | 3, ho =>
        obtain rfl := Option.some.inj ho
        obtain ⟨b, e0, hM⟩ := hA.new 0 (by decide) (by kernel_rfl)
        have e1 : a'.eval (.tmp 14) = .map (some b) := (sv_dst (l := _) rfl).symm.trans e0
        have e2 : a'.eval (.tmp 16) = .int .i64 k := (sv_dst (l := _) rfl).symm.trans (hA.new 2 (by decide) (by kernel_rfl))
        obtain ⟨b', hI, hlk⟩ := ms_look hM k HK1.out HK6.out
        refine GoesG.value (.map (some b')) rfl ?_ (Below.refl _ _) (fun s h1 h2 => ⟨b', h1 rfl, hI⟩)
        simp only [execOp, e1, e2]
        simp [go_sem, hlk]
      | 4, ho =>
        obtain rfl := Option.some.inj ho
        have e1 : a'.eval (.tmp 2) = .int .i64 m := hA.keep 2 (by kernel_rfl)
        refine GoesG.value (.int .i64 m) rfl ?_ (Below.refl _ _) (fun s h1 h2 => h1 rfl)
        simp only [execOp, e1]
        simp [go_sem, m0, m1]
      | 5, ho =>
        obtain rfl := Option.some.inj ho
        obtain ⟨b, e0, hI⟩ := hA.new 3 (by decide) (by kernel_rfl)
        have e1 : a'.eval (.tmp 17) = .map (some b) := (sv_dst (l := _) rfl).symm.trans e0
        have e2 : a'.eval (.tmp 18) = .int .i64 m := (sv_dst (l := _) rfl).symm.trans (hA.new 4 (by decide) (by kernel_rfl))
        obtain ⟨fv, hmt, hlk⟩ := in_yes hI m HKN.out
        refine GoesG.value (.tuple #[fv, .bool true]) rfl ?_ (Below.refl _ _) (fun s h1 h2 => ⟨fv, h1 rfl, hmt⟩)
        simp only [execOp, e1, e2]
        simp [go_sem, hlk]
      | 6, ho =>
        obtain rfl := Option.some.inj ho
        obtain ⟨fv, e0, hmt⟩ := hA.new 5 (by decide) (by kernel_rfl)
        have e1 : a'.eval (.tmp 19) = .tuple #[fv, .bool true] := (sv_dst (l := _) rfl).symm.trans e0
        refine GoesG.value (.tuple #[fv, .bool true]) rfl ?_ (Below.refl _ _) (fun s h1 h2 => ⟨fv, h1 rfl, hmt⟩)
        simp only [execOp, e1]
        simp [go_sem]
      | 7, ho =>
        obtain rfl := Option.some.inj ho
        obtain ⟨fv, e0, hmt⟩ := hA.new 6 (by decide) (by kernel_rfl)
        have e1 : a'.eval (.tmp 13) = .tuple #[fv, .bool true] := (sv_dst (l := _) rfl).symm.trans e0
        refine GoesG.value fv rfl ?_ (Below.refl _ _) (fun s h1 h2 => ⟨fv, h1 rfl, hmt⟩)
        simp only [execOp, e1]
        simp [go_sem]
      | 8, ho =>
        obtain rfl := Option.some.inj ho
        obtain ⟨fv, e0, hmt⟩ := hA.new 6 (by decide) (by kernel_rfl)
        have e1 : a'.eval (.tmp 13) = .tuple #[fv, .bool true] := (sv_dst (l := _) rfl).symm.trans e0
        refine GoesG.value (.bool true) rfl ?_ (Below.refl _ _) (fun s h1 h2 => h1 rfl)
        simp only [execOp, e1]
        simp [go_sem]
      | 9, ho =>
        obtain rfl := Option.some.inj ho
        obtain ⟨fv, e0, hmt⟩ := hA.new 7 (by decide) (by kernel_rfl)
        have e1 : a'.eval (.tmp 20) = fv := (sv_dst (l := _) rfl).symm.trans e0
        refine GoesG.value fv rfl ?_ (Below.refl _ _) (fun s h1 h2 => ⟨fv, h1 rfl, hmt⟩)
        simp only [execOp, e1]
        simp [go_sem]
      | i + 10, ho => cases ho
    · intro vs w4 hvs hG hΦ
      obtain ⟨y0, y1, y2, y3, y4, y5, y6, y7, y8, y9, rfl⟩ : ∃ y0 y1 y2 y3 y4 y5 y6 y7 y8 y9, vs = y0 :: y1 :: y2 :: y3 :: y4 :: y5 :: y6 :: y7 :: y8 :: y9 :: [] := by
        match vs, hvs with
        | y0 :: y1 :: y2 :: y3 :: y4 :: y5 :: y6 :: y7 :: y8 :: y9 :: [], _ => exact ⟨y0, y1, y2, y3, y4, y5, y6, y7, y8, y9, rfl⟩
      have p0 : ∃ b, y0 = .map (some b) ∧ MsAt w4 b := hΦ 0 (by decide)
      have e1 : y1 = .pointer (some ⟨w.heap.size, 0, none⟩) := hΦ 1 (by decide)
      subst e1
      have e2 : y2 = .int .i64 k := hΦ 2 (by decide)
      subst e2
      have p3 : ∃ b, y3 = .map (some b) ∧ InAt w4 b k := hΦ 3 (by decide)
      have e4 : y4 = .int .i64 m := hΦ 4 (by decide)
      subst e4
      have p5 : ∃ fv, y5 = .tuple #[fv, .bool true] ∧ MtAt w4 k m fv := hΦ 5 (by decide)
      have p6 : ∃ fv, y6 = .tuple #[fv, .bool true] ∧ MtAt w4 k m fv := hΦ 6 (by decide)
      have p7 : ∃ fv, y7 = fv ∧ MtAt w4 k m fv := hΦ 7 (by decide)
      have e8 : y8 = .bool true := hΦ 8 (by decide)
      subst e8
      have p9 : ∃ fv, y9 = fv ∧ MtAt w4 k m fv := hΦ 9 (by decide)
      clear hΦ hvs
      simp only [putAll, Act.put, List.setIfInBounds_toArray, List.set_cons_succ, List.set_cons_zero]
      obtain ⟨fv, rfl, g, cap, hfv, en, hmt⟩ := p9
      have HE4 := Lib.hid (show Ext wk w4 from hG)
      have HE4w := Lib.hid (Ext.trans HX.out HE4.out)
      obtain ⟨m0, m1⟩ := HMD.out w4 hG
      have HMT := Lib.hid (HMC.out g cap w4 hmt HE4w.out)
      clear hG p0 p3 p5 p6 p7 hmt
      subst hfv
      go_wp2_with fail
      refine (HI.out _).mono ?_
      intro w5 hB
      have HE5 := Lib.hid (show Ext w4 w5 from hB)
      obtain ⟨n0, n1⟩ := HMD.out w5 (Ext.trans HE4.out hB)
      clear hB
      cases hin : inM arg with
      | true =>
        have HCm := Lib.hid (HMT.out w5 HE5.out hin)
        have HE5w := Lib.hid (Ext.trans HE4w.out HE5.out)
        clear hin m0 m1 HMT HR2
        dsimp only
        go_wp2_with fail
        refine HCm.out.mono ?_
        rintro e w6 ⟨a1, c1, rfl, h1, h2, h3, h4⟩
        have HF := Lib.hid (h4.up HE5w.out)
        clear h4
        have H1 := Lib.hid h1
        have H3 := Lib.hid (Ext.trans HE5w.out h3)
        clear h1 h3
        go_wp2
        go_ret3
        exact ApP.mk H1.out h2 H3.out HF.out
      | false =>
        have HR3 := Lib.hid (show R = ([], 0, 2) by have := HR2.out; rw [if_pos hin] at this; exact this)
        have HE5w := Lib.hid (Ext.trans HE4w.out HE5.out)
        clear hin m0 m1 HMT HR2 n0 n1
        dsimp only
        go_wp2
        go_ret3
        obtain rfl := HR3.out
        exact ApP.mk (c := 0) (R := ([], 0, 2)) IntsAt.nil (Nat.le_refl _) HE5w.out Frm.none
  · have hm2 : knM k m = false := by simpa using hm
    have HR3 := Lib.hid (show R = ([], 0, 7) by have := HR.out; rw [if_pos hm2] at this; exact this)
    have HKN := Lib.hid hm2
    clear hm hm2 HR
    go_enter Tryd.func45, Tryd.ntmps45
    go_wp2_with fail
    generalize hwk : w.alloc (.cells #[.int .i64 k, .int .i64 z] 23) = wk at *
    clear hwk
    refine wp_region_tail (l1 := [_, _, _, _, _, _, _, _, _, _]) (l2 := [_]) (by kernel_rfl) Ext (fun W => Below.refl _ W) (fun W => show Below W.heap.size W { W with drawn := W.drawn + 1 } from ⟨rfl, rfl, rfl, Nat.le_refl _, fun _ _ => rfl⟩) Ext.trans
      (fun i s W => match i with
        | 0 => ∃ b, s 0 = .map (some b) ∧ MsAt W b
        | 1 => s 1 = .pointer (some ⟨w.heap.size, 0, none⟩)
        | 2 => s 2 = .int .i64 k
        | 3 => ∃ b, s 3 = .map (some b) ∧ InAt W b k
        | 4 => s 4 = .int .i64 m
        | 5 => s 5 = .tuple #[.nilFunc, .bool false]
        | 6 => s 6 = .tuple #[.nilFunc, .bool false]
        | 7 => s 7 = .nilFunc
        | 8 => s 8 = .bool false
        | 9 => s 9 = .nilFunc
        | _ => True)
      (fun i => [i])
      (by
        intro i s s' W W' h hs hE
        have hs := hs i (by simp)
        match i, h, hs with
        | 0, ⟨b, h, h1⟩, hs => exact ⟨b, hs.trans h, h1.ext hE⟩
        | 1, h, hs => exact hs.trans h
        | 2, h, hs => exact hs.trans h
        | 3, ⟨b, h, h1⟩, hs => exact ⟨b, hs.trans h, h1.ext hE⟩
        | 4, h, hs => exact hs.trans h
        | 5, h, hs => exact hs.trans h
        | 6, h, hs => exact hs.trans h
        | 7, h, hs => exact hs.trans h
        | 8, h, hs => exact hs.trans h
        | 9, h, hs => exact hs.trans h
        | i + 10, h, hs => exact trivial)
      (by kernel_rfl) (by kernel_rfl) (by kernel_rfl) 35 rfl (by kernel_rfl) (by kernel_rfl) ?_ ?_
    · intro i op ho a' W hA
      obtain ⟨m0, m1⟩ := HMD.out W hA.rel
      match i, ho with
      | 0, ho =>
        obtain rfl := Option.some.inj ho
        refine GoesG.call 69 #[] rfl ?_ ?_
        · have en := enters_fn Tryd.func69 (by kernel_rfl) rfl
          simp [execOp, go_sem, en]
        · refine (methods_any W).mono ?_
          rintro e W2 ⟨b, rfl, h1, h2⟩
          exact ⟨_, rfl, h2, fun s g1 g2 => ⟨b, g1 rfl, h1⟩⟩
      | 1, ho =>
        obtain rfl := Option.some.inj ho
        have e1 : a'.eval (.tmp 4) = .pointer (some ⟨w.heap.size, 0, none⟩) := hA.keep 4 (by kernel_rfl)
        refine GoesG.value (.pointer (some ⟨w.heap.size, 0, none⟩)) rfl ?_ (Below.refl _ _) (fun s h1 h2 => h1 rfl)
        simp only [execOp, e1]
        simp [go_sem, m0, m1]
      | 2, ho =>
        obtain rfl := Option.some.inj ho
        have e1 : a'.eval (.tmp 15) = .pointer (some ⟨w.heap.size, 0, none⟩) := (sv_dst (l := _) rfl).symm.trans (hA.new 1 (by decide) (by kernel_rfl))
        refine GoesG.value (.int .i64 k) rfl ?_ (Below.refl _ _) (fun s h1 h2 => h1 rfl)
        simp only [execOp, e1]
        simp [go_sem, m0, m1]
      | 3, ho =>
        obtain rfl := Option.some.inj ho
        obtain ⟨b, e0, hM⟩ := hA.new 0 (by decide) (by kernel_rfl)
        have e1 : a'.eval (.tmp 14) = .map (some b) := (sv_dst (l := _) rfl).symm.trans e0
        have e2 : a'.eval (.tmp 16) = .int .i64 k := (sv_dst (l := _) rfl).symm.trans (hA.new 2 (by decide) (by kernel_rfl))
        obtain ⟨b', hI, hlk⟩ := ms_look hM k HK1.out HK6.out
        refine GoesG.value (.map (some b')) rfl ?_ (Below.refl _ _) (fun s h1 h2 => ⟨b', h1 rfl, hI⟩)
        simp only [execOp, e1, e2]
        simp [go_sem, hlk]
      | 4, ho =>
        obtain rfl := Option.some.inj ho
        have e1 : a'.eval (.tmp 2) = .int .i64 m := hA.keep 2 (by kernel_rfl)
        refine GoesG.value (.int .i64 m) rfl ?_ (Below.refl _ _) (fun s h1 h2 => h1 rfl)
        simp only [execOp, e1]
        simp [go_sem, m0, m1]
      | 5, ho =>
        obtain rfl := Option.some.inj ho
        obtain ⟨b, e0, hI⟩ := hA.new 3 (by decide) (by kernel_rfl)
        have e1 : a'.eval (.tmp 17) = .map (some b) := (sv_dst (l := _) rfl).symm.trans e0
        have e2 : a'.eval (.tmp 18) = .int .i64 m := (sv_dst (l := _) rfl).symm.trans (hA.new 4 (by decide) (by kernel_rfl))
        have hlk := in_no hI m HKN.out
        refine GoesG.value (.tuple #[.nilFunc, .bool false]) rfl ?_ (Below.refl _ _) (fun s h1 h2 => h1 rfl)
        simp only [execOp, e1, e2]
        simp [go_sem, hlk]
      | 6, ho =>
        obtain rfl := Option.some.inj ho
        have e1 : a'.eval (.tmp 19) = .tuple #[.nilFunc, .bool false] := (sv_dst (l := _) rfl).symm.trans (hA.new 5 (by decide) (by kernel_rfl))
        refine GoesG.value (.tuple #[.nilFunc, .bool false]) rfl ?_ (Below.refl _ _) (fun s h1 h2 => h1 rfl)
        simp only [execOp, e1]
        simp [go_sem, m0, m1]
      | 7, ho =>
        obtain rfl := Option.some.inj ho
        have e1 : a'.eval (.tmp 13) = .tuple #[.nilFunc, .bool false] := (sv_dst (l := _) rfl).symm.trans (hA.new 6 (by decide) (by kernel_rfl))
        refine GoesG.value (.nilFunc) rfl ?_ (Below.refl _ _) (fun s h1 h2 => h1 rfl)
        simp only [execOp, e1]
        simp [go_sem, m0, m1]
      | 8, ho =>
        obtain rfl := Option.some.inj ho
        have e1 : a'.eval (.tmp 13) = .tuple #[.nilFunc, .bool false] := (sv_dst (l := _) rfl).symm.trans (hA.new 6 (by decide) (by kernel_rfl))
        refine GoesG.value (.bool false) rfl ?_ (Below.refl _ _) (fun s h1 h2 => h1 rfl)
        simp only [execOp, e1]
        simp [go_sem, m0, m1]
      | 9, ho =>
        obtain rfl := Option.some.inj ho
        have e1 : a'.eval (.tmp 20) = .nilFunc := (sv_dst (l := _) rfl).symm.trans (hA.new 7 (by decide) (by kernel_rfl))
        refine GoesG.value (.nilFunc) rfl ?_ (Below.refl _ _) (fun s h1 h2 => h1 rfl)
        simp only [execOp, e1]
        simp [go_sem, m0, m1]
      | i + 10, ho => cases ho
    · intro vs w4 hvs hG hΦ
      obtain ⟨y0, y1, y2, y3, y4, y5, y6, y7, y8, y9, rfl⟩ : ∃ y0 y1 y2 y3 y4 y5 y6 y7 y8 y9, vs = y0 :: y1 :: y2 :: y3 :: y4 :: y5 :: y6 :: y7 :: y8 :: y9 :: [] := by
        match vs, hvs with
        | y0 :: y1 :: y2 :: y3 :: y4 :: y5 :: y6 :: y7 :: y8 :: y9 :: [], _ => exact ⟨y0, y1, y2, y3, y4, y5, y6, y7, y8, y9, rfl⟩
      have p0 : ∃ b, y0 = .map (some b) ∧ MsAt w4 b := hΦ 0 (by decide)
      have e1 : y1 = .pointer (some ⟨w.heap.size, 0, none⟩) := hΦ 1 (by decide)
      subst e1
      have e2 : y2 = .int .i64 k := hΦ 2 (by decide)
      subst e2
      have p3 : ∃ b, y3 = .map (some b) ∧ InAt w4 b k := hΦ 3 (by decide)
      have e4 : y4 = .int .i64 m := hΦ 4 (by decide)
      subst e4
      have e5 : y5 = .tuple #[.nilFunc, .bool false] := hΦ 5 (by decide)
      subst e5
      have e6 : y6 = .tuple #[.nilFunc, .bool false] := hΦ 6 (by decide)
      subst e6
      have e7 : y7 = .nilFunc := hΦ 7 (by decide)
      subst e7
      have e8 : y8 = .bool false := hΦ 8 (by decide)
      subst e8
      have e9 : y9 = .nilFunc := hΦ 9 (by decide)
      subst e9
      clear hΦ hvs
      simp only [putAll, Act.put, List.setIfInBounds_toArray, List.set_cons_succ, List.set_cons_zero]
      have HE4w := Lib.hid (Ext.trans HX.out (show Ext wk w4 from hG))
      clear hG p0 p3
      go_wp2
      go_ret3
      obtain rfl := HR3.out
      exact ApP.mk (c := 0) (R := ([], 0, 7)) IntsAt.nil (Nat.le_refl _) HE4w.out Frm.none
end Go.Proofs.YtmbkjccckmlacaaDoor

namespace Go.Proofs.YtmbkjccckmlacaaDoor
open Go.RowKit
set_option linter.unusedVariables false
set_option linter.unusedSimpArgs false

/-- the table of powers of ten stands -/
def TabW (w : World) : Prop := Lib.TabIs Tryd.prog w "internal/strconv.uint64pow10" .u64 Lib.pow10Tab
theorem TabW.below {w W : World} (h : TabW w) (hb : Below w.heap.size w W) : TabW W := by
  unfold TabW Lib.TabIs World.var? at h ⊢
  cases hg : Tryd.prog.globalNamed "internal/strconv.uint64pow10" with
  | none => rw [hg] at h; cases h
  | some g =>
    rw [hg] at h
    simp only [Option.bind_some] at h ⊢
    have hlt : g < w.heap.size := by
      rcases Nat.lt_or_ge g w.heap.size with h' | h'
      · exact h'
      · rw [Array.getElem?_eq_none h'] at h; cases h
    rw [hb.block g hlt]
    exact h
theorem infoU : (Tryd.prog.info? 5).map (fun i => (i.zero, i.size, i.bytes)) = some (some (.int .u8 0), 1, 1) := by kernel_rfl
/-- v is a row of bytes of the call's own -/
def RowU (base : Nat) (v : Value) (l : List UInt8) (w : World) : Prop := w.ownsRow base 5 1 v l.length (Lib.byteCells l)
theorem RowU.ext {base : Nat} {v : Value} {l : List UInt8} {w w' : World} (h : RowU base v l w) (hE : Ext w w') : RowU base v l w' := ownsRow_extI h hE.below
theorem RowU.nil (base : Nat) (w : World) : RowU base (.slice none 0 0) [] w := World.ownsRow_nil _ _ _ _
theorem RowU.forms {base : Nat} {v : Value} {l : List UInt8} {w : World} (h : RowU base v l w) : (v = .slice none 0 0 ∧ l.length = 0) ∨ ∃ g cap, v = .slice (some ⟨g, 0, none⟩) l.length cap := Go.Joins.ownsRow_forms h
theorem byteCells_app (a b : List UInt8) : Lib.byteCells a ++ Lib.byteCells b = Lib.byteCells (a ++ b) := by simp [Lib.byteCells]
theorem RowU.conv {base : Nat} {v : Value} {l : List UInt8} {w : World} (h : RowU base v l w) : (convert 109 9 v).run Tryd.prog w = .ok (sV l) w := by
  rcases h.forms with ⟨rfl, h0⟩ | ⟨g, cap, rfl⟩
  · obtain rfl := List.eq_nil_of_length_eq_zero h0
    kernel_rfl
  · refine run_convert_bytes_back w 109 9 5 ⟨g, 0, none⟩ cap l Tryd.underlying109 Tryd.underlying5 Tryd.underlying9 (fun j hj => ?_)
    have e : (⟨g, 0, none⟩ : Addr).add j = ⟨g, j, none⟩ := by unfold Addr.add; split <;> simp_all
    rw [e, World.ownsRow.cellAt h j (by omega)]
    simp [Lib.byteCells, hj]
variable {ops : Array Oper} {rest : List Oper} {o : Oper} {a : Act} {Q : Exit → Act → World → Prop}
theorem wp_appU (hgd : o.guard = none) (s x : Operand) (ho : o.op = .call { callee := .builtin .append, args := #[s, x], argTypes := #[109, 109] })
    (base : Nat) (v : Value) (l : List UInt8) (hs : a.eval s = v) (W : World) (h : RowU base v l W) (c : UInt8) (n : Int) (hn : (c.toNat : Int) = n) (g : Nat) (hg : g = W.heap.size) (hx : a.eval x = .slice (some ⟨g, 0, none⟩) 1 1) (hlen : l.length ≤ 100000000000) (hbase : base ≤ W.heap.size)
    (hK : ∀ v' w', RowU base v' (l ++ [c]) w' → Below base W w' → wpList Tryd.prog ops Q rest (a.put o.dst v') w') : wpList Tryd.prog ops Q (o :: rest) a (W.alloc (.cells #[.int .u8 n] 5)) := by
  subst hg hn
  obtain ⟨i0, hi, hz0, hz1, hz2⟩ := info_parts infoU
  refine wpList_append_own _ hgd s x 109 ho base 5 i0 (.int .u8 0) 1 1 Tryd.underlying109 hi hz0 hz1 hz2 rfl (by decide) v l.length (Lib.byteCells l) hs (World.ownsRow.alloc h _) ⟨W.heap.size, 0, none⟩ 1 1 [.int .u8 (c.toNat : Int)] hx rfl (cell_one_new _ _ _) (by simp [Value.oneCell']) (by unfold maxLen; omega) (by omega) (by simp; omega) ?_
  intro v' w' hown hg _
  refine hK v' w' ?_ ?_
  · unfold RowU
    have e : Lib.byteCells l ++ [Value.int .u8 (c.toNat : Int)] = Lib.byteCells (l ++ [c]) := byteCells_app l [c]
    rw [e] at hown
    simpa using hown
  · exact ((Below.refl base W).alloc hbase _).grown hg (by simp; omega) (fun k e => (World.ownsRow.lt h k e).1)
/-- AppendInt, base 10, onto a row of bytes of the call's own -/
theorem AppendInt_any {w0 : World} (hT : TabW w0) (base : Nat) (v : Value) (l : List UInt8) (i : Int) (w : World) (hi : -9223372036854775808 ≤ i ∧ i ≤ 9223372036854775807) (hE : Ext w0 w) (h : RowU base v l w) (hb0 : w0.heap.size ≤ base) (hbw : base ≤ w.heap.size) (hl : l.length ≤ 1000000) :
    Calls Tryd.prog 76 #[v, .int .i64 i, .int .i64 10] w fun e w' => ∃ v', e = .returned v' ∧ RowU base v' (l ++ Lib.itoa i) w' ∧ Below base w w' := by
  refine (Tryd.strconv_AppendInt_10 base l.length i hi.1 hi.2 v (Lib.byteCells l) w h hbw (by omega) (fun w' hB => hT.below (Below.trans hE (hB.mono hb0)))).mono ?_
  rintro e w' ⟨v', rfl, h1, h2, -⟩
  refine ⟨v', rfl, ?_, h2⟩
  unfold RowU
  rw [byteCells_app] at h1
  simpa using h1
def keyR (n : Nd) : List UInt8 := Lib.itoa (n.1 : Int) ++ n.2.flatMap fun x => 32 :: Lib.itoa x
theorem keyR_take {n : Nd} {j : Nat} (h : j < n.2.length) : keyR (n.1, n.2.take (j + 1)) = keyR (n.1, n.2.take j) ++ [32] ++ Lib.itoa n.2[j] := by
  unfold keyR
  have e := List.take_succ_eq_append_getElem h
  dsimp only
  rw [e, List.flatMap_append]
  simp only [List.flatMap_cons, List.flatMap_nil, List.append_nil, List.append_assoc, List.cons_append, List.nil_append]
theorem keyR_len (n : Nd) (h1 : n.1 < 2 ^ 62) (hv : ∀ x ∈ n.2, inM x = true) : (keyR n).length ≤ 21 + n.2.length * 22 := by
  unfold keyR
  rw [List.length_append]
  have h0 := Lib.itoa_length_le (n.1 : Int) (by omega) (by omega)
  have : ∀ l : List Int, (∀ x ∈ l, inM x = true) → (l.flatMap fun x => 32 :: Lib.itoa x).length ≤ l.length * 22 := by
    intro l
    induction l with
    | nil => intro _; simp
    | cons x t ih =>
      intro h
      have h2 := inM_bd.1 (h x (by simp))
      have h3 := Lib.itoa_length_le x (by omega) (by omega)
      have h4 := ih (fun y hy => h y (by simp [hy]))
      rw [List.flatMap_cons, List.length_append, List.length_cons, List.length_cons]
      omega
  have := this n.2 hv
  omega
set_option maxRecDepth 100000 in
set_option maxHeartbeats 2000000 in
theorem key_any (n : Nd) (a : Option Addr) (c : Nat) (w : World) (hT : TabW w) (hA : IntsAt w a n.2) (h1 : n.1 < 2 ^ 62) (hl : n.2.length ≤ 100) (hv : ∀ x ∈ n.2, inM x = true) :
    Gives Tryd.prog 65 #[.agg #[.int .i64 (n.1 : Int), .slice a n.2.length c]] w (sV (keyR n)) := by
  unfold Gives
  obtain ⟨s, L⟩ := n
  dsimp only at *
  obtain ⟨K0, hK0⟩ : ∃ K, keyR (s, L) = K := ⟨_, rfl⟩
  rw [hK0]
  have HK0 := Lib.hid hK0
  clear hK0
  have HT := Lib.hid hT
  have HA := Lib.hid (fun W (hW : Ext w W) => hA.ext hW)
  have HV := Lib.hid hv
  obtain ⟨w1, hw1⟩ : ∃ W, W = w.alloc (.cells #[.int .i64 (s : Int), .slice a L.length c] 71) := ⟨_, rfl⟩
  have HE1 := Lib.hid (show Ext w w1 by rw [hw1]; exact ext_allocN _ _)
  have HB1 := Lib.hid (show w1.heap[w.heap.size]? = some (.cells #[.int .i64 (s : Int), .slice a L.length c] 71 (0, 0)) by rw [hw1]; exact alloc_here _ _)
  have x0 := cell_of HB1.out (i := 0) rfl
  have HX := Lib.hid (fun W (hW : Below (w.heap.size + 1) w1 W) => show W.cell? ⟨w.heap.size, 1, none⟩ = some (.slice a L.length c) from cell_of ((hW.block _ (by omega)).trans HB1.out) rfl)
  have hz1 : w1.heap.size = w.heap.size + 1 := by rw [hw1]; simp
  have HS := Lib.hid (show -9223372036854775808 ≤ (s : Int) ∧ (s : Int) ≤ 9223372036854775807 by omega)
  clear hT hA hv
  have hw1' : w.alloc (.cells #[.int .i64 (s : Int), .slice a L.length c] 71) = w1 := hw1.symm
  clear hw1
  go_enter Tryd.func65, Tryd.ntmps65
  go_wp2_with fail
  have HAP := Lib.hid (fun v l i W hi (hE : Ext w W) (h : RowU (w.heap.size + 1) v l W) hbw hl => AppendInt_any HT.out (w.heap.size + 1) v l i W hi hE h (by omega) hbw hl)
  refine (HAP.out _ [] _ _ HS.out HE1.out (RowU.nil _ _) (by omega) (by simp)).mono ?_
  rintro e w2 ⟨v2, rfl, hR2, hB2⟩
  have HR2 := Lib.hid (show RowU (w.heap.size + 1) v2 (keyR (s, L.take 0)) w2 by unfold keyR; simpa using hR2)
  have HB2 := Lib.hid hB2
  have x1 := HX.out w2 hB2
  have HKL := Lib.hid (fun j => keyR_len (s, L.take j) h1 (fun x hx => HV.out x (List.mem_of_mem_take hx)))
  have HKT := Lib.hid (fun j (hj : j < L.length) => keyR_take (n := (s, L)) hj)
  obtain ⟨len, hlen⟩ : ∃ n, L.length = n := ⟨_, rfl⟩
  have HLn := Lib.hid hlen
  have HKE := Lib.hid (show keyR (s, L.take len) = K0 by rw [← hlen, List.take_length]; exact HK0.out)
  rw [hlen] at x1 hl
  have HXE := Lib.hid (fun W (hW : Below (w.heap.size + 1) w1 W) => show Ext w W from Below.trans HE1.out (hW.mono (by omega)))
  clear hR2 hB2 hlen x0
  rw [show Value.slice a L.length c = Value.slice a len c by rw [HLn.out]]
  dsimp only
  go_wp2
  go_loopw [12, 3] (fun i v wr => ∃ j : Nat, j ≤ len ∧ i = .int .i64 (j : Int) ∧ RowU (w.heap.size + 1) v (keyR (s, L.take j)) wr ∧ Below (w.heap.size + 1) w1 wr) (fun i _ _ => len - (intOf i).toNat)
  case atStart => exact ⟨0, Nat.zero_le _, rfl, HR2.out, HB2.out⟩
  case round =>
    obtain ⟨j, hj, rfl, hR, hB⟩ := hrel
    have HR := Lib.hid hR
    have HBr := Lib.hid hB
    have hwz : w.heap.size + 1 ≤ wr.heap.size := by have := hB.size; omega
    clear hR hB
    by_cases hlt : j < len
    · have hlt' : j < L.length := by rw [HLn.out]; exact hlt
      have HLT := Lib.hid hlt'
      obtain ⟨b, off, rfl, hcell⟩ := (HA.out wr (HXE.out _ HBr.out)) j HLT.out
      have HKj := Lib.hid (HKT.out j HLT.out)
      have HKl := Lib.hid (HKL.out j)
      have HVj := Lib.hid (inM_bd.1 (HV.out _ (List.getElem_mem HLT.out)))
      clear hlt'
      generalize L[j]'HLT.out = x at *
      have hkl : (keyR (s, L.take j)).length ≤ 100000 := by have := HKl.out; have : (L.take j).length ≤ j := by simp; omega
                                                            omega
      generalize keyR (s, L.take j) = K at *
      go_wp2_with (at_builtin; refine wp_appU rfl _ _ rfl _ _ _ (by rfl) _ HR.out 32 _ rfl _ rfl (by rfl) (by omega) hwz ?_; intro v' w' hr' hb'; have HR4 := Lib.hid hr'; have HB4 := Lib.hid (Below.trans HBr.out hb'); clear hr' hb')
      refine (HAP.out _ _ _ _ (by have := HVj.out; omega) (HXE.out _ HB4.out) HR4.out (by have := HB4.out.size; omega) (by rw [List.length_append]; have : [(32 : UInt8)].length = 1 := rfl; omega)).mono ?_
      rintro e w5 ⟨v5, rfl, hR5, hB5⟩
      have HR5 := Lib.hid hR5
      have HB5 := Lib.hid (Below.trans HB4.out hB5)
      clear hR5 hB5
      go_wp2
      go_roundw
      case rel => exact ⟨j + 1, by omega, by go_num, by rw [HKj.out]; exact HR5.out, HB5.out⟩
      case measure => simp [intOf]; omega
    · have hjl : j = len := by omega
      subst j
      have HRe := Lib.hid (show RowU (w.heap.size + 1) _ K0 wr by rw [← HKE.out]; exact HR.out)
      have hcv := HRe.out.conv
      go_wp2
      go_ret
      exact ⟨rfl, HXE.out _ HBr.out⟩
end Go.Proofs.YtmbkjccckmlacaaDoor

namespace Go.Proofs.YtmbkjccckmlacaaDoor
open Go.RowKit
set_option linter.unusedVariables false
set_option linter.unusedSimpArgs false

def valD (l : List UInt8) : Nat := l.foldl (fun a c => a * 10 + (c.toNat - 48)) 0
theorem valD_snoc (l : List UInt8) (c : UInt8) : valD (l ++ [c]) = valD l * 10 + (c.toNat - 48) := by simp [valD]
theorem dig_nat {d : Nat} (h : d < 10) : (UInt8.ofNat (48 + d)).toNat = 48 + d := by
  simp [UInt8.toNat_ofNat']; omega
theorem decDigits_val : ∀ u : Nat, valD (Lib.decDigits u) = u ∧ (∀ c ∈ Lib.decDigits u, 48 ≤ c.toNat ∧ c.toNat ≤ 57) ∧ Lib.decDigits u ≠ [] := by
  intro u
  induction u using Nat.strongRecOn with
  | _ u ih =>
    rw [Lib.decDigits]
    split
    · next h =>
      refine ⟨?_, ?_, by simp⟩
      · simp [valD]; omega
      · intro c hc
        rw [List.mem_singleton.1 hc, dig_nat h]; omega
    · next h =>
      obtain ⟨h1, h2, h3⟩ := ih (u / 10) (by omega)
      refine ⟨?_, ?_, by simp⟩
      · rw [valD_snoc, h1, dig_nat (by omega)]; omega
      · intro c hc
        rcases List.mem_append.1 hc with hc | hc
        · exact h2 c hc
        · rw [List.mem_singleton.1 hc, dig_nat (by omega)]; omega
theorem itoa_no32 (x : Int) : ∀ c ∈ Lib.itoa x, c ≠ 32 := by
  intro c hc
  unfold Lib.itoa at hc
  split at hc
  · rcases List.mem_cons.1 hc with rfl | hc
    · decide
    · have := (decDigits_val _).2.1 c hc
      rintro rfl
      exact absurd this.1 (by decide)
  · have := (decDigits_val _).2.1 c hc
    rintro rfl
    exact absurd this.1 (by decide)
theorem itoa_inj {x y : Int} (h : Lib.itoa x = Lib.itoa y) : x = y := by
  have no45 : ∀ u v, Lib.decDigits u ≠ 45 :: v := by
    intro u v e
    have := (decDigits_val u).2.1 45 (by rw [e]; simp)
    exact absurd this.1 (by decide)
  unfold Lib.itoa at h
  split at h <;> split at h
  · injection h with _ h
    have h1 := (decDigits_val x.natAbs).1
    have h2 := (decDigits_val y.natAbs).1
    rw [h, h2] at h1
    omega
  · exact absurd h.symm (no45 _ _)
  · exact absurd h (no45 _ _)
  · have h1 := (decDigits_val x.toNat).1
    have h2 := (decDigits_val y.toNat).1
    rw [h, h2] at h1
    omega
theorem split32 : ∀ {a b : List UInt8} {s t : List UInt8}, (∀ c ∈ a, c ≠ 32) → (∀ c ∈ b, c ≠ 32) → (s = [] ∨ ∃ s', s = 32 :: s') → (t = [] ∨ ∃ t', t = 32 :: t') → a ++ s = b ++ t → a = b ∧ s = t
  | [], [], s, t, _, _, _, _, h => ⟨rfl, h⟩
  | [], c :: b, s, t, _, hb, hs, _, h => by
    rcases hs with rfl | ⟨s', rfl⟩
    · cases h
    · injection h with h1 _
      exact absurd h1.symm (hb c (by simp))
  | c :: a, [], s, t, ha, _, _, ht, h => by
    rcases ht with rfl | ⟨t', rfl⟩
    · cases h
    · injection h with h1 _
      exact absurd h1 (ha c (by simp))
  | c :: a, d :: b, s, t, ha, hb, hs, ht, h => by
    injection h with h1 h2
    obtain ⟨h3, h4⟩ := split32 (fun x hx => ha x (by simp [hx])) (fun x hx => hb x (by simp [hx])) hs ht h2
    exact ⟨by rw [h1, h3], h4⟩
def tailK (l : List Int) : List UInt8 := l.flatMap fun x => 32 :: Lib.itoa x
theorem tailK_form : ∀ l, tailK l = [] ∨ ∃ s', tailK l = 32 :: s'
  | [] => Or.inl rfl
  | x :: l => Or.inr ⟨_, rfl⟩
theorem tailK_inj : ∀ {l m : List Int}, tailK l = tailK m → l = m
  | [], [], _ => rfl
  | [], x :: m, h => by cases h
  | x :: l, [], h => by cases h
  | x :: l, y :: m, h => by
    have h' : Lib.itoa x ++ tailK l = Lib.itoa y ++ tailK m := by
      unfold tailK at h
      rw [List.flatMap_cons, List.flatMap_cons] at h
      simpa [tailK] using h
    obtain ⟨h1, h2⟩ := split32 (itoa_no32 x) (itoa_no32 y) (tailK_form l) (tailK_form m) h'
    rw [itoa_inj h1, tailK_inj h2]
theorem keyR_inj {n m : Nd} (h : keyR n = keyR m) : n = m := by
  obtain ⟨s, l⟩ := n
  obtain ⟨t, r⟩ := m
  obtain ⟨h1, h2⟩ := split32 (itoa_no32 _) (itoa_no32 _) (tailK_form l) (tailK_form r) h
  have := itoa_inj h1
  rw [tailK_inj h2, show s = t by omega]
end Go.Proofs.YtmbkjccckmlacaaDoor

namespace Go.Proofs.YtmbkjccckmlacaaDoor
open Go.RowKit
set_option linter.unusedVariables false
set_option linter.unusedSimpArgs false

abbrev tNd : TypeId := 71
theorem Sr.ext {w W : World} {A : SA} {k z : Int} {l : List Cl} (h : Sr w A k z l) (hE : Ext w W) : Sr W A k z l :=
  ⟨(hE.below.block _ (lt_of_block h.box)).trans h.box, h.hs.ext hE, (hE.below.block _ (lt_of_block h.bf)).trans h.bf⟩
theorem bef_lt (l : List Cl) (i : Nat) : bef l i < 2 ^ l.length := msk_lt _ _
theorem must_lt (l : List Cl) : must l < 2 ^ l.length := msk_lt _ _
theorem pow_le62 {m n : Nat} (h : m < 2 ^ n) (hn : n ≤ 12) : m < 2 ^ 62 := Nat.lt_of_lt_of_le h (Nat.pow_le_pow_right (by omega) (by omega))
theorem natEq0 (U : Nat) : ((U : Int) == 0) = decide (U = 0) := by rw [Bool.eq_iff_iff]; simp
set_option maxRecDepth 100000 in
set_option maxHeartbeats 2000000 in
theorem complete_any {w : World} {A : SA} {k z : Int} {l : List Cl} (h : Sr w A k z l) (n : Nd) (a : Option Addr) (c : Nat) (hn : n.1 < 2 ^ l.length) (hl : l.length ≤ 12) :
    Gives Tryd.prog 60 #[.pointer (some ⟨A.p, 0, none⟩), .agg #[.int .i64 (n.1 : Int), .slice a n.2.length c]] w (.bool (cmpl l n)) := by
  unfold Gives
  obtain ⟨s, L⟩ := n
  dsimp only at *
  have hand := i64_andNot (must l) s (pow_le62 (must_lt l) hl) (pow_le62 hn hl)
  have HZ := Lib.hid (show cmpl l (s, L) = decide (andN (must l) s = 0) by
    unfold cmpl
    by_cases hz : andN (must l) s = 0
    · rw [(andN_zero (must_lt l)).1 hz, decide_eq_true hz]
    · rw [decide_eq_false hz]
      cases hc : subM (must l) s l.length with
      | false => rfl
      | true => exact absurd ((andN_zero (must_lt l)).2 hc) hz)
  have hb := h.box
  obtain ⟨p, c1, c2, la, lc, g⟩ := A
  dsimp only at *
  generalize cmpl l (s, L) = R at *
  generalize andN (must l) s = U at *
  generalize must l = M at *
  obtain ⟨w1, hw1⟩ : ∃ W, W = w.alloc (.cells #[.int .i64 (s : Int), .slice a L.length c] tNd) := ⟨_, rfl⟩
  have HE1 := Lib.hid (show Ext w w1 by rw [hw1]; exact ext_allocN _ _)
  have hs := cell_of ((HE1.out.below.block _ (lt_of_block hb)).trans hb) (i := 4) rfl
  have hx := cell_of (show w1.heap[w.heap.size]? = some (.cells #[.int .i64 (s : Int), .slice a L.length c] tNd (0, 0)) by rw [hw1]; exact alloc_here _ _) (i := 0) rfl
  have hw1' : w.alloc (.cells #[.int .i64 (s : Int), .slice a L.length c] tNd) = w1 := hw1.symm
  clear h hb hn hw1
  go_enter Tryd.func60, Tryd.ntmps60
  go_wp2_with fail
  go_quiet (fail)
  go_wp2
  go_ret
  exact ⟨by rw [HZ.out, ← natEq0]; simp, Ext.drewN' HE1.out⟩
theorem put2 {W : World} {B : Nat} {c : Array Value} {T : TypeId} {f : Nat × Nat} (h : W.heap[B]? = some (.cells c T f)) (hc : c.size = 2) (x0 x1 : Value) :
    ∃ W', ((W.setCell ⟨B, 0, none⟩ x0).setCell ⟨B, 1, none⟩ x1) = W' ∧ W'.heap[B]? = some (.cells #[x0, x1] T f) ∧ (∀ n₀, n₀ ≤ B → Below n₀ W W') ∧ (∀ b, b ≠ B → W'.heap[b]? = W.heap[b]?) := by
  refine ⟨_, rfl, ?_, fun n₀ hn => (((Below.refl n₀ W).setCell (p := ⟨B, 0, none⟩) hn _).setCell (p := ⟨B, 1, none⟩) hn _), fun b hb => ?_⟩
  · obtain ⟨l⟩ := c
    match l, hc with
    | [a0, a1], _ =>
      have h0 : Turn B (.cells #[a0, a1] T f) W W := Turn.refl h
      exact ((h0.setCell (i := 0) x0).setCell (i := 1) x1).here
  · rw [Below.heap_setCell _ ⟨B, 1, none⟩ _ _ hb, Below.heap_setCell _ ⟨B, 0, none⟩ _ _ hb]
theorem IntsAt.turn {w W : World} {a : Option Addr} {l : List Int} {B : Nat} {c : Array Value} {f : Nat × Nat} (h : IntsAt w a l) (hB : w.heap[B]? = some (.cells c tNd f)) (hI : ∀ j, j < w.heap.size → j ≠ B → W.heap[j]? = w.heap[j]?) (hne : ∀ x, a = some x → x.block ≠ B) : IntsAt W a l := fun i hi => by
  obtain ⟨b, off, e, hc⟩ := h i hi
  refine ⟨b, off, e, ?_⟩
  have := hI b (cell_lt hc) (hne _ e)
  unfold World.cell? at hc ⊢
  dsimp only at hc ⊢
  rw [this]; exact hc
/-- a node that was made: where its state lies -/
def NdP (w : World) (n : Nd) (e : Ending) (w' : World) : Prop := ∃ a c, e = .returned (.agg #[.int .i64 (n.1 : Int), .slice a n.2.length c]) ∧ IntsAt w' a n.2 ∧ n.2.length ≤ c ∧ Ext w w'
set_option maxRecDepth 100000 in
set_option maxHeartbeats 2000000 in
theorem begin_any {w : World} {A : SA} {k z : Int} {l : List Cl} (h : Sr w A k z l) :
    Calls Tryd.prog 39 #[.pointer (some ⟨A.p, 0, none⟩)] w (NdP w (beg0 k)) := by
  have hb := h.box
  obtain ⟨p, c1, c2, la, lc, g⟩ := A
  dsimp only at *
  obtain ⟨w1, hw1⟩ : ∃ W, W = w.alloc (.cells #[.int .i64 0, .slice none 0 0] tNd) := ⟨_, rfl⟩
  have HE1 := Lib.hid (show Ext w w1 by rw [hw1]; exact ext_allocN _ _)
  have HB1 := Lib.hid (show w1.heap[w.heap.size]? = some (.cells #[.int .i64 0, .slice none 0 0] tNd (0, 0)) by rw [hw1]; exact alloc_here _ _)
  have hb1 := (HE1.out.below.block _ (lt_of_block hb)).trans hb
  have hs0 := cell_of hb1 (i := 0) rfl
  have hs1 := cell_of hb1 (i := 1) rfl
  have HI := Lib.hid (initial_any k z w1)
  have HB0 := Lib.hid (show (beg0 k : Nd) = (0, iniR k) from rfl)
  have hw1' : w.alloc (.cells #[.int .i64 0, .slice none 0 0] tNd) = w1 := hw1.symm
  clear h hb hb1 hw1
  generalize beg0 k = n at *
  generalize iniR k = L at *
  go_enter Tryd.func39, Tryd.ntmps39
  go_wp2_with fail
  refine HI.out.mono ?_
  rintro e w2 ⟨a, c, rfl, h1, h2, h3, hf⟩
  have H1 := Lib.hid h1
  have H3 := Lib.hid h3
  have HB2 := Lib.hid ((h3.below.block _ (lt_of_block HB1.out)).trans HB1.out)
  have x0 := cell_of HB2.out (i := 0) rfl
  have x1 := cell_of HB2.out (i := 1) rfl
  have f0 := free_of (i := 0) HB2.out
  have f1 := free_of (i := 1) HB2.out
  clear h1 h3
  go_wp2
  obtain ⟨W', hW', h4, h5, h6⟩ := put2 HB2.out rfl (.int .i64 0) (.slice a L.length c)
  rw [hW']
  have e0 := cell_of (i := 0) h4 rfl
  have e1 := cell_of (i := 1) h4 rfl
  obtain rfl := HB0.out
  refine bodyPost_ret (v := .agg #[.int .i64 0, .slice a L.length c]) (by simp [results, Tryd.f39, go_sem, e0, e1]) rfl ⟨a, c, rfl, ?_, h2, Below.trans HE1.out (Below.trans (H3.out.mono HE1.out.size) (h5 _ (Nat.le_refl _)))⟩
  exact H1.out.turn HB2.out (fun j _ hj => h6 j hj) (fun x e => by have := hf x e; have := lt_of_block HB1.out; omega)
end Go.Proofs.YtmbkjccckmlacaaDoor

namespace Go.Proofs.YtmbkjccckmlacaaDoor
open Go.RowKit
set_option linter.unusedVariables false
set_option linter.unusedSimpArgs false

/-- a node, or none -/
def ClP (w : World) (a0 : Option Addr) (l0 : List Int) (r : Option Nd) (e : Ending) (w' : World) : Prop := match r with
  | none => e = .returned (.tuple #[.agg #[.int .i64 0, .slice none 0 0], .bool false]) ∧ Ext w w'
  | some m => ∃ a c, e = .returned (.tuple #[.agg #[.int .i64 (m.1 : Int), .slice a m.2.length c], .bool true]) ∧ IntsAt w' a m.2 ∧ m.2.length ≤ c ∧ Frm w a0 l0 a m.2 ∧ Ext w w'
set_option maxRecDepth 100000 in
set_option maxHeartbeats 4000000 in
theorem callN_any {w : World} {A : SA} {k z : Int} {l : List Cl} (h : Sr w A k z l) (n : Nd) (hg : Gd k z l n) (a : Option Addr) (c : Nat) (hA : IntsAt w a n.2) (hc : n.2.length ≤ c) (i : Nat) (hi : i < l.length) (hl : l.length ≤ 12) (hk1 : 1 ≤ k) (hk6 : k ≤ 6) (hen : -1 ≤ l[i].en) :
    Calls Tryd.prog 68 #[.pointer (some ⟨A.p, 0, none⟩), .agg #[.int .i64 (n.1 : Int), .slice a n.2.length c], .int .i64 (i : Int)] w (ClP w a n.2 (nxt k z l n i)) := by
  obtain ⟨s, L⟩ := n
  have hgl := hg.lt
  have hgs := hg.st
  dsimp only at hgl hgs hA hc
  have HN := Lib.hid (show nxt k z l (s, L) i = if s.testBit i = true ∨ subM (bef l i) s l.length = false then none else
      if (apM k z L l[i].meth l[i].arg).2.2 ≠ 0 ∨ (l[i].en ≠ -1 ∧ (apM k z L l[i].meth l[i].arg).2.1 ≠ l[i].res) then none else some (s ||| 2 ^ i, (apM k z L l[i].meth l[i].arg).1) by
    unfold nxt; rw [List.getElem?_eq_getElem hi])
  obtain ⟨bl, ol, hla, x0, x1, x2, x3, x4, x5⟩ := h.hs i hi
  have HAP := Lib.hid (fun W (hW : Ext w W) => apply_any k z L l[i].meth l[i].arg a c W hk1 hk6 hgs (hA.ext hW) hc)
  have HA := Lib.hid (fun W (hW : Ext w W) => hA.ext hW)
  have hb := h.box
  have hbf := h.bf
  obtain ⟨p, c1, c2, la, lc, g⟩ := A
  dsimp only at *
  subst hla
  generalize nxt k z l (s, L) i = R at *
  have hsh := shl_one (i := i) (by omega)
  have hs62 := pow_le62 hgl hl
  have hand := i64_and s (2 ^ i) hs62 (pow_small (by omega))
  have handn := i64_andNot (bef l i) s (pow_le62 (bef_lt l i) hl) hs62
  have hor := i64_or s (2 ^ i) hs62 (pow_small (by omega))
  have HT := Lib.hid (and_pow_zero s i)
  have HU := Lib.hid (andN_zero (bef_lt l i) (b := s))
  have hbi := bfO_get (bef l) l.length i hi
  generalize l[i] = x at *
  obtain ⟨tk, me, ar, re, be, en⟩ := x
  dsimp only at *
  -- the boxes
  obtain ⟨w3, hw3⟩ : ∃ W, W = ((w.alloc (.cells #[.int .i64 (s : Int), .slice a L.length c] tNd)).alloc (.cells #[.int .i64 0, .slice none 0 0] tNd)).alloc (cClO ⟨tk, me, ar, re, be, en⟩) := ⟨_, rfl⟩
  have hw3' := hw3.symm
  have HE3 := Lib.hid (show Ext w w3 by rw [hw3]; exact ((ext_allocN w _).alloc (by simp) _).alloc (by simp; omega) _)
  have B0 := Lib.hid (show w3.heap[w.heap.size]? = some (.cells #[.int .i64 (s : Int), .slice a L.length c] tNd (0, 0)) by
    rw [hw3]; exact (Below.heap_alloc _ _ _ (by simp; omega)).trans ((Below.heap_alloc _ _ _ (by simp)).trans (alloc_here _ _)))
  have B1 := Lib.hid (show w3.heap[w.heap.size + 1]? = some (.cells #[.int .i64 0, .slice none 0 0] tNd (0, 0)) by
    have h1 := alloc_here (w.alloc (.cells #[.int .i64 (s : Int), .slice a L.length c] tNd)) (.cells #[.int .i64 0, .slice none 0 0] tNd)
    rw [World.size_alloc] at h1
    rw [hw3]; exact (Below.heap_alloc _ _ _ (by simp)).trans h1)
  have B2 := Lib.hid (show w3.heap[w.heap.size + 1 + 1]? = some (.cells #[.int .i64 tk, .int .i64 me, .int .i64 ar, .int .i64 re, .int .i64 be, .int .i64 en] 48 (0, 0)) by
    have h1 := alloc_here ((w.alloc (.cells #[.int .i64 (s : Int), .slice a L.length c] tNd)).alloc (.cells #[.int .i64 0, .slice none 0 0] tNd)) (cClO ⟨tk, me, ar, re, be, en⟩)
    rw [World.size_alloc, World.size_alloc] at h1
    rw [hw3]; exact h1)
  have HSr := Lib.hid (hb)
  have HBf := Lib.hid (hbf)
  have HL := Lib.hid (fun W (hW : Ext w3 W) => show (W.cell? ⟨p, 0, none⟩ = some (.int .i64 k) ∧ W.cell? ⟨p, 1, none⟩ = some (.int .i64 z) ∧ W.cell? ⟨p, 3, none⟩ = some (.slice (some ⟨g, 0, none⟩) l.length l.length)) ∧ W.cell? ⟨g, i, none⟩ = some (.int .i64 ((bef l i : Nat) : Int)) ∧
      (W.cell? ⟨w.heap.size, 0, none⟩ = some (.int .i64 (s : Int)) ∧ W.cell? ⟨w.heap.size, 1, none⟩ = some (.slice a L.length c)) ∧
      (W.cell? ⟨w.heap.size + 1 + 1, 1, none⟩ = some (.int .i64 me) ∧ W.cell? ⟨w.heap.size + 1 + 1, 2, none⟩ = some (.int .i64 ar) ∧ W.cell? ⟨w.heap.size + 1 + 1, 3, none⟩ = some (.int .i64 re) ∧ W.cell? ⟨w.heap.size + 1 + 1, 5, none⟩ = some (.int .i64 en)) ∧
      W.heap[w.heap.size + 1]? = some (.cells #[.int .i64 0, .slice none 0 0] tNd (0, 0)) from by
    have hs1 := ((Ext.trans HE3.out hW).below.block _ (lt_of_block HSr.out)).trans HSr.out
    have hs2 := ((Ext.trans HE3.out hW).below.block _ (lt_of_block HBf.out)).trans HBf.out
    have b0 := (hW.below.block _ (lt_of_block B0.out)).trans B0.out
    have b2 := (hW.below.block _ (lt_of_block B2.out)).trans B2.out
    exact ⟨⟨cell_of hs1 rfl, cell_of hs1 rfl, cell_of hs1 rfl⟩, cell_of hs2 hbi, ⟨cell_of b0 rfl, cell_of b0 rfl⟩, ⟨cell_of b2 rfl, cell_of b2 rfl, cell_of b2 rfl, cell_of b2 rfl⟩, (hW.below.block _ (lt_of_block B1.out)).trans B1.out⟩)
  have y2 := cell_of hb (i := 2) rfl
  have hpz := lt_of_block hb
  have hblz : bl < w.heap.size := cell_lt x0
  have hi0 : (0 : Int) ≤ (i : Int) := by omega
  have hi1 : (i : Int) < (l.length : Int) := by omega
  have hi64 : (i : Int) ≤ 64 := by omega
  have hnone : R = none → R = none := id
  clear h hg hgl hgs hA hb hbf hw3 hs62 hbi hnone
  obtain ⟨⟨q0, q1, q3⟩, qg, ⟨n0, n1⟩, ⟨m1, m2, m3, m5⟩, hB1⟩ := HL.out w3 (Below.refl _ _)
  have f0 := free_of (i := 0) hB1
  have f1 := free_of (i := 1) hB1
  have r0 := cell_of hB1 (i := 0) rfl
  have r1 := cell_of hB1 (i := 1) rfl
  clear hB1
  generalize bef l i = bf at *
  generalize andN bf s = U at *
  generalize hT : s &&& 2 ^ i = T at *
  generalize hO : s ||| 2 ^ i = O at *
  generalize hP2 : 2 ^ i = P2 at *
  clear hT hO hP2
  cases hbit : s.testBit i with
  | true =>
    have HRn := Lib.hid (show R = none by rw [HN.out, if_pos (Or.inl hbit)])
    have g1 : ((T : Int) != 0) = true := by
      have : ¬ T = 0 := fun e => by rw [HT.out.1 e] at hbit; cases hbit
      rw [bne_iff_ne]; omega
    clear hbit
    go_enter Tryd.func68, Tryd.ntmps68
    go_wp2_with fail
    try rw [hw3']
    go_quiet (fail)
    have HBX := Lib.hid (show (w3.drewN nq).heap[w.heap.size + 1]? = some (.cells #[.int .i64 0, .slice none 0 0] tNd (0, 0)) from B1.out)
    go_wp2
    obtain ⟨W', hW', h4, h5, h6⟩ := put2 HBX.out rfl (.int .i64 0) (.slice none 0 0)
    rw [hW']
    have e0 := cell_of (i := 0) h4 rfl
    have e1 := cell_of (i := 1) h4 rfl
    obtain rfl := HRn.out
    exact bodyPost_ret (v := .tuple #[.agg #[.int .i64 0, .slice none 0 0], .bool false]) (by simp [results, Tryd.f68, go_sem, e0, e1]) rfl ⟨rfl, Below.trans (Ext.drewN' HE3.out) (h5 _ (by omega))⟩
  | false =>
    have g1 : ((T : Int) != 0) = false := by rw [HT.out.2 hbit]; rfl
    cases hsub : subM bf s l.length with
    | false =>
      have HRn := Lib.hid (show R = none by rw [HN.out, if_pos (Or.inr hsub)])
      have g2 : ((U : Int) != 0) = true := by
        have : ¬ U = 0 := fun e => by rw [HU.out.1 e] at hsub; cases hsub
        rw [bne_iff_ne]; omega
      clear hbit hsub
      go_enter Tryd.func68, Tryd.ntmps68
      go_wp2_with fail
      try rw [hw3']
      go_quiet (fail)
      have HBX := Lib.hid (show (w3.drewN nq).heap[w.heap.size + 1]? = some (.cells #[.int .i64 0, .slice none 0 0] tNd (0, 0)) from B1.out)
      go_wp2
      obtain ⟨W', hW', h4, h5, h6⟩ := put2 HBX.out rfl (.int .i64 0) (.slice none 0 0)
      rw [hW']
      have e0 := cell_of (i := 0) h4 rfl
      have e1 := cell_of (i := 1) h4 rfl
      obtain rfl := HRn.out
      exact bodyPost_ret (v := .tuple #[.agg #[.int .i64 0, .slice none 0 0], .bool false]) (by simp [results, Tryd.f68, go_sem, e0, e1]) rfl ⟨rfl, Below.trans (Ext.drewN' HE3.out) (h5 _ (by omega))⟩
    | true =>
      have g2 : ((U : Int) != 0) = false := by rw [HU.out.2 hsub]; rfl
      have HN2 := Lib.hid (show R = if (apM k z L me ar).2.2 ≠ 0 ∨ (en ≠ -1 ∧ (apM k z L me ar).2.1 ≠ re) then none else some (O, (apM k z L me ar).1) by rw [HN.out, if_neg (by rw [hbit, hsub]; simp)])
      clear hbit hsub HN
      generalize apM k z L me ar = Z at *
      go_enter Tryd.func68, Tryd.ntmps68
      go_wp2_with fail
      try rw [hw3']
      go_quiet (fail)
      have HBX := Lib.hid (show (w3.drewN nq).heap[w.heap.size + 1]? = some (.cells #[.int .i64 0, .slice none 0 0] tNd (0, 0)) from B1.out)
      generalize hwz : w3.drewN nq = wz at *
      have HE34 := Lib.hid (show Ext w3 wz by rw [← hwz]; exact Ext.drewN' (Below.refl _ _))
      clear hwz q0 q1 q3 qg n0 n1 m1 m2 m3 m5 f0 f1 r0 r1 HBX
      obtain ⟨L1, rs, er⟩ := Z
      dsimp only at *
      go_wp2_with fail
      refine wp_region_tail (l1 := [_, _, _, _, _, _, _, _, _, _, _, _, _, _, _, _, _]) (l2 := [_]) (by kernel_rfl) Ext (fun W => Below.refl _ W) (fun W => show Below W.heap.size W { W with drawn := W.drawn + 1 } from ⟨rfl, rfl, rfl, Nat.le_refl _, fun _ _ => rfl⟩) Ext.trans
        (fun i s W => match i with
          | 0 => s 0 = .pointer (some ⟨p, 0, none⟩)
          | 1 => s 1 = .pointer (some ⟨p, 0, none⟩)
          | 2 => s 2 = .pointer (some ⟨p, 0, none⟩)
          | 3 => s 3 = .agg #[.int .i64 k, .int .i64 z]
          | 4 => s 4 = .pointer (some ⟨w.heap.size, 1, none⟩)
          | 5 => s 5 = .slice a L.length c
          | 6 => s 6 = .pointer (some ⟨w.heap.size + 1 + 1, 1, none⟩)
          | 7 => s 7 = .int .i64 me
          | 8 => s 8 = .pointer (some ⟨w.heap.size + 1 + 1, 2, none⟩)
          | 9 => s 9 = .int .i64 ar
          | 10 => ∃ a1 cc1, s 10 = .tuple #[.slice a1 L1.length cc1, .int .i64 rs, .int .i64 er] ∧ IntsAt W a1 L1 ∧ L1.length ≤ cc1 ∧ Frm wz a L a1 L1
          | 11 => ∃ a1 cc1, s 11 = .tuple #[.slice a1 L1.length cc1, .int .i64 rs, .int .i64 er] ∧ IntsAt W a1 L1 ∧ L1.length ≤ cc1 ∧ Frm wz a L a1 L1
          | 12 => ∃ a1 cc1, s 12 = .slice a1 L1.length cc1 ∧ IntsAt W a1 L1 ∧ L1.length ≤ cc1 ∧ Frm wz a L a1 L1
          | 13 => s 13 = .int .i64 rs
          | 14 => s 14 = .int .i64 er
          | 15 => ∃ a1 cc1, s 15 = .slice a1 L1.length cc1 ∧ IntsAt W a1 L1 ∧ L1.length ≤ cc1 ∧ Frm wz a L a1 L1
          | 16 => s 16 = .int .i64 rs
          | _ => True)
        (fun i => [i])
        (by
          intro i s s' W W' h hs hE
          have hs := hs i (by simp)
          match i, h, hs with
          | 0, h, hs => exact hs.trans h
          | 1, h, hs => exact hs.trans h
          | 2, h, hs => exact hs.trans h
          | 3, h, hs => exact hs.trans h
          | 4, h, hs => exact hs.trans h
          | 5, h, hs => exact hs.trans h
          | 6, h, hs => exact hs.trans h
          | 7, h, hs => exact hs.trans h
          | 8, h, hs => exact hs.trans h
          | 9, h, hs => exact hs.trans h
          | 10, ⟨a1, cc1, h, h1, h2, h3⟩, hs => exact ⟨a1, cc1, hs.trans h, h1.ext hE, h2, h3⟩
          | 11, ⟨a1, cc1, h, h1, h2, h3⟩, hs => exact ⟨a1, cc1, hs.trans h, h1.ext hE, h2, h3⟩
          | 12, ⟨a1, cc1, h, h1, h2, h3⟩, hs => exact ⟨a1, cc1, hs.trans h, h1.ext hE, h2, h3⟩
          | 13, h, hs => exact hs.trans h
          | 14, h, hs => exact hs.trans h
          | 15, ⟨a1, cc1, h, h1, h2, h3⟩, hs => exact ⟨a1, cc1, hs.trans h, h1.ext hE, h2, h3⟩
          | 16, h, hs => exact hs.trans h
          | i + 17, h, hs => exact trivial)
        (by kernel_rfl) (by kernel_rfl) (by kernel_rfl) 75 rfl (by kernel_rfl) (by kernel_rfl) ?_ ?_
      · intro i op ho a' W hA
        obtain ⟨⟨q0, q1, q3⟩, qg, ⟨n0, n1⟩, ⟨m1, m2, m3, m5⟩, hB1⟩ := HL.out W (Ext.trans HE34.out hA.rel)
        match i, ho with
        | 0, ho =>
          obtain rfl := Option.some.inj ho
          have e1 : a'.eval (.tmp 0) = .pointer (some ⟨p, 0, none⟩) := hA.keep 0 (by kernel_rfl)
          refine GoesG.value (.pointer (some ⟨p, 0, none⟩)) rfl ?_ (Below.refl _ _) (fun s h1 h2 => h1 rfl)
          simp only [execOp, e1]
          simp [go_sem, q0, q1, q3, qg, n0, n1, m1, m2, m3, m5]
        | 1, ho =>
          obtain rfl := Option.some.inj ho
          have e1 : a'.eval (.tmp 40) = .pointer (some ⟨p, 0, none⟩) := (sv_dst (l := _) rfl).symm.trans (hA.new 0 (by decide) (by kernel_rfl))
          refine GoesG.value (.pointer (some ⟨p, 0, none⟩)) rfl ?_ (Below.refl _ _) (fun s h1 h2 => h1 rfl)
          simp only [execOp, e1]
          simp [go_sem, q0, q1, q3, qg, n0, n1, m1, m2, m3, m5]
        | 2, ho =>
          obtain rfl := Option.some.inj ho
          have e1 : a'.eval (.tmp 41) = .pointer (some ⟨p, 0, none⟩) := (sv_dst (l := _) rfl).symm.trans (hA.new 1 (by decide) (by kernel_rfl))
          refine GoesG.value (.pointer (some ⟨p, 0, none⟩)) rfl ?_ (Below.refl _ _) (fun s h1 h2 => h1 rfl)
          simp only [execOp, e1]
          simp [go_sem, q0, q1, q3, qg, n0, n1, m1, m2, m3, m5]
        | 3, ho =>
          obtain rfl := Option.some.inj ho
          have e1 : a'.eval (.tmp 42) = .pointer (some ⟨p, 0, none⟩) := (sv_dst (l := _) rfl).symm.trans (hA.new 2 (by decide) (by kernel_rfl))
          refine GoesG.value (.agg #[.int .i64 k, .int .i64 z]) rfl ?_ (Below.refl _ _) (fun s h1 h2 => h1 rfl)
          simp only [execOp, e1]
          simp [go_sem, q0, q1, q3, qg, n0, n1, m1, m2, m3, m5]
        | 4, ho =>
          obtain rfl := Option.some.inj ho
          have e1 : a'.eval (.tmp 4) = .pointer (some ⟨w.heap.size, 0, none⟩) := hA.keep 4 (by kernel_rfl)
          refine GoesG.value (.pointer (some ⟨w.heap.size, 1, none⟩)) rfl ?_ (Below.refl _ _) (fun s h1 h2 => h1 rfl)
          simp only [execOp, e1]
          simp [go_sem, q0, q1, q3, qg, n0, n1, m1, m2, m3, m5]
        | 5, ho =>
          obtain rfl := Option.some.inj ho
          have e1 : a'.eval (.tmp 44) = .pointer (some ⟨w.heap.size, 1, none⟩) := (sv_dst (l := _) rfl).symm.trans (hA.new 4 (by decide) (by kernel_rfl))
          refine GoesG.value (.slice a L.length c) rfl ?_ (Below.refl _ _) (fun s h1 h2 => h1 rfl)
          simp only [execOp, e1]
          simp [go_sem, q0, q1, q3, qg, n0, n1, m1, m2, m3, m5]
        | 6, ho =>
          obtain rfl := Option.some.inj ho
          have e1 : a'.eval (.tmp 8) = .pointer (some ⟨w.heap.size + 1 + 1, 0, none⟩) := hA.keep 8 (by kernel_rfl)
          refine GoesG.value (.pointer (some ⟨w.heap.size + 1 + 1, 1, none⟩)) rfl ?_ (Below.refl _ _) (fun s h1 h2 => h1 rfl)
          simp only [execOp, e1]
          simp [go_sem, q0, q1, q3, qg, n0, n1, m1, m2, m3, m5]
        | 7, ho =>
          obtain rfl := Option.some.inj ho
          have e1 : a'.eval (.tmp 46) = .pointer (some ⟨w.heap.size + 1 + 1, 1, none⟩) := (sv_dst (l := _) rfl).symm.trans (hA.new 6 (by decide) (by kernel_rfl))
          refine GoesG.value (.int .i64 me) rfl ?_ (Below.refl _ _) (fun s h1 h2 => h1 rfl)
          simp only [execOp, e1]
          simp [go_sem, q0, q1, q3, qg, n0, n1, m1, m2, m3, m5]
        | 8, ho =>
          obtain rfl := Option.some.inj ho
          have e1 : a'.eval (.tmp 8) = .pointer (some ⟨w.heap.size + 1 + 1, 0, none⟩) := hA.keep 8 (by kernel_rfl)
          refine GoesG.value (.pointer (some ⟨w.heap.size + 1 + 1, 2, none⟩)) rfl ?_ (Below.refl _ _) (fun s h1 h2 => h1 rfl)
          simp only [execOp, e1]
          simp [go_sem, q0, q1, q3, qg, n0, n1, m1, m2, m3, m5]
        | 9, ho =>
          obtain rfl := Option.some.inj ho
          have e1 : a'.eval (.tmp 48) = .pointer (some ⟨w.heap.size + 1 + 1, 2, none⟩) := (sv_dst (l := _) rfl).symm.trans (hA.new 8 (by decide) (by kernel_rfl))
          refine GoesG.value (.int .i64 ar) rfl ?_ (Below.refl _ _) (fun s h1 h2 => h1 rfl)
          simp only [execOp, e1]
          simp [go_sem, q0, q1, q3, qg, n0, n1, m1, m2, m3, m5]
        | 10, ho =>
          obtain rfl := Option.some.inj ho
          have e1 : a'.eval (.tmp 43) = .agg #[.int .i64 k, .int .i64 z] := (sv_dst (l := _) rfl).symm.trans (hA.new 3 (by decide) (by kernel_rfl))
          have e2 : a'.eval (.tmp 45) = .slice a L.length c := (sv_dst (l := _) rfl).symm.trans (hA.new 5 (by decide) (by kernel_rfl))
          have e3 : a'.eval (.tmp 47) = .int .i64 me := (sv_dst (l := _) rfl).symm.trans (hA.new 7 (by decide) (by kernel_rfl))
          have e4 : a'.eval (.tmp 49) = .int .i64 ar := (sv_dst (l := _) rfl).symm.trans (hA.new 9 (by decide) (by kernel_rfl))
          refine GoesG.call 45 #[.agg #[.int .i64 k, .int .i64 z], .slice a L.length c, .int .i64 me, .int .i64 ar] rfl ?_ ?_
          · have en := enters_fn Tryd.func45 (by kernel_rfl) rfl
            simp [Act.eval] at e1 e2 e3 e4
            simp [execOp, go_sem, e1, e2, e3, e4, en]
          · refine (HAP.out W (Ext.trans HE3.out (Ext.trans HE34.out hA.rel))).mono ?_
            rintro e W2 ⟨a1, cc1, rfl, h1, h2, h3, h4⟩
            exact ⟨_, rfl, h3, fun s g1 g2 => ⟨a1, cc1, g1 rfl, h1, h2, h4.up hA.rel⟩⟩
        | 11, ho =>
          obtain rfl := Option.some.inj ho
          obtain ⟨a1, cc1, e0, h1, h2, h3⟩ := hA.new 10 (by decide) (by kernel_rfl)
          have e1 : a'.eval (.tmp 50) = .tuple #[.slice a1 L1.length cc1, .int .i64 rs, .int .i64 er] := (sv_dst (l := _) rfl).symm.trans e0
          refine GoesG.value (.tuple #[.slice a1 L1.length cc1, .int .i64 rs, .int .i64 er]) rfl ?_ (Below.refl _ _) (fun s g1 g2 => ⟨a1, cc1, g1 rfl, h1, h2, h3⟩)
          simp only [execOp, e1]
          simp [go_sem]
        | 12, ho =>
          obtain rfl := Option.some.inj ho
          obtain ⟨a1, cc1, e0, h1, h2, h3⟩ := hA.new 11 (by decide) (by kernel_rfl)
          have e1 : a'.eval (.tmp 39) = .tuple #[.slice a1 L1.length cc1, .int .i64 rs, .int .i64 er] := (sv_dst (l := _) rfl).symm.trans e0
          refine GoesG.value (.slice a1 L1.length cc1) rfl ?_ (Below.refl _ _) (fun s g1 g2 => ⟨a1, cc1, g1 rfl, h1, h2, h3⟩)
          simp only [execOp, e1]
          simp [go_sem]
        | 13, ho =>
          obtain rfl := Option.some.inj ho
          obtain ⟨a1, cc1, e0, h1, h2, h3⟩ := hA.new 11 (by decide) (by kernel_rfl)
          have e1 : a'.eval (.tmp 39) = .tuple #[.slice a1 L1.length cc1, .int .i64 rs, .int .i64 er] := (sv_dst (l := _) rfl).symm.trans e0
          refine GoesG.value (.int .i64 rs) rfl ?_ (Below.refl _ _) (fun s g1 g2 => g1 rfl)
          simp only [execOp, e1]
          simp [go_sem]
        | 14, ho =>
          obtain rfl := Option.some.inj ho
          obtain ⟨a1, cc1, e0, h1, h2, h3⟩ := hA.new 11 (by decide) (by kernel_rfl)
          have e1 : a'.eval (.tmp 39) = .tuple #[.slice a1 L1.length cc1, .int .i64 rs, .int .i64 er] := (sv_dst (l := _) rfl).symm.trans e0
          refine GoesG.value (.int .i64 er) rfl ?_ (Below.refl _ _) (fun s g1 g2 => g1 rfl)
          simp only [execOp, e1]
          simp [go_sem]
        | 15, ho =>
          obtain rfl := Option.some.inj ho
          obtain ⟨a1, cc1, e0, h1, h2, h3⟩ := hA.new 12 (by decide) (by kernel_rfl)
          have e1 : a'.eval (.tmp 51) = .slice a1 L1.length cc1 := (sv_dst (l := _) rfl).symm.trans e0
          refine GoesG.value (.slice a1 L1.length cc1) rfl ?_ (Below.refl _ _) (fun s g1 g2 => ⟨a1, cc1, g1 rfl, h1, h2, h3⟩)
          simp only [execOp, e1]
          simp [go_sem]
        | 16, ho =>
          obtain rfl := Option.some.inj ho
          have e1 : a'.eval (.tmp 52) = .int .i64 rs := (sv_dst (l := _) rfl).symm.trans (hA.new 13 (by decide) (by kernel_rfl))
          refine GoesG.value (.int .i64 rs) rfl ?_ (Below.refl _ _) (fun s h1 h2 => h1 rfl)
          simp only [execOp, e1]
          simp [go_sem, q0, q1, q3, qg, n0, n1, m1, m2, m3, m5]
        | i + 17, ho => cases ho
      · intro vs w4 hvs hG hΦ
        obtain ⟨y0, y1, y2, y3, y4, y5, y6, y7, y8, y9, y10, y11, y12, y13, y14, y15, y16, rfl⟩ : ∃ y0 y1 y2 y3 y4 y5 y6 y7 y8 y9 y10 y11 y12 y13 y14 y15 y16, vs = y0 :: y1 :: y2 :: y3 :: y4 :: y5 :: y6 :: y7 :: y8 :: y9 :: y10 :: y11 :: y12 :: y13 :: y14 :: y15 :: y16 :: [] := by
          match vs, hvs with
          | y0 :: y1 :: y2 :: y3 :: y4 :: y5 :: y6 :: y7 :: y8 :: y9 :: y10 :: y11 :: y12 :: y13 :: y14 :: y15 :: y16 :: [], _ => exact ⟨y0, y1, y2, y3, y4, y5, y6, y7, y8, y9, y10, y11, y12, y13, y14, y15, y16, rfl⟩
        have e0 : y0 = .pointer (some ⟨p, 0, none⟩) := hΦ 0 (by decide)
        subst e0
        have e1 : y1 = .pointer (some ⟨p, 0, none⟩) := hΦ 1 (by decide)
        subst e1
        have e2 : y2 = .pointer (some ⟨p, 0, none⟩) := hΦ 2 (by decide)
        subst e2
        have e3 : y3 = .agg #[.int .i64 k, .int .i64 z] := hΦ 3 (by decide)
        subst e3
        have e4 : y4 = .pointer (some ⟨w.heap.size, 1, none⟩) := hΦ 4 (by decide)
        subst e4
        have e5 : y5 = .slice a L.length c := hΦ 5 (by decide)
        subst e5
        have e6 : y6 = .pointer (some ⟨w.heap.size + 1 + 1, 1, none⟩) := hΦ 6 (by decide)
        subst e6
        have e7 : y7 = .int .i64 me := hΦ 7 (by decide)
        subst e7
        have e8 : y8 = .pointer (some ⟨w.heap.size + 1 + 1, 2, none⟩) := hΦ 8 (by decide)
        subst e8
        have e9 : y9 = .int .i64 ar := hΦ 9 (by decide)
        subst e9
        have p10 : ∃ a1 cc1, y10 = .tuple #[.slice a1 L1.length cc1, .int .i64 rs, .int .i64 er] ∧ IntsAt w4 a1 L1 ∧ L1.length ≤ cc1 ∧ Frm wz a L a1 L1 := hΦ 10 (by decide)
        have p11 : ∃ a1 cc1, y11 = .tuple #[.slice a1 L1.length cc1, .int .i64 rs, .int .i64 er] ∧ IntsAt w4 a1 L1 ∧ L1.length ≤ cc1 ∧ Frm wz a L a1 L1 := hΦ 11 (by decide)
        have p12 : ∃ a1 cc1, y12 = .slice a1 L1.length cc1 ∧ IntsAt w4 a1 L1 ∧ L1.length ≤ cc1 ∧ Frm wz a L a1 L1 := hΦ 12 (by decide)
        have e13 : y13 = .int .i64 rs := hΦ 13 (by decide)
        subst e13
        have e14 : y14 = .int .i64 er := hΦ 14 (by decide)
        subst e14
        have p15 : ∃ a1 cc1, y15 = .slice a1 L1.length cc1 ∧ IntsAt w4 a1 L1 ∧ L1.length ≤ cc1 ∧ Frm wz a L a1 L1 := hΦ 15 (by decide)
        have e16 : y16 = .int .i64 rs := hΦ 16 (by decide)
        subst e16
        clear hΦ hvs
        simp only [putAll, Act.put, List.setIfInBounds_toArray, List.set_cons_succ, List.set_cons_zero]
        obtain ⟨a1, cc1, h15, h1, h2, h4⟩ := p15
        subst h15
        have H1 := Lib.hid h1
        have HE35 := Lib.hid (Ext.trans HE34.out (show Ext wz w4 from hG))
        have HF := Lib.hid h4
        clear h1 h4 p10 p11 p12 hG
        obtain ⟨⟨q0, q1, q3⟩, qg, ⟨n0, n1⟩, ⟨m1, m2, m3, m5⟩, hB1⟩ := HL.out w4 HE35.out
        have HB15 := Lib.hid hB1
        have f0 := free_of (i := 0) hB1
        have f1 := free_of (i := 1) hB1
        have r0 := cell_of hB1 (i := 0) rfl
        have r1 := cell_of hB1 (i := 1) rfl
        clear hB1
        by_cases her : er = 0
        case neg =>
          have HRn := Lib.hid (show R = none by rw [HN2.out, if_pos (Or.inl her)])
          have g3 : (er != 0) = true := by simpa using her
          have HBX := Lib.hid HB15.out
          clear her
          go_wp2
          obtain ⟨W', hW', h4, h5, h6⟩ := put2 HBX.out rfl (.int .i64 0) (.slice none 0 0)
          rw [hW']
          have e0 := cell_of (i := 0) h4 rfl
          have e1 := cell_of (i := 1) h4 rfl
          obtain rfl := HRn.out
          exact bodyPost_ret (v := .tuple #[.agg #[.int .i64 0, .slice none 0 0], .bool false]) (by simp [results, Tryd.f68, go_sem, e0, e1]) rfl ⟨rfl, Below.trans (Ext.trans HE3.out HE35.out) (h5 _ (by omega))⟩
        case pos =>
          have g3 : (er != 0) = false := by simpa using her
          by_cases hbad : en ≠ -1 ∧ rs ≠ re
          case pos =>
            have HRn := Lib.hid (show R = none by rw [HN2.out, if_pos (Or.inr hbad)])
            have g4 : decide (0 ≤ en) = true := by simp; omega
            have g5 : (rs != re) = true := by simpa using hbad.2
            have HBX := Lib.hid HB15.out
            clear her hbad
            go_wp2
            obtain ⟨W', hW', h4, h5, h6⟩ := put2 HBX.out rfl (.int .i64 0) (.slice none 0 0)
            rw [hW']
            have e0 := cell_of (i := 0) h4 rfl
            have e1 := cell_of (i := 1) h4 rfl
            obtain rfl := HRn.out
            exact bodyPost_ret (v := .tuple #[.agg #[.int .i64 0, .slice none 0 0], .bool false]) (by simp [results, Tryd.f68, go_sem, e0, e1]) rfl ⟨rfl, Below.trans (Ext.trans HE3.out HE35.out) (h5 _ (by omega))⟩
          case neg =>
            have HRs := Lib.hid (show R = some (O, L1) by rw [HN2.out, if_neg (by intro h; rcases h with h | h; exact h her; exact hbad h)])
            have HBX := Lib.hid HB15.out
            have HHN := Lib.hid (show ∀ x, a1 = some x → L1 ≠ [] → x.block ≠ w.heap.size + 1 from fun x e hne => by
              rcases HF.out with h | ⟨h, h'⟩
              · have := h x e
                have := HE34.out.size
                have := lt_of_block B2.out
                have h9 : wz.heap.size ≤ x.block := h x e
                omega
              · subst h'
                obtain ⟨b, o, e2, hc2⟩ := HA.out w (Below.refl _ _) 0 (by cases L1 with | nil => exact absurd rfl hne | cons => simp)
                rw [← h, e] at e2
                cases e2
                have := cell_lt hc2
                intro h0
                dsimp only at this h0
                omega)
            have hcase : (decide (0 ≤ en) = false) ∨ (decide (0 ≤ en) = true ∧ (rs != re) = false) := by
              by_cases h0 : 0 ≤ en
              · right
                refine ⟨by simpa using h0, ?_⟩
                by_cases h1 : rs = re
                · simpa using h1
                · exact absurd ⟨by omega, h1⟩ hbad
              · left; simpa using h0
            clear her hbad
            rcases hcase with g4 | ⟨g4, g5⟩
            all_goals
              go_wp2_with fail
              go_still_tail 7, (by kernel_rfl)
              go_wp2
              obtain ⟨W', hW', h4, h5, h6⟩ := put2 HBX.out rfl (.int .i64 (O : Int)) (.slice a1 L1.length cc1)
              rw [hW']
              have e0 := cell_of (i := 0) h4 rfl
              have e1 := cell_of (i := 1) h4 rfl
              obtain rfl := HRs.out
              refine bodyPost_ret (v := .tuple #[.agg #[.int .i64 (O : Int), .slice a1 L1.length cc1], .bool true]) (by simp [results, Tryd.f68, go_sem, e0, e1]) rfl ⟨a1, cc1, rfl, ?_, h2, HF.out.up (Ext.trans HE3.out HE34.out), (Below.trans (Ext.trans HE3.out HE35.out) (h5 _ (by omega))).drew⟩
              show IntsAt W' a1 L1
              cases L1 with
              | nil => exact IntsAt.nil
              | cons y t => exact H1.out.turn HBX.out (fun j _ hj => h6 j hj) (fun x e => HHN.out x e (by simp))
end Go.Proofs.YtmbkjccckmlacaaDoor

