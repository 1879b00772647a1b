/- Lemmas and walks for the statements of this seat, part 8, merged from smaller texts: The law's builders of expressions.; Plain: what Fold returns is checked.; awake: the examples of the chapter.; Arguments that came in: an expression as a tree, bindings as a list.; GreatBindings.; ExprArithmetic's small functions.; slices.Clone of bindings.; expr's equal, for any two expressions.; Plain: folding keeps the type, the value and the error; folding again changes nothing. -/
import Derived.Deep.Slices
import Derived.Deep.Fields
import Derived.ChangeSame
import Derived.Lib.SmallJoins
import Derived.SizedLaws
import Derived.Lib.SliceRun
import Derived.Test.YtgkalcboklhdgaaDoorPart7
import Derived.Test.YtgkalcboklhdgaaDoorPart6
import Derived.Test.YtgkalcboklhdgaaDoorPart5
import Derived.Test.YtgkalcboklhdgaaDoorPart1

namespace Go.Proofs.YtgkalcboklhdgaaDoor
open Go.RowKit
set_option linter.unusedVariables false
set_option linter.unusedSimpArgs false
open Ex

set_option maxHeartbeats 1000000 in
theorem nam_any (s : List UInt8) (w : World) : Calls Tryd.prog 19 #[sV s] w fun r w' => r = .returned ((Ex.mk 2 0 s 0 []).val none 0) ∧ Ext w w' := by
  have hE : Ext w (w.alloc (.cells #[.int .i64 2, .int .i64 0, sV s, .int .i64 0, .slice none 0 0] tEx)) := (Below.refl _ w).alloc (Nat.le_refl _) _
  have HE := Lib.hid (And.intro (box5 (alloc_here w (.cells #[.int .i64 2, .int .i64 0, sV s, .int .i64 0, .slice none 0 0] tEx))) hE)
  clear hE
  go_enter Tryd.func19, Tryd.ntmps19
  go_wp2
  obtain ⟨⟨e0, e1, e2, e3, e4, _⟩, hE⟩ := HE.out
  have hV : w.alloc (.cells #[.int .i64 2, .int .i64 0, sV s, .int .i64 0, .slice none 0 0] tEx) = w.alloc (.cells #[.int .i64 2, .int .i64 0, .string (sB s), .int .i64 0, .slice none 0 0] tEx) := rfl
  exact bodyPost_ret (v := .agg #[.int .i64 2, .int .i64 0, sV s, .int .i64 0, .slice none 0 0]) (by simp [results, Tryd.f19, go_sem, e0, e1, e2, e3, e4, sB_nil]) rfl ⟨rfl, hE⟩
set_option maxHeartbeats 1000000 in
theorem num_any (n : Int) (w : World) : Calls Tryd.prog 33 #[.int .i64 n] w fun r w' => r = .returned ((Ex.mk 1 0 [] n []).val none 0) ∧ Ext w w' := by
  have hE : Ext w (w.alloc (.cells #[.int .i64 1, .int .i64 0, .string { data := #[] }, .int .i64 n, .slice none 0 0] tEx)) := (Below.refl _ w).alloc (Nat.le_refl _) _
  have HE := Lib.hid (And.intro (box5 (alloc_here w (.cells #[.int .i64 1, .int .i64 0, .string { data := #[] }, .int .i64 n, .slice none 0 0] tEx))) hE)
  clear hE
  go_enter Tryd.func33, Tryd.ntmps33
  go_wp2
  obtain ⟨⟨e0, e1, e2, e3, e4, _⟩, hE⟩ := HE.out
  exact bodyPost_ret (v := .agg #[.int .i64 1, .int .i64 0, .string { data := #[] }, .int .i64 n, .slice none 0 0]) (by simp [results, Tryd.f33, go_sem, e0, e1, e2, e3, e4, sB_nil]) rfl ⟨by rw [sV_nil]; rfl, hE⟩
theorem fits_node {k o : Int} {ts : List Ex} (hk : k = 3 ∨ k = 4) (h1 : -100 ≤ o) (h2 : o ≤ 100) (hl : ts.length ≤ 2) : fits (.mk k o [] 0 ts) :=
  ⟨⟨by show _ ≤ k; omega, by show k ≤ _; omega⟩, ⟨by show _ ≤ o; omega, by show o ≤ _; omega⟩, by show ([] : List UInt8).length ≤ _; simp, ⟨by show _ ≤ (0 : Int); omega, by show (0 : Int) ≤ _; omega⟩, by show ts.length ≤ _; omega⟩
set_option maxHeartbeats 1000000 in
theorem unary_any (S : Nat → Prop) (o : Int) (h1 : -100 ≤ o) (h2 : o ≤ 100) (e : Ex) (p : Option Addr) (c : Nat) (w : World) (hA : AtB S w p e) :
    Calls Tryd.prog 22 #[.int .i64 o, e.val p c] w fun r w' => ∃ q d, r = .returned ((Ex.mk 3 o [] 0 [e]).val q d) ∧ AtB (fun b => S b ∨ w.heap.size ≤ b) w' q (.mk 3 o [] 0 [e]) ∧ Ext w w' := by
  have hv : e.val p c = .agg #[.int .i64 e.kind, .int .i64 e.op, sV e.name, .int .i64 e.value, .slice p e.args.length c] := rfl
  rw [hv]
  obtain ⟨_, hb1, hb2, hE⟩ := three_boxes w (.int .i64 e.kind) (.int .i64 e.op) (sV e.name) (.int .i64 e.value) (.slice p e.args.length c) (.int .i64 3) (.int .i64 o) (.string { data := #[] }) (.int .i64 0) (.slice (some ⟨w.heap.size + 1 + 1, 0, none⟩) 1 1) (.int .i64 e.kind) (.int .i64 e.op) (sV e.name) (.int .i64 e.value) (.slice p e.args.length c) tEx
  have HX := Lib.hid (And.intro hb1 (And.intro hb2 (And.intro hE hA)))
  clear hb1 hb2 hE hA hv
  go_enter Tryd.func22, Tryd.ntmps22
  go_wp2
  obtain ⟨hb1, hb2, hE, hA⟩ := HX.out
  generalize (((w.alloc (.cells #[.int .i64 e.kind, .int .i64 e.op, sV e.name, .int .i64 e.value, .slice p e.args.length c] tEx)).alloc (.cells #[.int .i64 3, .int .i64 o, .string { data := #[] }, .int .i64 0, .slice (some ⟨w.heap.size + 1 + 1, 0, none⟩) 1 1] tEx)).alloc (.cells #[.int .i64 e.kind, .int .i64 e.op, sV e.name, .int .i64 e.value, .slice p e.args.length c] tEx)) = W at *
  obtain ⟨m0, m1, m2, m3, m4, _⟩ := box5 hb1
  obtain ⟨n0, n1, n2, n3, n4, _⟩ := box5 hb2
  exact bodyPost_ret (v := .agg #[.int .i64 3, .int .i64 o, .string { data := #[] }, .int .i64 0, .slice (some ⟨w.heap.size + 1 + 1, 0, none⟩) 1 1]) (by simp [results, Tryd.f22, go_sem, m0, m1, m2, m3, m4, sB_nil]) rfl
    ⟨some ⟨w.heap.size + 1 + 1, 0, none⟩, 1, by rw [sV_nil]; rfl, ⟨fits_node (.inl rfl) h1 h2 (by simp), ⟨_, _, p, c, rfl, .inr (by omega), ⟨n0, n1, n2, n3, n4⟩, (hA.ext hE).imp fun b hb _ => .inl hb⟩, trivial⟩, hE⟩

/-- four blocks: two boxes, a result, a row of two -/
theorem boxes22 (w : World) (a0 a1 a2 a3 a4 b0 b1 b2 b3 b4 c0 c1 c2 c3 c4 : Value) (T : TypeId) :
    ((((w.alloc (.cells #[a0, a1, a2, a3, a4] T)).alloc (.cells #[b0, b1, b2, b3, b4] T)).alloc (.cells #[c0, c1, c2, c3, c4] T)).alloc (.cells #[a0, a1, a2, a3, a4, b0, b1, b2, b3, b4] T)).heap[w.heap.size + 2]? = some (.cells #[c0, c1, c2, c3, c4] T (0, 0)) ∧
    ((((w.alloc (.cells #[a0, a1, a2, a3, a4] T)).alloc (.cells #[b0, b1, b2, b3, b4] T)).alloc (.cells #[c0, c1, c2, c3, c4] T)).alloc (.cells #[a0, a1, a2, a3, a4, b0, b1, b2, b3, b4] T)).heap[w.heap.size + 3]? = some (.cells #[a0, a1, a2, a3, a4, b0, b1, b2, b3, b4] T (0, 0)) ∧
    Ext w ((((w.alloc (.cells #[a0, a1, a2, a3, a4] T)).alloc (.cells #[b0, b1, b2, b3, b4] T)).alloc (.cells #[c0, c1, c2, c3, c4] T)).alloc (.cells #[a0, a1, a2, a3, a4, b0, b1, b2, b3, b4] T)) := by
  obtain ⟨_, _, h3, h4⟩ := three_boxes w a0 a1 a2 a3 a4 b0 b1 b2 b3 b4 c0 c1 c2 c3 c4 T
  have h := alloc_here (((w.alloc (.cells #[a0, a1, a2, a3, a4] T)).alloc (.cells #[b0, b1, b2, b3, b4] T)).alloc (.cells #[c0, c1, c2, c3, c4] T)) (.cells #[a0, a1, a2, a3, a4, b0, b1, b2, b3, b4] T)
  simp only [World.size_alloc] at h
  exact ⟨(Below.heap_alloc _ _ (w.heap.size + 2) (by simp)).trans h3, h, h4.alloc (by simp <;> omega) _⟩
set_option maxHeartbeats 2000000 in
theorem binary_any (S : Nat → Prop) (o : Int) (h1 : -100 ≤ o) (h2 : o ≤ 100) (e f : Ex) (p p' : Option Addr) (c c' : Nat) (w : World) (hA : AtB S w p e) (hB : AtB S w p' f) :
    Calls Tryd.prog 20 #[.int .i64 o, e.val p c, f.val p' c'] w fun r w' => ∃ q d, r = .returned ((Ex.mk 4 o [] 0 [e, f]).val q d) ∧ AtB (fun b => S b ∨ w.heap.size ≤ b) w' q (.mk 4 o [] 0 [e, f]) ∧ Ext w w' := by
  have hv : e.val p c = .agg #[.int .i64 e.kind, .int .i64 e.op, sV e.name, .int .i64 e.value, .slice p e.args.length c] := rfl
  have hv' : f.val p' c' = .agg #[.int .i64 f.kind, .int .i64 f.op, sV f.name, .int .i64 f.value, .slice p' f.args.length c'] := rfl
  rw [hv, hv']
  obtain ⟨hb1, hb2, hE⟩ := boxes22 w (.int .i64 e.kind) (.int .i64 e.op) (sV e.name) (.int .i64 e.value) (.slice p e.args.length c) (.int .i64 f.kind) (.int .i64 f.op) (sV f.name) (.int .i64 f.value) (.slice p' f.args.length c') (.int .i64 4) (.int .i64 o) (.string { data := #[] }) (.int .i64 0) (.slice (some ⟨w.heap.size + 1 + 1 + 1, 0, none⟩) 2 2) tEx
  have HX := Lib.hid (And.intro hb1 (And.intro hb2 (And.intro hE (And.intro hA hB))))
  clear hb1 hb2 hE hA hB hv hv'
  go_enter Tryd.func20, Tryd.ntmps20
  go_wp2
  obtain ⟨hb1, hb2, hE, hA, hB⟩ := HX.out
  generalize ((((w.alloc (.cells #[.int .i64 e.kind, .int .i64 e.op, sV e.name, .int .i64 e.value, .slice p e.args.length c] tEx)).alloc (.cells #[.int .i64 f.kind, .int .i64 f.op, sV f.name, .int .i64 f.value, .slice p' f.args.length c'] tEx)).alloc (.cells #[.int .i64 4, .int .i64 o, .string { data := #[] }, .int .i64 0, .slice (some ⟨w.heap.size + 1 + 1 + 1, 0, none⟩) 2 2] tEx)).alloc (.cells #[.int .i64 e.kind, .int .i64 e.op, sV e.name, .int .i64 e.value, .slice p e.args.length c, .int .i64 f.kind, .int .i64 f.op, sV f.name, .int .i64 f.value, .slice p' f.args.length c'] tEx)) = W at *
  obtain ⟨m0, m1, m2, m3, m4, _⟩ := box5 hb1
  exact bodyPost_ret (v := .agg #[.int .i64 4, .int .i64 o, .string { data := #[] }, .int .i64 0, .slice (some ⟨w.heap.size + 1 + 1 + 1, 0, none⟩) 2 2]) (by simp [results, Tryd.f20, go_sem, m0, m1, m2, m3, m4, sB_nil]) rfl
    ⟨some ⟨w.heap.size + 1 + 1 + 1, 0, none⟩, 2, by rw [sV_nil]; rfl, ⟨fits_node (.inr rfl) h1 h2 (by simp), ⟨_, _, p, c, rfl, .inr (by omega), ⟨cell_of hb2 rfl, cell_of hb2 rfl, cell_of hb2 rfl, cell_of hb2 rfl, cell_of hb2 rfl⟩, (hA.ext hE).imp fun b hb _ => .inl hb⟩, ⟨_, _, p', c', rfl, .inr (by omega), ⟨cell_of hb2 rfl, cell_of hb2 rfl, cell_of hb2 rfl, cell_of hb2 rfl, cell_of hb2 rfl⟩, (hB.ext hE).imp fun b hb _ => .inl hb⟩, trivial⟩, hE⟩

end Go.Proofs.YtgkalcboklhdgaaDoor

namespace Go.Proofs.YtgkalcboklhdgaaDoor
set_option linter.unusedVariables false
set_option linter.unusedSimpArgs false
open Ex

theorem fe_of {k o : Int} {n : List UInt8} {v : Int} {ts : List Ex} (h1 : pc' k o n v ts.length = 0) (h2 : fes ts = 0) : (Ex.mk k o n v ts).fe = 0 := by
  simp only [Ex.fe]
  rw [if_neg (by simp [h1])]; exact h2
theorem pc_num {n : Int} (h1 : 0 ≤ n) (h2 : n ≤ 1099511627776) : pc' 1 0 [] n 0 = 0 := by
  unfold pc'
  rw [if_neg (by omega), if_neg (by simp [arity]), if_neg (by omega), if_neg (by simp), if_neg (by simp)]
theorem pc_neg : pc' 3 1 [] 0 1 = 0 := by decide
theorem lit_fe {n : Int} (h1 : -1099511627776 ≤ n) (h2 : n ≤ 1099511627776) : (lit n).fe = 0 := by
  unfold lit
  by_cases hn : n < 0
  · rw [if_pos hn]
    refine fe_of pc_neg ?_
    simp only [Ex.fes]
    have : (Ex.mk 1 0 [] (-n) []).fe = 0 := fe_of (pc_num (by omega) (by omega)) rfl
    rw [if_neg (by simp [this])]
  · rw [if_neg hn]
    exact fe_of (pc_num (by omega) h2) rfl
theorem lit_size (n : Int) : (lit n).size = (if n < 0 then 2 else 1) ∧ (lit n).height = (if n < 0 then 2 else 1) := by
  unfold lit
  by_cases hn : n < 0
  · simp only [if_pos hn]; exact ⟨rfl, rfl⟩
  · simp only [if_neg hn]; exact ⟨rfl, rfl⟩
/-- a constant below nought has arguments -/
theorem cst_args {k o : Int} {n : List UInt8} {v : Int} {ts : List Ex} (hfe : (Ex.mk k o n v ts).fe = 0) (hc : (cst (.mk k o n v ts)).2 = true) (hn : (cst (.mk k o n v ts)).1 < 0) : 1 ≤ ts.length := by
  rcases pc_zero (fe_mk hfe).1 with ⟨rfl, rfl, rfl, hm, hv1, hv2⟩ | ⟨rfl, rfl, rfl, hm, hnm⟩ | ⟨rfl, rfl, rfl, hm, ho⟩ | ⟨rfl, rfl, rfl, hm, ho1, ho2⟩
  · have h0 := List.eq_nil_of_length_eq_zero hm
    subst h0
    exfalso
    revert hn
    unfold cst
    by_cases h : ((Ex.mk 1 0 [] v []).ty []).2 ≠ 0 ∨ ((Ex.mk 1 0 [] v []).ty []).1 ≠ 1
    · rw [if_pos h]; simp
    · rw [if_neg h]
      have : ((Ex.mk 1 0 [] v []).ev []).1 = v := by simp [Ex.ev, Ex.evs, evN]
      rw [this]; simp; omega
  · have h0 := List.eq_nil_of_length_eq_zero hm
    subst h0
    exfalso
    revert hc
    have h7 : (Ex.mk 2 0 n 0 []).ty [] = (0, 7) := by simp [Ex.ty, Ex.tys, tyN, fdIs]
    unfold cst
    rw [if_pos (.inl (by rw [h7]; decide))]
    simp
  · omega
  · omega
theorem sizes_pos {ts : List Ex} (h : 1 ≤ ts.length) : 1 ≤ sizes ts ∧ 1 ≤ heights ts := by
  cases ts with
  | nil => simp at h
  | cons t ts =>
    simp only [sizes, heights]
    have := t.size_pos; have := t.height_pos
    omega
mutual
theorem mp_ok : ∀ e : Ex, e.fe = 0 → (mp foldOne e).size ≤ e.size ∧ (mp foldOne e).height ≤ e.height ∧ (mp foldOne e).fe = 0
  | .mk k o n v ts, h => by
    obtain ⟨h1, h2⟩ := fe_mk h
    have hb := cst_bd h
    simp only [mp]
    unfold foldOne
    cases hc : (cst (.mk k o n v ts)).2 with
    | true =>
      simp only [if_true]
      obtain ⟨s1, s2⟩ := lit_size (cst (.mk k o n v ts)).1
      refine ⟨?_, ?_, lit_fe hb.1 hb.2⟩
      · rw [s1]
        by_cases hn : (cst (.mk k o n v ts)).1 < 0
        · rw [if_pos hn]; have := (sizes_pos (cst_args h hc hn)).1; simp only [Ex.size]; omega
        · rw [if_neg hn]; simp only [Ex.size]; omega
      · rw [s2]
        by_cases hn : (cst (.mk k o n v ts)).1 < 0
        · rw [if_pos hn]; have := (sizes_pos (cst_args h hc hn)).2; simp only [Ex.height]; omega
        · rw [if_neg hn]; simp only [Ex.height]; omega
    | false =>
      obtain ⟨g1, g2, g3, g4⟩ := mps_ok ts h2
      simp only [Bool.false_eq_true, if_false]
      refine ⟨?_, ?_, fe_of ?_ g3⟩
      · simp only [Ex.size]; unfold foldOne at g1; omega
      · simp only [Ex.height]; unfold foldOne at g2; omega
      · unfold foldOne at g4; rw [g4]; exact h1
theorem mps_ok : ∀ ts : List Ex, fes ts = 0 → sizes (mps foldOne ts) ≤ sizes ts ∧ heights (mps foldOne ts) ≤ heights ts ∧ fes (mps foldOne ts) = 0 ∧ (mps foldOne ts).length = ts.length
  | [], _ => ⟨Nat.le_refl _, Nat.le_refl _, rfl, rfl⟩
  | t :: ts, h => by
    have ht : t.fe = 0 ∧ fes ts = 0 := by
      simp only [Ex.fes] at h
      by_cases h0 : t.fe = 0
      · rw [if_neg (by simp [h0])] at h; exact ⟨h0, h⟩
      · rw [if_pos h0] at h; exact absurd h h0
    obtain ⟨a1, a2, a3⟩ := mp_ok t ht.1
    obtain ⟨b1, b2, b3, b4⟩ := mps_ok ts ht.2
    simp only [mps, sizes, heights, Ex.fes, List.length_cons]
    refine ⟨by omega, by omega, ?_, by omega⟩
    rw [if_neg (by simp [a3])]; exact b3
end
/-- what Fold returns is checked, or the empty expression -/
theorem fdR_ok (e : Ex) : (fdR e).1 = exZ ∨ (fdR e).1.chk = 0 := by
  unfold fdR
  by_cases h : e.chk = 0
  · rw [if_neg (by simp [h])]
    right
    obtain ⟨h1, h2, h3⟩ := chk_zero h
    obtain ⟨g1, g2, g3⟩ := mp_ok e h3
    show (mp foldOne e).chk = 0
    unfold Ex.chk
    rw [if_neg (by omega), if_neg (by omega)]; exact g3
  · rw [if_pos h]; exact .inl rfl
end Go.Proofs.YtgkalcboklhdgaaDoor

namespace Go.Proofs.YtgkalcboklhdgaaDoor
open Go.RowKit Go.Shelf
set_option linter.unusedVariables false
set_option linter.unusedSimpArgs false
open Ex

abbrev aX : Ex := .mk 2 0 [120] 0 []
abbrev aN (n : Int) : Ex := .mk 1 0 [] n []
abbrev aE1 : Ex := .mk 4 3 [] 0 [aX, aN 1]
abbrev aE2 : Ex := .mk 3 1 [] 0 [aE1]
abbrev aE : Ex := .mk 4 5 [] 0 [aE2, aN 2]
abbrev aF1 : Ex := .mk 4 3 [] 0 [aN 2, aN 3]
abbrev aF : Ex := .mk 4 3 [] 0 [aX, aF1]
abbrev aG : Ex := .mk 4 3 [] 0 [aX, aN 5]
def aDec (n : Int) : List UInt8 := if n = 1 then [49] else [50]
def aTxt : List UInt8 := [45, 40, 120, 32, 43, 32, 49, 41, 32, 42, 32, 50]
theorem aE_pr : prR aDec aE = (aTxt, 0) := by decide +kernel
theorem aE_ev : evR [⟨[120], 1, 4⟩] aE = (-10, 0) := by decide +kernel
theorem aF_fd : fdR aF = (aG, 0) := by kernel_rfl
theorem aG_chk : aG.chk = 0 := by decide +kernel
theorem aE_nums : nums (fun v => v = 1 ∨ v = 2) aE := by simp [nums, nums.numsL]
theorem aE_len : (txt aDec aE).length ≤ 1000000000 := by decide +kernel

theorem GoesG.callW {P : Program} {l : List Oper} {R : World → World → Prop} {Φ : Nat → (Nat → Value) → World → Prop} {i : Nat} {o : Oper} {a' : Act} {W : World} {Q : Exit → Act → World → Prop} (f : FuncId) (args : Array Value) (j : Nat) (g b : Bool) (hg : o.guard = some (j, g)) (hv : sv l a' j = .bool b) (hbg : (b == g) = true) (hrun : (execOp a'.eval o).run P W = .ok (.enter f args) W)
    (hc : Calls P f args W fun e W' => ∃ v, e = .returned v ∧ R W W' ∧ ∀ s : Nat → Value, (o.dst.isSome = true → s i = v) → (∀ k, k ≠ i → ancB l l.length i k = true → s k = sv l a' k) → Φ i s W') : GoesG P l R Φ i o a' W Q := by
  unfold GoesG
  rw [if_pos (by rw [wanted_of hg hv, hbg])]
  unfold Oper.wp
  rw [hrun]
  exact hc.mono fun e W' ⟨v, he, hR, hΦ⟩ => by subst he; exact ⟨v, rfl, hR, hΦ⟩

set_option maxHeartbeats 1000000 in
theorem itoa_1 (w : World) : Calls Tryd.prog 74 #[.int .i64 1] w fun r w' => r = .returned (sV [49]) ∧ w' = w := by
  go_enter Tryd.func74, Tryd.ntmps74
  go_wp2
  go_ret
  exact ⟨rfl, rfl⟩
set_option maxHeartbeats 1000000 in
theorem itoa_2 (w : World) : Calls Tryd.prog 74 #[.int .i64 2] w fun r w' => r = .returned (sV [50]) ∧ w' = w := by
  go_enter Tryd.func74, Tryd.ntmps74
  go_wp2
  go_ret
  exact ⟨rfl, rfl⟩
theorem itoa_12 (v : Int) (w : World) (h : v = 1 ∨ v = 2) : Calls Tryd.prog 74 #[.int .i64 v] w fun r w' => r = .returned (sV (aDec v)) ∧ Ext w w' := by
  rcases h with rfl | rfl
  · exact (itoa_1 w).mono fun e w' h => ⟨h.1, by rw [h.2]; exact Below.refl _ _⟩
  · exact (itoa_2 w).mono fun e w' h => ⟨h.1, by rw [h.2]; exact Below.refl _ _⟩

theorem box5z {W : World} {B : Nat} {a0 a1 a2 a3 a4 : Value} {T : TypeId} (h : W.heap[B]? = some (.cells #[a0, a1, a2, a3, a4] T (0, 0))) :
    W.cell? ⟨B, 0, none⟩ = some a0 ∧ W.cell? ⟨B, 1, none⟩ = some a1 ∧ W.cell? ⟨B, 2, none⟩ = some a2 ∧ W.cell? ⟨B, 3, none⟩ = some a3 ∧ W.cell? ⟨B, 4, none⟩ = some a4 ∧ True :=
  ⟨cell_of h rfl, cell_of h rfl, cell_of h rfl, cell_of h rfl, cell_of h rfl, trivial⟩
theorem fitX : fits aX := ⟨⟨by decide, by decide⟩, ⟨by decide, by decide⟩, by decide, ⟨by decide, by decide⟩, by decide⟩
/-- the values of the last region -/
def awV (qG : Option Addr) (dG : Nat) : Nat → Value → Prop
  | 0, x => x = .int .i64 0
  | 1, x => x = .bool true
  | 2, x => x = .bool true
  | 3, x => x = .int .i64 0
  | 4, x => x = .bool true
  | 5, x => x = .bool true
  | 6, x => x = .bool true
  | 7, x => x = .int .i64 0
  | 8, x => x = .bool true
  | 9, x => x = .bool true
  | 10, x => x = .bool true
  | 11, x => x = sV aTxt
  | 12, x => x = .bool true
  | 13, x => x = .bool true
  | 14, x => x = .bool true
  | 15, x => x = .int .i64 (-10)
  | 16, x => x = .bool true
  | 17, x => x = .bool true
  | 18, x => x = .bool true
  | 19, x => x = .agg #[.int .i64 4, .int .i64 3, sV [], .int .i64 0, .slice qG 2 dG]
  | 20, x => x = aX.val none 0
  | 21, x => x = (aN 5).val none 0
  | 23, x => x = .bool true
  | 24, x => x = .bool true
  | 25, x => x = .bool true
  | _, _ => True
def awR (qG : Option Addr) (dG : Nat) (i : Nat) (s : Nat → Value) (W : World) : Prop :=
  if i = 22 then ∃ q d, s 22 = aG.val q d ∧ Ex.At W q aG else awV qG dG i (s i)
theorem awR_st (qG : Option Addr) (dG : Nat) : ∀ i s s' W W', awR qG dG i s W → (∀ j ∈ [i], s' j = s j) → Ext W W' → awR qG dG i s' W' := by
  intro i s s' W W' h hs hG
  unfold awR at h ⊢
  by_cases e : i = 22
  · rw [if_pos e] at h ⊢
    obtain ⟨q, d, h1, h2⟩ := h
    exact ⟨q, d, (by rw [e] at hs; exact (hs 22 (by simp)).trans h1), h2.below hG⟩
  · rw [if_neg e] at h ⊢
    rw [hs i (by simp)]; exact h
theorem n26 {α : Type} (fs : List α) (h : fs.length = 26) : ∃ x0 x1 x2 x3 x4 x5 x6 x7 x8 x9 x10 x11 x12 x13 x14 x15 x16 x17 x18 x19 x20 x21 x22 x23 x24 x25, fs = [x0, x1, x2, x3, x4, x5, x6, x7, x8, x9, x10, x11, x12, x13, x14, x15, x16, x17, x18, x19, x20, x21, x22, x23, x24, x25] := by
  match fs, h with
  | [x0, x1, x2, x3, x4, x5, x6, x7, x8, x9, x10, x11, x12, x13, x14, x15, x16, x17, x18, x19, x20, x21, x22, x23, x24, x25], _ => exact ⟨x0, x1, x2, x3, x4, x5, x6, x7, x8, x9, x10, x11, x12, x13, x14, x15, x16, x17, x18, x19, x20, x21, x22, x23, x24, x25, rfl⟩

theorem Print_aE (q : Option Addr) (d : Nat) (W : World) (hA : Ex.At W q aE) : Gives Tryd.prog 34 #[.agg #[.int .i64 4, .int .i64 5, sV [], .int .i64 0, .slice q 2 d]] W (.tuple #[sV aTxt, .int .i64 0]) := by
  have h := Print_any (fun v => v = 1 ∨ v = 2) aDec itoa_12 aE (fun _ => ⟨aE_nums, aE_len⟩) q d W hA
  rw [aE_pr] at h
  exact h
theorem Eval_aE (q : Option Addr) (d : Nat) (pb : Option Addr) (cb : Nat) (W : World) (hA : Ex.At W q aE) (hB : BAt W pb [⟨[120], 1, 4⟩]) : Gives Tryd.prog 13 #[.agg #[.int .i64 4, .int .i64 5, sV [], .int .i64 0, .slice q 2 d], .slice pb 1 cb] W (.tuple #[.int .i64 (-10), .int .i64 0]) := by
  have h := Eval_any [⟨[120], 1, 4⟩] pb cb aE q d W hA hB
  rw [aE_ev] at h
  exact h
theorem Fold_aF (q : Option Addr) (d : Nat) (W : World) (hA : Ex.At W q aF) : Calls Tryd.prog 23 #[aF.val q d] W fun r w' => ∃ q d, r = .returned (.tuple #[.agg #[.int .i64 4, .int .i64 3, sV [], .int .i64 0, .slice q 2 d], .int .i64 0]) ∧ Ex.At w' q aG ∧ Ext W w' := by
  have h := Fold_of aF q d W hA
  rw [aF_fd] at h
  exact h.mono fun r w' ⟨a, q, d, b, c⟩ => ⟨q, d, b, c, a⟩
theorem BAt_x4 {W : World} {g : Nat} {T : TypeId} {f : Nat × Nat} (h : W.heap[g]? = some (.cells #[sV [120], .int .i64 1, .int .i64 4] T f)) : BAt W (some ⟨g, 0, none⟩) [⟨[120], 1, 4⟩] := by
  refine ⟨⟨by simp, fun b hb => ?_⟩, fun j hj => ?_⟩
  · obtain rfl : b = ⟨[120], 1, 4⟩ := by simpa using hb
    exact ⟨by decide, ⟨by decide, by decide⟩, ⟨by decide, by decide⟩⟩
  · obtain rfl : j = 0 := by simpa using hj
    exact ⟨g, 0, rfl, cell_of h rfl, cell_of h rfl, cell_of h rfl⟩

set_option maxRecDepth 100000 in
set_option maxHeartbeats 8000000 in
theorem awake_any (w : World) : Gives Tryd.prog 10 #[] w (.bool true) := by
  unfold Gives
  go_enter Tryd.func10, Tryd.ntmps10
  have HX0 := Lib.hid (show Ext w w from Below.refl _ _)
  go_wp2_with fail
  refine (show Calls _ _ #[.string ⟨#[120]⟩] _ _ from nam_any [120] _).mono ?_
  rintro _ w1 ⟨rfl, hE⟩
  have HX1 := Lib.hid (Ext.trans HX0.out hE)
  clear hE
  go_wp2_with fail
  refine (num_any 1 _).mono ?_
  rintro _ w2 ⟨rfl, hE⟩
  have HX2 := Lib.hid (Ext.trans HX1.out hE)
  clear hE
  go_wp2_with fail
  refine (binary_any (fun _ => True) 3 (by decide) (by decide) aX (aN 1) none none 0 0 _ (AtB_leaf _ _ _ fitX) (AtB_leaf _ _ _ (fits_num 1 (by decide) (by decide)))).mono ?_
  rintro _ w3 ⟨q3, d3, rfl, hA, hE⟩
  have HA3 := Lib.hid (hA.imp (S' := fun _ => True) fun _ _ _ => trivial)
  clear hA
  have HX3 := Lib.hid (Ext.trans HX2.out hE)
  clear hE
  go_wp2_with fail
  refine (unary_any (fun _ => True) 1 (by decide) (by decide) aE1 q3 d3 _ HA3.out).mono ?_
  rintro _ w4 ⟨q4, d4, rfl, hA, hE⟩
  have HA4 := Lib.hid (hA.imp (S' := fun _ => True) fun _ _ _ => trivial)
  clear hA
  have HX4 := Lib.hid (Ext.trans HX3.out hE)
  clear hE
  go_wp2_with fail
  refine (num_any 2 _).mono ?_
  rintro _ w5 ⟨rfl, hE⟩
  have HA5 := Lib.hid (HA4.out.ext hE)
  have HX5 := Lib.hid (Ext.trans HX4.out hE)
  clear hE
  go_wp2_with fail
  refine (binary_any (fun _ => True) 5 (by decide) (by decide) aE2 (aN 2) q4 none d4 0 _ HA5.out (AtB_leaf _ _ _ (fits_num 2 (by decide) (by decide)))).mono ?_
  rintro _ w6 ⟨q6, d6, rfl, hA, hE⟩
  have HA6 := Lib.hid hA.at
  clear hA
  have HX6 := Lib.hid (Ext.trans HX5.out hE)
  clear hE
  rw [show aE.val q6 d6 = .agg #[.int .i64 4, .int .i64 5, sV [], .int .i64 0, .slice q6 2 d6] from rfl]
  have hb := alloc_here w6 (.cells #[.int .i64 4, .int .i64 5, sV [], .int .i64 0, .slice q6 2 d6] tEx)
  have hE : Ext w6 _ := (Below.refl w6.heap.size w6).alloc (Nat.le_refl _) (.cells #[.int .i64 4, .int .i64 5, sV [], .int .i64 0, .slice q6 2 d6] tEx)
  have HB7 := Lib.hid hb
  have HA7 := Lib.hid (HA6.out.below hE)
  have HX7 := Lib.hid (Ext.trans HX6.out hE)
  clear hb hE
  obtain ⟨b0, b1, b2, b3, b4, z⟩ := box5z HB7.out
  go_wp2_with fail
  refine (Print_aE q6 d6 _ HA7.out).mono ?_
  intro w8 hE
  replace hE : Ext _ w8 := hE
  have HB8 := Lib.hid ((hE.below.block _ (lt_of_block HB7.out)).trans HB7.out)
  have HA8 := Lib.hid (HA7.out.below hE)
  have HX8 := Lib.hid (Ext.trans HX7.out hE)
  clear hE b0 b1 b2 b3 b4 z
  obtain ⟨b0, b1, b2, b3, b4, z⟩ := box5z HB8.out
  have hlt8 := lt_of_block HB8.out
  have hE9 : Ext w8 (w8.alloc (.cells #[.string ⟨#[120]⟩, .int .i64 1, .int .i64 4] 36)) := (Below.refl _ _).alloc (Nat.le_refl _) _
  have HC9 := Lib.hid (alloc_here w8 (.cells #[.string ⟨#[120]⟩, .int .i64 1, .int .i64 4] 36))
  have HA9 := Lib.hid (HA8.out.below hE9)
  have HX9 := Lib.hid (Ext.trans HX8.out hE9)
  clear hE9
  go_wp2_with fail
  refine (Eval_aE q6 d6 _ _ _ HA9.out (BAt_x4 HC9.out)).mono ?_
  intro w10 hE
  have HX10 := Lib.hid (Ext.trans HX9.out hE)
  clear hE b0 b1 b2 b3 b4 z hlt8 HA9 HC9 HX9 HA8 HB8 HX8 HA7 HB7 HX7
  go_wp2_with fail
  refine (show Calls _ _ #[.string ⟨#[120]⟩] _ _ from nam_any [120] _).mono ?_
  rintro _ w11 ⟨rfl, hE⟩
  have HX11 := Lib.hid (Ext.trans HX10.out hE)
  clear hE
  go_wp2_with fail
  refine (num_any 2 _).mono ?_
  rintro _ w12 ⟨rfl, hE⟩
  have HX12 := Lib.hid (Ext.trans HX11.out hE)
  clear hE
  go_wp2_with fail
  refine (num_any 3 _).mono ?_
  rintro _ w13 ⟨rfl, hE⟩
  have HX13 := Lib.hid (Ext.trans HX12.out hE)
  clear hE
  go_wp2_with fail
  refine (binary_any (fun _ => True) 3 (by decide) (by decide) (aN 2) (aN 3) none none 0 0 _ (AtB_leaf _ _ _ (fits_num 2 (by decide) (by decide))) (AtB_leaf _ _ _ (fits_num 3 (by decide) (by decide)))).mono ?_
  rintro _ w14 ⟨q14, d14, rfl, hA, hE⟩
  have HA14 := Lib.hid (hA.imp (S' := fun _ => True) fun _ _ _ => trivial)
  clear hA
  have HX14 := Lib.hid (Ext.trans HX13.out hE)
  clear hE
  go_wp2_with fail
  refine (binary_any (fun _ => True) 3 (by decide) (by decide) aX aF1 none q14 0 d14 _ (AtB_leaf _ _ _ fitX) HA14.out).mono ?_
  rintro _ w15 ⟨q15, d15, rfl, hA, hE⟩
  have HA15 := Lib.hid hA.at
  clear hA
  have HX15 := Lib.hid (Ext.trans HX14.out hE)
  clear hE
  go_wp2_with fail
  refine (Fold_aF q15 d15 _ HA15.out).mono ?_
  rintro _ w16 ⟨qG, dG, rfl, hAG, hE⟩
  have HX16 := Lib.hid (Ext.trans HX15.out hE)
  clear hE
  have hb6 := alloc_here w16 (.cells #[.int .i64 4, .int .i64 3, sV [], .int .i64 0, .slice qG 2 dG] tEx)
  have hE : Ext w16 _ := (Below.refl w16.heap.size w16).alloc (Nat.le_refl _) (.cells #[.int .i64 4, .int .i64 3, sV [], .int .i64 0, .slice qG 2 dG] tEx)
  replace hAG := hAG.below hE
  have HX := Lib.hid (Ext.trans HX16.out hE)
  have HG6 := Lib.hid (And.intro hb6 hAG)
  clear hb6 hAG hE
  go_wp2_with fail
  obtain ⟨hb6, hAG⟩ := HG6.out
  generalize w16.alloc (.cells #[.int .i64 4, .int .i64 3, sV [], .int .i64 0, .slice qG 2 dG] tEx) = w17 at *
  generalize w16.heap.size = g6 at *
  have hltx := lt_of_block hb6
  refine wp_region_g (by kernel_rfl) Ext (fun W => show Below W.heap.size W { W with drawn := W.drawn + 1 } from ⟨rfl, rfl, rfl, Nat.le_refl _, fun _ _ => rfl⟩) Ext.trans (awR qG dG) (fun j => [j]) (awR_st _ _) (by kernel_rfl) (by kernel_rfl) (by kernel_rfl) 60 rfl (by kernel_rfl) ?_ ?_
  · intro i op ho a' W hA
    obtain ⟨x0, x1, x2, x3, x4, _⟩ := box5 ((hA.rel.below.block _ hltx).trans hb6)
    have hsq : ((sB aTxt).toList == (ByteArray.mk #[45, 40, 120, 32, 43, 32, 49, 41, 32, 42, 32, 50]).toList) = true := by decide +kernel
    match i, ho with
    | 0, ho =>
      obtain rfl := Option.some.inj ho
      have e1 : a'.eval (.tmp 3) = .int .i64 0 := hA.keep 3 (by kernel_rfl)
      refine GoesG.value (.int .i64 0) rfl ?_ (Below.refl _ _) (fun s h1 h2 => h1 rfl)
      simp only [execOp, e1]
      simp [go_sem, x0, x1, x2, x3, x4, hsq]
    | 1, ho =>
      obtain rfl := Option.some.inj ho
      have e1 : a'.eval (.tmp 35) = .int .i64 0 := (sv_dst (l := _) rfl).symm.trans (hA.new 0 (by decide) (by kernel_rfl))
      refine GoesG.value (.bool true) rfl ?_ (Below.refl _ _) (fun s h1 h2 => h1 rfl)
      simp only [execOp, e1]
      simp [go_sem, x0, x1, x2, x3, x4, hsq]
    | 2, ho =>
      obtain rfl := Option.some.inj ho
      have e1 : a'.eval (.tmp 36) = .bool true := (sv_dst (l := _) rfl).symm.trans (hA.new 1 (by decide) (by kernel_rfl))
      refine GoesG.value (.bool true) rfl ?_ (Below.refl _ _) (fun s h1 h2 => h1 rfl)
      simp only [execOp, e1]
      simp [go_sem, x0, x1, x2, x3, x4, hsq]
    | 3, ho =>
      obtain rfl := Option.some.inj ho
      have hg := hA.new 2 (by decide) (by kernel_rfl)
      have e1 : a'.eval (.tmp 5) = .int .i64 0 := hA.keep 5 (by kernel_rfl)
      refine GoesG.valueW (.int .i64 0) 2 true true rfl hg rfl ?_ (Below.refl _ _) (fun s h1 h2 => h1 rfl)
      simp only [execOp, e1]
      simp [go_sem, x0, x1, x2, x3, x4, hsq]
    | 4, ho =>
      obtain rfl := Option.some.inj ho
      have hg := hA.new 2 (by decide) (by kernel_rfl)
      have e1 : a'.eval (.tmp 38) = .int .i64 0 := (sv_dst (l := _) rfl).symm.trans (hA.new 3 (by decide) (by kernel_rfl))
      refine GoesG.valueW (.bool true) 2 true true rfl hg rfl ?_ (Below.refl _ _) (fun s h1 h2 => h1 rfl)
      simp only [execOp, e1]
      simp [go_sem, x0, x1, x2, x3, x4, hsq]
    | 5, ho =>
      obtain rfl := Option.some.inj ho
      have e1 : a'.eval (.tmp 37) = .bool true := (sv_dst (l := _) rfl).symm.trans (hA.new 2 (by decide) (by kernel_rfl))
      have e2 : a'.eval (.tmp 39) = .bool true := (sv_dst (l := _) rfl).symm.trans (hA.new 4 (by decide) (by kernel_rfl))
      refine GoesG.value (.bool true) rfl ?_ (Below.refl _ _) (fun s h1 h2 => h1 rfl)
      simp only [execOp, e1, e2]
      simp [go_sem, x0, x1, x2, x3, x4, hsq]
    | 6, ho =>
      obtain rfl := Option.some.inj ho
      have e1 : a'.eval (.tmp 40) = .bool true := (sv_dst (l := _) rfl).symm.trans (hA.new 5 (by decide) (by kernel_rfl))
      refine GoesG.value (.bool true) rfl ?_ (Below.refl _ _) (fun s h1 h2 => h1 rfl)
      simp only [execOp, e1]
      simp [go_sem, x0, x1, x2, x3, x4, hsq]
    | 7, ho =>
      obtain rfl := Option.some.inj ho
      have hg := hA.new 6 (by decide) (by kernel_rfl)
      have e1 : a'.eval (.tmp 7) = .int .i64 0 := hA.keep 7 (by kernel_rfl)
      refine GoesG.valueW (.int .i64 0) 6 true true rfl hg rfl ?_ (Below.refl _ _) (fun s h1 h2 => h1 rfl)
      simp only [execOp, e1]
      simp [go_sem, x0, x1, x2, x3, x4, hsq]
    | 8, ho =>
      obtain rfl := Option.some.inj ho
      have hg := hA.new 6 (by decide) (by kernel_rfl)
      have e1 : a'.eval (.tmp 42) = .int .i64 0 := (sv_dst (l := _) rfl).symm.trans (hA.new 7 (by decide) (by kernel_rfl))
      refine GoesG.valueW (.bool true) 6 true true rfl hg rfl ?_ (Below.refl _ _) (fun s h1 h2 => h1 rfl)
      simp only [execOp, e1]
      simp [go_sem, x0, x1, x2, x3, x4, hsq]
    | 9, ho =>
      obtain rfl := Option.some.inj ho
      have e1 : a'.eval (.tmp 41) = .bool true := (sv_dst (l := _) rfl).symm.trans (hA.new 6 (by decide) (by kernel_rfl))
      have e2 : a'.eval (.tmp 43) = .bool true := (sv_dst (l := _) rfl).symm.trans (hA.new 8 (by decide) (by kernel_rfl))
      refine GoesG.value (.bool true) rfl ?_ (Below.refl _ _) (fun s h1 h2 => h1 rfl)
      simp only [execOp, e1, e2]
      simp [go_sem, x0, x1, x2, x3, x4, hsq]
    | 10, ho =>
      obtain rfl := Option.some.inj ho
      have e1 : a'.eval (.tmp 44) = .bool true := (sv_dst (l := _) rfl).symm.trans (hA.new 9 (by decide) (by kernel_rfl))
      refine GoesG.value (.bool true) rfl ?_ (Below.refl _ _) (fun s h1 h2 => h1 rfl)
      simp only [execOp, e1]
      simp [go_sem, x0, x1, x2, x3, x4, hsq]
    | 11, ho =>
      obtain rfl := Option.some.inj ho
      have hg := hA.new 10 (by decide) (by kernel_rfl)
      have e1 : a'.eval (.tmp 2) = sV aTxt := hA.keep 2 (by kernel_rfl)
      refine GoesG.valueW (sV aTxt) 10 true true rfl hg rfl ?_ (Below.refl _ _) (fun s h1 h2 => h1 rfl)
      simp only [execOp, e1]
      simp [go_sem, x0, x1, x2, x3, x4, hsq]
    | 12, ho =>
      obtain rfl := Option.some.inj ho
      have hg := hA.new 10 (by decide) (by kernel_rfl)
      have e1 : a'.eval (.tmp 46) = sV aTxt := (sv_dst (l := _) rfl).symm.trans (hA.new 11 (by decide) (by kernel_rfl))
      refine GoesG.valueW (.bool true) 10 true true rfl hg rfl ?_ (Below.refl _ _) (fun s h1 h2 => h1 rfl)
      simp only [execOp, e1]
      simp [go_sem]
      rfl
    | 13, ho =>
      obtain rfl := Option.some.inj ho
      have e1 : a'.eval (.tmp 45) = .bool true := (sv_dst (l := _) rfl).symm.trans (hA.new 10 (by decide) (by kernel_rfl))
      have e2 : a'.eval (.tmp 47) = .bool true := (sv_dst (l := _) rfl).symm.trans (hA.new 12 (by decide) (by kernel_rfl))
      refine GoesG.value (.bool true) rfl ?_ (Below.refl _ _) (fun s h1 h2 => h1 rfl)
      simp only [execOp, e1, e2]
      simp [go_sem, x0, x1, x2, x3, x4, hsq]
    | 14, ho =>
      obtain rfl := Option.some.inj ho
      have e1 : a'.eval (.tmp 48) = .bool true := (sv_dst (l := _) rfl).symm.trans (hA.new 13 (by decide) (by kernel_rfl))
      refine GoesG.value (.bool true) rfl ?_ (Below.refl _ _) (fun s h1 h2 => h1 rfl)
      simp only [execOp, e1]
      simp [go_sem, x0, x1, x2, x3, x4, hsq]
    | 15, ho =>
      obtain rfl := Option.some.inj ho
      have hg := hA.new 14 (by decide) (by kernel_rfl)
      have e1 : a'.eval (.tmp 4) = .int .i64 (-10) := hA.keep 4 (by kernel_rfl)
      refine GoesG.valueW (.int .i64 (-10)) 14 true true rfl hg rfl ?_ (Below.refl _ _) (fun s h1 h2 => h1 rfl)
      simp only [execOp, e1]
      simp [go_sem, x0, x1, x2, x3, x4, hsq]
    | 16, ho =>
      obtain rfl := Option.some.inj ho
      have hg := hA.new 14 (by decide) (by kernel_rfl)
      have e1 : a'.eval (.tmp 50) = .int .i64 (-10) := (sv_dst (l := _) rfl).symm.trans (hA.new 15 (by decide) (by kernel_rfl))
      refine GoesG.valueW (.bool true) 14 true true rfl hg rfl ?_ (Below.refl _ _) (fun s h1 h2 => h1 rfl)
      simp only [execOp, e1]
      simp [go_sem, x0, x1, x2, x3, x4, hsq]
    | 17, ho =>
      obtain rfl := Option.some.inj ho
      have e1 : a'.eval (.tmp 49) = .bool true := (sv_dst (l := _) rfl).symm.trans (hA.new 14 (by decide) (by kernel_rfl))
      have e2 : a'.eval (.tmp 51) = .bool true := (sv_dst (l := _) rfl).symm.trans (hA.new 16 (by decide) (by kernel_rfl))
      refine GoesG.value (.bool true) rfl ?_ (Below.refl _ _) (fun s h1 h2 => h1 rfl)
      simp only [execOp, e1, e2]
      simp [go_sem, x0, x1, x2, x3, x4, hsq]
    | 18, ho =>
      obtain rfl := Option.some.inj ho
      have e1 : a'.eval (.tmp 52) = .bool true := (sv_dst (l := _) rfl).symm.trans (hA.new 17 (by decide) (by kernel_rfl))
      refine GoesG.value (.bool true) rfl ?_ (Below.refl _ _) (fun s h1 h2 => h1 rfl)
      simp only [execOp, e1]
      simp [go_sem, x0, x1, x2, x3, x4, hsq]
    | 19, ho =>
      obtain rfl := Option.some.inj ho
      have hg := hA.new 18 (by decide) (by kernel_rfl)
      have e1 : a'.eval (.tmp 6) = .pointer (some ⟨g6, 0, none⟩) := hA.keep 6 (by kernel_rfl)
      refine GoesG.valueW (.agg #[.int .i64 4, .int .i64 3, sV [], .int .i64 0, .slice qG 2 dG]) 18 true true rfl hg rfl ?_ (Below.refl _ _) (fun s h1 h2 => h1 rfl)
      simp only [execOp, e1]
      simp [go_sem, x0, x1, x2, x3, x4, hsq]
    | 20, ho =>
      obtain rfl := Option.some.inj ho
      have hg := hA.new 18 (by decide) (by kernel_rfl)
      refine GoesG.callW 19 #[sV [120]] 18 true true rfl hg rfl ?_ ((nam_any [120] W).mono ?_)
      · simp [execOp, resolve, invoke, Deferred.ofValue]
        rfl
      · rintro e W1 ⟨rfl, hE⟩
        exact ⟨_, rfl, hE, fun s h1 h2 => h1 rfl⟩
    | 21, ho =>
      obtain rfl := Option.some.inj ho
      have hg := hA.new 18 (by decide) (by kernel_rfl)
      refine GoesG.callW 33 #[.int .i64 5] 18 true true rfl hg rfl ?_ ((num_any 5 W).mono ?_)
      · simp [execOp, resolve, invoke, Deferred.ofValue]
        rfl
      · rintro e W1 ⟨rfl, hE⟩
        exact ⟨_, rfl, hE, fun s h1 h2 => h1 rfl⟩
    | 22, ho =>
      obtain rfl := Option.some.inj ho
      have hg := hA.new 18 (by decide) (by kernel_rfl)
      have e1 : a'.eval (.tmp 55) = aX.val none 0 := (sv_dst (l := _) rfl).symm.trans (hA.new 20 (by decide) (by kernel_rfl))
      have e2 : a'.eval (.tmp 56) = (aN 5).val none 0 := (sv_dst (l := _) rfl).symm.trans (hA.new 21 (by decide) (by kernel_rfl))
      refine GoesG.callW 20 #[.int .i64 3, aX.val none 0, (aN 5).val none 0] 18 true true rfl hg rfl ?_ ((binary_any (fun _ => True) 3 (by decide) (by decide) aX (aN 5) none none 0 0 W (AtB_leaf _ _ _ fitX) (AtB_leaf _ _ _ (fits_num 5 (by decide) (by decide)))).mono ?_)
      · simp [execOp, resolve, invoke, Deferred.ofValue, e1, e2]
        rfl
      · rintro e W1 ⟨q, d, rfl, hA2, hE⟩
        exact ⟨_, rfl, hE, fun s h1 h2 => ⟨q, d, h1 rfl, hA2.at⟩⟩
    | 23, ho =>
      obtain rfl := Option.some.inj ho
      have hg := hA.new 18 (by decide) (by kernel_rfl)
      obtain ⟨q, d, e0, hA2⟩ := hA.new 22 (by decide) (by kernel_rfl)
      have e1 : a'.eval (.tmp 54) = .agg #[.int .i64 4, .int .i64 3, sV [], .int .i64 0, .slice qG 2 dG] := (sv_dst (l := _) rfl).symm.trans (hA.new 19 (by decide) (by kernel_rfl))
      have e2 : a'.eval (.tmp 57) = aG.val q d := (sv_dst (l := _) rfl).symm.trans e0
      refine GoesG.callW 35 #[aG.val qG dG, aG.val q d] 18 true true rfl hg rfl ?_ ((Equal_refl aG aG_chk qG q dG d W (hAG.below hA.rel) hA2).mono ?_)
      · simp [execOp, resolve, invoke, Deferred.ofValue, e1, e2]
        rfl
      · intro W1 hE
        exact ⟨_, rfl, hE, fun s h1 h2 => h1 rfl⟩
    | 24, ho =>
      obtain rfl := Option.some.inj ho
      have e1 : a'.eval (.tmp 53) = .bool true := (sv_dst (l := _) rfl).symm.trans (hA.new 18 (by decide) (by kernel_rfl))
      have e2 : a'.eval (.tmp 58) = .bool true := (sv_dst (l := _) rfl).symm.trans (hA.new 23 (by decide) (by kernel_rfl))
      refine GoesG.value (.bool true) rfl ?_ (Below.refl _ _) (fun s h1 h2 => h1 rfl)
      simp only [execOp, e1, e2]
      simp [go_sem, x0, x1, x2, x3, x4, hsq]
    | 25, ho =>
      obtain rfl := Option.some.inj ho
      have e1 : a'.eval (.tmp 59) = .bool true := (sv_dst (l := _) rfl).symm.trans (hA.new 24 (by decide) (by kernel_rfl))
      refine GoesG.value (.bool true) rfl ?_ (Below.refl _ _) (fun s h1 h2 => h1 rfl)
      simp only [execOp, e1]
      simp [go_sem, x0, x1, x2, x3, x4, hsq]
    | i + 26, ho => cases ho
  · intro vs W hvs hG hΦ
    obtain ⟨u0, u1, u2, u3, u4, u5, u6, u7, u8, u9, u10, u11, u12, u13, u14, u15, u16, u17, u18, u19, u20, u21, u22, u23, u24, u25, rfl⟩ := n26 vs hvs
    have hu : u25 = .bool true := hΦ 25 (by decide)
    subst hu
    have HG := Lib.hid hG
    clear hΦ hG hvs
    simp only [putAll, Act.put, List.setIfInBounds_toArray, List.set_cons_succ, List.set_cons_zero]
    go_wp2
    go_ret
    exact ⟨rfl, Ext.trans HX.out HG.out⟩

end Go.Proofs.YtgkalcboklhdgaaDoor

namespace Go.Proofs.YtgkalcboklhdgaaDoor
open Go.RowKit Go.ChangeShapes Go.WideShapes Go.Deep Go.Joins
set_option linter.unusedVariables false
set_option linter.unusedSimpArgs false

theorem weights_all_mem {H : Type} {P : Program} {e : TypeId} : ∀ {ds : List (DataW H)} {d : DataW H}, d ∈ ds → ∀ n ∈ d.weights P e, n ∈ DataW.weightsAll P e ds
  | d0 :: ds, d, hd, n, hn => by
    simp only [DataW.weightsAll, List.mem_append]
    rcases List.mem_cons.1 hd with rfl | hd
    · exact .inl hn
    · exact .inr (weights_all_mem hd n hn)
  | [], _, hd, _, _ => by cases hd
theorem add_zero {a : Addr} {w : World} {v : Value} (h : w.cell? (a.add 0) = some v) : a = ⟨a.block, a.off, none⟩ := by
  obtain ⟨b, o, s⟩ := a
  have hs : s = none := World.cell?_spot (a := ⟨b, o, s⟩) (by simpa [Addr.add] using h)
  rw [hs]
theorem add_cell {a : Addr} {j : Nat} {w : World} {v : Value} (h : w.cell? (a.add j) = some v) : w.cell? ⟨a.block, a.off + j, none⟩ = some v := by
  by_cases h0 : j = 0
  · subst h0
    have h1 := add_zero h
    rw [h1] at h
    simpa [Addr.add] using h
  · unfold Addr.add at h
    rw [if_neg h0] at h
    exact h
theorem cells_at {w : World} {base : Nat} {a : Addr} {n : Nat} {cs : List Value} (h : w.cells? base a n = some cs) : ∀ j v, j < n → cs[j]? = some v → w.cell? (a.add j) = some v := by
  intro j v hj hv
  obtain ⟨_, _, hat⟩ := World.cells?_some h
  exact (hat j hj).trans hv

theorem exCells : Tryd.prog.cellsOf 24 = 5 := by kernel_rfl
theorem exBytes : Tryd.prog.bytesOf 24 = 64 := by kernel_rfl
theorem intCells : Tryd.prog.cellsOf 3 = 1 := by kernel_rfl
theorem strCells1 : Tryd.prog.cellsOf 9 = 1 := by kernel_rfl
theorem exsCells : Tryd.prog.cellsOf 22 = 1 := by kernel_rfl

set_option maxRecDepth 100000 in
set_option maxHeartbeats 1000000 in
theorem open_exT {H : Type} {enc : TypeId × Value → H} (W : World) (base : Nat) (sp : Nat → Bool) (hd : Bool) : ∀ (fuel : Nat) (cs : List Value) (x : DataW H × List MemPlace),
    DataW.trod enc Tryd.prog W base sp hd fuel 24 cs = some x → (∀ n ∈ x.1.weights Tryd.prog 24, n ≤ reachBytes) →
    ∃ r : XE, cs = ec r ∧ Ex.AtB (fun _ => True) W r.2.1 r.1 := by
  intro fuel
  induction fuel using Nat.strongRecOn with
  | _ fuel ih =>
    intro cs x h hw
    obtain ⟨xs, n, hn, rfl, hl, hlen, hf⟩ := DataW.trod_struct Tryd.underlying24 h
    rw [exCells] at hl
    match cs, hl, xs, hlen with
    | [c0, c1, c2, c3, c4], _, [y0, y1, y2, y3, y4], _ =>
      have h0 : DataW.trod enc Tryd.prog W base sp hd n 3 [c0] = some y0 := by simpa [intCells] using hf 0 _ rfl
      have h1 : DataW.trod enc Tryd.prog W base sp hd n 3 [c1] = some y1 := by simpa [intCells] using hf 1 _ rfl
      have h2 : DataW.trod enc Tryd.prog W base sp hd n 9 [c2] = some y2 := by simpa [strCells1] using hf 2 _ rfl
      have h3 : DataW.trod enc Tryd.prog W base sp hd n 3 [c3] = some y3 := by simpa [intCells] using hf 3 _ rfl
      have h4 : DataW.trod enc Tryd.prog W base sp hd n 22 [c4] = some y4 := by simpa [exsCells] using hf 4 _ rfl
      simp only [DataW.weights, Tryd.underlying24, List.map_cons, List.map_nil, DataW.weightsEach, List.mem_append] at hw
      obtain ⟨k, hk, rfl, wk⟩ := DataW.trod_int Tryd.underlying3 h0
      obtain ⟨o, ho, rfl, wo⟩ := DataW.trod_int Tryd.underlying3 h1
      obtain ⟨s, hs, rfl, ws⟩ := DataW.trod_string Tryd.underlying9 h2
      obtain ⟨v, hv, rfl, wv⟩ := DataW.trod_int Tryd.underlying3 h3
      cases hk; cases ho; cases hs; cases hv
      obtain ⟨nm, rfl⟩ := sB_of s
      rw [sB_data] at hw
      have hnm : nm.length ≤ reachBytes := hw _ (.inr (.inr (.inl (by simp [DataW.weights]))))
      have hnm : nm.length ≤ 140737488355328 := by unfold reachBytes at hnm; omega
      rcases DataW.trod_slice Tryd.underlying22 h4 with ⟨hc, rfl⟩ | ⟨a, len, cap, elems, rest, n', hn', hc, rfl, hb, hl, hm, hel, hat, _, _⟩
      · cases hc
        exact ⟨(.mk k o nm v [], none, 0), rfl, ⟨i64_bd wk, i64_bd wo, hnm, i64_bd wv, by simp [Ex.args]⟩, trivial⟩
      · cases hc
        have hwl : (elems.length + rest.length) * 64 ≤ reachBytes := by
          have := hw ((elems.length + rest.length) * Tryd.prog.bytesOf 24) (.inr (.inr (.inr (.inr (.inl (by simp [DataW.weights, Tryd.underlying22]))))))
          rwa [exBytes] at this
        have hlen : len ≤ 2199023255488 := by unfold reachBytes at hwl; omega
        have hE : ∀ i, i < len → ∃ r : XE, (∀ j u, (ec r)[j]? = some u → W.cell? (a.add (i * 5 + j)) = some u) ∧ Ex.AtB (fun _ => True) W r.2.1 r.1 := by
          intro i hi
          have hx := hat i hi
          rw [exCells, List.getElem?_eq_getElem (by omega)] at hx
          obtain ⟨cs', hcs, hx⟩ := Option.bind_eq_some_iff.1 hx
          obtain ⟨r, rfl, hr⟩ := ih n' (by omega) cs' _ hx (fun m hm => hw m (.inr (.inr (.inr (.inr (.inl (by
            simp only [DataW.weights, Tryd.underlying22, List.mem_cons, List.mem_append]
            exact .inr (.inl (weights_all_mem (List.mem_map.2 ⟨_, List.getElem_mem (by omega), rfl⟩) m hm)))))))))
          refine ⟨r, fun j u hu => ?_, hr⟩
          have hj : j < 5 := (List.getElem?_eq_some_iff.1 hu).1
          rw [← Go.Deep.add_add]
          exact cells_at hcs j u hj hu
        by_cases h0 : len = 0
        · subst h0
          exact ⟨(.mk k o nm v [], some a, cap), rfl, ⟨i64_bd wk, i64_bd wo, hnm, i64_bd wv, by simp [Ex.args]⟩, trivial⟩
        · haveI : Inhabited XE := ⟨(.mk 0 0 [] 0 [], none, 0)⟩
          obtain ⟨f, hf⟩ := choose_lt hE
          have ha : a = ⟨a.block, a.off, none⟩ := add_zero ((hf 0 (by omega)).1 0 _ rfl)
          have hll : ((List.range len).map fun i => (f i).1).length = len := by simp
          refine ⟨(.mk k o nm v ((List.range len).map fun i => (f i).1), some a, cap), by simp [ec, Ex.kind, Ex.op, Ex.name, Ex.value, Ex.args], ⟨i64_bd wk, i64_bd wo, hnm, i64_bd wv, by simpa [Ex.args] using hlen⟩, ?_⟩
          show Ex.AtBL _ W (some a) 0 _
          rw [ha]
          refine Ex.AtBL.of_get (fun _ => trivial) (fun j hj => ?_)
          have hj' : j < len := by rwa [hll] at hj
          obtain ⟨g1, g2⟩ := hf j hj'
          refine ⟨(f j).2.1, (f j).2.2, ?_, by simpa using g2⟩
          simp only [List.getElem_map, List.getElem_range, Nat.zero_add]
          exact ⟨add_cell (g1 0 _ rfl), add_cell (g1 1 _ rfl), add_cell (g1 2 _ rfl), add_cell (g1 3 _ rfl), add_cell (g1 4 _ rfl)⟩

set_option maxRecDepth 100000 in
/-- an expression that came in -/
theorem open_ex {H : Type} {enc : TypeId × Value → H} {r : Reach} {b0 : Nat} {W : World} {base : Nat} {sp : Nat → Bool} {hd : Bool} {v : Value} {d : DataW H} {ps : List MemPlace} (hval : Value.okWide Tryd.prog W r b0 24 v)
    (h : DataW.Trod enc Tryd.prog W base sp hd 24 v d ps) (hw : ∀ n ∈ d.weights Tryd.prog 24, n ≤ reachBytes) : ∃ (e : Ex) (p : Option Addr) (c : Nat), v = e.val p c ∧ Ex.At W p e := by
  obtain ⟨cs, rfl, hsz⟩ := okWide_struct Tryd.underlying24 hval
  obtain ⟨fuel, hf⟩ := h
  have hf' := hf
  obtain ⟨⟨e, p, c⟩, hc, hA⟩ := open_exT W base sp hd fuel _ _ hf hw
  refine ⟨e, p, c, ?_, hA.at⟩
  simp only [Value.cells, ec] at hc
  obtain ⟨l⟩ := cs
  simp only at hc
  subst hc
  rfl

theorem bnCells : Tryd.prog.cellsOf 36 = 3 := by kernel_rfl
theorem bnBytes : Tryd.prog.bytesOf 36 = 32 := by kernel_rfl
set_option maxRecDepth 100000 in
/-- bindings that came in -/
theorem open_bns {H : Type} {enc : TypeId × Value → H} {W : World} {base : Nat} {sp : Nat → Bool} {hd : Bool} {a0 : Option Addr} {len0 cap0 : Nat} {d : DataW H} {ps : List MemPlace}
    (h : DataW.Trod enc Tryd.prog W base sp hd 25 (.slice a0 len0 cap0) d ps) (hw : ∀ n ∈ d.weights Tryd.prog 25, n ≤ reachBytes) : ∃ bs : List Bn, len0 = bs.length ∧ BAt W a0 bs := by
  obtain ⟨fuel, h⟩ := h
  rcases DataW.trod_slice Tryd.underlying25 h with ⟨hc, he⟩ | ⟨a, len, cap, elems, rest, n', hn', hc, he, hb, hl, hm, hel, hat, _, _⟩
  · obtain ⟨rfl, rfl⟩ := Prod.mk.inj he
    simp [Value.cells] at hc
    obtain ⟨rfl, rfl, rfl⟩ := hc
    exact ⟨[], rfl, BAt.nil _ _⟩
  · obtain ⟨rfl, rfl⟩ := Prod.mk.inj he
    simp [Value.cells] at hc
    obtain ⟨rfl, rfl, rfl⟩ := hc
    have hwl : (elems.length + rest.length) * 32 ≤ reachBytes := by
      have := hw ((elems.length + rest.length) * Tryd.prog.bytesOf 36) (by simp [DataW.weights, Tryd.underlying25])
      rwa [bnBytes] at this
    have hlen : len0 ≤ 4398046510976 := by unfold reachBytes at hwl; omega
    have hE : ∀ i, i < len0 → ∃ b : Bn, b.fits ∧ W.cell? (a.add (i * 3 + 0)) = some (sV b.name) ∧ W.cell? (a.add (i * 3 + 1)) = some (.int .i64 b.type) ∧ W.cell? (a.add (i * 3 + 2)) = some (.int .i64 b.value) := by
      intro i hi
      have hx := hat i hi
      rw [bnCells, List.getElem?_eq_getElem (by omega)] at hx
      obtain ⟨cs', hcs, hx⟩ := Option.bind_eq_some_iff.1 hx
      have hwe : ∀ m ∈ (elems[i]'(by omega)).1.weights Tryd.prog 36, m ≤ reachBytes := fun m hm => hw m (by
        simp only [DataW.weights, Tryd.underlying25, List.mem_cons, List.mem_append]
        exact .inr (.inl (weights_all_mem (List.mem_map.2 ⟨_, List.getElem_mem (by omega), rfl⟩) m hm)))
      obtain ⟨xs, n, hn, hxe, hl, hlen, hf⟩ := DataW.trod_struct Tryd.underlying36 hx
      rw [hxe] at hwe
      rw [bnCells] at hl
      match cs', hl, xs, hlen, hcs with
      | [c0, c1, c2], _, [y0, y1, y2], _, hcs =>
        have h0 : DataW.trod enc Tryd.prog W base sp hd n 9 [c0] = some y0 := by simpa [strCells1] using hf 0 _ rfl
        have h1 : DataW.trod enc Tryd.prog W base sp hd n 3 [c1] = some y1 := by simpa [intCells] using hf 1 _ rfl
        have h2 : DataW.trod enc Tryd.prog W base sp hd n 3 [c2] = some y2 := by simpa [intCells] using hf 2 _ rfl
        simp only [DataW.weights, Tryd.underlying36, List.map_cons, List.map_nil, DataW.weightsEach, List.mem_append] at hwe
        obtain ⟨s, hs, rfl, ws⟩ := DataW.trod_string Tryd.underlying9 h0
        obtain ⟨t, ht, rfl, wt⟩ := DataW.trod_int Tryd.underlying3 h1
        obtain ⟨v, hv, rfl, wv⟩ := DataW.trod_int Tryd.underlying3 h2
        cases ht; cases hs; cases hv
        obtain ⟨nm, rfl⟩ := sB_of s
        rw [sB_data] at hwe
        have hnm : nm.length ≤ reachBytes := hwe _ (.inl (by simp [DataW.weights]))
        have hnm : nm.length ≤ 140737488355328 := by unfold reachBytes at hnm; omega
        refine ⟨⟨nm, t, v⟩, ⟨hnm, i64_bd wt, i64_bd wv⟩, ?_, ?_, ?_⟩
        · rw [← Go.Deep.add_add]; exact cells_at hcs 0 _ (by omega) rfl
        · rw [← Go.Deep.add_add]; exact cells_at hcs 1 _ (by omega) rfl
        · rw [← Go.Deep.add_add]; exact cells_at hcs 2 _ (by omega) rfl
    haveI : Inhabited Bn := ⟨⟨[], 0, 0⟩⟩
    obtain ⟨f, hf⟩ := choose_lt hE
    refine ⟨(List.range len0).map f, by simp, ⟨⟨by simpa using hlen, ?_⟩, ?_⟩⟩
    · intro b hb
      obtain ⟨i, hi, rfl⟩ := List.mem_map.1 hb
      exact (hf i (List.mem_range.1 hi)).1
    · intro j hj
      have hj' : j < len0 := by simpa using hj
      obtain ⟨_, g1, g2, g3⟩ := hf j hj'
      have ha : a = ⟨a.block, a.off, none⟩ := add_zero (hf 0 (by omega)).2.1
      refine ⟨a.block, a.off, congrArg some ha, ?_⟩
      simp only [List.getElem_map, List.getElem_range]
      exact ⟨add_cell g1, add_cell g2, add_cell g3⟩

end Go.Proofs.YtgkalcboklhdgaaDoor

namespace Go.Proofs.YtgkalcboklhdgaaDoor
open Go.RowKit
set_option linter.unusedVariables false
set_option linter.unusedSimpArgs false
open Ex

/-- these bindings are many, or a name is long -/
def gbs (bs : List Bn) : Bool := (bs.take 70).any (fun b => decide (40 < b.name.length)) || decide (70 < bs.length)
theorem gbs_hit {bs : List Bn} {j : Nat} (hj : j < bs.length) (h7 : j < 70) (h : 40 < (bs[j]).name.length) : gbs bs = true := by
  unfold gbs
  have : (bs.take 70).any (fun b => decide (40 < b.name.length)) = true := by
    rw [List.any_eq_true]
    have hl : j < (bs.take 70).length := by simp; omega
    refine ⟨(bs.take 70)[j], List.getElem_mem hl, ?_⟩
    rw [List.getElem_take]; simpa using h
  rw [this]; rfl
theorem gbs_end {bs : List Bn} (h : ∀ i (hi : i < bs.length), i < 70 → ¬ 40 < (bs[i]).name.length) : gbs bs = decide (70 < bs.length) := by
  unfold gbs
  have : (bs.take 70).any (fun b => decide (40 < b.name.length)) = false := by
    rw [List.any_eq_false]
    intro x hx
    obtain ⟨i, hi, rfl⟩ := List.getElem_of_mem hx
    rw [List.getElem_take]
    have h1 : i < bs.length := by simp at hi; omega
    have h2 : i < 70 := by simp at hi; omega
    simpa using h i h1 h2
  rw [this]; rfl

set_option maxRecDepth 100000 in
set_option maxHeartbeats 2000000 in
theorem GreatBindings_any (bs : List Bn) (p : Option Addr) (c : Nat) (w : World) (hA : BAt w p bs) : Gives Tryd.prog 9 #[.slice p bs.length c] w (.bool (gbs bs)) := by
  have hl := hA.1.1
  have HH := Lib.hid (fun j hj h7 h => gbs_hit (bs := bs) (j := j) hj h7 h)
  have HN := Lib.hid (fun h => gbs_end (bs := bs) h)
  have HA := Lib.hid hA
  clear hA
  generalize gbs bs = r at *
  unfold Gives
  go_enter Tryd.func9, Tryd.ntmps9
  go_wp2
  go_loopw [3] (fun i wr => ∃ j : Nat, j ≤ bs.length ∧ j ≤ 70 ∧ i = .int .i64 (j : Int) ∧ (∀ i (hi : i < bs.length), i < j → ¬ 40 < (bs[i]).name.length) ∧ wr = w) (fun i _ => bs.length - (intOf i).toNat)
  case atStart => exact ⟨0, Nat.zero_le _, by omega, rfl, fun i _ h => by omega, rfl⟩
  case round =>
    obtain ⟨j, hj, hj7, rfl, hk, rfl⟩ := hrel
    have HK := Lib.hid hk
    clear hk
    by_cases hlt : j < bs.length
    · by_cases h7 : j < 70
      · obtain ⟨b, off, rfl, hcs⟩ := HA.out.2 j hlt
        obtain ⟨c0, c1, c2⟩ := hcs
        have hft := (HA.out.1.2 _ (List.getElem_mem hlt)).1
        have hh := Lib.hid (HH.out j hlt h7)
        have hn := Lib.hid (show ¬ 40 < (bs[j]).name.length → ∀ i (hi : i < bs.length), i < j + 1 → ¬ 40 < (bs[i]).name.length from fun h i hi hij => by
          by_cases e : i = j
          · subst e; exact h
          · exact HK.out i hi (by omega))
        generalize hnm : (bs[j]).name = nm at *
        clear hnm c1 c2
        by_cases hg : 40 < nm.length
        · have HR := Lib.hid (hh.out hg)
          go_wp2
          go_ret
          exact ⟨by rw [HR.out]; rfl, Below.refl _ _⟩
        · have HR := Lib.hid (hn.out hg)
          go_wp2
          go_roundw
          case rel => exact ⟨j + 1, by omega, by omega, by go_num, HR.out, by first | trivial | rfl⟩
          case measure => simp [intOf]; omega
      · have HE := Lib.hid (HN.out (fun i hi h => HK.out i hi (by omega)))
        go_wp2
        go_ret
        exact ⟨by rw [HE.out]; simp; omega, Below.refl _ _⟩
    · have HE := Lib.hid (HN.out (fun i hi h => HK.out i hi (by omega)))
      go_wp2
      go_ret
      exact ⟨by rw [HE.out]; simp; omega, Below.refl _ _⟩

end Go.Proofs.YtgkalcboklhdgaaDoor

namespace Go.Proofs.YtgkalcboklhdgaaDoor
open Go.RowKit
set_option linter.unusedVariables false
set_option linter.unusedSimpArgs false
open Ex

set_option maxHeartbeats 1000000 in
theorem arith1_any (x : Bool) (w : World) : Calls Tryd.prog 17 #[.bool x] w fun e w' => e = .returned (.int .i64 (if x then 1 else 0)) ∧ w = w' := by
  cases x
  · go_enter Tryd.func17, Tryd.ntmps17
    go_wp2
    go_ret
    exact ⟨rfl, rfl⟩
  · go_enter Tryd.func17, Tryd.ntmps17
    go_wp2
    go_ret
    exact ⟨rfl, rfl⟩

set_option maxHeartbeats 1000000 in
theorem arith3_any (e : Ex) (p : Option Addr) (c : Nat) (w : World) (hA : Ex.At w p e) :
    Calls Tryd.prog 21 #[e.val p c] w fun r w' => ∃ q d, r = .returned ((Ex.mk 3 2 [] 0 [e]).val q d) ∧ Ex.At w' q (.mk 3 2 [] 0 [e]) ∧ Ext w w' := by
  have hv : e.val p c = .agg #[.int .i64 e.kind, .int .i64 e.op, sV e.name, .int .i64 e.value, .slice p e.args.length c] := rfl
  have C1 := Lib.hid (fun W (h : Ext w W) => show Calls _ _ #[.int .i64 2, .agg #[.int .i64 e.kind, .int .i64 e.op, sV e.name, .int .i64 e.value, .slice p e.args.length c]] _ _ from unary_any (· < w.heap.size) 2 (by omega) (by omega) e p c W (hA.toB.ext h))
  rw [hv]
  clear hv hA
  generalize (Ex.mk 3 2 [] 0 [e]) = T at *
  generalize e.kind = k1 at *
  generalize e.op = o1 at *
  generalize e.name = n1 at *
  generalize e.value = v1 at *
  generalize e.args.length = l1 at *
  obtain ⟨hb0, hb1, hE0⟩ := two_boxes w (.int .i64 k1) (.int .i64 o1) (sV n1) (.int .i64 v1) (.slice p l1 c) (.int .i64 0) (.int .i64 0) (.string { data := #[] }) (.int .i64 0) (.slice none 0 0) tEx
  have HB1 := Lib.hid hb1
  have HE0 := Lib.hid hE0
  clear hb0 hb1 hE0
  go_enter Tryd.func21, Tryd.ntmps21
  go_wp2_with fail
  refine (C1.out _ HE0.out).mono ?_
  rintro _ w2 ⟨q, d, rfl, hT, hE2⟩
  replace hE2 : Ext _ w2 := hE2
  have hbr := (hE2.below.block _ (lt_of_block HB1.out)).trans HB1.out
  obtain ⟨e0, e1, e2, e3, e4, f0⟩ := box5 hbr
  have HBR := Lib.hid hbr
  have HT := Lib.hid (hT.imp (S' := fun b => b < w.heap.size ∨ w.heap.size + 2 ≤ b) (fun b hb _ => by rcases hb with hb | hb; exact .inl hb; simp at hb; exact .inr (by omega)))
  have hlz := lt_of_block HB1.out
  have HW2 := Lib.hid (Ext.trans HE0.out hE2)
  clear hbr hT hE2 C1 HB1
  unfold Ex.val
  go_wp2
  obtain ⟨V, hV, g0, g1, g2, g3, g4, h4, h5⟩ := put5b HBR.out (.int .i64 T.kind) (.int .i64 T.op) (sV T.name) (.int .i64 T.value) (.slice q T.args.length d)
  rw [hV]
  exact bodyPost_ret (v := .agg #[.int .i64 T.kind, .int .i64 T.op, sV T.name, .int .i64 T.value, .slice q T.args.length d]) (by simp [results, Tryd.f21, go_sem, g0, g1, g2, g3, g4, sB_nil]) rfl ⟨q, d, rfl, (HT.out.keep (S' := fun _ => True) (fun b hb hb2 => ⟨trivial, h5 b (by omega)⟩)).at, Below.trans HW2.out (h4 _ (by omega))⟩

end Go.Proofs.YtgkalcboklhdgaaDoor

namespace Go.Proofs.YtgkalcboklhdgaaDoor
open Go.RowKit
set_option linter.unusedVariables false
set_option linter.unusedSimpArgs false

def bc (r : Bn) : List Value := [sV r.name, .int .i64 r.type, .int .i64 r.value]
def rowB (rs : List Bn) : List Value := rs.flatMap bc
theorem rowB_length (rs : List Bn) : (rowB rs).length = rs.length * 3 := by
  induction rs with
  | nil => rfl
  | cons r rs ih => simp only [rowB, List.flatMap_cons, List.length_append] at ih ⊢; rw [ih]; simp [bc]; omega
theorem rowB_get (rs : List Bn) (j i : Nat) (hj : j < rs.length) (hi : i < 3) : (rowB rs)[j * 3 + i]? = (bc rs[j])[i]? := by
  induction rs generalizing j with
  | nil => simp at hj
  | cons r rs ih =>
    simp only [rowB, List.flatMap_cons] at ih ⊢
    cases j with
    | zero => rw [List.getElem?_append_left (by simp [bc]; omega)]; simp
    | succ j =>
      rw [List.getElem?_append_right (by simp [bc]; omega)]
      have : (j + 1) * 3 + i - (bc r).length = j * 3 + i := by simp [bc]; omega
      rw [this, ih j (by simpa using hj)]
      simp
theorem rowB_one (rs : List Bn) : ∀ u ∈ rowB rs, u.oneCell' = true := by
  intro u hu
  obtain ⟨r, _, h⟩ := List.mem_flatMap.1 hu
  simp only [bc, List.mem_cons, List.not_mem_nil, or_false] at h
  rcases h with rfl | rfl | rfl <;> rfl
theorem infoBnd : (Tryd.prog.info? 36).map (fun i => (i.zero, i.size, i.bytes)) = some (some (.agg #[sV [], .int .i64 0, .int .i64 0]), 3, 32) := by kernel_rfl
theorem rowB_at {w : World} {b o : Nat} {rs : List Bn} (h : ∀ j (h : j < rs.length), Bn.cells w b (o + j * 3) rs[j]) : ∀ j u, (rowB rs)[j]? = some u → w.cell? ((⟨b, o, none⟩ : Addr).add j) = some u := by
  intro j u hu
  have hj : j < rs.length * 3 := by rw [← rowB_length]; exact (List.getElem?_eq_some_iff.1 hu).1
  have e : (⟨b, o, none⟩ : Addr).add j = ⟨b, o + j, none⟩ := by unfold Addr.add; split <;> simp_all
  rw [e]
  have hq : j / 3 < rs.length := by omega
  obtain ⟨c0, c1, c2⟩ := h (j / 3) hq
  have hr : j = j / 3 * 3 + j % 3 := by omega
  have hm : j % 3 < 3 := by omega
  rw [hr, rowB_get rs (j / 3) (j % 3) hq hm] at hu
  rw [hr]
  have h5 : j % 3 = 0 ∨ j % 3 = 1 ∨ j % 3 = 2 := by omega
  generalize j % 3 = m at *
  generalize j / 3 = d at *
  rcases h5 with rfl | rfl | rfl
  · simp only [bc, List.getElem?_cons_zero, Option.some.injEq] at hu; rw [← hu]; simpa using c0
  · simp only [bc, List.getElem?_cons_zero, List.getElem?_cons_succ, Option.some.injEq] at hu; rw [← hu, ← Nat.add_assoc]; exact c1
  · simp only [bc, List.getElem?_cons_zero, List.getElem?_cons_succ, Option.some.injEq] at hu; rw [← hu, ← Nat.add_assoc]; exact c2

set_option maxHeartbeats 1000000 in
theorem CloneB_some (bs : List Bn) (a : Addr) (c : Nat) (w : World) (hl : bs.length ≤ 4398046510976) (hc : ∀ j u, (rowB bs)[j]? = some u → w.cell? (a.add j) = some u) :
    Calls Tryd.prog 16 #[.slice (some a) bs.length c] w fun e w' => ∃ v, e = .returned v ∧ w'.ownsRow w.heap.size 36 3 v bs.length (rowB bs) ∧ Ext w w' := by
  obtain ⟨i0, hi, hz0, hz1, hz2⟩ := info_parts infoBnd
  have hn : ∀ W, (binOp .eql 25 (.slice (some a) bs.length c) (.slice none 0 0)).run Tryd.prog W = .ok (.bool false) W := fun W => Lib.run_eql_slice_nil (P := Tryd.prog) W 25 _ (some a) bs.length c 0 0 Tryd.underlying25
  have HC := Lib.hid (fun W (h : Ext w W) j u hu => (h.below.cell (Ex.cell_lt' (hc j u hu))).trans (hc j u hu))
  have HL := Lib.hid (rowB_length bs)
  have HO := Lib.hid (rowB_one bs)
  clear hc
  generalize rowB bs = xs at *
  generalize bs.length = n at *
  have hE0 : Ext w (w.alloc (.cells #[] 36)) := (Below.refl _ w).alloc (Nat.le_refl _) _
  have hA := HC.out _ hE0
  go_enter Tryd.func16, Tryd.ntmps16
  go_wp2_with (at_builtin; go_loud (refine wpList_append_own _ rfl _ _ 25 rfl w.heap.size 36 i0 (.agg #[sV [], .int .i64 0, .int .i64 0]) 3 32 Tryd.underlying25 hi hz0 hz1 hz2 rfl (by decide) _ 0 [] rfl (World.ownsRow_lit (base := w.heap.size) w #[] 0 (Nat.le_refl _) (by unfold maxLen; omega) (by simp)) a n c xs rfl HL.out hA HO.out (by unfold maxLen; omega) (by omega) (by simp) ?_); intro v' w3 hown hgrow hnil)
  go_wp2
  go_ret
  rw [Nat.zero_add, List.nil_append] at hown
  exact ⟨_, rfl, hown, ((Below.refl _ w).alloc (Nat.le_refl _) _).grown hgrow (by simp) (fun k e => by cases e; exact Nat.le_refl _)⟩

theorem CloneB_none (c : Nat) (w : World) : Calls Tryd.prog 16 #[.slice none 0 c] w fun e w' => e = .returned (.slice none 0 0) ∧ w = w' := by
  have hn : ∀ W, (binOp .eql 25 (.slice none 0 c) (.slice none 0 0)).run Tryd.prog W = .ok (.bool true) W := fun W => Lib.run_eql_slice_nil (P := Tryd.prog) W 25 _ none 0 c 0 0 Tryd.underlying25
  go_enter Tryd.func16, Tryd.ntmps16
  go_wp2
  go_ret
  exact ⟨rfl, rfl⟩
theorem CloneB_any (bs : List Bn) (p : Option Addr) (c : Nat) (w : World) (hA : BAt w p bs) :
    Calls Tryd.prog 16 #[.slice p bs.length c] w fun e w' => ∃ q d, e = .returned (.slice q bs.length d) ∧ BAt w' q bs ∧ Ext w w' := by
  cases p with
  | none =>
    have h0 : bs = [] := by
      cases bs with
      | nil => rfl
      | cons x bs => obtain ⟨b, o, e, _⟩ := hA.2 0 (by simp); cases e
    subst h0
    exact (CloneB_none c w).mono (fun e w' ⟨h3, h4⟩ => ⟨none, 0, h3, ⟨hA.1, fun j h => by simp at h⟩, by rw [← h4]; exact Below.refl _ _⟩)
  | some a =>
    refine (CloneB_some bs a c w hA.1.1 ?_).mono ?_
    · by_cases h0 : bs = []
      · subst h0; intro j u hu; simp [rowB] at hu
      · obtain ⟨b, o, e, _⟩ := hA.2 0 (List.length_pos_iff.2 h0)
        cases e
        refine rowB_at (fun j hj => ?_)
        obtain ⟨b', o', e, h3⟩ := hA.2 j hj
        cases e
        exact h3
    · rintro e w' ⟨v, rfl, hown, hE⟩
      rcases Go.Joins.ownsRow_forms hown with ⟨rfl, h2⟩ | ⟨g, cap, rfl⟩
      · exact ⟨none, 0, by rw [h2], ⟨hA.1, fun j h => by omega⟩, hE⟩
      · refine ⟨_, _, rfl, ⟨hA.1, fun j hj => ⟨g, 0, rfl, ?_⟩⟩, hE⟩
        have hc : ∀ i, i < 3 → w'.cell? ⟨g, 0 + j * 3 + i, none⟩ = (bc bs[j])[i]? := fun i hi => by
          rw [Nat.zero_add, World.ownsRow.cellAt hown (j * 3 + i) (by omega), rowB_get bs j i hj hi]
        exact ⟨hc 0 (by omega), hc 1 (by omega), hc 2 (by omega)⟩

end Go.Proofs.YtgkalcboklhdgaaDoor

namespace Go.Proofs.YtgkalcboklhdgaaDoor
open Go.RowKit
set_option linter.unusedVariables false
set_option linter.unusedSimpArgs false
open Ex

mutual
/-- two expressions are equal -/
def eqE : Ex → Ex → Bool
  | .mk k o n v ts, .mk k' o' n' v' ts' => k == k' && (o == o' && (n == n' && (v == v' && eqL ts ts')))
def eqL : List Ex → List Ex → Bool
  | [], [] => true
  | t :: ts, t' :: ts' => eqE t t' && eqL ts ts'
  | _, _ => false
end
theorem eqL_len : ∀ (ts ts' : List Ex), ts.length ≠ ts'.length → eqL ts ts' = false
  | [], [], h => absurd rfl h
  | [], _ :: _, _ => by simp [eqL]
  | _ :: _, [], _ => by simp [eqL]
  | t :: ts, t' :: ts', h => by simp only [eqL]; rw [eqL_len ts ts' (by simpa using h)]; simp
theorem eqL_drop (ts ts' : List Ex) (j : Nat) (h : j < ts.length) (h' : j < ts'.length) : eqL (ts.drop j) (ts'.drop j) = (eqE ts[j] ts'[j] && eqL (ts.drop (j + 1)) (ts'.drop (j + 1))) := by
  rw [List.drop_eq_getElem_cons h, List.drop_eq_getElem_cons h']; simp only [eqL]
theorem eqL_end (ts ts' : List Ex) (j : Nat) (h : ¬ j < ts.length) (h' : ts.length = ts'.length) : eqL (ts.drop j) (ts'.drop j) = true := by
  rw [List.drop_eq_nil_of_le (by omega), List.drop_eq_nil_of_le (by omega)]; simp [eqL]

set_option maxRecDepth 100000 in
set_option maxHeartbeats 4000000 in
theorem EqualFunc_any (ts ts' : List Ex) (hl : ts.length ≤ 2199023255488) (hl' : ts'.length ≤ 2199023255488)
    (IH0 : ∀ t ∈ ts, ∀ t' q q' d d' W, Ex.At W q t → Ex.At W q' t' → Gives Tryd.prog 55 #[t.val q d, t'.val q' d'] W (.bool (eqE t t'))) (p p' : Option Addr) (c c' : Nat) (w : World) (hA : Ex.AtL w p 0 ts) (hA' : Ex.AtL w p' 0 ts') :
    Gives Tryd.prog 72 #[.slice p ts.length c, .slice p' ts'.length c', .func (.func 55) #[] #[]] w (.bool (eqL ts ts')) := by
  have IH := Lib.hid IH0
  have HR := Lib.hid hA
  have HR' := Lib.hid hA'
  clear IH0 hA hA'
  obtain ⟨m, hm⟩ : ∃ m, ts.length = m := ⟨_, rfl⟩
  obtain ⟨m', hm'⟩ : ∃ m', ts'.length = m' := ⟨_, rfl⟩
  rw [hm] at hl ⊢
  rw [hm'] at hl' ⊢
  by_cases he : m = m'
  · subst he
    have HM := Lib.hid (And.intro hm hm')
    have HEND := Lib.hid (fun j (h : ¬ j < m) => eqL_end ts ts' j (by omega) (by omega))
    have HST := Lib.hid (fun j (h : j < ts.length) (h2 : j < ts'.length) => eqL_drop ts ts' j h h2)
    clear hm hm'
    unfold Gives
    go_enter Tryd.func72, Tryd.ntmps72
    go_wp2
    go_loopw [17] (fun i wr => ∃ j : Nat, j ≤ m ∧ i = .int .i64 (j : Int) ∧ eqL ts ts' = eqL (ts.drop j) (ts'.drop j) ∧ Ext w wr) (fun i _ => m - (intOf i).toNat)
    case atStart => exact ⟨0, Nat.zero_le _, rfl, by simp, Below.refl _ _⟩
    case round =>
      obtain ⟨j, hj, rfl, hq, hE⟩ := hrel
      have HQ := Lib.hid hq
      clear hq
      by_cases hlt : j < m
      · have hjt : j < ts.length := by rw [HM.out.1]; exact hlt
        have hjt' : j < ts'.length := by rw [HM.out.2]; exact hlt
        obtain ⟨b, off, q2, dd2, rfl, hcs, hA1⟩ := HR.out.get j hjt
        obtain ⟨b', off', q3, dd3, rfl, hcs', hA1'⟩ := HR'.out.get j hjt'
        rw [Nat.zero_add] at hcs hcs'
        obtain ⟨c0, c1, c2, c3, c4⟩ := hcs.below hE
        obtain ⟨x0, x1, x2, x3, x4⟩ := hcs'.below hE
        have lt1 := cell_lt' c0
        have lt2 := cell_lt' x0
        have D := Lib.hid (fun W (h : Ext wr W) => show Gives _ _ #[.agg #[.int .i64 (ts[j]).kind, .int .i64 (ts[j]).op, sV (ts[j]).name, .int .i64 (ts[j]).value, .slice q2 (ts[j]).args.length dd2], .agg #[.int .i64 (ts'[j]).kind, .int .i64 (ts'[j]).op, sV (ts'[j]).name, .int .i64 (ts'[j]).value, .slice q3 (ts'[j]).args.length dd3]] _ _ from IH.out ts[j] (List.getElem_mem hjt) ts'[j] q2 q3 dd2 dd3 W (hA1.below (Ext.trans hE h)) (hA1'.below (Ext.trans hE h)))
        have HS := Lib.hid (HST.out j hjt hjt')
        have HE := Lib.hid hE
        clear hcs hcs' hA1 hA1' hE
        generalize (ts[j]).kind = k2 at *
        generalize (ts[j]).op = o2 at *
        generalize (ts[j]).name = n2 at *
        generalize (ts[j]).value = v2' at *
        generalize (ts[j]).args.length = l2 at *
        generalize (ts'[j]).kind = k3 at *
        generalize (ts'[j]).op = o3 at *
        generalize (ts'[j]).name = n3 at *
        generalize (ts'[j]).value = v3' at *
        generalize (ts'[j]).args.length = l3 at *
        generalize eqE ts[j] ts'[j] = r at *
        obtain ⟨hb0, hb1, hE0⟩ := two_boxes wr (.int .i64 k2) (.int .i64 o2) (sV n2) (.int .i64 v2') (.slice q2 l2 dd2) (.int .i64 k3) (.int .i64 o3) (sV n3) (.int .i64 v3') (.slice q3 l3 dd3) tEx
        have HE0 := Lib.hid hE0
        clear hb0 hb1 hE0
        go_wp2_with fail
        refine (D.out _ HE0.out).mono ?_
        intro w4 hB
        have HE4 := Lib.hid (Ext.trans HE.out (Ext.trans HE0.out hB))
        clear hB D
        cases r with
        | true =>
          have HN := Lib.hid (show eqL ts ts' = eqL (ts.drop (j + 1)) (ts'.drop (j + 1)) by rw [HQ.out, HS.out]; simp)
          clear c0 c1 c2 c3 c4 x0 x1 x2 x3 x4 lt1 lt2
          go_wp2
          go_roundw
          case rel => exact ⟨j + 1, by omega, by go_num, HN.out, HE4.out⟩
          case measure => simp [intOf]; omega
        | false =>
          have HN := Lib.hid (show eqL ts ts' = false by rw [HQ.out, HS.out]; simp)
          clear c0 c1 c2 c3 c4 x0 x1 x2 x3 x4 lt1 lt2
          go_wp2
          go_ret
          exact ⟨by rw [HN.out]; rfl, HE4.out⟩
      · have HE := Lib.hid hE
        have HN := Lib.hid (show eqL ts ts' = true by rw [HQ.out]; exact HEND.out j hlt)
        clear hE
        go_wp2
        go_ret
        exact ⟨by rw [HN.out]; rfl, HE.out⟩
  · have hne : ((m : Int) == (m' : Int)) = false := by rw [beq_eq_false_iff_ne]; omega
    have hne2 : ((m : Int) != (m' : Int)) = true := by rw [bne_iff_ne]; omega
    have HN := Lib.hid (eqL_len ts ts' (by omega))
    clear he hm hm'
    unfold Gives
    go_enter Tryd.func72, Tryd.ntmps72
    go_wp2
    go_ret
    exact ⟨by rw [HN.out]; rfl, Below.refl _ _⟩

theorem eqE_def (a b : Ex) : eqE a b = (a.kind == b.kind && (a.op == b.op && (a.name == b.name && (a.value == b.value && eqL a.args b.args)))) := by
  cases a; cases b; simp [eqE, Ex.kind, Ex.op, Ex.name, Ex.value, Ex.args]

set_option maxRecDepth 100000 in
set_option maxHeartbeats 4000000 in
theorem equal_any : ∀ (n : Nat) (a : Ex), a.size ≤ n → ∀ (b : Ex) (p p' : Option Addr) (c c' : Nat) (w : World), Ex.At w p a → Ex.At w p' b →
    Gives Tryd.prog 55 #[a.val p c, b.val p' c'] w (.bool (eqE a b)) := by
  intro n
  induction n with
  | zero => intro e he; have := e.size_pos; omega
  | succ n ih =>
    intro a ha b p p' c c' w hA hA'
    have hv : a.val p c = .agg #[.int .i64 a.kind, .int .i64 a.op, sV a.name, .int .i64 a.value, .slice p a.args.length c] := rfl
    have hv' : b.val p' c' = .agg #[.int .i64 b.kind, .int .i64 b.op, sV b.name, .int .i64 b.value, .slice p' b.args.length c'] := rfl
    rw [hv, hv']
    have HL := Lib.hid (fun W (h : Ext w W) => EqualFunc_any a.args b.args hA.fit.2.2.2.2 hA'.fit.2.2.2.2 (fun t ht t' q q' d d' W h1 h2 => ih t (by obtain ⟨j, hj, rfl⟩ := List.getElem_of_mem ht; have h1 := size_get a.args j hj; have h2 := size_args a; omega) t' q q' d d' W h1 h2) p p' c c' W (hA.row.below h) (hA'.row.below h))
    have HD := Lib.hid (eqE_def a b)
    clear ih ha hv hv' hA hA'
    generalize eqE a b = r at *
    generalize eqL a.args b.args = rl at *
    generalize a.args.length = l1 at *
    generalize b.args.length = l2 at *
    generalize a.kind = k1 at *
    generalize a.op = o1 at *
    generalize a.name = n1 at *
    generalize a.value = v1 at *
    generalize b.kind = k2 at *
    generalize b.op = o2 at *
    generalize b.name = n2 at *
    generalize b.value = v2 at *
    obtain ⟨hb0, hb1, hE0⟩ := two_boxes w (.int .i64 k1) (.int .i64 o1) (sV n1) (.int .i64 v1) (.slice p l1 c) (.int .i64 k2) (.int .i64 o2) (sV n2) (.int .i64 v2) (.slice p' l2 c') tEx
    have HE0 := Lib.hid hE0
    clear hb0 hb1 hE0
    unfold Gives
    by_cases hk : k1 = k2
    · subst hk
      by_cases ho : o1 = o2
      · subst ho
        by_cases hn : n1 = n2
        · subst hn
          by_cases hx : v1 = v2
          · subst hx
            have HN := Lib.hid (show r = rl by rw [HD.out]; simp)
            go_enter Tryd.func55, Tryd.ntmps55
            go_wp2_with fail
            refine (HL.out _ HE0.out).mono ?_
            intro w1 hB
            have HE1 := Lib.hid (Ext.trans HE0.out hB)
            clear hB HL
            go_wp2
            go_ret
            exact ⟨by rw [HN.out]; rfl, HE1.out⟩
          · have g1 : (v1 == v2) = false := by simpa using hx
            have HN := Lib.hid (show r = false by rw [HD.out]; simp [g1])
            clear HL
            go_enter Tryd.func55, Tryd.ntmps55
            go_wp2
            go_ret
            exact ⟨by rw [HN.out]; rfl, HE0.out⟩
        · have g1 : (n1 == n2) = false := by simpa using hn
          have HN := Lib.hid (show r = false by rw [HD.out]; simp [g1])
          clear HL
          go_enter Tryd.func55, Tryd.ntmps55
          go_wp2
          go_ret
          exact ⟨by rw [HN.out]; rfl, HE0.out⟩
      · have g1 : (o1 == o2) = false := by simpa using ho
        have HN := Lib.hid (show r = false by rw [HD.out]; simp [g1])
        clear HL
        go_enter Tryd.func55, Tryd.ntmps55
        go_wp2
        go_ret
        exact ⟨by rw [HN.out]; rfl, HE0.out⟩
    · have g1 : (k1 == k2) = false := by simpa using hk
      have HN := Lib.hid (show r = false by rw [HD.out]; simp [g1])
      clear HL
      go_enter Tryd.func55, Tryd.ntmps55
      go_wp2
      go_ret
      exact ⟨by rw [HN.out]; rfl, HE0.out⟩

set_option maxRecDepth 100000 in
set_option maxHeartbeats 2000000 in
/-- Equal -/
theorem EqualX_any (a b : Ex) (p p' : Option Addr) (c c' : Nat) (w : World) (hA : Ex.At w p a) (hA' : Ex.At w p' b) :
    Gives Tryd.prog 29 #[a.val p c, b.val p' c'] w (.bool (a.chk == 0 && (b.chk == 0 && eqE a b))) := by
  have hv : a.val p c = .agg #[.int .i64 a.kind, .int .i64 a.op, sV a.name, .int .i64 a.value, .slice p a.args.length c] := rfl
  have hv' : b.val p' c' = .agg #[.int .i64 b.kind, .int .i64 b.op, sV b.name, .int .i64 b.value, .slice p' b.args.length c'] := rfl
  have C1 := Lib.hid (fun W (h : Ext w W) => show Gives _ _ #[.agg #[.int .i64 a.kind, .int .i64 a.op, sV a.name, .int .i64 a.value, .slice p a.args.length c]] _ _ from Check_any a p c W (hA.below h))
  have C2 := Lib.hid (fun W (h : Ext w W) => show Gives _ _ #[.agg #[.int .i64 b.kind, .int .i64 b.op, sV b.name, .int .i64 b.value, .slice p' b.args.length c']] _ _ from Check_any b p' c' W (hA'.below h))
  have C3 := Lib.hid (fun W (h : Ext w W) => show Gives _ _ #[.agg #[.int .i64 a.kind, .int .i64 a.op, sV a.name, .int .i64 a.value, .slice p a.args.length c], .agg #[.int .i64 b.kind, .int .i64 b.op, sV b.name, .int .i64 b.value, .slice p' b.args.length c']] _ _ from equal_any a.size a (Nat.le_refl _) b p p' c c' W (hA.below h) (hA'.below h))
  rw [hv, hv']
  clear hv hv' hA hA'
  generalize eqE a b = r at *
  generalize a.chk = ca at *
  generalize b.chk = cb at *
  generalize a.args.length = l1 at *
  generalize b.args.length = l2 at *
  generalize a.kind = k1 at *
  generalize a.op = o1 at *
  generalize a.name = n1 at *
  generalize a.value = v1 at *
  generalize b.kind = k2 at *
  generalize b.op = o2 at *
  generalize b.name = n2 at *
  generalize b.value = v2 at *
  obtain ⟨hb1, hb2, hE⟩ := two_boxes w (.int .i64 k1) (.int .i64 o1) (sV n1) (.int .i64 v1) (.slice p l1 c) (.int .i64 k2) (.int .i64 o2) (sV n2) (.int .i64 v2) (.slice p' l2 c') tEx
  have Ka := Lib.hid hb1
  have Kb := Lib.hid hb2
  have HX := Lib.hid hE
  clear hb1 hb2 hE
  unfold Gives
  by_cases ha : ca = 0
  · subst ha
    by_cases hb : cb = 0
    · subst hb
      go_enter Tryd.func29, Tryd.ntmps29
      obtain ⟨a0, a1, a2, a3, a4, a5⟩ := box5 Ka.out
      have lta := lt_of_block Ka.out
      obtain ⟨b0, b1, b2, b3, b4, b5⟩ := box5 Kb.out
      have ltb := lt_of_block Kb.out
      go_wp2_with fail
      refine (C1.out _ HX.out).mono ?_
      intro w1 hE
      replace hE : Ext _ w1 := hE
      clear a0 a1 a2 a3 a4 a5 lta
      clear b0 b1 b2 b3 b4 b5 ltb
      replace Ka := Lib.hid ((hE.below.block _ (lt_of_block Ka.out)).trans Ka.out)
      replace Kb := Lib.hid ((hE.below.block _ (lt_of_block Kb.out)).trans Kb.out)
      replace HX := Lib.hid (Ext.trans HX.out hE)
      clear hE
      obtain ⟨a0, a1, a2, a3, a4, a5⟩ := box5 Ka.out
      have lta := lt_of_block Ka.out
      obtain ⟨b0, b1, b2, b3, b4, b5⟩ := box5 Kb.out
      have ltb := lt_of_block Kb.out
      go_wp2_with fail
      refine (C2.out _ HX.out).mono ?_
      intro w2 hE
      replace hE : Ext _ w2 := hE
      clear a0 a1 a2 a3 a4 a5 lta
      clear b0 b1 b2 b3 b4 b5 ltb
      replace Ka := Lib.hid ((hE.below.block _ (lt_of_block Ka.out)).trans Ka.out)
      replace Kb := Lib.hid ((hE.below.block _ (lt_of_block Kb.out)).trans Kb.out)
      replace HX := Lib.hid (Ext.trans HX.out hE)
      clear hE
      obtain ⟨a0, a1, a2, a3, a4, a5⟩ := box5 Ka.out
      have lta := lt_of_block Ka.out
      obtain ⟨b0, b1, b2, b3, b4, b5⟩ := box5 Kb.out
      have ltb := lt_of_block Kb.out
      go_wp2_with fail
      refine (C3.out _ HX.out).mono ?_
      intro w3 hE
      replace hE : Ext _ w3 := hE
      clear a0 a1 a2 a3 a4 a5 lta
      clear b0 b1 b2 b3 b4 b5 ltb
      replace Ka := Lib.hid ((hE.below.block _ (lt_of_block Ka.out)).trans Ka.out)
      replace Kb := Lib.hid ((hE.below.block _ (lt_of_block Kb.out)).trans Kb.out)
      replace HX := Lib.hid (Ext.trans HX.out hE)
      clear hE
      obtain ⟨a0, a1, a2, a3, a4, a5⟩ := box5 Ka.out
      have lta := lt_of_block Ka.out
      obtain ⟨b0, b1, b2, b3, b4, b5⟩ := box5 Kb.out
      have ltb := lt_of_block Kb.out
      clear a0 a1 a2 a3 a4 a5 lta
      clear b0 b1 b2 b3 b4 b5 ltb
      go_wp2
      go_ret
      exact ⟨rfl, HX.out⟩
    · have g1 : (cb == 0) = false := by simpa using hb
      have G := Lib.hid (show (((0 : Int) == 0) && ((cb == 0) && r)) = false by rw [g1]; rfl)
      generalize (((0 : Int) == 0) && ((cb == 0) && r)) = R at *
      go_enter Tryd.func29, Tryd.ntmps29
      obtain ⟨a0, a1, a2, a3, a4, a5⟩ := box5 Ka.out
      have lta := lt_of_block Ka.out
      obtain ⟨b0, b1, b2, b3, b4, b5⟩ := box5 Kb.out
      have ltb := lt_of_block Kb.out
      go_wp2_with fail
      refine (C1.out _ HX.out).mono ?_
      intro w1 hE
      replace hE : Ext _ w1 := hE
      clear a0 a1 a2 a3 a4 a5 lta
      clear b0 b1 b2 b3 b4 b5 ltb
      replace Ka := Lib.hid ((hE.below.block _ (lt_of_block Ka.out)).trans Ka.out)
      replace Kb := Lib.hid ((hE.below.block _ (lt_of_block Kb.out)).trans Kb.out)
      replace HX := Lib.hid (Ext.trans HX.out hE)
      clear hE
      obtain ⟨a0, a1, a2, a3, a4, a5⟩ := box5 Ka.out
      have lta := lt_of_block Ka.out
      obtain ⟨b0, b1, b2, b3, b4, b5⟩ := box5 Kb.out
      have ltb := lt_of_block Kb.out
      go_wp2_with fail
      refine (C2.out _ HX.out).mono ?_
      intro w2 hE
      replace hE : Ext _ w2 := hE
      clear a0 a1 a2 a3 a4 a5 lta
      clear b0 b1 b2 b3 b4 b5 ltb
      replace Ka := Lib.hid ((hE.below.block _ (lt_of_block Ka.out)).trans Ka.out)
      replace Kb := Lib.hid ((hE.below.block _ (lt_of_block Kb.out)).trans Kb.out)
      replace HX := Lib.hid (Ext.trans HX.out hE)
      clear hE
      obtain ⟨a0, a1, a2, a3, a4, a5⟩ := box5 Ka.out
      have lta := lt_of_block Ka.out
      obtain ⟨b0, b1, b2, b3, b4, b5⟩ := box5 Kb.out
      have ltb := lt_of_block Kb.out
      clear a0 a1 a2 a3 a4 a5 lta
      clear b0 b1 b2 b3 b4 b5 ltb
      go_wp2
      go_ret
      exact ⟨by rw [G.out]; rfl, HX.out⟩
  · have g1 : (ca == 0) = false := by simpa using ha
    have G := Lib.hid (show ((ca == 0) && ((cb == 0) && r)) = false by rw [g1]; rfl)
    generalize ((ca == 0) && ((cb == 0) && r)) = R at *
    go_enter Tryd.func29, Tryd.ntmps29
    obtain ⟨a0, a1, a2, a3, a4, a5⟩ := box5 Ka.out
    have lta := lt_of_block Ka.out
    obtain ⟨b0, b1, b2, b3, b4, b5⟩ := box5 Kb.out
    have ltb := lt_of_block Kb.out
    go_wp2_with fail
    refine (C1.out _ HX.out).mono ?_
    intro w1 hE
    replace hE : Ext _ w1 := hE
    clear a0 a1 a2 a3 a4 a5 lta
    clear b0 b1 b2 b3 b4 b5 ltb
    replace Ka := Lib.hid ((hE.below.block _ (lt_of_block Ka.out)).trans Ka.out)
    replace Kb := Lib.hid ((hE.below.block _ (lt_of_block Kb.out)).trans Kb.out)
    replace HX := Lib.hid (Ext.trans HX.out hE)
    clear hE
    obtain ⟨a0, a1, a2, a3, a4, a5⟩ := box5 Ka.out
    have lta := lt_of_block Ka.out
    obtain ⟨b0, b1, b2, b3, b4, b5⟩ := box5 Kb.out
    have ltb := lt_of_block Kb.out
    clear a0 a1 a2 a3 a4 a5 lta
    clear b0 b1 b2 b3 b4 b5 ltb
    go_wp2
    go_ret
    exact ⟨by rw [G.out]; rfl, HX.out⟩

end Go.Proofs.YtgkalcboklhdgaaDoor

namespace Go.Proofs.YtgkalcboklhdgaaDoor
set_option linter.unusedVariables false
set_option linter.unusedSimpArgs false
open Ex

theorem tys_cons {bs : List Bn} {t : Ex} {ts : List Ex} (h : (Ex.tys bs (t :: ts)).1 = 0) : (t.ty bs).2 = 0 ∧ (Ex.tys bs ts).1 = 0 ∧ Ex.tys bs (t :: ts) = (0, (t.ty bs).1 :: (Ex.tys bs ts).2) := by
  simp only [Ex.tys] at h ⊢
  by_cases h0 : (t.ty bs).2 = 0
  · rw [if_neg (by simp [h0])] at h ⊢
    exact ⟨h0, h, by rw [h]⟩
  · rw [if_pos h0] at h; exact absurd h h0
theorem ty_args {bs : List Bn} {k o : Int} {n : List UInt8} {v : Int} {ts : List Ex} (h : ((Ex.mk k o n v ts).ty bs).2 = 0) : (Ex.tys bs ts).1 = 0 ∧ (Ex.mk k o n v ts).ty bs = tyN bs k o n (Ex.tys bs ts).2 := by
  simp only [Ex.ty] at h ⊢
  by_cases h0 : (Ex.tys bs ts).1 = 0
  · exact ⟨h0, by rw [if_neg (by simp [h0])]⟩
  · rw [if_pos h0] at h; exact absurd h h0
theorem tyN_nil {bs : List Bn} {k o : Int} {n : List UInt8} {l : List Int} (h : (tyN [] k o n l).2 = 0) : tyN bs k o n l = tyN [] k o n l ∧ k ≠ 2 := by
  unfold tyN at h ⊢
  by_cases h1 : k = 1
  · subst h1; simp
  · by_cases h2 : k = 2
    · subst h2; simp [fdIs] at h
    · simp only [if_neg h1, if_neg h2] at h ⊢
      exact ⟨trivial, h2⟩
mutual
theorem ty_any (bs : List Bn) : ∀ e : Ex, (e.ty []).2 = 0 → e.ty bs = e.ty [] ∧ e.ev bs = e.ev []
  | .mk k o n v ts, h => by
    obtain ⟨h1, h2⟩ := ty_args h
    obtain ⟨h3, h4⟩ := tys_any bs ts h1
    rw [h2] at h
    obtain ⟨h5, h6⟩ := tyN_nil (bs := bs) h
    refine ⟨?_, ?_⟩
    · rw [h2, ← h5]; simp only [Ex.ty]; rw [h3, if_neg (by simp [h1])]
    · simp only [Ex.ev]; rw [h4]
      unfold evN
      simp only [if_neg h6]
theorem tys_any (bs : List Bn) : ∀ ts : List Ex, (Ex.tys [] ts).1 = 0 → Ex.tys bs ts = Ex.tys [] ts ∧ Ex.evs bs ts = Ex.evs [] ts
  | [], _ => ⟨rfl, rfl⟩
  | t :: ts, h => by
    obtain ⟨h1, h2, h3⟩ := tys_cons h
    obtain ⟨a1, a2⟩ := ty_any bs t h1
    obtain ⟨b1, b2⟩ := tys_any bs ts h2
    simp only [Ex.tys, Ex.evs, a1, a2, b1, b2, and_self]
end
theorem lit_ty (bs : List Bn) (n : Int) : (lit n).ty bs = (1, 0) ∧ (lit n).ev bs = (n, 0) := by
  unfold lit
  by_cases h : n < 0
  · rw [if_pos h]
    simp [Ex.ty, Ex.tys, tyN, Ex.ev, Ex.evs, evN]
  · rw [if_neg h]
    simp [Ex.ty, Ex.tys, tyN, Ex.ev, Ex.evs, evN]
theorem cst_true {e : Ex} (h : (cst e).2 = true) : e.ty [] = (1, 0) ∧ e.ev [] = ((cst e).1, 0) := by
  unfold cst at h ⊢
  by_cases h1 : (e.ty []).2 ≠ 0 ∨ (e.ty []).1 ≠ 1
  · rw [if_pos h1] at h; cases h
  · rw [if_neg h1] at h ⊢
    simp only [not_or, Classical.not_not] at h1
    have h2 : (e.ev []).2 = 0 := by simpa using h
    exact ⟨Prod.ext h1.2 h1.1, Prod.ext rfl h2⟩
theorem mp_node (k o : Int) (n : List UInt8) (v : Int) (ts : List Ex) :
    ((cst (.mk k o n v ts)).2 = true → mp foldOne (.mk k o n v ts) = lit (cst (.mk k o n v ts)).1) ∧ ((cst (.mk k o n v ts)).2 = false → mp foldOne (.mk k o n v ts) = .mk k o n v (mps foldOne ts)) := by
  simp only [mp]
  constructor
  · intro h; simp only [foldOne, h, if_true]
  · intro h
    have : foldOne (.mk k o n v ts) = none := by unfold foldOne; rw [h]; rfl
    rw [this]
mutual
theorem mp_ty (bs : List Bn) : ∀ e : Ex, (mp foldOne e).ty bs = e.ty bs
  | .mk k o n v ts => by
    cases hc : (cst (.mk k o n v ts)).2 with
    | true =>
      rw [(mp_node k o n v ts).1 hc, (lit_ty bs _).1, (ty_any bs _ (by rw [(cst_true hc).1])).1, (cst_true hc).1]
    | false =>
      rw [(mp_node k o n v ts).2 hc]
      simp only [Ex.ty]
      rw [mps_ty bs ts]
theorem mps_ty (bs : List Bn) : ∀ ts : List Ex, Ex.tys bs (mps foldOne ts) = Ex.tys bs ts
  | [] => rfl
  | t :: ts => by simp only [mps, Ex.tys]; rw [mp_ty bs t, mps_ty bs ts]
end
mutual
theorem mp_ev (bs : List Bn) : ∀ e : Ex, (e.ty bs).2 = 0 → (mp foldOne e).ev bs = e.ev bs
  | .mk k o n v ts, h => by
    cases hc : (cst (.mk k o n v ts)).2 with
    | true =>
      rw [(mp_node k o n v ts).1 hc, (lit_ty bs _).2, (ty_any bs _ (by rw [(cst_true hc).1])).2, (cst_true hc).2]
    | false =>
      rw [(mp_node k o n v ts).2 hc]
      simp only [Ex.ev]
      rw [mps_ev bs ts (ty_args h).1]
theorem mps_ev (bs : List Bn) : ∀ ts : List Ex, (Ex.tys bs ts).1 = 0 → Ex.evs bs (mps foldOne ts) = Ex.evs bs ts
  | [], _ => rfl
  | t :: ts, h => by
    obtain ⟨h1, h2, _⟩ := tys_cons h
    simp only [mps, Ex.evs]; rw [mp_ev bs t h1, mps_ev bs ts h2]
end
theorem cst_congr {a b : Ex} (h1 : a.ty [] = b.ty []) (h2 : (b.ty []).2 = 0 → a.ev [] = b.ev []) : cst a = cst b := by
  unfold cst
  rw [h1]
  by_cases h : (b.ty []).2 ≠ 0 ∨ (b.ty []).1 ≠ 1
  · rw [if_pos h, if_pos h]
  · rw [if_neg h, if_neg h]
    simp only [not_or, Classical.not_not] at h
    rw [h2 h.1]
theorem lit_mp (n : Int) : mp foldOne (lit n) = lit n := by
  have hc : cst (lit n) = (n, true) := by
    unfold cst
    rw [(lit_ty [] n).1, (lit_ty [] n).2]; rfl
  obtain ⟨k, o, nm, v, ts, h⟩ : ∃ k o nm v ts, lit n = .mk k o nm v ts := by cases lit n; exact ⟨_, _, _, _, _, rfl⟩
  rw [h] at hc ⊢
  rw [(mp_node k o nm v ts).1 (by rw [hc]), hc, ← h]
mutual
theorem mp_idem : ∀ e : Ex, mp foldOne (mp foldOne e) = mp foldOne e
  | .mk k o n v ts => by
    cases hc : (cst (.mk k o n v ts)).2 with
    | true => rw [(mp_node k o n v ts).1 hc, lit_mp]
    | false =>
      have he := (mp_node k o n v ts).2 hc
      have hcc : cst (.mk k o n v (mps foldOne ts)) = cst (.mk k o n v ts) := by
        rw [← he]; exact cst_congr (mp_ty [] _) (mp_ev [] _)
      rw [he, (mp_node k o n v _).2 (by rw [hcc]; exact hc), mps_idem ts]
theorem mps_idem : ∀ ts : List Ex, mps foldOne (mps foldOne ts) = mps foldOne ts
  | [] => rfl
  | t :: ts => by simp only [mps]; rw [mp_idem t, mps_idem ts]
end
mutual
theorem eqE_refl : ∀ e : Ex, eqE e e = true
  | .mk k o n v ts => by simp [eqE, eqL_refl ts]
theorem eqL_refl : ∀ ts : List Ex, eqL ts ts = true
  | [] => by simp [eqL]
  | t :: ts => by simp [eqL, eqE_refl t, eqL_refl ts]
end
/-- what folding a checked expression yields -/
theorem fold_all (bs : List Bn) (e : Ex) (h : e.chk = 0) : ∃ f : Ex, fdR e = (f, 0) ∧ f.chk = 0 ∧ fdR f = (f, 0) ∧ tyR bs f = tyR bs e ∧ evR bs f = evR bs e ∧ f.size ≤ e.size ∧ eqE f f = true := by
  obtain ⟨h1, h2, h3⟩ := chk_zero h
  obtain ⟨g1, g2, g3⟩ := mp_ok e h3
  have hc : (mp foldOne e).chk = 0 := by
    unfold Ex.chk
    rw [if_neg (by omega), if_neg (by omega)]; exact g3
  have ht : tyR bs (mp foldOne e) = tyR bs e := by
    unfold tyR
    simp only [hc, h, mp_ty]
  refine ⟨mp foldOne e, by unfold fdR; rw [if_neg (by simp [h])], hc, by unfold fdR; rw [if_neg (by simp [hc]), mp_idem], ht, ?_, g1, eqE_refl _⟩
  unfold evR
  rw [ht]
  by_cases h0 : (tyR bs e).2 = 0
  · rw [if_neg (by simp [h0]), if_neg (by simp [h0])]
    have := tyR_zero h0
    exact mp_ev bs e (by rw [← this.2.2]; exact h0)
  · rw [if_pos h0, if_pos h0]
end Go.Proofs.YtgkalcboklhdgaaDoor

