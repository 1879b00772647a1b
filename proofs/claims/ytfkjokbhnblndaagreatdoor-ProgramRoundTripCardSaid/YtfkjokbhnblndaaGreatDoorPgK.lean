/- The cases of a select. -/
import Derived.Test.YtfkjokbhnblndaaGreatDoorPgI
import Derived.Test.YtfkjokbhnblndaaGreatDoorPgJ
namespace Go.Proofs.YtfkjokbhnblndaaGreatDoor
open Go.RowKit Go.Shelf
set_option linter.unusedVariables false
set_option linter.unusedSimpArgs false
attribute [local go_sem] Oper.semAt_some

def errL (g : Nat → Int) : List Nat → Int
  | [] => 0
  | j :: js => if g j = 0 then errL g js else g j
theorem errL_app (g : Nat → Int) : ∀ xs ys, errL g (xs ++ ys) = if errL g xs = 0 then errL g ys else errL g xs
  | [], ys => by simp [errL]
  | x :: xs, ys => by
    simp only [List.cons_append, errL, errL_app g xs ys]
    split <;> simp_all
theorem errL_range (g : Nat → Int) : ∀ n, errL g (List.range n) = fstE g n
  | 0 => rfl
  | n + 1 => by rw [List.range_succ, errL_app, errL_range g n]; simp only [errL, fstE]; split <;> simp_all
def cntL (l : List Int) : List Nat → Nat
  | [] => 0
  | j :: js => (if l.getD (3 * j) 0 = 3 then 1 else 0) + cntL l js
theorem cntL_app (l : List Int) : ∀ xs ys, cntL l (xs ++ ys) = cntL l xs + cntL l ys
  | [], ys => by simp [cntL]
  | x :: xs, ys => by simp only [List.cons_append, cntL, cntL_app l xs ys]; omega
theorem cntL_range (l : List Int) : ∀ n, cntL l (List.range n) = defs l n
  | 0 => rfl
  | n + 1 => by rw [List.range_succ, cntL_app, cntL_range l n]; simp [cntL, defs]
theorem fin_range (m : Nat) : (List.finRange m).map (·.1) = List.range m := by
  apply List.ext_getElem
  · simp
  · intro i h1 h2; simp
theorem cntL_le (l : List Int) : ∀ xs, cntL l xs ≤ xs.length
  | [] => by simp [cntL]
  | x :: xs => by have := cntL_le l xs; simp only [cntL, List.length_cons]; split <;> omega
/-- the error of case j -/
abbrev cz (p : Pg) (f : Fn) (l : List Int) (j : Nat) : Int := ckCase p f (l.getD (3 * j) 0) (l.getD (3 * j + 1) 0) (l.getD (3 * j + 2) 0)

theorem cells_own {X Y : World} {row : Option Nat} {B : Nat} {c : Array Value} {t : TypeId} {f : Nat × Nat} (h : X.heap[B]? = some (.cells c t f)) (hg : X.grownBy Y row) (hr : ∀ r, row = some r → ∃ o : Obj, X.heap[r]? = some o ∧ o.isCells = false) : Y.heap[B]? = some (.cells c t f) :=
  (hg.block B (lt_of_block h) (fun e => by obtain ⟨o, ho, hc⟩ := hr B e.symm; rw [h] at ho; cases ho; cases hc)).trans h
theorem keepsFrom_ext {B : Nat} {W W' : World} (h : Below W.heap.size W W') : KeepsFrom B W W' := ⟨h.size, fun i o _ hi _ => (h.block i (lt_of_block hi)).trans hi⟩
theorem Kc.of_ext {n₀ B1 B2 : Nat} {W W' : World} (h : Ext W W') (hn : n₀ ≤ W.heap.size) : Kc n₀ B1 B2 W W' := ⟨h.below.mono hn, fun hl => h.below.block _ hl, fun hl => h.below.block _ hl⟩
theorem Kc.setCell {n₀ B1 B2 : Nat} (W : World) (b : Nat) (v : Value) (hn : n₀ ≤ b) (h1 : B1 ≠ b) (h2 : B2 ≠ b) : Kc n₀ B1 B2 W (W.setCell ⟨b, 0, none⟩ v) :=
  ⟨(Below.refl _ W).setCell (p := ⟨b, 0, none⟩) hn _, fun _ => Below.heap_setCell _ _ _ _ h1, fun _ => Below.heap_setCell _ _ _ _ h2⟩
theorem Kc.putObj {n₀ B1 B2 : Nat} {w : World} (hn : n₀ ≤ w.heap.size) (h1 : B1 < w.heap.size) (h2 : B2 < w.heap.size) (W : World) (l : Nat) (o o' : Obj) (hl : w.heap.size ≤ l) (h : W.heap[l]? = some o) (g1 : o.isCells = false) (g2 : o.isWalk = false) : Kc n₀ B1 B2 W (W.putObj l o') := by
  have hg := grownBy_putObj' W l o'
  exact ⟨belowK_b hn W l o o' hl h g1 g2, fun hlt => hg.block _ hlt (fun e => by cases e; omega), fun hlt => hg.block _ hlt (fun e => by cases e; omega)⟩

set_option maxRecDepth 100000 in
set_option maxHeartbeats 4000000 in
theorem cases_ok (p : Pg) (A : PA) (f : Fn) (ca : Option Addr) (cc : Nat) (l : List Int) (b off c m : Nat) (w : World) (h : CkAt w p A f ca) (hl : IntsAt w (some ⟨b, off, none⟩) l) (hlen : l.length = 3 * m) (hm1 : 1 ≤ m) (hm6 : m ≤ 6) (hcap : l.length ≤ c) (hw : ∀ n ∈ l, i64 n) :
    Gives Tryz.prog 137 #[CKV p A f ca cc, .slice (some ⟨b, off, none⟩) l.length c] w (.int .i64 (if fstE (cz p f l) m ≠ 0 then fstE (cz p f l) m else if defs l m > 1 then 16 else 0)) := by
  obtain ⟨res, hres⟩ : ∃ r, r = (if fstE (cz p f l) m ≠ 0 then fstE (cz p f l) m else if defs l m > 1 then 16 else 0) := ⟨_, rfl⟩
  rw [← hres]
  have HRES := Lib.hid hres
  clear hres
  have HA := Lib.hid h
  have HL := Lib.hid hl
  have HW := Lib.hid hw
  have HLen := Lib.hid hlen
  rw [hlen]
  rw [hlen] at hcap
  unfold Gives
  obtain ⟨fa, fc, oa, oc, va, vc⟩ := A
  dsimp only [CKV]
  obtain ⟨W2, hW2⟩ : ∃ W, W = ((w.alloc (.cells #[.slice fa p.fs.length fc, .slice oa p.os.length oc, .slice va p.vs.length vc, sV f.name, .int .i64 f.params, .int .i64 f.regs, .int .i64 f.prio, .bool f.cl, .slice ca f.code.length cc] 142)).alloc (.cells #[.int .i64 0] 33)).alloc (.cells #[.int .i64 0] 3) := ⟨_, rfl⟩
  clear h hl hw
  refine (callsIn_wide (n := 9)).1 ?_
  refine callsIn_of_wp_marks Tryz.func137 rfl trivial ?_ rfl
  simp only [Tryz.ntmps137, List.size_toArray, List.length_cons, List.length_nil, Nat.reduceAdd, Nat.reduceSub, Array.replicate_succ, Array.replicate_zero, List.push_toArray, List.append_toArray, List.nil_append, List.cons_append]
  have g1 : ((3 * (m : Int)) == 0) = false := by rw [beq_eq_false_iff_ne]; omega
  have g2 : ¬ 18 < 3 * (m : Int) := by omega
  have hz2 : W2.heap.size = w.heap.size + 3 := by rw [hW2]; simp
  have hE2 : Ext w W2 := by rw [hW2]; exact ext_alloc (ext_alloc (ext_alloc (Below.refl _ _) _) _) _
  obtain ⟨hb0, hb1, hb2⟩ : W2.heap[w.heap.size]? = some (.cells #[.slice fa p.fs.length fc, .slice oa p.os.length oc, .slice va p.vs.length vc, sV f.name, .int .i64 f.params, .int .i64 f.regs, .int .i64 f.prio, .bool f.cl, .slice ca f.code.length cc] 142 (0, 0)) ∧ Boxed W2 (w.heap.size + 1) 33 (.int .i64 0) ∧ Boxed W2 (w.heap.size + 1 + 1) 3 (.int .i64 0) := by
    subst hW2
    have h0 := alloc_here w (.cells #[.slice fa p.fs.length fc, .slice oa p.os.length oc, .slice va p.vs.length vc, sV f.name, .int .i64 f.params, .int .i64 f.regs, .int .i64 f.prio, .bool f.cl, .slice ca f.code.length cc] 142)
    have h1 := alloc_here (w.alloc (.cells #[.slice fa p.fs.length fc, .slice oa p.os.length oc, .slice va p.vs.length vc, sV f.name, .int .i64 f.params, .int .i64 f.regs, .int .i64 f.prio, .bool f.cl, .slice ca f.code.length cc] 142)) (.cells #[.int .i64 0] 33)
    have h2 := alloc_here ((w.alloc (.cells #[.slice fa p.fs.length fc, .slice oa p.os.length oc, .slice va p.vs.length vc, sV f.name, .int .i64 f.params, .int .i64 f.regs, .int .i64 f.prio, .bool f.cl, .slice ca f.code.length cc] 142)).alloc (.cells #[.int .i64 0] 33)) (.cells #[.int .i64 0] 3)
    simp only [World.size_alloc] at h1 h2
    exact ⟨(Below.heap_alloc _ _ _ (by simp; omega)).trans ((Below.heap_alloc _ _ _ (by simp)).trans h0), (Below.heap_alloc _ _ _ (by simp)).trans h1, h2⟩
  gi_wp2_with (fail)
  rw [← hW2]
  clear hW2
  refine ⟨trivial, callsIn_wide.2 ((xchunk_any _ _ _ _).mono ?_)⟩
  rintro x W3 ⟨rfl, hW3⟩
  rw [hz2]
  have hE3 : Ext W2 W3 := by rw [hW3]; exact ext_alloc (ext_alloc (Below.refl _ _) _) _
  have hz3 : W3.heap.size = w.heap.size + 5 := by rw [hW3]; simp [hz2]
  have hb3 : W3.heap[w.heap.size + 3]? = some (.cells #[.slice (some ⟨b, off, none⟩) (3 * m) c] 29 (0, 0)) := by
    rw [hW3, ← hz2]; exact (Below.heap_alloc _ _ _ (by simp)).trans (alloc_here _ _)
  have hb4 : W3.heap[w.heap.size + 3 + 1]? = some (.cells #[.int .i64 3] 3 (0, 0)) := by
    rw [hW3, ← hz2]
    have := alloc_here (W2.alloc (.cells #[.slice (some ⟨b, off, none⟩) (3 * m) c] 29)) (.cells #[.int .i64 3] 3)
    rw [World.size_alloc] at this
    exact this
  have hb0 := (hE3.below.block _ (lt_of_block hb0)).trans hb0
  have hb1 : Boxed W3 _ _ _ := (hE3.below.block _ (lt_of_block hb1)).trans hb1
  have hb2 : Boxed W3 _ _ _ := (hE3.below.block _ (lt_of_block hb2)).trans hb2
  have hEw := Ext.trans hE2 hE3
  have HST := chunk_stops 8 (w.heap.size + 3) (w.heap.size + 3 + 1) w.heap.size b off m c (by omega) hcap W3 hEw.size hb3 hb4
  clear hW3
  gi_wp2_with (fail)
  refine wpIn_rangeFunc_ownH rfl (by omega) (gf := 159) (lb := #[.pointer (some ⟨w.heap.size + 3, 0, none⟩), .pointer (some ⟨w.heap.size + 3 + 1, 0, none⟩)]) rfl trivial (enters_fn Tryz.func159 (by kernel_rfl) rfl)
    (encs := fun x : Fin m => #[.slice (some ⟨b, off + 3 * x.1, none⟩) 3 3]) HST Kc.trans (Kc.putObj hEw.size (by omega) (by omega)) (Below.refl _ _) (fun _ => rfl)
    (fun ys W => (errL (cz p f l) (ys.map (·.1)) = 0 ∧ Boxed W (w.heap.size + 1) 33 (.int .i64 0) ∧ Boxed W (w.heap.size + 1 + 1) 3 (.int .i64 (cntL l (ys.map (·.1)) : Nat)) ∧ W.heap[w.heap.size]? = some (.cells #[.slice fa p.fs.length fc, .slice oa p.os.length oc, .slice va p.vs.length vc, sV f.name, .int .i64 f.params, .int .i64 f.regs, .int .i64 f.prio, .bool f.cl, .slice ca f.code.length cc] 142 (0, 0))) ∧ Below w.heap.size w W)
    (fun cd ys W => (cd = .ret ∧ ∃ e, e ≠ 0 ∧ errL (cz p f l) (ys.map (·.1)) = e ∧ Boxed W (w.heap.size + 1) 33 (.int .i64 e)) ∧ Below w.heap.size w W)
    (OwnFrom.and (fun s X Y row hs hg hr => ⟨hs.1, boxed_own (w.heap.size + 1) 33 (fun (_ : Unit) => Value.int .i64 0) () X Y row hs.2.1 hg (fun r e => (hr r e).2), boxed_own (w.heap.size + 1 + 1) 3 (fun (_ : Unit) => Value.int .i64 (cntL l (s.map (·.1)) : Nat)) () X Y row hs.2.2.1 hg (fun r e => (hr r e).2), cells_own hs.2.2.2 hg (fun r e => (hr r e).2)⟩) (ownFrom_below (Nat.le_refl _) hEw.size))
    (fun cd => OwnFrom.and (fun s X Y row hs hg hr => ⟨hs.1, by obtain ⟨e, h1, h2, h3⟩ := hs.2; exact ⟨e, h1, h2, boxed_own (w.heap.size + 1) 33 (fun (_ : Unit) => Value.int .i64 e) () X Y row h3 hg (fun r e => (hr r e).2)⟩⟩) (ownFrom_below (Nat.le_refl _) hEw.size))
    ⟨⟨rfl, hb1, hb2, hb0⟩, hEw⟩
    (fun x a' W => a' = { tmps := #[.agg #[.slice fa p.fs.length fc, .slice oa p.os.length oc, .slice va p.vs.length vc, sV f.name, .int .i64 f.params, .int .i64 f.regs, .int .i64 f.prio, .bool f.cl, .slice ca f.code.length cc], .slice (some ⟨b, off, none⟩) (3 * m) c, .pointer (some ⟨w.heap.size, 0, none⟩), undef, .pointer (some ⟨w.heap.size + 1, 0, none⟩), .pointer (some ⟨w.heap.size + 1 + 1, 0, none⟩), .slice (some ⟨b, off + 3 * x.1, none⟩) 3 3, undef, undef, undef, undef, .slice (some ⟨b, off, none⟩) (3 * m) c, .int .i64 (3 * (m : Int)), .bool false, .bool false, .slice (some ⟨b, off, none⟩) (3 * m) c, .int .i64 (3 * (m : Int)), .int .i64 0, .bool false, .bool false, .bool false, .slice (some ⟨b, off, none⟩) (3 * m) c, .int .i64 (3 * (m : Int)), .bool false, .bool false, .slice (some ⟨b, off, none⟩) (3 * m) c, .func (.func 159) #[] #[.pointer (some ⟨w.heap.size + 3, 0, none⟩), .pointer (some ⟨w.heap.size + 3 + 1, 0, none⟩)], .slice (some ⟨b, off + 3 * x.1, none⟩) 3 3, undef, undef, undef, undef, undef, undef, undef, undef, undef, undef, undef, undef, undef, undef, undef, undef, undef, undef, undef, undef, undef, undef, undef, undef, undef, undef, undef, undef, undef, undef, undef, undef, undef, undef, undef, undef, undef, undef, undef, undef, undef, undef, undef, undef, undef, undef], defers := [] })
    (fun x a' _ X Y row hs hg hr => hs)
    ?assign ?body ?done ?stop
  case assign =>
    rintro l' ys x W K hI hK
    gi_wp2
    exact hK _ _ ⟨Nat.le_refl _, fun _ _ _ h _ => h⟩ (Kc.refl _ _ _ _) hI rfl
  case body =>
    rintro l' ys ⟨j, hj⟩ a' W hl' ⟨rr, hr⟩ ⟨⟨hI1, hI2, hI3, hI4⟩, hIB⟩ rfl hlt
    have hcl := cntL_le l (ys.map (·.1))
    rw [List.length_map] at hcl
    have hlx := HLen.out
    have hI := HL.out.below hIB
    have cellAt : ∀ k, k < l.length → W.cell? ⟨b, off + k, none⟩ = some (.int .i64 (l.getD k 0)) ∧ i64 (l.getD k 0) := fun k hk => by
      obtain ⟨b', o', e', hc⟩ := hI k hk
      have e2 : b = b' ∧ off = o' := by simpa using e'
      obtain ⟨rfl, rfl⟩ := e2
      have e1 : l.getD k 0 = l[k] := by rw [List.getD_eq_getElem?_getD, List.getElem?_eq_getElem hk]; rfl
      exact ⟨by rw [e1]; exact hc, by rw [e1]; exact HW.out _ (List.getElem_mem hk)⟩
    obtain ⟨c0, -⟩ := cellAt (3 * j) (by omega)
    obtain ⟨c1, w1⟩ := cellAt (3 * j + 1) (by omega)
    obtain ⟨c2, -⟩ := cellAt (3 * j + 2) (by omega)
    rw [← Nat.add_assoc] at c1 c2
    clear cellAt hI
    obtain ⟨z, hz⟩ : ∃ z, z = cz p f l j := ⟨_, rfl⟩
    have HER := Lib.hid (show errL (cz p f l) ((ys ++ [(⟨j, hj⟩ : Fin m)]).map (·.1)) = z by
      rw [List.map_append, errL_app, if_pos hI1, hz]; simp only [List.map_cons, List.map_nil, errL]; split <;> simp_all)
    have HCN := Lib.hid (show cntL l ((ys ++ [(⟨j, hj⟩ : Fin m)]).map (·.1)) = cntL l (ys.map (·.1)) + (if l.getD (3 * j) 0 = 3 then 1 else 0) by
      rw [List.map_append, cntL_app]; simp [cntL])
    have HZ := Lib.hid hz
    have KO := Lib.hid (fun W' (hW' : Ext w W') => show Gives Tryz.prog 111 #[.agg #[.slice fa p.fs.length fc, .slice oa p.os.length oc, .slice va p.vs.length vc, sV f.name, .int .i64 f.params, .int .i64 f.regs, .int .i64 f.prio, .bool f.cl, .slice ca f.code.length cc], .agg #[.int .i64 12, .int .i64 6], .int .i64 (l.getD (3 * j + 1) 0)] W' (.int .i64 (ckOpd p f (Ob' 6) (l.getD (3 * j + 1) 0))) from
      operand_any p ⟨fa, fc, oa, oc, va, vc⟩ f ca cc (Ob' 6) _ W' (HA.out.ext hW') w1 ⟨by decide, by decide⟩)
    have KR := Lib.hid (fun W' => show Gives Tryz.prog 140 #[.agg #[.slice fa p.fs.length fc, .slice oa p.os.length oc, .slice va p.vs.length vc, sV f.name, .int .i64 f.params, .int .i64 f.regs, .int .i64 f.prio, .bool f.cl, .slice ca f.code.length cc], .int .i64 (l.getD (3 * j + 2) 0)] W' (.bool (inB (l.getD (3 * j + 2) 0) 0 (f.regs - 1))) from
      register_any p ⟨fa, fc, oa, oc, va, vc⟩ f ca cc _ W' HA.out.regs)
    unfold cz ckCase at HZ
    generalize l.getD (3 * j) 0 = v0 at *
    generalize l.getD (3 * j + 1) 0 = v1 at *
    generalize l.getD (3 * j + 2) 0 = v2 at *
    generalize ckOpd p f (Ob' 6) v1 = oe at *
    generalize inB v2 0 (f.regs - 1) = rb at *
    have hws := hIB.size
    have HI2 := Lib.hid hI2
    have HI3 := Lib.hid hI3
    have HI4 := Lib.hid hI4
    have HIB := Lib.hid hIB
    have BX := Lib.hid (fun W' (hW' : Ext W W') => show (W'.cell? ⟨b, off + 3 * j, none⟩ = some (.int .i64 v0) ∧ W'.cell? ⟨b, off + 3 * j + 1, none⟩ = some (.int .i64 v1) ∧ W'.cell? ⟨b, off + 3 * j + 2, none⟩ = some (.int .i64 v2)) ∧ (W'.cell? ⟨w.heap.size, 0, none⟩ = some (.slice fa p.fs.length fc) ∧ W'.cell? ⟨w.heap.size, 1, none⟩ = some (.slice oa p.os.length oc) ∧ W'.cell? ⟨w.heap.size, 2, none⟩ = some (.slice va p.vs.length vc) ∧ W'.cell? ⟨w.heap.size, 3, none⟩ = some (sV f.name) ∧ W'.cell? ⟨w.heap.size, 4, none⟩ = some (.int .i64 f.params) ∧ W'.cell? ⟨w.heap.size, 5, none⟩ = some (.int .i64 f.regs) ∧ W'.cell? ⟨w.heap.size, 6, none⟩ = some (.int .i64 f.prio) ∧ W'.cell? ⟨w.heap.size, 7, none⟩ = some (.bool f.cl) ∧ W'.cell? ⟨w.heap.size, 8, none⟩ = some (.slice ca f.code.length cc)) ∧
        Boxed W' (w.heap.size + 1) 33 (.int .i64 0) ∧ Boxed W' (w.heap.size + 1 + 1) 3 (.int .i64 (cntL l (ys.map (·.1)) : Nat)) ∧ W'.heap[w.heap.size]? = some (.cells #[.slice fa p.fs.length fc, .slice oa p.os.length oc, .slice va p.vs.length vc, sV f.name, .int .i64 f.params, .int .i64 f.regs, .int .i64 f.prio, .bool f.cl, .slice ca f.code.length cc] 142 (0, 0)) from by
      have h4 := (hW'.below.block _ (lt_of_block HI4.out)).trans HI4.out
      exact ⟨⟨cell_ext c0 hW', cell_ext c1 hW', cell_ext c2 hW'⟩, ⟨cell_of h4 rfl, cell_of h4 rfl, cell_of h4 rfl, cell_of h4 rfl, cell_of h4 rfl, cell_of h4 rfl, cell_of h4 rfl, cell_of h4 rfl, cell_of h4 rfl⟩, (hW'.below.block _ (lt_of_block HI2.out)).trans HI2.out, (hW'.below.block _ (lt_of_block HI3.out)).trans HI3.out, h4⟩)
    generalize cntL l (ys.map (·.1)) = cn at *
    have u0 := fun U : Up W => Up.cell c0 U
    have u1 := fun U : Up W => Up.cell c1 U
    have u2 := fun U : Up W => Up.cell c2 U
    clear c0 c1 c2 hI1 hI2 hI3 hI4 hIB hz w1
    gi_wp2_with (fail)
    refine wpIn_region_up_round (by kernel_rfl) (by kernel_rfl) (by kernel_rfl) ?_
    repeat (go_big_quiet_step (fail))
    refine wpQuiet_nil ?_
    rintro _ ⟨U, rfl⟩
    have HU := Lib.hid U.ext
    generalize U.W = W4 at *
    clear u0 u1 u2
    obtain ⟨⟨c0, c1, c2⟩, ⟨d0, d1, d2, d3, d4, d5, d6, d7, d8⟩, bR, bD, bC⟩ := BX.out _ HU.out
    have cR := bR.cell
    have fR := bR.frozen
    have cD := bD.cell
    have fD := bD.frozen
    have hcn8 : (cn : Int) + 1 ≤ 1000 := by omega
    simp only [Exit.then, Exit.inBlock]
    by_cases h3 : v0 = 3
    · subst h3
      rw [if_pos rfl] at HZ HCN
      by_cases h1 : v1 = 0
      · subst h1
        by_cases h2 : v2 = 0
        · subst h2
          gi_wp2
          exact ⟨(keepsFrom_ext HU.out).trans ((KeepsOthers.setCell _ _ _).from _), (Kc.of_ext HU.out hws).trans (Kc.setCell _ _ _ (by omega) (by omega) (by omega)), ⟨by rw [HER.out, HZ.out] <;> simp, bR.other (by omega) _, by rw [HCN.out]; exact bD.set _, (Below.heap_setCell _ _ _ _ (show w.heap.size ≠ w.heap.size + 1 + 1 by omega)).trans bC⟩, (Ext.trans HIB.out HU.out).below.setCell (p := ⟨w.heap.size + 1 + 1, 0, none⟩) (show w.heap.size ≤ w.heap.size + 1 + 1 by omega) _⟩
        · have h2' : (v2 != 0) = true := by rw [bne_iff_ne]; exact h2
          gi_wp2
          exact ⟨((keepsFrom_ext HU.out).trans ((KeepsOthers.setCell _ _ _).from _)).trans ((KeepsOthers.setCell _ _ _).from _), ⟨rfl, 1, by decide, by rw [HER.out, HZ.out] <;> simp [h2], (bR.other (by omega) _).set _⟩, ((Ext.trans HIB.out HU.out).below.setCell (p := ⟨w.heap.size + 1 + 1, 0, none⟩) (show w.heap.size ≤ w.heap.size + 1 + 1 by omega) _).setCell (p := ⟨w.heap.size + 1, 0, none⟩) (by simp) _⟩
      · have h1' : (v1 != 0) = true := by rw [bne_iff_ne]; exact h1
        gi_wp2
        exact ⟨((keepsFrom_ext HU.out).trans ((KeepsOthers.setCell _ _ _).from _)).trans ((KeepsOthers.setCell _ _ _).from _), ⟨rfl, 1, by decide, by rw [HER.out, HZ.out] <;> simp [h1], (bR.other (by omega) _).set _⟩, ((Ext.trans HIB.out HU.out).below.setCell (p := ⟨w.heap.size + 1 + 1, 0, none⟩) (show w.heap.size ≤ w.heap.size + 1 + 1 by omega) _).setCell (p := ⟨w.heap.size + 1, 0, none⟩) (by simp) _⟩
    · rw [if_neg h3] at HZ HCN
      have h3' : (v0 == 3) = false := by simpa using h3
      by_cases h12 : v0 = 1 ∨ v0 = 2
      · rw [if_pos h12] at HZ
        rcases h12 with hk | hk
        · subst hk
          gi_wp2_with (fail)
          have e0 := fun U : Up W4 => Up.cell d0 U
          have e1 := fun U : Up W4 => Up.cell d1 U
          have e2 := fun U : Up W4 => Up.cell d2 U
          have e3 := fun U : Up W4 => Up.cell d3 U
          have e4 := fun U : Up W4 => Up.cell d4 U
          have e5 := fun U : Up W4 => Up.cell d5 U
          have e6 := fun U : Up W4 => Up.cell d6 U
          have e7 := fun U : Up W4 => Up.cell d7 U
          have e8 := fun U : Up W4 => Up.cell d8 U
          refine wpIn_region_up_round (by kernel_rfl) (by kernel_rfl) (by kernel_rfl) ?_
          repeat (go_big_quiet_step (first | (go_at_call 133; refine Up.callE (fun W' hW' => of_any 6 W') ?_; with_reducible rfl) | (go_at_call 111; refine Up.callE (fun W' hW' => KO.out W' (Ext.trans HIB.out (Ext.trans HU.out hW'))) ?_; with_reducible rfl)))
          refine wpQuiet_nil ?_
          rintro _ ⟨U, rfl⟩
          have HU5 := Lib.hid (Ext.trans HU.out U.ext)
          generalize U.W = W5 at *
          clear e0 e1 e2 e3 e4 e5 e6 e7 e8 c0 c1 c2 d0 d1 d2 d3 d4 d5 d6 d7 d8 bR bD bC cR fR cD fD
          obtain ⟨⟨c0, c1, c2⟩, ⟨d0, d1, d2, d3, d4, d5, d6, d7, d8⟩, bR, bD, bC⟩ := BX.out _ HU5.out
          have cR := bR.cell
          have fR := bR.frozen
          simp only [Exit.then, Exit.inBlock]
          by_cases ho : oe = 0
          · subst ho
            rw [if_neg (by simp)] at HZ
            gi_wp2_with (fail)
            refine ⟨trivial, (CallsIn.inRound l' (callsIn_wide.2 (KR.out W5))).mono ?_⟩
            rintro e W6 ⟨rfl, hE6⟩
            have HU6 := Lib.hid (Ext.trans HU5.out hE6)
            clear hE6 c0 c1 c2 d0 d1 d2 d3 d4 d5 d6 d7 d8 bR bD bC cR fR
            obtain ⟨⟨c0, c1, c2⟩, ⟨d0, d1, d2, d3, d4, d5, d6, d7, d8⟩, bR, bD, bC⟩ := BX.out _ HU6.out
            have cR := bR.cell
            have fR := bR.frozen
            cases rb with
            | true =>
              gi_wp2
              exact ⟨keepsFrom_ext HU6.out, Kc.of_ext HU6.out hws, ⟨by rw [HER.out, HZ.out] <;> simp, bR, by rw [HCN.out]; exact bD, bC⟩, Ext.trans HIB.out HU6.out⟩
            | false =>
              gi_wp2
              exact ⟨(keepsFrom_ext HU6.out).trans ((KeepsOthers.setCell _ _ _).from _), ⟨rfl, 2, by decide, by rw [HER.out, HZ.out] <;> simp, bR.set _⟩, (Ext.trans HIB.out HU6.out).below.setCell (p := ⟨w.heap.size + 1, 0, none⟩) (by simp) _⟩
          · have ho' : (oe != 0) = true := by rw [bne_iff_ne]; exact ho
            rw [if_pos ho] at HZ
            have HO := Lib.hid ho
            clear ho
            gi_wp2
            exact ⟨(keepsFrom_ext HU5.out).trans ((KeepsOthers.setCell _ _ _).from _), ⟨rfl, oe, HO.out, by rw [HER.out, HZ.out] <;> rfl, bR.set _⟩, (Ext.trans HIB.out HU5.out).below.setCell (p := ⟨w.heap.size + 1, 0, none⟩) (by simp) _⟩
        · subst hk
          gi_wp2_with (fail)
          have e0 := fun U : Up W4 => Up.cell d0 U
          have e1 := fun U : Up W4 => Up.cell d1 U
          have e2 := fun U : Up W4 => Up.cell d2 U
          have e3 := fun U : Up W4 => Up.cell d3 U
          have e4 := fun U : Up W4 => Up.cell d4 U
          have e5 := fun U : Up W4 => Up.cell d5 U
          have e6 := fun U : Up W4 => Up.cell d6 U
          have e7 := fun U : Up W4 => Up.cell d7 U
          have e8 := fun U : Up W4 => Up.cell d8 U
          refine wpIn_region_up_round (by kernel_rfl) (by kernel_rfl) (by kernel_rfl) ?_
          repeat (go_big_quiet_step (first | (go_at_call 133; refine Up.callE (fun W' hW' => of_any 6 W') ?_; with_reducible rfl) | (go_at_call 111; refine Up.callE (fun W' hW' => KO.out W' (Ext.trans HIB.out (Ext.trans HU.out hW'))) ?_; with_reducible rfl)))
          refine wpQuiet_nil ?_
          rintro _ ⟨U, rfl⟩
          have HU5 := Lib.hid (Ext.trans HU.out U.ext)
          generalize U.W = W5 at *
          clear e0 e1 e2 e3 e4 e5 e6 e7 e8 c0 c1 c2 d0 d1 d2 d3 d4 d5 d6 d7 d8 bR bD bC cR fR cD fD
          obtain ⟨⟨c0, c1, c2⟩, ⟨d0, d1, d2, d3, d4, d5, d6, d7, d8⟩, bR, bD, bC⟩ := BX.out _ HU5.out
          have cR := bR.cell
          have fR := bR.frozen
          simp only [Exit.then, Exit.inBlock]
          by_cases ho : oe = 0
          · subst ho
            rw [if_neg (by simp)] at HZ
            by_cases h2 : v2 = 0
            · subst h2
              gi_wp2
              refine ⟨trivial, ?_⟩
              gi_wp2
              exact ⟨keepsFrom_ext HU5.out, Kc.of_ext HU5.out hws, ⟨by rw [HER.out, HZ.out] <;> simp, bR, by rw [HCN.out]; exact bD, bC⟩, Ext.trans HIB.out HU5.out⟩
            · have h2' : (v2 != 0) = true := by rw [bne_iff_ne]; exact h2
              gi_wp2
              refine ⟨trivial, ?_⟩
              gi_wp2
              exact ⟨(keepsFrom_ext HU5.out).trans ((KeepsOthers.setCell _ _ _).from _), ⟨rfl, 1, by decide, by rw [HER.out, HZ.out] <;> simp [h2], bR.set _⟩, (Ext.trans HIB.out HU5.out).below.setCell (p := ⟨w.heap.size + 1, 0, none⟩) (by simp) _⟩
          · have ho' : (oe != 0) = true := by rw [bne_iff_ne]; exact ho
            rw [if_pos ho] at HZ
            have HO := Lib.hid ho
            clear ho
            gi_wp2
            exact ⟨(keepsFrom_ext HU5.out).trans ((KeepsOthers.setCell _ _ _).from _), ⟨rfl, oe, HO.out, by rw [HER.out, HZ.out] <;> rfl, bR.set _⟩, (Ext.trans HIB.out HU5.out).below.setCell (p := ⟨w.heap.size + 1, 0, none⟩) (by simp) _⟩
      · rw [if_neg h12] at HZ
        have g1 : (v0 == 1) = false := by simpa using fun e => h12 (.inl e)
        have g2 : (v0 == 2) = false := by simpa using fun e => h12 (.inr e)
        gi_wp2
        exact ⟨(keepsFrom_ext HU.out).trans ((KeepsOthers.setCell _ _ _).from _), ⟨rfl, 8, by decide, by rw [HER.out, HZ.out] <;> rfl, bR.set _⟩, (Ext.trans HIB.out HU.out).below.setCell (p := ⟨w.heap.size + 1, 0, none⟩) (by simp) _⟩
  case done =>
    rintro D ys W hD hys ⟨⟨h1, h2, h3, h4⟩, h5⟩ hK
    subst hys
    rw [fin_range, errL_range] at h1
    rw [fin_range, cntL_range] at h3
    rw [if_neg (by simp [h1])] at HRES
    have cS := h2.cell
    have fS := h2.frozen
    have cD := h3.cell
    have hws := hEw.size
    generalize defs l m = dn at *
    clear h1 h3 h4
    by_cases hd : 1 < dn
    · have hd' : (1 : Int) < dn := by omega
      gi_wp2
      have hK' := (KeepsOthers.setCell W ⟨w.heap.size + 1, 0, none⟩ (.int .i64 16)).same D _ hK rfl
      refine ⟨by simp, .inl ⟨_, _, rfl, run_takeDeferred hK', ?_⟩⟩
      have hc5 := cell_kept (World.cell?_setCell_same' W ⟨w.heap.size + 1, 0, none⟩ (.int .i64 16) (by rw [cS]; rfl)) (grownBy_putObj' _ D (.deferred none)) (fun r e => by cases e; exact ⟨_, hK', rfl⟩)
      refine ⟨.int .i64 16, ?_, by rw [HRES.out, if_pos hd], (h5.setCell (p := ⟨w.heap.size + 1, 0, none⟩) (by simp) _).trans (belowK_b (w := w) (Nat.le_refl _) _ D _ _ (by omega) hK' rfl rfl)⟩
      simp [results, Tryz.f137, go_sem, hc5]
    · have hd' : ¬ (1 : Int) < dn := by omega
      gi_wp2
      have hK' := (KeepsOthers.setCell W ⟨w.heap.size + 1, 0, none⟩ (.int .i64 0)).same D _ hK rfl
      refine ⟨by simp, .inl ⟨_, _, rfl, run_takeDeferred hK', ?_⟩⟩
      have hc5 := cell_kept (World.cell?_setCell_same' W ⟨w.heap.size + 1, 0, none⟩ (.int .i64 0) (by rw [cS]; rfl)) (grownBy_putObj' _ D (.deferred none)) (fun r e => by cases e; exact ⟨_, hK', rfl⟩)
      refine ⟨.int .i64 0, ?_, by rw [HRES.out, if_neg hd], (h5.setCell (p := ⟨w.heap.size + 1, 0, none⟩) (by simp) _).trans (belowK_b (w := w) (Nat.le_refl _) _ D _ _ (by omega) hK' rfl rfl)⟩
      simp [results, Tryz.f137, go_sem, hc5]
  case stop =>
    rintro D cd ys W hD hys ⟨⟨rfl, e, he, h1, h2⟩, h5⟩ hK
    have hws := hEw.size
    have HZ2 := Lib.hid (show res = e by
      obtain ⟨rest, hrest⟩ := hys
      have h3 : fstE (cz p f l) m = e := by
        rw [← errL_range, ← fin_range, ← hrest, List.map_append, errL_app, h1, if_neg he]
      rw [HRES.out, h3, if_pos he])
    have cS := h2.cell
    have HNE := Lib.hid he
    clear h1 hys he
    gi_wp2
    refine ⟨by simp, .inl ⟨_, _, rfl, run_takeDeferred hK, ?_⟩⟩
    have hc5 := cell_kept cS (grownBy_putObj' _ D (.deferred none)) (fun r e => by cases e; exact ⟨_, hK, rfl⟩)
    refine ⟨.int .i64 e, ?_, by rw [HZ2.out], h5.trans (belowK_b (w := w) (Nat.le_refl _) W D _ _ (by omega) hK rfl rfl)⟩
    simp [results, Tryz.f137, go_sem, hc5]
end Go.Proofs.YtfkjokbhnblndaaGreatDoor
