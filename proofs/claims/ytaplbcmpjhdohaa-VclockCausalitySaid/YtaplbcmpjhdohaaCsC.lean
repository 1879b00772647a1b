/- VclockCausality: learn. -/
import Derived.Test.YtaplbcmpjhdohaaCsB
namespace Go.Proofs.Ytaplbcmpjhdohaa
open Go.RowKit
set_option linter.unusedVariables false
set_option linter.unusedSimpArgs false

/-- the values of the region that joins -/
def lnR (v0 v1 v2 v3 v4 : Value) (w : World) (r : List Int) : Nat → (Nat → Value) → World → Prop
  | 0, s, _ => s 0 = v0
  | 1, s, _ => s 1 = v1
  | 2, s, _ => s 2 = v2
  | 3, s, _ => s 3 = v3
  | 4, s, _ => s 4 = v4
  | 5, s, W => ∃ p d, s 5 = .tuple #[.slice p r.length d, .int .i64 0] ∧ IntsAt W p r ∧ FreshA w p
  | 6, s, W => ∃ p d, s 6 = .tuple #[.slice p r.length d, .int .i64 0] ∧ IntsAt W p r ∧ FreshA w p
  | 7, s, W => ∃ p d, s 7 = .slice p r.length d ∧ IntsAt W p r ∧ FreshA w p
  | 8, s, _ => s 8 = .int .i64 0
  | 9, s, W => ∃ p d, s 9 = .slice p r.length d ∧ IntsAt W p r ∧ FreshA w p
  | 10, s, _ => s 10 = .int .i64 0
  | _, _, _ => True
theorem lnR_st (v0 v1 v2 v3 v4 : Value) (w : World) (r : List Int) : ∀ i s s' W W', lnR v0 v1 v2 v3 v4 w r i s W → (∀ k ∈ [i], s' k = s k) → Ext W W' → lnR v0 v1 v2 v3 v4 w r i s' W' := by
  intro i s s' W W' h hs hE
  have hs := hs i (by simp)
  match i, h, hs with
  | 0, h, hs => exact hs.trans h
  | 1, h, hs => exact hs.trans h
  | 2, h, hs => exact hs.trans h
  | 3, h, hs => exact hs.trans h
  | 4, h, hs => exact hs.trans h
  | 5, ⟨p, d, h1, h2, h3⟩, hs => exact ⟨p, d, hs.trans h1, h2.below hE, h3⟩
  | 6, ⟨p, d, h1, h2, h3⟩, hs => exact ⟨p, d, hs.trans h1, h2.below hE, h3⟩
  | 7, ⟨p, d, h1, h2, h3⟩, hs => exact ⟨p, d, hs.trans h1, h2.below hE, h3⟩
  | 8, h, hs => exact hs.trans h
  | 9, ⟨p, d, h1, h2, h3⟩, hs => exact ⟨p, d, hs.trans h1, h2.below hE, h3⟩
  | 10, h, hs => exact hs.trans h
  | i + 11, h, hs => exact trivial
theorem eleven {α : Type} (fs : List α) (h : fs.length = 11) : ∃ a b c d e f g i j k l, fs = [a, b, c, d, e, f, g, i, j, k, l] := by
  match fs, h with
  | [a, b, c, d, e, f, g, i, j, k, l], _ => exact ⟨a, b, c, d, e, f, g, i, j, k, l, rfl⟩

/-- block k may have turned to o; the others stay -/
structure Sto (k : Nat) (o : Obj) (w W : World) : Prop where
  os : W.os = w.os
  tape : W.tape = w.tape
  output : W.output = w.output
  size : w.heap.size ≤ W.heap.size
  other : ∀ j, j < w.heap.size → j ≠ k → W.heap[j]? = w.heap[j]?
  here : W.heap[k]? = w.heap[k]? ∨ W.heap[k]? = some o
theorem Sto.refl (k : Nat) (o : Obj) (w : World) : Sto k o w w := ⟨rfl, rfl, rfl, Nat.le_refl _, fun _ _ _ => rfl, .inl rfl⟩
theorem Sto.drawn (k : Nat) (o : Obj) (W : World) : Sto k o W { W with drawn := W.drawn + 1 } := ⟨rfl, rfl, rfl, Nat.le_refl _, fun _ _ _ => rfl, .inl rfl⟩
theorem Sto.trans {k : Nat} {o : Obj} {a b c : World} (h : Sto k o a b) (g : Sto k o b c) : Sto k o a c :=
  ⟨g.os.trans h.os, g.tape.trans h.tape, g.output.trans h.output, Nat.le_trans h.size g.size, fun j hj hk => (g.other j (Nat.lt_of_lt_of_le hj h.size) hk).trans (h.other j hj hk), by
    rcases g.here with g1 | g1
    · rcases h.here with h1 | h1
      · exact .inl (g1.trans h1)
      · exact .inr (g1.trans h1)
    · exact .inr g1⟩
/-- the values of the region that stores -/
def l7R (k : Nat) (v : Value) : Nat → (Nat → Value) → World → Prop
  | 0, s, _ => s 0 = v
  | 1, s, _ => s 1 = .int .i64 0
  | 2, s, _ => s 2 = .int .i64 0
  | 3, s, _ => s 3 = .int .i64 0
  | 4, _, W => W.heap[k]? = some (.cells #[v] 23 (0, 0))
  | _, _, _ => True
theorem l7R_st (k : Nat) (v : Value) : ∀ i s s' W W', l7R k v i s W → (∀ j ∈ [i], s' j = s j) → Sto k (.cells #[v] 23 (0, 0)) W W' → l7R k v i s' W' := by
  intro i s s' W W' h hs hE
  have hs := hs i (by simp)
  match i, h, hs with
  | 0, h, hs => exact hs.trans h
  | 1, h, hs => exact hs.trans h
  | 2, h, hs => exact hs.trans h
  | 3, h, hs => exact hs.trans h
  | 4, h, hs => exact hE.here.elim (fun e => e.trans h) id
  | i + 5, h, hs => exact trivial
theorem five {α : Type} (fs : List α) (h : fs.length = 5) : ∃ a b c d e, fs = [a, b, c, d, e] := by
  match fs, h with
  | [a, b, c, d, e], _ => exact ⟨a, b, c, d, e, rfl⟩
theorem Lr.join2 {W W' : World} {kn kb cc ec : Nat} {kl : List Bool} {ca ca' : Option Addr} {cd cd' : Nat} {cl cl' : List Int} (L : Lr W kn kb cc ec kl ca cd cl) (hI : IntsAt W ca' cl') (hl : cl'.length = 4) (h7 : ∀ y, ca' = some y → y.block ≠ kn ∧ y.block ≠ kb ∧ y.block ≠ cc ∧ y.block ≠ ec)
    (hS : Sto cc (.cells #[.slice ca' cl'.length cd'] 23 (0, 0)) W W') (hc : W'.heap[cc]? = some (.cells #[.slice ca' cl'.length cd'] 23 (0, 0))) : Lr (W'.setCell ⟨ec, 0, none⟩ (.int .i64 0)) kn kb cc ec kl ca' cd' cl' := by
  obtain ⟨n1, n2, n3, n4, n5, n6⟩ := L.ne
  have hk : ∀ j, j < W.heap.size → j ≠ cc → j ≠ ec → (W'.setCell ⟨ec, 0, none⟩ (.int .i64 0)).heap[j]? = W.heap[j]? := fun j h0 h1 h2 =>
    (Below.heap_setCell _ _ _ _ h2).trans (hS.other j h0 h1)
  refine ⟨(hk _ (lt_of_block L.h1) n4 n5).trans L.h1, L.h2.keep (hk _ L.h2.lt (Ne.symm n2) (Ne.symm n3)), ?_, ?_, hl, ?_, h7⟩
  · exact (Below.heap_setCell _ _ _ _ n6).trans hc
  · exact hI.keep (fun x e _ hlt => hk _ hlt (h7 x e).2.2.1 (h7 x e).2.2.2)
  · exact one_setCell ((hS.other _ (lt_of_block L.h6) (Ne.symm n6)).trans L.h6)

/-- what learn leaves -/
def LPost (W0 : World) (kn kb cc ec : Nat) (kl : List Bool) (cl' : List Int) (k : Nat) (yl : List Bool) (W' : World) : Prop :=
  Ext W0 W' ∧ ∃ ca' cd' kl', Lr W' kn kb cc ec kl' ca' cd' cl' ∧ kl'.length = kl.length ∧ ∀ m, kl'.getD m false = (kl.getD m false || decide (m = k) || yl.getD m false)

theorem getD_set (l : List Bool) (j m : Nat) (v : Bool) (hj : j < l.length) : (l.set j v).getD m false = if m = j then v else l.getD m false := by
  by_cases e : m = j
  · subst e; simp [List.getD_eq_getElem?_getD, hj]
  · rw [if_neg e]; simp [List.getD_eq_getElem?_getD, List.getElem?_set_ne (Ne.symm e)]

set_option maxRecDepth 100000 in
set_option maxHeartbeats 4000000 in
theorem learn_any (base : Nat) (W0 W : World) (Bc Bb : Nat) (vC vB vP : Value) (CL : List CE) (KL : List KE) (PL : List Int) (S : St base W0 Bc Bb vC vB vP CL KL PL) (hE : Ext W0 W)
    (kn kb cc ec : Nat) (kl : List Bool) (ca : Option Addr) (cd : Nat) (cl : List Int) (L : Lr W kn kb cc ec kl ca cd cl) (l1 : W0.heap.size ≤ kn) (l2 : W0.heap.size ≤ kb) (l3 : W0.heap.size ≤ cc) (l4 : W0.heap.size ≤ ec)
    (k : Nat) (x : CE) (y : KE) (hx : CL[k]? = some x) (hy : KL[k]? = some y) (hyl : y.l.length = k) (hk : k < kl.length) (hn : kl.length ≤ 1000) (q1 : chk cl = 0) (q2 : chk x.l = 0) :
    Calls Try.prog 29 #[.int .i64 (k : Int), .pointer (some ⟨kn, 0, none⟩), .pointer (some ⟨Bb, 0, none⟩), .pointer (some ⟨cc, 0, none⟩), .pointer (some ⟨Bc, 0, none⟩), .pointer (some ⟨ec, 0, none⟩)] W fun e W' =>
      e = .returned (.tuple #[]) ∧ LPost W0 kn kb cc ec kl (List.zipWith max cl x.l) k y.l W' := by
  have hkC : k < CL.length := (List.getElem?_eq_some_iff.1 hx).1
  have hkB : k < KL.length := (List.getElem?_eq_some_iff.1 hy).1
  have hmC : x ∈ CL := List.mem_of_getElem? hx
  have hmB : y ∈ KL := List.mem_of_getElem? hy
  obtain ⟨gC, capC, hvC⟩ := Go.Joins.ownsRow_form S.oC (by omega)
  obtain ⟨gB, capB, hvB⟩ := Go.Joins.ownsRow_form S.oB (by omega)
  have FC := Lib.hid (fun W' (h : Ext W0 W') => show W'.cell? ⟨Bb, 0, none⟩ = some (.slice (some ⟨gB, 0, none⟩) KL.length capB) ∧ W'.cell? ⟨gB, k, none⟩ = some (.slice (some ⟨y.b, 0, none⟩) k k) ∧ W'.cell? ⟨Bc, 0, none⟩ = some (.slice (some ⟨gC, 0, none⟩) CL.length capC) ∧ W'.cell? ⟨gC, k, none⟩ = some (.slice x.a x.l.length x.c) from by
    have S' := S.ext h
    have oB := S'.oB
    have oC := S'.oC
    rw [hvB] at oB
    rw [hvC] at oC
    refine ⟨by rw [← hvB]; exact cell_of_one S'.hB, ?_, by rw [← hvC]; exact cell_of_one S'.hC, ?_⟩
    · rw [oB.cellAt k (by omega), List.getElem?_map, hy]
      simp [KV, hyl]
    · rw [oC.cellAt k (by omega), List.getElem?_map, hx]
      rfl)
  have h4 := (S.ints x hmC).2.1
  have HJ := Lib.hid (fun W' (h : Ext W0 W') (hI : IntsAt W' ca cl) => Join_ok cl x.l ca x.a cd x.c W' q1 q2 (by rw [L.h5, h4]) hI ((S.ints x hmC).1.below h))
  have HRow := Lib.hid (fun W' (h : Ext W0 W') => (S.rows y hmB).ext h)
  have HS := Lib.hid S
  have HLen := Lib.hid (show (List.zipWith max cl x.l).length = 4 by rw [List.length_zipWith, L.h5, h4]; rfl)
  have HYL := Lib.hid hyl
  clear hx hy hmC hmB hvC hvB S h4 q1 q2
  obtain ⟨N, hN⟩ : ∃ N, N = kl.length := ⟨_, rfl⟩
  have HN := Lib.hid hN
  rw [← hN] at hk hn
  obtain ⟨c1, fz, L1, E1⟩ : W.cell? ⟨kn, 0, none⟩ = some (.slice (some ⟨kb, 0, none⟩) N N) ∧ W.frozen? ⟨kb, k, none⟩ = false ∧ Lr (W.setCell ⟨kb, k, none⟩ (.bool true)) kn kb cc ec (kl.set k true) ca cd cl ∧ Ext W0 (W.setCell ⟨kb, k, none⟩ (.bool true)) :=
    ⟨by rw [hN]; exact cell_of_one L.h1, L.h2.free k, L.know k true, hE.setCell (p := ⟨kb, k, none⟩) l2 _⟩
  obtain ⟨c2, hc2⟩ : ∃ c, W.cell? ⟨kb, k, none⟩ = some c := ⟨_, L.h2.get (m := k) (by omega)⟩
  obtain ⟨d1, d2, d3, d4⟩ := FC.out _ E1
  have HL1 := Lib.hid L1
  have HE1 := Lib.hid E1
  have HL := Lib.hid L
  clear hyl hN L hE L1 E1 d3 d4
  generalize KL.length = nB at *
  generalize CL.length = nC at *
  generalize hr : List.zipWith max cl x.l = r at *
  clear hr
  go_enter Try.func29, Try.ntmps29
  go_wp2
  clear d1 d2 c1 fz hc2
  generalize W.setCell ⟨kb, k, none⟩ (.bool true) = W1 at *
  go_loopw [19] (fun i wr => ∃ (j : Nat) (kj : List Bool), j ≤ k ∧ i = .int .i64 j ∧ Lr wr kn kb cc ec kj ca cd cl ∧ kj.length = N ∧ (∀ m, kj.getD m false = (kl.getD m false || decide (m = k) || (decide (m < j) && y.l.getD m false))) ∧ Ext W0 wr) (fun i _ => k - (intOf i).toNat)
  case atStart =>
    refine ⟨0, kl.set k true, Nat.zero_le _, rfl, HL1.out, by rw [List.length_set]; exact HN.out.symm, fun m => ?_, HE1.out⟩
    have := HN.out
    rw [getD_set _ _ _ _ (by omega)]
    by_cases e : m = k <;> simp [e]
  case round =>
    obtain ⟨j, kj, hj, rfl, LJ, hkj, hpt, hEr⟩ := hrel
    have HEw := Lib.hid hEr
    have HPT := Lib.hid hpt
    clear hEr hpt
    by_cases hlt : j < k
    · have hjN : j < N := by omega
      have b1 := (HRow.out _ HEw.out).get (m := j) (by rw [HYL.out]; exact hlt)
      have c1 := cell_of_one LJ.h1
      rw [hkj] at c1
      have c2 := LJ.h2.get (m := j) (by omega)
      have fz := LJ.h2.free j
      have hjy : j < y.l.length := by rw [HYL.out]; exact hlt
      have hjk : j < kj.length := by omega
      have HNX := Lib.hid (fun v : Bool => fun e : v = (kj[j] || y.l[j]) => show Lr (wr.drew.setCell ⟨kb, j, none⟩ (.bool v)) kn kb cc ec (kj.set j v) ca cd cl ∧ (kj.set j v).length = N ∧ (∀ m, (kj.set j v).getD m false = (kl.getD m false || decide (m = k) || (decide (m < j + 1) && y.l.getD m false))) ∧ Ext W0 (wr.drew.setCell ⟨kb, j, none⟩ (.bool v)) from by
        refine ⟨(LJ.ext ((Below.refl _ wr).drew)).know j v, by rw [List.length_set]; exact hkj, fun m => ?_, (HEw.out.drew).setCell (p := ⟨kb, j, none⟩) l2 _⟩
        rw [getD_set _ _ _ _ hjk]
        have hpj := HPT.out j
        have hgj : kj.getD j false = kj[j] := by simp [List.getD_eq_getElem?_getD, hjk]
        have hyj : y.l.getD j false = y.l[j] := by simp [List.getD_eq_getElem?_getD, hjy]
        by_cases em : m = j
        · subst em
          rw [if_pos rfl, e]
          rw [hgj] at hpj
          rw [hyj, hpj]
          simp
        · rw [if_neg em, HPT.out m]
          have : decide (m < j + 1) = decide (m < j) := by simp only [decide_eq_decide]; omega
          rw [this])
      generalize y.l[j] = yb at *
      generalize kj[j] = kv at *
      have HK := Lib.hid (And.intro hkj LJ)
      clear hkj LJ hjy hjk HPT
      cases kv with
      | true =>
        have hN := HNX.out true rfl
        go_wp2_with fail
        go_still_tail 10, (by kernel_rfl)
        go_wp2
        go_roundw
        case rel => exact ⟨j + 1, _, by omega, by go_num, hN.1, hN.2.1, hN.2.2.1, hN.2.2.2⟩
        case measure => simp [intOf]; omega
      | false =>
        have hN := HNX.out yb (by simp)
        go_wp2_with fail
        go_still_tail 10, (by kernel_rfl)
        go_wp2
        go_roundw
        case rel => exact ⟨j + 1, _, by omega, by go_num, hN.1, hN.2.1, hN.2.2.1, hN.2.2.2⟩
        case measure => simp [intOf]; omega
    · have hjk : j = k := by omega
      subst hjk
      have HZ := Lib.hid hkj
      obtain ⟨d1, d2, d3, d4⟩ := FC.out _ HEw.out
      have HLJ := Lib.hid LJ
      clear hkj
      go_wp2_with fail
      refine wp_region_g (by kernel_rfl) Ext (fun W => show Below W.heap.size W { W with drawn := W.drawn + 1 } from ⟨rfl, rfl, rfl, Nat.le_refl _, fun _ _ => rfl⟩) Ext.trans (lnR (.slice ca cl.length cd) (.slice (some ⟨gC, 0, none⟩) nC capC) (.int .i64 (j : Int)) (.pointer (some ⟨gC, j, none⟩)) (.slice x.a x.l.length x.c) wr r) (fun i => [i]) (lnR_st _ _ _ _ _ _ _) (by kernel_rfl) (by kernel_rfl) (by kernel_rfl) 48 rfl (by kernel_rfl) ?_ ?_
      · intro i op ho a' W hA
        obtain ⟨d1, d2, d3, d4⟩ := FC.out W (Ext.trans HEw.out hA.rel)
        have d5 := cell_of_one ((hA.rel.below.block _ (lt_of_block LJ.h3)).trans LJ.h3)
        match i, ho with
        | 0, ho =>
          obtain rfl := Option.some.inj ho
          have e1 : a'.eval (.tmp 3) = .pointer (some ⟨cc, 0, none⟩) := hA.keep 3 (by kernel_rfl)
          refine GoesG.value (.slice ca cl.length cd) rfl ?_ (Below.refl _ _) (fun s h1 h2 => h1 rfl)
          simp only [execOp, e1]
          simp [go_sem, d3, d4, d5, hkC]
        | 1, ho =>
          obtain rfl := Option.some.inj ho
          have e1 : a'.eval (.tmp 4) = .pointer (some ⟨Bc, 0, none⟩) := hA.keep 4 (by kernel_rfl)
          refine GoesG.value (.slice (some ⟨gC, 0, none⟩) nC capC) rfl ?_ (Below.refl _ _) (fun s h1 h2 => h1 rfl)
          simp only [execOp, e1]
          simp [go_sem, d3, d4, d5, hkC]
        | 2, ho =>
          obtain rfl := Option.some.inj ho
          have e1 : a'.eval (.tmp 0) = .int .i64 (j : Int) := hA.keep 0 (by kernel_rfl)
          refine GoesG.value (.int .i64 (j : Int)) rfl ?_ (Below.refl _ _) (fun s h1 h2 => h1 rfl)
          simp only [execOp, e1]
          simp [go_sem, d3, d4, d5, hkC]
        | 3, ho =>
          obtain rfl := Option.some.inj ho
          have e1 : a'.eval (.tmp 37) = .slice (some ⟨gC, 0, none⟩) nC capC := (sv_dst (l := _) rfl).symm.trans (hA.new 1 (by decide) (by kernel_rfl))
          have e2 : a'.eval (.tmp 38) = .int .i64 (j : Int) := (sv_dst (l := _) rfl).symm.trans (hA.new 2 (by decide) (by kernel_rfl))
          refine GoesG.value (.pointer (some ⟨gC, j, none⟩)) rfl ?_ (Below.refl _ _) (fun s h1 h2 => h1 rfl)
          simp only [execOp, e1, e2]
          simp [go_sem, d3, d4, d5, hkC]
        | 4, ho =>
          obtain rfl := Option.some.inj ho
          have e1 : a'.eval (.tmp 39) = .pointer (some ⟨gC, j, none⟩) := (sv_dst (l := _) rfl).symm.trans (hA.new 3 (by decide) (by kernel_rfl))
          refine GoesG.value (.slice x.a x.l.length x.c) rfl ?_ (Below.refl _ _) (fun s h1 h2 => h1 rfl)
          simp only [execOp, e1]
          simp [go_sem, d3, d4, d5, hkC]
        | 5, ho =>
          obtain rfl := Option.some.inj ho
          have e1 : a'.eval (.tmp 36) = .slice ca cl.length cd := (sv_dst (l := _) rfl).symm.trans (hA.new 0 (by decide) (by kernel_rfl))
          have e2 : a'.eval (.tmp 40) = .slice x.a x.l.length x.c := (sv_dst (l := _) rfl).symm.trans (hA.new 4 (by decide) (by kernel_rfl))
          refine GoesG.call 12 #[.slice ca cl.length cd, .slice x.a x.l.length x.c] rfl ?_ ((HJ.out W (Ext.trans HEw.out hA.rel) (LJ.h4.below hA.rel)).mono ?_)
          · simp [execOp, resolve, invoke, Deferred.ofValue, e1, e2]
            rfl
          · rintro _ W1 ⟨⟨p, d, rfl, hI, hF⟩, hE1⟩
            exact ⟨_, rfl, hE1, fun s h1 h2 => ⟨p, d, h1 rfl, hI, hF.mono hA.rel.size⟩⟩
        | 6, ho =>
          obtain rfl := Option.some.inj ho
          obtain ⟨p, d, e0, hI, hF⟩ := hA.new 5 (by decide) (by kernel_rfl)
          have e1 : a'.eval (.tmp 41) = .tuple #[.slice p r.length d, .int .i64 0] := (sv_dst (l := _) rfl).symm.trans e0
          exact GoesG.move (.tmp 41) rfl rfl (Below.refl _ _) (fun s h1 h2 => ⟨p, d, (h1 rfl).trans e1, hI, hF⟩)
        | 7, ho =>
          obtain rfl := Option.some.inj ho
          obtain ⟨p, d, e0, hI, hF⟩ := hA.new 6 (by decide) (by kernel_rfl)
          have e1 : a'.eval (.tmp 35) = .tuple #[.slice p r.length d, .int .i64 0] := (sv_dst (l := _) rfl).symm.trans e0
          refine GoesG.value (.slice p r.length d) rfl ?_ (Below.refl _ _) (fun s h1 h2 => ⟨p, d, h1 rfl, hI, hF⟩)
          simp only [execOp, e1]
          simp [go_sem]
        | 8, ho =>
          obtain rfl := Option.some.inj ho
          obtain ⟨p, d, e0, hI, hF⟩ := hA.new 6 (by decide) (by kernel_rfl)
          have e1 : a'.eval (.tmp 35) = .tuple #[.slice p r.length d, .int .i64 0] := (sv_dst (l := _) rfl).symm.trans e0
          refine GoesG.value (.int .i64 0) rfl ?_ (Below.refl _ _) (fun s h1 h2 => h1 rfl)
          simp only [execOp, e1]
          simp [go_sem]
        | 9, ho =>
          obtain rfl := Option.some.inj ho
          obtain ⟨p, d, e0, hI, hF⟩ := hA.new 7 (by decide) (by kernel_rfl)
          have e1 : a'.eval (.tmp 42) = .slice p r.length d := (sv_dst (l := _) rfl).symm.trans e0
          exact GoesG.assign (.tmp 42) rfl rfl (Below.refl _ _) (fun s h1 h2 => ⟨p, d, (h1 rfl).trans e1, hI, hF⟩)
        | 10, ho =>
          obtain rfl := Option.some.inj ho
          have e1 : a'.eval (.tmp 43) = .int .i64 0 := (sv_dst (l := _) rfl).symm.trans (hA.new 8 (by decide) (by kernel_rfl))
          exact GoesG.assign (.tmp 43) rfl rfl (Below.refl _ _) (fun s h1 h2 => (h1 rfl).trans e1)
        | i + 11, ho => cases ho
      · intro vs w4 hvs hG hΦ
        obtain ⟨u0, u1, u2, u3, u4, u5, u6, u7, u8, u9, u10, rfl⟩ := eleven vs hvs
        obtain ⟨p, d, hu9, hI, hF⟩ : ∃ p d, u9 = .slice p r.length d ∧ IntsAt w4 p r ∧ FreshA wr p := hΦ 9 (by decide)
        have hu10 : u10 = .int .i64 0 := hΦ 10 (by decide)
        subst hu9
        subst hu10
        have L4 := LJ.ext hG
        have c6 := cell_of_one L4.h6
        obtain ⟨f3, f6⟩ : w4.frozen? ⟨cc, 0, none⟩ = false ∧ (w4.setCell ⟨cc, 0, none⟩ (.slice p r.length d)).frozen? ⟨ec, 0, none⟩ = false := ⟨free_of_one L4.h3, by rw [World.frozen?_setCell]; exact free_of_one L4.h6⟩
        have HF2 := Lib.hid (show ∀ y, p = some y → y.block ≠ kn ∧ y.block ≠ kb ∧ y.block ≠ cc ∧ y.block ≠ ec from fun y e => by
          have := hF y e
          have g1 := lt_of_block LJ.h1
          have g2 := LJ.h2.lt
          have g3 := lt_of_block LJ.h3
          have g4 := lt_of_block LJ.h6
          refine ⟨?_, ?_, ?_, ?_⟩ <;> omega)
        have HL4 := Lib.hid L4
        have HI := Lib.hid hI
        have HEX := Lib.hid (Ext.trans HEw.out hG)
        clear hΦ hG hvs hI hF d1 d2 d3 d4 L4 LJ c6 f3 f6
        simp only [putAll, Act.put, List.setIfInBounds_toArray, List.set_cons_succ, List.set_cons_zero]
        go_wp2_with fail
        refine wp_region_tail (l1 := [_, _, _, _, _]) (l2 := [_]) (by kernel_rfl) (Sto cc (.cells #[.slice p r.length d] 23 (0, 0))) (Sto.refl _ _) (Sto.drawn _ _) Sto.trans (l7R cc (.slice p r.length d)) (fun i => [i]) (l7R_st _ _) (by kernel_rfl) (by kernel_rfl) (by kernel_rfl) 48 rfl (by kernel_rfl) (by kernel_rfl) ?_ ?_
        · intro i op ho a' W hA
          obtain ⟨n1, n2, n3, n4, n5, n6⟩ := HL4.out.ne
          have c6 := cell_of_one ((hA.rel.other _ (lt_of_block HL4.out.h6) (Ne.symm n6)).trans HL4.out.h6)
          obtain ⟨cv, hcv⟩ : ∃ cv, W.heap[cc]? = some (.cells #[cv] 23 (0, 0)) := by
            rcases hA.rel.here with e | e
            · exact ⟨_, e.trans HL4.out.h3⟩
            · exact ⟨_, e⟩
          match i, ho with
          | 0, ho =>
            obtain rfl := Option.some.inj ho
            exact GoesG.move (.tmp 9) rfl rfl (Sto.refl _ _ _) (fun s h1 h2 => (h1 rfl).trans (hA.keep 9 (by kernel_rfl)))
          | 1, ho =>
            obtain rfl := Option.some.inj ho
            have e1 : a'.eval (.tmp 5) = .pointer (some ⟨ec, 0, none⟩) := hA.keep 5 (by kernel_rfl)
            refine GoesG.value (.int .i64 0) rfl ?_ (Sto.refl _ _ _) (fun s h1 h2 => h1 rfl)
            simp only [execOp, e1]
            simp [go_sem, c6]
          | 2, ho =>
            obtain rfl := Option.some.inj ho
            exact GoesG.move (.tmp 10) rfl rfl (Sto.refl _ _ _) (fun s h1 h2 => (h1 rfl).trans (hA.keep 10 (by kernel_rfl)))
          | 3, ho =>
            obtain rfl := Option.some.inj ho
            have e1 : a'.eval (.tmp 45) = .int .i64 0 := (sv_dst (l := _) rfl).symm.trans (hA.new 1 (by decide) (by kernel_rfl))
            have e2 : a'.eval (.tmp 46) = .int .i64 0 := (sv_dst (l := _) rfl).symm.trans (hA.new 2 (by decide) (by kernel_rfl))
            refine GoesG.value (.int .i64 0) rfl ?_ (Sto.refl _ _ _) (fun s h1 h2 => h1 rfl)
            have e3 : a'.tmps[45]?.getD undef = .int .i64 0 := by rw [← e1]; simp [Act.eval, Array.getD_eq_getD_getElem?]
            have e4 : a'.tmps[46]?.getD undef = .int .i64 0 := by rw [← e2]; simp [Act.eval, Array.getD_eq_getD_getElem?]
            simp only [execOp]
            simp [go_sem, resolve, invoke, builtin, e3, e4, Builtin.max_, Builtin.max2]
          | 4, ho =>
            obtain rfl := Option.some.inj ho
            have e1 : a'.eval (.tmp 3) = .pointer (some ⟨cc, 0, none⟩) := hA.keep 3 (by kernel_rfl)
            have e2 : a'.eval (.tmp 44) = .slice p r.length d := (sv_dst (l := _) rfl).symm.trans (hA.new 0 (by decide) (by kernel_rfl))
            have c3 := cell_of_one hcv
            have f3 := free_of_one hcv
            refine GoesG.skip (W' := W.setCell ⟨cc, 0, none⟩ (.slice p r.length d)) rfl ?_ ⟨rfl, rfl, rfl, by simp [World.setCell], fun j _ hj => Below.heap_setCell _ _ _ _ hj, .inr (one_setCell hcv)⟩ (fun s h1 h2 => one_setCell hcv)
            simp only [execOp, e1, e2]
            simp [go_sem, c3, f3]
          | i + 5, ho => cases ho
        · intro vs2 w5 hvs hS hΦ
          obtain ⟨t0, t1, t2, t3, t4, rfl⟩ := five vs2 hvs
          have ht3 : t3 = .int .i64 0 := hΦ 3 (by decide)
          have hc5 : w5.heap[cc]? = some (.cells #[.slice p r.length d] 23 (0, 0)) := hΦ 4 (by decide)
          subst ht3
          obtain ⟨n1, n2, n3, n4, n5, n6⟩ := HL4.out.ne
          have c6 := (hS.other _ (lt_of_block HL4.out.h6) (Ne.symm n6)).trans HL4.out.h6
          have f6 := free_of_one c6
          have c6 := cell_of_one c6
          have HNEW := Lib.hid (HL4.out.join2 (cd' := d) HI.out HLen.out HF2.out hS hc5)
          have HE9 := Lib.hid ((show Ext W0 w5 from ⟨hS.os.trans HEX.out.os, hS.tape.trans HEX.out.tape, hS.output.trans HEX.out.output, Nat.le_trans HEX.out.size hS.size, fun j hj => (hS.other j (Nat.lt_of_lt_of_le hj HEX.out.size) (by omega)).trans (HEX.out.block j hj)⟩).setCell (p := ⟨ec, 0, none⟩) l4 (.int .i64 0))
          clear hΦ hS hvs hc5 n1 n2 n3 n4 n5 n6
          simp only [putAll, Act.put, List.setIfInBounds_toArray, List.set_cons_succ, List.set_cons_zero]
          go_wp2
          go_end0
          refine ⟨rfl, HE9.out, _, _, kj, HNEW.out, by rw [HZ.out, HN.out], fun m => ?_⟩
          rw [HPT.out m]
          by_cases e : m < j
          · simp [e]
          · have : y.l.getD m false = false := by
              have := HYL.out
              rw [List.getD_eq_getElem?_getD, List.getElem?_eq_none (by omega)]; rfl
            rw [this]; simp

end Go.Proofs.Ytaplbcmpjhdohaa
