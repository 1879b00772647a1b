/- The reference's Check. (With it: The reference's checkInstr.; The reference's checkObject, checkVar, checkFunc.; The reference's checkVar, checkFunc.) -/
import Derived.Test.YtfkjokbhnblndaaGreatDoorPgQ5
import Derived.Test.YtfkjokbhnblndaaGreatDoorPgM
import Derived.Test.YtfkjokbhnblndaaGreatDoorPgO
import Derived.Test.YtfkjokbhnblndaaGreatDoorPgV
import Derived.Test.YtfkjokbhnblndaaGreatDoorPgP

namespace Go.Proofs.YtfkjokbhnblndaaGreatDoor
open Go.RowKit
set_option linter.unusedVariables false
set_option linter.unusedSimpArgs false

theorem shTab_sel : ∀ q ∈ shTab, (q.2.args = 3 ↔ q.1 = 67) ∧ (q.2.args = 1 → q.2.b.what = 8 ∨ q.2.b.what = 9) := by decide
theorem fn_of_b {p : Pg} {f : Fn} {x : Ins} {s : Sh} (hs : shp x.op = some s) (h1 : s.args = 1) (hb : ckOpd p f s.b x.b = 0) : inB x.b 0 ((p.fs.length : Int) - 1) = true := by
  have hw := (shTab_sel _ (shp_some _ _ hs)).2 h1
  dsimp only at hw
  unfold ckOpd at hb
  rw [if_neg (by omega), if_neg (by omega), if_neg (by omega), if_neg (by omega), if_neg (by omega), if_neg (by omega), if_neg (by omega), if_pos hw] at hb
  cases e : inB x.b 0 ((p.fs.length : Int) - 1) with
  | true => rfl
  | false => rw [e] at hb; cases hb
theorem ckIns_rA {p : Pg} {f : Fn} {x : Ins} {s : Sh} (hs : shp x.op = some s) : ckIns p f x = if f.cl = true ∧ forb x.op = true then 16 else if ckOpd p f s.a x.a ≠ 0 then ckOpd p f s.a x.a else if ckOpd p f s.b x.b ≠ 0 then ckOpd p f s.b x.b else if ckOpd p f s.c x.c ≠ 0 then ckOpd p f s.c x.c else rA p f s.args x := by
  unfold ckIns
  rw [hs]
  dsimp only
  unfold rA cfl
  have h3 := (shTab_sel _ (shp_some _ _ hs)).1
  dsimp only at h3
  simp only [h3]

set_option maxRecDepth 100000 in
set_option maxHeartbeats 4000000 in
theorem rins_none (p : Pg) (A : PA) (f : Fn) (ca : Option Addr) (cc : Nat) (x : Ins) (a : Option Addr) (c : Nat) (w : World) (h : CkAt w p A f ca) (hx : x.wf) (hI : IntsAt w a x.args) (hcap : x.args.length ≤ c) (hs : shp x.op = none) :
    Gives Tryz.prog 91 #[PV p A, FV f ca cc, IV x a c] w (.int .i64 (ckIns p f x)) := by
  unfold Gives
  have HR := Lib.hid (show ckIns p f x = 8 from by unfold ckIns; rw [hs])
  have KR := Lib.hid (fun W => show Gives _ _ _ _ _ from roles_none x.op hs W)
  have KA := Lib.hid (show True from trivial)
  have KB := Lib.hid (show True from trivial)
  have KC := Lib.hid (show True from trivial)
  have KG := Lib.hid (show True from trivial)
  generalize ckIns p f x = res at *
  clear h hI hx
  obtain ⟨fa, fc, oa, oc, va, vc⟩ := A
  try dsimp only [PV, FV, IV] at KA KB KC KG
  dsimp only [PV, FV, IV]
  generalize x.op = xop at *
  generalize x.a = xa at *
  generalize x.b = xb at *
  generalize x.c = xc at *
  generalize x.args.length = n at *
  generalize f.code.length = cl at *
  generalize f.name = fnm at *
  generalize f.params = fpa at *
  generalize f.regs = rg at *
  generalize f.prio = fpr at *
  generalize f.cl = fcl at *
  obtain ⟨wk, hwk⟩ : ∃ W, W = (((w.alloc (.cells #[.slice fa p.fs.length fc, .slice oa p.os.length oc, .slice va p.vs.length vc] 26)).alloc (.cells #[sV fnm, .int .i64 fpa, .int .i64 rg, .int .i64 fpr, .bool fcl, .slice ca cl cc] 47)).alloc (.cells #[.int .i64 xop, .int .i64 xa, .int .i64 xb, .int .i64 xc, .slice a n c] 50)) := ⟨_, rfl⟩
  have BX := Lib.hid (show ∀ W, Ext wk W → (W.cell? ⟨w.heap.size, 0, none⟩ = some (.slice fa p.fs.length fc) ∧ W.cell? ⟨w.heap.size, 1, none⟩ = some (.slice oa p.os.length oc) ∧ W.cell? ⟨w.heap.size, 2, none⟩ = some (.slice va p.vs.length vc) ∧ W.cell? ⟨w.heap.size + 1, 0, none⟩ = some (sV fnm) ∧ W.cell? ⟨w.heap.size + 1, 1, none⟩ = some (.int .i64 fpa) ∧ W.cell? ⟨w.heap.size + 1, 2, none⟩ = some (.int .i64 rg) ∧ W.cell? ⟨w.heap.size + 1, 3, none⟩ = some (.int .i64 fpr) ∧ W.cell? ⟨w.heap.size + 1, 4, none⟩ = some (.bool fcl) ∧ W.cell? ⟨w.heap.size + 1, 5, none⟩ = some (.slice ca cl cc) ∧ W.cell? ⟨w.heap.size + 2, 0, none⟩ = some (.int .i64 xop) ∧ W.cell? ⟨w.heap.size + 2, 1, none⟩ = some (.int .i64 xa) ∧ W.cell? ⟨w.heap.size + 2, 2, none⟩ = some (.int .i64 xb) ∧ W.cell? ⟨w.heap.size + 2, 3, none⟩ = some (.int .i64 xc) ∧ W.cell? ⟨w.heap.size + 2, 4, none⟩ = some (.slice a n c)) from fun W hW => by
    subst hwk
    have h0 := alloc_here w (.cells #[.slice fa p.fs.length fc, .slice oa p.os.length oc, .slice va p.vs.length vc] 26)
    have h0 := (Below.heap_alloc _ (.cells #[sV fnm, .int .i64 fpa, .int .i64 rg, .int .i64 fpr, .bool fcl, .slice ca cl cc] 47) _ (lt_of_block h0)).trans h0
    have h0 := (Below.heap_alloc _ (.cells #[.int .i64 xop, .int .i64 xa, .int .i64 xb, .int .i64 xc, .slice a n c] 50) _ (lt_of_block h0)).trans h0
    have k0 := (hW.below.block _ (lt_of_block h0)).trans h0
    have h1 := alloc_here (w.alloc (.cells #[.slice fa p.fs.length fc, .slice oa p.os.length oc, .slice va p.vs.length vc] 26)) (.cells #[sV fnm, .int .i64 fpa, .int .i64 rg, .int .i64 fpr, .bool fcl, .slice ca cl cc] 47)
    simp only [World.size_alloc] at h1
    have h1 := (Below.heap_alloc _ (.cells #[.int .i64 xop, .int .i64 xa, .int .i64 xb, .int .i64 xc, .slice a n c] 50) _ (lt_of_block h1)).trans h1
    have k1 := (hW.below.block _ (lt_of_block h1)).trans h1
    have h2 := alloc_here ((w.alloc (.cells #[.slice fa p.fs.length fc, .slice oa p.os.length oc, .slice va p.vs.length vc] 26)).alloc (.cells #[sV fnm, .int .i64 fpa, .int .i64 rg, .int .i64 fpr, .bool fcl, .slice ca cl cc] 47)) (.cells #[.int .i64 xop, .int .i64 xa, .int .i64 xb, .int .i64 xc, .slice a n c] 50)
    simp only [World.size_alloc] at h2
    have k2 := (hW.below.block _ (lt_of_block h2)).trans h2
    exact ⟨cell_of k0 rfl, cell_of k0 rfl, cell_of k0 rfl, cell_of k1 rfl, cell_of k1 rfl, cell_of k1 rfl, cell_of k1 rfl, cell_of k1 rfl, cell_of k1 rfl, cell_of k2 rfl, cell_of k2 rfl, cell_of k2 rfl, cell_of k2 rfl, cell_of k2 rfl⟩)
  have HWZ := Lib.hid (show wk.heap.size = w.heap.size + 3 by rw [hwk]; simp)
  have HW := Lib.hid (show Ext w wk by rw [hwk]; exact (ext_alloc (ext_alloc (ext_alloc (Below.refl _ _) _) _) _))
  have HE0 := Lib.hid (show Ext wk wk from Below.refl _ _)
  go_enter Tryz.func91, Tryz.ntmps91
  go_wp2_with fail
  rw [← hwk]
  clear hwk
  refine (KR.out _).mono ?_
  intro w1 hB
  have HE1 := Lib.hid (Ext.trans HE0.out hB)
  clear hB
  obtain ⟨d0_0, d0_1, d0_2, d1_0, d1_1, d1_2, d1_3, d1_4, d1_5, d2_0, d2_1, d2_2, d2_3, d2_4⟩ := BX.out _ HE1.out
  go_wp2
  go_ret
  exact ⟨by rw [HR.out]; rfl, Ext.trans HW.out HE1.out⟩

set_option maxRecDepth 100000 in
set_option maxHeartbeats 4000000 in
theorem rins_some (p : Pg) (A : PA) (f : Fn) (ca : Option Addr) (cc : Nat) (x : Ins) (a : Option Addr) (c : Nat) (w : World) (h : CkAt w p A f ca) (hx : x.wf) (hI : IntsAt w a x.args) (hcap : x.args.length ≤ c) (s : Sh) (hs : shp x.op = some s) :
    Gives Tryz.prog 91 #[PV p A, FV f ca cc, IV x a c] w (.int .i64 (ckIns p f x)) := by
  unfold Gives
  have HCK := Lib.hid (ckIns_rA (p := p) (f := f) hs)
  have hkd := shTab_kind _ (shp_some _ _ hs)
  have hla : s.args = 0 ∨ s.args = 1 ∨ s.args = 2 ∨ s.args = 3 := by have h9 := (shTab_what _ (shp_some _ _ hs)).2.2.2; dsimp only at h9; omega
  have KR := Lib.hid (fun W => roles_some x.op s hs W)
  have KA := Lib.hid (fun W (hW : Ext w W) => rop_any p A f ca cc s.a x.a W (h.ext hW) hx.a (hkd s.a (by simp)).1 (hkd s.a (by simp)).2)
  have KB := Lib.hid (fun W (hW : Ext w W) => rop_any p A f ca cc s.b x.b W (h.ext hW) hx.b (hkd s.b (by simp)).1 (hkd s.b (by simp)).2)
  have KC := Lib.hid (fun W (hW : Ext w W) => rop_any p A f ca cc s.c x.c W (h.ext hW) hx.c (hkd s.c (by simp)).1 (hkd s.c (by simp)).2)
  have KG := Lib.hid (fun W (hW : Ext w W) (hb : ckOpd p f s.b x.b = 0) => rargs_any p A f ca cc s.args x a c W (h.ext hW) hx (hI.below hW) hcap hla (fun e => fn_of_b hs e hb))
  generalize ckIns p f x = res at *
  generalize ckOpd p f s.a x.a = oa1 at *
  generalize ckOpd p f s.b x.b = ob1 at *
  generalize ckOpd p f s.c x.c = oc1 at *
  generalize rA p f s.args x = ar1 at *
  have KFB := Lib.hid (fun W => refForbidden_any x.op W)
  unfold rolS at KR
  generalize rb s.a = b0 at *
  generalize rb s.b = b1 at *
  generalize rb s.c = b2 at *
  generalize ra s.args = b3 at *
  obtain ⟨fb, hfb⟩ : ∃ b, forb x.op = b := ⟨_, rfl⟩
  rw [hfb] at HCK KFB
  clear h hI hx hkd hla hs hcap hfb
  obtain ⟨fa, fc, oa, oc, va, vc⟩ := A
  try dsimp only [PV, FV, IV] at KA KB KC KG
  dsimp only [PV, FV, IV]
  generalize x.op = xop at *
  generalize x.a = xa at *
  generalize x.b = xb at *
  generalize x.c = xc at *
  generalize x.args.length = n at *
  generalize f.code.length = cl at *
  generalize f.name = fnm at *
  generalize f.params = fpa at *
  generalize f.regs = rg at *
  generalize f.prio = fpr at *
  generalize f.cl = fcl at *
  obtain ⟨wk, hwk⟩ : ∃ W, W = (((w.alloc (.cells #[.slice fa p.fs.length fc, .slice oa p.os.length oc, .slice va p.vs.length vc] 26)).alloc (.cells #[sV fnm, .int .i64 fpa, .int .i64 rg, .int .i64 fpr, .bool fcl, .slice ca cl cc] 47)).alloc (.cells #[.int .i64 xop, .int .i64 xa, .int .i64 xb, .int .i64 xc, .slice a n c] 50)) := ⟨_, rfl⟩
  have BX := Lib.hid (show ∀ W, Ext wk W → (W.cell? ⟨w.heap.size, 0, none⟩ = some (.slice fa p.fs.length fc) ∧ W.cell? ⟨w.heap.size, 1, none⟩ = some (.slice oa p.os.length oc) ∧ W.cell? ⟨w.heap.size, 2, none⟩ = some (.slice va p.vs.length vc) ∧ W.cell? ⟨w.heap.size + 1, 0, none⟩ = some (sV fnm) ∧ W.cell? ⟨w.heap.size + 1, 1, none⟩ = some (.int .i64 fpa) ∧ W.cell? ⟨w.heap.size + 1, 2, none⟩ = some (.int .i64 rg) ∧ W.cell? ⟨w.heap.size + 1, 3, none⟩ = some (.int .i64 fpr) ∧ W.cell? ⟨w.heap.size + 1, 4, none⟩ = some (.bool fcl) ∧ W.cell? ⟨w.heap.size + 1, 5, none⟩ = some (.slice ca cl cc) ∧ W.cell? ⟨w.heap.size + 2, 0, none⟩ = some (.int .i64 xop) ∧ W.cell? ⟨w.heap.size + 2, 1, none⟩ = some (.int .i64 xa) ∧ W.cell? ⟨w.heap.size + 2, 2, none⟩ = some (.int .i64 xb) ∧ W.cell? ⟨w.heap.size + 2, 3, none⟩ = some (.int .i64 xc) ∧ W.cell? ⟨w.heap.size + 2, 4, none⟩ = some (.slice a n c)) from fun W hW => by
    subst hwk
    have h0 := alloc_here w (.cells #[.slice fa p.fs.length fc, .slice oa p.os.length oc, .slice va p.vs.length vc] 26)
    have h0 := (Below.heap_alloc _ (.cells #[sV fnm, .int .i64 fpa, .int .i64 rg, .int .i64 fpr, .bool fcl, .slice ca cl cc] 47) _ (lt_of_block h0)).trans h0
    have h0 := (Below.heap_alloc _ (.cells #[.int .i64 xop, .int .i64 xa, .int .i64 xb, .int .i64 xc, .slice a n c] 50) _ (lt_of_block h0)).trans h0
    have k0 := (hW.below.block _ (lt_of_block h0)).trans h0
    have h1 := alloc_here (w.alloc (.cells #[.slice fa p.fs.length fc, .slice oa p.os.length oc, .slice va p.vs.length vc] 26)) (.cells #[sV fnm, .int .i64 fpa, .int .i64 rg, .int .i64 fpr, .bool fcl, .slice ca cl cc] 47)
    simp only [World.size_alloc] at h1
    have h1 := (Below.heap_alloc _ (.cells #[.int .i64 xop, .int .i64 xa, .int .i64 xb, .int .i64 xc, .slice a n c] 50) _ (lt_of_block h1)).trans h1
    have k1 := (hW.below.block _ (lt_of_block h1)).trans h1
    have h2 := alloc_here ((w.alloc (.cells #[.slice fa p.fs.length fc, .slice oa p.os.length oc, .slice va p.vs.length vc] 26)).alloc (.cells #[sV fnm, .int .i64 fpa, .int .i64 rg, .int .i64 fpr, .bool fcl, .slice ca cl cc] 47)) (.cells #[.int .i64 xop, .int .i64 xa, .int .i64 xb, .int .i64 xc, .slice a n c] 50)
    simp only [World.size_alloc] at h2
    have k2 := (hW.below.block _ (lt_of_block h2)).trans h2
    exact ⟨cell_of k0 rfl, cell_of k0 rfl, cell_of k0 rfl, cell_of k1 rfl, cell_of k1 rfl, cell_of k1 rfl, cell_of k1 rfl, cell_of k1 rfl, cell_of k1 rfl, cell_of k2 rfl, cell_of k2 rfl, cell_of k2 rfl, cell_of k2 rfl, cell_of k2 rfl⟩)
  have HWZ := Lib.hid (show wk.heap.size = w.heap.size + 3 by rw [hwk]; simp)
  have HW := Lib.hid (show Ext w wk by rw [hwk]; exact (ext_alloc (ext_alloc (ext_alloc (Below.refl _ _) _) _) _))
  have HE0 := Lib.hid (show Ext wk wk from Below.refl _ _)
  go_enter Tryz.func91, Tryz.ntmps91
  go_wp2_with fail
  rw [← hwk]
  clear hwk
  refine (KR.out _).mono ?_
  intro w1 hB
  have HE1 := Lib.hid (Ext.trans HE0.out hB)
  clear hB
  obtain ⟨d0_0, d0_1, d0_2, d1_0, d1_1, d1_2, d1_3, d1_4, d1_5, d2_0, d2_1, d2_2, d2_3, d2_4⟩ := BX.out _ HE1.out
  cases fcl with
  | false =>
    rw [if_neg (by simp)] at HCK
    go_wp2_with fail
    clear d0_0 d0_1 d0_2 d1_0 d1_1 d1_2 d1_3 d1_4 d1_5 d2_0 d2_1 d2_2 d2_3 d2_4
    obtain ⟨wl, hwl⟩ : ∃ W, W = w1.alloc (.cells #[.int .i64 xa, .int .i64 xb, .int .i64 xc] 3) := ⟨_, rfl⟩
    obtain ⟨gs, hgs⟩ : ∃ g, g = w1.heap.size := ⟨_, rfl⟩
    have HEl := Lib.hid (show Ext wk wl from by rw [hwl]; exact ext_alloc HE1.out _)
    have hb9 : wl.heap[gs]? = some (.cells #[.int .i64 xa, .int .i64 xb, .int .i64 xc] 3 (0, 0)) := by rw [hwl, hgs]; exact alloc_here _ _
    have BL := Lib.hid (fun W (hW : Ext wl W) => And.intro (BX.out W (Ext.trans HEl.out hW)) (show W.cell? ⟨gs, 0, none⟩ = some (.int .i64 xa) ∧ W.cell? ⟨gs, 1, none⟩ = some (.int .i64 xb) ∧ W.cell? ⟨gs, 2, none⟩ = some (.int .i64 xc) from by
      have k := (hW.below.block _ (lt_of_block hb9)).trans hb9
      exact ⟨cell_of k rfl, cell_of k rfl, cell_of k rfl⟩))
    rw [← hwl, ← hgs]
    clear hb9 hwl hgs
    go_loopw [9] (fun i wr => ∃ k : Nat, k ≤ 3 ∧ i = .int .i64 (k : Int) ∧ (1 ≤ k → oa1 = 0) ∧ (2 ≤ k → ob1 = 0) ∧ (3 ≤ k → oc1 = 0) ∧ Ext wl wr) (fun i _ => 3 - (intOf i).toNat)
    case atStart => exact ⟨0, by omega, rfl, by omega, by omega, by omega, Below.refl _ _⟩
    case round =>
      obtain ⟨k, hk, rfl, ha, hb, hc, hE⟩ := hrel
      have HE := Lib.hid hE
      have HEW := Lib.hid (Ext.trans HW.out (Ext.trans HEl.out hE))
      clear hE
      obtain hk0 | hk0 | hk0 | hk0 : k = 0 ∨ k = 1 ∨ k = 2 ∨ k = 3 := by omega
      · subst hk0
        obtain ⟨⟨d0_0, d0_1, d0_2, d1_0, d1_1, d1_2, d1_3, d1_4, d1_5, d2_0, d2_1, d2_2, d2_3, d2_4⟩, l0, l1, l2⟩ := BL.out wr HE.out
        go_wp2_with fail
        have ud0_0 := fun U : Up _ => Up.cell d0_0 U
        have ud0_1 := fun U : Up _ => Up.cell d0_1 U
        have ud0_2 := fun U : Up _ => Up.cell d0_2 U
        have ud1_0 := fun U : Up _ => Up.cell d1_0 U
        have ud1_1 := fun U : Up _ => Up.cell d1_1 U
        have ud1_2 := fun U : Up _ => Up.cell d1_2 U
        have ud1_3 := fun U : Up _ => Up.cell d1_3 U
        have ud1_4 := fun U : Up _ => Up.cell d1_4 U
        have ud1_5 := fun U : Up _ => Up.cell d1_5 U
        have ud2_0 := fun U : Up _ => Up.cell d2_0 U
        have ud2_1 := fun U : Up _ => Up.cell d2_1 U
        have ud2_2 := fun U : Up _ => Up.cell d2_2 U
        have ud2_3 := fun U : Up _ => Up.cell d2_3 U
        have ud2_4 := fun U : Up _ => Up.cell d2_4 U
        have ul0 := fun U : Up _ => Up.cell l0 U
        have ul1 := fun U : Up _ => Up.cell l1 U
        have ul2 := fun U : Up _ => Up.cell l2 U
        refine wp_region_up (by kernel_rfl) (by kernel_rfl) ?_
        repeat (go_big_quiet_step (first | (go_at_call 126; refine Up.callE (fun W hW => KA.out W (Ext.trans HEW.out hW)) ?_; with_reducible rfl)))
        refine wpQuiet_nil ?_
        rintro _ ⟨U, rfl⟩
        have HE6 := Lib.hid (Ext.trans HE.out U.ext)
        generalize U.W = w6 at *
        clear ud0_0 d0_0 ud0_1 d0_1 ud0_2 d0_2 ud1_0 d1_0 ud1_1 d1_1 ud1_2 d1_2 ud1_3 d1_3 ud1_4 d1_4 ud1_5 d1_5 ud2_0 d2_0 ud2_1 d2_1 ud2_2 d2_2 ud2_3 d2_3 ud2_4 d2_4 ul0 l0 ul1 l1 ul2 l2
        by_cases ho : oa1 = 0
        · have HO := Lib.hid ho
          rw [ho]
          clear ho
          go_wp2
          go_roundw
          case rel => exact ⟨1, by omega, rfl, fun _ => HO.out, by omega, by omega, HE6.out⟩
          case measure => simp [intOf]
        · have HR := Lib.hid (show res = oa1 by rw [HCK.out, if_pos ho])
          have ho' : (oa1 != 0) = true := by rw [bne_iff_ne]; exact ho
          clear ho
          go_wp2
          go_ret
          exact ⟨by rw [HR.out]; rfl, Ext.trans HW.out (Ext.trans HEl.out HE6.out)⟩
      · subst hk0
        obtain ⟨⟨d0_0, d0_1, d0_2, d1_0, d1_1, d1_2, d1_3, d1_4, d1_5, d2_0, d2_1, d2_2, d2_3, d2_4⟩, l0, l1, l2⟩ := BL.out wr HE.out
        go_wp2_with fail
        have ud0_0 := fun U : Up _ => Up.cell d0_0 U
        have ud0_1 := fun U : Up _ => Up.cell d0_1 U
        have ud0_2 := fun U : Up _ => Up.cell d0_2 U
        have ud1_0 := fun U : Up _ => Up.cell d1_0 U
        have ud1_1 := fun U : Up _ => Up.cell d1_1 U
        have ud1_2 := fun U : Up _ => Up.cell d1_2 U
        have ud1_3 := fun U : Up _ => Up.cell d1_3 U
        have ud1_4 := fun U : Up _ => Up.cell d1_4 U
        have ud1_5 := fun U : Up _ => Up.cell d1_5 U
        have ud2_0 := fun U : Up _ => Up.cell d2_0 U
        have ud2_1 := fun U : Up _ => Up.cell d2_1 U
        have ud2_2 := fun U : Up _ => Up.cell d2_2 U
        have ud2_3 := fun U : Up _ => Up.cell d2_3 U
        have ud2_4 := fun U : Up _ => Up.cell d2_4 U
        have ul0 := fun U : Up _ => Up.cell l0 U
        have ul1 := fun U : Up _ => Up.cell l1 U
        have ul2 := fun U : Up _ => Up.cell l2 U
        refine wp_region_up (by kernel_rfl) (by kernel_rfl) ?_
        repeat (go_big_quiet_step (first | (go_at_call 126; refine Up.callE (fun W hW => KB.out W (Ext.trans HEW.out hW)) ?_; with_reducible rfl)))
        refine wpQuiet_nil ?_
        rintro _ ⟨U, rfl⟩
        have HE6 := Lib.hid (Ext.trans HE.out U.ext)
        generalize U.W = w6 at *
        clear ud0_0 d0_0 ud0_1 d0_1 ud0_2 d0_2 ud1_0 d1_0 ud1_1 d1_1 ud1_2 d1_2 ud1_3 d1_3 ud1_4 d1_4 ud1_5 d1_5 ud2_0 d2_0 ud2_1 d2_1 ud2_2 d2_2 ud2_3 d2_3 ud2_4 d2_4 ul0 l0 ul1 l1 ul2 l2
        by_cases ho : ob1 = 0
        · have HO := Lib.hid ho
          rw [ho]
          clear ho
          go_wp2
          go_roundw
          case rel => exact ⟨2, by omega, rfl, fun _ => ha (by omega), fun _ => HO.out, by omega, HE6.out⟩
          case measure => simp [intOf]
        · have HR := Lib.hid (show res = ob1 by rw [HCK.out, if_neg (not_not_intro (ha (by omega))), if_pos ho])
          have ho' : (ob1 != 0) = true := by rw [bne_iff_ne]; exact ho
          clear ho
          go_wp2
          go_ret
          exact ⟨by rw [HR.out]; rfl, Ext.trans HW.out (Ext.trans HEl.out HE6.out)⟩
      · subst hk0
        obtain ⟨⟨d0_0, d0_1, d0_2, d1_0, d1_1, d1_2, d1_3, d1_4, d1_5, d2_0, d2_1, d2_2, d2_3, d2_4⟩, l0, l1, l2⟩ := BL.out wr HE.out
        go_wp2_with fail
        have ud0_0 := fun U : Up _ => Up.cell d0_0 U
        have ud0_1 := fun U : Up _ => Up.cell d0_1 U
        have ud0_2 := fun U : Up _ => Up.cell d0_2 U
        have ud1_0 := fun U : Up _ => Up.cell d1_0 U
        have ud1_1 := fun U : Up _ => Up.cell d1_1 U
        have ud1_2 := fun U : Up _ => Up.cell d1_2 U
        have ud1_3 := fun U : Up _ => Up.cell d1_3 U
        have ud1_4 := fun U : Up _ => Up.cell d1_4 U
        have ud1_5 := fun U : Up _ => Up.cell d1_5 U
        have ud2_0 := fun U : Up _ => Up.cell d2_0 U
        have ud2_1 := fun U : Up _ => Up.cell d2_1 U
        have ud2_2 := fun U : Up _ => Up.cell d2_2 U
        have ud2_3 := fun U : Up _ => Up.cell d2_3 U
        have ud2_4 := fun U : Up _ => Up.cell d2_4 U
        have ul0 := fun U : Up _ => Up.cell l0 U
        have ul1 := fun U : Up _ => Up.cell l1 U
        have ul2 := fun U : Up _ => Up.cell l2 U
        refine wp_region_up (by kernel_rfl) (by kernel_rfl) ?_
        repeat (go_big_quiet_step (first | (go_at_call 126; refine Up.callE (fun W hW => KC.out W (Ext.trans HEW.out hW)) ?_; with_reducible rfl)))
        refine wpQuiet_nil ?_
        rintro _ ⟨U, rfl⟩
        have HE6 := Lib.hid (Ext.trans HE.out U.ext)
        generalize U.W = w6 at *
        clear ud0_0 d0_0 ud0_1 d0_1 ud0_2 d0_2 ud1_0 d1_0 ud1_1 d1_1 ud1_2 d1_2 ud1_3 d1_3 ud1_4 d1_4 ud1_5 d1_5 ud2_0 d2_0 ud2_1 d2_1 ud2_2 d2_2 ud2_3 d2_3 ud2_4 d2_4 ul0 l0 ul1 l1 ul2 l2
        by_cases ho : oc1 = 0
        · have HO := Lib.hid ho
          rw [ho]
          clear ho
          go_wp2
          go_roundw
          case rel => exact ⟨3, by omega, rfl, fun _ => ha (by omega), fun _ => hb (by omega), fun _ => HO.out, HE6.out⟩
          case measure => simp [intOf]
        · have HR := Lib.hid (show res = oc1 by rw [HCK.out, if_neg (not_not_intro (ha (by omega))), if_neg (not_not_intro (hb (by omega))), if_pos ho])
          have ho' : (oc1 != 0) = true := by rw [bne_iff_ne]; exact ho
          clear ho
          go_wp2
          go_ret
          exact ⟨by rw [HR.out]; rfl, Ext.trans HW.out (Ext.trans HEl.out HE6.out)⟩
      · subst hk0
        rw [if_neg (not_not_intro (ha (by omega))), if_neg (not_not_intro (hb (by omega))), if_neg (not_not_intro (hc (by omega)))] at HCK
        have KG := Lib.hid (fun W (hW : Ext wr W) => KG.out W (Ext.trans HEW.out hW) (hb (by omega)))
        clear ha hb hc
        obtain ⟨⟨d0_0, d0_1, d0_2, d1_0, d1_1, d1_2, d1_3, d1_4, d1_5, d2_0, d2_1, d2_2, d2_3, d2_4⟩, l0, l1, l2⟩ := BL.out wr HE.out
        go_wp2_with fail
        have ud0_0 := fun U : Up _ => Up.cell d0_0 U
        have ud0_1 := fun U : Up _ => Up.cell d0_1 U
        have ud0_2 := fun U : Up _ => Up.cell d0_2 U
        have ud1_0 := fun U : Up _ => Up.cell d1_0 U
        have ud1_1 := fun U : Up _ => Up.cell d1_1 U
        have ud1_2 := fun U : Up _ => Up.cell d1_2 U
        have ud1_3 := fun U : Up _ => Up.cell d1_3 U
        have ud1_4 := fun U : Up _ => Up.cell d1_4 U
        have ud1_5 := fun U : Up _ => Up.cell d1_5 U
        have ud2_0 := fun U : Up _ => Up.cell d2_0 U
        have ud2_1 := fun U : Up _ => Up.cell d2_1 U
        have ud2_2 := fun U : Up _ => Up.cell d2_2 U
        have ud2_3 := fun U : Up _ => Up.cell d2_3 U
        have ud2_4 := fun U : Up _ => Up.cell d2_4 U
        have ul0 := fun U : Up _ => Up.cell l0 U
        have ul1 := fun U : Up _ => Up.cell l1 U
        have ul2 := fun U : Up _ => Up.cell l2 U
        refine wp_region_up (by kernel_rfl) (by kernel_rfl) ?_
        repeat (go_big_quiet_step (first | (go_at_call 127; refine Up.callE (fun W hW => KG.out W hW) ?_; with_reducible rfl)))
        refine wpQuiet_nil ?_
        rintro _ ⟨U, rfl⟩
        have HE6 := Lib.hid (Ext.trans HE.out U.ext)
        generalize U.W = w6 at *
        clear ud0_0 d0_0 ud0_1 d0_1 ud0_2 d0_2 ud1_0 d1_0 ud1_1 d1_1 ud1_2 d1_2 ud1_3 d1_3 ud1_4 d1_4 ud1_5 d1_5 ud2_0 d2_0 ud2_1 d2_1 ud2_2 d2_2 ud2_3 d2_3 ud2_4 d2_4 ul0 l0 ul1 l1 ul2 l2
        go_wp2
        go_ret
        exact ⟨by rw [HCK.out]; rfl, Ext.trans HW.out (Ext.trans HEl.out HE6.out)⟩
  | true =>
    go_wp2_with fail
    clear d0_0 d0_1 d0_2 d1_0 d1_1 d1_2 d1_3 d1_4 d1_5 d2_0 d2_1 d2_2 d2_3 d2_4
    refine Calls.mono (KFB.out _) ?_
    rintro _ v2 ⟨rfl, hv2⟩
    rw [hv2]
    clear hv2 v2
    obtain ⟨d0_0, d0_1, d0_2, d1_0, d1_1, d1_2, d1_3, d1_4, d1_5, d2_0, d2_1, d2_2, d2_3, d2_4⟩ := BX.out _ HE1.out
    cases fb with
    | true =>
      rw [if_pos (by simp)] at HCK
      go_wp2
      go_ret
      exact ⟨by rw [HCK.out]; rfl, Ext.trans HW.out HE1.out⟩
    | false =>
      rw [if_neg (by simp)] at HCK
      go_wp2_with fail
      clear d0_0 d0_1 d0_2 d1_0 d1_1 d1_2 d1_3 d1_4 d1_5 d2_0 d2_1 d2_2 d2_3 d2_4
      obtain ⟨wl, hwl⟩ : ∃ W, W = w1.alloc (.cells #[.int .i64 xa, .int .i64 xb, .int .i64 xc] 3) := ⟨_, rfl⟩
      obtain ⟨gs, hgs⟩ : ∃ g, g = w1.heap.size := ⟨_, rfl⟩
      have HEl := Lib.hid (show Ext wk wl from by rw [hwl]; exact ext_alloc HE1.out _)
      have hb9 : wl.heap[gs]? = some (.cells #[.int .i64 xa, .int .i64 xb, .int .i64 xc] 3 (0, 0)) := by rw [hwl, hgs]; exact alloc_here _ _
      have BL := Lib.hid (fun W (hW : Ext wl W) => And.intro (BX.out W (Ext.trans HEl.out hW)) (show W.cell? ⟨gs, 0, none⟩ = some (.int .i64 xa) ∧ W.cell? ⟨gs, 1, none⟩ = some (.int .i64 xb) ∧ W.cell? ⟨gs, 2, none⟩ = some (.int .i64 xc) from by
        have k := (hW.below.block _ (lt_of_block hb9)).trans hb9
        exact ⟨cell_of k rfl, cell_of k rfl, cell_of k rfl⟩))
      rw [← hwl, ← hgs]
      clear hb9 hwl hgs
      go_loopw [9] (fun i wr => ∃ k : Nat, k ≤ 3 ∧ i = .int .i64 (k : Int) ∧ (1 ≤ k → oa1 = 0) ∧ (2 ≤ k → ob1 = 0) ∧ (3 ≤ k → oc1 = 0) ∧ Ext wl wr) (fun i _ => 3 - (intOf i).toNat)
      case atStart => exact ⟨0, by omega, rfl, by omega, by omega, by omega, Below.refl _ _⟩
      case round =>
        obtain ⟨k, hk, rfl, ha, hb, hc, hE⟩ := hrel
        have HE := Lib.hid hE
        have HEW := Lib.hid (Ext.trans HW.out (Ext.trans HEl.out hE))
        clear hE
        obtain hk0 | hk0 | hk0 | hk0 : k = 0 ∨ k = 1 ∨ k = 2 ∨ k = 3 := by omega
        · subst hk0
          obtain ⟨⟨d0_0, d0_1, d0_2, d1_0, d1_1, d1_2, d1_3, d1_4, d1_5, d2_0, d2_1, d2_2, d2_3, d2_4⟩, l0, l1, l2⟩ := BL.out wr HE.out
          go_wp2_with fail
          have ud0_0 := fun U : Up _ => Up.cell d0_0 U
          have ud0_1 := fun U : Up _ => Up.cell d0_1 U
          have ud0_2 := fun U : Up _ => Up.cell d0_2 U
          have ud1_0 := fun U : Up _ => Up.cell d1_0 U
          have ud1_1 := fun U : Up _ => Up.cell d1_1 U
          have ud1_2 := fun U : Up _ => Up.cell d1_2 U
          have ud1_3 := fun U : Up _ => Up.cell d1_3 U
          have ud1_4 := fun U : Up _ => Up.cell d1_4 U
          have ud1_5 := fun U : Up _ => Up.cell d1_5 U
          have ud2_0 := fun U : Up _ => Up.cell d2_0 U
          have ud2_1 := fun U : Up _ => Up.cell d2_1 U
          have ud2_2 := fun U : Up _ => Up.cell d2_2 U
          have ud2_3 := fun U : Up _ => Up.cell d2_3 U
          have ud2_4 := fun U : Up _ => Up.cell d2_4 U
          have ul0 := fun U : Up _ => Up.cell l0 U
          have ul1 := fun U : Up _ => Up.cell l1 U
          have ul2 := fun U : Up _ => Up.cell l2 U
          refine wp_region_up (by kernel_rfl) (by kernel_rfl) ?_
          repeat (go_big_quiet_step (first | (go_at_call 126; refine Up.callE (fun W hW => KA.out W (Ext.trans HEW.out hW)) ?_; with_reducible rfl)))
          refine wpQuiet_nil ?_
          rintro _ ⟨U, rfl⟩
          have HE6 := Lib.hid (Ext.trans HE.out U.ext)
          generalize U.W = w6 at *
          clear ud0_0 d0_0 ud0_1 d0_1 ud0_2 d0_2 ud1_0 d1_0 ud1_1 d1_1 ud1_2 d1_2 ud1_3 d1_3 ud1_4 d1_4 ud1_5 d1_5 ud2_0 d2_0 ud2_1 d2_1 ud2_2 d2_2 ud2_3 d2_3 ud2_4 d2_4 ul0 l0 ul1 l1 ul2 l2
          by_cases ho : oa1 = 0
          · have HO := Lib.hid ho
            rw [ho]
            clear ho
            go_wp2
            go_roundw
            case rel => exact ⟨1, by omega, rfl, fun _ => HO.out, by omega, by omega, HE6.out⟩
            case measure => simp [intOf]
          · have HR := Lib.hid (show res = oa1 by rw [HCK.out, if_pos ho])
            have ho' : (oa1 != 0) = true := by rw [bne_iff_ne]; exact ho
            clear ho
            go_wp2
            go_ret
            exact ⟨by rw [HR.out]; rfl, Ext.trans HW.out (Ext.trans HEl.out HE6.out)⟩
        · subst hk0
          obtain ⟨⟨d0_0, d0_1, d0_2, d1_0, d1_1, d1_2, d1_3, d1_4, d1_5, d2_0, d2_1, d2_2, d2_3, d2_4⟩, l0, l1, l2⟩ := BL.out wr HE.out
          go_wp2_with fail
          have ud0_0 := fun U : Up _ => Up.cell d0_0 U
          have ud0_1 := fun U : Up _ => Up.cell d0_1 U
          have ud0_2 := fun U : Up _ => Up.cell d0_2 U
          have ud1_0 := fun U : Up _ => Up.cell d1_0 U
          have ud1_1 := fun U : Up _ => Up.cell d1_1 U
          have ud1_2 := fun U : Up _ => Up.cell d1_2 U
          have ud1_3 := fun U : Up _ => Up.cell d1_3 U
          have ud1_4 := fun U : Up _ => Up.cell d1_4 U
          have ud1_5 := fun U : Up _ => Up.cell d1_5 U
          have ud2_0 := fun U : Up _ => Up.cell d2_0 U
          have ud2_1 := fun U : Up _ => Up.cell d2_1 U
          have ud2_2 := fun U : Up _ => Up.cell d2_2 U
          have ud2_3 := fun U : Up _ => Up.cell d2_3 U
          have ud2_4 := fun U : Up _ => Up.cell d2_4 U
          have ul0 := fun U : Up _ => Up.cell l0 U
          have ul1 := fun U : Up _ => Up.cell l1 U
          have ul2 := fun U : Up _ => Up.cell l2 U
          refine wp_region_up (by kernel_rfl) (by kernel_rfl) ?_
          repeat (go_big_quiet_step (first | (go_at_call 126; refine Up.callE (fun W hW => KB.out W (Ext.trans HEW.out hW)) ?_; with_reducible rfl)))
          refine wpQuiet_nil ?_
          rintro _ ⟨U, rfl⟩
          have HE6 := Lib.hid (Ext.trans HE.out U.ext)
          generalize U.W = w6 at *
          clear ud0_0 d0_0 ud0_1 d0_1 ud0_2 d0_2 ud1_0 d1_0 ud1_1 d1_1 ud1_2 d1_2 ud1_3 d1_3 ud1_4 d1_4 ud1_5 d1_5 ud2_0 d2_0 ud2_1 d2_1 ud2_2 d2_2 ud2_3 d2_3 ud2_4 d2_4 ul0 l0 ul1 l1 ul2 l2
          by_cases ho : ob1 = 0
          · have HO := Lib.hid ho
            rw [ho]
            clear ho
            go_wp2
            go_roundw
            case rel => exact ⟨2, by omega, rfl, fun _ => ha (by omega), fun _ => HO.out, by omega, HE6.out⟩
            case measure => simp [intOf]
          · have HR := Lib.hid (show res = ob1 by rw [HCK.out, if_neg (not_not_intro (ha (by omega))), if_pos ho])
            have ho' : (ob1 != 0) = true := by rw [bne_iff_ne]; exact ho
            clear ho
            go_wp2
            go_ret
            exact ⟨by rw [HR.out]; rfl, Ext.trans HW.out (Ext.trans HEl.out HE6.out)⟩
        · subst hk0
          obtain ⟨⟨d0_0, d0_1, d0_2, d1_0, d1_1, d1_2, d1_3, d1_4, d1_5, d2_0, d2_1, d2_2, d2_3, d2_4⟩, l0, l1, l2⟩ := BL.out wr HE.out
          go_wp2_with fail
          have ud0_0 := fun U : Up _ => Up.cell d0_0 U
          have ud0_1 := fun U : Up _ => Up.cell d0_1 U
          have ud0_2 := fun U : Up _ => Up.cell d0_2 U
          have ud1_0 := fun U : Up _ => Up.cell d1_0 U
          have ud1_1 := fun U : Up _ => Up.cell d1_1 U
          have ud1_2 := fun U : Up _ => Up.cell d1_2 U
          have ud1_3 := fun U : Up _ => Up.cell d1_3 U
          have ud1_4 := fun U : Up _ => Up.cell d1_4 U
          have ud1_5 := fun U : Up _ => Up.cell d1_5 U
          have ud2_0 := fun U : Up _ => Up.cell d2_0 U
          have ud2_1 := fun U : Up _ => Up.cell d2_1 U
          have ud2_2 := fun U : Up _ => Up.cell d2_2 U
          have ud2_3 := fun U : Up _ => Up.cell d2_3 U
          have ud2_4 := fun U : Up _ => Up.cell d2_4 U
          have ul0 := fun U : Up _ => Up.cell l0 U
          have ul1 := fun U : Up _ => Up.cell l1 U
          have ul2 := fun U : Up _ => Up.cell l2 U
          refine wp_region_up (by kernel_rfl) (by kernel_rfl) ?_
          repeat (go_big_quiet_step (first | (go_at_call 126; refine Up.callE (fun W hW => KC.out W (Ext.trans HEW.out hW)) ?_; with_reducible rfl)))
          refine wpQuiet_nil ?_
          rintro _ ⟨U, rfl⟩
          have HE6 := Lib.hid (Ext.trans HE.out U.ext)
          generalize U.W = w6 at *
          clear ud0_0 d0_0 ud0_1 d0_1 ud0_2 d0_2 ud1_0 d1_0 ud1_1 d1_1 ud1_2 d1_2 ud1_3 d1_3 ud1_4 d1_4 ud1_5 d1_5 ud2_0 d2_0 ud2_1 d2_1 ud2_2 d2_2 ud2_3 d2_3 ud2_4 d2_4 ul0 l0 ul1 l1 ul2 l2
          by_cases ho : oc1 = 0
          · have HO := Lib.hid ho
            rw [ho]
            clear ho
            go_wp2
            go_roundw
            case rel => exact ⟨3, by omega, rfl, fun _ => ha (by omega), fun _ => hb (by omega), fun _ => HO.out, HE6.out⟩
            case measure => simp [intOf]
          · have HR := Lib.hid (show res = oc1 by rw [HCK.out, if_neg (not_not_intro (ha (by omega))), if_neg (not_not_intro (hb (by omega))), if_pos ho])
            have ho' : (oc1 != 0) = true := by rw [bne_iff_ne]; exact ho
            clear ho
            go_wp2
            go_ret
            exact ⟨by rw [HR.out]; rfl, Ext.trans HW.out (Ext.trans HEl.out HE6.out)⟩
        · subst hk0
          rw [if_neg (not_not_intro (ha (by omega))), if_neg (not_not_intro (hb (by omega))), if_neg (not_not_intro (hc (by omega)))] at HCK
          have KG := Lib.hid (fun W (hW : Ext wr W) => KG.out W (Ext.trans HEW.out hW) (hb (by omega)))
          clear ha hb hc
          obtain ⟨⟨d0_0, d0_1, d0_2, d1_0, d1_1, d1_2, d1_3, d1_4, d1_5, d2_0, d2_1, d2_2, d2_3, d2_4⟩, l0, l1, l2⟩ := BL.out wr HE.out
          go_wp2_with fail
          have ud0_0 := fun U : Up _ => Up.cell d0_0 U
          have ud0_1 := fun U : Up _ => Up.cell d0_1 U
          have ud0_2 := fun U : Up _ => Up.cell d0_2 U
          have ud1_0 := fun U : Up _ => Up.cell d1_0 U
          have ud1_1 := fun U : Up _ => Up.cell d1_1 U
          have ud1_2 := fun U : Up _ => Up.cell d1_2 U
          have ud1_3 := fun U : Up _ => Up.cell d1_3 U
          have ud1_4 := fun U : Up _ => Up.cell d1_4 U
          have ud1_5 := fun U : Up _ => Up.cell d1_5 U
          have ud2_0 := fun U : Up _ => Up.cell d2_0 U
          have ud2_1 := fun U : Up _ => Up.cell d2_1 U
          have ud2_2 := fun U : Up _ => Up.cell d2_2 U
          have ud2_3 := fun U : Up _ => Up.cell d2_3 U
          have ud2_4 := fun U : Up _ => Up.cell d2_4 U
          have ul0 := fun U : Up _ => Up.cell l0 U
          have ul1 := fun U : Up _ => Up.cell l1 U
          have ul2 := fun U : Up _ => Up.cell l2 U
          refine wp_region_up (by kernel_rfl) (by kernel_rfl) ?_
          repeat (go_big_quiet_step (first | (go_at_call 127; refine Up.callE (fun W hW => KG.out W hW) ?_; with_reducible rfl)))
          refine wpQuiet_nil ?_
          rintro _ ⟨U, rfl⟩
          have HE6 := Lib.hid (Ext.trans HE.out U.ext)
          generalize U.W = w6 at *
          clear ud0_0 d0_0 ud0_1 d0_1 ud0_2 d0_2 ud1_0 d1_0 ud1_1 d1_1 ud1_2 d1_2 ud1_3 d1_3 ud1_4 d1_4 ud1_5 d1_5 ud2_0 d2_0 ud2_1 d2_1 ud2_2 d2_2 ud2_3 d2_3 ud2_4 d2_4 ul0 l0 ul1 l1 ul2 l2
          go_wp2
          go_ret
          exact ⟨by rw [HCK.out]; rfl, Ext.trans HW.out (Ext.trans HEl.out HE6.out)⟩

theorem rins_any (p : Pg) (A : PA) (f : Fn) (ca : Option Addr) (cc : Nat) (x : Ins) (a : Option Addr) (c : Nat) (w : World) (h : CkAt w p A f ca) (hx : x.wf) (hI : IntsAt w a x.args) (hcap : x.args.length ≤ c) :
    Gives Tryz.prog 91 #[PV p A, FV f ca cc, IV x a c] w (.int .i64 (ckIns p f x)) := by
  cases hs : shp x.op with
  | none => exact rins_none p A f ca cc x a c w h hx hI hcap hs
  | some s => exact rins_some p A f ca cc x a c w h hx hI hcap s hs
end Go.Proofs.YtfkjokbhnblndaaGreatDoor

namespace Go.Proofs.YtfkjokbhnblndaaGreatDoor
open Go.RowKit
set_option linter.unusedVariables false
set_option linter.unusedSimpArgs false

theorem mem_take_of {α : Type} {l : List α} {k n : Nat} (h : k < l.length) (hn : k < n) : l[k] ∈ l.take n := by
  have h1 : k < (l.take n).length := by rw [List.length_take]; omega
  have h2 : (l.take n)[k] = l[k] := List.getElem_take
  rw [← h2]
  exact List.getElem_mem h1

set_option maxRecDepth 100000 in
set_option maxHeartbeats 2000000 in
theorem robj_no (p : Pg) (A : PA) (i : Nat) (w : World) (h : PgAt w p A) (hi : i < p.os.length) (hkd : (p.os[i]).kind < 1 ∨ 9 < (p.os[i]).kind) : Gives Tryz.prog 43 #[PV p A, .int .i64 (i : Int)] w (.int .i64 (ckOb p.os i)) := by
  unfold Gives
  have HP := Lib.hid h
  have HCK := Lib.hid (ckOb_at p.os i hi)
  generalize ckOb p.os i = res at *
  obtain ⟨b, off, hoa, hc⟩ := h.os i hi
  have hno := h.wf.no
  obtain ⟨fa, fc, oa, oc, va, vc⟩ := A
  dsimp only at hoa
  subst hoa
  obtain ⟨c0, c1, c2, c3⟩ := hc
  have hlt : b < w.heap.size := cell_lt2 c0
  clear h
  dsimp only [PV]
  generalize (p.os[i]).name = nm at *
  generalize (p.os[i]).kind = kd at *
  generalize (p.os[i]).size = sz at *
  generalize (p.os[i]).oth = ot at *
  obtain ⟨wk, hwk⟩ : ∃ W, W = ((w.alloc (.cells #[.slice fa p.fs.length fc, .slice (some ⟨b, off, none⟩) p.os.length oc, .slice va p.vs.length vc] 26)).alloc (.cells #[sV nm, .int .i64 kd, .int .i64 sz, .int .i64 ot] 52)) := ⟨_, rfl⟩
  have BX := Lib.hid (show ∀ W, Ext wk W → (W.cell? ⟨w.heap.size, 0, none⟩ = some (.slice fa p.fs.length fc) ∧ W.cell? ⟨w.heap.size, 1, none⟩ = some (.slice (some ⟨b, off, none⟩) p.os.length oc) ∧ W.cell? ⟨w.heap.size, 2, none⟩ = some (.slice va p.vs.length vc) ∧ W.cell? ⟨w.heap.size + 1, 0, none⟩ = some (sV nm) ∧ W.cell? ⟨w.heap.size + 1, 1, none⟩ = some (.int .i64 kd) ∧ W.cell? ⟨w.heap.size + 1, 2, none⟩ = some (.int .i64 sz) ∧ W.cell? ⟨w.heap.size + 1, 3, none⟩ = some (.int .i64 ot)) from fun W hW => by
    subst hwk
    have h0 := alloc_here w (.cells #[.slice fa p.fs.length fc, .slice (some ⟨b, off, none⟩) p.os.length oc, .slice va p.vs.length vc] 26)
    have h0 := (Below.heap_alloc _ (.cells #[sV nm, .int .i64 kd, .int .i64 sz, .int .i64 ot] 52) _ (lt_of_block h0)).trans h0
    have k0 := (hW.below.block _ (lt_of_block h0)).trans h0
    have h1 := alloc_here (w.alloc (.cells #[.slice fa p.fs.length fc, .slice (some ⟨b, off, none⟩) p.os.length oc, .slice va p.vs.length vc] 26)) (.cells #[sV nm, .int .i64 kd, .int .i64 sz, .int .i64 ot] 52)
    simp only [World.size_alloc] at h1
    have k1 := (hW.below.block _ (lt_of_block h1)).trans h1
    exact ⟨cell_of k0 rfl, cell_of k0 rfl, cell_of k0 rfl, cell_of k1 rfl, cell_of k1 rfl, cell_of k1 rfl, cell_of k1 rfl⟩)
  have HWZ := Lib.hid (show wk.heap.size = w.heap.size + 2 by rw [hwk]; simp)
  have HW := Lib.hid (show Ext w wk by rw [hwk]; exact (ext_alloc (ext_alloc (Below.refl _ _) _) _))
  have HE0 := Lib.hid (show Ext wk wk from Below.refl _ _)
  go_enter Tryz.func43, Tryz.ntmps43
  go_wp2_with fail
  rw [← hwk]
  clear hwk c0 c1 c2 c3
  refine (IsName_any nm _).mono ?_
  intro w1 hB
  have HE := Lib.hid (show Ext wk w1 from hB)
  clear hB
  obtain ⟨d0_0, d0_1, d0_2, d1_0, d1_1, d1_2, d1_3⟩ := BX.out _ HE.out
  cases hb : isNm nm with
  | false =>
    go_wp2
    go_ret
    exact ⟨by rw [HCK.out, hb]; rfl, Ext.trans HW.out HE.out⟩
  | true =>
    rw [hb, if_neg (by simp)] at HCK
    clear hb
    go_wp2_with fail
    clear d0_0 d0_1 d0_2 d1_0 d1_1 d1_2 d1_3
    refine Calls.mono (between_any kd 1 9 _) ?_
    rintro _ v1 ⟨rfl, hv1⟩
    rw [hv1]
    clear hv1 v1
    obtain ⟨d0_0, d0_1, d0_2, d1_0, d1_1, d1_2, d1_3⟩ := BX.out _ HE.out
    have e9 : inB kd 1 9 = false := by simp [inB]; omega
    rw [e9, if_pos rfl] at HCK
    rw [e9]
    clear e9
    go_wp2
    go_ret
    exact ⟨by rw [HCK.out]; rfl, Ext.trans HW.out HE.out⟩

set_option maxRecDepth 100000 in
set_option maxHeartbeats 2000000 in
theorem robj_1 (p : Pg) (A : PA) (i : Nat) (w : World) (h : PgAt w p A) (hi : i < p.os.length) (hkd : (p.os[i]).kind = 1) : Gives Tryz.prog 43 #[PV p A, .int .i64 (i : Int)] w (.int .i64 (ckOb p.os i)) := by
  unfold Gives
  have HP := Lib.hid h
  have HCK := Lib.hid (ckOb_at p.os i hi)
  generalize ckOb p.os i = res at *
  obtain ⟨b, off, hoa, hc⟩ := h.os i hi
  have hno := h.wf.no
  obtain ⟨fa, fc, oa, oc, va, vc⟩ := A
  dsimp only at hoa
  subst hoa
  obtain ⟨c0, c1, c2, c3⟩ := hc
  have hlt : b < w.heap.size := cell_lt2 c0
  clear h
  dsimp only [PV]
  generalize (p.os[i]).name = nm at *
  generalize (p.os[i]).kind = kd at *
  generalize (p.os[i]).size = sz at *
  generalize (p.os[i]).oth = ot at *
  subst hkd
  obtain ⟨wk, hwk⟩ : ∃ W, W = ((w.alloc (.cells #[.slice fa p.fs.length fc, .slice (some ⟨b, off, none⟩) p.os.length oc, .slice va p.vs.length vc] 26)).alloc (.cells #[sV nm, .int .i64 1, .int .i64 sz, .int .i64 ot] 52)) := ⟨_, rfl⟩
  have BX := Lib.hid (show ∀ W, Ext wk W → (W.cell? ⟨w.heap.size, 0, none⟩ = some (.slice fa p.fs.length fc) ∧ W.cell? ⟨w.heap.size, 1, none⟩ = some (.slice (some ⟨b, off, none⟩) p.os.length oc) ∧ W.cell? ⟨w.heap.size, 2, none⟩ = some (.slice va p.vs.length vc) ∧ W.cell? ⟨w.heap.size + 1, 0, none⟩ = some (sV nm) ∧ W.cell? ⟨w.heap.size + 1, 1, none⟩ = some (.int .i64 1) ∧ W.cell? ⟨w.heap.size + 1, 2, none⟩ = some (.int .i64 sz) ∧ W.cell? ⟨w.heap.size + 1, 3, none⟩ = some (.int .i64 ot)) from fun W hW => by
    subst hwk
    have h0 := alloc_here w (.cells #[.slice fa p.fs.length fc, .slice (some ⟨b, off, none⟩) p.os.length oc, .slice va p.vs.length vc] 26)
    have h0 := (Below.heap_alloc _ (.cells #[sV nm, .int .i64 1, .int .i64 sz, .int .i64 ot] 52) _ (lt_of_block h0)).trans h0
    have k0 := (hW.below.block _ (lt_of_block h0)).trans h0
    have h1 := alloc_here (w.alloc (.cells #[.slice fa p.fs.length fc, .slice (some ⟨b, off, none⟩) p.os.length oc, .slice va p.vs.length vc] 26)) (.cells #[sV nm, .int .i64 1, .int .i64 sz, .int .i64 ot] 52)
    simp only [World.size_alloc] at h1
    have k1 := (hW.below.block _ (lt_of_block h1)).trans h1
    exact ⟨cell_of k0 rfl, cell_of k0 rfl, cell_of k0 rfl, cell_of k1 rfl, cell_of k1 rfl, cell_of k1 rfl, cell_of k1 rfl⟩)
  have HWZ := Lib.hid (show wk.heap.size = w.heap.size + 2 by rw [hwk]; simp)
  have HW := Lib.hid (show Ext w wk by rw [hwk]; exact (ext_alloc (ext_alloc (Below.refl _ _) _) _))
  have HE0 := Lib.hid (show Ext wk wk from Below.refl _ _)
  go_enter Tryz.func43, Tryz.ntmps43
  go_wp2_with fail
  rw [← hwk]
  clear hwk c0 c1 c2 c3
  refine (IsName_any nm _).mono ?_
  intro w1 hB
  have HE := Lib.hid (show Ext wk w1 from hB)
  clear hB
  obtain ⟨d0_0, d0_1, d0_2, d1_0, d1_1, d1_2, d1_3⟩ := BX.out _ HE.out
  cases hb : isNm nm with
  | false =>
    go_wp2
    go_ret
    exact ⟨by rw [HCK.out, hb]; rfl, Ext.trans HW.out HE.out⟩
  | true =>
    rw [hb, if_neg (by simp)] at HCK
    clear hb
    go_wp2_with fail
    clear d0_0 d0_1 d0_2 d1_0 d1_1 d1_2 d1_3
    refine Calls.mono (between_any 1 1 9 _) ?_
    rintro _ v1 ⟨rfl, hv1⟩
    rw [hv1]
    clear hv1 v1
    obtain ⟨d0_0, d0_1, d0_2, d1_0, d1_1, d1_2, d1_3⟩ := BX.out _ HE.out
    have e9 : inB 1 1 9 = true := by decide
    rw [e9, if_neg (by simp)] at HCK
    rw [e9]
    clear e9
    go_wp2_with fail
    clear d0_0 d0_1 d0_2 d1_0 d1_1 d1_2 d1_3
    have HCK := Lib.hid (show res = if inB sz 0 0 = false ∨ inB ot 0 0 = false then 2 else if (1 : Int) = 3 ∧ kindAt p.os ot ≠ 1 then 8 else if (p.os.take i).any (fun y => y.name == nm) then 6 else 0 from by
      have h9 := HCK.out
      rw [show szLo 1 = 0 by decide, show szHi 1 = 0 by decide, show otLo 1 = 0 by decide, show otHi p.os.length 1 = 0 by simp [otHi]] at h9
      first | exact h9 | simpa using h9)
    refine Calls.mono (between_any sz 0 0 _) ?_
    rintro _ v1 ⟨rfl, hv1⟩
    rw [hv1]
    clear hv1 v1
    obtain ⟨d0_0, d0_1, d0_2, d1_0, d1_1, d1_2, d1_3⟩ := BX.out _ HE.out
    cases hb : inB sz 0 0 with
    | false =>
      rw [hb, if_pos (.inl rfl)] at HCK
      clear hb
      go_wp2
      go_ret
      exact ⟨by rw [HCK.out]; rfl, Ext.trans HW.out HE.out⟩
    | true =>
      rw [hb] at HCK
      clear hb
      go_wp2_with fail
      clear d0_0 d0_1 d0_2 d1_0 d1_1 d1_2 d1_3
      refine Calls.mono (between_any ot 0 0 _) ?_
      rintro _ v1 ⟨rfl, hv1⟩
      rw [hv1]
      clear hv1 v1
      obtain ⟨d0_0, d0_1, d0_2, d1_0, d1_1, d1_2, d1_3⟩ := BX.out _ HE.out
      cases hb : inB ot 0 0 with
      | false =>
        rw [hb, if_pos (.inr rfl)] at HCK
        clear hb
        go_wp2
        go_ret
        exact ⟨by rw [HCK.out]; rfl, Ext.trans HW.out HE.out⟩
      | true =>
        rw [hb, if_neg (by simp)] at HCK
        rw [if_neg (by simp)] at HCK
        clear hb
        go_wp2_with fail
        clear d0_0 d0_1 d0_2 d1_0 d1_1 d1_2 d1_3
        have HIT := Lib.hid (fun e : (p.os.take i).any (fun y => y.name == nm) = true => show res = 6 from by rw [HCK.out, e]; rfl)
        go_loopw [8] (fun y0 wr => ∃ k : Nat, k ≤ i ∧ y0 = .int .i64 (k : Int) ∧ ((p.os.take k).any (fun y => y.name == nm)) = false ∧ Ext wk wr) (fun y0 _ => i - (intOf y0).toNat)
        case atStart => exact ⟨0, Nat.zero_le _, rfl, by simp, HE.out⟩
        case round =>
          obtain ⟨k, hk, rfl, ht, hE⟩ := hrel
          clear HE
          have HE := Lib.hid hE
          have HT := Lib.hid ht
          clear hE ht
          obtain ⟨d0_0, d0_1, d0_2, d1_0, d1_1, d1_2, d1_3⟩ := BX.out _ HE.out
          by_cases hlt : k < i
          case pos =>
            have hlk : k < p.os.length := by omega
            obtain ⟨b2, off2, hab, hcs⟩ := HP.out.os k hlk
            dsimp only at hab
            obtain ⟨rfl, rfl⟩ : b = b2 ∧ off = off2 := by simpa using hab
            have c0 := cell_ext hcs.c0 (Ext.trans HW.out HE.out)
            have HNX := Lib.hid (fun e => any_take (q := fun y => y.name == nm) hlk HT.out e)
            have HFD := Lib.hid (fun e => HIT.out (List.any_eq_true.2 ⟨_, mem_take_of hlk hlt, e⟩))
            try dsimp only at HNX HFD
            clear hcs
            generalize (p.os[k]).name = z at *
            go_wp2_with fail
            have ud0_0 := fun U : Up _ => Up.cell d0_0 U
            have ud0_1 := fun U : Up _ => Up.cell d0_1 U
            have ud0_2 := fun U : Up _ => Up.cell d0_2 U
            have ud1_0 := fun U : Up _ => Up.cell d1_0 U
            have ud1_1 := fun U : Up _ => Up.cell d1_1 U
            have ud1_2 := fun U : Up _ => Up.cell d1_2 U
            have ud1_3 := fun U : Up _ => Up.cell d1_3 U
            have uc0 := fun U : Up _ => Up.cell c0 U
            refine wp_region_up (by kernel_rfl) (by kernel_rfl) ?_
            repeat (go_big_quiet_step (fail))
            refine wpQuiet_nil ?_
            rintro _ ⟨U, rfl⟩
            have HE6 := Lib.hid (Ext.trans HE.out U.ext)
            generalize U.W = w6 at *
            clear ud0_0 d0_0 ud0_1 d0_1 ud0_2 d0_2 ud1_0 d1_0 ud1_1 d1_1 ud1_2 d1_2 ud1_3 d1_3 uc0 c0
            cases hq : (z == nm) with
            | true =>
              have HR := Lib.hid (HFD.out hq)
              clear hq
              go_wp2
              go_ret
              exact ⟨by rw [HR.out]; rfl, Ext.trans HW.out HE6.out⟩
            | false =>
              have HNX := Lib.hid (HNX.out hq)
              clear hq
              go_wp2
              go_roundw
              case rel => exact ⟨k + 1, by omega, by go_num, HNX.out, HE6.out⟩
              case measure => simp [intOf]; omega
          case neg =>
            have ekl : k = i := by omega
            have HNO := Lib.hid (show ((p.os.take i).any (fun y => y.name == nm)) = false from by rw [← ekl]; exact HT.out)
            clear ekl
            rw [HNO.out] at HCK
            go_wp2
            go_ret
            exact ⟨by rw [HCK.out]; rfl, Ext.trans HW.out HE.out⟩

set_option maxRecDepth 100000 in
set_option maxHeartbeats 2000000 in
theorem robj_2 (p : Pg) (A : PA) (i : Nat) (w : World) (h : PgAt w p A) (hi : i < p.os.length) (hkd : (p.os[i]).kind = 2) : Gives Tryz.prog 43 #[PV p A, .int .i64 (i : Int)] w (.int .i64 (ckOb p.os i)) := by
  unfold Gives
  have HP := Lib.hid h
  have HCK := Lib.hid (ckOb_at p.os i hi)
  generalize ckOb p.os i = res at *
  obtain ⟨b, off, hoa, hc⟩ := h.os i hi
  have hno := h.wf.no
  obtain ⟨fa, fc, oa, oc, va, vc⟩ := A
  dsimp only at hoa
  subst hoa
  obtain ⟨c0, c1, c2, c3⟩ := hc
  have hlt : b < w.heap.size := cell_lt2 c0
  clear h
  dsimp only [PV]
  generalize (p.os[i]).name = nm at *
  generalize (p.os[i]).kind = kd at *
  generalize (p.os[i]).size = sz at *
  generalize (p.os[i]).oth = ot at *
  subst hkd
  obtain ⟨wk, hwk⟩ : ∃ W, W = ((w.alloc (.cells #[.slice fa p.fs.length fc, .slice (some ⟨b, off, none⟩) p.os.length oc, .slice va p.vs.length vc] 26)).alloc (.cells #[sV nm, .int .i64 2, .int .i64 sz, .int .i64 ot] 52)) := ⟨_, rfl⟩
  have BX := Lib.hid (show ∀ W, Ext wk W → (W.cell? ⟨w.heap.size, 0, none⟩ = some (.slice fa p.fs.length fc) ∧ W.cell? ⟨w.heap.size, 1, none⟩ = some (.slice (some ⟨b, off, none⟩) p.os.length oc) ∧ W.cell? ⟨w.heap.size, 2, none⟩ = some (.slice va p.vs.length vc) ∧ W.cell? ⟨w.heap.size + 1, 0, none⟩ = some (sV nm) ∧ W.cell? ⟨w.heap.size + 1, 1, none⟩ = some (.int .i64 2) ∧ W.cell? ⟨w.heap.size + 1, 2, none⟩ = some (.int .i64 sz) ∧ W.cell? ⟨w.heap.size + 1, 3, none⟩ = some (.int .i64 ot)) from fun W hW => by
    subst hwk
    have h0 := alloc_here w (.cells #[.slice fa p.fs.length fc, .slice (some ⟨b, off, none⟩) p.os.length oc, .slice va p.vs.length vc] 26)
    have h0 := (Below.heap_alloc _ (.cells #[sV nm, .int .i64 2, .int .i64 sz, .int .i64 ot] 52) _ (lt_of_block h0)).trans h0
    have k0 := (hW.below.block _ (lt_of_block h0)).trans h0
    have h1 := alloc_here (w.alloc (.cells #[.slice fa p.fs.length fc, .slice (some ⟨b, off, none⟩) p.os.length oc, .slice va p.vs.length vc] 26)) (.cells #[sV nm, .int .i64 2, .int .i64 sz, .int .i64 ot] 52)
    simp only [World.size_alloc] at h1
    have k1 := (hW.below.block _ (lt_of_block h1)).trans h1
    exact ⟨cell_of k0 rfl, cell_of k0 rfl, cell_of k0 rfl, cell_of k1 rfl, cell_of k1 rfl, cell_of k1 rfl, cell_of k1 rfl⟩)
  have HWZ := Lib.hid (show wk.heap.size = w.heap.size + 2 by rw [hwk]; simp)
  have HW := Lib.hid (show Ext w wk by rw [hwk]; exact (ext_alloc (ext_alloc (Below.refl _ _) _) _))
  have HE0 := Lib.hid (show Ext wk wk from Below.refl _ _)
  go_enter Tryz.func43, Tryz.ntmps43
  go_wp2_with fail
  rw [← hwk]
  clear hwk c0 c1 c2 c3
  refine (IsName_any nm _).mono ?_
  intro w1 hB
  have HE := Lib.hid (show Ext wk w1 from hB)
  clear hB
  obtain ⟨d0_0, d0_1, d0_2, d1_0, d1_1, d1_2, d1_3⟩ := BX.out _ HE.out
  cases hb : isNm nm with
  | false =>
    go_wp2
    go_ret
    exact ⟨by rw [HCK.out, hb]; rfl, Ext.trans HW.out HE.out⟩
  | true =>
    rw [hb, if_neg (by simp)] at HCK
    clear hb
    go_wp2_with fail
    clear d0_0 d0_1 d0_2 d1_0 d1_1 d1_2 d1_3
    refine Calls.mono (between_any 2 1 9 _) ?_
    rintro _ v1 ⟨rfl, hv1⟩
    rw [hv1]
    clear hv1 v1
    obtain ⟨d0_0, d0_1, d0_2, d1_0, d1_1, d1_2, d1_3⟩ := BX.out _ HE.out
    have e9 : inB 2 1 9 = true := by decide
    rw [e9, if_neg (by simp)] at HCK
    rw [e9]
    clear e9
    go_wp2_with fail
    clear d0_0 d0_1 d0_2 d1_0 d1_1 d1_2 d1_3
    have HCK := Lib.hid (show res = if inB sz 0 0 = false ∨ inB ot 0 0 = false then 2 else if (2 : Int) = 3 ∧ kindAt p.os ot ≠ 1 then 8 else if (p.os.take i).any (fun y => y.name == nm) then 6 else 0 from by
      have h9 := HCK.out
      rw [show szLo 2 = 0 by decide, show szHi 2 = 0 by decide, show otLo 2 = 0 by decide, show otHi p.os.length 2 = 0 by simp [otHi]] at h9
      first | exact h9 | simpa using h9)
    refine Calls.mono (between_any sz 0 0 _) ?_
    rintro _ v1 ⟨rfl, hv1⟩
    rw [hv1]
    clear hv1 v1
    obtain ⟨d0_0, d0_1, d0_2, d1_0, d1_1, d1_2, d1_3⟩ := BX.out _ HE.out
    cases hb : inB sz 0 0 with
    | false =>
      rw [hb, if_pos (.inl rfl)] at HCK
      clear hb
      go_wp2
      go_ret
      exact ⟨by rw [HCK.out]; rfl, Ext.trans HW.out HE.out⟩
    | true =>
      rw [hb] at HCK
      clear hb
      go_wp2_with fail
      clear d0_0 d0_1 d0_2 d1_0 d1_1 d1_2 d1_3
      refine Calls.mono (between_any ot 0 0 _) ?_
      rintro _ v1 ⟨rfl, hv1⟩
      rw [hv1]
      clear hv1 v1
      obtain ⟨d0_0, d0_1, d0_2, d1_0, d1_1, d1_2, d1_3⟩ := BX.out _ HE.out
      cases hb : inB ot 0 0 with
      | false =>
        rw [hb, if_pos (.inr rfl)] at HCK
        clear hb
        go_wp2
        go_ret
        exact ⟨by rw [HCK.out]; rfl, Ext.trans HW.out HE.out⟩
      | true =>
        rw [hb, if_neg (by simp)] at HCK
        rw [if_neg (by simp)] at HCK
        clear hb
        go_wp2_with fail
        clear d0_0 d0_1 d0_2 d1_0 d1_1 d1_2 d1_3
        have HIT := Lib.hid (fun e : (p.os.take i).any (fun y => y.name == nm) = true => show res = 6 from by rw [HCK.out, e]; rfl)
        go_loopw [8] (fun y0 wr => ∃ k : Nat, k ≤ i ∧ y0 = .int .i64 (k : Int) ∧ ((p.os.take k).any (fun y => y.name == nm)) = false ∧ Ext wk wr) (fun y0 _ => i - (intOf y0).toNat)
        case atStart => exact ⟨0, Nat.zero_le _, rfl, by simp, HE.out⟩
        case round =>
          obtain ⟨k, hk, rfl, ht, hE⟩ := hrel
          clear HE
          have HE := Lib.hid hE
          have HT := Lib.hid ht
          clear hE ht
          obtain ⟨d0_0, d0_1, d0_2, d1_0, d1_1, d1_2, d1_3⟩ := BX.out _ HE.out
          by_cases hlt : k < i
          case pos =>
            have hlk : k < p.os.length := by omega
            obtain ⟨b2, off2, hab, hcs⟩ := HP.out.os k hlk
            dsimp only at hab
            obtain ⟨rfl, rfl⟩ : b = b2 ∧ off = off2 := by simpa using hab
            have c0 := cell_ext hcs.c0 (Ext.trans HW.out HE.out)
            have HNX := Lib.hid (fun e => any_take (q := fun y => y.name == nm) hlk HT.out e)
            have HFD := Lib.hid (fun e => HIT.out (List.any_eq_true.2 ⟨_, mem_take_of hlk hlt, e⟩))
            try dsimp only at HNX HFD
            clear hcs
            generalize (p.os[k]).name = z at *
            go_wp2_with fail
            have ud0_0 := fun U : Up _ => Up.cell d0_0 U
            have ud0_1 := fun U : Up _ => Up.cell d0_1 U
            have ud0_2 := fun U : Up _ => Up.cell d0_2 U
            have ud1_0 := fun U : Up _ => Up.cell d1_0 U
            have ud1_1 := fun U : Up _ => Up.cell d1_1 U
            have ud1_2 := fun U : Up _ => Up.cell d1_2 U
            have ud1_3 := fun U : Up _ => Up.cell d1_3 U
            have uc0 := fun U : Up _ => Up.cell c0 U
            refine wp_region_up (by kernel_rfl) (by kernel_rfl) ?_
            repeat (go_big_quiet_step (fail))
            refine wpQuiet_nil ?_
            rintro _ ⟨U, rfl⟩
            have HE6 := Lib.hid (Ext.trans HE.out U.ext)
            generalize U.W = w6 at *
            clear ud0_0 d0_0 ud0_1 d0_1 ud0_2 d0_2 ud1_0 d1_0 ud1_1 d1_1 ud1_2 d1_2 ud1_3 d1_3 uc0 c0
            cases hq : (z == nm) with
            | true =>
              have HR := Lib.hid (HFD.out hq)
              clear hq
              go_wp2
              go_ret
              exact ⟨by rw [HR.out]; rfl, Ext.trans HW.out HE6.out⟩
            | false =>
              have HNX := Lib.hid (HNX.out hq)
              clear hq
              go_wp2
              go_roundw
              case rel => exact ⟨k + 1, by omega, by go_num, HNX.out, HE6.out⟩
              case measure => simp [intOf]; omega
          case neg =>
            have ekl : k = i := by omega
            have HNO := Lib.hid (show ((p.os.take i).any (fun y => y.name == nm)) = false from by rw [← ekl]; exact HT.out)
            clear ekl
            rw [HNO.out] at HCK
            go_wp2
            go_ret
            exact ⟨by rw [HCK.out]; rfl, Ext.trans HW.out HE.out⟩

set_option maxRecDepth 100000 in
set_option maxHeartbeats 2000000 in
theorem robj_3 (p : Pg) (A : PA) (i : Nat) (w : World) (h : PgAt w p A) (hi : i < p.os.length) (hkd : (p.os[i]).kind = 3) : Gives Tryz.prog 43 #[PV p A, .int .i64 (i : Int)] w (.int .i64 (ckOb p.os i)) := by
  unfold Gives
  have HP := Lib.hid h
  have HCK := Lib.hid (ckOb_at p.os i hi)
  generalize ckOb p.os i = res at *
  obtain ⟨b, off, hoa, hc⟩ := h.os i hi
  have hno := h.wf.no
  obtain ⟨fa, fc, oa, oc, va, vc⟩ := A
  dsimp only at hoa
  subst hoa
  obtain ⟨c0, c1, c2, c3⟩ := hc
  have hlt : b < w.heap.size := cell_lt2 c0
  clear h
  dsimp only [PV]
  generalize (p.os[i]).name = nm at *
  generalize (p.os[i]).kind = kd at *
  generalize (p.os[i]).size = sz at *
  generalize (p.os[i]).oth = ot at *
  subst hkd
  obtain ⟨wk, hwk⟩ : ∃ W, W = ((w.alloc (.cells #[.slice fa p.fs.length fc, .slice (some ⟨b, off, none⟩) p.os.length oc, .slice va p.vs.length vc] 26)).alloc (.cells #[sV nm, .int .i64 3, .int .i64 sz, .int .i64 ot] 52)) := ⟨_, rfl⟩
  have BX := Lib.hid (show ∀ W, Ext wk W → (W.cell? ⟨w.heap.size, 0, none⟩ = some (.slice fa p.fs.length fc) ∧ W.cell? ⟨w.heap.size, 1, none⟩ = some (.slice (some ⟨b, off, none⟩) p.os.length oc) ∧ W.cell? ⟨w.heap.size, 2, none⟩ = some (.slice va p.vs.length vc) ∧ W.cell? ⟨w.heap.size + 1, 0, none⟩ = some (sV nm) ∧ W.cell? ⟨w.heap.size + 1, 1, none⟩ = some (.int .i64 3) ∧ W.cell? ⟨w.heap.size + 1, 2, none⟩ = some (.int .i64 sz) ∧ W.cell? ⟨w.heap.size + 1, 3, none⟩ = some (.int .i64 ot)) from fun W hW => by
    subst hwk
    have h0 := alloc_here w (.cells #[.slice fa p.fs.length fc, .slice (some ⟨b, off, none⟩) p.os.length oc, .slice va p.vs.length vc] 26)
    have h0 := (Below.heap_alloc _ (.cells #[sV nm, .int .i64 3, .int .i64 sz, .int .i64 ot] 52) _ (lt_of_block h0)).trans h0
    have k0 := (hW.below.block _ (lt_of_block h0)).trans h0
    have h1 := alloc_here (w.alloc (.cells #[.slice fa p.fs.length fc, .slice (some ⟨b, off, none⟩) p.os.length oc, .slice va p.vs.length vc] 26)) (.cells #[sV nm, .int .i64 3, .int .i64 sz, .int .i64 ot] 52)
    simp only [World.size_alloc] at h1
    have k1 := (hW.below.block _ (lt_of_block h1)).trans h1
    exact ⟨cell_of k0 rfl, cell_of k0 rfl, cell_of k0 rfl, cell_of k1 rfl, cell_of k1 rfl, cell_of k1 rfl, cell_of k1 rfl⟩)
  have HWZ := Lib.hid (show wk.heap.size = w.heap.size + 2 by rw [hwk]; simp)
  have HW := Lib.hid (show Ext w wk by rw [hwk]; exact (ext_alloc (ext_alloc (Below.refl _ _) _) _))
  have HE0 := Lib.hid (show Ext wk wk from Below.refl _ _)
  go_enter Tryz.func43, Tryz.ntmps43
  go_wp2_with fail
  rw [← hwk]
  clear hwk c0 c1 c2 c3
  refine (IsName_any nm _).mono ?_
  intro w1 hB
  have HE := Lib.hid (show Ext wk w1 from hB)
  clear hB
  obtain ⟨d0_0, d0_1, d0_2, d1_0, d1_1, d1_2, d1_3⟩ := BX.out _ HE.out
  cases hb : isNm nm with
  | false =>
    go_wp2
    go_ret
    exact ⟨by rw [HCK.out, hb]; rfl, Ext.trans HW.out HE.out⟩
  | true =>
    rw [hb, if_neg (by simp)] at HCK
    clear hb
    go_wp2_with fail
    clear d0_0 d0_1 d0_2 d1_0 d1_1 d1_2 d1_3
    refine Calls.mono (between_any 3 1 9 _) ?_
    rintro _ v1 ⟨rfl, hv1⟩
    rw [hv1]
    clear hv1 v1
    obtain ⟨d0_0, d0_1, d0_2, d1_0, d1_1, d1_2, d1_3⟩ := BX.out _ HE.out
    have e9 : inB 3 1 9 = true := by decide
    rw [e9, if_neg (by simp)] at HCK
    rw [e9]
    clear e9
    go_wp2_with fail
    clear d0_0 d0_1 d0_2 d1_0 d1_1 d1_2 d1_3
    have HCK := Lib.hid (show res = if inB sz 0 0 = false ∨ inB ot 0 ((p.os.length : Int) - 1) = false then 2 else if (3 : Int) = 3 ∧ kindAt p.os ot ≠ 1 then 8 else if (p.os.take i).any (fun y => y.name == nm) then 6 else 0 from by
      have h9 := HCK.out
      rw [show szLo 3 = 0 by decide, show szHi 3 = 0 by decide, show otLo 3 = 0 by decide, show otHi p.os.length 3 = ((p.os.length : Int) - 1) by simp [otHi]] at h9
      first | exact h9 | simpa using h9)
    refine Calls.mono (between_any sz 0 0 _) ?_
    rintro _ v1 ⟨rfl, hv1⟩
    rw [hv1]
    clear hv1 v1
    obtain ⟨d0_0, d0_1, d0_2, d1_0, d1_1, d1_2, d1_3⟩ := BX.out _ HE.out
    cases hb : inB sz 0 0 with
    | false =>
      rw [hb, if_pos (.inl rfl)] at HCK
      clear hb
      go_wp2
      go_ret
      exact ⟨by rw [HCK.out]; rfl, Ext.trans HW.out HE.out⟩
    | true =>
      rw [hb] at HCK
      clear hb
      go_wp2_with fail
      clear d0_0 d0_1 d0_2 d1_0 d1_1 d1_2 d1_3
      refine Calls.mono (between_any ot 0 ((p.os.length : Int) - 1) _) ?_
      rintro _ v1 ⟨rfl, hv1⟩
      rw [hv1]
      clear hv1 v1
      obtain ⟨d0_0, d0_1, d0_2, d1_0, d1_1, d1_2, d1_3⟩ := BX.out _ HE.out
      cases hb : inB ot 0 ((p.os.length : Int) - 1) with
      | false =>
        rw [hb, if_pos (.inr rfl)] at HCK
        clear hb
        go_wp2
        go_ret
        exact ⟨by rw [HCK.out]; rfl, Ext.trans HW.out HE.out⟩
      | true =>
        rw [hb, if_neg (by simp)] at HCK
        obtain ⟨m, rfl, hm⟩ := inB_nat hb
        obtain ⟨b', off', e', hcs⟩ := HP.out.os m hm
        obtain ⟨rfl, rfl⟩ : b = b' ∧ off = off' := by simpa using e'
        have ck := cell_ext (cell_ext hcs.c1 HW.out) HE.out
        have hka : kindAt p.os (m : Int) = (p.os[m]).kind := by simp [kindAt, hm]
        rw [hka] at HCK
        clear hcs e' hb hka
        generalize (p.os[m]).kind = km at *
        by_cases hk1 : km = 1
        case neg =>
          have g1 : (km != 1) = true := by rw [bne_iff_ne]; exact hk1
          rw [if_pos (by simpa using hk1)] at HCK
          clear hk1
          go_wp2
          go_ret
          exact ⟨by rw [HCK.out]; rfl, Ext.trans HW.out HE.out⟩
        case pos =>
          subst hk1
          rw [if_neg (by simp)] at HCK
          go_wp2_with fail
          clear ck d0_0 d0_1 d0_2 d1_0 d1_1 d1_2 d1_3
          have HIT := Lib.hid (fun e : (p.os.take i).any (fun y => y.name == nm) = true => show res = 6 from by rw [HCK.out, e]; rfl)
          go_loopw [8] (fun y0 wr => ∃ k : Nat, k ≤ i ∧ y0 = .int .i64 (k : Int) ∧ ((p.os.take k).any (fun y => y.name == nm)) = false ∧ Ext wk wr) (fun y0 _ => i - (intOf y0).toNat)
          case atStart => exact ⟨0, Nat.zero_le _, rfl, by simp, HE.out⟩
          case round =>
            obtain ⟨k, hk, rfl, ht, hE⟩ := hrel
            clear HE
            have HE := Lib.hid hE
            have HT := Lib.hid ht
            clear hE ht
            obtain ⟨d0_0, d0_1, d0_2, d1_0, d1_1, d1_2, d1_3⟩ := BX.out _ HE.out
            by_cases hlt : k < i
            case pos =>
              have hlk : k < p.os.length := by omega
              obtain ⟨b2, off2, hab, hcs⟩ := HP.out.os k hlk
              dsimp only at hab
              obtain ⟨rfl, rfl⟩ : b = b2 ∧ off = off2 := by simpa using hab
              have c0 := cell_ext hcs.c0 (Ext.trans HW.out HE.out)
              have HNX := Lib.hid (fun e => any_take (q := fun y => y.name == nm) hlk HT.out e)
              have HFD := Lib.hid (fun e => HIT.out (List.any_eq_true.2 ⟨_, mem_take_of hlk hlt, e⟩))
              try dsimp only at HNX HFD
              clear hcs
              generalize (p.os[k]).name = z at *
              go_wp2_with fail
              have ud0_0 := fun U : Up _ => Up.cell d0_0 U
              have ud0_1 := fun U : Up _ => Up.cell d0_1 U
              have ud0_2 := fun U : Up _ => Up.cell d0_2 U
              have ud1_0 := fun U : Up _ => Up.cell d1_0 U
              have ud1_1 := fun U : Up _ => Up.cell d1_1 U
              have ud1_2 := fun U : Up _ => Up.cell d1_2 U
              have ud1_3 := fun U : Up _ => Up.cell d1_3 U
              have uc0 := fun U : Up _ => Up.cell c0 U
              refine wp_region_up (by kernel_rfl) (by kernel_rfl) ?_
              repeat (go_big_quiet_step (fail))
              refine wpQuiet_nil ?_
              rintro _ ⟨U, rfl⟩
              have HE6 := Lib.hid (Ext.trans HE.out U.ext)
              generalize U.W = w6 at *
              clear ud0_0 d0_0 ud0_1 d0_1 ud0_2 d0_2 ud1_0 d1_0 ud1_1 d1_1 ud1_2 d1_2 ud1_3 d1_3 uc0 c0
              cases hq : (z == nm) with
              | true =>
                have HR := Lib.hid (HFD.out hq)
                clear hq
                go_wp2
                go_ret
                exact ⟨by rw [HR.out]; rfl, Ext.trans HW.out HE6.out⟩
              | false =>
                have HNX := Lib.hid (HNX.out hq)
                clear hq
                go_wp2
                go_roundw
                case rel => exact ⟨k + 1, by omega, by go_num, HNX.out, HE6.out⟩
                case measure => simp [intOf]; omega
            case neg =>
              have ekl : k = i := by omega
              have HNO := Lib.hid (show ((p.os.take i).any (fun y => y.name == nm)) = false from by rw [← ekl]; exact HT.out)
              clear ekl
              rw [HNO.out] at HCK
              go_wp2
              go_ret
              exact ⟨by rw [HCK.out]; rfl, Ext.trans HW.out HE.out⟩

set_option maxRecDepth 100000 in
set_option maxHeartbeats 2000000 in
theorem robj_4 (p : Pg) (A : PA) (i : Nat) (w : World) (h : PgAt w p A) (hi : i < p.os.length) (hkd : (p.os[i]).kind = 4) : Gives Tryz.prog 43 #[PV p A, .int .i64 (i : Int)] w (.int .i64 (ckOb p.os i)) := by
  unfold Gives
  have HP := Lib.hid h
  have HCK := Lib.hid (ckOb_at p.os i hi)
  generalize ckOb p.os i = res at *
  obtain ⟨b, off, hoa, hc⟩ := h.os i hi
  have hno := h.wf.no
  obtain ⟨fa, fc, oa, oc, va, vc⟩ := A
  dsimp only at hoa
  subst hoa
  obtain ⟨c0, c1, c2, c3⟩ := hc
  have hlt : b < w.heap.size := cell_lt2 c0
  clear h
  dsimp only [PV]
  generalize (p.os[i]).name = nm at *
  generalize (p.os[i]).kind = kd at *
  generalize (p.os[i]).size = sz at *
  generalize (p.os[i]).oth = ot at *
  subst hkd
  obtain ⟨wk, hwk⟩ : ∃ W, W = ((w.alloc (.cells #[.slice fa p.fs.length fc, .slice (some ⟨b, off, none⟩) p.os.length oc, .slice va p.vs.length vc] 26)).alloc (.cells #[sV nm, .int .i64 4, .int .i64 sz, .int .i64 ot] 52)) := ⟨_, rfl⟩
  have BX := Lib.hid (show ∀ W, Ext wk W → (W.cell? ⟨w.heap.size, 0, none⟩ = some (.slice fa p.fs.length fc) ∧ W.cell? ⟨w.heap.size, 1, none⟩ = some (.slice (some ⟨b, off, none⟩) p.os.length oc) ∧ W.cell? ⟨w.heap.size, 2, none⟩ = some (.slice va p.vs.length vc) ∧ W.cell? ⟨w.heap.size + 1, 0, none⟩ = some (sV nm) ∧ W.cell? ⟨w.heap.size + 1, 1, none⟩ = some (.int .i64 4) ∧ W.cell? ⟨w.heap.size + 1, 2, none⟩ = some (.int .i64 sz) ∧ W.cell? ⟨w.heap.size + 1, 3, none⟩ = some (.int .i64 ot)) from fun W hW => by
    subst hwk
    have h0 := alloc_here w (.cells #[.slice fa p.fs.length fc, .slice (some ⟨b, off, none⟩) p.os.length oc, .slice va p.vs.length vc] 26)
    have h0 := (Below.heap_alloc _ (.cells #[sV nm, .int .i64 4, .int .i64 sz, .int .i64 ot] 52) _ (lt_of_block h0)).trans h0
    have k0 := (hW.below.block _ (lt_of_block h0)).trans h0
    have h1 := alloc_here (w.alloc (.cells #[.slice fa p.fs.length fc, .slice (some ⟨b, off, none⟩) p.os.length oc, .slice va p.vs.length vc] 26)) (.cells #[sV nm, .int .i64 4, .int .i64 sz, .int .i64 ot] 52)
    simp only [World.size_alloc] at h1
    have k1 := (hW.below.block _ (lt_of_block h1)).trans h1
    exact ⟨cell_of k0 rfl, cell_of k0 rfl, cell_of k0 rfl, cell_of k1 rfl, cell_of k1 rfl, cell_of k1 rfl, cell_of k1 rfl⟩)
  have HWZ := Lib.hid (show wk.heap.size = w.heap.size + 2 by rw [hwk]; simp)
  have HW := Lib.hid (show Ext w wk by rw [hwk]; exact (ext_alloc (ext_alloc (Below.refl _ _) _) _))
  have HE0 := Lib.hid (show Ext wk wk from Below.refl _ _)
  go_enter Tryz.func43, Tryz.ntmps43
  go_wp2_with fail
  rw [← hwk]
  clear hwk c0 c1 c2 c3
  refine (IsName_any nm _).mono ?_
  intro w1 hB
  have HE := Lib.hid (show Ext wk w1 from hB)
  clear hB
  obtain ⟨d0_0, d0_1, d0_2, d1_0, d1_1, d1_2, d1_3⟩ := BX.out _ HE.out
  cases hb : isNm nm with
  | false =>
    go_wp2
    go_ret
    exact ⟨by rw [HCK.out, hb]; rfl, Ext.trans HW.out HE.out⟩
  | true =>
    rw [hb, if_neg (by simp)] at HCK
    clear hb
    go_wp2_with fail
    clear d0_0 d0_1 d0_2 d1_0 d1_1 d1_2 d1_3
    refine Calls.mono (between_any 4 1 9 _) ?_
    rintro _ v1 ⟨rfl, hv1⟩
    rw [hv1]
    clear hv1 v1
    obtain ⟨d0_0, d0_1, d0_2, d1_0, d1_1, d1_2, d1_3⟩ := BX.out _ HE.out
    have e9 : inB 4 1 9 = true := by decide
    rw [e9, if_neg (by simp)] at HCK
    rw [e9]
    clear e9
    go_wp2_with fail
    clear d0_0 d0_1 d0_2 d1_0 d1_1 d1_2 d1_3
    have HCK := Lib.hid (show res = if inB sz 1 100 = false ∨ inB ot 0 1 = false then 2 else if (4 : Int) = 3 ∧ kindAt p.os ot ≠ 1 then 8 else if (p.os.take i).any (fun y => y.name == nm) then 6 else 0 from by
      have h9 := HCK.out
      rw [show szLo 4 = 1 by decide, show szHi 4 = 100 by decide, show otLo 4 = 0 by decide, show otHi p.os.length 4 = 1 by simp [otHi]] at h9
      first | exact h9 | simpa using h9)
    refine Calls.mono (between_any sz 1 100 _) ?_
    rintro _ v1 ⟨rfl, hv1⟩
    rw [hv1]
    clear hv1 v1
    obtain ⟨d0_0, d0_1, d0_2, d1_0, d1_1, d1_2, d1_3⟩ := BX.out _ HE.out
    cases hb : inB sz 1 100 with
    | false =>
      rw [hb, if_pos (.inl rfl)] at HCK
      clear hb
      go_wp2
      go_ret
      exact ⟨by rw [HCK.out]; rfl, Ext.trans HW.out HE.out⟩
    | true =>
      rw [hb] at HCK
      clear hb
      go_wp2_with fail
      clear d0_0 d0_1 d0_2 d1_0 d1_1 d1_2 d1_3
      refine Calls.mono (between_any ot 0 1 _) ?_
      rintro _ v1 ⟨rfl, hv1⟩
      rw [hv1]
      clear hv1 v1
      obtain ⟨d0_0, d0_1, d0_2, d1_0, d1_1, d1_2, d1_3⟩ := BX.out _ HE.out
      cases hb : inB ot 0 1 with
      | false =>
        rw [hb, if_pos (.inr rfl)] at HCK
        clear hb
        go_wp2
        go_ret
        exact ⟨by rw [HCK.out]; rfl, Ext.trans HW.out HE.out⟩
      | true =>
        rw [hb, if_neg (by simp)] at HCK
        rw [if_neg (by simp)] at HCK
        clear hb
        go_wp2_with fail
        clear d0_0 d0_1 d0_2 d1_0 d1_1 d1_2 d1_3
        have HIT := Lib.hid (fun e : (p.os.take i).any (fun y => y.name == nm) = true => show res = 6 from by rw [HCK.out, e]; rfl)
        go_loopw [8] (fun y0 wr => ∃ k : Nat, k ≤ i ∧ y0 = .int .i64 (k : Int) ∧ ((p.os.take k).any (fun y => y.name == nm)) = false ∧ Ext wk wr) (fun y0 _ => i - (intOf y0).toNat)
        case atStart => exact ⟨0, Nat.zero_le _, rfl, by simp, HE.out⟩
        case round =>
          obtain ⟨k, hk, rfl, ht, hE⟩ := hrel
          clear HE
          have HE := Lib.hid hE
          have HT := Lib.hid ht
          clear hE ht
          obtain ⟨d0_0, d0_1, d0_2, d1_0, d1_1, d1_2, d1_3⟩ := BX.out _ HE.out
          by_cases hlt : k < i
          case pos =>
            have hlk : k < p.os.length := by omega
            obtain ⟨b2, off2, hab, hcs⟩ := HP.out.os k hlk
            dsimp only at hab
            obtain ⟨rfl, rfl⟩ : b = b2 ∧ off = off2 := by simpa using hab
            have c0 := cell_ext hcs.c0 (Ext.trans HW.out HE.out)
            have HNX := Lib.hid (fun e => any_take (q := fun y => y.name == nm) hlk HT.out e)
            have HFD := Lib.hid (fun e => HIT.out (List.any_eq_true.2 ⟨_, mem_take_of hlk hlt, e⟩))
            try dsimp only at HNX HFD
            clear hcs
            generalize (p.os[k]).name = z at *
            go_wp2_with fail
            have ud0_0 := fun U : Up _ => Up.cell d0_0 U
            have ud0_1 := fun U : Up _ => Up.cell d0_1 U
            have ud0_2 := fun U : Up _ => Up.cell d0_2 U
            have ud1_0 := fun U : Up _ => Up.cell d1_0 U
            have ud1_1 := fun U : Up _ => Up.cell d1_1 U
            have ud1_2 := fun U : Up _ => Up.cell d1_2 U
            have ud1_3 := fun U : Up _ => Up.cell d1_3 U
            have uc0 := fun U : Up _ => Up.cell c0 U
            refine wp_region_up (by kernel_rfl) (by kernel_rfl) ?_
            repeat (go_big_quiet_step (fail))
            refine wpQuiet_nil ?_
            rintro _ ⟨U, rfl⟩
            have HE6 := Lib.hid (Ext.trans HE.out U.ext)
            generalize U.W = w6 at *
            clear ud0_0 d0_0 ud0_1 d0_1 ud0_2 d0_2 ud1_0 d1_0 ud1_1 d1_1 ud1_2 d1_2 ud1_3 d1_3 uc0 c0
            cases hq : (z == nm) with
            | true =>
              have HR := Lib.hid (HFD.out hq)
              clear hq
              go_wp2
              go_ret
              exact ⟨by rw [HR.out]; rfl, Ext.trans HW.out HE6.out⟩
            | false =>
              have HNX := Lib.hid (HNX.out hq)
              clear hq
              go_wp2
              go_roundw
              case rel => exact ⟨k + 1, by omega, by go_num, HNX.out, HE6.out⟩
              case measure => simp [intOf]; omega
          case neg =>
            have ekl : k = i := by omega
            have HNO := Lib.hid (show ((p.os.take i).any (fun y => y.name == nm)) = false from by rw [← ekl]; exact HT.out)
            clear ekl
            rw [HNO.out] at HCK
            go_wp2
            go_ret
            exact ⟨by rw [HCK.out]; rfl, Ext.trans HW.out HE.out⟩

set_option maxRecDepth 100000 in
set_option maxHeartbeats 2000000 in
theorem robj_5 (p : Pg) (A : PA) (i : Nat) (w : World) (h : PgAt w p A) (hi : i < p.os.length) (hkd : (p.os[i]).kind = 5) : Gives Tryz.prog 43 #[PV p A, .int .i64 (i : Int)] w (.int .i64 (ckOb p.os i)) := by
  unfold Gives
  have HP := Lib.hid h
  have HCK := Lib.hid (ckOb_at p.os i hi)
  generalize ckOb p.os i = res at *
  obtain ⟨b, off, hoa, hc⟩ := h.os i hi
  have hno := h.wf.no
  obtain ⟨fa, fc, oa, oc, va, vc⟩ := A
  dsimp only at hoa
  subst hoa
  obtain ⟨c0, c1, c2, c3⟩ := hc
  have hlt : b < w.heap.size := cell_lt2 c0
  clear h
  dsimp only [PV]
  generalize (p.os[i]).name = nm at *
  generalize (p.os[i]).kind = kd at *
  generalize (p.os[i]).size = sz at *
  generalize (p.os[i]).oth = ot at *
  subst hkd
  obtain ⟨wk, hwk⟩ : ∃ W, W = ((w.alloc (.cells #[.slice fa p.fs.length fc, .slice (some ⟨b, off, none⟩) p.os.length oc, .slice va p.vs.length vc] 26)).alloc (.cells #[sV nm, .int .i64 5, .int .i64 sz, .int .i64 ot] 52)) := ⟨_, rfl⟩
  have BX := Lib.hid (show ∀ W, Ext wk W → (W.cell? ⟨w.heap.size, 0, none⟩ = some (.slice fa p.fs.length fc) ∧ W.cell? ⟨w.heap.size, 1, none⟩ = some (.slice (some ⟨b, off, none⟩) p.os.length oc) ∧ W.cell? ⟨w.heap.size, 2, none⟩ = some (.slice va p.vs.length vc) ∧ W.cell? ⟨w.heap.size + 1, 0, none⟩ = some (sV nm) ∧ W.cell? ⟨w.heap.size + 1, 1, none⟩ = some (.int .i64 5) ∧ W.cell? ⟨w.heap.size + 1, 2, none⟩ = some (.int .i64 sz) ∧ W.cell? ⟨w.heap.size + 1, 3, none⟩ = some (.int .i64 ot)) from fun W hW => by
    subst hwk
    have h0 := alloc_here w (.cells #[.slice fa p.fs.length fc, .slice (some ⟨b, off, none⟩) p.os.length oc, .slice va p.vs.length vc] 26)
    have h0 := (Below.heap_alloc _ (.cells #[sV nm, .int .i64 5, .int .i64 sz, .int .i64 ot] 52) _ (lt_of_block h0)).trans h0
    have k0 := (hW.below.block _ (lt_of_block h0)).trans h0
    have h1 := alloc_here (w.alloc (.cells #[.slice fa p.fs.length fc, .slice (some ⟨b, off, none⟩) p.os.length oc, .slice va p.vs.length vc] 26)) (.cells #[sV nm, .int .i64 5, .int .i64 sz, .int .i64 ot] 52)
    simp only [World.size_alloc] at h1
    have k1 := (hW.below.block _ (lt_of_block h1)).trans h1
    exact ⟨cell_of k0 rfl, cell_of k0 rfl, cell_of k0 rfl, cell_of k1 rfl, cell_of k1 rfl, cell_of k1 rfl, cell_of k1 rfl⟩)
  have HWZ := Lib.hid (show wk.heap.size = w.heap.size + 2 by rw [hwk]; simp)
  have HW := Lib.hid (show Ext w wk by rw [hwk]; exact (ext_alloc (ext_alloc (Below.refl _ _) _) _))
  have HE0 := Lib.hid (show Ext wk wk from Below.refl _ _)
  go_enter Tryz.func43, Tryz.ntmps43
  go_wp2_with fail
  rw [← hwk]
  clear hwk c0 c1 c2 c3
  refine (IsName_any nm _).mono ?_
  intro w1 hB
  have HE := Lib.hid (show Ext wk w1 from hB)
  clear hB
  obtain ⟨d0_0, d0_1, d0_2, d1_0, d1_1, d1_2, d1_3⟩ := BX.out _ HE.out
  cases hb : isNm nm with
  | false =>
    go_wp2
    go_ret
    exact ⟨by rw [HCK.out, hb]; rfl, Ext.trans HW.out HE.out⟩
  | true =>
    rw [hb, if_neg (by simp)] at HCK
    clear hb
    go_wp2_with fail
    clear d0_0 d0_1 d0_2 d1_0 d1_1 d1_2 d1_3
    refine Calls.mono (between_any 5 1 9 _) ?_
    rintro _ v1 ⟨rfl, hv1⟩
    rw [hv1]
    clear hv1 v1
    obtain ⟨d0_0, d0_1, d0_2, d1_0, d1_1, d1_2, d1_3⟩ := BX.out _ HE.out
    have e9 : inB 5 1 9 = true := by decide
    rw [e9, if_neg (by simp)] at HCK
    rw [e9]
    clear e9
    go_wp2_with fail
    clear d0_0 d0_1 d0_2 d1_0 d1_1 d1_2 d1_3
    have HCK := Lib.hid (show res = if inB sz 1 100 = false ∨ inB ot 0 0 = false then 2 else if (5 : Int) = 3 ∧ kindAt p.os ot ≠ 1 then 8 else if (p.os.take i).any (fun y => y.name == nm) then 6 else 0 from by
      have h9 := HCK.out
      rw [show szLo 5 = 1 by decide, show szHi 5 = 100 by decide, show otLo 5 = 0 by decide, show otHi p.os.length 5 = 0 by simp [otHi]] at h9
      first | exact h9 | simpa using h9)
    refine Calls.mono (between_any sz 1 100 _) ?_
    rintro _ v1 ⟨rfl, hv1⟩
    rw [hv1]
    clear hv1 v1
    obtain ⟨d0_0, d0_1, d0_2, d1_0, d1_1, d1_2, d1_3⟩ := BX.out _ HE.out
    cases hb : inB sz 1 100 with
    | false =>
      rw [hb, if_pos (.inl rfl)] at HCK
      clear hb
      go_wp2
      go_ret
      exact ⟨by rw [HCK.out]; rfl, Ext.trans HW.out HE.out⟩
    | true =>
      rw [hb] at HCK
      clear hb
      go_wp2_with fail
      clear d0_0 d0_1 d0_2 d1_0 d1_1 d1_2 d1_3
      refine Calls.mono (between_any ot 0 0 _) ?_
      rintro _ v1 ⟨rfl, hv1⟩
      rw [hv1]
      clear hv1 v1
      obtain ⟨d0_0, d0_1, d0_2, d1_0, d1_1, d1_2, d1_3⟩ := BX.out _ HE.out
      cases hb : inB ot 0 0 with
      | false =>
        rw [hb, if_pos (.inr rfl)] at HCK
        clear hb
        go_wp2
        go_ret
        exact ⟨by rw [HCK.out]; rfl, Ext.trans HW.out HE.out⟩
      | true =>
        rw [hb, if_neg (by simp)] at HCK
        rw [if_neg (by simp)] at HCK
        clear hb
        go_wp2_with fail
        clear d0_0 d0_1 d0_2 d1_0 d1_1 d1_2 d1_3
        have HIT := Lib.hid (fun e : (p.os.take i).any (fun y => y.name == nm) = true => show res = 6 from by rw [HCK.out, e]; rfl)
        go_loopw [8] (fun y0 wr => ∃ k : Nat, k ≤ i ∧ y0 = .int .i64 (k : Int) ∧ ((p.os.take k).any (fun y => y.name == nm)) = false ∧ Ext wk wr) (fun y0 _ => i - (intOf y0).toNat)
        case atStart => exact ⟨0, Nat.zero_le _, rfl, by simp, HE.out⟩
        case round =>
          obtain ⟨k, hk, rfl, ht, hE⟩ := hrel
          clear HE
          have HE := Lib.hid hE
          have HT := Lib.hid ht
          clear hE ht
          obtain ⟨d0_0, d0_1, d0_2, d1_0, d1_1, d1_2, d1_3⟩ := BX.out _ HE.out
          by_cases hlt : k < i
          case pos =>
            have hlk : k < p.os.length := by omega
            obtain ⟨b2, off2, hab, hcs⟩ := HP.out.os k hlk
            dsimp only at hab
            obtain ⟨rfl, rfl⟩ : b = b2 ∧ off = off2 := by simpa using hab
            have c0 := cell_ext hcs.c0 (Ext.trans HW.out HE.out)
            have HNX := Lib.hid (fun e => any_take (q := fun y => y.name == nm) hlk HT.out e)
            have HFD := Lib.hid (fun e => HIT.out (List.any_eq_true.2 ⟨_, mem_take_of hlk hlt, e⟩))
            try dsimp only at HNX HFD
            clear hcs
            generalize (p.os[k]).name = z at *
            go_wp2_with fail
            have ud0_0 := fun U : Up _ => Up.cell d0_0 U
            have ud0_1 := fun U : Up _ => Up.cell d0_1 U
            have ud0_2 := fun U : Up _ => Up.cell d0_2 U
            have ud1_0 := fun U : Up _ => Up.cell d1_0 U
            have ud1_1 := fun U : Up _ => Up.cell d1_1 U
            have ud1_2 := fun U : Up _ => Up.cell d1_2 U
            have ud1_3 := fun U : Up _ => Up.cell d1_3 U
            have uc0 := fun U : Up _ => Up.cell c0 U
            refine wp_region_up (by kernel_rfl) (by kernel_rfl) ?_
            repeat (go_big_quiet_step (fail))
            refine wpQuiet_nil ?_
            rintro _ ⟨U, rfl⟩
            have HE6 := Lib.hid (Ext.trans HE.out U.ext)
            generalize U.W = w6 at *
            clear ud0_0 d0_0 ud0_1 d0_1 ud0_2 d0_2 ud1_0 d1_0 ud1_1 d1_1 ud1_2 d1_2 ud1_3 d1_3 uc0 c0
            cases hq : (z == nm) with
            | true =>
              have HR := Lib.hid (HFD.out hq)
              clear hq
              go_wp2
              go_ret
              exact ⟨by rw [HR.out]; rfl, Ext.trans HW.out HE6.out⟩
            | false =>
              have HNX := Lib.hid (HNX.out hq)
              clear hq
              go_wp2
              go_roundw
              case rel => exact ⟨k + 1, by omega, by go_num, HNX.out, HE6.out⟩
              case measure => simp [intOf]; omega
          case neg =>
            have ekl : k = i := by omega
            have HNO := Lib.hid (show ((p.os.take i).any (fun y => y.name == nm)) = false from by rw [← ekl]; exact HT.out)
            clear ekl
            rw [HNO.out] at HCK
            go_wp2
            go_ret
            exact ⟨by rw [HCK.out]; rfl, Ext.trans HW.out HE.out⟩

set_option maxRecDepth 100000 in
set_option maxHeartbeats 2000000 in
theorem robj_6 (p : Pg) (A : PA) (i : Nat) (w : World) (h : PgAt w p A) (hi : i < p.os.length) (hkd : (p.os[i]).kind = 6) : Gives Tryz.prog 43 #[PV p A, .int .i64 (i : Int)] w (.int .i64 (ckOb p.os i)) := by
  unfold Gives
  have HP := Lib.hid h
  have HCK := Lib.hid (ckOb_at p.os i hi)
  generalize ckOb p.os i = res at *
  obtain ⟨b, off, hoa, hc⟩ := h.os i hi
  have hno := h.wf.no
  obtain ⟨fa, fc, oa, oc, va, vc⟩ := A
  dsimp only at hoa
  subst hoa
  obtain ⟨c0, c1, c2, c3⟩ := hc
  have hlt : b < w.heap.size := cell_lt2 c0
  clear h
  dsimp only [PV]
  generalize (p.os[i]).name = nm at *
  generalize (p.os[i]).kind = kd at *
  generalize (p.os[i]).size = sz at *
  generalize (p.os[i]).oth = ot at *
  subst hkd
  obtain ⟨wk, hwk⟩ : ∃ W, W = ((w.alloc (.cells #[.slice fa p.fs.length fc, .slice (some ⟨b, off, none⟩) p.os.length oc, .slice va p.vs.length vc] 26)).alloc (.cells #[sV nm, .int .i64 6, .int .i64 sz, .int .i64 ot] 52)) := ⟨_, rfl⟩
  have BX := Lib.hid (show ∀ W, Ext wk W → (W.cell? ⟨w.heap.size, 0, none⟩ = some (.slice fa p.fs.length fc) ∧ W.cell? ⟨w.heap.size, 1, none⟩ = some (.slice (some ⟨b, off, none⟩) p.os.length oc) ∧ W.cell? ⟨w.heap.size, 2, none⟩ = some (.slice va p.vs.length vc) ∧ W.cell? ⟨w.heap.size + 1, 0, none⟩ = some (sV nm) ∧ W.cell? ⟨w.heap.size + 1, 1, none⟩ = some (.int .i64 6) ∧ W.cell? ⟨w.heap.size + 1, 2, none⟩ = some (.int .i64 sz) ∧ W.cell? ⟨w.heap.size + 1, 3, none⟩ = some (.int .i64 ot)) from fun W hW => by
    subst hwk
    have h0 := alloc_here w (.cells #[.slice fa p.fs.length fc, .slice (some ⟨b, off, none⟩) p.os.length oc, .slice va p.vs.length vc] 26)
    have h0 := (Below.heap_alloc _ (.cells #[sV nm, .int .i64 6, .int .i64 sz, .int .i64 ot] 52) _ (lt_of_block h0)).trans h0
    have k0 := (hW.below.block _ (lt_of_block h0)).trans h0
    have h1 := alloc_here (w.alloc (.cells #[.slice fa p.fs.length fc, .slice (some ⟨b, off, none⟩) p.os.length oc, .slice va p.vs.length vc] 26)) (.cells #[sV nm, .int .i64 6, .int .i64 sz, .int .i64 ot] 52)
    simp only [World.size_alloc] at h1
    have k1 := (hW.below.block _ (lt_of_block h1)).trans h1
    exact ⟨cell_of k0 rfl, cell_of k0 rfl, cell_of k0 rfl, cell_of k1 rfl, cell_of k1 rfl, cell_of k1 rfl, cell_of k1 rfl⟩)
  have HWZ := Lib.hid (show wk.heap.size = w.heap.size + 2 by rw [hwk]; simp)
  have HW := Lib.hid (show Ext w wk by rw [hwk]; exact (ext_alloc (ext_alloc (Below.refl _ _) _) _))
  have HE0 := Lib.hid (show Ext wk wk from Below.refl _ _)
  go_enter Tryz.func43, Tryz.ntmps43
  go_wp2_with fail
  rw [← hwk]
  clear hwk c0 c1 c2 c3
  refine (IsName_any nm _).mono ?_
  intro w1 hB
  have HE := Lib.hid (show Ext wk w1 from hB)
  clear hB
  obtain ⟨d0_0, d0_1, d0_2, d1_0, d1_1, d1_2, d1_3⟩ := BX.out _ HE.out
  cases hb : isNm nm with
  | false =>
    go_wp2
    go_ret
    exact ⟨by rw [HCK.out, hb]; rfl, Ext.trans HW.out HE.out⟩
  | true =>
    rw [hb, if_neg (by simp)] at HCK
    clear hb
    go_wp2_with fail
    clear d0_0 d0_1 d0_2 d1_0 d1_1 d1_2 d1_3
    refine Calls.mono (between_any 6 1 9 _) ?_
    rintro _ v1 ⟨rfl, hv1⟩
    rw [hv1]
    clear hv1 v1
    obtain ⟨d0_0, d0_1, d0_2, d1_0, d1_1, d1_2, d1_3⟩ := BX.out _ HE.out
    have e9 : inB 6 1 9 = true := by decide
    rw [e9, if_neg (by simp)] at HCK
    rw [e9]
    clear e9
    go_wp2_with fail
    clear d0_0 d0_1 d0_2 d1_0 d1_1 d1_2 d1_3
    have HCK := Lib.hid (show res = if inB sz 0 100 = false ∨ inB ot 0 0 = false then 2 else if (6 : Int) = 3 ∧ kindAt p.os ot ≠ 1 then 8 else if (p.os.take i).any (fun y => y.name == nm) then 6 else 0 from by
      have h9 := HCK.out
      rw [show szLo 6 = 0 by decide, show szHi 6 = 100 by decide, show otLo 6 = 0 by decide, show otHi p.os.length 6 = 0 by simp [otHi]] at h9
      first | exact h9 | simpa using h9)
    refine Calls.mono (between_any sz 0 100 _) ?_
    rintro _ v1 ⟨rfl, hv1⟩
    rw [hv1]
    clear hv1 v1
    obtain ⟨d0_0, d0_1, d0_2, d1_0, d1_1, d1_2, d1_3⟩ := BX.out _ HE.out
    cases hb : inB sz 0 100 with
    | false =>
      rw [hb, if_pos (.inl rfl)] at HCK
      clear hb
      go_wp2
      go_ret
      exact ⟨by rw [HCK.out]; rfl, Ext.trans HW.out HE.out⟩
    | true =>
      rw [hb] at HCK
      clear hb
      go_wp2_with fail
      clear d0_0 d0_1 d0_2 d1_0 d1_1 d1_2 d1_3
      refine Calls.mono (between_any ot 0 0 _) ?_
      rintro _ v1 ⟨rfl, hv1⟩
      rw [hv1]
      clear hv1 v1
      obtain ⟨d0_0, d0_1, d0_2, d1_0, d1_1, d1_2, d1_3⟩ := BX.out _ HE.out
      cases hb : inB ot 0 0 with
      | false =>
        rw [hb, if_pos (.inr rfl)] at HCK
        clear hb
        go_wp2
        go_ret
        exact ⟨by rw [HCK.out]; rfl, Ext.trans HW.out HE.out⟩
      | true =>
        rw [hb, if_neg (by simp)] at HCK
        rw [if_neg (by simp)] at HCK
        clear hb
        go_wp2_with fail
        clear d0_0 d0_1 d0_2 d1_0 d1_1 d1_2 d1_3
        have HIT := Lib.hid (fun e : (p.os.take i).any (fun y => y.name == nm) = true => show res = 6 from by rw [HCK.out, e]; rfl)
        go_loopw [8] (fun y0 wr => ∃ k : Nat, k ≤ i ∧ y0 = .int .i64 (k : Int) ∧ ((p.os.take k).any (fun y => y.name == nm)) = false ∧ Ext wk wr) (fun y0 _ => i - (intOf y0).toNat)
        case atStart => exact ⟨0, Nat.zero_le _, rfl, by simp, HE.out⟩
        case round =>
          obtain ⟨k, hk, rfl, ht, hE⟩ := hrel
          clear HE
          have HE := Lib.hid hE
          have HT := Lib.hid ht
          clear hE ht
          obtain ⟨d0_0, d0_1, d0_2, d1_0, d1_1, d1_2, d1_3⟩ := BX.out _ HE.out
          by_cases hlt : k < i
          case pos =>
            have hlk : k < p.os.length := by omega
            obtain ⟨b2, off2, hab, hcs⟩ := HP.out.os k hlk
            dsimp only at hab
            obtain ⟨rfl, rfl⟩ : b = b2 ∧ off = off2 := by simpa using hab
            have c0 := cell_ext hcs.c0 (Ext.trans HW.out HE.out)
            have HNX := Lib.hid (fun e => any_take (q := fun y => y.name == nm) hlk HT.out e)
            have HFD := Lib.hid (fun e => HIT.out (List.any_eq_true.2 ⟨_, mem_take_of hlk hlt, e⟩))
            try dsimp only at HNX HFD
            clear hcs
            generalize (p.os[k]).name = z at *
            go_wp2_with fail
            have ud0_0 := fun U : Up _ => Up.cell d0_0 U
            have ud0_1 := fun U : Up _ => Up.cell d0_1 U
            have ud0_2 := fun U : Up _ => Up.cell d0_2 U
            have ud1_0 := fun U : Up _ => Up.cell d1_0 U
            have ud1_1 := fun U : Up _ => Up.cell d1_1 U
            have ud1_2 := fun U : Up _ => Up.cell d1_2 U
            have ud1_3 := fun U : Up _ => Up.cell d1_3 U
            have uc0 := fun U : Up _ => Up.cell c0 U
            refine wp_region_up (by kernel_rfl) (by kernel_rfl) ?_
            repeat (go_big_quiet_step (fail))
            refine wpQuiet_nil ?_
            rintro _ ⟨U, rfl⟩
            have HE6 := Lib.hid (Ext.trans HE.out U.ext)
            generalize U.W = w6 at *
            clear ud0_0 d0_0 ud0_1 d0_1 ud0_2 d0_2 ud1_0 d1_0 ud1_1 d1_1 ud1_2 d1_2 ud1_3 d1_3 uc0 c0
            cases hq : (z == nm) with
            | true =>
              have HR := Lib.hid (HFD.out hq)
              clear hq
              go_wp2
              go_ret
              exact ⟨by rw [HR.out]; rfl, Ext.trans HW.out HE6.out⟩
            | false =>
              have HNX := Lib.hid (HNX.out hq)
              clear hq
              go_wp2
              go_roundw
              case rel => exact ⟨k + 1, by omega, by go_num, HNX.out, HE6.out⟩
              case measure => simp [intOf]; omega
          case neg =>
            have ekl : k = i := by omega
            have HNO := Lib.hid (show ((p.os.take i).any (fun y => y.name == nm)) = false from by rw [← ekl]; exact HT.out)
            clear ekl
            rw [HNO.out] at HCK
            go_wp2
            go_ret
            exact ⟨by rw [HCK.out]; rfl, Ext.trans HW.out HE.out⟩

set_option maxRecDepth 100000 in
set_option maxHeartbeats 2000000 in
theorem robj_7 (p : Pg) (A : PA) (i : Nat) (w : World) (h : PgAt w p A) (hi : i < p.os.length) (hkd : (p.os[i]).kind = 7) : Gives Tryz.prog 43 #[PV p A, .int .i64 (i : Int)] w (.int .i64 (ckOb p.os i)) := by
  unfold Gives
  have HP := Lib.hid h
  have HCK := Lib.hid (ckOb_at p.os i hi)
  generalize ckOb p.os i = res at *
  obtain ⟨b, off, hoa, hc⟩ := h.os i hi
  have hno := h.wf.no
  obtain ⟨fa, fc, oa, oc, va, vc⟩ := A
  dsimp only at hoa
  subst hoa
  obtain ⟨c0, c1, c2, c3⟩ := hc
  have hlt : b < w.heap.size := cell_lt2 c0
  clear h
  dsimp only [PV]
  generalize (p.os[i]).name = nm at *
  generalize (p.os[i]).kind = kd at *
  generalize (p.os[i]).size = sz at *
  generalize (p.os[i]).oth = ot at *
  subst hkd
  obtain ⟨wk, hwk⟩ : ∃ W, W = ((w.alloc (.cells #[.slice fa p.fs.length fc, .slice (some ⟨b, off, none⟩) p.os.length oc, .slice va p.vs.length vc] 26)).alloc (.cells #[sV nm, .int .i64 7, .int .i64 sz, .int .i64 ot] 52)) := ⟨_, rfl⟩
  have BX := Lib.hid (show ∀ W, Ext wk W → (W.cell? ⟨w.heap.size, 0, none⟩ = some (.slice fa p.fs.length fc) ∧ W.cell? ⟨w.heap.size, 1, none⟩ = some (.slice (some ⟨b, off, none⟩) p.os.length oc) ∧ W.cell? ⟨w.heap.size, 2, none⟩ = some (.slice va p.vs.length vc) ∧ W.cell? ⟨w.heap.size + 1, 0, none⟩ = some (sV nm) ∧ W.cell? ⟨w.heap.size + 1, 1, none⟩ = some (.int .i64 7) ∧ W.cell? ⟨w.heap.size + 1, 2, none⟩ = some (.int .i64 sz) ∧ W.cell? ⟨w.heap.size + 1, 3, none⟩ = some (.int .i64 ot)) from fun W hW => by
    subst hwk
    have h0 := alloc_here w (.cells #[.slice fa p.fs.length fc, .slice (some ⟨b, off, none⟩) p.os.length oc, .slice va p.vs.length vc] 26)
    have h0 := (Below.heap_alloc _ (.cells #[sV nm, .int .i64 7, .int .i64 sz, .int .i64 ot] 52) _ (lt_of_block h0)).trans h0
    have k0 := (hW.below.block _ (lt_of_block h0)).trans h0
    have h1 := alloc_here (w.alloc (.cells #[.slice fa p.fs.length fc, .slice (some ⟨b, off, none⟩) p.os.length oc, .slice va p.vs.length vc] 26)) (.cells #[sV nm, .int .i64 7, .int .i64 sz, .int .i64 ot] 52)
    simp only [World.size_alloc] at h1
    have k1 := (hW.below.block _ (lt_of_block h1)).trans h1
    exact ⟨cell_of k0 rfl, cell_of k0 rfl, cell_of k0 rfl, cell_of k1 rfl, cell_of k1 rfl, cell_of k1 rfl, cell_of k1 rfl⟩)
  have HWZ := Lib.hid (show wk.heap.size = w.heap.size + 2 by rw [hwk]; simp)
  have HW := Lib.hid (show Ext w wk by rw [hwk]; exact (ext_alloc (ext_alloc (Below.refl _ _) _) _))
  have HE0 := Lib.hid (show Ext wk wk from Below.refl _ _)
  go_enter Tryz.func43, Tryz.ntmps43
  go_wp2_with fail
  rw [← hwk]
  clear hwk c0 c1 c2 c3
  refine (IsName_any nm _).mono ?_
  intro w1 hB
  have HE := Lib.hid (show Ext wk w1 from hB)
  clear hB
  obtain ⟨d0_0, d0_1, d0_2, d1_0, d1_1, d1_2, d1_3⟩ := BX.out _ HE.out
  cases hb : isNm nm with
  | false =>
    go_wp2
    go_ret
    exact ⟨by rw [HCK.out, hb]; rfl, Ext.trans HW.out HE.out⟩
  | true =>
    rw [hb, if_neg (by simp)] at HCK
    clear hb
    go_wp2_with fail
    clear d0_0 d0_1 d0_2 d1_0 d1_1 d1_2 d1_3
    refine Calls.mono (between_any 7 1 9 _) ?_
    rintro _ v1 ⟨rfl, hv1⟩
    rw [hv1]
    clear hv1 v1
    obtain ⟨d0_0, d0_1, d0_2, d1_0, d1_1, d1_2, d1_3⟩ := BX.out _ HE.out
    have e9 : inB 7 1 9 = true := by decide
    rw [e9, if_neg (by simp)] at HCK
    rw [e9]
    clear e9
    go_wp2_with fail
    clear d0_0 d0_1 d0_2 d1_0 d1_1 d1_2 d1_3
    have HCK := Lib.hid (show res = if inB sz 1 100 = false ∨ inB ot 0 0 = false then 2 else if (7 : Int) = 3 ∧ kindAt p.os ot ≠ 1 then 8 else if (p.os.take i).any (fun y => y.name == nm) then 6 else 0 from by
      have h9 := HCK.out
      rw [show szLo 7 = 1 by decide, show szHi 7 = 100 by decide, show otLo 7 = 0 by decide, show otHi p.os.length 7 = 0 by simp [otHi]] at h9
      first | exact h9 | simpa using h9)
    refine Calls.mono (between_any sz 1 100 _) ?_
    rintro _ v1 ⟨rfl, hv1⟩
    rw [hv1]
    clear hv1 v1
    obtain ⟨d0_0, d0_1, d0_2, d1_0, d1_1, d1_2, d1_3⟩ := BX.out _ HE.out
    cases hb : inB sz 1 100 with
    | false =>
      rw [hb, if_pos (.inl rfl)] at HCK
      clear hb
      go_wp2
      go_ret
      exact ⟨by rw [HCK.out]; rfl, Ext.trans HW.out HE.out⟩
    | true =>
      rw [hb] at HCK
      clear hb
      go_wp2_with fail
      clear d0_0 d0_1 d0_2 d1_0 d1_1 d1_2 d1_3
      refine Calls.mono (between_any ot 0 0 _) ?_
      rintro _ v1 ⟨rfl, hv1⟩
      rw [hv1]
      clear hv1 v1
      obtain ⟨d0_0, d0_1, d0_2, d1_0, d1_1, d1_2, d1_3⟩ := BX.out _ HE.out
      cases hb : inB ot 0 0 with
      | false =>
        rw [hb, if_pos (.inr rfl)] at HCK
        clear hb
        go_wp2
        go_ret
        exact ⟨by rw [HCK.out]; rfl, Ext.trans HW.out HE.out⟩
      | true =>
        rw [hb, if_neg (by simp)] at HCK
        rw [if_neg (by simp)] at HCK
        clear hb
        go_wp2_with fail
        clear d0_0 d0_1 d0_2 d1_0 d1_1 d1_2 d1_3
        have HIT := Lib.hid (fun e : (p.os.take i).any (fun y => y.name == nm) = true => show res = 6 from by rw [HCK.out, e]; rfl)
        go_loopw [8] (fun y0 wr => ∃ k : Nat, k ≤ i ∧ y0 = .int .i64 (k : Int) ∧ ((p.os.take k).any (fun y => y.name == nm)) = false ∧ Ext wk wr) (fun y0 _ => i - (intOf y0).toNat)
        case atStart => exact ⟨0, Nat.zero_le _, rfl, by simp, HE.out⟩
        case round =>
          obtain ⟨k, hk, rfl, ht, hE⟩ := hrel
          clear HE
          have HE := Lib.hid hE
          have HT := Lib.hid ht
          clear hE ht
          obtain ⟨d0_0, d0_1, d0_2, d1_0, d1_1, d1_2, d1_3⟩ := BX.out _ HE.out
          by_cases hlt : k < i
          case pos =>
            have hlk : k < p.os.length := by omega
            obtain ⟨b2, off2, hab, hcs⟩ := HP.out.os k hlk
            dsimp only at hab
            obtain ⟨rfl, rfl⟩ : b = b2 ∧ off = off2 := by simpa using hab
            have c0 := cell_ext hcs.c0 (Ext.trans HW.out HE.out)
            have HNX := Lib.hid (fun e => any_take (q := fun y => y.name == nm) hlk HT.out e)
            have HFD := Lib.hid (fun e => HIT.out (List.any_eq_true.2 ⟨_, mem_take_of hlk hlt, e⟩))
            try dsimp only at HNX HFD
            clear hcs
            generalize (p.os[k]).name = z at *
            go_wp2_with fail
            have ud0_0 := fun U : Up _ => Up.cell d0_0 U
            have ud0_1 := fun U : Up _ => Up.cell d0_1 U
            have ud0_2 := fun U : Up _ => Up.cell d0_2 U
            have ud1_0 := fun U : Up _ => Up.cell d1_0 U
            have ud1_1 := fun U : Up _ => Up.cell d1_1 U
            have ud1_2 := fun U : Up _ => Up.cell d1_2 U
            have ud1_3 := fun U : Up _ => Up.cell d1_3 U
            have uc0 := fun U : Up _ => Up.cell c0 U
            refine wp_region_up (by kernel_rfl) (by kernel_rfl) ?_
            repeat (go_big_quiet_step (fail))
            refine wpQuiet_nil ?_
            rintro _ ⟨U, rfl⟩
            have HE6 := Lib.hid (Ext.trans HE.out U.ext)
            generalize U.W = w6 at *
            clear ud0_0 d0_0 ud0_1 d0_1 ud0_2 d0_2 ud1_0 d1_0 ud1_1 d1_1 ud1_2 d1_2 ud1_3 d1_3 uc0 c0
            cases hq : (z == nm) with
            | true =>
              have HR := Lib.hid (HFD.out hq)
              clear hq
              go_wp2
              go_ret
              exact ⟨by rw [HR.out]; rfl, Ext.trans HW.out HE6.out⟩
            | false =>
              have HNX := Lib.hid (HNX.out hq)
              clear hq
              go_wp2
              go_roundw
              case rel => exact ⟨k + 1, by omega, by go_num, HNX.out, HE6.out⟩
              case measure => simp [intOf]; omega
          case neg =>
            have ekl : k = i := by omega
            have HNO := Lib.hid (show ((p.os.take i).any (fun y => y.name == nm)) = false from by rw [← ekl]; exact HT.out)
            clear ekl
            rw [HNO.out] at HCK
            go_wp2
            go_ret
            exact ⟨by rw [HCK.out]; rfl, Ext.trans HW.out HE.out⟩

set_option maxRecDepth 100000 in
set_option maxHeartbeats 2000000 in
theorem robj_8 (p : Pg) (A : PA) (i : Nat) (w : World) (h : PgAt w p A) (hi : i < p.os.length) (hkd : (p.os[i]).kind = 8) : Gives Tryz.prog 43 #[PV p A, .int .i64 (i : Int)] w (.int .i64 (ckOb p.os i)) := by
  unfold Gives
  have HP := Lib.hid h
  have HCK := Lib.hid (ckOb_at p.os i hi)
  generalize ckOb p.os i = res at *
  obtain ⟨b, off, hoa, hc⟩ := h.os i hi
  have hno := h.wf.no
  obtain ⟨fa, fc, oa, oc, va, vc⟩ := A
  dsimp only at hoa
  subst hoa
  obtain ⟨c0, c1, c2, c3⟩ := hc
  have hlt : b < w.heap.size := cell_lt2 c0
  clear h
  dsimp only [PV]
  generalize (p.os[i]).name = nm at *
  generalize (p.os[i]).kind = kd at *
  generalize (p.os[i]).size = sz at *
  generalize (p.os[i]).oth = ot at *
  subst hkd
  obtain ⟨wk, hwk⟩ : ∃ W, W = ((w.alloc (.cells #[.slice fa p.fs.length fc, .slice (some ⟨b, off, none⟩) p.os.length oc, .slice va p.vs.length vc] 26)).alloc (.cells #[sV nm, .int .i64 8, .int .i64 sz, .int .i64 ot] 52)) := ⟨_, rfl⟩
  have BX := Lib.hid (show ∀ W, Ext wk W → (W.cell? ⟨w.heap.size, 0, none⟩ = some (.slice fa p.fs.length fc) ∧ W.cell? ⟨w.heap.size, 1, none⟩ = some (.slice (some ⟨b, off, none⟩) p.os.length oc) ∧ W.cell? ⟨w.heap.size, 2, none⟩ = some (.slice va p.vs.length vc) ∧ W.cell? ⟨w.heap.size + 1, 0, none⟩ = some (sV nm) ∧ W.cell? ⟨w.heap.size + 1, 1, none⟩ = some (.int .i64 8) ∧ W.cell? ⟨w.heap.size + 1, 2, none⟩ = some (.int .i64 sz) ∧ W.cell? ⟨w.heap.size + 1, 3, none⟩ = some (.int .i64 ot)) from fun W hW => by
    subst hwk
    have h0 := alloc_here w (.cells #[.slice fa p.fs.length fc, .slice (some ⟨b, off, none⟩) p.os.length oc, .slice va p.vs.length vc] 26)
    have h0 := (Below.heap_alloc _ (.cells #[sV nm, .int .i64 8, .int .i64 sz, .int .i64 ot] 52) _ (lt_of_block h0)).trans h0
    have k0 := (hW.below.block _ (lt_of_block h0)).trans h0
    have h1 := alloc_here (w.alloc (.cells #[.slice fa p.fs.length fc, .slice (some ⟨b, off, none⟩) p.os.length oc, .slice va p.vs.length vc] 26)) (.cells #[sV nm, .int .i64 8, .int .i64 sz, .int .i64 ot] 52)
    simp only [World.size_alloc] at h1
    have k1 := (hW.below.block _ (lt_of_block h1)).trans h1
    exact ⟨cell_of k0 rfl, cell_of k0 rfl, cell_of k0 rfl, cell_of k1 rfl, cell_of k1 rfl, cell_of k1 rfl, cell_of k1 rfl⟩)
  have HWZ := Lib.hid (show wk.heap.size = w.heap.size + 2 by rw [hwk]; simp)
  have HW := Lib.hid (show Ext w wk by rw [hwk]; exact (ext_alloc (ext_alloc (Below.refl _ _) _) _))
  have HE0 := Lib.hid (show Ext wk wk from Below.refl _ _)
  go_enter Tryz.func43, Tryz.ntmps43
  go_wp2_with fail
  rw [← hwk]
  clear hwk c0 c1 c2 c3
  refine (IsName_any nm _).mono ?_
  intro w1 hB
  have HE := Lib.hid (show Ext wk w1 from hB)
  clear hB
  obtain ⟨d0_0, d0_1, d0_2, d1_0, d1_1, d1_2, d1_3⟩ := BX.out _ HE.out
  cases hb : isNm nm with
  | false =>
    go_wp2
    go_ret
    exact ⟨by rw [HCK.out, hb]; rfl, Ext.trans HW.out HE.out⟩
  | true =>
    rw [hb, if_neg (by simp)] at HCK
    clear hb
    go_wp2_with fail
    clear d0_0 d0_1 d0_2 d1_0 d1_1 d1_2 d1_3
    refine Calls.mono (between_any 8 1 9 _) ?_
    rintro _ v1 ⟨rfl, hv1⟩
    rw [hv1]
    clear hv1 v1
    obtain ⟨d0_0, d0_1, d0_2, d1_0, d1_1, d1_2, d1_3⟩ := BX.out _ HE.out
    have e9 : inB 8 1 9 = true := by decide
    rw [e9, if_neg (by simp)] at HCK
    rw [e9]
    clear e9
    go_wp2_with fail
    clear d0_0 d0_1 d0_2 d1_0 d1_1 d1_2 d1_3
    have HCK := Lib.hid (show res = if inB sz 1 100 = false ∨ inB ot 1 1099511627776 = false then 2 else if (8 : Int) = 3 ∧ kindAt p.os ot ≠ 1 then 8 else if (p.os.take i).any (fun y => y.name == nm) then 6 else 0 from by
      have h9 := HCK.out
      rw [show szLo 8 = 1 by decide, show szHi 8 = 100 by decide, show otLo 8 = 1 by decide, show otHi p.os.length 8 = 1099511627776 by simp [otHi]] at h9
      first | exact h9 | simpa using h9)
    refine Calls.mono (between_any sz 1 100 _) ?_
    rintro _ v1 ⟨rfl, hv1⟩
    rw [hv1]
    clear hv1 v1
    obtain ⟨d0_0, d0_1, d0_2, d1_0, d1_1, d1_2, d1_3⟩ := BX.out _ HE.out
    cases hb : inB sz 1 100 with
    | false =>
      rw [hb, if_pos (.inl rfl)] at HCK
      clear hb
      go_wp2
      go_ret
      exact ⟨by rw [HCK.out]; rfl, Ext.trans HW.out HE.out⟩
    | true =>
      rw [hb] at HCK
      clear hb
      go_wp2_with fail
      clear d0_0 d0_1 d0_2 d1_0 d1_1 d1_2 d1_3
      refine Calls.mono (between_any ot 1 1099511627776 _) ?_
      rintro _ v1 ⟨rfl, hv1⟩
      rw [hv1]
      clear hv1 v1
      obtain ⟨d0_0, d0_1, d0_2, d1_0, d1_1, d1_2, d1_3⟩ := BX.out _ HE.out
      cases hb : inB ot 1 1099511627776 with
      | false =>
        rw [hb, if_pos (.inr rfl)] at HCK
        clear hb
        go_wp2
        go_ret
        exact ⟨by rw [HCK.out]; rfl, Ext.trans HW.out HE.out⟩
      | true =>
        rw [hb, if_neg (by simp)] at HCK
        rw [if_neg (by simp)] at HCK
        clear hb
        go_wp2_with fail
        clear d0_0 d0_1 d0_2 d1_0 d1_1 d1_2 d1_3
        have HIT := Lib.hid (fun e : (p.os.take i).any (fun y => y.name == nm) = true => show res = 6 from by rw [HCK.out, e]; rfl)
        go_loopw [8] (fun y0 wr => ∃ k : Nat, k ≤ i ∧ y0 = .int .i64 (k : Int) ∧ ((p.os.take k).any (fun y => y.name == nm)) = false ∧ Ext wk wr) (fun y0 _ => i - (intOf y0).toNat)
        case atStart => exact ⟨0, Nat.zero_le _, rfl, by simp, HE.out⟩
        case round =>
          obtain ⟨k, hk, rfl, ht, hE⟩ := hrel
          clear HE
          have HE := Lib.hid hE
          have HT := Lib.hid ht
          clear hE ht
          obtain ⟨d0_0, d0_1, d0_2, d1_0, d1_1, d1_2, d1_3⟩ := BX.out _ HE.out
          by_cases hlt : k < i
          case pos =>
            have hlk : k < p.os.length := by omega
            obtain ⟨b2, off2, hab, hcs⟩ := HP.out.os k hlk
            dsimp only at hab
            obtain ⟨rfl, rfl⟩ : b = b2 ∧ off = off2 := by simpa using hab
            have c0 := cell_ext hcs.c0 (Ext.trans HW.out HE.out)
            have HNX := Lib.hid (fun e => any_take (q := fun y => y.name == nm) hlk HT.out e)
            have HFD := Lib.hid (fun e => HIT.out (List.any_eq_true.2 ⟨_, mem_take_of hlk hlt, e⟩))
            try dsimp only at HNX HFD
            clear hcs
            generalize (p.os[k]).name = z at *
            go_wp2_with fail
            have ud0_0 := fun U : Up _ => Up.cell d0_0 U
            have ud0_1 := fun U : Up _ => Up.cell d0_1 U
            have ud0_2 := fun U : Up _ => Up.cell d0_2 U
            have ud1_0 := fun U : Up _ => Up.cell d1_0 U
            have ud1_1 := fun U : Up _ => Up.cell d1_1 U
            have ud1_2 := fun U : Up _ => Up.cell d1_2 U
            have ud1_3 := fun U : Up _ => Up.cell d1_3 U
            have uc0 := fun U : Up _ => Up.cell c0 U
            refine wp_region_up (by kernel_rfl) (by kernel_rfl) ?_
            repeat (go_big_quiet_step (fail))
            refine wpQuiet_nil ?_
            rintro _ ⟨U, rfl⟩
            have HE6 := Lib.hid (Ext.trans HE.out U.ext)
            generalize U.W = w6 at *
            clear ud0_0 d0_0 ud0_1 d0_1 ud0_2 d0_2 ud1_0 d1_0 ud1_1 d1_1 ud1_2 d1_2 ud1_3 d1_3 uc0 c0
            cases hq : (z == nm) with
            | true =>
              have HR := Lib.hid (HFD.out hq)
              clear hq
              go_wp2
              go_ret
              exact ⟨by rw [HR.out]; rfl, Ext.trans HW.out HE6.out⟩
            | false =>
              have HNX := Lib.hid (HNX.out hq)
              clear hq
              go_wp2
              go_roundw
              case rel => exact ⟨k + 1, by omega, by go_num, HNX.out, HE6.out⟩
              case measure => simp [intOf]; omega
          case neg =>
            have ekl : k = i := by omega
            have HNO := Lib.hid (show ((p.os.take i).any (fun y => y.name == nm)) = false from by rw [← ekl]; exact HT.out)
            clear ekl
            rw [HNO.out] at HCK
            go_wp2
            go_ret
            exact ⟨by rw [HCK.out]; rfl, Ext.trans HW.out HE.out⟩

set_option maxRecDepth 100000 in
set_option maxHeartbeats 2000000 in
theorem robj_9 (p : Pg) (A : PA) (i : Nat) (w : World) (h : PgAt w p A) (hi : i < p.os.length) (hkd : (p.os[i]).kind = 9) : Gives Tryz.prog 43 #[PV p A, .int .i64 (i : Int)] w (.int .i64 (ckOb p.os i)) := by
  unfold Gives
  have HP := Lib.hid h
  have HCK := Lib.hid (ckOb_at p.os i hi)
  generalize ckOb p.os i = res at *
  obtain ⟨b, off, hoa, hc⟩ := h.os i hi
  have hno := h.wf.no
  obtain ⟨fa, fc, oa, oc, va, vc⟩ := A
  dsimp only at hoa
  subst hoa
  obtain ⟨c0, c1, c2, c3⟩ := hc
  have hlt : b < w.heap.size := cell_lt2 c0
  clear h
  dsimp only [PV]
  generalize (p.os[i]).name = nm at *
  generalize (p.os[i]).kind = kd at *
  generalize (p.os[i]).size = sz at *
  generalize (p.os[i]).oth = ot at *
  subst hkd
  obtain ⟨wk, hwk⟩ : ∃ W, W = ((w.alloc (.cells #[.slice fa p.fs.length fc, .slice (some ⟨b, off, none⟩) p.os.length oc, .slice va p.vs.length vc] 26)).alloc (.cells #[sV nm, .int .i64 9, .int .i64 sz, .int .i64 ot] 52)) := ⟨_, rfl⟩
  have BX := Lib.hid (show ∀ W, Ext wk W → (W.cell? ⟨w.heap.size, 0, none⟩ = some (.slice fa p.fs.length fc) ∧ W.cell? ⟨w.heap.size, 1, none⟩ = some (.slice (some ⟨b, off, none⟩) p.os.length oc) ∧ W.cell? ⟨w.heap.size, 2, none⟩ = some (.slice va p.vs.length vc) ∧ W.cell? ⟨w.heap.size + 1, 0, none⟩ = some (sV nm) ∧ W.cell? ⟨w.heap.size + 1, 1, none⟩ = some (.int .i64 9) ∧ W.cell? ⟨w.heap.size + 1, 2, none⟩ = some (.int .i64 sz) ∧ W.cell? ⟨w.heap.size + 1, 3, none⟩ = some (.int .i64 ot)) from fun W hW => by
    subst hwk
    have h0 := alloc_here w (.cells #[.slice fa p.fs.length fc, .slice (some ⟨b, off, none⟩) p.os.length oc, .slice va p.vs.length vc] 26)
    have h0 := (Below.heap_alloc _ (.cells #[sV nm, .int .i64 9, .int .i64 sz, .int .i64 ot] 52) _ (lt_of_block h0)).trans h0
    have k0 := (hW.below.block _ (lt_of_block h0)).trans h0
    have h1 := alloc_here (w.alloc (.cells #[.slice fa p.fs.length fc, .slice (some ⟨b, off, none⟩) p.os.length oc, .slice va p.vs.length vc] 26)) (.cells #[sV nm, .int .i64 9, .int .i64 sz, .int .i64 ot] 52)
    simp only [World.size_alloc] at h1
    have k1 := (hW.below.block _ (lt_of_block h1)).trans h1
    exact ⟨cell_of k0 rfl, cell_of k0 rfl, cell_of k0 rfl, cell_of k1 rfl, cell_of k1 rfl, cell_of k1 rfl, cell_of k1 rfl⟩)
  have HWZ := Lib.hid (show wk.heap.size = w.heap.size + 2 by rw [hwk]; simp)
  have HW := Lib.hid (show Ext w wk by rw [hwk]; exact (ext_alloc (ext_alloc (Below.refl _ _) _) _))
  have HE0 := Lib.hid (show Ext wk wk from Below.refl _ _)
  go_enter Tryz.func43, Tryz.ntmps43
  go_wp2_with fail
  rw [← hwk]
  clear hwk c0 c1 c2 c3
  refine (IsName_any nm _).mono ?_
  intro w1 hB
  have HE := Lib.hid (show Ext wk w1 from hB)
  clear hB
  obtain ⟨d0_0, d0_1, d0_2, d1_0, d1_1, d1_2, d1_3⟩ := BX.out _ HE.out
  cases hb : isNm nm with
  | false =>
    go_wp2
    go_ret
    exact ⟨by rw [HCK.out, hb]; rfl, Ext.trans HW.out HE.out⟩
  | true =>
    rw [hb, if_neg (by simp)] at HCK
    clear hb
    go_wp2_with fail
    clear d0_0 d0_1 d0_2 d1_0 d1_1 d1_2 d1_3
    refine Calls.mono (between_any 9 1 9 _) ?_
    rintro _ v1 ⟨rfl, hv1⟩
    rw [hv1]
    clear hv1 v1
    obtain ⟨d0_0, d0_1, d0_2, d1_0, d1_1, d1_2, d1_3⟩ := BX.out _ HE.out
    have e9 : inB 9 1 9 = true := by decide
    rw [e9, if_neg (by simp)] at HCK
    rw [e9]
    clear e9
    go_wp2_with fail
    clear d0_0 d0_1 d0_2 d1_0 d1_1 d1_2 d1_3
    have HCK := Lib.hid (show res = if inB sz 0 0 = false ∨ inB ot 0 0 = false then 2 else if (9 : Int) = 3 ∧ kindAt p.os ot ≠ 1 then 8 else if (p.os.take i).any (fun y => y.name == nm) then 6 else 0 from by
      have h9 := HCK.out
      rw [show szLo 9 = 0 by decide, show szHi 9 = 0 by decide, show otLo 9 = 0 by decide, show otHi p.os.length 9 = 0 by simp [otHi]] at h9
      first | exact h9 | simpa using h9)
    refine Calls.mono (between_any sz 0 0 _) ?_
    rintro _ v1 ⟨rfl, hv1⟩
    rw [hv1]
    clear hv1 v1
    obtain ⟨d0_0, d0_1, d0_2, d1_0, d1_1, d1_2, d1_3⟩ := BX.out _ HE.out
    cases hb : inB sz 0 0 with
    | false =>
      rw [hb, if_pos (.inl rfl)] at HCK
      clear hb
      go_wp2
      go_ret
      exact ⟨by rw [HCK.out]; rfl, Ext.trans HW.out HE.out⟩
    | true =>
      rw [hb] at HCK
      clear hb
      go_wp2_with fail
      clear d0_0 d0_1 d0_2 d1_0 d1_1 d1_2 d1_3
      refine Calls.mono (between_any ot 0 0 _) ?_
      rintro _ v1 ⟨rfl, hv1⟩
      rw [hv1]
      clear hv1 v1
      obtain ⟨d0_0, d0_1, d0_2, d1_0, d1_1, d1_2, d1_3⟩ := BX.out _ HE.out
      cases hb : inB ot 0 0 with
      | false =>
        rw [hb, if_pos (.inr rfl)] at HCK
        clear hb
        go_wp2
        go_ret
        exact ⟨by rw [HCK.out]; rfl, Ext.trans HW.out HE.out⟩
      | true =>
        rw [hb, if_neg (by simp)] at HCK
        rw [if_neg (by simp)] at HCK
        clear hb
        go_wp2_with fail
        clear d0_0 d0_1 d0_2 d1_0 d1_1 d1_2 d1_3
        have HIT := Lib.hid (fun e : (p.os.take i).any (fun y => y.name == nm) = true => show res = 6 from by rw [HCK.out, e]; rfl)
        go_loopw [8] (fun y0 wr => ∃ k : Nat, k ≤ i ∧ y0 = .int .i64 (k : Int) ∧ ((p.os.take k).any (fun y => y.name == nm)) = false ∧ Ext wk wr) (fun y0 _ => i - (intOf y0).toNat)
        case atStart => exact ⟨0, Nat.zero_le _, rfl, by simp, HE.out⟩
        case round =>
          obtain ⟨k, hk, rfl, ht, hE⟩ := hrel
          clear HE
          have HE := Lib.hid hE
          have HT := Lib.hid ht
          clear hE ht
          obtain ⟨d0_0, d0_1, d0_2, d1_0, d1_1, d1_2, d1_3⟩ := BX.out _ HE.out
          by_cases hlt : k < i
          case pos =>
            have hlk : k < p.os.length := by omega
            obtain ⟨b2, off2, hab, hcs⟩ := HP.out.os k hlk
            dsimp only at hab
            obtain ⟨rfl, rfl⟩ : b = b2 ∧ off = off2 := by simpa using hab
            have c0 := cell_ext hcs.c0 (Ext.trans HW.out HE.out)
            have HNX := Lib.hid (fun e => any_take (q := fun y => y.name == nm) hlk HT.out e)
            have HFD := Lib.hid (fun e => HIT.out (List.any_eq_true.2 ⟨_, mem_take_of hlk hlt, e⟩))
            try dsimp only at HNX HFD
            clear hcs
            generalize (p.os[k]).name = z at *
            go_wp2_with fail
            have ud0_0 := fun U : Up _ => Up.cell d0_0 U
            have ud0_1 := fun U : Up _ => Up.cell d0_1 U
            have ud0_2 := fun U : Up _ => Up.cell d0_2 U
            have ud1_0 := fun U : Up _ => Up.cell d1_0 U
            have ud1_1 := fun U : Up _ => Up.cell d1_1 U
            have ud1_2 := fun U : Up _ => Up.cell d1_2 U
            have ud1_3 := fun U : Up _ => Up.cell d1_3 U
            have uc0 := fun U : Up _ => Up.cell c0 U
            refine wp_region_up (by kernel_rfl) (by kernel_rfl) ?_
            repeat (go_big_quiet_step (fail))
            refine wpQuiet_nil ?_
            rintro _ ⟨U, rfl⟩
            have HE6 := Lib.hid (Ext.trans HE.out U.ext)
            generalize U.W = w6 at *
            clear ud0_0 d0_0 ud0_1 d0_1 ud0_2 d0_2 ud1_0 d1_0 ud1_1 d1_1 ud1_2 d1_2 ud1_3 d1_3 uc0 c0
            cases hq : (z == nm) with
            | true =>
              have HR := Lib.hid (HFD.out hq)
              clear hq
              go_wp2
              go_ret
              exact ⟨by rw [HR.out]; rfl, Ext.trans HW.out HE6.out⟩
            | false =>
              have HNX := Lib.hid (HNX.out hq)
              clear hq
              go_wp2
              go_roundw
              case rel => exact ⟨k + 1, by omega, by go_num, HNX.out, HE6.out⟩
              case measure => simp [intOf]; omega
          case neg =>
            have ekl : k = i := by omega
            have HNO := Lib.hid (show ((p.os.take i).any (fun y => y.name == nm)) = false from by rw [← ekl]; exact HT.out)
            clear ekl
            rw [HNO.out] at HCK
            go_wp2
            go_ret
            exact ⟨by rw [HCK.out]; rfl, Ext.trans HW.out HE.out⟩

theorem robj_any (p : Pg) (A : PA) (i : Nat) (w : World) (h : PgAt w p A) (hi : i < p.os.length) : Gives Tryz.prog 43 #[PV p A, .int .i64 (i : Int)] w (.int .i64 (ckOb p.os i)) := by
  by_cases h0 : (p.os[i]).kind < 1 ∨ 9 < (p.os[i]).kind
  · exact robj_no p A i w h hi h0
  · obtain hk | hk | hk | hk | hk | hk | hk | hk | hk : (p.os[i]).kind = 1 ∨ (p.os[i]).kind = 2 ∨ (p.os[i]).kind = 3 ∨ (p.os[i]).kind = 4 ∨ (p.os[i]).kind = 5 ∨ (p.os[i]).kind = 6 ∨ (p.os[i]).kind = 7 ∨ (p.os[i]).kind = 8 ∨ (p.os[i]).kind = 9 := by omega
    · exact robj_1 p A i w h hi hk
    · exact robj_2 p A i w h hi hk
    · exact robj_3 p A i w h hi hk
    · exact robj_4 p A i w h hi hk
    · exact robj_5 p A i w h hi hk
    · exact robj_6 p A i w h hi hk
    · exact robj_7 p A i w h hi hk
    · exact robj_8 p A i w h hi hk
    · exact robj_9 p A i w h hi hk

end Go.Proofs.YtfkjokbhnblndaaGreatDoor

namespace Go.Proofs.YtfkjokbhnblndaaGreatDoor
open Go.RowKit
set_option linter.unusedVariables false
set_option linter.unusedSimpArgs false

set_option maxRecDepth 100000 in
set_option maxHeartbeats 2000000 in
theorem rvar_any (p : Pg) (A : PA) (i : Nat) (w : World) (h : PgAt w p A) (hi : i < p.vs.length) : Gives Tryz.prog 44 #[PV p A, .int .i64 (i : Int)] w (.int .i64 (ckVa p i)) := by
  unfold Gives
  have HP := Lib.hid h
  have HCK := Lib.hid (ckVa_at p i hi)
  generalize ckVa p i = res at *
  obtain ⟨b, off, hoa, hc⟩ := h.vs i hi
  have hno := h.wf.no
  have hnv := h.wf.nv
  obtain ⟨fa, fc, oa, oc, va, vc⟩ := A
  dsimp only at hoa
  subst hoa
  obtain ⟨c0, c1, c2⟩ := hc
  have hlt : b < w.heap.size := cell_lt2 c0
  clear h
  dsimp only [PV]
  generalize (p.vs[i]).name = nm at *
  generalize (p.vs[i]).init = ini at *
  generalize (p.vs[i]).atomic = atm at *
  obtain ⟨wk, hwk⟩ : ∃ W, W = ((w.alloc (.cells #[.slice fa p.fs.length fc, .slice oa p.os.length oc, .slice (some ⟨b, off, none⟩) p.vs.length vc] 26)).alloc (.cells #[sV nm, .int .i64 ini, .bool atm] 54)) := ⟨_, rfl⟩
  have BX := Lib.hid (show ∀ W, Ext wk W → (W.cell? ⟨w.heap.size, 0, none⟩ = some (.slice fa p.fs.length fc) ∧ W.cell? ⟨w.heap.size, 1, none⟩ = some (.slice oa p.os.length oc) ∧ W.cell? ⟨w.heap.size, 2, none⟩ = some (.slice (some ⟨b, off, none⟩) p.vs.length vc) ∧ W.cell? ⟨w.heap.size + 1, 0, none⟩ = some (sV nm) ∧ W.cell? ⟨w.heap.size + 1, 1, none⟩ = some (.int .i64 ini) ∧ W.cell? ⟨w.heap.size + 1, 2, none⟩ = some (.bool atm)) from fun W hW => by
    subst hwk
    have h0 := alloc_here w (.cells #[.slice fa p.fs.length fc, .slice oa p.os.length oc, .slice (some ⟨b, off, none⟩) p.vs.length vc] 26)
    have h0 := (Below.heap_alloc _ (.cells #[sV nm, .int .i64 ini, .bool atm] 54) _ (lt_of_block h0)).trans h0
    have k0 := (hW.below.block _ (lt_of_block h0)).trans h0
    have h1 := alloc_here (w.alloc (.cells #[.slice fa p.fs.length fc, .slice oa p.os.length oc, .slice (some ⟨b, off, none⟩) p.vs.length vc] 26)) (.cells #[sV nm, .int .i64 ini, .bool atm] 54)
    simp only [World.size_alloc] at h1
    have k1 := (hW.below.block _ (lt_of_block h1)).trans h1
    exact ⟨cell_of k0 rfl, cell_of k0 rfl, cell_of k0 rfl, cell_of k1 rfl, cell_of k1 rfl, cell_of k1 rfl⟩)
  have HWZ := Lib.hid (show wk.heap.size = w.heap.size + 2 by rw [hwk]; simp)
  have HW := Lib.hid (show Ext w wk by rw [hwk]; exact (ext_alloc (ext_alloc (Below.refl _ _) _) _))
  have HE0 := Lib.hid (show Ext wk wk from Below.refl _ _)
  go_enter Tryz.func44, Tryz.ntmps44
  go_wp2_with fail
  rw [← hwk]
  clear hwk c0 c1 c2
  refine (IsName_any nm _).mono ?_
  intro w1 hB
  have HE := Lib.hid (show Ext wk w1 from hB)
  clear hB
  obtain ⟨d0_0, d0_1, d0_2, d1_0, d1_1, d1_2⟩ := BX.out _ HE.out
  cases hb : isNm nm with
  | false =>
    go_wp2
    go_ret
    exact ⟨by rw [HCK.out, hb]; rfl, Ext.trans HW.out HE.out⟩
  | true =>
    rw [hb, if_neg (by simp)] at HCK
    clear hb
    go_wp2_with fail
    clear d0_0 d0_1 d0_2 d1_0 d1_1 d1_2
    refine Calls.mono (between_any ini (-1099511627776) 1099511627776 _) ?_
    rintro _ v1 ⟨rfl, hv1⟩
    rw [hv1]
    clear hv1 v1
    obtain ⟨d0_0, d0_1, d0_2, d1_0, d1_1, d1_2⟩ := BX.out _ HE.out
    cases hb : inB ini (-1099511627776) 1099511627776 with
    | false =>
      rw [hb, if_pos rfl] at HCK
      clear hb
      go_wp2
      go_ret
      exact ⟨by rw [HCK.out]; rfl, Ext.trans HW.out HE.out⟩
    | true =>
      rw [hb, if_neg (by simp)] at HCK
      clear hb
      go_wp2_with fail
      clear d0_0 d0_1 d0_2 d1_0 d1_1 d1_2
      have HIT := Lib.hid (fun e : (p.os.take p.os.length).any (fun y => y.name == nm) = true => show res = 6 from by rw [List.take_length] at e; rw [HCK.out, e]; rfl)
      go_loopw [6] (fun y0 wr => ∃ k : Nat, k ≤ p.os.length ∧ y0 = .int .i64 (k : Int) ∧ ((p.os.take k).any (fun y => y.name == nm)) = false ∧ Ext wk wr) (fun y0 _ => p.os.length - (intOf y0).toNat)
      case atStart => exact ⟨0, Nat.zero_le _, rfl, by simp, HE.out⟩
      case round =>
        obtain ⟨k, hk, rfl, ht, hE⟩ := hrel
        clear HE
        have HE := Lib.hid hE
        have HT := Lib.hid ht
        clear hE ht
        obtain ⟨d0_0, d0_1, d0_2, d1_0, d1_1, d1_2⟩ := BX.out _ HE.out
        by_cases hlt : k < p.os.length
        case pos =>
          have hlk : k < p.os.length := by omega
          obtain ⟨b2, off2, hab, hcs⟩ := HP.out.os k hlk
          dsimp only at hab
          subst hab
          have c0 := cell_ext hcs.c0 (Ext.trans HW.out HE.out)
          have HNX := Lib.hid (fun e => any_take (q := fun y => y.name == nm) hlk HT.out e)
          have HFD := Lib.hid (fun e => HIT.out (List.any_eq_true.2 ⟨_, mem_take_of hlk hlt, e⟩))
          try dsimp only at HNX HFD
          clear hcs
          generalize (p.os[k]).name = z at *
          go_wp2_with fail
          have ud0_0 := fun U : Up _ => Up.cell d0_0 U
          have ud0_1 := fun U : Up _ => Up.cell d0_1 U
          have ud0_2 := fun U : Up _ => Up.cell d0_2 U
          have ud1_0 := fun U : Up _ => Up.cell d1_0 U
          have ud1_1 := fun U : Up _ => Up.cell d1_1 U
          have ud1_2 := fun U : Up _ => Up.cell d1_2 U
          have uc0 := fun U : Up _ => Up.cell c0 U
          refine wp_region_up (by kernel_rfl) (by kernel_rfl) ?_
          repeat (go_big_quiet_step (fail))
          refine wpQuiet_nil ?_
          rintro _ ⟨U, rfl⟩
          have HE6 := Lib.hid (Ext.trans HE.out U.ext)
          generalize U.W = w6 at *
          clear ud0_0 d0_0 ud0_1 d0_1 ud0_2 d0_2 ud1_0 d1_0 ud1_1 d1_1 ud1_2 d1_2 uc0 c0
          cases hq : (z == nm) with
          | true =>
            have HR := Lib.hid (HFD.out hq)
            clear hq
            go_wp2
            go_ret
            exact ⟨by rw [HR.out]; rfl, Ext.trans HW.out HE6.out⟩
          | false =>
            have HNX := Lib.hid (HNX.out hq)
            clear hq
            go_wp2
            go_roundw
            case rel => exact ⟨k + 1, by omega, by go_num, HNX.out, HE6.out⟩
            case measure => simp [intOf]; omega
        case neg =>
          have ekl : k = p.os.length := by omega
          have HNO := Lib.hid (show ((p.os.take p.os.length).any (fun y => y.name == nm)) = false from by rw [← ekl]; exact HT.out)
          clear ekl
          rw [List.take_length] at HNO
          rw [HNO.out, if_neg (by simp)] at HCK
          clear HIT HNO HT
          have HIT := Lib.hid (fun e : (p.vs.take i).any (fun y => y.name == nm) = true => show res = 6 from by rw [HCK.out, e]; rfl)
          go_wp2_with fail
          clear hk d0_0 d0_1 d0_2 d1_0 d1_1 d1_2 hlt
          generalize wr = wv at *
          generalize k = kv at *
          go_loopw [7] (fun y0 wr => ∃ k : Nat, k ≤ i ∧ y0 = .int .i64 (k : Int) ∧ ((p.vs.take k).any (fun y => y.name == nm)) = false ∧ Ext wk wr) (fun y0 _ => i - (intOf y0).toNat)
          case atStart => exact ⟨0, Nat.zero_le _, rfl, by simp, HE.out⟩
          case round =>
            obtain ⟨k, hk, rfl, ht, hE⟩ := hrel
            clear HE
            have HE := Lib.hid hE
            have HT := Lib.hid ht
            clear hE ht
            obtain ⟨d0_0, d0_1, d0_2, d1_0, d1_1, d1_2⟩ := BX.out _ HE.out
            by_cases hlt : k < i
            case pos =>
              have hlk : k < p.vs.length := by omega
              obtain ⟨b2, off2, hab, hcs⟩ := HP.out.vs k hlk
              dsimp only at hab
              obtain ⟨rfl, rfl⟩ : b = b2 ∧ off = off2 := by simpa using hab
              have c0 := cell_ext hcs.c0 (Ext.trans HW.out HE.out)
              have HNX := Lib.hid (fun e => any_take (q := fun y => y.name == nm) hlk HT.out e)
              have HFD := Lib.hid (fun e => HIT.out (List.any_eq_true.2 ⟨_, mem_take_of hlk hlt, e⟩))
              try dsimp only at HNX HFD
              clear hcs
              generalize (p.vs[k]).name = z at *
              go_wp2_with fail
              have ud0_0 := fun U : Up _ => Up.cell d0_0 U
              have ud0_1 := fun U : Up _ => Up.cell d0_1 U
              have ud0_2 := fun U : Up _ => Up.cell d0_2 U
              have ud1_0 := fun U : Up _ => Up.cell d1_0 U
              have ud1_1 := fun U : Up _ => Up.cell d1_1 U
              have ud1_2 := fun U : Up _ => Up.cell d1_2 U
              have uc0 := fun U : Up _ => Up.cell c0 U
              refine wp_region_up (by kernel_rfl) (by kernel_rfl) ?_
              repeat (go_big_quiet_step (fail))
              refine wpQuiet_nil ?_
              rintro _ ⟨U, rfl⟩
              have HE6 := Lib.hid (Ext.trans HE.out U.ext)
              generalize U.W = w6 at *
              clear ud0_0 d0_0 ud0_1 d0_1 ud0_2 d0_2 ud1_0 d1_0 ud1_1 d1_1 ud1_2 d1_2 uc0 c0
              cases hq : (z == nm) with
              | true =>
                have HR := Lib.hid (HFD.out hq)
                clear hq
                go_wp2
                go_ret
                exact ⟨by rw [HR.out]; rfl, Ext.trans HW.out HE6.out⟩
              | false =>
                have HNX := Lib.hid (HNX.out hq)
                clear hq
                go_wp2
                go_roundw
                case rel => exact ⟨k + 1, by omega, by go_num, HNX.out, HE6.out⟩
                case measure => simp [intOf]; omega
            case neg =>
              have ekl : k = i := by omega
              have HNO := Lib.hid (show ((p.vs.take i).any (fun y => y.name == nm)) = false from by rw [← ekl]; exact HT.out)
              clear ekl
              rw [HNO.out] at HCK
              go_wp2
              go_ret
              exact ⟨by rw [HCK.out]; rfl, Ext.trans HW.out HE.out⟩

set_option maxRecDepth 100000 in
set_option maxHeartbeats 4000000 in
theorem rfun_any (p : Pg) (A : PA) (i : Nat) (w : World) (h : PgAt w p A) (hi : i < p.fs.length) : Gives Tryz.prog 45 #[PV p A, .int .i64 (i : Int)] w (.int .i64 (ckFn p i)) := by
  unfold Gives
  have HP := Lib.hid h
  have HCK := Lib.hid (ckFn_at p i hi)
  have HA := Lib.hid (show ∀ W, Ext w W → PgAt W p A from fun W hW => h.ext hW)
  generalize ckFn p i = res at *
  obtain ⟨b, off, ca, cc, hoa, hc, hir⟩ := h.fs i hi
  have HFW := Lib.hid (h.wf.fs _ (List.getElem_mem hi))
  have hnf := h.wf.nf
  have KI := Lib.hid (fun (hr : 0 ≤ (p.fs[i]).regs ∧ (p.fs[i]).regs ≤ 32) W (hW : Ext w W) k (hk : k < (p.fs[i]).code.length) (a : Option Addr) (c : Nat) (hI : IntsAt W a (p.fs[i]).code[k].args) (hcap : (p.fs[i]).code[k].args.length ≤ c) => rins_any p A p.fs[i] ca cc (p.fs[i]).code[k] a c W ⟨h.ext hW, hir.ext hW, HFW.out, hr⟩ (HFW.out.code _ (List.getElem_mem hk)) hI hcap)
  have HIR := Lib.hid hir
  have hlc := HFW.out.len
  obtain ⟨fa, fc, oa, oc, va, vc⟩ := A
  dsimp only at hoa
  subst hoa
  obtain ⟨c0, c1, c2, c3, c4, c5⟩ := hc
  have hlt : b < w.heap.size := cell_lt2 c0
  clear h hir
  dsimp only [PV, FV, IV] at KI ⊢
  obtain ⟨f, hf⟩ : ∃ f, p.fs[i] = f := ⟨_, rfl⟩
  rw [hf] at HCK HFW KI HIR hlc c0 c1 c2 c3 c4 c5
  clear hf
  generalize f.name = nm at *
  generalize f.params = pa at *
  obtain ⟨rg, hrg⟩ : ∃ r, f.regs = r := ⟨_, rfl⟩
  rw [hrg] at HCK KI c2
  clear hrg
  generalize f.prio = pr at *
  generalize f.cl = cl at *
  obtain ⟨wk, hwk⟩ : ∃ W, W = ((w.alloc (.cells #[.slice (some ⟨b, off, none⟩) p.fs.length fc, .slice oa p.os.length oc, .slice va p.vs.length vc] 26)).alloc (.cells #[sV nm, .int .i64 pa, .int .i64 rg, .int .i64 pr, .bool cl, .slice ca f.code.length cc] 47)) := ⟨_, rfl⟩
  have BX := Lib.hid (show ∀ W, Ext wk W → (W.cell? ⟨w.heap.size, 0, none⟩ = some (.slice (some ⟨b, off, none⟩) p.fs.length fc) ∧ W.cell? ⟨w.heap.size, 1, none⟩ = some (.slice oa p.os.length oc) ∧ W.cell? ⟨w.heap.size, 2, none⟩ = some (.slice va p.vs.length vc) ∧ W.cell? ⟨w.heap.size + 1, 0, none⟩ = some (sV nm) ∧ W.cell? ⟨w.heap.size + 1, 1, none⟩ = some (.int .i64 pa) ∧ W.cell? ⟨w.heap.size + 1, 2, none⟩ = some (.int .i64 rg) ∧ W.cell? ⟨w.heap.size + 1, 3, none⟩ = some (.int .i64 pr) ∧ W.cell? ⟨w.heap.size + 1, 4, none⟩ = some (.bool cl) ∧ W.cell? ⟨w.heap.size + 1, 5, none⟩ = some (.slice ca f.code.length cc)) from fun W hW => by
    subst hwk
    have h0 := alloc_here w (.cells #[.slice (some ⟨b, off, none⟩) p.fs.length fc, .slice oa p.os.length oc, .slice va p.vs.length vc] 26)
    have h0 := (Below.heap_alloc _ (.cells #[sV nm, .int .i64 pa, .int .i64 rg, .int .i64 pr, .bool cl, .slice ca f.code.length cc] 47) _ (lt_of_block h0)).trans h0
    have k0 := (hW.below.block _ (lt_of_block h0)).trans h0
    have h1 := alloc_here (w.alloc (.cells #[.slice (some ⟨b, off, none⟩) p.fs.length fc, .slice oa p.os.length oc, .slice va p.vs.length vc] 26)) (.cells #[sV nm, .int .i64 pa, .int .i64 rg, .int .i64 pr, .bool cl, .slice ca f.code.length cc] 47)
    simp only [World.size_alloc] at h1
    have k1 := (hW.below.block _ (lt_of_block h1)).trans h1
    exact ⟨cell_of k0 rfl, cell_of k0 rfl, cell_of k0 rfl, cell_of k1 rfl, cell_of k1 rfl, cell_of k1 rfl, cell_of k1 rfl, cell_of k1 rfl, cell_of k1 rfl⟩)
  have HWZ := Lib.hid (show wk.heap.size = w.heap.size + 2 by rw [hwk]; simp)
  have HW := Lib.hid (show Ext w wk by rw [hwk]; exact (ext_alloc (ext_alloc (Below.refl _ _) _) _))
  have HE0 := Lib.hid (show Ext wk wk from Below.refl _ _)
  go_enter Tryz.func45, Tryz.ntmps45
  go_wp2_with fail
  rw [← hwk]
  clear hwk c0 c1 c2 c3 c4 c5
  refine (IsName_any nm _).mono ?_
  intro w1 hB
  have HE := Lib.hid (show Ext wk w1 from hB)
  clear hB
  obtain ⟨d0_0, d0_1, d0_2, d1_0, d1_1, d1_2, d1_3, d1_4, d1_5⟩ := BX.out _ HE.out
  cases hb : isNm nm with
  | false =>
    go_wp2
    go_ret
    exact ⟨by rw [HCK.out, hb]; rfl, Ext.trans HW.out HE.out⟩
  | true =>
    rw [hb, if_neg (by simp)] at HCK
    clear hb
    go_wp2_with fail
    clear d0_0 d0_1 d0_2 d1_0 d1_1 d1_2 d1_3 d1_4 d1_5
    have HIT := Lib.hid (fun e : (p.fs.take i).any (fun y => y.name == nm) = true => show res = 6 from by rw [HCK.out, if_pos e])
    go_loopw [6] (fun y0 wr => ∃ k : Nat, k ≤ i ∧ y0 = .int .i64 (k : Int) ∧ ((p.fs.take k).any (fun y => y.name == nm)) = false ∧ Ext wk wr) (fun y0 _ => i - (intOf y0).toNat)
    case atStart => exact ⟨0, Nat.zero_le _, rfl, by simp, HE.out⟩
    case round =>
      obtain ⟨k, hk, rfl, ht, hE⟩ := hrel
      clear HE
      have HE := Lib.hid hE
      have HT := Lib.hid ht
      clear hE ht
      obtain ⟨d0_0, d0_1, d0_2, d1_0, d1_1, d1_2, d1_3, d1_4, d1_5⟩ := BX.out _ HE.out
      by_cases hlt : k < i
      case pos =>
        have hlk : k < p.fs.length := by omega
        obtain ⟨b2, off2, a2, cc2, hab, hcs⟩ := HP.out.fs k hlk
        dsimp only at hab
        obtain ⟨rfl, rfl⟩ : b = b2 ∧ off = off2 := by simpa using hab
        have c0 := cell_ext hcs.1.c0 (Ext.trans HW.out HE.out)
        have HNX := Lib.hid (fun e => any_take (q := fun y => y.name == nm) hlk HT.out e)
        have HFD := Lib.hid (fun e => HIT.out (List.any_eq_true.2 ⟨_, mem_take_of hlk hlt, e⟩))
        try dsimp only at HNX HFD
        clear hcs
        generalize (p.fs[k]).name = z at *
        go_wp2_with fail
        have ud0_0 := fun U : Up _ => Up.cell d0_0 U
        have ud0_1 := fun U : Up _ => Up.cell d0_1 U
        have ud0_2 := fun U : Up _ => Up.cell d0_2 U
        have ud1_0 := fun U : Up _ => Up.cell d1_0 U
        have ud1_1 := fun U : Up _ => Up.cell d1_1 U
        have ud1_2 := fun U : Up _ => Up.cell d1_2 U
        have ud1_3 := fun U : Up _ => Up.cell d1_3 U
        have ud1_4 := fun U : Up _ => Up.cell d1_4 U
        have ud1_5 := fun U : Up _ => Up.cell d1_5 U
        have uc0 := fun U : Up _ => Up.cell c0 U
        refine wp_region_up (by kernel_rfl) (by kernel_rfl) ?_
        repeat (go_big_quiet_step (fail))
        refine wpQuiet_nil ?_
        rintro _ ⟨U, rfl⟩
        have HE6 := Lib.hid (Ext.trans HE.out U.ext)
        generalize U.W = w6 at *
        clear ud0_0 d0_0 ud0_1 d0_1 ud0_2 d0_2 ud1_0 d1_0 ud1_1 d1_1 ud1_2 d1_2 ud1_3 d1_3 ud1_4 d1_4 ud1_5 d1_5 uc0 c0
        cases hq : (z == nm) with
        | true =>
          have HR := Lib.hid (HFD.out hq)
          clear hq
          go_wp2
          go_ret
          exact ⟨by rw [HR.out]; rfl, Ext.trans HW.out HE6.out⟩
        | false =>
          have HNX := Lib.hid (HNX.out hq)
          clear hq
          go_wp2
          go_roundw
          case rel => exact ⟨k + 1, by omega, by go_num, HNX.out, HE6.out⟩
          case measure => simp [intOf]; omega
      case neg =>
        have ekl : k = i := by omega
        have HNO := Lib.hid (show ((p.fs.take i).any (fun y => y.name == nm)) = false from by rw [← ekl]; exact HT.out)
        clear ekl
        rw [HNO.out, if_neg (by simp)] at HCK
        clear HIT HNO HT
        go_wp2_with fail
        clear hk d0_0 d0_1 d0_2 d1_0 d1_1 d1_2 d1_3 d1_4 d1_5 hlt
        generalize wr = wv at *
        generalize k = kv at *
        refine Calls.mono (between_any pa 0 8 _) ?_
        rintro _ v1 ⟨rfl, hv1⟩
        rw [hv1]
        clear hv1 v1
        obtain ⟨d0_0, d0_1, d0_2, d1_0, d1_1, d1_2, d1_3, d1_4, d1_5⟩ := BX.out _ HE.out
        cases hb0 : inB pa 0 8 with
        | false =>
          rw [hb0, if_pos (by simp)] at HCK
          clear hb0
          go_wp2
          go_ret
          exact ⟨by rw [HCK.out]; rfl, Ext.trans HW.out HE.out⟩
        | true =>
          rw [hb0] at HCK
          have HB0 := Lib.hid hb0
          clear hb0
          go_wp2_with fail
          clear d0_0 d0_1 d0_2 d1_0 d1_1 d1_2 d1_3 d1_4 d1_5
          refine Calls.mono (between_any rg pa 32 _) ?_
          rintro _ v1 ⟨rfl, hv1⟩
          rw [hv1]
          clear hv1 v1
          obtain ⟨d0_0, d0_1, d0_2, d1_0, d1_1, d1_2, d1_3, d1_4, d1_5⟩ := BX.out _ HE.out
          cases hb1 : inB rg pa 32 with
          | false =>
            rw [hb1, if_pos (by simp)] at HCK
            clear hb1
            go_wp2
            go_ret
            exact ⟨by rw [HCK.out]; rfl, Ext.trans HW.out HE.out⟩
          | true =>
            rw [hb1] at HCK
            have HB1 := Lib.hid hb1
            clear hb1
            go_wp2_with fail
            clear d0_0 d0_1 d0_2 d1_0 d1_1 d1_2 d1_3 d1_4 d1_5
            refine Calls.mono (between_any pr 0 9 _) ?_
            rintro _ v1 ⟨rfl, hv1⟩
            rw [hv1]
            clear hv1 v1
            obtain ⟨d0_0, d0_1, d0_2, d1_0, d1_1, d1_2, d1_3, d1_4, d1_5⟩ := BX.out _ HE.out
            cases hb2 : inB pr 0 9 with
            | false =>
              rw [hb2, if_pos (by simp)] at HCK
              clear hb2
              go_wp2
              go_ret
              exact ⟨by rw [HCK.out]; rfl, Ext.trans HW.out HE.out⟩
            | true =>
              rw [hb2] at HCK
              have HB2 := Lib.hid hb2
              clear hb2
              by_cases hcp : cl = true ∧ pr ≠ 0
              case pos =>
                obtain ⟨rfl, hp0⟩ := hcp
                have g1 : (pr != 0) = true := by rw [bne_iff_ne]; exact hp0
                rw [if_pos (by simp [hp0])] at HCK
                clear hp0
                go_wp2
                go_ret
                exact ⟨by rw [HCK.out]; rfl, Ext.trans HW.out HE.out⟩
              case neg =>
                rw [if_neg (by simp; simpa using hcp)] at HCK
                have HRGS := Lib.hid (show 0 ≤ rg ∧ rg ≤ 32 from by have h1 := inB_iff.1 HB0.out; have h2 := inB_iff.1 HB1.out; omega)
                have HPA := Lib.hid (inB_iff.1 HB0.out)
                have hpr0 : cl = true → pr = 0 := fun e => Classical.byContradiction fun hn => hcp ⟨e, hn⟩
                have hg : cl = false ∨ (pr != 0) = false := by cases cl <;> simp_all
                clear hcp HB0 HB1 HB2
                by_cases hlen : 200 < f.code.length
                case pos =>
                  have g2 : (200 : Int) < f.code.length := by omega
                  rw [if_pos hlen] at HCK
                  rcases hg with rfl | g1
                  case inl =>
                    clear hpr0
                    go_wp2
                    go_ret
                    exact ⟨by rw [HCK.out]; rfl, Ext.trans HW.out HE.out⟩
                  case inr =>
                    clear hpr0
                    cases cl with
                    | false =>
                      go_wp2
                      go_ret
                      exact ⟨by rw [HCK.out]; rfl, Ext.trans HW.out HE.out⟩
                    | true =>
                      go_wp2
                      go_ret
                      exact ⟨by rw [HCK.out]; rfl, Ext.trans HW.out HE.out⟩
                case neg =>
                  have g2 : ¬ (200 : Int) < f.code.length := by omega
                  rw [if_neg hlen] at HCK
                  clear hlen hpr0
                  cases cl with
                  | false =>
                    clear hg
                    by_cases hi0 : i = 0
                    case pos =>
                      have g3 : ((i : Int) == 0) = true := by rw [beq_iff_eq]; omega
                      by_cases hp : pa = 0
                      case neg =>
                        have g4 : (pa != 0) = true := by rw [bne_iff_ne]; exact hp
                        rw [if_pos ⟨hi0, .inl (by have := HPA.out; omega)⟩] at HCK
                        clear hp hi0
                        go_wp2
                        go_ret
                        exact ⟨by rw [HCK.out]; rfl, Ext.trans HW.out HE.out⟩
                      case pos =>
                        subst hp
                        rw [if_neg (by simp)] at HCK
                        clear hi0
                        go_wp2_with fail
                        clear d0_0 d0_1 d0_2 d1_0 d1_1 d1_2 d1_3 d1_4 d1_5
                        have HRG := Lib.hid HRGS.out
                        go_loopw [7] (fun y0 wr => ∃ k : Nat, k ≤ f.code.length ∧ y0 = .int .i64 (k : Int) ∧ fstE (fun k => ckIns p f (insAt f k)) k = 0 ∧ Ext wk wr) (fun y0 _ => f.code.length - (intOf y0).toNat)
                        case atStart => exact ⟨0, Nat.zero_le _, rfl, rfl, HE.out⟩
                        case round =>
                          obtain ⟨k, hk, rfl, ht, hE⟩ := hrel
                          clear HE
                          have HE := Lib.hid hE
                          have HT := Lib.hid ht
                          clear hE ht
                          obtain ⟨d0_0, d0_1, d0_2, d1_0, d1_1, d1_2, d1_3, d1_4, d1_5⟩ := BX.out _ HE.out
                          by_cases hlt : k < f.code.length
                          case pos =>
                            have hlk : k < f.code.length := hlt
                            obtain ⟨b3, off3, xa, xc, hca, hic, hia, hxc⟩ := HIR.out k hlk
                            subst hca
                            have HEW := Lib.hid (Ext.trans HW.out HE.out)
                            obtain ⟨e0, e1, e2, e3, e4⟩ := hic.ext HEW.out
                            have HST := Lib.hid (fun (h : ckIns p f f.code[k] = 0) => show fstE (fun k => ckIns p f (insAt f k)) (k + 1) = 0 from by rw [fstE_step HT.out, insAt_eq hlk, h])
                            have HSP := Lib.hid (fun (h : ckIns p f f.code[k] ≠ 0) => show res = ckIns p f f.code[k] from by
                              have e := fstE_stop (f := fun k => ckIns p f (insAt f k)) HT.out (by rw [insAt_eq hlk]; exact h) hlt
                              rw [HCK.out, e, insAt_eq hlk])
                            have K := Lib.hid (fun W (hW : Ext w W) => KI.out HRG.out W hW k hlt xa xc (hia.below hW) hxc)
                            clear hic hia hxc
                            generalize ckIns p f f.code[k] = er at *
                            generalize f.code[k] = y at *
                            go_wp2_with fail
                            have ud0_0 := fun U : Up _ => Up.cell d0_0 U
                            have ud0_1 := fun U : Up _ => Up.cell d0_1 U
                            have ud0_2 := fun U : Up _ => Up.cell d0_2 U
                            have ud1_0 := fun U : Up _ => Up.cell d1_0 U
                            have ud1_1 := fun U : Up _ => Up.cell d1_1 U
                            have ud1_2 := fun U : Up _ => Up.cell d1_2 U
                            have ud1_3 := fun U : Up _ => Up.cell d1_3 U
                            have ud1_4 := fun U : Up _ => Up.cell d1_4 U
                            have ud1_5 := fun U : Up _ => Up.cell d1_5 U
                            have ue0 := fun U : Up _ => Up.cell e0 U
                            have ue1 := fun U : Up _ => Up.cell e1 U
                            have ue2 := fun U : Up _ => Up.cell e2 U
                            have ue3 := fun U : Up _ => Up.cell e3 U
                            have ue4 := fun U : Up _ => Up.cell e4 U
                            refine wp_region_up (by kernel_rfl) (by kernel_rfl) ?_
                            repeat (go_big_quiet_step (first | (go_at_call 91; refine Up.callE (fun W hW => K.out W (Ext.trans HEW.out hW)) ?_; with_reducible rfl)))
                            refine wpQuiet_nil ?_
                            rintro _ ⟨U, rfl⟩
                            have HE6 := Lib.hid (Ext.trans HE.out U.ext)
                            generalize U.W = w6 at *
                            clear ud0_0 d0_0 ud0_1 d0_1 ud0_2 d0_2 ud1_0 d1_0 ud1_1 d1_1 ud1_2 d1_2 ud1_3 d1_3 ud1_4 d1_4 ud1_5 d1_5 ue0 e0 ue1 e1 ue2 e2 ue3 e3 ue4 e4
                            by_cases he : er = 0
                            case neg =>
                              have HR := Lib.hid (HSP.out he)
                              have g3 : (er != 0) = true := by rw [bne_iff_ne]; exact he
                              clear he
                              go_wp2
                              go_ret
                              exact ⟨by rw [HR.out]; rfl, Ext.trans HW.out HE6.out⟩
                            case pos =>
                              have HS := Lib.hid (HST.out he)
                              subst he
                              go_wp2
                              go_roundw
                              case rel => exact ⟨k + 1, by omega, by go_num, HS.out, HE6.out⟩
                              case measure => simp [intOf]; omega
                          case neg =>
                            have ekl : k = f.code.length := by omega
                            rw [← ekl, HT.out] at HCK
                            clear ekl
                            go_wp2
                            go_ret
                            exact ⟨by rw [HCK.out]; rfl, Ext.trans HW.out HE.out⟩
                    case neg =>
                      have g3 : ((i : Int) == 0) = false := by rw [beq_eq_false_iff_ne]; omega
                      rw [if_neg (fun e => hi0 e.1)] at HCK
                      clear hi0
                      go_wp2_with fail
                      clear d0_0 d0_1 d0_2 d1_0 d1_1 d1_2 d1_3 d1_4 d1_5
                      have HRG := Lib.hid HRGS.out
                      go_loopw [7] (fun y0 wr => ∃ k : Nat, k ≤ f.code.length ∧ y0 = .int .i64 (k : Int) ∧ fstE (fun k => ckIns p f (insAt f k)) k = 0 ∧ Ext wk wr) (fun y0 _ => f.code.length - (intOf y0).toNat)
                      case atStart => exact ⟨0, Nat.zero_le _, rfl, rfl, HE.out⟩
                      case round =>
                        obtain ⟨k, hk, rfl, ht, hE⟩ := hrel
                        clear HE
                        have HE := Lib.hid hE
                        have HT := Lib.hid ht
                        clear hE ht
                        obtain ⟨d0_0, d0_1, d0_2, d1_0, d1_1, d1_2, d1_3, d1_4, d1_5⟩ := BX.out _ HE.out
                        by_cases hlt : k < f.code.length
                        case pos =>
                          have hlk : k < f.code.length := hlt
                          obtain ⟨b3, off3, xa, xc, hca, hic, hia, hxc⟩ := HIR.out k hlk
                          subst hca
                          have HEW := Lib.hid (Ext.trans HW.out HE.out)
                          obtain ⟨e0, e1, e2, e3, e4⟩ := hic.ext HEW.out
                          have HST := Lib.hid (fun (h : ckIns p f f.code[k] = 0) => show fstE (fun k => ckIns p f (insAt f k)) (k + 1) = 0 from by rw [fstE_step HT.out, insAt_eq hlk, h])
                          have HSP := Lib.hid (fun (h : ckIns p f f.code[k] ≠ 0) => show res = ckIns p f f.code[k] from by
                            have e := fstE_stop (f := fun k => ckIns p f (insAt f k)) HT.out (by rw [insAt_eq hlk]; exact h) hlt
                            rw [HCK.out, e, insAt_eq hlk])
                          have K := Lib.hid (fun W (hW : Ext w W) => KI.out HRG.out W hW k hlt xa xc (hia.below hW) hxc)
                          clear hic hia hxc
                          generalize ckIns p f f.code[k] = er at *
                          generalize f.code[k] = y at *
                          go_wp2_with fail
                          have ud0_0 := fun U : Up _ => Up.cell d0_0 U
                          have ud0_1 := fun U : Up _ => Up.cell d0_1 U
                          have ud0_2 := fun U : Up _ => Up.cell d0_2 U
                          have ud1_0 := fun U : Up _ => Up.cell d1_0 U
                          have ud1_1 := fun U : Up _ => Up.cell d1_1 U
                          have ud1_2 := fun U : Up _ => Up.cell d1_2 U
                          have ud1_3 := fun U : Up _ => Up.cell d1_3 U
                          have ud1_4 := fun U : Up _ => Up.cell d1_4 U
                          have ud1_5 := fun U : Up _ => Up.cell d1_5 U
                          have ue0 := fun U : Up _ => Up.cell e0 U
                          have ue1 := fun U : Up _ => Up.cell e1 U
                          have ue2 := fun U : Up _ => Up.cell e2 U
                          have ue3 := fun U : Up _ => Up.cell e3 U
                          have ue4 := fun U : Up _ => Up.cell e4 U
                          refine wp_region_up (by kernel_rfl) (by kernel_rfl) ?_
                          repeat (go_big_quiet_step (first | (go_at_call 91; refine Up.callE (fun W hW => K.out W (Ext.trans HEW.out hW)) ?_; with_reducible rfl)))
                          refine wpQuiet_nil ?_
                          rintro _ ⟨U, rfl⟩
                          have HE6 := Lib.hid (Ext.trans HE.out U.ext)
                          generalize U.W = w6 at *
                          clear ud0_0 d0_0 ud0_1 d0_1 ud0_2 d0_2 ud1_0 d1_0 ud1_1 d1_1 ud1_2 d1_2 ud1_3 d1_3 ud1_4 d1_4 ud1_5 d1_5 ue0 e0 ue1 e1 ue2 e2 ue3 e3 ue4 e4
                          by_cases he : er = 0
                          case neg =>
                            have HR := Lib.hid (HSP.out he)
                            have g3 : (er != 0) = true := by rw [bne_iff_ne]; exact he
                            clear he
                            go_wp2
                            go_ret
                            exact ⟨by rw [HR.out]; rfl, Ext.trans HW.out HE6.out⟩
                          case pos =>
                            have HS := Lib.hid (HST.out he)
                            subst he
                            go_wp2
                            go_roundw
                            case rel => exact ⟨k + 1, by omega, by go_num, HS.out, HE6.out⟩
                            case measure => simp [intOf]; omega
                        case neg =>
                          have ekl : k = f.code.length := by omega
                          rw [← ekl, HT.out] at HCK
                          clear ekl
                          go_wp2
                          go_ret
                          exact ⟨by rw [HCK.out]; rfl, Ext.trans HW.out HE.out⟩
                  | true =>
                    have g1 : (pr != 0) = false := by simpa using hg
                    clear hg
                    by_cases hi0 : i = 0
                    case pos =>
                      have g3 : ((i : Int) == 0) = true := by rw [beq_iff_eq]; omega
                      by_cases hp : pa = 0
                      case neg =>
                        have g4 : (pa != 0) = true := by rw [bne_iff_ne]; exact hp
                        rw [if_pos ⟨hi0, .inl (by have := HPA.out; omega)⟩] at HCK
                        clear hp hi0
                        go_wp2
                        go_ret
                        exact ⟨by rw [HCK.out]; rfl, Ext.trans HW.out HE.out⟩
                      case pos =>
                        subst hp
                        rw [if_pos ⟨hi0, .inr rfl⟩] at HCK
                        clear hi0
                        go_wp2
                        go_ret
                        exact ⟨by rw [HCK.out]; rfl, Ext.trans HW.out HE.out⟩
                    case neg =>
                      have g3 : ((i : Int) == 0) = false := by rw [beq_eq_false_iff_ne]; omega
                      rw [if_neg (fun e => hi0 e.1)] at HCK
                      clear hi0
                      go_wp2_with fail
                      clear d0_0 d0_1 d0_2 d1_0 d1_1 d1_2 d1_3 d1_4 d1_5
                      have HRG := Lib.hid HRGS.out
                      go_loopw [7] (fun y0 wr => ∃ k : Nat, k ≤ f.code.length ∧ y0 = .int .i64 (k : Int) ∧ fstE (fun k => ckIns p f (insAt f k)) k = 0 ∧ Ext wk wr) (fun y0 _ => f.code.length - (intOf y0).toNat)
                      case atStart => exact ⟨0, Nat.zero_le _, rfl, rfl, HE.out⟩
                      case round =>
                        obtain ⟨k, hk, rfl, ht, hE⟩ := hrel
                        clear HE
                        have HE := Lib.hid hE
                        have HT := Lib.hid ht
                        clear hE ht
                        obtain ⟨d0_0, d0_1, d0_2, d1_0, d1_1, d1_2, d1_3, d1_4, d1_5⟩ := BX.out _ HE.out
                        by_cases hlt : k < f.code.length
                        case pos =>
                          have hlk : k < f.code.length := hlt
                          obtain ⟨b3, off3, xa, xc, hca, hic, hia, hxc⟩ := HIR.out k hlk
                          subst hca
                          have HEW := Lib.hid (Ext.trans HW.out HE.out)
                          obtain ⟨e0, e1, e2, e3, e4⟩ := hic.ext HEW.out
                          have HST := Lib.hid (fun (h : ckIns p f f.code[k] = 0) => show fstE (fun k => ckIns p f (insAt f k)) (k + 1) = 0 from by rw [fstE_step HT.out, insAt_eq hlk, h])
                          have HSP := Lib.hid (fun (h : ckIns p f f.code[k] ≠ 0) => show res = ckIns p f f.code[k] from by
                            have e := fstE_stop (f := fun k => ckIns p f (insAt f k)) HT.out (by rw [insAt_eq hlk]; exact h) hlt
                            rw [HCK.out, e, insAt_eq hlk])
                          have K := Lib.hid (fun W (hW : Ext w W) => KI.out HRG.out W hW k hlt xa xc (hia.below hW) hxc)
                          clear hic hia hxc
                          generalize ckIns p f f.code[k] = er at *
                          generalize f.code[k] = y at *
                          go_wp2_with fail
                          have ud0_0 := fun U : Up _ => Up.cell d0_0 U
                          have ud0_1 := fun U : Up _ => Up.cell d0_1 U
                          have ud0_2 := fun U : Up _ => Up.cell d0_2 U
                          have ud1_0 := fun U : Up _ => Up.cell d1_0 U
                          have ud1_1 := fun U : Up _ => Up.cell d1_1 U
                          have ud1_2 := fun U : Up _ => Up.cell d1_2 U
                          have ud1_3 := fun U : Up _ => Up.cell d1_3 U
                          have ud1_4 := fun U : Up _ => Up.cell d1_4 U
                          have ud1_5 := fun U : Up _ => Up.cell d1_5 U
                          have ue0 := fun U : Up _ => Up.cell e0 U
                          have ue1 := fun U : Up _ => Up.cell e1 U
                          have ue2 := fun U : Up _ => Up.cell e2 U
                          have ue3 := fun U : Up _ => Up.cell e3 U
                          have ue4 := fun U : Up _ => Up.cell e4 U
                          refine wp_region_up (by kernel_rfl) (by kernel_rfl) ?_
                          repeat (go_big_quiet_step (first | (go_at_call 91; refine Up.callE (fun W hW => K.out W (Ext.trans HEW.out hW)) ?_; with_reducible rfl)))
                          refine wpQuiet_nil ?_
                          rintro _ ⟨U, rfl⟩
                          have HE6 := Lib.hid (Ext.trans HE.out U.ext)
                          generalize U.W = w6 at *
                          clear ud0_0 d0_0 ud0_1 d0_1 ud0_2 d0_2 ud1_0 d1_0 ud1_1 d1_1 ud1_2 d1_2 ud1_3 d1_3 ud1_4 d1_4 ud1_5 d1_5 ue0 e0 ue1 e1 ue2 e2 ue3 e3 ue4 e4
                          by_cases he : er = 0
                          case neg =>
                            have HR := Lib.hid (HSP.out he)
                            have g3 : (er != 0) = true := by rw [bne_iff_ne]; exact he
                            clear he
                            go_wp2
                            go_ret
                            exact ⟨by rw [HR.out]; rfl, Ext.trans HW.out HE6.out⟩
                          case pos =>
                            have HS := Lib.hid (HST.out he)
                            subst he
                            go_wp2
                            go_roundw
                            case rel => exact ⟨k + 1, by omega, by go_num, HS.out, HE6.out⟩
                            case measure => simp [intOf]; omega
                        case neg =>
                          have ekl : k = f.code.length := by omega
                          rw [← ekl, HT.out] at HCK
                          clear ekl
                          go_wp2
                          go_ret
                          exact ⟨by rw [HCK.out]; rfl, Ext.trans HW.out HE.out⟩

end Go.Proofs.YtfkjokbhnblndaaGreatDoor

namespace Go.Proofs.YtfkjokbhnblndaaGreatDoor
open Go.RowKit
set_option linter.unusedVariables false
set_option linter.unusedSimpArgs false


set_option maxRecDepth 100000 in
set_option maxHeartbeats 4000000 in
theorem refCk_any (p : Pg) (A : PA) (w : World) (h : PgAt w p A) : Gives Tryz.prog 22 #[PV p A] w (.int .i64 (ckPg p)) := by
  unfold Gives
  have KO := Lib.hid (fun W (hW : Ext w W) k (hk : k < p.os.length) => robj_any p A k W (h.ext hW) hk)
  have KV := Lib.hid (fun W (hW : Ext w W) k (hk : k < p.vs.length) => rvar_any p A k W (h.ext hW) hk)
  have KF := Lib.hid (fun W (hW : Ext w W) k (hk : k < p.fs.length) => rfun_any p A k W (h.ext hW) hk)
  dsimp only [PV] at KO KV KF ⊢
  obtain ⟨wk, hwk⟩ : ∃ W, W = (w.alloc (.cells #[.slice A.fa p.fs.length A.fc, .slice A.oa p.os.length A.oc, .slice A.va p.vs.length A.vc] 26)) := ⟨_, rfl⟩
  have BX := Lib.hid (show ∀ W, Ext wk W → (W.cell? ⟨w.heap.size, 0, none⟩ = some (.slice A.fa p.fs.length A.fc) ∧ W.cell? ⟨w.heap.size, 1, none⟩ = some (.slice A.oa p.os.length A.oc) ∧ W.cell? ⟨w.heap.size, 2, none⟩ = some (.slice A.va p.vs.length A.vc)) from fun W hW => by
    subst hwk
    have h0 := alloc_here w (.cells #[.slice A.fa p.fs.length A.fc, .slice A.oa p.os.length A.oc, .slice A.va p.vs.length A.vc] 26)
    have k0 := (hW.below.block _ (lt_of_block h0)).trans h0
    exact ⟨cell_of k0 rfl, cell_of k0 rfl, cell_of k0 rfl⟩)
  have HWZ := Lib.hid (show wk.heap.size = w.heap.size + 1 by rw [hwk]; simp)
  have HW := Lib.hid (show Ext w wk by rw [hwk]; exact (ext_alloc (Below.refl _ _) _))
  have HE0 := Lib.hid (show Ext wk wk from Below.refl _ _)
  have HR := Lib.hid (show ckPg p = (if p.fs.length = 0 then 1
    else if p.fs.length > 32 ∨ p.os.length > 16 ∨ p.vs.length > 16 then 4
    else if fstE (ckOb p.os) p.os.length ≠ 0 then fstE (ckOb p.os) p.os.length
    else if fstE (ckVa p) p.vs.length ≠ 0 then fstE (ckVa p) p.vs.length
    else fstE (ckFn p) p.fs.length) from rfl)
  generalize ckPg p = res at *
  clear h
  obtain ⟨fa, fc, oa, oc, va, vc⟩ := A
  dsimp only at *
  generalize p.fs.length = nf at *
  generalize p.os.length = no at *
  generalize p.vs.length = nv at *
  by_cases h0 : nf = 0
  · subst h0
    rw [if_pos rfl] at HR
    go_enter Tryz.func22, Tryz.ntmps22
    go_wp2
    rw [← hwk]
    go_ret
    exact ⟨by rw [HR.out]; rfl, HW.out⟩
  · rw [if_neg h0] at HR
    have g0 : ((nf : Int) == 0) = false := by rw [beq_eq_false_iff_ne]; omega
    by_cases h1 : 32 < nf
    · rw [if_pos (.inl h1)] at HR
      have g1 : (32 : Int) < nf := by omega
      go_enter Tryz.func22, Tryz.ntmps22
      go_wp2
      rw [← hwk]
      go_ret
      exact ⟨by rw [HR.out]; rfl, HW.out⟩
    · have g1 : ¬ (32 : Int) < nf := by omega
      by_cases h2 : 16 < no
      · rw [if_pos (.inr (.inl h2))] at HR
        have g2 : (16 : Int) < no := by omega
        go_enter Tryz.func22, Tryz.ntmps22
        go_wp2
        rw [← hwk]
        go_ret
        exact ⟨by rw [HR.out]; rfl, HW.out⟩
      · have g2 : ¬ (16 : Int) < no := by omega
        by_cases h3 : 16 < nv
        · rw [if_pos (.inr (.inr h3))] at HR
          have g3 : (16 : Int) < nv := by omega
          go_enter Tryz.func22, Tryz.ntmps22
          go_wp2
          rw [← hwk]
          go_ret
          exact ⟨by rw [HR.out]; rfl, HW.out⟩
        · have g3 : ¬ (16 : Int) < nv := by omega
          rw [if_neg (by omega)] at HR
          go_enter Tryz.func22, Tryz.ntmps22
          go_wp2_with fail
          rw [← hwk]
          clear hwk
          go_loopw [3] (fun i wr => ∃ k : Nat, k ≤ no ∧ i = .int .i64 k ∧ fstE (ckOb p.os) k = 0 ∧ Ext wk wr) (fun i _ => no - (intOf i).toNat)
          case atStart => exact ⟨0, Nat.zero_le _, rfl, rfl, (Below.refl _ _)⟩
          case round =>
            obtain ⟨k, hk, rfl, he, hE⟩ := hrel
            have HE := Lib.hid hE
            have HF := Lib.hid he
            clear he
            obtain ⟨d0_0, d0_1, d0_2⟩ := BX.out wr hE
            by_cases hlk : k < no
            · have K := Lib.hid (KO.out wr (Ext.trans HW.out hE) k hlk)
              have HST := Lib.hid (fun h : (ckOb p.os) k = 0 => show fstE (ckOb p.os) (k + 1) = 0 from by rw [fstE_step HF.out, h])
              have HSP := Lib.hid (fun h : (ckOb p.os) k ≠ 0 => show res = (ckOb p.os) k from by
                have e := fstE_stop HF.out h hlk
                first | rw [HR.out, if_pos (by rw [e]; exact h), e] | rw [HR.out, e])
              generalize (ckOb p.os) k = e1 at *
              clear hE
              go_wp2_with fail
              clear d0_0 d0_1 d0_2
              refine K.out.mono ?_
              intro w6 hB
              have HE6 := Lib.hid (Ext.trans HE.out hB)
              clear hB
              by_cases hie : e1 = 0
              · have HS := Lib.hid (HST.out hie)
                rw [hie]
                clear hie
                obtain ⟨d0_0, d0_1, d0_2⟩ := BX.out w6 HE6.out
                go_wp2
                go_roundw
                case rel => exact ⟨k + 1, by omega, by go_num, HS.out, HE6.out⟩
                case measure => simp [intOf]; omega
              · have HRR := Lib.hid (HSP.out hie)
                have hie' : (e1 != 0) = true := by rw [bne_iff_ne]; exact hie
                clear hie
                obtain ⟨d0_0, d0_1, d0_2⟩ := BX.out w6 HE6.out
                go_wp2
                go_ret
                exact ⟨by rw [HRR.out]; rfl, Ext.trans HW.out HE6.out⟩
            · obtain rfl : k = no := by omega
              rw [if_neg (not_not_intro HF.out)] at HR
              have HE1 := Lib.hid hE
              clear hE
              generalize wr = wo at *
              go_wp2_with fail
              clear d0_0 d0_1 d0_2
              go_loopw [5] (fun i wr => ∃ k : Nat, k ≤ nv ∧ i = .int .i64 k ∧ fstE (ckVa p) k = 0 ∧ Ext wk wr) (fun i _ => nv - (intOf i).toNat)
              case atStart => exact ⟨0, Nat.zero_le _, rfl, rfl, HE1.out⟩
              case round =>
                obtain ⟨k, hk, rfl, he, hE⟩ := hrel
                have HE := Lib.hid hE
                have HF := Lib.hid he
                clear he
                obtain ⟨d0_0, d0_1, d0_2⟩ := BX.out wr hE
                by_cases hlk : k < nv
                · have K := Lib.hid (KV.out wr (Ext.trans HW.out hE) k hlk)
                  have HST := Lib.hid (fun h : (ckVa p) k = 0 => show fstE (ckVa p) (k + 1) = 0 from by rw [fstE_step HF.out, h])
                  have HSP := Lib.hid (fun h : (ckVa p) k ≠ 0 => show res = (ckVa p) k from by
                    have e := fstE_stop HF.out h hlk
                    first | rw [HR.out, if_pos (by rw [e]; exact h), e] | rw [HR.out, e])
                  generalize (ckVa p) k = e1 at *
                  clear hE
                  go_wp2_with fail
                  clear d0_0 d0_1 d0_2
                  refine K.out.mono ?_
                  intro w6 hB
                  have HE6 := Lib.hid (Ext.trans HE.out hB)
                  clear hB
                  by_cases hie : e1 = 0
                  · have HS := Lib.hid (HST.out hie)
                    rw [hie]
                    clear hie
                    obtain ⟨d0_0, d0_1, d0_2⟩ := BX.out w6 HE6.out
                    go_wp2
                    go_roundw
                    case rel => exact ⟨k + 1, by omega, by go_num, HS.out, HE6.out⟩
                    case measure => simp [intOf]; omega
                  · have HRR := Lib.hid (HSP.out hie)
                    have hie' : (e1 != 0) = true := by rw [bne_iff_ne]; exact hie
                    clear hie
                    obtain ⟨d0_0, d0_1, d0_2⟩ := BX.out w6 HE6.out
                    go_wp2
                    go_ret
                    exact ⟨by rw [HRR.out]; rfl, Ext.trans HW.out HE6.out⟩
                · obtain rfl : k = nv := by omega
                  rw [if_neg (not_not_intro HF.out)] at HR
                  have HE2 := Lib.hid hE
                  clear hE
                  generalize wr = wv at *
                  go_wp2_with fail
                  clear d0_0 d0_1 d0_2
                  go_loopw [7] (fun i wr => ∃ k : Nat, k ≤ nf ∧ i = .int .i64 k ∧ fstE (ckFn p) k = 0 ∧ Ext wk wr) (fun i _ => nf - (intOf i).toNat)
                  case atStart => exact ⟨0, Nat.zero_le _, rfl, rfl, HE2.out⟩
                  case round =>
                    obtain ⟨k, hk, rfl, he, hE⟩ := hrel
                    have HE := Lib.hid hE
                    have HF := Lib.hid he
                    clear he
                    obtain ⟨d0_0, d0_1, d0_2⟩ := BX.out wr hE
                    by_cases hlk : k < nf
                    · have K := Lib.hid (KF.out wr (Ext.trans HW.out hE) k hlk)
                      have HST := Lib.hid (fun h : (ckFn p) k = 0 => show fstE (ckFn p) (k + 1) = 0 from by rw [fstE_step HF.out, h])
                      have HSP := Lib.hid (fun h : (ckFn p) k ≠ 0 => show res = (ckFn p) k from by
                        have e := fstE_stop HF.out h hlk
                        first | rw [HR.out, if_pos (by rw [e]; exact h), e] | rw [HR.out, e])
                      generalize (ckFn p) k = e1 at *
                      clear hE
                      go_wp2_with fail
                      clear d0_0 d0_1 d0_2
                      refine K.out.mono ?_
                      intro w6 hB
                      have HE6 := Lib.hid (Ext.trans HE.out hB)
                      clear hB
                      by_cases hie : e1 = 0
                      · have HS := Lib.hid (HST.out hie)
                        rw [hie]
                        clear hie
                        obtain ⟨d0_0, d0_1, d0_2⟩ := BX.out w6 HE6.out
                        go_wp2
                        go_roundw
                        case rel => exact ⟨k + 1, by omega, by go_num, HS.out, HE6.out⟩
                        case measure => simp [intOf]; omega
                      · have HRR := Lib.hid (HSP.out hie)
                        have hie' : (e1 != 0) = true := by rw [bne_iff_ne]; exact hie
                        clear hie
                        obtain ⟨d0_0, d0_1, d0_2⟩ := BX.out w6 HE6.out
                        go_wp2
                        go_ret
                        exact ⟨by rw [HRR.out]; rfl, Ext.trans HW.out HE6.out⟩
                    · obtain rfl : k = nf := by omega
                      rw [HF.out] at HR
                      clear hE
                      go_wp2
                      go_ret
                      exact ⟨by rw [HR.out]; rfl, Ext.trans HW.out HE.out⟩

end Go.Proofs.YtfkjokbhnblndaaGreatDoor

