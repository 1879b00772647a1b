/- The reference's checkArgs. -/
import Derived.Test.YtfkjokbhnblndaaGreatDoorPgQ4
namespace Go.Proofs.YtfkjokbhnblndaaGreatDoor
open Go.RowKit
set_option linter.unusedVariables false
set_option linter.unusedSimpArgs false

/-- what checkArgs returns: why the Args, or the fields together, are not valid -/
def cfl (m : Int) (x : Ins) : Int := if x.op = 65 ∧ x.a = x.c ∨ m = 3 ∧ (x.a = x.b ∨ x.a = x.c ∨ x.b = x.c) then 16 else 0
def rA (p : Pg) (f : Fn) (m : Int) (x : Ins) : Int := if ckArgs p f m x ≠ 0 then ckArgs p f m x else cfl m x
theorem rA_of {p : Pg} {f : Fn} {m v : Int} {x : Ins} (h : ckArgs p f m x = v) : rA p f m x = if v ≠ 0 then v else cfl m x := by unfold rA; rw [h]
theorem ckArgs_3 (p : Pg) (f : Fn) (x : Ins) : ckArgs p f 3 x = ckCases p f x.args := by unfold ckArgs; rw [if_neg (by decide), if_pos rfl]
theorem any_take {α : Type} {q : α → Bool} {l : List α} {k : Nat} (h : k < l.length) (h0 : (l.take k).any q = false) (h1 : q l[k] = false) : (l.take (k + 1)).any q = false := by
  rw [List.take_succ_eq_append_getElem h, List.any_append, h0]; simp [h1]
theorem any_at {α : Type} {q : α → Bool} {l : List α} {k : Nat} (h : k < l.length) (h1 : q l[k] = true) : l.any q = true := List.any_eq_true.2 ⟨_, List.getElem_mem h, h1⟩

set_option maxRecDepth 100000 in
set_option maxHeartbeats 4000000 in
theorem rargs_0 (p : Pg) (A : PA) (f : Fn) (ca : Option Addr) (cc : Nat) (x : Ins) (a : Option Addr) (c : Nat) (w : World) (h : CkAt w p A f ca) (hx : x.wf) (hI : IntsAt w a x.args) (hcap : x.args.length ≤ c) :
    Gives Tryz.prog 127 #[PV p A, FV f ca cc, .int .u8 46, IV x a c] w (.int .i64 (rA p f 0 x)) := by
  unfold Gives
  by_cases hz : x.args.length = 0
  · have HR := Lib.hid (show rA p f 0 x = cfl 0 x from by unfold rA ckArgs; rw [if_neg (by simp [hz])])
    have HCL := Lib.hid (show cfl 0 x = cfl 0 ⟨x.op, x.a, x.b, x.c, x.args⟩ from rfl)
    have HF := HR
    generalize rA p f 0 x = res at *
    clear HR
    have hr1 := h.regs.1
    have hr2 := h.regs.2
    have hlx := hx.len
    have HWA := Lib.hid hx.args
    have HI := Lib.hid hI
    obtain ⟨fa, fc, oa, oc, va, vc⟩ := A
    try dsimp only [PV, FV, IV] at HCL
    dsimp only [PV, FV, IV]
    obtain ⟨xop, xa, xb, xc, l⟩ := x
    dsimp only at *
    generalize f.name = fnm at *
    generalize f.params = fpa at *
    generalize f.prio = fpr at *
    generalize f.cl = fcl at *
    obtain ⟨rg, hrg⟩ : ∃ r, f.regs = r := ⟨_, rfl⟩
    rw [hrg] at hr1 hr2 ⊢
    try rw [hrg] at HCL
    have HRG := Lib.hid hrg
    clear hrg
    obtain ⟨n, hn⟩ : ∃ n, l.length = n := ⟨_, rfl⟩
    rw [hn] at hlx hcap ⊢
    have HN := Lib.hid hn
    clear hn
    obtain ⟨wk, hwk⟩ : ∃ W, W = (((w.alloc (.cells #[.slice fa p.fs.length fc, .slice oa p.os.length oc, .slice va p.vs.length vc] 26)).alloc (.cells #[sV fnm, .int .i64 fpa, .int .i64 rg, .int .i64 fpr, .bool fcl, .slice ca f.code.length cc] 47)).alloc (.cells #[.int .i64 xop, .int .i64 xa, .int .i64 xb, .int .i64 xc, .slice a n c] 50)) := ⟨_, rfl⟩
    have BX := Lib.hid (show ∀ W, Ext wk W → (W.cell? ⟨w.heap.size, 0, none⟩ = some (.slice fa p.fs.length fc) ∧ W.cell? ⟨w.heap.size, 1, none⟩ = some (.slice oa p.os.length oc) ∧ W.cell? ⟨w.heap.size, 2, none⟩ = some (.slice va p.vs.length vc) ∧ W.cell? ⟨w.heap.size + 1, 0, none⟩ = some (sV fnm) ∧ W.cell? ⟨w.heap.size + 1, 1, none⟩ = some (.int .i64 fpa) ∧ W.cell? ⟨w.heap.size + 1, 2, none⟩ = some (.int .i64 rg) ∧ W.cell? ⟨w.heap.size + 1, 3, none⟩ = some (.int .i64 fpr) ∧ W.cell? ⟨w.heap.size + 1, 4, none⟩ = some (.bool fcl) ∧ W.cell? ⟨w.heap.size + 1, 5, none⟩ = some (.slice ca f.code.length cc) ∧ W.cell? ⟨w.heap.size + 2, 0, none⟩ = some (.int .i64 xop) ∧ W.cell? ⟨w.heap.size + 2, 1, none⟩ = some (.int .i64 xa) ∧ W.cell? ⟨w.heap.size + 2, 2, none⟩ = some (.int .i64 xb) ∧ W.cell? ⟨w.heap.size + 2, 3, none⟩ = some (.int .i64 xc) ∧ W.cell? ⟨w.heap.size + 2, 4, none⟩ = some (.slice a n c)) from fun W hW => by
      subst hwk
      have h0 := alloc_here w (.cells #[.slice fa p.fs.length fc, .slice oa p.os.length oc, .slice va p.vs.length vc] 26)
      have h0 := (Below.heap_alloc _ (.cells #[sV fnm, .int .i64 fpa, .int .i64 rg, .int .i64 fpr, .bool fcl, .slice ca f.code.length cc] 47) _ (lt_of_block h0)).trans h0
      have h0 := (Below.heap_alloc _ (.cells #[.int .i64 xop, .int .i64 xa, .int .i64 xb, .int .i64 xc, .slice a n c] 50) _ (lt_of_block h0)).trans h0
      have k0 := (hW.below.block _ (lt_of_block h0)).trans h0
      have h1 := alloc_here (w.alloc (.cells #[.slice fa p.fs.length fc, .slice oa p.os.length oc, .slice va p.vs.length vc] 26)) (.cells #[sV fnm, .int .i64 fpa, .int .i64 rg, .int .i64 fpr, .bool fcl, .slice ca f.code.length cc] 47)
      simp only [World.size_alloc] at h1
      have h1 := (Below.heap_alloc _ (.cells #[.int .i64 xop, .int .i64 xa, .int .i64 xb, .int .i64 xc, .slice a n c] 50) _ (lt_of_block h1)).trans h1
      have k1 := (hW.below.block _ (lt_of_block h1)).trans h1
      have h2 := alloc_here ((w.alloc (.cells #[.slice fa p.fs.length fc, .slice oa p.os.length oc, .slice va p.vs.length vc] 26)).alloc (.cells #[sV fnm, .int .i64 fpa, .int .i64 rg, .int .i64 fpr, .bool fcl, .slice ca f.code.length cc] 47)) (.cells #[.int .i64 xop, .int .i64 xa, .int .i64 xb, .int .i64 xc, .slice a n c] 50)
      simp only [World.size_alloc] at h2
      have k2 := (hW.below.block _ (lt_of_block h2)).trans h2
      exact ⟨cell_of k0 rfl, cell_of k0 rfl, cell_of k0 rfl, cell_of k1 rfl, cell_of k1 rfl, cell_of k1 rfl, cell_of k1 rfl, cell_of k1 rfl, cell_of k1 rfl, cell_of k2 rfl, cell_of k2 rfl, cell_of k2 rfl, cell_of k2 rfl, cell_of k2 rfl⟩)
    have HWZ := Lib.hid (show wk.heap.size = w.heap.size + 3 by rw [hwk]; simp)
    have HW := Lib.hid (show Ext w wk by rw [hwk]; exact (ext_alloc (ext_alloc (ext_alloc (Below.refl _ _) _) _) _))
    have HE0 := Lib.hid (show Ext wk wk from Below.refl _ _)
    have HE := Lib.hid (show Ext wk wk from Below.refl _ _)
    obtain ⟨d0_0, d0_1, d0_2, d1_0, d1_1, d1_2, d1_3, d1_4, d1_5, d2_0, d2_1, d2_2, d2_3, d2_4⟩ := BX.out _ HE.out
    obtain rfl : n = 0 := by rw [← HN.out]; exact hz
    clear hz h hI hx
    go_enter Tryz.func127, Tryz.ntmps127
    go_wp2_with fail
    rw [← hwk]
    clear hwk d0_0 d0_1 d0_2 d1_0 d1_1 d1_2 d1_3 d1_4 d1_5 d2_0 d2_1 d2_2 d2_3 d2_4
    go_loopw [10, 11] (fun d i wr => d = .int .i64 0 ∧ i = .int .i64 0 ∧ wr = wk) (fun _ _ _ => 0)
    case atStart => exact ⟨rfl, rfl, rfl⟩
    case round =>
      obtain ⟨rfl, rfl, rfl⟩ := hrel
      obtain ⟨d0_0, d0_1, d0_2, d1_0, d1_1, d1_2, d1_3, d1_4, d1_5, d2_0, d2_1, d2_2, d2_3, d2_4⟩ := BX.out _ HE.out
      by_cases f1 : xop = 65 ∧ xa = xc
      case pos =>
        have HF := Lib.hid (show res = 16 from by rw [HF.out]; unfold cfl; rw [if_pos (.inl f1)])
        have q1 : (xop == 65) = true := by simpa using f1.1
        have q2 : (xa == xc) = true := by simpa using f1.2
        clear f1
        go_wp2
        go_ret
        exact ⟨by rw [HF.out]; rfl, Ext.trans HW.out HE.out⟩
      case neg =>
        have HF := Lib.hid (show res = 0 from by rw [HF.out]; unfold cfl; rw [if_neg (by rintro (e | ⟨e, _⟩); exact f1 e; omega)])
        by_cases f2 : xop = 65
        case pos =>
          have q1 : (xop == 65) = true := by simpa using f2
          have q2 : (xa == xc) = false := by rw [beq_eq_false_iff_ne]; exact fun e => f1 ⟨f2, e⟩
          clear f1 f2
          go_wp2
          go_ret
          exact ⟨by rw [HF.out]; rfl, Ext.trans HW.out HE.out⟩
        case neg =>
          have q1 : (xop == 65) = false := by simpa using f2
          clear f1 f2
          go_wp2
          go_ret
          exact ⟨by rw [HF.out]; rfl, Ext.trans HW.out HE.out⟩
  · have HR := Lib.hid (show rA p f 0 x = 1 from by
      have e : ckArgs p f 0 x = 1 := by unfold ckArgs; rw [if_pos rfl, if_pos (by omega)]
      unfold rA; rw [e]; rfl)
    have HCL := Lib.hid (show cfl 0 x = cfl 0 ⟨x.op, x.a, x.b, x.c, x.args⟩ from rfl)
    generalize rA p f 0 x = res at *
    have hr1 := h.regs.1
    have hr2 := h.regs.2
    have hlx := hx.len
    have HWA := Lib.hid hx.args
    have HI := Lib.hid hI
    obtain ⟨fa, fc, oa, oc, va, vc⟩ := A
    try dsimp only [PV, FV, IV] at HCL
    dsimp only [PV, FV, IV]
    obtain ⟨xop, xa, xb, xc, l⟩ := x
    dsimp only at *
    generalize f.name = fnm at *
    generalize f.params = fpa at *
    generalize f.prio = fpr at *
    generalize f.cl = fcl at *
    obtain ⟨rg, hrg⟩ : ∃ r, f.regs = r := ⟨_, rfl⟩
    rw [hrg] at hr1 hr2 ⊢
    try rw [hrg] at HCL
    have HRG := Lib.hid hrg
    clear hrg
    obtain ⟨n, hn⟩ : ∃ n, l.length = n := ⟨_, rfl⟩
    rw [hn] at hlx hcap ⊢
    have HN := Lib.hid hn
    clear hn
    obtain ⟨wk, hwk⟩ : ∃ W, W = (((w.alloc (.cells #[.slice fa p.fs.length fc, .slice oa p.os.length oc, .slice va p.vs.length vc] 26)).alloc (.cells #[sV fnm, .int .i64 fpa, .int .i64 rg, .int .i64 fpr, .bool fcl, .slice ca f.code.length cc] 47)).alloc (.cells #[.int .i64 xop, .int .i64 xa, .int .i64 xb, .int .i64 xc, .slice a n c] 50)) := ⟨_, rfl⟩
    have BX := Lib.hid (show ∀ W, Ext wk W → (W.cell? ⟨w.heap.size, 0, none⟩ = some (.slice fa p.fs.length fc) ∧ W.cell? ⟨w.heap.size, 1, none⟩ = some (.slice oa p.os.length oc) ∧ W.cell? ⟨w.heap.size, 2, none⟩ = some (.slice va p.vs.length vc) ∧ W.cell? ⟨w.heap.size + 1, 0, none⟩ = some (sV fnm) ∧ W.cell? ⟨w.heap.size + 1, 1, none⟩ = some (.int .i64 fpa) ∧ W.cell? ⟨w.heap.size + 1, 2, none⟩ = some (.int .i64 rg) ∧ W.cell? ⟨w.heap.size + 1, 3, none⟩ = some (.int .i64 fpr) ∧ W.cell? ⟨w.heap.size + 1, 4, none⟩ = some (.bool fcl) ∧ W.cell? ⟨w.heap.size + 1, 5, none⟩ = some (.slice ca f.code.length cc) ∧ W.cell? ⟨w.heap.size + 2, 0, none⟩ = some (.int .i64 xop) ∧ W.cell? ⟨w.heap.size + 2, 1, none⟩ = some (.int .i64 xa) ∧ W.cell? ⟨w.heap.size + 2, 2, none⟩ = some (.int .i64 xb) ∧ W.cell? ⟨w.heap.size + 2, 3, none⟩ = some (.int .i64 xc) ∧ W.cell? ⟨w.heap.size + 2, 4, none⟩ = some (.slice a n c)) from fun W hW => by
      subst hwk
      have h0 := alloc_here w (.cells #[.slice fa p.fs.length fc, .slice oa p.os.length oc, .slice va p.vs.length vc] 26)
      have h0 := (Below.heap_alloc _ (.cells #[sV fnm, .int .i64 fpa, .int .i64 rg, .int .i64 fpr, .bool fcl, .slice ca f.code.length cc] 47) _ (lt_of_block h0)).trans h0
      have h0 := (Below.heap_alloc _ (.cells #[.int .i64 xop, .int .i64 xa, .int .i64 xb, .int .i64 xc, .slice a n c] 50) _ (lt_of_block h0)).trans h0
      have k0 := (hW.below.block _ (lt_of_block h0)).trans h0
      have h1 := alloc_here (w.alloc (.cells #[.slice fa p.fs.length fc, .slice oa p.os.length oc, .slice va p.vs.length vc] 26)) (.cells #[sV fnm, .int .i64 fpa, .int .i64 rg, .int .i64 fpr, .bool fcl, .slice ca f.code.length cc] 47)
      simp only [World.size_alloc] at h1
      have h1 := (Below.heap_alloc _ (.cells #[.int .i64 xop, .int .i64 xa, .int .i64 xb, .int .i64 xc, .slice a n c] 50) _ (lt_of_block h1)).trans h1
      have k1 := (hW.below.block _ (lt_of_block h1)).trans h1
      have h2 := alloc_here ((w.alloc (.cells #[.slice fa p.fs.length fc, .slice oa p.os.length oc, .slice va p.vs.length vc] 26)).alloc (.cells #[sV fnm, .int .i64 fpa, .int .i64 rg, .int .i64 fpr, .bool fcl, .slice ca f.code.length cc] 47)) (.cells #[.int .i64 xop, .int .i64 xa, .int .i64 xb, .int .i64 xc, .slice a n c] 50)
      simp only [World.size_alloc] at h2
      have k2 := (hW.below.block _ (lt_of_block h2)).trans h2
      exact ⟨cell_of k0 rfl, cell_of k0 rfl, cell_of k0 rfl, cell_of k1 rfl, cell_of k1 rfl, cell_of k1 rfl, cell_of k1 rfl, cell_of k1 rfl, cell_of k1 rfl, cell_of k2 rfl, cell_of k2 rfl, cell_of k2 rfl, cell_of k2 rfl, cell_of k2 rfl⟩)
    have HWZ := Lib.hid (show wk.heap.size = w.heap.size + 3 by rw [hwk]; simp)
    have HW := Lib.hid (show Ext w wk by rw [hwk]; exact (ext_alloc (ext_alloc (ext_alloc (Below.refl _ _) _) _) _))
    have HE0 := Lib.hid (show Ext wk wk from Below.refl _ _)
    have HE := Lib.hid (show Ext wk wk from Below.refl _ _)
    obtain ⟨d0_0, d0_1, d0_2, d1_0, d1_1, d1_2, d1_3, d1_4, d1_5, d2_0, d2_1, d2_2, d2_3, d2_4⟩ := BX.out _ HE.out
    have hn1 : (0 : Int) < n := by have := HN.out; omega
    clear hz h hI hx
    go_enter Tryz.func127, Tryz.ntmps127
    go_wp2
    rw [← hwk]
    go_ret
    exact ⟨by rw [HR.out]; rfl, HW.out⟩

set_option maxRecDepth 100000 in
set_option maxHeartbeats 4000000 in
theorem rargs_1 (p : Pg) (A : PA) (f : Fn) (ca : Option Addr) (cc : Nat) (x : Ins) (a : Option Addr) (c : Nat) (w : World) (h : CkAt w p A f ca) (hx : x.wf) (hI : IntsAt w a x.args) (hcap : x.args.length ≤ c) (hb : (1 : Int) = 1 → inB x.b 0 ((p.fs.length : Int) - 1) = true) :
    Gives Tryz.prog 127 #[PV p A, FV f ca cc, .int .u8 112, IV x a c] w (.int .i64 (rA p f 1 x)) := by
  unfold Gives
  by_cases hz : (x.args.length : Int) = ((p.fs[x.b.toNat]?).map Fn.params).getD 0
  · have HCK := Lib.hid (show ckArgs p f 1 x = ckRegs f x.args (((p.fs[x.b.toNat]?).map Fn.params).getD 0) from by unfold ckArgs; rw [if_neg (by decide), if_neg (by decide)]; rfl)
    obtain ⟨mb, hmb, hmlt⟩ := inB_nat (hb rfl)
    obtain ⟨b', o', a', c', e', hcs', -⟩ := h.pg.fs mb hmlt
    have hwant : ((p.fs[x.b.toNat]?).map Fn.params).getD 0 = (p.fs[mb]).params := by rw [hmb]; simp [hmlt]
    have hpar := (h.pg.wf.fs _ (List.getElem_mem hmlt)).params
    rw [hwant] at hz
    have cp := hcs'.c1
    have HY := Lib.hid (show (x.args.any (regOut f)) = true → rA p f 1 x = 2 from fun e => by unfold rA; rw [HCK.out]; unfold ckRegs; rw [hwant]; rw [if_neg (not_not_intro hz), if_pos e]; rfl)
    have HZ := Lib.hid (show (x.args.any (regOut f)) = false → rA p f 1 x = cfl 1 x from fun e => by unfold rA; rw [HCK.out]; unfold ckRegs; rw [hwant]; rw [if_neg (not_not_intro hz), e]; rfl)
    have HCL := Lib.hid (show True from trivial)
    generalize rA p f 1 x = res at *
    clear HCK hwant
    have hr1 := h.regs.1
    have hr2 := h.regs.2
    have hlx := hx.len
    have HWA := Lib.hid hx.args
    have HI := Lib.hid hI
    obtain ⟨fa, fc, oa, oc, va, vc⟩ := A
    try dsimp only [PV, FV, IV] at HCL
    dsimp only [PV, FV, IV]
    obtain ⟨xop, xa, xb, xc, l⟩ := x
    dsimp only at *
    generalize f.name = fnm at *
    generalize f.params = fpa at *
    generalize f.prio = fpr at *
    generalize f.cl = fcl at *
    obtain ⟨rg, hrg⟩ : ∃ r, f.regs = r := ⟨_, rfl⟩
    rw [hrg] at hr1 hr2 ⊢
    try rw [hrg] at HCL
    have HRG := Lib.hid hrg
    clear hrg
    obtain ⟨n, hn⟩ : ∃ n, l.length = n := ⟨_, rfl⟩
    rw [hn] at hlx hcap ⊢
    have HN := Lib.hid hn
    clear hn
    try dsimp only at e' hmb
    subst e' hmb
    generalize (p.fs[mb]).params = pw at *
    have HRO := Lib.hid (fun z => show regOut f z = !inB z 0 (rg - 1) from by unfold regOut; rw [HRG.out])
    clear h hx hI hb
    obtain ⟨wk, hwk⟩ : ∃ W, W = (((w.alloc (.cells #[.slice (some ⟨b', o', none⟩) p.fs.length fc, .slice oa p.os.length oc, .slice va p.vs.length vc] 26)).alloc (.cells #[sV fnm, .int .i64 fpa, .int .i64 rg, .int .i64 fpr, .bool fcl, .slice ca f.code.length cc] 47)).alloc (.cells #[.int .i64 xop, .int .i64 xa, .int .i64 (mb : Int), .int .i64 xc, .slice a n c] 50)) := ⟨_, rfl⟩
    have BX := Lib.hid (show ∀ W, Ext wk W → (W.cell? ⟨w.heap.size, 0, none⟩ = some (.slice (some ⟨b', o', none⟩) p.fs.length fc) ∧ W.cell? ⟨w.heap.size, 1, none⟩ = some (.slice oa p.os.length oc) ∧ W.cell? ⟨w.heap.size, 2, none⟩ = some (.slice va p.vs.length vc) ∧ W.cell? ⟨w.heap.size + 1, 0, none⟩ = some (sV fnm) ∧ W.cell? ⟨w.heap.size + 1, 1, none⟩ = some (.int .i64 fpa) ∧ W.cell? ⟨w.heap.size + 1, 2, none⟩ = some (.int .i64 rg) ∧ W.cell? ⟨w.heap.size + 1, 3, none⟩ = some (.int .i64 fpr) ∧ W.cell? ⟨w.heap.size + 1, 4, none⟩ = some (.bool fcl) ∧ W.cell? ⟨w.heap.size + 1, 5, none⟩ = some (.slice ca f.code.length cc) ∧ W.cell? ⟨w.heap.size + 2, 0, none⟩ = some (.int .i64 xop) ∧ W.cell? ⟨w.heap.size + 2, 1, none⟩ = some (.int .i64 xa) ∧ W.cell? ⟨w.heap.size + 2, 2, none⟩ = some (.int .i64 (mb : Int)) ∧ W.cell? ⟨w.heap.size + 2, 3, none⟩ = some (.int .i64 xc) ∧ W.cell? ⟨w.heap.size + 2, 4, none⟩ = some (.slice a n c)) from fun W hW => by
      subst hwk
      have h0 := alloc_here w (.cells #[.slice (some ⟨b', o', none⟩) p.fs.length fc, .slice oa p.os.length oc, .slice va p.vs.length vc] 26)
      have h0 := (Below.heap_alloc _ (.cells #[sV fnm, .int .i64 fpa, .int .i64 rg, .int .i64 fpr, .bool fcl, .slice ca f.code.length cc] 47) _ (lt_of_block h0)).trans h0
      have h0 := (Below.heap_alloc _ (.cells #[.int .i64 xop, .int .i64 xa, .int .i64 (mb : Int), .int .i64 xc, .slice a n c] 50) _ (lt_of_block h0)).trans h0
      have k0 := (hW.below.block _ (lt_of_block h0)).trans h0
      have h1 := alloc_here (w.alloc (.cells #[.slice (some ⟨b', o', none⟩) p.fs.length fc, .slice oa p.os.length oc, .slice va p.vs.length vc] 26)) (.cells #[sV fnm, .int .i64 fpa, .int .i64 rg, .int .i64 fpr, .bool fcl, .slice ca f.code.length cc] 47)
      simp only [World.size_alloc] at h1
      have h1 := (Below.heap_alloc _ (.cells #[.int .i64 xop, .int .i64 xa, .int .i64 (mb : Int), .int .i64 xc, .slice a n c] 50) _ (lt_of_block h1)).trans h1
      have k1 := (hW.below.block _ (lt_of_block h1)).trans h1
      have h2 := alloc_here ((w.alloc (.cells #[.slice (some ⟨b', o', none⟩) p.fs.length fc, .slice oa p.os.length oc, .slice va p.vs.length vc] 26)).alloc (.cells #[sV fnm, .int .i64 fpa, .int .i64 rg, .int .i64 fpr, .bool fcl, .slice ca f.code.length cc] 47)) (.cells #[.int .i64 xop, .int .i64 xa, .int .i64 (mb : Int), .int .i64 xc, .slice a n c] 50)
      simp only [World.size_alloc] at h2
      have k2 := (hW.below.block _ (lt_of_block h2)).trans h2
      exact ⟨cell_of k0 rfl, cell_of k0 rfl, cell_of k0 rfl, cell_of k1 rfl, cell_of k1 rfl, cell_of k1 rfl, cell_of k1 rfl, cell_of k1 rfl, cell_of k1 rfl, cell_of k2 rfl, cell_of k2 rfl, cell_of k2 rfl, cell_of k2 rfl, cell_of k2 rfl⟩)
    have HWZ := Lib.hid (show wk.heap.size = w.heap.size + 3 by rw [hwk]; simp)
    have HW := Lib.hid (show Ext w wk by rw [hwk]; exact (ext_alloc (ext_alloc (ext_alloc (Below.refl _ _) _) _) _))
    have HE0 := Lib.hid (show Ext wk wk from Below.refl _ _)
    have HE := Lib.hid (show Ext wk wk from Below.refl _ _)
    obtain ⟨d0_0, d0_1, d0_2, d1_0, d1_1, d1_2, d1_3, d1_4, d1_5, d2_0, d2_1, d2_2, d2_3, d2_4⟩ := BX.out _ HE.out
    have cpk : b' < w.heap.size := cell_lt2 cp
    have cpk1 : b' < w.heap.size + 1 := by omega
    have cpk2 : b' < w.heap.size + 1 + 1 := by omega
    have hne : ((n : Int) != pw) = false := by simpa using (show (n : Int) = pw from by rw [← HN.out]; exact hz)
    have HZQ := Lib.hid hz
    clear hz
    go_enter Tryz.func127, Tryz.ntmps127
    go_wp2_with fail
    rw [← hwk]
    clear hwk hne cpk cpk1 cpk2 cp d0_0 d0_1 d0_2 d1_0 d1_1 d1_2 d1_3 d1_4 d1_5 d2_0 d2_1 d2_2 d2_3 d2_4
    go_loopw [10, 11] (fun d i wr => ∃ k : Nat, k ≤ n ∧ d = .int .i64 0 ∧ i = .int .i64 (k : Int) ∧ (l.take k).any (regOut f) = false ∧ Ext wk wr) (fun _ i _ => n - (intOf i).toNat)
    case atStart => exact ⟨0, Nat.zero_le _, rfl, rfl, by simp, HE.out⟩
    case round =>
      obtain ⟨k, hk, rfl, rfl, ht, hE⟩ := hrel
      clear HE
      have HE := Lib.hid hE
      have HT := Lib.hid ht
      clear hE ht
      obtain ⟨d0_0, d0_1, d0_2, d1_0, d1_1, d1_2, d1_3, d1_4, d1_5, d2_0, d2_1, d2_2, d2_3, d2_4⟩ := BX.out _ HE.out
      by_cases hlt : k < n
      case pos =>
        have hlt' : k < l.length := by rw [HN.out]; exact hlt
        obtain ⟨b, off, hab, c0⟩ := HI.out.below (Ext.trans HW.out HE.out) k hlt'
        subst hab
        have HNX := Lib.hid (fun e => any_take (q := regOut f) hlt' HT.out e)
        have HBD := Lib.hid (fun e => HY.out (any_at (q := regOut f) hlt' e))
        have hro := HRO.out l[k]
        generalize l[k] = z at *
        clear hlt'
        have KB := Lib.hid (fun W => between_any z 0 (rg - 1) W)
        rw [hro] at HNX HBD
        clear hro
        generalize inB z 0 (rg - 1) = bz at *
        go_wp2_with fail
        have ud0_0 := fun U : Up _ => Up.cell d0_0 U
        have ud0_1 := fun U : Up _ => Up.cell d0_1 U
        have ud0_2 := fun U : Up _ => Up.cell d0_2 U
        have ud1_0 := fun U : Up _ => Up.cell d1_0 U
        have ud1_1 := fun U : Up _ => Up.cell d1_1 U
        have ud1_2 := fun U : Up _ => Up.cell d1_2 U
        have ud1_3 := fun U : Up _ => Up.cell d1_3 U
        have ud1_4 := fun U : Up _ => Up.cell d1_4 U
        have ud1_5 := fun U : Up _ => Up.cell d1_5 U
        have ud2_0 := fun U : Up _ => Up.cell d2_0 U
        have ud2_1 := fun U : Up _ => Up.cell d2_1 U
        have ud2_2 := fun U : Up _ => Up.cell d2_2 U
        have ud2_3 := fun U : Up _ => Up.cell d2_3 U
        have ud2_4 := fun U : Up _ => Up.cell d2_4 U
        have uc0 := fun U : Up _ => Up.cell c0 U
        refine wp_region_up (by kernel_rfl) (by kernel_rfl) ?_
        repeat (go_big_quiet_step (first | (go_at_call 23; refine Up.callE (fun W hW => Calls.mono (KB.out W) (by rintro _ _ ⟨rfl, rfl⟩; exact ⟨rfl, Below.refl _ _⟩)) ?_; with_reducible rfl)))
        refine wpQuiet_nil ?_
        rintro _ ⟨U, rfl⟩
        have HE6 := Lib.hid (Ext.trans HE.out U.ext)
        generalize U.W = w6 at *
        clear ud0_0 d0_0 ud0_1 d0_1 ud0_2 d0_2 ud1_0 d1_0 ud1_1 d1_1 ud1_2 d1_2 ud1_3 d1_3 ud1_4 d1_4 ud1_5 d1_5 ud2_0 d2_0 ud2_1 d2_1 ud2_2 d2_2 ud2_3 d2_3 ud2_4 d2_4 uc0 c0
        cases bz with
        | false =>
          have HR := Lib.hid (HBD.out rfl)
          go_wp2
          go_ret
          exact ⟨by rw [HR.out]; rfl, Ext.trans HW.out HE6.out⟩
        | true =>
          have HNX := Lib.hid (HNX.out rfl)
          go_wp2
          go_roundw
          case rel => exact ⟨k + 1, by omega, rfl, by go_num, HNX.out, HE6.out⟩
          case measure => simp [intOf]; omega
      case neg =>
        have ekl : k = l.length := by have := HN.out; omega
        have HF := Lib.hid (HZ.out (by have h9 := HT.out; rw [ekl, List.take_length] at h9; exact h9))
        clear hk ekl
        by_cases f1 : xop = 65 ∧ xa = xc
        case pos =>
          have HF := Lib.hid (show res = 16 from by rw [HF.out]; unfold cfl; rw [if_pos (.inl f1)])
          have q1 : (xop == 65) = true := by simpa using f1.1
          have q2 : (xa == xc) = true := by simpa using f1.2
          clear f1
          go_wp2
          go_ret
          exact ⟨by rw [HF.out]; rfl, Ext.trans HW.out HE.out⟩
        case neg =>
          have HF := Lib.hid (show res = 0 from by rw [HF.out]; unfold cfl; rw [if_neg (by rintro (e | ⟨e, _⟩); exact f1 e; omega)])
          by_cases f2 : xop = 65
          case pos =>
            have q1 : (xop == 65) = true := by simpa using f2
            have q2 : (xa == xc) = false := by rw [beq_eq_false_iff_ne]; exact fun e => f1 ⟨f2, e⟩
            clear f1 f2
            go_wp2
            go_ret
            exact ⟨by rw [HF.out]; rfl, Ext.trans HW.out HE.out⟩
          case neg =>
            have q1 : (xop == 65) = false := by simpa using f2
            clear f1 f2
            go_wp2
            go_ret
            exact ⟨by rw [HF.out]; rfl, Ext.trans HW.out HE.out⟩
  · have HCK := Lib.hid (show ckArgs p f 1 x = ckRegs f x.args (((p.fs[x.b.toNat]?).map Fn.params).getD 0) from by unfold ckArgs; rw [if_neg (by decide), if_neg (by decide)]; rfl)
    obtain ⟨mb, hmb, hmlt⟩ := inB_nat (hb rfl)
    obtain ⟨b', o', a', c', e', hcs', -⟩ := h.pg.fs mb hmlt
    have hwant : ((p.fs[x.b.toNat]?).map Fn.params).getD 0 = (p.fs[mb]).params := by rw [hmb]; simp [hmlt]
    have hpar := (h.pg.wf.fs _ (List.getElem_mem hmlt)).params
    rw [hwant] at hz
    have cp := hcs'.c1
    have HR := Lib.hid (show rA p f 1 x = 10 from by unfold rA; rw [HCK.out]; unfold ckRegs; rw [hwant]; rw [if_pos hz]; rfl)
    have HCL := Lib.hid (show True from trivial)
    generalize rA p f 1 x = res at *
    clear HCK hwant
    have hr1 := h.regs.1
    have hr2 := h.regs.2
    have hlx := hx.len
    have HWA := Lib.hid hx.args
    have HI := Lib.hid hI
    obtain ⟨fa, fc, oa, oc, va, vc⟩ := A
    try dsimp only [PV, FV, IV] at HCL
    dsimp only [PV, FV, IV]
    obtain ⟨xop, xa, xb, xc, l⟩ := x
    dsimp only at *
    generalize f.name = fnm at *
    generalize f.params = fpa at *
    generalize f.prio = fpr at *
    generalize f.cl = fcl at *
    obtain ⟨rg, hrg⟩ : ∃ r, f.regs = r := ⟨_, rfl⟩
    rw [hrg] at hr1 hr2 ⊢
    try rw [hrg] at HCL
    have HRG := Lib.hid hrg
    clear hrg
    obtain ⟨n, hn⟩ : ∃ n, l.length = n := ⟨_, rfl⟩
    rw [hn] at hlx hcap ⊢
    have HN := Lib.hid hn
    clear hn
    try dsimp only at e' hmb
    subst e' hmb
    generalize (p.fs[mb]).params = pw at *
    clear h hx hI hb
    obtain ⟨wk, hwk⟩ : ∃ W, W = (((w.alloc (.cells #[.slice (some ⟨b', o', none⟩) p.fs.length fc, .slice oa p.os.length oc, .slice va p.vs.length vc] 26)).alloc (.cells #[sV fnm, .int .i64 fpa, .int .i64 rg, .int .i64 fpr, .bool fcl, .slice ca f.code.length cc] 47)).alloc (.cells #[.int .i64 xop, .int .i64 xa, .int .i64 (mb : Int), .int .i64 xc, .slice a n c] 50)) := ⟨_, rfl⟩
    have BX := Lib.hid (show ∀ W, Ext wk W → (W.cell? ⟨w.heap.size, 0, none⟩ = some (.slice (some ⟨b', o', none⟩) p.fs.length fc) ∧ W.cell? ⟨w.heap.size, 1, none⟩ = some (.slice oa p.os.length oc) ∧ W.cell? ⟨w.heap.size, 2, none⟩ = some (.slice va p.vs.length vc) ∧ W.cell? ⟨w.heap.size + 1, 0, none⟩ = some (sV fnm) ∧ W.cell? ⟨w.heap.size + 1, 1, none⟩ = some (.int .i64 fpa) ∧ W.cell? ⟨w.heap.size + 1, 2, none⟩ = some (.int .i64 rg) ∧ W.cell? ⟨w.heap.size + 1, 3, none⟩ = some (.int .i64 fpr) ∧ W.cell? ⟨w.heap.size + 1, 4, none⟩ = some (.bool fcl) ∧ W.cell? ⟨w.heap.size + 1, 5, none⟩ = some (.slice ca f.code.length cc) ∧ W.cell? ⟨w.heap.size + 2, 0, none⟩ = some (.int .i64 xop) ∧ W.cell? ⟨w.heap.size + 2, 1, none⟩ = some (.int .i64 xa) ∧ W.cell? ⟨w.heap.size + 2, 2, none⟩ = some (.int .i64 (mb : Int)) ∧ W.cell? ⟨w.heap.size + 2, 3, none⟩ = some (.int .i64 xc) ∧ W.cell? ⟨w.heap.size + 2, 4, none⟩ = some (.slice a n c)) from fun W hW => by
      subst hwk
      have h0 := alloc_here w (.cells #[.slice (some ⟨b', o', none⟩) p.fs.length fc, .slice oa p.os.length oc, .slice va p.vs.length vc] 26)
      have h0 := (Below.heap_alloc _ (.cells #[sV fnm, .int .i64 fpa, .int .i64 rg, .int .i64 fpr, .bool fcl, .slice ca f.code.length cc] 47) _ (lt_of_block h0)).trans h0
      have h0 := (Below.heap_alloc _ (.cells #[.int .i64 xop, .int .i64 xa, .int .i64 (mb : Int), .int .i64 xc, .slice a n c] 50) _ (lt_of_block h0)).trans h0
      have k0 := (hW.below.block _ (lt_of_block h0)).trans h0
      have h1 := alloc_here (w.alloc (.cells #[.slice (some ⟨b', o', none⟩) p.fs.length fc, .slice oa p.os.length oc, .slice va p.vs.length vc] 26)) (.cells #[sV fnm, .int .i64 fpa, .int .i64 rg, .int .i64 fpr, .bool fcl, .slice ca f.code.length cc] 47)
      simp only [World.size_alloc] at h1
      have h1 := (Below.heap_alloc _ (.cells #[.int .i64 xop, .int .i64 xa, .int .i64 (mb : Int), .int .i64 xc, .slice a n c] 50) _ (lt_of_block h1)).trans h1
      have k1 := (hW.below.block _ (lt_of_block h1)).trans h1
      have h2 := alloc_here ((w.alloc (.cells #[.slice (some ⟨b', o', none⟩) p.fs.length fc, .slice oa p.os.length oc, .slice va p.vs.length vc] 26)).alloc (.cells #[sV fnm, .int .i64 fpa, .int .i64 rg, .int .i64 fpr, .bool fcl, .slice ca f.code.length cc] 47)) (.cells #[.int .i64 xop, .int .i64 xa, .int .i64 (mb : Int), .int .i64 xc, .slice a n c] 50)
      simp only [World.size_alloc] at h2
      have k2 := (hW.below.block _ (lt_of_block h2)).trans h2
      exact ⟨cell_of k0 rfl, cell_of k0 rfl, cell_of k0 rfl, cell_of k1 rfl, cell_of k1 rfl, cell_of k1 rfl, cell_of k1 rfl, cell_of k1 rfl, cell_of k1 rfl, cell_of k2 rfl, cell_of k2 rfl, cell_of k2 rfl, cell_of k2 rfl, cell_of k2 rfl⟩)
    have HWZ := Lib.hid (show wk.heap.size = w.heap.size + 3 by rw [hwk]; simp)
    have HW := Lib.hid (show Ext w wk by rw [hwk]; exact (ext_alloc (ext_alloc (ext_alloc (Below.refl _ _) _) _) _))
    have HE0 := Lib.hid (show Ext wk wk from Below.refl _ _)
    have HE := Lib.hid (show Ext wk wk from Below.refl _ _)
    obtain ⟨d0_0, d0_1, d0_2, d1_0, d1_1, d1_2, d1_3, d1_4, d1_5, d2_0, d2_1, d2_2, d2_3, d2_4⟩ := BX.out _ HE.out
    have cpk : b' < w.heap.size := cell_lt2 cp
    have cpk1 : b' < w.heap.size + 1 := by omega
    have cpk2 : b' < w.heap.size + 1 + 1 := by omega
    have hne : ((n : Int) != pw) = true := by rw [bne_iff_ne]; intro e; apply hz; rw [HN.out]; exact e
    clear hz
    go_enter Tryz.func127, Tryz.ntmps127
    go_wp2
    rw [← hwk]
    go_ret
    exact ⟨by rw [HR.out]; rfl, HW.out⟩

set_option maxRecDepth 100000 in
set_option maxHeartbeats 4000000 in
theorem rargs_2 (p : Pg) (A : PA) (f : Fn) (ca : Option Addr) (cc : Nat) (x : Ins) (a : Option Addr) (c : Nat) (w : World) (h : CkAt w p A f ca) (hx : x.wf) (hI : IntsAt w a x.args) (hcap : x.args.length ≤ c) :
    Gives Tryz.prog 127 #[PV p A, FV f ca cc, .int .u8 50, IV x a c] w (.int .i64 (rA p f 2 x)) := by
  unfold Gives
  by_cases hz : (x.args.length : Int) = 2
  · have HCK := Lib.hid (show ckArgs p f 2 x = ckRegs f x.args (2) from by unfold ckArgs; rw [if_neg (by decide), if_neg (by decide)]; rfl)
    have HY := Lib.hid (show (x.args.any (regOut f)) = true → rA p f 2 x = 2 from fun e => by unfold rA; rw [HCK.out]; unfold ckRegs; rw [if_neg (not_not_intro hz), if_pos e]; rfl)
    have HZ := Lib.hid (show (x.args.any (regOut f)) = false → rA p f 2 x = cfl 2 x from fun e => by unfold rA; rw [HCK.out]; unfold ckRegs; rw [if_neg (not_not_intro hz), e]; rfl)
    have HCL := Lib.hid (show True from trivial)
    generalize rA p f 2 x = res at *
    clear HCK
    have hr1 := h.regs.1
    have hr2 := h.regs.2
    have hlx := hx.len
    have HWA := Lib.hid hx.args
    have HI := Lib.hid hI
    obtain ⟨fa, fc, oa, oc, va, vc⟩ := A
    try dsimp only [PV, FV, IV] at HCL
    dsimp only [PV, FV, IV]
    obtain ⟨xop, xa, xb, xc, l⟩ := x
    dsimp only at *
    generalize f.name = fnm at *
    generalize f.params = fpa at *
    generalize f.prio = fpr at *
    generalize f.cl = fcl at *
    obtain ⟨rg, hrg⟩ : ∃ r, f.regs = r := ⟨_, rfl⟩
    rw [hrg] at hr1 hr2 ⊢
    try rw [hrg] at HCL
    have HRG := Lib.hid hrg
    clear hrg
    obtain ⟨n, hn⟩ : ∃ n, l.length = n := ⟨_, rfl⟩
    rw [hn] at hlx hcap ⊢
    have HN := Lib.hid hn
    clear hn
    have HRO := Lib.hid (fun z => show regOut f z = !inB z 0 (rg - 1) from by unfold regOut; rw [HRG.out])
    clear h hx hI
    obtain ⟨wk, hwk⟩ : ∃ W, W = (((w.alloc (.cells #[.slice fa p.fs.length fc, .slice oa p.os.length oc, .slice va p.vs.length vc] 26)).alloc (.cells #[sV fnm, .int .i64 fpa, .int .i64 rg, .int .i64 fpr, .bool fcl, .slice ca f.code.length cc] 47)).alloc (.cells #[.int .i64 xop, .int .i64 xa, .int .i64 xb, .int .i64 xc, .slice a n c] 50)) := ⟨_, rfl⟩
    have BX := Lib.hid (show ∀ W, Ext wk W → (W.cell? ⟨w.heap.size, 0, none⟩ = some (.slice fa p.fs.length fc) ∧ W.cell? ⟨w.heap.size, 1, none⟩ = some (.slice oa p.os.length oc) ∧ W.cell? ⟨w.heap.size, 2, none⟩ = some (.slice va p.vs.length vc) ∧ W.cell? ⟨w.heap.size + 1, 0, none⟩ = some (sV fnm) ∧ W.cell? ⟨w.heap.size + 1, 1, none⟩ = some (.int .i64 fpa) ∧ W.cell? ⟨w.heap.size + 1, 2, none⟩ = some (.int .i64 rg) ∧ W.cell? ⟨w.heap.size + 1, 3, none⟩ = some (.int .i64 fpr) ∧ W.cell? ⟨w.heap.size + 1, 4, none⟩ = some (.bool fcl) ∧ W.cell? ⟨w.heap.size + 1, 5, none⟩ = some (.slice ca f.code.length cc) ∧ W.cell? ⟨w.heap.size + 2, 0, none⟩ = some (.int .i64 xop) ∧ W.cell? ⟨w.heap.size + 2, 1, none⟩ = some (.int .i64 xa) ∧ W.cell? ⟨w.heap.size + 2, 2, none⟩ = some (.int .i64 xb) ∧ W.cell? ⟨w.heap.size + 2, 3, none⟩ = some (.int .i64 xc) ∧ W.cell? ⟨w.heap.size + 2, 4, none⟩ = some (.slice a n c)) from fun W hW => by
      subst hwk
      have h0 := alloc_here w (.cells #[.slice fa p.fs.length fc, .slice oa p.os.length oc, .slice va p.vs.length vc] 26)
      have h0 := (Below.heap_alloc _ (.cells #[sV fnm, .int .i64 fpa, .int .i64 rg, .int .i64 fpr, .bool fcl, .slice ca f.code.length cc] 47) _ (lt_of_block h0)).trans h0
      have h0 := (Below.heap_alloc _ (.cells #[.int .i64 xop, .int .i64 xa, .int .i64 xb, .int .i64 xc, .slice a n c] 50) _ (lt_of_block h0)).trans h0
      have k0 := (hW.below.block _ (lt_of_block h0)).trans h0
      have h1 := alloc_here (w.alloc (.cells #[.slice fa p.fs.length fc, .slice oa p.os.length oc, .slice va p.vs.length vc] 26)) (.cells #[sV fnm, .int .i64 fpa, .int .i64 rg, .int .i64 fpr, .bool fcl, .slice ca f.code.length cc] 47)
      simp only [World.size_alloc] at h1
      have h1 := (Below.heap_alloc _ (.cells #[.int .i64 xop, .int .i64 xa, .int .i64 xb, .int .i64 xc, .slice a n c] 50) _ (lt_of_block h1)).trans h1
      have k1 := (hW.below.block _ (lt_of_block h1)).trans h1
      have h2 := alloc_here ((w.alloc (.cells #[.slice fa p.fs.length fc, .slice oa p.os.length oc, .slice va p.vs.length vc] 26)).alloc (.cells #[sV fnm, .int .i64 fpa, .int .i64 rg, .int .i64 fpr, .bool fcl, .slice ca f.code.length cc] 47)) (.cells #[.int .i64 xop, .int .i64 xa, .int .i64 xb, .int .i64 xc, .slice a n c] 50)
      simp only [World.size_alloc] at h2
      have k2 := (hW.below.block _ (lt_of_block h2)).trans h2
      exact ⟨cell_of k0 rfl, cell_of k0 rfl, cell_of k0 rfl, cell_of k1 rfl, cell_of k1 rfl, cell_of k1 rfl, cell_of k1 rfl, cell_of k1 rfl, cell_of k1 rfl, cell_of k2 rfl, cell_of k2 rfl, cell_of k2 rfl, cell_of k2 rfl, cell_of k2 rfl⟩)
    have HWZ := Lib.hid (show wk.heap.size = w.heap.size + 3 by rw [hwk]; simp)
    have HW := Lib.hid (show Ext w wk by rw [hwk]; exact (ext_alloc (ext_alloc (ext_alloc (Below.refl _ _) _) _) _))
    have HE0 := Lib.hid (show Ext wk wk from Below.refl _ _)
    have HE := Lib.hid (show Ext wk wk from Below.refl _ _)
    obtain ⟨d0_0, d0_1, d0_2, d1_0, d1_1, d1_2, d1_3, d1_4, d1_5, d2_0, d2_1, d2_2, d2_3, d2_4⟩ := BX.out _ HE.out
    have hne : ((n : Int) != 2) = false := by simpa using (show (n : Int) = 2 from by rw [← HN.out]; exact hz)
    have HZQ := Lib.hid hz
    clear hz
    go_enter Tryz.func127, Tryz.ntmps127
    go_wp2_with fail
    rw [← hwk]
    clear hwk hne d0_0 d0_1 d0_2 d1_0 d1_1 d1_2 d1_3 d1_4 d1_5 d2_0 d2_1 d2_2 d2_3 d2_4
    go_loopw [10, 11] (fun d i wr => ∃ k : Nat, k ≤ n ∧ d = .int .i64 0 ∧ i = .int .i64 (k : Int) ∧ (l.take k).any (regOut f) = false ∧ Ext wk wr) (fun _ i _ => n - (intOf i).toNat)
    case atStart => exact ⟨0, Nat.zero_le _, rfl, rfl, by simp, HE.out⟩
    case round =>
      obtain ⟨k, hk, rfl, rfl, ht, hE⟩ := hrel
      clear HE
      have HE := Lib.hid hE
      have HT := Lib.hid ht
      clear hE ht
      obtain ⟨d0_0, d0_1, d0_2, d1_0, d1_1, d1_2, d1_3, d1_4, d1_5, d2_0, d2_1, d2_2, d2_3, d2_4⟩ := BX.out _ HE.out
      by_cases hlt : k < n
      case pos =>
        have hlt' : k < l.length := by rw [HN.out]; exact hlt
        obtain ⟨b, off, hab, c0⟩ := HI.out.below (Ext.trans HW.out HE.out) k hlt'
        subst hab
        have HNX := Lib.hid (fun e => any_take (q := regOut f) hlt' HT.out e)
        have HBD := Lib.hid (fun e => HY.out (any_at (q := regOut f) hlt' e))
        have hro := HRO.out l[k]
        generalize l[k] = z at *
        clear hlt'
        have KB := Lib.hid (fun W => between_any z 0 (rg - 1) W)
        rw [hro] at HNX HBD
        clear hro
        generalize inB z 0 (rg - 1) = bz at *
        go_wp2_with fail
        have ud0_0 := fun U : Up _ => Up.cell d0_0 U
        have ud0_1 := fun U : Up _ => Up.cell d0_1 U
        have ud0_2 := fun U : Up _ => Up.cell d0_2 U
        have ud1_0 := fun U : Up _ => Up.cell d1_0 U
        have ud1_1 := fun U : Up _ => Up.cell d1_1 U
        have ud1_2 := fun U : Up _ => Up.cell d1_2 U
        have ud1_3 := fun U : Up _ => Up.cell d1_3 U
        have ud1_4 := fun U : Up _ => Up.cell d1_4 U
        have ud1_5 := fun U : Up _ => Up.cell d1_5 U
        have ud2_0 := fun U : Up _ => Up.cell d2_0 U
        have ud2_1 := fun U : Up _ => Up.cell d2_1 U
        have ud2_2 := fun U : Up _ => Up.cell d2_2 U
        have ud2_3 := fun U : Up _ => Up.cell d2_3 U
        have ud2_4 := fun U : Up _ => Up.cell d2_4 U
        have uc0 := fun U : Up _ => Up.cell c0 U
        refine wp_region_up (by kernel_rfl) (by kernel_rfl) ?_
        repeat (go_big_quiet_step (first | (go_at_call 23; refine Up.callE (fun W hW => Calls.mono (KB.out W) (by rintro _ _ ⟨rfl, rfl⟩; exact ⟨rfl, Below.refl _ _⟩)) ?_; with_reducible rfl)))
        refine wpQuiet_nil ?_
        rintro _ ⟨U, rfl⟩
        have HE6 := Lib.hid (Ext.trans HE.out U.ext)
        generalize U.W = w6 at *
        clear ud0_0 d0_0 ud0_1 d0_1 ud0_2 d0_2 ud1_0 d1_0 ud1_1 d1_1 ud1_2 d1_2 ud1_3 d1_3 ud1_4 d1_4 ud1_5 d1_5 ud2_0 d2_0 ud2_1 d2_1 ud2_2 d2_2 ud2_3 d2_3 ud2_4 d2_4 uc0 c0
        cases bz with
        | false =>
          have HR := Lib.hid (HBD.out rfl)
          go_wp2
          go_ret
          exact ⟨by rw [HR.out]; rfl, Ext.trans HW.out HE6.out⟩
        | true =>
          have HNX := Lib.hid (HNX.out rfl)
          go_wp2
          go_roundw
          case rel => exact ⟨k + 1, by omega, rfl, by go_num, HNX.out, HE6.out⟩
          case measure => simp [intOf]; omega
      case neg =>
        have ekl : k = l.length := by have := HN.out; omega
        have HF := Lib.hid (HZ.out (by have h9 := HT.out; rw [ekl, List.take_length] at h9; exact h9))
        clear hk ekl
        by_cases f1 : xop = 65 ∧ xa = xc
        case pos =>
          have HF := Lib.hid (show res = 16 from by rw [HF.out]; unfold cfl; rw [if_pos (.inl f1)])
          have q1 : (xop == 65) = true := by simpa using f1.1
          have q2 : (xa == xc) = true := by simpa using f1.2
          clear f1
          go_wp2
          go_ret
          exact ⟨by rw [HF.out]; rfl, Ext.trans HW.out HE.out⟩
        case neg =>
          have HF := Lib.hid (show res = 0 from by rw [HF.out]; unfold cfl; rw [if_neg (by rintro (e | ⟨e, _⟩); exact f1 e; omega)])
          by_cases f2 : xop = 65
          case pos =>
            have q1 : (xop == 65) = true := by simpa using f2
            have q2 : (xa == xc) = false := by rw [beq_eq_false_iff_ne]; exact fun e => f1 ⟨f2, e⟩
            clear f1 f2
            go_wp2
            go_ret
            exact ⟨by rw [HF.out]; rfl, Ext.trans HW.out HE.out⟩
          case neg =>
            have q1 : (xop == 65) = false := by simpa using f2
            clear f1 f2
            go_wp2
            go_ret
            exact ⟨by rw [HF.out]; rfl, Ext.trans HW.out HE.out⟩
  · have HCK := Lib.hid (show ckArgs p f 2 x = ckRegs f x.args (2) from by unfold ckArgs; rw [if_neg (by decide), if_neg (by decide)]; rfl)
    have HR := Lib.hid (show rA p f 2 x = 10 from by unfold rA; rw [HCK.out]; unfold ckRegs; rw [if_pos hz]; rfl)
    have HCL := Lib.hid (show True from trivial)
    generalize rA p f 2 x = res at *
    clear HCK
    have hr1 := h.regs.1
    have hr2 := h.regs.2
    have hlx := hx.len
    have HWA := Lib.hid hx.args
    have HI := Lib.hid hI
    obtain ⟨fa, fc, oa, oc, va, vc⟩ := A
    try dsimp only [PV, FV, IV] at HCL
    dsimp only [PV, FV, IV]
    obtain ⟨xop, xa, xb, xc, l⟩ := x
    dsimp only at *
    generalize f.name = fnm at *
    generalize f.params = fpa at *
    generalize f.prio = fpr at *
    generalize f.cl = fcl at *
    obtain ⟨rg, hrg⟩ : ∃ r, f.regs = r := ⟨_, rfl⟩
    rw [hrg] at hr1 hr2 ⊢
    try rw [hrg] at HCL
    have HRG := Lib.hid hrg
    clear hrg
    obtain ⟨n, hn⟩ : ∃ n, l.length = n := ⟨_, rfl⟩
    rw [hn] at hlx hcap ⊢
    have HN := Lib.hid hn
    clear hn
    clear h hx hI
    obtain ⟨wk, hwk⟩ : ∃ W, W = (((w.alloc (.cells #[.slice fa p.fs.length fc, .slice oa p.os.length oc, .slice va p.vs.length vc] 26)).alloc (.cells #[sV fnm, .int .i64 fpa, .int .i64 rg, .int .i64 fpr, .bool fcl, .slice ca f.code.length cc] 47)).alloc (.cells #[.int .i64 xop, .int .i64 xa, .int .i64 xb, .int .i64 xc, .slice a n c] 50)) := ⟨_, rfl⟩
    have BX := Lib.hid (show ∀ W, Ext wk W → (W.cell? ⟨w.heap.size, 0, none⟩ = some (.slice fa p.fs.length fc) ∧ W.cell? ⟨w.heap.size, 1, none⟩ = some (.slice oa p.os.length oc) ∧ W.cell? ⟨w.heap.size, 2, none⟩ = some (.slice va p.vs.length vc) ∧ W.cell? ⟨w.heap.size + 1, 0, none⟩ = some (sV fnm) ∧ W.cell? ⟨w.heap.size + 1, 1, none⟩ = some (.int .i64 fpa) ∧ W.cell? ⟨w.heap.size + 1, 2, none⟩ = some (.int .i64 rg) ∧ W.cell? ⟨w.heap.size + 1, 3, none⟩ = some (.int .i64 fpr) ∧ W.cell? ⟨w.heap.size + 1, 4, none⟩ = some (.bool fcl) ∧ W.cell? ⟨w.heap.size + 1, 5, none⟩ = some (.slice ca f.code.length cc) ∧ W.cell? ⟨w.heap.size + 2, 0, none⟩ = some (.int .i64 xop) ∧ W.cell? ⟨w.heap.size + 2, 1, none⟩ = some (.int .i64 xa) ∧ W.cell? ⟨w.heap.size + 2, 2, none⟩ = some (.int .i64 xb) ∧ W.cell? ⟨w.heap.size + 2, 3, none⟩ = some (.int .i64 xc) ∧ W.cell? ⟨w.heap.size + 2, 4, none⟩ = some (.slice a n c)) from fun W hW => by
      subst hwk
      have h0 := alloc_here w (.cells #[.slice fa p.fs.length fc, .slice oa p.os.length oc, .slice va p.vs.length vc] 26)
      have h0 := (Below.heap_alloc _ (.cells #[sV fnm, .int .i64 fpa, .int .i64 rg, .int .i64 fpr, .bool fcl, .slice ca f.code.length cc] 47) _ (lt_of_block h0)).trans h0
      have h0 := (Below.heap_alloc _ (.cells #[.int .i64 xop, .int .i64 xa, .int .i64 xb, .int .i64 xc, .slice a n c] 50) _ (lt_of_block h0)).trans h0
      have k0 := (hW.below.block _ (lt_of_block h0)).trans h0
      have h1 := alloc_here (w.alloc (.cells #[.slice fa p.fs.length fc, .slice oa p.os.length oc, .slice va p.vs.length vc] 26)) (.cells #[sV fnm, .int .i64 fpa, .int .i64 rg, .int .i64 fpr, .bool fcl, .slice ca f.code.length cc] 47)
      simp only [World.size_alloc] at h1
      have h1 := (Below.heap_alloc _ (.cells #[.int .i64 xop, .int .i64 xa, .int .i64 xb, .int .i64 xc, .slice a n c] 50) _ (lt_of_block h1)).trans h1
      have k1 := (hW.below.block _ (lt_of_block h1)).trans h1
      have h2 := alloc_here ((w.alloc (.cells #[.slice fa p.fs.length fc, .slice oa p.os.length oc, .slice va p.vs.length vc] 26)).alloc (.cells #[sV fnm, .int .i64 fpa, .int .i64 rg, .int .i64 fpr, .bool fcl, .slice ca f.code.length cc] 47)) (.cells #[.int .i64 xop, .int .i64 xa, .int .i64 xb, .int .i64 xc, .slice a n c] 50)
      simp only [World.size_alloc] at h2
      have k2 := (hW.below.block _ (lt_of_block h2)).trans h2
      exact ⟨cell_of k0 rfl, cell_of k0 rfl, cell_of k0 rfl, cell_of k1 rfl, cell_of k1 rfl, cell_of k1 rfl, cell_of k1 rfl, cell_of k1 rfl, cell_of k1 rfl, cell_of k2 rfl, cell_of k2 rfl, cell_of k2 rfl, cell_of k2 rfl, cell_of k2 rfl⟩)
    have HWZ := Lib.hid (show wk.heap.size = w.heap.size + 3 by rw [hwk]; simp)
    have HW := Lib.hid (show Ext w wk by rw [hwk]; exact (ext_alloc (ext_alloc (ext_alloc (Below.refl _ _) _) _) _))
    have HE0 := Lib.hid (show Ext wk wk from Below.refl _ _)
    have HE := Lib.hid (show Ext wk wk from Below.refl _ _)
    obtain ⟨d0_0, d0_1, d0_2, d1_0, d1_1, d1_2, d1_3, d1_4, d1_5, d2_0, d2_1, d2_2, d2_3, d2_4⟩ := BX.out _ HE.out
    have hne : ((n : Int) != 2) = true := by rw [bne_iff_ne]; intro e; apply hz; rw [HN.out]; exact e
    clear hz
    go_enter Tryz.func127, Tryz.ntmps127
    go_wp2
    rw [← hwk]
    go_ret
    exact ⟨by rw [HR.out]; rfl, HW.out⟩

set_option maxRecDepth 100000 in
set_option maxHeartbeats 4000000 in
theorem rargs_3 (p : Pg) (A : PA) (f : Fn) (ca : Option Addr) (cc : Nat) (x : Ins) (a : Option Addr) (c : Nat) (w : World) (h : CkAt w p A f ca) (hx : x.wf) (hI : IntsAt w a x.args) (hcap : x.args.length ≤ c) :
    Gives Tryz.prog 127 #[PV p A, FV f ca cc, .int .u8 115, IV x a c] w (.int .i64 (rA p f 3 x)) := by
  unfold Gives
  by_cases hz : x.args.length = 0 ∨ x.args.length % 3 ≠ 0 ∨ x.args.length > 18
  · have HR := Lib.hid (show rA p f 3 x = 10 from by rw [rA_of (show ckArgs p f 3 x = 10 from by rw [ckArgs_3]; unfold ckCases; rw [if_pos hz])]; rfl)
    have HCL := Lib.hid (show True from trivial)
    generalize rA p f 3 x = res at *
    have hr1 := h.regs.1
    have hr2 := h.regs.2
    have hlx := hx.len
    have HWA := Lib.hid hx.args
    have HI := Lib.hid hI
    obtain ⟨fa, fc, oa, oc, va, vc⟩ := A
    try dsimp only [PV, FV, IV] at HCL
    dsimp only [PV, FV, IV]
    obtain ⟨xop, xa, xb, xc, l⟩ := x
    dsimp only at *
    generalize f.name = fnm at *
    generalize f.params = fpa at *
    generalize f.prio = fpr at *
    generalize f.cl = fcl at *
    obtain ⟨rg, hrg⟩ : ∃ r, f.regs = r := ⟨_, rfl⟩
    rw [hrg] at hr1 hr2 ⊢
    try rw [hrg] at HCL
    have HRG := Lib.hid hrg
    clear hrg
    obtain ⟨n, hn⟩ : ∃ n, l.length = n := ⟨_, rfl⟩
    rw [hn] at hlx hcap ⊢
    have HN := Lib.hid hn
    clear hn
    obtain ⟨wk, hwk⟩ : ∃ W, W = (((w.alloc (.cells #[.slice fa p.fs.length fc, .slice oa p.os.length oc, .slice va p.vs.length vc] 26)).alloc (.cells #[sV fnm, .int .i64 fpa, .int .i64 rg, .int .i64 fpr, .bool fcl, .slice ca f.code.length cc] 47)).alloc (.cells #[.int .i64 xop, .int .i64 xa, .int .i64 xb, .int .i64 xc, .slice a n c] 50)) := ⟨_, rfl⟩
    have BX := Lib.hid (show ∀ W, Ext wk W → (W.cell? ⟨w.heap.size, 0, none⟩ = some (.slice fa p.fs.length fc) ∧ W.cell? ⟨w.heap.size, 1, none⟩ = some (.slice oa p.os.length oc) ∧ W.cell? ⟨w.heap.size, 2, none⟩ = some (.slice va p.vs.length vc) ∧ W.cell? ⟨w.heap.size + 1, 0, none⟩ = some (sV fnm) ∧ W.cell? ⟨w.heap.size + 1, 1, none⟩ = some (.int .i64 fpa) ∧ W.cell? ⟨w.heap.size + 1, 2, none⟩ = some (.int .i64 rg) ∧ W.cell? ⟨w.heap.size + 1, 3, none⟩ = some (.int .i64 fpr) ∧ W.cell? ⟨w.heap.size + 1, 4, none⟩ = some (.bool fcl) ∧ W.cell? ⟨w.heap.size + 1, 5, none⟩ = some (.slice ca f.code.length cc) ∧ W.cell? ⟨w.heap.size + 2, 0, none⟩ = some (.int .i64 xop) ∧ W.cell? ⟨w.heap.size + 2, 1, none⟩ = some (.int .i64 xa) ∧ W.cell? ⟨w.heap.size + 2, 2, none⟩ = some (.int .i64 xb) ∧ W.cell? ⟨w.heap.size + 2, 3, none⟩ = some (.int .i64 xc) ∧ W.cell? ⟨w.heap.size + 2, 4, none⟩ = some (.slice a n c)) from fun W hW => by
      subst hwk
      have h0 := alloc_here w (.cells #[.slice fa p.fs.length fc, .slice oa p.os.length oc, .slice va p.vs.length vc] 26)
      have h0 := (Below.heap_alloc _ (.cells #[sV fnm, .int .i64 fpa, .int .i64 rg, .int .i64 fpr, .bool fcl, .slice ca f.code.length cc] 47) _ (lt_of_block h0)).trans h0
      have h0 := (Below.heap_alloc _ (.cells #[.int .i64 xop, .int .i64 xa, .int .i64 xb, .int .i64 xc, .slice a n c] 50) _ (lt_of_block h0)).trans h0
      have k0 := (hW.below.block _ (lt_of_block h0)).trans h0
      have h1 := alloc_here (w.alloc (.cells #[.slice fa p.fs.length fc, .slice oa p.os.length oc, .slice va p.vs.length vc] 26)) (.cells #[sV fnm, .int .i64 fpa, .int .i64 rg, .int .i64 fpr, .bool fcl, .slice ca f.code.length cc] 47)
      simp only [World.size_alloc] at h1
      have h1 := (Below.heap_alloc _ (.cells #[.int .i64 xop, .int .i64 xa, .int .i64 xb, .int .i64 xc, .slice a n c] 50) _ (lt_of_block h1)).trans h1
      have k1 := (hW.below.block _ (lt_of_block h1)).trans h1
      have h2 := alloc_here ((w.alloc (.cells #[.slice fa p.fs.length fc, .slice oa p.os.length oc, .slice va p.vs.length vc] 26)).alloc (.cells #[sV fnm, .int .i64 fpa, .int .i64 rg, .int .i64 fpr, .bool fcl, .slice ca f.code.length cc] 47)) (.cells #[.int .i64 xop, .int .i64 xa, .int .i64 xb, .int .i64 xc, .slice a n c] 50)
      simp only [World.size_alloc] at h2
      have k2 := (hW.below.block _ (lt_of_block h2)).trans h2
      exact ⟨cell_of k0 rfl, cell_of k0 rfl, cell_of k0 rfl, cell_of k1 rfl, cell_of k1 rfl, cell_of k1 rfl, cell_of k1 rfl, cell_of k1 rfl, cell_of k1 rfl, cell_of k2 rfl, cell_of k2 rfl, cell_of k2 rfl, cell_of k2 rfl, cell_of k2 rfl⟩)
    have HWZ := Lib.hid (show wk.heap.size = w.heap.size + 3 by rw [hwk]; simp)
    have HW := Lib.hid (show Ext w wk by rw [hwk]; exact (ext_alloc (ext_alloc (ext_alloc (Below.refl _ _) _) _) _))
    have HE0 := Lib.hid (show Ext wk wk from Below.refl _ _)
    have HE := Lib.hid (show Ext wk wk from Below.refl _ _)
    obtain ⟨d0_0, d0_1, d0_2, d1_0, d1_1, d1_2, d1_3, d1_4, d1_5, d2_0, d2_1, d2_2, d2_3, d2_4⟩ := BX.out _ HE.out
    have hz' : n = 0 ∨ n % 3 ≠ 0 ∨ n > 18 := by rw [← HN.out]; exact hz
    clear hz h hI hx
    by_cases h0 : n = 0
    case pos =>
      have g0 : ((n : Int) == 0) = true := by rw [beq_iff_eq]; omega
      clear h0 hz'
      go_enter Tryz.func127, Tryz.ntmps127
      go_wp2
      rw [← hwk]
      go_ret
      exact ⟨by rw [HR.out]; rfl, HW.out⟩
    case neg =>
      have g0 : ((n : Int) == 0) = false := by rw [beq_eq_false_iff_ne]; omega
      by_cases h3 : n % 3 = 0
      case neg =>
        have g3 : ((n : Int) % 3 != 0) = true := by rw [bne_iff_ne]; omega
        clear h0 h3 hz'
        go_enter Tryz.func127, Tryz.ntmps127
        go_wp2
        rw [← hwk]
        go_ret
        exact ⟨by rw [HR.out]; rfl, HW.out⟩
      case pos =>
        have g3 : ((n : Int) % 3 != 0) = false := by simp; omega
        have g18 : (18 : Int) < n := by omega
        clear h0 h3 hz'
        go_enter Tryz.func127, Tryz.ntmps127
        go_wp2
        rw [← hwk]
        go_ret
        exact ⟨by rw [HR.out]; rfl, HW.out⟩
  · have HX := Lib.hid (show fstE (fun j => ckCase p f (x.args.getD (3 * j) 0) (x.args.getD (3 * j + 1) 0) (x.args.getD (3 * j + 2) 0)) (x.args.length / 3) ≠ 0 → rA p f 3 x = fstE (fun j => ckCase p f (x.args.getD (3 * j) 0) (x.args.getD (3 * j + 1) 0) (x.args.getD (3 * j + 2) 0)) (x.args.length / 3) from fun e => by rw [rA_of (show ckArgs p f 3 x = fstE (fun j => ckCase p f (x.args.getD (3 * j) 0) (x.args.getD (3 * j + 1) 0) (x.args.getD (3 * j + 2) 0)) (x.args.length / 3) from by rw [ckArgs_3]; unfold ckCases; rw [if_neg hz, if_pos e]), if_pos e])
    have HY := Lib.hid (show fstE (fun j => ckCase p f (x.args.getD (3 * j) 0) (x.args.getD (3 * j + 1) 0) (x.args.getD (3 * j + 2) 0)) (x.args.length / 3) = 0 → defs x.args (x.args.length / 3) > 1 → rA p f 3 x = 16 from fun e e2 => by rw [rA_of (show ckArgs p f 3 x = 16 from by rw [ckArgs_3]; unfold ckCases; rw [if_neg hz, if_neg (not_not_intro e), if_pos e2])]; rfl)
    have HZ := Lib.hid (show fstE (fun j => ckCase p f (x.args.getD (3 * j) 0) (x.args.getD (3 * j + 1) 0) (x.args.getD (3 * j + 2) 0)) (x.args.length / 3) = 0 → ¬ defs x.args (x.args.length / 3) > 1 → rA p f 3 x = cfl 3 x from fun e e2 => by rw [rA_of (show ckArgs p f 3 x = 0 from by rw [ckArgs_3]; unfold ckCases; rw [if_neg hz, if_neg (not_not_intro e), if_neg e2])]; rfl)
    have HCL := Lib.hid (fun W (hW : Ext w W) ch k r hc hr => rcase_any p A f ca cc k ch r W (h.ext hW) hc hr)
    generalize rA p f 3 x = res at *
    have hr1 := h.regs.1
    have hr2 := h.regs.2
    have hlx := hx.len
    have HWA := Lib.hid hx.args
    have HI := Lib.hid hI
    obtain ⟨fa, fc, oa, oc, va, vc⟩ := A
    try dsimp only [PV, FV, IV] at HCL
    dsimp only [PV, FV, IV]
    obtain ⟨xop, xa, xb, xc, l⟩ := x
    dsimp only at *
    generalize f.name = fnm at *
    generalize f.params = fpa at *
    generalize f.prio = fpr at *
    generalize f.cl = fcl at *
    obtain ⟨rg, hrg⟩ : ∃ r, f.regs = r := ⟨_, rfl⟩
    rw [hrg] at hr1 hr2 ⊢
    try rw [hrg] at HCL
    have HRG := Lib.hid hrg
    clear hrg
    obtain ⟨n, hn⟩ : ∃ n, l.length = n := ⟨_, rfl⟩
    rw [hn] at hlx hcap ⊢
    have HN := Lib.hid hn
    clear hn
    have HRG' := HRG
    obtain ⟨CC, hCC⟩ : ∃ g : Nat → Int, g = (fun j => ckCase p f (l.getD (3 * j) 0) (l.getD (3 * j + 1) 0) (l.getD (3 * j + 2) 0)) := ⟨_, rfl⟩
    rw [← hCC] at HX HY HZ
    have HCC := Lib.hid (fun j => congrFun hCC j)
    clear hCC
    obtain ⟨q, hq⟩ : ∃ q, n = 3 * q := ⟨n / 3, by have := HN.out; omega⟩
    have hq6 : q ≤ 6 := by have := HN.out; omega
    have hq1 : 1 ≤ q := by have := HN.out; omega
    have hq3 : l.length / 3 = q := by have := HN.out; omega
    rw [hq3] at HX HY HZ
    have HQ := Lib.hid hq
    have hn18 : n ≤ 18 := by omega
    have hn3 : 3 ≤ n := by omega
    have hn3' : n % 3 = 0 := by omega
    clear hz h hI hx hq hq3
    obtain ⟨wk, hwk⟩ : ∃ W, W = (((w.alloc (.cells #[.slice fa p.fs.length fc, .slice oa p.os.length oc, .slice va p.vs.length vc] 26)).alloc (.cells #[sV fnm, .int .i64 fpa, .int .i64 rg, .int .i64 fpr, .bool fcl, .slice ca f.code.length cc] 47)).alloc (.cells #[.int .i64 xop, .int .i64 xa, .int .i64 xb, .int .i64 xc, .slice a n c] 50)) := ⟨_, rfl⟩
    have BX := Lib.hid (show ∀ W, Ext wk W → (W.cell? ⟨w.heap.size, 0, none⟩ = some (.slice fa p.fs.length fc) ∧ W.cell? ⟨w.heap.size, 1, none⟩ = some (.slice oa p.os.length oc) ∧ W.cell? ⟨w.heap.size, 2, none⟩ = some (.slice va p.vs.length vc) ∧ W.cell? ⟨w.heap.size + 1, 0, none⟩ = some (sV fnm) ∧ W.cell? ⟨w.heap.size + 1, 1, none⟩ = some (.int .i64 fpa) ∧ W.cell? ⟨w.heap.size + 1, 2, none⟩ = some (.int .i64 rg) ∧ W.cell? ⟨w.heap.size + 1, 3, none⟩ = some (.int .i64 fpr) ∧ W.cell? ⟨w.heap.size + 1, 4, none⟩ = some (.bool fcl) ∧ W.cell? ⟨w.heap.size + 1, 5, none⟩ = some (.slice ca f.code.length cc) ∧ W.cell? ⟨w.heap.size + 2, 0, none⟩ = some (.int .i64 xop) ∧ W.cell? ⟨w.heap.size + 2, 1, none⟩ = some (.int .i64 xa) ∧ W.cell? ⟨w.heap.size + 2, 2, none⟩ = some (.int .i64 xb) ∧ W.cell? ⟨w.heap.size + 2, 3, none⟩ = some (.int .i64 xc) ∧ W.cell? ⟨w.heap.size + 2, 4, none⟩ = some (.slice a n c)) from fun W hW => by
      subst hwk
      have h0 := alloc_here w (.cells #[.slice fa p.fs.length fc, .slice oa p.os.length oc, .slice va p.vs.length vc] 26)
      have h0 := (Below.heap_alloc _ (.cells #[sV fnm, .int .i64 fpa, .int .i64 rg, .int .i64 fpr, .bool fcl, .slice ca f.code.length cc] 47) _ (lt_of_block h0)).trans h0
      have h0 := (Below.heap_alloc _ (.cells #[.int .i64 xop, .int .i64 xa, .int .i64 xb, .int .i64 xc, .slice a n c] 50) _ (lt_of_block h0)).trans h0
      have k0 := (hW.below.block _ (lt_of_block h0)).trans h0
      have h1 := alloc_here (w.alloc (.cells #[.slice fa p.fs.length fc, .slice oa p.os.length oc, .slice va p.vs.length vc] 26)) (.cells #[sV fnm, .int .i64 fpa, .int .i64 rg, .int .i64 fpr, .bool fcl, .slice ca f.code.length cc] 47)
      simp only [World.size_alloc] at h1
      have h1 := (Below.heap_alloc _ (.cells #[.int .i64 xop, .int .i64 xa, .int .i64 xb, .int .i64 xc, .slice a n c] 50) _ (lt_of_block h1)).trans h1
      have k1 := (hW.below.block _ (lt_of_block h1)).trans h1
      have h2 := alloc_here ((w.alloc (.cells #[.slice fa p.fs.length fc, .slice oa p.os.length oc, .slice va p.vs.length vc] 26)).alloc (.cells #[sV fnm, .int .i64 fpa, .int .i64 rg, .int .i64 fpr, .bool fcl, .slice ca f.code.length cc] 47)) (.cells #[.int .i64 xop, .int .i64 xa, .int .i64 xb, .int .i64 xc, .slice a n c] 50)
      simp only [World.size_alloc] at h2
      have k2 := (hW.below.block _ (lt_of_block h2)).trans h2
      exact ⟨cell_of k0 rfl, cell_of k0 rfl, cell_of k0 rfl, cell_of k1 rfl, cell_of k1 rfl, cell_of k1 rfl, cell_of k1 rfl, cell_of k1 rfl, cell_of k1 rfl, cell_of k2 rfl, cell_of k2 rfl, cell_of k2 rfl, cell_of k2 rfl, cell_of k2 rfl⟩)
    have HWZ := Lib.hid (show wk.heap.size = w.heap.size + 3 by rw [hwk]; simp)
    have HW := Lib.hid (show Ext w wk by rw [hwk]; exact (ext_alloc (ext_alloc (ext_alloc (Below.refl _ _) _) _) _))
    have HE0 := Lib.hid (show Ext wk wk from Below.refl _ _)
    have HE := Lib.hid (show Ext wk wk from Below.refl _ _)
    obtain ⟨d0_0, d0_1, d0_2, d1_0, d1_1, d1_2, d1_3, d1_4, d1_5, d2_0, d2_1, d2_2, d2_3, d2_4⟩ := BX.out _ HE.out
    have g0 : ((n : Int) == 0) = false := by rw [beq_eq_false_iff_ne]; omega
    have g3 : ((n : Int) % 3 != 0) = false := by simp; omega
    have g18 : ¬ (18 : Int) < n := by omega
    clear hn3'
    go_enter Tryz.func127, Tryz.ntmps127
    go_wp2_with fail
    rw [← hwk]
    clear hwk g0 g3 g18 d0_0 d0_1 d0_2 d1_0 d1_1 d1_2 d1_3 d1_4 d1_5 d2_0 d2_1 d2_2 d2_3 d2_4
    go_loopw [10, 11] (fun d i wr => ∃ k j : Nat, k ≤ n ∧ j = (k + 2) / 3 ∧ i = .int .i64 (k : Int) ∧ d = .int .i64 ((defs l j : Nat) : Int) ∧ defs l j ≤ j ∧ fstE CC j = 0 ∧ Ext wk wr) (fun _ i _ => n - (intOf i).toNat)
    case atStart => exact ⟨0, 0, Nat.zero_le _, rfl, rfl, rfl, Nat.le_refl _, rfl, HE.out⟩
    case round =>
      obtain ⟨k, j, hk, hj, rfl, rfl, hd, ht, hE⟩ := hrel
      clear HE
      have HE := Lib.hid hE
      have HT := Lib.hid ht
      clear hE ht
      obtain ⟨d0_0, d0_1, d0_2, d1_0, d1_1, d1_2, d1_3, d1_4, d1_5, d2_0, d2_1, d2_2, d2_3, d2_4⟩ := BX.out _ HE.out
      by_cases hlt : k < n
      case pos =>
        by_cases h3 : k % 3 = 0
        case neg =>
          have g3 : ((k : Int) % 3 != 0) = true := by rw [bne_iff_ne]; omega
          have hj2 : j = (k + 1 + 2) / 3 := by omega
          have HJ2 := Lib.hid hj2
          have HD := Lib.hid hd
          clear h3 hj hj2 hd
          go_wp2
          go_roundw
          case rel => exact ⟨k + 1, j, by omega, HJ2.out, by go_num, rfl, HD.out, HT.out, HE.out⟩
          case measure => simp [intOf]; omega
        case pos =>
          have g3 : ((k : Int) % 3 != 0) = false := by simp; omega
          obtain rfl : k = 3 * j := by omega
          have hjq : j < q := by have := HQ.out; omega
          have hl0 : 3 * j < l.length := by have := HN.out; omega
          have hl1 : 3 * j + 1 < l.length := by have := HN.out; have := HQ.out; omega
          have hl2 : 3 * j + 2 < l.length := by have := HN.out; have := HQ.out; omega
          have HST := Lib.hid (fun (h : CC j = 0) => show fstE CC (j + 1) = 0 from by rw [fstE_step HT.out, h])
          have HSP := Lib.hid (fun (h : CC j ≠ 0) => show res = CC j from by have e := fstE_stop HT.out h hjq; rw [HX.out (by rw [e]; exact h), e])
          have HDF := Lib.hid (show defs l (j + 1) = defs l j + (if l[3 * j] = 3 then 1 else 0) from by simp [defs, List.getD, hl0])
          have hcc := HCC.out j
          simp only [List.getD_eq_getElem?_getD, List.getElem?_eq_getElem hl0, List.getElem?_eq_getElem hl1, List.getElem?_eq_getElem hl2, Option.getD_some] at hcc
          obtain ⟨b, off, hab, c0⟩ := HI.out.below (Ext.trans HW.out HE.out) _ hl0
          obtain ⟨b1, off1, hab1, c1⟩ := HI.out.below (Ext.trans HW.out HE.out) _ hl1
          obtain ⟨b2, off2, hab2, c2⟩ := HI.out.below (Ext.trans HW.out HE.out) _ hl2
          subst hab
          obtain ⟨rfl, rfl⟩ : b = b1 ∧ off = off1 := by simpa using hab1
          obtain ⟨rfl, rfl⟩ : b = b2 ∧ off = off2 := by simpa using hab2
          have K := Lib.hid (fun W hW => HCL.out W hW l[3 * j + 1] l[3 * j] l[3 * j + 2] (HWA.out _ (List.getElem_mem hl1)) (HWA.out _ (List.getElem_mem hl2)))
          rw [← hcc] at K
          have HZ0 := Lib.hid (HWA.out _ (List.getElem_mem hl0))
          generalize l[3 * j] = z0 at *
          generalize l[3 * j + 1] = z1 at *
          generalize l[3 * j + 2] = z2 at *
          generalize CC j = e0 at *
          obtain ⟨k, hk3⟩ : ∃ k, k = 3 * j := ⟨_, rfl⟩
          rw [← hk3] at c0 c1 c2 g3 hlt
          rw [← hk3]
          have HK3 := Lib.hid hk3
          have hkn2 : k + 2 < n := by have := HN.out; omega
          clear hcc hab1 hab2 hl0 hl1 hl2 hj h3 hk hk3
          have s1 : IntKind.i64.wrap ((k : Int) + 1) = (k : Int) + 1 := IntWalk.i64_in _ (by omega)
          have s2 : IntKind.i64.wrap ((k : Int) + 2) = (k : Int) + 2 := IntWalk.i64_in _ (by omega)
          have s3 : 0 ≤ (k : Int) + 1 := by omega
          have s4 : 0 ≤ (k : Int) + 2 := by omega
          have s5 : ((k : Int) + 1).toNat = k + 1 := by omega
          have s6 : ((k : Int) + 2).toNat = k + 2 := by omega
          have s7 : (k : Int) + 1 < n := by omega
          have s8 : (k : Int) + 2 < n := by omega
          have HD := Lib.hid hd
          clear hd
          generalize defs l j = dj at *
          go_wp2_with fail
          have ud0_0 := fun U : Up _ => Up.cell d0_0 U
          have ud0_1 := fun U : Up _ => Up.cell d0_1 U
          have ud0_2 := fun U : Up _ => Up.cell d0_2 U
          have ud1_0 := fun U : Up _ => Up.cell d1_0 U
          have ud1_1 := fun U : Up _ => Up.cell d1_1 U
          have ud1_2 := fun U : Up _ => Up.cell d1_2 U
          have ud1_3 := fun U : Up _ => Up.cell d1_3 U
          have ud1_4 := fun U : Up _ => Up.cell d1_4 U
          have ud1_5 := fun U : Up _ => Up.cell d1_5 U
          have ud2_0 := fun U : Up _ => Up.cell d2_0 U
          have ud2_1 := fun U : Up _ => Up.cell d2_1 U
          have ud2_2 := fun U : Up _ => Up.cell d2_2 U
          have ud2_3 := fun U : Up _ => Up.cell d2_3 U
          have ud2_4 := fun U : Up _ => Up.cell d2_4 U
          have uc0 := fun U : Up _ => Up.cell c0 U
          have uc1 := fun U : Up _ => Up.cell c1 U
          have uc2 := fun U : Up _ => Up.cell c2 U
          refine wp_region_up (by kernel_rfl) (by kernel_rfl) ?_
          repeat (go_big_quiet_step (first | (go_at_call 148; refine Up.callE (fun W hW => K.out W (Ext.trans HW.out (Ext.trans HE.out hW))) ?_; with_reducible rfl)))
          refine wpQuiet_nil ?_
          rintro _ ⟨U, rfl⟩
          have HE6 := Lib.hid (Ext.trans HE.out U.ext)
          have hc6 := Up.cell c0 U
          have HU := Lib.hid U.ext
          generalize U.W = w6 at *
          clear ud0_0 d0_0 ud0_1 d0_1 ud0_2 d0_2 ud1_0 d1_0 ud1_1 d1_1 ud1_2 d1_2 ud1_3 d1_3 ud1_4 d1_4 ud1_5 d1_5 ud2_0 d2_0 ud2_1 d2_1 ud2_2 d2_2 ud2_3 d2_3 ud2_4 d2_4 uc0 c0 uc1 c1 uc2 c2
          clear s1 s2 s3 s4 s5 s6 s7 s8
          obtain ⟨d0_0, d0_1, d0_2, d1_0, d1_1, d1_2, d1_3, d1_4, d1_5, d2_0, d2_1, d2_2, d2_3, d2_4⟩ := BX.out _ HE6.out
          by_cases he : e0 = 0
          case neg =>
            have HR := Lib.hid (HSP.out he)
            have g1 : (e0 != 0) = true := by rw [bne_iff_ne]; exact he
            clear he
            go_wp2
            go_ret
            exact ⟨by rw [HR.out]; rfl, Ext.trans HW.out HE6.out⟩
          case pos =>
            have HS := Lib.hid (HST.out he)
            subst he
            by_cases hz3 : z0 = 3
            case pos =>
              subst hz3
              rw [if_pos rfl] at HDF
              have hdj : dj ≤ 6 := by have := HD.out; omega
              go_wp2
              go_roundw
              case rel => exact ⟨k + 1, j + 1, by omega, by have := HK3.out; omega, by go_num, by rw [HDF.out]; go_num, by rw [HDF.out]; have := HD.out; omega, HS.out, HE6.out⟩
              case measure => simp [intOf]; omega
            case neg =>
              have g2 : (z0 == 3) = false := by simpa using hz3
              rw [if_neg hz3] at HDF
              clear hz3
              go_wp2
              go_roundw
              case rel => exact ⟨k + 1, j + 1, by omega, by have := HK3.out; omega, by go_num, by rw [HDF.out]; rfl, by rw [HDF.out]; have := HD.out; omega, HS.out, HE6.out⟩
              case measure => simp [intOf]; omega
      case neg =>
        obtain rfl : j = q := by have := HQ.out; omega
        clear hj hk
        by_cases hd1 : defs l j > 1
        case pos =>
          have HR := Lib.hid (HY.out HT.out hd1)
          generalize defs l j = dj at *
          have g1 : (1 : Int) < dj := by omega
          go_wp2
          go_ret
          exact ⟨by rw [HR.out]; rfl, Ext.trans HW.out HE.out⟩
        case neg =>
          have HF := Lib.hid (HZ.out HT.out hd1)
          generalize defs l j = dj at *
          have g1 : ¬ (1 : Int) < dj := by omega
          by_cases f1 : xop = 65 ∧ xa = xc
          case pos =>
            have HF := Lib.hid (show res = 16 from by rw [HF.out]; unfold cfl; rw [if_pos (.inl f1)])
            have q1 : (xop == 65) = true := by simpa using f1.1
            have q2 : (xa == xc) = true := by simpa using f1.2
            clear f1
            go_wp2
            go_ret
            exact ⟨by rw [HF.out]; rfl, Ext.trans HW.out HE.out⟩
          case neg =>
            by_cases f3 : xa = xb
            case pos =>
              have HF := Lib.hid (show res = 16 from by rw [HF.out]; unfold cfl; rw [if_pos (.inr ⟨rfl, .inl f3⟩)])
              by_cases f2 : xop = 65
              case pos =>
                have q1 : (xop == 65) = true := by simpa using f2
                have q2 : (xa == xc) = false := by rw [beq_eq_false_iff_ne]; exact fun e => f1 ⟨f2, e⟩
                have q3 : (xa == xb) = true := by simpa using f3
                clear f1 f2 f3
                go_wp2
                go_ret
                exact ⟨by rw [HF.out]; rfl, Ext.trans HW.out HE.out⟩
              case neg =>
                have q1 : (xop == 65) = false := by simpa using f2
                have q3 : (xa == xb) = true := by simpa using f3
                clear f1 f2 f3
                go_wp2
                go_ret
                exact ⟨by rw [HF.out]; rfl, Ext.trans HW.out HE.out⟩
            case neg =>
              by_cases f4 : xa = xc
              case pos =>
                have HF := Lib.hid (show res = 16 from by rw [HF.out]; unfold cfl; rw [if_pos (.inr ⟨rfl, .inr (.inl f4)⟩)])
                by_cases f2 : xop = 65
                case pos => exact absurd ⟨f2, f4⟩ f1
                case neg =>
                  have q1 : (xop == 65) = false := by simpa using f2
                  have q3 : (xa == xb) = false := by simpa using f3
                  have q4 : (xa == xc) = true := by simpa using f4
                  clear f1 f2 f3 f4
                  go_wp2
                  go_ret
                  exact ⟨by rw [HF.out]; rfl, Ext.trans HW.out HE.out⟩
              case neg =>
                by_cases f5 : xb = xc
                case pos =>
                  have HF := Lib.hid (show res = 16 from by rw [HF.out]; unfold cfl; rw [if_pos (.inr ⟨rfl, .inr (.inr f5)⟩)])
                  by_cases f2 : xop = 65
                  case pos =>
                    have q1 : (xop == 65) = true := by simpa using f2
                    have q2 : (xa == xc) = false := by rw [beq_eq_false_iff_ne]; exact fun e => f1 ⟨f2, e⟩
                    have q3 : (xa == xb) = false := by simpa using f3
                    have q4 : (xa == xc) = false := by simpa using f4
                    have q5 : (xb == xc) = true := by simpa using f5
                    clear f1 f2 f3 f4 f5
                    go_wp2
                    go_ret
                    exact ⟨by rw [HF.out]; rfl, Ext.trans HW.out HE.out⟩
                  case neg =>
                    have q1 : (xop == 65) = false := by simpa using f2
                    have q3 : (xa == xb) = false := by simpa using f3
                    have q4 : (xa == xc) = false := by simpa using f4
                    have q5 : (xb == xc) = true := by simpa using f5
                    clear f1 f2 f3 f4 f5
                    go_wp2
                    go_ret
                    exact ⟨by rw [HF.out]; rfl, Ext.trans HW.out HE.out⟩
                case neg =>
                  have HF := Lib.hid (show res = 0 from by rw [HF.out]; unfold cfl; rw [if_neg (by rintro (e | ⟨_, e | e | e⟩); exact f1 e; exact f3 e; exact f4 e; exact f5 e)])
                  by_cases f2 : xop = 65
                  case pos =>
                    have q1 : (xop == 65) = true := by simpa using f2
                    have q2 : (xa == xc) = false := by rw [beq_eq_false_iff_ne]; exact fun e => f1 ⟨f2, e⟩
                    have q3 : (xa == xb) = false := by simpa using f3
                    have q4 : (xa == xc) = false := by simpa using f4
                    have q5 : (xb == xc) = false := by simpa using f5
                    clear f1 f2 f3 f4 f5
                    go_wp2
                    go_ret
                    exact ⟨by rw [HF.out]; rfl, Ext.trans HW.out HE.out⟩
                  case neg =>
                    have q1 : (xop == 65) = false := by simpa using f2
                    have q3 : (xa == xb) = false := by simpa using f3
                    have q4 : (xa == xc) = false := by simpa using f4
                    have q5 : (xb == xc) = false := by simpa using f5
                    clear f1 f2 f3 f4 f5
                    go_wp2
                    go_ret
                    exact ⟨by rw [HF.out]; rfl, Ext.trans HW.out HE.out⟩

theorem rargs_any (p : Pg) (A : PA) (f : Fn) (ca : Option Addr) (cc : Nat) (m : Int) (x : Ins) (a : Option Addr) (c : Nat) (w : World) (h : CkAt w p A f ca) (hx : x.wf) (hI : IntsAt w a x.args) (hcap : x.args.length ≤ c)
    (hm : m = 0 ∨ m = 1 ∨ m = 2 ∨ m = 3) (hb : m = 1 → inB x.b 0 ((p.fs.length : Int) - 1) = true) :
    Gives Tryz.prog 127 #[PV p A, FV f ca cc, .int .u8 (ra m).toNat, IV x a c] w (.int .i64 (rA p f m x)) := by
  rcases hm with rfl | rfl | rfl | rfl
  · exact rargs_0 p A f ca cc x a c w h hx hI hcap
  · exact rargs_1 p A f ca cc x a c w h hx hI hcap hb
  · exact rargs_2 p A f ca cc x a c w h hx hI hcap
  · exact rargs_3 p A f ca cc x a c w h hx hI hcap
end Go.Proofs.YtfkjokbhnblndaaGreatDoor
