/- HandExpr -/
import Derived.Test.YtmokejjndkibhaaGreatDoorHandExprS1
import Derived.Deep.DeepAppendWide
import Derived.Stop.LaidErr
import Derived.Test.YtmokejjndkibhaaGreatDoorCards
import Derived.Test.YtmokejjndkibhaaGreatDoorTie
import Derived.WalkKit
import Derived.ProofKit
import Derived.OpenShut
import Derived.ShutString
import Derived.ChangeOld
import Derived.Below
import Derived.Deep.DeepHandedRow
import Derived.Lib.LaidTab
import Derived.Shelf.Vars
import Derived.Test.YtmokejjndkibhaaGreatDoorSh12
import Derived.Test.YtmokejjndkibhaaGreatDoorSh7
import Derived.Test.YtmokejjndkibhaaGreatDoorSh10
import Derived.Test.YtmokejjndkibhaaGreatDoorSh11
import Derived.Test.YtmokejjndkibhaaGreatDoorSh8
import Derived.Test.YtmokejjndkibhaaGreatDoorSh4
import Derived.Test.YtmokejjndkibhaaGreatDoorSh6


namespace Go.Proofs.YtmokejjndkibhaaGreatDoor
open Go.RowKit Go.Shelf Ex
set_option linter.unusedVariables false
set_option linter.unusedSimpArgs false

set_option maxRecDepth 100000 in
set_option maxHeartbeats 4000000 in
theorem rfParse_any (s : List UInt8) (w : World) (hs : s.length ≤ 100000) (r : Res) (hR : (toksR s).2.2 = 0 → Rd (toksR s).1 (.bin 1) 0 r) :
    Calls Tryz.prog 12 #[sV s] w fun e w' => ∃ q cc, e = .returned (.tuple #[(psR s r).1.val q cc, .int .i64 (psR s r).2.1, .int .i64 (psR s r).2.2]) ∧ AtB (w.heap.size ≤ ·) w' q (psR s r).1 ∧ Ext w w' := by
  obtain ⟨T, hT⟩ : ∃ T, toksR s = T := ⟨_, rfl⟩
  obtain ⟨l, at0, er⟩ := T
  have HX1 := Lib.hid (ext_alloc w rd0)
  have HZ1 := Lib.hid (alloc_here w rd0)
  have KT := Lib.hid (by have := rfTokens_any s (w.alloc rd0) hs; rw [hT] at this; exact this : Calls Tryz.prog 21 #[sV s] (w.alloc rd0) fun e w' => ∃ v, e = .returned (.tuple #[v, .int .i64 at0, .int .i64 er]) ∧ RowT (w.alloc rd0).heap.size v l w' ∧ Ext (w.alloc rd0) w')
  by_cases he : er = 0
  · subst he
    obtain ⟨hs4, ha0, ts, hl, hts, htk⟩ := toksR_form (s := s) (by rw [hT])
    have hR := hR (by rw [hT])
    rw [hT] at ha0 hl hR
    dsimp only at ha0 hl hR
    subst ha0
    obtain ⟨pr, hpr⟩ : ∃ x, psR s r = x := ⟨_, rfl⟩
    have HP := Lib.hid (show pr = psL l r by rw [← hpr]; unfold psR; rw [hT]; simp)
    rw [hpr]
    have hln : l.length = ts.length + 1 := by rw [hl]; simp
    have hend : l[ts.length]'(by omega) = ⟨0, [], 0, s.length⟩ := by simp [hl]
    have HB := Lib.hid (show r.end_ ≤ ts.length from hR.stop (m := ts.length) (by omega) (by rw [hend]) (by decide) (Nat.zero_le _))
    have HTX := Lib.hid (show ∀ t ∈ l, t.text.length ≤ 140737488351232 from fun t ht => by
      rw [hl] at ht
      rcases List.mem_append.1 ht with h | h
      · have := (htk t h).2.2; omega
      · rw [List.mem_singleton.1 h]; simp)
    have HR := Lib.hid hR
    have HLN := Lib.hid hln
    have hl9 : l.length ≤ 10000 := by omega
    clear hpr hT hR hl hts htk hend hs4 hln
    go_enter Tryz.func12, Tryz.ntmps12
    go_wp2_with fail
    refine (show Calls _ _ _ _ _ from KT.out).mono ?_
    rintro _ w2 ⟨v, rfl, hrow, hE⟩
    dsimp only
    obtain ⟨p, c, rfl, htr, hlc⟩ := hrow.at
    obtain ⟨b, off, hp, _⟩ := htr 0 (by have := HLN.out; omega)
    subst hp
    have HTR := Lib.hid htr
    have HX2 := Lib.hid (Ext.trans HX1.out hE)
    have HZ2 := Lib.hid ((hE.below.block _ (lt_of_block HZ1.out)).trans HZ1.out)
    have HBL := Lib.hid (show b ≠ w.heap.size from fun e => by
      rcases hrow.2 with ⟨h, _⟩ | ⟨k, cap, cur, hv, hk, _⟩
      · cases h
      · simp only [Value.slice.injEq, Option.some.injEq, Addr.mk.injEq] at hv
        rw [World.size_alloc] at hk
        omega)
    have KR := Lib.hid (fun W (hW : Ext w2 W) => rfRead_any l (some ⟨b, off, none⟩) c W (htr.ext hW) (by omega) (fun t ht => by have := HTX.out t ht; omega) r HR.out)
    clear hE htr hrow
    obtain ⟨n, hn⟩ : ∃ n, l.length = n := ⟨_, rfl⟩
    rw [hn] at KR hl9 hlc HLN
    rw [hn]
    have HN := Lib.hid hn
    clear hn
    cases r with
    | bad k =>
      have HKL := Lib.hid (show k < l.length from by have h1 : k ≤ ts.length := HB.out; have := HLN.out; have := HN.out; omega)
      replace HP := Lib.hid (show pr = (exZ, (l[k]'HKL.out).pos, 3) from by rw [HP.out]; unfold psL; dsimp only; rw [getD_at HKL.out])
      go_wp2_with fail
      refine (show Calls _ _ _ _ _ from KR.out _ (Below.refl _ _)).mono ?_
      rintro _ w3 ⟨hE3, rfl⟩
      dsimp only [Ex.val, exZ, Ex.kind, Ex.op, Ex.name, Ex.value, Ex.args, List.length_nil]
      have HX3 := Lib.hid (Ext.trans HX2.out hE3)
      have HZ3 := Lib.hid ((hE3.below.block _ (lt_of_block HZ2.out)).trans HZ2.out)
      have htr3 := HTR.out.ext hE3
      obtain ⟨b', off', hp, t0, t1, t2, t3⟩ := htr3 k HKL.out
      cases hp
      have hk9 : k < n := by have := HKL.out; have := HN.out; omega
      have hkn : (k : Int) < (n : Int) := by omega
      have hk0 : (0 : Int) ≤ (k : Int) := by omega
      generalize (l[k]'HKL.out).pos = tp at *
      clear hE3 htr3 t0 t1 t2
      go_upto_region 6 with fail
      obtain ⟨w4, hw4⟩ : ∃ W, w3.alloc (.cells #[.int .i64 0, .int .i64 0, sV [], .int .i64 0, .slice none 0 0] 25) = W := ⟨_, rfl⟩
      rw [hw4]
      have hE4 : Ext w3 w4 := by rw [← hw4]; exact ext_alloc _ _
      have HX := Lib.hid (Ext.trans HX3.out hE4)
      have hz := (hE4.below.block _ (lt_of_block HZ3.out)).trans HZ3.out
      have HZ := Lib.hid hz
      replace t3 := Ext.cellE t3 hE4
      have z0 := cell_of (i := 0) hz rfl
      have z1 := cell_of (i := 1) hz rfl
      have z2 := cell_of (i := 2) hz rfl
      have z3 := cell_of (i := 3) hz rfl
      have z4 := cell_of (i := 4) hz rfl
      have zf : ∀ i, w4.frozen? ⟨w.heap.size, i, none⟩ = false := fun i => free_of hz
      have hbl := HBL.out
      clear hw4 hE4 hz
      go_region
      all_goals
        go_wp2
        obtain ⟨W', hW', h3, h4, h5⟩ := put5n HZ.out rfl (.int .i64 0) (.int .i64 0) (.string { data := #[] }) (.int .i64 0) (.slice none 0 0)
        rw [hW']
        clear z0 z1 z2 z3 z4 zf
        have z0 := cell_of (i := 0) h3 rfl
        have z1 := cell_of (i := 1) h3 rfl
        have z2 := cell_of (i := 2) h3 rfl
        have z3 := cell_of (i := 3) h3 rfl
        have z4 := cell_of (i := 4) h3 rfl
        have hXW : Ext w W' := Below.trans HX.out (h4 _ (Nat.le_refl _))
        exact bodyPost_ret (v := .tuple #[.agg #[.int .i64 0, .int .i64 0, .string { data := #[] }, .int .i64 0, .slice none 0 0], .int .i64 tp, .int .i64 3]) (by simp [results, Tryz.f12, go_sem, z0, z1, z2, z3, z4]) rfl ⟨none, 0, by rw [HP.out]; rfl, by rw [HP.out]; exact AtB_leaf _ _ _ exZ_fits, hXW.below.drew⟩
    | ok x k =>
      have HKL := Lib.hid (show k < l.length from by have h1 : k ≤ ts.length := HB.out; have := HLN.out; have := HN.out; omega)
      have HCK := Lib.hid (fun W q cc (hA : Ex.At W q x) => refChk_any x q cc W hA)
      have HPX := Lib.hid (show pr = if (l[k]'HKL.out).kind ≠ 0 then (exZ, (l[k]'HKL.out).pos, 3) else if x.chk ≠ 0 then (exZ, 0, x.chk) else (x, 0, 0) from by rw [HP.out]; unfold psL; dsimp only; rw [getD_at HKL.out])
      clear HP
      obtain ⟨ck, hck⟩ : ∃ c, x.chk = c := ⟨_, rfl⟩
      rw [hck] at HPX HCK
      have HCKX := Lib.hid hck
      clear hck
      obtain ⟨k1, o1, n1, v1, es⟩ := x
      go_wp2_with fail
      refine (show Calls _ _ _ _ _ from KR.out _ (Below.refl _ _)).mono ?_
      rintro _ w3 ⟨hE3, q, cc, rfl, hA⟩
      dsimp only [Ex.val, Ex.kind, Ex.op, Ex.name, Ex.value, Ex.args]
      obtain ⟨m, hm⟩ : ∃ m, es.length = m := ⟨_, rfl⟩
      rw [hm]
      have HM := Lib.hid hm
      have HA := Lib.hid hA
      have HX3 := Lib.hid (Ext.trans HX2.out hE3)
      have HS2 := Lib.hid HX2.out.size
      have HZ3 := Lib.hid ((hE3.below.block _ (lt_of_block HZ2.out)).trans HZ2.out)
      have htr3 := HTR.out.ext hE3
      obtain ⟨b', off', hp, t0, t1, t2, t3⟩ := htr3 k HKL.out
      cases hp
      have hk9 : k < n := by have := HKL.out; have := HN.out; omega
      have hkn : (k : Int) < (n : Int) := by omega
      have hk0 : (0 : Int) ≤ (k : Int) := by omega
      generalize (l[k]'HKL.out).pos = tp at *
      generalize (l[k]'HKL.out).kind = tk at *
      clear hE3 htr3 t1 t2 hA hm
      have HT3 := Lib.hid t3
      have t0 := Ext.cellE t0 (ext_alloc w3 (.cells #[.int .i64 k1, .int .i64 o1, sV n1, .int .i64 v1, .slice q m cc] 25))
      by_cases hkz : tk = 0
      · subst hkz
        rw [if_neg (by simp)] at HPX
        clear t3
        go_upto_region 7 with fail
        obtain ⟨w4, hw4⟩ : ∃ W, w3.alloc (.cells #[.int .i64 k1, .int .i64 o1, sV n1, .int .i64 v1, .slice q m cc] 25) = W := ⟨_, rfl⟩
        have hE4 : Ext w3 w4 := by rw [← hw4]; exact ext_alloc _ _
        have HB4 := Lib.hid (show w4.heap[w3.heap.size]? = some (.cells #[.int .i64 k1, .int .i64 o1, sV n1, .int .i64 v1, .slice q m cc] 25 (0, 0)) from by rw [← hw4]; exact alloc_here _ _)
        have HX4 := Lib.hid (Ext.trans HX3.out hE4)
        have HZ4 := Lib.hid ((hE4.below.block _ (lt_of_block HZ3.out)).trans HZ3.out)
        have HA4 := Lib.hid (HA.out.ext hE4)
        rw [hw4]
        clear hw4 hE4 t0
        have KK := Lib.hid (show Gives Tryz.prog 38 #[.agg #[.int .i64 k1, .int .i64 o1, sV n1, .int .i64 v1, .slice q m cc]] w4 (.int .i64 ck) from by
          have := HCK.out w4 q cc HA4.out.at
          rw [← HM.out]; exact this)
        have y0 := cell_of (i := 0) HB4.out rfl
        have y1 := cell_of (i := 1) HB4.out rfl
        have y2 := cell_of (i := 2) HB4.out rfl
        have y3 := cell_of (i := 3) HB4.out rfl
        have y4 := cell_of (i := 4) HB4.out rfl
        go_wp2_with fail
        refine (show Gives _ _ _ _ _ from KK.out).mono ?_
        intro w5 hE
        replace hE : Ext w4 w5 := hE
        have HX := Lib.hid (Ext.trans HX4.out hE)
        have HZ := Lib.hid ((hE.below.block _ (lt_of_block HZ4.out)).trans HZ4.out)
        have HB5 := Lib.hid ((hE.below.block _ (lt_of_block HB4.out)).trans HB4.out)
        have HA5 := Lib.hid (HA4.out.ext hE)
        clear hE y0 y1 y2 y3 y4
        by_cases hc0 : ck = 0
        · subst hc0
          have HP := Lib.hid (show pr = (.mk k1 o1 n1 v1 es, 0, 0) from by rw [HPX.out]; simp)
          have y0 := cell_of (i := 0) HB5.out rfl
          have y1 := cell_of (i := 1) HB5.out rfl
          have y2 := cell_of (i := 2) HB5.out rfl
          have y3 := cell_of (i := 3) HB5.out rfl
          have y4 := cell_of (i := 4) HB5.out rfl
          have z0 := cell_of (i := 0) HZ.out rfl
          have z1 := cell_of (i := 1) HZ.out rfl
          have z2 := cell_of (i := 2) HZ.out rfl
          have z3 := cell_of (i := 3) HZ.out rfl
          have z4 := cell_of (i := 4) HZ.out rfl
          have zf : ∀ i, w5.frozen? ⟨w.heap.size, i, none⟩ = false := fun i => free_of HZ.out
          go_wp2
          clear y0 y1 y2 y3 y4
          obtain ⟨W', hW', h3, h4, h5⟩ := put5n HZ.out rfl (.int .i64 k1) (.int .i64 o1) (sV n1) (.int .i64 v1) (.slice q m cc)
          rw [hW']
          clear z0 z1 z2 z3 z4 zf
          have z0 := cell_of (i := 0) h3 rfl
          have z1 := cell_of (i := 1) h3 rfl
          have z2 := cell_of (i := 2) h3 rfl
          have z3 := cell_of (i := 3) h3 rfl
          have z4 := cell_of (i := 4) h3 rfl
          have hXW : Ext w W' := Below.trans HX.out (h4 _ (Nat.le_refl _))
          exact bodyPost_ret (v := .tuple #[.agg #[.int .i64 k1, .int .i64 o1, sV n1, .int .i64 v1, .slice q m cc], .int .i64 0, .int .i64 0]) (by simp [results, Tryz.f12, go_sem, z0, z1, z2, z3, z4]) rfl ⟨q, cc, by rw [HP.out, ← HM.out]; rfl, by rw [HP.out]; exact HA5.out.keep (fun b hb hl => ⟨Nat.le_trans HS2.out hb, h5 b (Nat.ne_of_gt (Nat.lt_of_lt_of_le (lt_of_block HZ2.out) hb))⟩), hXW⟩
        · have g1 : (ck == 0) = false := by simpa using hc0
          have g2 : (ck != 0) = true := by simpa using hc0
          have HP := Lib.hid (show pr = (exZ, 0, ck) from by rw [HPX.out, if_pos hc0])
          clear hc0
          have z0 := cell_of (i := 0) HZ.out rfl
          have z1 := cell_of (i := 1) HZ.out rfl
          have z2 := cell_of (i := 2) HZ.out rfl
          have z3 := cell_of (i := 3) HZ.out rfl
          have z4 := cell_of (i := 4) HZ.out rfl
          have zf : ∀ i, w5.frozen? ⟨w.heap.size, i, none⟩ = false := fun i => free_of HZ.out
          go_wp2
          obtain ⟨W', hW', h3, h4, h5⟩ := put5n HZ.out rfl (.int .i64 0) (.int .i64 0) (.string { data := #[] }) (.int .i64 0) (.slice none 0 0)
          rw [hW']
          clear z0 z1 z2 z3 z4 zf
          have z0 := cell_of (i := 0) h3 rfl
          have z1 := cell_of (i := 1) h3 rfl
          have z2 := cell_of (i := 2) h3 rfl
          have z3 := cell_of (i := 3) h3 rfl
          have z4 := cell_of (i := 4) h3 rfl
          have hXW : Ext w W' := Below.trans HX.out (h4 _ (Nat.le_refl _))
          exact bodyPost_ret (v := .tuple #[.agg #[.int .i64 0, .int .i64 0, .string { data := #[] }, .int .i64 0, .slice none 0 0], .int .i64 0, .int .i64 ck]) (by simp [results, Tryz.f12, go_sem, z0, z1, z2, z3, z4]) rfl ⟨none, 0, by rw [HP.out]; rfl, by rw [HP.out]; exact AtB_leaf _ _ _ exZ_fits, hXW⟩
      · have g1 : (tk == 0) = false := by simpa using hkz
        have g2 : (tk != 0) = true := by simpa using hkz
        have HP := Lib.hid (show pr = (exZ, tp, 3) from by rw [HPX.out, if_pos hkz])
        clear hkz
        go_upto_region 6 with fail
        obtain ⟨w4, hw4⟩ : ∃ W, w3.alloc (.cells #[.int .i64 k1, .int .i64 o1, sV n1, .int .i64 v1, .slice q m cc] 25) = W := ⟨_, rfl⟩
        rw [hw4]
        have hE4 : Ext w3 w4 := by rw [← hw4]; exact ext_alloc _ _
        have HX := Lib.hid (Ext.trans HX3.out hE4)
        have hz := (hE4.below.block _ (lt_of_block HZ3.out)).trans HZ3.out
        have HZ := Lib.hid hz
        replace t3 := Ext.cellE t3 hE4
        have z0 := cell_of (i := 0) hz rfl
        have z1 := cell_of (i := 1) hz rfl
        have z2 := cell_of (i := 2) hz rfl
        have z3 := cell_of (i := 3) hz rfl
        have z4 := cell_of (i := 4) hz rfl
        have zf : ∀ i, w4.frozen? ⟨w.heap.size, i, none⟩ = false := fun i => free_of hz
        have hbl := HBL.out
        clear hw4 hE4 hz
        go_region
        all_goals
          go_wp2
          obtain ⟨W', hW', h3, h4, h5⟩ := put5n HZ.out rfl (.int .i64 0) (.int .i64 0) (.string { data := #[] }) (.int .i64 0) (.slice none 0 0)
          rw [hW']
          clear z0 z1 z2 z3 z4 zf
          have z0 := cell_of (i := 0) h3 rfl
          have z1 := cell_of (i := 1) h3 rfl
          have z2 := cell_of (i := 2) h3 rfl
          have z3 := cell_of (i := 3) h3 rfl
          have z4 := cell_of (i := 4) h3 rfl
          have hXW : Ext w W' := Below.trans HX.out (h4 _ (Nat.le_refl _))
          exact bodyPost_ret (v := .tuple #[.agg #[.int .i64 0, .int .i64 0, .string { data := #[] }, .int .i64 0, .slice none 0 0], .int .i64 tp, .int .i64 3]) (by simp [results, Tryz.f12, go_sem, z0, z1, z2, z3, z4]) rfl ⟨none, 0, by rw [HP.out]; rfl, by rw [HP.out]; exact AtB_leaf _ _ _ exZ_fits, hXW.below.drew⟩
  · have HP := Lib.hid (show psR s r = (exZ, at0, er) from by unfold psR; rw [hT]; simp [he])
    obtain ⟨pr, hpr⟩ : ∃ x, psR s r = x := ⟨_, rfl⟩
    rw [hpr] at HP
    rw [hpr]
    have g1 : (er == 0) = false := by simpa using he
    have g2 : (er != 0) = true := by simpa using he
    clear hpr hT hR he
    go_enter Tryz.func12, Tryz.ntmps12
    go_wp2_with fail
    refine (show Calls _ _ _ _ _ from KT.out).mono ?_
    rintro _ w2 ⟨v, rfl, hrow, hE⟩
    dsimp only
    obtain ⟨p, c, rfl, _, _⟩ := hrow.at
    have HX := Lib.hid (Ext.trans HX1.out hE)
    have HZ := Lib.hid ((hE.below.block _ (lt_of_block HZ1.out)).trans HZ1.out)
    clear hE hrow
    have z0 := cell_of (i := 0) HZ.out rfl
    have z1 := cell_of (i := 1) HZ.out rfl
    have z2 := cell_of (i := 2) HZ.out rfl
    have z3 := cell_of (i := 3) HZ.out rfl
    have z4 := cell_of (i := 4) HZ.out rfl
    have zf : ∀ i, w2.frozen? ⟨w.heap.size, i, none⟩ = false := fun i => free_of HZ.out
    go_wp2
    obtain ⟨W', hW', h3, h4, h5⟩ := put5n HZ.out rfl (.int .i64 0) (.int .i64 0) (.string { data := #[] }) (.int .i64 0) (.slice none 0 0)
    rw [hW']
    clear z0 z1 z2 z3 z4 zf
    have z0 := cell_of (i := 0) h3 rfl
    have z1 := cell_of (i := 1) h3 rfl
    have z2 := cell_of (i := 2) h3 rfl
    have z3 := cell_of (i := 3) h3 rfl
    have z4 := cell_of (i := 4) h3 rfl
    have hXW : Ext w W' := Below.trans HX.out (h4 _ (Nat.le_refl _))
    exact bodyPost_ret (v := .tuple #[.agg #[.int .i64 0, .int .i64 0, .string { data := #[] }, .int .i64 0, .slice none 0 0], .int .i64 at0, .int .i64 er]) (by simp [results, Tryz.f12, go_sem, z0, z1, z2, z3, z4]) rfl ⟨none, 0, by rw [HP.out]; rfl, by rw [HP.out]; exact AtB_leaf _ _ _ exZ_fits, hXW⟩
end Go.Proofs.YtmokejjndkibhaaGreatDoor

namespace Go.Proofs.YtmokejjndkibhaaGreatDoor
open Go.RowKit Go.Shelf Ex
set_option linter.unusedVariables false
set_option linter.unusedSimpArgs false

theorem psR_ok (s : List UInt8) (r : Res) : (psR s r).1.chk = 0 ∨ (psR s r).1 = exZ := by
  unfold psR
  split
  · exact .inr rfl
  · unfold psL
    split
    · exact .inr rfl
    · split
      · exact .inr rfl
      · split
        · exact .inr rfl
        · rename_i h; exact .inl (by simpa using h)
/-- SameExpr of the same tree twice: an expression that is valid, or the zero expression -/
theorem SameA_any (x : Ex) (hx : x.chk = 0 ∨ x = exZ) (p q : Option Addr) (c d : Nat) (w : World) (hA : Ex.At w p x) (hB : Ex.At w q x) : Gives Tryz.prog 13 #[x.val p c, x.val q d] w (.bool true) := by
  rcases hx with h | rfl
  · exact SameX_any x h p q c d w hA hB
  · exact SameZ_any p q c d w
set_option maxRecDepth 100000 in
set_option maxHeartbeats 4000000 in
theorem lexerParse_walk (a0 : ByteArray) (w : World) (h0 : a0.size ≤ 140737488351232) (hTab : TabW w) (hM : MaxL w) : Gives Tryz.prog 3 #[.string a0] w (.bool true) := by
  obtain ⟨s, rfl⟩ := sB_of a0
  have hsz := sB_size s
  have KA := Lib.hid (fun W (hW : Ext w W) => lxAwake_any W (hTab.below hW) (hM.ext hW))
  unfold Gives
  by_cases hl : 400 < s.length
  · clear hTab hM
    go_enter Tryz.func3, Tryz.ntmps3
    go_wp2_with fail
    refine (KA.out _ (Below.refl _ _)).mono ?_
    intro w1 hE
    go_wp2
    go_ret
    exact ⟨rfl, hE⟩
  · obtain ⟨r, hrd⟩ := Rd.all (toksR s).1
    have K1 := Lib.hid (Parse_any s w (by omega) hTab hM r (fun _ => hrd))
    have K3 := Lib.hid (fun W => rfParse_any s W (by omega) r (fun _ => hrd))
    have HOK := Lib.hid (psR_ok s r)
    clear hTab hM hrd
    generalize psR s r = P1 at *
    obtain ⟨x1, p1, e1⟩ := P1
    dsimp only at K1 K3 HOK
    obtain ⟨k1, o1, n1, v1, es⟩ := x1
    dsimp only [Ex.val, Ex.kind, Ex.op, Ex.name, Ex.value, Ex.args] at K1 K3
    obtain ⟨m, hm⟩ : ∃ m, es.length = m := ⟨_, rfl⟩
    rw [hm] at K1 K3
    have HM := Lib.hid hm
    clear hm
    go_enter Tryz.func3, Tryz.ntmps3
    go_wp2_with fail
    refine (show Calls _ _ _ _ _ from K1.out).mono ?_
    rintro _ w1 ⟨q1, c1, rfl, hA1, hE1⟩
    dsimp only
    have HA1 := Lib.hid hA1
    have HE1 := Lib.hid hE1
    clear hA1 hE1
    have HX2 := Lib.hid (ext_alloc w1 (.cells #[.int .i64 k1, .int .i64 o1, sV n1, .int .i64 v1, .slice q1 m c1] 25))
    have HB2 := Lib.hid (alloc_here w1 (.cells #[.int .i64 k1, .int .i64 o1, sV n1, .int .i64 v1, .slice q1 m c1] 25))
    go_wp2_with fail
    refine (show Calls _ _ _ _ _ from K3.out _).mono ?_
    rintro _ w3 ⟨q2, c2, rfl, hA3, hE3⟩
    dsimp only
    have HE3 := Lib.hid (Ext.trans HX2.out hE3)
    have HB3 := Lib.hid ((hE3.below.block _ (lt_of_block HB2.out)).trans HB2.out)
    have HA3 := Lib.hid hA3
    clear hE3 hA3
    have HX4 := Lib.hid (ext_alloc w3 (.cells #[.int .i64 k1, .int .i64 o1, sV n1, .int .i64 v1, .slice q2 m c2] 25))
    have hb4 := alloc_here w3 (.cells #[.int .i64 k1, .int .i64 o1, sV n1, .int .i64 v1, .slice q2 m c2] 25)
    have hc4 := (HX4.out.below.block _ (lt_of_block HB3.out)).trans HB3.out
    have KE := Lib.hid (fun W (hW : Ext (w3.alloc (.cells #[.int .i64 k1, .int .i64 o1, sV n1, .int .i64 v1, .slice q2 m c2] 25)) W) => (show Gives Tryz.prog 13 #[.agg #[.int .i64 k1, .int .i64 o1, sV n1, .int .i64 v1, .slice q1 m c1], .agg #[.int .i64 k1, .int .i64 o1, sV n1, .int .i64 v1, .slice q2 m c2]] W (.bool true) from by
      have := SameA_any (.mk k1 o1 n1 v1 es) HOK.out q1 q2 c1 c2 W (HA1.out.at.below (Ext.trans HE3.out (Ext.trans HX4.out hW))) (HA3.out.at.below (Ext.trans HX4.out hW))
      rw [← HM.out]
      exact this))
    have z0 := cell_of (i := 0) hb4 rfl
    have z1 := cell_of (i := 1) hb4 rfl
    have z2 := cell_of (i := 2) hb4 rfl
    have z3 := cell_of (i := 3) hb4 rfl
    have z4 := cell_of (i := 4) hb4 rfl
    have y0 := cell_of (i := 0) hc4 rfl
    have y1 := cell_of (i := 1) hc4 rfl
    have y2 := cell_of (i := 2) hc4 rfl
    have y3 := cell_of (i := 3) hc4 rfl
    have y4 := cell_of (i := 4) hc4 rfl
    clear hb4 hc4
    go_wp2_with fail
    refine (KE.out _ (Below.refl _ _)).mono ?_
    intro w5 hE5
    have HE5 := Lib.hid (Ext.trans HE1.out (Ext.trans HE3.out (Ext.trans HX4.out hE5)))
    clear hE5 z0 z1 z2 z3 z4 y0 y1 y2 y3 y4
    go_wp2_with fail
    refine (KA.out _ HE5.out).mono ?_
    intro w6 hE6
    have HE6 := Lib.hid (Ext.trans HE5.out hE6)
    clear hE6
    go_wp2
    go_ret
    exact ⟨rfl, HE6.out⟩
end Go.Proofs.YtmokejjndkibhaaGreatDoor

namespace Go.Proofs.YtmokejjndkibhaaGreatDoor
open Go.RowKit Go.Shelf Ex
set_option linter.unusedVariables false
set_option linter.unusedSimpArgs false

/-- what Expr gives, if reading the tokens gives r -/
def exR : Res → Ex × Int × Int
  | .bad n => (exZ, (n : Int), 3)
  | .ok x n => if x.chk ≠ 0 then (exZ, 0, x.chk) else (x, (n : Int), 0)
set_option maxRecDepth 100000 in
set_option maxHeartbeats 4000000 in
theorem Expr_any (l : List Tk) (p : Option Addr) (c : Nat) (w : World) (hT : TkRow w p l) (hl : l.length ≤ 4001) (hc : l.length ≤ c) (hX : ∀ t ∈ l, t.text.length ≤ 140737488351232) (hTab : TabW w) (hM : MaxL w) (r : Res) (hR : Rd l (.bin 1) 0 r) :
    Calls Tryz.prog 17 #[.slice p l.length c] w fun e w' => ∃ q cc, e = .returned (.tuple #[(exR r).1.val q cc, .int .i64 (exR r).2.1, .int .i64 (exR r).2.2]) ∧ AtB (w.heap.size ≤ ·) w' q (exR r).1 ∧ Ext w w' := by
  have HX1 := Lib.hid (ext_alloc w rd0)
  have HZ1 := Lib.hid (alloc_here w rd0)
  have KR := Lib.hid (fun W (hW : Ext w W) => read_any l p c W (hT.ext hW) (by omega) hc hX (hTab.below hW) (hM.ext hW) r hR)
  obtain ⟨pr, hpr⟩ : ∃ x, exR r = x := ⟨_, rfl⟩
  rw [hpr]
  have HP := Lib.hid hpr
  obtain ⟨n, hn⟩ : ∃ n, l.length = n := ⟨_, rfl⟩
  rw [hn] at KR hl
  rw [hn]
  clear hpr hT hR hn hX hTab hM hc
  cases r with
  | bad k =>
    replace HP := Lib.hid (show pr = (exZ, (k : Int), 3) from HP.out.symm)
    go_enter Tryz.func17, Tryz.ntmps17
    go_wp2_with fail
    refine (show Calls _ _ _ _ _ from KR.out _ HX1.out).mono ?_
    rintro _ w3 ⟨rfl, hE3⟩
    dsimp only [Ex.val, exZ, Ex.kind, Ex.op, Ex.name, Ex.value, Ex.args, List.length_nil]
    have HX3 := Lib.hid (Ext.trans HX1.out hE3)
    have HZ3 := Lib.hid ((hE3.below.block _ (lt_of_block HZ1.out)).trans HZ1.out)
    clear hE3
    go_upto_region 4 with fail
    obtain ⟨w4, hw4⟩ : ∃ W, w3.alloc (.cells #[.int .i64 0, .int .i64 0, sV [], .int .i64 0, .slice none 0 0] 25) = W := ⟨_, rfl⟩
    have hE4 : Ext w3 w4 := by rw [← hw4]; exact ext_alloc _ _
    have HX := Lib.hid (Ext.trans HX3.out hE4)
    have HZ := Lib.hid ((hE4.below.block _ (lt_of_block HZ3.out)).trans HZ3.out)
    first | rw [hw4] | (simp only [sV_nil] at hw4 ⊢; rw [hw4])
    clear hw4 hE4
    have z0 := cell_of (i := 0) HZ.out rfl
    have z1 := cell_of (i := 1) HZ.out rfl
    have z2 := cell_of (i := 2) HZ.out rfl
    have z3 := cell_of (i := 3) HZ.out rfl
    have z4 := cell_of (i := 4) HZ.out rfl
    have zf : ∀ i, w4.frozen? ⟨w.heap.size, i, none⟩ = false := fun i => free_of HZ.out
    go_wp2
    obtain ⟨W', hW', h3, h4, h5⟩ := put5n HZ.out rfl (.int .i64 0) (.int .i64 0) (.string { data := #[] }) (.int .i64 0) (.slice none 0 0)
    rw [hW']
    clear z0 z1 z2 z3 z4 zf
    have z0 := cell_of (i := 0) h3 rfl
    have z1 := cell_of (i := 1) h3 rfl
    have z2 := cell_of (i := 2) h3 rfl
    have z3 := cell_of (i := 3) h3 rfl
    have z4 := cell_of (i := 4) h3 rfl
    have hXW : Ext w W' := Below.trans HX.out (h4 _ (Nat.le_refl _))
    exact bodyPost_ret (v := .tuple #[.agg #[.int .i64 0, .int .i64 0, .string { data := #[] }, .int .i64 0, .slice none 0 0], .int .i64 (k : Int), .int .i64 3]) (by simp [results, Tryz.f17, go_sem, z0, z1, z2, z3, z4]) rfl ⟨none, 0, by rw [HP.out]; rfl, by rw [HP.out]; exact AtB_leaf _ _ _ exZ_fits, hXW⟩
  | ok x k =>
    have HCK := Lib.hid (fun W q cc (hA : Ex.At W q x) => Check_any x q cc W hA)
    have HPX := Lib.hid (show pr = if x.chk ≠ 0 then (exZ, 0, x.chk) else (x, (k : Int), 0) from HP.out.symm)
    clear HP
    obtain ⟨ck, hck⟩ : ∃ c, x.chk = c := ⟨_, rfl⟩
    rw [hck] at HPX HCK
    clear hck
    obtain ⟨k1, o1, n1, v1, es⟩ := x
    go_enter Tryz.func17, Tryz.ntmps17
    go_wp2_with fail
    refine (show Calls _ _ _ _ _ from KR.out _ HX1.out).mono ?_
    rintro _ w3 ⟨q, cc, rfl, hA, hE3⟩
    dsimp only [Ex.val, Ex.kind, Ex.op, Ex.name, Ex.value, Ex.args]
    obtain ⟨m, hm⟩ : ∃ m, es.length = m := ⟨_, rfl⟩
    rw [hm]
    have HM := Lib.hid hm
    have HA := Lib.hid hA
    have HX3 := Lib.hid (Ext.trans HX1.out hE3)
    have HS1 := Lib.hid HX1.out.size
    have HZ3 := Lib.hid ((hE3.below.block _ (lt_of_block HZ1.out)).trans HZ1.out)
    clear hE3 hA hm
    go_upto_region 4 with fail
    obtain ⟨w4, hw4⟩ : ∃ W, w3.alloc (.cells #[.int .i64 k1, .int .i64 o1, sV n1, .int .i64 v1, .slice q m cc] 25) = W := ⟨_, rfl⟩
    have hE4 : Ext w3 w4 := by rw [← hw4]; exact ext_alloc _ _
    have HB4 := Lib.hid (show w4.heap[w3.heap.size]? = some (.cells #[.int .i64 k1, .int .i64 o1, sV n1, .int .i64 v1, .slice q m cc] 25 (0, 0)) from by rw [← hw4]; exact alloc_here _ _)
    have HX4 := Lib.hid (Ext.trans HX3.out hE4)
    have HZ4 := Lib.hid ((hE4.below.block _ (lt_of_block HZ3.out)).trans HZ3.out)
    have HA4 := Lib.hid (HA.out.ext hE4)
    rw [hw4]
    clear hw4 hE4
    have KK := Lib.hid (show Gives Tryz.prog 36 #[.agg #[.int .i64 k1, .int .i64 o1, sV n1, .int .i64 v1, .slice q m cc]] w4 (.int .i64 ck) from by
      have := HCK.out w4 q cc HA4.out.at
      rw [← HM.out]; exact this)
    have y0 := cell_of (i := 0) HB4.out rfl
    have y1 := cell_of (i := 1) HB4.out rfl
    have y2 := cell_of (i := 2) HB4.out rfl
    have y3 := cell_of (i := 3) HB4.out rfl
    have y4 := cell_of (i := 4) HB4.out rfl
    go_wp2_with fail
    refine (show Gives _ _ _ _ _ from KK.out).mono ?_
    intro w5 hE
    replace hE : Ext w4 w5 := hE
    have HX := Lib.hid (Ext.trans HX4.out hE)
    have HZ := Lib.hid ((hE.below.block _ (lt_of_block HZ4.out)).trans HZ4.out)
    have HB5 := Lib.hid ((hE.below.block _ (lt_of_block HB4.out)).trans HB4.out)
    have HA5 := Lib.hid (HA4.out.ext hE)
    clear hE y0 y1 y2 y3 y4
    by_cases hc0 : ck = 0
    · subst hc0
      have HP := Lib.hid (show pr = (.mk k1 o1 n1 v1 es, (k : Int), 0) from by rw [HPX.out]; simp)
      have y0 := cell_of (i := 0) HB5.out rfl
      have y1 := cell_of (i := 1) HB5.out rfl
      have y2 := cell_of (i := 2) HB5.out rfl
      have y3 := cell_of (i := 3) HB5.out rfl
      have y4 := cell_of (i := 4) HB5.out rfl
      have z0 := cell_of (i := 0) HZ.out rfl
      have z1 := cell_of (i := 1) HZ.out rfl
      have z2 := cell_of (i := 2) HZ.out rfl
      have z3 := cell_of (i := 3) HZ.out rfl
      have z4 := cell_of (i := 4) HZ.out rfl
      have zf : ∀ i, w5.frozen? ⟨w.heap.size, i, none⟩ = false := fun i => free_of HZ.out
      go_wp2
      clear y0 y1 y2 y3 y4
      obtain ⟨W', hW', h3, h4, h5⟩ := put5n HZ.out rfl (.int .i64 k1) (.int .i64 o1) (sV n1) (.int .i64 v1) (.slice q m cc)
      rw [hW']
      clear z0 z1 z2 z3 z4 zf
      have z0 := cell_of (i := 0) h3 rfl
      have z1 := cell_of (i := 1) h3 rfl
      have z2 := cell_of (i := 2) h3 rfl
      have z3 := cell_of (i := 3) h3 rfl
      have z4 := cell_of (i := 4) h3 rfl
      have hXW : Ext w W' := Below.trans HX.out (h4 _ (Nat.le_refl _))
      exact bodyPost_ret (v := .tuple #[.agg #[.int .i64 k1, .int .i64 o1, sV n1, .int .i64 v1, .slice q m cc], .int .i64 (k : Int), .int .i64 0]) (by simp [results, Tryz.f17, go_sem, z0, z1, z2, z3, z4]) rfl ⟨q, cc, by rw [HP.out, ← HM.out]; rfl, by rw [HP.out]; exact HA5.out.keep (fun b hb hl => ⟨Nat.le_trans HS1.out hb, h5 b (Nat.ne_of_gt (Nat.lt_of_lt_of_le (lt_of_block HZ1.out) hb))⟩), hXW⟩
    · have g1 : (ck == 0) = false := by simpa using hc0
      have g2 : (ck != 0) = true := by simpa using hc0
      have HP := Lib.hid (show pr = (exZ, 0, ck) from by rw [HPX.out, if_pos hc0])
      clear hc0
      have z0 := cell_of (i := 0) HZ.out rfl
      have z1 := cell_of (i := 1) HZ.out rfl
      have z2 := cell_of (i := 2) HZ.out rfl
      have z3 := cell_of (i := 3) HZ.out rfl
      have z4 := cell_of (i := 4) HZ.out rfl
      have zf : ∀ i, w5.frozen? ⟨w.heap.size, i, none⟩ = false := fun i => free_of HZ.out
      go_wp2
      obtain ⟨W', hW', h3, h4, h5⟩ := put5n HZ.out rfl (.int .i64 0) (.int .i64 0) (.string { data := #[] }) (.int .i64 0) (.slice none 0 0)
      rw [hW']
      clear z0 z1 z2 z3 z4 zf
      have z0 := cell_of (i := 0) h3 rfl
      have z1 := cell_of (i := 1) h3 rfl
      have z2 := cell_of (i := 2) h3 rfl
      have z3 := cell_of (i := 3) h3 rfl
      have z4 := cell_of (i := 4) h3 rfl
      have hXW : Ext w W' := Below.trans HX.out (h4 _ (Nat.le_refl _))
      exact bodyPost_ret (v := .tuple #[.agg #[.int .i64 0, .int .i64 0, .string { data := #[] }, .int .i64 0, .slice none 0 0], .int .i64 0, .int .i64 ck]) (by simp [results, Tryz.f17, go_sem, z0, z1, z2, z3, z4]) rfl ⟨none, 0, by rw [HP.out]; rfl, by rw [HP.out]; exact AtB_leaf _ _ _ exZ_fits, hXW⟩
set_option maxRecDepth 100000 in
set_option maxHeartbeats 4000000 in
theorem rfExpr_any (l : List Tk) (p : Option Addr) (c : Nat) (w : World) (hT : TkRow w p l) (hl : l.length ≤ 4001) (hX : ∀ t ∈ l, t.text.length ≤ 140737488351232) (r : Res) (hR : Rd l (.bin 1) 0 r) :
    Calls Tryz.prog 18 #[.slice p l.length c] w fun e w' => ∃ q cc, e = .returned (.tuple #[(exR r).1.val q cc, .int .i64 (exR r).2.1, .int .i64 (exR r).2.2]) ∧ AtB (w.heap.size ≤ ·) w' q (exR r).1 ∧ Ext w w' := by
  have HX1 := Lib.hid (ext_alloc w rd0)
  have HZ1 := Lib.hid (alloc_here w rd0)
  have KR := Lib.hid (fun W (hW : Ext w W) => rfRead_any l p c W (hT.ext hW) (by omega) hX r hR)
  obtain ⟨pr, hpr⟩ : ∃ x, exR r = x := ⟨_, rfl⟩
  rw [hpr]
  have HP := Lib.hid hpr
  obtain ⟨n, hn⟩ : ∃ n, l.length = n := ⟨_, rfl⟩
  rw [hn] at KR hl
  rw [hn]
  clear hpr hT hR hn hX
  cases r with
  | bad k =>
    replace HP := Lib.hid (show pr = (exZ, (k : Int), 3) from HP.out.symm)
    go_enter Tryz.func18, Tryz.ntmps18
    go_wp2_with fail
    refine (show Calls _ _ _ _ _ from KR.out _ HX1.out).mono ?_
    rintro _ w3 ⟨hE3, rfl⟩
    dsimp only [Ex.val, exZ, Ex.kind, Ex.op, Ex.name, Ex.value, Ex.args, List.length_nil]
    have HX3 := Lib.hid (Ext.trans HX1.out hE3)
    have HZ3 := Lib.hid ((hE3.below.block _ (lt_of_block HZ1.out)).trans HZ1.out)
    clear hE3
    go_upto_region 4 with fail
    obtain ⟨w4, hw4⟩ : ∃ W, w3.alloc (.cells #[.int .i64 0, .int .i64 0, sV [], .int .i64 0, .slice none 0 0] 25) = W := ⟨_, rfl⟩
    have hE4 : Ext w3 w4 := by rw [← hw4]; exact ext_alloc _ _
    have HX := Lib.hid (Ext.trans HX3.out hE4)
    have HZ := Lib.hid ((hE4.below.block _ (lt_of_block HZ3.out)).trans HZ3.out)
    first | rw [hw4] | (simp only [sV_nil] at hw4 ⊢; rw [hw4])
    clear hw4 hE4
    have z0 := cell_of (i := 0) HZ.out rfl
    have z1 := cell_of (i := 1) HZ.out rfl
    have z2 := cell_of (i := 2) HZ.out rfl
    have z3 := cell_of (i := 3) HZ.out rfl
    have z4 := cell_of (i := 4) HZ.out rfl
    have zf : ∀ i, w4.frozen? ⟨w.heap.size, i, none⟩ = false := fun i => free_of HZ.out
    go_wp2
    obtain ⟨W', hW', h3, h4, h5⟩ := put5n HZ.out rfl (.int .i64 0) (.int .i64 0) (.string { data := #[] }) (.int .i64 0) (.slice none 0 0)
    rw [hW']
    clear z0 z1 z2 z3 z4 zf
    have z0 := cell_of (i := 0) h3 rfl
    have z1 := cell_of (i := 1) h3 rfl
    have z2 := cell_of (i := 2) h3 rfl
    have z3 := cell_of (i := 3) h3 rfl
    have z4 := cell_of (i := 4) h3 rfl
    have hXW : Ext w W' := Below.trans HX.out (h4 _ (Nat.le_refl _))
    exact bodyPost_ret (v := .tuple #[.agg #[.int .i64 0, .int .i64 0, .string { data := #[] }, .int .i64 0, .slice none 0 0], .int .i64 (k : Int), .int .i64 3]) (by simp [results, Tryz.f18, go_sem, z0, z1, z2, z3, z4]) rfl ⟨none, 0, by rw [HP.out]; rfl, by rw [HP.out]; exact AtB_leaf _ _ _ exZ_fits, hXW⟩
  | ok x k =>
    have HCK := Lib.hid (fun W q cc (hA : Ex.At W q x) => refChk_any x q cc W hA)
    have HPX := Lib.hid (show pr = if x.chk ≠ 0 then (exZ, 0, x.chk) else (x, (k : Int), 0) from HP.out.symm)
    clear HP
    obtain ⟨ck, hck⟩ : ∃ c, x.chk = c := ⟨_, rfl⟩
    rw [hck] at HPX HCK
    clear hck
    obtain ⟨k1, o1, n1, v1, es⟩ := x
    go_enter Tryz.func18, Tryz.ntmps18
    go_wp2_with fail
    refine (show Calls _ _ _ _ _ from KR.out _ HX1.out).mono ?_
    rintro _ w3 ⟨hE3, q, cc, rfl, hA⟩
    dsimp only [Ex.val, Ex.kind, Ex.op, Ex.name, Ex.value, Ex.args]
    obtain ⟨m, hm⟩ : ∃ m, es.length = m := ⟨_, rfl⟩
    rw [hm]
    have HM := Lib.hid hm
    have HA := Lib.hid hA
    have HX3 := Lib.hid (Ext.trans HX1.out hE3)
    have HS1 := Lib.hid HX1.out.size
    have HZ3 := Lib.hid ((hE3.below.block _ (lt_of_block HZ1.out)).trans HZ1.out)
    clear hE3 hA hm
    go_upto_region 4 with fail
    obtain ⟨w4, hw4⟩ : ∃ W, w3.alloc (.cells #[.int .i64 k1, .int .i64 o1, sV n1, .int .i64 v1, .slice q m cc] 25) = W := ⟨_, rfl⟩
    have hE4 : Ext w3 w4 := by rw [← hw4]; exact ext_alloc _ _
    have HB4 := Lib.hid (show w4.heap[w3.heap.size]? = some (.cells #[.int .i64 k1, .int .i64 o1, sV n1, .int .i64 v1, .slice q m cc] 25 (0, 0)) from by rw [← hw4]; exact alloc_here _ _)
    have HX4 := Lib.hid (Ext.trans HX3.out hE4)
    have HZ4 := Lib.hid ((hE4.below.block _ (lt_of_block HZ3.out)).trans HZ3.out)
    have HA4 := Lib.hid (HA.out.ext hE4)
    rw [hw4]
    clear hw4 hE4
    have KK := Lib.hid (show Gives Tryz.prog 38 #[.agg #[.int .i64 k1, .int .i64 o1, sV n1, .int .i64 v1, .slice q m cc]] w4 (.int .i64 ck) from by
      have := HCK.out w4 q cc HA4.out.at
      rw [← HM.out]; exact this)
    have y0 := cell_of (i := 0) HB4.out rfl
    have y1 := cell_of (i := 1) HB4.out rfl
    have y2 := cell_of (i := 2) HB4.out rfl
    have y3 := cell_of (i := 3) HB4.out rfl
    have y4 := cell_of (i := 4) HB4.out rfl
    go_wp2_with fail
    refine (show Gives _ _ _ _ _ from KK.out).mono ?_
    intro w5 hE
    replace hE : Ext w4 w5 := hE
    have HX := Lib.hid (Ext.trans HX4.out hE)
    have HZ := Lib.hid ((hE.below.block _ (lt_of_block HZ4.out)).trans HZ4.out)
    have HB5 := Lib.hid ((hE.below.block _ (lt_of_block HB4.out)).trans HB4.out)
    have HA5 := Lib.hid (HA4.out.ext hE)
    clear hE y0 y1 y2 y3 y4
    by_cases hc0 : ck = 0
    · subst hc0
      have HP := Lib.hid (show pr = (.mk k1 o1 n1 v1 es, (k : Int), 0) from by rw [HPX.out]; simp)
      have y0 := cell_of (i := 0) HB5.out rfl
      have y1 := cell_of (i := 1) HB5.out rfl
      have y2 := cell_of (i := 2) HB5.out rfl
      have y3 := cell_of (i := 3) HB5.out rfl
      have y4 := cell_of (i := 4) HB5.out rfl
      have z0 := cell_of (i := 0) HZ.out rfl
      have z1 := cell_of (i := 1) HZ.out rfl
      have z2 := cell_of (i := 2) HZ.out rfl
      have z3 := cell_of (i := 3) HZ.out rfl
      have z4 := cell_of (i := 4) HZ.out rfl
      have zf : ∀ i, w5.frozen? ⟨w.heap.size, i, none⟩ = false := fun i => free_of HZ.out
      go_wp2
      clear y0 y1 y2 y3 y4
      obtain ⟨W', hW', h3, h4, h5⟩ := put5n HZ.out rfl (.int .i64 k1) (.int .i64 o1) (sV n1) (.int .i64 v1) (.slice q m cc)
      rw [hW']
      clear z0 z1 z2 z3 z4 zf
      have z0 := cell_of (i := 0) h3 rfl
      have z1 := cell_of (i := 1) h3 rfl
      have z2 := cell_of (i := 2) h3 rfl
      have z3 := cell_of (i := 3) h3 rfl
      have z4 := cell_of (i := 4) h3 rfl
      have hXW : Ext w W' := Below.trans HX.out (h4 _ (Nat.le_refl _))
      exact bodyPost_ret (v := .tuple #[.agg #[.int .i64 k1, .int .i64 o1, sV n1, .int .i64 v1, .slice q m cc], .int .i64 (k : Int), .int .i64 0]) (by simp [results, Tryz.f18, go_sem, z0, z1, z2, z3, z4]) rfl ⟨q, cc, by rw [HP.out, ← HM.out]; rfl, by rw [HP.out]; exact HA5.out.keep (fun b hb hl => ⟨Nat.le_trans HS1.out hb, h5 b (Nat.ne_of_gt (Nat.lt_of_lt_of_le (lt_of_block HZ1.out) hb))⟩), hXW⟩
    · have g1 : (ck == 0) = false := by simpa using hc0
      have g2 : (ck != 0) = true := by simpa using hc0
      have HP := Lib.hid (show pr = (exZ, 0, ck) from by rw [HPX.out, if_pos hc0])
      clear hc0
      have z0 := cell_of (i := 0) HZ.out rfl
      have z1 := cell_of (i := 1) HZ.out rfl
      have z2 := cell_of (i := 2) HZ.out rfl
      have z3 := cell_of (i := 3) HZ.out rfl
      have z4 := cell_of (i := 4) HZ.out rfl
      have zf : ∀ i, w5.frozen? ⟨w.heap.size, i, none⟩ = false := fun i => free_of HZ.out
      go_wp2
      obtain ⟨W', hW', h3, h4, h5⟩ := put5n HZ.out rfl (.int .i64 0) (.int .i64 0) (.string { data := #[] }) (.int .i64 0) (.slice none 0 0)
      rw [hW']
      clear z0 z1 z2 z3 z4 zf
      have z0 := cell_of (i := 0) h3 rfl
      have z1 := cell_of (i := 1) h3 rfl
      have z2 := cell_of (i := 2) h3 rfl
      have z3 := cell_of (i := 3) h3 rfl
      have z4 := cell_of (i := 4) h3 rfl
      have hXW : Ext w W' := Below.trans HX.out (h4 _ (Nat.le_refl _))
      exact bodyPost_ret (v := .tuple #[.agg #[.int .i64 0, .int .i64 0, .string { data := #[] }, .int .i64 0, .slice none 0 0], .int .i64 0, .int .i64 ck]) (by simp [results, Tryz.f18, go_sem, z0, z1, z2, z3, z4]) rfl ⟨none, 0, by rw [HP.out]; rfl, by rw [HP.out]; exact AtB_leaf _ _ _ exZ_fits, hXW⟩
end Go.Proofs.YtmokejjndkibhaaGreatDoor

namespace Go.Proofs.YtmokejjndkibhaaGreatDoor
open Go.RowKit Go.ChangeShapes Go.WideShapes Go.Deep Go.Joins
set_option linter.unusedVariables false
set_option linter.unusedSimpArgs false

theorem tkCells1 : Tryz.prog.cellsOf 36 = 4 := by kernel_rfl
/-- tokens that came in: where they lie, how much room, how long their texts -/
def TkIn (W : World) (p : Option Addr) (c : Nat) (l : List Tk) : Prop := TkRow W p l ∧ l.length ≤ c ∧ ∀ t ∈ l, t.text.length ≤ 140737488351232
set_option maxRecDepth 100000 in
theorem open_tks {H : Type} {enc : TypeId × Value → H} {W : World} {base : Nat} {sp : Nat → Bool} {hd : Bool} {a0 : Option Addr} {len0 cap0 : Nat} {d : DataW H} {ps : List MemPlace}
    (h : DataW.Trod enc Tryz.prog W base sp hd 31 (.slice a0 len0 cap0) d ps) (hw : ∀ n ∈ d.weights Tryz.prog 31, n ≤ reachBytes) : ∃ l : List Tk, len0 = l.length ∧ TkIn W a0 cap0 l := by
  obtain ⟨fuel, h⟩ := h
  rcases DataW.trod_slice Tryz.underlying31 h with ⟨hc, he⟩ | ⟨a, len, cap, elems, rest, n', hn', hc, he, hb, hl, hm, hel, hat, _, _⟩
  · obtain ⟨rfl, rfl⟩ := Prod.mk.inj he
    simp [Value.cells] at hc
    obtain ⟨rfl, rfl, rfl⟩ := hc
    exact ⟨[], rfl, fun i hi => absurd hi (Nat.not_lt_zero _), Nat.le_refl _, fun t ht => by cases ht⟩
  · obtain ⟨rfl, rfl⟩ := Prod.mk.inj he
    simp [Value.cells] at hc
    obtain ⟨rfl, rfl, rfl⟩ := hc
    have hE : ∀ i, i < len0 → ∃ b : Tk, b.text.length ≤ 140737488351232 ∧ W.cell? (a.add (i * 4 + 0)) = some (.int .i64 b.kind) ∧ W.cell? (a.add (i * 4 + 1)) = some (sV b.text) ∧ W.cell? (a.add (i * 4 + 2)) = some (.int .i64 b.val) ∧ W.cell? (a.add (i * 4 + 3)) = some (.int .i64 b.pos) := by
      intro i hi
      have hx := hat i hi
      rw [tkCells1, List.getElem?_eq_getElem (by omega)] at hx
      obtain ⟨cs', hcs, hx⟩ := Option.bind_eq_some_iff.1 hx
      have hwe : ∀ m ∈ (elems[i]'(by omega)).1.weights Tryz.prog 36, m ≤ reachBytes := fun m hm => hw m (by
        simp only [DataW.weights, Tryz.underlying31, List.mem_cons, List.mem_append]
        exact .inr (.inl (weights_all_mem (List.mem_map.2 ⟨_, List.getElem_mem (by omega), rfl⟩) m hm)))
      obtain ⟨xs, n, hn, hxe, hl, hlen, hf⟩ := DataW.trod_struct Tryz.underlying36 hx
      rw [hxe] at hwe
      rw [tkCells1] at hl
      match cs', hl, xs, hlen, hcs with
      | [c0, c1, c2, c3], _, [y0, y1, y2, y3], _, hcs =>
        have h0 : DataW.trod enc Tryz.prog W base sp hd n 3 [c0] = some y0 := by simpa [intCells] using hf 0 _ rfl
        have h1 : DataW.trod enc Tryz.prog W base sp hd n 9 [c1] = some y1 := by simpa [strCells1, intCells] using hf 1 _ rfl
        have h2 : DataW.trod enc Tryz.prog W base sp hd n 3 [c2] = some y2 := by simpa [strCells1, intCells] using hf 2 _ rfl
        have h3 : DataW.trod enc Tryz.prog W base sp hd n 3 [c3] = some y3 := by simpa [strCells1, intCells] using hf 3 _ rfl
        simp only [DataW.weights, Tryz.underlying36, List.map_cons, List.map_nil, DataW.weightsEach, List.mem_append] at hwe
        obtain ⟨k, hk, rfl, wk⟩ := DataW.trod_int Tryz.underlying3 h0
        obtain ⟨s, hs, rfl, ws⟩ := DataW.trod_string Tryz.underlying9 h1
        obtain ⟨t, ht, rfl, wt⟩ := DataW.trod_int Tryz.underlying3 h2
        obtain ⟨v, hv, rfl, wv⟩ := DataW.trod_int Tryz.underlying3 h3
        cases hk; cases ht; cases hs; cases hv
        obtain ⟨nm, rfl⟩ := sB_of s
        rw [sB_data] at hwe
        have hnm : nm.length ≤ reachBytes := hwe _ (.inr (.inl (by simp [DataW.weights])))
        have hnm : nm.length ≤ 140737488351232 := by unfold reachBytes at hnm; omega
        refine ⟨⟨k, nm, t, v⟩, hnm, ?_, ?_, ?_, ?_⟩
        · rw [← Go.Deep.add_add]; exact cells_at hcs 0 _ (by omega) rfl
        · rw [← Go.Deep.add_add]; exact cells_at hcs 1 _ (by omega) rfl
        · rw [← Go.Deep.add_add]; exact cells_at hcs 2 _ (by omega) rfl
        · rw [← Go.Deep.add_add]; exact cells_at hcs 3 _ (by omega) rfl
    haveI : Inhabited Tk := ⟨⟨0, [], 0, 0⟩⟩
    obtain ⟨f, hf⟩ := choose_lt hE
    refine ⟨(List.range len0).map f, by simp, ?_, by simpa using hl, ?_⟩
    · intro j hj
      have hj' : j < len0 := by simpa using hj
      obtain ⟨_, g1, g2, g3, g4⟩ := hf j hj'
      have ha : a = ⟨a.block, a.off, none⟩ := add_zero (hf 0 (by omega)).2.1
      refine ⟨a.block, a.off, congrArg some ha, ?_⟩
      simp only [List.getElem_map, List.getElem_range]
      exact ⟨add_cell g1, add_cell g2, add_cell g3, add_cell g4⟩
    · intro b hb
      obtain ⟨i, hi, rfl⟩ := List.mem_map.1 hb
      exact (hf i (List.mem_range.1 hi)).1
end Go.Proofs.YtmokejjndkibhaaGreatDoor

namespace Go.Proofs.YtmokejjndkibhaaGreatDoor
open Go.RowKit Go.Shelf Ex
set_option linter.unusedVariables false
set_option linter.unusedSimpArgs false

theorem exR_ok (r : Res) : (exR r).1.chk = 0 ∨ (exR r).1 = exZ := by
  unfold exR
  split
  · exact .inr rfl
  · split
    · exact .inr rfl
    · rename_i h; exact .inl (by simpa using h)
set_option maxRecDepth 100000 in
set_option maxHeartbeats 4000000 in
theorem lexerExpr_walk (l : List Tk) (p : Option Addr) (c : Nat) (w : World) (hT : TkIn w p c l) (hTab : TabW w) (hM : MaxL w) : Gives Tryz.prog 5 #[.slice p l.length c] w (.bool true) := by
  obtain ⟨hTR, hcp, hTX⟩ := hT
  have KA := Lib.hid (fun W (hW : Ext w W) => lxAwake_any W (hTab.below hW) (hM.ext hW))
  unfold Gives
  by_cases hl : 60 < l.length
  · clear hTab hM hTR hTX
    have hd : decide ((60 : Int) < (l.length : Int)) = true := decide_eq_true (by omega)
    generalize l.length = n at *
    have hl2 : (60 : Int) < (n : Int) := by omega
    go_enter Tryz.func5, Tryz.ntmps5
    go_wp2_with fail
    refine (KA.out _ (Below.refl _ _)).mono ?_
    intro w1 hE
    go_wp2
    go_ret
    exact ⟨rfl, hE⟩
  · obtain ⟨r, hrd⟩ := Rd.all l
    have K1 := Lib.hid (Expr_any l p c w hTR (by omega) hcp hTX hTab hM r hrd)
    have K3 := Lib.hid (fun W (hW : Ext w W) => rfExpr_any l p c W (hTR.ext hW) (by omega) hTX r hrd)
    have HOK := Lib.hid (exR_ok r)
    clear hTab hM hrd hTR hTX
    generalize exR r = P1 at *
    obtain ⟨n, hn⟩ : ∃ n, l.length = n := ⟨_, rfl⟩
    rw [hn] at K1 K3 hl hcp
    rw [hn]
    clear hn
    obtain ⟨x1, p1, e1⟩ := P1
    dsimp only at K1 K3 HOK
    obtain ⟨k1, o1, n1, v1, es⟩ := x1
    dsimp only [Ex.val, Ex.kind, Ex.op, Ex.name, Ex.value, Ex.args] at K1 K3
    obtain ⟨m, hm⟩ : ∃ m, es.length = m := ⟨_, rfl⟩
    rw [hm] at K1 K3
    have HM := Lib.hid hm
    clear hm
    go_enter Tryz.func5, Tryz.ntmps5
    go_wp2_with fail
    refine (show Calls _ _ _ _ _ from K1.out).mono ?_
    rintro _ w1 ⟨q1, c1, rfl, hA1, hE1⟩
    dsimp only
    have HA1 := Lib.hid hA1
    have HE1 := Lib.hid hE1
    clear hA1 hE1
    have HX2 := Lib.hid (ext_alloc w1 (.cells #[.int .i64 k1, .int .i64 o1, sV n1, .int .i64 v1, .slice q1 m c1] 25))
    have HB2 := Lib.hid (alloc_here w1 (.cells #[.int .i64 k1, .int .i64 o1, sV n1, .int .i64 v1, .slice q1 m c1] 25))
    go_wp2_with fail
    refine (show Calls _ _ _ _ _ from K3.out _ (Ext.trans HE1.out HX2.out)).mono ?_
    rintro _ w3 ⟨q2, c2, rfl, hA3, hE3⟩
    dsimp only
    have HE3 := Lib.hid (Ext.trans HX2.out hE3)
    have HB3 := Lib.hid ((hE3.below.block _ (lt_of_block HB2.out)).trans HB2.out)
    have HA3 := Lib.hid hA3
    clear hE3 hA3
    have HX4 := Lib.hid (ext_alloc w3 (.cells #[.int .i64 k1, .int .i64 o1, sV n1, .int .i64 v1, .slice q2 m c2] 25))
    have hb4 := alloc_here w3 (.cells #[.int .i64 k1, .int .i64 o1, sV n1, .int .i64 v1, .slice q2 m c2] 25)
    have hc4 := (HX4.out.below.block _ (lt_of_block HB3.out)).trans HB3.out
    have KE := Lib.hid (fun W (hW : Ext (w3.alloc (.cells #[.int .i64 k1, .int .i64 o1, sV n1, .int .i64 v1, .slice q2 m c2] 25)) W) => (show Gives Tryz.prog 13 #[.agg #[.int .i64 k1, .int .i64 o1, sV n1, .int .i64 v1, .slice q1 m c1], .agg #[.int .i64 k1, .int .i64 o1, sV n1, .int .i64 v1, .slice q2 m c2]] W (.bool true) from by
      have := SameA_any (.mk k1 o1 n1 v1 es) HOK.out q1 q2 c1 c2 W (HA1.out.at.below (Ext.trans HE3.out (Ext.trans HX4.out hW))) (HA3.out.at.below (Ext.trans HX4.out hW))
      rw [← HM.out]
      exact this))
    have z0 := cell_of (i := 0) hb4 rfl
    have z1 := cell_of (i := 1) hb4 rfl
    have z2 := cell_of (i := 2) hb4 rfl
    have z3 := cell_of (i := 3) hb4 rfl
    have z4 := cell_of (i := 4) hb4 rfl
    have y0 := cell_of (i := 0) hc4 rfl
    have y1 := cell_of (i := 1) hc4 rfl
    have y2 := cell_of (i := 2) hc4 rfl
    have y3 := cell_of (i := 3) hc4 rfl
    have y4 := cell_of (i := 4) hc4 rfl
    clear hb4 hc4
    go_wp2_with fail
    refine (KE.out _ (Below.refl _ _)).mono ?_
    intro w5 hE5
    have HE5 := Lib.hid (Ext.trans HE1.out (Ext.trans HE3.out (Ext.trans HX4.out hE5)))
    clear hE5 z0 z1 z2 z3 z4 y0 y1 y2 y3 y4
    go_wp2_with fail
    refine (KA.out _ HE5.out).mono ?_
    intro w6 hE6
    have HE6 := Lib.hid (Ext.trans HE5.out hE6)
    clear hE6
    go_wp2
    go_ret
    exact ⟨rfl, HE6.out⟩
end Go.Proofs.YtmokejjndkibhaaGreatDoor

namespace Go.Proofs.YtmokejjndkibhaaGreatDoor.lexerExpr
open Go.ChangeShapes Go.WideShapes Go.ChangeAt Go.RowKit
open Go.ChangeMaps (open_string shut_string)
set_option linter.unusedVariables false

theorem own : ownKnob Tryz.prog.godebug = none := by kernel_rfl
theorem laidOut : laidOutB Tryz.prog = true := by kernel_rfl
/-- the cells of a datum of plain values -/
def flat : Nat → DataW Unit → List Value
  | _, .lit l => [l.value]
  | n + 1, .agg ps => ps.flatMap (flat n)
  | _, _ => []
/-- a world for the witness: the settled one, the listed tables holding what the text lays -/
def lay (d : DataW Unit) : Obj → Obj
  | .cells _ t frozen => .cells (flat 4 d).toArray t frozen
  | o => o
noncomputable def laidWorld (os : Os) : World :=
  { World.holding Tryz.prog os ⟨#[], #[], []⟩ with heap := ((((World.holding Tryz.prog os ⟨#[], #[], []⟩).heap.modify 2 (lay Rows.laid_math_bits_deBruijn32tab)).modify 3 (lay Rows.laid_math_bits_deBruijn64tab)).modify 1 (lay Rows.laid_internal_strconv_uint64pow10)) }
theorem laid_met (os : Os) : laidMet Tryz.prog Rows.lexerExprRow.laid ((laidWorld os).forCall (fun _ _ => 0) ⟨#[], #[.slice none 0 0], []⟩).memory :=
  laidMet_of_run' 8 (by kernel_rfl) (by kernel_rfl)
theorem reads (os : Os) {H : Type} (enc : TypeId × Value → H) : ∃ places, DataW.whole enc Tryz.prog ((laidWorld os).forCall (fun _ _ => 0) ⟨#[], #[.slice none 0 0], []⟩).memory Tryz.f5.params.toList Rows.lexerExprSpec.vars false (#[.slice none 0 0] : Array Value).toList 8 = some ([.nil], [], places) :=
  ⟨[], by kernel_rfl⟩
theorem shape (W : World) (h : W.ShapedOpen Tryz.prog) : MaxL W := cell_of_shapedOpen_int (zero := #[.int .i64 0]) h (of_decide_eq_true (by kernel_rfl)) (by kernel_rfl) (by kernel_rfl) (by kernel_rfl) (by kernel_rfl) Tryz.underlying3

theorem tab (W : World) (h : laidMetH Tryz.prog Rows.lexerExprRow.laid W) : TabW W := by
  have h1 : laidMet Tryz.prog Rows.lexerExprRow.laid W := h
  exact Lib.tabIs_of_head (g := 1) (t := 153) (e := 131) (n := 20) (by kernel_rfl) (by kernel_rfl) Tryz.underlying153 Tryz.underlying131 (by kernel_rfl) (by kernel_rfl) h1.tail.tail
set_option maxRecDepth 100000 in
theorem contract (H : Type) (enc : TypeId × Value → H) (W : World) (base : Nat) (args : Array Value) (ds gs : List (DataW H)) (before : List MemPlace)
    (hval0 : ∀ (j : Nat) t v, Tryz.f5.params[j]? = some t → args[j]? = some v → Value.okWide Tryz.prog W .any base t v)
    (hW : DataW.Whole enc Tryz.prog Tryz.f5.params.toList Rows.lexerExprSpec.vars false W args.toList ds gs before) (hz : (DataW.weightsEach Tryz.prog (Tryz.f5.params.toList ++ (OpenSpec.ofChange Rows.lexerExprSpec).bare.plain.varTypes Tryz.prog) (ds ++ gs)).all (· ≤ reachBytes) = true) (hL : laidMetH Tryz.prog Rows.lexerExprRow.laid W) (hm : MaxL W) :
    Calls Tryz.prog 5 args W fun e W' => ∃ v, e = .returned v ∧ Rows.lexerExprSpec.post enc Tryz.prog Tryz.f5 false true false false W args v W' := by
  have hval := hval0
  have hW' := hW
  obtain ⟨p, q, hA0, hV, rfl, hfz, hnd⟩ := hW
  have hA : DataW.TrodAll enc Tryz.prog W 0 (fun _ => true) true Tryz.f5.params.toList args.toList ds p := hA0
  rw [Tryz.params5] at hA hval
  obtain ⟨v0, vs0, d0, ds0, p0, q0, hargs, rfl, rfl, h0, r0⟩ := trodAll_cons hA
  obtain ⟨rfl, rfl, rfl⟩ := trodAll_nil r0
  obtain rfl : args = #[v0] := by cases args; simp_all
  obtain ⟨rfl, rfl⟩ := trodVars_none hV
  obtain ⟨a0, len0, cap0, rfl⟩ := okWide_slice Tryz.underlying31 (hval 0 31 v0 rfl rfl)
  have k0 := h0
  have lt0 : ∀ x ∈ p0, x.block < W.heap.size := by obtain ⟨m, hm⟩ := k0; exact DataW.trod_lt m _ _ _ hm
  obtain ⟨tk0, rfl, w0⟩ := open_tks h0 (fun n hn => by have := List.all_eq_true.1 hz n (DataW.weights_mem_each (j := 0) rfl rfl n hn); simpa using this)
  clear hA0 hval0 hz
  refine (lexerExpr_walk tk0 a0 cap0 W w0 (tab W hL) hm).mono fun W' bel => ?_
  exact ⟨_, rfl, _, _, _, [], _, [], hW', trodAll_mk1 (shut_bool Tryz.underlying4 _), (trodAll_cons_mk (Below.trod laidOut (by kernel_rfl) (of_decide_eq_true (by kernel_rfl)) k0 bel lt0) trodAll_mk0), rfl, bel.frame _, fun h => by cases h⟩

set_option maxRecDepth 100000 in
theorem lifted (os : Os) (started : os.Started) (H : Type) (enc : TypeId × Value → H) (F : Stop.Interp) :
    ReturnsInHanded {} Tryz.checked os 5 .any ((OpenSpec.ofChange Rows.lexerExprSpec).preRow enc Tryz.prog Tryz.f5 Rows.lexerExprRow.domain false Rows.lexerExprRow.laid) (((OpenSpec.ofChange Rows.lexerExprSpec).at F).post enc Tryz.prog Tryz.f5 false true false false) := by
  obtain ⟨places, hx⟩ := reads os enc
  refine returnsInHanded_of_row (C := Tryz.checked) (s := OpenSpec.ofChange Rows.lexerExprSpec) own started (by kernel_rfl) Tryz.func5
    (witness_row_at (enc := enc) (C := Tryz.checked) false (laidWorld os) #[.slice none 0 0] rfl (by kernel_rfl) (by kernel_rfl) (by kernel_rfl)
      (OpenSpec.preRow_of_cond 8 hx (by kernel_rfl) (fun k hk => by cases hk) (by kernel_rfl) (laid_met os))) ?_
  intro W base args ds gs before hval hW _ _ hz hL hsh _
  exact contract H enc W base args ds gs before hval hW hz hL (shape W hsh)

theorem said : Rows.LexerExprSaid :=
  OpenClaim.holds_of_cond 5 Tryz.f5 rfl rfl rfl rfl rfl rfl rfl ⟨rfl, rfl, rfl, rfl, rfl⟩ rfl rfl rfl rfl rfl (by kernel_rfl) Tryz.func5 (by kernel_rfl)
    (of_decide_eq_true (by kernel_rfl)) (by unfold Func.isWrapper; first | (rw [if_pos (by decide +kernel)]; kernel_rfl) | (rw [if_neg (by decide +kernel)]; exact ⟨rfl, rfl⟩))
    (fun os started H enc _ F => by rw [OpenClaim.pre_eq_preRow]; exact lifted os started H enc F)

theorem plain (f : FuncId) (fn : Func) (hf : Tryz.pinned.checked.prog.funcNamed "nursery/nurserylaw10.LexerExpr" = some f) (hfn : Tryz.pinned.checked.prog.funcs[f]? = some fn) :
    true = Tryz.pinned.checked.prog.looks [] ∧ ∀ (j : Nat) t, fn.params[j]? = some t → Tryz.pinned.checked.prog.wantsStandIn t = false := by
  obtain rfl : f = 5 := Option.some.inj ((show Tryz.prog.funcNamed "nursery/nurserylaw10.LexerExpr" = some 5 by kernel_rfl).symm.trans hf) |>.symm
  obtain rfl : fn = Tryz.f5 := (Option.some.inj (Tryz.func5.symm.trans hfn)).symm
  refine ⟨by kernel_rfl, fun j t ht => ?_⟩
  rw [Tryz.params5] at ht
  rcases j with _ | j
  · obtain rfl : t = 31 := by simpa using ht.symm
    exact (show Tryz.prog.wantsStandIn 31 = false by kernel_rfl)
  · simp at ht

/-- the statement -/
theorem proved : Rows.LexerExprCardSaid :=
  Claim7.holds_tied_plain_at .later [] _ _ _ _ said (fun _ h => by cases h) (by kernel_rfl) (fun _ h => by cases h) lexerExpr_row_tie rfl ⟨rfl, rfl⟩ (by kernel_rfl) rfl plain (by kernel_rfl)
#print axioms proved
end Go.Proofs.YtmokejjndkibhaaGreatDoor.lexerExpr

