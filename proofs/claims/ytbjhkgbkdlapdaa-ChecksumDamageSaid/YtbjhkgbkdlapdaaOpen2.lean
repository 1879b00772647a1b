/- checksum.Open and nurseryref02.Open: the frame is long enough. -/
import Derived.Test.YtbjhkgbkdlapdaaOpen
import Derived.Test.YtbjhkgbkdlapdaaEq4
import Derived.Deep.MidRow
namespace Go.Proofs.Ytbjhkgbkdlapdaa
open Go.RowKit
set_option linter.unusedVariables false
set_option linter.unusedSimpArgs false

theorem be4_len (n : Int) : (be4 n).length = 4 := rfl

set_option maxRecDepth 100000 in
set_option maxHeartbeats 1000000 in
theorem refOpen_bad (s : List UInt8) (n k : Nat) (w : World) (hs : s.length ≤ 1099511627776) (h : rdI s = ((n : Int), k, 0)) (hn : n ≤ 100000) (h3 : k + n + 4 ≤ s.length)
    (h4 : (s.take (k + n + 4)).drop (k + n) ≠ be4 (ck (s.take (k + n)))) : Gives Try.prog 24 #[sV s] w (opV s) := by
  have HV := Lib.hid (show opV s = .tuple #[sV [], .int .i64 0, .int .i64 13] by unfold opV; rw [opn, h]; simp only [Int.toNat_natCast]; rw [if_neg (by simp), if_neg (by omega), if_neg (by omega), if_pos h4]; rfl)
  have HR := Lib.hid (show rdV s = .tuple #[.int .i64 (n : Int), .int .i64 (k : Int), .int .i64 0] by unfold rdV; rw [h])
  have hd2 : decide ((100000 : Int) < (n : Int)) = false := by simp; omega
  obtain ⟨c1, c2⟩ := ck_bd (s.take (k + n))
  have hq : (((s.take (k + n + 4)).drop (k + n)) == be4 (ck (s.take (k + n)))) = false := by rw [beq_eq_false_iff_ne]; exact h4
  have e1 := wrapi (x := (k : Int) + (n : Int)) (by omega) (by omega)
  have e2 := wrapi (x := (k : Int) + (n : Int) + 4) (by omega) (by omega)
  have t1 : ((k : Int) + (n : Int)).toNat = k + n := by omega
  have t2 : ((k : Int) + (n : Int) + 4).toNat = k + n + 4 := by omega
  clear h h4
  unfold Gives
  go_enter Try.func24, Try.ntmps24
  go_wp2_with fail
  refine (refReadInt_any s _ hs).mono ?_
  intro w1 hB1
  rw [HR.out]
  go_wp2
  refine wp_region_up (by kernel_rfl) (by kernel_rfl) ?_
  repeat (go_big_quiet_step (first | (go_at_call 20; exact Up.call (refSum_l _ _ (by unfold maxLen; simp; omega))) | (go_at_call 36; exact Up.call (refbytes_any _ _ c1 c2))))
  refine wpQuiet_nil ?_
  rintro w3 ⟨U, rfl⟩
  go_wp2
  go_ret3
  rw [HV.out]
  exact ⟨rfl, Ext.trans hB1 U.ext⟩

set_option maxRecDepth 100000 in
set_option maxHeartbeats 1000000 in
theorem refOpen_ok (s : List UInt8) (n k : Nat) (w : World) (hs : s.length ≤ 1099511627776) (h : rdI s = ((n : Int), k, 0)) (hn : n ≤ 100000) (h3 : k + n + 4 ≤ s.length)
    (h4 : (s.take (k + n + 4)).drop (k + n) = be4 (ck (s.take (k + n)))) : Gives Try.prog 24 #[sV s] w (opV s) := by
  have HV := Lib.hid (show opV s = .tuple #[sV ((s.take (k + n)).drop k), .int .i64 ((k : Int) + (n : Int) + 4), .int .i64 0] by unfold opV; rw [opn, h]; simp only [Int.toNat_natCast]; rw [if_neg (by simp), if_neg (by omega), if_neg (by omega), if_neg (by simp [h4])]; simp)
  have HR := Lib.hid (show rdV s = .tuple #[.int .i64 (n : Int), .int .i64 (k : Int), .int .i64 0] by unfold rdV; rw [h])
  have hd2 : decide ((100000 : Int) < (n : Int)) = false := by simp; omega
  obtain ⟨c1, c2⟩ := ck_bd (s.take (k + n))
  have hq : (((s.take (k + n + 4)).drop (k + n)) == be4 (ck (s.take (k + n)))) = true := by rw [beq_iff_eq]; exact h4
  have e1 := wrapi (x := (k : Int) + (n : Int)) (by omega) (by omega)
  have e2 := wrapi (x := (k : Int) + (n : Int) + 4) (by omega) (by omega)
  have t1 : ((k : Int) + (n : Int)).toNat = k + n := by omega
  have t2 : ((k : Int) + (n : Int) + 4).toNat = k + n + 4 := by omega
  clear h h4
  unfold Gives
  go_enter Try.func24, Try.ntmps24
  go_wp2_with fail
  refine (refReadInt_any s _ hs).mono ?_
  intro w1 hB1
  rw [HR.out]
  go_wp2
  refine wp_region_up (by kernel_rfl) (by kernel_rfl) ?_
  repeat (go_big_quiet_step (first | (go_at_call 20; exact Up.call (refSum_l _ _ (by unfold maxLen; simp; omega))) | (go_at_call 36; exact Up.call (refbytes_any _ _ c1 c2))))
  refine wpQuiet_nil ?_
  rintro w3 ⟨U, rfl⟩
  go_wp2
  go_ret3
  rw [HV.out]
  exact ⟨rfl, Ext.trans hB1 U.ext⟩


/-- the values of the region that compares the checksums -/
def opPh (s : List UInt8) (E : Nat) (T : List UInt8) (a b c d : UInt8) (r : Bool) : List (Value → World → Prop) :=
  [fun v _ => v = sV s, fun v _ => v = .int .i64 E, fun v _ => v = .int .i64 E, fun v _ => v = .int .i64 (E + 4 : Nat), fun v _ => v = sV T,
   fun v W => ∃ g cap, v = .slice (some ⟨g, 0, none⟩) 4 cap ∧ BytesAt W g T ∧ g < W.heap.size,
   fun v W => ∃ g, v = .pointer (some ⟨g, 0, none⟩) ∧ BytesAt W g T ∧ g < W.heap.size,
   fun v _ => v = .agg (bsV T).toArray, fun v _ => v = sV s, fun v _ => v = .int .i64 E, fun v _ => v = sV (s.take E), fun v _ => v = .int .i64 (ck (s.take E)),
   fun v _ => v = .agg (bsV [a, b, c, d]).toArray, fun v _ => v = .bool r]
def opΦ (s : List UInt8) (E : Nat) (T : List UInt8) (a b c d : UInt8) (r : Bool) (i : Nat) (v : Value) (W : World) : Prop := (opPh s E T a b c d r).getD i (fun _ _ => True) v W

theorem opΦ_st (s : List UInt8) (E : Nat) (T : List UInt8) (a b c d : UInt8) (r : Bool) : ∀ i v W W', opΦ s E T a b c d r i v W → Ext W W' → opΦ s E T a b c d r i v W' := by
  intro i v W W' h hE
  match i, h with
  | 0, h => exact h
  | 1, h => exact h
  | 2, h => exact h
  | 3, h => exact h
  | 4, h => exact h
  | 5, ⟨g, cap, h1, h2, h3⟩ => exact ⟨g, cap, h1, h2.ext h3 hE, Nat.lt_of_lt_of_le h3 hE.size⟩
  | 6, ⟨g, h1, h2, h3⟩ => exact ⟨g, h1, h2.ext h3 hE, Nat.lt_of_lt_of_le h3 hE.size⟩
  | 7, h => exact h
  | 8, h => exact h
  | 9, h => exact h
  | 10, h => exact h
  | 11, h => exact h
  | 12, h => exact h
  | 13, h => exact h
  | n + 14, h => exact trivial

theorem u8_eq (x a : UInt8) : (x == a) = ((x.toNat : Int) == (a.toNat : Int)) := by
  rw [Bool.eq_iff_iff]
  simp only [beq_iff_eq]
  constructor
  · rintro rfl; rfl
  · intro h; exact UInt8.toNat.inj (by omega)
theorem four_eq (x y z u a b c d : UInt8) : ([x, y, z, u] == [a, b, c, d]) = (((x.toNat : Int) == (a.toNat : Int)) && (((y.toNat : Int) == (b.toNat : Int)) && (((z.toNat : Int) == (c.toNat : Int)) && ((u.toNat : Int) == (d.toNat : Int))))) := by
  rw [← u8_eq, ← u8_eq, ← u8_eq, ← u8_eq]
  simp [List.cons_beq_cons]

theorem four (T : List UInt8) (h : T.length = 4) : ∃ a b c d, T = [a, b, c, d] := by
  match T, h with
  | [a, b, c, d], _ => exact ⟨a, b, c, d, rfl⟩

set_option maxRecDepth 100000 in
set_option maxHeartbeats 4000000 in
theorem Open_main (s : List UInt8) (n k : Nat) (w : World) (hs : s.length ≤ 1099511627776) (h : rdI s = ((n : Int), k, 0)) (hn : n ≤ 100000) (h3 : k + n + 4 ≤ s.length) : Gives Try.prog 23 #[sV s] w (opV s) := by
  have HR := Lib.hid (show rdV s = .tuple #[.int .i64 (n : Int), .int .i64 (k : Int), .int .i64 0] by unfold rdV; rw [h])
  have hd2 : decide ((100000 : Int) < (n : Int)) = false := by simp; omega
  unfold Gives
  go_enter Try.func23, Try.ntmps23
  go_wp2_with fail
  refine (ReadInt_any s _ hs).mono ?_
  intro w1 hB1
  rw [HR.out]
  go_wp2
  obtain ⟨a, b, c, d, hT⟩ : ∃ a b c d, be4 (ck (s.take (k + n))) = [a, b, c, d] := ⟨_, _, _, _, rfl⟩
  obtain ⟨x, y, z, u, hX⟩ := four ((s.take (k + n + 4)).drop (k + n)) (by simp; omega)
  rw [show (k : Int) + (n : Int) = ((k + n : Nat) : Int) by omega]
  obtain ⟨E, hE⟩ : ∃ E, E = k + n := ⟨_, rfl⟩
  obtain ⟨c1, c2⟩ := ck_bd (s.take E)
  rw [← hE] at hT hX ⊢
  have hE4 : E + 4 ≤ s.length := by omega
  refine wp_region_vals (by kernel_rfl) (opΦ s E [x, y, z, u] a b c d (!([x, y, z, u] == [a, b, c, d]))) (opΦ_st _ _ _ _ _ _ _ _) (by kernel_rfl) (by kernel_rfl) 52 rfl (by kernel_rfl) (by kernel_rfl) ?_ ?_
  · intro i o ho a' W hA
    match i, ho with
    | 0, ho =>
      obtain rfl := Option.some.inj ho
      exact Goes.move (.tmp 0) rfl rfl (hA.keep 0 (by kernel_rfl))
    | 1, ho =>
      obtain rfl := Option.some.inj ho
      exact Goes.move (.tmp 8) rfl rfl (hA.keep 8 (by kernel_rfl))
    | 2, ho =>
      obtain rfl := Option.some.inj ho
      exact Goes.move (.tmp 8) rfl rfl (hA.keep 8 (by kernel_rfl))
    | 3, ho =>
      obtain rfl := Option.some.inj ho
      have e1 : a'.eval (.tmp 34) = .int .i64 E := hA.get 2 34 rfl (by kernel_rfl)
      refine Goes.value (.int .i64 (E + 4 : Nat)) rfl ?_ rfl (Below.refl _ _)
      have hw := wrapi (x := (E : Int) + 4) (by omega) (by omega)
      simp only [execOp, e1]
      simp [go_sem, hw]
    | 4, ho =>
      obtain rfl := Option.some.inj ho
      have e0 : a'.eval (.tmp 32) = sV s := hA.get 0 32 rfl (by kernel_rfl)
      have e1 : a'.eval (.tmp 33) = .int .i64 E := hA.get 1 33 rfl (by kernel_rfl)
      have e2 : a'.eval (.tmp 35) = .int .i64 (E + 4 : Nat) := hA.get 3 35 rfl (by kernel_rfl)
      refine Goes.value (sV [x, y, z, u]) rfl ?_ rfl (Below.refl _ _)
      simp only [execOp, e0, e1, e2, Option.map]
      have hsl := run_slice_string (P := Try.prog) W 9 (sB s) .i64 .i64 (E : Int) ((E + 4 : Nat) : Int) Try.underlying9 (by omega) (by omega) (by rw [sB_size]; omega)
      simp only [Sem.run_bind, run_sliceAt_string W 9 _ _ _ _ Try.underlying9, hsl, Result.andThen_ok, Sem.run_pure, sB_extract, Int.toNat_natCast, hX]
    | 5, ho =>
      obtain rfl := Option.some.inj ho
      have e0 : a'.eval (.tmp 36) = sV [x, y, z, u] := hA.get 4 36 rfl (by kernel_rfl)
      have hrun := run_bytes_of_string (P := Try.prog) W 9 27 5 (sB [x, y, z, u]) Try.underlying9 Try.underlying27 Try.underlying5
      refine Goes.value _ rfl (by simp only [execOp, e0, Sem.run_bind, hrun, Result.andThen, Sem.run_pure]; rfl) ?_ (((Below.refl _ W).drew).alloc (Nat.le_refl _) _)
      refine ⟨_, _, rfl, ?_, by simp⟩
      intro i hi
      have hA := alloc_here W.drew (.cells (bytesRow (sB [x, y, z, u]) (grownCap W 4 0 5)) 5 ((bytesRow (sB [x, y, z, u]) (grownCap W 4 0 5)).size, (bytesRow (sB [x, y, z, u]) (grownCap W 4 0 5)).size + 1))
      have hsz : i < (bytesRow (sB [x, y, z, u]) (grownCap W 4 0 5)).size := by simp [bytesRow, sB]; simp at hi; omega
      refine ⟨cell_of hA ?_, ?_⟩
      · have hi4 : i < 4 := by simpa using hi
        match i, hi4 with
        | 0, _ => simp [bytesRow, sB, Array.getElem?_append]
        | 1, _ => simp [bytesRow, sB, Array.getElem?_append]
        | 2, _ => simp [bytesRow, sB, Array.getElem?_append]
        | 3, _ => simp [bytesRow, sB, Array.getElem?_append]
      · exact free_mark hA hsz
    | 6, ho =>
      obtain rfl := Option.some.inj ho
      obtain ⟨g, cap, e0, h1, h2⟩ : ∃ g cap, a'.eval (.tmp 37) = .slice (some ⟨g, 0, none⟩) 4 cap ∧ BytesAt W g [x, y, z, u] ∧ g < W.heap.size := hA.get 5 37 rfl (by kernel_rfl)
      refine Goes.value (.pointer (some ⟨g, 0, none⟩)) rfl ?_ ⟨g, rfl, h1, h2⟩ (Below.refl _ _)
      simp only [execOp, e0, Instr.arrayAt, Sem.run_bind, run_underlying Try.underlying53, Result.andThen_ok]
      rfl
    | 7, ho =>
      obtain rfl := Option.some.inj ho
      obtain ⟨g, e0, h1, h2⟩ : ∃ g, a'.eval (.tmp 38) = .pointer (some ⟨g, 0, none⟩) ∧ BytesAt W g [x, y, z, u] ∧ g < W.heap.size := hA.get 6 38 rfl (by kernel_rfl)
      refine Goes.value (.agg (bsV [x, y, z, u]).toArray) rfl ?_ rfl (Below.refl _ _)
      have hl := run_loadAt_mid (P := Try.prog) W g 0 53 (bsV [x, y, z, u]) _ (fun j v hj => by
        have hj4 : j < 4 := by
          have := (List.getElem?_eq_some_iff.1 hj).1
          simpa [bsV] using this
        have := (h1 j hj4).1
        rw [Nat.zero_add, this]
        rw [← hj]
        match j, hj4 with
        | 0, _ => rfl
        | 1, _ => rfl
        | 2, _ => rfl
        | 3, _ => rfl) Try.underlying53 rfl (by kernel_rfl)
      simp only [execOp, e0, Sem.run_bind, hl, Result.andThen_ok, Sem.run_pure]
    | 8, ho =>
      obtain rfl := Option.some.inj ho
      exact Goes.move (.tmp 0) rfl rfl (hA.keep 0 (by kernel_rfl))
    | 9, ho =>
      obtain rfl := Option.some.inj ho
      exact Goes.move (.tmp 8) rfl rfl (hA.keep 8 (by kernel_rfl))
    | 10, ho =>
      obtain rfl := Option.some.inj ho
      have e0 : a'.eval (.tmp 40) = sV s := hA.get 8 40 rfl (by kernel_rfl)
      have e1 : a'.eval (.tmp 41) = .int .i64 E := hA.get 9 41 rfl (by kernel_rfl)
      refine Goes.value (sV (s.take E)) rfl ?_ rfl (Below.refl _ _)
      simp only [execOp, e0, e1, Option.map]
      have hsl := run_slice_string_h (P := Try.prog) (w := W) (t := 9) (s := sB s) (ht := Try.underlying9) .i64 (E : Int) (by omega) (by rw [sB_size]; omega)
      simp only [Sem.run_bind, run_sliceAt_string W 9 _ _ _ _ Try.underlying9, hsl, Result.andThen_ok, Sem.run_pure, sB_extract, Int.toNat_natCast, List.drop_zero]
    | 11, ho =>
      obtain rfl := Option.some.inj ho
      have e0 : a'.eval (.tmp 42) = sV (s.take E) := hA.get 10 42 rfl (by kernel_rfl)
      refine Goes.call 14 #[sV (s.take E)] (.int .i64 (ck (s.take E))) rfl ?_ (Sum_l _ _ (by unfold maxLen; simp; omega)) (fun _ _ => rfl)
      simp [execOp, resolve, invoke, Deferred.ofValue, e0]
      rfl
    | 12, ho =>
      obtain rfl := Option.some.inj ho
      have e0 : a'.eval (.tmp 43) = .int .i64 (ck (s.take E)) := hA.get 11 43 rfl (by kernel_rfl)
      refine Goes.call 34 #[.int .i64 (ck (s.take E))] (.agg (bsV [a, b, c, d]).toArray) rfl ?_ (bytes_at (ck (s.take E)) a b c d W c1 c2 hT) (fun _ _ => rfl)
      simp [execOp, resolve, invoke, Deferred.ofValue, e0]
      rfl
    | 13, ho =>
      obtain rfl := Option.some.inj ho
      have e0 : a'.eval (.tmp 39) = .agg (bsV [x, y, z, u]).toArray := hA.get 7 39 rfl (by kernel_rfl)
      have e1 : a'.eval (.tmp 44) = .agg (bsV [a, b, c, d]).toArray := hA.get 12 44 rfl (by kernel_rfl)
      refine Goes.value (.bool (!([x, y, z, u] == [a, b, c, d]))) rfl ?_ rfl (Below.refl _ _)
      have hg := run_eqGuard_agg (P := Try.prog) W .neq 53 (.tmp 39) (.tmp 44) (bsV [x, y, z, u]).toArray (bsV [a, b, c, d]).toArray (by kernel_rfl)
      have hn := run_neq_struct (P := Try.prog) W 53 (bsV [x, y, z, u]).toArray (bsV [a, b, c, d]).toArray
      have hq := run_eq4 9998 W x.toNat y.toNat z.toNat u.toNat a.toNat b.toNat c.toNat d.toNat
      have hq' : (Op.equalIn 10000 53 (.agg (bsV [x, y, z, u]).toArray) (.agg (bsV [a, b, c, d]).toArray)).run Try.prog W = .ok ([x, y, z, u] == [a, b, c, d]) W := by
        rw [four_eq]
        exact hq
      simp only [execOp, e0, e1, Sem.run_bind, hg, hn, hq', Result.andThen_ok, Sem.run_pure]
    | i + 14, ho => cases ho
  · intro vs W hvs hW hΦ
    have hE3 := Ext.trans hB1 hW
    obtain ⟨v0, v1, v2, v3, v4, v5, v6, v7, v8, v9, v10, v11, v12, v13, rfl⟩ : ∃ v0 v1 v2 v3 v4 v5 v6 v7 v8 v9 v10 v11 v12 v13, vs = [v0, v1, v2, v3, v4, v5, v6, v7, v8, v9, v10, v11, v12, v13] := by
      match vs, hvs with
      | [v0, v1, v2, v3, v4, v5, v6, v7, v8, v9, v10, v11, v12, v13], _ => exact ⟨v0, v1, v2, v3, v4, v5, v6, v7, v8, v9, v10, v11, v12, v13, rfl⟩
    have h13 : v13 = .bool (!([x, y, z, u] == [a, b, c, d])) := hΦ 13 (by decide)
    subst h13
    clear hΦ
    have e1 := wrapi (x := (E : Int) + 4) (by omega) (by omega)
    simp only [putAll, Act.put, List.setIfInBounds_toArray, List.set_cons_succ, List.set_cons_zero]
    by_cases hq : [x, y, z, u] = [a, b, c, d]
    · have HV := Lib.hid (show opV s = .tuple #[sV ((s.take (k + n)).drop k), .int .i64 ((k : Int) + (n : Int) + 4), .int .i64 0] by
        unfold opV; rw [opn, h]; simp only [Int.toNat_natCast]; rw [← hE, if_neg (by simp), if_neg (by omega), if_neg (by omega), if_neg (by simp [hX, hT, hq])]; simp [hE])
      have hb : ([x, y, z, u] == [a, b, c, d]) = true := by rw [beq_iff_eq]; exact hq
      rw [hb]
      simp only [Bool.not_true, Bool.not_false]
      clear hb hX hT hq h hE4
      go_wp2
      go_ret3
      rw [HV.out]
      exact ⟨rfl, hE3⟩
    · have HV := Lib.hid (show opV s = .tuple #[sV [], .int .i64 0, .int .i64 13] by
        unfold opV; rw [opn, h]; simp only [Int.toNat_natCast]; rw [← hE, if_neg (by simp), if_neg (by omega), if_neg (by omega), if_pos (by simpa [hX, hT] using hq)]; rfl)
      have hb : ([x, y, z, u] == [a, b, c, d]) = false := by rw [beq_eq_false_iff_ne]; exact hq
      rw [hb]
      simp only [Bool.not_true, Bool.not_false]
      clear hb hX hT hq h hE4
      go_wp2
      go_ret3
      rw [HV.out]
      exact ⟨rfl, hE3⟩

/-- Open, each way -/
theorem open_cases {C : Prop} (s : List UInt8) (h1 : (rdI s).2.2 ≠ 0 → C) (h2 : (rdI s).2.2 = 0 → (rdI s).1 < 0 ∨ 100000 < (rdI s).1 → C)
    (h3 : ∀ n k : Nat, rdI s = ((n : Int), k, 0) → n ≤ 100000 → k ≤ s.length → C) : C := by
  by_cases h : (rdI s).2.2 = 0
  · by_cases hr : (rdI s).1 < 0 ∨ 100000 < (rdI s).1
    · exact h2 h hr
    · obtain ⟨n, hn⟩ : ∃ n : Nat, (rdI s).1 = (n : Int) := ⟨(rdI s).1.toNat, by omega⟩
      have e : rdI s = ((n : Int), (rdI s).2.1, 0) := by rw [← hn, ← h]
      obtain ⟨_, _, hk, _, _⟩ := rdI_ok s _ _ e
      exact h3 n _ e (by omega) hk
  · exact h1 h
theorem Open_any (s : List UInt8) (w : World) (hs : s.length ≤ 1099511627776) : Gives Try.prog 23 #[sV s] w (opV s) := by
  refine open_cases s (Open_err s w hs) (Open_range s w hs) (fun n k h hn hk => ?_)
  by_cases h3 : k + n + 4 ≤ s.length
  · exact Open_main s n k w hs h hn h3
  · exact Open_short s n k w hs h hn hk (by omega)
theorem refOpen_any (s : List UInt8) (w : World) (hs : s.length ≤ 1099511627776) : Gives Try.prog 24 #[sV s] w (opV s) := by
  refine open_cases s (refOpen_err s w hs) (refOpen_range s w hs) (fun n k h hn hk => ?_)
  by_cases h3 : k + n + 4 ≤ s.length
  · by_cases h4 : (s.take (k + n + 4)).drop (k + n) = be4 (ck (s.take (k + n)))
    · exact refOpen_ok s n k w hs h hn h3 h4
    · exact refOpen_bad s n k w hs h hn h3 h4
  · exact refOpen_short s n k w hs h hn hk (by omega)

end Go.Proofs.Ytbjhkgbkdlapdaa
