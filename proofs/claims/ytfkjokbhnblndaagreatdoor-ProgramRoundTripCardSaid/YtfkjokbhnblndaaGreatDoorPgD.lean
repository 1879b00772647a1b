/- slices.IndexFunc, slices.ContainsFunc, slices.Index, slices.Contains: any function. -/
import Derived.Test.YtfkjokbhnblndaaGreatDoorPgC
namespace Go.Proofs.YtfkjokbhnblndaaGreatDoor
open Go.RowKit
set_option linter.unusedVariables false
set_option linter.unusedSimpArgs false

/-- the first element that answers, or -1 -/
def idx {α : Type} (q : α → Bool) : List α → Int
  | [] => -1
  | x :: l => if q x then 0 else if idx q l = -1 then -1 else idx q l + 1
theorem idx_ge {α : Type} (q : α → Bool) : ∀ l : List α, -1 ≤ idx q l
  | [] => by simp [idx]
  | x :: l => by
    have := idx_ge q l
    unfold idx
    split
    · omega
    · split <;> omega
theorem idx_none {α : Type} (q : α → Bool) : ∀ (l : List α), (∀ j (h : j < l.length), q l[j] = false) → idx q l = -1
  | [], _ => rfl
  | x :: l, h => by
    have h0 : q x = false := h 0 (by simp)
    have h1 := idx_none q l (fun j hj => h (j + 1) (by simpa using hj))
    simp [idx, h0, h1]
theorem idx_some {α : Type} (q : α → Bool) : ∀ (l : List α) (j : Nat) (h : j < l.length), (∀ i (hi : i < j), q (l[i]'(by omega)) = false) → q l[j] = true → idx q l = j
  | x :: l, 0, h, _, hq => by simp [idx]; intro h1; simp at hq; rw [hq] at h1; cases h1
  | x :: l, j + 1, h, hn, hq => by
    have h0 : q x = false := hn 0 (by omega)
    have hj : j < l.length := by simpa using h
    have h1 := idx_some q l j hj (fun i hi => hn (i + 1) (by omega)) hq
    have h2 : ¬ ((j : Int) = -1) := by omega
    simp [idx, h0, h1, h2]
theorem idx_any {α : Type} (q : α → Bool) : ∀ l : List α, decide (0 ≤ idx q l) = l.any q
  | [] => by simp [idx]
  | x :: l => by
    have ih := idx_any q l
    have hg := idx_ge q l
    unfold idx
    rw [List.any_cons]
    cases hq : q x with
    | true => simp
    | false =>
      simp only [Bool.false_eq_true, if_false, Bool.false_or]
      rw [← ih]
      split
      · rename_i h; rw [h]
      · rename_i h
        have h1 : 0 ≤ idx q l := by omega
        have h2 : 0 ≤ idx q l + 1 := by omega
        simp [h1, h2]

set_option maxRecDepth 100000 in
set_option maxHeartbeats 1000000 in
theorem IndexOb_any (l : List Ob) (a : Option Addr) (c : Nat) (cf : FuncId) (cs : Array Value) (q : Ob → Bool) (w : World) (hA : ObRow w a l) (hn : l.length ≤ 17592186044416) (hent : ∀ args w, (callFunc cf args).run Tryz.prog w = .ok (.enter cf args) w)
    (K : ∀ j (h : j < l.length) (W : World), Ext w W → Gives Tryz.prog cf (#[.agg #[sV (l[j]).name, .int .i64 (l[j]).kind, .int .i64 (l[j]).size, .int .i64 (l[j]).oth]] ++ cs) W (.bool (q l[j]))) :
    Gives Tryz.prog 106 #[.slice a l.length c, .func (.func cf) #[] cs] w (.int .i64 (idx q l)) := by
  unfold Gives
  have HA := Lib.hid hA
  have K := Lib.hid K
  have HI1 := Lib.hid (idx_none q l)
  have HI2 := Lib.hid (idx_some q l)
  generalize idx q l = r at *
  clear hA
  go_enter Tryz.func106, Tryz.ntmps106
  go_wp2
  go_loopw [8] (fun i wr => ∃ j : Nat, j ≤ l.length ∧ i = .int .i64 (j : Int) ∧ (∀ k (h : k < l.length), k < j → q l[k] = false) ∧ Ext w wr) (fun i _ => l.length - (intOf i).toNat)
  case atStart => exact ⟨0, Nat.zero_le _, rfl, by intro k h1 h2; omega, Below.refl _ _⟩
  case round =>
    obtain ⟨j, hj, rfl, hk, hE⟩ := hrel
    have HK := Lib.hid hk
    have HE := Lib.hid hE
    by_cases hlt : j < l.length
    · have FC := K.out j hlt wr hE
      obtain ⟨b, off, rfl, ⟨c0, c1, c2, c3⟩⟩ := (HA.out.ext hE) j hlt
      cases hb : q l[j] with
      | true =>
        rw [hb] at FC
        have FC := Lib.hid FC
        have HR := Lib.hid (HI2.out j hlt (fun i hi => HK.out i (by omega) hi) hb)
        clear hk hE hb
        go_wp2_with fail
        refine FC.out.mono ?_
        intro w1 hB1
        have HE1 := Lib.hid (Ext.trans HE.out hB1)
        clear hB1
        go_wp2
        go_ret
        exact ⟨by rw [HR.out]; rfl, HE1.out⟩
      | false =>
        rw [hb] at FC
        have FC := Lib.hid FC
        have HR := Lib.hid (show ∀ k (h : k < l.length), k < j + 1 → q l[k] = false from fun k h1 h2 => by
          by_cases e : k = j
          · subst e; exact hb
          · exact HK.out k h1 (by omega))
        clear hk hE hb
        go_wp2_with fail
        refine FC.out.mono ?_
        intro w1 hB1
        have HE1 := Lib.hid (Ext.trans HE.out hB1)
        clear hB1
        go_wp2
        go_roundw
        case rel => exact ⟨j + 1, by omega, by go_num, HR.out, HE1.out⟩
        case measure => simp [intOf]; omega
    · obtain rfl : j = l.length := by omega
      have HR := Lib.hid (HI1.out (fun j hj => HK.out j hj hj))
      clear hk
      go_wp2
      go_ret
      exact ⟨by rw [HR.out]; rfl, HE.out⟩
theorem ContainsOb_any (l : List Ob) (a : Option Addr) (c : Nat) (cf : FuncId) (cs : Array Value) (q : Ob → Bool) (w : World) (hA : ObRow w a l) (hn : l.length ≤ 17592186044416) (hent : ∀ args w, (callFunc cf args).run Tryz.prog w = .ok (.enter cf args) w)
    (K : ∀ j (h : j < l.length) (W : World), Ext w W → Gives Tryz.prog cf (#[.agg #[sV (l[j]).name, .int .i64 (l[j]).kind, .int .i64 (l[j]).size, .int .i64 (l[j]).oth]] ++ cs) W (.bool (q l[j]))) :
    Gives Tryz.prog 80 #[.slice a l.length c, .func (.func cf) #[] cs] w (.bool (l.any q)) := by
  have H := IndexOb_any l a c cf cs q w hA hn hent K
  rw [← idx_any]
  clear K hA
  unfold Gives
  have hd : ∀ x : Int, x = x := fun _ => rfl
  generalize idx q l = r at *
  by_cases h0 : 0 ≤ r
  · go_enter Tryz.func80, Tryz.ntmps80
    go_wp2_with fail
    refine H.mono ?_
    intro w1 hB1
    go_wp2
    go_ret
    exact ⟨by simp [h0], hB1⟩
  · go_enter Tryz.func80, Tryz.ntmps80
    go_wp2_with fail
    refine H.mono ?_
    intro w1 hB1
    go_wp2
    go_ret
    exact ⟨by simp [h0], hB1⟩

set_option maxRecDepth 100000 in
set_option maxHeartbeats 1000000 in
theorem IndexVa_any (l : List Va) (a : Option Addr) (c : Nat) (cf : FuncId) (cs : Array Value) (q : Va → Bool) (w : World) (hA : VaRow w a l) (hn : l.length ≤ 17592186044416) (hent : ∀ args w, (callFunc cf args).run Tryz.prog w = .ok (.enter cf args) w)
    (K : ∀ j (h : j < l.length) (W : World), Ext w W → Gives Tryz.prog cf (#[.agg #[sV (l[j]).name, .int .i64 (l[j]).init, .bool (l[j]).atomic]] ++ cs) W (.bool (q l[j]))) :
    Gives Tryz.prog 107 #[.slice a l.length c, .func (.func cf) #[] cs] w (.int .i64 (idx q l)) := by
  unfold Gives
  have HA := Lib.hid hA
  have K := Lib.hid K
  have HI1 := Lib.hid (idx_none q l)
  have HI2 := Lib.hid (idx_some q l)
  generalize idx q l = r at *
  clear hA
  go_enter Tryz.func107, Tryz.ntmps107
  go_wp2
  go_loopw [8] (fun i wr => ∃ j : Nat, j ≤ l.length ∧ i = .int .i64 (j : Int) ∧ (∀ k (h : k < l.length), k < j → q l[k] = false) ∧ Ext w wr) (fun i _ => l.length - (intOf i).toNat)
  case atStart => exact ⟨0, Nat.zero_le _, rfl, by intro k h1 h2; omega, Below.refl _ _⟩
  case round =>
    obtain ⟨j, hj, rfl, hk, hE⟩ := hrel
    have HK := Lib.hid hk
    have HE := Lib.hid hE
    by_cases hlt : j < l.length
    · have FC := K.out j hlt wr hE
      obtain ⟨b, off, rfl, ⟨c0, c1, c2⟩⟩ := (HA.out.ext hE) j hlt
      cases hb : q l[j] with
      | true =>
        rw [hb] at FC
        have FC := Lib.hid FC
        have HR := Lib.hid (HI2.out j hlt (fun i hi => HK.out i (by omega) hi) hb)
        clear hk hE hb
        go_wp2_with fail
        refine FC.out.mono ?_
        intro w1 hB1
        have HE1 := Lib.hid (Ext.trans HE.out hB1)
        clear hB1
        go_wp2
        go_ret
        exact ⟨by rw [HR.out]; rfl, HE1.out⟩
      | false =>
        rw [hb] at FC
        have FC := Lib.hid FC
        have HR := Lib.hid (show ∀ k (h : k < l.length), k < j + 1 → q l[k] = false from fun k h1 h2 => by
          by_cases e : k = j
          · subst e; exact hb
          · exact HK.out k h1 (by omega))
        clear hk hE hb
        go_wp2_with fail
        refine FC.out.mono ?_
        intro w1 hB1
        have HE1 := Lib.hid (Ext.trans HE.out hB1)
        clear hB1
        go_wp2
        go_roundw
        case rel => exact ⟨j + 1, by omega, by go_num, HR.out, HE1.out⟩
        case measure => simp [intOf]; omega
    · obtain rfl : j = l.length := by omega
      have HR := Lib.hid (HI1.out (fun j hj => HK.out j hj hj))
      clear hk
      go_wp2
      go_ret
      exact ⟨by rw [HR.out]; rfl, HE.out⟩
theorem ContainsVa_any (l : List Va) (a : Option Addr) (c : Nat) (cf : FuncId) (cs : Array Value) (q : Va → Bool) (w : World) (hA : VaRow w a l) (hn : l.length ≤ 17592186044416) (hent : ∀ args w, (callFunc cf args).run Tryz.prog w = .ok (.enter cf args) w)
    (K : ∀ j (h : j < l.length) (W : World), Ext w W → Gives Tryz.prog cf (#[.agg #[sV (l[j]).name, .int .i64 (l[j]).init, .bool (l[j]).atomic]] ++ cs) W (.bool (q l[j]))) :
    Gives Tryz.prog 83 #[.slice a l.length c, .func (.func cf) #[] cs] w (.bool (l.any q)) := by
  have H := IndexVa_any l a c cf cs q w hA hn hent K
  rw [← idx_any]
  clear K hA
  unfold Gives
  have hd : ∀ x : Int, x = x := fun _ => rfl
  generalize idx q l = r at *
  by_cases h0 : 0 ≤ r
  · go_enter Tryz.func83, Tryz.ntmps83
    go_wp2_with fail
    refine H.mono ?_
    intro w1 hB1
    go_wp2
    go_ret
    exact ⟨by simp [h0], hB1⟩
  · go_enter Tryz.func83, Tryz.ntmps83
    go_wp2_with fail
    refine H.mono ?_
    intro w1 hB1
    go_wp2
    go_ret
    exact ⟨by simp [h0], hB1⟩

set_option maxRecDepth 100000 in
set_option maxHeartbeats 1000000 in
theorem IndexFn_any (l : List Fn) (a : Option Addr) (c : Nat) (cf : FuncId) (cs : Array Value) (q : Fn → Bool) (w : World) (hA : FnRow w a l) (hn : l.length ≤ 17592186044416) (hent : ∀ args w, (callFunc cf args).run Tryz.prog w = .ok (.enter cf args) w)
    (K : ∀ j (h : j < l.length) (ca : Option Addr) (cc : Nat) (W : World), Ext w W → InsRow W ca l[j].code → Gives Tryz.prog cf (#[FV l[j] ca cc] ++ cs) W (.bool (q l[j]))) :
    Gives Tryz.prog 108 #[.slice a l.length c, .func (.func cf) #[] cs] w (.int .i64 (idx q l)) := by
  unfold Gives
  have HA := Lib.hid hA
  have K := Lib.hid K
  have HI1 := Lib.hid (idx_none q l)
  have HI2 := Lib.hid (idx_some q l)
  generalize idx q l = r at *
  clear hA
  go_enter Tryz.func108, Tryz.ntmps108
  go_wp2
  go_loopw [8] (fun i wr => ∃ j : Nat, j ≤ l.length ∧ i = .int .i64 (j : Int) ∧ (∀ k (h : k < l.length), k < j → q l[k] = false) ∧ Ext w wr) (fun i _ => l.length - (intOf i).toNat)
  case atStart => exact ⟨0, Nat.zero_le _, rfl, by intro k h1 h2; omega, Below.refl _ _⟩
  case round =>
    obtain ⟨j, hj, rfl, hk, hE⟩ := hrel
    have HK := Lib.hid hk
    have HE := Lib.hid hE
    by_cases hlt : j < l.length
    · obtain ⟨b, off, ca, cc, rfl, ⟨c0, c1, c2, c3, c4, c5⟩, hcode⟩ := (HA.out.ext hE) j hlt
      have FC := K.out j hlt ca cc wr hE hcode
      clear hcode
      cases hb : q l[j] with
      | true =>
        rw [hb] at FC
        have FC := Lib.hid FC
        have HR := Lib.hid (HI2.out j hlt (fun i hi => HK.out i (by omega) hi) hb)
        clear hk hE hb
        go_wp2_with fail
        refine FC.out.mono ?_
        intro w1 hB1
        have HE1 := Lib.hid (Ext.trans HE.out hB1)
        clear hB1
        go_wp2
        go_ret
        exact ⟨by rw [HR.out]; rfl, HE1.out⟩
      | false =>
        rw [hb] at FC
        have FC := Lib.hid FC
        have HR := Lib.hid (show ∀ k (h : k < l.length), k < j + 1 → q l[k] = false from fun k h1 h2 => by
          by_cases e : k = j
          · subst e; exact hb
          · exact HK.out k h1 (by omega))
        clear hk hE hb
        go_wp2_with fail
        refine FC.out.mono ?_
        intro w1 hB1
        have HE1 := Lib.hid (Ext.trans HE.out hB1)
        clear hB1
        go_wp2
        go_roundw
        case rel => exact ⟨j + 1, by omega, by go_num, HR.out, HE1.out⟩
        case measure => simp [intOf]; omega
    · obtain rfl : j = l.length := by omega
      have HR := Lib.hid (HI1.out (fun j hj => HK.out j hj hj))
      clear hk
      go_wp2
      go_ret
      exact ⟨by rw [HR.out]; rfl, HE.out⟩
theorem ContainsFn_any (l : List Fn) (a : Option Addr) (c : Nat) (cf : FuncId) (cs : Array Value) (q : Fn → Bool) (w : World) (hA : FnRow w a l) (hn : l.length ≤ 17592186044416) (hent : ∀ args w, (callFunc cf args).run Tryz.prog w = .ok (.enter cf args) w)
    (K : ∀ j (h : j < l.length) (ca : Option Addr) (cc : Nat) (W : World), Ext w W → InsRow W ca l[j].code → Gives Tryz.prog cf (#[FV l[j] ca cc] ++ cs) W (.bool (q l[j]))) :
    Gives Tryz.prog 85 #[.slice a l.length c, .func (.func cf) #[] cs] w (.bool (l.any q)) := by
  have H := IndexFn_any l a c cf cs q w hA hn hent K
  rw [← idx_any]
  clear K hA
  unfold Gives
  have hd : ∀ x : Int, x = x := fun _ => rfl
  generalize idx q l = r at *
  by_cases h0 : 0 ≤ r
  · go_enter Tryz.func85, Tryz.ntmps85
    go_wp2_with fail
    refine H.mono ?_
    intro w1 hB1
    go_wp2
    go_ret
    exact ⟨by simp [h0], hB1⟩
  · go_enter Tryz.func85, Tryz.ntmps85
    go_wp2_with fail
    refine H.mono ?_
    intro w1 hB1
    go_wp2
    go_ret
    exact ⟨by simp [h0], hB1⟩

set_option maxRecDepth 100000 in
set_option maxHeartbeats 1000000 in
theorem IndexInt_any (l : List Int) (a : Option Addr) (c : Nat) (cf : FuncId) (cs : Array Value) (q : Int → Bool) (w : World) (hA : IntsAt w a l) (hn : l.length ≤ 17592186044416) (hent : ∀ args w, (callFunc cf args).run Tryz.prog w = .ok (.enter cf args) w)
    (K : ∀ j (h : j < l.length) (W : World), Ext w W → Gives Tryz.prog cf (#[.int .i64 (l[j])] ++ cs) W (.bool (q l[j]))) :
    Gives Tryz.prog 42 #[.slice a l.length c, .func (.func cf) #[] cs] w (.int .i64 (idx q l)) := by
  unfold Gives
  have HA := Lib.hid hA
  have K := Lib.hid K
  have HI1 := Lib.hid (idx_none q l)
  have HI2 := Lib.hid (idx_some q l)
  generalize idx q l = r at *
  clear hA
  go_enter Tryz.func42, Tryz.ntmps42
  go_wp2
  go_loopw [8] (fun i wr => ∃ j : Nat, j ≤ l.length ∧ i = .int .i64 (j : Int) ∧ (∀ k (h : k < l.length), k < j → q l[k] = false) ∧ Ext w wr) (fun i _ => l.length - (intOf i).toNat)
  case atStart => exact ⟨0, Nat.zero_le _, rfl, by intro k h1 h2; omega, Below.refl _ _⟩
  case round =>
    obtain ⟨j, hj, rfl, hk, hE⟩ := hrel
    have HK := Lib.hid hk
    have HE := Lib.hid hE
    by_cases hlt : j < l.length
    · have FC := K.out j hlt wr hE
      obtain ⟨b, off, rfl, c0⟩ := (HA.out.below hE).at hlt
      cases hb : q l[j] with
      | true =>
        rw [hb] at FC
        have FC := Lib.hid FC
        have HR := Lib.hid (HI2.out j hlt (fun i hi => HK.out i (by omega) hi) hb)
        clear hk hE hb
        go_wp2_with fail
        refine FC.out.mono ?_
        intro w1 hB1
        have HE1 := Lib.hid (Ext.trans HE.out hB1)
        clear hB1
        go_wp2
        go_ret
        exact ⟨by rw [HR.out]; rfl, HE1.out⟩
      | false =>
        rw [hb] at FC
        have FC := Lib.hid FC
        have HR := Lib.hid (show ∀ k (h : k < l.length), k < j + 1 → q l[k] = false from fun k h1 h2 => by
          by_cases e : k = j
          · subst e; exact hb
          · exact HK.out k h1 (by omega))
        clear hk hE hb
        go_wp2_with fail
        refine FC.out.mono ?_
        intro w1 hB1
        have HE1 := Lib.hid (Ext.trans HE.out hB1)
        clear hB1
        go_wp2
        go_roundw
        case rel => exact ⟨j + 1, by omega, by go_num, HR.out, HE1.out⟩
        case measure => simp [intOf]; omega
    · obtain rfl : j = l.length := by omega
      have HR := Lib.hid (HI1.out (fun j hj => HK.out j hj hj))
      clear hk
      go_wp2
      go_ret
      exact ⟨by rw [HR.out]; rfl, HE.out⟩
theorem ContainsInt_any (l : List Int) (a : Option Addr) (c : Nat) (cf : FuncId) (cs : Array Value) (q : Int → Bool) (w : World) (hA : IntsAt w a l) (hn : l.length ≤ 17592186044416) (hent : ∀ args w, (callFunc cf args).run Tryz.prog w = .ok (.enter cf args) w)
    (K : ∀ j (h : j < l.length) (W : World), Ext w W → Gives Tryz.prog cf (#[.int .i64 (l[j])] ++ cs) W (.bool (q l[j]))) :
    Gives Tryz.prog 138 #[.slice a l.length c, .func (.func cf) #[] cs] w (.bool (l.any q)) := by
  have H := IndexInt_any l a c cf cs q w hA hn hent K
  rw [← idx_any]
  clear K hA
  unfold Gives
  have hd : ∀ x : Int, x = x := fun _ => rfl
  generalize idx q l = r at *
  by_cases h0 : 0 ≤ r
  · go_enter Tryz.func138, Tryz.ntmps138
    go_wp2_with fail
    refine H.mono ?_
    intro w1 hB1
    go_wp2
    go_ret
    exact ⟨by simp [h0], hB1⟩
  · go_enter Tryz.func138, Tryz.ntmps138
    go_wp2_with fail
    refine H.mono ?_
    intro w1 hB1
    go_wp2
    go_ret
    exact ⟨by simp [h0], hB1⟩

end Go.Proofs.YtfkjokbhnblndaaGreatDoor
