/- The statement ProgramCheckCardSaid: for every input the law returns true, and the arguments read as before; the tables of the library that it lists are tied to the text. The frame round the walk of the law. (With it: The reference's Decimal.; The reference's OpName.; append to a full slice of integers; the reference's lines.; what a valid program's numbers are; a literal of ints in a drawn region.; the reference's Text.; ProgramCheck.) -/
import Derived.Lib.ItoaNum
import Derived.Laws.CopyRow
import Derived.Stop.LaidErr
import Derived.Test.YtfkjokbhnblndaaDoorCards
import Derived.Test.YtfkjokbhnblndaaDoorTie
import Derived.WalkKit
import Derived.ProofKit
import Derived.OpenShut
import Derived.ShutString
import Derived.ChangeOld
import Derived.Below
import Derived.Deep.DeepHandedRow
import Derived.Lib.LaidTab
import Derived.Shelf.Vars
import Derived.Test.YtfkjokbhnblndaaDoorPgZ
import Derived.Test.YtfkjokbhnblndaaDoorPgF3
import Derived.Test.YtfkjokbhnblndaaDoorCfQ
import Derived.Test.YtfkjokbhnblndaaDoorPgX
import Derived.Test.YtfkjokbhnblndaaDoorRt
import Derived.Test.YtfkjokbhnblndaaDoorPgY
import Derived.Test.YtfkjokbhnblndaaDoorOpPg

namespace Go.Proofs.YtfkjokbhnblndaaDoor
open Go.RowKit Go.Shelf
set_option linter.unusedVariables false
set_option linter.unusedSimpArgs false

set_option maxRecDepth 100000 in
set_option maxHeartbeats 1000000 in
theorem dec9_any (N : Nat) (hN : N ≤ 1099511627776) (w : World) : Gives Tryd.prog 69 #[.int .i64 (N : Int)] w (sV (Lib.decDigits N)) := by
  unfold Gives
  go_enter Tryd.func69, Tryd.ntmps69
  go_wp2
  go_loopw [0, 3] (fun i s wr => ∃ (n : Nat) (l : List UInt8), n ≤ N ∧ i = .int .i64 (n : Int) ∧ s = sV l ∧ Lib.decDigits N = Lib.decDigits n ++ l ∧ l.length + n ≤ N ∧ Ext w wr) (fun i _ _ => (intOf i).toNat)
  case atStart => exact ⟨N, [], Nat.le_refl _, rfl, rfl, by simp, by simp, Below.refl _ _⟩
  case round =>
    obtain ⟨n, l, hn, rfl, rfl, hd, hln, hE⟩ := hrel
    have HD := Lib.hid hd
    have HE := Lib.hid hE
    clear hd hE
    have hby : ∀ (m : Nat), m ≤ 9 → (convert 66 9 (.slice (some ⟨wr.heap.size, 0, none⟩) 1 1)).run Tryd.prog (wr.alloc (.cells #[.int .u8 (48 + (m : Int))] 5)) = .ok (sV [UInt8.ofNat (48 + m)]) (wr.alloc (.cells #[.int .u8 (48 + (m : Int))] 5)) := by
      intro m hm
      have hb : ((UInt8.ofNat (48 + m)).toNat : Int) = 48 + (m : Int) := by
        rw [UInt8.toNat_ofNat']; omega
      refine BytesAt.conv (g := wr.heap.size) (l := [UInt8.ofNat (48 + m)]) (fun i hi => ?_) Tryd.underlying66 Tryd.underlying5 Tryd.underlying9 1 1 rfl
      obtain rfl : i = 0 := by simpa using hi
      exact ⟨by rw [cell_of (alloc_here wr _) rfl]; simp only [List.getElem_cons_zero, hb]; rfl, free_of (alloc_here wr _)⟩
    have hll : l.length ≤ 1099511627776 := by omega
    by_cases h9 : n ≤ 9
    · have h9' : ¬ 9 < n := by omega
      have h9'' : ¬ (9 : Int) < (n : Int) := by omega
      have hc := hby n h9
      have HR := Lib.hid (show Lib.decDigits N = [UInt8.ofNat (48 + n)] ++ l by rw [HD.out, Lib.decDigits_one (by omega)])
      have HX := Lib.hid (show Ext w (wr.alloc (.cells #[.int .u8 (48 + (n : Int))] 5)) from Ext.trans HE.out ((Below.refl _ wr).alloc (Nat.le_refl _) _))
      clear hby
      generalize UInt8.ofNat (48 + n) = bb at *
      go_wp2
      go_ret
      exact ⟨by rw [HR.out]; rfl, HX.out⟩
    · have h9' : 9 < n := by omega
      have h9'' : (9 : Int) < (n : Int) := by omega
      have hq : (n : Int).tdiv 10 = ((n / 10 : Nat) : Int) := by rw [Int.tdiv_eq_ediv_of_nonneg (by omega)]; omega
      have hc : (convert 66 9 (.slice (some ⟨wr.heap.size, 0, none⟩) 1 1)).run Tryd.prog (wr.alloc (.cells #[.int .u8 (48 + (n : Int) % 10)] 5)) = .ok (sV [UInt8.ofNat (48 + n % 10)]) (wr.alloc (.cells #[.int .u8 (48 + (n : Int) % 10)] 5)) := by
        have := hby (n % 10) (by omega)
        rw [show ((n % 10 : Nat) : Int) = (n : Int) % 10 by omega] at this
        exact this
      have hm0 : 0 ≤ (n : Int) % 10 := by omega
      have hm9 : (n : Int) % 10 ≤ 9 := by omega
      have HR := Lib.hid (show Lib.decDigits N = Lib.decDigits (n / 10) ++ ([UInt8.ofNat (48 + n % 10)] ++ l) by rw [HD.out, Lib.decDigits.eq_def n, dif_neg (by omega), List.append_assoc])
      have HX := Lib.hid (show Ext w (wr.alloc (.cells #[.int .u8 (48 + (n : Int) % 10)] 5)) from Ext.trans HE.out ((Below.refl _ wr).alloc (Nat.le_refl _) _))
      have HQ := Lib.hid hq
      have HLN := Lib.hid hln
      clear hby hq hln
      generalize UInt8.ofNat (48 + n % 10) = bb at *
      go_wp2
      go_roundw
      case rel => exact ⟨n / 10, [bb] ++ l, by omega, by first | rfl | (rw [← HQ.out]; rfl) | simp, rfl, HR.out, by have := HLN.out; simp; omega, HX.out⟩
      case measure => simp [intOf]; omega

theorem itoa_neg {v : Int} (h : v < -9) : Lib.itoa v = [45] ++ Lib.decDigits (-(v.tdiv 10)).toNat ++ Lib.decDigits (-(v.tmod 10)).toNat := by
  have h1 : v.tdiv 10 = -((-v) / 10) := tdiv_neg_eq v (by omega) 10
  have h2 : v.tmod 10 = -((-v) % 10) := tmod_neg_eq v (by omega) 10
  rw [h1, h2]
  unfold Lib.itoa
  rw [if_pos (by omega), Lib.decDigits.eq_def v.natAbs, dif_neg (by omega)]
  have e1 : (- -(-v / 10)).toNat = v.natAbs / 10 := by omega
  have e2 : (- -(-v % 10)).toNat = v.natAbs % 10 := by omega
  rw [e1, e2, Lib.decDigits_one (show v.natAbs % 10 < 10 by omega)]
  rfl
set_option maxRecDepth 100000 in
set_option maxHeartbeats 1000000 in
/-- a number of a valid program in decimal -/
theorem dec13_any (v : Int) (hv : -1099511627776 ≤ v ∧ v ≤ 1099511627776) (w : World) : Gives Tryd.prog 43 #[.int .i64 v] w (sV (Lib.itoa v)) := by
  obtain ⟨hv1, hv2⟩ := hv
  have hle := itoa_le (v := v) ⟨by omega, by omega⟩
  have HLE := Lib.hid hle
  unfold Gives
  by_cases h9 : v < -9
  · have h1 : v.tdiv 10 = -((-v) / 10) := tdiv_neg_eq v (by omega) 10
    have h2 : v.tmod 10 = -((-v) % 10) := tmod_neg_eq v (by omega) 10
    have HI := Lib.hid (itoa_neg h9)
    obtain ⟨q, hq⟩ : ∃ q : Nat, -(v.tdiv 10) = (q : Int) := ⟨(-(v.tdiv 10)).toNat, by omega⟩
    obtain ⟨r, hr⟩ : ∃ r : Nat, -(v.tmod 10) = (r : Int) := ⟨(-(v.tmod 10)).toNat, by omega⟩
    have HQ := Lib.hid hq
    have HR := Lib.hid hr
    have KQ := Lib.hid (fun W => show Gives Tryd.prog 69 #[.int .i64 (wrap64 (-v.tdiv 10))] W (sV (Lib.decDigits q)) from by rw [show wrap64 (-v.tdiv 10) = (q : Int) from by unfold wrap64; omega]; exact dec9_any q (by omega) W)
    have KR := Lib.hid (fun W => show Gives Tryd.prog 69 #[.int .i64 (wrap64 (-v.tmod 10))] W (sV (Lib.decDigits r)) from by rw [show wrap64 (-v.tmod 10) = (r : Int) from by unfold wrap64; omega]; exact dec9_any r (by omega) W)
    rw [hq, hr] at HI
    have HI2 := Lib.hid (show Lib.itoa v = [45] ++ Lib.decDigits q ++ Lib.decDigits r from HI.out)
    have hlq : (Lib.decDigits q).length ≤ 100 := by have := congrArg List.length HI2.out; simp only [List.length_append] at this; omega
    have hlr : (Lib.decDigits r).length ≤ 100 := by have := congrArg List.length HI2.out; simp only [List.length_append] at this; omega
    clear hq hr h1 h2 HI hle
    generalize Lib.decDigits q = dq at *
    generalize Lib.decDigits r = dr at *
    go_enter Tryd.func43, Tryd.ntmps43
    go_wp2_with fail
    refine (KQ.out _).mono ?_
    intro w1 hE1
    have HE1 := Lib.hid (show Ext w w1 from hE1)
    clear hE1
    go_wp2_with fail
    refine (KR.out _).mono ?_
    intro w2 hE2
    have HE2 := Lib.hid (Ext.trans HE1.out hE2)
    clear hE2
    go_wp2
    go_ret
    exact ⟨by rw [HI2.out]; rfl, HE2.out⟩
  · by_cases h0 : v < 0
    · have HI := Lib.hid (show Lib.itoa v = [45] ++ Lib.decDigits (-v).toNat from by unfold Lib.itoa; rw [if_pos h0, show v.natAbs = (-v).toNat from by omega]; rfl)
      obtain ⟨q, hq⟩ : ∃ q : Nat, -v = (q : Int) := ⟨(-v).toNat, by omega⟩
      have KQ := Lib.hid (fun W => show Gives Tryd.prog 69 #[.int .i64 (-v)] W (sV (Lib.decDigits q)) from by rw [hq]; exact dec9_any q (by omega) W)
      rw [hq] at HI
      have HI2 := Lib.hid (show Lib.itoa v = [45] ++ Lib.decDigits q from HI.out)
      have hlq : (Lib.decDigits q).length ≤ 100 := by have := congrArg List.length HI2.out; simp only [List.length_append] at this; omega
      clear hq HI hle
      generalize Lib.decDigits q = dq at *
      go_enter Tryd.func43, Tryd.ntmps43
      go_wp2_with fail
      refine (KQ.out _).mono ?_
      intro w1 hE1
      have HE1 := Lib.hid (show Ext w w1 from hE1)
      clear hE1
      go_wp2
      go_ret
      exact ⟨by rw [HI2.out]; rfl, HE1.out⟩
    · obtain ⟨q, rfl⟩ : ∃ q : Nat, v = (q : Int) := ⟨v.toNat, by omega⟩
      have KQ := Lib.hid (fun W => show Gives Tryd.prog 69 #[.int .i64 (q : Int)] W (sV (Lib.itoa (q : Int))) from by
        have := dec9_any q (by omega) W
        rwa [show Lib.itoa (q : Int) = Lib.decDigits q from by unfold Lib.itoa; rw [if_neg h0]; rfl])
      clear hle
      generalize Lib.itoa (q : Int) = dq at *
      go_enter Tryd.func43, Tryd.ntmps43
      go_wp2_with fail
      refine (KQ.out _).mono ?_
      intro w1 hE1
      have HE1 := Lib.hid (show Ext w w1 from hE1)
      clear hE1
      go_wp2
      go_ret
      exact ⟨rfl, HE1.out⟩
/-- what the reference's line returns -/
def refL (word : List UInt8) (l : List Int) : List UInt8 := word ++ l.flatMap (fun n => 32 :: Lib.itoa n) ++ [10]
theorem refL_take (word : List UInt8) (l : List Int) (k : Nat) (h : k < l.length) : word ++ (l.take (k + 1)).flatMap (fun n => 32 :: Lib.itoa n) = word ++ (l.take k).flatMap (fun n => 32 :: Lib.itoa n) ++ [32] ++ Lib.itoa l[k] := by
  rw [List.take_succ_eq_append_getElem h, List.flatMap_append]
  simp
theorem flat_le (l : List Int) (h : ∀ n ∈ l, -1099511627776 ≤ n ∧ n ≤ 1099511627776) : (l.flatMap (fun n => 32 :: Lib.itoa n)).length ≤ l.length * 22 := by
  induction l with
  | nil => simp
  | cons x l ih =>
    have h1 := ih (fun n hn => h n (List.mem_cons_of_mem _ hn))
    have hx := h x (by simp)
    have h2 := itoa_le (v := x) ⟨by omega, by omega⟩
    simp only [List.flatMap_cons, List.length_append, List.length_cons]
    omega
set_option maxRecDepth 100000 in
set_option maxHeartbeats 1000000 in
theorem rline_any (word : List UInt8) (l : List Int) (a : Option Addr) (c : Nat) (w : World) (hA : IntsAt w a l) (hl : l.length ≤ 1000) (hw : word.length ≤ 1000000000) (hr : ∀ n ∈ l, -1099511627776 ≤ n ∧ n ≤ 1099511627776) :
    Gives Tryd.prog 42 #[sV word, .slice a l.length c] w (sV (refL word l)) := by
  unfold Gives
  have HA := Lib.hid hA
  have HTK := Lib.hid (fun k hk => refL_take word l k hk)
  have HLE := Lib.hid (fun k (hk : k ≤ l.length) => show ((l.take k).flatMap (fun n => 32 :: Lib.itoa n)).length ≤ 22000 from by
    have h1 := flat_le (l.take k) (fun n hn => hr n (List.mem_of_mem_take hn))
    have h2 : (l.take k).length ≤ l.length := by rw [List.length_take]; omega
    omega)
  have HX := Lib.hid (show refL word l = word ++ (l.take l.length).flatMap (fun n => 32 :: Lib.itoa n) ++ [10] from by rw [List.take_length]; rfl)
  have HR := Lib.hid hr
  obtain ⟨n, hn⟩ : ∃ n, l.length = n := ⟨_, rfl⟩
  rw [hn] at HX HLE hl ⊢
  have HN := Lib.hid hn
  have HG := Lib.hid (show ∀ k, List.length ((l.take k).flatMap (fun n => 32 :: Lib.itoa n)) = List.length ((l.take k).flatMap (fun n => 32 :: Lib.itoa n)) from fun _ => rfl)
  clear hA hr hn HG
  obtain ⟨G, hG⟩ : ∃ G : Nat → List UInt8, G = fun k => (l.take k).flatMap (fun n => 32 :: Lib.itoa n) := ⟨_, rfl⟩
  have HG := Lib.hid hG
  replace HTK := Lib.hid (fun k (hk : k < l.length) => show word ++ G (k + 1) = word ++ G k ++ [32] ++ Lib.itoa l[k] from by rw [HG.out]; exact HTK.out k hk)
  replace HLE := Lib.hid (fun k (hk : k ≤ n) => show (G k).length ≤ 22000 from by rw [HG.out]; exact HLE.out k hk)
  replace HX := Lib.hid (show refL word l = word ++ G n ++ [10] from by rw [HG.out]; exact HX.out)
  have HG0 := Lib.hid (show G 0 = [] from by rw [HG.out]; rfl)
  clear hG HG
  generalize refL word l = res at *
  go_enter Tryd.func42, Tryd.ntmps42
  go_wp2
  go_loopw [0, 5] (fun s i wr => ∃ k : Nat, k ≤ n ∧ i = .int .i64 (k : Int) ∧ s = sV (word ++ G k) ∧ Ext w wr) (fun _ i _ => n - (intOf i).toNat)
  case atStart => exact ⟨0, Nat.zero_le _, rfl, by rw [HG0.out, List.append_nil], Below.refl _ _⟩
  case round =>
    obtain ⟨k, hk, rfl, rfl, hE⟩ := hrel
    have HE := Lib.hid hE
    clear hE
    have hlg := HLE.out k hk
    by_cases hlt : k < n
    · have hlk : k < l.length := by rw [HN.out]; exact hlt
      obtain ⟨b, off, rfl, c0⟩ := HA.out.below HE.out k hlk
      have HT := Lib.hid (HTK.out k hlk)
      have KD := Lib.hid (fun W => dec13_any l[k] (HR.out _ (List.getElem_mem hlk)) W)
      have hrk := HR.out _ (List.getElem_mem hlk)
      have hti := itoa_le (v := l[k]) ⟨by omega, by omega⟩
      obtain ⟨G1, hG1⟩ : ∃ x, x = G (k + 1) := ⟨_, rfl⟩
      rw [← hG1] at HT
      have HG1 := Lib.hid hG1
      clear hrk hG1
      generalize G k = gk at *
      generalize Lib.itoa l[k] = tk at *
      generalize l[k] = z at *
      clear hlk
      go_wp2_with fail
      clear c0
      refine (KD.out _).mono ?_
      intro w1 hE1
      have HE1 := Lib.hid (Ext.trans HE.out hE1)
      clear hE1
      go_wp2
      go_roundw
      case rel => exact ⟨k + 1, by omega, by go_num, by rw [← HG1.out, HT.out]; exact congrArg Value.string ((congrArg (· ++ sB tk) (sB_app _ [32])).trans (sB_app _ _)), HE1.out⟩
      case measure => simp [intOf]; omega
    · obtain rfl : k = n := by omega
      generalize G k = gk at *
      go_wp2
      go_ret
      exact ⟨by rw [HX.out]; rfl, HE.out⟩
end Go.Proofs.YtfkjokbhnblndaaDoor

namespace Go.Proofs.YtfkjokbhnblndaaDoor
open Go.RowKit Go.Shelf
set_option linter.unusedVariables false
set_option linter.unusedSimpArgs false
theorem opL0 (j : Nat) (h : j < 22) : (#[.string { data := #[] }, .string { data := #[99, 111, 110, 115, 116] }, .string { data := #[109, 111, 118, 101] }, .string { data := #[97, 100, 100] }, .string { data := #[115, 117, 98] }, .string { data := #[109, 117, 108] }, .string { data := #[100, 105, 118] }, .string { data := #[109, 111, 100] }, .string { data := #[101, 113, 117, 97, 108] }, .string { data := #[108, 101, 115, 115] }, .string { data := #[97, 110, 100] }, .string { data := #[111, 114] }, .string { data := #[110, 111, 116] }, .string { data := #[106, 117, 109, 112] }, .string { data := #[106, 117, 109, 112, 117, 110, 108, 101, 115, 115] }, .string { data := #[99, 97, 108, 108] }, .string { data := #[114, 101, 116, 117, 114, 110] }, .string { data := #[100, 101, 102, 101, 114] }, .string { data := #[109, 97, 115, 107] }, .string { data := #[117, 110, 109, 97, 115, 107] }, .string { data := #[97, 115, 115, 101, 114, 116] }, .string { data := #[102, 97, 105, 108] }] : Array Value)[j]? = some (sV (opName ((j : Int) + 0))) := by
  rcases (by omega : j = 0 ∨ j = 1 ∨ j = 2 ∨ j = 3 ∨ j = 4 ∨ j = 5 ∨ j = 6 ∨ j = 7 ∨ j = 8 ∨ j = 9 ∨ j = 10 ∨ j = 11 ∨ j = 12 ∨ j = 13 ∨ j = 14 ∨ j = 15 ∨ j = 16 ∨ j = 17 ∨ j = 18 ∨ j = 19 ∨ j = 20 ∨ j = 21) with rfl | rfl | rfl | rfl | rfl | rfl | rfl | rfl | rfl | rfl | rfl | rfl | rfl | rfl | rfl | rfl | rfl | rfl | rfl | rfl | rfl | rfl <;> rfl
theorem opL1 (j : Nat) (h : j < 14) : (#[.string { data := #[108, 111, 97, 100] }, .string { data := #[115, 116, 111, 114, 101] }, .string { data := #[102, 101, 116, 99, 104, 97, 100, 100] }, .string { data := #[99, 111, 109, 112, 97, 114, 101, 115, 119, 97, 112] }, .string { data := #[115, 112, 97, 119, 110] }, .string { data := #[111, 112, 101, 110] }, .string { data := #[99, 108, 111, 115, 101] }, .string { data := #[99, 97, 110, 99, 101, 108] }, .string { data := #[99, 104, 101, 99, 107, 112, 111, 105, 110, 116] }, .string { data := #[121, 105, 101, 108, 100] }, .string { data := #[115, 108, 101, 101, 112] }, .string { data := #[101, 109, 105, 116] }, .string { data := #[98, 101, 103, 105, 110] }, .string { data := #[101, 110, 100] }] : Array Value)[j]? = some (sV (opName ((j : Int) + 30))) := by
  rcases (by omega : j = 0 ∨ j = 1 ∨ j = 2 ∨ j = 3 ∨ j = 4 ∨ j = 5 ∨ j = 6 ∨ j = 7 ∨ j = 8 ∨ j = 9 ∨ j = 10 ∨ j = 11 ∨ j = 12 ∨ j = 13) with rfl | rfl | rfl | rfl | rfl | rfl | rfl | rfl | rfl | rfl | rfl | rfl | rfl | rfl <;> rfl
theorem opL2 (j : Nat) (h : j < 25) : (#[.string { data := #[108, 111, 99, 107] }, .string { data := #[116, 114, 121, 108, 111, 99, 107] }, .string { data := #[117, 110, 108, 111, 99, 107] }, .string { data := #[114, 101, 97, 100, 108, 111, 99, 107] }, .string { data := #[114, 101, 97, 100, 117, 110, 108, 111, 99, 107] }, .string { data := #[119, 114, 105, 116, 101, 108, 111, 99, 107] }, .string { data := #[119, 114, 105, 116, 101, 117, 110, 108, 111, 99, 107] }, .string { data := #[119, 97, 105, 116] }, .string { data := #[115, 105, 103, 110, 97, 108] }, .string { data := #[98, 114, 111, 97, 100, 99, 97, 115, 116] }, .string { data := #[97, 99, 113, 117, 105, 114, 101] }, .string { data := #[116, 114, 121, 97, 99, 113, 117, 105, 114, 101] }, .string { data := #[114, 101, 108, 101, 97, 115, 101] }, .string { data := #[97, 114, 114, 105, 118, 101] }, .string { data := #[115, 101, 110, 100] }, .string { data := #[114, 101, 99, 101, 105, 118, 101] }, .string { data := #[99, 108, 111, 115, 101, 99, 104, 97, 110, 110, 101, 108] }, .string { data := #[115, 101, 108, 101, 99, 116] }, .string { data := #[112, 117, 98, 108, 105, 115, 104] }, .string { data := #[115, 117, 98, 115, 99, 114, 105, 98, 101] }, .string { data := #[110, 101, 120, 116] }, .string { data := #[117, 110, 115, 117, 98, 115, 99, 114, 105, 98, 101] }, .string { data := #[116, 97, 107, 101] }, .string { data := #[99, 111, 109, 112, 108, 101, 116, 101] }, .string { data := #[97, 119, 97, 105, 116] }] : Array Value)[j]? = some (sV (opName ((j : Int) + 50))) := by
  rcases (by omega : j = 0 ∨ j = 1 ∨ j = 2 ∨ j = 3 ∨ j = 4 ∨ j = 5 ∨ j = 6 ∨ j = 7 ∨ j = 8 ∨ j = 9 ∨ j = 10 ∨ j = 11 ∨ j = 12 ∨ j = 13 ∨ j = 14 ∨ j = 15 ∨ j = 16 ∨ j = 17 ∨ j = 18 ∨ j = 19 ∨ j = 20 ∨ j = 21 ∨ j = 22 ∨ j = 23 ∨ j = 24) with rfl | rfl | rfl | rfl | rfl | rfl | rfl | rfl | rfl | rfl | rfl | rfl | rfl | rfl | rfl | rfl | rfl | rfl | rfl | rfl | rfl | rfl | rfl | rfl | rfl <;> rfl
set_option maxRecDepth 100000 in
set_option maxHeartbeats 2000000 in
theorem opName_r0 (j : Nat) (hj : j < 22) (w : World) : Gives Tryd.prog 44 #[.int .i64 (j : Int)] w (sV (opName ((j : Int) + 0))) := by
  unfold Gives
  have HL := Lib.hid (opL0 j hj)
  generalize opName ((j : Int) + 0) = nm at *
  go_enter Tryd.func44, Tryd.ntmps44
  go_upto_region 2 with fail
  obtain ⟨w1, hw1⟩ : ∃ W, W = w.alloc (.cells #[.string { data := #[] }, .string { data := #[99, 111, 110, 115, 116] }, .string { data := #[109, 111, 118, 101] }, .string { data := #[97, 100, 100] }, .string { data := #[115, 117, 98] }, .string { data := #[109, 117, 108] }, .string { data := #[100, 105, 118] }, .string { data := #[109, 111, 100] }, .string { data := #[101, 113, 117, 97, 108] }, .string { data := #[108, 101, 115, 115] }, .string { data := #[97, 110, 100] }, .string { data := #[111, 114] }, .string { data := #[110, 111, 116] }, .string { data := #[106, 117, 109, 112] }, .string { data := #[106, 117, 109, 112, 117, 110, 108, 101, 115, 115] }, .string { data := #[99, 97, 108, 108] }, .string { data := #[114, 101, 116, 117, 114, 110] }, .string { data := #[100, 101, 102, 101, 114] }, .string { data := #[109, 97, 115, 107] }, .string { data := #[117, 110, 109, 97, 115, 107] }, .string { data := #[97, 115, 115, 101, 114, 116] }, .string { data := #[102, 97, 105, 108] }] 9) := ⟨_, rfl⟩
  obtain ⟨g0, hg0⟩ : ∃ g, g = w.heap.size := ⟨_, rfl⟩
  have HB0 := Lib.hid (show w1.heap[g0]? = some (.cells #[.string { data := #[] }, .string { data := #[99, 111, 110, 115, 116] }, .string { data := #[109, 111, 118, 101] }, .string { data := #[97, 100, 100] }, .string { data := #[115, 117, 98] }, .string { data := #[109, 117, 108] }, .string { data := #[100, 105, 118] }, .string { data := #[109, 111, 100] }, .string { data := #[101, 113, 117, 97, 108] }, .string { data := #[108, 101, 115, 115] }, .string { data := #[97, 110, 100] }, .string { data := #[111, 114] }, .string { data := #[110, 111, 116] }, .string { data := #[106, 117, 109, 112] }, .string { data := #[106, 117, 109, 112, 117, 110, 108, 101, 115, 115] }, .string { data := #[99, 97, 108, 108] }, .string { data := #[114, 101, 116, 117, 114, 110] }, .string { data := #[100, 101, 102, 101, 114] }, .string { data := #[109, 97, 115, 107] }, .string { data := #[117, 110, 109, 97, 115, 107] }, .string { data := #[97, 115, 115, 101, 114, 116] }, .string { data := #[102, 97, 105, 108] }] 9 (0, 0)) from by rw [hw1, hg0]; exact alloc_here _ _)
  have HX0 := Lib.hid (show Ext w w1 from by rw [hw1]; exact ext_alloc (Below.refl _ _) _)
  rw [← hw1, ← hg0]
  clear hw1 hg0
  have t1 : (j : Int) < 22 := by omega
  have c0 : w1.cell? ⟨g0, j, none⟩ = some (sV nm) := cell_of HB0.out HL.out
  go_wp2
  go_ret
  exact ⟨rfl, HX0.out⟩
set_option maxRecDepth 100000 in
set_option maxHeartbeats 2000000 in
theorem opName_r1 (j : Nat) (hj : j < 14) (w : World) : Gives Tryd.prog 44 #[.int .i64 ((j : Int) + 30)] w (sV (opName ((j : Int) + 30))) := by
  unfold Gives
  have HL := Lib.hid (opL1 j hj)
  generalize opName ((j : Int) + 30) = nm at *
  go_enter Tryd.func44, Tryd.ntmps44
  go_upto_region 2 with fail
  obtain ⟨w1, hw1⟩ : ∃ W, W = w.alloc (.cells #[.string { data := #[] }, .string { data := #[99, 111, 110, 115, 116] }, .string { data := #[109, 111, 118, 101] }, .string { data := #[97, 100, 100] }, .string { data := #[115, 117, 98] }, .string { data := #[109, 117, 108] }, .string { data := #[100, 105, 118] }, .string { data := #[109, 111, 100] }, .string { data := #[101, 113, 117, 97, 108] }, .string { data := #[108, 101, 115, 115] }, .string { data := #[97, 110, 100] }, .string { data := #[111, 114] }, .string { data := #[110, 111, 116] }, .string { data := #[106, 117, 109, 112] }, .string { data := #[106, 117, 109, 112, 117, 110, 108, 101, 115, 115] }, .string { data := #[99, 97, 108, 108] }, .string { data := #[114, 101, 116, 117, 114, 110] }, .string { data := #[100, 101, 102, 101, 114] }, .string { data := #[109, 97, 115, 107] }, .string { data := #[117, 110, 109, 97, 115, 107] }, .string { data := #[97, 115, 115, 101, 114, 116] }, .string { data := #[102, 97, 105, 108] }] 9) := ⟨_, rfl⟩
  obtain ⟨g0, hg0⟩ : ∃ g, g = w.heap.size := ⟨_, rfl⟩
  have HB0 := Lib.hid (show w1.heap[g0]? = some (.cells #[.string { data := #[] }, .string { data := #[99, 111, 110, 115, 116] }, .string { data := #[109, 111, 118, 101] }, .string { data := #[97, 100, 100] }, .string { data := #[115, 117, 98] }, .string { data := #[109, 117, 108] }, .string { data := #[100, 105, 118] }, .string { data := #[109, 111, 100] }, .string { data := #[101, 113, 117, 97, 108] }, .string { data := #[108, 101, 115, 115] }, .string { data := #[97, 110, 100] }, .string { data := #[111, 114] }, .string { data := #[110, 111, 116] }, .string { data := #[106, 117, 109, 112] }, .string { data := #[106, 117, 109, 112, 117, 110, 108, 101, 115, 115] }, .string { data := #[99, 97, 108, 108] }, .string { data := #[114, 101, 116, 117, 114, 110] }, .string { data := #[100, 101, 102, 101, 114] }, .string { data := #[109, 97, 115, 107] }, .string { data := #[117, 110, 109, 97, 115, 107] }, .string { data := #[97, 115, 115, 101, 114, 116] }, .string { data := #[102, 97, 105, 108] }] 9 (0, 0)) from by rw [hw1, hg0]; exact alloc_here _ _)
  have HX0 := Lib.hid (show Ext w w1 from by rw [hw1]; exact ext_alloc (Below.refl _ _) _)
  rw [← hw1, ← hg0]
  clear hw1 hg0
  have t1 : ¬ (j : Int) + 30 < 22 := by omega
  go_upto_region 5 with fail
  obtain ⟨w2, hw2⟩ : ∃ W, W = w1.alloc (.cells #[.string { data := #[108, 111, 97, 100] }, .string { data := #[115, 116, 111, 114, 101] }, .string { data := #[102, 101, 116, 99, 104, 97, 100, 100] }, .string { data := #[99, 111, 109, 112, 97, 114, 101, 115, 119, 97, 112] }, .string { data := #[115, 112, 97, 119, 110] }, .string { data := #[111, 112, 101, 110] }, .string { data := #[99, 108, 111, 115, 101] }, .string { data := #[99, 97, 110, 99, 101, 108] }, .string { data := #[99, 104, 101, 99, 107, 112, 111, 105, 110, 116] }, .string { data := #[121, 105, 101, 108, 100] }, .string { data := #[115, 108, 101, 101, 112] }, .string { data := #[101, 109, 105, 116] }, .string { data := #[98, 101, 103, 105, 110] }, .string { data := #[101, 110, 100] }] 9) := ⟨_, rfl⟩
  obtain ⟨g1, hg1⟩ : ∃ g, g = w1.heap.size := ⟨_, rfl⟩
  have HB1 := Lib.hid (show w2.heap[g1]? = some (.cells #[.string { data := #[108, 111, 97, 100] }, .string { data := #[115, 116, 111, 114, 101] }, .string { data := #[102, 101, 116, 99, 104, 97, 100, 100] }, .string { data := #[99, 111, 109, 112, 97, 114, 101, 115, 119, 97, 112] }, .string { data := #[115, 112, 97, 119, 110] }, .string { data := #[111, 112, 101, 110] }, .string { data := #[99, 108, 111, 115, 101] }, .string { data := #[99, 97, 110, 99, 101, 108] }, .string { data := #[99, 104, 101, 99, 107, 112, 111, 105, 110, 116] }, .string { data := #[121, 105, 101, 108, 100] }, .string { data := #[115, 108, 101, 101, 112] }, .string { data := #[101, 109, 105, 116] }, .string { data := #[98, 101, 103, 105, 110] }, .string { data := #[101, 110, 100] }] 9 (0, 0)) from by rw [hw2, hg1]; exact alloc_here _ _)
  have HX1 := Lib.hid (show Ext w1 w2 from by rw [hw2]; exact ext_alloc (Below.refl _ _) _)
  rw [← hw2, ← hg1]
  clear hw2 hg1
  have t2 : (j : Int) + 30 < 50 := by omega
  have c0 : w2.cell? ⟨g1, j, none⟩ = some (sV nm) := cell_of HB1.out HL.out
  go_wp2
  go_ret
  exact ⟨rfl, Ext.trans HX0.out HX1.out⟩
set_option maxRecDepth 100000 in
set_option maxHeartbeats 2000000 in
theorem opName_r2 (j : Nat) (hj : j < 25) (w : World) : Gives Tryd.prog 44 #[.int .i64 ((j : Int) + 50)] w (sV (opName ((j : Int) + 50))) := by
  unfold Gives
  have HL := Lib.hid (opL2 j hj)
  generalize opName ((j : Int) + 50) = nm at *
  go_enter Tryd.func44, Tryd.ntmps44
  go_upto_region 2 with fail
  obtain ⟨w1, hw1⟩ : ∃ W, W = w.alloc (.cells #[.string { data := #[] }, .string { data := #[99, 111, 110, 115, 116] }, .string { data := #[109, 111, 118, 101] }, .string { data := #[97, 100, 100] }, .string { data := #[115, 117, 98] }, .string { data := #[109, 117, 108] }, .string { data := #[100, 105, 118] }, .string { data := #[109, 111, 100] }, .string { data := #[101, 113, 117, 97, 108] }, .string { data := #[108, 101, 115, 115] }, .string { data := #[97, 110, 100] }, .string { data := #[111, 114] }, .string { data := #[110, 111, 116] }, .string { data := #[106, 117, 109, 112] }, .string { data := #[106, 117, 109, 112, 117, 110, 108, 101, 115, 115] }, .string { data := #[99, 97, 108, 108] }, .string { data := #[114, 101, 116, 117, 114, 110] }, .string { data := #[100, 101, 102, 101, 114] }, .string { data := #[109, 97, 115, 107] }, .string { data := #[117, 110, 109, 97, 115, 107] }, .string { data := #[97, 115, 115, 101, 114, 116] }, .string { data := #[102, 97, 105, 108] }] 9) := ⟨_, rfl⟩
  obtain ⟨g0, hg0⟩ : ∃ g, g = w.heap.size := ⟨_, rfl⟩
  have HB0 := Lib.hid (show w1.heap[g0]? = some (.cells #[.string { data := #[] }, .string { data := #[99, 111, 110, 115, 116] }, .string { data := #[109, 111, 118, 101] }, .string { data := #[97, 100, 100] }, .string { data := #[115, 117, 98] }, .string { data := #[109, 117, 108] }, .string { data := #[100, 105, 118] }, .string { data := #[109, 111, 100] }, .string { data := #[101, 113, 117, 97, 108] }, .string { data := #[108, 101, 115, 115] }, .string { data := #[97, 110, 100] }, .string { data := #[111, 114] }, .string { data := #[110, 111, 116] }, .string { data := #[106, 117, 109, 112] }, .string { data := #[106, 117, 109, 112, 117, 110, 108, 101, 115, 115] }, .string { data := #[99, 97, 108, 108] }, .string { data := #[114, 101, 116, 117, 114, 110] }, .string { data := #[100, 101, 102, 101, 114] }, .string { data := #[109, 97, 115, 107] }, .string { data := #[117, 110, 109, 97, 115, 107] }, .string { data := #[97, 115, 115, 101, 114, 116] }, .string { data := #[102, 97, 105, 108] }] 9 (0, 0)) from by rw [hw1, hg0]; exact alloc_here _ _)
  have HX0 := Lib.hid (show Ext w w1 from by rw [hw1]; exact ext_alloc (Below.refl _ _) _)
  rw [← hw1, ← hg0]
  clear hw1 hg0
  have t1 : ¬ (j : Int) + 50 < 22 := by omega
  go_upto_region 5 with fail
  obtain ⟨w2, hw2⟩ : ∃ W, W = w1.alloc (.cells #[.string { data := #[108, 111, 97, 100] }, .string { data := #[115, 116, 111, 114, 101] }, .string { data := #[102, 101, 116, 99, 104, 97, 100, 100] }, .string { data := #[99, 111, 109, 112, 97, 114, 101, 115, 119, 97, 112] }, .string { data := #[115, 112, 97, 119, 110] }, .string { data := #[111, 112, 101, 110] }, .string { data := #[99, 108, 111, 115, 101] }, .string { data := #[99, 97, 110, 99, 101, 108] }, .string { data := #[99, 104, 101, 99, 107, 112, 111, 105, 110, 116] }, .string { data := #[121, 105, 101, 108, 100] }, .string { data := #[115, 108, 101, 101, 112] }, .string { data := #[101, 109, 105, 116] }, .string { data := #[98, 101, 103, 105, 110] }, .string { data := #[101, 110, 100] }] 9) := ⟨_, rfl⟩
  obtain ⟨g1, hg1⟩ : ∃ g, g = w1.heap.size := ⟨_, rfl⟩
  have HB1 := Lib.hid (show w2.heap[g1]? = some (.cells #[.string { data := #[108, 111, 97, 100] }, .string { data := #[115, 116, 111, 114, 101] }, .string { data := #[102, 101, 116, 99, 104, 97, 100, 100] }, .string { data := #[99, 111, 109, 112, 97, 114, 101, 115, 119, 97, 112] }, .string { data := #[115, 112, 97, 119, 110] }, .string { data := #[111, 112, 101, 110] }, .string { data := #[99, 108, 111, 115, 101] }, .string { data := #[99, 97, 110, 99, 101, 108] }, .string { data := #[99, 104, 101, 99, 107, 112, 111, 105, 110, 116] }, .string { data := #[121, 105, 101, 108, 100] }, .string { data := #[115, 108, 101, 101, 112] }, .string { data := #[101, 109, 105, 116] }, .string { data := #[98, 101, 103, 105, 110] }, .string { data := #[101, 110, 100] }] 9 (0, 0)) from by rw [hw2, hg1]; exact alloc_here _ _)
  have HX1 := Lib.hid (show Ext w1 w2 from by rw [hw2]; exact ext_alloc (Below.refl _ _) _)
  rw [← hw2, ← hg1]
  clear hw2 hg1
  have t2 : ¬ (j : Int) + 50 < 50 := by omega
  go_upto_region 8 with fail
  obtain ⟨w3, hw3⟩ : ∃ W, W = w2.alloc (.cells #[.string { data := #[108, 111, 99, 107] }, .string { data := #[116, 114, 121, 108, 111, 99, 107] }, .string { data := #[117, 110, 108, 111, 99, 107] }, .string { data := #[114, 101, 97, 100, 108, 111, 99, 107] }, .string { data := #[114, 101, 97, 100, 117, 110, 108, 111, 99, 107] }, .string { data := #[119, 114, 105, 116, 101, 108, 111, 99, 107] }, .string { data := #[119, 114, 105, 116, 101, 117, 110, 108, 111, 99, 107] }, .string { data := #[119, 97, 105, 116] }, .string { data := #[115, 105, 103, 110, 97, 108] }, .string { data := #[98, 114, 111, 97, 100, 99, 97, 115, 116] }, .string { data := #[97, 99, 113, 117, 105, 114, 101] }, .string { data := #[116, 114, 121, 97, 99, 113, 117, 105, 114, 101] }, .string { data := #[114, 101, 108, 101, 97, 115, 101] }, .string { data := #[97, 114, 114, 105, 118, 101] }, .string { data := #[115, 101, 110, 100] }, .string { data := #[114, 101, 99, 101, 105, 118, 101] }, .string { data := #[99, 108, 111, 115, 101, 99, 104, 97, 110, 110, 101, 108] }, .string { data := #[115, 101, 108, 101, 99, 116] }, .string { data := #[112, 117, 98, 108, 105, 115, 104] }, .string { data := #[115, 117, 98, 115, 99, 114, 105, 98, 101] }, .string { data := #[110, 101, 120, 116] }, .string { data := #[117, 110, 115, 117, 98, 115, 99, 114, 105, 98, 101] }, .string { data := #[116, 97, 107, 101] }, .string { data := #[99, 111, 109, 112, 108, 101, 116, 101] }, .string { data := #[97, 119, 97, 105, 116] }] 9) := ⟨_, rfl⟩
  obtain ⟨g2, hg2⟩ : ∃ g, g = w2.heap.size := ⟨_, rfl⟩
  have HB2 := Lib.hid (show w3.heap[g2]? = some (.cells #[.string { data := #[108, 111, 99, 107] }, .string { data := #[116, 114, 121, 108, 111, 99, 107] }, .string { data := #[117, 110, 108, 111, 99, 107] }, .string { data := #[114, 101, 97, 100, 108, 111, 99, 107] }, .string { data := #[114, 101, 97, 100, 117, 110, 108, 111, 99, 107] }, .string { data := #[119, 114, 105, 116, 101, 108, 111, 99, 107] }, .string { data := #[119, 114, 105, 116, 101, 117, 110, 108, 111, 99, 107] }, .string { data := #[119, 97, 105, 116] }, .string { data := #[115, 105, 103, 110, 97, 108] }, .string { data := #[98, 114, 111, 97, 100, 99, 97, 115, 116] }, .string { data := #[97, 99, 113, 117, 105, 114, 101] }, .string { data := #[116, 114, 121, 97, 99, 113, 117, 105, 114, 101] }, .string { data := #[114, 101, 108, 101, 97, 115, 101] }, .string { data := #[97, 114, 114, 105, 118, 101] }, .string { data := #[115, 101, 110, 100] }, .string { data := #[114, 101, 99, 101, 105, 118, 101] }, .string { data := #[99, 108, 111, 115, 101, 99, 104, 97, 110, 110, 101, 108] }, .string { data := #[115, 101, 108, 101, 99, 116] }, .string { data := #[112, 117, 98, 108, 105, 115, 104] }, .string { data := #[115, 117, 98, 115, 99, 114, 105, 98, 101] }, .string { data := #[110, 101, 120, 116] }, .string { data := #[117, 110, 115, 117, 98, 115, 99, 114, 105, 98, 101] }, .string { data := #[116, 97, 107, 101] }, .string { data := #[99, 111, 109, 112, 108, 101, 116, 101] }, .string { data := #[97, 119, 97, 105, 116] }] 9 (0, 0)) from by rw [hw3, hg2]; exact alloc_here _ _)
  have HX2 := Lib.hid (show Ext w2 w3 from by rw [hw3]; exact ext_alloc (Below.refl _ _) _)
  rw [← hw3, ← hg2]
  clear hw3 hg2
  have c0 : w3.cell? ⟨g2, j, none⟩ = some (sV nm) := cell_of HB2.out HL.out
  go_wp2
  go_ret
  exact ⟨rfl, Ext.trans HX0.out (Ext.trans HX1.out HX2.out)⟩
theorem shTab_rng : ∀ q ∈ shTab, (0 ≤ q.1 ∧ q.1 < 22) ∨ (30 ≤ q.1 ∧ q.1 < 44) ∨ (50 ≤ q.1 ∧ q.1 < 75) := by decide
/-- the name of an operation -/
theorem opName_any (k : Int) (s : Sh) (h : shp k = some s) (w : World) : Gives Tryd.prog 44 #[.int .i64 k] w (sV (opName k)) := by
  have hm := shTab_rng _ (shp_some k s h)
  dsimp only at hm
  rcases hm with ⟨h1, h2⟩ | ⟨h1, h2⟩ | ⟨h1, h2⟩
  · obtain ⟨j, rfl⟩ : ∃ j : Nat, k = j := ⟨k.toNat, by omega⟩
    have := opName_r0 j (by omega) w
    rwa [Int.add_zero] at this
  · obtain ⟨j, rfl⟩ : ∃ j : Nat, k = (j : Int) + 30 := ⟨(k - 30).toNat, by omega⟩
    exact opName_r1 j (by omega) w
  · obtain ⟨j, rfl⟩ : ∃ j : Nat, k = (j : Int) + 50 := ⟨(k - 50).toNat, by omega⟩
    exact opName_r2 j (by omega) w
end Go.Proofs.YtfkjokbhnblndaaDoor

namespace Go.Proofs.YtfkjokbhnblndaaDoor
open Go.RowKit Go.Shelf
set_option linter.unusedVariables false
set_option linter.unusedSimpArgs false

theorem infoInt7 : (Tryd.prog.info? 3).map (fun i => (i.zero, i.size, i.bytes)) = some (some (.int .i64 0), 1, 8) := by kernel_rfl
theorem int_app_none (W : World) (g n c : Nat) : (Builtin.append_ #[54, 54] 54 #[.slice (some ⟨g, 0, none⟩) n n, .slice none 0 c]).run Tryd.prog W = .ok (.slice (some ⟨g, 0, none⟩) n n) W := by
  obtain ⟨i0, hi, hz0, hz1, hz2⟩ := info_parts infoInt7
  simp [Builtin.append_, run_underlying Tryd.underlying54, sizeOf, typeInfo, hi, Builtin.lenOf, Builtin.firstCells, storeCells, Result.andThen]
/-- append to a slice that is full -/
theorem int_app_full (W : World) (g c : Nat) (x : Option Addr) (l ml : List Int) (hg : W.heap[g]? = some (.cells (l.map (Value.int .i64)).toArray 3 (0, 0))) (hx : IntsAt W x ml) (hl : l.length ≤ 1000) (hm : ml.length ≤ 1000) :
    ∃ p cap W', (Builtin.append_ #[54, 54] 54 #[.slice (some ⟨g, 0, none⟩) l.length l.length, .slice x ml.length c]).run Tryd.prog W = .ok (.slice p (l ++ ml).length cap) W' ∧ IntsAt W' p (l ++ ml) ∧ Ext W W' := by
  obtain ⟨i0, hi, hz0, hz1, hz2⟩ := info_parts infoInt7
  have hown : W.ownsRow 0 3 1 (.slice (some ⟨g, 0, none⟩) l.length l.length) l.length (l.map (Value.int .i64)) :=
    ⟨by simp, .inr ⟨g, l.length, _, rfl, Nat.zero_le _, hg, Nat.le_refl _, by unfold maxLen; omega, by simp, by simp [List.take_of_length_le]⟩⟩
  by_cases h0 : ml = []
  · subst h0
    refine ⟨some ⟨g, 0, none⟩, l.length, W, ?_, fun i hi => ⟨g, 0, rfl, ?_⟩, Below.refl _ _⟩
    · rw [List.append_nil]
      cases x with
      | none => exact int_app_none W g l.length c
      | some a =>
        have h1 := run_append_room (P := Tryd.prog) W 54 54 3 i0 Tryd.underlying54 hi g l.length l.length _ hg a 0 c [] (by simp) (fun j u hu => by simp at hu) (fun u hu => by cases hu) (by omega) (by rw [hz1]; simp)
        have e : (List.take (l.length * i0.size) (List.map (Value.int .i64) l).toArray.toList ++ [] ++ List.drop (l.length * i0.size + ([] : List Value).length) (List.map (Value.int .i64) l).toArray.toList).toArray = (l.map (Value.int .i64)).toArray := by
          rw [List.append_nil, List.length_nil, Nat.add_zero, List.take_append_drop]
        have e0 : l.length + 0 = l.length := Nat.add_zero _
        have e1 := setRow_self W g _ _ _ hg
        rw [e, e1, e0] at h1
        exact h1
    · rw [Nat.zero_add]
      have hi' : i < l.length := by simpa using hi
      refine cell_of hg ?_
      simp [hi']
  · obtain ⟨b, off, hxa, _⟩ := hx 0 (List.length_pos_iff.2 h0)
    have hnews : ∀ j u, (ml.map (Value.int .i64))[j]? = some u → W.cell? ((⟨b, off, none⟩ : Addr).add j) = some u := by
      intro j u hu
      have hj : j < ml.length := by have := (List.getElem?_eq_some_iff.1 hu).1; simpa using this
      obtain ⟨b', off', e', hc⟩ := hx j hj
      rw [hxa] at e'
      cases e'
      have e : (⟨b, off, none⟩ : Addr).add j = ⟨b, off + j, none⟩ := by unfold Addr.add; split <;> simp_all
      rw [e, hc]
      simpa [hj] using hu
    have hpos : 0 < ml.length := List.length_pos_iff.2 h0
    have hr2 := run_append_grow (P := Tryd.prog) W 54 54 3 i0 _ Tryd.underlying54 hi hz0 ⟨g, 0, none⟩ l.length l.length (l.map (Value.int .i64)) (by rw [hz1]; simp) (World.ownsRow.cells (g := g) hown rfl) ⟨b, off, none⟩ ml.length c (ml.map (Value.int .i64)) (by rw [hz1]; simp) hnews (by omega) (by omega) (growslice_fits (by omega) (by rw [hz2]; omega))
    rw [hxa]
    refine ⟨_, _, _, by rw [List.length_append]; exact hr2, fun i hi => ⟨_, _, rfl, ?_⟩, ?_⟩
    · rw [Nat.zero_add]
      refine cell_of (alloc_here _ _) ?_
      have hi' : i < (l ++ ml).length := hi
      have e9 : (l.map (Value.int .i64)).toArray ++ (ml.map (Value.int .i64)).toArray = ((l ++ ml).map (Value.int .i64)).toArray := by simp
      have h9 : i < ((l ++ ml).map (Value.int .i64)).toArray.size := by simpa using hi'
      rw [e9, Array.getElem?_append_left h9, List.getElem?_toArray, List.getElem?_map, List.getElem?_eq_getElem hi']
      rfl
    · exact (Below.refl _ W).drew.alloc (Nat.le_refl _) _

theorem va_ref (p : Pg) {i : Nat} (h : i < p.vs.length) : vaTxt p i = refL (pick2 (p.vs[i]).atomic [97, 116, 111, 109, 105, 99, 32] [118, 97, 114, 32] ++ (p.vs[i]).name ++ [32, 61]) [(p.vs[i]).init] := by
  unfold vaTxt
  rw [vaAt_eq h]
  cases hb : (p.vs[i]).atomic <;> simp [varWd, lineB, wdsB, refL, Wd.txt, pick2, hb]
theorem ob_ref (p : Pg) {i : Nat} (h : i < p.os.length) : obTxt p i = refL (kindNm (p.os[i]).kind ++ [32] ++ (p.os[i]).name) [(p.os[i]).size, (p.os[i]).oth] := by
  unfold obTxt
  rw [obAt_eq h]
  simp [obWd, lineB, wdsB, refL, Wd.txt]
theorem fn_ref (f : Fn) : lineB (fnWd f) = refL (pick2 f.cl [99, 108, 101, 97, 110, 117, 112, 32] [102, 117, 110, 99, 32] ++ f.name) [f.params, f.regs, f.prio] := by
  cases hb : f.cl <;> simp [fnWd, lineB, wdsB, refL, Wd.txt, pick2, hb]
theorem ins_ref (k : Nat) (c : Ins) : lineB (insWd k c) = refL (Lib.itoa (k : Int) ++ [32] ++ opName c.op) ([c.a, c.b, c.c] ++ c.args) := by
  simp only [insWd, lineB, wdsB, refL, Wd.txt, List.flatMap_append, List.flatMap_map, List.cons_append, List.nil_append, List.flatMap_cons, List.flatMap_nil, List.append_assoc, List.append_nil]
abbrev small (n : Int) : Prop := -1099511627776 ≤ n ∧ n ≤ 1099511627776
theorem ite_then {c : Prop} [Decidable c] {x y : Int} {P : Prop} (h : (if c then x else y) = 0) (h1 : c → x = 0 → P) (h2 : ¬ c → y = 0 → P) : P := by
  by_cases hc : c
  · rw [if_pos hc] at h; exact h1 hc h
  · rw [if_neg hc] at h; exact h2 hc h
theorem opd_small {p : Pg} (h : Valid p) {f : Fn} (hr : f.regs ≤ 32) (hc : f.code.length ≤ 200) {o : Opd} {n : Int} (hk : ckOpd p f o n = 0) : small n := by
  have h1 := h.f2
  have h2 := h.o2
  have h3 := h.v2
  have A : ∀ {a b : Int} {x y : Int}, (if inB n a b then x else y) = 0 → y ≠ 0 → -1099511627776 ≤ a → b ≤ 1099511627776 → small n := fun {a b x y} e hy ha hb => by
    cases hB : inB n a b with
    | true => have := inB_iff.1 hB; exact ⟨by omega, by omega⟩
    | false => rw [hB] at e; exact absurd e hy
  unfold ckOpd at hk
  refine ite_then hk (fun _ hk => ite_then hk (fun e _ => by subst e; exact ⟨by decide, by decide⟩) (fun _ hk => by cases hk)) fun _ hk => ?_
  refine ite_then hk (fun _ hk => A hk (by decide) (by omega) (by omega)) fun _ hk => ?_
  refine ite_then hk (fun _ hk => A hk (by decide) (by omega) (by omega)) fun _ hk => ?_
  refine ite_then hk (fun _ hk => A hk (by decide) (by omega) (by omega)) fun _ hk => ?_
  refine ite_then hk (fun _ hk => A hk (by decide) (by omega) (by omega)) fun _ hk => ?_
  refine ite_then hk (fun _ hk => A hk (by decide) (by omega) (by omega)) fun _ hk => ?_
  refine ite_then hk (fun _ hk => A hk (by decide) (by omega) (by omega)) fun _ hk => ?_
  refine ite_then hk (fun _ hk => A hk (by decide) (by omega) (by omega)) fun _ hk => ?_
  refine ite_then hk (fun _ hk => A hk (by decide) (by omega) (by omega)) fun _ hk => ?_
  refine ite_then hk (fun _ hk => A hk (by decide) (by omega) (by omega)) fun _ hk => ?_
  exact A hk (by decide) (by omega) (by omega)
theorem case_small {p : Pg} (h : Valid p) {f : Fn} (hr : f.regs ≤ 32) (hc : f.code.length ≤ 200) {k ch r : Int} (hk : ckCase p f k ch r = 0) : small k ∧ small ch ∧ small r := by
  unfold ckCase at hk
  split at hk
  · rename_i e
    split at hk
    · cases hk
    · rename_i e2
      have e3 : ch = 0 := Classical.byContradiction fun hn => e2 (.inl hn)
      have e4 : r = 0 := Classical.byContradiction fun hn => e2 (.inr hn)
      subst e e3 e4
      exact ⟨⟨by decide, by decide⟩, ⟨by decide, by decide⟩, ⟨by decide, by decide⟩⟩
  · split at hk
    · rename_i e0 e
      split at hk
      · exact absurd hk ‹_›
      · rename_i e1
        have hch := opd_small h hr hc (Classical.not_not.1 e1)
        have hks : small k := by rcases e with rfl | rfl <;> exact ⟨by decide, by decide⟩
        split at hk
        · cases hk
        · rename_i e2
          refine ⟨hks, hch, ?_⟩
          rcases e with rfl | rfl
          · cases hB : inB r 0 (f.regs - 1) with
            | true => have := inB_iff.1 hB; exact ⟨by omega, by omega⟩
            | false => exact absurd ⟨rfl, hB⟩ e2
          · split at hk
            · cases hk
            · rename_i e3
              have e4 : r = 0 := Classical.byContradiction fun hn => e3 ⟨rfl, hn⟩
              subst e4
              exact ⟨by decide, by decide⟩
    · cases hk
theorem args_small {p : Pg} (h : Valid p) {f : Fn} (hr : f.regs ≤ 32) (hc : f.code.length ≤ 200) {m : Int} {x : Ins} (hk : ckArgs p f m x = 0) : ∀ n ∈ x.args, small n := by
  unfold ckArgs at hk
  split at hk
  · split at hk
    · cases hk
    · intro n hn
      have : x.args = [] := List.eq_nil_of_length_eq_zero (by omega)
      rw [this] at hn; cases hn
  · split at hk
    · unfold ckCases at hk
      split at hk
      · cases hk
      · rename_i e
        split at hk
        · exact absurd hk ‹_›
        · rename_i e2
          have hall := fstE_all (Classical.not_not.1 e2)
          intro n hn
          obtain ⟨i, hi, rfl⟩ := List.getElem_of_mem hn
          have hj : i / 3 < x.args.length / 3 := by omega
          have hcs := case_small h hr hc (hall (i / 3) hj)
          have hm : i % 3 = 0 ∨ i % 3 = 1 ∨ i % 3 = 2 := by omega
          have hg : ∀ q (hq : q < x.args.length), x.args.getD q 0 = x.args[q] := fun q hq => by simp [List.getD, hq]
          rcases hm with hm | hm | hm
          · have := hcs.1
            rw [hg (3 * (i / 3)) (by omega)] at this
            simpa [show 3 * (i / 3) = i by omega] using this
          · have := hcs.2.1
            rw [hg (3 * (i / 3) + 1) (by omega)] at this
            simpa [show 3 * (i / 3) + 1 = i by omega] using this
          · have := hcs.2.2
            rw [hg (3 * (i / 3) + 2) (by omega)] at this
            simpa [show 3 * (i / 3) + 2 = i by omega] using this
    · unfold ckRegs at hk
      by_cases e8 : (x.args.length : Int) = (if m = 1 then ((p.fs[x.b.toNat]?).map Fn.params).getD 0 else 2)
      · rw [if_neg (by rw [e8]; exact fun h => h rfl)] at hk
        split at hk
        · cases hk
        · rename_i e
          intro n hn
          have h1 : regOut f n = false := by
            cases hq : regOut f n with
            | false => rfl
            | true => exact absurd (List.any_eq_true.2 ⟨n, hn, hq⟩) e
          have h2 : inB n 0 (f.regs - 1) = true := by unfold regOut at h1; simpa using h1
          have := inB_iff.1 h2
          exact ⟨by omega, by omega⟩
      · rw [if_pos e8] at hk; cases hk
end Go.Proofs.YtfkjokbhnblndaaDoor

namespace Go.Proofs.YtfkjokbhnblndaaDoor
open Go.RowKit Go.Shelf
set_option linter.unusedVariables false
set_option linter.unusedSimpArgs false

theorem small_of {n a b : Int} (h : inB n a b = true) (ha : -1099511627776 ≤ a) (hb : b ≤ 1099511627776) : small n := by
  have := inB_iff.1 h
  exact ⟨by omega, by omega⟩
theorem va_sm {p : Pg} (h : Valid p) {i : Nat} (hi : i < p.vs.length) : ∀ n ∈ [(p.vs[i]).init], small n := by
  intro n hn
  rw [List.mem_singleton] at hn
  subst hn
  exact small_of (h.va hi).init (by decide) (by decide)
theorem szB (k : Int) : -1099511627776 ≤ szLo k ∧ szHi k ≤ 1099511627776 := by unfold szLo szHi; constructor <;> split <;> decide
theorem otB (n : Nat) (k : Int) (hn : n ≤ 16) : -1099511627776 ≤ otLo k ∧ otHi n k ≤ 1099511627776 := by
  unfold otLo otHi
  refine ⟨by split <;> decide, ?_⟩
  split
  · omega
  · split
    · decide
    · split <;> decide
theorem ob_sm {p : Pg} (h : Valid p) {i : Nat} (hi : i < p.os.length) : ∀ n ∈ [(p.os[i]).size, (p.os[i]).oth], small n := by
  intro n hn
  have ho := h.ob hi
  simp only [List.mem_cons, List.not_mem_nil, or_false] at hn
  rcases hn with rfl | rfl
  · exact small_of ho.size (szB _).1 (szB _).2
  · exact small_of ho.oth (otB _ _ h.o2).1 (otB _ _ h.o2).2
theorem fn_sm {p : Pg} (h : Valid p) {i : Nat} (hi : i < p.fs.length) : ∀ n ∈ [(p.fs[i]).params, (p.fs[i]).regs, (p.fs[i]).prio], small n := by
  intro n hn
  have hf := h.fn hi
  have h1 := inB_iff.1 hf.params
  have h2 := inB_iff.1 hf.regs
  have h3 := inB_iff.1 hf.prio
  simp only [List.mem_cons, List.not_mem_nil, or_false] at hn
  rcases hn with rfl | rfl | rfl
  · exact ⟨by omega, by omega⟩
  · exact ⟨by omega, by omega⟩
  · exact ⟨by omega, by omega⟩
theorem ins_sm {p : Pg} (h : Valid p) {i : Nat} (hi : i < p.fs.length) {k : Nat} (hk : k < (p.fs[i]).code.length) : ∀ n ∈ ([((p.fs[i]).code[k]).a, ((p.fs[i]).code[k]).b, ((p.fs[i]).code[k]).c] ++ ((p.fs[i]).code[k]).args), small n := by
  intro n hn
  have hf := h.fn hi
  have h1 := (inB_iff.1 hf.regs).2
  obtain ⟨s, hs⟩ := hf.ins hk
  simp only [List.mem_append, List.mem_cons, List.not_mem_nil, or_false] at hn
  rcases hn with (rfl | rfl | rfl) | hn
  · exact opd_small h h1 hf.len hs.a
  · exact opd_small h h1 hf.len hs.b
  · exact opd_small h h1 hf.len hs.c
  · exact args_small h h1 hf.len hs.args n hn
theorem ints_lit (W : World) (l : List Int) : IntsAt (W.alloc (.cells (l.map (Value.int .i64)).toArray 3)) (some ⟨W.heap.size, 0, none⟩) l := fun i hi => ⟨W.heap.size, 0, rfl, by
  refine cell_of (alloc_here _ _) ?_
  simp [hi]⟩
theorem GoesG.app2 {P : Program} {l : List Oper} {R : World → World → Prop} {Φ : Nat → (Nat → Value) → World → Prop} {i : Nat} {o : Oper} {a' : Act} {W W' : World} {Q : Exit → Act → World → Prop} (hg : o.guard = none) (s x : Operand) (t : TypeId) (ho : o.op = .call { callee := .builtin .append, args := #[s, x], argTypes := #[t, t] })
    (v v' sl : Value) (hs : a'.eval s = v) (hx : a'.eval x = sl) (hr : (Builtin.append_ #[t, t] o.type #[v, sl]).run P W = .ok v' W') (hR : R W W')
    (hΦ : ∀ s : Nat → Value, (o.dst.isSome = true → s i = v') → (∀ k, k ≠ i → ancB l l.length i k = true → s k = sv l a' k) → Φ i s W') : GoesG P l R Φ i o a' W Q :=
  GoesG.value v' hg (by simp only [execOp, ho, resolve, invoke, builtin, Sem.run_bind, Sem.run_pure, Result.andThen_ok, List.map_toArray, List.map_cons, List.map_nil, hs, hx, hr]) hR hΦ
theorem GoesG.addS {P : Program} {l : List Oper} {R : World → World → Prop} {Φ : Nat → (Nat → Value) → World → Prop} {i : Nat} {o : Oper} {a' : Act} {W : World} {Q : Exit → Act → World → Prop} (x y : Operand) (T1 T2 : TypeId) (a b : List UInt8) (hg : o.guard = none) (ho : o.op = .binOp .add T1 x y T2)
    (hx : a'.eval x = sV a) (hy : a'.eval y = sV b) (hle : a.length + b.length ≤ 1000000000) (hR : R W W)
    (hΦ : ∀ s : Nat → Value, (o.dst.isSome = true → s i = sV (a ++ b)) → (∀ k, k ≠ i → ancB l l.length i k = true → s k = sv l a' k) → Φ i s W) : GoesG P l R Φ i o a' W Q := by
  have h1 : (Op.stringOp .add (sB a) (sB b)).run P W = .ok (sV (a ++ b)) W := by
    rw [run_string_add_sum W _ _ (by rw [sB_size, sB_size]; omega), sB_app]
  exact GoesG.value (sV (a ++ b)) hg (by simp only [execOp, ho, hx, hy]; simp [binOp, go_sem, h1]) hR hΦ
end Go.Proofs.YtfkjokbhnblndaaDoor

namespace Go.Proofs.YtfkjokbhnblndaaDoor
open Go.RowKit Go.Shelf
set_option linter.unusedVariables false
set_option linter.unusedSimpArgs false

set_option maxRecDepth 100000 in
set_option maxHeartbeats 4000000 in
theorem refText_any (p : Pg) (A : PA) (w : World) (h : PgAt w p A) : Gives Tryd.prog 10 #[PV p A] w (.tuple #[sV (textR p).1, .int .i64 (textR p).2]) := by
  unfold Gives
  have HP := Lib.hid h
  have KC := Lib.hid (fun W (hW : Ext w W) => refCk_any p A W (h.ext hW))
  obtain ⟨ck, hck⟩ : ∃ c, ckPg p = c := ⟨_, rfl⟩
  have HR := Lib.hid (show textR p = if ck = 0 then (textP p, 0) else ([], ck) from by rw [← hck]; rfl)
  have HVD := Lib.hid (fun e : ck = 0 => valid_iff.1 (hck.trans e))
  rw [hck] at KC
  have HWF := Lib.hid h.wf
  clear h hck
  obtain ⟨fa, fc, oa, oc, va, vc⟩ := A
  dsimp only [PV] at KC ⊢
  obtain ⟨wk, hwk⟩ : ∃ W, W = (w.alloc (.cells #[.slice fa p.fs.length fc, .slice oa p.os.length oc, .slice va p.vs.length vc] 26)) := ⟨_, rfl⟩
  have BX := Lib.hid (show ∀ W, Ext wk W → (W.cell? ⟨w.heap.size, 0, none⟩ = some (.slice fa p.fs.length fc) ∧ W.cell? ⟨w.heap.size, 1, none⟩ = some (.slice oa p.os.length oc) ∧ W.cell? ⟨w.heap.size, 2, none⟩ = some (.slice va p.vs.length vc)) from fun W hW => by
    subst hwk
    have h0 := alloc_here w (.cells #[.slice fa p.fs.length fc, .slice oa p.os.length oc, .slice va p.vs.length vc] 26)
    have k0 := (hW.below.block _ (lt_of_block h0)).trans h0
    exact ⟨cell_of k0 rfl, cell_of k0 rfl, cell_of k0 rfl⟩)
  have HWZ := Lib.hid (show wk.heap.size = w.heap.size + 1 by rw [hwk]; simp)
  have HW := Lib.hid (show Ext w wk by rw [hwk]; exact (ext_alloc (Below.refl _ _) _))
  have HE0 := Lib.hid (show Ext wk wk from Below.refl _ _)
  have HRW := Lib.hid (fun W (hW : Ext wk W) => HP.out.ext (Ext.trans HW.out hW))
  by_cases hc0 : ck = 0
  · subst hc0
    have HV := Lib.hid (HVD.out rfl)
    have HR0 := Lib.hid (show textR p = (textP p, 0) from by rw [HR.out, if_pos rfl])
    clear HVD HR
    go_enter Tryd.func10, Tryd.ntmps10
    go_wp2_with fail
    rw [← hwk]
    clear hwk
    refine (KC.out _ (Ext.trans HW.out HE0.out)).mono ?_
    intro w1 hB
    have HE1 := Lib.hid (Ext.trans HE0.out hB)
    clear hB
    obtain ⟨d0_0, d0_1, d0_2⟩ := BX.out _ HE1.out
    go_wp2_with fail
    clear d0_0 d0_1 d0_2
    have hnv := HV.out.v2
    have hno := HV.out.o2
    have hnf := HV.out.f2
    go_loopw [5, 6] (fun s i wr => ∃ k : Nat, k ≤ p.vs.length ∧ s = sV (catN (vaTxt p) k) ∧ i = .int .i64 (k : Int) ∧ Ext wk wr) (fun _ i _ => p.vs.length - (intOf i).toNat)
    case atStart => exact ⟨0, Nat.zero_le _, rfl, rfl, HE1.out⟩
    case round =>
      obtain ⟨k, hk, rfl, rfl, hE⟩ := hrel
      have HE := Lib.hid hE
      clear hE
      obtain ⟨d0_0, d0_1, d0_2⟩ := BX.out wr HE.out
      by_cases hlt : k < p.vs.length
      · obtain ⟨b0, off, hva, hcs⟩ := (HRW.out wr HE.out).vs k hlt
        dsimp only at hva
        subst hva
        obtain ⟨c0, c1, c2⟩ := hcs
        have C0 := Lib.hid c0
        have C1 := Lib.hid c1
        have HT1 := Lib.hid (show catN (vaTxt p) (k + 1) = catN (vaTxt p) k ++ vaTxt p k from rfl)
        have HTL := Lib.hid (vaCat_le HWF.out HV.out k hk)
        have HSM := Lib.hid (va_sm HV.out hlt)
        have HVR := Lib.hid (va_ref p hlt)
        have HVT := Lib.hid (show (vaTxt p k).length ≤ 125 from by have := lineB_le (varWd_fit HWF.out HV.out hlt); unfold vaTxt; rw [vaAt_eq hlt]; simpa [varWd] using this)
        have HNL := Lib.hid (isNm_len (HV.out.va hlt).nm).2
        generalize (p.vs[k]).name = nm at *
        generalize (p.vs[k]).init = ini at *
        obtain ⟨T, hT⟩ : ∃ t, catN (vaTxt p) k = t := ⟨_, rfl⟩
        rw [hT] at HT1 HTL
        rw [hT]
        clear hT
        have hk1 : ¬ (p.vs.length : Int) ≤ (k : Int) := by omega
        have hk2 : ¬ (k : Int) < 0 := by omega
        cases hat : (p.vs[k]).atomic
        · rw [hat] at c2 HVR
          clear hat
          have HVR := Lib.hid (show vaTxt p k = refL ([118, 97, 114, 32] ++ nm ++ [32, 61]) [ini] from HVR.out)
          have HWL := Lib.hid (show ([118, 97, 114, 32] ++ nm ++ [32, 61]).length ≤ 1000000000 from by have := HNL.out; simp only [List.length_append, List.length_cons, List.length_nil]; omega)
          have HAD8 := Lib.hid (show ([118, 97, 114, 32] : List UInt8).length + nm.length ≤ 1000000000 from by have := HNL.out; simp only [List.length_cons, List.length_nil]; omega)
          have HAD9 := Lib.hid (show ([118, 97, 114, 32] ++ nm).length + ([32, 61] : List UInt8).length ≤ 1000000000 from by have := HNL.out; simp only [List.length_append, List.length_cons, List.length_nil]; omega)
          go_wp2_with fail
          clear c0 c1 c2 d0_0 d0_1 d0_2
          refine wp_region_tail (l1 := [_, _, _, _, _, _, _, _, _, _, _, _, _, _, _, _, _, _]) (l2 := [_, _]) (by kernel_rfl) Ext (fun W => Below.refl _ W) (fun W => show Below W.heap.size W { W with drawn := W.drawn + 1 } from ⟨rfl, rfl, rfl, Nat.le_refl _, fun _ _ => rfl⟩) Ext.trans
            (fun i s W => match i with
              | 0 => s 0 = sV T
              | 1 => s 1 = sV [118, 97, 114, 32]
              | 2 => s 2 = .pointer (some ⟨w.heap.size, 2, none⟩)
              | 3 => s 3 = .slice (some ⟨b0, off, none⟩) p.vs.length vc
              | 4 => s 4 = .int .i64 (k : Int)
              | 5 => s 5 = .pointer (some ⟨b0, off + k * 3, none⟩)
              | 6 => s 6 = .pointer (some ⟨b0, off + k * 3, none⟩)
              | 7 => s 7 = sV nm
              | 8 => s 8 = sV ([118, 97, 114, 32] ++ nm)
              | 9 => s 9 = sV ([118, 97, 114, 32] ++ nm ++ [32, 61])
              | 10 => s 10 = .pointer (some ⟨w.heap.size, 2, none⟩)
              | 11 => s 11 = .slice (some ⟨b0, off, none⟩) p.vs.length vc
              | 12 => s 12 = .int .i64 (k : Int)
              | 13 => s 13 = .pointer (some ⟨b0, off + k * 3, none⟩)
              | 14 => s 14 = .pointer (some ⟨b0, off + k * 3 + 1, none⟩)
              | 15 => s 15 = .int .i64 ini
              | 16 => ∃ g, s 16 = .slice (some ⟨g, 0, none⟩) 1 1 ∧ IntsAt W (some ⟨g, 0, none⟩) [ini]
              | 17 => s 17 = sV (refL ([118, 97, 114, 32] ++ nm ++ [32, 61]) [ini])
              | _ => True)
            (fun i => [i])
            (by
              intro i s s' W W' h hs hE
              have hs := hs i (by simp)
              match i, h, hs with
              | 0, h, hs => exact hs.trans h
              | 1, h, hs => exact hs.trans h
              | 2, h, hs => exact hs.trans h
              | 3, h, hs => exact hs.trans h
              | 4, h, hs => exact hs.trans h
              | 5, h, hs => exact hs.trans h
              | 6, h, hs => exact hs.trans h
              | 7, h, hs => exact hs.trans h
              | 8, h, hs => exact hs.trans h
              | 9, h, hs => exact hs.trans h
              | 10, h, hs => exact hs.trans h
              | 11, h, hs => exact hs.trans h
              | 12, h, hs => exact hs.trans h
              | 13, h, hs => exact hs.trans h
              | 14, h, hs => exact hs.trans h
              | 15, h, hs => exact hs.trans h
              | 16, ⟨g, h1, h2⟩, hs => exact ⟨g, hs.trans h1, h2.below hE⟩
              | 17, h, hs => exact hs.trans h
              | i + 18, h, hs => exact trivial)
            (by kernel_rfl) (by kernel_rfl) (by kernel_rfl) 144 rfl (by kernel_rfl) (by kernel_rfl) ?_ ?_
          · intro i op ho a' W hA
            have hE9 := Ext.trans HE.out hA.rel
            obtain ⟨d0_0, d0_1, d0_2⟩ := BX.out W hE9
            have x0 := cell_ext C0.out hA.rel
            have x1 := cell_ext C1.out hA.rel
            match i, ho with
            | 0, ho =>
              obtain rfl := Option.some.inj ho
              have e1 : a'.eval (.tmp 5) = sV T := hA.keep 5 (by kernel_rfl)
              refine GoesG.value (sV T) rfl ?_ (Below.refl _ _) (fun s h1 h2 => h1 rfl)
              simp only [execOp, e1]
              simp [go_sem, x0, x1, hk1, hk2, hlt, d0_0, d0_1, d0_2]
            | 1, ho =>
              obtain rfl := Option.some.inj ho
              have e1 : a'.eval (.tmp 7) = sV [118, 97, 114, 32] := hA.keep 7 (by kernel_rfl)
              refine GoesG.value (sV [118, 97, 114, 32]) rfl ?_ (Below.refl _ _) (fun s h1 h2 => h1 rfl)
              simp only [execOp, e1]
              simp [go_sem, x0, x1, hk1, hk2, hlt, d0_0, d0_1, d0_2]
            | 2, ho =>
              obtain rfl := Option.some.inj ho
              have e1 : a'.eval (.tmp 1) = .pointer (some ⟨w.heap.size, 0, none⟩) := hA.keep 1 (by kernel_rfl)
              refine GoesG.value (.pointer (some ⟨w.heap.size, 2, none⟩)) rfl ?_ (Below.refl _ _) (fun s h1 h2 => h1 rfl)
              simp only [execOp, e1]
              simp [go_sem, x0, x1, hk1, hk2, hlt, d0_0, d0_1, d0_2]
            | 3, ho =>
              obtain rfl := Option.some.inj ho
              have e1 : a'.eval (.tmp 36) = .pointer (some ⟨w.heap.size, 2, none⟩) := (sv_dst (l := _) rfl).symm.trans (hA.new 2 (by decide) (by kernel_rfl))
              refine GoesG.value (.slice (some ⟨b0, off, none⟩) p.vs.length vc) rfl ?_ (Below.refl _ _) (fun s h1 h2 => h1 rfl)
              simp only [execOp, e1]
              simp [go_sem, x0, x1, hk1, hk2, hlt, d0_0, d0_1, d0_2]
            | 4, ho =>
              obtain rfl := Option.some.inj ho
              have e1 : a'.eval (.tmp 6) = .int .i64 (k : Int) := hA.keep 6 (by kernel_rfl)
              refine GoesG.value (.int .i64 (k : Int)) rfl ?_ (Below.refl _ _) (fun s h1 h2 => h1 rfl)
              simp only [execOp, e1]
              simp [go_sem, x0, x1, hk1, hk2, hlt, d0_0, d0_1, d0_2]
            | 5, ho =>
              obtain rfl := Option.some.inj ho
              have e1 : a'.eval (.tmp 37) = .slice (some ⟨b0, off, none⟩) p.vs.length vc := (sv_dst (l := _) rfl).symm.trans (hA.new 3 (by decide) (by kernel_rfl))
              have e2 : a'.eval (.tmp 38) = .int .i64 (k : Int) := (sv_dst (l := _) rfl).symm.trans (hA.new 4 (by decide) (by kernel_rfl))
              refine GoesG.value (.pointer (some ⟨b0, off + k * 3, none⟩)) rfl ?_ (Below.refl _ _) (fun s h1 h2 => h1 rfl)
              simp only [execOp, e1, e2]
              simp [go_sem, x0, x1, hk1, hk2, hlt, d0_0, d0_1, d0_2]
            | 6, ho =>
              obtain rfl := Option.some.inj ho
              have e1 : a'.eval (.tmp 39) = .pointer (some ⟨b0, off + k * 3, none⟩) := (sv_dst (l := _) rfl).symm.trans (hA.new 5 (by decide) (by kernel_rfl))
              refine GoesG.value (.pointer (some ⟨b0, off + k * 3, none⟩)) rfl ?_ (Below.refl _ _) (fun s h1 h2 => h1 rfl)
              simp only [execOp, e1]
              simp [go_sem, x0, x1, hk1, hk2, hlt, d0_0, d0_1, d0_2]
            | 7, ho =>
              obtain rfl := Option.some.inj ho
              have e1 : a'.eval (.tmp 40) = .pointer (some ⟨b0, off + k * 3, none⟩) := (sv_dst (l := _) rfl).symm.trans (hA.new 6 (by decide) (by kernel_rfl))
              refine GoesG.value (sV nm) rfl ?_ (Below.refl _ _) (fun s h1 h2 => h1 rfl)
              simp only [execOp, e1]
              simp [go_sem, x0, x1, hk1, hk2, hlt, d0_0, d0_1, d0_2]
            | 8, ho =>
              obtain rfl := Option.some.inj ho
              have e1 : a'.eval (.tmp 35) = sV ([118, 97, 114, 32]) := (sv_dst (l := _) rfl).symm.trans (hA.new 1 (by decide) (by kernel_rfl))
              have e2 : a'.eval (.tmp 41) = sV (nm) := (sv_dst (l := _) rfl).symm.trans (hA.new 7 (by decide) (by kernel_rfl))
              exact GoesG.addS (.tmp 35) (.tmp 41) 9 9 ([118, 97, 114, 32]) (nm) rfl rfl e1 e2 HAD8.out (Below.refl _ _) (fun s h1 h2 => h1 rfl)
            | 9, ho =>
              obtain rfl := Option.some.inj ho
              have e1 : a'.eval (.tmp 42) = sV ([118, 97, 114, 32] ++ nm) := (sv_dst (l := _) rfl).symm.trans (hA.new 8 (by decide) (by kernel_rfl))
              exact GoesG.addS (.tmp 42) _ 9 9 ([118, 97, 114, 32] ++ nm) ([32, 61]) rfl rfl e1 rfl HAD9.out (Below.refl _ _) (fun s h1 h2 => h1 rfl)
            | 10, ho =>
              obtain rfl := Option.some.inj ho
              have e1 : a'.eval (.tmp 1) = .pointer (some ⟨w.heap.size, 0, none⟩) := hA.keep 1 (by kernel_rfl)
              refine GoesG.value (.pointer (some ⟨w.heap.size, 2, none⟩)) rfl ?_ (Below.refl _ _) (fun s h1 h2 => h1 rfl)
              simp only [execOp, e1]
              simp [go_sem, x0, x1, hk1, hk2, hlt, d0_0, d0_1, d0_2]
            | 11, ho =>
              obtain rfl := Option.some.inj ho
              have e1 : a'.eval (.tmp 44) = .pointer (some ⟨w.heap.size, 2, none⟩) := (sv_dst (l := _) rfl).symm.trans (hA.new 10 (by decide) (by kernel_rfl))
              refine GoesG.value (.slice (some ⟨b0, off, none⟩) p.vs.length vc) rfl ?_ (Below.refl _ _) (fun s h1 h2 => h1 rfl)
              simp only [execOp, e1]
              simp [go_sem, x0, x1, hk1, hk2, hlt, d0_0, d0_1, d0_2]
            | 12, ho =>
              obtain rfl := Option.some.inj ho
              have e1 : a'.eval (.tmp 6) = .int .i64 (k : Int) := hA.keep 6 (by kernel_rfl)
              refine GoesG.value (.int .i64 (k : Int)) rfl ?_ (Below.refl _ _) (fun s h1 h2 => h1 rfl)
              simp only [execOp, e1]
              simp [go_sem, x0, x1, hk1, hk2, hlt, d0_0, d0_1, d0_2]
            | 13, ho =>
              obtain rfl := Option.some.inj ho
              have e1 : a'.eval (.tmp 45) = .slice (some ⟨b0, off, none⟩) p.vs.length vc := (sv_dst (l := _) rfl).symm.trans (hA.new 11 (by decide) (by kernel_rfl))
              have e2 : a'.eval (.tmp 46) = .int .i64 (k : Int) := (sv_dst (l := _) rfl).symm.trans (hA.new 12 (by decide) (by kernel_rfl))
              refine GoesG.value (.pointer (some ⟨b0, off + k * 3, none⟩)) rfl ?_ (Below.refl _ _) (fun s h1 h2 => h1 rfl)
              simp only [execOp, e1, e2]
              simp [go_sem, x0, x1, hk1, hk2, hlt, d0_0, d0_1, d0_2]
            | 14, ho =>
              obtain rfl := Option.some.inj ho
              have e1 : a'.eval (.tmp 47) = .pointer (some ⟨b0, off + k * 3, none⟩) := (sv_dst (l := _) rfl).symm.trans (hA.new 13 (by decide) (by kernel_rfl))
              refine GoesG.value (.pointer (some ⟨b0, off + k * 3 + 1, none⟩)) rfl ?_ (Below.refl _ _) (fun s h1 h2 => h1 rfl)
              simp only [execOp, e1]
              simp [go_sem, x0, x1, hk1, hk2, hlt, d0_0, d0_1, d0_2]
            | 15, ho =>
              obtain rfl := Option.some.inj ho
              have e1 : a'.eval (.tmp 48) = .pointer (some ⟨b0, off + k * 3 + 1, none⟩) := (sv_dst (l := _) rfl).symm.trans (hA.new 14 (by decide) (by kernel_rfl))
              refine GoesG.value (.int .i64 ini) rfl ?_ (Below.refl _ _) (fun s h1 h2 => h1 rfl)
              simp only [execOp, e1]
              simp [go_sem, x0, x1, hk1, hk2, hlt, d0_0, d0_1, d0_2]
            | 16, ho =>
              obtain rfl := Option.some.inj ho
              have e1 : a'.eval (.tmp 49) = .int .i64 ini := (sv_dst (l := _) rfl).symm.trans (hA.new 15 (by decide) (by kernel_rfl))
              have f1 : a'.tmps[49]?.getD undef = .int .i64 ini := by simpa [go_sem] using e1
              refine GoesG.value (.slice (some ⟨W.heap.size, 0, none⟩) 1 1) rfl ?_ (ext_alloc (Below.refl _ _) (.cells ([ini].map (Value.int .i64)).toArray 3)) (fun s h1 h2 => ⟨W.heap.size, h1 rfl, ints_lit W [ini]⟩)
              simp only [execOp, e1]
              simp [go_sem, f1]
            | 17, ho =>
              obtain rfl := Option.some.inj ho
              obtain ⟨g, e0, hI⟩ := hA.new 16 (by decide) (by kernel_rfl)
              have e2 : a'.eval (.tmp 50) = .slice (some ⟨g, 0, none⟩) 1 1 := (sv_dst (l := _) rfl).symm.trans e0
              have e1 : a'.eval (.tmp 43) = sV ([118, 97, 114, 32] ++ nm ++ [32, 61]) := (sv_dst (l := _) rfl).symm.trans (hA.new 9 (by decide) (by kernel_rfl))
              refine GoesG.call 42 #[sV ([118, 97, 114, 32] ++ nm ++ [32, 61]), .slice (some ⟨g, 0, none⟩) 1 1] rfl ?_ ((rline_any ([118, 97, 114, 32] ++ nm ++ [32, 61]) [ini] _ 1 W hI (by simp) HWL.out HSM.out).mono ?_)
              · simp [execOp, resolve, invoke, Deferred.ofValue, e1, e2]
                rfl
              · intro W1 hE1
                exact ⟨_, rfl, hE1, fun s h1 h2 => h1 rfl⟩
            | i + 18, ho => cases ho
          · intro vs w4 hvs hG hΦ
            obtain ⟨y0, y1, y2, y3, y4, y5, y6, y7, y8, y9, y10, y11, y12, y13, y14, y15, y16, y17, rfl⟩ : ∃ y0 y1 y2 y3 y4 y5 y6 y7 y8 y9 y10 y11 y12 y13 y14 y15 y16 y17, vs = y0 :: y1 :: y2 :: y3 :: y4 :: y5 :: y6 :: y7 :: y8 :: y9 :: y10 :: y11 :: y12 :: y13 :: y14 :: y15 :: y16 :: y17 :: [] := by
              match vs, hvs with
              | y0 :: y1 :: y2 :: y3 :: y4 :: y5 :: y6 :: y7 :: y8 :: y9 :: y10 :: y11 :: y12 :: y13 :: y14 :: y15 :: y16 :: y17 :: [], _ => exact ⟨y0, y1, y2, y3, y4, y5, y6, y7, y8, y9, y10, y11, y12, y13, y14, y15, y16, y17, rfl⟩
            have e0 : y0 = sV T := hΦ 0 (by decide)
            subst e0
            have e1 : y1 = sV [118, 97, 114, 32] := hΦ 1 (by decide)
            subst e1
            have e2 : y2 = .pointer (some ⟨w.heap.size, 2, none⟩) := hΦ 2 (by decide)
            subst e2
            have e3 : y3 = .slice (some ⟨b0, off, none⟩) p.vs.length vc := hΦ 3 (by decide)
            subst e3
            have e4 : y4 = .int .i64 (k : Int) := hΦ 4 (by decide)
            subst e4
            have e5 : y5 = .pointer (some ⟨b0, off + k * 3, none⟩) := hΦ 5 (by decide)
            subst e5
            have e6 : y6 = .pointer (some ⟨b0, off + k * 3, none⟩) := hΦ 6 (by decide)
            subst e6
            have e7 : y7 = sV nm := hΦ 7 (by decide)
            subst e7
            have e8 : y8 = sV ([118, 97, 114, 32] ++ nm) := hΦ 8 (by decide)
            subst e8
            have e9 : y9 = sV ([118, 97, 114, 32] ++ nm ++ [32, 61]) := hΦ 9 (by decide)
            subst e9
            have e10 : y10 = .pointer (some ⟨w.heap.size, 2, none⟩) := hΦ 10 (by decide)
            subst e10
            have e11 : y11 = .slice (some ⟨b0, off, none⟩) p.vs.length vc := hΦ 11 (by decide)
            subst e11
            have e12 : y12 = .int .i64 (k : Int) := hΦ 12 (by decide)
            subst e12
            have e13 : y13 = .pointer (some ⟨b0, off + k * 3, none⟩) := hΦ 13 (by decide)
            subst e13
            have e14 : y14 = .pointer (some ⟨b0, off + k * 3 + 1, none⟩) := hΦ 14 (by decide)
            subst e14
            have e15 : y15 = .int .i64 ini := hΦ 15 (by decide)
            subst e15
            have p16 : ∃ g, y16 = .slice (some ⟨g, 0, none⟩) 1 1 ∧ IntsAt w4 (some ⟨g, 0, none⟩) [ini] := hΦ 16 (by decide)
            have e17 : y17 = sV (refL ([118, 97, 114, 32] ++ nm ++ [32, 61]) [ini]) := hΦ 17 (by decide)
            subst e17
            clear hΦ hvs
            simp only [putAll, Act.put, List.setIfInBounds_toArray, List.set_cons_succ, List.set_cons_zero]
            have HE4 := Lib.hid (Ext.trans HE.out hG)
            have HN4 := Lib.hid (show sV (T ++ refL ([118, 97, 114, 32] ++ nm ++ [32, 61]) [ini]) = sV (catN (vaTxt p) (k + 1)) from by rw [HT1.out, HVR.out])
            have HLL := Lib.hid (show (refL ([118, 97, 114, 32] ++ nm ++ [32, 61]) [ini]).length ≤ 125 from HVR.out ▸ HVT.out)
            clear hG
            generalize refL ([118, 97, 114, 32] ++ nm ++ [32, 61]) [ini] = L at *
            have hTl := HTL.out
            have hLl := HLL.out
            go_wp2
            go_roundw
            case rel => exact ⟨k + 1, by omega, HN4.out, by go_num, HE4.out⟩
            case measure => simp [intOf]; omega
        · rw [hat] at c2 HVR
          clear hat
          have HVR := Lib.hid (show vaTxt p k = refL ([97, 116, 111, 109, 105, 99, 32] ++ nm ++ [32, 61]) [ini] from HVR.out)
          have HWL := Lib.hid (show ([97, 116, 111, 109, 105, 99, 32] ++ nm ++ [32, 61]).length ≤ 1000000000 from by have := HNL.out; simp only [List.length_append, List.length_cons, List.length_nil]; omega)
          have HAD8 := Lib.hid (show ([97, 116, 111, 109, 105, 99, 32] : List UInt8).length + nm.length ≤ 1000000000 from by have := HNL.out; simp only [List.length_cons, List.length_nil]; omega)
          have HAD9 := Lib.hid (show ([97, 116, 111, 109, 105, 99, 32] ++ nm).length + ([32, 61] : List UInt8).length ≤ 1000000000 from by have := HNL.out; simp only [List.length_append, List.length_cons, List.length_nil]; omega)
          go_wp2_with fail
          clear c0 c1 c2 d0_0 d0_1 d0_2
          refine wp_region_tail (l1 := [_, _, _, _, _, _, _, _, _, _, _, _, _, _, _, _, _, _]) (l2 := [_, _]) (by kernel_rfl) Ext (fun W => Below.refl _ W) (fun W => show Below W.heap.size W { W with drawn := W.drawn + 1 } from ⟨rfl, rfl, rfl, Nat.le_refl _, fun _ _ => rfl⟩) Ext.trans
            (fun i s W => match i with
              | 0 => s 0 = sV T
              | 1 => s 1 = sV [97, 116, 111, 109, 105, 99, 32]
              | 2 => s 2 = .pointer (some ⟨w.heap.size, 2, none⟩)
              | 3 => s 3 = .slice (some ⟨b0, off, none⟩) p.vs.length vc
              | 4 => s 4 = .int .i64 (k : Int)
              | 5 => s 5 = .pointer (some ⟨b0, off + k * 3, none⟩)
              | 6 => s 6 = .pointer (some ⟨b0, off + k * 3, none⟩)
              | 7 => s 7 = sV nm
              | 8 => s 8 = sV ([97, 116, 111, 109, 105, 99, 32] ++ nm)
              | 9 => s 9 = sV ([97, 116, 111, 109, 105, 99, 32] ++ nm ++ [32, 61])
              | 10 => s 10 = .pointer (some ⟨w.heap.size, 2, none⟩)
              | 11 => s 11 = .slice (some ⟨b0, off, none⟩) p.vs.length vc
              | 12 => s 12 = .int .i64 (k : Int)
              | 13 => s 13 = .pointer (some ⟨b0, off + k * 3, none⟩)
              | 14 => s 14 = .pointer (some ⟨b0, off + k * 3 + 1, none⟩)
              | 15 => s 15 = .int .i64 ini
              | 16 => ∃ g, s 16 = .slice (some ⟨g, 0, none⟩) 1 1 ∧ IntsAt W (some ⟨g, 0, none⟩) [ini]
              | 17 => s 17 = sV (refL ([97, 116, 111, 109, 105, 99, 32] ++ nm ++ [32, 61]) [ini])
              | _ => True)
            (fun i => [i])
            (by
              intro i s s' W W' h hs hE
              have hs := hs i (by simp)
              match i, h, hs with
              | 0, h, hs => exact hs.trans h
              | 1, h, hs => exact hs.trans h
              | 2, h, hs => exact hs.trans h
              | 3, h, hs => exact hs.trans h
              | 4, h, hs => exact hs.trans h
              | 5, h, hs => exact hs.trans h
              | 6, h, hs => exact hs.trans h
              | 7, h, hs => exact hs.trans h
              | 8, h, hs => exact hs.trans h
              | 9, h, hs => exact hs.trans h
              | 10, h, hs => exact hs.trans h
              | 11, h, hs => exact hs.trans h
              | 12, h, hs => exact hs.trans h
              | 13, h, hs => exact hs.trans h
              | 14, h, hs => exact hs.trans h
              | 15, h, hs => exact hs.trans h
              | 16, ⟨g, h1, h2⟩, hs => exact ⟨g, hs.trans h1, h2.below hE⟩
              | 17, h, hs => exact hs.trans h
              | i + 18, h, hs => exact trivial)
            (by kernel_rfl) (by kernel_rfl) (by kernel_rfl) 144 rfl (by kernel_rfl) (by kernel_rfl) ?_ ?_
          · intro i op ho a' W hA
            have hE9 := Ext.trans HE.out hA.rel
            obtain ⟨d0_0, d0_1, d0_2⟩ := BX.out W hE9
            have x0 := cell_ext C0.out hA.rel
            have x1 := cell_ext C1.out hA.rel
            match i, ho with
            | 0, ho =>
              obtain rfl := Option.some.inj ho
              have e1 : a'.eval (.tmp 5) = sV T := hA.keep 5 (by kernel_rfl)
              refine GoesG.value (sV T) rfl ?_ (Below.refl _ _) (fun s h1 h2 => h1 rfl)
              simp only [execOp, e1]
              simp [go_sem, x0, x1, hk1, hk2, hlt, d0_0, d0_1, d0_2]
            | 1, ho =>
              obtain rfl := Option.some.inj ho
              have e1 : a'.eval (.tmp 7) = sV [97, 116, 111, 109, 105, 99, 32] := hA.keep 7 (by kernel_rfl)
              refine GoesG.value (sV [97, 116, 111, 109, 105, 99, 32]) rfl ?_ (Below.refl _ _) (fun s h1 h2 => h1 rfl)
              simp only [execOp, e1]
              simp [go_sem, x0, x1, hk1, hk2, hlt, d0_0, d0_1, d0_2]
            | 2, ho =>
              obtain rfl := Option.some.inj ho
              have e1 : a'.eval (.tmp 1) = .pointer (some ⟨w.heap.size, 0, none⟩) := hA.keep 1 (by kernel_rfl)
              refine GoesG.value (.pointer (some ⟨w.heap.size, 2, none⟩)) rfl ?_ (Below.refl _ _) (fun s h1 h2 => h1 rfl)
              simp only [execOp, e1]
              simp [go_sem, x0, x1, hk1, hk2, hlt, d0_0, d0_1, d0_2]
            | 3, ho =>
              obtain rfl := Option.some.inj ho
              have e1 : a'.eval (.tmp 36) = .pointer (some ⟨w.heap.size, 2, none⟩) := (sv_dst (l := _) rfl).symm.trans (hA.new 2 (by decide) (by kernel_rfl))
              refine GoesG.value (.slice (some ⟨b0, off, none⟩) p.vs.length vc) rfl ?_ (Below.refl _ _) (fun s h1 h2 => h1 rfl)
              simp only [execOp, e1]
              simp [go_sem, x0, x1, hk1, hk2, hlt, d0_0, d0_1, d0_2]
            | 4, ho =>
              obtain rfl := Option.some.inj ho
              have e1 : a'.eval (.tmp 6) = .int .i64 (k : Int) := hA.keep 6 (by kernel_rfl)
              refine GoesG.value (.int .i64 (k : Int)) rfl ?_ (Below.refl _ _) (fun s h1 h2 => h1 rfl)
              simp only [execOp, e1]
              simp [go_sem, x0, x1, hk1, hk2, hlt, d0_0, d0_1, d0_2]
            | 5, ho =>
              obtain rfl := Option.some.inj ho
              have e1 : a'.eval (.tmp 37) = .slice (some ⟨b0, off, none⟩) p.vs.length vc := (sv_dst (l := _) rfl).symm.trans (hA.new 3 (by decide) (by kernel_rfl))
              have e2 : a'.eval (.tmp 38) = .int .i64 (k : Int) := (sv_dst (l := _) rfl).symm.trans (hA.new 4 (by decide) (by kernel_rfl))
              refine GoesG.value (.pointer (some ⟨b0, off + k * 3, none⟩)) rfl ?_ (Below.refl _ _) (fun s h1 h2 => h1 rfl)
              simp only [execOp, e1, e2]
              simp [go_sem, x0, x1, hk1, hk2, hlt, d0_0, d0_1, d0_2]
            | 6, ho =>
              obtain rfl := Option.some.inj ho
              have e1 : a'.eval (.tmp 39) = .pointer (some ⟨b0, off + k * 3, none⟩) := (sv_dst (l := _) rfl).symm.trans (hA.new 5 (by decide) (by kernel_rfl))
              refine GoesG.value (.pointer (some ⟨b0, off + k * 3, none⟩)) rfl ?_ (Below.refl _ _) (fun s h1 h2 => h1 rfl)
              simp only [execOp, e1]
              simp [go_sem, x0, x1, hk1, hk2, hlt, d0_0, d0_1, d0_2]
            | 7, ho =>
              obtain rfl := Option.some.inj ho
              have e1 : a'.eval (.tmp 40) = .pointer (some ⟨b0, off + k * 3, none⟩) := (sv_dst (l := _) rfl).symm.trans (hA.new 6 (by decide) (by kernel_rfl))
              refine GoesG.value (sV nm) rfl ?_ (Below.refl _ _) (fun s h1 h2 => h1 rfl)
              simp only [execOp, e1]
              simp [go_sem, x0, x1, hk1, hk2, hlt, d0_0, d0_1, d0_2]
            | 8, ho =>
              obtain rfl := Option.some.inj ho
              have e1 : a'.eval (.tmp 35) = sV ([97, 116, 111, 109, 105, 99, 32]) := (sv_dst (l := _) rfl).symm.trans (hA.new 1 (by decide) (by kernel_rfl))
              have e2 : a'.eval (.tmp 41) = sV (nm) := (sv_dst (l := _) rfl).symm.trans (hA.new 7 (by decide) (by kernel_rfl))
              exact GoesG.addS (.tmp 35) (.tmp 41) 9 9 ([97, 116, 111, 109, 105, 99, 32]) (nm) rfl rfl e1 e2 HAD8.out (Below.refl _ _) (fun s h1 h2 => h1 rfl)
            | 9, ho =>
              obtain rfl := Option.some.inj ho
              have e1 : a'.eval (.tmp 42) = sV ([97, 116, 111, 109, 105, 99, 32] ++ nm) := (sv_dst (l := _) rfl).symm.trans (hA.new 8 (by decide) (by kernel_rfl))
              exact GoesG.addS (.tmp 42) _ 9 9 ([97, 116, 111, 109, 105, 99, 32] ++ nm) ([32, 61]) rfl rfl e1 rfl HAD9.out (Below.refl _ _) (fun s h1 h2 => h1 rfl)
            | 10, ho =>
              obtain rfl := Option.some.inj ho
              have e1 : a'.eval (.tmp 1) = .pointer (some ⟨w.heap.size, 0, none⟩) := hA.keep 1 (by kernel_rfl)
              refine GoesG.value (.pointer (some ⟨w.heap.size, 2, none⟩)) rfl ?_ (Below.refl _ _) (fun s h1 h2 => h1 rfl)
              simp only [execOp, e1]
              simp [go_sem, x0, x1, hk1, hk2, hlt, d0_0, d0_1, d0_2]
            | 11, ho =>
              obtain rfl := Option.some.inj ho
              have e1 : a'.eval (.tmp 44) = .pointer (some ⟨w.heap.size, 2, none⟩) := (sv_dst (l := _) rfl).symm.trans (hA.new 10 (by decide) (by kernel_rfl))
              refine GoesG.value (.slice (some ⟨b0, off, none⟩) p.vs.length vc) rfl ?_ (Below.refl _ _) (fun s h1 h2 => h1 rfl)
              simp only [execOp, e1]
              simp [go_sem, x0, x1, hk1, hk2, hlt, d0_0, d0_1, d0_2]
            | 12, ho =>
              obtain rfl := Option.some.inj ho
              have e1 : a'.eval (.tmp 6) = .int .i64 (k : Int) := hA.keep 6 (by kernel_rfl)
              refine GoesG.value (.int .i64 (k : Int)) rfl ?_ (Below.refl _ _) (fun s h1 h2 => h1 rfl)
              simp only [execOp, e1]
              simp [go_sem, x0, x1, hk1, hk2, hlt, d0_0, d0_1, d0_2]
            | 13, ho =>
              obtain rfl := Option.some.inj ho
              have e1 : a'.eval (.tmp 45) = .slice (some ⟨b0, off, none⟩) p.vs.length vc := (sv_dst (l := _) rfl).symm.trans (hA.new 11 (by decide) (by kernel_rfl))
              have e2 : a'.eval (.tmp 46) = .int .i64 (k : Int) := (sv_dst (l := _) rfl).symm.trans (hA.new 12 (by decide) (by kernel_rfl))
              refine GoesG.value (.pointer (some ⟨b0, off + k * 3, none⟩)) rfl ?_ (Below.refl _ _) (fun s h1 h2 => h1 rfl)
              simp only [execOp, e1, e2]
              simp [go_sem, x0, x1, hk1, hk2, hlt, d0_0, d0_1, d0_2]
            | 14, ho =>
              obtain rfl := Option.some.inj ho
              have e1 : a'.eval (.tmp 47) = .pointer (some ⟨b0, off + k * 3, none⟩) := (sv_dst (l := _) rfl).symm.trans (hA.new 13 (by decide) (by kernel_rfl))
              refine GoesG.value (.pointer (some ⟨b0, off + k * 3 + 1, none⟩)) rfl ?_ (Below.refl _ _) (fun s h1 h2 => h1 rfl)
              simp only [execOp, e1]
              simp [go_sem, x0, x1, hk1, hk2, hlt, d0_0, d0_1, d0_2]
            | 15, ho =>
              obtain rfl := Option.some.inj ho
              have e1 : a'.eval (.tmp 48) = .pointer (some ⟨b0, off + k * 3 + 1, none⟩) := (sv_dst (l := _) rfl).symm.trans (hA.new 14 (by decide) (by kernel_rfl))
              refine GoesG.value (.int .i64 ini) rfl ?_ (Below.refl _ _) (fun s h1 h2 => h1 rfl)
              simp only [execOp, e1]
              simp [go_sem, x0, x1, hk1, hk2, hlt, d0_0, d0_1, d0_2]
            | 16, ho =>
              obtain rfl := Option.some.inj ho
              have e1 : a'.eval (.tmp 49) = .int .i64 ini := (sv_dst (l := _) rfl).symm.trans (hA.new 15 (by decide) (by kernel_rfl))
              have f1 : a'.tmps[49]?.getD undef = .int .i64 ini := by simpa [go_sem] using e1
              refine GoesG.value (.slice (some ⟨W.heap.size, 0, none⟩) 1 1) rfl ?_ (ext_alloc (Below.refl _ _) (.cells ([ini].map (Value.int .i64)).toArray 3)) (fun s h1 h2 => ⟨W.heap.size, h1 rfl, ints_lit W [ini]⟩)
              simp only [execOp, e1]
              simp [go_sem, f1]
            | 17, ho =>
              obtain rfl := Option.some.inj ho
              obtain ⟨g, e0, hI⟩ := hA.new 16 (by decide) (by kernel_rfl)
              have e2 : a'.eval (.tmp 50) = .slice (some ⟨g, 0, none⟩) 1 1 := (sv_dst (l := _) rfl).symm.trans e0
              have e1 : a'.eval (.tmp 43) = sV ([97, 116, 111, 109, 105, 99, 32] ++ nm ++ [32, 61]) := (sv_dst (l := _) rfl).symm.trans (hA.new 9 (by decide) (by kernel_rfl))
              refine GoesG.call 42 #[sV ([97, 116, 111, 109, 105, 99, 32] ++ nm ++ [32, 61]), .slice (some ⟨g, 0, none⟩) 1 1] rfl ?_ ((rline_any ([97, 116, 111, 109, 105, 99, 32] ++ nm ++ [32, 61]) [ini] _ 1 W hI (by simp) HWL.out HSM.out).mono ?_)
              · simp [execOp, resolve, invoke, Deferred.ofValue, e1, e2]
                rfl
              · intro W1 hE1
                exact ⟨_, rfl, hE1, fun s h1 h2 => h1 rfl⟩
            | i + 18, ho => cases ho
          · intro vs w4 hvs hG hΦ
            obtain ⟨y0, y1, y2, y3, y4, y5, y6, y7, y8, y9, y10, y11, y12, y13, y14, y15, y16, y17, rfl⟩ : ∃ y0 y1 y2 y3 y4 y5 y6 y7 y8 y9 y10 y11 y12 y13 y14 y15 y16 y17, vs = y0 :: y1 :: y2 :: y3 :: y4 :: y5 :: y6 :: y7 :: y8 :: y9 :: y10 :: y11 :: y12 :: y13 :: y14 :: y15 :: y16 :: y17 :: [] := by
              match vs, hvs with
              | y0 :: y1 :: y2 :: y3 :: y4 :: y5 :: y6 :: y7 :: y8 :: y9 :: y10 :: y11 :: y12 :: y13 :: y14 :: y15 :: y16 :: y17 :: [], _ => exact ⟨y0, y1, y2, y3, y4, y5, y6, y7, y8, y9, y10, y11, y12, y13, y14, y15, y16, y17, rfl⟩
            have e0 : y0 = sV T := hΦ 0 (by decide)
            subst e0
            have e1 : y1 = sV [97, 116, 111, 109, 105, 99, 32] := hΦ 1 (by decide)
            subst e1
            have e2 : y2 = .pointer (some ⟨w.heap.size, 2, none⟩) := hΦ 2 (by decide)
            subst e2
            have e3 : y3 = .slice (some ⟨b0, off, none⟩) p.vs.length vc := hΦ 3 (by decide)
            subst e3
            have e4 : y4 = .int .i64 (k : Int) := hΦ 4 (by decide)
            subst e4
            have e5 : y5 = .pointer (some ⟨b0, off + k * 3, none⟩) := hΦ 5 (by decide)
            subst e5
            have e6 : y6 = .pointer (some ⟨b0, off + k * 3, none⟩) := hΦ 6 (by decide)
            subst e6
            have e7 : y7 = sV nm := hΦ 7 (by decide)
            subst e7
            have e8 : y8 = sV ([97, 116, 111, 109, 105, 99, 32] ++ nm) := hΦ 8 (by decide)
            subst e8
            have e9 : y9 = sV ([97, 116, 111, 109, 105, 99, 32] ++ nm ++ [32, 61]) := hΦ 9 (by decide)
            subst e9
            have e10 : y10 = .pointer (some ⟨w.heap.size, 2, none⟩) := hΦ 10 (by decide)
            subst e10
            have e11 : y11 = .slice (some ⟨b0, off, none⟩) p.vs.length vc := hΦ 11 (by decide)
            subst e11
            have e12 : y12 = .int .i64 (k : Int) := hΦ 12 (by decide)
            subst e12
            have e13 : y13 = .pointer (some ⟨b0, off + k * 3, none⟩) := hΦ 13 (by decide)
            subst e13
            have e14 : y14 = .pointer (some ⟨b0, off + k * 3 + 1, none⟩) := hΦ 14 (by decide)
            subst e14
            have e15 : y15 = .int .i64 ini := hΦ 15 (by decide)
            subst e15
            have p16 : ∃ g, y16 = .slice (some ⟨g, 0, none⟩) 1 1 ∧ IntsAt w4 (some ⟨g, 0, none⟩) [ini] := hΦ 16 (by decide)
            have e17 : y17 = sV (refL ([97, 116, 111, 109, 105, 99, 32] ++ nm ++ [32, 61]) [ini]) := hΦ 17 (by decide)
            subst e17
            clear hΦ hvs
            simp only [putAll, Act.put, List.setIfInBounds_toArray, List.set_cons_succ, List.set_cons_zero]
            have HE4 := Lib.hid (Ext.trans HE.out hG)
            have HN4 := Lib.hid (show sV (T ++ refL ([97, 116, 111, 109, 105, 99, 32] ++ nm ++ [32, 61]) [ini]) = sV (catN (vaTxt p) (k + 1)) from by rw [HT1.out, HVR.out])
            have HLL := Lib.hid (show (refL ([97, 116, 111, 109, 105, 99, 32] ++ nm ++ [32, 61]) [ini]).length ≤ 125 from HVR.out ▸ HVT.out)
            clear hG
            generalize refL ([97, 116, 111, 109, 105, 99, 32] ++ nm ++ [32, 61]) [ini] = L at *
            have hTl := HTL.out
            have hLl := HLL.out
            go_wp2
            go_roundw
            case rel => exact ⟨k + 1, by omega, HN4.out, by go_num, HE4.out⟩
            case measure => simp [intOf]; omega
      · skip
        have HT0 := Lib.hid (show k = p.vs.length by omega)
        have HLV := Lib.hid (show (catN (vaTxt p) k).length ≤ 2000 from vaCat_le HWF.out HV.out k hk)
        generalize k = kv at *
        obtain ⟨TV, hTV⟩ : ∃ t, catN (vaTxt p) kv = t := ⟨_, rfl⟩
        have HTV := Lib.hid (show TV = catN (vaTxt p) p.vs.length from by rw [← hTV, HT0.out])
        rw [hTV] at HLV
        rw [hTV]
        clear hTV
        obtain ⟨gs, hgs⟩ : ∃ g, g = wr.heap.size := ⟨_, rfl⟩
        have HB0 := Lib.hid (show (wr.alloc (.cells kindC 9)).heap[gs]? = some (.cells kindC 9 (0, 0)) from by rw [hgs]; exact alloc_here _ _)
        have HBE := Lib.hid (show Ext wk (wr.alloc (.cells kindC 9)) from ext_alloc HE.out _)
        clear HT0
        go_wp2_with fail
        rw [← hgs]
        clear hgs d0_0 d0_1 d0_2 hk hlt
        generalize wr = wv at *
        go_loopw [5, 9] (fun s i wr => ∃ k : Nat, k ≤ p.os.length ∧ s = sV (TV ++ catN (obTxt p) k) ∧ i = .int .i64 (k : Int) ∧ Ext wk wr ∧ wr.heap[gs]? = some (.cells kindC 9 (0, 0))) (fun _ i _ => p.os.length - (intOf i).toNat)
        case atStart => exact ⟨0, Nat.zero_le _, by simp [catN], rfl, HBE.out, HB0.out⟩
        case round =>
          clear HBE HB0 HE
          obtain ⟨k, hk, rfl, rfl, hE, hG⟩ := hrel
          have HE := Lib.hid hE
          have HG := Lib.hid hG
          clear hE hG
          obtain ⟨d0_0, d0_1, d0_2⟩ := BX.out wr HE.out
          by_cases hlt : k < p.os.length
          · obtain ⟨b0, off, hva, hcs⟩ := (HRW.out wr HE.out).os k hlt
            dsimp only at hva
            subst hva
            obtain ⟨c0, c1, c2, c3⟩ := hcs
            have hb0 := cell_lt2 c0
            dsimp only at hb0
            have HT1 := Lib.hid (show TV ++ catN (obTxt p) (k + 1) = TV ++ catN (obTxt p) k ++ obTxt p k from by rw [List.append_assoc]; rfl)
            have HTL := Lib.hid (show (TV ++ catN (obTxt p) k).length ≤ 4000 from by have := obCat_le HWF.out HV.out k hk; have := HLV.out; rw [List.length_append]; omega)
            have HSM := Lib.hid (ob_sm HV.out hlt)
            have HVR := Lib.hid (ob_ref p hlt)
            have HVT := Lib.hid (show (obTxt p k).length ≤ 125 from by have := lineB_le (obWd_fit HWF.out HV.out hlt); unfold obTxt; rw [obAt_eq hlt]; simpa [obWd] using this)
            have HNL := Lib.hid (isNm_len (HV.out.ob hlt).nm).2
            obtain ⟨m, hm, hm9⟩ : ∃ m : Nat, (p.os[k]).kind = m ∧ m < 10 := by have h1 := (HV.out.ob hlt).k1; have h2 := (HV.out.ob hlt).k2; exact ⟨(p.os[k]).kind.toNat, by omega, by omega⟩
            rw [hm] at c1 HVR
            clear hm
            generalize (p.os[k]).name = nm at *
            generalize (p.os[k]).size = sz at *
            generalize (p.os[k]).oth = ot at *
            obtain ⟨T, hT⟩ : ∃ t, TV ++ catN (obTxt p) k = t := ⟨_, rfl⟩
            rw [hT] at HT1 HTL
            rw [hT]
            clear hT
            obtain ⟨kn, hkn⟩ : ∃ t, kindNm (m : Int) = t := ⟨_, rfl⟩
            have HKL := Lib.hid (show kn.length ≤ 30 from hkn ▸ kindNm_le _)
            rw [hkn] at HVR
            have HAD6 := Lib.hid (show kn.length + ([32] : List UInt8).length ≤ 1000000000 from by have := HKL.out; simp only [List.length_cons, List.length_nil]; omega)
            have HAD9 := Lib.hid (show (kn ++ [32]).length + nm.length ≤ 1000000000 from by have := HKL.out; have := HNL.out; simp only [List.length_append, List.length_cons, List.length_nil]; omega)
            have HWL := Lib.hid (show (kn ++ [32] ++ nm).length ≤ 1000000000 from by have := HKL.out; have := HNL.out; simp only [List.length_append, List.length_cons, List.length_nil]; omega)
            go_wp2_with fail
            clear c0 c1 c2 c3 d0_0 d0_1 d0_2 hb0
            obtain ⟨wa, hwa⟩ : ∃ W, W = wr.alloc (.cells #[sV nm, .int .i64 (m : Int), .int .i64 sz, .int .i64 ot] 35) := ⟨_, rfl⟩
            have HAa := Lib.hid (show wa.heap[wr.heap.size]? = some (.cells #[sV nm, .int .i64 (m : Int), .int .i64 sz, .int .i64 ot] 35) from by rw [hwa]; exact alloc_here _ _)
            have HEa := Lib.hid (show Ext wr wa from by rw [hwa]; exact (Below.refl _ _).alloc (Nat.le_refl _) _)
            rw [← hwa]
            clear hwa
            obtain ⟨na, hnb⟩ : ∃ n, n = wr.heap.size := ⟨_, rfl⟩
            rw [← hnb] at HAa
            rw [← hnb]
            clear hnb
            have KN := Lib.hid (fun W (hW : Ext wa W) => show W.cell? ⟨gs, m, none⟩ = some (sV kn) from by
              have hW2 := Ext.trans HEa.out hW
              exact cell_of ((hW2.below.block _ (lt_of_block HG.out)).trans HG.out) (hkn ▸ kindC_get m hm9))
            clear hkn
            refine wp_region_tail (l1 := [_, _, _, _, _, _, _, _, _, _, _, _, _, _, _, _]) (l2 := [_, _]) (by kernel_rfl) Ext (fun W => Below.refl _ W) (fun W => show Below W.heap.size W { W with drawn := W.drawn + 1 } from ⟨rfl, rfl, rfl, Nat.le_refl _, fun _ _ => rfl⟩) Ext.trans
              (fun i s W => match i with
                | 0 => s 0 = sV T
                | 1 => s 1 = .slice (some ⟨gs, 0, none⟩) 10 10
                | 2 => s 2 = .pointer (some ⟨na, 1, none⟩)
                | 3 => s 3 = .int .i64 (m : Int)
                | 4 => s 4 = .pointer (some ⟨gs, m, none⟩)
                | 5 => s 5 = sV kn
                | 6 => s 6 = sV (kn ++ [32])
                | 7 => s 7 = .pointer (some ⟨na, 0, none⟩)
                | 8 => s 8 = sV nm
                | 9 => s 9 = sV (kn ++ [32] ++ nm)
                | 10 => s 10 = .pointer (some ⟨na, 2, none⟩)
                | 11 => s 11 = .int .i64 sz
                | 12 => s 12 = .pointer (some ⟨na, 3, none⟩)
                | 13 => s 13 = .int .i64 ot
                | 14 => ∃ g, s 14 = .slice (some ⟨g, 0, none⟩) 2 2 ∧ IntsAt W (some ⟨g, 0, none⟩) [sz, ot]
                | 15 => s 15 = sV (refL (kn ++ [32] ++ nm) [sz, ot])
                | _ => True)
              (fun i => [i])
              (by
                intro i s s' W W' h hs hE
                have hs := hs i (by simp)
                match i, h, hs with
                | 0, h, hs => exact hs.trans h
                | 1, h, hs => exact hs.trans h
                | 2, h, hs => exact hs.trans h
                | 3, h, hs => exact hs.trans h
                | 4, h, hs => exact hs.trans h
                | 5, h, hs => exact hs.trans h
                | 6, h, hs => exact hs.trans h
                | 7, h, hs => exact hs.trans h
                | 8, h, hs => exact hs.trans h
                | 9, h, hs => exact hs.trans h
                | 10, h, hs => exact hs.trans h
                | 11, h, hs => exact hs.trans h
                | 12, h, hs => exact hs.trans h
                | 13, h, hs => exact hs.trans h
                | 14, ⟨g, h1, h2⟩, hs => exact ⟨g, hs.trans h1, h2.below hE⟩
                | 15, h, hs => exact hs.trans h
                | i + 16, h, hs => exact trivial)
              (by kernel_rfl) (by kernel_rfl) (by kernel_rfl) 144 rfl (by kernel_rfl) (by kernel_rfl) ?_ ?_
            · intro i op ho a' W hA
              have hk0 := (hA.rel.below.block _ (lt_of_block HAa.out)).trans HAa.out
              have x0 : W.cell? ⟨na, 0, none⟩ = some (sV nm) := cell_of hk0 rfl
              have x1 : W.cell? ⟨na, 1, none⟩ = some (.int .i64 (m : Int)) := cell_of hk0 rfl
              have x2 : W.cell? ⟨na, 2, none⟩ = some (.int .i64 sz) := cell_of hk0 rfl
              have x3 : W.cell? ⟨na, 3, none⟩ = some (.int .i64 ot) := cell_of hk0 rfl
              match i, ho with
              | 0, ho =>
                obtain rfl := Option.some.inj ho
                have e1 : a'.eval (.tmp 5) = sV T := hA.keep 5 (by kernel_rfl)
                refine GoesG.value (sV T) rfl ?_ (Below.refl _ _) (fun s h1 h2 => h1 rfl)
                simp only [execOp, e1]
                simp [go_sem, x0, x1, x2, x3]
              | 1, ho =>
                obtain rfl := Option.some.inj ho
                have e1 : a'.eval (.tmp 8) = .slice (some ⟨gs, 0, none⟩) 10 10 := hA.keep 8 (by kernel_rfl)
                refine GoesG.value (.slice (some ⟨gs, 0, none⟩) 10 10) rfl ?_ (Below.refl _ _) (fun s h1 h2 => h1 rfl)
                simp only [execOp, e1]
                simp [go_sem, x0, x1, x2, x3]
              | 2, ho =>
                obtain rfl := Option.some.inj ho
                have e1 : a'.eval (.tmp 10) = .pointer (some ⟨na, 0, none⟩) := hA.keep 10 (by kernel_rfl)
                refine GoesG.value (.pointer (some ⟨na, 1, none⟩)) rfl ?_ (Below.refl _ _) (fun s h1 h2 => h1 rfl)
                simp only [execOp, e1]
                simp [go_sem, x0, x1, x2, x3]
              | 3, ho =>
                obtain rfl := Option.some.inj ho
                have e1 : a'.eval (.tmp 68) = .pointer (some ⟨na, 1, none⟩) := (sv_dst (l := _) rfl).symm.trans (hA.new 2 (by decide) (by kernel_rfl))
                refine GoesG.value (.int .i64 (m : Int)) rfl ?_ (Below.refl _ _) (fun s h1 h2 => h1 rfl)
                simp only [execOp, e1]
                simp [go_sem, x0, x1, x2, x3]
              | 4, ho =>
                obtain rfl := Option.some.inj ho
                have e1 : a'.eval (.tmp 67) = .slice (some ⟨gs, 0, none⟩) 10 10 := (sv_dst (l := _) rfl).symm.trans (hA.new 1 (by decide) (by kernel_rfl))
                have e2 : a'.eval (.tmp 69) = .int .i64 (m : Int) := (sv_dst (l := _) rfl).symm.trans (hA.new 3 (by decide) (by kernel_rfl))
                refine GoesG.value (.pointer (some ⟨gs, m, none⟩)) rfl ?_ (Below.refl _ _) (fun s h1 h2 => h1 rfl)
                have hm8 : ¬ (10 : Int) ≤ (m : Int) := by omega
                simp only [execOp, e1, e2]
                simp [go_sem, hm9, hm8]
              | 5, ho =>
                obtain rfl := Option.some.inj ho
                have e1 : a'.eval (.tmp 70) = .pointer (some ⟨gs, m, none⟩) := (sv_dst (l := _) rfl).symm.trans (hA.new 4 (by decide) (by kernel_rfl))
                have c9 := KN.out W hA.rel
                refine GoesG.value (sV kn) rfl ?_ (Below.refl _ _) (fun s h1 h2 => h1 rfl)
                simp only [execOp, e1]
                simp [go_sem, c9]
              | 6, ho =>
                obtain rfl := Option.some.inj ho
                have e1 : a'.eval (.tmp 71) = sV (kn) := (sv_dst (l := _) rfl).symm.trans (hA.new 5 (by decide) (by kernel_rfl))
                exact GoesG.addS (.tmp 71) _ 9 9 (kn) ([32]) rfl rfl e1 rfl HAD6.out (Below.refl _ _) (fun s h1 h2 => h1 rfl)
              | 7, ho =>
                obtain rfl := Option.some.inj ho
                have e1 : a'.eval (.tmp 10) = .pointer (some ⟨na, 0, none⟩) := hA.keep 10 (by kernel_rfl)
                refine GoesG.value (.pointer (some ⟨na, 0, none⟩)) rfl ?_ (Below.refl _ _) (fun s h1 h2 => h1 rfl)
                simp only [execOp, e1]
                simp [go_sem, x0, x1, x2, x3]
              | 8, ho =>
                obtain rfl := Option.some.inj ho
                have e1 : a'.eval (.tmp 73) = .pointer (some ⟨na, 0, none⟩) := (sv_dst (l := _) rfl).symm.trans (hA.new 7 (by decide) (by kernel_rfl))
                refine GoesG.value (sV nm) rfl ?_ (Below.refl _ _) (fun s h1 h2 => h1 rfl)
                simp only [execOp, e1]
                simp [go_sem, x0, x1, x2, x3]
              | 9, ho =>
                obtain rfl := Option.some.inj ho
                have e1 : a'.eval (.tmp 72) = sV (kn ++ [32]) := (sv_dst (l := _) rfl).symm.trans (hA.new 6 (by decide) (by kernel_rfl))
                have e2 : a'.eval (.tmp 74) = sV (nm) := (sv_dst (l := _) rfl).symm.trans (hA.new 8 (by decide) (by kernel_rfl))
                exact GoesG.addS (.tmp 72) (.tmp 74) 9 9 (kn ++ [32]) (nm) rfl rfl e1 e2 HAD9.out (Below.refl _ _) (fun s h1 h2 => h1 rfl)
              | 10, ho =>
                obtain rfl := Option.some.inj ho
                have e1 : a'.eval (.tmp 10) = .pointer (some ⟨na, 0, none⟩) := hA.keep 10 (by kernel_rfl)
                refine GoesG.value (.pointer (some ⟨na, 2, none⟩)) rfl ?_ (Below.refl _ _) (fun s h1 h2 => h1 rfl)
                simp only [execOp, e1]
                simp [go_sem, x0, x1, x2, x3]
              | 11, ho =>
                obtain rfl := Option.some.inj ho
                have e1 : a'.eval (.tmp 76) = .pointer (some ⟨na, 2, none⟩) := (sv_dst (l := _) rfl).symm.trans (hA.new 10 (by decide) (by kernel_rfl))
                refine GoesG.value (.int .i64 sz) rfl ?_ (Below.refl _ _) (fun s h1 h2 => h1 rfl)
                simp only [execOp, e1]
                simp [go_sem, x0, x1, x2, x3]
              | 12, ho =>
                obtain rfl := Option.some.inj ho
                have e1 : a'.eval (.tmp 10) = .pointer (some ⟨na, 0, none⟩) := hA.keep 10 (by kernel_rfl)
                refine GoesG.value (.pointer (some ⟨na, 3, none⟩)) rfl ?_ (Below.refl _ _) (fun s h1 h2 => h1 rfl)
                simp only [execOp, e1]
                simp [go_sem, x0, x1, x2, x3]
              | 13, ho =>
                obtain rfl := Option.some.inj ho
                have e1 : a'.eval (.tmp 78) = .pointer (some ⟨na, 3, none⟩) := (sv_dst (l := _) rfl).symm.trans (hA.new 12 (by decide) (by kernel_rfl))
                refine GoesG.value (.int .i64 ot) rfl ?_ (Below.refl _ _) (fun s h1 h2 => h1 rfl)
                simp only [execOp, e1]
                simp [go_sem, x0, x1, x2, x3]
              | 14, ho =>
                obtain rfl := Option.some.inj ho
                have e1 : a'.eval (.tmp 77) = .int .i64 sz := (sv_dst (l := _) rfl).symm.trans (hA.new 11 (by decide) (by kernel_rfl))
                have e2 : a'.eval (.tmp 79) = .int .i64 ot := (sv_dst (l := _) rfl).symm.trans (hA.new 13 (by decide) (by kernel_rfl))
                have f1 : a'.tmps[77]?.getD undef = .int .i64 sz := by simpa [go_sem] using e1
                have f2 : a'.tmps[79]?.getD undef = .int .i64 ot := by simpa [go_sem] using e2
                refine GoesG.value (.slice (some ⟨W.heap.size, 0, none⟩) 2 2) rfl ?_ (ext_alloc (Below.refl _ _) (.cells ([sz, ot].map (Value.int .i64)).toArray 3)) (fun s h1 h2 => ⟨W.heap.size, h1 rfl, ints_lit W [sz, ot]⟩)
                simp only [execOp, e1, e2]
                simp [go_sem, f1, f2]
              | 15, ho =>
                obtain rfl := Option.some.inj ho
                obtain ⟨g, e0, hI⟩ := hA.new 14 (by decide) (by kernel_rfl)
                have e2 : a'.eval (.tmp 80) = .slice (some ⟨g, 0, none⟩) 2 2 := (sv_dst (l := _) rfl).symm.trans e0
                have e1 : a'.eval (.tmp 75) = sV (kn ++ [32] ++ nm) := (sv_dst (l := _) rfl).symm.trans (hA.new 9 (by decide) (by kernel_rfl))
                refine GoesG.call 42 #[sV (kn ++ [32] ++ nm), .slice (some ⟨g, 0, none⟩) 2 2] rfl ?_ ((rline_any (kn ++ [32] ++ nm) [sz, ot] _ 2 W hI (by simp) HWL.out HSM.out).mono ?_)
                · simp [execOp, resolve, invoke, Deferred.ofValue, e1, e2]
                  rfl
                · intro W1 hE1
                  exact ⟨_, rfl, hE1, fun s h1 h2 => h1 rfl⟩
              | i + 16, ho => cases ho
            · intro vs w4 hvs hG hΦ
              obtain ⟨y0, y1, y2, y3, y4, y5, y6, y7, y8, y9, y10, y11, y12, y13, y14, y15, rfl⟩ : ∃ y0 y1 y2 y3 y4 y5 y6 y7 y8 y9 y10 y11 y12 y13 y14 y15, vs = y0 :: y1 :: y2 :: y3 :: y4 :: y5 :: y6 :: y7 :: y8 :: y9 :: y10 :: y11 :: y12 :: y13 :: y14 :: y15 :: [] := by
                match vs, hvs with
                | y0 :: y1 :: y2 :: y3 :: y4 :: y5 :: y6 :: y7 :: y8 :: y9 :: y10 :: y11 :: y12 :: y13 :: y14 :: y15 :: [], _ => exact ⟨y0, y1, y2, y3, y4, y5, y6, y7, y8, y9, y10, y11, y12, y13, y14, y15, rfl⟩
              have e0 : y0 = sV T := hΦ 0 (by decide)
              subst e0
              have e1 : y1 = .slice (some ⟨gs, 0, none⟩) 10 10 := hΦ 1 (by decide)
              subst e1
              have e2 : y2 = .pointer (some ⟨na, 1, none⟩) := hΦ 2 (by decide)
              subst e2
              have e3 : y3 = .int .i64 (m : Int) := hΦ 3 (by decide)
              subst e3
              have e4 : y4 = .pointer (some ⟨gs, m, none⟩) := hΦ 4 (by decide)
              subst e4
              have e5 : y5 = sV kn := hΦ 5 (by decide)
              subst e5
              have e6 : y6 = sV (kn ++ [32]) := hΦ 6 (by decide)
              subst e6
              have e7 : y7 = .pointer (some ⟨na, 0, none⟩) := hΦ 7 (by decide)
              subst e7
              have e8 : y8 = sV nm := hΦ 8 (by decide)
              subst e8
              have e9 : y9 = sV (kn ++ [32] ++ nm) := hΦ 9 (by decide)
              subst e9
              have e10 : y10 = .pointer (some ⟨na, 2, none⟩) := hΦ 10 (by decide)
              subst e10
              have e11 : y11 = .int .i64 sz := hΦ 11 (by decide)
              subst e11
              have e12 : y12 = .pointer (some ⟨na, 3, none⟩) := hΦ 12 (by decide)
              subst e12
              have e13 : y13 = .int .i64 ot := hΦ 13 (by decide)
              subst e13
              have p14 : ∃ g, y14 = .slice (some ⟨g, 0, none⟩) 2 2 ∧ IntsAt w4 (some ⟨g, 0, none⟩) [sz, ot] := hΦ 14 (by decide)
              have e15 : y15 = sV (refL (kn ++ [32] ++ nm) [sz, ot]) := hΦ 15 (by decide)
              subst e15
              clear hΦ hvs
              simp only [putAll, Act.put, List.setIfInBounds_toArray, List.set_cons_succ, List.set_cons_zero]
              have HE4 := Lib.hid (Ext.trans HE.out (Ext.trans HEa.out hG))
              have HG4 := Lib.hid (((Ext.trans HEa.out hG).below.block _ (lt_of_block HG.out)).trans HG.out)
              have HN4 := Lib.hid (show sV (T ++ refL (kn ++ [32] ++ nm) [sz, ot]) = sV (TV ++ catN (obTxt p) (k + 1)) from by rw [HT1.out, HVR.out])
              have HLL := Lib.hid (show (refL (kn ++ [32] ++ nm) [sz, ot]).length ≤ 125 from HVR.out ▸ HVT.out)
              clear hG KN
              generalize refL (kn ++ [32] ++ nm) [sz, ot] = L at *
              have hTl := HTL.out
              have hLl := HLL.out
              go_wp2
              go_roundw
              case rel => exact ⟨k + 1, by omega, HN4.out, by go_num, HE4.out, HG4.out⟩
              case measure => simp [intOf]; omega
          · skip
            have HT0 := Lib.hid (show k = p.os.length by omega)
            generalize k = ko at *
            obtain ⟨T2, hT2⟩ : ∃ t, TV ++ catN (obTxt p) ko = t := ⟨_, rfl⟩
            have HT2 := Lib.hid (show T2 = catN (vaTxt p) p.vs.length ++ catN (obTxt p) p.os.length from by rw [← hT2, HT0.out, HTV.out])
            have HL2 := Lib.hid (show T2.length ≤ 4000 from by have h1 := vaCat_le HWF.out HV.out _ (Nat.le_refl _); have h4 := obCat_le HWF.out HV.out _ (Nat.le_refl _); rw [HT2.out, List.length_append]; omega)
            have HTP := Lib.hid (show textP p = T2 ++ catN (fnTxt p) p.fs.length from by rw [HT2.out]; rfl)
            rw [hT2]
            clear hT2
            go_wp2_with fail
            clear d0_0 d0_1 d0_2 hk hlt HG HT0 HT2 HTV HLV
            have HEO := Lib.hid HE.out
            clear HE
            generalize wr = wv2 at *
            go_loopw [5, 11] (fun s i wr => ∃ k : Nat, k ≤ p.fs.length ∧ s = sV (T2 ++ catN (fnTxt p) k) ∧ i = .int .i64 (k : Int) ∧ Ext wk wr) (fun _ i _ => p.fs.length - (intOf i).toNat)
            case atStart => exact ⟨0, Nat.zero_le _, by simp [catN], rfl, HEO.out⟩
            case round =>
              clear HEO
              obtain ⟨k, hk, rfl, rfl, hE⟩ := hrel
              have HE := Lib.hid hE
              clear hE
              obtain ⟨d0_0, d0_1, d0_2⟩ := BX.out wr HE.out
              by_cases hlt : k < p.fs.length
              · obtain ⟨b0, off, ca, cc, hva, hcs, hir⟩ := (HRW.out wr HE.out).fs k hlt
                dsimp only at hva
                subst hva
                obtain ⟨c0, c1, c2, c3, c4, c5⟩ := hcs
                have hb0 := cell_lt2 c0
                dsimp only at hb0
                have HLC := Lib.hid (fnCat_le HWF.out HV.out k hk)
                have HSMF := Lib.hid (fn_sm HV.out hlt)
                have HVT := Lib.hid (show (lineB (fnWd p.fs[k])).length ≤ 156 from by have := lineB_le (fnWd_fit HWF.out HV.out hlt); simpa [fnWd] using this)
                have HFT := Lib.hid (show fnTxt p k = lineB (fnWd p.fs[k]) ++ catN (insTxt p.fs[k]) (p.fs[k]).code.length from by unfold fnTxt; rw [fnAt_eq hlt])
                have HNL := Lib.hid (isNm_len (HV.out.fn hlt).nm).2
                have HSMI := Lib.hid (fun j (hj : j < (p.fs[k]).code.length) => ins_sm HV.out hlt hj)
                have HINS := Lib.hid (fun j (hj : j < (p.fs[k]).code.length) => show ∃ s, shp ((p.fs[k]).code[j]).op = some s from by obtain ⟨s, hs⟩ := (HV.out.fn hlt).ins hj; exact ⟨s, hs.shp⟩)
                have HCAT := Lib.hid (fun j (hj : j ≤ (p.fs[k]).code.length) => insCat_le HWF.out HV.out hlt j hj)
                have HIL := Lib.hid (fun j (hj : j < (p.fs[k]).code.length) => insTxt_le HWF.out HV.out hlt hj)
                have HARG := Lib.hid (fun j (hj : j < (p.fs[k]).code.length) => insArgs HV.out hlt hj)
                have hcl := (HV.out.fn hlt).len
                have HT1 := Lib.hid (show T2 ++ catN (fnTxt p) (k + 1) = T2 ++ catN (fnTxt p) k ++ fnTxt p k from by rw [List.append_assoc]; rfl)
                rw [HFT.out] at HT1
                clear HFT
                have HIR := Lib.hid (fun W (hW : Ext wr W) => hir.ext hW)
                clear hir
                obtain ⟨f, hf⟩ : ∃ f, p.fs[k] = f := ⟨_, rfl⟩
                rw [hf] at c0 c1 c2 c3 c4 c5
                rw [hf] at HSMF HVT HNL HSMI HINS HCAT HIL HARG HT1 HIR hcl
                clear hf
                obtain ⟨T, hT⟩ : ∃ t, T2 ++ catN (fnTxt p) k = t := ⟨_, rfl⟩
                have HTL := Lib.hid (show T.length ≤ 4580000 from by have := HL2.out; have := HLC.out; rw [← hT, List.length_append]; omega)
                rw [hT] at HT1
                rw [hT]
                clear hT HLC
                have HVR := Lib.hid (fn_ref f)
                cases hat : f.cl
                · rw [hat] at c4 HVR
                  clear hat
                  have HVR := Lib.hid (show lineB (fnWd f) = refL ([102, 117, 110, 99, 32] ++ f.name) [f.params, f.regs, f.prio] from HVR.out)
                  have HWL := Lib.hid (show ([102, 117, 110, 99, 32] ++ f.name).length ≤ 1000000000 from by have := HNL.out; simp only [List.length_append, List.length_cons, List.length_nil]; omega)
                  have hNl := HNL.out
                  obtain ⟨na, hna⟩ : ∃ n, n = wr.heap.size := ⟨_, rfl⟩
                  have HNA := Lib.hid hna
                  clear hna
                  go_wp2_with fail
                  clear c0 c1 c2 c3 c4 c5 d0_0 d0_1 d0_2 hb0 hNl
                  have hI9 : IntsAt ((wr.alloc (.cells #[sV f.name, .int .i64 f.params, .int .i64 f.regs, .int .i64 f.prio, .bool false, .slice ca f.code.length cc] 44)).alloc (.cells #[.int .i64 f.params, .int .i64 f.regs, .int .i64 f.prio] 3)) (some ⟨wr.heap.size + 1, 0, none⟩) [f.params, f.regs, f.prio] := by
                    have := ints_lit (wr.alloc (.cells #[sV f.name, .int .i64 f.params, .int .i64 f.regs, .int .i64 f.prio, .bool false, .slice ca f.code.length cc] 44)) [f.params, f.regs, f.prio]
                    rwa [World.size_alloc] at this
                  refine (rline_any ([102, 117, 110, 99, 32] ++ f.name) [f.params, f.regs, f.prio] (some ⟨wr.heap.size + 1, 0, none⟩) 3 ((wr.alloc (.cells #[sV f.name, .int .i64 f.params, .int .i64 f.regs, .int .i64 f.prio, .bool false, .slice ca f.code.length cc] 44)).alloc (.cells #[.int .i64 f.params, .int .i64 f.regs, .int .i64 f.prio] 3)) hI9 (by simp) HWL.out HSMF.out).mono ?_
                  intro w5 hB
                  have HE1 := Lib.hid (show Ext wr w5 from Ext.trans (ext_alloc (ext_alloc (Below.refl _ _) (.cells #[sV f.name, .int .i64 f.params, .int .i64 f.regs, .int .i64 f.prio, .bool false, .slice ca f.code.length cc] 44)) (.cells #[.int .i64 f.params, .int .i64 f.regs, .int .i64 f.prio] 3)) hB)
                  have HAa := Lib.hid (show w5.heap[na]? = some (.cells #[sV f.name, .int .i64 f.params, .int .i64 f.regs, .int .i64 f.prio, .bool false, .slice ca f.code.length cc] 44 (0, 0)) from by
                    rw [HNA.out]
                    have h1 := alloc_here wr (.cells #[sV f.name, .int .i64 f.params, .int .i64 f.regs, .int .i64 f.prio, .bool false, .slice ca f.code.length cc] 44)
                    have h2 := Ext.trans (ext_alloc (Below.refl _ _) (.cells #[.int .i64 f.params, .int .i64 f.regs, .int .i64 f.prio] 3)) hB
                    exact (h2.below.block _ (lt_of_block h1)).trans h1)
                  have HE5 := Lib.hid (Ext.trans HE.out HE1.out)
                  clear hB hI9
                  rw [← HNA.out]
                  clear HNA
                  obtain ⟨L, hL⟩ : ∃ l, refL ([102, 117, 110, 99, 32] ++ f.name) [f.params, f.regs, f.prio] = l := ⟨_, rfl⟩
                  have HLL := Lib.hid (show L.length ≤ 156 from by have := HVT.out; rw [HVR.out, hL] at this; exact this)
                  have HT3 := Lib.hid (show T2 ++ catN (fnTxt p) (k + 1) = T ++ L ++ catN (insTxt f) f.code.length from by rw [HT1.out, HVR.out, hL, List.append_assoc])
                  rw [hL]
                  clear hL HVR HVT HT1
                  have hTl := HTL.out
                  have hLl := HLL.out
                  obtain ⟨d0_0, d0_1, d0_2⟩ := BX.out w5 HE5.out
                  go_wp2_with fail
                  clear hTl hLl d0_0 d0_1 d0_2
                  obtain ⟨T3, hT3⟩ : ∃ t, T ++ L = t := ⟨_, rfl⟩
                  have HL3 := Lib.hid (show T3.length ≤ 4581000 from by have := HTL.out; have := HLL.out; rw [← hT3, List.length_append]; omega)
                  rw [hT3] at HT3
                  rw [hT3]
                  clear hT3 HTL HLL
                  generalize wr = wo at *
                  go_loopw [5, 14] (fun s i wr => ∃ j : Nat, j ≤ f.code.length ∧ s = sV (T3 ++ catN (insTxt f) j) ∧ i = .int .i64 (j : Int) ∧ Ext w5 wr) (fun _ i _ => f.code.length - (intOf i).toNat)
                  case atStart => exact ⟨0, Nat.zero_le _, by simp [catN], rfl, Below.refl _ _⟩
                  case round =>
                    obtain ⟨j, hj, rfl, rfl, hE⟩ := hrel
                    have HEJ := Lib.hid hE
                    clear hE
                    have g5 : wr.cell? ⟨na, 5, none⟩ = some (.slice ca f.code.length cc) := cell_of ((HEJ.out.below.block _ (lt_of_block HAa.out)).trans HAa.out) rfl
                    obtain ⟨d0_0, d0_1, d0_2⟩ := BX.out wr (Ext.trans HE5.out HEJ.out)
                    by_cases hlj : j < f.code.length
                    · obtain ⟨b1, o1, xa, xc, hca, hcs, hia, hxc⟩ := HIR.out wr (Ext.trans HE1.out HEJ.out) j hlj
                      subst hca
                      obtain ⟨c0, c1, c2, c3, c4⟩ := hcs
                      have hb1 := cell_lt2 c0
                      dsimp only at hb1
                      have HSM := Lib.hid (HSMI.out j hlj)
                      have HSH := Lib.hid (HINS.out j hlj)
                      have HAL := Lib.hid (show (f.code[j]).args.length ≤ 900 from Nat.le_trans (HARG.out j hlj) (by decide))
                      have HVR := Lib.hid (show insTxt f j = refL (Lib.itoa (j : Int) ++ [32] ++ opName (f.code[j]).op) ([(f.code[j]).a, (f.code[j]).b, (f.code[j]).c] ++ (f.code[j]).args) from by unfold insTxt; rw [insAt_eq hlj, ins_ref])
                      have HVT := Lib.hid (HIL.out j hlj)
                      have HTJ := Lib.hid (show T3 ++ catN (insTxt f) (j + 1) = T3 ++ catN (insTxt f) j ++ insTxt f j from by rw [List.append_assoc]; rfl)
                      have HJ := Lib.hid (show -1099511627776 ≤ (j : Int) ∧ (j : Int) ≤ 1099511627776 from ⟨by omega, by omega⟩)
                      have HIA0 := Lib.hid hia
                      clear hia hxc
                      obtain ⟨y, hy⟩ : ∃ y, f.code[j] = y := ⟨_, rfl⟩
                      rw [hy] at c0 c1 c2 c3 c4
                      rw [hy] at HSM HSH HAL HVR HIA0
                      clear hy
                      obtain ⟨T, hT⟩ : ∃ t, T3 ++ catN (insTxt f) j = t := ⟨_, rfl⟩
                      have HTL := Lib.hid (show T.length ≤ 4800000 from by have := HL3.out; have := HCAT.out j hj; rw [← hT, List.length_append]; omega)
                      rw [hT] at HTJ
                      rw [hT]
                      clear hT
                      obtain ⟨al, hal⟩ : ∃ l, [y.a, y.b, y.c] ++ y.args = l := ⟨_, rfl⟩
                      have HAQ := Lib.hid hal
                      have HALL := Lib.hid (show al.length ≤ 1000 from by have := HAL.out; rw [← hal]; simp only [List.length_append, List.length_cons, List.length_nil]; omega)
                      rw [hal] at HSM HVR
                      clear hal
                      have HIT := Lib.hid (itoa_le (v := (j : Int)) ⟨by omega, by omega⟩)
                      have HAD3 := Lib.hid (show (Lib.itoa (j : Int)).length + ([32] : List UInt8).length ≤ 1000000000 from by have := HIT.out; simp only [List.length_cons, List.length_nil]; omega)
                      have HAD7 := Lib.hid (show (Lib.itoa (j : Int) ++ [32]).length + (opName y.op).length ≤ 1000000000 from by have := HIT.out; have := opName_le y.op; simp only [List.length_append, List.length_cons, List.length_nil]; omega)
                      have HWL := Lib.hid (show (Lib.itoa (j : Int) ++ [32] ++ opName y.op).length ≤ 1000000000 from by have := HIT.out; have := opName_le y.op; simp only [List.length_append, List.length_cons, List.length_nil]; omega)
                      go_wp2_with fail
                      clear c0 c1 c2 c3 c4 g5 d0_0 d0_1 d0_2 hb1
                      obtain ⟨wc, hwa⟩ : ∃ W, W = wr.alloc (.cells #[.int .i64 y.op, .int .i64 y.a, .int .i64 y.b, .int .i64 y.c, .slice xa y.args.length xc] 56) := ⟨_, rfl⟩
                      have HAc := Lib.hid (show wc.heap[wr.heap.size]? = some (.cells #[.int .i64 y.op, .int .i64 y.a, .int .i64 y.b, .int .i64 y.c, .slice xa y.args.length xc] 56) from by rw [hwa]; exact alloc_here _ _)
                      have HEc := Lib.hid (show Ext wr wc from by rw [hwa]; exact (Below.refl _ _).alloc (Nat.le_refl _) _)
                      rw [← hwa]
                      clear hwa
                      obtain ⟨nc, hnb⟩ : ∃ n, n = wr.heap.size := ⟨_, rfl⟩
                      rw [← hnb] at HAc
                      rw [← hnb]
                      clear hnb
                      have HIA := Lib.hid (fun W (hW : Ext wc W) => HIA0.out.below (Ext.trans HEc.out hW))
                      refine wp_region_tail (l1 := [_, _, _, _, _, _, _, _, _, _, _, _, _, _, _, _, _, _, _]) (l2 := [_, _]) (by kernel_rfl) Ext (fun W => Below.refl _ W) (fun W => show Below W.heap.size W { W with drawn := W.drawn + 1 } from ⟨rfl, rfl, rfl, Nat.le_refl _, fun _ _ => rfl⟩) Ext.trans
                        (fun i s W => match i with
                          | 0 => s 0 = sV T
                          | 1 => s 1 = .int .i64 (j : Int)
                          | 2 => s 2 = sV (Lib.itoa (j : Int))
                          | 3 => s 3 = sV (Lib.itoa (j : Int) ++ [32])
                          | 4 => s 4 = .pointer (some ⟨nc, 0, none⟩)
                          | 5 => s 5 = .int .i64 y.op
                          | 6 => s 6 = sV (opName y.op)
                          | 7 => s 7 = sV (Lib.itoa (j : Int) ++ [32] ++ opName y.op)
                          | 8 => s 8 = .pointer (some ⟨nc, 1, none⟩)
                          | 9 => s 9 = .int .i64 y.a
                          | 10 => s 10 = .pointer (some ⟨nc, 2, none⟩)
                          | 11 => s 11 = .int .i64 y.b
                          | 12 => s 12 = .pointer (some ⟨nc, 3, none⟩)
                          | 13 => s 13 = .int .i64 y.c
                          | 14 => ∃ g, s 14 = .slice (some ⟨g, 0, none⟩) 3 3 ∧ W.heap[g]? = some (.cells (([y.a, y.b, y.c] : List Int).map (Value.int .i64)).toArray 3 (0, 0))
                          | 15 => s 15 = .pointer (some ⟨nc, 4, none⟩)
                          | 16 => s 16 = .slice xa y.args.length xc
                          | 17 => ∃ q cap, s 17 = .slice q al.length cap ∧ IntsAt W q al
                          | 18 => s 18 = sV (refL (Lib.itoa (j : Int) ++ [32] ++ opName y.op) al)
                          | _ => True)
                        (fun i => [i])
                        (by
                          intro i s s' W W' h hs hE
                          have hs := hs i (by simp)
                          match i, h, hs with
                          | 0, h, hs => exact hs.trans h
                          | 1, h, hs => exact hs.trans h
                          | 2, h, hs => exact hs.trans h
                          | 3, h, hs => exact hs.trans h
                          | 4, h, hs => exact hs.trans h
                          | 5, h, hs => exact hs.trans h
                          | 6, h, hs => exact hs.trans h
                          | 7, h, hs => exact hs.trans h
                          | 8, h, hs => exact hs.trans h
                          | 9, h, hs => exact hs.trans h
                          | 10, h, hs => exact hs.trans h
                          | 11, h, hs => exact hs.trans h
                          | 12, h, hs => exact hs.trans h
                          | 13, h, hs => exact hs.trans h
                          | 14, ⟨g, h1, h2⟩, hs => exact ⟨g, hs.trans h1, (hE.below.block _ (lt_of_block h2)).trans h2⟩
                          | 15, h, hs => exact hs.trans h
                          | 16, h, hs => exact hs.trans h
                          | 17, ⟨q, cap, h1, h2⟩, hs => exact ⟨q, cap, hs.trans h1, h2.below hE⟩
                          | 18, h, hs => exact hs.trans h
                          | i + 19, h, hs => exact trivial)
                        (by kernel_rfl) (by kernel_rfl) (by kernel_rfl) 144 rfl (by kernel_rfl) (by kernel_rfl) ?_ ?_
                      · intro i op ho a' W hA
                        have hk0 := (hA.rel.below.block _ (lt_of_block HAc.out)).trans HAc.out
                        have x0 : W.cell? ⟨nc, 0, none⟩ = some (.int .i64 y.op) := cell_of hk0 rfl
                        have x1 : W.cell? ⟨nc, 1, none⟩ = some (.int .i64 y.a) := cell_of hk0 rfl
                        have x2 : W.cell? ⟨nc, 2, none⟩ = some (.int .i64 y.b) := cell_of hk0 rfl
                        have x3 : W.cell? ⟨nc, 3, none⟩ = some (.int .i64 y.c) := cell_of hk0 rfl
                        have x4 : W.cell? ⟨nc, 4, none⟩ = some (.slice xa y.args.length xc) := cell_of hk0 rfl
                        match i, ho with
                        | 0, ho =>
                          obtain rfl := Option.some.inj ho
                          have e1 : a'.eval (.tmp 5) = sV T := hA.keep 5 (by kernel_rfl)
                          refine GoesG.value (sV T) rfl ?_ (Below.refl _ _) (fun s h1 h2 => h1 rfl)
                          simp only [execOp, e1]
                          simp [go_sem, x0, x1, x2, x3, x4]
                        | 1, ho =>
                          obtain rfl := Option.some.inj ho
                          have e1 : a'.eval (.tmp 14) = .int .i64 (j : Int) := hA.keep 14 (by kernel_rfl)
                          refine GoesG.value (.int .i64 (j : Int)) rfl ?_ (Below.refl _ _) (fun s h1 h2 => h1 rfl)
                          simp only [execOp, e1]
                          simp [go_sem, x0, x1, x2, x3, x4]
                        | 2, ho =>
                          obtain rfl := Option.some.inj ho
                          have e1 : a'.eval (.tmp 124) = .int .i64 (j : Int) := (sv_dst (l := _) rfl).symm.trans (hA.new 1 (by decide) (by kernel_rfl))
                          refine GoesG.call 43 #[.int .i64 (j : Int)] rfl ?_ ((dec13_any (j : Int) HJ.out W).mono ?_)
                          · simp [execOp, resolve, invoke, Deferred.ofValue, e1]
                            rfl
                          · intro W1 hE1
                            exact ⟨_, rfl, hE1, fun s h1 h2 => h1 rfl⟩
                        | 3, ho =>
                          obtain rfl := Option.some.inj ho
                          have e1 : a'.eval (.tmp 125) = sV (Lib.itoa (j : Int)) := (sv_dst (l := _) rfl).symm.trans (hA.new 2 (by decide) (by kernel_rfl))
                          exact GoesG.addS (.tmp 125) _ 9 9 (Lib.itoa (j : Int)) ([32]) rfl rfl e1 rfl HAD3.out (Below.refl _ _) (fun s h1 h2 => h1 rfl)
                        | 4, ho =>
                          obtain rfl := Option.some.inj ho
                          have e1 : a'.eval (.tmp 15) = .pointer (some ⟨nc, 0, none⟩) := hA.keep 15 (by kernel_rfl)
                          refine GoesG.value (.pointer (some ⟨nc, 0, none⟩)) rfl ?_ (Below.refl _ _) (fun s h1 h2 => h1 rfl)
                          simp only [execOp, e1]
                          simp [go_sem, x0, x1, x2, x3, x4]
                        | 5, ho =>
                          obtain rfl := Option.some.inj ho
                          have e1 : a'.eval (.tmp 127) = .pointer (some ⟨nc, 0, none⟩) := (sv_dst (l := _) rfl).symm.trans (hA.new 4 (by decide) (by kernel_rfl))
                          refine GoesG.value (.int .i64 y.op) rfl ?_ (Below.refl _ _) (fun s h1 h2 => h1 rfl)
                          simp only [execOp, e1]
                          simp [go_sem, x0, x1, x2, x3, x4]
                        | 6, ho =>
                          obtain rfl := Option.some.inj ho
                          have e1 : a'.eval (.tmp 128) = .int .i64 y.op := (sv_dst (l := _) rfl).symm.trans (hA.new 5 (by decide) (by kernel_rfl))
                          obtain ⟨sh, hsh⟩ := HSH.out
                          refine GoesG.call 44 #[.int .i64 y.op] rfl ?_ ((opName_any y.op sh hsh W).mono ?_)
                          · simp [execOp, resolve, invoke, Deferred.ofValue, e1]
                            rfl
                          · intro W1 hE1
                            exact ⟨_, rfl, hE1, fun s h1 h2 => h1 rfl⟩
                        | 7, ho =>
                          obtain rfl := Option.some.inj ho
                          have e1 : a'.eval (.tmp 126) = sV (Lib.itoa (j : Int) ++ [32]) := (sv_dst (l := _) rfl).symm.trans (hA.new 3 (by decide) (by kernel_rfl))
                          have e2 : a'.eval (.tmp 129) = sV (opName y.op) := (sv_dst (l := _) rfl).symm.trans (hA.new 6 (by decide) (by kernel_rfl))
                          exact GoesG.addS (.tmp 126) (.tmp 129) 9 9 (Lib.itoa (j : Int) ++ [32]) (opName y.op) rfl rfl e1 e2 HAD7.out (Below.refl _ _) (fun s h1 h2 => h1 rfl)
                        | 8, ho =>
                          obtain rfl := Option.some.inj ho
                          have e1 : a'.eval (.tmp 15) = .pointer (some ⟨nc, 0, none⟩) := hA.keep 15 (by kernel_rfl)
                          refine GoesG.value (.pointer (some ⟨nc, 1, none⟩)) rfl ?_ (Below.refl _ _) (fun s h1 h2 => h1 rfl)
                          simp only [execOp, e1]
                          simp [go_sem, x0, x1, x2, x3, x4]
                        | 9, ho =>
                          obtain rfl := Option.some.inj ho
                          have e1 : a'.eval (.tmp 131) = .pointer (some ⟨nc, 1, none⟩) := (sv_dst (l := _) rfl).symm.trans (hA.new 8 (by decide) (by kernel_rfl))
                          refine GoesG.value (.int .i64 y.a) rfl ?_ (Below.refl _ _) (fun s h1 h2 => h1 rfl)
                          simp only [execOp, e1]
                          simp [go_sem, x0, x1, x2, x3, x4]
                        | 10, ho =>
                          obtain rfl := Option.some.inj ho
                          have e1 : a'.eval (.tmp 15) = .pointer (some ⟨nc, 0, none⟩) := hA.keep 15 (by kernel_rfl)
                          refine GoesG.value (.pointer (some ⟨nc, 2, none⟩)) rfl ?_ (Below.refl _ _) (fun s h1 h2 => h1 rfl)
                          simp only [execOp, e1]
                          simp [go_sem, x0, x1, x2, x3, x4]
                        | 11, ho =>
                          obtain rfl := Option.some.inj ho
                          have e1 : a'.eval (.tmp 133) = .pointer (some ⟨nc, 2, none⟩) := (sv_dst (l := _) rfl).symm.trans (hA.new 10 (by decide) (by kernel_rfl))
                          refine GoesG.value (.int .i64 y.b) rfl ?_ (Below.refl _ _) (fun s h1 h2 => h1 rfl)
                          simp only [execOp, e1]
                          simp [go_sem, x0, x1, x2, x3, x4]
                        | 12, ho =>
                          obtain rfl := Option.some.inj ho
                          have e1 : a'.eval (.tmp 15) = .pointer (some ⟨nc, 0, none⟩) := hA.keep 15 (by kernel_rfl)
                          refine GoesG.value (.pointer (some ⟨nc, 3, none⟩)) rfl ?_ (Below.refl _ _) (fun s h1 h2 => h1 rfl)
                          simp only [execOp, e1]
                          simp [go_sem, x0, x1, x2, x3, x4]
                        | 13, ho =>
                          obtain rfl := Option.some.inj ho
                          have e1 : a'.eval (.tmp 135) = .pointer (some ⟨nc, 3, none⟩) := (sv_dst (l := _) rfl).symm.trans (hA.new 12 (by decide) (by kernel_rfl))
                          refine GoesG.value (.int .i64 y.c) rfl ?_ (Below.refl _ _) (fun s h1 h2 => h1 rfl)
                          simp only [execOp, e1]
                          simp [go_sem, x0, x1, x2, x3, x4]
                        | 14, ho =>
                          obtain rfl := Option.some.inj ho
                          have e1 : a'.eval (.tmp 132) = .int .i64 y.a := (sv_dst (l := _) rfl).symm.trans (hA.new 9 (by decide) (by kernel_rfl))
                          have e2 : a'.eval (.tmp 134) = .int .i64 y.b := (sv_dst (l := _) rfl).symm.trans (hA.new 11 (by decide) (by kernel_rfl))
                          have e3 : a'.eval (.tmp 136) = .int .i64 y.c := (sv_dst (l := _) rfl).symm.trans (hA.new 13 (by decide) (by kernel_rfl))
                          have f1 : a'.tmps[132]?.getD undef = .int .i64 y.a := by simpa [go_sem] using e1
                          have f2 : a'.tmps[134]?.getD undef = .int .i64 y.b := by simpa [go_sem] using e2
                          have f3 : a'.tmps[136]?.getD undef = .int .i64 y.c := by simpa [go_sem] using e3
                          refine GoesG.value (.slice (some ⟨W.heap.size, 0, none⟩) 3 3) rfl ?_ (ext_alloc (Below.refl _ _) (.cells (([y.a, y.b, y.c] : List Int).map (Value.int .i64)).toArray 3)) (fun s h1 h2 => ⟨W.heap.size, h1 rfl, alloc_here _ _⟩)
                          simp only [execOp, e1, e2, e3]
                          simp [go_sem, f1, f2, f3]
                        | 15, ho =>
                          obtain rfl := Option.some.inj ho
                          have e1 : a'.eval (.tmp 15) = .pointer (some ⟨nc, 0, none⟩) := hA.keep 15 (by kernel_rfl)
                          refine GoesG.value (.pointer (some ⟨nc, 4, none⟩)) rfl ?_ (Below.refl _ _) (fun s h1 h2 => h1 rfl)
                          simp only [execOp, e1]
                          simp [go_sem, x0, x1, x2, x3, x4]
                        | 16, ho =>
                          obtain rfl := Option.some.inj ho
                          have e1 : a'.eval (.tmp 138) = .pointer (some ⟨nc, 4, none⟩) := (sv_dst (l := _) rfl).symm.trans (hA.new 15 (by decide) (by kernel_rfl))
                          refine GoesG.value (.slice xa y.args.length xc) rfl ?_ (Below.refl _ _) (fun s h1 h2 => h1 rfl)
                          simp only [execOp, e1]
                          simp [go_sem, x0, x1, x2, x3, x4]
                        | 17, ho =>
                          obtain rfl := Option.some.inj ho
                          obtain ⟨g, e0, hg⟩ := hA.new 14 (by decide) (by kernel_rfl)
                          have e1 : a'.eval (.tmp 137) = .slice (some ⟨g, 0, none⟩) 3 3 := (sv_dst (l := _) rfl).symm.trans e0
                          have e2 : a'.eval (.tmp 139) = .slice xa y.args.length xc := (sv_dst (l := _) rfl).symm.trans (hA.new 16 (by decide) (by kernel_rfl))
                          obtain ⟨q, cap, W1, hr, hI, hE1⟩ := int_app_full W g xc xa [y.a, y.b, y.c] y.args hg (HIA.out W hA.rel) (by simp) (Nat.le_trans HAL.out (by decide))
                          rw [HAQ.out] at hr hI
                          exact GoesG.app2 rfl (.tmp 137) (.tmp 139) 54 rfl (.slice (some ⟨g, 0, none⟩) 3 3) _ (.slice xa y.args.length xc) e1 e2 hr hE1 (fun s h1 h2 => ⟨q, cap, h1 rfl, hI⟩)
                        | 18, ho =>
                          obtain rfl := Option.some.inj ho
                          obtain ⟨q, cap, e0, hI⟩ := hA.new 17 (by decide) (by kernel_rfl)
                          have e2 : a'.eval (.tmp 140) = .slice q al.length cap := (sv_dst (l := _) rfl).symm.trans e0
                          have e1 : a'.eval (.tmp 130) = sV (Lib.itoa (j : Int) ++ [32] ++ opName y.op) := (sv_dst (l := _) rfl).symm.trans (hA.new 7 (by decide) (by kernel_rfl))
                          refine GoesG.call 42 #[sV (Lib.itoa (j : Int) ++ [32] ++ opName y.op), .slice q al.length cap] rfl ?_ ((rline_any (Lib.itoa (j : Int) ++ [32] ++ opName y.op) al q cap W hI HALL.out HWL.out HSM.out).mono ?_)
                          · simp [execOp, resolve, invoke, Deferred.ofValue, e1, e2]
                            rfl
                          · intro W1 hE1
                            exact ⟨_, rfl, hE1, fun s h1 h2 => h1 rfl⟩
                        | i + 19, ho => cases ho
                      · intro vs w4 hvs hG hΦ
                        obtain ⟨y0, y1, y2, y3, y4, y5, y6, y7, y8, y9, y10, y11, y12, y13, y14, y15, y16, y17, y18, rfl⟩ : ∃ y0 y1 y2 y3 y4 y5 y6 y7 y8 y9 y10 y11 y12 y13 y14 y15 y16 y17 y18, vs = y0 :: y1 :: y2 :: y3 :: y4 :: y5 :: y6 :: y7 :: y8 :: y9 :: y10 :: y11 :: y12 :: y13 :: y14 :: y15 :: y16 :: y17 :: y18 :: [] := by
                          match vs, hvs with
                          | y0 :: y1 :: y2 :: y3 :: y4 :: y5 :: y6 :: y7 :: y8 :: y9 :: y10 :: y11 :: y12 :: y13 :: y14 :: y15 :: y16 :: y17 :: y18 :: [], _ => exact ⟨y0, y1, y2, y3, y4, y5, y6, y7, y8, y9, y10, y11, y12, y13, y14, y15, y16, y17, y18, rfl⟩
                        have e0 : y0 = sV T := hΦ 0 (by decide)
                        subst e0
                        have e1 : y1 = .int .i64 (j : Int) := hΦ 1 (by decide)
                        subst e1
                        have e2 : y2 = sV (Lib.itoa (j : Int)) := hΦ 2 (by decide)
                        subst e2
                        have e3 : y3 = sV (Lib.itoa (j : Int) ++ [32]) := hΦ 3 (by decide)
                        subst e3
                        have e4 : y4 = .pointer (some ⟨nc, 0, none⟩) := hΦ 4 (by decide)
                        subst e4
                        have e5 : y5 = .int .i64 y.op := hΦ 5 (by decide)
                        subst e5
                        have e6 : y6 = sV (opName y.op) := hΦ 6 (by decide)
                        subst e6
                        have e7 : y7 = sV (Lib.itoa (j : Int) ++ [32] ++ opName y.op) := hΦ 7 (by decide)
                        subst e7
                        have e8 : y8 = .pointer (some ⟨nc, 1, none⟩) := hΦ 8 (by decide)
                        subst e8
                        have e9 : y9 = .int .i64 y.a := hΦ 9 (by decide)
                        subst e9
                        have e10 : y10 = .pointer (some ⟨nc, 2, none⟩) := hΦ 10 (by decide)
                        subst e10
                        have e11 : y11 = .int .i64 y.b := hΦ 11 (by decide)
                        subst e11
                        have e12 : y12 = .pointer (some ⟨nc, 3, none⟩) := hΦ 12 (by decide)
                        subst e12
                        have e13 : y13 = .int .i64 y.c := hΦ 13 (by decide)
                        subst e13
                        have p14 : ∃ g, y14 = .slice (some ⟨g, 0, none⟩) 3 3 ∧ w4.heap[g]? = some (.cells (([y.a, y.b, y.c] : List Int).map (Value.int .i64)).toArray 3 (0, 0)) := hΦ 14 (by decide)
                        have e15 : y15 = .pointer (some ⟨nc, 4, none⟩) := hΦ 15 (by decide)
                        subst e15
                        have e16 : y16 = .slice xa y.args.length xc := hΦ 16 (by decide)
                        subst e16
                        have p17 : ∃ q cap, y17 = .slice q al.length cap ∧ IntsAt w4 q al := hΦ 17 (by decide)
                        have e18 : y18 = sV (refL (Lib.itoa (j : Int) ++ [32] ++ opName y.op) al) := hΦ 18 (by decide)
                        subst e18
                        clear hΦ hvs
                        simp only [putAll, Act.put, List.setIfInBounds_toArray, List.set_cons_succ, List.set_cons_zero]
                        have HE4 := Lib.hid (Ext.trans HEJ.out (Ext.trans HEc.out hG))
                        have HN4 := Lib.hid (show sV (T ++ refL (Lib.itoa (j : Int) ++ [32] ++ opName y.op) al) = sV (T3 ++ catN (insTxt f) (j + 1)) from by rw [HTJ.out, HVR.out])
                        have HLL := Lib.hid (show (refL (Lib.itoa (j : Int) ++ [32] ++ opName y.op) al).length ≤ 714 from HVR.out ▸ HVT.out)
                        clear hG
                        generalize refL (Lib.itoa (j : Int) ++ [32] ++ opName y.op) al = L at *
                        have hTl := HTL.out
                        have hLl := HLL.out
                        go_wp2
                        go_roundw
                        case rel => exact ⟨j + 1, by omega, HN4.out, by go_num, HE4.out⟩
                        case measure => simp [intOf]; omega
                    · have HN4 := Lib.hid (show sV (T3 ++ catN (insTxt f) j) = sV (T2 ++ catN (fnTxt p) (k + 1)) from by rw [HT3.out, show j = f.code.length by omega])
                      have HE4 := Lib.hid (Ext.trans HE5.out HEJ.out)
                      go_wp2
                      go_roundw
                      case rel => exact ⟨k + 1, by omega, HN4.out, by go_num, HE4.out⟩
                      case measure => simp [intOf]; omega
                · rw [hat] at c4 HVR
                  clear hat
                  have HVR := Lib.hid (show lineB (fnWd f) = refL ([99, 108, 101, 97, 110, 117, 112, 32] ++ f.name) [f.params, f.regs, f.prio] from HVR.out)
                  have HWL := Lib.hid (show ([99, 108, 101, 97, 110, 117, 112, 32] ++ f.name).length ≤ 1000000000 from by have := HNL.out; simp only [List.length_append, List.length_cons, List.length_nil]; omega)
                  have hNl := HNL.out
                  obtain ⟨na, hna⟩ : ∃ n, n = wr.heap.size := ⟨_, rfl⟩
                  have HNA := Lib.hid hna
                  clear hna
                  go_wp2_with fail
                  clear c0 c1 c2 c3 c4 c5 d0_0 d0_1 d0_2 hb0 hNl
                  have hI9 : IntsAt ((wr.alloc (.cells #[sV f.name, .int .i64 f.params, .int .i64 f.regs, .int .i64 f.prio, .bool true, .slice ca f.code.length cc] 44)).alloc (.cells #[.int .i64 f.params, .int .i64 f.regs, .int .i64 f.prio] 3)) (some ⟨wr.heap.size + 1, 0, none⟩) [f.params, f.regs, f.prio] := by
                    have := ints_lit (wr.alloc (.cells #[sV f.name, .int .i64 f.params, .int .i64 f.regs, .int .i64 f.prio, .bool true, .slice ca f.code.length cc] 44)) [f.params, f.regs, f.prio]
                    rwa [World.size_alloc] at this
                  refine (rline_any ([99, 108, 101, 97, 110, 117, 112, 32] ++ f.name) [f.params, f.regs, f.prio] (some ⟨wr.heap.size + 1, 0, none⟩) 3 ((wr.alloc (.cells #[sV f.name, .int .i64 f.params, .int .i64 f.regs, .int .i64 f.prio, .bool true, .slice ca f.code.length cc] 44)).alloc (.cells #[.int .i64 f.params, .int .i64 f.regs, .int .i64 f.prio] 3)) hI9 (by simp) HWL.out HSMF.out).mono ?_
                  intro w5 hB
                  have HE1 := Lib.hid (show Ext wr w5 from Ext.trans (ext_alloc (ext_alloc (Below.refl _ _) (.cells #[sV f.name, .int .i64 f.params, .int .i64 f.regs, .int .i64 f.prio, .bool true, .slice ca f.code.length cc] 44)) (.cells #[.int .i64 f.params, .int .i64 f.regs, .int .i64 f.prio] 3)) hB)
                  have HAa := Lib.hid (show w5.heap[na]? = some (.cells #[sV f.name, .int .i64 f.params, .int .i64 f.regs, .int .i64 f.prio, .bool true, .slice ca f.code.length cc] 44 (0, 0)) from by
                    rw [HNA.out]
                    have h1 := alloc_here wr (.cells #[sV f.name, .int .i64 f.params, .int .i64 f.regs, .int .i64 f.prio, .bool true, .slice ca f.code.length cc] 44)
                    have h2 := Ext.trans (ext_alloc (Below.refl _ _) (.cells #[.int .i64 f.params, .int .i64 f.regs, .int .i64 f.prio] 3)) hB
                    exact (h2.below.block _ (lt_of_block h1)).trans h1)
                  have HE5 := Lib.hid (Ext.trans HE.out HE1.out)
                  clear hB hI9
                  rw [← HNA.out]
                  clear HNA
                  obtain ⟨L, hL⟩ : ∃ l, refL ([99, 108, 101, 97, 110, 117, 112, 32] ++ f.name) [f.params, f.regs, f.prio] = l := ⟨_, rfl⟩
                  have HLL := Lib.hid (show L.length ≤ 156 from by have := HVT.out; rw [HVR.out, hL] at this; exact this)
                  have HT3 := Lib.hid (show T2 ++ catN (fnTxt p) (k + 1) = T ++ L ++ catN (insTxt f) f.code.length from by rw [HT1.out, HVR.out, hL, List.append_assoc])
                  rw [hL]
                  clear hL HVR HVT HT1
                  have hTl := HTL.out
                  have hLl := HLL.out
                  obtain ⟨d0_0, d0_1, d0_2⟩ := BX.out w5 HE5.out
                  go_wp2_with fail
                  clear hTl hLl d0_0 d0_1 d0_2
                  obtain ⟨T3, hT3⟩ : ∃ t, T ++ L = t := ⟨_, rfl⟩
                  have HL3 := Lib.hid (show T3.length ≤ 4581000 from by have := HTL.out; have := HLL.out; rw [← hT3, List.length_append]; omega)
                  rw [hT3] at HT3
                  rw [hT3]
                  clear hT3 HTL HLL
                  generalize wr = wo at *
                  go_loopw [5, 14] (fun s i wr => ∃ j : Nat, j ≤ f.code.length ∧ s = sV (T3 ++ catN (insTxt f) j) ∧ i = .int .i64 (j : Int) ∧ Ext w5 wr) (fun _ i _ => f.code.length - (intOf i).toNat)
                  case atStart => exact ⟨0, Nat.zero_le _, by simp [catN], rfl, Below.refl _ _⟩
                  case round =>
                    obtain ⟨j, hj, rfl, rfl, hE⟩ := hrel
                    have HEJ := Lib.hid hE
                    clear hE
                    have g5 : wr.cell? ⟨na, 5, none⟩ = some (.slice ca f.code.length cc) := cell_of ((HEJ.out.below.block _ (lt_of_block HAa.out)).trans HAa.out) rfl
                    obtain ⟨d0_0, d0_1, d0_2⟩ := BX.out wr (Ext.trans HE5.out HEJ.out)
                    by_cases hlj : j < f.code.length
                    · obtain ⟨b1, o1, xa, xc, hca, hcs, hia, hxc⟩ := HIR.out wr (Ext.trans HE1.out HEJ.out) j hlj
                      subst hca
                      obtain ⟨c0, c1, c2, c3, c4⟩ := hcs
                      have hb1 := cell_lt2 c0
                      dsimp only at hb1
                      have HSM := Lib.hid (HSMI.out j hlj)
                      have HSH := Lib.hid (HINS.out j hlj)
                      have HAL := Lib.hid (show (f.code[j]).args.length ≤ 900 from Nat.le_trans (HARG.out j hlj) (by decide))
                      have HVR := Lib.hid (show insTxt f j = refL (Lib.itoa (j : Int) ++ [32] ++ opName (f.code[j]).op) ([(f.code[j]).a, (f.code[j]).b, (f.code[j]).c] ++ (f.code[j]).args) from by unfold insTxt; rw [insAt_eq hlj, ins_ref])
                      have HVT := Lib.hid (HIL.out j hlj)
                      have HTJ := Lib.hid (show T3 ++ catN (insTxt f) (j + 1) = T3 ++ catN (insTxt f) j ++ insTxt f j from by rw [List.append_assoc]; rfl)
                      have HJ := Lib.hid (show -1099511627776 ≤ (j : Int) ∧ (j : Int) ≤ 1099511627776 from ⟨by omega, by omega⟩)
                      have HIA0 := Lib.hid hia
                      clear hia hxc
                      obtain ⟨y, hy⟩ : ∃ y, f.code[j] = y := ⟨_, rfl⟩
                      rw [hy] at c0 c1 c2 c3 c4
                      rw [hy] at HSM HSH HAL HVR HIA0
                      clear hy
                      obtain ⟨T, hT⟩ : ∃ t, T3 ++ catN (insTxt f) j = t := ⟨_, rfl⟩
                      have HTL := Lib.hid (show T.length ≤ 4800000 from by have := HL3.out; have := HCAT.out j hj; rw [← hT, List.length_append]; omega)
                      rw [hT] at HTJ
                      rw [hT]
                      clear hT
                      obtain ⟨al, hal⟩ : ∃ l, [y.a, y.b, y.c] ++ y.args = l := ⟨_, rfl⟩
                      have HAQ := Lib.hid hal
                      have HALL := Lib.hid (show al.length ≤ 1000 from by have := HAL.out; rw [← hal]; simp only [List.length_append, List.length_cons, List.length_nil]; omega)
                      rw [hal] at HSM HVR
                      clear hal
                      have HIT := Lib.hid (itoa_le (v := (j : Int)) ⟨by omega, by omega⟩)
                      have HAD3 := Lib.hid (show (Lib.itoa (j : Int)).length + ([32] : List UInt8).length ≤ 1000000000 from by have := HIT.out; simp only [List.length_cons, List.length_nil]; omega)
                      have HAD7 := Lib.hid (show (Lib.itoa (j : Int) ++ [32]).length + (opName y.op).length ≤ 1000000000 from by have := HIT.out; have := opName_le y.op; simp only [List.length_append, List.length_cons, List.length_nil]; omega)
                      have HWL := Lib.hid (show (Lib.itoa (j : Int) ++ [32] ++ opName y.op).length ≤ 1000000000 from by have := HIT.out; have := opName_le y.op; simp only [List.length_append, List.length_cons, List.length_nil]; omega)
                      go_wp2_with fail
                      clear c0 c1 c2 c3 c4 g5 d0_0 d0_1 d0_2 hb1
                      obtain ⟨wc, hwa⟩ : ∃ W, W = wr.alloc (.cells #[.int .i64 y.op, .int .i64 y.a, .int .i64 y.b, .int .i64 y.c, .slice xa y.args.length xc] 56) := ⟨_, rfl⟩
                      have HAc := Lib.hid (show wc.heap[wr.heap.size]? = some (.cells #[.int .i64 y.op, .int .i64 y.a, .int .i64 y.b, .int .i64 y.c, .slice xa y.args.length xc] 56) from by rw [hwa]; exact alloc_here _ _)
                      have HEc := Lib.hid (show Ext wr wc from by rw [hwa]; exact (Below.refl _ _).alloc (Nat.le_refl _) _)
                      rw [← hwa]
                      clear hwa
                      obtain ⟨nc, hnb⟩ : ∃ n, n = wr.heap.size := ⟨_, rfl⟩
                      rw [← hnb] at HAc
                      rw [← hnb]
                      clear hnb
                      have HIA := Lib.hid (fun W (hW : Ext wc W) => HIA0.out.below (Ext.trans HEc.out hW))
                      refine wp_region_tail (l1 := [_, _, _, _, _, _, _, _, _, _, _, _, _, _, _, _, _, _, _]) (l2 := [_, _]) (by kernel_rfl) Ext (fun W => Below.refl _ W) (fun W => show Below W.heap.size W { W with drawn := W.drawn + 1 } from ⟨rfl, rfl, rfl, Nat.le_refl _, fun _ _ => rfl⟩) Ext.trans
                        (fun i s W => match i with
                          | 0 => s 0 = sV T
                          | 1 => s 1 = .int .i64 (j : Int)
                          | 2 => s 2 = sV (Lib.itoa (j : Int))
                          | 3 => s 3 = sV (Lib.itoa (j : Int) ++ [32])
                          | 4 => s 4 = .pointer (some ⟨nc, 0, none⟩)
                          | 5 => s 5 = .int .i64 y.op
                          | 6 => s 6 = sV (opName y.op)
                          | 7 => s 7 = sV (Lib.itoa (j : Int) ++ [32] ++ opName y.op)
                          | 8 => s 8 = .pointer (some ⟨nc, 1, none⟩)
                          | 9 => s 9 = .int .i64 y.a
                          | 10 => s 10 = .pointer (some ⟨nc, 2, none⟩)
                          | 11 => s 11 = .int .i64 y.b
                          | 12 => s 12 = .pointer (some ⟨nc, 3, none⟩)
                          | 13 => s 13 = .int .i64 y.c
                          | 14 => ∃ g, s 14 = .slice (some ⟨g, 0, none⟩) 3 3 ∧ W.heap[g]? = some (.cells (([y.a, y.b, y.c] : List Int).map (Value.int .i64)).toArray 3 (0, 0))
                          | 15 => s 15 = .pointer (some ⟨nc, 4, none⟩)
                          | 16 => s 16 = .slice xa y.args.length xc
                          | 17 => ∃ q cap, s 17 = .slice q al.length cap ∧ IntsAt W q al
                          | 18 => s 18 = sV (refL (Lib.itoa (j : Int) ++ [32] ++ opName y.op) al)
                          | _ => True)
                        (fun i => [i])
                        (by
                          intro i s s' W W' h hs hE
                          have hs := hs i (by simp)
                          match i, h, hs with
                          | 0, h, hs => exact hs.trans h
                          | 1, h, hs => exact hs.trans h
                          | 2, h, hs => exact hs.trans h
                          | 3, h, hs => exact hs.trans h
                          | 4, h, hs => exact hs.trans h
                          | 5, h, hs => exact hs.trans h
                          | 6, h, hs => exact hs.trans h
                          | 7, h, hs => exact hs.trans h
                          | 8, h, hs => exact hs.trans h
                          | 9, h, hs => exact hs.trans h
                          | 10, h, hs => exact hs.trans h
                          | 11, h, hs => exact hs.trans h
                          | 12, h, hs => exact hs.trans h
                          | 13, h, hs => exact hs.trans h
                          | 14, ⟨g, h1, h2⟩, hs => exact ⟨g, hs.trans h1, (hE.below.block _ (lt_of_block h2)).trans h2⟩
                          | 15, h, hs => exact hs.trans h
                          | 16, h, hs => exact hs.trans h
                          | 17, ⟨q, cap, h1, h2⟩, hs => exact ⟨q, cap, hs.trans h1, h2.below hE⟩
                          | 18, h, hs => exact hs.trans h
                          | i + 19, h, hs => exact trivial)
                        (by kernel_rfl) (by kernel_rfl) (by kernel_rfl) 144 rfl (by kernel_rfl) (by kernel_rfl) ?_ ?_
                      · intro i op ho a' W hA
                        have hk0 := (hA.rel.below.block _ (lt_of_block HAc.out)).trans HAc.out
                        have x0 : W.cell? ⟨nc, 0, none⟩ = some (.int .i64 y.op) := cell_of hk0 rfl
                        have x1 : W.cell? ⟨nc, 1, none⟩ = some (.int .i64 y.a) := cell_of hk0 rfl
                        have x2 : W.cell? ⟨nc, 2, none⟩ = some (.int .i64 y.b) := cell_of hk0 rfl
                        have x3 : W.cell? ⟨nc, 3, none⟩ = some (.int .i64 y.c) := cell_of hk0 rfl
                        have x4 : W.cell? ⟨nc, 4, none⟩ = some (.slice xa y.args.length xc) := cell_of hk0 rfl
                        match i, ho with
                        | 0, ho =>
                          obtain rfl := Option.some.inj ho
                          have e1 : a'.eval (.tmp 5) = sV T := hA.keep 5 (by kernel_rfl)
                          refine GoesG.value (sV T) rfl ?_ (Below.refl _ _) (fun s h1 h2 => h1 rfl)
                          simp only [execOp, e1]
                          simp [go_sem, x0, x1, x2, x3, x4]
                        | 1, ho =>
                          obtain rfl := Option.some.inj ho
                          have e1 : a'.eval (.tmp 14) = .int .i64 (j : Int) := hA.keep 14 (by kernel_rfl)
                          refine GoesG.value (.int .i64 (j : Int)) rfl ?_ (Below.refl _ _) (fun s h1 h2 => h1 rfl)
                          simp only [execOp, e1]
                          simp [go_sem, x0, x1, x2, x3, x4]
                        | 2, ho =>
                          obtain rfl := Option.some.inj ho
                          have e1 : a'.eval (.tmp 124) = .int .i64 (j : Int) := (sv_dst (l := _) rfl).symm.trans (hA.new 1 (by decide) (by kernel_rfl))
                          refine GoesG.call 43 #[.int .i64 (j : Int)] rfl ?_ ((dec13_any (j : Int) HJ.out W).mono ?_)
                          · simp [execOp, resolve, invoke, Deferred.ofValue, e1]
                            rfl
                          · intro W1 hE1
                            exact ⟨_, rfl, hE1, fun s h1 h2 => h1 rfl⟩
                        | 3, ho =>
                          obtain rfl := Option.some.inj ho
                          have e1 : a'.eval (.tmp 125) = sV (Lib.itoa (j : Int)) := (sv_dst (l := _) rfl).symm.trans (hA.new 2 (by decide) (by kernel_rfl))
                          exact GoesG.addS (.tmp 125) _ 9 9 (Lib.itoa (j : Int)) ([32]) rfl rfl e1 rfl HAD3.out (Below.refl _ _) (fun s h1 h2 => h1 rfl)
                        | 4, ho =>
                          obtain rfl := Option.some.inj ho
                          have e1 : a'.eval (.tmp 15) = .pointer (some ⟨nc, 0, none⟩) := hA.keep 15 (by kernel_rfl)
                          refine GoesG.value (.pointer (some ⟨nc, 0, none⟩)) rfl ?_ (Below.refl _ _) (fun s h1 h2 => h1 rfl)
                          simp only [execOp, e1]
                          simp [go_sem, x0, x1, x2, x3, x4]
                        | 5, ho =>
                          obtain rfl := Option.some.inj ho
                          have e1 : a'.eval (.tmp 127) = .pointer (some ⟨nc, 0, none⟩) := (sv_dst (l := _) rfl).symm.trans (hA.new 4 (by decide) (by kernel_rfl))
                          refine GoesG.value (.int .i64 y.op) rfl ?_ (Below.refl _ _) (fun s h1 h2 => h1 rfl)
                          simp only [execOp, e1]
                          simp [go_sem, x0, x1, x2, x3, x4]
                        | 6, ho =>
                          obtain rfl := Option.some.inj ho
                          have e1 : a'.eval (.tmp 128) = .int .i64 y.op := (sv_dst (l := _) rfl).symm.trans (hA.new 5 (by decide) (by kernel_rfl))
                          obtain ⟨sh, hsh⟩ := HSH.out
                          refine GoesG.call 44 #[.int .i64 y.op] rfl ?_ ((opName_any y.op sh hsh W).mono ?_)
                          · simp [execOp, resolve, invoke, Deferred.ofValue, e1]
                            rfl
                          · intro W1 hE1
                            exact ⟨_, rfl, hE1, fun s h1 h2 => h1 rfl⟩
                        | 7, ho =>
                          obtain rfl := Option.some.inj ho
                          have e1 : a'.eval (.tmp 126) = sV (Lib.itoa (j : Int) ++ [32]) := (sv_dst (l := _) rfl).symm.trans (hA.new 3 (by decide) (by kernel_rfl))
                          have e2 : a'.eval (.tmp 129) = sV (opName y.op) := (sv_dst (l := _) rfl).symm.trans (hA.new 6 (by decide) (by kernel_rfl))
                          exact GoesG.addS (.tmp 126) (.tmp 129) 9 9 (Lib.itoa (j : Int) ++ [32]) (opName y.op) rfl rfl e1 e2 HAD7.out (Below.refl _ _) (fun s h1 h2 => h1 rfl)
                        | 8, ho =>
                          obtain rfl := Option.some.inj ho
                          have e1 : a'.eval (.tmp 15) = .pointer (some ⟨nc, 0, none⟩) := hA.keep 15 (by kernel_rfl)
                          refine GoesG.value (.pointer (some ⟨nc, 1, none⟩)) rfl ?_ (Below.refl _ _) (fun s h1 h2 => h1 rfl)
                          simp only [execOp, e1]
                          simp [go_sem, x0, x1, x2, x3, x4]
                        | 9, ho =>
                          obtain rfl := Option.some.inj ho
                          have e1 : a'.eval (.tmp 131) = .pointer (some ⟨nc, 1, none⟩) := (sv_dst (l := _) rfl).symm.trans (hA.new 8 (by decide) (by kernel_rfl))
                          refine GoesG.value (.int .i64 y.a) rfl ?_ (Below.refl _ _) (fun s h1 h2 => h1 rfl)
                          simp only [execOp, e1]
                          simp [go_sem, x0, x1, x2, x3, x4]
                        | 10, ho =>
                          obtain rfl := Option.some.inj ho
                          have e1 : a'.eval (.tmp 15) = .pointer (some ⟨nc, 0, none⟩) := hA.keep 15 (by kernel_rfl)
                          refine GoesG.value (.pointer (some ⟨nc, 2, none⟩)) rfl ?_ (Below.refl _ _) (fun s h1 h2 => h1 rfl)
                          simp only [execOp, e1]
                          simp [go_sem, x0, x1, x2, x3, x4]
                        | 11, ho =>
                          obtain rfl := Option.some.inj ho
                          have e1 : a'.eval (.tmp 133) = .pointer (some ⟨nc, 2, none⟩) := (sv_dst (l := _) rfl).symm.trans (hA.new 10 (by decide) (by kernel_rfl))
                          refine GoesG.value (.int .i64 y.b) rfl ?_ (Below.refl _ _) (fun s h1 h2 => h1 rfl)
                          simp only [execOp, e1]
                          simp [go_sem, x0, x1, x2, x3, x4]
                        | 12, ho =>
                          obtain rfl := Option.some.inj ho
                          have e1 : a'.eval (.tmp 15) = .pointer (some ⟨nc, 0, none⟩) := hA.keep 15 (by kernel_rfl)
                          refine GoesG.value (.pointer (some ⟨nc, 3, none⟩)) rfl ?_ (Below.refl _ _) (fun s h1 h2 => h1 rfl)
                          simp only [execOp, e1]
                          simp [go_sem, x0, x1, x2, x3, x4]
                        | 13, ho =>
                          obtain rfl := Option.some.inj ho
                          have e1 : a'.eval (.tmp 135) = .pointer (some ⟨nc, 3, none⟩) := (sv_dst (l := _) rfl).symm.trans (hA.new 12 (by decide) (by kernel_rfl))
                          refine GoesG.value (.int .i64 y.c) rfl ?_ (Below.refl _ _) (fun s h1 h2 => h1 rfl)
                          simp only [execOp, e1]
                          simp [go_sem, x0, x1, x2, x3, x4]
                        | 14, ho =>
                          obtain rfl := Option.some.inj ho
                          have e1 : a'.eval (.tmp 132) = .int .i64 y.a := (sv_dst (l := _) rfl).symm.trans (hA.new 9 (by decide) (by kernel_rfl))
                          have e2 : a'.eval (.tmp 134) = .int .i64 y.b := (sv_dst (l := _) rfl).symm.trans (hA.new 11 (by decide) (by kernel_rfl))
                          have e3 : a'.eval (.tmp 136) = .int .i64 y.c := (sv_dst (l := _) rfl).symm.trans (hA.new 13 (by decide) (by kernel_rfl))
                          have f1 : a'.tmps[132]?.getD undef = .int .i64 y.a := by simpa [go_sem] using e1
                          have f2 : a'.tmps[134]?.getD undef = .int .i64 y.b := by simpa [go_sem] using e2
                          have f3 : a'.tmps[136]?.getD undef = .int .i64 y.c := by simpa [go_sem] using e3
                          refine GoesG.value (.slice (some ⟨W.heap.size, 0, none⟩) 3 3) rfl ?_ (ext_alloc (Below.refl _ _) (.cells (([y.a, y.b, y.c] : List Int).map (Value.int .i64)).toArray 3)) (fun s h1 h2 => ⟨W.heap.size, h1 rfl, alloc_here _ _⟩)
                          simp only [execOp, e1, e2, e3]
                          simp [go_sem, f1, f2, f3]
                        | 15, ho =>
                          obtain rfl := Option.some.inj ho
                          have e1 : a'.eval (.tmp 15) = .pointer (some ⟨nc, 0, none⟩) := hA.keep 15 (by kernel_rfl)
                          refine GoesG.value (.pointer (some ⟨nc, 4, none⟩)) rfl ?_ (Below.refl _ _) (fun s h1 h2 => h1 rfl)
                          simp only [execOp, e1]
                          simp [go_sem, x0, x1, x2, x3, x4]
                        | 16, ho =>
                          obtain rfl := Option.some.inj ho
                          have e1 : a'.eval (.tmp 138) = .pointer (some ⟨nc, 4, none⟩) := (sv_dst (l := _) rfl).symm.trans (hA.new 15 (by decide) (by kernel_rfl))
                          refine GoesG.value (.slice xa y.args.length xc) rfl ?_ (Below.refl _ _) (fun s h1 h2 => h1 rfl)
                          simp only [execOp, e1]
                          simp [go_sem, x0, x1, x2, x3, x4]
                        | 17, ho =>
                          obtain rfl := Option.some.inj ho
                          obtain ⟨g, e0, hg⟩ := hA.new 14 (by decide) (by kernel_rfl)
                          have e1 : a'.eval (.tmp 137) = .slice (some ⟨g, 0, none⟩) 3 3 := (sv_dst (l := _) rfl).symm.trans e0
                          have e2 : a'.eval (.tmp 139) = .slice xa y.args.length xc := (sv_dst (l := _) rfl).symm.trans (hA.new 16 (by decide) (by kernel_rfl))
                          obtain ⟨q, cap, W1, hr, hI, hE1⟩ := int_app_full W g xc xa [y.a, y.b, y.c] y.args hg (HIA.out W hA.rel) (by simp) (Nat.le_trans HAL.out (by decide))
                          rw [HAQ.out] at hr hI
                          exact GoesG.app2 rfl (.tmp 137) (.tmp 139) 54 rfl (.slice (some ⟨g, 0, none⟩) 3 3) _ (.slice xa y.args.length xc) e1 e2 hr hE1 (fun s h1 h2 => ⟨q, cap, h1 rfl, hI⟩)
                        | 18, ho =>
                          obtain rfl := Option.some.inj ho
                          obtain ⟨q, cap, e0, hI⟩ := hA.new 17 (by decide) (by kernel_rfl)
                          have e2 : a'.eval (.tmp 140) = .slice q al.length cap := (sv_dst (l := _) rfl).symm.trans e0
                          have e1 : a'.eval (.tmp 130) = sV (Lib.itoa (j : Int) ++ [32] ++ opName y.op) := (sv_dst (l := _) rfl).symm.trans (hA.new 7 (by decide) (by kernel_rfl))
                          refine GoesG.call 42 #[sV (Lib.itoa (j : Int) ++ [32] ++ opName y.op), .slice q al.length cap] rfl ?_ ((rline_any (Lib.itoa (j : Int) ++ [32] ++ opName y.op) al q cap W hI HALL.out HWL.out HSM.out).mono ?_)
                          · simp [execOp, resolve, invoke, Deferred.ofValue, e1, e2]
                            rfl
                          · intro W1 hE1
                            exact ⟨_, rfl, hE1, fun s h1 h2 => h1 rfl⟩
                        | i + 19, ho => cases ho
                      · intro vs w4 hvs hG hΦ
                        obtain ⟨y0, y1, y2, y3, y4, y5, y6, y7, y8, y9, y10, y11, y12, y13, y14, y15, y16, y17, y18, rfl⟩ : ∃ y0 y1 y2 y3 y4 y5 y6 y7 y8 y9 y10 y11 y12 y13 y14 y15 y16 y17 y18, vs = y0 :: y1 :: y2 :: y3 :: y4 :: y5 :: y6 :: y7 :: y8 :: y9 :: y10 :: y11 :: y12 :: y13 :: y14 :: y15 :: y16 :: y17 :: y18 :: [] := by
                          match vs, hvs with
                          | y0 :: y1 :: y2 :: y3 :: y4 :: y5 :: y6 :: y7 :: y8 :: y9 :: y10 :: y11 :: y12 :: y13 :: y14 :: y15 :: y16 :: y17 :: y18 :: [], _ => exact ⟨y0, y1, y2, y3, y4, y5, y6, y7, y8, y9, y10, y11, y12, y13, y14, y15, y16, y17, y18, rfl⟩
                        have e0 : y0 = sV T := hΦ 0 (by decide)
                        subst e0
                        have e1 : y1 = .int .i64 (j : Int) := hΦ 1 (by decide)
                        subst e1
                        have e2 : y2 = sV (Lib.itoa (j : Int)) := hΦ 2 (by decide)
                        subst e2
                        have e3 : y3 = sV (Lib.itoa (j : Int) ++ [32]) := hΦ 3 (by decide)
                        subst e3
                        have e4 : y4 = .pointer (some ⟨nc, 0, none⟩) := hΦ 4 (by decide)
                        subst e4
                        have e5 : y5 = .int .i64 y.op := hΦ 5 (by decide)
                        subst e5
                        have e6 : y6 = sV (opName y.op) := hΦ 6 (by decide)
                        subst e6
                        have e7 : y7 = sV (Lib.itoa (j : Int) ++ [32] ++ opName y.op) := hΦ 7 (by decide)
                        subst e7
                        have e8 : y8 = .pointer (some ⟨nc, 1, none⟩) := hΦ 8 (by decide)
                        subst e8
                        have e9 : y9 = .int .i64 y.a := hΦ 9 (by decide)
                        subst e9
                        have e10 : y10 = .pointer (some ⟨nc, 2, none⟩) := hΦ 10 (by decide)
                        subst e10
                        have e11 : y11 = .int .i64 y.b := hΦ 11 (by decide)
                        subst e11
                        have e12 : y12 = .pointer (some ⟨nc, 3, none⟩) := hΦ 12 (by decide)
                        subst e12
                        have e13 : y13 = .int .i64 y.c := hΦ 13 (by decide)
                        subst e13
                        have p14 : ∃ g, y14 = .slice (some ⟨g, 0, none⟩) 3 3 ∧ w4.heap[g]? = some (.cells (([y.a, y.b, y.c] : List Int).map (Value.int .i64)).toArray 3 (0, 0)) := hΦ 14 (by decide)
                        have e15 : y15 = .pointer (some ⟨nc, 4, none⟩) := hΦ 15 (by decide)
                        subst e15
                        have e16 : y16 = .slice xa y.args.length xc := hΦ 16 (by decide)
                        subst e16
                        have p17 : ∃ q cap, y17 = .slice q al.length cap ∧ IntsAt w4 q al := hΦ 17 (by decide)
                        have e18 : y18 = sV (refL (Lib.itoa (j : Int) ++ [32] ++ opName y.op) al) := hΦ 18 (by decide)
                        subst e18
                        clear hΦ hvs
                        simp only [putAll, Act.put, List.setIfInBounds_toArray, List.set_cons_succ, List.set_cons_zero]
                        have HE4 := Lib.hid (Ext.trans HEJ.out (Ext.trans HEc.out hG))
                        have HN4 := Lib.hid (show sV (T ++ refL (Lib.itoa (j : Int) ++ [32] ++ opName y.op) al) = sV (T3 ++ catN (insTxt f) (j + 1)) from by rw [HTJ.out, HVR.out])
                        have HLL := Lib.hid (show (refL (Lib.itoa (j : Int) ++ [32] ++ opName y.op) al).length ≤ 714 from HVR.out ▸ HVT.out)
                        clear hG
                        generalize refL (Lib.itoa (j : Int) ++ [32] ++ opName y.op) al = L at *
                        have hTl := HTL.out
                        have hLl := HLL.out
                        go_wp2
                        go_roundw
                        case rel => exact ⟨j + 1, by omega, HN4.out, by go_num, HE4.out⟩
                        case measure => simp [intOf]; omega
                    · have HN4 := Lib.hid (show sV (T3 ++ catN (insTxt f) j) = sV (T2 ++ catN (fnTxt p) (k + 1)) from by rw [HT3.out, show j = f.code.length by omega])
                      have HE4 := Lib.hid (Ext.trans HE5.out HEJ.out)
                      go_wp2
                      go_roundw
                      case rel => exact ⟨k + 1, by omega, HN4.out, by go_num, HE4.out⟩
                      case measure => simp [intOf]; omega
              · obtain ⟨T, hT⟩ : ∃ t, T2 ++ catN (fnTxt p) k = t := ⟨_, rfl⟩
                have HTE := Lib.hid (show T = textP p from by rw [← hT, HTP.out, show k = p.fs.length by omega])
                rw [hT]
                clear hT
                go_wp2
                go_ret2
                exact ⟨by rw [HTE.out, HR0.out]; rfl, Ext.trans HW.out HE.out⟩
  · have HR0 := Lib.hid (show textR p = ([], ck) from by rw [HR.out, if_neg hc0])
    have g0 : (ck != 0) = true := by rw [bne_iff_ne]; exact hc0
    clear hc0
    go_enter Tryd.func10, Tryd.ntmps10
    go_wp2_with fail
    rw [← hwk]
    clear hwk
    refine (KC.out _ (Ext.trans HW.out HE0.out)).mono ?_
    intro w1 hB
    have HE1 := Lib.hid (Ext.trans HE0.out hB)
    clear hB
    obtain ⟨d0_0, d0_1, d0_2⟩ := BX.out _ HE1.out
    go_wp2
    go_ret2
    exact ⟨by rw [HR0.out]; rfl, Ext.trans HW.out HE1.out⟩

end Go.Proofs.YtfkjokbhnblndaaDoor

namespace Go.Proofs.YtfkjokbhnblndaaDoor
open Go.RowKit Go.Shelf
set_option linter.unusedVariables false
set_option linter.unusedSimpArgs false

set_option maxRecDepth 100000 in
set_option maxHeartbeats 4000000 in
theorem programCheck_walk (p : Pg) (A : PA) (w : World) (h : PgAt w p A) (hT : TabW w) : Gives Tryd.prog 3 #[PV p A] w (.bool true) := by
  unfold Gives
  have KG := Lib.hid (fun W (hW : Ext w W) => Great_any p A W (h.ext hW))
  have KC := Lib.hid (fun W (hW : Ext w W) => Check_any p A W (h.ext hW))
  have KR := Lib.hid (fun W (hW : Ext w W) => refCk_any p A W (h.ext hW))
  have KT := Lib.hid (fun W (hW : Ext w W) => Text_any p A W (h.ext hW) (hT.below hW))
  have KU := Lib.hid (fun W (hW : Ext w W) => refText_any p A W (h.ext hW))
  have KA := Lib.hid (fun W (hW : Ext w W) => awake_any W (hT.below hW))
  generalize ckPg p = ck at *
  generalize (textR p).1 = T at *
  generalize (textR p).2 = er at *
  have hno := h.wf.no
  have hnv := h.wf.nv
  have hnf := h.wf.nf
  clear h hT
  obtain ⟨fa, fc, oa, oc, va, vc⟩ := A
  dsimp only [PV] at KG KC KR KT KU ⊢
  obtain ⟨wk, hwk⟩ : ∃ W, W = (w.alloc (.cells #[.slice fa p.fs.length fc, .slice oa p.os.length oc, .slice va p.vs.length vc] 26)) := ⟨_, rfl⟩
  have BX := Lib.hid (show ∀ W, Ext wk W → (W.cell? ⟨w.heap.size, 0, none⟩ = some (.slice fa p.fs.length fc) ∧ W.cell? ⟨w.heap.size, 1, none⟩ = some (.slice oa p.os.length oc) ∧ W.cell? ⟨w.heap.size, 2, none⟩ = some (.slice va p.vs.length vc)) from fun W hW => by
    subst hwk
    have h0 := alloc_here w (.cells #[.slice fa p.fs.length fc, .slice oa p.os.length oc, .slice va p.vs.length vc] 26)
    have k0 := (hW.below.block _ (lt_of_block h0)).trans h0
    exact ⟨cell_of k0 rfl, cell_of k0 rfl, cell_of k0 rfl⟩)
  have HWZ := Lib.hid (show wk.heap.size = w.heap.size + 1 by rw [hwk]; simp)
  have HW := Lib.hid (show Ext w wk by rw [hwk]; exact (ext_alloc (Below.refl _ _) _))
  have HE0 := Lib.hid (show Ext wk wk from Below.refl _ _)
  go_enter Tryd.func3, Tryd.ntmps3
  go_wp2_with fail
  rw [← hwk]
  clear hwk
  refine Calls.mono (KG.out _ HW.out) ?_
  rintro _ w1 ⟨b, rfl, hE⟩
  have HE1 := Lib.hid (Ext.trans HE0.out hE)
  have HX1 := Lib.hid (Ext.trans HW.out HE1.out)
  clear hE
  obtain ⟨d0_0, d0_1, d0_2⟩ := BX.out _ HE1.out
  cases b with
  | true =>
    go_wp2_with fail
    refine (KA.out _ HX1.out).mono ?_
    intro wz hBz
    have HEz := Lib.hid (Ext.trans HX1.out hBz)
    clear hBz
    go_wp2
    go_ret
    exact ⟨rfl, HEz.out⟩
  | false =>
    go_wp2_with fail
    clear d0_0 d0_1 d0_2
    refine (KT.out _ HX1.out).mono ?_
    intro w2 hE
    have HE2 := Lib.hid (Ext.trans HE1.out hE)
    have HX2 := Lib.hid (Ext.trans HW.out HE2.out)
    clear hE
    obtain ⟨d0_0, d0_1, d0_2⟩ := BX.out _ HE2.out
    go_wp2_with fail
    clear d0_0 d0_1 d0_2
    refine (KU.out _ HX2.out).mono ?_
    intro w3 hE
    have HE3 := Lib.hid (Ext.trans HE2.out hE)
    have HX3 := Lib.hid (Ext.trans HW.out HE3.out)
    clear hE
    obtain ⟨d0_0, d0_1, d0_2⟩ := BX.out _ HE3.out
    go_wp2_with fail
    have ud0_0 := fun U : Up _ => Up.cell d0_0 U
    have ud0_1 := fun U : Up _ => Up.cell d0_1 U
    have ud0_2 := fun U : Up _ => Up.cell d0_2 U
    refine wp_region_up (by kernel_rfl) (by kernel_rfl) ?_
    repeat (go_big_quiet_step (first | (go_at_call 11; refine Up.callE (fun W hW => KC.out W (Ext.trans HX3.out hW)) ?_; with_reducible rfl) | (go_at_call 12; refine Up.callE (fun W hW => KR.out W (Ext.trans HX3.out hW)) ?_; with_reducible rfl) | (go_at_call 8; refine Up.callE (fun W hW => KA.out W (Ext.trans HX3.out hW)) ?_; with_reducible rfl)))
    refine wpQuiet_nil ?_
    rintro _ ⟨U, rfl⟩
    have HX4 := Lib.hid (Ext.trans HX3.out U.ext)
    generalize U.W = w4 at *
    clear ud0_0 d0_0 ud0_1 d0_1 ud0_2 d0_2
    go_wp2
    go_ret
    exact ⟨rfl, HX4.out⟩

end Go.Proofs.YtfkjokbhnblndaaDoor

namespace Go.Proofs.YtfkjokbhnblndaaDoor.programCheck
open Go.ChangeShapes Go.WideShapes Go.ChangeAt Go.RowKit
open Go.ChangeMaps (open_string shut_string)
set_option linter.unusedVariables false

theorem own : ownKnob Tryd.prog.godebug = none := by kernel_rfl
theorem laidOut : laidOutB Tryd.prog = true := by kernel_rfl
/-- the cells of a datum of plain values -/
def flat : Nat → DataW Unit → List Value
  | _, .lit l => [l.value]
  | n + 1, .agg ps => ps.flatMap (flat n)
  | _, _ => []
/-- a world for the witness: the settled one, the listed tables holding what the text lays -/
def lay (d : DataW Unit) : Obj → Obj
  | .cells _ t frozen => .cells (flat 4 d).toArray t frozen
  | o => o
noncomputable def laidWorld (os : Os) : World :=
  { World.holding Tryd.prog os ⟨#[], #[], []⟩ with heap := ((((World.holding Tryd.prog os ⟨#[], #[], []⟩).heap.modify 2 (lay Rows.laid_math_bits_deBruijn32tab)).modify 3 (lay Rows.laid_math_bits_deBruijn64tab)).modify 1 (lay Rows.laid_internal_strconv_uint64pow10)) }
theorem laid_met (os : Os) : laidMet Tryd.prog Rows.programCheckRow.laid ((laidWorld os).forCall (fun _ _ => 0) ⟨#[], #[.agg #[.slice none 0 0, .slice none 0 0, .slice none 0 0]], []⟩).memory :=
  laidMet_of_run' 8 (by kernel_rfl) (by kernel_rfl)
theorem reads (os : Os) {H : Type} (enc : TypeId × Value → H) : ∃ places, DataW.whole enc Tryd.prog ((laidWorld os).forCall (fun _ _ => 0) ⟨#[], #[.agg #[.slice none 0 0, .slice none 0 0, .slice none 0 0]], []⟩).memory Tryd.f3.params.toList Rows.programCheckSpec.vars false (#[.agg #[.slice none 0 0, .slice none 0 0, .slice none 0 0]] : Array Value).toList 8 = some ([.agg [.nil, .nil, .nil]], [], places) :=
  ⟨[], by kernel_rfl⟩
theorem tab (W : World) (h : laidMetH Tryd.prog Rows.programCheckRow.laid W) : TabW W := by
  have h1 : laidMet Tryd.prog Rows.programCheckRow.laid W := h
  exact Lib.tabIs_of_head (g := 1) (t := 161) (e := 149) (n := 20) (by kernel_rfl) (by kernel_rfl) Tryd.underlying161 Tryd.underlying149 (by kernel_rfl) (by kernel_rfl) h1.tail.tail
set_option maxRecDepth 100000 in
theorem contract (H : Type) (enc : TypeId × Value → H) (W : World) (base : Nat) (args : Array Value) (ds gs : List (DataW H)) (before : List MemPlace)
    (hval0 : ∀ (j : Nat) t v, Tryd.f3.params[j]? = some t → args[j]? = some v → Value.okWide Tryd.prog W .any base t v)
    (hW : DataW.Whole enc Tryd.prog Tryd.f3.params.toList Rows.programCheckSpec.vars false W args.toList ds gs before) (hz : (DataW.weightsEach Tryd.prog (Tryd.f3.params.toList ++ (OpenSpec.ofChange Rows.programCheckSpec).bare.plain.varTypes Tryd.prog) (ds ++ gs)).all (· ≤ reachBytes) = true) (hL : laidMetH Tryd.prog Rows.programCheckRow.laid W) :
    Calls Tryd.prog 3 args W fun e W' => ∃ v, e = .returned v ∧ Rows.programCheckSpec.post enc Tryd.prog Tryd.f3 false true false false W args v W' := by
  have hval := hval0
  have hW' := hW
  obtain ⟨p, q, hA0, hV, rfl, hfz, hnd⟩ := hW
  have hA : DataW.TrodAll enc Tryd.prog W 0 (fun _ => true) true Tryd.f3.params.toList args.toList ds p := hA0
  rw [Tryd.params3] at hA hval
  obtain ⟨v0, vs0, d0, ds0, p0, q0, hargs, rfl, rfl, h0, r0⟩ := trodAll_cons hA
  obtain ⟨rfl, rfl, rfl⟩ := trodAll_nil r0
  obtain rfl : args = #[v0] := by cases args; simp_all
  obtain ⟨rfl, rfl⟩ := trodVars_none hV
  have k0 := h0
  have lt0 : ∀ x ∈ p0, x.block < W.heap.size := by obtain ⟨m, hm⟩ := k0; exact DataW.trod_lt m _ _ _ hm
  obtain ⟨e0, ae0, rfl, w0⟩ := open_pg (hval 0 26 v0 rfl rfl) h0 (fun n hn => by have := List.all_eq_true.1 hz n (DataW.weights_mem_each (j := 0) rfl rfl n hn); simpa using this)
  clear hA0 hval0 hz
  refine (programCheck_walk e0 ae0 W w0 (tab W hL)).mono fun W' bel => ?_
  exact ⟨_, rfl, _, _, _, [], _, [], hW', trodAll_mk1 (shut_bool Tryd.underlying4 _), (trodAll_cons_mk (Below.trod laidOut (by kernel_rfl) (of_decide_eq_true (by kernel_rfl)) k0 bel lt0) trodAll_mk0), rfl, bel.frame _, fun h => by cases h⟩

set_option maxRecDepth 100000 in
theorem lifted (os : Os) (started : os.Started) (H : Type) (enc : TypeId × Value → H) (F : Stop.Interp) :
    ReturnsInHanded {} Tryd.checked os 3 .any ((OpenSpec.ofChange Rows.programCheckSpec).preRow enc Tryd.prog Tryd.f3 Rows.programCheckRow.domain false Rows.programCheckRow.laid) (((OpenSpec.ofChange Rows.programCheckSpec).at F).post enc Tryd.prog Tryd.f3 false true false false) := by
  obtain ⟨places, hx⟩ := reads os enc
  refine returnsInHanded_of_row (C := Tryd.checked) (s := OpenSpec.ofChange Rows.programCheckSpec) own started (by kernel_rfl) Tryd.func3
    (witness_row_at (enc := enc) (C := Tryd.checked) false (laidWorld os) #[.agg #[.slice none 0 0, .slice none 0 0, .slice none 0 0]] rfl (by kernel_rfl) (by kernel_rfl) (by kernel_rfl)
      (OpenSpec.preRow_of_cond 8 hx (by kernel_rfl) (fun k hk => by cases hk) (by kernel_rfl) (laid_met os))) ?_
  intro W base args ds gs before hval hW _ _ hz hL hsh _
  exact contract H enc W base args ds gs before hval hW hz hL

theorem said : Rows.ProgramCheckSaid :=
  OpenClaim.holds_of_cond 3 Tryd.f3 rfl rfl rfl rfl rfl rfl rfl ⟨rfl, rfl, rfl, rfl, rfl⟩ rfl rfl rfl rfl rfl (by kernel_rfl) Tryd.func3 (by kernel_rfl)
    (of_decide_eq_true (by kernel_rfl)) (by unfold Func.isWrapper; first | (rw [if_pos (by decide +kernel)]; kernel_rfl) | (rw [if_neg (by decide +kernel)]; exact ⟨rfl, rfl⟩))
    (fun os started H enc _ F => by rw [OpenClaim.pre_eq_preRow]; exact lifted os started H enc F)

theorem plain (f : FuncId) (fn : Func) (hf : Tryd.pinned.checked.prog.funcNamed "nursery/nurserylaw13.ProgramCheck" = some f) (hfn : Tryd.pinned.checked.prog.funcs[f]? = some fn) :
    true = Tryd.pinned.checked.prog.looks [] ∧ ∀ (j : Nat) t, fn.params[j]? = some t → Tryd.pinned.checked.prog.wantsStandIn t = false := by
  obtain rfl : f = 3 := Option.some.inj ((show Tryd.prog.funcNamed "nursery/nurserylaw13.ProgramCheck" = some 3 by kernel_rfl).symm.trans hf) |>.symm
  obtain rfl : fn = Tryd.f3 := (Option.some.inj (Tryd.func3.symm.trans hfn)).symm
  refine ⟨by kernel_rfl, fun j t ht => ?_⟩
  rw [Tryd.params3] at ht
  rcases j with _ | j
  · obtain rfl : t = 26 := by simpa using ht.symm
    exact (show Tryd.prog.wantsStandIn 26 = false by kernel_rfl)
  · simp at ht

/-- the statement -/
theorem proved : Rows.ProgramCheckCardSaid :=
  Claim7.holds_tied_plain_at .later [] _ _ _ _ said (fun _ h => by cases h) (by kernel_rfl) (fun _ h => by cases h) programCheck_row_tie rfl ⟨rfl, rfl⟩ (by kernel_rfl) rfl plain (by kernel_rfl)
#print axioms proved
end Go.Proofs.YtfkjokbhnblndaaDoor.programCheck

