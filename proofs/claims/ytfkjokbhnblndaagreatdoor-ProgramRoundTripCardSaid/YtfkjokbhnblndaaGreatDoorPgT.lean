/- Words, and the line that a lister writes of them. -/
import Derived.Test.YtfkjokbhnblndaaGreatDoorPgS2
import Derived.Lib.ItoaMem
import Derived.Lib.LaidTab
namespace Go.Proofs.YtfkjokbhnblndaaGreatDoor
open Go.RowKit Go.Shelf
set_option linter.unusedVariables false
set_option linter.unusedSimpArgs false

/-- the table of powers of ten stands -/
def TabW (w : World) : Prop := Lib.TabIs Tryz.prog w "internal/strconv.uint64pow10" .u64 Lib.pow10Tab
theorem TabW.below {w W : World} (h : TabW w) (hb : Below w.heap.size w W) : TabW W := by
  unfold TabW Lib.TabIs World.var? at h ⊢
  cases hg : Tryz.prog.globalNamed "internal/strconv.uint64pow10" with
  | none => rw [hg] at h; cases h
  | some g =>
    rw [hg] at h
    simp only [Option.bind_some] at h ⊢
    have hlt : g < w.heap.size := by
      rcases Nat.lt_or_ge g w.heap.size with h' | h'
      · exact h'
      · rw [Array.getElem?_eq_none h'] at h; cases h
    rw [hb.block g hlt]
    exact h
/-- what Itoa returns -/
def ItoaSays : Prop := ∀ (v : Int) (W : World), i64 v → TabW W → Gives Tryz.prog 94 #[.int .i64 v] W (sV (Lib.itoa v))

@[go_sem] theorem ta_int (v : Value) (w : World) : (Instr.typeAssert (.iface 3 v) 20 3 true).run Tryz.prog w = .ok (.tuple #[v, .bool true]) w := by kernel_rfl
@[go_sem] theorem ta_str (v : Value) (w : World) : (Instr.typeAssert (.iface 9 v) 20 9 true).run Tryz.prog w = .ok (.tuple #[v, .bool true]) w := by kernel_rfl
@[go_sem] theorem ta_int_str (v : Value) (w : World) : (Instr.typeAssert (.iface 9 v) 20 3 true).run Tryz.prog w = .ok (.tuple #[.int .i64 0, .bool false]) w := by kernel_rfl

inductive Wd
  | n (v : Int)
  | s (l : List UInt8)
def Wd.val : Wd → Value
  | .n v => .iface 3 (.int .i64 v)
  | .s l => .iface 9 (sV l)
def Wd.txt : Wd → List UInt8
  | .n v => Lib.itoa v
  | .s l => l
def Wd.ok : Wd → Prop
  | .n v => i64 v
  | .s l => True
/-- the words with spaces between -/
def wdsB : List Wd → List UInt8
  | [] => []
  | x :: xs => x.txt ++ xs.flatMap (fun y => 32 :: y.txt)
def lineB (ws : List Wd) : List UInt8 := wdsB ws ++ [10]
theorem wdsB_snoc (l : List Wd) (x : Wd) : wdsB (l ++ [x]) = wdsB l ++ (if l.length = 0 then [] else [32]) ++ x.txt := by
  cases l with
  | nil => simp [wdsB]
  | cons y ys => simp [wdsB, List.flatMap_append]
theorem wdsB_take (l : List Wd) (k : Nat) (h : k < l.length) : wdsB (l.take (k + 1)) = wdsB (l.take k) ++ (if k = 0 then [] else [32]) ++ l[k].txt := by
  rw [List.take_succ_eq_append_getElem h, wdsB_snoc, List.length_take, Nat.min_eq_left (by omega)]
theorem wdsB_len (l : List Wd) : ∀ k, k ≤ l.length → (wdsB (l.take k)).length ≤ (wdsB l).length := by
  intro k hk
  cases l with
  | nil => simp
  | cons x xs =>
    cases k with
    | zero => simp [wdsB]
    | succ k =>
      have h : (xs.take k).flatMap (fun y => 32 :: y.txt) ++ (xs.drop k).flatMap (fun y => 32 :: y.txt) = xs.flatMap (fun y => 32 :: y.txt) := by
        rw [← List.flatMap_append, List.take_append_drop]
      have h2 := congrArg List.length h
      rw [List.length_append] at h2
      simp only [List.take_succ_cons, wdsB, List.length_append]
      omega

/-- a row of words in block g -/
def WdAt (w : World) (g off : Nat) (ws : List Wd) : Prop := ∃ cs fz, w.heap[g]? = some (.cells cs 20 fz) ∧ ∀ i (h : i < ws.length), cs[off + i]? = some ws[i].val
theorem WK.block {B b k : Nat} {w w' : World} {cs : Array Value} {T : TypeId} {fz : Nat × Nat} (h : WK B b w w') (hk : w.heap[k]? = some (.cells cs T fz)) (hb : k ≠ b) (hT : T ≠ 5) : w'.heap[k]? = some (.cells cs T fz) :=
  h.2 k _ hk (fun e => hb (Option.some.inj e)) (fun c f e => hT (by cases e; rfl))
theorem WdAt.kept {B b g off : Nat} {w w' : World} {ws : List Wd} (h : WdAt w g off ws) (hk : WK B b w w') (hb : g ≠ b) : WdAt w' g off ws := by
  obtain ⟨cs, fz, h1, h2⟩ := h
  exact ⟨cs, fz, hk.block h1 hb (by decide), h2⟩
theorem WdAt.cell {w : World} {g off : Nat} {ws : List Wd} (h : WdAt w g off ws) (i : Nat) (hi : i < ws.length) : w.cell? ⟨g, off + i, none⟩ = some ws[i].val := by
  obtain ⟨cs, fz, h1, h2⟩ := h
  exact cell_of h1 (h2 i hi)
theorem Lst.lt {B b : Nat} {l : List UInt8} {w : World} (h : Lst B b l w) : b < w.heap.size := by
  rcases h with h | h
  · exact Lib.BuilderAt.lt h
  · exact Lib.BuilderAt.lt h
theorem Lst.ne {B b g off : Nat} {l : List UInt8} {w : World} {ws : List Wd} (h : Lst B b l w) (hW : WdAt w g off ws) : g ≠ b := by
  rintro rfl
  obtain ⟨cs, fz, h1, _⟩ := hW
  rcases h with h | h
  · obtain ⟨_, v, h2, _⟩ := h
    rw [h1] at h2
    cases h2
  · obtain ⟨_, v, h2, _⟩ := h
    rw [h1] at h2
    cases h2

set_option maxHeartbeats 2000000 in
set_option maxRecDepth 100000 in
theorem line_any (B b g off c : Nat) (l : List UInt8) (ws : List Wd) (w : World) (HIT0 : ItoaSays) (hT0 : ∀ W, Below B w W → TabW W) (h : Lst B b l w) (hW : WdAt w g off ws) (hok : ∀ x ∈ ws, x.ok) (hlen : l.length + (wdsB ws).length ≤ 100000000000) (hn : ws.length ≤ 1000000000) (hBw : B ≤ w.heap.size) :
    Calls Tryz.prog 46 #[.pointer (some ⟨b, 0, none⟩), .slice (some ⟨g, off, none⟩) ws.length c] w fun e w' => e = .returned (.tuple #[]) ∧ Lst B b (l ++ lineB ws) w' ∧ WK B b w w' := by
  have HIT := Lib.hid HIT0
  have hT := Lib.hid hT0
  have HB := Lib.hid (h.ne hW)
  have H0 := Lib.hid h
  have HW := Lib.hid hW
  have HOK := Lib.hid hok
  have HTK := Lib.hid (fun k hk => wdsB_take ws k hk)
  have HLE := Lib.hid (fun k hk => wdsB_len ws k hk)
  have HLE2 := Lib.hid hlen
  obtain ⟨n, hnn⟩ : ∃ n, ws.length = n := ⟨_, rfl⟩
  have HN := Lib.hid hnn
  rw [hnn] at hn ⊢
  clear HIT0 hT0 h hW hok hlen hnn
  go_enter Tryz.func46, Tryz.ntmps46
  go_wp2
  go_loopw [10] (fun i wr => ∃ k : Nat, k ≤ n ∧ i = .int .i64 (k : Int) ∧ Lst B b (l ++ wdsB (ws.take k)) wr ∧ WK B b w wr) (fun i _ => n - (intOf i).toNat)
  case atStart => exact ⟨0, Nat.zero_le _, rfl, by simpa [wdsB] using H0.out, WK.refl _ _ _⟩
  case round =>
    obtain ⟨k, hk, rfl, hL, hK⟩ := hrel
    by_cases hlt : k < n
    · have hlt' : k < ws.length := by rw [HN.out]; exact hlt
      have c0 := (HW.out.kept hK HB.out).cell k hlt'
      replace HTK := Lib.hid (HTK.out k hlt')
      have HLN := Lib.hid (show l.length + (wdsB (ws.take (k + 1))).length ≤ 100000000000 from by have h1 := HLE.out (k + 1) (by omega); have h2 := HLE2.out; omega)
      have HL := Lib.hid hL
      have HK := Lib.hid hK
      clear hL hK
      obtain ⟨t2, ht2⟩ : ∃ t, wdsB (ws.take (k + 1)) = t := ⟨_, rfl⟩
      rw [ht2] at HTK HLN
      have HT2 := Lib.hid ht2
      clear ht2
      generalize wdsB (ws.take k) = t1 at *
      have hok := HOK.out _ (List.getElem_mem hlt')
      generalize ws[k] = x at *
      clear hlt'
      cases x with
      | n v =>
        have hv := Lib.hid (show i64 v from hok)
        clear hok
        dsimp only [Wd.val, Wd.txt] at c0 HTK
        by_cases hk0 : k = 0
        · rw [if_pos hk0] at HTK
          have hk1 : ¬ 0 < k := by omega
          clear hk0
          go_wp2_with fail
          clear c0
          refine wp_region_uptail (l1 := [_, _, _, _, _]) (l2 := [_]) (by kernel_rfl) (by kernel_rfl) (by kernel_rfl) (by kernel_rfl) (by kernel_rfl) ?_
          repeat (go_big_quiet_step (first | (go_at_call 94; refine Up.callE (fun W hW => HIT.out v W hv.out (hT.out W (HK.out.1.trans (hW.below.mono (Nat.le_trans hBw HK.out.1.size))))) ?_; with_reducible rfl)))
          refine wpQuiet_nil ?_
          rintro _ ⟨U, rfl⟩
          have HE := Lib.hid U.ext
          generalize U.W = w4 at *
          replace HL := Lib.hid (HL.out.ext HE.out)
          replace HK := Lib.hid (HK.out.trans (WK.of_ext (b := b) HE.out (Nat.le_trans hBw HK.out.1.size)))
          clear HE
          go_wp2_with fail
          refine (lws_any B b _ _ _ HL.out (by have := HLN.out; have h2 := congrArg List.length HTK.out; simp only [List.length_append] at this h2 ⊢; omega) (Nat.le_trans hBw HK.out.1.size)).mono ?_
          rintro _ w5 ⟨rfl, h1, h2⟩
          have HL5 := Lib.hid h1
          have HK5 := Lib.hid (HK.out.trans h2)
          clear h1 h2
          go_wp2
          go_roundw
          case rel => exact ⟨k + 1, by omega, by go_num, by rw [HT2.out, HTK.out]; simpa using HL5.out, HK5.out⟩
          case measure => simp [intOf]; omega
        · rw [if_neg hk0] at HTK
          have hk1 : 0 < k := by omega
          clear hk0
          go_wp2_with fail
          clear c0
          refine (lwb_any B b _ 32 32 rfl _ HL.out (by have := HLN.out; have h2 := congrArg List.length HTK.out; simp only [List.length_append, List.length_cons, List.length_nil] at this h2 ⊢; omega) (Nat.le_trans hBw HK.out.1.size)).mono ?_
          rintro _ w3 ⟨rfl, h1, h2⟩
          replace HL := Lib.hid h1
          replace HK := Lib.hid (HK.out.trans h2)
          clear h1 h2
          go_wp2_with fail
          refine wp_region_uptail (l1 := [_, _, _, _, _]) (l2 := [_]) (by kernel_rfl) (by kernel_rfl) (by kernel_rfl) (by kernel_rfl) (by kernel_rfl) ?_
          repeat (go_big_quiet_step (first | (go_at_call 94; refine Up.callE (fun W hW => HIT.out v W hv.out (hT.out W (HK.out.1.trans (hW.below.mono (Nat.le_trans hBw HK.out.1.size))))) ?_; with_reducible rfl)))
          refine wpQuiet_nil ?_
          rintro _ ⟨U, rfl⟩
          have HE := Lib.hid U.ext
          generalize U.W = w4 at *
          replace HL := Lib.hid (HL.out.ext HE.out)
          replace HK := Lib.hid (HK.out.trans (WK.of_ext (b := b) HE.out (Nat.le_trans hBw HK.out.1.size)))
          clear HE
          go_wp2_with fail
          refine (lws_any B b _ _ _ HL.out (by have := HLN.out; have h2 := congrArg List.length HTK.out; simp only [List.length_append, List.length_cons, List.length_nil] at this h2 ⊢; omega) (Nat.le_trans hBw HK.out.1.size)).mono ?_
          rintro _ w5 ⟨rfl, h1, h2⟩
          have HL5 := Lib.hid h1
          have HK5 := Lib.hid (HK.out.trans h2)
          clear h1 h2
          go_wp2
          go_roundw
          case rel => exact ⟨k + 1, by omega, by go_num, by rw [HT2.out, HTK.out]; simpa using HL5.out, HK5.out⟩
          case measure => simp [intOf]; omega
      | s t =>
        clear hok
        dsimp only [Wd.val, Wd.txt] at c0 HTK
        by_cases hk0 : k = 0
        · rw [if_pos hk0] at HTK
          have hk1 : ¬ 0 < k := by omega
          clear hk0
          go_wp2_with fail
          clear c0
          refine (lws_any B b _ _ _ HL.out (by have := HLN.out; have h2 := congrArg List.length HTK.out; simp only [List.length_append] at this h2 ⊢; omega) (Nat.le_trans hBw HK.out.1.size)).mono ?_
          rintro _ w5 ⟨rfl, h1, h2⟩
          have HL5 := Lib.hid h1
          have HK5 := Lib.hid (HK.out.trans h2)
          clear h1 h2
          go_wp2
          go_roundw
          case rel => exact ⟨k + 1, by omega, by go_num, by rw [HT2.out, HTK.out]; simpa using HL5.out, HK5.out⟩
          case measure => simp [intOf]; omega
        · rw [if_neg hk0] at HTK
          have hk1 : 0 < k := by omega
          clear hk0
          go_wp2_with fail
          clear c0
          refine (lwb_any B b _ 32 32 rfl _ HL.out (by have := HLN.out; have h2 := congrArg List.length HTK.out; simp only [List.length_append, List.length_cons, List.length_nil] at this h2 ⊢; omega) (Nat.le_trans hBw HK.out.1.size)).mono ?_
          rintro _ w3 ⟨rfl, h1, h2⟩
          replace HL := Lib.hid h1
          replace HK := Lib.hid (HK.out.trans h2)
          clear h1 h2
          go_wp2_with fail
          refine (lws_any B b _ _ _ HL.out (by have := HLN.out; have h2 := congrArg List.length HTK.out; simp only [List.length_append, List.length_cons, List.length_nil] at this h2 ⊢; omega) (Nat.le_trans hBw HK.out.1.size)).mono ?_
          rintro _ w5 ⟨rfl, h1, h2⟩
          have HL5 := Lib.hid h1
          have HK5 := Lib.hid (HK.out.trans h2)
          clear h1 h2
          go_wp2
          go_roundw
          case rel => exact ⟨k + 1, by omega, by go_num, by rw [HT2.out, HTK.out]; simpa using HL5.out, HK5.out⟩
          case measure => simp [intOf]; omega
    · obtain rfl : k = n := by omega
      have HL := Lib.hid hL
      have HK := Lib.hid hK
      clear hL hK
      have e : ws.take k = ws := by rw [← HN.out]; exact List.take_length
      rw [e] at HL
      clear e
      go_wp2_with fail
      refine (lwb_any B b _ 10 10 rfl _ HL.out (by have h2 := HLE2.out; simp only [List.length_append] at h2 ⊢; omega) (Nat.le_trans hBw HK.out.1.size)).mono ?_
      rintro _ w3 ⟨rfl, h1, h2⟩
      have HL3 := Lib.hid h1
      have HK3 := Lib.hid (HK.out.trans h2)
      clear h1 h2
      go_wp2
      go_end0
      exact ⟨rfl, by unfold lineB; rw [← List.append_assoc]; exact HL3.out, HK3.out⟩
end Go.Proofs.YtfkjokbhnblndaaGreatDoor
