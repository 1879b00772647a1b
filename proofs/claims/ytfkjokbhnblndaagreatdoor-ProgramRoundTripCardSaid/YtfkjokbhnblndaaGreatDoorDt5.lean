/- Itoa; word, kinds, names; rows of words of the call's own. program.Text. awake: the example of the chapter. -/
import Derived.Lib.OwnBridge
import Derived.OwnWalk
import Derived.Test.YtfkjokbhnblndaaGreatDoorPgW
import Derived.Test.YtfkjokbhnblndaaGreatDoorDt1
import Derived.Test.YtfkjokbhnblndaaGreatDoorMapW
import Derived.Test.YtfkjokbhnblndaaGreatDoorRt
import Derived.Test.YtfkjokbhnblndaaGreatDoorPgP

namespace Go.Proofs.YtfkjokbhnblndaaGreatDoor
open Go.RowKit Go.Shelf
set_option linter.unusedVariables false
set_option linter.unusedSimpArgs false

theorem ext_grow (w : World) (k : Nat) (os : Array Obj) : Ext w (Go.Sort.grow (w.drewN k) os) :=
  ⟨rfl, rfl, rfl, by simp [Go.Sort.grow], fun j hj => by rw [Go.Sort.heap_grow_old _ _ (by simpa using hj)]; simp⟩
theorem itoa_says : ItoaSays := fun v W hv hT => by
  refine (Tryz.strconv_Itoa v hv.1 hv.2 W hT).mono ?_
  rintro e w' ⟨rfl, k, os, rfl⟩
  exact ⟨rfl, ext_grow _ _ _⟩
theorem word_any (b : Bool) (x y : List UInt8) (w : World) : Gives Tryz.prog 47 #[.bool b, sV x, sV y] w (sV (pick2 b x y)) := by
  unfold Gives
  cases b with
  | false =>
    go_enter Tryz.func47, Tryz.ntmps47
    go_wp2
    go_ret
    exact ⟨rfl, Below.refl _ _⟩
  | true =>
    go_enter Tryz.func47, Tryz.ntmps47
    go_wp2
    go_ret
    exact ⟨rfl, Below.refl _ _⟩
def kindC : Array Value := #[sV [], sV [109, 117, 116, 101, 120], sV [114, 119, 108, 111, 99, 107], sV [99, 111, 110, 100], sV [115, 101, 109, 97, 112, 104, 111, 114, 101], sV [98, 97, 114, 114, 105, 101, 114], sV [99, 104, 97, 110, 110, 101, 108], sV [116, 111, 112, 105, 99], sV [108, 105, 109, 105, 116, 101, 114], sV [102, 117, 116, 117, 114, 101]]
theorem kindC_get (k : Nat) (h : k < 10) : kindC[k]? = some (sV (kindNm k)) := by
  rcases (by omega : k = 0 ∨ k = 1 ∨ k = 2 ∨ k = 3 ∨ k = 4 ∨ k = 5 ∨ k = 6 ∨ k = 7 ∨ k = 8 ∨ k = 9) with rfl | rfl | rfl | rfl | rfl | rfl | rfl | rfl | rfl | rfl <;> rfl
theorem kinds_any (w : World) : Calls Tryz.prog 48 #[] w fun e W => ∃ g, e = .returned (.slice (some ⟨g, 0, none⟩) 10 10) ∧ W.heap[g]? = some (.cells kindC 9 (0, 0)) ∧ Ext w W := by
  have h1 := alloc_here w (.cells kindC 9)
  have h2 : Ext w (w.alloc (.cells kindC 9)) := (Below.refl _ w).alloc (Nat.le_refl _) _
  have H1 := Lib.hid h1
  have H2 := Lib.hid h2
  clear h1 h2
  go_enter Tryz.func48, Tryz.ntmps48
  go_wp2
  go_ret
  exact ⟨_, rfl, H1.out, H2.out⟩
/-- the map of the names -/
def nameV : List (Int × Value) := nameL.map fun p => (p.1, sV p.2)
theorem nameV_find (k : Int) : (((nameV.find? (fun p => p.1 == k)).map (·.2))).getD (sV []) = sV (opName k) := by
  unfold nameV opName
  generalize nameL = l
  induction l with
  | nil => rfl
  | cons x l ih =>
    simp only [List.map_cons, List.find?_cons]
    cases h : x.1 == k with
    | true => simp
    | false => simpa using ih
theorem run_name {w : World} {b : Nat} (h : MapAt w b nameV) (k : Int) : (Instr.lookup 89 (.map (some b)) (.int .i64 k) false).run Tryz.prog w = .ok (sV (opName k)) w := by
  obtain ⟨es, c, h1, h2⟩ := h
  rw [run_lookup_int Tryz.underlying89 Tryz.underlying3 h1 h2 (sV []) (by kernel_rfl) k false]
  simp only [nameV_find]
  rfl
theorem wp_insC {P : Program} {ops : Array Oper} {rest : List Oper} {o : Oper} {a : Act} {Q : Exit → Act → World → Prop} {w : World} (hg : o.guard = none) (m : Operand) (t : TypeId) (k : Int) (val : Value) (hop : o.op = Op.insert t m (.const (.int .i64 k)) (.const val)) (kt e : TypeId) (ht : P.underlying t = some (.map kt e)) (hk : P.underlying kt = some (.int .i64))
    (b : Nat) (l : List (Int × Value)) (hm : a.eval m = .map (some b)) (h : MapAt w b l) (hno : l.all (fun p => p.1 != k) = true)
    (hK : ∀ W, MapAt W b (l ++ [(k, val)]) → Below b w W → (∀ j, j < w.heap.size → j ≠ b → W.heap[j]? = w.heap[j]?) → wpList P ops Q rest (a.put o.dst undef) W) : wpList P ops Q (o :: rest) a w :=
  wp_insert hg m _ _ t hop kt e ht hk b l hm h k val rfl rfl hno hK
set_option maxRecDepth 100000 in
set_option maxHeartbeats 8000000 in
theorem names_any (w : World) : Calls Tryz.prog 49 #[] w fun e W => ∃ b, e = .returned (.map (some b)) ∧ MapAt W b nameV ∧ w.heap.size ≤ b ∧ Ext w W := by
  have hmm := @run_makeMap Tryz.prog
  have hO := MapAt.made w
  have hE : Ext w (w.alloc (.map #[] 0)) := (Below.refl _ w).alloc (Nat.le_refl _) _
  go_enter Tryz.func49, Tryz.ntmps49
  go_wp2_with (refine wp_insC rfl _ _ _ _ rfl _ _ Tryz.underlying89 Tryz.underlying3 _ _ rfl hO rfl ?_; intro V hO1 hB _; replace hE := Below.trans hE hB; clear hB hO; have hO := hO1; clear hO1)
  go_ret
  exact ⟨_, rfl, hO, Nat.le_refl _, hE⟩

/-- v is a row of words of the call's own -/
def RowW (base : Nat) (v : Value) (l : List Wd) (w : World) : Prop := w.ownsRow base 20 1 v l.length (l.map Wd.val)
theorem infoW : (Tryz.prog.info? 20).map (fun i => (i.zero, i.size, i.bytes)) = some (some .nilIface, 1, 16) := by kernel_rfl
theorem RowW.at {base : Nat} {v : Value} {l : List Wd} {w : World} (h : RowW base v l w) (h0 : l ≠ []) : ∃ g cap, v = .slice (some ⟨g, 0, none⟩) l.length cap ∧ WdAt w g 0 l := by
  rcases h.2 with ⟨_, e⟩ | ⟨g, cap, cur, hv, hb, hg, hn, hc, hs, ht⟩
  · exact absurd (List.eq_nil_of_length_eq_zero e) h0
  · refine ⟨g, cap, hv, cur, (0, 0), hg, fun i hi => ?_⟩
    have h1 : (cur.toList.take (l.length * 1))[i]? = some l[i].val := by rw [ht]; simp [hi]
    rw [Nat.mul_one, List.getElem?_take, if_pos hi] at h1
    simpa using h1
variable {ops : Array Oper} {rest : List Oper} {o : Oper} {a : Act} {Q : Exit → Act → World → Prop}
theorem wp_appW (hgd : o.guard = none) (s x : Operand) (ho : o.op = .call { callee := .builtin .append, args := #[s, x], argTypes := #[91, 91] })
    (base : Nat) (v : Value) (l : List Wd) (hs : a.eval s = v) (W : World) (h : RowW base v l W) (n : Wd) (nv : Value) (hnv : n.val = nv) (hx : a.eval x = .slice (some ⟨W.heap.size, 0, none⟩) 1 1) (hlen : l.length ≤ 10000000000) (hbase : base ≤ W.heap.size)
    (hK : ∀ v' w', RowW base v' (l ++ [n]) w' → Below base W w' → wpList Tryz.prog ops Q rest (a.put o.dst v') w') : wpList Tryz.prog ops Q (o :: rest) a (W.alloc (.cells #[nv] 20)) := by
  subst hnv
  obtain ⟨i0, hi, hz0, hz1, hz2⟩ := info_parts infoW
  refine wpList_append_own _ hgd s x 91 ho base 20 i0 .nilIface 1 16 Tryz.underlying91 hi hz0 hz1 hz2 rfl (by decide) v l.length (l.map Wd.val) hs (World.ownsRow.alloc h _) ⟨W.heap.size, 0, none⟩ 1 1 [n.val] hx rfl (cell_one_new _ _ _) (by cases n <;> simp [Value.oneCell', Wd.val]) (by unfold maxLen; omega) (by omega) (by simp; omega) ?_
  intro v' w' hown hg _
  refine hK v' w' ?_ ?_
  · unfold RowW
    simpa using hown
  · exact ((Below.refl base W).alloc hbase _).grown hg (by simp; omega) (fun k e => (World.ownsRow.lt h k e).1)
end Go.Proofs.YtfkjokbhnblndaaGreatDoor

namespace Go.Proofs.YtfkjokbhnblndaaGreatDoor
open Go.RowKit Go.Shelf
set_option linter.unusedVariables false
set_option linter.unusedSimpArgs false

theorem WK.ext {B b : Nat} {w w1 w2 w' : World} (h : WK B b w2 w') (h1 : Ext w w2) (hB : w.heap.size ≤ B) : Ext w w' := Below.trans h1 (h.1.mono hB)
theorem WK.old {B b g : Nat} {w2 w' : World} {cs : Array Value} {T : TypeId} {fz : Nat × Nat} (h : WK B b w2 w') (hk : w2.heap[g]? = some (.cells cs T fz)) (hb : g ≠ b) (hT : (T == 5) = false) : w'.heap[g]? = some (.cells cs T fz) := h.block hk hb (by simpa using hT)
theorem MapAt.wk {B b g : Nat} {w2 w' : World} {l : List (Int × Value)} (h : MapAt w2 g l) (hk : WK B b w2 w') (hb : g ≠ b) : MapAt w' g l := by
  obtain ⟨es, c, h1, h2⟩ := h
  exact ⟨es, c, hk.2 g _ h1 (fun e => hb (Option.some.inj e)) (fun c f e => by cases e), h2⟩
theorem wdAt_lit (w : World) (cs : Array Value) (ws : List Wd) (h : ∀ i (h : i < ws.length), cs[0 + i]? = some ws[i].val) : WdAt (w.alloc (.cells cs 20)) w.heap.size 0 ws := ⟨cs, _, alloc_here _ _, h⟩

set_option maxRecDepth 100000 in
set_option maxHeartbeats 4000000 in
theorem Text_any (p : Pg) (A : PA) (w : World) (h : PgAt w p A) (hT : TabW w) : Gives Tryz.prog 25 #[PV p A] w (.tuple #[sV (textR p).1, .int .i64 (textR p).2]) := by
  unfold Gives
  have HP := Lib.hid h
  have HTB := Lib.hid hT
  have KC := Lib.hid (fun W (hW : Ext w W) => Check_any p A W (h.ext hW))
  obtain ⟨ck, hck⟩ : ∃ c, ckPg p = c := ⟨_, rfl⟩
  have HR := Lib.hid (show textR p = if ck = 0 then (textP p, 0) else ([], ck) from by rw [← hck]; rfl)
  have HVD := Lib.hid (fun e : ck = 0 => valid_iff.1 (hck.trans e))
  rw [hck] at KC
  have HWF := Lib.hid h.wf
  clear h hT hck
  obtain ⟨fa, fc, oa, oc, va, vc⟩ := A
  dsimp only [PV] at KC ⊢
  obtain ⟨wk, hwk⟩ : ∃ W, W = (w.alloc (.cells #[.slice fa p.fs.length fc, .slice oa p.os.length oc, .slice va p.vs.length vc] 26)) := ⟨_, rfl⟩
  have BX := Lib.hid (show ∀ W, Ext wk W → (W.cell? ⟨w.heap.size, 0, none⟩ = some (.slice fa p.fs.length fc) ∧ W.cell? ⟨w.heap.size, 1, none⟩ = some (.slice oa p.os.length oc) ∧ W.cell? ⟨w.heap.size, 2, none⟩ = some (.slice va p.vs.length vc)) from fun W hW => by
    subst hwk
    have h0 := alloc_here w (.cells #[.slice fa p.fs.length fc, .slice oa p.os.length oc, .slice va p.vs.length vc] 26)
    have k0 := (hW.below.block _ (lt_of_block h0)).trans h0
    exact ⟨cell_of k0 rfl, cell_of k0 rfl, cell_of k0 rfl⟩)
  have HWZ := Lib.hid (show wk.heap.size = w.heap.size + 1 by rw [hwk]; simp)
  have HW := Lib.hid (show Ext w wk by rw [hwk]; exact (ext_alloc (Below.refl _ _) _))
  have HE0 := Lib.hid (show Ext wk wk from Below.refl _ _)
  by_cases hc0 : ck = 0
  · subst hc0
    have HV := Lib.hid (HVD.out rfl)
    have HR0 := Lib.hid (show textR p = (textP p, 0) from by rw [HR.out, if_pos rfl])
    clear HVD HR
    go_enter Tryz.func25, Tryz.ntmps25
    go_wp2_with fail
    rw [← hwk]
    clear hwk
    refine (KC.out _ (Ext.trans HW.out HE0.out)).mono ?_
    intro w1 hB
    have HE1 := Lib.hid (Ext.trans HE0.out hB)
    clear hB
    have hsz : w.heap.size < w1.heap.size := by have := HE1.out.size; have h2 := HWZ.out; omega
    obtain ⟨d0_0, d0_1, d0_2⟩ := BX.out _ HE1.out
    go_wp2_with fail
    clear d0_0 d0_1 d0_2
    obtain ⟨B, hBe⟩ : ∃ B, B = w1.heap.size := ⟨_, rfl⟩
    obtain ⟨w2, hw2⟩ : ∃ W, W = w1.alloc (.cells #[.pointer none, .slice none 0 0] 84) := ⟨_, rfl⟩
    have HX2 := Lib.hid (show Ext wk w2 from by rw [hw2]; exact ext_alloc HE1.out _)
    have HL2 := Lib.hid (show Lst B B [] w2 from by rw [hw2, hBe]; exact Lst.fresh w1)
    have HS2 := Lib.hid (show B ≤ w2.heap.size from by rw [hw2, hBe]; simp)
    rw [← hw2, ← hBe]
    have HB := Lib.hid (show wk.heap.size ≤ B from by rw [hBe]; exact HE1.out.size)
    have HXK := Lib.hid (fun W (hW : WK B B w2 W) => WK.ext (w1 := w) hW HX2.out HB.out)
    have HTK := Lib.hid (fun W (hW : Below B w2 W) => show TabW W from HTB.out.below (Below.trans (Ext.trans HW.out HX2.out) (hW.mono (by have h1 := HB.out; have h2 := HWZ.out; omega))))
    have HRW := Lib.hid (fun W (hW : WK B B w2 W) => HP.out.ext (Ext.trans HW.out (HXK.out W hW)))
    clear hw2 hBe hsz HTB
    have hnv := HV.out.v2
    have hno := HV.out.o2
    have hnf := HV.out.f2
    go_loopw [26] (fun i wr => ∃ k : Nat, k ≤ p.vs.length ∧ i = .int .i64 (k : Int) ∧ Lst B B (catN (vaTxt p) k) wr ∧ WK B B w2 wr) (fun i _ => p.vs.length - (intOf i).toNat)
    case atStart => exact ⟨0, Nat.zero_le _, rfl, HL2.out, WK.refl _ _ _⟩
    case round =>
      obtain ⟨k, hk, rfl, hL, hK⟩ := hrel
      have HL := Lib.hid hL
      have HK := Lib.hid hK
      clear hL hK
      obtain ⟨d0_0, d0_1, d0_2⟩ := BX.out wr (HXK.out wr HK.out)
      by_cases hlt : k < p.vs.length
      · obtain ⟨b0, off, hva, hcs⟩ := (HRW.out wr HK.out).vs k hlt
        dsimp only at hva
        subst hva
        obtain ⟨c0, c1, c2⟩ := hcs
        have hb0 := cell_lt2 c0
        dsimp only at hb0
        go_wp2_with fail
        clear c0 c1 c2 d0_0 d0_1 d0_2 hb0
        have HV1 := Lib.hid (varWd_fit (HWF.out) HV.out hlt)
        have HT1 := Lib.hid (show catN (vaTxt p) (k + 1) = catN (vaTxt p) k ++ lineB (varWd p.vs[k]) from by rw [← vaAt_eq hlt]; rfl)
        have HLN := Lib.hid (show (catN (vaTxt p) k).length + (wdsB (varWd p.vs[k])).length ≤ 100000000000 from by have h1 := vaCat_le HWF.out HV.out k hk; have h2 := wdsB_le _ HV1.out; have h3 : (varWd p.vs[k]).length = 4 := rfl; omega)
        obtain ⟨wa, hwa⟩ : ∃ W, W = wr.alloc (.cells #[sV p.vs[k].name, .int .i64 p.vs[k].init, .bool p.vs[k].atomic] 54) := ⟨_, rfl⟩
        have HAa := Lib.hid (show wa.heap[wr.heap.size]? = some (.cells #[sV p.vs[k].name, .int .i64 p.vs[k].init, .bool p.vs[k].atomic] 54) from by rw [hwa]; exact alloc_here _ _)
        have HEa := Lib.hid (show Ext wr wa from by rw [hwa]; exact (Below.refl _ _).alloc (Nat.le_refl _) _)
        rw [← hwa]
        clear hwa
        obtain ⟨na, hnb⟩ : ∃ n, n = wr.heap.size := ⟨_, rfl⟩
        have HNa := Lib.hid hnb
        rw [← hnb] at HAa
        rw [← hnb]
        clear hnb
        have a0 : wa.cell? ⟨na, 0, none⟩ = some (sV p.vs[k].name) := cell_of HAa.out rfl
        have a1 : wa.cell? ⟨na, 1, none⟩ = some (.int .i64 p.vs[k].init) := cell_of HAa.out rfl
        have a2 : wa.cell? ⟨na, 2, none⟩ = some (.bool p.vs[k].atomic) := cell_of HAa.out rfl
        have ua0 := fun U : Up wa => Up.cell a0 U
        have ua1 := fun U : Up wa => Up.cell a1 U
        have ua2 := fun U : Up wa => Up.cell a2 U
        refine wp_region_uptail (l1 := [_, _, _, _, _, _, _, _, _, _, _]) (l2 := [_, _]) (by kernel_rfl) (by kernel_rfl) (by kernel_rfl) (by kernel_rfl) (by kernel_rfl) ?_
        repeat (go_big_quiet_step (first | (go_at_call 47; refine Up.callE (fun W hW => word_any p.vs[k].atomic [97, 116, 111, 109, 105, 99] [118, 97, 114] W) ?_; exact rfl)))
        refine wpQuiet_nil ?_
        rintro _ ⟨U, rfl⟩
        have HE4 := Lib.hid U.ext
        generalize U.W = w4 at *
        clear ua0 a0 ua1 a1 ua2 a2
        have HL4 := Lib.hid (Lst.ext (HL.out.ext HEa.out) HE4.out)
        have HK4 := Lib.hid (WK.trans (HK.out.trans (WK.of_ext (b := B) HEa.out (Nat.le_trans HS2.out HK.out.1.size))) (WK.of_ext (b := B) HE4.out (Nat.le_trans HS2.out (Nat.le_trans ((HK.out.trans (WK.of_ext (b := B) HEa.out (Nat.le_trans HS2.out HK.out.1.size)))).1.size (Nat.le_refl _)))))
        have HF := Lib.hid (HV1.out)
        go_wp2_with fail
        refine Calls.mono (line_any B B _ 0 _ _ (varWd p.vs[k]) _ itoa_says (fun W hW => HTK.out W ((HK4.out.1.trans ((ext_alloc (Below.refl _ _) _ : Ext w4 _).below.mono (Nat.le_trans HS2.out HK4.out.1.size))).trans hW)) (Lst.ext HL4.out (ext_alloc (Below.refl _ _) _)) (wdAt_lit _ _ _ ?_) (fun x hx => (HF.out x hx).1) HLN.out (by have h3 : (varWd p.vs[k]).length = 4 := rfl; omega) (Nat.le_trans HS2.out (Nat.le_trans HK4.out.1.size (by simp)))) ?_
        · intro i hi
          match i, hi with
          | 0, _ => rfl
          | 1, _ => rfl
          | 2, _ => rfl
          | 3, _ => rfl
        rintro _ w5 ⟨rfl, h1, h2⟩
        have HL5 := Lib.hid h1
        have HKL := Lib.hid ((WK.of_ext (b := B) (show Ext w4 _ from ext_alloc (Below.refl _ _) _) (Nat.le_trans HS2.out HK4.out.1.size)).trans h2)
        have HK5 := Lib.hid (HK4.out.trans HKL.out)
        clear h1 h2
        go_wp2
        go_roundw
        case rel => exact ⟨k + 1, by omega, by go_num, by rw [HT1.out]; exact HL5.out, HK5.out⟩
        case measure => simp [intOf]; omega
      · have HL0 := Lib.hid (show Lst B B (catN (vaTxt p) p.vs.length) wr from (show k = p.vs.length by omega) ▸ HL.out)
        have HK0 := Lib.hid HK.out
        clear HL HK
        go_wp2_with fail
        clear d0_0 d0_1 d0_2 hlt hk
        generalize wr = wv at *
        generalize k = kv at *
        go_loopw [47] (fun i wr => ∃ k : Nat, k ≤ p.os.length ∧ i = .int .i64 (k : Int) ∧ Lst B B (catN (vaTxt p) p.vs.length ++ catN (obTxt p) k) wr ∧ WK B B w2 wr) (fun i _ => p.os.length - (intOf i).toNat)
        case atStart => exact ⟨0, Nat.zero_le _, rfl, by simpa [catN] using HL0.out, HK0.out⟩
        case round =>
          obtain ⟨k, hk, rfl, hL, hK⟩ := hrel
          have HL := Lib.hid hL
          have HK := Lib.hid hK
          clear hL hK
          obtain ⟨d0_0, d0_1, d0_2⟩ := BX.out wr (HXK.out wr HK.out)
          by_cases hlt : k < p.os.length
          · obtain ⟨b0, off, hva, hcs⟩ := (HRW.out wr HK.out).os k hlt
            dsimp only at hva
            subst hva
            obtain ⟨c0, c1, c2, c3⟩ := hcs
            have hb0 := cell_lt2 c0
            dsimp only at hb0
            go_wp2_with fail
            clear c0 c1 c2 c3 d0_0 d0_1 d0_2 hb0
            have HV1 := Lib.hid (obWd_fit (HWF.out) HV.out hlt)
            have HT1 := Lib.hid (show catN (vaTxt p) p.vs.length ++ catN (obTxt p) (k + 1) = catN (vaTxt p) p.vs.length ++ catN (obTxt p) k ++ lineB (obWd p.os[k]) from by rw [← obAt_eq hlt, List.append_assoc]; rfl)
            have HLN := Lib.hid (show (catN (vaTxt p) p.vs.length ++ catN (obTxt p) k).length + (wdsB (obWd p.os[k])).length ≤ 100000000000 from by have h1 := vaCat_le HWF.out HV.out _ (Nat.le_refl _); have h4 := obCat_le HWF.out HV.out k hk; have h2 := wdsB_le _ HV1.out; have h3 : (obWd p.os[k]).length = 4 := rfl; rw [List.length_append]; omega)
            obtain ⟨m, hm, hm9⟩ : ∃ m : Nat, (p.os[k]).kind = m ∧ m < 10 := by have h1 := (HV.out.ob hlt).k1; have h2 := (HV.out.ob hlt).k2; exact ⟨(p.os[k]).kind.toNat, by omega, by omega⟩
            obtain ⟨wa, hwa⟩ : ∃ W, W = wr.alloc (.cells #[sV p.os[k].name, .int .i64 p.os[k].kind, .int .i64 p.os[k].size, .int .i64 p.os[k].oth] 52) := ⟨_, rfl⟩
            have HAa := Lib.hid (show wa.heap[wr.heap.size]? = some (.cells #[sV p.os[k].name, .int .i64 p.os[k].kind, .int .i64 p.os[k].size, .int .i64 p.os[k].oth] 52) from by rw [hwa]; exact alloc_here _ _)
            have HEa := Lib.hid (show Ext wr wa from by rw [hwa]; exact (Below.refl _ _).alloc (Nat.le_refl _) _)
            rw [← hwa]
            clear hwa
            obtain ⟨na, hnb⟩ : ∃ n, n = wr.heap.size := ⟨_, rfl⟩
            have HNa := Lib.hid hnb
            rw [← hnb] at HAa
            rw [← hnb]
            clear hnb
            have a0 : wa.cell? ⟨na, 0, none⟩ = some (sV p.os[k].name) := cell_of HAa.out rfl
            have a1 : wa.cell? ⟨na, 1, none⟩ = some (.int .i64 p.os[k].kind) := cell_of HAa.out rfl
            have a2 : wa.cell? ⟨na, 2, none⟩ = some (.int .i64 p.os[k].size) := cell_of HAa.out rfl
            have a3 : wa.cell? ⟨na, 3, none⟩ = some (.int .i64 p.os[k].oth) := cell_of HAa.out rfl
            clear a0 a1 a2 a3
            refine wp_region_tail (l1 := [_, _, _, _, _, _, _, _, _, _, _, _, _, _, _]) (l2 := [_, _]) (by kernel_rfl) Ext (fun W => Below.refl _ W) (fun W => show Below W.heap.size W { W with drawn := W.drawn + 1 } from ⟨rfl, rfl, rfl, Nat.le_refl _, fun _ _ => rfl⟩) Ext.trans
              (fun i s W => match i with
                | 0 => ∃ g, s 0 = .slice (some ⟨g, 0, none⟩) 10 10 ∧ W.heap[g]? = some (.cells kindC 9 (0, 0))
                | 1 => s 1 = .pointer (some ⟨na, 1, none⟩)
                | 2 => s 2 = .int .i64 (m : Int)
                | 3 => ∃ g, s 3 = .pointer (some ⟨g, m, none⟩) ∧ W.heap[g]? = some (.cells kindC 9 (0, 0))
                | 4 => s 4 = sV (kindNm (m : Int))
                | 5 => s 5 = .iface 9 (sV (kindNm (m : Int)))
                | 6 => s 6 = .pointer (some ⟨na, 0, none⟩)
                | 7 => s 7 = sV p.os[k].name
                | 8 => s 8 = .iface 9 (sV p.os[k].name)
                | 9 => s 9 = .pointer (some ⟨na, 2, none⟩)
                | 10 => s 10 = .int .i64 p.os[k].size
                | 11 => s 11 = .iface 3 (.int .i64 p.os[k].size)
                | 12 => s 12 = .pointer (some ⟨na, 3, none⟩)
                | 13 => s 13 = .int .i64 p.os[k].oth
                | 14 => s 14 = .iface 3 (.int .i64 p.os[k].oth)
                | _ => True)
              (fun i => [i])
              (by
                intro i s s' W W' h hs hE
                have hs := hs i (by simp)
                match i, h, hs with
                | 0, ⟨g, h1, h2⟩, hs => exact ⟨g, hs.trans h1, (hE.below.block _ (lt_of_block h2)).trans h2⟩
                | 1, h, hs => exact hs.trans h
                | 2, h, hs => exact hs.trans h
                | 3, ⟨g, h1, h2⟩, hs => exact ⟨g, hs.trans h1, (hE.below.block _ (lt_of_block h2)).trans h2⟩
                | 4, h, hs => exact hs.trans h
                | 5, h, hs => exact hs.trans h
                | 6, h, hs => exact hs.trans h
                | 7, h, hs => exact hs.trans h
                | 8, h, hs => exact hs.trans h
                | 9, h, hs => exact hs.trans h
                | 10, h, hs => exact hs.trans h
                | 11, h, hs => exact hs.trans h
                | 12, h, hs => exact hs.trans h
                | 13, h, hs => exact hs.trans h
                | 14, h, hs => exact hs.trans h
                | i + 15, h, hs => exact trivial)
              (by kernel_rfl) (by kernel_rfl) (by kernel_rfl) 139 rfl (by kernel_rfl) (by kernel_rfl) ?_ ?_
            · intro i op ho a' W hA
              have hk0 := (hA.rel.below.block _ (lt_of_block HAa.out)).trans HAa.out
              rw [hm] at hk0
              have x0 : W.cell? ⟨na, 0, none⟩ = some (sV p.os[k].name) := cell_of hk0 rfl
              have x1 : W.cell? ⟨na, 1, none⟩ = some (.int .i64 (m : Int)) := cell_of hk0 rfl
              have x2 : W.cell? ⟨na, 2, none⟩ = some (.int .i64 p.os[k].size) := cell_of hk0 rfl
              have x3 : W.cell? ⟨na, 3, none⟩ = some (.int .i64 p.os[k].oth) := cell_of hk0 rfl
              match i, ho with
              | 0, ho =>
                obtain rfl := Option.some.inj ho
                refine GoesG.call 48 #[] rfl ?_ ((kinds_any W).mono ?_)
                · simp [execOp, resolve, invoke, Deferred.ofValue]
                  rfl
                · rintro x W1 ⟨g, rfl, h1, hE1⟩
                  exact ⟨_, rfl, hE1, fun s h3 h2 => ⟨g, h3 rfl, h1⟩⟩
              | 1, ho =>
                obtain rfl := Option.some.inj ho
                have e1 : a'.eval (.tmp 9) = .pointer (some ⟨na, 0, none⟩) := hA.keep 9 (by kernel_rfl)
                refine GoesG.value (.pointer (some ⟨na, 1, none⟩)) rfl ?_ (Below.refl _ _) (fun s h1 h2 => h1 rfl)
                simp only [execOp, e1]
                simp [go_sem, x0, x1, x2, x3]
              | 2, ho =>
                obtain rfl := Option.some.inj ho
                have e1 : a'.eval (.tmp 52) = .pointer (some ⟨na, 1, none⟩) := (sv_dst (l := _) rfl).symm.trans (hA.new 1 (by decide) (by kernel_rfl))
                refine GoesG.value (.int .i64 (m : Int)) rfl ?_ (Below.refl _ _) (fun s h1 h2 => h1 rfl)
                simp only [execOp, e1]
                simp [go_sem, x0, x1, x2, x3]
              | 3, ho =>
                obtain rfl := Option.some.inj ho
                obtain ⟨g, e0, hg⟩ := hA.new 0 (by decide) (by kernel_rfl)
                have e1 : a'.eval (.tmp 51) = .slice (some ⟨g, 0, none⟩) 10 10 := (sv_dst (l := _) rfl).symm.trans e0
                have e2 : a'.eval (.tmp 53) = .int .i64 (m : Int) := (sv_dst (l := _) rfl).symm.trans (hA.new 2 (by decide) (by kernel_rfl))
                refine GoesG.value (.pointer (some ⟨g, m, none⟩)) rfl ?_ (Below.refl _ _) (fun s h1 h2 => ⟨g, h1 rfl, hg⟩)
                have hm8 : ¬ (10 : Int) ≤ (m : Int) := by omega
                simp only [execOp, e1, e2]
                simp [go_sem, hm9, hm8]
              | 4, ho =>
                obtain rfl := Option.some.inj ho
                obtain ⟨g, e0, hg⟩ := hA.new 3 (by decide) (by kernel_rfl)
                have e1 : a'.eval (.tmp 54) = .pointer (some ⟨g, m, none⟩) := (sv_dst (l := _) rfl).symm.trans e0
                have c9 : W.cell? ⟨g, m, none⟩ = some (sV (kindNm (m : Int))) := cell_of hg (kindC_get m hm9)
                refine GoesG.value (sV (kindNm (m : Int))) rfl ?_ (Below.refl _ _) (fun s h1 h2 => h1 rfl)
                simp only [execOp, e1]
                simp [go_sem, c9]
              | 5, ho =>
                obtain rfl := Option.some.inj ho
                have e1 : a'.eval (.tmp 55) = sV (kindNm (m : Int)) := (sv_dst (l := _) rfl).symm.trans (hA.new 4 (by decide) (by kernel_rfl))
                refine GoesG.value (.iface 9 (sV (kindNm (m : Int)))) rfl ?_ (Below.refl _ _) (fun s h1 h2 => h1 rfl)
                simp only [execOp, e1]
                simp [go_sem, x0, x1, x2, x3]
              | 6, ho =>
                obtain rfl := Option.some.inj ho
                have e1 : a'.eval (.tmp 9) = .pointer (some ⟨na, 0, none⟩) := hA.keep 9 (by kernel_rfl)
                refine GoesG.value (.pointer (some ⟨na, 0, none⟩)) rfl ?_ (Below.refl _ _) (fun s h1 h2 => h1 rfl)
                simp only [execOp, e1]
                simp [go_sem, x0, x1, x2, x3]
              | 7, ho =>
                obtain rfl := Option.some.inj ho
                have e1 : a'.eval (.tmp 57) = .pointer (some ⟨na, 0, none⟩) := (sv_dst (l := _) rfl).symm.trans (hA.new 6 (by decide) (by kernel_rfl))
                refine GoesG.value (sV p.os[k].name) rfl ?_ (Below.refl _ _) (fun s h1 h2 => h1 rfl)
                simp only [execOp, e1]
                simp [go_sem, x0, x1, x2, x3]
              | 8, ho =>
                obtain rfl := Option.some.inj ho
                have e1 : a'.eval (.tmp 58) = sV p.os[k].name := (sv_dst (l := _) rfl).symm.trans (hA.new 7 (by decide) (by kernel_rfl))
                refine GoesG.value (.iface 9 (sV p.os[k].name)) rfl ?_ (Below.refl _ _) (fun s h1 h2 => h1 rfl)
                simp only [execOp, e1]
                simp [go_sem, x0, x1, x2, x3]
              | 9, ho =>
                obtain rfl := Option.some.inj ho
                have e1 : a'.eval (.tmp 9) = .pointer (some ⟨na, 0, none⟩) := hA.keep 9 (by kernel_rfl)
                refine GoesG.value (.pointer (some ⟨na, 2, none⟩)) rfl ?_ (Below.refl _ _) (fun s h1 h2 => h1 rfl)
                simp only [execOp, e1]
                simp [go_sem, x0, x1, x2, x3]
              | 10, ho =>
                obtain rfl := Option.some.inj ho
                have e1 : a'.eval (.tmp 60) = .pointer (some ⟨na, 2, none⟩) := (sv_dst (l := _) rfl).symm.trans (hA.new 9 (by decide) (by kernel_rfl))
                refine GoesG.value (.int .i64 p.os[k].size) rfl ?_ (Below.refl _ _) (fun s h1 h2 => h1 rfl)
                simp only [execOp, e1]
                simp [go_sem, x0, x1, x2, x3]
              | 11, ho =>
                obtain rfl := Option.some.inj ho
                have e1 : a'.eval (.tmp 61) = .int .i64 p.os[k].size := (sv_dst (l := _) rfl).symm.trans (hA.new 10 (by decide) (by kernel_rfl))
                refine GoesG.value (.iface 3 (.int .i64 p.os[k].size)) rfl ?_ (Below.refl _ _) (fun s h1 h2 => h1 rfl)
                simp only [execOp, e1]
                simp [go_sem, x0, x1, x2, x3]
              | 12, ho =>
                obtain rfl := Option.some.inj ho
                have e1 : a'.eval (.tmp 9) = .pointer (some ⟨na, 0, none⟩) := hA.keep 9 (by kernel_rfl)
                refine GoesG.value (.pointer (some ⟨na, 3, none⟩)) rfl ?_ (Below.refl _ _) (fun s h1 h2 => h1 rfl)
                simp only [execOp, e1]
                simp [go_sem, x0, x1, x2, x3]
              | 13, ho =>
                obtain rfl := Option.some.inj ho
                have e1 : a'.eval (.tmp 63) = .pointer (some ⟨na, 3, none⟩) := (sv_dst (l := _) rfl).symm.trans (hA.new 12 (by decide) (by kernel_rfl))
                refine GoesG.value (.int .i64 p.os[k].oth) rfl ?_ (Below.refl _ _) (fun s h1 h2 => h1 rfl)
                simp only [execOp, e1]
                simp [go_sem, x0, x1, x2, x3]
              | 14, ho =>
                obtain rfl := Option.some.inj ho
                have e1 : a'.eval (.tmp 64) = .int .i64 p.os[k].oth := (sv_dst (l := _) rfl).symm.trans (hA.new 13 (by decide) (by kernel_rfl))
                refine GoesG.value (.iface 3 (.int .i64 p.os[k].oth)) rfl ?_ (Below.refl _ _) (fun s h1 h2 => h1 rfl)
                simp only [execOp, e1]
                simp [go_sem, x0, x1, x2, x3]
              | i + 15, ho => cases ho
            · intro vs w4 hvs hG hΦ
              obtain ⟨y0, y1, y2, y3, y4, y5, y6, y7, y8, y9, y10, y11, y12, y13, y14, rfl⟩ : ∃ y0 y1 y2 y3 y4 y5 y6 y7 y8 y9 y10 y11 y12 y13 y14, vs = y0 :: y1 :: y2 :: y3 :: y4 :: y5 :: y6 :: y7 :: y8 :: y9 :: y10 :: y11 :: y12 :: y13 :: y14 :: [] := by
                match vs, hvs with
                | y0 :: y1 :: y2 :: y3 :: y4 :: y5 :: y6 :: y7 :: y8 :: y9 :: y10 :: y11 :: y12 :: y13 :: y14 :: [], _ => exact ⟨y0, y1, y2, y3, y4, y5, y6, y7, y8, y9, y10, y11, y12, y13, y14, rfl⟩
              have p0 : ∃ g, y0 = .slice (some ⟨g, 0, none⟩) 10 10 ∧ w4.heap[g]? = some (.cells kindC 9 (0, 0)) := hΦ 0 (by decide)
              have e1 : y1 = .pointer (some ⟨na, 1, none⟩) := hΦ 1 (by decide)
              subst e1
              have e2 : y2 = .int .i64 (m : Int) := hΦ 2 (by decide)
              subst e2
              have p3 : ∃ g, y3 = .pointer (some ⟨g, m, none⟩) ∧ w4.heap[g]? = some (.cells kindC 9 (0, 0)) := hΦ 3 (by decide)
              have e4 : y4 = sV (kindNm (m : Int)) := hΦ 4 (by decide)
              subst e4
              have e5 : y5 = .iface 9 (sV (kindNm (m : Int))) := hΦ 5 (by decide)
              subst e5
              have e6 : y6 = .pointer (some ⟨na, 0, none⟩) := hΦ 6 (by decide)
              subst e6
              have e7 : y7 = sV p.os[k].name := hΦ 7 (by decide)
              subst e7
              have e8 : y8 = .iface 9 (sV p.os[k].name) := hΦ 8 (by decide)
              subst e8
              have e9 : y9 = .pointer (some ⟨na, 2, none⟩) := hΦ 9 (by decide)
              subst e9
              have e10 : y10 = .int .i64 p.os[k].size := hΦ 10 (by decide)
              subst e10
              have e11 : y11 = .iface 3 (.int .i64 p.os[k].size) := hΦ 11 (by decide)
              subst e11
              have e12 : y12 = .pointer (some ⟨na, 3, none⟩) := hΦ 12 (by decide)
              subst e12
              have e13 : y13 = .int .i64 p.os[k].oth := hΦ 13 (by decide)
              subst e13
              have e14 : y14 = .iface 3 (.int .i64 p.os[k].oth) := hΦ 14 (by decide)
              subst e14
              clear hΦ hvs
              simp only [putAll, Act.put, List.setIfInBounds_toArray, List.set_cons_succ, List.set_cons_zero]
              have HE4 := Lib.hid (show Ext wa w4 from hG)
              clear hG
              have HL4 := Lib.hid (Lst.ext (HL.out.ext HEa.out) HE4.out)
              have HK4 := Lib.hid (WK.trans (HK.out.trans (WK.of_ext (b := B) HEa.out (Nat.le_trans HS2.out HK.out.1.size))) (WK.of_ext (b := B) HE4.out (Nat.le_trans HS2.out (Nat.le_trans ((HK.out.trans (WK.of_ext (b := B) HEa.out (Nat.le_trans HS2.out HK.out.1.size)))).1.size (Nat.le_refl _)))))
              have HF := Lib.hid (HV1.out)
              go_wp2_with fail
              refine Calls.mono (line_any B B _ 0 _ _ (obWd p.os[k]) _ itoa_says (fun W hW => HTK.out W ((HK4.out.1.trans ((ext_alloc (Below.refl _ _) _ : Ext w4 _).below.mono (Nat.le_trans HS2.out HK4.out.1.size))).trans hW)) (Lst.ext HL4.out (ext_alloc (Below.refl _ _) _)) (wdAt_lit _ _ _ ?_) (fun x hx => (HF.out x hx).1) HLN.out (by have h3 : (obWd p.os[k]).length = 4 := rfl; omega) (Nat.le_trans HS2.out (Nat.le_trans HK4.out.1.size (by simp)))) ?_
              · intro i hi
                match i, hi with
                | 0, _ => unfold obWd; rw [hm]; rfl
                | 1, _ => rfl
                | 2, _ => rfl
                | 3, _ => rfl
              rintro _ w5 ⟨rfl, h1, h2⟩
              have HL5 := Lib.hid h1
              have HKL := Lib.hid ((WK.of_ext (b := B) (show Ext w4 _ from ext_alloc (Below.refl _ _) _) (Nat.le_trans HS2.out HK4.out.1.size)).trans h2)
              have HK5 := Lib.hid (HK4.out.trans HKL.out)
              clear h1 h2
              go_wp2
              go_roundw
              case rel => exact ⟨k + 1, by omega, by go_num, by rw [HT1.out]; exact HL5.out, HK5.out⟩
              case measure => simp [intOf]; omega
          · have HL0 := Lib.hid (show Lst B B (catN (vaTxt p) p.vs.length ++ catN (obTxt p) p.os.length) wr from (show k = p.os.length by omega) ▸ HL.out)
            have HK0 := Lib.hid HK.out
            clear HL HK
            go_wp2_with fail
            clear d0_0 d0_1 d0_2 hlt hk
            have hBw := HL0.out.lt
            refine Calls.mono (names_any _) ?_
            rintro _ w3 ⟨nb, rfl, hM, hnb, hE3⟩
            have HNB := Lib.hid (show nb ≠ B from by omega)
            have HL3 := Lib.hid (HL0.out.ext hE3)
            have HK3 := Lib.hid (HK0.out.trans (WK.of_ext (b := B) hE3 (Nat.le_trans HS2.out HK0.out.1.size)))
            have HM := Lib.hid (fun W (hW : WK B B w3 W) => hM.wk hW HNB.out)
            clear HL0 HK0 hM hnb hE3 hBw
            generalize wr = wv2 at *
            generalize k = kv2 at *
            obtain ⟨d0_0, d0_1, d0_2⟩ := BX.out w3 (HXK.out w3 HK3.out)
            go_wp2_with fail
            clear d0_0 d0_1 d0_2
            obtain ⟨T2, hT2⟩ : ∃ t, t = catN (vaTxt p) p.vs.length ++ catN (obTxt p) p.os.length := ⟨_, rfl⟩
            rw [← hT2] at HL3
            have HT2L := Lib.hid (show T2.length ≤ 4000 from by have h1 := vaCat_le HWF.out HV.out _ (Nat.le_refl _); have h4 := obCat_le HWF.out HV.out _ (Nat.le_refl _); rw [hT2, List.length_append]; omega)
            have HTP := Lib.hid (show textP p = T2 ++ catN (fnTxt p) p.fs.length from by rw [hT2]; rfl)
            clear hT2
            go_loopw [73] (fun i wr => ∃ k : Nat, k ≤ p.fs.length ∧ i = .int .i64 (k : Int) ∧ Lst B B (T2 ++ catN (fnTxt p) k) wr ∧ WK B B w3 wr) (fun i _ => p.fs.length - (intOf i).toNat)
            case atStart => exact ⟨0, Nat.zero_le _, rfl, by simpa [catN] using HL3.out, WK.refl _ _ _⟩
            case round =>
              obtain ⟨k, hk, rfl, hL, hK⟩ := hrel
              have HL := Lib.hid hL
              have HKN := Lib.hid hK
              have HK := Lib.hid (HK3.out.trans hK)
              clear hL hK
              obtain ⟨d0_0, d0_1, d0_2⟩ := BX.out wr (HXK.out wr HK.out)
              by_cases hlt : k < p.fs.length
              · obtain ⟨b0, off, ca, cc, hfa, hcs, hir⟩ := HP.out.fs k hlt
                dsimp only at hfa
                subst hfa
                have HEX := Lib.hid (Ext.trans HW.out (HXK.out wr HK.out))
                obtain ⟨c0, c1, c2, c3, c4, c5⟩ := hcs.ext HEX.out
                have HIR := Lib.hid hir
                have hb0 := cell_lt2 c0
                dsimp only at hb0
                clear hcs hir
                go_wp2_with fail
                clear c0 c1 c2 c3 c4 c5 d0_0 d0_1 d0_2 hb0
                have HV1 := Lib.hid (fnWd_fit (HWF.out) HV.out hlt)
                have HFT := Lib.hid (show T2 ++ catN (fnTxt p) (k + 1) = T2 ++ catN (fnTxt p) k ++ lineB (fnWd p.fs[k]) ++ catN (insTxt p.fs[k]) (p.fs[k]).code.length from by
                  rw [show catN (fnTxt p) (k + 1) = catN (fnTxt p) k ++ fnTxt p k from rfl]
                  unfold fnTxt
                  rw [fnAt_eq hlt]
                  simp only [List.append_assoc])
                have HLK := Lib.hid (show (T2 ++ catN (fnTxt p) k).length ≤ 5000000 from by have h1 := HT2L.out; have h4 := fnCat_le HWF.out HV.out k hk; rw [List.length_append]; omega)
                have HLN := Lib.hid (show (T2 ++ catN (fnTxt p) k).length + (wdsB (fnWd p.fs[k])).length ≤ 100000000000 from by have h1 := HLK.out; have h2 := wdsB_le _ HV1.out; have h3 : (fnWd p.fs[k]).length = 5 := rfl; omega)
                have HLK2 := Lib.hid (show (T2 ++ catN (fnTxt p) k ++ lineB (fnWd p.fs[k])).length ≤ 5001000 from by have h1 := HLK.out; have h2 := lineB_le HV1.out; have h3 : (fnWd p.fs[k]).length = 5 := rfl; rw [List.length_append]; omega)
                have HINS := Lib.hid (fun j (hj : j < (p.fs[k]).code.length) => insArgs HV.out hlt hj)
                have HCL := Lib.hid (HV.out.fn hlt).len
                have HCAT := Lib.hid (fun n hn => insCat_le HWF.out HV.out hlt n hn)
                have HWI := Lib.hid (fun j (hj : j < (p.fs[k]).code.length) => (HWF.out.fs _ (List.getElem_mem hlt)).code _ (List.getElem_mem hj))
                obtain ⟨wa, hwa⟩ : ∃ W, W = wr.alloc (.cells #[sV p.fs[k].name, .int .i64 p.fs[k].params, .int .i64 p.fs[k].regs, .int .i64 p.fs[k].prio, .bool p.fs[k].cl, .slice ca p.fs[k].code.length cc] 47) := ⟨_, rfl⟩
                have HAa := Lib.hid (show wa.heap[wr.heap.size]? = some (.cells #[sV p.fs[k].name, .int .i64 p.fs[k].params, .int .i64 p.fs[k].regs, .int .i64 p.fs[k].prio, .bool p.fs[k].cl, .slice ca p.fs[k].code.length cc] 47) from by rw [hwa]; exact alloc_here _ _)
                have HEa := Lib.hid (show Ext wr wa from by rw [hwa]; exact (Below.refl _ _).alloc (Nat.le_refl _) _)
                rw [← hwa]
                clear hwa
                obtain ⟨na, hnb⟩ : ∃ n, n = wr.heap.size := ⟨_, rfl⟩
                have HNa := Lib.hid hnb
                rw [← hnb] at HAa
                rw [← hnb]
                clear hnb
                have a0 : wa.cell? ⟨na, 0, none⟩ = some (sV p.fs[k].name) := cell_of HAa.out rfl
                have a1 : wa.cell? ⟨na, 1, none⟩ = some (.int .i64 p.fs[k].params) := cell_of HAa.out rfl
                have a2 : wa.cell? ⟨na, 2, none⟩ = some (.int .i64 p.fs[k].regs) := cell_of HAa.out rfl
                have a3 : wa.cell? ⟨na, 3, none⟩ = some (.int .i64 p.fs[k].prio) := cell_of HAa.out rfl
                have a4 : wa.cell? ⟨na, 4, none⟩ = some (.bool p.fs[k].cl) := cell_of HAa.out rfl
                have a5 : wa.cell? ⟨na, 5, none⟩ = some (.slice ca p.fs[k].code.length cc) := cell_of HAa.out rfl
                have ua0 := fun U : Up wa => Up.cell a0 U
                have ua1 := fun U : Up wa => Up.cell a1 U
                have ua2 := fun U : Up wa => Up.cell a2 U
                have ua3 := fun U : Up wa => Up.cell a3 U
                have ua4 := fun U : Up wa => Up.cell a4 U
                have ua5 := fun U : Up wa => Up.cell a5 U
                refine wp_region_uptail (l1 := [_, _, _, _, _, _, _, _, _, _, _, _, _, _, _, _]) (l2 := [_, _]) (by kernel_rfl) (by kernel_rfl) (by kernel_rfl) (by kernel_rfl) (by kernel_rfl) ?_
                repeat (go_big_quiet_step (first | (go_at_call 47; refine Up.callE (fun W hW => word_any p.fs[k].cl [99, 108, 101, 97, 110, 117, 112] [102, 117, 110, 99] W) ?_; exact rfl)))
                refine wpQuiet_nil ?_
                rintro _ ⟨U, rfl⟩
                have HE4 := Lib.hid U.ext
                generalize U.W = w4 at *
                clear ua0 a0 ua1 a1 ua2 a2 ua3 a3 ua4 a4 ua5 a5
                have HL4 := Lib.hid (Lst.ext (HL.out.ext HEa.out) HE4.out)
                have HK4 := Lib.hid (WK.trans (HK.out.trans (WK.of_ext (b := B) HEa.out (Nat.le_trans HS2.out HK.out.1.size))) (WK.of_ext (b := B) HE4.out (Nat.le_trans HS2.out (Nat.le_trans ((HK.out.trans (WK.of_ext (b := B) HEa.out (Nat.le_trans HS2.out HK.out.1.size)))).1.size (Nat.le_refl _)))))
                have HF := Lib.hid (HV1.out)
                go_wp2_with fail
                refine Calls.mono (line_any B B _ 0 _ _ (fnWd p.fs[k]) _ itoa_says (fun W hW => HTK.out W ((HK4.out.1.trans ((ext_alloc (Below.refl _ _) _ : Ext w4 _).below.mono (Nat.le_trans HS2.out HK4.out.1.size))).trans hW)) (Lst.ext HL4.out (ext_alloc (Below.refl _ _) _)) (wdAt_lit _ _ _ ?_) (fun x hx => (HF.out x hx).1) HLN.out (by have h3 : (fnWd p.fs[k]).length = 5 := rfl; omega) (Nat.le_trans HS2.out (Nat.le_trans HK4.out.1.size (by simp)))) ?_
                · intro i hi
                  match i, hi with
                  | 0, _ => rfl
                  | 1, _ => rfl
                  | 2, _ => rfl
                  | 3, _ => rfl
                  | 4, _ => rfl
                rintro _ w5 ⟨rfl, h1, h2⟩
                have HL5 := Lib.hid h1
                have HKL := Lib.hid ((WK.of_ext (b := B) (show Ext w4 _ from ext_alloc (Below.refl _ _) _) (Nat.le_trans HS2.out HK4.out.1.size)).trans h2)
                have HK5 := Lib.hid (HK4.out.trans HKL.out)
                clear h1 h2
                have HFB := Lib.hid (fun W (hW : WK B B w5 W) => WK.old (HKL.out.trans hW) ((HE4.out.below.block _ (lt_of_block HAa.out)).trans HAa.out) (show na ≠ B from by have h1 := HL.out.lt; have h2 := HNa.out; omega) (by decide))
                have HM5 := Lib.hid (fun W (hW : WK B B w5 W) => HM.out W (((HKN.out.trans (WK.of_ext (b := B) HEa.out (Nat.le_trans HS2.out HK.out.1.size))).trans (WK.of_ext (b := B) HE4.out (Nat.le_trans HS2.out (Nat.le_trans HK.out.1.size HEa.out.size)))).trans (HKL.out.trans hW)))
                have HKN5 := Lib.hid ((HKN.out.trans (WK.of_ext (b := B) HEa.out (Nat.le_trans HS2.out HK.out.1.size))).trans ((WK.of_ext (b := B) HE4.out (Nat.le_trans HS2.out (Nat.le_trans HK.out.1.size HEa.out.size))).trans HKL.out))
                clear HL4 HK4 HF HE4 HEa HAa HKL
                have y5 : w5.cell? ⟨na, 5, none⟩ = some (.slice ca (p.fs[k]).code.length cc) := cell_of (HFB.out w5 (WK.refl _ _ _)) rfl
                go_wp2_with fail
                clear y5
                generalize T2 ++ catN (fnTxt p) k ++ lineB (fnWd p.fs[k]) = T3 at *
                have HL50 := Lib.hid HL5.out
                have HK50 := Lib.hid HK5.out
                clear HL5 HK5 HL HKN HK HEX
                generalize wr = wf at *
                obtain ⟨f, hf⟩ : ∃ f, p.fs[k] = f := ⟨_, rfl⟩
                rw [hf] at HV1 HINS HCL HCAT HWI HFB HFT HIR
                rw [hf]
                have hcl := HCL.out
                clear hf
                go_loopw [98] (fun i wr => ∃ j : Nat, j ≤ f.code.length ∧ i = .int .i64 (j : Int) ∧ Lst B B (T3 ++ catN (insTxt f) j) wr ∧ WK B B w5 wr) (fun i _ => f.code.length - (intOf i).toNat)
                case atStart => exact ⟨0, Nat.zero_le _, rfl, by simpa [catN] using HL50.out, WK.refl _ _ _⟩
                case round =>
                  obtain ⟨j, hj, rfl, hL, hK⟩ := hrel
                  have HL := Lib.hid hL
                  have HKM := Lib.hid hK
                  have HK := Lib.hid (HK50.out.trans hK)
                  clear hL hK
                  by_cases hlj : j < f.code.length
                  · obtain ⟨b1, o1, xa, xc, hca, hic, hia, hxc⟩ := HIR.out j hlj
                    subst hca
                    have HEX := Lib.hid (Ext.trans HW.out (HXK.out wr HK.out))
                    obtain ⟨c0, c1, c2, c3, c4⟩ := hic.ext HEX.out
                    have hb0 := cell_lt2 c0
                    dsimp only at hb0
                    have HIA := Lib.hid hia
                    clear hic hia hxc
                    have HWJ := Lib.hid (HWI.out j hlj)
                    have HLJ := Lib.hid (HINS.out j hlj)
                    have HXT := Lib.hid (show catN (insTxt f) (j + 1) = catN (insTxt f) j ++ lineB (insWd j f.code[j]) from by rw [show catN (insTxt f) (j + 1) = catN (insTxt f) j ++ insTxt f j from rfl]; unfold insTxt; rw [insAt_eq hlj])
                    have HCJ := Lib.hid (HCAT.out j hj)
                    obtain ⟨y, hy⟩ : ∃ y, f.code[j] = y := ⟨_, rfl⟩
                    rw [hy] at c0 c1 c2 c3 c4 HIA HWJ HLJ HXT
                    clear hy
                    have hya := HLJ.out
                    have hlk := fun C : Array Value => run_name (MapAt.ext (HM5.out wr HKM.out) (show Ext wr _ from ext_alloc (Below.refl _ _) (.cells C 50))) y.op
                    go_wp2_with fail
                    clear c0 c1 c2 c3 c4 hlk hb0
                    obtain ⟨wc, hwc⟩ : ∃ W, W = wr.alloc (.cells #[.int .i64 y.op, .int .i64 y.a, .int .i64 y.b, .int .i64 y.c, .slice xa y.args.length xc] 50) := ⟨_, rfl⟩
                    have HEC := Lib.hid (show Ext wr wc from by rw [hwc]; exact ext_alloc (Below.refl _ _) _)
                    rw [← hwc]
                    have hwcs : wc.heap.size = wr.heap.size + 1 := by rw [hwc]; simp
                    rw [← hwcs]
                    clear hwc hwcs
                    obtain ⟨wd, hwd⟩ : ∃ W, W = wc.alloc (.cells #[.iface 3 (.int .i64 (j : Int)), .iface 9 (sV (opName y.op)), .iface 3 (.int .i64 y.a), .iface 3 (.int .i64 y.b), .iface 3 (.int .i64 y.c)] 20) := ⟨_, rfl⟩
                    have HRO := Lib.hid (show RowW wc.heap.size (.slice (some ⟨wc.heap.size, 0, none⟩) 5 5) [.n j, .s (opName y.op), .n y.a, .n y.b, .n y.c] wd from by rw [hwd]; exact World.ownsRow_lit wc _ 5 (Nat.le_refl _) (by unfold maxLen; omega) rfl)
                    have HED := Lib.hid (show Ext wc wd from by rw [hwd]; exact ext_alloc (Below.refl _ _) _)
                    rw [← hwd]
                    obtain ⟨bs, hbs⟩ : ∃ n, n = wc.heap.size := ⟨_, rfl⟩
                    have HBS := Lib.hid hbs
                    rw [← hbs] at HRO
                    rw [← hbs]
                    clear hwd hbs
                    have HEW := Lib.hid (Ext.trans HEX.out HEC.out)
                    have HLC := Lib.hid (HL.out.ext HEC.out)
                    have HKC := Lib.hid (HK.out.trans (WK.of_ext (b := B) HEC.out (Nat.le_trans HS2.out HK.out.1.size)))
                    have HKMC := Lib.hid (HKM.out.trans (WK.of_ext (b := B) HEC.out (Nat.le_trans HS2.out HK.out.1.size)))
                    have HNR := Lib.hid (show wr.heap.size = wr.heap.size from rfl)
                    clear HEX HEC HL HK HKM HNR HIR
                    generalize wr = wo at *
                    go_loopw [15, 123] (fun v i wr => ∃ q : Nat, q ≤ y.args.length ∧ i = .int .i64 (q : Int) ∧ RowW bs v ([.n j, .s (opName y.op), .n y.a, .n y.b, .n y.c] ++ (y.args.take q).map Wd.n) wr ∧ Ext wc wr) (fun _ i _ => y.args.length - (intOf i).toNat)
                    case atStart => exact ⟨0, Nat.zero_le _, rfl, by simpa using HRO.out, HED.out⟩
                    case round =>
                      obtain ⟨q, hq, rfl, hro, hE⟩ := hrel
                      have HRQ := Lib.hid hro
                      have HE := Lib.hid hE
                      clear hro hE
                      by_cases hlq : q < y.args.length
                      · obtain ⟨b2, o2, hxa, c0⟩ := HIA.out.below (Ext.trans HEW.out HE.out) q hlq
                        subst hxa
                        have hbs : bs ≤ wr.heap.size := by rw [HBS.out]; exact HE.out.size
                        have HTK := Lib.hid (show [Wd.n j, .s (opName y.op), .n y.a, .n y.b, .n y.c] ++ (y.args.take (q + 1)).map Wd.n = [Wd.n j, .s (opName y.op), .n y.a, .n y.b, .n y.c] ++ (y.args.take q).map Wd.n ++ [.n y.args[q]] from by rw [List.take_succ_eq_append_getElem hlq, List.map_append, List.append_assoc]; rfl)
                        have hol : ([Wd.n j, .s (opName y.op), .n y.a, .n y.b, .n y.c] ++ (y.args.take q).map Wd.n).length ≤ 10000000000 := by simp only [List.length_append, List.length_cons, List.length_nil, List.length_map, List.length_take]; omega
                        have HOL := Lib.hid hol
                        clear hol
                        go_wp2_with (at_builtin; refine wp_appW rfl _ _ (by rfl) bs _ _ (by rfl) wr HRQ.out (.n y.args[q]) _ rfl (by rfl) HOL.out hbs ?_; intro v' w6 hr6 hB6; have HB6 := Lib.hid hB6; have HR6 := Lib.hid hr6; clear hr6 hB6)
                        go_roundw
                        case rel => exact ⟨q + 1, by omega, by go_num, by rw [HTK.out]; exact HR6.out, Below.trans HE.out (HBS.out ▸ HB6.out)⟩
                        case measure => simp [intOf]; omega
                      · have e : q = y.args.length := by omega
                        have HRZ := Lib.hid (show RowW bs _ (insWd j y) wr from by have h := HRQ.out; rw [e, List.take_length] at h; exact h)
                        clear e HRQ
                        obtain ⟨g, cap, hv, hwd⟩ := HRZ.out.at (by simp [insWd])
                        subst hv
                        have HWD := Lib.hid hwd
                        have HL6 := Lib.hid (HLC.out.ext HE.out)
                        have HK6 := Lib.hid (HKC.out.trans (WK.of_ext (b := B) HE.out (Nat.le_trans HS2.out HKC.out.1.size)))
                        have HKM6 := Lib.hid (HKMC.out.trans (WK.of_ext (b := B) HE.out (Nat.le_trans HS2.out HKC.out.1.size)))
                        have HF6 := Lib.hid (insWd_fit (k := j) (by omega) HWJ.out)
                        clear hwd
                        go_wp2_with fail
                        refine Calls.mono (line_any B B g 0 cap _ (insWd j y) _ itoa_says (fun W hW => HTK.out W (HK6.out.1.trans hW)) HL6.out HWD.out (fun x hx => (HF6.out x hx).1) (by
                          have h1 := HLK2.out; have h2 := HCJ.out; have h3 := wdsB_le _ HF6.out
                          simp only [insWd, List.length_append, List.length_cons, List.length_nil, List.length_map] at h1 h2 h3 ⊢
                          omega) (by simp only [insWd, List.length_append, List.length_cons, List.length_nil, List.length_map]; omega) (Nat.le_trans HS2.out HK6.out.1.size)) ?_
                        rintro _ w7 ⟨rfl, h1, h2⟩
                        have HL7 := Lib.hid h1
                        have HK7 := Lib.hid (HKM6.out.trans h2)
                        clear h1 h2
                        go_wp2
                        go_roundw
                        case rel => exact ⟨j + 1, by omega, by go_num, by rw [HXT.out, ← List.append_assoc]; exact HL7.out, HK7.out⟩
                        case measure => simp [intOf]; omega
                  · have HLE := Lib.hid (show Lst B B (T2 ++ catN (fnTxt p) (k + 1)) wr from by rw [HFT.out]; exact (show j = f.code.length by omega) ▸ HL.out)
                    have HKE := Lib.hid (HKN5.out.trans HKM.out)
                    clear HL HKM HK
                    go_wp2
                    go_roundw
                    case rel => exact ⟨k + 1, by omega, by go_num, HLE.out, HKE.out⟩
                    case measure => simp [intOf]; omega
              · have HLE := Lib.hid (show Lst B B (textP p) wr from by rw [HTP.out]; exact (show k = p.fs.length by omega) ▸ HL.out)
                have HKE := Lib.hid HK.out
                clear HL HK
                go_wp2_with fail
                refine Calls.mono (lstr_any B B _ wr HLE.out (textP_ne HV.out)) ?_
                rintro _ w8 ⟨rfl, h1⟩
                have HE8 := Lib.hid (show Ext w w8 from Below.trans (Ext.trans HW.out (HXK.out wr HKE.out)) (h1.mono (by have h2 := HB.out; have h3 := HWZ.out; omega)))
                clear h1
                go_wp2
                go_ret2
                exact ⟨by rw [HR0.out]; rfl, HE8.out⟩
  · have HR0 := Lib.hid (show textR p = ([], ck) from by rw [HR.out, if_neg hc0])
    have g0 : (ck != 0) = true := by rw [bne_iff_ne]; exact hc0
    clear hc0
    go_enter Tryz.func25, Tryz.ntmps25
    go_wp2_with fail
    rw [← hwk]
    clear hwk
    refine (KC.out _ (Ext.trans HW.out HE0.out)).mono ?_
    intro w1 hB
    have HE1 := Lib.hid (Ext.trans HE0.out hB)
    clear hB
    obtain ⟨d0_0, d0_1, d0_2⟩ := BX.out _ HE1.out
    go_wp2
    go_ret2
    exact ⟨by rw [HR0.out]; rfl, Ext.trans HW.out HE1.out⟩

end Go.Proofs.YtfkjokbhnblndaaGreatDoor

namespace Go.Proofs.YtfkjokbhnblndaaGreatDoor
open Go.RowKit Go.Shelf
set_option linter.unusedVariables false
set_option linter.unusedSimpArgs false

def pgA : Pg := ⟨[⟨[109, 97, 105, 110], 0, 1, 0, false, [⟨1, 0, 5, 0, []⟩, ⟨41, 0, 0, 0, []⟩]⟩], [], []⟩
theorem ck_pgA : ckPg pgA = 0 := by decide
theorem dec1 (n : Int) (h0 : 0 ≤ n) (h : n < 10) : Lib.itoa n = [UInt8.ofNat (48 + n.toNat)] := by
  unfold Lib.itoa
  rw [if_neg (by omega)]
  unfold Lib.decDigits
  rw [dif_pos (by omega)]
theorem text_pgA : textR pgA = ([102, 117, 110, 99, 32, 109, 97, 105, 110, 32, 48, 32, 49, 32, 48, 10, 48, 32, 99, 111, 110, 115, 116, 32, 48, 32, 53, 32, 48, 10, 49, 32, 101, 109, 105, 116, 32, 48, 32, 48, 32, 48, 10], 0) := by
  unfold textR
  rw [if_pos ck_pgA]
  have h0 := dec1 0 (by omega) (by omega)
  have h1 := dec1 1 (by omega) (by omega)
  have h5 := dec1 5 (by omega) (by omega)
  simp [textP, pgA, catN, fnTxt, insTxt, fnAt, insAt, lineB, wdsB, fnWd, insWd, Wd.txt, pick2, h0, h1, h5, opName, nameL, vaTxt, obTxt]
theorem wf_pgA : pgA.wf := by
  refine ⟨by decide, by decide, by decide, ?_, ?_, ?_⟩
  · intro x hx
    obtain rfl := List.mem_singleton.1 hx
    refine ⟨by decide, ⟨by decide, by decide⟩, ⟨by decide, by decide⟩, ⟨by decide, by decide⟩, by decide, ?_⟩
    intro c hc
    simp only [List.mem_cons, List.not_mem_nil, or_false] at hc
    rcases hc with rfl | rfl <;> exact ⟨⟨by decide, by decide⟩, ⟨by decide, by decide⟩, ⟨by decide, by decide⟩, ⟨by decide, by decide⟩, by decide, fun n hn => by cases hn⟩
  · intro x hx; cases hx
  · intro x hx; cases hx
theorem at_pgA (w : World) : PgAt (((w.alloc (.cells #[.int .i64 1, .int .i64 0, .int .i64 5, .int .i64 0, .slice none 0 0, .int .i64 41, .int .i64 0, .int .i64 0, .int .i64 0, .slice none 0 0] 50)).alloc (.cells #[.string { data := #[109, 97, 105, 110] }, .int .i64 0, .int .i64 1, .int .i64 0, .bool false, .slice (some ⟨w.heap.size, 0, none⟩) 2 2] 47)).alloc (.cells #[.slice (some ⟨w.heap.size + 1, 0, none⟩) 1 1, .slice none 0 0, .slice none 0 0] 26)) pgA ⟨some ⟨w.heap.size + 1, 0, none⟩, 1, none, 0, none, 0⟩ := by
  have h1 := alloc_here w (.cells #[.int .i64 1, .int .i64 0, .int .i64 5, .int .i64 0, .slice none 0 0, .int .i64 41, .int .i64 0, .int .i64 0, .int .i64 0, .slice none 0 0] 50)
  have h2 := alloc_here (w.alloc (.cells #[.int .i64 1, .int .i64 0, .int .i64 5, .int .i64 0, .slice none 0 0, .int .i64 41, .int .i64 0, .int .i64 0, .int .i64 0, .slice none 0 0] 50)) (.cells #[.string { data := #[109, 97, 105, 110] }, .int .i64 0, .int .i64 1, .int .i64 0, .bool false, .slice (some ⟨w.heap.size, 0, none⟩) 2 2] 47)
  replace h1 := (Below.heap_alloc _ (.cells #[.string { data := #[109, 97, 105, 110] }, .int .i64 0, .int .i64 1, .int .i64 0, .bool false, .slice (some ⟨w.heap.size, 0, none⟩) 2 2] 47) _ (lt_of_block h1)).trans h1
  replace h1 := (Below.heap_alloc _ (.cells #[.slice (some ⟨w.heap.size + 1, 0, none⟩) 1 1, .slice none 0 0, .slice none 0 0] 26) _ (lt_of_block h1)).trans h1
  replace h2 := (Below.heap_alloc _ (.cells #[.slice (some ⟨w.heap.size + 1, 0, none⟩) 1 1, .slice none 0 0, .slice none 0 0] 26) _ (lt_of_block h2)).trans h2
  simp only [World.size_alloc] at h2
  refine ⟨?_, ?_, ?_, wf_pgA, Nat.le_refl _, Nat.le_refl _, Nat.le_refl _⟩
  · intro i hi
    obtain rfl : i = 0 := by simp [pgA] at hi; omega
    refine ⟨_, _, _, _, rfl, ⟨cell_of h2 rfl, cell_of h2 rfl, cell_of h2 rfl, cell_of h2 rfl, cell_of h2 rfl, cell_of h2 rfl⟩, ?_⟩
    intro k hk
    have hk2 : k = 0 ∨ k = 1 := by simp [pgA] at hk; omega
    rcases hk2 with rfl | rfl
    · exact ⟨_, _, _, _, rfl, ⟨cell_of h1 rfl, cell_of h1 rfl, cell_of h1 rfl, cell_of h1 rfl, cell_of h1 rfl⟩, fun i hi => absurd hi (Nat.not_lt_zero _), Nat.le_refl _⟩
    · exact ⟨_, _, _, _, rfl, ⟨cell_of h1 rfl, cell_of h1 rfl, cell_of h1 rfl, cell_of h1 rfl, cell_of h1 rfl⟩, fun i hi => absurd hi (Nat.not_lt_zero _), Nat.le_refl _⟩
  · intro i hi; exact absurd hi (Nat.not_lt_zero _)
  · intro i hi; exact absurd hi (Nat.not_lt_zero _)
set_option maxRecDepth 100000 in
set_option maxHeartbeats 2000000 in
theorem awake_any (w : World) (hT : TabW w) : Gives Tryz.prog 11 #[] w (.bool true) := by
  unfold Gives
  obtain ⟨wk, hwk⟩ : ∃ W, W = (((w.alloc (.cells #[.int .i64 1, .int .i64 0, .int .i64 5, .int .i64 0, .slice none 0 0, .int .i64 41, .int .i64 0, .int .i64 0, .int .i64 0, .slice none 0 0] 50)).alloc (.cells #[.string { data := #[109, 97, 105, 110] }, .int .i64 0, .int .i64 1, .int .i64 0, .bool false, .slice (some ⟨w.heap.size, 0, none⟩) 2 2] 47)).alloc (.cells #[.slice (some ⟨w.heap.size + 1, 0, none⟩) 1 1, .slice none 0 0, .slice none 0 0] 26)) := ⟨_, rfl⟩
  have HW := Lib.hid (show Ext w wk from by rw [hwk]; exact ext_alloc (ext_alloc (ext_alloc (Below.refl _ _) _) _) _)
  have HP := Lib.hid (show PgAt wk pgA ⟨some ⟨w.heap.size + 1, 0, none⟩, 1, none, 0, none, 0⟩ from by rw [hwk]; exact at_pgA w)
  have HB := Lib.hid (show wk.heap[w.heap.size + 2]? = some (.cells #[.slice (some ⟨w.heap.size + 1, 0, none⟩) 1 1, .slice none 0 0, .slice none 0 0] 26 (0, 0)) from by
    rw [hwk]
    have h := alloc_here ((w.alloc (.cells #[.int .i64 1, .int .i64 0, .int .i64 5, .int .i64 0, .slice none 0 0, .int .i64 41, .int .i64 0, .int .i64 0, .int .i64 0, .slice none 0 0] 50)).alloc (.cells #[.string { data := #[109, 97, 105, 110] }, .int .i64 0, .int .i64 1, .int .i64 0, .bool false, .slice (some ⟨w.heap.size, 0, none⟩) 2 2] 47)) (.cells #[.slice (some ⟨w.heap.size + 1, 0, none⟩) 1 1, .slice none 0 0, .slice none 0 0] 26)
    simpa using h)
  have HBW := Lib.hid (fun W (hW : Ext wk W) => (hW.below.block _ (lt_of_block HB.out)).trans HB.out)
  have KT := Lib.hid (fun W (hW : Ext wk W) => Text_any pgA _ W (HP.out.ext hW) (hT.below (Ext.trans HW.out hW)))
  rw [text_pgA] at KT
  have KC := Lib.hid (fun W (hW : Ext wk W) => Check_any pgA _ W (HP.out.ext hW))
  rw [ck_pgA] at KC
  dsimp only [PV, pgA, List.length_cons, List.length_nil] at KT KC
  clear hT
  go_enter Tryz.func11, Tryz.ntmps11
  go_wp2_with fail
  rw [← hwk]
  clear hwk
  refine (KT.out wk (Below.refl _ _)).mono ?_
  intro w1 hE1
  have HE1 := Lib.hid hE1
  clear hE1
  have k0 := HBW.out w1 HE1.out
  have c0 : w1.cell? ⟨w.heap.size + 2, 0, none⟩ = some (.slice (some ⟨w.heap.size + 1, 0, none⟩) 1 1) := cell_of k0 rfl
  have c1 : w1.cell? ⟨w.heap.size + 2, 1, none⟩ = some (.slice none 0 0) := cell_of k0 rfl
  have c2 : w1.cell? ⟨w.heap.size + 2, 2, none⟩ = some (.slice none 0 0) := cell_of k0 rfl
  clear k0
  go_wp2_with fail
  clear c0 c1 c2
  refine (KC.out w1 HE1.out).mono ?_
  intro w2 hE2
  have HE2 := Lib.hid (Ext.trans HE1.out hE2)
  clear hE2
  go_wp2
  go_ret
  exact ⟨by first | rfl | decide, Ext.trans HW.out HE2.out⟩
end Go.Proofs.YtfkjokbhnblndaaGreatDoor

