/- Lemmas and walks for the statements of this seat, part 7, merged from smaller texts: The reference's same and Equal for any two expressions; its Precedence and Decimal.; The reference's Decimal.; The reference's text and Print.; The reference's text and Print, for any expression; how long a text is.; The reference's Equal, for any two expressions.; Plain: the names of an expression, sorted without repetition, two ways.; Slices of strings of the call's own; the reference's insert.; The reference's names and Names. -/
import Derived.Lib.ItoaNum
import Derived.Lib.SlicesCompact
import Derived.WalkLawsBesides
import Derived.Lib.AppendStr
import Derived.Lib.OwnBridge
import Derived.Lib.RowBridge
import Derived.OwnWalk
import Derived.Test.YtgkalcboklhdgaaGreatDoorPart6
import Derived.Test.YtgkalcboklhdgaaGreatDoorPart6
import Derived.Test.YtgkalcboklhdgaaGreatDoorPart3
import Derived.Test.YtgkalcboklhdgaaGreatDoorPart4

namespace Go.Proofs.YtgkalcboklhdgaaGreatDoor
open Go.RowKit
set_option linter.unusedVariables false
set_option linter.unusedSimpArgs false
open Ex

theorem same_upG {w : World} {args : Array Value} {v : Value} {U : Up w} (C : ∀ W, Ext w W → Gives Tryz.prog 50 args W v) : Calls Tryz.prog 50 args U.W fun e w'' => e = .returned v ∧ ∃ U' : Up w, w'' = U'.W := Up.call (C _ U.ext)

set_option maxRecDepth 100000 in
set_option maxHeartbeats 4000000 in
theorem refSame_any : ∀ (n : Nat) (a : Ex), a.size ≤ n → ∀ (b : Ex) (p p' : Option Addr) (c c' : Nat) (w : World), Ex.At w p a → Ex.At w p' b →
    Gives Tryz.prog 50 #[a.val p c, b.val p' c'] w (.bool (eqE a b)) := by
  intro n
  induction n with
  | zero => intro e he; have := e.size_pos; omega
  | succ n ih =>
    intro a ha b p p' c c' w hA hA'
    have hl1 : a.args.length ≤ 2199023255488 := hA.fit.2.2.2.2
    have hl2 : b.args.length ≤ 2199023255488 := hA'.fit.2.2.2.2
    have hv : a.val p c = .agg #[.int .i64 a.kind, .int .i64 a.op, sV a.name, .int .i64 a.value, .slice p a.args.length c] := rfl
    have hv' : b.val p' c' = .agg #[.int .i64 b.kind, .int .i64 b.op, sV b.name, .int .i64 b.value, .slice p' b.args.length c'] := rfl
    rw [hv, hv']
    have IH := Lib.hid (fun t (ht : t ∈ a.args) => ih t (by obtain ⟨j, hj, rfl⟩ := List.getElem_of_mem ht; have h1 := size_get a.args j hj; have h2 := size_args a; omega))
    have HR := Lib.hid (show Ex.AtL w p 0 a.args from hA.row)
    have HR' := Lib.hid (show Ex.AtL w p' 0 b.args from hA'.row)
    have HD := Lib.hid (eqE_def a b)
    have HLN := Lib.hid (fun h => eqL_len a.args b.args h)
    have HRL := Lib.hid (show eqL a.args b.args = eqL a.args b.args from rfl)
    clear ih ha hv hv' hA hA'
    generalize eqE a b = r at *
    obtain ⟨rl, hrl⟩ : ∃ rl, rl = eqL a.args b.args := ⟨_, rfl⟩
    rw [← hrl] at HD
    replace HRL := Lib.hid hrl
    obtain ⟨l1, hl1'⟩ : ∃ l1, a.args.length = l1 := ⟨_, rfl⟩
    obtain ⟨l2, hl2'⟩ : ∃ l2, b.args.length = l2 := ⟨_, rfl⟩
    rw [hl1'] at hl1 ⊢
    rw [hl2'] at hl2 ⊢
    have HTS := Lib.hid (And.intro hl1' hl2')
    clear hrl hl1' hl2'
    generalize a.kind = k1 at *
    generalize a.op = o1 at *
    generalize a.name = n1 at *
    generalize a.value = v1 at *
    generalize b.kind = k2 at *
    generalize b.op = o2 at *
    generalize b.name = n2 at *
    generalize b.value = v2 at *
    obtain ⟨hb0, hb1, hE0⟩ := two_boxes w (.int .i64 k1) (.int .i64 o1) (sV n1) (.int .i64 v1) (.slice p l1 c) (.int .i64 k2) (.int .i64 o2) (sV n2) (.int .i64 v2) (.slice p' l2 c') tEx
    have HE0 := Lib.hid hE0
    have HB0 := Lib.hid hb0
    have HB1 := Lib.hid hb1
    clear hb0 hb1 hE0
    unfold Gives
    by_cases hk : k1 = k2
    · subst hk
      by_cases ho : o1 = o2
      · subst ho
        by_cases hn : n1 = n2
        · subst hn
          by_cases hx : v1 = v2
          · subst hx
            replace HD := Lib.hid (show r = rl by rw [HD.out]; simp)
            by_cases hll : l1 = l2
            · subst hll
              go_enter Tryz.func50, Tryz.ntmps50
              go_wp2
              go_loopw [5] (fun i wr => ∃ j : Nat, j ≤ l1 ∧ i = .int .i64 (j : Int) ∧ rl = eqL (a.args.drop j) (b.args.drop j) ∧ Ext ((w.alloc (.cells #[.int .i64 k1, .int .i64 o1, sV n1, .int .i64 v1, .slice p l1 c] tEx)).alloc (.cells #[.int .i64 k1, .int .i64 o1, sV n1, .int .i64 v1, .slice p' l1 c'] tEx)) wr) (fun i _ => l1 - (intOf i).toNat)
              case atStart => exact ⟨0, Nat.zero_le _, rfl, by rw [HRL.out]; simp, Below.refl _ _⟩
              case round =>
                obtain ⟨j, hj, rfl, hq, hE⟩ := hrel
                have HQ := Lib.hid hq
                clear hq
                have hbe := (hE.below.block _ (lt_of_block HB0.out)).trans HB0.out
                have hbr := (hE.below.block _ (lt_of_block HB1.out)).trans HB1.out
                obtain ⟨d0, d1, d2, d3, d4, f0⟩ := box5 hbe
                obtain ⟨y0, y1, y2, y3, y4, f1⟩ := box5 hbr
                have hEw : Ext w wr := Ext.trans HE0.out hE
                by_cases hlt : j < l1
                · have hjt : j < a.args.length := by rw [HTS.out.1]; exact hlt
                  have hjt' : j < b.args.length := by rw [HTS.out.2]; exact hlt
                  obtain ⟨b1, off, q2, dd2, rfl, hcs, hA1⟩ := HR.out.get j hjt
                  obtain ⟨b1', off', q3, dd3, rfl, hcs', hA1'⟩ := HR'.out.get j hjt'
                  rw [Nat.zero_add] at hcs hcs'
                  obtain ⟨c0, c1, c2, c3, c4⟩ := hcs.below hEw
                  obtain ⟨x0, x1, x2, x3, x4⟩ := hcs'.below hEw
                  have D := Lib.hid (fun W (h : Ext wr W) => show Gives _ _ #[.agg #[.int .i64 (a.args[j]).kind, .int .i64 (a.args[j]).op, sV (a.args[j]).name, .int .i64 (a.args[j]).value, .slice q2 (a.args[j]).args.length dd2], .agg #[.int .i64 (b.args[j]).kind, .int .i64 (b.args[j]).op, sV (b.args[j]).name, .int .i64 (b.args[j]).value, .slice q3 (b.args[j]).args.length dd3]] _ _ from IH.out a.args[j] (List.getElem_mem hjt) b.args[j] q2 q3 dd2 dd3 W (hA1.below (Ext.trans hEw h)) (hA1'.below (Ext.trans hEw h)))
                  have HS := Lib.hid (eqL_drop a.args b.args j hjt hjt')
                  have HE := Lib.hid hE
                  clear hcs hcs' hA1 hA1' hE hEw hbe hbr
                  generalize (a.args[j]).kind = k2 at *
                  generalize (a.args[j]).op = o2 at *
                  generalize (a.args[j]).name = n2 at *
                  generalize (a.args[j]).value = v2' at *
                  generalize (a.args[j]).args.length = l2 at *
                  generalize (b.args[j]).kind = k3 at *
                  generalize (b.args[j]).op = o3 at *
                  generalize (b.args[j]).name = n3 at *
                  generalize (b.args[j]).value = v3' at *
                  generalize (b.args[j]).args.length = l3 at *
                  generalize eqE a.args[j] b.args[j] = rr at *
                  have u0 := fun U : Up wr => Up.cell d4 U
                  have u1 := fun U : Up wr => Up.cell y4 U
                  have s0 := fun U : Up wr => Up.cell c0 U
                  have s1 := fun U : Up wr => Up.cell c1 U
                  have s2 := fun U : Up wr => Up.cell c2 U
                  have s3 := fun U : Up wr => Up.cell c3 U
                  have s4 := fun U : Up wr => Up.cell c4 U
                  have t0 := fun U : Up wr => Up.cell x0 U
                  have t1 := fun U : Up wr => Up.cell x1 U
                  have t2 := fun U : Up wr => Up.cell x2 U
                  have t3 := fun U : Up wr => Up.cell x3 U
                  have t4 := fun U : Up wr => Up.cell x4 U
                  cases rr with
                  | true =>
                    go_wp2
                    refine wp_region_up (by kernel_rfl) (by kernel_rfl) ?_
                    repeat (go_big_quiet_step ((go_at_call 50; exact same_upG D.out)))
                    refine wpQuiet_nil ?_
                    rintro w4 ⟨U, rfl⟩
                    have hE4 := Lib.hid (Ext.trans HE.out U.ext)
                    generalize U.W = w4 at *
                    clear u0 u1 s0 s1 s2 s3 s4 t0 t1 t2 t3 t4
                    have HN := Lib.hid (show rl = eqL (a.args.drop (j + 1)) (b.args.drop (j + 1)) by rw [HQ.out, HS.out]; simp)
                    go_wp2
                    go_roundw
                    case rel => exact ⟨j + 1, by omega, by go_num, HN.out, hE4.out⟩
                    case measure => simp [intOf]; omega
                  | false =>
                    go_wp2
                    refine wp_region_up (by kernel_rfl) (by kernel_rfl) ?_
                    repeat (go_big_quiet_step ((go_at_call 50; exact same_upG D.out)))
                    refine wpQuiet_nil ?_
                    rintro w4 ⟨U, rfl⟩
                    have hE4 := Lib.hid (Ext.trans HE.out U.ext)
                    generalize U.W = w4 at *
                    clear u0 u1 s0 s1 s2 s3 s4 t0 t1 t2 t3 t4
                    have HN := Lib.hid (show r = false by rw [HD.out, HQ.out, HS.out]; simp)
                    go_wp2
                    go_ret
                    exact ⟨by rw [HN.out]; rfl, Ext.trans HE0.out hE4.out⟩
                · have HE := Lib.hid hEw
                  have HN := Lib.hid (show r = true by rw [HD.out, HQ.out, eqL_end _ _ _ (by rw [HTS.out.1]; exact hlt) (by rw [HTS.out.1, HTS.out.2])])
                  clear hE hEw hbe hbr
                  go_wp2
                  go_ret
                  exact ⟨by rw [HN.out]; rfl, HE.out⟩
            · have g1 : ((l1 : Int) == (l2 : Int)) = false := by rw [beq_eq_false_iff_ne]; omega
              have g2 : ((l1 : Int) != (l2 : Int)) = true := by rw [bne_iff_ne]; omega
              replace HD := Lib.hid (show r = false by rw [HD.out, HRL.out]; exact HLN.out (by rw [HTS.out.1, HTS.out.2]; exact hll))
              clear hll
              have HN := Lib.hid (show r = false by rw [HD.out])
              clear IH HR HR'
              go_enter Tryz.func50, Tryz.ntmps50
              go_wp2
              go_ret
              exact ⟨by rw [HN.out]; rfl, HE0.out⟩
          · have g1 : (v1 == v2) = false := by simpa using hx
            have g2 : (v1 != v2) = true := by simpa using hx
            have HN := Lib.hid (show r = false by rw [HD.out]; simp [g1])
            clear IH HR HR'
            go_enter Tryz.func50, Tryz.ntmps50
            go_wp2
            go_ret
            exact ⟨by rw [HN.out]; rfl, HE0.out⟩
        · have g1 : (n1 == n2) = false := by simpa using hn
          have g2 : (n1 != n2) = true := by simpa using hn
          have HN := Lib.hid (show r = false by rw [HD.out]; simp [g1])
          clear IH HR HR'
          go_enter Tryz.func50, Tryz.ntmps50
          go_wp2
          go_ret
          exact ⟨by rw [HN.out]; rfl, HE0.out⟩
      · have g1 : (o1 == o2) = false := by simpa using ho
        have g2 : (o1 != o2) = true := by simpa using ho
        have HN := Lib.hid (show r = false by rw [HD.out]; simp [g1])
        clear IH HR HR'
        go_enter Tryz.func50, Tryz.ntmps50
        go_wp2
        go_ret
        exact ⟨by rw [HN.out]; rfl, HE0.out⟩
    · have g1 : (k1 == k2) = false := by simpa using hk
      have g2 : (k1 != k2) = true := by simpa using hk
      have HN := Lib.hid (show r = false by rw [HD.out]; simp [g1])
      clear IH HR HR'
      go_enter Tryz.func50, Tryz.ntmps50
      go_wp2
      go_ret
      exact ⟨by rw [HN.out]; rfl, HE0.out⟩

set_option maxRecDepth 100000 in
set_option maxHeartbeats 4000000 in
theorem refPrec_any (e : Ex) (hk : e.kind = 4 → knownB e.op = true) (p : Option Addr) (c : Nat) (w : World) : Gives Tryz.prog 72 #[e.val p c] w (.int .i64 (prec e)) := by
  have hv : e.val p c = .agg #[.int .i64 e.kind, .int .i64 e.op, sV e.name, .int .i64 e.value, .slice p e.args.length c] := rfl
  rw [hv]
  clear hv
  unfold prec
  generalize e.kind = k1 at *
  generalize e.op = o1 at *
  generalize e.name = n1 at *
  generalize e.value = v1 at *
  generalize e.args.length = l1 at *
  have HE0 := Lib.hid (show Ext w (w.alloc (.cells #[.int .i64 k1, .int .i64 o1, sV n1, .int .i64 v1, .slice p l1 c] tEx)) from (Below.refl w.heap.size w).alloc (Nat.le_refl _) _)
  unfold Gives
  by_cases h3 : k1 = 3
  · subst h3
    clear hk
    rw [if_pos rfl]
    go_enter Tryz.func72, Tryz.ntmps72
    go_wp2
    go_ret
    exact ⟨rfl, HE0.out⟩
  · have g3 : (k1 == 3) = false := by simpa using h3
    rw [if_neg h3]
    by_cases h4 : k1 = 4
    · subst h4
      have hkn := hk rfl
      rw [if_pos rfl]
      have h5 : o1 = 3 ∨ o1 = 4 ∨ o1 = 5 ∨ o1 = 6 ∨ o1 = 7 ∨ o1 = 8 ∨ o1 = 9 ∨ o1 = 10 ∨ o1 = 11 ∨ o1 = 12 ∨ o1 = 13 ∨ o1 = 14 ∨ o1 = 15 := by
        have := of_decide_eq_true hkn; omega
      clear h3 hk hkn
      rcases h5 with rfl | rfl | rfl | rfl | rfl | rfl | rfl | rfl | rfl | rfl | rfl | rfl | rfl
      all_goals
        (go_enter Tryz.func72, Tryz.ntmps72
         go_wp2
         go_ret
         exact ⟨rfl, HE0.out⟩)
    · have g4 : (k1 == 4) = false := by simpa using h4
      have g5 : (k1 != 4) = true := by simpa using h4
      rw [if_neg h4]
      clear h3 h4 hk
      go_enter Tryz.func72, Tryz.ntmps72
      go_wp2
      go_ret
      exact ⟨rfl, HE0.out⟩

end Go.Proofs.YtgkalcboklhdgaaGreatDoor

namespace Go.Proofs.YtgkalcboklhdgaaGreatDoor
open Go.RowKit
set_option linter.unusedVariables false
set_option linter.unusedSimpArgs false

set_option maxRecDepth 100000 in
set_option maxHeartbeats 1000000 in
theorem Decimal_any (N : Nat) (hN : N ≤ 1099511627776) (w : World) : Gives Tryz.prog 70 #[.int .i64 (N : Int)] w (sV (Lib.decDigits N)) := by
  unfold Gives
  go_enter Tryz.func70, Tryz.ntmps70
  go_wp2
  go_loopw [0, 3] (fun i s wr => ∃ (n : Nat) (l : List UInt8), n ≤ N ∧ i = .int .i64 (n : Int) ∧ s = sV l ∧ Lib.decDigits N = Lib.decDigits n ++ l ∧ l.length + n ≤ N ∧ Ext w wr) (fun i _ _ => (intOf i).toNat)
  case atStart => exact ⟨N, [], Nat.le_refl _, rfl, rfl, by simp, by simp, Below.refl _ _⟩
  case round =>
    obtain ⟨n, l, hn, rfl, rfl, hd, hln, hE⟩ := hrel
    have HD := Lib.hid hd
    have HE := Lib.hid hE
    clear hd hE
    have hby : ∀ (m : Nat), m ≤ 9 → (convert 56 9 (.slice (some ⟨wr.heap.size, 0, none⟩) 1 1)).run Tryz.prog (wr.alloc (.cells #[.int .u8 (48 + (m : Int))] 5)) = .ok (sV [UInt8.ofNat (48 + m)]) (wr.alloc (.cells #[.int .u8 (48 + (m : Int))] 5)) := by
      intro m hm
      have hb : ((UInt8.ofNat (48 + m)).toNat : Int) = 48 + (m : Int) := by
        rw [UInt8.toNat_ofNat']; omega
      refine BytesAt.conv (g := wr.heap.size) (l := [UInt8.ofNat (48 + m)]) (fun i hi => ?_) Tryz.underlying56 Tryz.underlying5 Tryz.underlying9 1 1 rfl
      obtain rfl : i = 0 := by simpa using hi
      exact ⟨by rw [cell_of (alloc_here wr _) rfl]; simp only [List.getElem_cons_zero, hb]; rfl, free_of (alloc_here wr _)⟩
    have hll : l.length ≤ 1099511627776 := by omega
    by_cases h9 : n ≤ 9
    · have h9' : ¬ 9 < n := by omega
      have h9'' : ¬ (9 : Int) < (n : Int) := by omega
      have hc := hby n h9
      have HR := Lib.hid (show Lib.decDigits N = [UInt8.ofNat (48 + n)] ++ l by rw [HD.out, Lib.decDigits_one (by omega)])
      have HX := Lib.hid (show Ext w (wr.alloc (.cells #[.int .u8 (48 + (n : Int))] 5)) from Ext.trans HE.out ((Below.refl _ wr).alloc (Nat.le_refl _) _))
      clear hby
      generalize UInt8.ofNat (48 + n) = bb at *
      go_wp2
      go_ret
      exact ⟨by rw [HR.out]; rfl, HX.out⟩
    · have h9' : 9 < n := by omega
      have h9'' : (9 : Int) < (n : Int) := by omega
      have hq : (n : Int).tdiv 10 = ((n / 10 : Nat) : Int) := by rw [Int.tdiv_eq_ediv_of_nonneg (by omega)]; omega
      have hc : (convert 56 9 (.slice (some ⟨wr.heap.size, 0, none⟩) 1 1)).run Tryz.prog (wr.alloc (.cells #[.int .u8 (48 + (n : Int) % 10)] 5)) = .ok (sV [UInt8.ofNat (48 + n % 10)]) (wr.alloc (.cells #[.int .u8 (48 + (n : Int) % 10)] 5)) := by
        have := hby (n % 10) (by omega)
        rw [show ((n % 10 : Nat) : Int) = (n : Int) % 10 by omega] at this
        exact this
      have hm0 : 0 ≤ (n : Int) % 10 := by omega
      have hm9 : (n : Int) % 10 ≤ 9 := by omega
      have HR := Lib.hid (show Lib.decDigits N = Lib.decDigits (n / 10) ++ ([UInt8.ofNat (48 + n % 10)] ++ l) by rw [HD.out, Lib.decDigits.eq_def n, dif_neg (by omega), List.append_assoc])
      have HX := Lib.hid (show Ext w (wr.alloc (.cells #[.int .u8 (48 + (n : Int) % 10)] 5)) from Ext.trans HE.out ((Below.refl _ wr).alloc (Nat.le_refl _) _))
      have HQ := Lib.hid hq
      have HLN := Lib.hid hln
      clear hby hq hln
      generalize UInt8.ofNat (48 + n % 10) = bb at *
      go_wp2
      go_roundw
      case rel => exact ⟨n / 10, [bb] ++ l, by omega, by first | rfl | (rw [← HQ.out]; rfl) | simp, rfl, HR.out, by have := HLN.out; simp; omega, HX.out⟩
      case measure => simp [intOf]; omega

end Go.Proofs.YtgkalcboklhdgaaGreatDoor

namespace Go.Proofs.YtgkalcboklhdgaaGreatDoor
open Go.RowKit
set_option linter.unusedVariables false
set_option linter.unusedSimpArgs false
open Ex

/-- the numeral of a number -/
def decI (v : Int) : List UInt8 := Lib.decDigits v.toNat
theorem Up.callE {P : Program} {f : FuncId} {args args' : Array Value} {w : World} {v : Value} {U : Up w} (h : ∀ W, Ext w W → Gives P f args' W v) (e : args = args') : Calls P f args U.W fun e w'' => e = .returned v ∧ ∃ U' : Up w, w'' = U'.W := by
  subst e; exact Up.call (h _ U.ext)
theorem sB_lit1 (a : UInt8) : (ByteArray.mk #[a]) = sB [a] := rfl
theorem sB_lit2 (a b : UInt8) : (ByteArray.mk #[a, b]) = sB [a, b] := rfl
/-- the reference's in writes what f says -/
def InW (w : World) (v : Value) (f : Int → List UInt8) : Prop := ∀ lim W, Ext w W → Gives Tryz.prog 71 #[v, .int .i64 lim] W (sV (f lim))

set_option maxRecDepth 100000 in
set_option maxHeartbeats 1000000 in
theorem in_of (e : Ex) (t : List UInt8) (hk : e.kind = 4 → knownB e.op = true) (p : Option Addr) (c : Nat) (limit : Int) (w : World) (hlt0 : t.length ≤ 1000000000)
    (hw : ∀ W, Ext w W → Gives Tryz.prog 43 #[e.val p c] W (sV t)) : Gives Tryz.prog 71 #[e.val p c, .int .i64 limit] w (sV (brk limit (prec e) t)) := by
  have C1 := Lib.hid (fun W => show Gives _ _ #[.agg #[.int .i64 e.kind, .int .i64 e.op, sV e.name, .int .i64 e.value, .slice p e.args.length c]] _ _ from refPrec_any e hk p c W)
  have C2 := Lib.hid (fun W (h : Ext w W) => show Gives _ _ #[.agg #[.int .i64 e.kind, .int .i64 e.op, sV e.name, .int .i64 e.value, .slice p e.args.length c]] _ _ from hw W h)
  have hv : e.val p c = .agg #[.int .i64 e.kind, .int .i64 e.op, sV e.name, .int .i64 e.value, .slice p e.args.length c] := rfl
  rw [hv]
  clear hv hw hk
  generalize prec e = pe at *
  generalize e.kind = k1 at *
  generalize e.op = o1 at *
  generalize e.name = n1 at *
  generalize e.value = v1 at *
  generalize e.args.length = l1 at *
  have HE0 := Lib.hid (show Ext (w.alloc (.cells #[.int .i64 k1, .int .i64 o1, sV n1, .int .i64 v1, .slice p l1 c] tEx)) (w.alloc (.cells #[.int .i64 k1, .int .i64 o1, sV n1, .int .i64 v1, .slice p l1 c] tEx)) from Below.refl _ _)
  unfold Gives
  by_cases hlt : pe < limit
  · have hg : decide (pe < limit) = true := by simpa using hlt
    have HT := Lib.hid (show brk limit pe t = [40] ++ t ++ [41] by unfold brk; rw [if_pos hlt])
    rw [HT.out]
    go_enter Tryz.func71, Tryz.ntmps71
    obtain ⟨b0, b1, b2, b3, b4, hW⟩ := HE0.out.box
    go_wp2_with fail
    refine (C1.out _).mono ?_
    intro w1 hB
    have HE1 := Lib.hid (Ext.trans HE0.out hB)
    clear hB b0 b1 b2 b3 b4 hW
    obtain ⟨b0, b1, b2, b3, b4, hW⟩ := HE1.out.box
    go_wp2_with fail
    refine (C2.out _ hW).mono ?_
    intro w2 hB
    have HE2 := Lib.hid (Ext.trans HE1.out hB)
    clear hB b0 b1 b2 b3 b4 hW
    obtain ⟨b0, b1, b2, b3, b4, hW⟩ := HE2.out.box
    clear b0 b1 b2 b3 b4
    go_wp2
    go_ret
    exact ⟨by first | rfl | (simp only [sB_lit1, sB_app]; rfl), hW⟩
  · have hg : decide (pe < limit) = false := by simpa using hlt
    have HT := Lib.hid (show brk limit pe t = t by unfold brk; rw [if_neg hlt])
    rw [HT.out]
    go_enter Tryz.func71, Tryz.ntmps71
    obtain ⟨b0, b1, b2, b3, b4, hW⟩ := HE0.out.box
    go_wp2_with fail
    refine (C1.out _).mono ?_
    intro w1 hB
    have HE1 := Lib.hid (Ext.trans HE0.out hB)
    clear hB b0 b1 b2 b3 b4 hW
    obtain ⟨b0, b1, b2, b3, b4, hW⟩ := HE1.out.box
    go_wp2_with fail
    refine (C2.out _ hW).mono ?_
    intro w2 hB
    have HE2 := Lib.hid (Ext.trans HE1.out hB)
    clear hB b0 b1 b2 b3 b4 hW
    obtain ⟨b0, b1, b2, b3, b4, hW⟩ := HE2.out.box
    clear b0 b1 b2 b3 b4
    go_wp2
    go_ret
    exact ⟨rfl, hW⟩

set_option maxRecDepth 100000 in
set_option maxHeartbeats 1000000 in
theorem text_num (v : Int) (t : List UInt8) (HI : ∀ W, Gives Tryz.prog 70 #[.int .i64 v] W (sV t)) (p : Option Addr) (c : Nat) (w : World) : Gives Tryz.prog 43 #[.agg #[.int .i64 1, .int .i64 0, sV [], .int .i64 v, .slice p 0 c]] w (sV t) := by
  have C1 := Lib.hid HI
  clear HI
  have HE0 := Lib.hid (show Ext w (w.alloc (.cells #[.int .i64 1, .int .i64 0, sV [], .int .i64 v, .slice p 0 c] tEx)) from (Below.refl w.heap.size w).alloc (Nat.le_refl _) _)
  unfold Gives
  go_enter Tryz.func43, Tryz.ntmps43
  go_wp2_with fail
  refine (C1.out _).mono ?_
  intro w1 hB
  have HE1 := Lib.hid (Ext.trans HE0.out hB)
  clear hB
  go_wp2
  go_ret
  exact ⟨rfl, HE1.out⟩

set_option maxRecDepth 100000 in
set_option maxHeartbeats 1000000 in
theorem text_nam (nm : List UInt8) (p : Option Addr) (c : Nat) (w : World) : Gives Tryz.prog 43 #[.agg #[.int .i64 2, .int .i64 0, sV nm, .int .i64 0, .slice p 0 c]] w (sV nm) := by
  have HE0 := Lib.hid (show Ext w (w.alloc (.cells #[.int .i64 2, .int .i64 0, sV nm, .int .i64 0, .slice p 0 c] tEx)) from (Below.refl w.heap.size w).alloc (Nat.le_refl _) _)
  unfold Gives
  go_enter Tryz.func43, Tryz.ntmps43
  go_wp2
  go_ret
  exact ⟨rfl, HE0.out⟩

set_option maxRecDepth 100000 in
set_option maxHeartbeats 1000000 in
theorem text_un1 (f : Int → List UInt8) (k1 o1 : Int) (n1 : List UInt8) (v1 : Int) (q : Option Addr) (l1 cc b0 off c : Nat) (w : World) (hlf : (f 6).length ≤ 1000000000)
    (hA : InW w (.agg #[.int .i64 k1, .int .i64 o1, sV n1, .int .i64 v1, .slice q l1 cc]) f) (c0 : w.cell? ⟨b0, off, none⟩ = some (.int .i64 k1)) (c1 : w.cell? ⟨b0, off + 1, none⟩ = some (.int .i64 o1)) (c2 : w.cell? ⟨b0, off + 2, none⟩ = some (sV n1)) (c3 : w.cell? ⟨b0, off + 3, none⟩ = some (.int .i64 v1)) (c4 : w.cell? ⟨b0, off + 4, none⟩ = some (.slice q l1 cc)) :
    Gives Tryz.prog 43 #[.agg #[.int .i64 3, .int .i64 1, sV [], .int .i64 0, .slice (some ⟨b0, off, none⟩) 1 c]] w (sV ([45] ++ f 6)) := by
  have HA := Lib.hid hA
  have hlt := Ex.cell_lt' c0
  clear hA
  have HE0 := Lib.hid (show Ext w (w.alloc (.cells #[.int .i64 3, .int .i64 1, sV [], .int .i64 0, .slice (some ⟨b0, off, none⟩) 1 c] tEx)) from (Below.refl w.heap.size w).alloc (Nat.le_refl _) _)
  unfold Gives
  go_enter Tryz.func43, Tryz.ntmps43
  go_wp2_with fail
  refine (HA.out _ _ HE0.out).mono ?_
  intro w1 hB
  have HE1 := Lib.hid (Ext.trans HE0.out hB)
  clear hB c0 c1 c2 c3 c4 hlt
  go_wp2
  go_ret
  exact ⟨by first | rfl | (simp only [sB_lit1, sB_app]; rfl), HE1.out⟩

set_option maxRecDepth 100000 in
set_option maxHeartbeats 1000000 in
theorem text_un2 (f : Int → List UInt8) (k1 o1 : Int) (n1 : List UInt8) (v1 : Int) (q : Option Addr) (l1 cc b0 off c : Nat) (w : World) (hlf : (f 6).length ≤ 1000000000)
    (hA : InW w (.agg #[.int .i64 k1, .int .i64 o1, sV n1, .int .i64 v1, .slice q l1 cc]) f) (c0 : w.cell? ⟨b0, off, none⟩ = some (.int .i64 k1)) (c1 : w.cell? ⟨b0, off + 1, none⟩ = some (.int .i64 o1)) (c2 : w.cell? ⟨b0, off + 2, none⟩ = some (sV n1)) (c3 : w.cell? ⟨b0, off + 3, none⟩ = some (.int .i64 v1)) (c4 : w.cell? ⟨b0, off + 4, none⟩ = some (.slice q l1 cc)) :
    Gives Tryz.prog 43 #[.agg #[.int .i64 3, .int .i64 2, sV [], .int .i64 0, .slice (some ⟨b0, off, none⟩) 1 c]] w (sV ([33] ++ f 6)) := by
  have HA := Lib.hid hA
  have hlt := Ex.cell_lt' c0
  clear hA
  have HE0 := Lib.hid (show Ext w (w.alloc (.cells #[.int .i64 3, .int .i64 2, sV [], .int .i64 0, .slice (some ⟨b0, off, none⟩) 1 c] tEx)) from (Below.refl w.heap.size w).alloc (Nat.le_refl _) _)
  unfold Gives
  go_enter Tryz.func43, Tryz.ntmps43
  go_wp2_with fail
  refine (HA.out _ _ HE0.out).mono ?_
  intro w1 hB
  have HE1 := Lib.hid (Ext.trans HE0.out hB)
  clear hB c0 c1 c2 c3 c4 hlt
  go_wp2
  go_ret
  exact ⟨by first | rfl | (simp only [sB_lit1, sB_app]; rfl), HE1.out⟩

set_option maxRecDepth 100000 in
set_option maxHeartbeats 4000000 in
theorem text_bin (f g : Int → List UInt8) (o : Int) (hk : knownB o = true) (e : Ex) (he : e.kind = 4 ∧ e.op = o) (k1 o1 : Int) (n1 : List UInt8) (v1 : Int) (q : Option Addr) (l1 cc : Nat) (k2 o2 : Int) (n2 : List UInt8) (v2 : Int) (q2 : Option Addr) (l2 cc2 b0 off c : Nat) (w : World)
    (hp : ∀ W, Gives Tryz.prog 72 #[.agg #[.int .i64 4, .int .i64 o, sV [], .int .i64 0, .slice (some ⟨b0, off, none⟩) 2 c]] W (.int .i64 (opOf o).prec))
    (hA : InW w (.agg #[.int .i64 k1, .int .i64 o1, sV n1, .int .i64 v1, .slice q l1 cc]) f)
    (hC : ∀ W, Ext w W → W.cell? ⟨b0, off, none⟩ = some (.int .i64 k1) ∧ W.cell? ⟨b0, off + 1, none⟩ = some (.int .i64 o1) ∧ W.cell? ⟨b0, off + 2, none⟩ = some (sV n1) ∧ W.cell? ⟨b0, off + 3, none⟩ = some (.int .i64 v1) ∧ W.cell? ⟨b0, off + 4, none⟩ = some (.slice q l1 cc))
    (hA2 : InW w (.agg #[.int .i64 k2, .int .i64 o2, sV n2, .int .i64 v2, .slice q2 l2 cc2]) g)
    (hC2 : ∀ W, Ext w W → W.cell? ⟨b0, off + 5, none⟩ = some (.int .i64 k2) ∧ W.cell? ⟨b0, off + 5 + 1, none⟩ = some (.int .i64 o2) ∧ W.cell? ⟨b0, off + 5 + 2, none⟩ = some (sV n2) ∧ W.cell? ⟨b0, off + 5 + 3, none⟩ = some (.int .i64 v2) ∧ W.cell? ⟨b0, off + 5 + 4, none⟩ = some (.slice q2 l2 cc2))
    (t : List UInt8) (hlt0 : t.length ≤ 1000000000) (ht : t = f (if (opOf o).prec = 3 then 4 else (opOf o).prec) ++ [32] ++ (opOf o).sign ++ [32] ++ g ((opOf o).prec + 1)) :
    Gives Tryz.prog 43 #[.agg #[.int .i64 4, .int .i64 o, sV [], .int .i64 0, .slice (some ⟨b0, off, none⟩) 2 c]] w (sV t) := by
  have ho := of_decide_eq_true hk
  have hP := opOf_prec o hk
  have HSG := Lib.hid (fun (W : World) (h : W.heap[w.heap.size + 1]? = some (.cells #[sV [], sV [], sV [], sV [43], sV [45], sV [42], sV [47], sV [37], sV [61, 61], sV [33, 61], sV [60], sV [60, 61], sV [62], sV [62, 61], sV [38, 38], sV [124, 124]] 9 (0, 0))) => show W.cell? ⟨w.heap.size + 1, 0 + o.toNat, none⟩ = some (sV (opOf o).sign) by
    have h5 : o = 3 ∨ o = 4 ∨ o = 5 ∨ o = 6 ∨ o = 7 ∨ o = 8 ∨ o = 9 ∨ o = 10 ∨ o = 11 ∨ o = 12 ∨ o = 13 ∨ o = 14 ∨ o = 15 := by omega
    rcases h5 with rfl | rfl | rfl | rfl | rfl | rfl | rfl | rfl | rfl | rfl | rfl | rfl | rfl <;> exact cell_of h rfl)
  have CP := Lib.hid (fun W (h : Ext w W) => hp W)
  have HA := Lib.hid hA
  have HA2 := Lib.hid hA2
  have HC := Lib.hid hC
  have HC2 := Lib.hid hC2
  have HT := Lib.hid ht
  have ho1 := ho.1
  have ho2 := ho.2
  have HBX0 := alloc_here w (.cells #[.int .i64 4, .int .i64 o, sV [], .int .i64 0, .slice (some ⟨b0, off, none⟩) 2 c] tEx)
  have HE0 := Lib.hid (show Ext w (w.alloc (.cells #[.int .i64 4, .int .i64 o, sV [], .int .i64 0, .slice (some ⟨b0, off, none⟩) 2 c] tEx)) from (Below.refl w.heap.size w).alloc (Nat.le_refl _) _)
  have HR0 := Lib.hid (show Ext (w.alloc (.cells #[.int .i64 4, .int .i64 o, sV [], .int .i64 0, .slice (some ⟨b0, off, none⟩) 2 c] tEx)) ((w.alloc (.cells #[.int .i64 4, .int .i64 o, sV [], .int .i64 0, .slice (some ⟨b0, off, none⟩) 2 c] tEx)).alloc (.cells #[sV [], sV [], sV [], sV [43], sV [45], sV [42], sV [47], sV [37], sV [61, 61], sV [33, 61], sV [60], sV [60, 61], sV [62], sV [62, 61], sV [38, 38], sV [124, 124]] 9)) from (Below.refl _ _).alloc (Nat.le_refl _) _)
  have HBX := Lib.hid ((HR0.out.below.block _ (lt_of_block HBX0)).trans HBX0)
  have HRW := Lib.hid (show ((w.alloc (.cells #[.int .i64 4, .int .i64 o, sV [], .int .i64 0, .slice (some ⟨b0, off, none⟩) 2 c] tEx)).alloc (.cells #[sV [], sV [], sV [], sV [43], sV [45], sV [42], sV [47], sV [37], sV [61, 61], sV [33, 61], sV [60], sV [60, 61], sV [62], sV [62, 61], sV [38, 38], sV [124, 124]] 9)).heap[w.heap.size + 1]? = some (.cells #[sV [], sV [], sV [], sV [43], sV [45], sV [42], sV [47], sV [37], sV [61, 61], sV [33, 61], sV [60], sV [60, 61], sV [62], sV [62, 61], sV [38, 38], sV [124, 124]] 9 (0, 0)) by
    have := alloc_here (w.alloc (.cells #[.int .i64 4, .int .i64 o, sV [], .int .i64 0, .slice (some ⟨b0, off, none⟩) 2 c] tEx)) (.cells #[sV [], sV [], sV [], sV [43], sV [45], sV [42], sV [47], sV [37], sV [61, 61], sV [33, 61], sV [60], sV [60, 61], sV [62], sV [62, 61], sV [38, 38], sV [124, 124]] 9)
    rw [World.size_alloc] at this
    exact this)
  clear hA hA2 hC hC2 ht ho HBX0 hp he hk
  generalize (opOf o).prec = pr at *
  generalize (opOf o).sign = sg at *
  unfold Gives
  by_cases h3 : pr = 3
  · subst h3
    have HTT := Lib.hid (show t = f 4 ++ [32] ++ sg ++ [32] ++ g (4) by rw [HT.out]; simp)
    clear HT
    have hls := hlt0
    rw [HTT.out] at hls
    simp only [List.length_append, List.length_cons, List.length_nil] at hls
    go_enter Tryz.func43, Tryz.ntmps43
    go_wp2_with fail
    refine (CP.out _ (Ext.trans HE0.out HR0.out)).mono ?_
    intro w1 hB
    replace hB : Ext _ w1 := hB
    have HE1 := Lib.hid (Ext.trans (Ext.trans HE0.out HR0.out) hB)
    have hbx := (hB.below.block _ (lt_of_block HBX.out)).trans HBX.out
    have hrw := (hB.below.block _ (lt_of_block HRW.out)).trans HRW.out
    obtain ⟨z0, z1, z2, z3, z4, z5⟩ := box5 hbx
    have r0 : w1.cell? ⟨w.heap.size + 1, 0 + o.toNat, none⟩ = some (sV sg) := HSG.out _ hrw
    obtain ⟨c0, c1, c2, c3, c4⟩ := HC.out w1 HE1.out
    obtain ⟨d0, d1, d2, d3, d4⟩ := HC2.out w1 HE1.out
    have D1 := Lib.hid (fun W (h : Ext w1 W) => HA.out (4) W (Ext.trans HE1.out h))
    have D2 := Lib.hid (fun W (h : Ext w1 W) => HA2.out (4) W (Ext.trans HE1.out h))
    have r1 : w1.cell? ⟨w.heap.size + 1, o.toNat, none⟩ = some (sV sg) := by rw [Nat.zero_add] at r0; exact r0
    clear hbx hrw z5 z0 z2 z3
    have U1 := fun U : Up w1 => Up.cell z1 U
    have U4 := fun U : Up w1 => Up.cell z4 U
    have V0 := fun U : Up w1 => Up.cell r0 U
    have V1 := fun U : Up w1 => Up.cell r1 U
    have s0 := fun U : Up w1 => Up.cell c0 U
    have s1 := fun U : Up w1 => Up.cell c1 U
    have s2 := fun U : Up w1 => Up.cell c2 U
    have s3 := fun U : Up w1 => Up.cell c3 U
    have s4 := fun U : Up w1 => Up.cell c4 U
    have t0 := fun U : Up w1 => Up.cell d0 U
    have t1 := fun U : Up w1 => Up.cell d1 U
    have t2 := fun U : Up w1 => Up.cell d2 U
    have t3 := fun U : Up w1 => Up.cell d3 U
    have t4 := fun U : Up w1 => Up.cell d4 U
    go_wp2
    refine wp_region_up (by kernel_rfl) (by kernel_rfl) ?_
    repeat (go_big_quiet_step ((go_at_call 71; first | (refine Up.callE D1.out ?_; with_reducible rfl) | (refine Up.callE D2.out ?_; with_reducible rfl))))
    refine wpQuiet_nil ?_
    rintro w4 ⟨U, rfl⟩
    have hE4 := Lib.hid (Ext.trans HE1.out U.ext)
    generalize U.W = w4 at *
    clear U1 U4 V0 V1 s0 s1 s2 s3 s4 t0 t1 t2 t3 t4
    go_wp2
    go_ret
    exact ⟨by rw [HTT.out]; first | rfl | (simp only [sB_lit1, sB_app]; rfl) | simp [sB_lit1, sB_app], hE4.out⟩
  · have h3b : (pr == 3) = false := by simpa using h3
    have HTT := Lib.hid (show t = f pr ++ [32] ++ sg ++ [32] ++ g (pr + 1) by rw [HT.out]; rw [if_neg h3])
    clear HT
    have hls := hlt0
    rw [HTT.out] at hls
    simp only [List.length_append, List.length_cons, List.length_nil] at hls
    go_enter Tryz.func43, Tryz.ntmps43
    go_wp2_with fail
    refine (CP.out _ (Ext.trans HE0.out HR0.out)).mono ?_
    intro w1 hB
    replace hB : Ext _ w1 := hB
    have HE1 := Lib.hid (Ext.trans (Ext.trans HE0.out HR0.out) hB)
    have hbx := (hB.below.block _ (lt_of_block HBX.out)).trans HBX.out
    have hrw := (hB.below.block _ (lt_of_block HRW.out)).trans HRW.out
    obtain ⟨z0, z1, z2, z3, z4, z5⟩ := box5 hbx
    have r0 : w1.cell? ⟨w.heap.size + 1, 0 + o.toNat, none⟩ = some (sV sg) := HSG.out _ hrw
    obtain ⟨c0, c1, c2, c3, c4⟩ := HC.out w1 HE1.out
    obtain ⟨d0, d1, d2, d3, d4⟩ := HC2.out w1 HE1.out
    have D1 := Lib.hid (fun W (h : Ext w1 W) => HA.out (pr) W (Ext.trans HE1.out h))
    have D2 := Lib.hid (fun W (h : Ext w1 W) => HA2.out (pr + 1) W (Ext.trans HE1.out h))
    have r1 : w1.cell? ⟨w.heap.size + 1, o.toNat, none⟩ = some (sV sg) := by rw [Nat.zero_add] at r0; exact r0
    clear hbx hrw z5 z0 z2 z3
    have U1 := fun U : Up w1 => Up.cell z1 U
    have U4 := fun U : Up w1 => Up.cell z4 U
    have V0 := fun U : Up w1 => Up.cell r0 U
    have V1 := fun U : Up w1 => Up.cell r1 U
    have s0 := fun U : Up w1 => Up.cell c0 U
    have s1 := fun U : Up w1 => Up.cell c1 U
    have s2 := fun U : Up w1 => Up.cell c2 U
    have s3 := fun U : Up w1 => Up.cell c3 U
    have s4 := fun U : Up w1 => Up.cell c4 U
    have t0 := fun U : Up w1 => Up.cell d0 U
    have t1 := fun U : Up w1 => Up.cell d1 U
    have t2 := fun U : Up w1 => Up.cell d2 U
    have t3 := fun U : Up w1 => Up.cell d3 U
    have t4 := fun U : Up w1 => Up.cell d4 U
    go_wp2
    refine wp_region_up (by kernel_rfl) (by kernel_rfl) ?_
    repeat (go_big_quiet_step ((go_at_call 71; first | (refine Up.callE D1.out ?_; with_reducible rfl) | (refine Up.callE D2.out ?_; with_reducible rfl))))
    refine wpQuiet_nil ?_
    rintro w4 ⟨U, rfl⟩
    have hE4 := Lib.hid (Ext.trans HE1.out U.ext)
    generalize U.W = w4 at *
    clear U1 U4 V0 V1 s0 s1 s2 s3 s4 t0 t1 t2 t3 t4
    go_wp2
    go_ret
    exact ⟨by rw [HTT.out]; first | rfl | (simp only [sB_lit1, sB_app]; rfl) | simp [sB_lit1, sB_app], hE4.out⟩

end Go.Proofs.YtgkalcboklhdgaaGreatDoor

namespace Go.Proofs.YtgkalcboklhdgaaGreatDoor
open Go.RowKit
set_option linter.unusedVariables false
set_option linter.unusedSimpArgs false
open Ex

theorem brk_len (lim p : Int) (t : List UInt8) : t.length ≤ (brk lim p t).length ∧ (brk lim p t).length ≤ t.length + 2 := by
  unfold brk
  split <;> simp <;> omega
theorem decDigits_len : ∀ (k n : Nat), n < 10 ^ k → (Lib.decDigits n).length ≤ max 1 k := by
  intro k
  induction k with
  | zero => intro n h; have : n = 0 := by simpa using h
            subst this; rw [Lib.decDigits_one (by omega)]; decide
  | succ k ih =>
    intro n h
    by_cases h9 : n < 10
    · rw [Lib.decDigits_one h9]; simp only [List.length_cons, List.length_nil]; omega
    · rw [Lib.decDigits.eq_def, dif_neg h9]
      have h1 : n / 10 < 10 ^ k := by rw [Nat.div_lt_iff_lt_mul (by omega)]; rw [Nat.pow_succ] at h; exact h
      have := ih (n / 10) h1
      have h2 : 1 ≤ k := by
        cases k with
        | zero => rw [Nat.pow_zero] at h1; omega
        | succ k => omega
      simp only [List.length_append, List.length_cons, List.length_nil]
      omega
theorem sign_len (o : Int) (hk : knownB o = true) : (opOf o).sign.length ≤ 2 := by
  unfold knownB at hk
  obtain ⟨h1, h2⟩ := of_decide_eq_true hk
  obtain ⟨n, rfl⟩ : ∃ n : Nat, o = n := ⟨o.toNat, by omega⟩
  have : ∀ n : Nat, n < 16 → 3 ≤ n → (opOf (n : Int)).sign.length ≤ 2 := by decide
  exact this n (by omega) (by omega)
theorem isNm_len {n : List UInt8} (h : isNm n = true) : n.length ≤ 100 := by
  unfold isNm at h
  simp at h
  omega
theorem txt_len : ∀ (n : Nat) (e : Ex), e.size ≤ n → e.fe = 0 → (txt decI e).length + 2 ≤ 110 * e.size := by
  intro n
  induction n with
  | zero => intro e he; have := e.size_pos; omega
  | succ n ih =>
    intro e he hfe
    obtain ⟨k, o, nm, v, ts⟩ := e
    obtain ⟨hpc, hfes⟩ := fe_mk hfe
    rcases pc_zero hpc with ⟨rfl, rfl, rfl, hm, hv1, hv2⟩ | ⟨rfl, rfl, rfl, hm, hnm⟩ | ⟨rfl, rfl, rfl, hm, ho⟩ | ⟨rfl, rfl, rfl, hm, ho1, ho2⟩
    · obtain rfl := List.eq_nil_of_length_eq_zero hm
      have h1 := decDigits_len 13 v.toNat (by omega)
      simp only [txt, Ex.size, Ex.sizes, decI, if_true]
      omega
    · obtain rfl := List.eq_nil_of_length_eq_zero hm
      have h1 := isNm_len hnm
      simp [txt, Ex.size, Ex.sizes]
      omega
    · obtain ⟨t, rfl⟩ := len1 hm
      have hft : t.fe = 0 := by simpa using fes_get hfes 0 (by simp)
      have hsz : t.size ≤ n := by simp only [Ex.size, Ex.sizes] at he; omega
      have h1 := ih t hsz hft
      have h2 := (brk_len 6 (prec t) (txt decI t)).2
      have HT : txt decI (.mk 3 o [] 0 [t]) = (if o = 1 then [45] else [33]) ++ brk 6 (prec t) (txt decI t) := by simp [txt, txts]
      rw [HT]
      have h3 : (if o = 1 then [45] else [33] : List UInt8).length = 1 := by split <;> rfl
      simp only [Ex.size, Ex.sizes, List.length_append]
      omega
    · obtain ⟨t, u, rfl⟩ := len2 hm
      have hft : t.fe = 0 := by simpa using fes_get hfes 0 (by simp)
      have hfu : u.fe = 0 := by simpa using fes_get hfes 1 (by simp)
      have hsz : t.size ≤ n := by simp only [Ex.size, Ex.sizes] at he; omega
      have hsz2 : u.size ≤ n := by simp only [Ex.size, Ex.sizes] at he; omega
      have h1 := ih t hsz hft
      have h2 := ih u hsz2 hfu
      have HT : txt decI (.mk 4 o [] 0 [t, u]) = brk (if (opOf o).prec = 3 then 4 else (opOf o).prec) (prec t) (txt decI t) ++ [32] ++ (opOf o).sign ++ [32] ++ brk ((opOf o).prec + 1) (prec u) (txt decI u) := by simp [txt, txts]
      have h3 := (brk_len (if (opOf o).prec = 3 then 4 else (opOf o).prec) (prec t) (txt decI t)).2
      have h4 := (brk_len ((opOf o).prec + 1) (prec u) (txt decI u)).2
      have h5 := sign_len o (by unfold knownB; simp; omega)
      rw [HT]
      simp only [Ex.size, Ex.sizes, List.length_append, List.length_cons, List.length_nil]
      omega
theorem txt_le {e : Ex} (h : e.chk = 0) : (txt decI e).length ≤ 1000000000 := by
  obtain ⟨h1, h2, h3⟩ := chk_zero h
  have := txt_len e.size e (Nat.le_refl _) h3
  omega
mutual
theorem nums_of : ∀ e : Ex, e.fe = 0 → nums (fun v => 0 ≤ v ∧ v ≤ 1099511627776) e
  | .mk k o n v ts, h => by
    obtain ⟨hpc, hfes⟩ := fe_mk h
    refine ⟨fun hk => ?_, numsL_of ts hfes⟩
    subst hk
    rcases pc_zero hpc with ⟨_, _, _, _, h1, h2⟩ | ⟨h0, _⟩ | ⟨h0, _⟩ | ⟨h0, _⟩
    · exact ⟨h1, h2⟩
    · cases h0
    · cases h0
    · cases h0
theorem numsL_of : ∀ ts : List Ex, fes ts = 0 → nums.numsL (fun v => 0 ≤ v ∧ v ≤ 1099511627776) ts
  | [], _ => trivial
  | t :: ts, h => by
    simp only [Ex.fes] at h
    by_cases h0 : t.fe = 0
    · rw [if_neg (by simp [h0])] at h; exact ⟨nums_of t h0, numsL_of ts h⟩
    · rw [if_pos h0] at h; exact absurd h h0
end

set_option maxHeartbeats 1000000 in
theorem text_any : ∀ (n : Nat) (e : Ex), e.size ≤ n → e.fe = 0 → ∀ (p : Option Addr) (c : Nat) (w : World), Ex.At w p e → (txt decI e).length ≤ 1000000000 →
    Gives Tryz.prog 43 #[e.val p c] w (sV (txt decI e)) := by
  intro n
  induction n with
  | zero => intro e he; have := e.size_pos; omega
  | succ n ih =>
    intro e he hfe p c w hA hlen
    obtain ⟨k, o, nm, v, ts⟩ := e
    obtain ⟨hpc, hfes⟩ := fe_mk hfe
    have AR : ∀ (t : Ex) (q : Option Addr) (cc : Nat), t.size ≤ n → t.fe = 0 → Ex.At w q t → (txt decI t).length ≤ 1000000000 → InW w (.agg #[.int .i64 t.kind, .int .i64 t.op, sV t.name, .int .i64 t.value, .slice q t.args.length cc]) (fun lim => brk lim (prec t) (txt decI t)) :=
      fun t q cc hs hf hAt hl lim W hW => in_of t (txt decI t) (known_of hf) q cc lim W hl (fun W' hW' => ih t hs hf q cc W' (hAt.below (Ext.trans hW hW')) hl)
    rcases pc_zero hpc with ⟨rfl, rfl, rfl, hm, hv1, hv2⟩ | ⟨rfl, rfl, rfl, hm, hnm⟩ | ⟨rfl, rfl, rfl, hm, ho⟩ | ⟨rfl, rfl, rfl, hm, ho1, ho2⟩
    · obtain rfl := List.eq_nil_of_length_eq_zero hm
      have HT : txt decI (.mk 1 0 [] v []) = decI v := by simp [txt]
      rw [HT]
      obtain ⟨N, rfl⟩ : ∃ N : Nat, v = N := ⟨v.toNat, by omega⟩
      exact text_num N (decI N) (fun W => Decimal_any N (by omega) W) p c w
    · obtain rfl := List.eq_nil_of_length_eq_zero hm
      have HT : txt decI (.mk 2 0 nm 0 []) = nm := by simp [txt]
      rw [HT]
      exact text_nam nm p c w
    · obtain ⟨t, rfl⟩ := len1 hm
      obtain ⟨⟨b0, off, q, cc, rfl, hcs, hA1⟩, _⟩ := hA.2
      have hft : t.fe = 0 := by simpa using fes_get hfes 0 (by simp)
      have hsz : t.size ≤ n := by simp only [Ex.size, Ex.sizes] at he; omega
      have HT : txt decI (.mk 3 o [] 0 [t]) = (if o = 1 then [45] else [33]) ++ brk 6 (prec t) (txt decI t) := by simp [txt, txts]
      rw [HT] at hlen ⊢
      simp only [List.length_append] at hlen
      have hb := (brk_len 6 (prec t) (txt decI t)).1
      obtain ⟨c0, c1, c2, c3, c4⟩ := hcs
      simp only [Nat.zero_mul, Nat.add_zero] at c0 c1 c2 c3 c4
      rcases ho with rfl | rfl
      · exact text_un1 (fun lim => brk lim (prec t) (txt decI t)) _ _ _ _ _ _ _ b0 off c w (by omega) (AR t q cc hsz hft hA1 (by omega)) c0 c1 c2 c3 c4
      · exact text_un2 (fun lim => brk lim (prec t) (txt decI t)) _ _ _ _ _ _ _ b0 off c w (by omega) (AR t q cc hsz hft hA1 (by omega)) c0 c1 c2 c3 c4
    · obtain ⟨t, u, rfl⟩ := len2 hm
      obtain ⟨⟨b0, off, q, cc, rfl, hcs, hA1⟩, ⟨b0', off', q', cc', he2, hcs', hA2⟩, _⟩ := hA.2
      cases he2
      have hft : t.fe = 0 := by simpa using fes_get hfes 0 (by simp)
      have hfu : u.fe = 0 := by simpa using fes_get hfes 1 (by simp)
      have hsz : t.size ≤ n := by simp only [Ex.size, Ex.sizes] at he; omega
      have hsz2 : u.size ≤ n := by simp only [Ex.size, Ex.sizes] at he; omega
      have HT : txt decI (.mk 4 o [] 0 [t, u]) = brk (if (opOf o).prec = 3 then 4 else (opOf o).prec) (prec t) (txt decI t) ++ [32] ++ (opOf o).sign ++ [32] ++ brk ((opOf o).prec + 1) (prec u) (txt decI u) := by simp [txt, txts]
      rw [HT] at hlen ⊢
      have hl2 := hlen
      simp only [List.length_append, List.length_cons, List.length_nil] at hl2
      have hk : knownB o = true := by unfold knownB; simp; omega
      have b1 := (brk_len (if (opOf o).prec = 3 then 4 else (opOf o).prec) (prec t) (txt decI t)).1
      have b2 := (brk_len ((opOf o).prec + 1) (prec u) (txt decI u)).1
      have hcs1 : cells w b0 off t q cc := by simpa using hcs
      have hcs2 : cells w b0 (off + 5) u q' cc' := by simpa using hcs'
      refine text_bin (fun lim => brk lim (prec t) (txt decI t)) (fun lim => brk lim (prec u) (txt decI u)) o hk (.mk 4 o [] 0 [t, u]) ⟨rfl, rfl⟩ _ _ _ _ _ _ _ _ _ _ _ _ _ _ b0 off c w (fun W => ?_) (AR t q cc hsz hft hA1 (by omega)) (fun W hW => hcs1.below hW) (AR u q' cc' hsz2 hfu hA2 (by omega)) (fun W hW => hcs2.below hW) _ hlen rfl
      have := refPrec_any (.mk 4 o [] 0 [t, u]) (fun _ => hk) (some ⟨b0, off, none⟩) c W
      have hpr : prec (.mk 4 o [] 0 [t, u]) = (opOf o).prec := by unfold prec; rfl
      rw [hpr] at this
      exact this

set_option maxHeartbeats 1000000 in
set_option maxRecDepth 100000 in
theorem refPrint_any (e : Ex) (p : Option Addr) (c : Nat) (w : World) (hA : Ex.At w p e) : Gives Tryz.prog 16 #[e.val p c] w (.tuple #[sV (prR decI e).1, .int .i64 (prR decI e).2]) := by
  have C1 := Lib.hid (fun W (h : Ext w W) => show Gives _ _ #[.agg #[.int .i64 e.kind, .int .i64 e.op, sV e.name, .int .i64 e.value, .slice p e.args.length c]] _ _ from refChk_any e p c W (hA.below h))
  have C2 := Lib.hid (fun (h0 : e.chk = 0) W (h : Ext w W) => show Gives _ _ #[.agg #[.int .i64 e.kind, .int .i64 e.op, sV e.name, .int .i64 e.value, .slice p e.args.length c]] _ _ from text_any e.size e (Nat.le_refl _) (chk_zero h0).2.2 p c W (hA.below h) (txt_le h0))
  have hv : e.val p c = .agg #[.int .i64 e.kind, .int .i64 e.op, sV e.name, .int .i64 e.value, .slice p e.args.length c] := rfl
  rw [hv]
  clear hv hA
  unfold prR
  generalize txt decI e = tt at *
  generalize e.chk = ce at *
  generalize e.kind = k1 at *
  generalize e.op = o1 at *
  generalize e.name = n1 at *
  generalize e.value = v1 at *
  generalize e.args.length = l1 at *
  have HE0 := Lib.hid (show Ext (w.alloc (.cells #[.int .i64 k1, .int .i64 o1, sV n1, .int .i64 v1, .slice p l1 c] tEx)) (w.alloc (.cells #[.int .i64 k1, .int .i64 o1, sV n1, .int .i64 v1, .slice p l1 c] tEx)) from Below.refl _ _)
  unfold Gives
  by_cases h0 : ce = 0
  · subst h0
    have D2 := Lib.hid (C2.out rfl)
    rw [if_neg (by simp)]
    clear C2
    go_enter Tryz.func16, Tryz.ntmps16
    obtain ⟨b0, b1, b2, b3, b4, hW⟩ := HE0.out.box
    go_wp2_with fail
    refine (C1.out _ hW).mono ?_
    intro w1 hB
    have HE1 := Lib.hid (Ext.trans HE0.out hB)
    clear hB b0 b1 b2 b3 b4 hW
    obtain ⟨b0, b1, b2, b3, b4, hW⟩ := HE1.out.box
    go_wp2_with fail
    refine (D2.out _ hW).mono ?_
    intro w2 hB
    have HE2 := Lib.hid (Ext.trans HE1.out hB)
    clear hB b0 b1 b2 b3 b4 hW
    obtain ⟨b0, b1, b2, b3, b4, hW⟩ := HE2.out.box
    clear b0 b1 b2 b3 b4
    go_wp2
    go_ret2
    exact ⟨rfl, hW⟩
  · have h0' : (ce == 0) = false := by simpa using h0
    have h1' : (ce != 0) = true := by simpa using h0
    rw [if_pos h0]
    clear C2 h0
    go_enter Tryz.func16, Tryz.ntmps16
    obtain ⟨b0, b1, b2, b3, b4, hW⟩ := HE0.out.box
    go_wp2_with fail
    refine (C1.out _ hW).mono ?_
    intro w1 hB
    have HE1 := Lib.hid (Ext.trans HE0.out hB)
    clear hB b0 b1 b2 b3 b4 hW
    obtain ⟨b0, b1, b2, b3, b4, hW⟩ := HE1.out.box
    clear b0 b1 b2 b3 b4
    go_wp2
    go_ret2
    exact ⟨rfl, hW⟩

end Go.Proofs.YtgkalcboklhdgaaGreatDoor

namespace Go.Proofs.YtgkalcboklhdgaaGreatDoor
open Go.RowKit
set_option linter.unusedVariables false
set_option linter.unusedSimpArgs false
open Ex

set_option maxRecDepth 100000 in
set_option maxHeartbeats 2000000 in
/-- the reference's Equal -/
theorem refEqualX_any (a b : Ex) (p p' : Option Addr) (c c' : Nat) (w : World) (hA : Ex.At w p a) (hA' : Ex.At w p' b) :
    Gives Tryz.prog 23 #[a.val p c, b.val p' c'] w (.bool (a.chk == 0 && (b.chk == 0 && eqE a b))) := by
  have hv : a.val p c = .agg #[.int .i64 a.kind, .int .i64 a.op, sV a.name, .int .i64 a.value, .slice p a.args.length c] := rfl
  have hv' : b.val p' c' = .agg #[.int .i64 b.kind, .int .i64 b.op, sV b.name, .int .i64 b.value, .slice p' b.args.length c'] := rfl
  have C1 := Lib.hid (fun W (h : Ext w W) => show Gives _ _ #[.agg #[.int .i64 a.kind, .int .i64 a.op, sV a.name, .int .i64 a.value, .slice p a.args.length c]] _ _ from refChk_any a p c W (hA.below h))
  have C2 := Lib.hid (fun W (h : Ext w W) => show Gives _ _ #[.agg #[.int .i64 b.kind, .int .i64 b.op, sV b.name, .int .i64 b.value, .slice p' b.args.length c']] _ _ from refChk_any b p' c' W (hA'.below h))
  have C3 := Lib.hid (fun W (h : Ext w W) => show Gives _ _ #[.agg #[.int .i64 a.kind, .int .i64 a.op, sV a.name, .int .i64 a.value, .slice p a.args.length c], .agg #[.int .i64 b.kind, .int .i64 b.op, sV b.name, .int .i64 b.value, .slice p' b.args.length c']] _ _ from refSame_any a.size a (Nat.le_refl _) b p p' c c' W (hA.below h) (hA'.below h))
  rw [hv, hv']
  clear hv hv' hA hA'
  generalize eqE a b = r at *
  generalize a.chk = ca at *
  generalize b.chk = cb at *
  generalize a.args.length = l1 at *
  generalize b.args.length = l2 at *
  generalize a.kind = k1 at *
  generalize a.op = o1 at *
  generalize a.name = n1 at *
  generalize a.value = v1 at *
  generalize b.kind = k2 at *
  generalize b.op = o2 at *
  generalize b.name = n2 at *
  generalize b.value = v2 at *
  obtain ⟨hb1, hb2, hE⟩ := two_boxes w (.int .i64 k1) (.int .i64 o1) (sV n1) (.int .i64 v1) (.slice p l1 c) (.int .i64 k2) (.int .i64 o2) (sV n2) (.int .i64 v2) (.slice p' l2 c') tEx
  have Ka := Lib.hid hb1
  have Kb := Lib.hid hb2
  have HX := Lib.hid hE
  clear hb1 hb2 hE
  unfold Gives
  by_cases ha : ca = 0
  · subst ha
    by_cases hb : cb = 0
    · subst hb
      go_enter Tryz.func23, Tryz.ntmps23
      obtain ⟨a0, a1, a2, a3, a4, a5⟩ := box5 Ka.out
      have lta := lt_of_block Ka.out
      obtain ⟨b0, b1, b2, b3, b4, b5⟩ := box5 Kb.out
      have ltb := lt_of_block Kb.out
      go_wp2_with fail
      refine (C1.out _ HX.out).mono ?_
      intro w1 hE
      replace hE : Ext _ w1 := hE
      clear a0 a1 a2 a3 a4 a5 lta
      clear b0 b1 b2 b3 b4 b5 ltb
      replace Ka := Lib.hid ((hE.below.block _ (lt_of_block Ka.out)).trans Ka.out)
      replace Kb := Lib.hid ((hE.below.block _ (lt_of_block Kb.out)).trans Kb.out)
      replace HX := Lib.hid (Ext.trans HX.out hE)
      clear hE
      obtain ⟨a0, a1, a2, a3, a4, a5⟩ := box5 Ka.out
      have lta := lt_of_block Ka.out
      obtain ⟨b0, b1, b2, b3, b4, b5⟩ := box5 Kb.out
      have ltb := lt_of_block Kb.out
      go_wp2_with fail
      refine (C2.out _ HX.out).mono ?_
      intro w2 hE
      replace hE : Ext _ w2 := hE
      clear a0 a1 a2 a3 a4 a5 lta
      clear b0 b1 b2 b3 b4 b5 ltb
      replace Ka := Lib.hid ((hE.below.block _ (lt_of_block Ka.out)).trans Ka.out)
      replace Kb := Lib.hid ((hE.below.block _ (lt_of_block Kb.out)).trans Kb.out)
      replace HX := Lib.hid (Ext.trans HX.out hE)
      clear hE
      obtain ⟨a0, a1, a2, a3, a4, a5⟩ := box5 Ka.out
      have lta := lt_of_block Ka.out
      obtain ⟨b0, b1, b2, b3, b4, b5⟩ := box5 Kb.out
      have ltb := lt_of_block Kb.out
      go_wp2_with fail
      refine (C3.out _ HX.out).mono ?_
      intro w3 hE
      replace hE : Ext _ w3 := hE
      clear a0 a1 a2 a3 a4 a5 lta
      clear b0 b1 b2 b3 b4 b5 ltb
      replace Ka := Lib.hid ((hE.below.block _ (lt_of_block Ka.out)).trans Ka.out)
      replace Kb := Lib.hid ((hE.below.block _ (lt_of_block Kb.out)).trans Kb.out)
      replace HX := Lib.hid (Ext.trans HX.out hE)
      clear hE
      obtain ⟨a0, a1, a2, a3, a4, a5⟩ := box5 Ka.out
      have lta := lt_of_block Ka.out
      obtain ⟨b0, b1, b2, b3, b4, b5⟩ := box5 Kb.out
      have ltb := lt_of_block Kb.out
      clear a0 a1 a2 a3 a4 a5 lta
      clear b0 b1 b2 b3 b4 b5 ltb
      go_wp2
      go_ret
      exact ⟨rfl, HX.out⟩
    · have g1 : (cb == 0) = false := by simpa using hb
      have G := Lib.hid (show (((0 : Int) == 0) && ((cb == 0) && r)) = false by rw [g1]; rfl)
      generalize (((0 : Int) == 0) && ((cb == 0) && r)) = R at *
      go_enter Tryz.func23, Tryz.ntmps23
      obtain ⟨a0, a1, a2, a3, a4, a5⟩ := box5 Ka.out
      have lta := lt_of_block Ka.out
      obtain ⟨b0, b1, b2, b3, b4, b5⟩ := box5 Kb.out
      have ltb := lt_of_block Kb.out
      go_wp2_with fail
      refine (C1.out _ HX.out).mono ?_
      intro w1 hE
      replace hE : Ext _ w1 := hE
      clear a0 a1 a2 a3 a4 a5 lta
      clear b0 b1 b2 b3 b4 b5 ltb
      replace Ka := Lib.hid ((hE.below.block _ (lt_of_block Ka.out)).trans Ka.out)
      replace Kb := Lib.hid ((hE.below.block _ (lt_of_block Kb.out)).trans Kb.out)
      replace HX := Lib.hid (Ext.trans HX.out hE)
      clear hE
      obtain ⟨a0, a1, a2, a3, a4, a5⟩ := box5 Ka.out
      have lta := lt_of_block Ka.out
      obtain ⟨b0, b1, b2, b3, b4, b5⟩ := box5 Kb.out
      have ltb := lt_of_block Kb.out
      go_wp2_with fail
      refine (C2.out _ HX.out).mono ?_
      intro w2 hE
      replace hE : Ext _ w2 := hE
      clear a0 a1 a2 a3 a4 a5 lta
      clear b0 b1 b2 b3 b4 b5 ltb
      replace Ka := Lib.hid ((hE.below.block _ (lt_of_block Ka.out)).trans Ka.out)
      replace Kb := Lib.hid ((hE.below.block _ (lt_of_block Kb.out)).trans Kb.out)
      replace HX := Lib.hid (Ext.trans HX.out hE)
      clear hE
      obtain ⟨a0, a1, a2, a3, a4, a5⟩ := box5 Ka.out
      have lta := lt_of_block Ka.out
      obtain ⟨b0, b1, b2, b3, b4, b5⟩ := box5 Kb.out
      have ltb := lt_of_block Kb.out
      clear a0 a1 a2 a3 a4 a5 lta
      clear b0 b1 b2 b3 b4 b5 ltb
      go_wp2
      go_ret
      exact ⟨by rw [G.out]; rfl, HX.out⟩
  · have g1 : (ca == 0) = false := by simpa using ha
    have G := Lib.hid (show ((ca == 0) && ((cb == 0) && r)) = false by rw [g1]; rfl)
    generalize ((ca == 0) && ((cb == 0) && r)) = R at *
    go_enter Tryz.func23, Tryz.ntmps23
    obtain ⟨a0, a1, a2, a3, a4, a5⟩ := box5 Ka.out
    have lta := lt_of_block Ka.out
    obtain ⟨b0, b1, b2, b3, b4, b5⟩ := box5 Kb.out
    have ltb := lt_of_block Kb.out
    go_wp2_with fail
    refine (C1.out _ HX.out).mono ?_
    intro w1 hE
    replace hE : Ext _ w1 := hE
    clear a0 a1 a2 a3 a4 a5 lta
    clear b0 b1 b2 b3 b4 b5 ltb
    replace Ka := Lib.hid ((hE.below.block _ (lt_of_block Ka.out)).trans Ka.out)
    replace Kb := Lib.hid ((hE.below.block _ (lt_of_block Kb.out)).trans Kb.out)
    replace HX := Lib.hid (Ext.trans HX.out hE)
    clear hE
    obtain ⟨a0, a1, a2, a3, a4, a5⟩ := box5 Ka.out
    have lta := lt_of_block Ka.out
    obtain ⟨b0, b1, b2, b3, b4, b5⟩ := box5 Kb.out
    have ltb := lt_of_block Kb.out
    clear a0 a1 a2 a3 a4 a5 lta
    clear b0 b1 b2 b3 b4 b5 ltb
    go_wp2
    go_ret
    exact ⟨by rw [G.out]; rfl, HX.out⟩

end Go.Proofs.YtgkalcboklhdgaaGreatDoor

namespace Go.Proofs.YtgkalcboklhdgaaGreatDoor
set_option linter.unusedVariables false
set_option linter.unusedSimpArgs false
open Ex

theorem less_iff : ∀ a b : List UInt8, Op.bytesLess a b = true ↔ a < b
  | [], [] => by simp [Op.bytesLess]
  | _ :: _, [] => by simp [Op.bytesLess]
  | [], _ :: _ => by simp [Op.bytesLess]
  | a :: x, b :: y => by
    rw [List.cons_lt_cons_iff, ← less_iff x y]
    simp [Op.bytesLess]
theorem lt_asymm' {a b : List UInt8} (h : a < b) (g : b < a) : False := List.lt_irrefl a (List.lt_trans h g)
theorem strict_unique : ∀ {l m : List (List UInt8)}, l.Pairwise (· < ·) → m.Pairwise (· < ·) → (∀ x, x ∈ l ↔ x ∈ m) → l = m
  | [], [], _, _, _ => rfl
  | [], y :: ys, _, _, h => by have := (h y).2 (by simp); cases this
  | x :: xs, [], _, _, h => by have := (h x).1 (by simp); cases this
  | x :: xs, y :: ys, hl, hm, h => by
    rw [List.pairwise_cons] at hl hm
    have e : x = y := by
      rcases List.mem_cons.1 ((h x).1 (by simp)) with e | h1
      · exact e
      · rcases List.mem_cons.1 ((h y).2 (by simp)) with e | h2
        · exact e.symm
        · exact (lt_asymm' (hm.1 x h1) (hl.1 y h2)).elim
    subst e
    rw [strict_unique hl.2 hm.2 (fun z => ⟨fun hz => ?_, fun hz => ?_⟩)]
    · rcases List.mem_cons.1 ((h z).1 (List.mem_cons_of_mem _ hz)) with e | h1
      · subst e; exact (List.lt_irrefl _ (hl.1 z hz)).elim
      · exact h1
    · rcases List.mem_cons.1 ((h z).2 (List.mem_cons_of_mem _ hz)) with e | h1
      · subst e; exact (List.lt_irrefl _ (hm.1 z hz)).elim
      · exact h1
/-- a name put where it belongs -/
def ins : List (List UInt8) → List UInt8 → List (List UInt8)
  | [], s => [s]
  | x :: xs, s => if Op.bytesLess s x then s :: x :: xs else x :: ins xs s
def insS (l : List (List UInt8)) (s : List UInt8) : List (List UInt8) := if s ∈ l then l else ins l s
theorem mem_ins : ∀ (l : List (List UInt8)) (s x : List UInt8), x ∈ ins l s ↔ x = s ∨ x ∈ l
  | [], s, x => by simp [ins]
  | y :: ys, s, x => by
    unfold ins
    split
    · simp
    · simp only [List.mem_cons, mem_ins ys s x]
      constructor
      · rintro (h | h | h)
        · exact .inr (.inl h)
        · exact .inl h
        · exact .inr (.inr h)
      · rintro (h | h | h)
        · exact .inr (.inl h)
        · exact .inl h
        · exact .inr (.inr h)
theorem ins_strict : ∀ (l : List (List UInt8)) (s : List UInt8), l.Pairwise (· < ·) → s ∉ l → (ins l s).Pairwise (· < ·)
  | [], s, _, _ => by simp [ins]
  | y :: ys, s, hl, hs => by
    unfold ins
    rw [List.pairwise_cons] at hl
    split
    · rename_i h
      have h' := (less_iff s y).1 h
      rw [List.pairwise_cons, List.pairwise_cons]
      refine ⟨fun z hz => ?_, hl.1, hl.2⟩
      rcases List.mem_cons.1 hz with rfl | hz
      · exact h'
      · exact List.lt_trans h' (hl.1 z hz)
    · rename_i h
      have h' : ¬ s < y := fun g => h ((less_iff s y).2 g)
      have hlt : y < s := by
        rcases List.le_total y s with g | g
        · exact Classical.byContradiction fun hn => by
            have := List.le_antisymm g (show s ≤ y from hn)
            subst this; simp at hs
        · exact Classical.byContradiction fun hn => by
            have := List.le_antisymm g (show y ≤ s from h')
            subst this; simp at hs
      rw [List.pairwise_cons]
      refine ⟨fun z hz => ?_, ins_strict ys s hl.2 (fun h => hs (List.mem_cons_of_mem _ h))⟩
      rcases (mem_ins ys s z).1 hz with rfl | hz
      · exact hlt
      · exact hl.1 z hz
theorem insS_spec (l : List (List UInt8)) (s : List UInt8) (h : l.Pairwise (· < ·)) : (insS l s).Pairwise (· < ·) ∧ ∀ x, x ∈ insS l s ↔ x = s ∨ x ∈ l := by
  unfold insS
  by_cases hs : s ∈ l
  · rw [if_pos hs]
    exact ⟨h, fun x => ⟨.inr, fun g => g.elim (fun e => by rw [e]; exact hs) id⟩⟩
  · rw [if_neg hs]
    exact ⟨ins_strict l s h hs, mem_ins l s⟩
theorem fold_spec : ∀ (L l : List (List UInt8)), l.Pairwise (· < ·) → (L.foldl insS l).Pairwise (· < ·) ∧ ∀ x, x ∈ L.foldl insS l ↔ x ∈ L ∨ x ∈ l
  | [], l, h => ⟨h, fun x => by simp⟩
  | s :: L, l, h => by
    obtain ⟨h1, h2⟩ := insS_spec l s h
    obtain ⟨h3, h4⟩ := fold_spec L (insS l s) h1
    refine ⟨h3, fun x => ?_⟩
    rw [List.foldl_cons, h4 x, h2 x, List.mem_cons]
    constructor
    · rintro (h | h | h)
      · exact .inl (.inr h)
      · exact .inl (.inl h)
      · exact .inr h
    · rintro ((h | h) | h)
      · exact .inr (.inl h)
      · exact .inl h
      · exact .inr (.inr h)
theorem compact_spec (d : Array (List UInt8)) (hd : ∀ i j, i ≤ j → j < d.size → d[i]! ≤ d[j]!) : ∀ m, m ≤ d.size → (Lib.compactUpTo d m).Pairwise (· < ·) ∧ ∀ x, x ∈ Lib.compactUpTo d m ↔ ∃ i, i < m ∧ d[i]! = x := by
  intro m
  induction m with
  | zero => intro _; exact ⟨by simp [Lib.compactUpTo], fun x => by simp [Lib.compactUpTo]⟩
  | succ m ih =>
    intro hm
    obtain ⟨h1, h2⟩ := ih (by omega)
    rw [Lib.compactUpTo_succ]
    by_cases hk : Lib.keeps d m = true
    · rw [if_pos hk]
      refine ⟨?_, fun x => ?_⟩
      · rw [List.pairwise_append]
        refine ⟨h1, by simp, fun x hx y hy => ?_⟩
        obtain rfl : y = d[m]! := by simpa using hy
        obtain ⟨i, hi, rfl⟩ := (h2 x).1 hx
        have hne : d[m]! ≠ d[m - 1]! := by
          have := of_decide_eq_true hk
          rcases this with h | h
          · omega
          · exact h
        have a := hd i (m - 1) (by omega) (by omega)
        have b := hd (m - 1) m (by omega) (by omega)
        have c : d[i]! ≤ d[m]! := hd i m (by omega) (by omega)
        refine Classical.byContradiction fun hn => ?_
        have e := List.le_antisymm c (show d[m]! ≤ d[i]! from hn)
        rw [e] at a
        exact hne (List.le_antisymm a b)
      · rw [List.mem_append, h2 x]
        constructor
        · rintro (⟨i, hi, e⟩ | h)
          · exact ⟨i, by omega, e⟩
          · exact ⟨m, by omega, (List.mem_singleton.1 h).symm⟩
        · rintro ⟨i, hi, e⟩
          by_cases h : i = m
          · subst h; exact .inr (by simp [e])
          · exact .inl ⟨i, by omega, e⟩
    · rw [if_neg hk, List.append_nil]
      refine ⟨h1, fun x => ?_⟩
      rw [h2 x]
      have hne : m ≠ 0 ∧ d[m]! = d[m - 1]! := by
        unfold Lib.keeps at hk
        simp only [decide_eq_true_eq, not_or, Classical.not_not] at hk
        exact ⟨hk.1, hk.2⟩
      constructor
      · rintro ⟨i, hi, e⟩; exact ⟨i, by omega, e⟩
      · rintro ⟨i, hi, e⟩
        by_cases h : i = m
        · subst h; exact ⟨i - 1, by omega, by rw [← hne.2]; exact e⟩
        · exact ⟨i, by omega, e⟩
/-- sorted without repetition, two ways -/
theorem sorted_eq (L : List (List UInt8)) : Lib.compact (L.mergeSort fun x y => decide (x ≤ y)) = L.foldl insS [] := by
  have hs := List.pairwise_mergeSort (le := fun x y : List UInt8 => decide (x ≤ y)) (fun a b c h1 h2 => by simp only [decide_eq_true_eq] at h1 h2 ⊢; exact List.le_trans h1 h2) (fun a b => by simp only [Bool.or_eq_true, decide_eq_true_eq]; exact List.le_total a b) L
  have hm : ∀ x, x ∈ L.mergeSort (fun x y => decide (x ≤ y)) ↔ x ∈ L := fun x => List.mem_mergeSort
  generalize L.mergeSort (fun x y => decide (x ≤ y)) = S at *
  have hd : ∀ i j, i ≤ j → j < S.toArray.size → S.toArray[i]! ≤ S.toArray[j]! := by
    intro i j hij hj
    have hj' : j < S.length := by simpa using hj
    by_cases e : i = j
    · subst e; exact List.lt_irrefl _
    · have := List.pairwise_iff_getElem.1 hs i j (by omega) hj' (by omega)
      simp only [decide_eq_true_eq] at this
      rw [getElem!_pos S.toArray i (by simp; omega), getElem!_pos S.toArray j hj]
      simpa using this
  obtain ⟨h1, h2⟩ := compact_spec S.toArray hd S.length (by simp)
  obtain ⟨h3, h4⟩ := fold_spec L [] (by simp)
  refine strict_unique h1 h3 (fun x => ?_)
  show x ∈ Lib.compactUpTo S.toArray S.length ↔ _
  rw [h2 x, h4 x, ← hm x]
  constructor
  · rintro ⟨i, hi, rfl⟩
    left
    rw [getElem!_pos S.toArray i (by simpa using hi)]
    simp
  · rintro (h | h)
    · obtain ⟨i, hi, rfl⟩ := List.getElem_of_mem h
      exact ⟨i, hi, by rw [getElem!_pos S.toArray i (by simpa using hi)]; simp⟩
    · cases h

mutual
/-- the names of an expression, in preorder -/
def nmE : Ex → List (List UInt8)
  | .mk k o n v ts => if k = 2 then [n] else nmL ts
def nmL : List Ex → List (List UInt8)
  | [] => []
  | t :: ts => nmE t ++ nmL ts
end
/-- the names of parts -/
def nmP : List PEx → List (List UInt8)
  | [] => []
  | d :: ds => (if d.er.kind = 2 then [d.er.name] else []) ++ nmP ds
theorem nmP_app (a b : List PEx) : nmP (a ++ b) = nmP a ++ nmP b := by
  induction a with
  | nil => rfl
  | cons d a ih => simp only [List.cons_append, nmP, ih, List.append_assoc]
mutual
theorem nmP_pre : ∀ d : PEx, d.er.fe = 0 → nmP d.pre = nmE d.er
  | .mk k o n v p c ts, h => by
    simp only [PEx.pre, PEx.er, nmP, nmE, Ex.kind, Ex.name]
    have h' : (Ex.mk k o n v (PEx.ers ts)).fe = 0 := h
    obtain ⟨hpc, hfes⟩ := fe_mk h'
    by_cases hk : k = 2
    · subst hk
      have hl : (PEx.ers ts).length = 0 := by
        rcases pc_zero hpc with ⟨h0, _⟩ | ⟨_, _, _, hm, _⟩ | ⟨h0, _⟩ | ⟨h0, _⟩
        · cases h0
        · exact hm
        · cases h0
        · cases h0
      rw [PEx.ers_length] at hl
      obtain rfl := List.eq_nil_of_length_eq_zero hl
      simp [PEx.pres, nmP]
    · simp only [hk, if_false, List.nil_append]
      exact nmP_pres ts hfes
theorem nmP_pres : ∀ ts : List PEx, fes (PEx.ers ts) = 0 → nmP (PEx.pres ts) = nmL (PEx.ers ts)
  | [], _ => rfl
  | d :: ds, h => by
    simp only [PEx.ers, Ex.fes] at h
    have hd : d.er.fe = 0 := by
      by_cases h0 : d.er.fe = 0
      · exact h0
      · rw [if_pos h0] at h; exact absurd h h0
    rw [if_neg (by simp [hd])] at h
    simp only [PEx.pres, PEx.ers, nmL, nmP_app]
    rw [nmP_pre d hd, nmP_pres ds h]
end
theorem nmL_take (ts : List Ex) (j : Nat) (h : j < ts.length) : nmL (ts.take (j + 1)) = nmL (ts.take j) ++ nmE ts[j] := by
  induction ts generalizing j with
  | nil => simp at h
  | cons t ts ih =>
    cases j with
    | zero => simp [nmL]
    | succ j =>
      simp only [List.take_succ_cons, nmL, List.getElem_cons_succ]
      rw [ih j (by simpa using h), List.append_assoc]
mutual
theorem nmE_size : ∀ e : Ex, (nmE e).length ≤ e.size
  | .mk k o n v ts => by
    simp only [nmE, Ex.size]
    have := nmL_size ts
    split
    · simp <;> omega
    · omega
theorem nmL_size : ∀ ts : List Ex, (nmL ts).length ≤ sizes ts
  | [] => by simp [nmL]
  | t :: ts => by simp only [nmL, sizes, List.length_append]; have := nmE_size t; have := nmL_size ts; omega
end
/-- what Names yields -/
def nmR (e : Ex) : List (List UInt8) := if e.chk ≠ 0 then [] else (nmE e).foldl insS []

end Go.Proofs.YtgkalcboklhdgaaGreatDoor

namespace Go.Proofs.YtgkalcboklhdgaaGreatDoor
open Go.RowKit
set_option linter.unusedVariables false
set_option linter.unusedSimpArgs false

/-- v is a slice of strings of the call's own, holding l -/
def RowS (base : Nat) (v : Value) (l : List (List UInt8)) (w : World) : Prop := w.ownsRow base 9 1 v l.length (l.map sV)
theorem infoS' : (Tryz.prog.info? 9).map (fun i => (i.zero, i.size, i.bytes)) = some (some (sV []), 1, 16) := by kernel_rfl
theorem RowS.nil (base : Nat) (w : World) : RowS base (.slice none 0 0) [] w := World.ownsRow_nil _ _ _ _
theorem RowS.empty (w : World) (base : Nat) (hb : base ≤ w.heap.size) : RowS base (.slice (some ⟨w.heap.size, 0, none⟩) 0 0) [] (w.alloc (.cells #[] 9)) :=
  World.ownsRow_lit w #[] 0 hb (by unfold maxLen; omega) (by simp)
theorem RowS.ext {base : Nat} {v : Value} {l : List (List UInt8)} {w w' : World} (h : RowS base v l w) (hb : Below w.heap.size w w') : RowS base v l w' := ownsRow_extI h hb
theorem RowS.forms {base : Nat} {v : Value} {l : List (List UInt8)} {w : World} (h : RowS base v l w) : (v = .slice none 0 0 ∧ l.length = 0) ∨ ∃ g cap, v = .slice (some ⟨g, 0, none⟩) l.length cap := Go.Joins.ownsRow_forms h
theorem RowS.le {base base' : Nat} {v : Value} {l : List (List UInt8)} {w : World} (h : RowS base v l w) (hb : base' ≤ base) : RowS base' v l w := by
  obtain ⟨h1, h2⟩ := h
  refine ⟨h1, ?_⟩
  rcases h2 with h0 | ⟨g, cap, cur, hv, hbg, hrest⟩
  · exact .inl h0
  · exact .inr ⟨g, cap, cur, hv, Nat.le_trans hb hbg, hrest⟩
/-- the slice v holds the strings l -/
def StrsAt (w : World) (x : Option Addr) (l : List (List UInt8)) : Prop := ∀ i (h : i < l.length), ∃ b off, x = some ⟨b, off, none⟩ ∧ w.cell? ⟨b, off + i, none⟩ = some (sV l[i])
theorem StrsAt.below {w W : World} {x : Option Addr} {l : List (List UInt8)} (h : StrsAt w x l) (hE : Below w.heap.size w W) : StrsAt W x l := fun i hi => by
  obtain ⟨b, off, e, hc⟩ := h i hi
  exact ⟨b, off, e, (hE.cell (p := ⟨b, off + i, none⟩) (cell_lt hc)).trans hc⟩
theorem RowS.strs {base : Nat} {v : Value} {l : List (List UInt8)} {w : World} (h : RowS base v l w) : ∃ x c, v = .slice x l.length c ∧ StrsAt w x l := by
  rcases h.forms with ⟨rfl, h0⟩ | ⟨g, cap, rfl⟩
  · obtain rfl := List.eq_nil_of_length_eq_zero h0
    exact ⟨none, 0, rfl, fun i hi => by simp at hi⟩
  · refine ⟨_, _, rfl, fun i hi => ⟨_, _, rfl, ?_⟩⟩
    rw [Nat.zero_add, World.ownsRow.cellAt h i (by omega)]
    simp [hi]
variable {ops : Array Oper} {rest : List Oper} {o : Oper} {a : Act} {Q : Exit → Act → World → Prop}
theorem wp_appS (hgd : o.guard = none) (s x : Operand) (ho : o.op = .call { callee := .builtin .append, args := #[s, x], argTypes := #[33, 33] })
    (base : Nat) (v : Value) (l : List (List UInt8)) (hs : a.eval s = v) (W : World) (h : RowS base v l W) (n : List UInt8) (hx : a.eval x = .slice (some ⟨W.heap.size, 0, none⟩) 1 1) (hlen : l.length ≤ 100000000000) (hbase : base ≤ W.heap.size)
    (hK : ∀ v' w', RowS base v' (l ++ [n]) w' → Below base W w' → wpList Tryz.prog ops Q rest (a.put o.dst v') w') : wpList Tryz.prog ops Q (o :: rest) a (W.alloc (.cells #[sV n] 9)) := by
  obtain ⟨i0, hi, hz0, hz1, hz2⟩ := info_parts infoS'
  refine wpList_append_own _ hgd s x 33 ho base 9 i0 (sV []) 1 16 Tryz.underlying33 hi hz0 hz1 hz2 rfl (by decide) v l.length (l.map sV) hs (World.ownsRow.alloc h _) ⟨W.heap.size, 0, none⟩ 1 1 [sV n] hx rfl (cell_one_new _ _ _) (by simp [Value.oneCell']) (by unfold maxLen; omega) (by omega) (by simp <;> omega) ?_
  intro v' w' hown hg _
  refine hK v' w' ?_ ?_
  · unfold RowS
    simpa using hown
  · exact ((Below.refl base W).alloc hbase _).grown hg (by simp; omega) (fun k e => (World.ownsRow.lt h k e).1)

/-- what insert has made of the first j -/
def isD (ls : List (List UInt8)) (s : List UInt8) (j : Nat) : Bool := (ls.take j).any (fun x => Op.bytesLess s x)
def isO (ls : List (List UInt8)) (s : List UInt8) (j : Nat) : List (List UInt8) := if isD ls s j then ins (ls.take j) s else ls.take j
theorem ins_no : ∀ (l : List (List UInt8)) (s : List UInt8), l.any (fun x => Op.bytesLess s x) = false → ins l s = l ++ [s]
  | [], s, _ => rfl
  | y :: ys, s, h => by
    simp only [List.any_cons, Bool.or_eq_false_iff] at h
    unfold ins
    rw [if_neg (by simp [h.1]), ins_no ys s h.2]; rfl
theorem ins_done : ∀ (l : List (List UInt8)) (s x : List UInt8), l.any (fun x => Op.bytesLess s x) = true → ins (l ++ [x]) s = ins l s ++ [x]
  | [], s, x, h => by simp at h
  | y :: ys, s, x, h => by
    simp only [List.cons_append]
    unfold ins
    by_cases hy : Op.bytesLess s y = true
    · rw [if_pos hy, if_pos hy]; rfl
    · rw [if_neg hy, if_neg hy]
      simp only [List.any_cons, hy, Bool.false_or] at h
      rw [ins_done ys s x (by simpa using h)]; rfl
theorem ins_here : ∀ (l : List (List UInt8)) (s x : List UInt8), l.any (fun x => Op.bytesLess s x) = false → Op.bytesLess s x = true → ins (l ++ [x]) s = l ++ [s] ++ [x]
  | [], s, x, _, hx => by simp [ins, hx]
  | y :: ys, s, x, h, hx => by
    simp only [List.any_cons, Bool.or_eq_false_iff] at h
    simp only [List.cons_append]
    unfold ins
    rw [if_neg (by simp [h.1]), ins_here ys s x h.2 hx]
theorem isD_succ (ls : List (List UInt8)) (s : List UInt8) (j : Nat) (h : j < ls.length) : isD ls s (j + 1) = (isD ls s j || Op.bytesLess s ls[j]) := by
  unfold isD
  rw [List.take_succ_eq_append_getElem h, List.any_append]; simp
theorem isO_done (ls : List (List UInt8)) (s : List UInt8) (j : Nat) (h : j < ls.length) (hd : isD ls s j = true) : isO ls s (j + 1) = isO ls s j ++ [ls[j]] := by
  unfold isO
  rw [isD_succ ls s j h, hd, Bool.true_or, if_pos rfl, if_pos rfl, List.take_succ_eq_append_getElem h]
  exact ins_done _ _ _ hd
theorem isO_here (ls : List (List UInt8)) (s : List UInt8) (j : Nat) (h : j < ls.length) (hd : isD ls s j = false) (hx : Op.bytesLess s ls[j] = true) : isO ls s (j + 1) = isO ls s j ++ [s] ++ [ls[j]] := by
  unfold isO
  rw [isD_succ ls s j h, hd, hx, Bool.or_true, if_pos rfl, if_neg (by simp), List.take_succ_eq_append_getElem h]
  exact ins_here _ _ _ hd hx
theorem isO_not (ls : List (List UInt8)) (s : List UInt8) (j : Nat) (h : j < ls.length) (hd : isD ls s j = false) (hx : Op.bytesLess s ls[j] = false) : isO ls s (j + 1) = isO ls s j ++ [ls[j]] := by
  unfold isO
  rw [isD_succ ls s j h, hd, hx, Bool.or_false, if_neg (by simp), if_neg (by simp), List.take_succ_eq_append_getElem h]
theorem isO_end (ls : List (List UInt8)) (s : List UInt8) (j : Nat) (h : ¬ j < ls.length) : (isD ls s j = true → isO ls s j = ins ls s) ∧ (isD ls s j = false → isO ls s j ++ [s] = ins ls s) := by
  unfold isO isD
  rw [List.take_of_length_le (by omega)]
  constructor
  · intro hd; rw [if_pos hd]
  · intro hd; rw [if_neg (by simp [hd]), ins_no _ _ hd]
theorem isO_len (ls : List (List UInt8)) (s : List UInt8) (j : Nat) : (isO ls s j).length ≤ ls.length + 1 := by
  have hi : ∀ l : List (List UInt8), (ins l s).length = l.length + 1 := by
    intro l
    induction l with
    | nil => rfl
    | cons y ys ih => unfold ins; split <;> simp [ih]
  unfold isO
  split
  · rw [hi]; simp <;> omega
  · simp <;> omega

set_option maxRecDepth 100000 in
set_option maxHeartbeats 4000000 in
theorem insert_any (ls : List (List UInt8)) (s : List UInt8) (base : Nat) (v : Value) (w : World) (hlen : ls.length ≤ 1000000000) (hr : RowS base v ls w) (hb : base ≤ w.heap.size) :
    Calls Tryz.prog 74 #[v, sV s] w fun e w' => ∃ v', e = .returned v' ∧ RowS base v' (insS ls s) w' ∧ Ext w w' := by
  have HR0 := Lib.hid hr
  obtain ⟨x, c, rfl, hS⟩ := hr.strs
  have HS := Lib.hid hS
  have HI := Lib.hid (show s ∉ ls → insS ls s = ins ls s from fun h => by unfold insS; rw [if_neg h])
  have HJ := Lib.hid (show s ∈ ls → insS ls s = ls from fun h => by unfold insS; rw [if_pos h])
  have HE0 := Lib.hid (show Ext w (w.alloc (.cells #[] 9)) from (Below.refl w.heap.size w).alloc (Nat.le_refl _) _)
  have HW0 := Lib.hid (RowS.empty w w.heap.size (Nat.le_refl _))
  have HD0 := Lib.hid (show isD ls s 0 = false ∧ isO ls s 0 = [] by simp [isD, isO])
  have HDN := Lib.hid (fun j h hd => isO_done ls s j h hd)
  have HHR := Lib.hid (fun j h hd hx => isO_here ls s j h hd hx)
  have HNT := Lib.hid (fun j h hd hx => isO_not ls s j h hd hx)
  have HSC := Lib.hid (fun j h => isD_succ ls s j h)
  have HEN := Lib.hid (fun j h => isO_end ls s j h)
  have HOL := Lib.hid (fun j => isO_len ls s j)
  obtain ⟨n, hn⟩ : ∃ n, ls.length = n := ⟨_, rfl⟩
  have HN := Lib.hid hn
  clear hr hS
  rw [hn] at hlen ⊢
  clear hn
  go_enter Tryz.func74, Tryz.ntmps74
  go_wp2
  go_loopw [5, 6, 7] (fun vo dn i wr => ∃ j : Nat, j ≤ n ∧ i = .int .i64 (j : Int) ∧ dn = .bool (isD ls s j) ∧ s ∉ ls.take j ∧ RowS w.heap.size vo (isO ls s j) wr ∧ Ext w wr) (fun _ _ i _ => n - (intOf i).toNat)
  case atStart => exact ⟨0, Nat.zero_le _, rfl, by rw [HD0.out.1], by simp, by rw [HD0.out.2]; exact HW0.out, HE0.out⟩
  case round =>
    obtain ⟨j, hj, rfl, rfl, hno, hro, hE⟩ := hrel
    have HNO := Lib.hid hno
    have HRO := Lib.hid hro
    have HE := Lib.hid hE
    clear hno hro hE
    by_cases hlt : j < n
    · have hjl : j < ls.length := by rw [HN.out]; exact hlt
      have HBL := Lib.hid (fun b off (h : x = some ⟨b, off, none⟩) => show b < w.heap.size by
        obtain ⟨b', off', e', hc'⟩ := HS.out j hjl
        rw [h] at e'; cases e'
        exact cell_lt hc')
      obtain ⟨b, off, rfl, c0⟩ := HS.out.below HE.out j hjl
      have HTK := Lib.hid (List.take_succ_eq_append_getElem hjl)
      have DN := Lib.hid (HDN.out j hjl)
      have HR := Lib.hid (HHR.out j hjl)
      have NT := Lib.hid (HNT.out j hjl)
      have SC := Lib.hid (HSC.out j hjl)
      have HME := Lib.hid (fun h : ls[j] = s => show s ∈ ls from h ▸ List.getElem_mem hjl)
      have hol := HOL.out j
      rw [HN.out] at hol
      have hlt0 := cell_lt c0
      generalize ls[j] = y at *
      by_cases hy : y = s
      · subst hy
        have HIN := Lib.hid (HJ.out (HME.out rfl))
        go_wp2
        go_ret
        refine ⟨_, rfl, ?_, HE.out⟩
        rw [HIN.out]
        have h := HR0.out.ext HE.out
        rw [HN.out] at h
        exact h
      · have hy1 : (y == s) = false := by simpa using hy
        have HNX := Lib.hid (show s ∉ ls.take (j + 1) by rw [HTK.out]; simp only [List.mem_append, List.mem_singleton]; rintro (h | h); exact HNO.out h; exact hy h.symm)
        clear hy
        have hro := HRO.out
        have hbs : w.heap.size ≤ wr.heap.size := HE.out.size
        have hol : (isO ls s j).length ≤ 100000000000 := by omega
        have HLB := Lib.hid (show b < w.heap.size from HBL.out b off rfl)
        have HL3 := Lib.hid (show (isO ls s j ++ [s]).length ≤ 100000000000 by simp; omega)
        generalize hdn : isD ls s j = dn at *
        cases dn with
        | true =>
          have HDD := Lib.hid (show isD ls s (j + 1) = true by rw [SC.out]; rfl)
          have HON := Lib.hid (DN.out rfl)
          clear hdn DN HR NT SC
          go_wp2_with (at_builtin; refine wp_appS rfl _ _ (by rfl) w.heap.size _ _ (by rfl) _ hro y (by rfl) hol hbs ?_; intro v' w3 hr3 hB3; have HB3 := Lib.hid hB3; have HR3 := Lib.hid hr3; clear hB3 hr3 hro)
          go_roundw
          case rel => exact ⟨j + 1, by omega, by go_num, by rw [HDD.out], HNX.out, by rw [HON.out]; exact HR3.out, Below.trans HE.out HB3.out⟩
          case measure => simp [intOf]; omega
        | false =>
          by_cases hls : Op.bytesLess s y = true
          · have HDD := Lib.hid (show isD ls s (j + 1) = true by rw [SC.out, hls]; rfl)
            have HON := Lib.hid (HR.out rfl hls)
            clear hdn DN HR NT SC
            have tok1 : True := trivial
            go_wp2_with (first
              | (at_builtin; have _t := tok1; refine wp_appS rfl _ _ (by rfl) w.heap.size _ _ (by rfl) _ hro s (by rfl) hol hbs ?_; intro v' w3 hr3 hB3; have hb3 : w.heap.size ≤ w3.heap.size := Nat.le_trans hbs hB3.size; have hl3 : (isO ls s j ++ [s]).length ≤ 100000000000 := HL3.out; have c3 : w3.cell? ⟨b, off + j, none⟩ = some (sV y) := (hB3.cell (p := ⟨b, off + j, none⟩) HLB.out).trans c0; have HB3 := Lib.hid hB3; clear hB3 tok1 _t hro c0; have tok2 : True := trivial)
              | (at_builtin; have _t := tok2; refine wp_appS rfl _ _ (by rfl) w.heap.size _ _ (by rfl) _ hr3 y (by rfl) hl3 hb3 ?_; intro v2 w4 hr4 hB4; have HB4 := Lib.hid hB4; have HR4 := Lib.hid hr4; clear hB4 hr4 tok2 _t hr3))
            go_roundw
            case rel => exact ⟨j + 1, by omega, by go_num, by rw [HDD.out], HNX.out, by rw [HON.out]; exact HR4.out, Below.trans HE.out (Below.trans HB3.out HB4.out)⟩
            case measure => simp [intOf]; omega
          · have hls' : Op.bytesLess s y = false := by simpa using hls
            have HDD := Lib.hid (show isD ls s (j + 1) = false by rw [SC.out, hls']; rfl)
            have HON := Lib.hid (NT.out rfl hls')
            clear hdn DN HR NT SC hls
            go_wp2_with (at_builtin; refine wp_appS rfl _ _ (by rfl) w.heap.size _ _ (by rfl) _ hro y (by rfl) hol hbs ?_; intro v' w3 hr3 hB3; have HB3 := Lib.hid hB3; have HR3 := Lib.hid hr3; clear hB3 hr3 hro)
            go_roundw
            case rel => exact ⟨j + 1, by omega, by go_num, by rw [HDD.out], HNX.out, by rw [HON.out]; exact HR3.out, Below.trans HE.out HB3.out⟩
            case measure => simp [intOf]; omega
    · have hjn : j = n := by omega
      have HTA := Lib.hid (show s ∉ ls from fun h => HNO.out (by rw [List.take_of_length_le (by rw [HN.out]; omega)]; exact h))
      have HX := Lib.hid (HI.out HTA.out)
      obtain ⟨e1, e2⟩ := HEN.out j (by rw [HN.out]; exact hlt)
      have hro := HRO.out
      have hbs : w.heap.size ≤ wr.heap.size := HE.out.size
      have hol : (isO ls s j).length ≤ 100000000000 := by have := HOL.out j; rw [HN.out] at this; omega
      generalize hdn : isD ls s j = dn at *
      cases dn with
      | true =>
        have HE1 := Lib.hid (e1 rfl)
        clear e1 e2 hdn
        go_wp2
        go_ret
        exact ⟨_, rfl, by rw [HX.out, ← HE1.out]; exact HRO.out.le (by omega), HE.out⟩
      | false =>
        have HE1 := Lib.hid (e2 rfl)
        clear e1 e2 hdn
        go_wp2_with (at_builtin; refine wp_appS rfl _ _ (by rfl) w.heap.size _ _ (by rfl) _ hro s (by rfl) hol hbs ?_; intro v' w3 hr3 hB3; have HB3 := Lib.hid hB3; have HR3 := Lib.hid hr3; clear hB3 hr3 hro)
        go_ret
        exact ⟨_, rfl, by rw [HX.out, ← HE1.out]; exact HR3.out.le (by omega), Below.trans HE.out HB3.out⟩

end Go.Proofs.YtgkalcboklhdgaaGreatDoor

namespace Go.Proofs.YtgkalcboklhdgaaGreatDoor
open Go.RowKit
set_option linter.unusedVariables false
set_option linter.unusedSimpArgs false
open Ex

theorem insS_len (l : List (List UInt8)) (s : List UInt8) : (insS l s).length ≤ l.length + 1 := by
  have hi : ∀ l : List (List UInt8), (ins l s).length = l.length + 1 := by
    intro l
    induction l with
    | nil => rfl
    | cons y ys ih => unfold ins; split <;> simp [ih]
  unfold insS
  split
  · omega
  · rw [hi]; omega
theorem fold_len : ∀ (L l : List (List UInt8)), (L.foldl insS l).length ≤ l.length + L.length
  | [], l => by simp
  | s :: L, l => by
    have h1 := insS_len l s
    have h2 := fold_len L (insS l s)
    simp only [List.foldl_cons, List.length_cons]
    omega
theorem take_size (ts : List Ex) (j : Nat) (h : j < ts.length) : sizes (ts.take j) + (ts[j]).size ≤ sizes ts := by
  have h1 := sizes_take ts j h
  have h2 := sizes_mono ts (j + 1)
  omega

set_option maxHeartbeats 1000000 in
theorem names_any : ∀ (n : Nat) (e : Ex), e.size ≤ n → ∀ (p : Option Addr) (c : Nat) (base : Nat) (v : Value) (l : List (List UInt8)) (w : World), Ex.At w p e → RowS base v l w → base ≤ w.heap.size → l.length + e.size ≤ 1000000000 →
    Calls Tryz.prog 49 #[e.val p c, v] w fun e' w' => ∃ v', e' = .returned v' ∧ RowS base v' ((nmE e).foldl insS l) w' ∧ Ext w w' := by
  intro n
  induction n with
  | zero => intro e he; have := e.size_pos; omega
  | succ n ih =>
    intro e he p c base vl l w hA hR hbase hlen
    obtain ⟨k, o, nm, v, ts⟩ := e
    have HA := Lib.hid hA
    have hl : ts.length ≤ 2199023255488 := hA.fit.2.2.2.2
    have HS := Lib.hid (fun j (h : j < ts.length) => size_get ts j h)
    have hN : (Ex.mk k o nm v ts).size = 1 + sizes ts := rfl
    have hv : (Ex.mk k o nm v ts).val p c = .agg #[.int .i64 k, .int .i64 o, sV nm, .int .i64 v, .slice p ts.length c] := rfl
    rw [hv]
    have IH := Lib.hid ih
    clear hA hv ih
    have hh : nmE (Ex.mk k o nm v ts) = if k = 2 then [nm] else nmL ts := rfl
    rw [hh]
    clear hh
    have hsz : (Ex.mk k o nm v ts).size = 1 + sizes ts := rfl
    rw [hsz] at hlen
    clear hsz
    have HR := Lib.hid hR
    clear hR
    have hbw : base ≤ (w.alloc (.cells #[.int .i64 k, .int .i64 o, sV nm, .int .i64 v, .slice p ts.length c] 24)).heap.size := by simp; omega
    by_cases hk2 : k = 2
    · subst hk2
      have C := insert_any l nm base vl (w.alloc (.cells #[.int .i64 2, .int .i64 o, sV nm, .int .i64 v, .slice p ts.length c] 24)) (by omega) (HR.out.ext ((Below.refl _ w).alloc (Nat.le_refl _) _)) hbw
      go_enter Tryz.func49, Tryz.ntmps49
      go_wp2_with fail
      refine C.mono ?_
      rintro e w2 ⟨v', rfl, hR2, hB2⟩
      have HR2 := Lib.hid hR2
      clear hR2
      go_wp2
      go_ret
      exact ⟨_, rfl, HR2.out, Below.trans ((Below.refl _ w).alloc (Nat.le_refl _) _) (hB2.mono (by simp))⟩
    · have hk2' : (k == 2) = false := by simpa using hk2
      have hif : (if k = 2 then [nm] else nmL ts) = nmL ts := if_neg hk2
      rw [hif]
      clear hif
      have HT := Lib.hid (nmL_take ts)
      have HF := Lib.hid (fun (j : Nat) => show ((nmL (ts.take j)).foldl insS l).length ≤ l.length + sizes (ts.take j) from by have h1 := fold_len (nmL (ts.take j)) l; have h2 := nmL_size (ts.take j); omega)
      have HS := Lib.hid (take_size ts)
      go_enter Tryz.func49, Tryz.ntmps49
      go_wp2
      go_loopw [1, 5] (fun a i wr => ∃ (j : Nat), j ≤ ts.length ∧ i = .int .i64 (j : Int) ∧ RowS base a ((nmL (ts.take j)).foldl insS l) wr ∧ Ext (w.alloc (.cells #[.int .i64 k, .int .i64 o, sV nm, .int .i64 v, .slice p ts.length c] 24)) wr) (fun _ i _ => ts.length - (intOf i).toNat)
      case atStart => exact ⟨0, Nat.zero_le _, rfl, HR.out.ext ((Below.refl _ w).alloc (Nat.le_refl _) _), Below.refl _ _⟩
      case round =>
        obtain ⟨j, hj, rfl, hRj, hE⟩ := hrel
        obtain ⟨b0, b1, b2, b3, b4, hW⟩ := hE.box
        have HE := Lib.hid hE
        clear hE
        have HRj := Lib.hid hRj
        clear hRj
        have hbr : base ≤ wr.heap.size := Nat.le_trans hbw HE.out.size
        by_cases hlt : j < ts.length
        · obtain ⟨b, off, q, cc, rfl, hcs, hA0⟩ := HA.out.get j hlt
          obtain ⟨c0, c1, c2, c3, c4⟩ := hcs.below hW
          have hA := hA0.below hW
          clear hcs
          have hs := HS.out j hlt
          have ht := HT.out j hlt
          have hf := HF.out j
          have hs := HS.out j hlt
          have C := IH.out (ts[j]) (by omega) q cc base _ _ wr hA HRj.out hbr (by omega)
          have HG := Lib.hid (show ((nmL (ts.take (j + 1))).foldl insS l) = (nmE ts[j]).foldl insS ((nmL (ts.take j)).foldl insS l) by rw [ht, List.foldl_append])
          rw [← HG.out] at C
          change Calls _ _ #[.agg #[.int .i64 (ts[j]).kind, .int .i64 (ts[j]).op, sV (ts[j]).name, .int .i64 (ts[j]).value, .slice q (ts[j]).args.length cc], _] _ _ at C
          clear hf hs ht hA
          generalize (ts[j]).kind = k1 at *
          generalize (ts[j]).op = o1 at *
          generalize (ts[j]).name = n1 at *
          generalize (ts[j]).value = v1 at *
          generalize (ts[j]).args.length = l1 at *
          go_wp2_with fail
          refine C.mono ?_
          rintro e w2 ⟨v', rfl, hR2, hB2⟩
          have HR2 := Lib.hid hR2
          clear hR2
          go_wp2
          go_roundw
          case rel => exact ⟨j + 1, by omega, by go_num, HR2.out, Ext.trans HE.out hB2⟩
          case measure => simp [intOf]; omega
        · have hk : ts.take j = ts := List.take_of_length_le (by omega)
          rw [hk] at HRj
          clear hk
          go_wp2
          go_ret
          exact ⟨_, rfl, HRj.out, hW⟩

set_option maxHeartbeats 1000000 in
theorem refNames_any (e : Ex) (p : Option Addr) (c : Nat) (w : World) (hA : Ex.At w p e) :
    Calls Tryz.prog 22 #[e.val p c] w fun e' w' => ∃ v', e' = .returned v' ∧ RowS w.heap.size v' (nmR e) w' ∧ Ext w w' := by
  have C1 := Lib.hid (fun W (h : Ext w W) => show Gives _ _ #[.agg #[.int .i64 e.kind, .int .i64 e.op, sV e.name, .int .i64 e.value, .slice p e.args.length c]] _ _ from refChk_any e p c W (hA.below h))
  have C2 := Lib.hid (fun W (h : Ext w W) (g : e.chk = 0) => show Calls _ _ #[.agg #[.int .i64 e.kind, .int .i64 e.op, sV e.name, .int .i64 e.value, .slice p e.args.length c], .slice (some ⟨W.heap.size, 0, none⟩) 0 0] (W.alloc (.cells #[] 9)) _ from
    names_any e.size e (Nat.le_refl _) p c w.heap.size _ [] (W.alloc (.cells #[] 9)) (hA.below (h.alloc h.size _)) ((RowS.empty W _ (Nat.le_refl _)).le h.size) (by have := h.size; simp; omega) (by have := (chk_zero g).1; simp; omega))
  have HZ := Lib.hid (show e.chk = 0 → nmR e = (nmE e).foldl insS [] from fun h => by unfold nmR; rw [if_neg (by simp [h])])
  have HN := Lib.hid (show e.chk ≠ 0 → nmR e = [] from fun h => by unfold nmR; rw [if_pos h])
  have hv : e.val p c = .agg #[.int .i64 e.kind, .int .i64 e.op, sV e.name, .int .i64 e.value, .slice p e.args.length c] := rfl
  rw [hv]
  clear hv
  generalize nmR e = R at *
  generalize (nmE e).foldl insS [] = R2 at *
  generalize e.chk = r at *
  generalize e.kind = k1 at *
  generalize e.op = o1 at *
  generalize e.name = n1 at *
  generalize e.value = v1 at *
  generalize e.args.length = l1 at *
  have HE0 := Lib.hid (show Ext w (w.alloc (.cells #[.int .i64 k1, .int .i64 o1, sV n1, .int .i64 v1, .slice p l1 c] tEx)) from (Below.refl _ w).alloc (Nat.le_refl _) _)
  go_enter Tryz.func22, Tryz.ntmps22
  go_wp2_with fail
  refine (C1.out _ HE0.out).mono ?_
  intro w1 hB
  have hW := Ext.trans HE0.out hB
  have hb1 := (hB.block _ (lt_of_block (alloc_here w (.cells #[.int .i64 k1, .int .i64 o1, sV n1, .int .i64 v1, .slice p l1 c] tEx)))).trans (alloc_here _ _)
  obtain ⟨b0, b1, b2, b3, b4, _⟩ := box5 hb1
  have HW := Lib.hid hW
  clear hB hb1 hW
  by_cases hr : r = 0
  · subst hr
    have HR := Lib.hid (HZ.out rfl)
    go_wp2_with fail
    refine (C2.out _ HW.out trivial).mono ?_
    rintro x w2 ⟨v', rfl, hR2, hB2⟩
    have HR2 := Lib.hid hR2
    clear hR2
    go_wp2
    go_ret
    exact ⟨_, rfl, by rw [HR.out]; exact HR2.out, (HW.out.alloc HW.out.size _).trans (hB2.mono (by have := HW.out.size; simp; omega))⟩
  · have hr1 : (r == 0) = false := by simpa using hr
    have hr2 : (r != 0) = true := by simpa using hr
    have HR := Lib.hid (HN.out hr)
    clear hr
    go_wp2
    go_ret
    exact ⟨_, rfl, by rw [HR.out]; exact (RowS.empty w1 _ (Nat.le_refl _)).le HW.out.size, HW.out.alloc HW.out.size _⟩

end Go.Proofs.YtgkalcboklhdgaaGreatDoor

