/- Lemmas and walks for the statements of this seat, part 7, merged from smaller texts: Tokens: plain.; The lexer's small functions.; The lexer's blank: a range over a string by runes.; The lexer's name.; Rows of tokens of the call's own.; Reading expressions: plain.; The lexer's number.; Reserved names and numerals: plain.; Maps with string keys: a store of a new key, and a look-up, at entries that are known.; The lexer's operators; whether a token is a sign.; The reader's tests: is, Keyword, isNumber. -/
import Derived.Laws.RangeAny
import Derived.Test.YtmokejjndkibhaaGreatDoorRows
import Derived.Scope
import Derived.FnLit
import Derived.WalkMore
import Derived.Lib.OwnBridge
import Derived.Lib.SliceRun
import Derived.OwnWalk
import Derived.Lib.ItoaNum
import Derived.Lib.IndexMore
import Derived.Maps.Own
import Derived.Lib.IndexAny
import Derived.Test.YtmokejjndkibhaaGreatDoorSh1
import Derived.Test.YtmokejjndkibhaaGreatDoorSh5
import Derived.Test.YtmokejjndkibhaaGreatDoorSh3
import Derived.Test.YtmokejjndkibhaaGreatDoorSh3
import Derived.Test.YtmokejjndkibhaaGreatDoorSh6

namespace Go.Proofs.YtmokejjndkibhaaGreatDoor
open Go.RowKit
set_option linter.unusedVariables false
set_option linter.unusedSimpArgs false

/-- a token -/
structure Tk where
  kind : Int
  text : List UInt8
  val : Int
  pos : Int
deriving DecidableEq
abbrev tk0 : Tk := ⟨0, [], 0, 0⟩
abbrev TV (t : Tk) : Value := .agg #[.int .i64 t.kind, sV t.text, .int .i64 t.val, .int .i64 t.pos]
def letB (c : UInt8) : Bool := decide (97 ≤ c.toNat ∧ c.toNat ≤ 122)
def digB (c : UInt8) : Bool := decide (48 ≤ c.toNat ∧ c.toNat ≤ 57)
def insC (c : UInt8) : Bool := letB c || digB c || decide (c.toNat = 95)
/-- the bytes of spaces and comments at the beginning; com: within a comment -/
def skipB : Bool → List UInt8 → Nat
  | _, [] => 0
  | com, c :: l =>
    if c.toNat = 10 then 1 + skipB false l
    else if com then 1 + skipB true l
    else if c.toNat = 35 then 1 + skipB true l
    else if c.toNat = 32 ∨ c.toNat = 9 then 1 + skipB false l
    else 0
theorem skipB_le : ∀ (com : Bool) (l : List UInt8), skipB com l ≤ l.length
  | _, [] => by simp [skipB]
  | com, c :: l => by
    have h1 := skipB_le true l
    have h2 := skipB_le false l
    simp only [skipB, List.length_cons]
    repeat' split
    all_goals omega
/-- within a comment, a byte that is no line feed -/
theorem skipB_com {c : UInt8} {l : List UInt8} (h : c.toNat ≠ 10) : skipB true (c :: l) = 1 + skipB true l := by simp [skipB, h]
/-- within a comment, bytes that are no line feeds -/
theorem skipB_coms {l : List UInt8} : ∀ (n p : Nat), p + n ≤ l.length → (∀ k, k < n → ∀ h : p + k < l.length, (l[p + k]).toNat ≠ 10) → skipB true (l.drop p) = n + skipB true (l.drop (p + n))
  | 0, p, _, _ => by simp
  | n + 1, p, hl, h => by
    have hp : p < l.length := by omega
    have h0 : (l[p]).toNat ≠ 10 := by simpa using h 0 (by omega) (by simpa using hp)
    rw [List.drop_eq_getElem_cons hp, skipB_com h0, skipB_coms n (p + 1) (by omega) (fun k hk hh => by
      have := h (k + 1) (by omega) (by omega)
      simpa [Nat.add_assoc, Nat.add_comm 1 k] using this)]
    rw [show p + 1 + n = p + (n + 1) by omega]
    omega
/-- how many bytes at the beginning are of a kind -/
def cntW (q : UInt8 → Bool) (l : List UInt8) : Nat := (l.takeWhile q).length
theorem cntW_le (q : UInt8 → Bool) (l : List UInt8) : cntW q l ≤ l.length := (List.takeWhile_sublist q).length_le
theorem cntW_cons {q : UInt8 → Bool} {c : UInt8} {l : List UInt8} : cntW q (c :: l) = if q c then 1 + cntW q l else 0 := by
  unfold cntW
  rw [List.takeWhile_cons]
  split <;> simp [Nat.add_comm]
/-- the value of digits -/
def numV (l : List UInt8) : Int := l.foldl (fun n c => n * 10 + ((c.toNat : Int) - 48)) 0
def sg2 : List (List UInt8) := [[38, 38], [124, 124], [61, 61], [33, 61], [60, 61], [62, 61]]
def sg1 : List UInt8 := [60, 62, 43, 45, 42, 47, 37, 33, 61, 40, 41, 123, 125, 44, 59]
/-- the bytes of the sign at the beginning -/
def sgLen (l : List UInt8) : Nat := if sg2.any (fun x => x.isPrefixOf l) then 2 else match l with
  | [] => 0
  | c :: _ => if sg1.contains c then 1 else 0
/-- the token at the beginning, and its error -/
def oneT (l : List UInt8) (p : Int) : Tk × Int := match l with
  | [] => (tk0, 0)
  | c :: _ =>
    if letB c then (if 30 < cntW insC l then (tk0, 5) else (⟨1, l.take (cntW insC l), 0, p⟩, 0))
    else if digB c then
      (if (1 < cntW digB l ∧ c.toNat = 48) ∨ ((l[cntW digB l]?).any fun d => letB d || decide (d.toNat = 95)) = true then (tk0, 3)
       else if 1099511627776 < numV (l.take (cntW digB l)) then (tk0, 2) else (⟨2, l.take (cntW digB l), numV (l.take (cntW digB l)), p⟩, 0))
    else if sgLen l = 0 then (tk0, 3) else (⟨3, l.take (sgLen l), 0, p⟩, 0)
/-- the tokens from a place on: the tokens, where an error is, the error -/
def toksF (s : List UInt8) : Nat → Nat → List Tk → List Tk × Int × Int
  | 0, _, _ => ([], 0, 0)
  | f + 1, at_, acc =>
    if s.length ≤ at_ + skipB false (s.drop at_) then (acc ++ [⟨0, [], 0, s.length⟩], 0, 0)
    else match oneT (s.drop (at_ + skipB false (s.drop at_))) ((at_ + skipB false (s.drop at_) : Nat) : Int) with
      | (t, e) => if e ≠ 0 then ([], ((at_ + skipB false (s.drop at_) : Nat) : Int), e) else toksF s f (at_ + skipB false (s.drop at_) + t.text.length) (acc ++ [t])
def toksR (s : List UInt8) : List Tk × Int × Int := if 4000 < s.length then ([], 0, 4) else toksF s (s.length + 1) 0 []

theorem sgLen_le (l : List UInt8) : sgLen l ≤ l.length := by
  unfold sgLen
  split
  · rename_i h
    obtain ⟨x, hx, hp⟩ := List.any_eq_true.1 h
    have h1 := (List.isPrefixOf_iff_prefix.1 hp).length_le
    have h2 : x.length = 2 := by
      simp only [sg2, List.mem_cons, List.not_mem_nil, or_false] at hx
      rcases hx with rfl | rfl | rfl | rfl | rfl | rfl <;> rfl
    omega
  · split
    · simp
    · split <;> simp
/-- a token that is one has a text -/
theorem oneT_text {l : List UInt8} (hl : l ≠ []) {p : Int} (h : (oneT l p).2 = 0) : 1 ≤ (oneT l p).1.text.length ∧ (oneT l p).1.text = l.take (oneT l p).1.text.length ∧ (oneT l p).1.pos = p := by
  cases l with
  | nil => exact absurd rfl hl
  | cons c l =>
    unfold oneT at h ⊢
    dsimp only at h ⊢
    by_cases h1 : letB c = true
    · rw [if_pos h1] at h ⊢
      have hq : insC c = true := by simp [insC, h1]
      have h2 : 1 ≤ cntW insC (c :: l) := by rw [cntW_cons, if_pos hq]; omega
      have h3 := cntW_le insC (c :: l)
      split at h
      · cases h
      · rename_i h4
        rw [if_neg h4]
        dsimp only
        rw [List.length_take, Nat.min_eq_left h3]
        exact ⟨h2, rfl, rfl⟩
    · rw [if_neg h1] at h ⊢
      by_cases h5 : digB c = true
      · rw [if_pos h5] at h ⊢
        have h2 : 1 ≤ cntW digB (c :: l) := by rw [cntW_cons, if_pos h5]; omega
        have h3 := cntW_le digB (c :: l)
        split at h
        · cases h
        · rename_i h4
          rw [if_neg h4]
          split at h
          · cases h
          · rename_i h6
            rw [if_neg h6]
            dsimp only
            rw [List.length_take, Nat.min_eq_left h3]
            exact ⟨h2, rfl, rfl⟩
      · rw [if_neg h5] at h ⊢
        have h3 := sgLen_le (c :: l)
        split at h
        · cases h
        · rename_i h4
          rw [if_neg h4]
          dsimp only
          rw [List.length_take, Nat.min_eq_left h3]
          exact ⟨by omega, rfl, rfl⟩

/-- a rune that is no byte: what it is written with -/
theorem decode_cont (s : ByteArray) (pos : Nat) (h : pos < s.size) (ha : 128 ≤ (s[pos]'h).toNat) : 128 ≤ (Utf8.decode s pos).1 ∧ 1 ≤ (Utf8.decode s pos).2 ∧ pos + (Utf8.decode s pos).2 ≤ s.size ∧ ∀ k, 0 < k → k < (Utf8.decode s pos).2 → 128 ≤ (s.get! (pos + k)).toNat := by
  obtain ⟨h1, h2⟩ := decode_high s pos h ha
  refine ⟨h1, h2, ?_⟩
  have hn : ¬ (s[pos]'h).toNat < 128 := by omega
  simp only [Utf8.decode, get_at s pos h, hn, if_false]
  split
  · rename_i hc
    simp only [Bool.and_eq_true, decide_eq_true_eq, beq_iff_eq] at hc
    split
    · refine ⟨by omega, fun k k0 k1 => ?_⟩
      have : k = 1 := by omega
      subst this; omega
    · exact ⟨by omega, fun k k0 k1 => by omega⟩
  · split
    · rename_i hc
      simp only [Bool.and_eq_true, decide_eq_true_eq, beq_iff_eq] at hc
      split
      · refine ⟨by omega, fun k k0 k1 => ?_⟩
        have : k = 1 ∨ k = 2 := by omega
        rcases this with rfl | rfl <;> omega
      · exact ⟨by omega, fun k k0 k1 => by omega⟩
    · split
      · rename_i hc
        simp only [Bool.and_eq_true, decide_eq_true_eq, beq_iff_eq] at hc
        split
        · refine ⟨by omega, fun k k0 k1 => ?_⟩
          have : k = 1 ∨ k = 2 ∨ k = 3 := by omega
          rcases this with rfl | rfl | rfl <;> omega
        · exact ⟨by omega, fun k k0 k1 => by omega⟩
      · exact ⟨by omega, fun k k0 k1 => by omega⟩
end Go.Proofs.YtmokejjndkibhaaGreatDoor

namespace Go.Proofs.YtmokejjndkibhaaGreatDoor
open Go.RowKit
set_option linter.unusedVariables false
set_option linter.unusedSimpArgs false

theorem enters_lx {f : FuncId} {fn : Func} {c : Code} (hf : Tryz.prog.funcs[f]? = some fn) (hname : (fn.name == "runtime.NumGoroutine") = false) (hb : fn.body = some c) : ∀ args w, (callFunc f args).run Tryz.prog w = .ok (.enter f args) w := by
  intro args w
  have h1 : fn.name ≠ "runtime.NumGoroutine" := by simpa using hname
  simp [callFunc, hf, h1, hb, mark]
theorem lxLetter_any (c : UInt8) (w : World) : Gives Tryz.prog 42 #[.int .u8 (c.toNat : Int)] w (.bool (letB c)) := by
  unfold Gives letB
  by_cases h : 97 ≤ c.toNat
  · have g : (97 : Int) ≤ (c.toNat : Int) := by omega
    by_cases h2 : c.toNat ≤ 122
    · have g2 : (c.toNat : Int) ≤ 122 := by omega
      rw [decide_eq_true (And.intro h h2)]
      clear h h2
      go_enter Tryz.func42, Tryz.ntmps42
      go_wp2
      all_goals (first | omega | (go_ret; exact ⟨by first | rfl | (simp; omega), Below.refl _ _⟩))
    · have g2 : ¬ (c.toNat : Int) ≤ 122 := by omega
      rw [decide_eq_false (fun e => h2 e.2)]
      clear h h2
      go_enter Tryz.func42, Tryz.ntmps42
      go_wp2
      all_goals (first | omega | (go_ret; exact ⟨by first | rfl | (simp; omega), Below.refl _ _⟩))
  · have g : ¬ (97 : Int) ≤ (c.toNat : Int) := by omega
    rw [decide_eq_false (fun e => h e.1)]
    clear h
    go_enter Tryz.func42, Tryz.ntmps42
    go_wp2
    all_goals (first | omega | (go_ret; exact ⟨by first | rfl | (simp; omega), Below.refl _ _⟩))
theorem lxDigit_any (c : UInt8) (w : World) : Gives Tryz.prog 44 #[.int .u8 (c.toNat : Int)] w (.bool (digB c)) := by
  unfold Gives digB
  by_cases h : 48 ≤ c.toNat
  · have g : (48 : Int) ≤ (c.toNat : Int) := by omega
    by_cases h2 : c.toNat ≤ 57
    · have g2 : (c.toNat : Int) ≤ 57 := by omega
      rw [decide_eq_true (And.intro h h2)]
      clear h h2
      go_enter Tryz.func44, Tryz.ntmps44
      go_wp2
      all_goals (first | omega | (go_ret; exact ⟨by first | rfl | (simp; omega), Below.refl _ _⟩))
    · have g2 : ¬ (c.toNat : Int) ≤ 57 := by omega
      rw [decide_eq_false (fun e => h2 e.2)]
      clear h h2
      go_enter Tryz.func44, Tryz.ntmps44
      go_wp2
      all_goals (first | omega | (go_ret; exact ⟨by first | rfl | (simp; omega), Below.refl _ _⟩))
  · have g : ¬ (48 : Int) ≤ (c.toNat : Int) := by omega
    rw [decide_eq_false (fun e => h e.1)]
    clear h
    go_enter Tryz.func44, Tryz.ntmps44
    go_wp2
    all_goals (first | omega | (go_ret; exact ⟨by first | rfl | (simp; omega), Below.refl _ _⟩))
set_option maxRecDepth 100000 in
set_option maxHeartbeats 1000000 in
theorem lxInside_any (c : UInt8) (w : World) : Gives Tryz.prog 71 #[.int .u8 (c.toNat : Int)] w (.bool (insC c)) := by
  unfold Gives
  have KL := Lib.hid (fun W => lxLetter_any c W)
  have KD := Lib.hid (fun W => lxDigit_any c W)
  have HI := Lib.hid (show insC c = (letB c || digB c || decide (c.toNat = 95)) from rfl)
  generalize letB c = a at *
  generalize digB c = b at *
  cases a with
  | true =>
    have HV := Lib.hid (show insC c = true by rw [HI.out]; simp)
    rw [HV.out]
    go_enter Tryz.func71, Tryz.ntmps71
    go_wp2_with fail
    refine (KL.out _).mono ?_
    intro w1 hE
    go_wp2
    go_ret
    exact ⟨rfl, hE⟩
  | false =>
    cases b with
    | true =>
      have HV := Lib.hid (show insC c = true by rw [HI.out]; simp)
      rw [HV.out]
      go_enter Tryz.func71, Tryz.ntmps71
      go_wp2_with fail
      refine (KL.out _).mono ?_
      intro w1 hE
      have HE := Lib.hid (show Ext w w1 from hE)
      clear hE
      go_wp2_with fail
      refine (KD.out _).mono ?_
      intro w2 hE
      have HE2 := Lib.hid (Ext.trans HE.out hE)
      clear hE
      go_wp2
      go_ret
      exact ⟨rfl, HE2.out⟩
    | false =>
      have HV := Lib.hid (show insC c = decide (c.toNat = 95) by rw [HI.out]; simp)
      rw [HV.out]
      by_cases h : c.toNat = 95
      · rw [decide_eq_true h]
        have h2 := Lib.hid (show ((c.toNat : Int) = 95) from by omega)
        clear h HI HV
        go_enter Tryz.func71, Tryz.ntmps71
        go_wp2_with fail
        refine (KL.out _).mono ?_
        intro w1 hE
        have HE := Lib.hid (show Ext w w1 from hE)
        clear hE
        go_wp2_with fail
        refine (KD.out _).mono ?_
        intro w2 hE
        have HE2 := Lib.hid (Ext.trans HE.out hE)
        clear hE
        have h := h2.out
        go_wp2
        go_ret
        exact ⟨by first | rfl | simp [h], HE2.out⟩
      · rw [decide_eq_false h]
        have h2 := Lib.hid (show ¬ ((c.toNat : Int) = 95) from by omega)
        clear h HI HV
        go_enter Tryz.func71, Tryz.ntmps71
        go_wp2_with fail
        refine (KL.out _).mono ?_
        intro w1 hE
        have HE := Lib.hid (show Ext w w1 from hE)
        clear hE
        go_wp2_with fail
        refine (KD.out _).mono ?_
        intro w2 hE
        have HE2 := Lib.hid (Ext.trans HE.out hE)
        clear hE
        have h := h2.out
        go_wp2
        go_ret
        exact ⟨by first | rfl | simp [h], HE2.out⟩

theorem cntW_at {q : UInt8 → Bool} {s : List UInt8} {k : Nat} (h : k < s.length) : cntW q (s.drop k) = if q s[k] then 1 + cntW q (s.drop (k + 1)) else 0 := by
  rw [List.drop_eq_getElem_cons h, cntW_cons]
set_option maxHeartbeats 1000000 in
theorem end_any (q : UInt8 → Bool) (F : FuncId) (hent : ∀ args w, (callFunc F args).run Tryz.prog w = .ok (.enter F args) w) (hF : ∀ c W, Gives Tryz.prog F #[.int .u8 ((c : UInt8).toNat : Int)] W (.bool (q c))) (s : List UInt8) (a : Nat) (w : World) (hs : s.length ≤ 100000) (ha : a ≤ s.length) :
    Gives Tryz.prog 70 #[sV s, .int .i64 (a : Int), .func (.func F) #[] #[]] w (.int .i64 ((a + cntW q (s.drop a) : Nat) : Int)) := by
  unfold Gives
  have KF := Lib.hid hF
  have HC := Lib.hid (fun k (h : k < s.length) => cntW_at (q := q) h)
  have HZ := Lib.hid (show cntW q (s.drop s.length) = 0 from by simp [cntW])
  obtain ⟨C, hC⟩ : ∃ f : Nat → Nat, ∀ k, cntW q (s.drop k) = f k := ⟨_, fun _ => rfl⟩
  simp only [hC] at HC HZ ⊢
  clear hF hC
  obtain ⟨T, hT⟩ : ∃ t, a + C a = t := ⟨_, rfl⟩
  rw [hT]
  have HT := Lib.hid hT
  clear hT
  go_enter Tryz.func70, Tryz.ntmps70
  go_wp2
  go_loopw [1] (fun i wr => ∃ k : Nat, k ≤ s.length ∧ i = .int .i64 (k : Int) ∧ k + C k = T ∧ Ext w wr) (fun i _ => s.length - (intOf i).toNat)
  case atStart => exact ⟨a, ha, rfl, HT.out, Below.refl _ _⟩
  case round =>
    obtain ⟨k, hk, rfl, hT, hE⟩ := hrel
    have HT2 := Lib.hid hT
    have HE := Lib.hid hE
    clear hT hE
    by_cases hlt : k < s.length
    · have HCK := HC.out k hlt
      have KC := fun W => KF.out s[k] W
      have hq : k < (sB s).size := by rw [sB_size]; exact hlt
      obtain ⟨qb, hb⟩ : ∃ b, q (s[k]'hlt) = b := ⟨_, rfl⟩
      have KC : ∀ W, Gives Tryz.prog F #[.int .u8 ((s[k]'hlt).toNat : Int)] W (.bool qb) := fun W => by rw [← hb]; exact KF.out _ W
      have HCK : C k = if qb then 1 + C (k + 1) else 0 := by rw [← hb]; exact HC.out k hlt
      clear hb
      cases qb with
      | true =>
        have HN := Lib.hid (show k + 1 + C (k + 1) = T from by have h1 := HCK; have h2 := HT2.out; simp at h1; omega)
        go_wp2_with fail
        refine (KC _).mono ?_
        intro w1 hE
        have HE1 := Lib.hid (Ext.trans HE.out hE)
        clear hE
        go_wp2
        go_roundw
        case rel => exact ⟨k + 1, by omega, by go_num, HN.out, HE1.out⟩
        case measure => simp [intOf]; omega
      | false =>
        have HN := Lib.hid (show T = k from by have h1 := HCK; have h2 := HT2.out; simp at h1; omega)
        go_wp2_with fail
        refine (KC _).mono ?_
        intro w1 hE
        have HE1 := Lib.hid (Ext.trans HE.out hE)
        clear hE
        go_wp2
        go_ret
        exact ⟨by have h := HN.out; subst h; rfl, HE1.out⟩
    · have HN := Lib.hid (show T = k from by have h2 := HT2.out; have h3 : C k = 0 := by { rw [show k = s.length by omega]; exact HZ.out }; omega)
      go_wp2
      go_ret
      exact ⟨by have h := HN.out; subst h; rfl, HE.out⟩
end Go.Proofs.YtmokejjndkibhaaGreatDoor

namespace Go.Proofs.YtmokejjndkibhaaGreatDoor
open Go.RowKit
set_option linter.unusedVariables false
set_option linter.unusedSimpArgs false
attribute [local go_sem] sB_extract

theorem skipB_at {com : Bool} {l : List UInt8} {p : Nat} (h : p < l.length) : skipB com (l.drop p) = (if (l[p]).toNat = 10 then 1 + skipB false (l.drop (p + 1)) else if com then 1 + skipB true (l.drop (p + 1)) else if (l[p]).toNat = 35 then 1 + skipB true (l.drop (p + 1)) else if (l[p]).toNat = 32 ∨ (l[p]).toNat = 9 then 1 + skipB false (l.drop (p + 1)) else 0) := by
  rw [List.drop_eq_getElem_cons h]
  simp [skipB]
/-- a rune of the string: what it is, how many bytes it has, and what that does to a comment -/
theorem rune_step (r : List UInt8) (p : Nat) (h : p < r.length) :
    (∃ b : Nat, (r[p]).toNat = b ∧ (Utf8.decode (sB r) p) = (b, 1)) ∨
    (128 ≤ (Utf8.decode (sB r) p).1 ∧ 1 ≤ (Utf8.decode (sB r) p).2 ∧ p + (Utf8.decode (sB r) p).2 ≤ r.length ∧ skipB false (r.drop p) = 0 ∧ skipB true (r.drop p) = (Utf8.decode (sB r) p).2 + skipB true (r.drop (p + (Utf8.decode (sB r) p).2))) := by
  have hs : p < (sB r).size := by rw [sB_size]; exact h
  have hg : (sB r)[p]'hs = r[p] := sB_get r p hs
  by_cases ha : (r[p]).toNat < 128
  · left
    refine ⟨_, rfl, ?_⟩
    rw [decode_ascii (sB r) p hs (by rw [hg]; exact ha), hg]
    rfl
  · right
    obtain ⟨h1, h2, h3, h4⟩ := decode_cont (sB r) p hs (by rw [hg]; omega)
    rw [sB_size] at h3
    generalize (Utf8.decode (sB r) p).2 = n at *
    generalize (Utf8.decode (sB r) p).1 = c at *
    refine ⟨h1, h2, h3, ?_, skipB_coms n p h3 (fun k hk hh => ?_)⟩
    · rw [skipB_at h, if_neg (by omega), if_neg (by simp), if_neg (by omega), if_neg (by omega)]
    · by_cases h0 : k = 0
      · subst h0; simp; omega
      · have h5 := h4 k (by omega) hk
        have h6 : (sB r).get! (p + k) = r[p + k] := by
          have hs2 : p + k < (sB r).size := by rw [sB_size]; exact hh
          have := get_at (sB r) (p + k) hs2
          simp only [Nat.add_zero] at this
          rw [this]; exact sB_get r (p + k) hs2
        rw [h6] at h5
        omega
theorem iter_extC (w : World) (s : ByteArray) (p : Nat) : Ext w (w.iter s p) := (Below.refl _ w).alloc (Nat.le_refl _) _

set_option maxRecDepth 100000 in
set_option maxHeartbeats 4000000 in
theorem blank_any (s : List UInt8) (a : Nat) (w : World) (hs : s.length ≤ 100000) (ha : a ≤ s.length) :
    Gives Tryz.prog 40 #[sV s, .int .i64 (a : Int)] w (.int .i64 ((a + skipB false (s.drop a) : Nat) : Int)) := by
  unfold Gives
  obtain ⟨r, hr⟩ : ∃ r, s.drop a = r := ⟨_, rfl⟩
  have hrl : a + r.length = s.length := by rw [← hr]; simp; omega
  have HX := Lib.hid (show (sB s).extract a (sB s).size = sB r from by rw [sB_extract, sB_size, List.take_length, hr])
  rw [hr]
  have HR0 := Lib.hid hr
  clear hr
  obtain ⟨T, hT⟩ : ∃ t, skipB false r = t := ⟨_, rfl⟩
  rw [hT]
  have HT := Lib.hid hT
  have hTl : T ≤ r.length := by rw [← hT]; exact skipB_le _ _
  clear hT
  have HS := Lib.hid (fun p (h : p < r.length) => rune_step r p h)
  have HA := Lib.hid (fun com p (h : p < r.length) => skipB_at (com := com) h)
  have HZ := Lib.hid (show ∀ com, skipB com (r.drop r.length) = 0 from fun com => by simp [skipB])
  have hx := HX.out
  have hsz : (sB s).size = s.length := sB_size s
  have hrz : (sB r).size = r.length := sB_size r
  go_enter Tryz.func40, Tryz.ntmps40
  go_wp2
  go_step3
  go_wp2
  go_step3
  go_wp2
  go_loopw [5] (fun c w' => ∃ (p : Nat) (com : Bool), p ≤ r.length ∧ w' = w.iter (sB r) p ∧ c = .bool com ∧ p + skipB com (r.drop p) = T) (fun _ w' => r.length - w'.iterPos w.heap.size)
  case atStart => exact ⟨0, false, by omega, by rw [HR0.out], rfl, by simpa using HT.out⟩
  case round =>
    obtain ⟨p, com, hp, rfl, rfl, hT⟩ := hrel
    have HT2 := Lib.hid hT
    clear hT
    by_cases hlt : p < r.length
    · have hq : p < (sB r).size := by omega
      have hnx : ∀ ty, (Instr.next (.pointer (some ⟨w.heap.size, 0, none⟩)) true ty).run Tryz.prog (w.iter (sB r) p) = _ := fun ty => run_next_any w (sB r) p ty hq
      have HR := HS.out p hlt
      have HA0 := Lib.hid (HA.out com p hlt)
      rcases HR with ⟨b, hb, hd⟩ | ⟨h128, hw1, hpl, hs0, hs1⟩
      · have HB := Lib.hid (congrArg (fun x : Nat => x) hb)
        have hpos : ∀ q, w.iter (sB r) q = w.iter (sB r) q := fun _ => rfl
        clear hpos
        simp only [hd] at hnx
        have HA1 : skipB com (r.drop p) = if b = 10 then 1 + skipB false (r.drop (p + 1)) else if com then 1 + skipB true (r.drop (p + 1)) else if b = 35 then 1 + skipB true (r.drop (p + 1)) else if b = 32 ∨ b = 9 then 1 + skipB false (r.drop (p + 1)) else 0 := by rw [HA0.out, hb]
        clear HA0 hd hb HB
        by_cases c1 : b = 10
        · subst c1
          have HN := Lib.hid (show p + 1 + skipB false (r.drop (p + 1)) = T from by have h1 := HT2.out; rw [HA1, if_pos rfl] at h1; omega)
          clear HA1
          go_wp2
          go_roundw
          case rel => exact ⟨p + 1, false, by omega, rfl, rfl, HN.out⟩
          case measure => simp; omega
        · rw [if_neg c1] at HA1
          have c1' : ¬ ((b : Int) = 10) := by omega
          cases com with
          | true =>
            have HN := Lib.hid (show p + 1 + skipB true (r.drop (p + 1)) = T from by have h1 := HT2.out; rw [HA1, if_pos rfl] at h1; omega)
            clear HA1 c1
            go_wp2
            go_roundw
            case rel => exact ⟨p + 1, true, by omega, rfl, rfl, HN.out⟩
            case measure => simp; omega
          | false =>
            rw [if_neg (by simp)] at HA1
            by_cases c2 : b = 35
            · subst c2
              have HN := Lib.hid (show p + 1 + skipB true (r.drop (p + 1)) = T from by have h1 := HT2.out; rw [HA1, if_pos rfl] at h1; omega)
              clear HA1
              go_wp2
              go_roundw
              case rel => exact ⟨p + 1, true, by omega, rfl, rfl, HN.out⟩
              case measure => simp; omega
            · rw [if_neg c2] at HA1
              have c2' : ¬ ((b : Int) = 35) := by omega
              by_cases c3 : b = 32
              · subst c3
                have HN := Lib.hid (show p + 1 + skipB false (r.drop (p + 1)) = T from by have h1 := HT2.out; rw [HA1, if_pos (Or.inl rfl)] at h1; omega)
                clear HA1
                go_wp2
                go_roundw
                case rel => exact ⟨p + 1, false, by omega, rfl, rfl, HN.out⟩
                case measure => simp; omega
              · have c3' : ¬ ((b : Int) = 32) := by omega
                by_cases c4 : b = 9
                · subst c4
                  have HN := Lib.hid (show p + 1 + skipB false (r.drop (p + 1)) = T from by have h1 := HT2.out; rw [HA1, if_pos (Or.inr rfl)] at h1; omega)
                  clear HA1
                  go_wp2
                  go_roundw
                  case rel => exact ⟨p + 1, false, by omega, rfl, rfl, HN.out⟩
                  case measure => simp; omega
                · have c4' : ¬ ((b : Int) = 9) := by omega
                  have HN := Lib.hid (show p = T from by have h1 := HT2.out; rw [HA1, if_neg (by omega)] at h1; omega)
                  clear HA1 c1 c2 c3 c4
                  have b3 : ((b : Int) != 32) = true := by simpa using c3'
                  have b4 : ((b : Int) != 9) = true := by simpa using c4'
                  go_wp2
                  rw [Exit.noGoto_ret]
                  go_ret
                  exact ⟨by have h := HN.out; subst h; simp [go_sem], (iter_extC w _ _).below⟩
      · have hq1 : ¬ (((Utf8.decode (sB r) p).1 : Int) = 10) := by omega
        have hq2 : ¬ (((Utf8.decode (sB r) p).1 : Int) = 35) := by omega
        have hq3 : ¬ (((Utf8.decode (sB r) p).1 : Int) = 32) := by omega
        have hq4 : ¬ (((Utf8.decode (sB r) p).1 : Int) = 9) := by omega
        clear HA0
        generalize (Utf8.decode (sB r) p).1 = cc at *
        generalize (Utf8.decode (sB r) p).2 = nn at *
        cases com with
        | true =>
          have HN := Lib.hid (show p + nn + skipB true (r.drop (p + nn)) = T from by have h1 := HT2.out; omega)
          clear hs0 hs1
          go_wp2
          go_roundw
          case rel => exact ⟨p + nn, true, hpl, rfl, rfl, HN.out⟩
          case measure => simp; omega
        | false =>
          have HN := Lib.hid (show p = T from by have h1 := HT2.out; omega)
          clear hs0 hs1
          have b3 : ((cc : Int) != 32) = true := by simpa using hq3
          have b4 : ((cc : Int) != 9) = true := by simpa using hq4
          go_wp2
          rw [Exit.noGoto_ret]
          go_ret
          exact ⟨by have h := HN.out; subst h; simp [go_sem], (iter_extC w _ _).below⟩
    · have hq : ¬ p < (sB r).size := by omega
      have hnx : ∀ ty, (Instr.next (.pointer (some ⟨w.heap.size, 0, none⟩)) true ty).run Tryz.prog (w.iter (sB r) p) = _ := fun ty => run_next_end w (sB r) p ty hq
      have HN := Lib.hid (show a + T = s.length from by have h1 := HT2.out; have h3 := HZ.out com; rw [show p = r.length by omega] at h1; omega)
      go_wp2
      rw [Exit.noGoto_ret]
      go_ret
      exact ⟨by have h := HN.out; rw [h]; rfl, (iter_extC w _ _).below⟩
end Go.Proofs.YtmokejjndkibhaaGreatDoor

namespace Go.Proofs.YtmokejjndkibhaaGreatDoor
open Go.RowKit
set_option linter.unusedVariables false
set_option linter.unusedSimpArgs false
attribute [local go_sem] sB_extract

theorem put4 {W : World} {B : Nat} {c : Array Value} {T : TypeId} {f : Nat × Nat} (h : W.heap[B]? = some (.cells c T f)) (hc : c.size = 4) (x0 x1 x2 x3 : Value) :
    ∃ W', ((((W.setCell ⟨B, 0, none⟩ x0).setCell ⟨B, 1, none⟩ x1).setCell ⟨B, 2, none⟩ x2).setCell ⟨B, 3, none⟩ x3) = W' ∧ W'.heap[B]? = some (.cells #[x0, x1, x2, x3] T f) ∧
    (∀ n₀, n₀ ≤ B → Below n₀ W W') ∧ (∀ b, b ≠ B → W'.heap[b]? = W.heap[b]?) := by
  refine ⟨_, rfl, ?_, fun n₀ hn => (((((Below.refl n₀ W).setCell (p := ⟨B, 0, none⟩) hn _).setCell (p := ⟨B, 1, none⟩) hn _).setCell (p := ⟨B, 2, none⟩) hn _).setCell (p := ⟨B, 3, none⟩) hn _), fun b hb => ?_⟩
  · obtain ⟨l⟩ := c
    match l, hc with
    | [a0, a1, a2, a3], _ =>
      have h0 : Turn B (.cells #[a0, a1, a2, a3] T f) W W := Turn.refl h
      exact ((((h0.setCell (i := 0) x0).setCell (i := 1) x1).setCell (i := 2) x2).setCell (i := 3) x3).here
  · rw [Below.heap_setCell _ ⟨B, 3, none⟩ _ _ hb, Below.heap_setCell _ ⟨B, 2, none⟩ _ _ hb, Below.heap_setCell _ ⟨B, 1, none⟩ _ _ hb, Below.heap_setCell _ ⟨B, 0, none⟩ _ _ hb]
abbrev tTk : TypeId := 36
abbrev tk0O : Obj := .cells #[.int .i64 0, sV [], .int .i64 0, .int .i64 0] tTk
theorem ext_alloc (w : World) (o : Obj) : Ext w (w.alloc o) := (Below.refl _ w).alloc (Nat.le_refl _) _
/-- a cell of the call's own that some calls later still is what it was -/
theorem kept_new {w w1 : World} {o : Obj} (h : Ext (w.alloc o) w1) : w1.heap[w.heap.size]? = some o ∧ Ext w w1 :=
  ⟨(h.below.block _ (lt_of_block (alloc_here w o))).trans (alloc_here w o), Ext.trans (ext_alloc w o) h⟩

theorem sub_take (s : List UInt8) (a n : Nat) : (s.take (a + n)).drop a = (s.drop a).take n := by
  rw [List.drop_take]
  congr 1
  omega
theorem oneT_name {s : List UInt8} {a : Nat} (h : a < s.length) (hl : letB s[a] = true) (p : Int) : oneT (s.drop a) p = if 30 < cntW insC (s.drop a) then (tk0, 5) else (⟨1, (s.drop a).take (cntW insC (s.drop a)), 0, p⟩, 0) := by
  rw [List.drop_eq_getElem_cons h]
  unfold oneT
  dsimp only
  rw [if_pos hl]
set_option maxRecDepth 100000 in
set_option maxHeartbeats 2000000 in
theorem nameT_any (s : List UInt8) (a : Nat) (w : World) (hs : s.length ≤ 100000) (h : a < s.length) (hl : letB s[a] = true) :
    Gives Tryz.prog 43 #[sV s, .int .i64 (a : Int)] w (.tuple #[TV (oneT (s.drop a) (a : Int)).1, .int .i64 (oneT (s.drop a) (a : Int)).2]) := by
  unfold Gives
  have KE := Lib.hid (fun W => end_any insC 71 (enters_lx Tryz.func71 (by kernel_rfl) rfl) (fun c W => lxInside_any c W) s a W hs (by omega))
  rw [oneT_name h hl]
  have hle := cntW_le insC (s.drop a)
  rw [List.length_drop] at hle
  have HT := Lib.hid (sub_take s a (cntW insC (s.drop a)))
  have hsz := sB_size s
  generalize cntW insC (s.drop a) = n at *
  generalize (s.drop a).take n = T at *
  clear hl
  by_cases hn : 30 < n
  · rw [if_pos hn]
    go_enter Tryz.func43, Tryz.ntmps43
    go_wp2_with fail
    refine (KE.out _).mono ?_
    intro w1 hE
    obtain ⟨hb, hE1⟩ := kept_new hE
    have HB := Lib.hid hb
    have HE := Lib.hid hE1
    clear hE hE1
    have d0 := cell_of (i := 0) hb rfl
    have d1 := cell_of (i := 1) hb rfl
    have d2 := cell_of (i := 2) hb rfl
    have d3 := cell_of (i := 3) hb rfl
    have f0 : ∀ i, w1.frozen? ⟨w.heap.size, i, none⟩ = false := fun i => free_of hb
    clear hb
    go_wp2
    obtain ⟨W', hW', h3, h4, h5⟩ := put4 HB.out rfl (.int .i64 0) (.string { data := #[] }) (.int .i64 0) (.int .i64 0)
    rw [hW']
    have e0 := cell_of (i := 0) h3 rfl
    have e1 := cell_of (i := 1) h3 rfl
    have e2 := cell_of (i := 2) h3 rfl
    have e3 := cell_of (i := 3) h3 rfl
    exact bodyPost_ret (v := .tuple #[.agg #[.int .i64 0, .string { data := #[] }, .int .i64 0, .int .i64 0], .int .i64 5]) (by simp [results, Tryz.f43, go_sem, e0, e1, e2, e3]) rfl ⟨rfl, Below.trans HE.out (h4 _ (Nat.le_refl _))⟩
  · rw [if_neg hn]
    go_enter Tryz.func43, Tryz.ntmps43
    go_wp2_with fail
    refine (KE.out _).mono ?_
    intro w1 hE
    obtain ⟨hb, hE1⟩ := kept_new hE
    have HB := Lib.hid hb
    have HE := Lib.hid hE1
    clear hE hE1
    have d0 := cell_of (i := 0) hb rfl
    have d1 := cell_of (i := 1) hb rfl
    have d2 := cell_of (i := 2) hb rfl
    have d3 := cell_of (i := 3) hb rfl
    have f0 : ∀ i, w1.frozen? ⟨w.heap.size, i, none⟩ = false := fun i => free_of hb
    clear hb
    go_wp2
    obtain ⟨W', hW', h3, h4, h5⟩ := put4 HB.out rfl (.int .i64 1) (.string (sB ((s.take (a + n)).drop a))) (.int .i64 0) (.int .i64 (a : Int))
    rw [hW']
    have e0 := cell_of (i := 0) h3 rfl
    have e1 := cell_of (i := 1) h3 rfl
    have e2 := cell_of (i := 2) h3 rfl
    have e3 := cell_of (i := 3) h3 rfl
    exact bodyPost_ret (v := .tuple #[.agg #[.int .i64 1, .string (sB ((s.take (a + n)).drop a)), .int .i64 0, .int .i64 (a : Int)], .int .i64 0]) (by simp [results, Tryz.f43, go_sem, e0, e1, e2, e3]) rfl ⟨by rw [HT.out], Below.trans HE.out (h4 _ (Nat.le_refl _))⟩
end Go.Proofs.YtmokejjndkibhaaGreatDoor

namespace Go.Proofs.YtmokejjndkibhaaGreatDoor
open Go.RowKit Go.Shelf
set_option linter.unusedVariables false
set_option linter.unusedSimpArgs false

/-- the tokens that lie at p -/
def Tk.cells (w : World) (b o : Nat) (x : Tk) : Prop := w.cell? ⟨b, o, none⟩ = some (.int .i64 x.kind) ∧ w.cell? ⟨b, o + 1, none⟩ = some (sV x.text) ∧ w.cell? ⟨b, o + 2, none⟩ = some (.int .i64 x.val) ∧ w.cell? ⟨b, o + 3, none⟩ = some (.int .i64 x.pos)
def TkRow (w : World) (p : Option Addr) (l : List Tk) : Prop := ∀ i (h : i < l.length), ∃ b o, p = some ⟨b, o, none⟩ ∧ Tk.cells w b (o + i * 4) l[i]
theorem ownsRow_extT {base : Nat} {e : TypeId} {k : Nat} {v : Value} {n : Nat} {xs : List Value} {w w' : World} (h : w.ownsRow base e k v n xs) (hb : Ext w w') : w'.ownsRow base e k v n xs := ownsRow_extI h hb.below
theorem flat_get {α : Type} (f : α → List Value) (k : Nat) (hf : ∀ x, (f x).length = k) : ∀ (l : List α) (i : Nat) (h : i < l.length) (j : Nat), j < k → (l.flatMap f)[i * k + j]? = (f l[i])[j]?
  | x :: l, 0, _, j, hj => by
    rw [List.flatMap_cons, Nat.zero_mul, Nat.zero_add, List.getElem?_append_left (by rw [hf]; exact hj)]; rfl
  | x :: l, i + 1, h, j, hj => by
    rw [List.flatMap_cons, List.getElem?_append_right (by rw [hf, Nat.add_mul]; omega), hf]
    rw [show (i + 1) * k + j - k = i * k + j by rw [Nat.add_mul]; omega]
    exact flat_get f k hf l i (by simpa using h) j hj
variable {ops : Array Oper} {rest : List Oper} {o : Oper} {a : Act} {Q : Exit → Act → World → Prop}

/-- the cells of tokens -/
def cTk (x : Tk) : List Value := [.int .i64 x.kind, sV x.text, .int .i64 x.val, .int .i64 x.pos]
theorem infoTk : (Tryz.prog.info? 36).map (fun i => (i.zero, i.size, i.bytes)) = some (some (.agg #[.int .i64 0, sV [], .int .i64 0, .int .i64 0]), 4, 40) := by kernel_rfl
/-- v is a row of tokens of the call's own -/
def RowT (base : Nat) (v : Value) (l : List Tk) (w : World) : Prop := w.ownsRow base 36 4 v l.length (l.flatMap cTk)
theorem RowT.ext {base : Nat} {v : Value} {l : List Tk} {w w' : World} (h : RowT base v l w) (hE : Ext w w') : RowT base v l w' := ownsRow_extT h hE
theorem RowT.nil (base : Nat) (w : World) : RowT base (.slice none 0 0) [] w := World.ownsRow_nil _ _ _ _
theorem RowT.set {base : Nat} {v : Value} {l : List Tk} {w : World} (h : RowT base v l w) {g i : Nat} {u : Value} (hg : g < base) : RowT base v l (w.setCell ⟨g, i, none⟩ u) := by
  obtain ⟨h1, h2⟩ := h
  refine ⟨h1, ?_⟩
  rcases h2 with h2 | ⟨k, cap, cur, hv, hb, hk, hr⟩
  · exact .inl h2
  · exact .inr ⟨k, cap, cur, hv, hb, (Below.heap_setCell _ _ _ _ (by show k ≠ g; omega)).trans hk, hr⟩
theorem wp_appT (hgd : o.guard = none) (s x : Operand) (ho : o.op = .call { callee := .builtin .append, args := #[s, x], argTypes := #[31, 31] })
    (base : Nat) (v : Value) (l : List Tk) (hs : a.eval s = v) (W : World) (h : RowT base v l W) (r : Tk) (cs : Array Value) (hcs : cs.toList = cTk r) (g : Nat) (hx : a.eval x = .slice (some ⟨g, 0, none⟩) 1 1) (hgs : W.heap.size = g) (hlen : l.length ≤ 1000000000) (hbase : base ≤ W.heap.size)
    (hK : ∀ v' w', RowT base v' (l ++ [r]) w' → Below base W w' → (∀ b, b < W.heap.size → v.ownBlock ≠ some b → w'.heap[b]? = W.heap[b]?) → wpList Tryz.prog ops Q rest (a.put o.dst v') w') : wpList Tryz.prog ops Q (o :: rest) a (W.alloc (.cells cs 36)) := by
  subst hgs
  obtain ⟨i0, hi, hz0, hz1, hz2⟩ := info_parts infoTk
  have hb := alloc_here W (.cells cs 36)
  refine wpList_append_own _ hgd s x 31 ho base 36 i0 (.agg #[.int .i64 0, sV [], .int .i64 0, .int .i64 0]) 4 40 Tryz.underlying31 hi hz0 hz1 hz2 rfl (by decide) v l.length (l.flatMap cTk) hs (World.ownsRow.alloc h _) ⟨W.heap.size, 0, none⟩ 1 1 (cTk r) hx rfl (fun j u hu => ?_) (fun u hu => ?_) (by unfold maxLen; omega) (by omega) (by simp; omega) ?_
  · have e : (⟨W.heap.size, 0, none⟩ : Addr).add j = ⟨W.heap.size, j, none⟩ := by unfold Addr.add; split <;> simp_all
    rw [e]
    refine cell_of hb ?_
    rw [← hcs] at hu
    simpa using hu
  · simp only [cTk, List.mem_cons, List.not_mem_nil, or_false] at hu
    rcases hu with rfl | rfl | rfl | rfl <;> rfl
  · intro v' w' hown hg _
    refine hK v' w' ?_ ?_ (fun b hb1 hb2 => (hg.block b (by simp; omega) (fun e => hb2 e.symm)).trans (Below.heap_alloc W _ b hb1))
    · unfold RowT
      simpa [List.flatMap_append] using hown
    · exact ((Below.refl base W).alloc hbase _).grown hg (by simp; omega) (fun k e => (World.ownsRow.lt h k e).1)

theorem RowT.at {base : Nat} {v : Value} {l : List Tk} {w : World} (h : RowT base v l w) : ∃ p c, v = .slice p l.length c ∧ TkRow w p l ∧ l.length ≤ c := by
  rcases h.2 with ⟨rfl, e⟩ | ⟨g, cap, cur, hv, hb, hg, hn, hc, hs, ht⟩
  · obtain rfl := List.eq_nil_of_length_eq_zero e
    exact ⟨none, 0, rfl, fun i hi => absurd hi (Nat.not_lt_zero _), Nat.le_refl _⟩
  · refine ⟨_, cap, hv, fun i hi => ⟨g, 0, rfl, ?_⟩, hn⟩
    have hget : ∀ j, j < 4 → w.cell? ⟨g, 0 + i * 4 + j, none⟩ = (cTk l[i])[j]? := fun j hj => by
      have h1 : (cur.toList.take (l.length * 4))[i * 4 + j]? = (l.flatMap cTk)[i * 4 + j]? := by rw [ht]
      rw [List.getElem?_take, if_pos (by omega), flat_get cTk 4 (fun _ => rfl) l i hi j hj] at h1
      rw [Nat.zero_add]
      have h2 : (cTk l[i])[j]? = some ((cTk l[i])[j]'hj) := List.getElem?_eq_getElem hj
      rw [h2] at h1 ⊢
      exact cell_of hg (by simpa using h1)
    exact ⟨hget 0 (by omega), hget 1 (by omega), hget 2 (by omega), hget 3 (by omega)⟩
end Go.Proofs.YtmokejjndkibhaaGreatDoor

namespace Go.Proofs.YtmokejjndkibhaaGreatDoor
open Go.RowKit
set_option linter.unusedVariables false
set_option linter.unusedSimpArgs false

/-- the reserved names -/
def kwL : List (List UInt8) := [
  [97, 99, 113, 117, 105, 114, 101],
  [97, 100, 100],
  [97, 110, 121],
  [97, 114, 114, 105, 118, 101],
  [97, 115],
  [97, 115, 115, 101, 114, 116],
  [97, 116, 111, 109, 105, 99],
  [97, 119, 97, 105, 116],
  [98, 97, 114, 114, 105, 101, 114],
  [98, 101, 103, 105, 110],
  [98, 114, 111, 97, 100, 99, 97, 115, 116],
  [98, 117, 100, 103, 101, 116],
  [99, 97, 108, 108],
  [99, 97, 110, 99, 101, 108],
  [99, 104, 97, 110, 110, 101, 108],
  [99, 104, 101, 99, 107, 112, 111, 105, 110, 116],
  [99, 108, 101, 97, 110, 117, 112],
  [99, 108, 111, 115, 101],
  [99, 111, 109, 112, 108, 101, 116, 101],
  [99, 111, 110, 100],
  [100, 101, 97, 100, 108, 105, 110, 101],
  [100, 101, 102, 97, 117, 108, 116],
  [100, 101, 102, 101, 114],
  [101, 108, 115, 101],
  [101, 109, 105, 116],
  [101, 110, 100],
  [101, 118, 101, 114, 121],
  [102, 97, 105, 108],
  [102, 117, 110, 99],
  [102, 117, 116, 117, 114, 101],
  [105, 102],
  [108, 101, 116],
  [108, 105, 109, 105, 116, 101, 114],
  [108, 111, 99, 107],
  [109, 97, 115, 107],
  [109, 117, 116, 101, 120],
  [110, 101, 120, 116],
  [111, 110],
  [112, 114, 105, 111, 114, 105, 116, 121],
  [112, 117, 98, 108, 105, 115, 104],
  [114, 101, 97, 100, 108, 111, 99, 107],
  [114, 101, 97, 100, 117, 110, 108, 111, 99, 107],
  [114, 101, 99, 101, 105, 118, 101],
  [114, 101, 108, 101, 97, 115, 101],
  [114, 101, 112, 101, 97, 116],
  [114, 101, 116, 117, 114, 110],
  [114, 119, 108, 111, 99, 107],
  [115, 99, 111, 112, 101],
  [115, 101, 108, 101, 99, 116],
  [115, 101, 109, 97, 112, 104, 111, 114, 101],
  [115, 101, 110, 100],
  [115, 105, 103, 110, 97, 108],
  [115, 108, 101, 101, 112],
  [115, 112, 97, 119, 110],
  [115, 117, 98, 115, 99, 114, 105, 98, 101],
  [115, 119, 97, 112],
  [116, 97, 107, 101],
  [116, 97, 115, 107],
  [116, 111, 112, 105, 99],
  [116, 114, 121, 97, 99, 113, 117, 105, 114, 101],
  [116, 114, 121, 108, 111, 99, 107],
  [117, 110, 108, 111, 99, 107],
  [117, 110, 115, 117, 98, 115, 99, 114, 105, 98, 101],
  [118, 97, 114],
  [119, 97, 105, 116],
  [119, 104, 105, 108, 101],
  [119, 114, 105, 116, 101, 108, 111, 99, 107],
  [119, 114, 105, 116, 101, 117, 110, 108, 111, 99, 107],
  [121, 105, 101, 108, 100]]
def kwB (s : List UInt8) : Bool := kwL.contains s
/-- the operators with two arguments: sign, operator, precedence -/
def lxL : List (List UInt8 × Int × Int) := [([124, 124], 15, 1), ([38, 38], 14, 2), ([61, 61], 8, 3), ([33, 61], 9, 3), ([60], 10, 3), ([60, 61], 11, 3), ([62], 12, 3), ([62, 61], 13, 3), ([43], 3, 4), ([45], 4, 4), ([42], 5, 5), ([47], 6, 5), ([37], 7, 5)]
def lxF (x : List UInt8) : Int × Int := ((lxL.find? (fun p => p.1 == x)).map (·.2)).getD (0, 0)
/-- the text of a number is its value in decimal -/
def numOk (t : Tk) : Bool := decide (0 ≤ t.val ∧ t.val ≤ 1099511627776 ∧ Lib.decDigits t.val.toNat = t.text)
def namOk (t : Tk) : Bool := isNm t.text && !kwB t.text
/-- the token at k is this sign -/
def sgB (l : List Tk) (k : Nat) (x : List UInt8) : Bool := match l[k]? with
  | none => false
  | some t => decide (t.kind = 3 ∧ t.text = x)
def opAt (l : List Tk) (k : Nat) : Int × Int := match l[k]? with
  | none => (0, 0)
  | some t => if t.kind = 3 then lxF t.text else (0, 0)
theorem sgB_some {l : List Tk} {k : Nat} {x : List UInt8} (h : sgB l k x = true) : ∃ hk : k < l.length, l[k].kind = 3 ∧ l[k].text = x := by
  unfold sgB at h
  split at h
  · cases h
  · rename_i t ht
    obtain ⟨hk, rfl⟩ := List.getElem?_eq_some_iff.1 ht
    exact ⟨hk, by simpa using h⟩
theorem sgB_at {l : List Tk} {k : Nat} (h : k < l.length) (x : List UInt8) : sgB l k x = decide (l[k].kind = 3 ∧ l[k].text = x) := by
  unfold sgB; rw [List.getElem?_eq_getElem h]
theorem sgB_out {l : List Tk} {k : Nat} (h : l.length ≤ k) (x : List UInt8) : sgB l k x = false := by
  unfold sgB; rw [List.getElem?_eq_none h]
theorem opAt_at {l : List Tk} {k : Nat} (h : k < l.length) : opAt l k = if l[k].kind = 3 then lxF l[k].text else (0, 0) := by
  unfold opAt; rw [List.getElem?_eq_getElem h]
theorem opAt_out {l : List Tk} {k : Nat} (h : l.length ≤ k) : opAt l k = (0, 0) := by
  unfold opAt; rw [List.getElem?_eq_none h]

/-- what reading gives: an expression and where it ends, or which token is wrong -/
inductive Res where
  | ok (e : Ex) (k : Nat)
  | bad (k : Nat)
/-- what is read: an operand, an expression of a precedence, the rest of one behind e -/
inductive Md where
  | opd
  | bin (p : Nat)
  | loop (p : Nat) (e : Ex)
abbrev numX (v : Int) : Ex := .mk 1 0 [] v []
abbrev namX (s : List UInt8) : Ex := .mk 2 0 s 0 []
abbrev unX (o : Int) (e : Ex) : Ex := .mk 3 o [] 0 [e]
abbrev binX (o : Int) (e f : Ex) : Ex := .mk 4 o [] 0 [e, f]
inductive Rd (l : List Tk) : Md → Nat → Res → Prop
  | num {k : Nat} (h : k < l.length) (h1 : l[k].kind = 2) (h2 : numOk l[k] = true) : Rd l .opd k (.ok (numX l[k].val) (k + 1))
  | nam {k : Nat} (h : k < l.length) (h1 : l[k].kind = 1) (h2 : namOk l[k] = true) : Rd l .opd k (.ok (namX l[k].text) (k + 1))
  | neg {k j : Nat} {e : Ex} (h : sgB l k [45] = true) (h1 : Rd l .opd (k + 1) (.ok e j)) : Rd l .opd k (.ok (unX 1 e) j)
  | negB {k j : Nat} (h : sgB l k [45] = true) (h1 : Rd l .opd (k + 1) (.bad j)) : Rd l .opd k (.bad j)
  | no {k j : Nat} {e : Ex} (h : sgB l k [33] = true) (h1 : Rd l .opd (k + 1) (.ok e j)) : Rd l .opd k (.ok (unX 2 e) j)
  | noB {k j : Nat} (h : sgB l k [33] = true) (h1 : Rd l .opd (k + 1) (.bad j)) : Rd l .opd k (.bad j)
  | par {k j : Nat} {e : Ex} (h : sgB l k [40] = true) (h1 : Rd l (.bin 1) (k + 1) (.ok e j)) (h2 : sgB l j [41] = true) : Rd l .opd k (.ok e (j + 1))
  | parN {k j : Nat} {e : Ex} (h : sgB l k [40] = true) (h1 : Rd l (.bin 1) (k + 1) (.ok e j)) (h2 : sgB l j [41] = false) : Rd l .opd k (.bad j)
  | parB {k j : Nat} (h : sgB l k [40] = true) (h1 : Rd l (.bin 1) (k + 1) (.bad j)) : Rd l .opd k (.bad j)
  | out {k : Nat} (h : l.length ≤ k) : Rd l .opd k (.bad k)
  | bad {k : Nat} (h : k < l.length) (h1 : l[k].kind = 2 → numOk l[k] = false) (h2 : l[k].kind = 1 → namOk l[k] = false) (h3 : sgB l k [45] = false) (h4 : sgB l k [33] = false) (h5 : sgB l k [40] = false) : Rd l .opd k (.bad k)
  | six {k p : Nat} {r : Res} (hp : 6 ≤ p) (h : Rd l .opd k r) : Rd l (.bin p) k r
  | binB {k p j : Nat} (hp : p ≤ 5) (h : Rd l (.bin (p + 1)) k (.bad j)) : Rd l (.bin p) k (.bad j)
  | bin {k p j : Nat} {e : Ex} {r : Res} (hp : p ≤ 5) (h : Rd l (.bin (p + 1)) k (.ok e j)) (h1 : Rd l (.loop p e) j r) : Rd l (.bin p) k r
  | fin {k p : Nat} {e : Ex} (h : (opAt l k).2 ≠ (p : Int)) : Rd l (.loop p e) k (.ok e k)
  | argB {k p j : Nat} {e : Ex} (h : (opAt l k).2 = (p : Int)) (h1 : Rd l (.bin (p + 1)) (k + 1) (.bad j)) : Rd l (.loop p e) k (.bad j)
  | three {k p j : Nat} {e f : Ex} (hp : p = 3) (h : (opAt l k).2 = (p : Int)) (h1 : Rd l (.bin (p + 1)) (k + 1) (.ok f j)) : Rd l (.loop p e) k (.ok (binX (opAt l k).1 e f) j)
  | more {k p j : Nat} {e f : Ex} {r : Res} (hp : p ≠ 3) (h : (opAt l k).2 = (p : Int)) (h1 : Rd l (.bin (p + 1)) (k + 1) (.ok f j)) (h2 : Rd l (.loop p (binX (opAt l k).1 e f)) j r) : Rd l (.loop p e) k r

/-- where what is read ends -/
def Res.end_ : Res → Nat
  | .ok _ k => k
  | .bad k => k
def Res.isOk : Res → Bool
  | .ok _ _ => true
  | .bad _ => false
theorem opAt_lt {l : List Tk} {k p : Nat} (h : (opAt l k).2 = (p : Int)) (hp : 1 ≤ p) : k < l.length := by
  rcases Nat.lt_or_ge k l.length with h1 | h1
  · exact h1
  · rw [opAt_out h1] at h; simp at h; omega
def Md.lvl : Md → Nat
  | .opd => 6
  | .bin p => p
  | .loop p _ => p
/-- where reading ends: behind its beginning, within the tokens -/
theorem Rd.bound {l : List Tk} {m : Md} {k : Nat} {r : Res} (h : Rd l m k r) : 1 ≤ m.lvl → k ≤ l.length → k ≤ r.end_ ∧ r.end_ ≤ l.length ∧ (r.isOk = true → (∀ p e, m ≠ .loop p e) → k < r.end_) := by
  induction h with
  | num h h1 h2 => intro _ _; exact ⟨by simp [Res.end_], by simp [Res.end_]; omega, fun _ _ => by simp [Res.end_]⟩
  | nam h h1 h2 => intro _ _; exact ⟨by simp [Res.end_], by simp [Res.end_]; omega, fun _ _ => by simp [Res.end_]⟩
  | neg h h1 ih => intro _ hk; obtain ⟨hs, _⟩ := sgB_some h; have := ih (by decide) (by omega); simp only [Res.end_] at *; exact ⟨by omega, by omega, fun _ _ => by omega⟩
  | negB h h1 ih => intro _ hk; obtain ⟨hs, _⟩ := sgB_some h; have := ih (by decide) (by omega); simp only [Res.end_] at *; exact ⟨by omega, by omega, fun e => by simp [Res.isOk] at e⟩
  | no h h1 ih => intro _ hk; obtain ⟨hs, _⟩ := sgB_some h; have := ih (by decide) (by omega); simp only [Res.end_] at *; exact ⟨by omega, by omega, fun _ _ => by omega⟩
  | noB h h1 ih => intro _ hk; obtain ⟨hs, _⟩ := sgB_some h; have := ih (by decide) (by omega); simp only [Res.end_] at *; exact ⟨by omega, by omega, fun e => by simp [Res.isOk] at e⟩
  | par h h1 h2 ih => intro _ hk; obtain ⟨hs, _⟩ := sgB_some h; obtain ⟨hs2, _⟩ := sgB_some h2; have := ih (by decide) (by omega); simp only [Res.end_] at *; exact ⟨by omega, by omega, fun _ _ => by omega⟩
  | parN h h1 h2 ih => intro _ hk; obtain ⟨hs, _⟩ := sgB_some h; have := ih (by decide) (by omega); simp only [Res.end_] at *; exact ⟨by omega, by omega, fun e => by simp [Res.isOk] at e⟩
  | parB h h1 ih => intro _ hk; obtain ⟨hs, _⟩ := sgB_some h; have := ih (by decide) (by omega); simp only [Res.end_] at *; exact ⟨by omega, by omega, fun e => by simp [Res.isOk] at e⟩
  | out h => intro _ hk; exact ⟨by simp [Res.end_], by simp [Res.end_]; omega, fun e => by simp [Res.isOk] at e⟩
  | bad h => intro _ hk; exact ⟨by simp [Res.end_], by simp [Res.end_]; omega, fun e => by simp [Res.isOk] at e⟩
  | six hp h ih => intro _ hk; have := ih (by decide) hk; exact ⟨this.1, this.2.1, fun e _ => this.2.2 e (fun _ _ => by simp)⟩
  | binB hp h ih => intro h1 hk; have := ih (by simp only [Md.lvl] at *; omega) hk; exact ⟨this.1, this.2.1, fun e => by simp [Res.isOk] at e⟩
  | bin hp h h1 ih ih1 =>
    intro hl hk
    simp only [Md.lvl] at *
    have a := ih (by omega) hk
    simp only [Res.end_] at a
    have b := ih1 hl (by omega)
    have c := a.2.2 rfl (fun _ _ => by simp)
    exact ⟨by omega, b.2.1, fun e _ => by omega⟩
  | fin h => intro _ hk; exact ⟨by simp [Res.end_], by simp [Res.end_]; omega, fun _ e => absurd rfl (e _ _)⟩
  | argB h h1 ih => intro hl hk; simp only [Md.lvl] at *; have := opAt_lt h hl; have := ih (by omega) (by omega); simp only [Res.end_] at *; exact ⟨by omega, by omega, fun e => by simp [Res.isOk] at e⟩
  | three hp h h1 ih => intro hl hk; simp only [Md.lvl] at *; have := opAt_lt h hl; have := ih (by omega) (by omega); simp only [Res.end_] at *; exact ⟨by omega, by omega, fun _ e => absurd rfl (e _ _)⟩
  | more hp h h1 h2 ih ih2 =>
    intro hl hk
    simp only [Md.lvl] at *
    have := opAt_lt h hl
    have a := ih (by omega) (by omega)
    simp only [Res.end_] at a
    have b := ih2 hl (by omega)
    exact ⟨by omega, b.2.1, fun _ e => absurd rfl (e _ _)⟩
/-- reading always gives something -/
theorem Rd.total (l : List Tk) : ∀ (n k : Nat), k ≤ l.length → l.length - k ≤ n → (∃ r, Rd l .opd k r) ∧ (∀ p, 1 ≤ p → ∃ r, Rd l (.bin p) k r) ∧ ∀ p e, 1 ≤ p → ∃ r, Rd l (.loop p e) k r := by
  intro n
  induction n using Nat.strongRecOn with
  | _ n ih =>
    intro k hk hn
    have next : ∀ j, k < j → j ≤ l.length → (∃ r, Rd l .opd j r) ∧ (∀ p, 1 ≤ p → ∃ r, Rd l (.bin p) j r) ∧ ∀ p e, 1 ≤ p → ∃ r, Rd l (.loop p e) j r := fun j hj hj2 => ih (l.length - j) (by omega) j hj2 (Nat.le_refl _)
    have hopd : ∃ r, Rd l .opd k r := by
      rcases Nat.lt_or_ge k l.length with h | h
      · cases h45 : sgB l k [45] with
        | true =>
          obtain ⟨r, hr⟩ := (next (k + 1) (by omega) (by omega)).1
          cases r with
          | ok e j => exact ⟨_, .neg h45 hr⟩
          | bad j => exact ⟨_, .negB h45 hr⟩
        | false =>
        cases h33 : sgB l k [33] with
        | true =>
          obtain ⟨r, hr⟩ := (next (k + 1) (by omega) (by omega)).1
          cases r with
          | ok e j => exact ⟨_, .no h33 hr⟩
          | bad j => exact ⟨_, .noB h33 hr⟩
        | false =>
        cases h40 : sgB l k [40] with
        | true =>
          obtain ⟨r, hr⟩ := (next (k + 1) (by omega) (by omega)).2.1 1 (Nat.le_refl _)
          cases r with
          | ok e j =>
            cases h41 : sgB l j [41] with
            | true => exact ⟨_, .par h40 hr h41⟩
            | false => exact ⟨_, .parN h40 hr h41⟩
          | bad j => exact ⟨_, .parB h40 hr⟩
        | false =>
        by_cases h2 : l[k].kind = 2 ∧ numOk l[k] = true
        · exact ⟨_, .num h h2.1 h2.2⟩
        · by_cases h1 : l[k].kind = 1 ∧ namOk l[k] = true
          · exact ⟨_, .nam h h1.1 h1.2⟩
          · exact ⟨_, .bad h (fun e => by simpa [e] using h2) (fun e => by simpa [e] using h1) h45 h33 h40⟩
      · exact ⟨_, .out h⟩
    have hbin : ∀ m p, p + m = 6 → 1 ≤ p → ∃ r, Rd l (.bin p) k r := by
      intro m
      induction m with
      | zero => intro p hp _; obtain ⟨r, hr⟩ := hopd; exact ⟨r, .six (by omega) hr⟩
      | succ m ihm =>
        intro p hp h1
        obtain ⟨r, hr⟩ := ihm (p + 1) (by omega) (by omega)
        cases r with
        | bad j => exact ⟨_, .binB (by omega) hr⟩
        | ok e j =>
          have hb := hr.bound (by simp only [Md.lvl]; omega) hk
          obtain ⟨r2, hr2⟩ := (next j (hb.2.2 rfl (fun _ _ => by simp)) hb.2.1).2.2 p e h1
          exact ⟨_, .bin (by omega) hr hr2⟩
    refine ⟨hopd, fun p hp => ?_, fun p e hp => ?_⟩
    · rcases Nat.lt_or_ge p 6 with h | h
      · exact hbin (6 - p) p (by omega) hp
      · obtain ⟨r, hr⟩ := hopd; exact ⟨r, .six h hr⟩
    · by_cases ho : (opAt l k).2 = (p : Int)
      · have hlt := opAt_lt ho hp
        obtain ⟨r, hr⟩ := (next (k + 1) (by omega) (by omega)).2.1 (p + 1) (by omega)
        cases r with
        | bad j => exact ⟨_, .argB ho hr⟩
        | ok f j =>
          by_cases h3 : p = 3
          · exact ⟨_, .three h3 ho hr⟩
          · have hb := hr.bound (by simp only [Md.lvl]; omega) (by omega)
            have hlt2 := hb.2.2 rfl (fun _ _ => by simp)
            simp only [Res.end_] at hb hlt2
            obtain ⟨r2, hr2⟩ := (next j (by omega) hb.2.1).2.2 p (binX (opAt l k).1 e f) hp
            exact ⟨_, .more h3 ho hr hr2⟩
      · exact ⟨_, .fin ho⟩
theorem Rd.all (l : List Tk) : ∃ r, Rd l (.bin 1) 0 r := (Rd.total l l.length 0 (Nat.zero_le _) (by omega)).2.1 1 (Nat.le_refl _)
end Go.Proofs.YtmokejjndkibhaaGreatDoor

namespace Go.Proofs.YtmokejjndkibhaaGreatDoor
open Go.RowKit
set_option linter.unusedVariables false
set_option linter.unusedSimpArgs false

theorem take_cnt (q : UInt8 → Bool) (l : List UInt8) : l.take (cntW q l) = l.takeWhile q := (List.prefix_iff_eq_take.1 (List.takeWhile_prefix q)).symm
theorem digB_iff (c : UInt8) : digB c = true ↔ 48 ≤ c.toNat ∧ c.toNat ≤ 57 := by unfold digB; simp
def DigsL (l : List UInt8) : Prop := ∀ c ∈ l, 48 ≤ c.toNat ∧ c.toNat ≤ 57
theorem digs_take (l : List UInt8) : DigsL (l.take (cntW digB l)) := fun c hc => by
  rw [take_cnt] at hc
  exact (digB_iff c).1 (List.all_eq_true.1 List.all_takeWhile _ hc)
theorem numF_le : ∀ (l : List UInt8) (n : Int), DigsL l → 0 ≤ n → n ≤ l.foldl (fun n c => n * 10 + ((c.toNat : Int) - 48)) n
  | [], n, _, _ => Int.le_refl _
  | c :: l, n, h, hn => by
    have h0 := h c (List.mem_cons_self ..)
    have := numF_le l (n * 10 + ((c.toNat : Int) - 48)) (fun d hd => h d (List.mem_cons_of_mem _ hd)) (by omega)
    simp only [List.foldl_cons]
    omega
theorem numV_succ {l : List UInt8} {i : Nat} (h : i < l.length) : numV (l.take (i + 1)) = numV (l.take i) * 10 + ((l[i].toNat : Int) - 48) := by
  rw [List.take_succ_eq_append_getElem h]
  unfold numV
  rw [List.foldl_append]
  rfl
theorem numV_nonneg {l : List UInt8} (h : DigsL l) (i : Nat) : 0 ≤ numV (l.take i) := numF_le _ 0 (fun c hc => h c (List.mem_of_mem_take hc)) (Int.le_refl _)
theorem numV_le {l : List UInt8} (h : DigsL l) (i : Nat) : numV (l.take i) ≤ numV l := by
  have h1 : numV l = (l.drop i).foldl (fun n c => n * 10 + ((c.toNat : Int) - 48)) (numV (l.take i)) := by
    unfold numV
    rw [← List.foldl_append, List.take_append_drop]
  rw [h1]
  exact numF_le _ _ (fun c hc => h c (List.mem_of_mem_drop hc)) (numV_nonneg h i)
theorem u8_sub {x : Nat} (h1 : 48 ≤ x) (h2 : x ≤ 57) : IntKind.u8.wrap ((x : Int) - 48) = (x : Int) - 48 := by
  obtain ⟨y, rfl⟩ : ∃ y, x = 48 + y := ⟨x - 48, by omega⟩
  have : y < 10 := by omega
  have e : ((48 + y : Nat) : Int) - 48 = y := by omega
  rw [e]
  match y, this with
  | 0, _ | 1, _ | 2, _ | 3, _ | 4, _ | 5, _ | 6, _ | 7, _ | 8, _ | 9, _ => rfl
theorem oneT_num {s : List UInt8} {a : Nat} (h : a < s.length) (hl : letB s[a] = false) (hd : digB s[a] = true) (p : Int) :
    oneT (s.drop a) p = if (1 < cntW digB (s.drop a) ∧ s[a].toNat = 48) ∨ ((s[a + cntW digB (s.drop a)]?).any fun d => letB d || decide (d.toNat = 95)) = true then (tk0, 3)
       else if 1099511627776 < numV ((s.drop a).take (cntW digB (s.drop a))) then (tk0, 2) else (⟨2, (s.drop a).take (cntW digB (s.drop a)), numV ((s.drop a).take (cntW digB (s.drop a))), p⟩, 0) := by
  have e : s[a + cntW digB (s.drop a)]? = (s.drop a)[cntW digB (s.drop a)]? := by rw [List.getElem?_drop]
  rw [e, List.drop_eq_getElem_cons h]
  unfold oneT
  dsimp only
  rw [if_neg (by simp [hl]), if_pos hd]

set_option maxRecDepth 100000 in
set_option maxHeartbeats 4000000 in
/-- what is left once the text is known -/
theorem numberT_any (s : List UInt8) (a : Nat) (w : World) (hs : s.length ≤ 100000) (h : a < s.length) (hl : letB s[a] = false) (hd : digB s[a] = true) :
    Gives Tryz.prog 45 #[sV s, .int .i64 (a : Int)] w (.tuple #[TV (oneT (s.drop a) (a : Int)).1, .int .i64 (oneT (s.drop a) (a : Int)).2]) := by
  unfold Gives
  have KE := Lib.hid (fun W => end_any digB 44 (enters_lx Tryz.func44 (by kernel_rfl) rfl) (fun c W => lxDigit_any c W) s a W hs (by omega))
  have KL := Lib.hid (fun (c : UInt8) W => lxLetter_any c W)
  rw [oneT_num h hl hd]
  have hle := cntW_le digB (s.drop a)
  rw [List.length_drop] at hle
  have hn1 : 1 ≤ cntW digB (s.drop a) := by rw [cntW_at h, if_pos hd]; omega
  have hx : (sB s).extract a (a + cntW digB (s.drop a)) = sB ((s.drop a).take (cntW digB (s.drop a))) := by rw [sB_extract, sub_take]
  have HD := Lib.hid (digs_take (s.drop a))
  have hTl : ((s.drop a).take (cntW digB (s.drop a))).length = cntW digB (s.drop a) := by rw [List.length_take, List.length_drop]; omega
  have HT0 := Lib.hid (show ∀ h0 : 0 < ((s.drop a).take (cntW digB (s.drop a))).length, ((s.drop a).take (cntW digB (s.drop a)))[0] = s[a] from fun h0 => by rw [List.getElem_take, List.getElem_drop]; rfl)
  have hsz := sB_size s
  generalize cntW digB (s.drop a) = n at *
  generalize (s.drop a).take n = T at *
  have hTz := sB_size T
  clear hl hd
  have HTL := Lib.hid hTl
  have hT0 : 0 < T.length := by omega
  have HT00 := Lib.hid (HT0.out hT0)
  by_cases hbad : (1 < n ∧ s[a].toNat = 48)
  · rw [if_pos (Or.inl hbad)]
    obtain ⟨b1, b2⟩ := hbad
    have hc : T[0].toNat = 48 := by rw [HT00.out]; exact b2
    clear b2
    go_enter Tryz.func45, Tryz.ntmps45
    go_wp2_with fail
    refine (KE.out _).mono ?_
    intro w1 hE
    obtain ⟨hb, hE1⟩ := kept_new hE
    have HB := Lib.hid hb
    have HE := Lib.hid hE1
    clear hE hE1
    have d0 := cell_of (i := 0) hb rfl
    have d1 := cell_of (i := 1) hb rfl
    have d2 := cell_of (i := 2) hb rfl
    have d3 := cell_of (i := 3) hb rfl
    have f0 : ∀ i, w1.frozen? ⟨w.heap.size, i, none⟩ = false := fun i => free_of hb
    clear hb
    go_wp2
    obtain ⟨W', hW', h3, h4, h5⟩ := put4 (HB).out rfl (.int .i64 0) (.string { data := #[] }) (.int .i64 0) (.int .i64 0)
    rw [hW']
    have e0 := cell_of (i := 0) h3 rfl
    have e1 := cell_of (i := 1) h3 rfl
    have e2 := cell_of (i := 2) h3 rfl
    have e3 := cell_of (i := 3) h3 rfl
    exact bodyPost_ret (v := .tuple #[.agg #[(.int .i64 0), (.string { data := #[] }), (.int .i64 0), (.int .i64 0)], .int .i64 3]) (by simp [results, Tryz.f45, go_sem, e0, e1, e2, e3]) rfl ⟨rfl, Below.trans (HE).out (h4 _ (Nat.le_refl _))⟩
  · by_cases b1 : 1 < n
    · have hc : ((T[0].toNat : Int) == 48) = false := beq_eq_false_iff_ne.2 (by rw [HT00.out]; intro e; exact hbad ⟨b1, by omega⟩)
      by_cases hk : a + n < s.length
      · have hks : s[a + n]? = some (s[a + n]'hk) := List.getElem?_eq_getElem hk
        have HA := Lib.hid (show ((s[a + n]?).any fun d => letB d || decide (d.toNat = 95)) = (letB (s[a + n]'hk) || decide ((s[a + n]'hk).toNat = 95)) from by rw [hks]; rfl)
        clear hks
        obtain ⟨lb, hlb⟩ : ∃ b, letB (s[a + n]'hk) = b := ⟨_, rfl⟩
        have KLB : ∀ W, Gives Tryz.prog 42 #[.int .u8 ((s[a + n]'hk).toNat : Int)] W (.bool lb) := fun W => by rw [← hlb]; exact KL.out _ W
        have hq : a + n < (sB s).size := by omega
        cases lb with
        | true =>
          rw [if_pos (Or.inr (by rw [HA.out, hlb]; rfl))]
          clear hlb HA
          go_enter Tryz.func45, Tryz.ntmps45
          go_wp2_with fail
          refine (KE.out _).mono ?_
          intro w1 hE
          obtain ⟨hb, hE1⟩ := kept_new hE
          have HB := Lib.hid hb
          have HE := Lib.hid hE1
          clear hE hE1
          have d0 := cell_of (i := 0) hb rfl
          have d1 := cell_of (i := 1) hb rfl
          have d2 := cell_of (i := 2) hb rfl
          have d3 := cell_of (i := 3) hb rfl
          have f0 : ∀ i, w1.frozen? ⟨w.heap.size, i, none⟩ = false := fun i => free_of hb
          clear hb
          go_wp2_with fail
          refine (KLB _).mono ?_
          intro w2 hE2
          have hb2 := (hE2.block _ (lt_of_block HB.out)).trans HB.out
          have HE2 := Lib.hid (Ext.trans HE.out hE2)
          have HB2 := Lib.hid hb2
          clear d0 d1 d2 d3 f0 hE2
          have d0 := cell_of (i := 0) hb2 rfl
          have d1 := cell_of (i := 1) hb2 rfl
          have d2 := cell_of (i := 2) hb2 rfl
          have d3 := cell_of (i := 3) hb2 rfl
          have f0 : ∀ i, w2.frozen? ⟨w.heap.size, i, none⟩ = false := fun i => free_of hb2
          clear hb2
          go_wp2
          obtain ⟨W', hW', h3, h4, h5⟩ := put4 (HB2).out rfl (.int .i64 0) (.string { data := #[] }) (.int .i64 0) (.int .i64 0)
          rw [hW']
          have e0 := cell_of (i := 0) h3 rfl
          have e1 := cell_of (i := 1) h3 rfl
          have e2 := cell_of (i := 2) h3 rfl
          have e3 := cell_of (i := 3) h3 rfl
          exact bodyPost_ret (v := .tuple #[.agg #[(.int .i64 0), (.string { data := #[] }), (.int .i64 0), (.int .i64 0)], .int .i64 3]) (by simp [results, Tryz.f45, go_sem, e0, e1, e2, e3]) rfl ⟨rfl, Below.trans (HE2).out (h4 _ (Nat.le_refl _))⟩
        | false =>
          by_cases h95 : (s[a + n]'hk).toNat = 95
          · rw [if_pos (Or.inr (by rw [HA.out, hlb, h95]; rfl))]
            have H95 := Lib.hid (show (((s[a + n]'hk).toNat : Int) == 95) = true from by simp; omega)
            clear hlb HA h95
            go_enter Tryz.func45, Tryz.ntmps45
            go_wp2_with fail
            refine (KE.out _).mono ?_
            intro w1 hE
            obtain ⟨hb, hE1⟩ := kept_new hE
            have HB := Lib.hid hb
            have HE := Lib.hid hE1
            clear hE hE1
            have d0 := cell_of (i := 0) hb rfl
            have d1 := cell_of (i := 1) hb rfl
            have d2 := cell_of (i := 2) hb rfl
            have d3 := cell_of (i := 3) hb rfl
            have f0 : ∀ i, w1.frozen? ⟨w.heap.size, i, none⟩ = false := fun i => free_of hb
            clear hb
            go_wp2_with fail
            refine (KLB _).mono ?_
            intro w2 hE2
            have hb2 := (hE2.block _ (lt_of_block HB.out)).trans HB.out
            have HE2 := Lib.hid (Ext.trans HE.out hE2)
            have HB2 := Lib.hid hb2
            clear d0 d1 d2 d3 f0 hE2
            have d0 := cell_of (i := 0) hb2 rfl
            have d1 := cell_of (i := 1) hb2 rfl
            have d2 := cell_of (i := 2) hb2 rfl
            have d3 := cell_of (i := 3) hb2 rfl
            have f0 : ∀ i, w2.frozen? ⟨w.heap.size, i, none⟩ = false := fun i => free_of hb2
            clear hb2
            have h95 := H95.out
            go_wp2
            obtain ⟨W', hW', h3, h4, h5⟩ := put4 (HB2).out rfl (.int .i64 0) (.string { data := #[] }) (.int .i64 0) (.int .i64 0)
            rw [hW']
            have e0 := cell_of (i := 0) h3 rfl
            have e1 := cell_of (i := 1) h3 rfl
            have e2 := cell_of (i := 2) h3 rfl
            have e3 := cell_of (i := 3) h3 rfl
            exact bodyPost_ret (v := .tuple #[.agg #[(.int .i64 0), (.string { data := #[] }), (.int .i64 0), (.int .i64 0)], .int .i64 3]) (by simp [results, Tryz.f45, go_sem, e0, e1, e2, e3]) rfl ⟨rfl, Below.trans (HE2).out (h4 _ (Nat.le_refl _))⟩
          · rw [if_neg (fun e => e.elim hbad (fun e => by rw [HA.out, hlb] at e; simp [h95] at e))]
            have H95 := Lib.hid (show (((s[a + n]'hk).toNat : Int) == 95) = false from beq_eq_false_iff_ne.2 (by omega))
            clear hlb HA h95
            obtain ⟨R, hR⟩ : ∃ R, (if 1099511627776 < numV T then (tk0, (2 : Int)) else (⟨2, T, numV T, (a : Int)⟩, 0)) = R := ⟨_, rfl⟩
            rw [hR]
            have HR := Lib.hid hR
            clear hR
            go_enter Tryz.func45, Tryz.ntmps45
            go_wp2_with fail
            refine (KE.out _).mono ?_
            intro w1 hE
            obtain ⟨hb, hE1⟩ := kept_new hE
            have HB := Lib.hid hb
            have HE := Lib.hid hE1
            clear hE hE1
            have d0 := cell_of (i := 0) hb rfl
            have d1 := cell_of (i := 1) hb rfl
            have d2 := cell_of (i := 2) hb rfl
            have d3 := cell_of (i := 3) hb rfl
            have f0 : ∀ i, w1.frozen? ⟨w.heap.size, i, none⟩ = false := fun i => free_of hb
            clear hb
            go_wp2_with fail
            refine (KLB _).mono ?_
            intro w2 hE2
            have hb2 := (hE2.block _ (lt_of_block HB.out)).trans HB.out
            have HE2 := Lib.hid (Ext.trans HE.out hE2)
            have HB2 := Lib.hid hb2
            clear d0 d1 d2 d3 f0 hE2
            have d0 := cell_of (i := 0) hb2 rfl
            have d1 := cell_of (i := 1) hb2 rfl
            have d2 := cell_of (i := 2) hb2 rfl
            have d3 := cell_of (i := 3) hb2 rfl
            have f0 : ∀ i, w2.frozen? ⟨w.heap.size, i, none⟩ = false := fun i => free_of hb2
            clear hb2
            have h95 := H95.out
            go_wp2
            go_loopw [8, 9, 46] (fun n8 i9 i wr => ∃ i0 : Nat, i0 ≤ T.length ∧ i = .int .i64 (i0 : Int) ∧ n8 = .int .i64 (numV (T.take i0)) ∧ numV (T.take i0) ≤ 1099511627776 ∧ wr = w2) (fun _ _ i _ => T.length - (intOf i).toNat)
            case atStart => exact ⟨0, by omega, rfl, rfl, by simp [numV], rfl⟩
            case round =>
              obtain ⟨i0, hi, rfl, rfl, hm, rfl⟩ := hrel
              have HM0 := Lib.hid (numV_nonneg HD.out i0)
              have HML := Lib.hid (numV_le HD.out (i0 + 1))
              by_cases hlt : i0 < T.length
              · have hdg := HD.out T[i0] (List.getElem_mem hlt)
                have hw := u8_sub hdg.1 hdg.2
                have HS := Lib.hid (numV_succ hlt)
                have HH := Lib.hid hdg
                have hg := sB_get T i0 (by omega)
                clear hg
                have m0 := HM0.out
                generalize numV (T.take i0) = m at *
                by_cases hov : 1099511627776 < m * 10 + ((T[i0].toNat : Int) - 48)
                · have HV := Lib.hid (show 1099511627776 < numV T by have := HS.out; have := HML.out; omega)
                  clear HM0
                  go_wp2
                  obtain ⟨W', hW', h3, h4, h5⟩ := put4 (HB2).out rfl (.int .i64 0) (.string { data := #[] }) (.int .i64 0) (.int .i64 0)
                  rw [hW']
                  have e0 := cell_of (i := 0) h3 rfl
                  have e1 := cell_of (i := 1) h3 rfl
                  have e2 := cell_of (i := 2) h3 rfl
                  have e3 := cell_of (i := 3) h3 rfl
                  exact bodyPost_ret (v := .tuple #[.agg #[(.int .i64 0), (.string { data := #[] }), (.int .i64 0), (.int .i64 0)], .int .i64 2]) (by simp [results, Tryz.f45, go_sem, e0, e1, e2, e3]) rfl ⟨(by rw [← HR.out, if_pos (by have h9 := HV.out; omega)]; rfl), Below.trans (HE2).out (h4 _ (Nat.le_refl _))⟩
                · clear HM0
                  go_wp2
                  go_roundw
                  case rel => exact ⟨i0 + 1, by omega, by go_num, by rw [HS.out], by have := HS.out; omega, by first | rfl | trivial⟩
                  case measure => simp [intOf]; omega
              · have hie : i0 = T.length := by omega
                have HV : Hid (¬ 1099511627776 < numV T) := Lib.hid (by have h := hm; rw [hie, List.take_length] at h; omega)
                have HT2 := Lib.hid (show numV (T.take i0) = numV T by rw [hie, List.take_length])
                clear hie hm HM0 HML
                generalize numV (T.take i0) = m at *
                go_wp2
                obtain ⟨W', hW', h3, h4, h5⟩ := put4 (HB2).out rfl (.int .i64 2) (.string (sB T)) (.int .i64 m) (.int .i64 (a : Int))
                rw [hW']
                have e0 := cell_of (i := 0) h3 rfl
                have e1 := cell_of (i := 1) h3 rfl
                have e2 := cell_of (i := 2) h3 rfl
                have e3 := cell_of (i := 3) h3 rfl
                exact bodyPost_ret (v := .tuple #[.agg #[(.int .i64 2), (.string (sB T)), (.int .i64 m), (.int .i64 (a : Int))], .int .i64 0]) (by simp [results, Tryz.f45, go_sem, e0, e1, e2, e3]) rfl ⟨(by rw [← HR.out, if_neg (by have h9 := HV.out; omega), HT2.out]), Below.trans (HE2).out (h4 _ (Nat.le_refl _))⟩
      · have HA := Lib.hid (show ((s[a + n]?).any fun d => letB d || decide (d.toNat = 95)) = false from by rw [List.getElem?_eq_none (by omega)]; rfl)
        rw [if_neg (fun e => e.elim hbad (fun e => by rw [HA.out] at e; cases e))]
        clear HA
        obtain ⟨R, hR⟩ : ∃ R, (if 1099511627776 < numV T then (tk0, (2 : Int)) else (⟨2, T, numV T, (a : Int)⟩, 0)) = R := ⟨_, rfl⟩
        rw [hR]
        have HR := Lib.hid hR
        clear hR
        go_enter Tryz.func45, Tryz.ntmps45
        go_wp2_with fail
        refine (KE.out _).mono ?_
        intro w1 hE
        obtain ⟨hb, hE1⟩ := kept_new hE
        have HB := Lib.hid hb
        have HE := Lib.hid hE1
        clear hE hE1
        have d0 := cell_of (i := 0) hb rfl
        have d1 := cell_of (i := 1) hb rfl
        have d2 := cell_of (i := 2) hb rfl
        have d3 := cell_of (i := 3) hb rfl
        have f0 : ∀ i, w1.frozen? ⟨w.heap.size, i, none⟩ = false := fun i => free_of hb
        clear hb
        go_wp2
        go_loopw [8, 9, 46] (fun n8 i9 i wr => ∃ i0 : Nat, i0 ≤ T.length ∧ i = .int .i64 (i0 : Int) ∧ n8 = .int .i64 (numV (T.take i0)) ∧ numV (T.take i0) ≤ 1099511627776 ∧ wr = w1) (fun _ _ i _ => T.length - (intOf i).toNat)
        case atStart => exact ⟨0, by omega, rfl, rfl, by simp [numV], rfl⟩
        case round =>
          obtain ⟨i0, hi, rfl, rfl, hm, rfl⟩ := hrel
          have HM0 := Lib.hid (numV_nonneg HD.out i0)
          have HML := Lib.hid (numV_le HD.out (i0 + 1))
          by_cases hlt : i0 < T.length
          · have hdg := HD.out T[i0] (List.getElem_mem hlt)
            have hw := u8_sub hdg.1 hdg.2
            have HS := Lib.hid (numV_succ hlt)
            have HH := Lib.hid hdg
            have hg := sB_get T i0 (by omega)
            clear hg
            have m0 := HM0.out
            generalize numV (T.take i0) = m at *
            by_cases hov : 1099511627776 < m * 10 + ((T[i0].toNat : Int) - 48)
            · have HV := Lib.hid (show 1099511627776 < numV T by have := HS.out; have := HML.out; omega)
              clear HM0
              go_wp2
              obtain ⟨W', hW', h3, h4, h5⟩ := put4 (HB).out rfl (.int .i64 0) (.string { data := #[] }) (.int .i64 0) (.int .i64 0)
              rw [hW']
              have e0 := cell_of (i := 0) h3 rfl
              have e1 := cell_of (i := 1) h3 rfl
              have e2 := cell_of (i := 2) h3 rfl
              have e3 := cell_of (i := 3) h3 rfl
              exact bodyPost_ret (v := .tuple #[.agg #[(.int .i64 0), (.string { data := #[] }), (.int .i64 0), (.int .i64 0)], .int .i64 2]) (by simp [results, Tryz.f45, go_sem, e0, e1, e2, e3]) rfl ⟨(by rw [← HR.out, if_pos (by have h9 := HV.out; omega)]; rfl), Below.trans (HE).out (h4 _ (Nat.le_refl _))⟩
            · clear HM0
              go_wp2
              go_roundw
              case rel => exact ⟨i0 + 1, by omega, by go_num, by rw [HS.out], by have := HS.out; omega, by first | rfl | trivial⟩
              case measure => simp [intOf]; omega
          · have hie : i0 = T.length := by omega
            have HV : Hid (¬ 1099511627776 < numV T) := Lib.hid (by have h := hm; rw [hie, List.take_length] at h; omega)
            have HT2 := Lib.hid (show numV (T.take i0) = numV T by rw [hie, List.take_length])
            clear hie hm HM0 HML
            generalize numV (T.take i0) = m at *
            go_wp2
            obtain ⟨W', hW', h3, h4, h5⟩ := put4 (HB).out rfl (.int .i64 2) (.string (sB T)) (.int .i64 m) (.int .i64 (a : Int))
            rw [hW']
            have e0 := cell_of (i := 0) h3 rfl
            have e1 := cell_of (i := 1) h3 rfl
            have e2 := cell_of (i := 2) h3 rfl
            have e3 := cell_of (i := 3) h3 rfl
            exact bodyPost_ret (v := .tuple #[.agg #[(.int .i64 2), (.string (sB T)), (.int .i64 m), (.int .i64 (a : Int))], .int .i64 0]) (by simp [results, Tryz.f45, go_sem, e0, e1, e2, e3]) rfl ⟨(by rw [← HR.out, if_neg (by have h9 := HV.out; omega), HT2.out]), Below.trans (HE).out (h4 _ (Nat.le_refl _))⟩
    · skip
      by_cases hk : a + n < s.length
      · have hks : s[a + n]? = some (s[a + n]'hk) := List.getElem?_eq_getElem hk
        have HA := Lib.hid (show ((s[a + n]?).any fun d => letB d || decide (d.toNat = 95)) = (letB (s[a + n]'hk) || decide ((s[a + n]'hk).toNat = 95)) from by rw [hks]; rfl)
        clear hks
        obtain ⟨lb, hlb⟩ : ∃ b, letB (s[a + n]'hk) = b := ⟨_, rfl⟩
        have KLB : ∀ W, Gives Tryz.prog 42 #[.int .u8 ((s[a + n]'hk).toNat : Int)] W (.bool lb) := fun W => by rw [← hlb]; exact KL.out _ W
        have hq : a + n < (sB s).size := by omega
        cases lb with
        | true =>
          rw [if_pos (Or.inr (by rw [HA.out, hlb]; rfl))]
          clear hlb HA
          go_enter Tryz.func45, Tryz.ntmps45
          go_wp2_with fail
          refine (KE.out _).mono ?_
          intro w1 hE
          obtain ⟨hb, hE1⟩ := kept_new hE
          have HB := Lib.hid hb
          have HE := Lib.hid hE1
          clear hE hE1
          have d0 := cell_of (i := 0) hb rfl
          have d1 := cell_of (i := 1) hb rfl
          have d2 := cell_of (i := 2) hb rfl
          have d3 := cell_of (i := 3) hb rfl
          have f0 : ∀ i, w1.frozen? ⟨w.heap.size, i, none⟩ = false := fun i => free_of hb
          clear hb
          go_wp2_with fail
          refine (KLB _).mono ?_
          intro w2 hE2
          have hb2 := (hE2.block _ (lt_of_block HB.out)).trans HB.out
          have HE2 := Lib.hid (Ext.trans HE.out hE2)
          have HB2 := Lib.hid hb2
          clear d0 d1 d2 d3 f0 hE2
          have d0 := cell_of (i := 0) hb2 rfl
          have d1 := cell_of (i := 1) hb2 rfl
          have d2 := cell_of (i := 2) hb2 rfl
          have d3 := cell_of (i := 3) hb2 rfl
          have f0 : ∀ i, w2.frozen? ⟨w.heap.size, i, none⟩ = false := fun i => free_of hb2
          clear hb2
          go_wp2
          obtain ⟨W', hW', h3, h4, h5⟩ := put4 (HB2).out rfl (.int .i64 0) (.string { data := #[] }) (.int .i64 0) (.int .i64 0)
          rw [hW']
          have e0 := cell_of (i := 0) h3 rfl
          have e1 := cell_of (i := 1) h3 rfl
          have e2 := cell_of (i := 2) h3 rfl
          have e3 := cell_of (i := 3) h3 rfl
          exact bodyPost_ret (v := .tuple #[.agg #[(.int .i64 0), (.string { data := #[] }), (.int .i64 0), (.int .i64 0)], .int .i64 3]) (by simp [results, Tryz.f45, go_sem, e0, e1, e2, e3]) rfl ⟨rfl, Below.trans (HE2).out (h4 _ (Nat.le_refl _))⟩
        | false =>
          by_cases h95 : (s[a + n]'hk).toNat = 95
          · rw [if_pos (Or.inr (by rw [HA.out, hlb, h95]; rfl))]
            have H95 := Lib.hid (show (((s[a + n]'hk).toNat : Int) == 95) = true from by simp; omega)
            clear hlb HA h95
            go_enter Tryz.func45, Tryz.ntmps45
            go_wp2_with fail
            refine (KE.out _).mono ?_
            intro w1 hE
            obtain ⟨hb, hE1⟩ := kept_new hE
            have HB := Lib.hid hb
            have HE := Lib.hid hE1
            clear hE hE1
            have d0 := cell_of (i := 0) hb rfl
            have d1 := cell_of (i := 1) hb rfl
            have d2 := cell_of (i := 2) hb rfl
            have d3 := cell_of (i := 3) hb rfl
            have f0 : ∀ i, w1.frozen? ⟨w.heap.size, i, none⟩ = false := fun i => free_of hb
            clear hb
            go_wp2_with fail
            refine (KLB _).mono ?_
            intro w2 hE2
            have hb2 := (hE2.block _ (lt_of_block HB.out)).trans HB.out
            have HE2 := Lib.hid (Ext.trans HE.out hE2)
            have HB2 := Lib.hid hb2
            clear d0 d1 d2 d3 f0 hE2
            have d0 := cell_of (i := 0) hb2 rfl
            have d1 := cell_of (i := 1) hb2 rfl
            have d2 := cell_of (i := 2) hb2 rfl
            have d3 := cell_of (i := 3) hb2 rfl
            have f0 : ∀ i, w2.frozen? ⟨w.heap.size, i, none⟩ = false := fun i => free_of hb2
            clear hb2
            have h95 := H95.out
            go_wp2
            obtain ⟨W', hW', h3, h4, h5⟩ := put4 (HB2).out rfl (.int .i64 0) (.string { data := #[] }) (.int .i64 0) (.int .i64 0)
            rw [hW']
            have e0 := cell_of (i := 0) h3 rfl
            have e1 := cell_of (i := 1) h3 rfl
            have e2 := cell_of (i := 2) h3 rfl
            have e3 := cell_of (i := 3) h3 rfl
            exact bodyPost_ret (v := .tuple #[.agg #[(.int .i64 0), (.string { data := #[] }), (.int .i64 0), (.int .i64 0)], .int .i64 3]) (by simp [results, Tryz.f45, go_sem, e0, e1, e2, e3]) rfl ⟨rfl, Below.trans (HE2).out (h4 _ (Nat.le_refl _))⟩
          · rw [if_neg (fun e => e.elim hbad (fun e => by rw [HA.out, hlb] at e; simp [h95] at e))]
            have H95 := Lib.hid (show (((s[a + n]'hk).toNat : Int) == 95) = false from beq_eq_false_iff_ne.2 (by omega))
            clear hlb HA h95
            obtain ⟨R, hR⟩ : ∃ R, (if 1099511627776 < numV T then (tk0, (2 : Int)) else (⟨2, T, numV T, (a : Int)⟩, 0)) = R := ⟨_, rfl⟩
            rw [hR]
            have HR := Lib.hid hR
            clear hR
            go_enter Tryz.func45, Tryz.ntmps45
            go_wp2_with fail
            refine (KE.out _).mono ?_
            intro w1 hE
            obtain ⟨hb, hE1⟩ := kept_new hE
            have HB := Lib.hid hb
            have HE := Lib.hid hE1
            clear hE hE1
            have d0 := cell_of (i := 0) hb rfl
            have d1 := cell_of (i := 1) hb rfl
            have d2 := cell_of (i := 2) hb rfl
            have d3 := cell_of (i := 3) hb rfl
            have f0 : ∀ i, w1.frozen? ⟨w.heap.size, i, none⟩ = false := fun i => free_of hb
            clear hb
            go_wp2_with fail
            refine (KLB _).mono ?_
            intro w2 hE2
            have hb2 := (hE2.block _ (lt_of_block HB.out)).trans HB.out
            have HE2 := Lib.hid (Ext.trans HE.out hE2)
            have HB2 := Lib.hid hb2
            clear d0 d1 d2 d3 f0 hE2
            have d0 := cell_of (i := 0) hb2 rfl
            have d1 := cell_of (i := 1) hb2 rfl
            have d2 := cell_of (i := 2) hb2 rfl
            have d3 := cell_of (i := 3) hb2 rfl
            have f0 : ∀ i, w2.frozen? ⟨w.heap.size, i, none⟩ = false := fun i => free_of hb2
            clear hb2
            have h95 := H95.out
            go_wp2
            go_loopw [8, 9, 46] (fun n8 i9 i wr => ∃ i0 : Nat, i0 ≤ T.length ∧ i = .int .i64 (i0 : Int) ∧ n8 = .int .i64 (numV (T.take i0)) ∧ numV (T.take i0) ≤ 1099511627776 ∧ wr = w2) (fun _ _ i _ => T.length - (intOf i).toNat)
            case atStart => exact ⟨0, by omega, rfl, rfl, by simp [numV], rfl⟩
            case round =>
              obtain ⟨i0, hi, rfl, rfl, hm, rfl⟩ := hrel
              have HM0 := Lib.hid (numV_nonneg HD.out i0)
              have HML := Lib.hid (numV_le HD.out (i0 + 1))
              by_cases hlt : i0 < T.length
              · have hdg := HD.out T[i0] (List.getElem_mem hlt)
                have hw := u8_sub hdg.1 hdg.2
                have HS := Lib.hid (numV_succ hlt)
                have HH := Lib.hid hdg
                have hg := sB_get T i0 (by omega)
                clear hg
                have m0 := HM0.out
                generalize numV (T.take i0) = m at *
                by_cases hov : 1099511627776 < m * 10 + ((T[i0].toNat : Int) - 48)
                · have HV := Lib.hid (show 1099511627776 < numV T by have := HS.out; have := HML.out; omega)
                  clear HM0
                  go_wp2
                  obtain ⟨W', hW', h3, h4, h5⟩ := put4 (HB2).out rfl (.int .i64 0) (.string { data := #[] }) (.int .i64 0) (.int .i64 0)
                  rw [hW']
                  have e0 := cell_of (i := 0) h3 rfl
                  have e1 := cell_of (i := 1) h3 rfl
                  have e2 := cell_of (i := 2) h3 rfl
                  have e3 := cell_of (i := 3) h3 rfl
                  exact bodyPost_ret (v := .tuple #[.agg #[(.int .i64 0), (.string { data := #[] }), (.int .i64 0), (.int .i64 0)], .int .i64 2]) (by simp [results, Tryz.f45, go_sem, e0, e1, e2, e3]) rfl ⟨(by rw [← HR.out, if_pos (by have h9 := HV.out; omega)]; rfl), Below.trans (HE2).out (h4 _ (Nat.le_refl _))⟩
                · clear HM0
                  go_wp2
                  go_roundw
                  case rel => exact ⟨i0 + 1, by omega, by go_num, by rw [HS.out], by have := HS.out; omega, by first | rfl | trivial⟩
                  case measure => simp [intOf]; omega
              · have hie : i0 = T.length := by omega
                have HV : Hid (¬ 1099511627776 < numV T) := Lib.hid (by have h := hm; rw [hie, List.take_length] at h; omega)
                have HT2 := Lib.hid (show numV (T.take i0) = numV T by rw [hie, List.take_length])
                clear hie hm HM0 HML
                generalize numV (T.take i0) = m at *
                go_wp2
                obtain ⟨W', hW', h3, h4, h5⟩ := put4 (HB2).out rfl (.int .i64 2) (.string (sB T)) (.int .i64 m) (.int .i64 (a : Int))
                rw [hW']
                have e0 := cell_of (i := 0) h3 rfl
                have e1 := cell_of (i := 1) h3 rfl
                have e2 := cell_of (i := 2) h3 rfl
                have e3 := cell_of (i := 3) h3 rfl
                exact bodyPost_ret (v := .tuple #[.agg #[(.int .i64 2), (.string (sB T)), (.int .i64 m), (.int .i64 (a : Int))], .int .i64 0]) (by simp [results, Tryz.f45, go_sem, e0, e1, e2, e3]) rfl ⟨(by rw [← HR.out, if_neg (by have h9 := HV.out; omega), HT2.out]), Below.trans (HE2).out (h4 _ (Nat.le_refl _))⟩
      · have HA := Lib.hid (show ((s[a + n]?).any fun d => letB d || decide (d.toNat = 95)) = false from by rw [List.getElem?_eq_none (by omega)]; rfl)
        rw [if_neg (fun e => e.elim hbad (fun e => by rw [HA.out] at e; cases e))]
        clear HA
        obtain ⟨R, hR⟩ : ∃ R, (if 1099511627776 < numV T then (tk0, (2 : Int)) else (⟨2, T, numV T, (a : Int)⟩, 0)) = R := ⟨_, rfl⟩
        rw [hR]
        have HR := Lib.hid hR
        clear hR
        go_enter Tryz.func45, Tryz.ntmps45
        go_wp2_with fail
        refine (KE.out _).mono ?_
        intro w1 hE
        obtain ⟨hb, hE1⟩ := kept_new hE
        have HB := Lib.hid hb
        have HE := Lib.hid hE1
        clear hE hE1
        have d0 := cell_of (i := 0) hb rfl
        have d1 := cell_of (i := 1) hb rfl
        have d2 := cell_of (i := 2) hb rfl
        have d3 := cell_of (i := 3) hb rfl
        have f0 : ∀ i, w1.frozen? ⟨w.heap.size, i, none⟩ = false := fun i => free_of hb
        clear hb
        go_wp2
        go_loopw [8, 9, 46] (fun n8 i9 i wr => ∃ i0 : Nat, i0 ≤ T.length ∧ i = .int .i64 (i0 : Int) ∧ n8 = .int .i64 (numV (T.take i0)) ∧ numV (T.take i0) ≤ 1099511627776 ∧ wr = w1) (fun _ _ i _ => T.length - (intOf i).toNat)
        case atStart => exact ⟨0, by omega, rfl, rfl, by simp [numV], rfl⟩
        case round =>
          obtain ⟨i0, hi, rfl, rfl, hm, rfl⟩ := hrel
          have HM0 := Lib.hid (numV_nonneg HD.out i0)
          have HML := Lib.hid (numV_le HD.out (i0 + 1))
          by_cases hlt : i0 < T.length
          · have hdg := HD.out T[i0] (List.getElem_mem hlt)
            have hw := u8_sub hdg.1 hdg.2
            have HS := Lib.hid (numV_succ hlt)
            have HH := Lib.hid hdg
            have hg := sB_get T i0 (by omega)
            clear hg
            have m0 := HM0.out
            generalize numV (T.take i0) = m at *
            by_cases hov : 1099511627776 < m * 10 + ((T[i0].toNat : Int) - 48)
            · have HV := Lib.hid (show 1099511627776 < numV T by have := HS.out; have := HML.out; omega)
              clear HM0
              go_wp2
              obtain ⟨W', hW', h3, h4, h5⟩ := put4 (HB).out rfl (.int .i64 0) (.string { data := #[] }) (.int .i64 0) (.int .i64 0)
              rw [hW']
              have e0 := cell_of (i := 0) h3 rfl
              have e1 := cell_of (i := 1) h3 rfl
              have e2 := cell_of (i := 2) h3 rfl
              have e3 := cell_of (i := 3) h3 rfl
              exact bodyPost_ret (v := .tuple #[.agg #[(.int .i64 0), (.string { data := #[] }), (.int .i64 0), (.int .i64 0)], .int .i64 2]) (by simp [results, Tryz.f45, go_sem, e0, e1, e2, e3]) rfl ⟨(by rw [← HR.out, if_pos (by have h9 := HV.out; omega)]; rfl), Below.trans (HE).out (h4 _ (Nat.le_refl _))⟩
            · clear HM0
              go_wp2
              go_roundw
              case rel => exact ⟨i0 + 1, by omega, by go_num, by rw [HS.out], by have := HS.out; omega, by first | rfl | trivial⟩
              case measure => simp [intOf]; omega
          · have hie : i0 = T.length := by omega
            have HV : Hid (¬ 1099511627776 < numV T) := Lib.hid (by have h := hm; rw [hie, List.take_length] at h; omega)
            have HT2 := Lib.hid (show numV (T.take i0) = numV T by rw [hie, List.take_length])
            clear hie hm HM0 HML
            generalize numV (T.take i0) = m at *
            go_wp2
            obtain ⟨W', hW', h3, h4, h5⟩ := put4 (HB).out rfl (.int .i64 2) (.string (sB T)) (.int .i64 m) (.int .i64 (a : Int))
            rw [hW']
            have e0 := cell_of (i := 0) h3 rfl
            have e1 := cell_of (i := 1) h3 rfl
            have e2 := cell_of (i := 2) h3 rfl
            have e3 := cell_of (i := 3) h3 rfl
            exact bodyPost_ret (v := .tuple #[.agg #[(.int .i64 2), (.string (sB T)), (.int .i64 m), (.int .i64 (a : Int))], .int .i64 0]) (by simp [results, Tryz.f45, go_sem, e0, e1, e2, e3]) rfl ⟨(by rw [← HR.out, if_neg (by have h9 := HV.out; omega), HT2.out]), Below.trans (HE).out (h4 _ (Nat.le_refl _))⟩
end Go.Proofs.YtmokejjndkibhaaGreatDoor

namespace Go.Proofs.YtmokejjndkibhaaGreatDoor
open Go.RowKit
set_option linter.unusedVariables false
set_option linter.unusedSimpArgs false

/-- words, a space behind each -/
def spW (ws : List (List UInt8)) : List UInt8 := ws.flatMap fun w => w ++ [32]
theorem kw_plain : ∀ w ∈ kwL, ∀ c ∈ w, c ≠ 32 := by decide
theorem has_cons (b : UInt8) (l sub : List UInt8) : (0 ≤ Lib.index (b :: l) sub) ↔ (sub.isPrefixOf (b :: l) = true ∨ 0 ≤ Lib.index l sub) := by
  have h := Lib.index_ge l sub
  rw [Lib.index]
  split
  · rename_i h1; simp [h1]
  · rename_i h1
    split
    · rename_i h2; simp only [beq_iff_eq] at h2; simp [h1, h2]
    · rename_i h2
      simp only [beq_iff_eq] at h2
      constructor
      · intro _; right; omega
      · rintro (h3 | h3)
        · exact absurd h3 h1
        · omega
theorem has_word {s : List UInt8} (hs : ∀ c ∈ s, c ≠ 32) (x : List UInt8) : ∀ w : List UInt8, (∀ c ∈ w, c ≠ 32) → ((s ++ [32]).isPrefixOf (w ++ 32 :: x) = true ↔ s = w) := by
  induction s with
  | nil =>
    intro w hw
    cases w with
    | nil => simp
    | cons c w => have := hw c (List.mem_cons_self ..); simp [List.isPrefixOf, Ne.symm this]
  | cons a s ih =>
    intro w hw
    have ha := hs a (List.mem_cons_self ..)
    cases w with
    | nil => simp [List.isPrefixOf, ha]
    | cons c w =>
      have := ih (fun c hc => hs c (List.mem_cons_of_mem _ hc)) w (fun c hc => hw c (List.mem_cons_of_mem _ hc))
      simp only [List.cons_append, List.isPrefixOf, Bool.and_eq_true, beq_iff_eq, this, List.cons.injEq]
theorem has_skip {s x : List UInt8} : ∀ w : List UInt8, (∀ c ∈ w, c ≠ 32) → ((0 ≤ Lib.index (w ++ x) (32 :: s)) ↔ 0 ≤ Lib.index x (32 :: s))
  | [], _ => Iff.rfl
  | c :: w, h => by
    rw [List.cons_append, has_cons, has_skip w (fun d hd => h d (List.mem_cons_of_mem _ hd))]
    have := h c (List.mem_cons_self ..)
    simp [List.isPrefixOf, Ne.symm this]
theorem has_words {s : List UInt8} (hs : ∀ c ∈ s, c ≠ 32) : ∀ ws : List (List UInt8), (∀ w ∈ ws, ∀ c ∈ w, c ≠ 32) → ((0 ≤ Lib.index (32 :: spW ws) (32 :: (s ++ [32]))) ↔ s ∈ ws)
  | [], _ => by
    rw [has_cons]
    simp [spW, List.isPrefixOf, Lib.index]
  | w :: ws, h => by
    have hw := h w (List.mem_cons_self ..)
    rw [has_cons]
    have e : spW (w :: ws) = w ++ 32 :: spW ws := by simp [spW]
    rw [e, has_skip w hw, has_words hs ws (fun y hy => h y (List.mem_cons_of_mem _ hy)), List.mem_cons]
    simp only [List.isPrefixOf, beq_self_eq_true, Bool.true_and, has_word hs _ w hw]
theorem kw_has {s : List UInt8} (hs : ∀ c ∈ s, c ≠ 32) : Lib.contains (32 :: spW kwL) (32 :: (s ++ [32])) = kwB s := by
  unfold Lib.contains kwB
  rw [Bool.eq_iff_iff, decide_eq_true_iff, has_words hs kwL kw_plain, List.contains_iff_mem]
theorem kw_space {s : List UInt8} (h : (32 : UInt8) ∈ s) : kwB s = false := by
  unfold kwB
  rw [Bool.eq_false_iff]
  intro e
  rw [List.contains_iff_mem] at e
  exact kw_plain s e 32 h rfl
theorem kw_nil : kwB [] = false := by decide

/-- the value of digits, as a natural number -/
def natV (l : List UInt8) : Nat := l.foldl (fun n c => n * 10 + (c.toNat - 48)) 0
theorem numF_nat : ∀ (l : List UInt8) (n : Nat), DigsL l → l.foldl (fun n c => n * 10 + ((c.toNat : Int) - 48)) (n : Int) = ((l.foldl (fun n c => n * 10 + (c.toNat - 48)) n : Nat) : Int)
  | [], n, _ => rfl
  | c :: l, n, h => by
    have hc := h c (List.mem_cons_self ..)
    rw [List.foldl_cons, List.foldl_cons, ← numF_nat l _ (fun d hd => h d (List.mem_cons_of_mem _ hd))]
    congr 1
    omega
theorem numV_nat {l : List UInt8} (h : DigsL l) : numV l = (natV l : Int) := numF_nat l 0 h
theorem natV_snoc (l : List UInt8) (c : UInt8) : natV (l ++ [c]) = natV l * 10 + (c.toNat - 48) := by unfold natV; rw [List.foldl_append]; rfl
/-- a numeral: digits, no zero ahead -/
def Numl (l : List UInt8) : Prop := DigsL l ∧ l ≠ [] ∧ (l.length = 1 ∨ ∀ c, l.head? = some c → c.toNat ≠ 48)
theorem ofNat48 {d : Nat} (h : d < 10) : (UInt8.ofNat (48 + d)).toNat = 48 + d := by
  rw [UInt8.toNat_ofNat']
  omega
theorem natV_pos {c : UInt8} {l : List UInt8} (hd : DigsL (c :: l)) (hc : c.toNat ≠ 48) : 1 ≤ natV (c :: l) := by
  have h := numF_le l (natV [c]) (fun d h => hd d (List.mem_cons_of_mem _ h)) (by omega)
  have e : numV (c :: l) = l.foldl (fun n c => n * 10 + ((c.toNat : Int) - 48)) ((natV [c] : Nat) : Int) := by
    unfold numV natV
    have h1 := (hd c (List.mem_cons_self ..)).1
    simp only [List.foldl_cons, List.foldl_nil]
    congr 1
    omega
  have h1 := (hd c (List.mem_cons_self ..)).1
  have h2 : natV [c] = c.toNat - 48 := by simp [natV]
  rw [← e, numV_nat hd] at h
  omega
theorem dec_digits (n : Nat) : DigsL (Lib.decDigits n) ∧ Lib.decDigits n ≠ [] ∧ natV (Lib.decDigits n) = n ∧ (1 ≤ n → ∀ c, (Lib.decDigits n).head? = some c → c.toNat ≠ 48) := by
  induction n using Nat.strongRecOn with
  | _ n ih =>
    by_cases h : n < 10
    · rw [Lib.decDigits_one h]
      have e := ofNat48 h
      refine ⟨fun c hc => by rw [List.mem_singleton.1 hc, e]; omega, by simp, by simp only [natV, List.foldl_cons, List.foldl_nil, e]; omega, fun h1 c hc => ?_⟩
      simp only [List.head?_cons, Option.some.injEq] at hc
      rw [← hc, e]; omega
    · rw [Lib.decDigits.eq_def, dif_neg h]
      obtain ⟨i1, i2, i3, i4⟩ := ih (n / 10) (by omega)
      have e := ofNat48 (show n % 10 < 10 by omega)
      refine ⟨fun c hc => ?_, by simp, by rw [natV_snoc, i3, e]; omega, fun _ c hc => ?_⟩
      · rcases List.mem_append.1 hc with hc | hc
        · exact i1 c hc
        · rw [List.mem_singleton.1 hc, e]; omega
      · refine i4 (by omega) c ?_
        cases hd : Lib.decDigits (n / 10) with
        | nil => exact absurd hd i2
        | cons x l => rw [hd] at hc; simpa using hc
theorem dec_of (l : List UInt8) : ∀ (n : Nat), l.length ≤ n → Numl l → Lib.decDigits (natV l) = l := by
  intro n
  induction n generalizing l with
  | zero => intro hl ⟨_, h, _⟩; exact absurd (List.length_eq_zero_iff.1 (by omega)) h
  | succ n ih =>
    intro hl ⟨hd, hne, hz⟩
    obtain ⟨m, c, rfl⟩ : ∃ m c, l = m ++ [c] := ⟨l.dropLast, l.getLast hne, (List.dropLast_concat_getLast hne).symm⟩
    have hc := hd c (by simp)
    have hdm : DigsL m := fun d h => hd d (by simp [h])
    rw [natV_snoc]
    cases m with
    | nil =>
      have e : natV [] * 10 + (c.toNat - 48) = c.toNat - 48 := by simp [natV]
      rw [e, Lib.decDigits_one (by omega)]
      have : UInt8.ofNat (48 + (c.toNat - 48)) = c := by rw [show 48 + (c.toNat - 48) = c.toNat by omega]; simp
      rw [this]; rfl
    | cons x m =>
      have hx : x.toNat ≠ 48 := by
        rcases hz with h | h
        · simp at h
        · exact h x rfl
      have hp := natV_pos hdm hx
      have hm := ih (x :: m) (by simp at hl ⊢; omega) ⟨hdm, by simp, .inr (fun c hc => by simp at hc; rw [← hc]; exact hx)⟩
      rw [Lib.decDigits.eq_def, dif_neg (by omega)]
      rw [show (natV (x :: m) * 10 + (c.toNat - 48)) / 10 = natV (x :: m) by omega, hm, show (natV (x :: m) * 10 + (c.toNat - 48)) % 10 = c.toNat - 48 by omega]
      have : UInt8.ofNat (48 + (c.toNat - 48)) = c := by rw [show 48 + (c.toNat - 48) = c.toNat by omega]; simp
      rw [this]
theorem numl_iff {l : List UInt8} {v : Int} (h0 : 0 ≤ v) : Lib.decDigits v.toNat = l ↔ (Numl l ∧ numV l = v) := by
  constructor
  · rintro rfl
    obtain ⟨i1, i2, i3, i4⟩ := dec_digits v.toNat
    refine ⟨⟨i1, i2, ?_⟩, by rw [numV_nat i1, i3]; omega⟩
    by_cases h : v.toNat < 10
    · left; rw [Lib.decDigits_one h]; rfl
    · exact .inr (i4 (by omega))
  · rintro ⟨h1, h2⟩
    rw [numV_nat h1.1] at h2
    rw [show v.toNat = natV l by omega]
    exact dec_of l _ (Nat.le_refl _) h1
end Go.Proofs.YtmokejjndkibhaaGreatDoor

namespace Go.Proofs.YtmokejjndkibhaaGreatDoor
open Go.RowKit
set_option linter.unusedVariables false
set_option linter.unusedSimpArgs false

/-- the entries hold these keys and values, in this order -/
def HoldsS (es : Array MapEntry) (l : List (List UInt8 × Value)) : Prop := es.toList.map (fun e => (e.key, e.val)) = l.map fun p => (sV p.1, p.2)

theorem sB_beq (a b : List UInt8) : (sB a == sB b) = (a == b) := by
  show (a.toArray == b.toArray) = (a == b)
  simp
theorem findNowS_at (k : List UInt8) : ∀ (es : List MapEntry) (l : List (List UInt8 × Value)) (i : Nat), es.map (fun e => (e.key, e.val)) = l.map (fun p => (sV p.1, p.2)) →
    Instr.findNow .string (sV k) es i = some ((l.zipIdx i).find? (fun p => p.1.1 == k) |>.map fun p => (p.2, p.1.2))
  | [], l, i, h => by
    obtain rfl : l = [] := by simpa using h.symm
    rfl
  | e :: es, [], i, h => by simp at h
  | e :: es, (n, v) :: l, i, h => by
    simp only [List.map_cons, List.cons.injEq, Prod.mk.injEq] at h
    obtain ⟨⟨h1, h2⟩, h3⟩ := h
    have ih := findNowS_at k es l (i + 1) h3
    simp only [Instr.findNow, h1, Instr.sameNow, if_true, List.zipIdx_cons, List.find?_cons]
    by_cases hn : n = k
    · subst hn; simp [h2, sB_beq]
    · have e1 : (n == k) = false := by simpa using hn
      have e2 : (k == n) = false := by simpa using Ne.symm hn
      simp only [e1, e2]
      rw [sB_beq, e2]
      exact ih

variable {P : Program}
open Go.MapKept

theorem holdsS_find {es : Array MapEntry} {l : List (List UInt8 × Value)} (h : HoldsS es l) (kt : TypeId) (hk : P.underlying kt = some .string) (k : List UInt8) (w : World) :
    (Instr.findKey kt (sV k) es.toList).run P w = .ok ((l.zipIdx 0).find? (fun p => p.1.1 == k) |>.map fun p => (p.2, p.1.2)) w := by
  simp [Instr.findKey, run_underlying hk, findNowS_at k es.toList l 0 h, Result.andThen]

theorem check_str (kt : TypeId) (hk : P.underlying kt = some .string) (em : Bool) (k : List UInt8) (w : World) : (Instr.checkKey em 10000 kt (sV k)).run P w = .ok () w := by
  rw [show (10000 : Nat) = 9999 + 1 from rfl, Instr.checkKey]
  simp [run_underlying hk, Result.andThen]

theorem zipS_find (k : List UInt8) : ∀ (l : List (List UInt8 × Value)) (i : Nat), ((l.zipIdx i).find? (fun p => p.1.1 == k)).map (fun p => p.1.2) = (l.find? (fun p => p.1 == k)).map (·.2)
  | [], _ => rfl
  | (n, v) :: l, i => by
    simp only [List.zipIdx_cons, List.find?_cons]
    cases h : n == k with
    | true => rfl
    | false => exact zipS_find k l (i + 1)

/-- a look-up -/
theorem run_lookup_str {es : Array MapEntry} {clock b : Nat} {l : List (List UInt8 × Value)} {t kt e : TypeId} {w : World} (ht : P.underlying t = some (.map kt e)) (hk : P.underlying kt = some .string) (hb : w.heap[b]? = some (.map es clock)) (h : HoldsS es l) (z : Value) (hz : (zeroValue e).run P w = .ok z w) (k : List UInt8) (c : Bool) :
    (Instr.lookup t (.map (some b)) (sV k) c).run P w = .ok (if c then .tuple #[(((l.find? (fun p => p.1 == k)).map (·.2))).getD z, .bool ((l.find? (fun p => p.1 == k)).map (·.2)).isSome] else (((l.find? (fun p => p.1 == k)).map (·.2))).getD z) w := by
  rw [← zipS_find k l 0]
  have hf := holdsS_find (P := P) h kt hk k w
  simp only [Instr.lookup, Sem.run_bind, run_underlying ht, Go.MapKept.run_getObj_map hb, check_str kt hk, hf, Result.andThen, Sem.run_pure]
  cases (l.zipIdx 0).find? (fun p => p.1.1 == k) with
  | none => simp [hz, Result.andThen]
  | some x => simp

/-- a store of a new key -/
theorem run_insert_newS {es : Array MapEntry} {clock b : Nat} {l : List (List UInt8 × Value)} {t kt e : TypeId} {w : World} (ht : P.underlying t = some (.map kt e)) (hk : P.underlying kt = some .string) (hb : w.heap[b]? = some (.map es clock)) (h : HoldsS es l) (k : List UInt8) (hno : l.all (fun p => p.1 != k) = true) (v : Value) :
    ∃ es' clock' W, (Instr.mapUpdate t (.map (some b)) (sV k) v).run P w = .ok () W ∧ HoldsS es' (l ++ [(k, v)]) ∧ Turn b (.map es' clock') w W := by
  have hf := holdsS_find (P := P) h kt hk k w
  have hn : (l.zipIdx 0).find? (fun p => p.1.1 == k) = none := by
    have hz := zipS_find k l 0
    have h0 : l.find? (fun p => p.1 == k) = none := by
      rw [List.find?_eq_none]
      intro x hx
      have := List.all_eq_true.1 hno x hx
      simpa using this
    rw [h0] at hz
    simpa using hz
  rw [hn] at hf
  have hlt := lt_of_block hb
  refine ⟨es.push { key := sV k, val := v, born := clock }, clock + 1, { w with heap := w.heap.setIfInBounds b (.map (es.push { key := sV k, val := v, born := clock }) (clock + 1)) }, ?_, ?_, ?_⟩
  · simp only [Instr.mapUpdate, Sem.run_bind, run_underlying ht, Go.MapKept.run_getObj_map hb, check_str kt hk, hf, Result.andThen]
    simp [run_setObj_map _ hb]
  · unfold HoldsS at h ⊢
    simp [h]
  · exact ⟨rfl, rfl, rfl, by simp, by simp [hlt], fun j hj hne => by simp [Array.getElem?_setIfInBounds_ne (Ne.symm hne)]⟩

/-- block b is a map with these entries -/
def MapSAt (w : World) (b : Nat) (l : List (List UInt8 × Value)) : Prop := ∃ es clock, w.heap[b]? = some (.map es clock) ∧ HoldsS es l
theorem MapSAt.ext {w W : World} {b : Nat} {l : List (List UInt8 × Value)} (h : MapSAt w b l) (hE : Ext w W) : MapSAt W b l := by
  obtain ⟨es, c, h1, h2⟩ := h
  exact ⟨es, c, (hE.below.block b (lt_of_block h1)).trans h1, h2⟩
theorem MapSAt.lt {w : World} {b : Nat} {l : List (List UInt8 × Value)} (h : MapSAt w b l) : b < w.heap.size := by
  obtain ⟨es, c, h1, h2⟩ := h
  exact lt_of_block h1
theorem MapSAt.made (w : World) : MapSAt (w.alloc (.map #[] 0)) w.heap.size [] := ⟨#[], 0, alloc_here _ _, rfl⟩

variable {P : Program} {ops : Array Oper} {rest : List Oper} {o : Oper} {a : Act} {Q : Exit → Act → World → Prop}
theorem wp_insertS {w : World} (hg : o.guard = none) (m x v : Operand) (t : TypeId) (hop : o.op = Op.insert t m x v) (kt e : TypeId) (ht : P.underlying t = some (.map kt e)) (hk : P.underlying kt = some .string)
    (b : Nat) (l : List (List UInt8 × Value)) (hm : a.eval m = .map (some b)) (h : MapSAt w b l) (k : List UInt8) (val : Value) (hx : a.eval x = sV k) (hv : a.eval v = val) (hno : l.all (fun p => p.1 != k) = true)
    (hK : ∀ W, MapSAt W b (l ++ [(k, val)]) → Below b w W → (∀ j, j < w.heap.size → j ≠ b → W.heap[j]? = w.heap[j]?) → wpList P ops Q rest (a.put o.dst undef) W) : wpList P ops Q (o :: rest) a w := by
  obtain ⟨es, c, h1, h2⟩ := h
  obtain ⟨es', c', W, hrun, h3, h4⟩ := run_insert_newS ht hk h1 h2 k hno val
  refine wpList_plain hg fun K' hK' => ?_
  unfold Oper.wp
  simp [execOp, hop, hm, hx, hv, hrun, Result.andThen]
  exact hK' _ _ (hK W ⟨es', c', h4.here, h3⟩ (h4.below (Nat.le_refl _) (Nat.le_of_lt (lt_of_block h1))) h4.other)

end Go.Proofs.YtmokejjndkibhaaGreatDoor

namespace Go.Proofs.YtmokejjndkibhaaGreatDoor
open Go.RowKit
set_option linter.unusedVariables false
set_option linter.unusedSimpArgs false

def opV : List (List UInt8 × Value) := lxL.map fun p => (p.1, .agg #[.int .i64 p.2.1, .int .i64 p.2.2])
theorem opV_find (k : List UInt8) : (((opV.find? (fun p => p.1 == k)).map (·.2))).getD (.agg #[.int .i64 0, .int .i64 0]) = .agg #[.int .i64 (lxF k).1, .int .i64 (lxF k).2] := by
  unfold opV lxF
  generalize lxL = l
  induction l with
  | nil => rfl
  | cons x l ih =>
    simp only [List.map_cons, List.find?_cons]
    cases h : x.1 == k with
    | true => simp
    | false => simpa using ih
theorem run_opV {w : World} {b : Nat} (h : MapSAt w b opV) (k : List UInt8) : (Instr.lookup 133 (.map (some b)) (sV k) false).run Tryz.prog w = .ok (.agg #[.int .i64 (lxF k).1, .int .i64 (lxF k).2]) w := by
  obtain ⟨es, c, h1, h2⟩ := h
  rw [run_lookup_str Tryz.underlying133 Tryz.underlying9 h1 h2 (.agg #[.int .i64 0, .int .i64 0]) (by kernel_rfl) k false]
  simp only [opV_find]
  rfl
set_option maxRecDepth 100000 in
set_option maxHeartbeats 8000000 in
theorem operators2_any (x : List UInt8) (w : World) : Gives Tryz.prog 92 #[sV x] w (.tuple #[.int .i64 (lxF x).1, .int .i64 (lxF x).2]) := by
  unfold Gives
  have hmm := @run_makeMap Tryz.prog
  have hO := MapSAt.made w
  have hE : Ext w (w.alloc (.map #[] 0)) := (Below.refl _ w).alloc (Nat.le_refl _) _
  go_enter Tryz.func92, Tryz.ntmps92
  have HO := Lib.hid (opV_find x)
  go_wp2_with (refine wp_insertS rfl _ _ _ _ rfl _ _ Tryz.underlying133 Tryz.underlying9 _ _ rfl hO _ _ rfl rfl rfl ?_; intro V hO1 hB _; replace hE := Below.trans hE hB; clear hB hO; have hO := hO1; clear hO1; try (have hL := run_opV (show MapSAt V w.heap.size opV from hO) x; have hE2 := (Ext.trans hE (ext_alloc V (.cells #[.int .i64 (lxF x).1, .int .i64 (lxF x).2] 132))); have hb := alloc_here V (.cells #[.int .i64 (lxF x).1, .int .i64 (lxF x).2] 132); have e0 := cell_of (i := 0) hb rfl; have e1 := cell_of (i := 1) hb rfl; clear hb hO hE))
  go_quiet (fail)
  go_wp2
  go_ret2
  exact ⟨rfl, Ext.drewN' hE2⟩
end Go.Proofs.YtmokejjndkibhaaGreatDoor

namespace Go.Proofs.YtmokejjndkibhaaGreatDoor
open Go.RowKit Go.Shelf Ex
set_option linter.unusedVariables false
set_option linter.unusedSimpArgs false

abbrev tRd : TypeId := 83
abbrev tWr : TypeId := 79
/-- a reader: the tokens, and at which it stands -/
abbrev rdO (p : Option Addr) (n c k : Nat) : Obj := .cells #[.slice p n c, .int .i64 (k : Int)] tRd
theorem TkRow.ext {w W : World} {p : Option Addr} {l : List Tk} (h : TkRow w p l) (hE : Below w.heap.size w W) : TkRow W p l := fun i hi => by
  obtain ⟨b, o, hp, h0, h1, h2, h3⟩ := h i hi
  have hb := cell_lt' h0
  exact ⟨b, o, hp, (hE.cell (p := ⟨b, o + i * 4, none⟩) hb).trans h0, (hE.cell (p := ⟨b, o + i * 4 + 1, none⟩) hb).trans h1, (hE.cell (p := ⟨b, o + i * 4 + 2, none⟩) hb).trans h2, (hE.cell (p := ⟨b, o + i * 4 + 3, none⟩) hb).trans h3⟩
set_option maxRecDepth 100000 in
set_option maxHeartbeats 4000000 in
theorem rdIs_any (R : Nat) (p : Option Addr) (c k : Nat) (l : List Tk) (x : List UInt8) (w : World) (hb : w.heap[R]? = some (rdO p l.length c k)) (hl : l.length ≤ 10000) (hk : k ≤ l.length) (hT : TkRow w p l) :
    Gives Tryz.prog 132 #[.pointer (some ⟨R, 0, none⟩), sV x] w (.bool (sgB l k x)) := by
  unfold Gives
  have d0 := cell_of (i := 0) hb rfl
  have d1 := cell_of (i := 1) hb rfl
  clear hb
  by_cases hlt : k < l.length
  · obtain ⟨b, o, rfl, c0, c1, c2, c3⟩ := hT k hlt
    have hs := sgB_at hlt x
    rw [hs]
    clear hs hT
    generalize (l[k]).kind = tk at *
    generalize (l[k]).text = tx at *
    generalize (l[k]).val = tv at *
    generalize (l[k]).pos = tp at *
    clear c2 c3
    generalize l.length = n at *
    have hlt' : (k : Int) < (n : Int) := by omega
    have h0 : (0 : Int) ≤ (k : Int) := by omega
    by_cases h3 : tk = 3
    · subst h3
      by_cases hx : tx = x
      · subst hx
        have HB : Hid (decide ((3 : Int) = 3 ∧ tx = tx) = true) := Lib.hid (by simp)
        rw [HB.out]
        go_enter Tryz.func132, Tryz.ntmps132
        go_wp2
        go_quiet (fail)
        go_wp2
        go_ret
        exact ⟨by first | rfl | simp, Ext.drewN' (Below.refl _ w)⟩
      · have HB : Hid (decide ((3 : Int) = 3 ∧ tx = x) = false) := Lib.hid (by simp [hx])
        rw [HB.out]
        have hbq : (sB tx == sB x) = false := by rw [sB_beq]; simpa using hx
        have HX := Lib.hid hx
        clear hx
        go_enter Tryz.func132, Tryz.ntmps132
        go_wp2
        go_quiet (fail)
        go_wp2
        go_ret
        exact ⟨by first | rfl | (have h := HX.out; simp [h]), Ext.drewN' (Below.refl _ w)⟩
    · have HB : Hid (decide (tk = 3 ∧ tx = x) = false) := Lib.hid (by simp [h3])
      rw [HB.out]
      have h3' : (tk == 3) = false := by simpa using h3
      clear h3
      go_enter Tryz.func132, Tryz.ntmps132
      go_wp2
      go_quiet (fail)
      go_wp2
      go_ret
      exact ⟨by first | rfl | simp, Ext.drewN' (Below.refl _ w)⟩
  · rw [sgB_out (by omega)]
    clear hT
    generalize l.length = n at *
    have hd : decide ((k : Int) < (n : Int)) = false := by simpa using hlt
    have hd2 : decide (k < n) = false := by simpa using hlt
    go_enter Tryz.func132, Tryz.ntmps132
    go_wp2
    go_quiet (fail)
    go_wp2
    go_ret
    exact ⟨by first | rfl | simp, Ext.drewN' (Below.refl _ w)⟩

/-- the library's variable holds some number -/
def MaxL (w : World) : Prop := ∃ m, w.cell? ⟨0, 0, none⟩ = some (.int .i64 m)
theorem MaxL.ext {w w' : World} (h : MaxL w) (hb : Below w.heap.size w w') : MaxL w' := by
  obtain ⟨m, h⟩ := h
  exact ⟨m, (hb.cell (p := ⟨0, 0, none⟩) (cell_lt' h)).trans h⟩
/-- the text of the reserved names -/
def rsvB : ByteArray := ⟨#[32, 97, 99, 113, 117, 105, 114, 101, 32, 97, 100, 100, 32, 97, 110, 121, 32, 97, 114, 114, 105, 118, 101, 32, 97, 115, 32, 97, 115, 115, 101, 114, 116, 32, 97, 116, 111, 109, 105, 99, 32, 97, 119, 97, 105, 116, 32, 98, 97, 114, 114, 105, 101, 114, 32, 98, 101, 103, 105, 110, 32, 98, 114, 111, 97, 100, 99, 97, 115, 116, 32, 98, 117, 100, 103, 101, 116, 32, 99, 97, 108, 108, 32, 99, 97, 110, 99, 101, 108, 32, 99, 104, 97, 110, 110, 101, 108, 32, 99, 104, 101, 99, 107, 112, 111, 105, 110, 116, 32, 99, 108, 101, 97, 110, 117, 112, 32, 99, 108, 111, 115, 101, 32, 99, 111, 109, 112, 108, 101, 116, 101, 32, 99, 111, 110, 100, 32, 100, 101, 97, 100, 108, 105, 110, 101, 32, 100, 101, 102, 97, 117, 108, 116, 32, 100, 101, 102, 101, 114, 32, 101, 108, 115, 101, 32, 101, 109, 105, 116, 32, 101, 110, 100, 32, 101, 118, 101, 114, 121, 32, 102, 97, 105, 108, 32, 102, 117, 110, 99, 32, 102, 117, 116, 117, 114, 101, 32, 105, 102, 32, 108, 101, 116, 32, 108, 105, 109, 105, 116, 101, 114, 32, 108, 111, 99, 107, 32, 109, 97, 115, 107, 32, 109, 117, 116, 101, 120, 32, 110, 101, 120, 116, 32, 111, 110, 32, 112, 114, 105, 111, 114, 105, 116, 121, 32, 112, 117, 98, 108, 105, 115, 104, 32, 114, 101, 97, 100, 108, 111, 99, 107, 32, 114, 101, 97, 100, 117, 110, 108, 111, 99, 107, 32, 114, 101, 99, 101, 105, 118, 101, 32, 114, 101, 108, 101, 97, 115, 101, 32, 114, 101, 112, 101, 97, 116, 32, 114, 101, 116, 117, 114, 110, 32, 114, 119, 108, 111, 99, 107, 32, 115, 99, 111, 112, 101, 32, 115, 101, 108, 101, 99, 116, 32, 115, 101, 109, 97, 112, 104, 111, 114, 101, 32, 115, 101, 110, 100, 32, 115, 105, 103, 110, 97, 108, 32, 115, 108, 101, 101, 112, 32, 115, 112, 97, 119, 110, 32, 115, 117, 98, 115, 99, 114, 105, 98, 101, 32, 115, 119, 97, 112, 32, 116, 97, 107, 101, 32, 116, 97, 115, 107, 32, 116, 111, 112, 105, 99, 32, 116, 114, 121, 97, 99, 113, 117, 105, 114, 101, 32, 116, 114, 121, 108, 111, 99, 107, 32, 117, 110, 108, 111, 99, 107, 32, 117, 110, 115, 117, 98, 115, 99, 114, 105, 98, 101, 32, 118, 97, 114, 32, 119, 97, 105, 116, 32, 119, 104, 105, 108, 101, 32, 119, 114, 105, 116, 101, 108, 111, 99, 107, 32, 119, 114, 105, 116, 101, 117, 110, 108, 111, 99, 107, 32, 121, 105, 101, 108, 100, 32]⟩
theorem rsvB_eq : rsvB.data.toList = 32 :: spW kwL := by kernel_rfl
theorem rsvB_has {s : List UInt8} (hs : ∀ c ∈ s, c ≠ 32) : Lib.contains rsvB.data.toList (sB (32 :: (s ++ [32]))).data.toList = kwB s := by
  rw [rsvB_eq, sB_data, kw_has hs]
set_option maxRecDepth 100000 in
set_option maxHeartbeats 4000000 in
theorem Keyword_any (s : List UInt8) (w : World) (hl : s.length ≤ 140737488351232) (hm : MaxL w) : Gives Tryz.prog 25 #[sV s] w (.bool (kwB s)) := by
  unfold Gives
  cases s with
  | nil =>
    rw [kw_nil]
    go_enter Tryz.func25, Tryz.ntmps25
    go_wp2
    go_ret
    exact ⟨rfl, Below.refl _ w⟩
  | cons c0 s0 =>
    obtain ⟨s, hs⟩ : ∃ s, c0 :: s0 = s := ⟨_, rfl⟩
    have he : s.isEmpty = false := by rw [← hs]; rfl
    have he2 : (sB s == sB []) = false := by rw [sB_beq, ← hs]; rfl
    rw [hs] at hl ⊢
    clear hs
    have hsz := sB_size s
    have K1 := Lib.hid (fun W => (show Calls Tryz.prog 52 #[sV s, .string ⟨#[32]⟩] W fun e w' => e = .returned (.bool (s.contains 32)) ∧ w' = W from by
      have := Tryz.strings_Contains_one (sB s) 32 W
      rw [Lib.contains_iff_indexByte]
      rw [sB_data] at this
      exact this))
    obtain ⟨b, hb⟩ : ∃ b, s.contains 32 = b := ⟨_, rfl⟩
    rw [hb] at K1
    cases b with
    | true =>
      rw [kw_space (List.contains_iff_mem.1 hb)]
      clear hb
      go_enter Tryz.func25, Tryz.ntmps25
      go_wp2_with fail
      refine (K1.out _).mono ?_
      rintro _ _ ⟨rfl, rfl⟩
      go_wp2
      go_ret
      exact ⟨rfl, Below.refl _ _⟩
    | false =>
      have hno : ∀ c ∈ s, c ≠ 32 := fun c hc e => by rw [e] at hc; rw [List.contains_iff_mem.2 hc] at hb; cases hb
      obtain ⟨m, hm⟩ := hm
      have K2 := Lib.hid (show Calls Tryz.prog 52 #[.string rsvB, sV (32 :: (s ++ [32]))] w fun e w' => e = .returned (.bool (kwB s)) ∧ w' = w from by
        have := Tryz.strings_Contains rsvB (sB (32 :: (s ++ [32]))) m w (by decide) hm
        rw [rsvB_has hno] at this
        exact this)
      generalize kwB s = kb at *
      clear hno hb hm
      have hap1 : sB [32] ++ sB s = sB (32 :: s) := by rw [sB_app]; rfl
      have hap2 : sB (32 :: s) ++ sB [32] = sB (32 :: (s ++ [32])) := by rw [sB_app]; rfl
      go_enter Tryz.func25, Tryz.ntmps25
      go_wp2_with fail
      refine (K1.out _).mono ?_
      rintro _ _ ⟨rfl, rfl⟩
      go_wp2_with fail
      refine (show Calls _ _ _ _ _ from K2.out).mono ?_
      rintro _ _ ⟨rfl, rfl⟩
      go_wp2
      go_ret
      exact ⟨rfl, Below.refl _ _⟩

theorem chk_num {v : Int} (h0 : 0 ≤ v) (h1 : v ≤ 1099511627776) : (numX v).chk = 0 := by
  have e1 : (numX v).size = 1 := by simp [Ex.size, Ex.sizes]
  have e2 : (numX v).height = 1 := by simp [Ex.height, Ex.heights]
  have e3 : (numX v).fe = 0 := by simp [Ex.fe, Ex.fes, pc', arity]; omega
  unfold Ex.chk
  rw [e1, e2, e3]
  simp
theorem prR_num {v : Int} (h0 : 0 ≤ v) (h1 : v ≤ 1099511627776) : prR decI (numX v) = (decI v, 0) := by
  unfold prR
  rw [chk_num h0 h1]
  simp [txt]
set_option maxRecDepth 100000 in
set_option maxHeartbeats 4000000 in
theorem isNumber_any (t : Tk) (w : World) (hl : t.text.length ≤ 140737488351232) (hT : TabW w) : Gives Tryz.prog 131 #[TV t] w (.bool (numOk t)) := by
  unfold Gives numOk
  obtain ⟨tk, tx, tv, tp⟩ := t
  dsimp only [TV] at hl ⊢
  by_cases h0 : tv < 0
  · have HB := Lib.hid (show decide (0 ≤ tv ∧ tv ≤ 1099511627776 ∧ Lib.decDigits tv.toNat = tx) = false by simp; omega)
    rw [HB.out]
    go_enter Tryz.func131, Tryz.ntmps131
    go_wp2
    go_ret
    exact ⟨rfl, (Below.refl _ w).alloc (Nat.le_refl _) _⟩
  · by_cases h1 : 1099511627776 < tv
    · have HB := Lib.hid (show decide (0 ≤ tv ∧ tv ≤ 1099511627776 ∧ Lib.decDigits tv.toNat = tx) = false by simp; omega)
      rw [HB.out]
      go_enter Tryz.func131, Tryz.ntmps131
      go_wp2
      go_ret
      exact ⟨rfl, (Below.refl _ w).alloc (Nat.le_refl _) _⟩
    · have e : decide (0 ≤ tv ∧ tv ≤ 1099511627776 ∧ Lib.decDigits tv.toNat = tx) = decide (decI tv = tx) := by
        have : Lib.decDigits tv.toNat = decI tv := rfl
        rw [this]
        by_cases hq : decI tv = tx <;> simp [hq] <;> omega
      rw [e]
      clear e
      have HX := Lib.hid ((Below.refl w.heap.size w).alloc (Nat.le_refl _) (.cells #[.int .i64 tk, sV tx, .int .i64 tv, .int .i64 tp] tTk))
      have hb := alloc_here w (.cells #[.int .i64 tk, sV tx, .int .i64 tv, .int .i64 tp] tTk)
      have HB := Lib.hid hb
      have KP := Lib.hid (fun W (hW : Ext w W) => (show Gives Tryz.prog 27 #[.agg #[.int .i64 1, .int .i64 0, .string { data := #[] }, .int .i64 tv, .slice none 0 0]] W (.tuple #[sV (decI tv), .int .i64 0]) from by
        have := PrintZ_any (numX tv) none 0 W (hT.below hW) (AtB_leaf (fun _ => True) W none (fits_num tv (by omega) (by omega))).at
        rw [prR_num (by omega) (by omega)] at this
        exact this))
      clear hb hT
      generalize decI tv = dv at KP ⊢
      go_enter Tryz.func131, Tryz.ntmps131
      go_wp2_with fail
      refine (KP.out _ HX.out).mono ?_
      intro w1 hE
      have hb1 := (hE.block _ (lt_of_block HB.out)).trans HB.out
      have HE := Lib.hid (Ext.trans HX.out hE)
      have d1 := cell_of (i := 1) hb1 rfl
      clear hE hb1 HX HB
      by_cases hq : dv = tx
      · subst hq
        go_wp2
        go_ret
        exact ⟨by first | rfl | simp, HE.out⟩
      · have hbq : (sB dv == sB tx) = false := by rw [sB_beq]; simpa using hq
        have HQ := Lib.hid hq
        clear hq
        go_wp2
        go_ret
        exact ⟨by first | rfl | (have h := HQ.out; simp [h]), HE.out⟩
end Go.Proofs.YtmokejjndkibhaaGreatDoor

