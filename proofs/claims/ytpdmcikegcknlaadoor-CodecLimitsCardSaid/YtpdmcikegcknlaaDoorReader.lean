/- codec.reader: fail, next: their contracts. -/
import Derived.Test.YtpdmcikegcknlaaDoorCodecInt
import Derived.Test.YtpdmcikegcknlaaDoorRegion
import Derived.RegionTactic
import Derived.BigRegion
namespace Go.Proofs.YtpdmcikegcknlaaDoor
open Go.RowKit
set_option linter.unusedVariables false

/-- a reader in memory -/
def rdO (s : List UInt8) (at_ : Nat) (e : Int) : Obj := .cells #[sV s, .int .i64 at_, .int .i64 e] 67 (0, 0)

theorem rd0 {w : World} {k : Nat} {s : List UInt8} {p : Nat} {e : Int} (h : w.heap[k]? = some (rdO s p e)) : w.cell? ⟨k, 0, none⟩ = some (sV s) := cell_of h rfl
theorem rd1 {w : World} {k : Nat} {s : List UInt8} {p : Nat} {e : Int} (h : w.heap[k]? = some (rdO s p e)) : w.cell? ⟨k, 1, none⟩ = some (.int .i64 p) := cell_of h rfl
theorem rd2 {w : World} {k : Nat} {s : List UInt8} {p : Nat} {e : Int} (h : w.heap[k]? = some (rdO s p e)) : w.cell? ⟨k, 2, none⟩ = some (.int .i64 e) := cell_of h rfl
theorem rdf {w : World} {k : Nat} {s : List UInt8} {p : Nat} {e : Int} (i : Nat) (h : w.heap[k]? = some (rdO s p e)) : w.frozen? ⟨k, i, none⟩ = false := free_of h

/-- the error that a reader remembers -/
def ferr (e f : Int) : Int := if e = 0 then f else e
theorem ferr0 (f : Int) : ferr 0 f = f := rfl
theorem ferrn {e : Int} (h : e ≠ 0) (f : Int) : ferr e f = e := if_neg h
theorem Turn.undrewN {k n : Nat} {o : Obj} {w w' : World} (h : Turn k o (w.drewN n) w') : Turn k o w w' := ⟨h.os, h.tape, h.output, h.size, h.here, h.other⟩

theorem fail_any (s : List UInt8) (p : Nat) (e f : Int) (k : Nat) (w : World) (h : w.heap[k]? = some (rdO s p e)) :
    Calls Tryd.prog 54 #[.pointer (some ⟨k, 0, none⟩), .int .i64 f] w fun r w' => r = .returned (.tuple #[]) ∧ Turn k (rdO s p (ferr e f)) w w' := by
  have h2 := rd2 h
  have f2 := rdf 2 h
  have T0 := Lib.hid (Turn.refl h)
  have T1 := Lib.hid ((Turn.refl h).setCell (i := 2) (.int .i64 f))
  clear h
  by_cases he : e = 0
  · subst he
    go_enter Tryd.func54, Tryd.ntmps54
    go_wp2
    go_end0
    exact ⟨rfl, by rw [ferr0]; exact T1.out⟩
  · have hb : (e == 0) = false := by rw [beq_eq_false_iff_ne]; exact he
    have HE := Lib.hid he
    clear he
    go_enter Tryd.func54, Tryd.ntmps54
    go_wp2
    go_end0
    exact ⟨rfl, by rw [ferrn HE.out]; exact T0.out⟩

theorem rdO_step (s : List UInt8) (p : Nat) (e : Int) : Obj.cells (#[sV s, .int .i64 p, .int .i64 e].setIfInBounds 1 (.int .i64 ((p : Int) + 1))) 67 (0, 0) = rdO s (p + 1) e := by
  unfold rdO; rw [show ((p + 1 : Nat) : Int) = (p : Int) + 1 by omega]; rfl

set_option maxRecDepth 100000 in
theorem next_yes (s : List UInt8) (p : Nat) (e : Int) (k : Nat) (w : World) (hs : s.length ≤ maxLen) (hp : p < s.length) (h : w.heap[k]? = some (rdO s p e)) :
    Calls Tryd.prog 53 #[.pointer (some ⟨k, 0, none⟩)] w fun r w' => r = .returned (.int .u8 (s[p].toNat : Int)) ∧ Turn k (rdO s (p + 1) e) w w' := by
  have h0 := rd0 h
  have h1 := rd1 h
  have f1 := rdf 1 h
  have hd : decide (s.length ≤ p) = false := by simp; omega
  have T1 := (Turn.refl h).setCell (i := 1) (.int .i64 ((p : Int) + 1))
  rw [rdO_step] at T1
  have T1 := Lib.hid T1
  unfold maxLen at hs
  clear h
  go_enter Tryd.func53, Tryd.ntmps53
  go_wp2
  go_quiet (fail)
  go_wp2
  go_quiet (fail)
  go_wp2
  go_ret
  refine ⟨rfl, ?_⟩
  have T := T1.out
  exact ⟨T.os, T.tape, T.output, T.size, T.here, T.other⟩

theorem next_no (s : List UInt8) (p : Nat) (e : Int) (k : Nat) (w : World) (hs : s.length ≤ maxLen) (hp : s.length ≤ p) (hp2 : p ≤ maxLen) (h : w.heap[k]? = some (rdO s p e)) :
    Calls Tryd.prog 53 #[.pointer (some ⟨k, 0, none⟩)] w fun r w' => r = .returned (.int .u8 0) ∧ Turn k (rdO s p (ferr e 11)) w w' := by
  have h0 := rd0 h
  have h1 := rd1 h
  have hd : decide (s.length ≤ p) = true := by simp; omega
  have HH := Lib.hid h
  unfold maxLen at hs hp2
  clear h
  go_enter Tryd.func53, Tryd.ntmps53
  go_wp2
  go_quiet (fail)
  go_wp2_with fail
  refine (fail_any s p e 11 k (w.drewN nq) HH.out).mono ?_
  rintro r w1 ⟨rfl, hT⟩
  go_wp2
  go_ret
  exact ⟨rfl, hT.undrewN⟩

end Go.Proofs.YtpdmcikegcknlaaDoor
