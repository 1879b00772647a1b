/- codec.Hash, nurseryref01.Hash. -/
import Derived.Test.YtpdmcikegcknlaaDoorRows
import Derived.Test.YtpdmcikegcknlaaDoorBase
import Derived.Test.YtpdmcikegcknlaaDoorRegion
namespace Go.Proofs.YtpdmcikegcknlaaDoor
open Go.RowKit
set_option linter.unusedVariables false

def hash0 : Int := 14695981039346656037
def hashM : Int := 1099511628211
def hstep (h : Int) (c : UInt8) : Int := IntKind.u64.wrap (bits BinOp.xor IntKind.u64 h (IntKind.u64.wrap (c.toNat : Int)) * 1099511628211)
def hfin (h : Int) : Int := wrap64 ((bits BinOp.xor IntKind.u64 h (h / 1099511627776)).tmod 1099511627776)
def hfold (l : List UInt8) : Int := l.foldl hstep hash0
theorem hfold_snoc (l : List UInt8) (c : UInt8) : hfold (l ++ [c]) = hstep (hfold l) c := by simp [hfold]

set_option maxRecDepth 100000 in
set_option maxHeartbeats 4000000 in
theorem Hash_any (l : List UInt8) (w : World) (hl : l.length ≤ 1000000) : Calls Tryd.prog 22 #[sV l] w fun e w' => e = .returned (.int .i64 (hfin (hfold l))) ∧ w' = w := by
  have H0 := Lib.hid (show (Value.int .u64 14695981039346656037) = .int .u64 hash0 from rfl)
  go_enter Tryd.func22, Tryd.ntmps22
  go_wp2
  go_loopw [3, 7] (fun h i wr => ∃ j : Nat, j ≤ l.length ∧ i = .int .i64 j ∧ h = .int .u64 (hfold (l.take j)) ∧ wr = w) (fun _ i _ => l.length - (intOf i).toNat)
  case atStart => exact ⟨0, Nat.zero_le _, rfl, rfl, rfl⟩
  case round =>
    obtain ⟨j, hj, rfl, rfl, rfl⟩ := hrel
    by_cases hlt : j < l.length
    · have HX := Lib.hid (show hfold (l.take (j + 1)) = hstep (hfold (l.take j)) l[j] by rw [List.take_succ_eq_append_getElem hlt, hfold_snoc])
      generalize hfold (l.take j) = h at *
      go_wp2
      go_roundw
      case rel => exact ⟨j + 1, by omega, by go_num, by rw [HX.out]; rfl, trivial⟩
      case measure => simp [intOf]; omega
    · have hk : l.take j = l := List.take_of_length_le (by omega)
      rw [hk]
      clear hk
      obtain ⟨h, hh⟩ : ∃ h, hfold l = h := ⟨_, rfl⟩
      rw [hh]
      have HH := Lib.hid hh
      clear hh
      go_wp2
      go_ret
      exact ⟨by rw [HH.out]; rfl, rfl⟩

set_option maxRecDepth 100000 in
set_option maxHeartbeats 4000000 in
theorem refHash_any (l : List UInt8) (w : World) (hl : l.length ≤ 1000000) : Calls Tryd.prog 23 #[sV l] w fun e w' => e = .returned (.int .i64 (hfin (hfold l))) ∧ w' = w := by
  have H0 := Lib.hid (show (Value.int .u64 14695981039346656037) = .int .u64 hash0 from rfl)
  go_enter Tryd.func23, Tryd.ntmps23
  go_wp2
  go_loopw [3, 4] (fun h i wr => ∃ j : Nat, j ≤ l.length ∧ i = .int .i64 j ∧ h = .int .u64 (hfold (l.take j)) ∧ wr = w) (fun _ i _ => l.length - (intOf i).toNat)
  case atStart => exact ⟨0, Nat.zero_le _, rfl, rfl, rfl⟩
  case round =>
    obtain ⟨j, hj, rfl, rfl, rfl⟩ := hrel
    by_cases hlt : j < l.length
    · have HX := Lib.hid (show hfold (l.take (j + 1)) = hstep (hfold (l.take j)) l[j] by rw [List.take_succ_eq_append_getElem hlt, hfold_snoc])
      generalize hfold (l.take j) = h at *
      go_wp2
      go_roundw
      case rel => exact ⟨j + 1, by omega, by go_num, by rw [HX.out]; rfl, trivial⟩
      case measure => simp [intOf]; omega
    · have hk : l.take j = l := List.take_of_length_le (by omega)
      rw [hk]
      clear hk
      obtain ⟨h, hh⟩ : ∃ h, hfold l = h := ⟨_, rfl⟩
      rw [hh]
      have HH := Lib.hid hh
      clear hh
      go_wp2
      go_ret
      exact ⟨by rw [HH.out]; rfl, rfl⟩

end Go.Proofs.YtpdmcikegcknlaaDoor
