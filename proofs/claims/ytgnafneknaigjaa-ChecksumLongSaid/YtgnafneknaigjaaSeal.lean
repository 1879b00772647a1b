/- checksum.bytes, Seal; nurseryref02.bytes, Seal: their contracts. -/
import Derived.Test.YtgnafneknaigjaaCodecInt
import Derived.Test.YtgnafneknaigjaaSums
import Derived.WalkSpells
import Derived.Lib.SlBytesRow
namespace Go.Proofs.Ytgnafneknaigjaa
open Go.RowKit
set_option linter.unusedVariables false

def byteAt (n d : Int) : UInt8 := UInt8.ofNat (n / d % 256).toNat
theorem byteAt_int (n d : Int) (hd : 0 < d) : ((byteAt n d).toNat : Int) = n / d % 256 := by
  unfold byteAt
  have h1 : 0 ≤ n / d % 256 := Int.emod_nonneg _ (by omega)
  have h2 : n / d % 256 < 256 := Int.emod_lt_of_pos _ (by omega)
  simp; omega
/-- the four bytes of a checksum -/
def be4 (n : Int) : List UInt8 := [byteAt n 16777216, byteAt n 65536, byteAt n 256, byteAt n 1]

theorem be4_vals {n : Int} (h1 : 0 ≤ n) (h2 : n < 4294967296) : bsV (be4 n) = [.int .u8 (n / 16777216), .int .u8 (n / 65536 % 256), .int .u8 (n / 256 % 256), .int .u8 (n % 256)] := by
  have q1 := byteAt_int n 16777216 (by omega)
  have q2 := byteAt_int n 65536 (by omega)
  have q3 := byteAt_int n 256 (by omega)
  have q4 := byteAt_int n 1 (by omega)
  rw [show n / 16777216 % 256 = n / 16777216 by omega] at q1
  rw [show n / 1 % 256 = n % 256 by omega] at q4
  simp only [bsV, be4, List.map, bV, q1, q2, q3, q4]

theorem bytes_any (n : Int) (w : World) (h1 : 0 ≤ n) (h2 : n < 4294967296) : Calls Try.prog 16 #[.int .i64 n] w fun e w' => e = .returned (.agg (bsV (be4 n)).toArray) ∧ Below w.heap.size w w' := by
  have H := Lib.hid (be4_vals h1 h2)
  go_enter Try.func16, Try.ntmps16
  go_wp2
  refine bodyPost_ret (v := .agg (bsV (be4 n)).toArray) ?_ rfl ⟨rfl, (Below.refl _ _).alloc (Nat.le_refl _) _⟩
  rw [H.out]
  simp [results, Try.results16, go_sem]

theorem bytes_at (n : Int) (a b c d : UInt8) (w : World) (h1 : 0 ≤ n) (h2 : n < 4294967296) (h : be4 n = [a, b, c, d]) : Gives Try.prog 16 #[.int .i64 n] w (.agg #[.int .u8 (a.toNat : Int), .int .u8 (b.toNat : Int), .int .u8 (c.toNat : Int), .int .u8 (d.toNat : Int)]) := by
  have := bytes_any n w h1 h2
  rw [h] at this
  exact this

theorem conv_arr4 (w : World) (a b c d : UInt8) (t : TypeId) : (convert 23 9 (.slice (some ⟨w.heap.size, 0, none⟩) 4 4)).run Try.prog (w.alloc (.cells #[.int .u8 (a.toNat : Int), .int .u8 (b.toNat : Int), .int .u8 (c.toNat : Int), .int .u8 (d.toNat : Int)] t)) = .ok (sV [a, b, c, d]) (w.alloc (.cells #[.int .u8 (a.toNat : Int), .int .u8 (b.toNat : Int), .int .u8 (c.toNat : Int), .int .u8 (d.toNat : Int)] t)) := by
  refine run_convert_bytes_back _ 23 9 5 ⟨w.heap.size, 0, none⟩ 4 [a, b, c, d] Try.underlying23 Try.underlying5 Try.underlying9 (fun j hj => ?_)
  have hA := alloc_here w (.cells #[.int .u8 (a.toNat : Int), .int .u8 (b.toNat : Int), .int .u8 (c.toNat : Int), .int .u8 (d.toNat : Int)] t)
  match j, hj with
  | 0, _ => exact cell_of hA rfl
  | 1, _ => exact cell_of hA rfl
  | 2, _ => exact cell_of hA rfl
  | 3, _ => exact cell_of hA rfl

theorem ck_bd (l : List UInt8) : 0 ≤ ck l ∧ ck l < 4294967296 := by
  obtain ⟨h1, h2, h3, h4⟩ := fine_fold fine10 l
  unfold ck; omega

/-- the frame of a string -/
def frame (l : List UInt8) : List UInt8 := enc l.length ++ (l ++ be4 (ck (enc l.length ++ l)))

set_option maxHeartbeats 1000000 in
theorem Seal_yes (l : List UInt8) (w : World) (h : l.length ≤ 100000) : Gives Try.prog 5 #[sV l] w (.tuple #[sV (frame l), .int .i64 0]) := by
  have hE := enc_len l.length (by omega) (by omega)
  have HF := Lib.hid (show frame l = enc l.length ++ (l ++ be4 (ck (enc l.length ++ l))) from rfl)
  unfold Gives
  go_enter Try.func5, Try.ntmps5
  go_wp2_with fail
  refine (Int_yes _ _ (by omega) (by omega)).mono ?_
  intro w1 hB1
  generalize enc l.length = E at *
  obtain ⟨hc1, hc2⟩ := ck_bd (E ++ l)
  go_wp2_with fail
  refine (Sum_l _ _ (by unfold maxLen; simp; omega)).mono ?_
  intro w2 hB2
  go_wp2_with fail
  obtain ⟨a, b, c, d, hT⟩ : ∃ a b c d, be4 (ck (E ++ l)) = [a, b, c, d] := ⟨_, _, _, _, rfl⟩
  refine (bytes_at _ a b c d _ hc1 hc2 hT).mono ?_
  intro w3 hB3
  have HT := Lib.hid hT
  clear hT
  have hconv := conv_arr4 w3 a b c d 45
  go_wp2
  go_ret2
  rw [HF.out, HT.out]
  exact ⟨rfl, ((hB1.trans (hB2.mono hB1.size)).trans (hB3.mono (Nat.le_trans hB1.size hB2.size))).alloc (Nat.le_trans (Nat.le_trans hB1.size hB2.size) hB3.size) _⟩

theorem Seal_no (l : List UInt8) (w : World) (h : 100000 < l.length) (hl : l.length ≤ maxLen) : Gives Try.prog 5 #[sV l] w (.tuple #[sV [], .int .i64 4]) := by
  unfold maxLen at hl
  unfold Gives
  go_enter Try.func5, Try.ntmps5
  go_wp2
  go_ret2
  exact ⟨rfl, Below.refl _ _⟩

end Go.Proofs.Ytgnafneknaigjaa
