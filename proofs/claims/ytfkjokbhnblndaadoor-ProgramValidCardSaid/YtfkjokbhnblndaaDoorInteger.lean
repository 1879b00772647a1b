/- codec.integer, codec.fits, codec.Int: their contracts. -/
import Derived.Test.YtfkjokbhnblndaaDoorDigits
import Derived.Outline
import Derived.Deep.DeepMust
import Derived.Laws.IdiomStrings
namespace Go.Proofs.YtfkjokbhnblndaaDoor
open Go.RowKit Go.Shelf
set_option linter.unusedVariables false
attribute [local go_sem] Oper.semAt_some

def bV (b : UInt8) : Value := .int .u8 (b.toNat : Int)
def bsV (l : List UInt8) : List Value := l.map bV

theorem infoB : (Tryd.prog.info? 5).map (fun i => (i.zero, i.size, i.bytes)) = some (some (.int .u8 0), 1, 1) := by kernel_rfl

/-- the string of a row of bytes that the call owns -/
theorem conv_own {w : World} {base g cap n : Nat} {l : List UInt8} (hn : n = l.length) (h : w.ownsRow base 5 1 (.slice (some ⟨g, 0, none⟩) n cap) n (bsV l)) :
    (convert 66 9 (.slice (some ⟨g, 0, none⟩) n cap)).run Tryd.prog w = .ok (sV l) w := by
  subst hn
  refine run_convert_bytes_back w 66 9 5 ⟨g, 0, none⟩ cap l Tryd.underlying66 Tryd.underlying5 Tryd.underlying9 (fun j hj => ?_)
  have := h.cells (g := g) rfl j (bV l[j]) (by simp [bsV, hj])
  exact this

theorem set0 (b c : UInt8) (l : List UInt8) (z : Int) (e : (b.toNat : Int) = z) : (bsV (c :: l)).set 0 (.int .u8 z) = bsV (b :: l) := by subst e; rfl
theorem conv_set {w : World} {base g cap n : Nat} {b c : UInt8} {l : List UInt8} {z : Int} (e : (b.toNat : Int) = z) (hn : n = l.length + 1) (h : w.ownsRow base 5 1 (.slice (some ⟨g, 0, none⟩) n cap) n ((bsV (c :: l)).set 0 (.int .u8 z))) :
    (convert 66 9 (.slice (some ⟨g, 0, none⟩) n cap)).run Tryd.prog w = .ok (sV (b :: l)) w :=
  conv_own (l := b :: l) (by simp [hn]) (by rw [set0 b c l z e] at h; exact h)
theorem bsV_app (l : List UInt8) (b : UInt8) : bsV l ++ [.int .u8 (b.toNat : Int)] = bsV (l ++ [b]) := by simp [bsV, bV]
theorem sub255 (b : UInt8) : (((255 - b : UInt8).toNat : Nat) : Int) = 255 - (b.toNat : Int) := by
  have h := b.toNat_lt
  have : (255 - b : UInt8).toNat = 255 - b.toNat := by
    rw [UInt8.toNat_sub_of_le]
    · rfl
    · rw [UInt8.le_iff_toNat_le]; show b.toNat ≤ 255; omega
  omega

end Go.Proofs.YtfkjokbhnblndaaDoor
