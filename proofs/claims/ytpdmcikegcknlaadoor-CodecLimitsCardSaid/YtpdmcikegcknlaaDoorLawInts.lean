/- CodecInts: the walk. -/
import Derived.Test.YtpdmcikegcknlaaDoorAwk1
namespace Go.Proofs.YtpdmcikegcknlaaDoor
open Go.RowKit
set_option linter.unusedVariables false

/-- what Int answers -/
def itS (n : Int) : List UInt8 := if inR n = true then enc n else []
def itE (n : Int) : Int := if inR n = true then 0 else 2
theorem Int_any (n : Int) (w : World) (h : (Lit.int .i64 n).wf = true) : Gives Tryd.prog 16 #[.int .i64 n] w (.tuple #[sV (itS n), .int .i64 (itE n)]) := by
  unfold itS itE
  by_cases h1 : inR n = true
  · rw [if_pos h1, if_pos h1]
    have := (inR_iff n).1 h1
    exact Int_yes n w this.1 this.2
  · rw [if_neg h1, if_neg h1]
    exact Int_no n w h (by rw [inR_iff] at h1; omega)
theorem refInt_any (n : Int) (w : World) (h : (Lit.int .i64 n).wf = true) : Gives Tryd.prog 24 #[.int .i64 n] w (.tuple #[sV (itS n), .int .i64 (itE n)]) := by
  unfold itS itE
  by_cases h1 : inR n = true
  · rw [if_pos h1, if_pos h1]
    have := (inR_iff n).1 h1
    exact refInt_yes n w this.1 this.2
  · rw [if_neg h1, if_neg h1]
    exact refInt_no n w h (by rw [inR_iff] at h1; omega)

set_option maxRecDepth 100000 in
set_option maxHeartbeats 4000000 in
theorem codecInts_walk (n : Int) (a1 : ByteArray) (w : World) (hm : MaxL w) (w0 : (Lit.int .i64 n).wf = true) (w1 : a1.size ≤ 140737488351232) :
    Gives Tryd.prog 5 #[.int .i64 n, .string a1] w (.bool true) := by
  obtain ⟨s, rfl⟩ := sB_of a1
  rw [sB_size] at w1
  have C1 := Int_any n w w0
  have C2 := Lib.hid (fun W => refInt_any n W w0)
  have C3 := Lib.hid (fun W => ReadInt_any s W (by omega))
  have C4 := Lib.hid (fun W => refReadInt_any s W (by omega))
  unfold rdV at C3 C4
  have HM := Lib.hid hm
  clear w0 hm
  generalize itS n = t at *
  generalize itE n = e at *
  generalize (rdI s).1 = x at *
  generalize (rdI s).2.1 = k at *
  generalize (rdI s).2.2 = g at *
  unfold Gives
  go_enter Tryd.func5, Tryd.ntmps5
  go_wp2_with fail
  refine C1.mono ?_
  intro w1 hB1
  have H1 := Lib.hid (show Ext w w1 from hB1)
  clear hB1 C1
  go_wp2_with fail
  refine (C2.out _).mono ?_
  intro w2 hB2
  have H2 := Lib.hid (Ext.trans H1.out hB2)
  clear hB2 C2 H1
  go_wp2_with fail
  refine (C3.out _).mono ?_
  intro w3 hB3
  have H3 := Lib.hid (Ext.trans H2.out hB3)
  clear hB3 C3 H2
  go_wp2_with fail
  refine (C4.out _).mono ?_
  intro w4 hB4
  have H4 := Lib.hid (Ext.trans H3.out hB4)
  clear hB4 C4 H3
  go_wp2_with fail
  refine (awake1_any _ (HM.out.ext H4.out)).mono ?_
  intro w5 hB5
  have H5 := Lib.hid (Ext.trans H4.out hB5)
  clear hB5
  go_wp2
  go_ret
  exact ⟨rfl, H5.out⟩

end Go.Proofs.YtpdmcikegcknlaaDoor
