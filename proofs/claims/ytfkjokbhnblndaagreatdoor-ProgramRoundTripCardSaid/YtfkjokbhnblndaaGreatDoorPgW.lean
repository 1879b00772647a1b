/- The listing of a program: plain. -/
import Derived.Test.YtfkjokbhnblndaaGreatDoorPgT
import Derived.Test.YtfkjokbhnblndaaGreatDoorPgV
import Derived.Lib.ItoaLen
namespace Go.Proofs.YtfkjokbhnblndaaGreatDoor
open Go.RowKit
set_option linter.unusedVariables false
set_option linter.unusedSimpArgs false

/-- the names of the operations -/
def nameL : List (Int × List UInt8) := [(1, [99, 111, 110, 115, 116]), (2, [109, 111, 118, 101]), (3, [97, 100, 100]), (4, [115, 117, 98]), (5, [109, 117, 108]), (6, [100, 105, 118]), (7, [109, 111, 100]), (8, [101, 113, 117, 97, 108]), (9, [108, 101, 115, 115]), (10, [97, 110, 100]), (11, [111, 114]), (12, [110, 111, 116]), (13, [106, 117, 109, 112]), (14, [106, 117, 109, 112, 117, 110, 108, 101, 115, 115]), (15, [99, 97, 108, 108]), (16, [114, 101, 116, 117, 114, 110]), (17, [100, 101, 102, 101, 114]), (18, [109, 97, 115, 107]), (19, [117, 110, 109, 97, 115, 107]), (20, [97, 115, 115, 101, 114, 116]), (21, [102, 97, 105, 108]), (30, [108, 111, 97, 100]), (31, [115, 116, 111, 114, 101]), (32, [102, 101, 116, 99, 104, 97, 100, 100]), (33, [99, 111, 109, 112, 97, 114, 101, 115, 119, 97, 112]), (34, [115, 112, 97, 119, 110]), (35, [111, 112, 101, 110]), (36, [99, 108, 111, 115, 101]), (37, [99, 97, 110, 99, 101, 108]), (38, [99, 104, 101, 99, 107, 112, 111, 105, 110, 116]), (39, [121, 105, 101, 108, 100]), (40, [115, 108, 101, 101, 112]), (41, [101, 109, 105, 116]), (42, [98, 101, 103, 105, 110]), (43, [101, 110, 100]), (50, [108, 111, 99, 107]), (51, [116, 114, 121, 108, 111, 99, 107]), (52, [117, 110, 108, 111, 99, 107]), (53, [114, 101, 97, 100, 108, 111, 99, 107]), (54, [114, 101, 97, 100, 117, 110, 108, 111, 99, 107]), (55, [119, 114, 105, 116, 101, 108, 111, 99, 107]), (56, [119, 114, 105, 116, 101, 117, 110, 108, 111, 99, 107]), (57, [119, 97, 105, 116]), (58, [115, 105, 103, 110, 97, 108]), (59, [98, 114, 111, 97, 100, 99, 97, 115, 116]), (60, [97, 99, 113, 117, 105, 114, 101]), (61, [116, 114, 121, 97, 99, 113, 117, 105, 114, 101]), (62, [114, 101, 108, 101, 97, 115, 101]), (63, [97, 114, 114, 105, 118, 101]), (64, [115, 101, 110, 100]), (65, [114, 101, 99, 101, 105, 118, 101]), (66, [99, 108, 111, 115, 101, 99, 104, 97, 110, 110, 101, 108]), (67, [115, 101, 108, 101, 99, 116]), (68, [112, 117, 98, 108, 105, 115, 104]), (69, [115, 117, 98, 115, 99, 114, 105, 98, 101]), (70, [110, 101, 120, 116]), (71, [117, 110, 115, 117, 98, 115, 99, 114, 105, 98, 101]), (72, [116, 97, 107, 101]), (73, [99, 111, 109, 112, 108, 101, 116, 101]), (74, [97, 119, 97, 105, 116])]
def opName (k : Int) : List UInt8 := ((nameL.find? (fun p => p.1 == k)).map (·.2)).getD []
def kindL : List (List UInt8) := [[], [109, 117, 116, 101, 120], [114, 119, 108, 111, 99, 107], [99, 111, 110, 100], [115, 101, 109, 97, 112, 104, 111, 114, 101], [98, 97, 114, 114, 105, 101, 114], [99, 104, 97, 110, 110, 101, 108], [116, 111, 112, 105, 99], [108, 105, 109, 105, 116, 101, 114], [102, 117, 116, 117, 114, 101]]
def kindNm (k : Int) : List UInt8 := kindL.getD k.toNat []
/-- one of two words -/
def pick2 (b : Bool) (x y : List UInt8) : List UInt8 := if b then x else y
theorem pick2_le {b : Bool} {x y : List UInt8} {m : Nat} (hx : x.length ≤ m) (hy : y.length ≤ m) : (pick2 b x y).length ≤ m := by unfold pick2; split <;> assumption
def varWd (v : Va) : List Wd := [.s (pick2 v.atomic [97, 116, 111, 109, 105, 99] [118, 97, 114]), .s v.name, .s [61], .n v.init]
def obWd (o : Ob) : List Wd := [.s (kindNm o.kind), .s o.name, .n o.size, .n o.oth]
def fnWd (f : Fn) : List Wd := [.s (pick2 f.cl [99, 108, 101, 97, 110, 117, 112] [102, 117, 110, 99]), .s f.name, .n f.params, .n f.regs, .n f.prio]
def insWd (k : Nat) (c : Ins) : List Wd := [.n k, .s (opName c.op), .n c.a, .n c.b, .n c.c] ++ c.args.map Wd.n
def catN (f : Nat → List UInt8) : Nat → List UInt8
  | 0 => []
  | n + 1 => catN f n ++ f n
def vaAt (p : Pg) (i : Nat) : Va := p.vs.getD i ⟨[], 0, false⟩
def obAt (p : Pg) (i : Nat) : Ob := p.os.getD i ⟨[], 0, 0, 0⟩
def fnAt (p : Pg) (i : Nat) : Fn := p.fs.getD i ⟨[], 0, 0, 0, false, []⟩
theorem vaAt_eq {p : Pg} {i : Nat} (h : i < p.vs.length) : vaAt p i = p.vs[i] := by simp [vaAt, List.getD, h]
theorem obAt_eq {p : Pg} {i : Nat} (h : i < p.os.length) : obAt p i = p.os[i] := by simp [obAt, List.getD, h]
theorem fnAt_eq {p : Pg} {i : Nat} (h : i < p.fs.length) : fnAt p i = p.fs[i] := by simp [fnAt, List.getD, h]
def vaTxt (p : Pg) (i : Nat) : List UInt8 := lineB (varWd (vaAt p i))
def obTxt (p : Pg) (i : Nat) : List UInt8 := lineB (obWd (obAt p i))
def insTxt (f : Fn) (k : Nat) : List UInt8 := lineB (insWd k (insAt f k))
def fnTxt (p : Pg) (i : Nat) : List UInt8 := lineB (fnWd (fnAt p i)) ++ catN (insTxt (fnAt p i)) (fnAt p i).code.length
/-- the listing -/
def textP (p : Pg) : List UInt8 := catN (vaTxt p) p.vs.length ++ catN (obTxt p) p.os.length ++ catN (fnTxt p) p.fs.length
def textR (p : Pg) : List UInt8 × Int := if ckPg p = 0 then (textP p, 0) else ([], ckPg p)

theorem itoa_le {v : Int} (h : i64 v) : (Lib.itoa v).length ≤ 21 := Lib.itoa_length_le v h.1 h.2
theorem nameL_le : ∀ q ∈ nameL, q.2.length ≤ 30 := by decide
theorem opName_le (k : Int) : (opName k).length ≤ 30 := by
  unfold opName
  cases h : nameL.find? (fun p => p.1 == k) with
  | none => simp
  | some q => simpa using nameL_le q (List.mem_of_find?_eq_some h)
theorem kindL_le : ∀ q ∈ kindL, q.length ≤ 30 := by decide
theorem kindNm_le (k : Int) : (kindNm k).length ≤ 30 := by
  unfold kindNm
  rw [List.getD_eq_getElem?_getD]
  cases h : kindL[k.toNat]? with
  | none => simp
  | some q => simpa using kindL_le q (List.mem_of_getElem? h)
/-- a word as it is written -/
def Wd.fit (x : Wd) : Prop := x.ok ∧ x.txt.length ≤ 30
theorem fit_n {v : Int} (h : i64 v) : (Wd.n v).fit := ⟨h, by have := itoa_le h; show (Lib.itoa v).length ≤ 30; omega⟩
theorem fit_s {l : List UInt8} (h : l.length ≤ 30) : (Wd.s l).fit := ⟨trivial, h⟩
theorem wdsB_le : ∀ (ws : List Wd), (∀ x ∈ ws, x.fit) → (wdsB ws).length ≤ ws.length * 31 := by
  intro ws h
  cases ws with
  | nil => simp [wdsB]
  | cons x xs =>
    have hx := (h x (by simp)).2
    have : ∀ ys : List Wd, (∀ y ∈ ys, y.fit) → (ys.flatMap (fun y => 32 :: y.txt)).length ≤ ys.length * 31 := by
      intro ys hy
      induction ys with
      | nil => simp
      | cons y ys ih =>
        have h1 := (hy y (by simp)).2
        have h2 := ih (fun z hz => hy z (List.mem_cons_of_mem _ hz))
        simp only [List.flatMap_cons, List.length_append, List.length_cons]
        omega
    have := this xs (fun y hy => h y (List.mem_cons_of_mem _ hy))
    simp only [wdsB, List.length_append, List.length_cons]
    omega
theorem lineB_le {ws : List Wd} (h : ∀ x ∈ ws, x.fit) : (lineB ws).length ≤ ws.length * 31 + 1 := by
  have := wdsB_le ws h
  simp only [lineB, List.length_append, List.length_cons, List.length_nil]
  omega
theorem catN_le {f : Nat → List UInt8} {m : Nat} : ∀ n, (∀ i, i < n → (f i).length ≤ m) → (catN f n).length ≤ n * m
  | 0, _ => by simp [catN]
  | n + 1, h => by
    have h1 := catN_le n (fun i hi => h i (by omega))
    have h2 := h n (by omega)
    simp only [catN, List.length_append, Nat.add_mul]
    omega
theorem i64_of {n a b : Int} (h : inB n a b = true) (ha : -9223372036854775808 ≤ a) (hb : b ≤ 9223372036854775807) : i64 n := by
  have := inB_iff.1 h
  exact ⟨by omega, by omega⟩
theorem varWd_fit {p : Pg} (hw : p.wf) (h : Valid p) {i : Nat} (hi : i < p.vs.length) : ∀ x ∈ varWd (p.vs[i]), x.fit := by
  have hv := h.va hi
  have hw1 := hw.vs _ (List.getElem_mem hi)
  have hn := isNm_len hv.nm
  intro x hx
  simp only [varWd, List.mem_cons, List.not_mem_nil, or_false] at hx
  rcases hx with rfl | rfl | rfl | rfl
  · exact fit_s (pick2_le (by decide) (by decide))
  · exact fit_s hn.2
  · exact fit_s (by decide)
  · exact fit_n hw1.init
theorem obWd_fit {p : Pg} (hw : p.wf) (h : Valid p) {i : Nat} (hi : i < p.os.length) : ∀ x ∈ obWd (p.os[i]), x.fit := by
  have hv := h.ob hi
  have hw1 := hw.os _ (List.getElem_mem hi)
  have hn := isNm_len hv.nm
  intro x hx
  simp only [obWd, List.mem_cons, List.not_mem_nil, or_false] at hx
  rcases hx with rfl | rfl | rfl | rfl
  · exact fit_s (kindNm_le _)
  · exact fit_s hn.2
  · exact fit_n hw1.size
  · exact fit_n hw1.oth
theorem fnWd_fit {p : Pg} (hw : p.wf) (h : Valid p) {i : Nat} (hi : i < p.fs.length) : ∀ x ∈ fnWd (p.fs[i]), x.fit := by
  have hv := h.fn hi
  have hw1 := hw.fs _ (List.getElem_mem hi)
  have hn := isNm_len hv.nm
  intro x hx
  simp only [fnWd, List.mem_cons, List.not_mem_nil, or_false] at hx
  rcases hx with rfl | rfl | rfl | rfl | rfl
  · exact fit_s (pick2_le (by decide) (by decide))
  · exact fit_s hn.2
  · exact fit_n hw1.params
  · exact fit_n hw1.regs
  · exact fit_n hw1.prio
theorem insWd_fit {k : Nat} {c : Ins} (hk : k ≤ 1000000) (hw : c.wf) : ∀ x ∈ insWd k c, x.fit := by
  intro x hx
  simp only [insWd, List.mem_append, List.mem_cons, List.not_mem_nil, or_false, List.mem_map] at hx
  rcases hx with (rfl | rfl | rfl | rfl | rfl) | ⟨n, hn, rfl⟩
  · exact fit_n ⟨by omega, by omega⟩
  · exact fit_s (opName_le _)
  · exact fit_n hw.a
  · exact fit_n hw.b
  · exact fit_n hw.c
  · exact fit_n (hw.args n hn)
theorem insArgs {p : Pg} (h : Valid p) {i : Nat} (hi : i < p.fs.length) {k : Nat} (hk : k < (p.fs[i]).code.length) : ((p.fs[i]).code[k]).args.length ≤ 18 := by
  obtain ⟨s, hs⟩ := (h.fn hi).ins hk
  exact args_len h hs.args
theorem insTxt_le {p : Pg} (hw : p.wf) (h : Valid p) {i : Nat} (hi : i < p.fs.length) {k : Nat} (hk : k < (p.fs[i]).code.length) : (insTxt (p.fs[i]) k).length ≤ 714 := by
  have h1 := (h.fn hi).len
  have := lineB_le (insWd_fit (k := k) (by omega) (((hw.fs _ (List.getElem_mem hi)).code _ (List.getElem_mem hk))))
  have h2 := insArgs h hi hk
  unfold insTxt
  rw [insAt_eq hk]
  simp only [insWd, List.length_append, List.length_cons, List.length_nil, List.length_map] at this h2 ⊢
  omega
theorem insCat_le {p : Pg} (hw : p.wf) (h : Valid p) {i : Nat} (hi : i < p.fs.length) (n : Nat) (hn : n ≤ (p.fs[i]).code.length) : (catN (insTxt (p.fs[i])) n).length ≤ 142800 := by
  have h1 := (h.fn hi).len
  have := catN_le (f := insTxt (p.fs[i])) (m := 714) n (fun k hk => insTxt_le hw h hi (by omega))
  omega
theorem fnTxt_le {p : Pg} (hw : p.wf) (h : Valid p) {i : Nat} (hi : i < p.fs.length) : (fnTxt p i).length ≤ 143000 := by
  have h1 := insCat_le hw h hi _ (Nat.le_refl _)
  have h2 := lineB_le (fnWd_fit hw h hi)
  unfold fnTxt
  rw [fnAt_eq hi]
  simp only [fnWd, List.length_append, List.length_cons, List.length_nil] at h1 h2 ⊢
  omega
theorem fnCat_le {p : Pg} (hw : p.wf) (h : Valid p) (n : Nat) (hn : n ≤ p.fs.length) : (catN (fnTxt p) n).length ≤ 4576000 := by
  have := catN_le (f := fnTxt p) (m := 143000) n (fun k hk => fnTxt_le hw h (by omega))
  have := h.f2
  omega
theorem vaCat_le {p : Pg} (hw : p.wf) (h : Valid p) (n : Nat) (hn : n ≤ p.vs.length) : (catN (vaTxt p) n).length ≤ 2000 := by
  have := catN_le (f := vaTxt p) (m := 125) n (fun k hk => by
    have := lineB_le (varWd_fit hw h (show k < p.vs.length by omega))
    unfold vaTxt
    rw [vaAt_eq (by omega)]
    simpa [varWd] using this)
  have := h.v2
  omega
theorem obCat_le {p : Pg} (hw : p.wf) (h : Valid p) (n : Nat) (hn : n ≤ p.os.length) : (catN (obTxt p) n).length ≤ 2000 := by
  have := catN_le (f := obTxt p) (m := 125) n (fun k hk => by
    have := lineB_le (obWd_fit hw h (show k < p.os.length by omega))
    unfold obTxt
    rw [obAt_eq (by omega)]
    simpa [obWd] using this)
  have := h.o2
  omega
theorem lineB_ne (ws : List Wd) : lineB ws ≠ [] := by simp [lineB]
theorem textP_ne {p : Pg} (h : Valid p) : textP p ≠ [] := by
  have h1 := h.f1
  unfold textP
  obtain ⟨n, hn⟩ : ∃ n, p.fs.length = n + 1 := ⟨p.fs.length - 1, by omega⟩
  rw [hn]
  simp only [catN, fnTxt]
  simp [lineB]
end Go.Proofs.YtfkjokbhnblndaaGreatDoor
