/- The statement ExprSubstituteCardSaid: for every input the law returns true, and the arguments read as before; the tables of the library that it lists are tied to the text. The frame round the walk of the law. (With it: Plain: different valid expressions have different texts.; Plain: different valid expressions have different texts, the proof.; Plain: folding keeps the type, the value and the error; folding again changes nothing.; Plain: the type of an expression without the binding of a name.; Rows of bindings of the call's own; slices.Clone of bindings; the law's closure; slices.IndexFunc.; slices.IndexFunc with the law's closure; what DeleteFunc keeps; clear of bindings.; slices.Insert of one binding into a row of the call's own: there is room.; slices.Insert of one binding into a row of the call's own.; slices.Insert of one binding: there is room; a new row.; slices.Insert of one binding: a new row; all roads.; Plain: evaluating with a name replaced, and with the value bound.; The law's bound: the bindings with one more.; ExprSubstitute: the walk.) -/
import Derived.Shelf.Spec.SlicesInsertGrow
import Derived.Laws.Externs
import Derived.Lib.Overlaps
import Derived.Shelf.RegionOpenPlain
import Derived.Stop.LaidErr
import Derived.Test.YtgkalcboklhdgaaGreatDoorCards
import Derived.Test.YtgkalcboklhdgaaGreatDoorTie
import Derived.WalkKit
import Derived.ProofKit
import Derived.OpenShut
import Derived.ShutString
import Derived.ChangeOld
import Derived.Below
import Derived.Deep.DeepHandedRow
import Derived.Lib.LaidTab
import Derived.Shelf.Vars
import Derived.Test.YtgkalcboklhdgaaGreatDoorPart7
import Derived.Test.YtgkalcboklhdgaaGreatDoorPart4
import Derived.Test.YtgkalcboklhdgaaGreatDoorPart6
import Derived.Test.YtgkalcboklhdgaaGreatDoorPart5
import Derived.Test.YtgkalcboklhdgaaGreatDoorPart8
import Derived.Test.YtgkalcboklhdgaaGreatDoorPart1

namespace Go.Proofs.YtgkalcboklhdgaaGreatDoor
set_option linter.unusedVariables false
set_option linter.unusedSimpArgs false
open Ex

/-- the depth behind a byte -/
def nx (d : Nat) (c : UInt8) : Nat := if c = 40 then d + 1 else if c = 41 then d - 1 else d
/-- a text cut at the spaces outside of brackets -/
def sp : Nat → List UInt8 → List UInt8 → List (List UInt8)
  | _, cur, [] => [cur]
  | d, cur, c :: s => if c = 32 ∧ d = 0 then cur :: sp 0 [] s else sp (nx d c) (cur ++ [c]) s
def dep : Nat → List UInt8 → Nat
  | d, [] => d
  | d, c :: s => dep (nx d c) s
theorem dep_app : ∀ (x y : List UInt8) (d : Nat), dep d (x ++ y) = dep (dep d x) y
  | [], y, d => rfl
  | c :: x, y, d => by simp only [List.cons_append, dep]; exact dep_app x y _
theorem sp_cut : ∀ (x : List UInt8) (d : Nat) (cur y : List UInt8), dep d x = 0 → sp d cur (x ++ 32 :: y) = sp d cur x ++ sp 0 [] y
  | [], d, cur, y, h => by have : d = 0 := h; subst this; simp [sp]
  | c :: x, d, cur, y, h => by
    simp only [dep] at h
    simp only [List.cons_append, sp]
    by_cases hc : c = 32 ∧ d = 0
    · obtain ⟨rfl, rfl⟩ := hc
      rw [if_pos ⟨rfl, rfl⟩, if_pos ⟨rfl, rfl⟩, sp_cut x 0 [] y h]; rfl
    · rw [if_neg hc, if_neg hc, sp_cut x _ _ y h]
theorem sp_step {d : Nat} {cur : List UInt8} {c : UInt8} {s : List UInt8} (h : ¬ (c = 32 ∧ d = 0)) : sp d cur (c :: s) = sp (nx d c) (cur ++ [c]) s := by
  simp only [sp]; rw [if_neg h]
theorem sp_cur : ∀ (x : List UInt8) (d : Nat), ∃ h t, ∀ cur, sp d cur x = (cur ++ h) :: t
  | [], d => ⟨[], [], fun cur => by simp [sp]⟩
  | c :: x, d => by
    by_cases hc : c = 32 ∧ d = 0
    · exact ⟨[], sp 0 [] x, fun cur => by simp only [sp]; rw [if_pos hc, List.append_nil]⟩
    · obtain ⟨h, t, hh⟩ := sp_cur x (nx d c)
      exact ⟨c :: h, t, fun cur => by simp only [sp]; rw [if_neg hc, hh]; simp⟩
def Safe (x : List UInt8) : Prop := ∀ d cur y, 1 ≤ d → sp d cur (x ++ y) = sp d (cur ++ x) y
def Flat (x : List UInt8) : Prop := ∀ d, dep d x = d
theorem Safe.app {x y : List UInt8} (hx : Safe x) (hy : Safe y) : Safe (x ++ y) := fun d cur z h => by
  rw [List.append_assoc, hx d cur _ h, hy d _ _ h, List.append_assoc]
theorem Flat.app {x y : List UInt8} (hx : Flat x) (hy : Flat y) : Flat (x ++ y) := fun d => by rw [dep_app, hx d, hy d]
theorem nx_plain {d : Nat} {c : UInt8} (h : c ≠ 40 ∧ c ≠ 41) : nx d c = d := by unfold nx; rw [if_neg h.1, if_neg h.2]
theorem safe_plain : ∀ (x : List UInt8), (∀ c ∈ x, c ≠ 40 ∧ c ≠ 41) → Safe x
  | [], _ => fun d cur y _ => by simp
  | c :: x, h => fun d cur y hd => by
    have hc : ¬ (c = 32 ∧ d = 0) := by omega
    simp only [List.cons_append, sp]
    rw [if_neg hc, nx_plain (h c (by simp)), safe_plain x (fun c hc => h c (List.mem_cons_of_mem _ hc)) d _ y hd]
    simp
theorem flat_plain : ∀ (x : List UInt8), (∀ c ∈ x, c ≠ 40 ∧ c ≠ 41) → Flat x
  | [], _ => fun d => rfl
  | c :: x, h => fun d => by
    simp only [dep]
    rw [nx_plain (h c (by simp))]
    exact flat_plain x (fun c hc => h c (List.mem_cons_of_mem _ hc)) d
theorem sp_one : ∀ (x : List UInt8) (d : Nat) (cur : List UInt8), (∀ c ∈ x, c ≠ 32) → sp d cur x = [cur ++ x]
  | [], d, cur, _ => by simp [sp]
  | c :: x, d, cur, h => by
    have hc : ¬ (c = 32 ∧ d = 0) := fun e => h c (by simp) e.1
    simp only [sp]
    rw [if_neg hc, sp_one x _ _ (fun c hc => h c (List.mem_cons_of_mem _ hc))]
    simp
theorem safe_br {x : List UInt8} (h : Safe x) : Safe ([40] ++ x ++ [41]) := fun d cur y hd => by
  have h1 : [40] ++ x ++ [41] ++ y = 40 :: (x ++ 41 :: y) := by simp
  have hc : ¬ ((40 : UInt8) = 32 ∧ d = 0) := by omega
  have hc2 : ¬ ((41 : UInt8) = 32 ∧ d + 1 = 0) := by omega
  rw [h1]
  simp only [sp]
  rw [if_neg hc, show nx d 40 = d + 1 from rfl, h (d + 1) _ _ (by omega)]
  simp only [sp]
  rw [if_neg hc2, show nx (d + 1) 41 = d from rfl]
  simp
theorem flat_br {x : List UInt8} (h : Flat x) : Flat ([40] ++ x ++ [41]) := fun d => by
  rw [dep_app, dep_app]
  show dep (dep (d + 1) x) [41] = d
  rw [h]; rfl
theorem sp_br {x : List UInt8} (h : Safe x) (cur : List UInt8) : sp 0 cur ([40] ++ x ++ [41]) = [cur ++ ([40] ++ x ++ [41])] := by
  have h1 : [40] ++ x ++ [41] = 40 :: (x ++ [41]) := by simp
  rw [h1, sp_step (by decide), show nx 0 40 = 1 from rfl, h 1 _ _ (by omega), sp_step (by decide)]
  simp [sp]

/-- the bytes of numerals, names and signs -/
theorem digits_bytes : ∀ (k n : Nat), n < 10 ^ k → ∀ c ∈ Lib.decDigits n, 48 ≤ c.toNat ∧ c.toNat ≤ 57 := by
  have h1 : ∀ n, n < 10 → ∀ c ∈ Lib.decDigits n, 48 ≤ c.toNat ∧ c.toNat ≤ 57 := by
    intro n hn
    have : ∀ n, n < 10 → ((Lib.decDigits n).all fun c => decide (48 ≤ c.toNat ∧ c.toNat ≤ 57)) = true := by
      intro n hn
      rw [Lib.decDigits_one hn]
      revert n
      decide
    exact fun c hc => by simpa using List.all_eq_true.1 (this n hn) c hc
  intro k
  induction k with
  | zero => intro n h; exact h1 n (by simp at h; omega)
  | succ k ih =>
    intro n h c hc
    by_cases h9 : n < 10
    · exact h1 n h9 c hc
    · rw [Lib.decDigits.eq_def, dif_neg h9, List.mem_append] at hc
      rcases hc with hc | hc
      · exact ih (n / 10) (by rw [Nat.div_lt_iff_lt_mul (by omega)]; rw [Nat.pow_succ] at h; exact h) c hc
      · have := h1 (n % 10) (by omega) c (by rw [Lib.decDigits_one (by omega)]; exact hc)
        exact this
theorem name_bytes {x : List UInt8} (h : isNm x = true) : ∃ c s, x = c :: s ∧ (97 ≤ c.toNat ∧ c.toNat ≤ 122) ∧ ∀ b ∈ x, 48 ≤ b.toNat := by
  unfold isNm at h
  rw [Bool.and_eq_true] at h
  obtain ⟨h1, h2⟩ := h
  have h1 := of_decide_eq_true h1
  have hall : ∀ j, j < x.length → okAt j (x.getD j 0) = true := by
    have : ∀ n, okTo x n = true → ∀ j, j < n → okAt j (x.getD j 0) = true := by
      intro n
      induction n with
      | zero => intro _ j hj; omega
      | succ n ih =>
        intro h j hj
        simp only [okTo, Bool.and_eq_true] at h
        by_cases e : j = n
        · subst e; exact h.2
        · exact ih h.1 j (by omega)
    exact this _ h2
  cases x with
  | nil => simp at h1
  | cons c s =>
    refine ⟨c, s, rfl, ?_, fun b hb => ?_⟩
    · have := hall 0 (by simp)
      simpa [okAt, letter] using this
    · obtain ⟨j, hj, rfl⟩ := List.getElem_of_mem hb
      have := hall j hj
      rw [List.getD_eq_getElem?_getD, List.getElem?_eq_getElem hj] at this
      simp only [Option.getD_some, okAt, letter, other, Bool.or_eq_true, Bool.and_eq_true, decide_eq_true_eq] at this
      omega
/-- what a sign begins with -/
def signOk (w : List UInt8) : Bool := match w with
  | [] => false
  | c :: s => decide (c.toNat < 48 ∨ (57 < c.toNat ∧ c.toNat < 97) ∨ 122 < c.toNat) && decide (c ≠ 40) && (decide (c ≠ 45) || s.isEmpty) && (decide (c ≠ 33) || (s == [61])) && (c :: s).all fun b => decide (b ≠ 40 ∧ b ≠ 41 ∧ b ≠ 32)
theorem sign_ok : ∀ n : Nat, n < 16 → 3 ≤ n → signOk (opOf (n : Int)).sign = true := by decide
theorem sign_inj : ∀ n : Nat, n < 16 → 3 ≤ n → ∀ m : Nat, m < 16 → 3 ≤ m → (opOf (n : Int)).sign = (opOf (m : Int)).sign → n = m := by decide
theorem sign_prec : ∀ n : Nat, n < 16 → 3 ≤ n → 1 ≤ (opOf (n : Int)).prec ∧ (opOf (n : Int)).prec ≤ 5 := by decide
/-- a text that begins as no sign does -/
def Atom (x : List UInt8) : Prop := ∃ c s, x = c :: s ∧ ((48 ≤ c.toNat ∧ c.toNat ≤ 57) ∨ (97 ≤ c.toNat ∧ c.toNat ≤ 122) ∨ c = 40 ∨ (c = 45 ∧ s ≠ []) ∨ (c = 33 ∧ ∃ b r, s = b :: r ∧ b ≠ 61))
theorem Atom.no_sign {x : List UInt8} (h : Atom x) (n : Nat) (h1 : n < 16) (h2 : 3 ≤ n) : (opOf (n : Int)).sign ≠ x := by
  intro e
  have hs := sign_ok n h1 h2
  rw [e] at hs
  obtain ⟨c, s, rfl, h⟩ := h
  simp only [signOk, Bool.and_eq_true, Bool.or_eq_true, decide_eq_true_eq] at hs
  obtain ⟨⟨⟨⟨g1, g2⟩, g3⟩, g4⟩, _⟩ := hs
  rcases h with h | h | h | ⟨h, h'⟩ | ⟨h, b, r, h', h''⟩
  · omega
  · omega
  · exact g2 h
  · rcases g3 with g | g
    · exact g h
    · exact h' (by simpa using g)
  · rcases g4 with g | g
    · exact g h
    · rw [h'] at g
      simp at g
      exact h'' g.1
/-- every sign among ws binds at least as tightly as k -/
def Lo (k : Int) (ws : List (List UInt8)) : Prop := ∀ w ∈ ws, ∀ n : Nat, n < 16 → 3 ≤ n → (opOf (n : Int)).sign = w → k ≤ (opOf (n : Int)).prec
theorem Lo.atom {x : List UInt8} (h : Atom x) (k : Int) : Lo k [x] := fun w hw n h1 h2 e => by
  obtain rfl := List.mem_singleton.1 hw
  exact absurd e (h.no_sign n h1 h2)
theorem Lo.app {k : Int} {a b : List (List UInt8)} (ha : Lo k a) (hb : Lo k b) : Lo k (a ++ b) := fun w hw => by
  rcases List.mem_append.1 hw with h | h
  · exact ha w h
  · exact hb w h
theorem Lo.mono {k k' : Int} {a : List (List UInt8)} (ha : Lo k a) (h : k' ≤ k) : Lo k' a := fun w hw n h1 h2 e => Int.le_trans h (ha w hw n h1 h2 e)
theorem Lo.sign (n : Nat) (h1 : n < 16) (h2 : 3 ≤ n) : Lo (opOf (n : Int)).prec [(opOf (n : Int)).sign] := fun w hw m g1 g2 e => by
  obtain rfl := List.mem_singleton.1 hw
  rw [sign_inj m g1 g2 n h1 h2 e]; exact Int.le_refl _
/-- the sign that binds least, the last of them -/
theorem one_main {A B A' B' : List (List UInt8)} {n m : Nat} (h1 : n < 16) (h2 : 3 ≤ n) (g1 : m < 16) (g2 : 3 ≤ m)
    (hA : Lo (opOf (n : Int)).prec A) (hB : Lo ((opOf (n : Int)).prec + 1) B) (hA' : Lo (opOf (m : Int)).prec A') (hB' : Lo ((opOf (m : Int)).prec + 1) B')
    (e : A ++ ((opOf (n : Int)).sign :: B) = A' ++ ((opOf (m : Int)).sign :: B')) : A = A' ∧ n = m ∧ B = B' := by
  rcases List.append_eq_append_iff.1 e with ⟨u, hu, hv⟩ | ⟨u, hu, hv⟩
  · cases u with
    | nil =>
      simp only [List.append_nil, List.nil_append] at hu hv
      obtain ⟨e1, e2⟩ := List.cons.inj hv
      exact ⟨hu.symm, sign_inj n h1 h2 m g1 g2 e1, e2⟩
    | cons x u =>
      exfalso
      obtain ⟨e1, e2⟩ := List.cons.inj hv
      have a1 := hA' (opOf (n : Int)).sign (by rw [hu, ← e1]; simp) n h1 h2 rfl
      have a2 := hB (opOf (m : Int)).sign (by rw [e2]; simp) m g1 g2 rfl
      omega
  · cases u with
    | nil =>
      simp only [List.append_nil, List.nil_append] at hu hv
      obtain ⟨e1, e2⟩ := List.cons.inj hv
      exact ⟨hu, (sign_inj m g1 g2 n h1 h2 e1).symm, e2.symm⟩
    | cons x u =>
      exfalso
      obtain ⟨e1, e2⟩ := List.cons.inj hv
      have a1 := hA (opOf (m : Int)).sign (by rw [hu, ← e1]; simp) m g1 g2 rfl
      have a2 := hB' (opOf (n : Int)).sign (by rw [e2]; simp) n h1 h2 rfl
      omega

end Go.Proofs.YtgkalcboklhdgaaGreatDoor

namespace Go.Proofs.YtgkalcboklhdgaaGreatDoor
set_option linter.unusedVariables false
set_option linter.unusedSimpArgs false
open Ex

/-- what is known of a text that stands in a place that asks for l -/
structure Info (l : Int) (x : List UInt8) : Prop where
  safe : Safe x
  flat : Flat x
  head : ∃ c s, x = c :: s ∧ c ≠ 61
  lo : Lo l (sp 0 [] x)
  one : 6 ≤ l → (∀ cur, sp 0 cur x = [cur ++ x]) ∧ Atom x
theorem Info.put {p : Int} {x : List UInt8} (h : Info p x) (l : Int) : Info l (brk l p x) := by
  unfold brk
  by_cases hp : p < l
  · rw [if_pos hp]
    have ha : Atom ([40] ++ x ++ [41]) := ⟨40, x ++ [41], by simp, .inr (.inr (.inl rfl))⟩
    exact ⟨safe_br h.safe, flat_br h.flat, ⟨40, x ++ [41], by simp, by decide⟩, by rw [sp_br h.safe, List.nil_append]; exact Lo.atom ha l, fun _ => ⟨sp_br h.safe, ha⟩⟩
  · rw [if_neg hp]
    exact ⟨h.safe, h.flat, h.head, h.lo.mono (by omega), fun h6 => h.one (by omega)⟩
theorem one_of {x : List UInt8} (h : sp 0 [] x = [x]) (cur : List UInt8) : sp 0 cur x = [cur ++ x] := by
  obtain ⟨a, t, ha⟩ := sp_cur x 0
  have := ha []
  rw [h, List.nil_append] at this
  obtain ⟨rfl, rfl⟩ := List.cons.inj this
  rw [ha]
theorem bin_cut {L R s : List UInt8} (hL : Flat L) (hs : ∀ c ∈ s, c ≠ 40 ∧ c ≠ 41 ∧ c ≠ 32) : sp 0 [] (L ++ [32] ++ s ++ [32] ++ R) = sp 0 [] L ++ (s :: sp 0 [] R) := by
  have e : L ++ [32] ++ s ++ [32] ++ R = L ++ 32 :: (s ++ 32 :: R) := by simp
  rw [e, sp_cut L 0 [] _ (hL 0), sp_cut s 0 [] _ (flat_plain s (fun c hc => ⟨(hs c hc).1, (hs c hc).2.1⟩) 0), sp_one s 0 [] (fun c hc => (hs c hc).2.2)]
  simp
theorem sign_bytes (n : Nat) (h1 : n < 16) (h2 : 3 ≤ n) : ∀ c ∈ (opOf (n : Int)).sign, c ≠ 40 ∧ c ≠ 41 ∧ c ≠ 32 := by
  have h := sign_ok n h1 h2
  unfold signOk at h
  intro c hc
  generalize (opOf (n : Int)).sign = w at *
  cases w with
  | nil => cases hc
  | cons x s =>
    simp only [Bool.and_eq_true] at h
    simpa using List.all_eq_true.1 h.2 c hc
theorem decI_bytes {v : Int} (h2 : v ≤ 1099511627776) : ∀ c ∈ decI v, 48 ≤ c.toNat ∧ c.toNat ≤ 57 := digits_bytes 13 v.toNat (by omega)
theorem digits_ne (n : Nat) : ∃ c s, Lib.decDigits n = c :: s := by
  cases h : Lib.decDigits n with
  | nil =>
    exfalso
    by_cases h9 : n < 10
    · rw [Lib.decDigits_one h9] at h; cases h
    · rw [Lib.decDigits.eq_def, dif_neg h9] at h; simp at h
  | cons c s => exact ⟨c, s, rfl⟩
theorem plain_of {x : List UInt8} (h : ∀ c ∈ x, 48 ≤ c.toNat) : (∀ c ∈ x, c ≠ 40 ∧ c ≠ 41) ∧ ∀ c ∈ x, c ≠ 32 := by
  constructor
  · intro c hc
    have := h c hc
    constructor <;> (rintro rfl; simp at this)
  · intro c hc
    have := h c hc
    rintro rfl; simp at this

theorem txt_un (o : Int) (t : Ex) : txt decI (.mk 3 o [] 0 [t]) = (if o = 1 then [45] else [33]) ++ brk 6 (prec t) (txt decI t) := by simp [txt, txts]
theorem txt_bin (o : Int) (t u : Ex) : txt decI (.mk 4 o [] 0 [t, u]) = brk (if (opOf o).prec = 3 then 4 else (opOf o).prec) (prec t) (txt decI t) ++ [32] ++ (opOf o).sign ++ [32] ++ brk ((opOf o).prec + 1) (prec u) (txt decI u) := by simp [txt, txts]
theorem prec_le {o : Int} (h1 : 3 ≤ o) (h2 : o ≤ 15) : ∃ n : Nat, o = n ∧ n < 16 ∧ 3 ≤ n := ⟨o.toNat, by omega, by omega, by omega⟩
/-- the kind, read off a text -/
def headK : List UInt8 → Int
  | [] => 0
  | c :: _ => if c = 40 then 5 else if c.toNat ≤ 47 then 3 else if c.toNat ≤ 57 then 1 else 2
def kindT (x : List UInt8) : Int := if (sp 0 [] x).length ≠ 1 then 4 else headK x
theorem kindT_one {x : List UInt8} (h : sp 0 [] x = [x]) : kindT x = headK x := by
  unfold kindT
  rw [if_neg (by simp [h])]
theorem txt_info : ∀ (n : Nat) (e : Ex), e.size ≤ n → e.fe = 0 → Info (prec e) (txt decI e) ∧ kindT (txt decI e) = e.kind := by
  intro n
  induction n with
  | zero => intro e he; have := e.size_pos; omega
  | succ n ih =>
    intro e he hfe
    obtain ⟨k, o, nm, v, ts⟩ := e
    obtain ⟨hpc, hfes⟩ := fe_mk hfe
    rcases pc_zero hpc with ⟨rfl, rfl, rfl, hm, hv1, hv2⟩ | ⟨rfl, rfl, rfl, hm, hnm⟩ | ⟨rfl, rfl, rfl, hm, ho⟩ | ⟨rfl, rfl, rfl, hm, ho1, ho2⟩
    · obtain rfl := List.eq_nil_of_length_eq_zero hm
      have HT : txt decI (.mk 1 0 [] v []) = decI v := by simp [txt]
      rw [HT]
      have hb := decI_bytes hv2
      obtain ⟨hp1, hp2⟩ := plain_of (fun c hc => (hb c hc).1)
      obtain ⟨c, s, hcs⟩ := digits_ne v.toNat
      have hcs : decI v = c :: s := hcs
      have hc := hb c (by rw [hcs]; simp)
      have h1 : ∀ cur, sp 0 cur (decI v) = [cur ++ decI v] := fun cur => sp_one _ _ _ hp2
      have ha : Atom (decI v) := ⟨c, s, hcs, .inl hc⟩
      refine ⟨⟨safe_plain _ hp1, flat_plain _ hp1, ⟨c, s, hcs, by rintro rfl; simp at hc⟩, by rw [h1]; exact Lo.atom ha _, fun _ => ⟨h1, ha⟩⟩, ?_⟩
      rw [kindT_one (h1 []), hcs]
      show (if c = 40 then (5 : Int) else _) = 1
      rw [if_neg (by rintro rfl; simp at hc), if_neg (by omega), if_pos hc.2]
    · obtain rfl := List.eq_nil_of_length_eq_zero hm
      have HT : txt decI (.mk 2 0 nm 0 []) = nm := by simp [txt]
      rw [HT]
      obtain ⟨c, s, hcs, hc, hb⟩ := name_bytes hnm
      obtain ⟨hp1, hp2⟩ := plain_of hb
      have h1 : ∀ cur, sp 0 cur nm = [cur ++ nm] := fun cur => sp_one _ _ _ hp2
      have ha : Atom nm := ⟨c, s, hcs, .inr (.inl hc)⟩
      refine ⟨⟨safe_plain _ hp1, flat_plain _ hp1, ⟨c, s, hcs, by rintro rfl; simp at hc⟩, by rw [h1]; exact Lo.atom ha _, fun _ => ⟨h1, ha⟩⟩, ?_⟩
      rw [kindT_one (h1 []), hcs]
      show (if c = 40 then (5 : Int) else _) = 2
      rw [if_neg (by rintro rfl; simp at hc), if_neg (by omega), if_neg (by omega)]
    · obtain ⟨t, rfl⟩ := len1 hm
      have hft : t.fe = 0 := by simpa using fes_get hfes 0 (by simp)
      have hsz : t.size ≤ n := by simp only [Ex.size, Ex.sizes] at he; omega
      have hI := (ih t hsz hft).1.put 6
      rw [txt_un]
      generalize brk 6 (prec t) (txt decI t) = x at *
      obtain ⟨c, s, hcs, hc⟩ := hI.head
      have h1 := (hI.one (by omega)).1
      have go : ∀ b : UInt8, (b = 45 ∨ b = 33) → Info 6 ([b] ++ x) ∧ kindT ([b] ++ x) = 3 := by
        intro b hb
        have hb1 : b ≠ 40 ∧ b ≠ 41 := by rcases hb with rfl | rfl <;> decide
        have hb2 : b ≠ 32 := by rcases hb with rfl | rfl <;> decide
        have hw : sp 0 [] ([b] ++ x) = [[b] ++ x] := by
          show sp 0 [] (b :: x) = _
          rw [sp_step (fun e => hb2 e.1), nx_plain hb1, h1]
          rfl
        have ha : Atom ([b] ++ x) := ⟨b, x, rfl, by
          rcases hb with rfl | rfl
          · exact .inr (.inr (.inr (.inl ⟨rfl, by rw [hcs]; simp⟩)))
          · exact .inr (.inr (.inr (.inr ⟨rfl, c, s, hcs, hc⟩)))⟩
        refine ⟨⟨(safe_plain [b] (by simpa using hb1)).app hI.safe, (flat_plain [b] (by simpa using hb1)).app hI.flat, ⟨b, x, rfl, by rcases hb with rfl | rfl <;> decide⟩, by rw [hw]; exact Lo.atom ha _, fun _ => ⟨one_of hw, ha⟩⟩, ?_⟩
        rw [kindT_one hw]
        rcases hb with rfl | rfl <;> rfl
      rcases ho with rfl | rfl
      · exact go 45 (.inl rfl)
      · exact go 33 (.inr rfl)
    · obtain ⟨t, u, rfl⟩ := len2 hm
      have hft : t.fe = 0 := by simpa using fes_get hfes 0 (by simp)
      have hfu : u.fe = 0 := by simpa using fes_get hfes 1 (by simp)
      have hsz : t.size ≤ n := by simp only [Ex.size, Ex.sizes] at he; omega
      have hsz2 : u.size ≤ n := by simp only [Ex.size, Ex.sizes] at he; omega
      obtain ⟨m, rfl, hm1, hm2⟩ := prec_le ho1 ho2
      have hL := (ih t hsz hft).1.put (if (opOf (m : Int)).prec = 3 then 4 else (opOf (m : Int)).prec)
      have hR := (ih u hsz2 hfu).1.put ((opOf (m : Int)).prec + 1)
      rw [txt_bin]
      obtain ⟨hp1, hp2⟩ := sign_prec m hm1 hm2
      have hs := sign_bytes m hm1 hm2
      have hls := Lo.sign m hm1 hm2
      generalize brk (if (opOf (m : Int)).prec = 3 then 4 else (opOf (m : Int)).prec) (prec t) (txt decI t) = L at *
      generalize brk ((opOf (m : Int)).prec + 1) (prec u) (txt decI u) = R at *
      have hpe : prec (.mk 4 (m : Int) [] 0 [t, u]) = (opOf (m : Int)).prec := by simp [prec, Ex.kind, Ex.op]
      rw [hpe]
      have hw := bin_cut (R := R) hL.flat hs
      have hp32 : ∀ c ∈ [(32 : UInt8)], c ≠ 40 ∧ c ≠ 41 := by decide
      have hss : ∀ c ∈ (opOf (m : Int)).sign, c ≠ 40 ∧ c ≠ 41 := fun c hc => ⟨(hs c hc).1, (hs c hc).2.1⟩
      have hlo : (opOf (m : Int)).prec ≤ (if (opOf (m : Int)).prec = 3 then 4 else (opOf (m : Int)).prec) := by split <;> omega
      refine ⟨⟨(((hL.safe.app (safe_plain _ hp32)).app (safe_plain _ hss)).app (safe_plain _ hp32)).app hR.safe, (((hL.flat.app (flat_plain _ hp32)).app (flat_plain _ hss)).app (flat_plain _ hp32)).app hR.flat, ?_, ?_, fun h6 => by omega⟩, ?_⟩
      · obtain ⟨c, s, hcs, hc⟩ := hL.head
        exact ⟨c, s ++ [32] ++ (opOf (m : Int)).sign ++ [32] ++ R, by rw [hcs]; simp, hc⟩
      · rw [hw]
        exact (hL.lo.mono hlo).app (Lo.app (a := [_]) hls (hR.lo.mono (by omega)))
      · unfold kindT
        rw [hw, if_pos]
        · rfl
        · obtain ⟨h, t', hh⟩ := sp_cur L 0
          rw [hh]
          simp only [List.length_append, List.length_cons]
          omega

/-- put together again -/
def joinS : List (List UInt8) → List UInt8
  | [] => []
  | [w] => w
  | w :: v :: ws => w ++ 32 :: joinS (v :: ws)
theorem sp_join : ∀ (x : List UInt8) (d : Nat) (cur : List UInt8), joinS (sp d cur x) = cur ++ x
  | [], d, cur => by simp [sp, joinS]
  | c :: x, d, cur => by
    by_cases hc : c = 32 ∧ d = 0
    · obtain ⟨rfl, rfl⟩ := hc
      simp only [sp]
      rw [if_pos (by simp)]
      have ih := sp_join x 0 []
      obtain ⟨h, t, hh⟩ := sp_cur x 0
      rw [hh] at ih ⊢
      simp only [joinS]
      rw [ih]; simp
    · rw [sp_step hc, sp_join x]; simp
theorem sp_inj {x y : List UInt8} (h : sp 0 [] x = sp 0 [] y) : x = y := by
  have h1 := sp_join x 0 []
  rw [h, sp_join y] at h1
  simpa using h1.symm
theorem digits_inj : ∀ (k m n : Nat), m < 10 ^ k → Lib.decDigits m = Lib.decDigits n → m = n := by
  have two : ∀ n, ¬ n < 10 → 2 ≤ (Lib.decDigits n).length := by
    intro n h
    obtain ⟨c, s, e⟩ := digits_ne (n / 10)
    rw [Lib.decDigits.eq_def, dif_neg h, e]; simp
  have one : ∀ m n, m < 10 → n < 10 → UInt8.ofNat (48 + m) = UInt8.ofNat (48 + n) → m = n := by
    intro m n hm hn e
    have := congrArg UInt8.toNat e
    simp at this
    omega
  intro k
  induction k with
  | zero =>
    intro m n hm e
    have : m = 0 := by simpa using hm
    subst this
    by_cases hn : n < 10
    · rw [Lib.decDigits_one (by omega), Lib.decDigits_one hn] at e
      exact one 0 n (by omega) hn (List.cons.inj e).1
    · have := two n hn
      rw [← e, Lib.decDigits_one (by omega)] at this
      simp at this
  | succ k ih =>
    intro m n hm e
    by_cases h1 : m < 10
    · by_cases hn : n < 10
      · rw [Lib.decDigits_one h1, Lib.decDigits_one hn] at e
        exact one m n h1 hn (List.cons.inj e).1
      · have := two n hn
        rw [← e, Lib.decDigits_one h1] at this
        simp at this
    · by_cases hn : n < 10
      · have := two m h1
        rw [e, Lib.decDigits_one hn] at this
        simp at this
      · rw [Lib.decDigits.eq_def m, Lib.decDigits.eq_def n, dif_neg h1, dif_neg hn] at e
        obtain ⟨e1, e2⟩ := List.append_inj' e rfl
        have h3 := ih (m / 10) (n / 10) (by rw [Nat.div_lt_iff_lt_mul (by omega)]; rw [Nat.pow_succ] at hm; exact hm) e1
        have h4 := one (m % 10) (n % 10) (by omega) (by omega) (List.cons.inj e2).1
        omega

theorem txt_inj : ∀ (n : Nat) (a : Ex), a.size ≤ n → ∀ b : Ex, a.fe = 0 → b.fe = 0 → txt decI a = txt decI b → a = b := by
  intro n
  induction n with
  | zero => intro e he; have := e.size_pos; omega
  | succ n ih =>
    intro a ha b hfa hfb heq
    have hk : a.kind = b.kind := by rw [← (txt_info _ a (Nat.le_refl _) hfa).2, heq]; exact (txt_info _ b (Nat.le_refl _) hfb).2
    have BI : ∀ (l : Int) (t t' : Ex), t.size ≤ n → t.fe = 0 → t'.fe = 0 → brk l (prec t) (txt decI t) = brk l (prec t') (txt decI t') → t = t' := by
      intro l t t' hs h h' e
      have hc : ∀ (x : List UInt8) (u : Ex), Safe x → u.fe = 0 → [40] ++ x ++ [41] = txt decI u → False := by
        intro x u hx hu e
        have hku := (txt_info _ u (Nat.le_refl _) hu).2
        rw [← e] at hku
        have : kindT ([40] ++ x ++ [41]) = 5 := by
          rw [kindT_one (by rw [sp_br hx, List.nil_append])]; rfl
        rw [this] at hku
        obtain ⟨k, o, nm, v, ts⟩ := u
        have hku : (5 : Int) = k := hku
        rcases pc_zero (fe_mk hu).1 with ⟨h0, _⟩ | ⟨h0, _⟩ | ⟨h0, _⟩ | ⟨h0, _⟩ <;> omega
      have hI := (txt_info _ t (Nat.le_refl _) h).1
      have hI' := (txt_info _ t' (Nat.le_refl _) h').1
      unfold brk at e
      by_cases h1 : prec t < l
      · by_cases h2 : prec t' < l
        · rw [if_pos h1, if_pos h2] at e
          have e2 := List.append_cancel_right e
          exact ih t hs t' h h' (List.append_cancel_left e2)
        · rw [if_pos h1, if_neg h2] at e
          exact (hc _ _ hI.safe h' e).elim
      · by_cases h2 : prec t' < l
        · rw [if_neg h1, if_pos h2] at e
          exact (hc _ _ hI'.safe h e.symm).elim
        · rw [if_neg h1, if_neg h2] at e
          exact ih t hs t' h h' e
    obtain ⟨k, o, nm, v, ts⟩ := a
    obtain ⟨k', o', nm', v', ts'⟩ := b
    obtain rfl : k = k' := hk
    obtain ⟨hpc, hfes⟩ := fe_mk hfa
    obtain ⟨hpc', hfes'⟩ := fe_mk hfb
    rcases pc_zero hpc with ⟨rfl, rfl, rfl, hm, hv1, hv2⟩ | ⟨rfl, rfl, rfl, hm, hnm⟩ | ⟨rfl, rfl, rfl, hm, ho⟩ | ⟨rfl, rfl, rfl, hm, ho1, ho2⟩
    · rcases pc_zero hpc' with ⟨_, rfl, rfl, hm', hv1', hv2'⟩ | ⟨h0, _⟩ | ⟨h0, _⟩ | ⟨h0, _⟩
      · obtain rfl := List.eq_nil_of_length_eq_zero hm
        obtain rfl := List.eq_nil_of_length_eq_zero hm'
        have e : decI v = decI v' := by simpa [txt] using heq
        have := digits_inj 13 v.toNat v'.toNat (by omega) e
        rw [show v = v' by omega]
      · cases h0
      · cases h0
      · cases h0
    · rcases pc_zero hpc' with ⟨h0, _⟩ | ⟨_, rfl, rfl, hm', hnm'⟩ | ⟨h0, _⟩ | ⟨h0, _⟩
      · cases h0
      · obtain rfl := List.eq_nil_of_length_eq_zero hm
        obtain rfl := List.eq_nil_of_length_eq_zero hm'
        have e : nm = nm' := by simpa [txt] using heq
        rw [e]
      · cases h0
      · cases h0
    · rcases pc_zero hpc' with ⟨h0, _⟩ | ⟨h0, _⟩ | ⟨_, rfl, rfl, hm', ho'⟩ | ⟨h0, _⟩
      · cases h0
      · cases h0
      · obtain ⟨t, rfl⟩ := len1 hm
        obtain ⟨t', rfl⟩ := len1 hm'
        have hft : t.fe = 0 := by simpa using fes_get hfes 0 (by simp)
        have hft' : t'.fe = 0 := by simpa using fes_get hfes' 0 (by simp)
        have hsz : t.size ≤ n := by simp only [Ex.size, Ex.sizes] at ha; omega
        rw [txt_un, txt_un] at heq
        have hoo : o = o' ∧ brk 6 (prec t) (txt decI t) = brk 6 (prec t') (txt decI t') := by
          rcases ho with rfl | rfl <;> rcases ho' with rfl | rfl
          · exact ⟨rfl, List.append_cancel_left heq⟩
          · exact absurd (List.cons.inj heq).1 (by decide)
          · exact absurd (List.cons.inj heq).1 (by decide)
          · exact ⟨rfl, List.append_cancel_left heq⟩
        obtain ⟨rfl, e⟩ := hoo
        rw [BI 6 t t' hsz hft hft' e]
      · cases h0
    · rcases pc_zero hpc' with ⟨h0, _⟩ | ⟨h0, _⟩ | ⟨h0, _⟩ | ⟨_, rfl, rfl, hm', ho1', ho2'⟩
      · cases h0
      · cases h0
      · cases h0
      · obtain ⟨t, u, rfl⟩ := len2 hm
        obtain ⟨t', u', rfl⟩ := len2 hm'
        have hft : t.fe = 0 := by simpa using fes_get hfes 0 (by simp)
        have hfu : u.fe = 0 := by simpa using fes_get hfes 1 (by simp)
        have hft' : t'.fe = 0 := by simpa using fes_get hfes' 0 (by simp)
        have hfu' : u'.fe = 0 := by simpa using fes_get hfes' 1 (by simp)
        have hsz : t.size ≤ n := by simp only [Ex.size, Ex.sizes] at ha; omega
        have hsz2 : u.size ≤ n := by simp only [Ex.size, Ex.sizes] at ha; omega
        obtain ⟨m, rfl, hm1, hm2⟩ := prec_le ho1 ho2
        obtain ⟨q, rfl, hq1, hq2⟩ := prec_le ho1' ho2'
        have hL := (txt_info _ t (Nat.le_refl _) hft).1.put (if (opOf (m : Int)).prec = 3 then 4 else (opOf (m : Int)).prec)
        have hR := (txt_info _ u (Nat.le_refl _) hfu).1.put ((opOf (m : Int)).prec + 1)
        have hL' := (txt_info _ t' (Nat.le_refl _) hft').1.put (if (opOf (q : Int)).prec = 3 then 4 else (opOf (q : Int)).prec)
        have hR' := (txt_info _ u' (Nat.le_refl _) hfu').1.put ((opOf (q : Int)).prec + 1)
        have lo1 : ∀ z : Int, z ≤ (if z = 3 then 4 else z) := fun z => by split <;> omega
        rw [txt_bin, txt_bin] at heq
        have hw := congrArg (sp 0 []) heq
        rw [bin_cut hL.flat (sign_bytes m hm1 hm2), bin_cut hL'.flat (sign_bytes q hq1 hq2)] at hw
        obtain ⟨e1, e2, e3⟩ := one_main hm1 hm2 hq1 hq2 (hL.lo.mono (lo1 _)) hR.lo (hL'.lo.mono (lo1 _)) hR'.lo hw
        subst e2
        rw [BI _ t t' hsz hft hft' (sp_inj e1), BI _ u u' hsz2 hfu hfu' (sp_inj e3)]
theorem eqE_self : ∀ (n : Nat) (a : Ex), a.size ≤ n → eqE a a = true := by
  intro n
  induction n with
  | zero => intro e he; have := e.size_pos; omega
  | succ n ih =>
    intro a ha
    obtain ⟨k, o, nm, v, ts⟩ := a
    have hl : ∀ ts : List Ex, sizes ts ≤ n → eqL ts ts = true := by
      intro ts
      induction ts with
      | nil => intro _; rfl
      | cons t ts iht =>
        intro h
        simp only [sizes] at h
        simp only [eqL]
        rw [ih t (by omega), iht (by omega)]; rfl
    simp only [Ex.size] at ha
    simp only [eqE, beq_self_eq_true, hl ts (by omega), Bool.and_true]
theorem eqE_eq : ∀ (n : Nat) (a : Ex), a.size ≤ n → ∀ b, eqE a b = true → a = b := by
  intro n
  induction n with
  | zero => intro e he; have := e.size_pos; omega
  | succ n ih =>
    intro a ha b h
    obtain ⟨k, o, nm, v, ts⟩ := a
    obtain ⟨k', o', nm', v', ts'⟩ := b
    rw [eqE_def] at h
    simp only [Bool.and_eq_true, beq_iff_eq] at h
    obtain ⟨h1, h2, h3, h4, h5⟩ := h
    have hl : ∀ ts ts' : List Ex, sizes ts ≤ n → eqL ts ts' = true → ts = ts' := by
      intro ts
      induction ts with
      | nil =>
        intro ts' _ h
        cases ts' with
        | nil => rfl
        | cons t ts' => simp [eqL] at h
      | cons t ts iht =>
        intro ts' hs h
        cases ts' with
        | nil => simp [eqL] at h
        | cons t' ts' =>
          simp only [sizes] at hs
          simp only [eqL, Bool.and_eq_true] at h
          rw [ih t (by omega) t' h.1, iht ts' (by omega) h.2]
    simp only [Ex.size] at ha
    simp only [Ex.kind, Ex.op, Ex.name, Ex.value, Ex.args] at h1 h2 h3 h4 h5
    rw [h1, h2, h3, h4, hl ts ts' (by omega) h5]
/-- the law's first half -/
theorem texts_eq (a b : Ex) (ha : (prR decI a).2 = 0) (hb : (prR decI b).2 = 0) : ((prR decI a).1 == (prR decI b).1) = (a.chk == 0 && (b.chk == 0 && eqE a b)) := by
  have go : ∀ e : Ex, (prR decI e).2 = 0 → e.chk = 0 ∧ (prR decI e).1 = txt decI e := by
    intro e h
    unfold prR at h ⊢
    by_cases h0 : e.chk ≠ 0
    · rw [if_pos h0] at h; exact absurd h h0
    · rw [if_neg h0]; exact ⟨Classical.not_not.1 h0, rfl⟩
  obtain ⟨a1, a2⟩ := go a ha
  obtain ⟨b1, b2⟩ := go b hb
  rw [a2, b2, a1, b1]
  simp only [beq_self_eq_true, Bool.true_and]
  by_cases h : txt decI a = txt decI b
  · have e := txt_inj _ a (Nat.le_refl _) b (chk_zero a1).2.2 (chk_zero b1).2.2 h
    subst e
    rw [eqE_self _ a (Nat.le_refl _)]
    simp
  · have h2 : eqE a b = false := by
      cases hq : eqE a b with
      | false => rfl
      | true => exact absurd (by rw [eqE_eq _ a (Nat.le_refl _) b hq]) h
    rw [h2]
    simpa using h

end Go.Proofs.YtgkalcboklhdgaaGreatDoor

namespace Go.Proofs.YtgkalcboklhdgaaGreatDoor
set_option linter.unusedVariables false
set_option linter.unusedSimpArgs false
open Ex

theorem tys_cons {bs : List Bn} {t : Ex} {ts : List Ex} (h : (Ex.tys bs (t :: ts)).1 = 0) : (t.ty bs).2 = 0 ∧ (Ex.tys bs ts).1 = 0 ∧ Ex.tys bs (t :: ts) = (0, (t.ty bs).1 :: (Ex.tys bs ts).2) := by
  simp only [Ex.tys] at h ⊢
  by_cases h0 : (t.ty bs).2 = 0
  · rw [if_neg (by simp [h0])] at h ⊢
    exact ⟨h0, h, by rw [h]⟩
  · rw [if_pos h0] at h; exact absurd h h0
theorem ty_args {bs : List Bn} {k o : Int} {n : List UInt8} {v : Int} {ts : List Ex} (h : ((Ex.mk k o n v ts).ty bs).2 = 0) : (Ex.tys bs ts).1 = 0 ∧ (Ex.mk k o n v ts).ty bs = tyN bs k o n (Ex.tys bs ts).2 := by
  simp only [Ex.ty] at h ⊢
  by_cases h0 : (Ex.tys bs ts).1 = 0
  · exact ⟨h0, by rw [if_neg (by simp [h0])]⟩
  · rw [if_pos h0] at h; exact absurd h h0
theorem tyN_nil {bs : List Bn} {k o : Int} {n : List UInt8} {l : List Int} (h : (tyN [] k o n l).2 = 0) : tyN bs k o n l = tyN [] k o n l ∧ k ≠ 2 := by
  unfold tyN at h ⊢
  by_cases h1 : k = 1
  · subst h1; simp
  · by_cases h2 : k = 2
    · subst h2; simp [fdIs] at h
    · simp only [if_neg h1, if_neg h2] at h ⊢
      exact ⟨trivial, h2⟩
mutual
theorem ty_any (bs : List Bn) : ∀ e : Ex, (e.ty []).2 = 0 → e.ty bs = e.ty [] ∧ e.ev bs = e.ev []
  | .mk k o n v ts, h => by
    obtain ⟨h1, h2⟩ := ty_args h
    obtain ⟨h3, h4⟩ := tys_any bs ts h1
    rw [h2] at h
    obtain ⟨h5, h6⟩ := tyN_nil (bs := bs) h
    refine ⟨?_, ?_⟩
    · rw [h2, ← h5]; simp only [Ex.ty]; rw [h3, if_neg (by simp [h1])]
    · simp only [Ex.ev]; rw [h4]
      unfold evN
      simp only [if_neg h6]
theorem tys_any (bs : List Bn) : ∀ ts : List Ex, (Ex.tys [] ts).1 = 0 → Ex.tys bs ts = Ex.tys [] ts ∧ Ex.evs bs ts = Ex.evs [] ts
  | [], _ => ⟨rfl, rfl⟩
  | t :: ts, h => by
    obtain ⟨h1, h2, h3⟩ := tys_cons h
    obtain ⟨a1, a2⟩ := ty_any bs t h1
    obtain ⟨b1, b2⟩ := tys_any bs ts h2
    simp only [Ex.tys, Ex.evs, a1, a2, b1, b2, and_self]
end
theorem lit_ty (bs : List Bn) (n : Int) : (lit n).ty bs = (1, 0) ∧ (lit n).ev bs = (n, 0) := by
  unfold lit
  by_cases h : n < 0
  · rw [if_pos h]
    simp [Ex.ty, Ex.tys, tyN, Ex.ev, Ex.evs, evN]
  · rw [if_neg h]
    simp [Ex.ty, Ex.tys, tyN, Ex.ev, Ex.evs, evN]
theorem cst_true {e : Ex} (h : (cst e).2 = true) : e.ty [] = (1, 0) ∧ e.ev [] = ((cst e).1, 0) := by
  unfold cst at h ⊢
  by_cases h1 : (e.ty []).2 ≠ 0 ∨ (e.ty []).1 ≠ 1
  · rw [if_pos h1] at h; cases h
  · rw [if_neg h1] at h ⊢
    simp only [not_or, Classical.not_not] at h1
    have h2 : (e.ev []).2 = 0 := by simpa using h
    exact ⟨Prod.ext h1.2 h1.1, Prod.ext rfl h2⟩
theorem mp_node (k o : Int) (n : List UInt8) (v : Int) (ts : List Ex) :
    ((cst (.mk k o n v ts)).2 = true → mp foldOne (.mk k o n v ts) = lit (cst (.mk k o n v ts)).1) ∧ ((cst (.mk k o n v ts)).2 = false → mp foldOne (.mk k o n v ts) = .mk k o n v (mps foldOne ts)) := by
  simp only [mp]
  constructor
  · intro h; simp only [foldOne, h, if_true]
  · intro h
    have : foldOne (.mk k o n v ts) = none := by unfold foldOne; rw [h]; rfl
    rw [this]
mutual
theorem mp_ty (bs : List Bn) : ∀ e : Ex, (mp foldOne e).ty bs = e.ty bs
  | .mk k o n v ts => by
    cases hc : (cst (.mk k o n v ts)).2 with
    | true =>
      rw [(mp_node k o n v ts).1 hc, (lit_ty bs _).1, (ty_any bs _ (by rw [(cst_true hc).1])).1, (cst_true hc).1]
    | false =>
      rw [(mp_node k o n v ts).2 hc]
      simp only [Ex.ty]
      rw [mps_ty bs ts]
theorem mps_ty (bs : List Bn) : ∀ ts : List Ex, Ex.tys bs (mps foldOne ts) = Ex.tys bs ts
  | [] => rfl
  | t :: ts => by simp only [mps, Ex.tys]; rw [mp_ty bs t, mps_ty bs ts]
end
mutual
theorem mp_ev (bs : List Bn) : ∀ e : Ex, (e.ty bs).2 = 0 → (mp foldOne e).ev bs = e.ev bs
  | .mk k o n v ts, h => by
    cases hc : (cst (.mk k o n v ts)).2 with
    | true =>
      rw [(mp_node k o n v ts).1 hc, (lit_ty bs _).2, (ty_any bs _ (by rw [(cst_true hc).1])).2, (cst_true hc).2]
    | false =>
      rw [(mp_node k o n v ts).2 hc]
      simp only [Ex.ev]
      rw [mps_ev bs ts (ty_args h).1]
theorem mps_ev (bs : List Bn) : ∀ ts : List Ex, (Ex.tys bs ts).1 = 0 → Ex.evs bs (mps foldOne ts) = Ex.evs bs ts
  | [], _ => rfl
  | t :: ts, h => by
    obtain ⟨h1, h2, _⟩ := tys_cons h
    simp only [mps, Ex.evs]; rw [mp_ev bs t h1, mps_ev bs ts h2]
end
theorem cst_congr {a b : Ex} (h1 : a.ty [] = b.ty []) (h2 : (b.ty []).2 = 0 → a.ev [] = b.ev []) : cst a = cst b := by
  unfold cst
  rw [h1]
  by_cases h : (b.ty []).2 ≠ 0 ∨ (b.ty []).1 ≠ 1
  · rw [if_pos h, if_pos h]
  · rw [if_neg h, if_neg h]
    simp only [not_or, Classical.not_not] at h
    rw [h2 h.1]
theorem lit_mp (n : Int) : mp foldOne (lit n) = lit n := by
  have hc : cst (lit n) = (n, true) := by
    unfold cst
    rw [(lit_ty [] n).1, (lit_ty [] n).2]; rfl
  obtain ⟨k, o, nm, v, ts, h⟩ : ∃ k o nm v ts, lit n = .mk k o nm v ts := by cases lit n; exact ⟨_, _, _, _, _, rfl⟩
  rw [h] at hc ⊢
  rw [(mp_node k o nm v ts).1 (by rw [hc]), hc, ← h]
mutual
theorem mp_idem : ∀ e : Ex, mp foldOne (mp foldOne e) = mp foldOne e
  | .mk k o n v ts => by
    cases hc : (cst (.mk k o n v ts)).2 with
    | true => rw [(mp_node k o n v ts).1 hc, lit_mp]
    | false =>
      have he := (mp_node k o n v ts).2 hc
      have hcc : cst (.mk k o n v (mps foldOne ts)) = cst (.mk k o n v ts) := by
        rw [← he]; exact cst_congr (mp_ty [] _) (mp_ev [] _)
      rw [he, (mp_node k o n v _).2 (by rw [hcc]; exact hc), mps_idem ts]
theorem mps_idem : ∀ ts : List Ex, mps foldOne (mps foldOne ts) = mps foldOne ts
  | [] => rfl
  | t :: ts => by simp only [mps]; rw [mp_idem t, mps_idem ts]
end
mutual
theorem eqE_refl : ∀ e : Ex, eqE e e = true
  | .mk k o n v ts => by simp [eqE, eqL_refl ts]
theorem eqL_refl : ∀ ts : List Ex, eqL ts ts = true
  | [] => by simp [eqL]
  | t :: ts => by simp [eqL, eqE_refl t, eqL_refl ts]
end
/-- what folding a checked expression yields -/
theorem fold_all (bs : List Bn) (e : Ex) (h : e.chk = 0) : ∃ f : Ex, fdR e = (f, 0) ∧ f.chk = 0 ∧ fdR f = (f, 0) ∧ tyR bs f = tyR bs e ∧ evR bs f = evR bs e ∧ f.size ≤ e.size ∧ eqE f f = true := by
  obtain ⟨h1, h2, h3⟩ := chk_zero h
  obtain ⟨g1, g2, g3⟩ := mp_ok e h3
  have hc : (mp foldOne e).chk = 0 := by
    unfold Ex.chk
    rw [if_neg (by omega), if_neg (by omega)]; exact g3
  have ht : tyR bs (mp foldOne e) = tyR bs e := by
    unfold tyR
    simp only [hc, h, mp_ty]
  refine ⟨mp foldOne e, by unfold fdR; rw [if_neg (by simp [h])], hc, by unfold fdR; rw [if_neg (by simp [hc]), mp_idem], ht, ?_, g1, eqE_refl _⟩
  unfold evR
  rw [ht]
  by_cases h0 : (tyR bs e).2 = 0
  · rw [if_neg (by simp [h0]), if_neg (by simp [h0])]
    have := tyR_zero h0
    exact mp_ev bs e (by rw [← this.2.2]; exact h0)
  · rw [if_pos h0, if_pos h0]
end Go.Proofs.YtgkalcboklhdgaaGreatDoor

namespace Go.Proofs.YtgkalcboklhdgaaGreatDoor
set_option linter.unusedVariables false
set_option linter.unusedSimpArgs false
open Ex

/-- the bindings without those of n -/
def delB (bs : List Bn) (n : List UInt8) : List Bn := bs.filter fun b => !isN n b
theorem del_find (bs : List Bn) (n m : List UInt8) : (delB bs n).find? (isN m) = if m = n then none else bs.find? (isN m) := by
  unfold delB
  induction bs with
  | nil => simp
  | cons b bs ih =>
    by_cases hb : isN n b = true
    · rw [List.filter_cons_of_neg (by simp [hb]), ih]
      by_cases hm : m = n
      · rw [if_pos hm, if_pos hm]
      · rw [if_neg hm, if_neg hm, List.find?_cons_of_neg]
        unfold isN at hb ⊢
        simp only [beq_iff_eq] at hb ⊢
        rw [hb]
        exact fun e => hm e.symm
    · rw [List.filter_cons_of_pos (by simp [hb])]
      by_cases hm : m = n
      · subst hm
        rw [List.find?_cons_of_neg hb, ih, if_pos rfl, if_pos rfl]
      · rw [if_neg hm] at ih
        rw [if_neg hm]
        cases h : isN m b with
        | true => rw [List.find?_cons_of_pos h, List.find?_cons_of_pos h]
        | false => rw [List.find?_cons_of_neg (by simp [h]), List.find?_cons_of_neg (by simp [h]), ih]
theorem tyN_del (bs : List Bn) (n : List UInt8) (k o : Int) (m : List UInt8) (l : List Int) : tyN (delB bs n) k o m l = if k = 2 ∧ m = n then (0, 7) else tyN bs k o m l := by
  unfold tyN fdIs fdB
  rw [del_find]
  by_cases h1 : k = 1
  · have h2 : ¬ (k = 2 ∧ m = n) := fun h => by omega
    rw [if_pos h1, if_pos h1, if_neg h2]
  · rw [if_neg h1, if_neg h1]
    by_cases h2 : k = 2
    · by_cases hm : m = n
      · have h3 : k = 2 ∧ m = n := ⟨h2, hm⟩
        simp only [if_pos h2, if_pos hm, if_pos h3]; rfl
      · have h3 : ¬ (k = 2 ∧ m = n) := fun h => hm h.2
        simp only [if_pos h2, if_neg hm, if_neg h3]
    · have h3 : ¬ (k = 2 ∧ m = n) := fun h => h2 h.1
      simp only [if_neg h2, if_neg h3]
mutual
theorem ty_del (bs : List Bn) (n : List UInt8) : ∀ e : Ex, e.fe = 0 → (e.ty bs).2 = 0 → e.ty (delB bs n) = if n ∈ nmE e then (0, 7) else e.ty bs
  | .mk k o m v ts, hf, h => by
    obtain ⟨hpc, hfes⟩ := fe_mk hf
    obtain ⟨h1, h2⟩ := ty_args h
    obtain ⟨g1, g2⟩ := tys_del bs n ts hfes h1
    rw [h2]
    by_cases hk : k = 2
    · subst hk
      obtain rfl : ts = [] := by
        rcases pc_zero hpc with ⟨h0, _⟩ | ⟨_, _, _, hm, _⟩ | ⟨h0, _⟩ | ⟨h0, _⟩
        · cases h0
        · exact List.eq_nil_of_length_eq_zero hm
        · cases h0
        · cases h0
      have e1 : (Ex.mk 2 o m v []).ty (delB bs n) = tyN (delB bs n) 2 o m [] := by simp [Ex.ty, Ex.tys]
      have e2 : nmE (.mk 2 o m v []) = [m] := by simp [nmE]
      have e3 : (Ex.tys bs []).2 = [] := rfl
      rw [e1, e2, e3, tyN_del]
      by_cases hm : m = n
      · rw [if_pos ⟨rfl, hm⟩, if_pos (by simp [hm])]
      · rw [if_neg (fun h => hm h.2), if_neg (by simp only [List.mem_singleton]; exact fun h => hm h.symm)]
    · have e2 : nmE (.mk k o m v ts) = nmL ts := by simp only [nmE]; exact if_neg hk
      rw [e2]
      simp only [Ex.ty]
      by_cases hn : n ∈ nmL ts
      · rw [if_pos hn, if_pos (by rw [g1 hn]; decide), g1 hn]
      · rw [if_neg hn, g2 hn, if_neg (by simp [h1]), tyN_del, if_neg (fun h => hk h.1)]
theorem tys_del (bs : List Bn) (n : List UInt8) : ∀ ts : List Ex, fes ts = 0 → (Ex.tys bs ts).1 = 0 → (n ∈ nmL ts → (Ex.tys (delB bs n) ts).1 = 7) ∧ (n ∉ nmL ts → Ex.tys (delB bs n) ts = Ex.tys bs ts)
  | [], _, _ => ⟨fun h => by simp [nmL] at h, fun _ => rfl⟩
  | t :: ts, hf, h => by
    simp only [Ex.fes] at hf
    have hft : t.fe = 0 := by
      by_cases h0 : t.fe = 0
      · exact h0
      · rw [if_pos h0] at hf; exact absurd hf h0
    rw [if_neg (by simp [hft])] at hf
    simp only [Ex.tys] at h ⊢
    have ht : (t.ty bs).2 = 0 := by
      by_cases h0 : (t.ty bs).2 = 0
      · exact h0
      · rw [if_pos h0] at h; exact absurd h h0
    rw [if_neg (by simp [ht])] at h
    obtain ⟨g1, g2⟩ := tys_del bs n ts hf h
    have g0 := ty_del bs n t hft ht
    simp only [nmL, List.mem_append]
    by_cases hn : n ∈ nmE t
    · rw [if_pos hn] at g0
      rw [g0]
      exact ⟨fun _ => by simp, fun h => absurd (.inl hn) h⟩
    · rw [if_neg hn] at g0
      rw [g0]
      refine ⟨fun h => ?_, fun h => ?_⟩
      · rw [if_neg (by simp [ht])]
        rcases h with h | h
        · exact absurd h hn
        · exact g1 h
      · rw [if_neg (by simp [ht]), if_neg (by simp [ht]), g2 (fun h' => h (.inr h'))]
end
theorem ok_prev {p q : Option (List UInt8)} {b : Bn} (h : b.ok p = true) (hq : ∀ x, prevLt p x = true → prevLt q x = true) : b.ok q = true := by
  unfold Bn.ok at h ⊢
  simp only [Bool.and_eq_true] at h ⊢
  obtain ⟨⟨⟨h1, h2⟩, h3⟩, h4⟩ := h
  exact ⟨⟨⟨h1, hq b.name h2⟩, h3⟩, h4⟩
theorem bnsOk_filter (f : Bn → Bool) : ∀ (bs : List Bn) (p q : Option (List UInt8)), bnsOk p bs = true → (∀ x, prevLt p x = true → prevLt q x = true) → bnsOk q (bs.filter f) = true
  | [], _, _, _, _ => rfl
  | b :: bs, p, q, h, hq => by
    simp only [bnsOk, Bool.and_eq_true] at h
    obtain ⟨h1, h2⟩ := h
    cases hf : f b with
    | true =>
      rw [List.filter_cons_of_pos hf]
      simp only [bnsOk, Bool.and_eq_true]
      exact ⟨ok_prev h1 hq, bnsOk_filter f bs _ _ h2 (fun x hx => hx)⟩
    | false =>
      rw [List.filter_cons_of_neg (by simp [hf])]
      refine bnsOk_filter f bs _ _ h2 (fun x hx => ?_)
      have hb : prevLt p b.name = true := by
        unfold Bn.ok at h1
        simp only [Bool.and_eq_true] at h1
        exact h1.1.1.2
      have hb := hq _ hb
      unfold prevLt at hb hx ⊢
      cases q with
      | none => rfl
      | some m =>
        simp only at hb hx ⊢
        rw [less_iff] at hb hx ⊢
        exact List.lt_trans hb hx
theorem bnds_del {bs : List Bn} (h : bnds bs = true) (n : List UInt8) : bnds (delB bs n) = true := by
  unfold bnds at h ⊢
  simp only [Bool.and_eq_true, decide_eq_true_eq] at h ⊢
  refine ⟨bnsOk_filter _ bs none none h.1 (fun _ h => h), ?_⟩
  have := List.length_filter_le (fun b => !isN n b) bs
  unfold delB
  omega
/-- the law's second half -/
theorem tyR_del {bs : List Bn} {a : Ex} {n : List UInt8} (h : (tyR bs a).2 = 0) (hn : n ∈ nmR a) : tyR (delB bs n) a = (0, 7) := by
  obtain ⟨h1, h2, h3⟩ := tyR_zero h
  rw [h3] at h
  have hn : n ∈ nmE a := by
    unfold nmR at hn
    rw [if_neg (by simp [h1])] at hn
    rcases ((fold_spec (nmE a) [] (by simp)).2 n).1 hn with h | h
    · exact h
    · cases h
  unfold tyR
  rw [if_neg (by simp [h1]), if_pos (bnds_del h2 n), ty_del bs n a (chk_zero h1).2.2 h, if_pos hn]

end Go.Proofs.YtgkalcboklhdgaaGreatDoor

namespace Go.Proofs.YtgkalcboklhdgaaGreatDoor
open Go.RowKit
set_option linter.unusedVariables false
set_option linter.unusedSimpArgs false

abbrev tBn : TypeId := 39
def bc (b : Bn) : List Value := [sV b.name, .int .i64 b.type, .int .i64 b.value]
def rowB (bs : List Bn) : List Value := bs.flatMap bc
theorem rowB_length (bs : List Bn) : (rowB bs).length = bs.length * 3 := by
  induction bs with
  | nil => rfl
  | cons r rs ih => simp only [rowB, List.flatMap_cons, List.length_append] at ih ⊢; rw [ih]; simp [bc]; omega
theorem rowB_get (rs : List Bn) (j i : Nat) (hj : j < rs.length) (hi : i < 3) : (rowB rs)[j * 3 + i]? = (bc rs[j])[i]? := by
  induction rs generalizing j with
  | nil => simp at hj
  | cons r rs ih =>
    simp only [rowB, List.flatMap_cons] at ih ⊢
    cases j with
    | zero => rw [List.getElem?_append_left (by simp [bc]; omega)]; simp
    | succ j =>
      rw [List.getElem?_append_right (by simp [bc]; omega)]
      have : (j + 1) * 3 + i - (bc r).length = j * 3 + i := by simp [bc]; omega
      rw [this, ih j (by simpa using hj)]
      simp
theorem rowB_one (rs : List Bn) : ∀ u ∈ rowB rs, u.oneCell' = true := by
  intro u hu
  obtain ⟨r, _, h⟩ := List.mem_flatMap.1 hu
  simp only [bc, List.mem_cons, List.not_mem_nil, or_false] at h
  rcases h with rfl | rfl | rfl <;> rfl
theorem rowB_app (a b : List Bn) : rowB (a ++ b) = rowB a ++ rowB b := by simp [rowB]
theorem rowB_set (rs : List Bn) (j : Nat) (hj : j < rs.length) (r : Bn) : (((rowB rs).set (j * 3) (sV r.name)).set (j * 3 + 1) (.int .i64 r.type)).set (j * 3 + 2) (.int .i64 r.value) = rowB (rs.set j r) := by
  induction rs generalizing j with
  | nil => simp at hj
  | cons x rs ih =>
    cases j with
    | zero => simp [rowB, bc]
    | succ j =>
      have := ih j (by simpa using hj)
      have h5 : (j + 1) * 3 = j * 3 + 1 + 1 + 1 := by omega
      simp only [rowB, List.flatMap_cons, List.set_cons_succ] at this ⊢
      rw [← this, h5]
      simp [bc]
/-- v is a row of bindings of the call's own -/
def RowB (base : Nat) (v : Value) (bs : List Bn) (w : World) : Prop := w.ownsRow base tBn 3 v bs.length (rowB bs)
theorem infoBn : (Tryz.prog.info? 39).map (fun i => (i.zero, i.size, i.bytes)) = some (some (.agg #[sV [], .int .i64 0, .int .i64 0]), 3, 32) := by kernel_rfl
theorem RowB.ext {base : Nat} {v : Value} {rs : List Bn} {w w' : World} (h : RowB base v rs w) (hb : Below w.heap.size w w') : RowB base v rs w' := ownsRow_extI h hb
theorem RowB.forms {base : Nat} {v : Value} {rs : List Bn} {w : World} (h : RowB base v rs w) : (v = .slice none 0 0 ∧ rs = []) ∨ ∃ g cap, v = .slice (some ⟨g, 0, none⟩) rs.length cap ∧ base ≤ g ∧ g < w.heap.size := by
  rcases Go.Joins.ownsRow_forms h with ⟨h1, h2⟩ | ⟨g, cap, h1⟩
  · exact .inl ⟨h1, List.eq_nil_of_length_eq_zero h2⟩
  · subst h1
    exact .inr ⟨g, cap, rfl, World.ownsRow.lt h g rfl⟩
theorem RowB.cells {base g cap : Nat} {rs : List Bn} {w : World} (h : RowB base (.slice (some ⟨g, 0, none⟩) rs.length cap) rs w) (j : Nat) (hj : j < rs.length) : Bn.cells w g (j * 3) rs[j] := by
  have hc : ∀ i, i < 3 → w.cell? ⟨g, j * 3 + i, none⟩ = (bc rs[j])[i]? := fun i hi => by
    rw [World.ownsRow.cellAt h (j * 3 + i) (by omega), rowB_get rs j i hj hi]
  exact ⟨hc 0 (by omega), hc 1 (by omega), hc 2 (by omega)⟩
/-- a row is an argument -/
theorem RowB.at {base : Nat} {v : Value} {rs : List Bn} {w : World} (h : RowB base v rs w) (hl : rs.length ≤ 4398046510976) (hf : ∀ b ∈ rs, b.fits) : ∃ p c, v = .slice p rs.length c ∧ BAt w p rs := by
  rcases h.forms with ⟨rfl, rfl⟩ | ⟨g, cap, rfl, _⟩
  · exact ⟨none, 0, rfl, ⟨hl, hf⟩, fun j hj => by simp at hj⟩
  · exact ⟨_, _, rfl, ⟨hl, hf⟩, fun j hj => ⟨g, 0, rfl, by rw [Nat.zero_add]; exact h.cells j hj⟩⟩
/-- the world behind a store of a whole binding -/
def setB (w : World) (g o : Nat) (r : Bn) : World :=
  ((w.setCell ⟨g, o, none⟩ (sV r.name)).setCell ⟨g, o + 1, none⟩ (.int .i64 r.type)).setCell ⟨g, o + 2, none⟩ (.int .i64 r.value)
theorem RowB.store {base g cap : Nat} {rs : List Bn} {w : World} (h : RowB base (.slice (some ⟨g, 0, none⟩) rs.length cap) rs w) (j : Nat) (hj : j < rs.length) (r : Bn) : RowB base (.slice (some ⟨g, 0, none⟩) (rs.set j r).length cap) (rs.set j r) (setB w g (j * 3) r) := by
  unfold RowB setB
  rw [List.length_set, ← rowB_set rs j hj r]
  exact (World.ownsRow.stored (World.ownsRow.stored (World.ownsRow.stored h _ _).1 _ _).1 _ _).1
theorem setB_below {w : World} {g o n₀ : Nat} {r : Bn} (h : n₀ ≤ g) : Below n₀ w (setB w g o r) := by
  unfold setB
  exact (((Below.refl n₀ w).setCell (p := ⟨g, o, none⟩) h _).setCell (p := ⟨g, o + 1, none⟩) h _).setCell (p := ⟨g, o + 2, none⟩) h _
theorem setB_other {w : World} {g o b : Nat} {r : Bn} (h : b ≠ g) : (setB w g o r).heap[b]? = w.heap[b]? := by
  unfold setB
  rw [Below.heap_setCell _ ⟨g, o + 2, none⟩ _ _ h, Below.heap_setCell _ ⟨g, o + 1, none⟩ _ _ h, Below.heap_setCell _ ⟨g, o, none⟩ _ _ h]
theorem setB_size {w : World} {g o : Nat} {r : Bn} : (setB w g o r).heap.size = w.heap.size := by unfold setB; simp [World.setCell]

theorem rowB_at {w : World} {b o : Nat} {rs : List Bn} (h : ∀ j (h : j < rs.length), Bn.cells w b (o + j * 3) rs[j]) : ∀ j u, (rowB rs)[j]? = some u → w.cell? ((⟨b, o, none⟩ : Addr).add j) = some u := by
  intro j u hu
  have hj : j < rs.length * 3 := by rw [← rowB_length]; exact (List.getElem?_eq_some_iff.1 hu).1
  have e : (⟨b, o, none⟩ : Addr).add j = ⟨b, o + j, none⟩ := by unfold Addr.add; split <;> simp_all
  rw [e]
  have hq : j / 3 < rs.length := by omega
  obtain ⟨c0, c1, c2⟩ := h (j / 3) hq
  have hr : j = j / 3 * 3 + j % 3 := by omega
  have hm : j % 3 < 3 := by omega
  rw [hr, rowB_get rs (j / 3) (j % 3) hq hm] at hu
  rw [hr]
  have h5 : j % 3 = 0 ∨ j % 3 = 1 ∨ j % 3 = 2 := by omega
  generalize j % 3 = m at *
  generalize j / 3 = d at *
  rcases h5 with rfl | rfl | rfl
  · simp only [bc, List.getElem?_cons_zero, Option.some.injEq] at hu; rw [← hu]; simpa using c0
  · simp only [bc, List.getElem?_cons_zero, List.getElem?_cons_succ, Option.some.injEq] at hu; rw [← hu, ← Nat.add_assoc]; exact c1
  · simp only [bc, List.getElem?_cons_zero, List.getElem?_cons_succ, Option.some.injEq] at hu; rw [← hu, ← Nat.add_assoc]; exact c2

set_option maxHeartbeats 1000000 in
theorem CloneB_any (rs : List Bn) (a : Addr) (c : Nat) (w : World) (hl : rs.length ≤ 4398046510976) (hc : ∀ j u, (rowB rs)[j]? = some u → w.cell? (a.add j) = some u) :
    Calls Tryz.prog 14 #[.slice (some a) rs.length c] w fun e w' => ∃ v, e = .returned v ∧ RowB w.heap.size v rs w' ∧ Ext w w' := by
  obtain ⟨i0, hi, hz0, hz1, hz2⟩ := info_parts infoBn
  have hn : ∀ W, (binOp .eql 25 (.slice (some a) rs.length c) (.slice none 0 0)).run Tryz.prog W = .ok (.bool false) W := fun W => Lib.run_eql_slice_nil (P := Tryz.prog) W 25 _ (some a) rs.length c 0 0 Tryz.underlying25
  have HC := Lib.hid (fun W (h : Ext w W) j u hu => (h.below.cell (Ex.cell_lt' (hc j u hu))).trans (hc j u hu))
  have HL := Lib.hid (rowB_length rs)
  have HO := Lib.hid (rowB_one rs)
  clear hc
  unfold RowB
  generalize rowB rs = xs at *
  generalize rs.length = n at *
  have hE0 : Ext w (w.alloc (.cells #[] tBn)) := (Below.refl _ w).alloc (Nat.le_refl _) _
  have hA := HC.out _ hE0
  go_enter Tryz.func14, Tryz.ntmps14
  go_wp2_with (at_builtin; go_loud (refine wpList_append_own _ rfl _ _ 25 rfl w.heap.size tBn i0 (.agg #[sV [], .int .i64 0, .int .i64 0]) 3 32 Tryz.underlying25 hi hz0 hz1 hz2 rfl (by decide) _ 0 [] rfl (World.ownsRow_lit (base := w.heap.size) w #[] 0 (Nat.le_refl _) (by unfold maxLen; omega) (by simp)) a n c xs rfl HL.out hA HO.out (by unfold maxLen; omega) (by omega) (by simp) ?_); intro v' w3 hown hgrow hnil)
  go_wp2
  go_ret
  rw [Nat.zero_add, List.nil_append] at hown
  exact ⟨_, rfl, hown, ((Below.refl _ w).alloc (Nat.le_refl _) _).grown hgrow (by simp) (fun k e => by cases e; exact Nat.le_refl _)⟩
theorem CloneB_nil (c : Nat) (w : World) : Calls Tryz.prog 14 #[.slice none 0 c] w fun e w' => e = .returned (.slice none 0 0) ∧ w = w' := by
  have hn : ∀ W, (binOp .eql 25 (.slice none 0 c) (.slice none 0 0)).run Tryz.prog W = .ok (.bool true) W := fun W => Lib.run_eql_slice_nil (P := Tryz.prog) W 25 _ none 0 c 0 0 Tryz.underlying25
  go_enter Tryz.func14, Tryz.ntmps14
  go_wp2
  go_ret
  exact ⟨rfl, rfl⟩
/-- the clone of bindings -/
theorem CloneB_row {w : World} {p : Option Addr} {bs : List Bn} (h : BAt w p bs) (c : Nat) : Calls Tryz.prog 14 #[.slice p bs.length c] w fun e w' => ∃ v, e = .returned v ∧ RowB w.heap.size v bs w' ∧ Ext w w' := by
  obtain ⟨⟨hl, _⟩, h2⟩ := h
  cases p with
  | none =>
    have h0 : bs = [] := by
      cases bs with
      | nil => rfl
      | cons x rs => obtain ⟨b, o, e, _⟩ := h2 0 (by simp); cases e
    subst h0
    exact (CloneB_nil c w).mono (fun e w' ⟨h3, h4⟩ => ⟨_, h3, World.ownsRow_nil _ _ _ _, by rw [← h4]; exact Below.refl _ _⟩)
  | some a =>
    refine CloneB_any bs a c w hl ?_
    by_cases h0 : bs = []
    · subst h0; intro j u hu; simp [rowB] at hu
    · obtain ⟨b, o, e, _⟩ := h2 0 (List.length_pos_iff.2 h0)
      cases e
      refine rowB_at (fun j hj => ?_)
      obtain ⟨b', o', e, h3⟩ := h2 j hj
      cases e
      exact h3

set_option maxHeartbeats 1000000 in
/-- the law's closure: has the binding the name? -/
theorem named_any (n : List UInt8) (B : Nat) (b : Bn) (w : World) (hB : w.cell? ⟨B, 0, none⟩ = some (sV n)) :
    Gives Tryz.prog 15 #[b.val, .pointer (some ⟨B, 0, none⟩)] w (.bool (isN n b)) := by
  obtain ⟨nm, t, x⟩ := b
  have hlt := Ex.cell_lt' hB
  have hv : (Bn.mk nm t x).val = .agg #[sV nm, .int .i64 t, .int .i64 x] := rfl
  have hi : isN n ⟨nm, t, x⟩ = (nm == n) := rfl
  rw [hv, hi]
  clear hv hi
  unfold Gives
  go_enter Tryz.func15, Tryz.ntmps15
  go_wp2
  go_ret
  exact ⟨rfl, (Below.refl _ w).alloc (Nat.le_refl _) _⟩

end Go.Proofs.YtgkalcboklhdgaaGreatDoor

namespace Go.Proofs.YtgkalcboklhdgaaGreatDoor
open Go.RowKit
set_option linter.unusedVariables false
set_option linter.unusedSimpArgs false

set_option maxHeartbeats 1000000 in
theorem IndexLaw_any (bs : List Bn) (p : Option Addr) (c g : Nat) (n : List UInt8) (w : World) (hA : BAt w p bs) (hg : w.cell? ⟨g, 0, none⟩ = some (sV n)) :
    Calls Tryz.prog 42 #[.slice p bs.length c, .func (.func 15) #[] #[.pointer (some ⟨g, 0, none⟩)]] w fun e w' =>
      Ext w w' ∧ ((noneTo bs n bs.length = true ∧ e = .returned (.int .i64 (-1))) ∨ ∃ j, ∃ h : j < bs.length, noneTo bs n j = true ∧ isN n bs[j] = true ∧ e = .returned (.int .i64 (j : Int))) := by
  have en := enters_fn Tryz.func15 (by kernel_rfl) rfl
  have hl := hA.1.1
  have HA := Lib.hid hA
  have HG := Lib.hid hg
  have HS := Lib.hid (noneTo_succ bs n)
  have HF := Lib.hid (fd_at bs n)
  have HN := Lib.hid (fd_none bs n)
  clear hA hg
  go_enter Tryz.func42, Tryz.ntmps42
  go_wp2
  go_loopw [8] (fun i wr => ∃ j : Nat, j ≤ bs.length ∧ i = .int .i64 (j : Int) ∧ noneTo bs n j = true ∧ Ext w wr) (fun i _ => bs.length - (intOf i).toNat)
  case atStart => exact ⟨0, Nat.zero_le _, rfl, rfl, Below.refl _ _⟩
  case round =>
    obtain ⟨j, hj, rfl, hk, hE⟩ := hrel
    have HK := Lib.hid hk
    have HE := Lib.hid hE
    by_cases hlt : j < bs.length
    · obtain ⟨b, off, rfl, hcs⟩ := (HA.out.below hE).2 j hlt
      have hg : wr.cell? ⟨g, 0, none⟩ = some (sV n) := (hE.below.cell (p := ⟨g, 0, none⟩) (Ex.cell_lt' HG.out)).trans HG.out
      obtain ⟨c0, c1, c2⟩ := hcs
      have FC := Lib.hid (show Gives Tryz.prog 15 #[.agg #[sV (bs[j]).name, .int .i64 (bs[j]).type, .int .i64 (bs[j]).value], .pointer (some ⟨g, 0, none⟩)] wr (.bool ((bs[j]).name == n)) from named_any n g bs[j] wr hg)
      have hs := Lib.hid (HS.out j hlt)
      have hf := Lib.hid (HF.out j hlt HK.out)
      cases hb : (bs[j]).name == n with
      | true =>
        rw [hb] at FC
        have HR := Lib.hid (show isN n bs[j] = true from hb)
        generalize (bs[j]).name = m at *
        generalize (bs[j]).type = ty at *
        generalize (bs[j]).value = v at *
        clear hk hE hb hf hs hg
        go_wp2_with fail
        refine FC.out.mono ?_
        intro w1 hB1
        go_wp2
        go_ret
        exact ⟨Ext.trans HE.out hB1, .inr ⟨j, hlt, HK.out, HR.out, rfl⟩⟩
      | false =>
        rw [hb] at FC
        have HR := Lib.hid (show noneTo bs n (j + 1) = true by rw [hs.out, HK.out]; simp [isN, hb])
        generalize (bs[j]).name = m at *
        generalize (bs[j]).type = ty at *
        generalize (bs[j]).value = v at *
        clear hk hE hb hf hs hg
        go_wp2_with fail
        refine FC.out.mono ?_
        intro w1 hB1
        go_wp2
        go_roundw
        case rel => exact ⟨j + 1, by omega, by go_num, HR.out, Ext.trans HE.out hB1⟩
        case measure => simp [intOf]; omega
    · obtain rfl : j = bs.length := by omega
      have HR := Lib.hid HK.out
      clear hk hE
      go_wp2
      go_ret
      exact ⟨HE.out, .inl ⟨HR.out, rfl⟩⟩


theorem del_none {bs : List Bn} {n : List UInt8} {j : Nat} (h : noneTo bs n j = true) : delB (bs.take j) n = bs.take j := by
  unfold delB
  unfold noneTo at h
  rw [List.filter_eq_self]
  intro b hb
  exact List.all_eq_true.1 h b hb
theorem del_succ (bs : List Bn) (n : List UInt8) (j : Nat) (h : j < bs.length) : delB (bs.take (j + 1)) n = delB (bs.take j) n ++ (if isN n bs[j] = true then [] else [bs[j]]) := by
  unfold delB
  rw [List.take_succ_eq_append_getElem h, List.filter_append]
  congr 1
  cases hq : isN n bs[j] <;> simp [hq]
/-- what DeleteFunc has made of the first j -/
structure DI (bs : List Bn) (n : List UInt8) (i j : Nat) (R : List Bn) : Prop where
  lt : i < j
  len : R.length = bs.length
  low : R.take i = delB (bs.take j) n
  high : ∀ k, j ≤ k → R[k]? = bs[k]?
theorem DI.start {bs : List Bn} {n : List UInt8} {j : Nat} (h : j < bs.length) (h0 : noneTo bs n j = true) (h1 : isN n bs[j] = true) : DI bs n j (j + 1) bs :=
  ⟨by omega, rfl, by rw [del_succ bs n j h, if_pos h1, List.append_nil, del_none h0], fun _ _ => rfl⟩
theorem DI.skip {bs : List Bn} {n : List UInt8} {i j : Nat} {R : List Bn} (h : DI bs n i j R) (hj : j < bs.length) (h1 : isN n bs[j] = true) : DI bs n i (j + 1) R :=
  ⟨by have := h.lt; omega, h.len, by rw [del_succ bs n j hj, if_pos h1, List.append_nil, h.low], fun k hk => h.high k (by omega)⟩
theorem DI.keep {bs : List Bn} {n : List UInt8} {i j : Nat} {R : List Bn} (h : DI bs n i j R) (hj : j < bs.length) (h1 : isN n bs[j] = false) : DI bs n (i + 1) (j + 1) (R.set i bs[j]) := by
  have hi := h.lt
  have hl := h.len
  refine ⟨by omega, by rw [List.length_set]; exact hl, ?_, fun k hk => ?_⟩
  · rw [del_succ bs n j hj, if_neg (by simp [h1]), ← h.low, List.take_succ_eq_append_getElem (by rw [List.length_set]; omega), List.getElem_set_self, List.take_set_of_le (Nat.le_refl _)]
  · rw [List.getElem?_set_ne (by omega)]
    exact h.high k (by omega)
theorem DI.done {bs : List Bn} {n : List UInt8} {i : Nat} {R : List Bn} (h : DI bs n i bs.length R) : R.take i = delB bs n := by
  rw [h.low, List.take_length]
theorem DI.get {bs : List Bn} {n : List UInt8} {i j : Nat} {R : List Bn} (h : DI bs n i j R) (hj : j < bs.length) : ∃ h' : j < R.length, R[j] = bs[j] := by
  have h' : j < R.length := by rw [h.len]; exact hj
  refine ⟨h', ?_⟩
  have := h.high j (Nat.le_refl _)
  rw [List.getElem?_eq_getElem h', List.getElem?_eq_getElem hj] at this
  exact Option.some.inj this
theorem rowB_take (rs : List Bn) (i : Nat) : (rowB rs).take (i * 3) = rowB (rs.take i) := by
  induction rs generalizing i with
  | nil => simp [rowB]
  | cons r rs ih =>
    cases i with
    | zero => simp [rowB]
    | succ i =>
      have := ih i
      simp only [rowB, List.flatMap_cons, List.take_succ_cons] at this ⊢
      rw [← this, show (i + 1) * 3 = (bc r).length + i * 3 by simp [bc]; omega, List.take_length_add_append]
/-- a store of cells from o on leaves the row's head -/
theorem row_cells_set {base g cap n size : Nat} {e : TypeId} : ∀ (vs : List Value) (o : Nat) (xs : List Value) (w : World), w.ownsRow base e size (.slice (some ⟨g, 0, none⟩) n cap) n xs →
    ∃ ys, ys.take o = xs.take o ∧ (w.setCells g o vs).ownsRow base e size (.slice (some ⟨g, 0, none⟩) n cap) n ys ∧ Below base w (w.setCells g o vs)
  | [], o, xs, w, h => ⟨xs, rfl, h, Below.refl _ _⟩
  | v :: vs, o, xs, w, h => by
    obtain ⟨h1, _⟩ := World.ownsRow.stored h o v
    obtain ⟨ys, h2, h3, h4⟩ := row_cells_set vs (o + 1) _ _ h1
    refine ⟨ys, ?_, h3, Below.trans ((Below.refl base w).setCell (p := ⟨g, o, none⟩) (World.ownsRow.lt h g rfl).1 v) h4⟩
    have e1 := congrArg (List.take o) h2
    rw [List.take_take, List.take_take, Nat.min_eq_left (by omega), List.take_set_of_le (Nat.le_refl _)] at e1
    exact e1
theorem row_cut {base g cap n size : Nat} {e : TypeId} {xs : List Value} {w : World} (h : w.ownsRow base e size (.slice (some ⟨g, 0, none⟩) n cap) n xs) (k : Nat) (hk : k ≤ n) : w.ownsRow base e size (.slice (some ⟨g, 0, none⟩) k cap) k (xs.take (k * size)) := by
  obtain ⟨h1, h2⟩ := h
  rcases h2 with ⟨e0, _⟩ | ⟨g', cap', cur, e0, hb, hg, hn, hm, hs, ht⟩
  · cases e0
  · injection e0 with e1 _ e3
    injection e1 with e1
    injection e1 with e1
    subst e1; subst e3
    have hkn : k * size ≤ n * size := Nat.mul_le_mul_right _ hk
    refine ⟨by rw [List.length_take, h1, Nat.min_eq_left hkn], .inr ⟨g, cap, cur, rfl, hb, hg, by omega, hm, hs, ?_⟩⟩
    rw [← ht, List.take_take, Nat.min_eq_left hkn]
/-- the cells that clear writes -/
def zerosB (n : Nat) : List Value := (Builtin.zeroCells #[sV [], .int .i64 0, .int .i64 0] n).toList
theorem zerosB_length (n : Nat) : (zerosB n).length = n * 3 := by simp [zerosB, Builtin.zeroCells]
theorem clearB_run (ty : TypeId) (g o n c : Nat) (w : World) (hn : 0 < n) (hc : ∀ j, j < n * 3 → (w.cell? ⟨g, o + j, none⟩).isSome = true) (hf : ∀ j, j < n * 3 → w.frozen? ⟨g, o + j, none⟩ = false) :
    (Builtin.clear_ #[25] ty #[.slice (some ⟨g, o, none⟩) n c]).run Tryz.prog w = .ok (.tuple #[]) (w.setCells g o (zerosB n)) := by
  have hv : ∀ w, (zeroValue 39).run Tryz.prog w = .ok (.agg #[sV [], .int .i64 0, .int .i64 0]) w := fun w => by kernel_rfl
  have hst := run_storeCells_cells (P := Tryz.prog) g o (zerosB n) 0 w (by rw [zerosB_length]; simpa using hc) (by rw [zerosB_length]; simpa using hf) (by
    intro v hv'
    unfold zerosB Builtin.zeroCells at hv'
    simp only [Array.toList_map, List.mem_map] at hv'
    obtain ⟨i, _, rfl⟩ := hv'
    have h3 : i % 3 = 0 ∨ i % 3 = 1 ∨ i % 3 = 2 := by omega
    show (#[sV [], Value.int .i64 0, Value.int .i64 0][i % 3]!).oneCell' = true
    rcases h3 with h | h | h <;> rw [h] <;> rfl)
  simp only [Nat.add_zero] at hst
  obtain ⟨m, rfl⟩ : ∃ m, n = m + 1 := ⟨n - 1, by omega⟩
  unfold zerosB at hst ⊢
  simp [Builtin.clear_, run_underlying Tryz.underlying25, hv, Value.cells, hst]

end Go.Proofs.YtgkalcboklhdgaaGreatDoor

namespace Go.Proofs.YtgkalcboklhdgaaGreatDoor
open Go.RowKit
set_option linter.unusedVariables false
set_option linter.unusedSimpArgs false

/-- copy of elements of several cells: all is read before anything is written -/
theorem run_copy_cellsK {P : Program} (w : World) (dT sT ty elem : TypeId) (size : Nat) (b o dLen dCap : Nat) (a : Addr) (sLen sCap : Nat) (cs : List Value)
    (hu : P.underlying dT = some (.slice elem)) (hs : (P.info? elem).map (·.size) = some size) (hn : cs.length = Nat.min sLen dLen * size)
    (hsrc : ∀ j v, cs[j]? = some v → w.cell? (a.add j) = some v) (hc : ∀ j, j < cs.length → (w.cell? ⟨b, o + j, none⟩).isSome = true) (hf : ∀ j, j < cs.length → w.frozen? ⟨b, o + j, none⟩ = false) (h1 : ∀ v ∈ cs, v.oneCell' = true) :
    (Builtin.copy_ #[dT, sT] ty #[.slice (some ⟨b, o, none⟩) dLen dCap, .slice (some a) sLen sCap]).run P w = .ok (goInt (Nat.min sLen dLen)) (w.setCells b o cs) := by
  have hl := run_loadCells_list (P := P) w a cs hsrc
  have hst := run_storeCells_cells (P := P) b o cs 0 w (by simpa using hc) (by simpa using hf) h1
  cases hq : P.info? elem with
  | none => simp [hq] at hs
  | some i =>
    have hi : i.size = size := by simpa [hq] using hs
    simp [Builtin.copy_, run_underlying hu, Builtin.lenOf, Builtin.firstCells, sizeOf, typeInfo, hq, hi, ← hn, hl, hst]
/-- cells vs laid over xs from o on -/
def spl : List Value → Nat → List Value → List Value
  | xs, _, [] => xs
  | xs, o, v :: vs => spl (xs.set o v) (o + 1) vs
theorem spl_eq : ∀ (vs xs : List Value) (o : Nat), o + vs.length ≤ xs.length → spl xs o vs = xs.take o ++ vs ++ xs.drop (o + vs.length)
  | [], xs, o, _ => by simp [spl]
  | v :: vs, xs, o, h => by
    simp only [List.length_cons] at h
    rw [spl, spl_eq vs (xs.set o v) (o + 1) (by rw [List.length_set]; omega), List.take_succ_eq_append_getElem (by rw [List.length_set]; omega), List.getElem_set_self, List.take_set_of_le (Nat.le_refl _), List.drop_set_of_lt (by omega)]
    simp only [List.length_cons, List.append_assoc, List.cons_append, List.nil_append]
    rw [show o + 1 + vs.length = o + (vs.length + 1) by omega]
theorem row_spl {base g cap n size : Nat} {e : TypeId} : ∀ (vs : List Value) (o : Nat) (xs : List Value) (w : World), w.ownsRow base e size (.slice (some ⟨g, 0, none⟩) n cap) n xs →
    (w.setCells g o vs).ownsRow base e size (.slice (some ⟨g, 0, none⟩) n cap) n (spl xs o vs) ∧ Below base w (w.setCells g o vs)
  | [], o, xs, w, h => ⟨h, Below.refl _ _⟩
  | v :: vs, o, xs, w, h => by
    obtain ⟨h1, _⟩ := World.ownsRow.stored h o v
    obtain ⟨h3, h4⟩ := row_spl vs (o + 1) _ _ h1
    exact ⟨h3, Below.trans ((Below.refl base w).setCell (p := ⟨g, o, none⟩) (World.ownsRow.lt h g rfl).1 v) h4⟩
/-- a row with room, one element longer -/
theorem row_more {base g cap n k size : Nat} {e : TypeId} {xs : List Value} {w : World} (h : w.ownsRow base e size (.slice (some ⟨g, 0, none⟩) n cap) n xs) (hn : n ≤ k) (hk : k ≤ cap) : ∃ ys, w.ownsRow base e size (.slice (some ⟨g, 0, none⟩) k cap) k ys ∧ ys.take (n * size) = xs := by
  obtain ⟨h1, h2⟩ := h
  rcases h2 with ⟨e0, _⟩ | ⟨g', cap', cur, e0, hb, hg, hn', hm, hs, ht⟩
  · cases e0
  · injection e0 with e1 _ e3
    injection e1 with e1
    injection e1 with e1
    subst e1; subst e3
    have hk2 : k * size ≤ cap * size := Nat.mul_le_mul_right _ hk
    have hn2 : n * size ≤ k * size := Nat.mul_le_mul_right _ hn
    refine ⟨cur.toList.take (k * size), ⟨by rw [List.length_take, Array.length_toList, hs, Nat.min_eq_left hk2], .inr ⟨g, cap, cur, rfl, hb, hg, hk, hm, hs, rfl⟩⟩, ?_⟩
    rw [List.take_take, Nat.min_eq_left hn2, ht]
theorem rowB_drop (rs : List Bn) (i : Nat) : (rowB rs).drop (i * 3) = rowB (rs.drop i) := by
  induction rs generalizing i with
  | nil => simp [rowB]
  | cons r rs ih =>
    cases i with
    | zero => simp [rowB]
    | succ i =>
      have := ih i
      simp only [rowB, List.flatMap_cons, List.drop_succ_cons] at this ⊢
      rw [← this, show (i + 1) * 3 = (bc r).length + i * 3 by simp [bc]; omega, List.drop_length_add_append]
/-- the cells behind Insert's two copies -/
theorem ins_cells (out : List Bn) (b : Bn) (i : Nat) (hi : i ≤ out.length) (ys : List Value) (hl : ys.length = (out.length + 1) * 3) (ht : ys.take (i * 3) = rowB (out.take i)) :
    spl (spl ys ((i + 1) * 3) (rowB (out.drop i))) (i * 3) (bc b) = rowB (out.take i ++ b :: out.drop i) := by
  have hd : (rowB (out.drop i)).length = (out.length - i) * 3 := by rw [rowB_length, List.length_drop]
  rw [spl_eq (rowB (out.drop i)) ys ((i + 1) * 3) (by rw [hd, hl]; omega)]
  have e1 : ys.drop ((i + 1) * 3 + (rowB (out.drop i)).length) = [] := List.drop_eq_nil_of_le (by rw [hd, hl]; omega)
  rw [e1, List.append_nil]
  have hlt : (ys.take ((i + 1) * 3)).length = (i + 1) * 3 := by rw [List.length_take, hl]; omega
  rw [spl_eq (bc b) _ (i * 3) (by rw [List.length_append, hlt, hd]; simp [bc]; omega)]
  have e2 : (ys.take ((i + 1) * 3) ++ rowB (out.drop i)).take (i * 3) = rowB (out.take i) := by
    rw [List.take_append_of_le_length (by omega), List.take_take, Nat.min_eq_left (by omega), ht]
  have e3 : (ys.take ((i + 1) * 3) ++ rowB (out.drop i)).drop (i * 3 + (bc b).length) = rowB (out.drop i) := by
    have h3 : i * 3 + (bc b).length = (ys.take ((i + 1) * 3)).length + 0 := by rw [hlt]; simp [bc]; omega
    rw [h3, List.drop_length_add_append, List.drop_zero]
  rw [e2, e3]
  simp [rowB]
theorem ins_cells2 (out : List Bn) (b : Bn) (i : Nat) (hi : i ≤ out.length) (ys : List Value) (hl : ys.length = (out.length + 1) * 3) (ht : ys.take (i * 3) = rowB (out.take i)) :
    spl (spl ys (i * 3) (bc b)) ((i + 1) * 3) (rowB (out.drop i)) = rowB (out.take i ++ b :: out.drop i) := by
  have hd : (rowB (out.drop i)).length = (out.length - i) * 3 := by rw [rowB_length, List.length_drop]
  have hb : (bc b).length = 3 := rfl
  rw [spl_eq (bc b) ys (i * 3) (by rw [hb, hl]; omega), ht]
  have hti : (rowB (out.take i)).length = i * 3 := by rw [rowB_length, List.length_take]; omega
  have hll : (rowB (out.take i) ++ bc b).length = (i + 1) * 3 := by rw [List.length_append, hti, hb]; omega
  rw [spl_eq (rowB (out.drop i)) _ ((i + 1) * 3) (by rw [List.length_append, hll, hd, List.length_drop, hl, hb]; omega), ← hll, List.take_left]
  have e1 : (rowB (out.take i) ++ bc b ++ ys.drop (i * 3 + (bc b).length)).drop ((rowB (out.take i) ++ bc b).length + (rowB (out.drop i)).length) = [] := List.drop_eq_nil_of_le (by
    rw [List.length_append, hll, hd, List.length_drop, hl, hb]; omega)
  rw [e1]
  simp [rowB]

end Go.Proofs.YtgkalcboklhdgaaGreatDoor

namespace Go.Proofs.YtgkalcboklhdgaaGreatDoor
open Go.RowKit Go.Shelf Go.Lib
set_option linter.unusedVariables false
set_option linter.unusedSimpArgs false

abbrev tBs : TypeId := 25
theorem infoBn3 : (Tryz.prog.info? 39).map (·.size) = some 3 := by kernel_rfl
set_option maxRecDepth 100000 in
set_option maxHeartbeats 2000000 in
/-- at the end -/
theorem Insert_end (out : List Bn) (b : Bn) (base : Nat) (v : Value) (w : World) (hl : out.length ≤ 1000) (hR : RowB base v out w) (hbase : base ≤ w.heap.size) (vb : Nat) (hvb : w.heap[vb]? = some (.cells #[sV b.name, .int .i64 b.type, .int .i64 b.value] tBn (0, 0))) :
    Calls Tryz.prog 56 #[v, .int .i64 out.length, .slice (some ⟨vb, 0, none⟩) 1 1] w fun e w' => ∃ v', e = .returned v' ∧ RowB base v' (out ++ [b]) w' ∧ Below base w w' := by
  obtain ⟨i0, hi, hz0, hz1, hz2⟩ := info_parts infoBn
  have hsrc : ∀ j u, (bc b)[j]? = some u → w.cell? ((⟨vb, 0, none⟩ : Addr).add j) = some u := by
    have h := rowB_at (w := w) (b := vb) (o := 0) (rs := [b]) (fun j hj => by
      have : j = 0 := by simpa using hj
      subst this
      exact ⟨cell_of hvb rfl, cell_of hvb rfl, cell_of hvb rfl⟩)
    simpa [rowB] using h
  have hone : ∀ u ∈ bc b, u.oneCell' = true := by have := rowB_one [b]; simpa [rowB] using this
  have happ : rowB (out ++ [b]) = rowB out ++ bc b := by rw [rowB_app]; simp [rowB]
  have hlen : (out ++ [b]).length = out.length + 1 := by simp
  have HR := Lib.hid hR
  unfold RowB at hR ⊢
  rw [happ, hlen]
  rcases HR.out.forms with ⟨rfl, rfl⟩ | ⟨g, cap, rfl, hg1, hg2⟩
  · clear HR
    have hxl : (bc b).length = 1 * 3 := rfl
    generalize bc b = xs at *
    simp only [List.length_nil]
    go_enter Tryz.func56, Tryz.ntmps56
    go_wp2_with (at_builtin; go_loud (refine wpList_append_own _ rfl _ _ 25 rfl base tBn i0 (.agg #[sV [], .int .i64 0, .int .i64 0]) 3 32 Tryz.underlying25 hi hz0 hz1 hz2 rfl (by decide) _ 0 [] rfl hR ⟨vb, 0, none⟩ 1 1 xs rfl hxl hsrc hone (by unfold maxLen; omega) (by omega) hbase ?_); intro v' w3 hown hgrow hnil)
    go_ret
    exact ⟨_, rfl, hown, (Below.refl base w).grown hgrow hbase (fun k e => by cases e)⟩
  · clear HR
    have hcap : out.length ≤ cap := by
      rcases hR.2 with ⟨e, _⟩ | ⟨g', cap', cur, e, _, _, hn, _⟩
      · cases e
      · cases e; exact hn
    have hxl : (bc b).length = 1 * 3 := rfl
    generalize rowB out = ro at *
    generalize bc b = xs at *
    generalize out.length = n at *
    have hcap0 : ¬ (cap = n ∧ False) := by simp
    go_enter Tryz.func56, Tryz.ntmps56
    go_wp2_with (at_builtin; go_loud (refine wpList_append_own _ rfl _ _ 25 rfl base tBn i0 (.agg #[sV [], .int .i64 0, .int .i64 0]) 3 32 Tryz.underlying25 hi hz0 hz1 hz2 rfl (by decide) _ n ro rfl hR ⟨vb, 0, none⟩ 1 1 xs rfl hxl hsrc hone (by unfold maxLen; omega) (by omega) hbase ?_); intro v' w3 hown hgrow hnil)
    all_goals (go_ret; exact ⟨_, rfl, hown, (Below.refl base w).grown hgrow hbase (fun k e => by cases e; exact hg1)⟩)

end Go.Proofs.YtgkalcboklhdgaaGreatDoor

namespace Go.Proofs.YtgkalcboklhdgaaGreatDoor
open Go.RowKit Go.Shelf Go.Lib
set_option linter.unusedVariables false
set_option linter.unusedSimpArgs false

theorem ov_no (vb g o lb cb : Nat) (w : World) (hne : vb ≠ g) (a b c : Value) (hvb : w.heap[vb]? = some (.cells #[a, b, c] tBn (0, 0))) (cur : Array Value) (hg : w.heap[g]? = some (.cells cur tBn (0, 0))) (h0 : cur.size ≠ 0) :
    (callFunc 78 #[.slice (some ⟨vb, 0, none⟩) 1 1, .slice (some ⟨g, o, none⟩) lb cb]).run Tryz.prog w = .ok (.value (.bool false)) w := by
  rw [run_callFunc_extern Tryz.func78 (by kernel_rfl) (by kernel_rfl) (by kernel_rfl) (e := Extern.SlicesOverlaps.overlaps #[tBs, tBs] #[4]) (by kernel_rfl),
    Lib.run_overlaps_apart w tBs 4 tBn Tryz.underlying25 3 (fun w => by kernel_rfl) ⟨vb, 0, none⟩ ⟨g, o, none⟩ 1 1 lb cb hne tBn tBn 3 cur.size (by simp [World.shape?, hvb]) (by simp [World.shape?, hg]) h0 (free_of hvb) (free_of hvb)]
  rfl

set_option maxRecDepth 100000 in
set_option maxHeartbeats 4000000 in
theorem Insert_shift (out : List Bn) (b : Bn) (i base g cap : Nat) (w : World) (hi : i < out.length) (hl : out.length ≤ 1000) (hR : RowB base (.slice (some ⟨g, 0, none⟩) out.length cap) out w) (hroom : out.length + 1 ≤ cap) (vb : Nat) (hvb : w.heap[vb]? = some (.cells #[sV b.name, .int .i64 b.type, .int .i64 b.value] tBn (0, 0))) (hne : vb ≠ g) :
    Calls Tryz.prog 56 #[.slice (some ⟨g, 0, none⟩) out.length cap, .int .i64 i, .slice (some ⟨vb, 0, none⟩) 1 1] w fun e w' => ∃ v', e = .returned v' ∧ RowB base v' (out.take i ++ b :: out.drop i) w' ∧ Below base w w' := by
  obtain ⟨n, hn⟩ : ∃ n, out.length = n := ⟨_, rfl⟩
  obtain ⟨ys, hy, hyt⟩ := row_more hR (Nat.le_succ out.length) hroom
  have hyl : ys.length = (out.length + 1) * 3 := hy.1
  have hyti : ys.take (i * 3) = rowB (out.take i) := by
    have := congrArg (List.take (i * 3)) hyt
    rwa [List.take_take, Nat.min_eq_left (by omega), rowB_take] at this
  obtain ⟨cur, hg, hc0⟩ : ∃ cur : Array Value, w.heap[g]? = some (.cells cur tBn (0, 0)) ∧ cur.size ≠ 0 := by
    rcases hR.2 with ⟨e, _⟩ | ⟨g', cap', cur, e, _, hg, hn', _, hs, _⟩
    · cases e
    · cases e
      exact ⟨cur, hg, by rw [hs]; omega⟩
  have hov := fun (o lb cb : Nat) => ov_no vb g o lb cb w hne _ _ _ hvb cur hg hc0
  have hcell : ∀ k, k < (n + 1) * 3 → (w.cell? ⟨g, k, none⟩).isSome = true := fun k hk => by
    rw [World.ownsRow.cellAt hy k (by rw [hn]; exact hk), List.getElem?_eq_getElem (by rw [hyl, hn]; exact hk)]; rfl
  have hfz : ∀ k, w.frozen? ⟨g, k, none⟩ = false := fun k => World.ownsRow.frozenAt hR k
  have hdl : (rowB (out.drop i)).length = (n - i) * 3 := by rw [rowB_length, List.length_drop, hn]
  have hcp1 : ∀ ty dc sc, (Builtin.copy_ #[tBs, tBs] ty #[.slice (some ⟨g, (i + 1) * 3, none⟩) (n - i) dc, .slice (some ⟨g, i * 3, none⟩) (n + 1 - i) sc]).run Tryz.prog w.drew = .ok (goInt (Nat.min (n + 1 - i) (n - i))) (w.drew.setCells g ((i + 1) * 3) (rowB (out.drop i))) := fun ty dc sc =>
    run_copy_cellsK w.drew _ _ ty tBn 3 g ((i + 1) * 3) (n - i) dc ⟨g, i * 3, none⟩ (n + 1 - i) sc (rowB (out.drop i)) Tryz.underlying25 infoBn3 (by rw [hdl]; simp only [Nat.min_def]; split <;> omega)
      (fun j v hj => by
        rw [Addr.add_lit]
        have hj2 := (List.getElem?_eq_some_iff.1 hj).1
        rw [← rowB_drop, List.getElem?_drop] at hj
        rw [hdl] at hj2
        exact (World.ownsRow.cellAt hR (i * 3 + j) (by rw [hn]; omega)).trans hj)
      (fun j hj => by rw [hdl] at hj; exact hcell _ (by omega)) (fun j hj => hfz _) (rowB_one _)
  obtain ⟨W1, hW1⟩ : ∃ W1, W1 = w.drew.setCells g ((i + 1) * 3) (rowB (out.drop i)) := ⟨_, rfl⟩
  have hsp1 : ∀ k, k < (n + 1) * 3 → (W1.cell? ⟨g, k, none⟩).isSome = true := fun k hk => by
    rw [hW1]
    exact isSome_setCells g _ _ _ (fun j hj => by rw [hdl] at hj; exact hcell _ (by omega)) _ (hcell k hk)
  have hvbs : ∀ j u, (bc b)[j]? = some u → w.cell? ⟨vb, j, none⟩ = some u := by
    have h := rowB_at (w := w) (b := vb) (o := 0) (rs := [b]) (fun j hj => by
      have : j = 0 := by simpa using hj
      subst this
      exact ⟨cell_of hvb rfl, cell_of hvb rfl, cell_of hvb rfl⟩)
    intro j u hj
    have := h j u (by simpa [rowB] using hj)
    rwa [Addr.add_lit, Nat.zero_add] at this
  have hcp2 : ∀ (W : World), (∀ x, W.cell? x = W1.cell? x) → (∀ x, W.frozen? x = W1.frozen? x) → ∀ ty dc, (Builtin.copy_ #[tBs, tBs] ty #[.slice (some ⟨g, i * 3, none⟩) (n + 1 - i) dc, .slice (some ⟨vb, 0, none⟩) 1 1]).run Tryz.prog W = .ok (goInt (Nat.min 1 (n + 1 - i))) (W.setCells g (i * 3) (bc b)) := fun W hWc hWf ty dc =>
    run_copy_cellsK W _ _ ty tBn 3 g (i * 3) (n + 1 - i) dc ⟨vb, 0, none⟩ 1 1 (bc b) Tryz.underlying25 infoBn3 (by
        have : (bc b).length = 3 := rfl
        rw [this]; simp only [Nat.min_def]; split <;> omega)
      (fun j v hj => by
        rw [Addr.add_lit, Nat.zero_add, hWc, hW1, World.cell?_setCells_out g _ _ _ _ (fun h _ => absurd h hne)]
        exact hvbs j v hj)
      (fun j hj => by rw [hWc]; have : (bc b).length = 3 := rfl; rw [this] at hj; exact hsp1 _ (by omega)) (fun j hj => by rw [hWf, hW1, World.frozen?_setCells]; exact hfz _) (by have := rowB_one [b]; simpa [rowB] using this)
  rw [← hW1] at hcp1
  have hend : RowB base (.slice (some ⟨g, 0, none⟩) (n + 1) cap) (out.take i ++ b :: out.drop i) ((w.drew.setCells g ((i + 1) * 3) (rowB (out.drop i))).setCells g (i * 3) (bc b)) ∧ Below base w ((w.drew.setCells g ((i + 1) * 3) (rowB (out.drop i))).setCells g (i * 3) (bc b)) := by
    have hyd : w.drew.ownsRow base tBn 3 (.slice (some ⟨g, 0, none⟩) (out.length + 1) cap) (out.length + 1) ys := hy
    obtain ⟨a1, a2⟩ := row_spl (rowB (out.drop i)) ((i + 1) * 3) _ _ hyd
    obtain ⟨a3, a4⟩ := row_spl (bc b) (i * 3) _ _ a1
    rw [ins_cells out b i (by omega) ys hyl hyti] at a3
    refine ⟨?_, Below.trans (show Below base w w.drew from ⟨rfl, rfl, rfl, Nat.le_refl _, fun _ _ => rfl⟩) (Below.trans a2 a4)⟩
    have hll : (out.take i ++ b :: out.drop i).length = out.length + 1 := by simp; omega
    unfold RowB
    rw [hll, ← hn]
    exact a3
  have HEND := Lib.hid hend
  have hi' : i < n := by omega
  have hl' : n ≤ 1000 := by omega
  have hroom' : n + 1 ≤ cap := by omega
  have hcap63 : cap ≤ 9223372036854775807 := by
    rcases hR.2 with ⟨e, _⟩ | ⟨g', cap', cur, e, _, hg, hn', hm, hs, _⟩
    · cases e
    · cases e; unfold maxLen at hm; omega
  rw [hn]
  rw [← hW1] at HEND
  have HW1 := Lib.hid hW1
  clear hyt hyti hy hyl hcell hfz hR hvbs hsp1 hdl hend hW1 hg hi hl hroom hn
  have mixed : Tryz.prog.follows .mixedOrders = true := by kernel_rfl
  have hz2 : ¬ ((i : Int) = (n : Int)) := by omega
  have hw1 : IntKind.i64.wrap ((i : Int) + 1) = (i : Int) + 1 := by rw [IntKind.wrap_i64]; omega
  have hb1 : (0 : Int) ≤ (i : Int) + 1 := by omega
  have hin : i ≤ n := by omega
  have htn : ((i : Int) + 1).toNat = i + 1 := by omega
  have hb2 : ¬ (cap = i + 1) := by omega
  have hb3 : (i : Int) ≤ (n : Int) + 1 := by omega
  have hb4 : ¬ (cap = i) := by omega
  go_enter Tryz.func56, Tryz.ntmps56
  go_wp2_with (simp only [hov])
  go_region_law_o (refine step_copy_runI rfl _ _ tBs tBs rfl _ _ (by simp [Act.eval, Act.put]) (by simp [Act.eval, Act.put]) (hcp1 _ _ _) ?_)
  go_wp2_with (at_builtin; refine wpList_copy_runI _ rfl _ _ tBs tBs rfl _ _ rfl rfl (hcp2 _ (fun _ => rfl) (fun _ => rfl) _ _) ?_)
  go_ret
  exact ⟨_, rfl, HEND.out⟩

end Go.Proofs.YtgkalcboklhdgaaGreatDoor

namespace Go.Proofs.YtgkalcboklhdgaaGreatDoor
open Go.RowKit Go.Shelf Go.Lib
set_option linter.unusedVariables false
set_option linter.unusedSimpArgs false

abbrev zBn : Value := .agg #[sV [], .int .i64 0, .int .i64 0]
theorem zeroCells_size (n : Nat) : (Builtin.zeroCells zBn.cells n).size = n * 3 := by simp [Builtin.zeroCells, Value.cells]
theorem grow_row (base N G n i : Nat) (w : World) (xs : List Value) (hx : xs.length = i * 3) (hi : i ≤ n) (hG : n ≤ G) (hG63 : G ≤ maxLen) (hbase : base ≤ w.heap.size) (ROW : Array Value)
    (hROW : ROW = xs.toArray ++ Builtin.zeroCells zBn.cells (n - i) ++ Builtin.zeroCells zBn.cells (G - n)) :
    ROW.size = G * 3 ∧ ∃ ys, (w.alloc (.cells ROW tBn)).ownsRow base tBn 3 (.slice (some ⟨w.heap.size, 0, none⟩) n G) n ys ∧ ys.take (i * 3) = xs := by
  have hs : ROW.size = G * 3 := by
    rw [hROW]
    simp only [Array.size_append, zeroCells_size, List.size_toArray, hx]
    omega
  have hns : n * 3 ≤ G * 3 := Nat.mul_le_mul_right _ hG
  refine ⟨hs, ROW.toList.take (n * 3), ⟨by rw [List.length_take, Array.length_toList, hs, Nat.min_eq_left hns], .inr ⟨w.heap.size, G, ROW, rfl, hbase, alloc_here _ _, hG, hG63, hs, rfl⟩⟩, ?_⟩
  rw [List.take_take, Nat.min_eq_left (by omega), hROW]
  simp only [Array.toList_append]
  rw [List.append_assoc, List.take_append_of_le_length (by simp [hx]), List.take_of_length_le (by simp [hx])]

set_option maxRecDepth 100000 in
set_option maxHeartbeats 4000000 in
theorem Insert_grow (out : List Bn) (b : Bn) (i base g cap : Nat) (w : World) (hi : i < out.length) (hl : out.length ≤ 1000) (hR : RowB base (.slice (some ⟨g, 0, none⟩) out.length cap) out w) (hroom : cap < out.length + 1) (hbase : base ≤ w.heap.size) (vb : Nat) (hvb : w.heap[vb]? = some (.cells #[sV b.name, .int .i64 b.type, .int .i64 b.value] tBn (0, 0))) :
    Calls Tryz.prog 56 #[.slice (some ⟨g, 0, none⟩) out.length cap, .int .i64 i, .slice (some ⟨vb, 0, none⟩) 1 1] w fun e w' => ∃ v', e = .returned v' ∧ RowB base v' (out.take i ++ b :: out.drop i) w' ∧ Below base w w' := by
  obtain ⟨i0, hi0, hz0, hzs, hzb⟩ := info_parts infoBn
  obtain ⟨n, hn⟩ : ∃ n, out.length = n := ⟨_, rfl⟩
  have hnc : n ≤ cap := by
    rcases hR.2 with ⟨e, _⟩ | ⟨g', cap', cur, e, _, hg, hn', hm, hs, _⟩
    · cases e
    · cases e; omega
  have hgw := (World.ownsRow.lt hR g rfl).2
  have hvw := lt_of_block hvb
  have htl : (rowB (out.take i)).length = i * 3 := by rw [rowB_length, List.length_take]; omega
  have hdl : (rowB (out.drop i)).length = (n - i) * 3 := by rw [rowB_length, List.length_drop, hn]
  have hcs : ∀ j v, (rowB out)[j]? = some v → w.cell? ⟨g, j, none⟩ = some v := fun j v hj => by
    have hj2 := (List.getElem?_eq_some_iff.1 hj).1
    rw [rowB_length] at hj2
    exact (World.ownsRow.cellAt hR j hj2).trans hj
  have hkk : (n : Int) + 1 - (i : Int) = ((n + 1 - i : Nat) : Int) := by omega
  have hik : i + (n + 1 - i) = n + 1 := by omega
  have hold : (Builtin.firstCells i0.size i (.slice (some ⟨g, 0, none⟩) i cap)).run Tryz.prog w.drew = .ok (rowB (out.take i)).toArray w.drew := by
    rw [hzs]
    exact run_firstCells_some w.drew 3 i ⟨g, 0, none⟩ i cap (rowB (out.take i)) htl (fun j v hj => by
      rw [Addr.add_lit, Nat.zero_add]
      rw [← rowB_take, List.getElem?_take] at hj
      split at hj
      · exact hcs j v hj
      · cases hj)
  have hrz : ∀ ty, (Builtin.append_ #[tBs, 3] ty #[.slice (some ⟨g, 0, none⟩) i cap, .int .i64 ((n : Int) + 1 - (i : Int))]).run Tryz.prog w =
      .ok (.slice (some ⟨w.heap.size, 0, none⟩) (n + 1) (grownCap w (n + 1) cap tBn)) (w.drew.alloc (.cells ((rowB (out.take i)).toArray ++ Builtin.zeroCells zBn.cells (n + 1 - i) ++ Builtin.zeroCells zBn.cells (grownCap w (n + 1) cap tBn - (n + 1))) tBn)) := fun ty => by
    have h := Lib.run_append_grow_zeros w tBs 3 ty tBn i0 _ .i64 .i64 Tryz.underlying25 Tryz.underlying3 hi0 hz0 (some ⟨g, 0, none⟩) i cap (rowB (out.take i)) hold (n + 1 - i) (by omega) (by omega) (by omega) (by omega) (by rw [hzb]; omega) (by rw [hzb, hik]; exact growslice_fits (by omega) (by omega))
    rw [hik] at h
    rw [hkk]
    exact h
  obtain ⟨G, hG⟩ : ∃ G, G = grownCap w (n + 1) cap tBn := ⟨_, rfl⟩
  have hGn : n + 1 ≤ G := by rw [hG]; exact grownCap_ge w _ _ _
  have hGM : G ≤ maxLen := by rw [hG]; exact grownCap_le_maxLen w (n + 1) cap tBn (by unfold maxLen; omega)
  obtain ⟨ROW, hROW⟩ : ∃ ROW : Array Value, ROW = (rowB (out.take i)).toArray ++ Builtin.zeroCells zBn.cells (n + 1 - i) ++ Builtin.zeroCells zBn.cells (G - (n + 1)) := ⟨_, rfl⟩
  rw [← hG] at hrz
  rw [← hROW] at hrz
  obtain ⟨hRs, ys, hy, hyt⟩ := grow_row base w.heap.size G (n + 1) i w (rowB (out.take i)) htl (by omega) hGn hGM hbase ROW hROW
  obtain ⟨W1, hW1⟩ : ∃ W1, W1 = w.drew.alloc (.cells ROW tBn) := ⟨_, rfl⟩
  rw [← hW1] at hrz
  have hN : ∀ j, j < (n + 1) * 3 → (W1.cell? ⟨w.heap.size, j, none⟩).isSome = true := fun j hj => by
    rw [hW1, World.cell?_alloc_at (w := w.drew) ROW _ w.heap.size j rfl, Array.getElem?_eq_getElem (by omega)]; rfl
  have hNf : ∀ j, W1.frozen? ⟨w.heap.size, j, none⟩ = false := fun j => by rw [hW1]; exact World.frozen?_alloc_at (w := w.drew) ROW _ w.heap.size j rfl
  have hOb : ∀ j v, w.cell? ⟨g, j, none⟩ = some v → W1.cell? ⟨g, j, none⟩ = some v := fun j v h => by rw [hW1, World.cell?_alloc_past (w := w.drew) _ g j hgw]; exact h
  have hOv : ∀ j v, w.cell? ⟨vb, j, none⟩ = some v → W1.cell? ⟨vb, j, none⟩ = some v := fun j v h => by rw [hW1, World.cell?_alloc_past (w := w.drew) _ vb j hvw]; exact h
  have hb3' : (bc b).length = 3 := rfl
  have hvbs : ∀ j u, (bc b)[j]? = some u → w.cell? ⟨vb, j, none⟩ = some u := by
    have h := rowB_at (w := w) (b := vb) (o := 0) (rs := [b]) (fun j hj => by
      have : j = 0 := by simpa using hj
      subst this
      exact ⟨cell_of hvb rfl, cell_of hvb rfl, cell_of hvb rfl⟩)
    intro j u hj
    have := h j u (by simpa [rowB] using hj)
    rwa [Addr.add_lit, Nat.zero_add] at this
  have hcpA : ∀ (W : World), (∀ x, W.cell? x = W1.cell? x) → (∀ x, W.frozen? x = W1.frozen? x) → ∀ ty dc, (Builtin.copy_ #[tBs, tBs] ty #[.slice (some ⟨w.heap.size, i * 3, none⟩) (n + 1 - i) dc, .slice (some ⟨vb, 0, none⟩) 1 1]).run Tryz.prog W = .ok (goInt (Nat.min 1 (n + 1 - i))) (W.setCells w.heap.size (i * 3) (bc b)) := fun W hWc hWf ty dc =>
    run_copy_cellsK W _ _ ty tBn 3 w.heap.size (i * 3) (n + 1 - i) dc ⟨vb, 0, none⟩ 1 1 (bc b) Tryz.underlying25 infoBn3 (by rw [hb3']; simp only [Nat.min_def]; split <;> omega)
      (fun j v hj => by rw [Addr.add_lit, Nat.zero_add, hWc]; exact hOv _ v (hvbs j v hj))
      (fun j hj => by rw [hWc]; rw [hb3'] at hj; exact hN _ (by omega)) (fun j hj => by rw [hWf]; exact hNf _) (by have := rowB_one [b]; simpa [rowB] using this)
  have hgN : g ≠ w.heap.size := by omega
  have hcpB : ∀ (W : World), (∀ x, W.cell? x = (W1.setCells w.heap.size (i * 3) (bc b)).cell? x) → (∀ x, W.frozen? x = (W1.setCells w.heap.size (i * 3) (bc b)).frozen? x) → ∀ ty dc sc, (Builtin.copy_ #[tBs, tBs] ty #[.slice (some ⟨w.heap.size, (i + 1) * 3, none⟩) (n - i) dc, .slice (some ⟨g, i * 3, none⟩) (n - i) sc]).run Tryz.prog W = .ok (goInt (Nat.min (n - i) (n - i))) (W.setCells w.heap.size ((i + 1) * 3) (rowB (out.drop i))) := fun W hWc hWf ty dc sc =>
    run_copy_cellsK W _ _ ty tBn 3 w.heap.size ((i + 1) * 3) (n - i) dc ⟨g, i * 3, none⟩ (n - i) sc (rowB (out.drop i)) Tryz.underlying25 infoBn3 (by rw [hdl]; simp only [Nat.min_def]; split <;> omega)
      (fun j v hj => by
        rw [Addr.add_lit, hWc, World.cell?_setCells_out _ _ _ _ _ (fun h _ => absurd h hgN)]
        rw [← rowB_drop, List.getElem?_drop] at hj
        exact hOb _ v (hcs _ v hj))
      (fun j hj => by rw [hWc]; rw [hdl] at hj; exact isSome_setCells _ _ _ _ (fun t ht => by rw [hb3'] at ht; exact hN _ (by omega)) _ (hN _ (by omega)))
      (fun j hj => by rw [hWf, World.frozen?_setCells]; exact hNf _) (rowB_one _)
  have hend : RowB base (.slice (some ⟨w.heap.size, 0, none⟩) (n + 1) G) (out.take i ++ b :: out.drop i) ((((w.alloc (.cells ROW tBn)).drew.setCells w.heap.size (i * 3) (bc b)).drew).setCells w.heap.size ((i + 1) * 3) (rowB (out.drop i))) ∧ Below base w ((((w.alloc (.cells ROW tBn)).drew.setCells w.heap.size (i * 3) (bc b)).drew).setCells w.heap.size ((i + 1) * 3) (rowB (out.drop i))) := by
    have hyd : (w.alloc (.cells ROW tBn)).drew.ownsRow base tBn 3 (.slice (some ⟨w.heap.size, 0, none⟩) (n + 1) G) (n + 1) ys := hy
    obtain ⟨a1, a2⟩ := row_spl (bc b) (i * 3) _ _ hyd
    have a1' : ((w.alloc (.cells ROW tBn)).drew.setCells w.heap.size (i * 3) (bc b)).drew.ownsRow base tBn 3 (.slice (some ⟨w.heap.size, 0, none⟩) (n + 1) G) (n + 1) _ := a1
    obtain ⟨a3, a4⟩ := row_spl (rowB (out.drop i)) ((i + 1) * 3) _ _ a1'
    have hyl : ys.length = (out.length + 1) * 3 := by rw [hn]; exact hy.1
    rw [ins_cells2 out b i (by omega) ys hyl hyt] at a3
    have d0 : ∀ W : World, Below base W W.drew := fun W => ⟨rfl, rfl, rfl, Nat.le_refl _, fun _ _ => rfl⟩
    refine ⟨?_, Below.trans ((Below.refl base w).alloc hbase _) (Below.trans (d0 _) (Below.trans a2 (Below.trans (d0 _) a4)))⟩
    have hll : (out.take i ++ b :: out.drop i).length = n + 1 := by simp; omega
    unfold RowB
    rw [hll]
    exact a3
  have HEND := Lib.hid hend
  have hi' : i < n := by omega
  have hl' : n ≤ 1000 := by omega
  have hroom' : cap < n + 1 := by omega
  have hG63 : G ≤ 9223372036854775807 := by unfold maxLen at hGM; omega
  rw [hn]
  subst hW1
  have hE1 : ∀ x, ((w.alloc (.cells ROW tBn)).drew).cell? x = (w.drew.alloc (.cells ROW tBn)).cell? x := fun x => rfl
  have hE2 : ∀ x, ((w.alloc (.cells ROW tBn)).drew).frozen? x = (w.drew.alloc (.cells ROW tBn)).frozen? x := fun x => rfl
  have hF1 : ∀ x, (((w.alloc (.cells ROW tBn)).drew.setCells w.heap.size (i * 3) (bc b)).drew).cell? x = ((w.drew.alloc (.cells ROW tBn)).setCells w.heap.size (i * 3) (bc b)).cell? x := fun x => rfl
  have hF2 : ∀ x, (((w.alloc (.cells ROW tBn)).drew.setCells w.heap.size (i * 3) (bc b)).drew).frozen? x = ((w.drew.alloc (.cells ROW tBn)).setCells w.heap.size (i * 3) (bc b)).frozen? x := fun x => rfl
  clear hkk hik hold hROW hG hRs hy hyt hend hcs hOb hOv hvbs hN hNf hR htl hdl hi hl hroom hn hGM
  have mixed : Tryz.prog.follows .mixedOrders = true := by kernel_rfl
  have hz2 : ¬ ((i : Int) = (n : Int)) := by omega
  have hz3 : (cap : Int) < (n : Int) + 1 := by omega
  have hw1 : IntKind.i64.wrap ((i : Int) + 1) = (i : Int) + 1 := by rw [IntKind.wrap_i64]; omega
  have hb1 : (0 : Int) ≤ (i : Int) + 1 := by omega
  have hin : i ≤ n := by omega
  have htn : ((i : Int) + 1).toNat = i + 1 := by omega
  have hGi : ¬ (G = i) := by omega
  have hGim : ¬ (G = i + 1) := by omega
  have hci : ¬ (cap = i) := by omega
  have hb3 : (i : Int) ≤ (n : Int) := by omega
  go_enter Tryz.func56, Tryz.ntmps56
  go_wp2_with (first
    | (at_builtin; refine Lib.wpList_append_run _ rfl _ _ _ _ rfl _ _ rfl rfl _ _ (hrz _) ?_)
    | (at_builtin; refine wpList_copy_runI _ rfl _ _ tBs tBs rfl _ _ rfl rfl (hcpA _ hE1 hE2 _ _) ?_)
    | (at_builtin; refine wpList_copy_runI _ rfl _ _ tBs tBs rfl _ _ rfl rfl (hcpB _ (fun _ => rfl) (fun _ => rfl) _ _ _) ?_))
  go_region_law_o (refine step_copy_runI rfl _ _ tBs tBs rfl (.slice (some ⟨w.heap.size, (i + 1) * 3, none⟩) (n - i) (G - (i + 1))) (.slice (some ⟨g, i * 3, none⟩) (n - i) (cap - i)) (by simp [Act.eval, Act.put]) (by simp [Act.eval, Act.put]) (hcpB _ hF1 hF2 3 (G - (i + 1)) (cap - i)) ?_)
  go_wp2
  go_ret
  exact ⟨_, rfl, HEND.out⟩

/-- slices.Insert of one binding -/
theorem Insert_any (out : List Bn) (b : Bn) (i base : Nat) (v : Value) (w : World) (hi : i ≤ out.length) (hl : out.length ≤ 1000) (hR : RowB base v out w) (hbase : base ≤ w.heap.size) (vb : Nat) (hvb : w.heap[vb]? = some (.cells #[sV b.name, .int .i64 b.type, .int .i64 b.value] tBn (0, 0))) (hne : some vb ≠ v.ownBlock) :
    Calls Tryz.prog 56 #[v, .int .i64 i, .slice (some ⟨vb, 0, none⟩) 1 1] w fun e w' => ∃ v', e = .returned v' ∧ RowB base v' (out.take i ++ b :: out.drop i) w' ∧ Below base w w' := by
  by_cases h : i = out.length
  · subst h
    rw [List.take_length, List.drop_length]
    exact Insert_end out b base v w hl hR hbase vb hvb
  · rcases hR.forms with ⟨_, e⟩ | ⟨g, cap, rfl, hg1, hg2⟩
    · rw [e] at hi h; simp at hi h; exact absurd hi h
    · by_cases hc : out.length + 1 ≤ cap
      · exact Insert_shift out b i base g cap w (by omega) hl hR hc vb hvb (fun e => hne (by rw [e]; rfl))
      · exact Insert_grow out b i base g cap w (by omega) hl hR (by omega) hbase vb hvb

end Go.Proofs.YtgkalcboklhdgaaGreatDoor

namespace Go.Proofs.YtgkalcboklhdgaaGreatDoor
set_option linter.unusedVariables false
set_option linter.unusedSimpArgs false
open Ex

/-- the bindings with b -/
def insB : List Bn → Bn → List Bn
  | [], b => [b]
  | x :: out, b => if Op.bytesLess x.name b.name = true then x :: insB out b else b :: x :: out
theorem insB_at : ∀ (out : List Bn) (b : Bn) (i : Nat), i ≤ out.length → (∀ j (h : j < out.length), j < i → Op.bytesLess out[j].name b.name = true) → (∀ h : i < out.length, Op.bytesLess out[i].name b.name = false) → insB out b = out.take i ++ b :: out.drop i
  | [], b, i, hi, _, _ => by
    have : i = 0 := by simpa using hi
    subst this; rfl
  | x :: out, b, 0, _, _, h2 => by
    have := h2 (by simp)
    simp only [List.getElem_cons_zero] at this
    unfold insB
    rw [if_neg (by simp [this])]; rfl
  | x :: out, b, i + 1, hi, h1, h2 => by
    have h3 := h1 0 (by simp) (by omega)
    simp only [List.getElem_cons_zero] at h3
    unfold insB
    rw [if_pos h3, insB_at out b i (by simpa using hi) (fun j hj hji => h1 (j + 1) (by simpa using hj) (by omega)) (fun h => h2 (by simpa using h))]
    rfl
def bdB (bs : List Bn) (b : Bn) : List Bn := insB (delB bs b.name) b
theorem insB_find_new (out : List Bn) (b : Bn) (h : ∀ x ∈ out, isN b.name x = false) : (insB out b).find? (isN b.name) = some b := by
  induction out with
  | nil => simp [insB, isN]
  | cons x out ih =>
    by_cases hx : Op.bytesLess x.name b.name = true
    · rw [insB, if_pos hx, List.find?_cons_of_neg (by simp [h x (by simp)])]
      exact ih (fun y hy => h y (List.mem_cons_of_mem _ hy))
    · rw [insB, if_neg hx, List.find?_cons_of_pos (by simp [isN])]
theorem insB_find_old (out : List Bn) (b : Bn) (m : List UInt8) (h : m ≠ b.name) : (insB out b).find? (isN m) = out.find? (isN m) := by
  have hb : ¬ isN m b = true := by unfold isN; simp only [beq_iff_eq]; exact fun e => h e.symm
  induction out with
  | nil => rw [insB, List.find?_cons_of_neg hb]
  | cons x out ih =>
    by_cases hx : Op.bytesLess x.name b.name = true
    · rw [insB, if_pos hx]
      cases hm : isN m x with
      | true => rw [List.find?_cons_of_pos hm, List.find?_cons_of_pos hm]
      | false => rw [List.find?_cons_of_neg (by simp [hm]), List.find?_cons_of_neg (by simp [hm])]; exact ih
    · rw [insB, if_neg hx, List.find?_cons_of_neg hb]
theorem del_no (bs : List Bn) (n : List UInt8) : ∀ x ∈ delB bs n, isN n x = false := by
  intro x hx
  have := (List.mem_filter.1 hx).2
  simpa using this
theorem bd_find (bs : List Bn) (b : Bn) (m : List UInt8) : (bdB bs b).find? (isN m) = if m = b.name then some b else bs.find? (isN m) := by
  unfold bdB
  by_cases h : m = b.name
  · rw [if_pos h, h, insB_find_new _ _ (del_no bs b.name)]
  · rw [if_neg h, insB_find_old _ _ _ h, del_find, if_neg h]
theorem ok_with {p q : Option (List UInt8)} {b : Bn} (h : b.ok p = true) (hq : prevLt q b.name = true) : b.ok q = true := by
  unfold Bn.ok at h ⊢
  simp only [Bool.and_eq_true] at h ⊢
  obtain ⟨⟨⟨h1, h2⟩, h3⟩, h4⟩ := h
  exact ⟨⟨⟨h1, hq⟩, h3⟩, h4⟩
theorem insB_ok (b : Bn) (hb : b.ok none = true) : ∀ (out : List Bn) (p : Option (List UInt8)), bnsOk p out = true → (∀ x ∈ out, isN b.name x = false) → prevLt p b.name = true → bnsOk p (insB out b) = true
  | [], p, _, _, hp => by
    show bnsOk p [b] = true
    simp only [bnsOk, Bool.and_true]
    exact ok_with hb hp
  | x :: out, p, h, hn, hp => by
    simp only [bnsOk, Bool.and_eq_true] at h
    obtain ⟨h1, h2⟩ := h
    by_cases hx : Op.bytesLess x.name b.name = true
    · rw [insB, if_pos hx]
      simp only [bnsOk, Bool.and_eq_true]
      exact ⟨h1, insB_ok b hb out _ h2 (fun y hy => hn y (List.mem_cons_of_mem _ hy)) hx⟩
    · rw [insB, if_neg hx]
      simp only [bnsOk, Bool.and_eq_true]
      refine ⟨ok_with hb hp, ok_with h1 ?_, h2⟩
      show Op.bytesLess b.name x.name = true
      have h3 := hn x (by simp)
      unfold isN at h3
      simp only [beq_eq_false_iff_ne, ne_eq] at h3
      rw [less_iff] at hx ⊢
      rcases List.le_total x.name b.name with g | g
      · refine Classical.byContradiction fun hc => ?_
        exact h3 (List.le_antisymm g (show b.name ≤ x.name from hx))
      · refine Classical.byContradiction fun hc => ?_
        exact h3 (List.le_antisymm (show x.name ≤ b.name from hc) g)
theorem insB_length : ∀ (out : List Bn) (b : Bn), (insB out b).length = out.length + 1
  | [], b => rfl
  | x :: out, b => by
    rw [insB]
    split
    · simp [insB_length out b]
    · simp
theorem bnds_bd {bs : List Bn} (h : bnds bs = true) (hl : bs.length ≤ 40) (b : Bn) (hb : b.ok none = true) : bnds (bdB bs b) = true := by
  have h2 := bnds_del h b.name
  unfold bnds at h2 ⊢
  simp only [Bool.and_eq_true, decide_eq_true_eq] at h2 ⊢
  refine ⟨insB_ok b hb _ _ h2.1 (del_no bs b.name) rfl, ?_⟩
  have := List.length_filter_le (fun x => !isN b.name x) bs
  unfold bdB
  rw [insB_length]
  unfold delB
  omega

mutual
theorem sub_law (bs : List Bn) (b : Bn) (r : Ex) (ht : r.ty bs = (b.type, 0)) (hv : r.ev bs = (b.value, 0)) : ∀ e : Ex, e.fe = 0 → (mp (subOne b.name r) e).ty bs = e.ty (bdB bs b) ∧ (mp (subOne b.name r) e).ev bs = e.ev (bdB bs b)
  | .mk k o m v ts, hf => by
    obtain ⟨hpc, hfes⟩ := fe_mk hf
    by_cases hk : k = 2
    · subst hk
      obtain rfl : ts = [] := by
        rcases pc_zero hpc with ⟨h0, _⟩ | ⟨_, _, _, hm, _⟩ | ⟨h0, _⟩ | ⟨h0, _⟩
        · cases h0
        · exact List.eq_nil_of_length_eq_zero hm
        · cases h0
        · cases h0
      have e1 : ∀ cs, (Ex.mk 2 o m v []).ty cs = if (cs.find? (isN m)).isSome then ((((cs.find? (isN m)).getD bZero)).type, 0) else (0, 7) := fun cs => by simp [Ex.ty, Ex.tys, tyN, fdIs, fdB]
      have e2 : ∀ cs, (Ex.mk 2 o m v []).ev cs = ((((cs.find? (isN m)).getD bZero)).value, 0) := fun cs => by simp [Ex.ev, Ex.evs, evN, fdB]
      by_cases hm : m = b.name
      · have hs : mp (subOne b.name r) (.mk 2 o m v []) = r := by simp [mp, subOne, Ex.kind, Ex.name, hm]
        rw [hs, e1, e2, bd_find, if_pos hm]
        exact ⟨by rw [ht]; rfl, by rw [hv]; rfl⟩
      · have hs : mp (subOne b.name r) (.mk 2 o m v []) = .mk 2 o m v [] := by simp [mp, mps, subOne, Ex.kind, Ex.name, hm]
        rw [hs, e1, e2, e1, e2, bd_find, if_neg hm]
        exact ⟨rfl, rfl⟩
    · have hs : mp (subOne b.name r) (.mk k o m v ts) = .mk k o m v (mps (subOne b.name r) ts) := by simp [mp, subOne, Ex.kind, hk]
      obtain ⟨h1, h2⟩ := subs_law bs b r ht hv ts hfes
      rw [hs]
      simp only [Ex.ty, Ex.ev, h1, h2]
      have e1 : ∀ l, tyN bs k o m l = tyN (bdB bs b) k o m l := fun l => by unfold tyN; simp only [if_neg hk]
      have e2 : ∀ l, evN bs k o m v l = evN (bdB bs b) k o m v l := fun l => by unfold evN; simp only [if_neg hk]
      rw [e1, e2]
      exact ⟨rfl, rfl⟩
theorem subs_law (bs : List Bn) (b : Bn) (r : Ex) (ht : r.ty bs = (b.type, 0)) (hv : r.ev bs = (b.value, 0)) : ∀ ts : List Ex, fes ts = 0 → Ex.tys bs (mps (subOne b.name r) ts) = Ex.tys (bdB bs b) ts ∧ Ex.evs bs (mps (subOne b.name r) ts) = Ex.evs (bdB bs b) ts
  | [], _ => ⟨rfl, rfl⟩
  | t :: ts, hf => by
    simp only [Ex.fes] at hf
    have hft : t.fe = 0 := by
      by_cases h0 : t.fe = 0
      · exact h0
      · rw [if_pos h0] at hf; exact absurd hf h0
    rw [if_neg (by simp [hft])] at hf
    obtain ⟨h1, h2⟩ := sub_law bs b r ht hv t hft
    obtain ⟨h3, h4⟩ := subs_law bs b r ht hv ts hf
    simp only [mps, Ex.tys, Ex.evs, h1, h2, h3, h4]
    exact ⟨trivial, trivial⟩
end
mutual
theorem sub_fe (m : List UInt8) (r : Ex) (hr : r.fe = 0) : ∀ e : Ex, e.fe = 0 → (mp (subOne m r) e).fe = 0
  | .mk k o n v ts, hf => by
    obtain ⟨hpc, hfes⟩ := fe_mk hf
    by_cases hk : k = 2 ∧ n = m
    · have hs : mp (subOne m r) (.mk k o n v ts) = r := by simp [mp, subOne, Ex.kind, Ex.name, hk.1, hk.2]
      rw [hs]; exact hr
    · have hs : mp (subOne m r) (.mk k o n v ts) = .mk k o n v (mps (subOne m r) ts) := by
        have h0 : subOne m r (.mk k o n v ts) = none := if_neg hk
        simp only [mp, h0]
      rw [hs]
      have hl : (mps (subOne m r) ts).length = ts.length := by rw [mps_map]; simp
      simp only [Ex.fe]
      rw [hl, if_neg (by simp [hpc])]
      exact subs_fe m r hr ts hfes
theorem subs_fe (m : List UInt8) (r : Ex) (hr : r.fe = 0) : ∀ ts : List Ex, fes ts = 0 → fes (mps (subOne m r) ts) = 0
  | [], _ => rfl
  | t :: ts, hf => by
    simp only [Ex.fes] at hf
    have hft : t.fe = 0 := by
      by_cases h0 : t.fe = 0
      · exact h0
      · rw [if_pos h0] at hf; exact absurd hf h0
    rw [if_neg (by simp [hft])] at hf
    simp only [mps, Ex.fes]
    rw [if_neg (by simp [sub_fe m r hr t hft])]
    exact subs_fe m r hr ts hf
end
mutual
theorem nm_ok : ∀ e : Ex, e.fe = 0 → ∀ n ∈ nmE e, isNm n = true
  | .mk k o m v ts, hf => by
    obtain ⟨hpc, hfes⟩ := fe_mk hf
    intro n hn
    by_cases hk : k = 2
    · have e : nmE (.mk k o m v ts) = [m] := by simp only [nmE]; exact if_pos hk
      rw [e] at hn
      obtain rfl := List.mem_singleton.1 hn
      rcases pc_zero hpc with ⟨h0, _⟩ | ⟨_, _, _, _, h⟩ | ⟨h0, _⟩ | ⟨h0, _⟩
      · omega
      · exact h
      · omega
      · omega
    · have e : nmE (.mk k o m v ts) = nmL ts := by simp only [nmE]; exact if_neg hk
      rw [e] at hn
      exact nms_ok ts hfes n hn
theorem nms_ok : ∀ ts : List Ex, fes ts = 0 → ∀ n ∈ nmL ts, isNm n = true
  | [], _ => fun n h => by simp [nmL] at h
  | t :: ts, hf => by
    simp only [Ex.fes] at hf
    have hft : t.fe = 0 := by
      by_cases h0 : t.fe = 0
      · exact h0
      · rw [if_pos h0] at hf; exact absurd hf h0
    rw [if_neg (by simp [hft])] at hf
    intro n hn
    simp only [nmL, List.mem_append] at hn
    rcases hn with h | h
    · exact nm_ok t hft n h
    · exact nms_ok ts hf n h
end
/-- the law -/
theorem subst_all {bs : List Bn} {e r : Ex} {n : List UInt8} {t v : Int} (hl : bs.length ≤ 40) (ht : tyR bs r = (t, 0)) (hv : evR bs r = (v, 0)) (hn : n ∈ nmR e) :
    ((sbR e n r).2 ≠ 0 → (sbR e n r).2 = 4 ∨ (sbR e n r).2 = 22) ∧
    ((sbR e n r).2 = 0 → tyR bs (sbR e n r).1 = tyR (bdB bs ⟨n, t, v⟩) e ∧ evR bs (sbR e n r).1 = evR (bdB bs ⟨n, t, v⟩) e) := by
  obtain ⟨h1, h2, h3⟩ := tyR_zero (by rw [ht])
  rw [h3] at ht
  have hv2 : r.ev bs = (v, 0) := by
    unfold evR at hv
    rw [if_neg (by rw [h3, ht]; simp)] at hv
    exact hv
  have he : e.chk = 0 := by
    unfold nmR at hn
    by_cases h : e.chk ≠ 0
    · rw [if_pos h] at hn; cases hn
    · exact Classical.not_not.1 h
  have hne : n ∈ nmE e := by
    unfold nmR at hn
    rw [if_neg (by simp [he])] at hn
    rcases ((fold_spec (nmE e) [] (by simp)).2 n).1 hn with h | h
    · exact h
    · cases h
  have hfe := (chk_zero he).2.2
  have hfr := (chk_zero h1).2.2
  have hnm := nm_ok e hfe n hne
  have hfs := sub_fe n r hfr e hfe
  obtain ⟨g1, g2⟩ := ev_sound h2 r.size r (Nat.le_refl _) hfr t ht
  obtain ⟨g2, g3⟩ := g2 v hv2
  have hbok : Bn.ok none ⟨n, t, v⟩ = true := by
    unfold Bn.ok
    simp only [hnm, Bool.and_true, Bool.true_and, Bool.and_eq_true, decide_eq_true_eq]
    refine ⟨g1, ?_⟩
    split
    · rename_i h; simpa using g3 h
    · simpa using g2
  have hbd := bnds_bd h2 hl ⟨n, t, v⟩ hbok
  obtain ⟨s1, s2⟩ := sub_law bs ⟨n, t, v⟩ r ht hv2 e hfe
  have hs : sbR e n r = if (mp (subOne n r) e).chk ≠ 0 then (exZ, (mp (subOne n r) e).chk) else (mp (subOne n r) e, 0) := by
    unfold sbR
    rw [if_neg (by simp [he, h1]), if_neg (by simp [hnm])]
  rw [hs]
  by_cases hc : (mp (subOne n r) e).chk ≠ 0
  · rw [if_pos hc]
    refine ⟨fun _ => ?_, fun h => absurd h hc⟩
    unfold Ex.chk at hc ⊢
    show (if 100 < (mp (subOne n r) e).size then (4 : Int) else if 12 < (mp (subOne n r) e).height then 22 else (mp (subOne n r) e).fe) = 4 ∨ _ = _
    by_cases c1 : 100 < (mp (subOne n r) e).size
    · rw [if_pos c1]; exact .inl rfl
    · rw [if_neg c1] at hc ⊢
      by_cases c2 : 12 < (mp (subOne n r) e).height
      · rw [if_pos c2]; exact .inr rfl
      · rw [if_neg c2, hfs] at hc; exact absurd rfl hc
  · rw [if_neg hc]
    refine ⟨fun h => absurd rfl h, fun _ => ?_⟩
    have hc0 := Classical.not_not.1 hc
    have t1 : tyR bs (mp (subOne n r) e) = (mp (subOne n r) e).ty bs := by unfold tyR; rw [if_neg hc, if_pos h2]
    have t2 : tyR (bdB bs ⟨n, t, v⟩) e = e.ty (bdB bs ⟨n, t, v⟩) := by unfold tyR; rw [if_neg (by simp [he]), if_pos hbd]
    have t3 : tyR bs (mp (subOne n r) e) = tyR (bdB bs ⟨n, t, v⟩) e := by rw [t1, t2]; exact s1
    refine ⟨t3, ?_⟩
    unfold evR
    rw [t3, s2]

end Go.Proofs.YtgkalcboklhdgaaGreatDoor

namespace Go.Proofs.YtgkalcboklhdgaaGreatDoor
open Go.RowKit
set_option linter.unusedVariables false
set_option linter.unusedSimpArgs false

theorem RowB.le {base base' : Nat} {v : Value} {l : List Bn} {w : World} (h : RowB base v l w) (hb : base' ≤ base) : RowB base' v l w := by
  obtain ⟨h1, h2⟩ := h
  refine ⟨h1, ?_⟩
  rcases h2 with h0 | ⟨g, cap, cur, hv, hbg, hrest⟩
  · exact .inl h0
  · exact .inr ⟨g, cap, cur, hv, Nat.le_trans hb hbg, hrest⟩
theorem Calls_arg {P : Program} {f : FuncId} {args args' : Array Value} {w : World} {Q : Ending → World → Prop} (h : Calls P f args w Q) (e : args = args') : Calls P f args' w Q := e ▸ h
theorem RowB.form2 {base : Nat} {v : Value} {rs : List Bn} {w : World} (h : RowB base v rs w) : ∃ x cc, v = .slice x rs.length cc ∧ ∀ W, RowB base (.slice x rs.length cc) rs W → ∀ k (h : k < rs.length), ∃ g, x = some ⟨g, 0, none⟩ ∧ g < W.heap.size ∧ Bn.cells W g (k * 3) rs[k] := by
  rcases h.forms with ⟨rfl, rfl⟩ | ⟨g, cap, rfl, _⟩
  · exact ⟨none, 0, rfl, fun W _ k h => by simp at h⟩
  · exact ⟨_, _, rfl, fun W h k hk => ⟨g, rfl, (World.ownsRow.lt h g rfl).2, h.cells k hk⟩⟩
section
variable {ops : Array Oper} {rest : List Oper} {o : Oper} {a : Act} {Q : Exit → Act → World → Prop}
theorem wp_appB (hgd : o.guard = none) (s x : Operand) (ho : o.op = .call { callee := .builtin .append, args := #[s, x], argTypes := #[25, 25] })
    (base : Nat) (v : Value) (l : List Bn) (hs : a.eval s = v) (W : World) (h : RowB base v l W) (nm : List UInt8) (ty y : Int) (k : Nat) (hx : a.eval x = .slice (some ⟨k, 0, none⟩) 1 1) (hk : k = W.heap.size) (hlen : l.length ≤ 1000000) (hbase : base ≤ W.heap.size)
    (hK : ∀ v' w', RowB base v' (l ++ [⟨nm, ty, y⟩]) w' → Below base W w' → wpList Tryz.prog ops Q rest (a.put o.dst v') w') : wpList Tryz.prog ops Q (o :: rest) a (W.alloc (.cells #[sV nm, .int .i64 ty, .int .i64 y] tBn)) := by
  subst hk
  obtain ⟨i0, hi, hz0, hz1, hz2⟩ := info_parts infoBn
  have hsrc : ∀ j u, (bc ⟨nm, ty, y⟩)[j]? = some u → (W.alloc (.cells #[sV nm, .int .i64 ty, .int .i64 y] tBn)).cell? ((⟨W.heap.size, 0, none⟩ : Addr).add j) = some u := by
    have h := rowB_at (w := W.alloc (.cells #[sV nm, .int .i64 ty, .int .i64 y] tBn)) (b := W.heap.size) (o := 0) (rs := [⟨nm, ty, y⟩]) (fun j hj => by
      have : j = 0 := by simpa using hj
      subst this
      exact ⟨cell_of (alloc_here _ _) rfl, cell_of (alloc_here _ _) rfl, cell_of (alloc_here _ _) rfl⟩)
    simpa [rowB] using h
  refine wpList_append_own _ hgd s x 25 ho base tBn i0 (.agg #[sV [], .int .i64 0, .int .i64 0]) 3 32 Tryz.underlying25 hi hz0 hz1 hz2 rfl (by decide) v l.length (rowB l) hs (World.ownsRow.alloc h _) ⟨W.heap.size, 0, none⟩ 1 1 (bc ⟨nm, ty, y⟩) hx rfl hsrc (by have := rowB_one [⟨nm, ty, y⟩]; simpa [rowB] using this) (by unfold maxLen; omega) (by omega) (by simp <;> omega) ?_
  intro v' w' hown hg _
  refine hK v' w' ?_ ?_
  · unfold RowB
    rw [rowB_app]
    simpa [rowB] using hown
  · exact ((Below.refl base W).alloc hbase _).grown hg (by simp; omega) (fun k e => (World.ownsRow.lt h k e).1)
end

set_option maxRecDepth 100000 in
set_option maxHeartbeats 4000000 in
theorem boundL_any (bs : List Bn) (p : Option Addr) (c : Nat) (b : Bn) (w : World) (hA : BAt w p bs) (hl : bs.length ≤ 40) :
    Calls Tryz.prog 27 #[.slice p bs.length c, b.val] w fun e w' => ∃ v', e = .returned v' ∧ RowB w.heap.size v' (bdB bs b) w' ∧ Ext w w' := by
  have HA := Lib.hid hA
  have HSC := Lib.hid (fun j h => del_succ bs b.name j h)
  have HBD := Lib.hid (show bdB bs b = insB (delB bs b.name) b from rfl)
  have HAT := Lib.hid (fun out i h1 h2 h3 => insB_at out b i h1 h2 h3)
  have HIN := Lib.hid (fun out i base v W h1 h2 h3 h4 vb h5 h6 => show Calls Tryz.prog 56 #[v, .int .i64 (i : Nat), .slice (some ⟨vb, 0, none⟩) 1 1] W _ from Insert_any out b i base v W h1 h2 h3 h4 vb h5 h6)
  have HLB := Lib.hid (show (delB bs b.name).length ≤ 40 from Nat.le_trans (List.length_filter_le _ _) hl)
  have HTK := Lib.hid (fun j => show (delB (bs.take j) b.name).length ≤ 40 from Nat.le_trans (List.length_filter_le _ _) (by rw [List.length_take]; omega))
  have HALL := Lib.hid (show delB (bs.take bs.length) b.name = delB bs b.name by rw [List.take_length])
  obtain ⟨m, hm⟩ : ∃ m, bs.length = m := ⟨_, rfl⟩
  have HM := Lib.hid hm
  rw [hm] at hl ⊢
  obtain ⟨bn, bt, bx⟩ := b
  have hv : (Bn.mk bn bt bx).val = .agg #[sV bn, .int .i64 bt, .int .i64 bx] := rfl
  rw [hv]
  have hE0 : Ext w (w.alloc (.cells #[sV bn, .int .i64 bt, .int .i64 bx] tBn)) := (Below.refl _ w).alloc (Nat.le_refl _) _
  have KB := Lib.hid (alloc_here w (.cells #[sV bn, .int .i64 bt, .int .i64 bx] tBn))
  have HE0 := Lib.hid hE0
  clear hA hm hE0 hv
  simp only at HSC HTK HLB HBD HAT HIN HALL
  obtain ⟨B, hB⟩ : ∃ B, B = w.heap.size + 1 := ⟨_, rfl⟩
  have hsz : (w.alloc (.cells #[sV bn, .int .i64 bt, .int .i64 bx] tBn)).heap.size = B := by rw [hB]; simp
  have HSZ := Lib.hid hsz
  have HBV := Lib.hid hB
  clear hB hsz
  go_enter Tryz.func27, Tryz.ntmps27
  go_wp2
  go_loopw [5, 7, 11] (fun vo _ i wr => ∃ j : Nat, j ≤ m ∧ i = .int .i64 (j : Int) ∧ RowB B vo (delB (bs.take j) bn) wr ∧ Below B (w.alloc (.cells #[sV bn, .int .i64 bt, .int .i64 bx] tBn)) wr) (fun _ _ i _ => m - (intOf i).toNat)
  case atStart => exact ⟨0, Nat.zero_le _, rfl, World.ownsRow_nil _ _ _ _, Below.refl _ _⟩
  case round =>
    obtain ⟨j, hj, rfl, hr, hE⟩ := hrel
    have hkb := (hE.block w.heap.size (by rw [HBV.out]; omega)).trans KB.out
    have hEw : Ext w wr := Below.trans HE0.out (hE.mono (by rw [HBV.out]; omega))
    have hwr : B ≤ wr.heap.size := by have := hE.size; rw [HSZ.out] at this; exact this
    have HR := Lib.hid hr
    have HE := Lib.hid hE
    by_cases hlt : j < m
    · have hjb : j < bs.length := by rw [HM.out]; exact hlt
      obtain ⟨bb, off, rfl, hcs⟩ := (HA.out.below hEw).2 j hjb
      obtain ⟨c0, c1, c2⟩ := hcs
      have hs := HSC.out j hjb
      have htk := HTK.out j
      have hisn : isN bn bs[j] = ((bs[j]).name == bn) := rfl
      have hmk : (⟨(bs[j]).name, (bs[j]).type, (bs[j]).value⟩ : Bn) = bs[j] := rfl
      rw [hisn] at hs
      have k0 : wr.cell? ⟨w.heap.size, 0, none⟩ = some (sV bn) := cell_of hkb rfl
      have hltw := lt_of_block hkb
      have hltc := Ex.cell_lt' c0
      have hE3 : Ext wr (wr.alloc (.cells #[sV (bs[j]).name, .int .i64 (bs[j]).type, .int .i64 (bs[j]).value] tBn)) := (Below.refl _ wr).alloc (Nat.le_refl _) _
      have HE3 := Lib.hid hE3
      cases hq : (bs[j]).name == bn with
      | true =>
        rw [hq, if_pos rfl, List.append_nil] at hs
        have HS := Lib.hid hs
        have hq2 : ((bs[j]).name != bn) = false := by rw [bne, hq]; rfl
        generalize (bs[j]).name = nm at *
        generalize (bs[j]).type = ty at *
        generalize (bs[j]).value = y at *
        clear hs hisn hmk hr hE hkb hE3 hEw
        go_wp2
        go_roundw
        case rel => exact ⟨j + 1, by omega, by go_num, by rw [HS.out]; exact HR.out.ext HE3.out, Below.trans HE.out (HE3.out.mono hwr)⟩
        case measure => simp [intOf]; omega
      | false =>
        rw [hq, if_neg (by simp), ← hmk] at hs
        have HS := Lib.hid hs
        have hq2 : ((bs[j]).name != bn) = true := by rw [bne, hq]; rfl
        generalize (bs[j]).name = nm at *
        generalize (bs[j]).type = ty at *
        generalize (bs[j]).value = y at *
        have hr3 := HR.out.ext HE3.out
        have hb3 : B ≤ (wr.alloc (.cells #[sV nm, .int .i64 ty, .int .i64 y] tBn)).heap.size := Nat.le_trans hwr HE3.out.size
        have hlen : (delB (bs.take j) bn).length ≤ 1000000 := by omega
        clear hs hisn hmk hr hE hkb hE3 hEw
        go_wp2_with (at_builtin; refine wp_appB rfl _ _ (by rfl) B _ _ (by rfl) _ hr3 nm ty y (wr.heap.size + 1) (by rfl) (by simp) hlen hb3 ?_; intro v' w3 hr3' hB3; have HB3 := Lib.hid hB3; have HR3 := Lib.hid hr3'; clear hB3 hr3' hr3)
        go_roundw
        case rel => exact ⟨j + 1, by omega, by go_num, by rw [HS.out]; exact HR3.out, Below.trans HE.out (Below.trans (HE3.out.mono hwr) HB3.out)⟩
        case measure => simp [intOf]; omega
    · obtain rfl : j = m := by omega
      have hout : delB (bs.take j) bn = delB bs bn := by rw [← HALL.out, HM.out]
      rw [hout] at hr
      have HR := Lib.hid hr
      clear hr hout
      generalize delB bs bn = out at *
      obtain ⟨x, cc, rfl, hcellsr⟩ := HR.out.form2
      have HCE := Lib.hid hcellsr
      have hlo := HLB.out
      obtain ⟨q, hq⟩ : ∃ q, out.length = q := ⟨_, rfl⟩
      have HQ := Lib.hid hq
      have HQR := Lib.hid (show ∀ W, RowB B (.slice x q cc) out W → RowB B (.slice x out.length cc) out W from fun W h => by rw [hq]; exact h)
      have HR := Lib.hid (show RowB B (.slice x q cc) out wr by rw [← hq]; exact HR.out)
      rw [hq] at hlo ⊢
      have HKB := Lib.hid hkb
      have HEW := Lib.hid hEw
      clear hcellsr hq hE hkb hEw
      generalize wr = W1 at *
      go_wp2
      go_loopw [8] (fun i wx => ∃ k : Nat, k ≤ q ∧ i = .int .i64 (k : Int) ∧ (∀ k' (h : k' < out.length), k' < k → Op.bytesLess out[k'].name bn = true) ∧ Ext W1 wx) (fun i _ => q - (intOf i).toNat)
      case atStart => exact ⟨0, Nat.zero_le _, rfl, fun k' _ h => absurd h (Nat.not_lt_zero _), Below.refl _ _⟩
      case round =>
        obtain ⟨k, hk, rfl, hless, hEx⟩ := hrel
        have HEX := Lib.hid hEx
        have HLS := Lib.hid hless
        have k0 : wr.cell? ⟨w.heap.size, 0, none⟩ = some (sV bn) := cell_of ((hEx.block _ (lt_of_block HKB.out)).trans HKB.out) rfl
        have k1 : wr.cell? ⟨w.heap.size, 1, none⟩ = some (.int .i64 bt) := cell_of ((hEx.block _ (lt_of_block HKB.out)).trans HKB.out) rfl
        have k2 : wr.cell? ⟨w.heap.size, 2, none⟩ = some (.int .i64 bx) := cell_of ((hEx.block _ (lt_of_block HKB.out)).trans HKB.out) rfl
        have klt := Ex.cell_lt' k0
        clear hless hEx
        by_cases hlt2 : k < q
        · have hko : k < out.length := by rw [HQ.out]; exact hlt2
          obtain ⟨g, rfl, hgl, c0, c1, c2⟩ := HCE.out wr (HQR.out wr (HR.out.ext HEX.out)) k hko
          have HNL := Lib.hid (show Op.bytesLess out[k].name bn = true → ∀ k' (h : k' < out.length), k' < k + 1 → Op.bytesLess out[k'].name bn = true from fun h0 k' h h2 => by
            by_cases e : k' = k
            · subst e; exact h0
            · exact HLS.out k' h (by omega))
          obtain ⟨nm, hnm⟩ : ∃ nm, out[k].name = nm := ⟨_, rfl⟩
          rw [hnm] at c0 HNL
          have HNMM2 := Lib.hid (show Op.bytesLess nm bn = false → ∀ h : k < out.length, Op.bytesLess out[k].name bn = false from fun h0 h => by rw [hnm]; exact h0)
          clear hnm
          generalize out[k].type = ty at *
          generalize out[k].value = yy at *
          cases hls : Op.bytesLess nm bn with
          | true =>
            go_wp2
            go_quiet (fail)
            go_wp2
            go_roundw
            case rel => exact ⟨k + 1, by omega, by go_num, HNL.out hls, Ext.drewN' HEX.out⟩
            case measure => simp [intOf]; omega
          | false =>
            go_wp2
            go_quiet (fail)
            have HFL := Lib.hid (HNMM2.out hls)
            clear c0 c1 c2 hgl
            have HRX := Lib.hid (show insB out ⟨bn, bt, bx⟩ = out.take k ++ ⟨bn, bt, bx⟩ :: out.drop k from HAT.out out k (by rw [HQ.out]; exact hk) (fun j h h2 => HLS.out j h h2) (fun h => HFL.out h))
            have HE2 := Lib.hid (show Ext W1 (wr.drewN nq) from Ext.drewN' HEX.out)
            clear k0 k1 k2 klt HAT HSC HTK HALL HEX HLS
            generalize wr.drewN nq = W2 at *
            have k0 : W2.cell? ⟨w.heap.size, 0, none⟩ = some (sV bn) := cell_of ((HE2.out.block _ (lt_of_block HKB.out)).trans HKB.out) rfl
            have k1 : W2.cell? ⟨w.heap.size, 1, none⟩ = some (.int .i64 bt) := cell_of ((HE2.out.block _ (lt_of_block HKB.out)).trans HKB.out) rfl
            have k2 : W2.cell? ⟨w.heap.size, 2, none⟩ = some (.int .i64 bx) := cell_of ((HE2.out.block _ (lt_of_block HKB.out)).trans HKB.out) rfl
            have C := Lib.hid (HIN.out out k B _ (W2.alloc (.cells #[sV bn, .int .i64 bt, .int .i64 bx] tBn)) (by rw [HQ.out]; exact hk) (by rw [HQ.out]; omega) (HQR.out _ ((HR.out.ext HE2.out).ext ((Below.refl _ W2).alloc (Nat.le_refl _) _))) (by
              have := HE2.out.size
              rw [World.size_alloc]
              omega) W2.heap.size (alloc_here _ _) (by
              rw [HQ.out]
              intro e
              have h1 := (World.ownsRow.lt HR.out W2.heap.size e.symm).2
              have h2 := HE2.out.size
              omega))
            have C2 := Lib.hid (Calls_arg C.out (show _ = #[_, _, _] by rw [HQ.out]))
            clear HIN C
            go_wp2_with fail
            refine C2.out.mono ?_
            rintro _ w5 ⟨v5, rfl, hr5, hB5⟩
            have HR5 := Lib.hid hr5
            have HB5 := Lib.hid hB5
            clear hr5 hB5
            go_wp2
            go_ret
            refine ⟨_, rfl, ?_, ?_⟩
            · rw [HBD.out, HRX.out]
              exact HR5.out.le (by rw [HBV.out]; omega)
            · have h1 : Below w.heap.size W1 W2 := HE2.out.mono HEW.out.size
              have h2 : Below w.heap.size W2 (W2.alloc (.cells #[sV bn, .int .i64 bt, .int .i64 bx] tBn)) := (Below.refl _ W2).alloc (Nat.le_trans HEW.out.size HE2.out.size) _
              exact Below.trans HEW.out (Below.trans h1 (Below.trans h2 (HB5.out.mono (by rw [HBV.out]; omega))))
        · obtain rfl : k = q := by omega
          go_wp2
          go_quiet (fail)
          have HRX := Lib.hid (show insB out ⟨bn, bt, bx⟩ = out.take k ++ ⟨bn, bt, bx⟩ :: out.drop k from HAT.out out k (by rw [HQ.out]; exact hk) (fun j h h2 => HLS.out j h h2) (fun h => by rw [HQ.out] at h; exact absurd h (Nat.lt_irrefl _)))
          have HE2 := Lib.hid (show Ext W1 (wr.drewN nq) from Ext.drewN' HEX.out)
          clear k0 k1 k2 klt HAT HSC HTK HALL HEX HLS
          generalize wr.drewN nq = W2 at *
          have k0 : W2.cell? ⟨w.heap.size, 0, none⟩ = some (sV bn) := cell_of ((HE2.out.block _ (lt_of_block HKB.out)).trans HKB.out) rfl
          have k1 : W2.cell? ⟨w.heap.size, 1, none⟩ = some (.int .i64 bt) := cell_of ((HE2.out.block _ (lt_of_block HKB.out)).trans HKB.out) rfl
          have k2 : W2.cell? ⟨w.heap.size, 2, none⟩ = some (.int .i64 bx) := cell_of ((HE2.out.block _ (lt_of_block HKB.out)).trans HKB.out) rfl
          have C := Lib.hid (HIN.out out k B _ (W2.alloc (.cells #[sV bn, .int .i64 bt, .int .i64 bx] tBn)) (by rw [HQ.out]; exact hk) (by rw [HQ.out]; omega) (HQR.out _ ((HR.out.ext HE2.out).ext ((Below.refl _ W2).alloc (Nat.le_refl _) _))) (by
            have := HE2.out.size
            rw [World.size_alloc]
            omega) W2.heap.size (alloc_here _ _) (by
            rw [HQ.out]
            intro e
            have h1 := (World.ownsRow.lt HR.out W2.heap.size e.symm).2
            have h2 := HE2.out.size
            omega))
          have C2 := Lib.hid (Calls_arg C.out (show _ = #[_, _, _] by rw [HQ.out]))
          clear HIN C
          go_wp2_with fail
          refine C2.out.mono ?_
          rintro _ w5 ⟨v5, rfl, hr5, hB5⟩
          have HR5 := Lib.hid hr5
          have HB5 := Lib.hid hB5
          clear hr5 hB5
          go_wp2
          go_ret
          refine ⟨_, rfl, ?_, ?_⟩
          · rw [HBD.out, HRX.out]
            exact HR5.out.le (by rw [HBV.out]; omega)
          · have h1 : Below w.heap.size W1 W2 := HE2.out.mono HEW.out.size
            have h2 : Below w.heap.size W2 (W2.alloc (.cells #[sV bn, .int .i64 bt, .int .i64 bx] tBn)) := (Below.refl _ W2).alloc (Nat.le_trans HEW.out.size HE2.out.size) _
            exact Below.trans HEW.out (Below.trans h1 (Below.trans h2 (HB5.out.mono (by rw [HBV.out]; omega))))

end Go.Proofs.YtgkalcboklhdgaaGreatDoor

namespace Go.Proofs.YtgkalcboklhdgaaGreatDoor
open Go.RowKit
set_option linter.unusedVariables false
set_option linter.unusedSimpArgs false
open Ex

theorem u8_bd2 {x : Int} (h : (Lit.int .u8 x).wf = true) : 0 ≤ x ∧ x ≤ 255 := by
  simp [Lit.wf, IntKind.min, IntKind.max, IntKind.signed, IntKind.bits] at h
  omega
theorem nmR_name {e : Ex} {n : List UInt8} (h : n ∈ nmR e) : n.length ≤ 140737488355328 := by
  unfold nmR at h
  by_cases h0 : e.chk ≠ 0
  · rw [if_pos h0] at h; cases h
  · rw [if_neg h0] at h
    have h1 : n ∈ nmE e := by
      rcases ((fold_spec (nmE e) [] (by simp)).2 n).1 h with h | h
      · exact h
      · cases h
    have := isNm_len (nm_ok e (chk_zero (Classical.not_not.1 h0)).2.2 n h1)
    omega
theorem nmR_len2 (e : Ex) : (nmR e).length ≤ 1000000000 := by
  unfold nmR
  split
  · simp
  · rename_i h
    have h0 : e.chk = 0 := Classical.not_not.1 h
    have h1 := (chk_zero h0).1
    have h2 := nmE_size e
    have h3 := fold_len (nmE e) []
    simp only [List.length_nil] at h3
    omega
theorem insB_mem : ∀ (out : List Bn) (b x : Bn), x ∈ insB out b → x = b ∨ x ∈ out
  | [], b, x, h => by simpa [insB] using h
  | y :: out, b, x, h => by
    rw [insB] at h
    split at h
    · rcases List.mem_cons.1 h with h | h
      · exact .inr (by simp [h])
      · rcases insB_mem out b x h with h | h
        · exact .inl h
        · exact .inr (List.mem_cons_of_mem _ h)
    · rcases List.mem_cons.1 h with h | h
      · exact .inl h
      · exact .inr h
theorem bd_fits {bs : List Bn} {e r : Ex} {n : List UInt8} {t v : Int} (ht : tyR bs r = (t, 0)) (hv : evR bs r = (v, 0)) (hn : n ∈ nmR e) (h : bs.length ≤ 4398046510976 ∧ ∀ b ∈ bs, b.fits) :
    ((bs.length ≤ 40) → (bdB bs ⟨n, t, v⟩).length ≤ 4398046510976) ∧ ∀ b ∈ bdB bs ⟨n, t, v⟩, b.fits := by
  obtain ⟨h1, h2, h3⟩ := tyR_zero (by rw [ht])
  rw [h3] at ht
  have hv2 : r.ev bs = (v, 0) := by
    unfold evR at hv
    rw [if_neg (by rw [h3, ht]; simp)] at hv
    exact hv
  obtain ⟨g1, g2⟩ := ev_sound h2 r.size r (Nat.le_refl _) (chk_zero h1).2.2 t ht
  obtain ⟨g2, _⟩ := g2 v hv2
  refine ⟨fun h40 => ?_, fun b hb => ?_⟩
  · unfold bdB
    rw [insB_length]
    have := List.length_filter_le (fun x => !isN n x) bs
    unfold delB
    show (List.filter (fun x => !isN n x) bs).length + 1 ≤ _
    omega
  · rcases insB_mem _ _ _ hb with rfl | hb
    · refine ⟨nmR_name hn, ?_, ?_⟩
      · rcases g1 with rfl | rfl
        · exact (show Ex.wf (1 : Int) from ⟨by decide, by decide⟩)
        · exact (show Ex.wf (2 : Int) from ⟨by decide, by decide⟩)
      · unfold inM at g2
        exact (show Ex.wf v from ⟨by omega, by omega⟩)
    · exact h.2 b (List.mem_filter.1 hb).1
set_option maxRecDepth 100000 in
set_option maxHeartbeats 8000000 in
theorem exprSubstitute_walk (e : Ex) (p : Option Addr) (c : Nat) (r : Ex) (p2 : Option Addr) (c2 : Nat) (bs : List Bn) (pb : Option Addr) (cb : Nat) (x : Int) (w : World) (hA : Ex.At w p e) (hR : Ex.At w p2 r) (hS : BAt w pb bs) (hx : (Lit.int .u8 x).wf = true) (hT : TabW w) :
    Gives Tryz.prog 5 #[e.val p c, r.val p2 c2, .slice pb bs.length cb, .int .u8 x] w (.bool true) := by
  obtain ⟨hx0, hx1⟩ := u8_bd2 hx
  clear hx
  obtain ⟨k, rfl⟩ : ∃ k : Nat, x = k := ⟨x.toNat, by omega⟩
  have C0 := Lib.hid (fun W (h : Ext w W) => show Gives _ _ #[.agg #[.int .i64 e.kind, .int .i64 e.op, sV e.name, .int .i64 e.value, .slice p e.args.length c]] _ _ from Great_any e p c W (hA.below h))
  have C1 := Lib.hid (fun W (h : Ext w W) => show Gives _ _ #[.agg #[.int .i64 r.kind, .int .i64 r.op, sV r.name, .int .i64 r.value, .slice p2 r.args.length c2]] _ _ from Great_any r p2 c2 W (hR.below h))
  have CB1 := Lib.hid (fun (hb : bnds bs = true) W (h : Ext w W) => show Gives Tryz.prog 24 #[.slice pb bs.length cb] W (.int .i64 0) from by
    have h1 := refBound_any bs pb cb W (hS.below h)
    rw [if_pos hb] at h1
    exact h1)
  have CB2 := Lib.hid (fun (hb : bnds bs = false) W (h : Ext w W) => show Gives Tryz.prog 24 #[.slice pb bs.length cb] W (.int .i64 1) from by
    have h1 := refBound_any bs pb cb W (hS.below h)
    rw [if_neg (by simp [hb])] at h1
    exact h1)
  have CE := Lib.hid (fun W (h : Ext w W) => show Gives _ _ #[.agg #[.int .i64 r.kind, .int .i64 r.op, sV r.name, .int .i64 r.value, .slice p2 r.args.length c2], _] _ (.tuple #[.int .i64 (evR bs r).1, .int .i64 (evR bs r).2]) from Eval_any bs pb cb r p2 c2 W (hR.below h) (hS.below h))
  have CT := Lib.hid (fun W (h : Ext w W) => show Gives _ _ #[.agg #[.int .i64 r.kind, .int .i64 r.op, sV r.name, .int .i64 r.value, .slice p2 r.args.length c2], _] _ (.tuple #[.int .i64 (tyR bs r).1, .int .i64 (tyR bs r).2]) from Type_any bs pb cb r p2 c2 W (hR.below h) (hS.below h))
  have CN := Lib.hid (fun W (h : Ext w W) => show Calls _ _ #[.agg #[.int .i64 e.kind, .int .i64 e.op, sV e.name, .int .i64 e.value, .slice p e.args.length c]] _ _ from Names_any e p c W (hA.below h))
  have CS := Lib.hid (fun (n : List UInt8) (hn : n ∈ nmR e) W (h : Ext w W) => show Calls _ _ #[.agg #[.int .i64 e.kind, .int .i64 e.op, sV e.name, .int .i64 e.value, .slice p e.args.length c], sV n, .agg #[.int .i64 r.kind, .int .i64 r.op, sV r.name, .int .i64 r.value, .slice p2 r.args.length c2]] _ (fun x w' => ∃ q d, x = .returned (.tuple #[.agg #[.int .i64 (sbR e n r).1.kind, .int .i64 (sbR e n r).1.op, sV (sbR e n r).1.name, .int .i64 (sbR e n r).1.value, .slice q (sbR e n r).1.args.length d], .int .i64 (sbR e n r).2]) ∧ Ex.At w' q (sbR e n r).1 ∧ Ext W w') from (Substitute_of e p c n (nmR_name hn) r p2 c2 W (hA.below h) (hR.below h)).mono (fun x w' ⟨a, q, d, b, c⟩ => ⟨q, d, b, c, a⟩))
  have CB := Lib.hid (fun (hl : bs.length ≤ 40) n t v W (h : Ext w W) => show Calls Tryz.prog 27 #[.slice pb bs.length cb, .agg #[sV n, .int .i64 t, .int .i64 v]] W _ from boundL_any bs pb cb ⟨n, t, v⟩ W (hS.below h) hl)
  have CEF := Lib.hid (fun (F : Ex) q d W (hF : Ex.At W q F) (h : Ext w W) => show Gives _ _ #[.agg #[.int .i64 F.kind, .int .i64 F.op, sV F.name, .int .i64 F.value, .slice q F.args.length d], .slice pb bs.length cb] W (.tuple #[.int .i64 (evR bs F).1, .int .i64 (evR bs F).2]) from Eval_any bs pb cb F q d W hF (hS.below h))
  have CTF := Lib.hid (fun (F : Ex) q d W (hF : Ex.At W q F) (h : Ext w W) => show Gives _ _ #[.agg #[.int .i64 F.kind, .int .i64 F.op, sV F.name, .int .i64 F.value, .slice q F.args.length d], .slice pb bs.length cb] W (.tuple #[.int .i64 (tyR bs F).1, .int .i64 (tyR bs F).2]) from Type_any bs pb cb F q d W hF (hS.below h))
  have CEM := Lib.hid (fun (ms : List Bn) pm cm W (h : Ext w W) (hb : BAt W pm ms) => show Gives _ _ #[.agg #[.int .i64 e.kind, .int .i64 e.op, sV e.name, .int .i64 e.value, .slice p e.args.length c], .slice pm ms.length cm] W (.tuple #[.int .i64 (evR ms e).1, .int .i64 (evR ms e).2]) from Eval_any ms pm cm e p c W (hA.below h) hb)
  have CTM := Lib.hid (fun (ms : List Bn) pm cm W (h : Ext w W) (hb : BAt W pm ms) => show Gives _ _ #[.agg #[.int .i64 e.kind, .int .i64 e.op, sV e.name, .int .i64 e.value, .slice p e.args.length c], .slice pm ms.length cm] W (.tuple #[.int .i64 (tyR ms e).1, .int .i64 (tyR ms e).2]) from Type_any ms pm cm e p c W (hA.below h) hb)
  have HSUB := Lib.hid (fun n (h40 : bs.length ≤ 40) (ht : (tyR bs r).2 = 0) (hv : (evR bs r).2 = 0) (hn : n ∈ nmR e) => subst_all (t := (tyR bs r).1) (v := (evR bs r).1) h40 (Prod.ext rfl ht) (Prod.ext rfl hv) hn)
  have HFT := Lib.hid (fun n (ht : (tyR bs r).2 = 0) (hv : (evR bs r).2 = 0) (hn : n ∈ nmR e) => bd_fits (t := (tyR bs r).1) (v := (evR bs r).1) (Prod.ext rfl ht) (Prod.ext rfl hv) hn hS.1)
  have CA := Lib.hid (fun W => awake_any W)
  have HNL := Lib.hid (nmR_len2 e)
  have hv : e.val p c = .agg #[.int .i64 e.kind, .int .i64 e.op, sV e.name, .int .i64 e.value, .slice p e.args.length c] := rfl
  have hv2 : r.val p2 c2 = .agg #[.int .i64 r.kind, .int .i64 r.op, sV r.name, .int .i64 r.value, .slice p2 r.args.length c2] := rfl
  rw [hv, hv2]
  have hlb := hS.1.1
  clear hv hv2 hA hR hT hS
  generalize e.great = ge at *
  generalize r.great = gr at *
  generalize bnds bs = gb at *
  generalize nmR e = nm at *
  generalize (tyR bs r).1 = t0 at *
  generalize (tyR bs r).2 = t1 at *
  generalize (evR bs r).1 = r0 at *
  generalize (evR bs r).2 = r1 at *
  generalize bs.length = lb at *
  generalize e.kind = k1 at *
  generalize e.op = o1 at *
  generalize e.name = n1 at *
  generalize e.value = v1 at *
  generalize e.args.length = l1 at *
  generalize r.kind = k2 at *
  generalize r.op = o2 at *
  generalize r.name = n2 at *
  generalize r.value = v2 at *
  generalize r.args.length = l2 at *
  obtain ⟨hb1, hb2, hE⟩ := two_boxes w (.int .i64 k1) (.int .i64 o1) (sV n1) (.int .i64 v1) (.slice p l1 c) (.int .i64 k2) (.int .i64 o2) (sV n2) (.int .i64 v2) (.slice p2 l2 c2) tEx
  have Ka := Lib.hid hb1
  have Kb := Lib.hid hb2
  have HX := Lib.hid hE
  clear hb1 hb2 hE
  unfold Gives
  cases ge with
  | true =>
    go_enter Tryz.func5, Tryz.ntmps5
    obtain ⟨a0, a1, a2, a3, a4, a5⟩ := box5z Ka.out
    have lta := lt_of_block Ka.out
    obtain ⟨b0, b1, b2, b3, b4, b5⟩ := box5z Kb.out
    have ltb := lt_of_block Kb.out
    go_wp2_with fail
    refine (C0.out _ HX.out).mono ?_
    intro w1 hE
    replace hE : Ext _ w1 := hE
    clear a0 a1 a2 a3 a4 a5 lta
    clear b0 b1 b2 b3 b4 b5 ltb
    replace Ka := Lib.hid ((hE.below.block _ (lt_of_block Ka.out)).trans Ka.out)
    replace Kb := Lib.hid ((hE.below.block _ (lt_of_block Kb.out)).trans Kb.out)
    replace HX := Lib.hid (Ext.trans HX.out hE)
    clear hE
    obtain ⟨a0, a1, a2, a3, a4, a5⟩ := box5z Ka.out
    have lta := lt_of_block Ka.out
    obtain ⟨b0, b1, b2, b3, b4, b5⟩ := box5z Kb.out
    have ltb := lt_of_block Kb.out
    go_wp2_with fail
    refine (CA.out _).mono ?_
    intro w2 hE
    replace hE : Ext _ w2 := hE
    clear a0 a1 a2 a3 a4 a5 lta
    clear b0 b1 b2 b3 b4 b5 ltb
    replace Ka := Lib.hid ((hE.below.block _ (lt_of_block Ka.out)).trans Ka.out)
    replace Kb := Lib.hid ((hE.below.block _ (lt_of_block Kb.out)).trans Kb.out)
    replace HX := Lib.hid (Ext.trans HX.out hE)
    clear hE
    obtain ⟨a0, a1, a2, a3, a4, a5⟩ := box5z Ka.out
    have lta := lt_of_block Ka.out
    obtain ⟨b0, b1, b2, b3, b4, b5⟩ := box5z Kb.out
    have ltb := lt_of_block Kb.out
    clear a0 a1 a2 a3 a4 a5 lta
    clear b0 b1 b2 b3 b4 b5 ltb
    go_wp2
    go_ret
    exact ⟨rfl, HX.out⟩
  | false =>
    cases gr with
    | true =>
      go_enter Tryz.func5, Tryz.ntmps5
      obtain ⟨a0, a1, a2, a3, a4, a5⟩ := box5z Ka.out
      have lta := lt_of_block Ka.out
      obtain ⟨b0, b1, b2, b3, b4, b5⟩ := box5z Kb.out
      have ltb := lt_of_block Kb.out
      go_wp2_with fail
      refine (C0.out _ HX.out).mono ?_
      intro w1 hE
      replace hE : Ext _ w1 := hE
      clear a0 a1 a2 a3 a4 a5 lta
      clear b0 b1 b2 b3 b4 b5 ltb
      replace Ka := Lib.hid ((hE.below.block _ (lt_of_block Ka.out)).trans Ka.out)
      replace Kb := Lib.hid ((hE.below.block _ (lt_of_block Kb.out)).trans Kb.out)
      replace HX := Lib.hid (Ext.trans HX.out hE)
      clear hE
      obtain ⟨a0, a1, a2, a3, a4, a5⟩ := box5z Ka.out
      have lta := lt_of_block Ka.out
      obtain ⟨b0, b1, b2, b3, b4, b5⟩ := box5z Kb.out
      have ltb := lt_of_block Kb.out
      go_wp2_with fail
      refine (C1.out _ HX.out).mono ?_
      intro w2 hE
      replace hE : Ext _ w2 := hE
      clear a0 a1 a2 a3 a4 a5 lta
      clear b0 b1 b2 b3 b4 b5 ltb
      replace Ka := Lib.hid ((hE.below.block _ (lt_of_block Ka.out)).trans Ka.out)
      replace Kb := Lib.hid ((hE.below.block _ (lt_of_block Kb.out)).trans Kb.out)
      replace HX := Lib.hid (Ext.trans HX.out hE)
      clear hE
      obtain ⟨a0, a1, a2, a3, a4, a5⟩ := box5z Ka.out
      have lta := lt_of_block Ka.out
      obtain ⟨b0, b1, b2, b3, b4, b5⟩ := box5z Kb.out
      have ltb := lt_of_block Kb.out
      go_wp2_with fail
      refine (CA.out _).mono ?_
      intro w3 hE
      replace hE : Ext _ w3 := hE
      clear a0 a1 a2 a3 a4 a5 lta
      clear b0 b1 b2 b3 b4 b5 ltb
      replace Ka := Lib.hid ((hE.below.block _ (lt_of_block Ka.out)).trans Ka.out)
      replace Kb := Lib.hid ((hE.below.block _ (lt_of_block Kb.out)).trans Kb.out)
      replace HX := Lib.hid (Ext.trans HX.out hE)
      clear hE
      obtain ⟨a0, a1, a2, a3, a4, a5⟩ := box5z Ka.out
      have lta := lt_of_block Ka.out
      obtain ⟨b0, b1, b2, b3, b4, b5⟩ := box5z Kb.out
      have ltb := lt_of_block Kb.out
      clear a0 a1 a2 a3 a4 a5 lta
      clear b0 b1 b2 b3 b4 b5 ltb
      go_wp2
      go_ret
      exact ⟨rfl, HX.out⟩
    | false =>
      by_cases h40 : 40 < lb
      · have hd40 : decide ((40 : Int) < (lb : Int)) = true := decide_eq_true (by omega)
        clear h40
        go_enter Tryz.func5, Tryz.ntmps5
        obtain ⟨a0, a1, a2, a3, a4, a5⟩ := box5z Ka.out
        have lta := lt_of_block Ka.out
        obtain ⟨b0, b1, b2, b3, b4, b5⟩ := box5z Kb.out
        have ltb := lt_of_block Kb.out
        go_wp2_with fail
        refine (C0.out _ HX.out).mono ?_
        intro w1 hE
        replace hE : Ext _ w1 := hE
        clear a0 a1 a2 a3 a4 a5 lta
        clear b0 b1 b2 b3 b4 b5 ltb
        replace Ka := Lib.hid ((hE.below.block _ (lt_of_block Ka.out)).trans Ka.out)
        replace Kb := Lib.hid ((hE.below.block _ (lt_of_block Kb.out)).trans Kb.out)
        replace HX := Lib.hid (Ext.trans HX.out hE)
        clear hE
        obtain ⟨a0, a1, a2, a3, a4, a5⟩ := box5z Ka.out
        have lta := lt_of_block Ka.out
        obtain ⟨b0, b1, b2, b3, b4, b5⟩ := box5z Kb.out
        have ltb := lt_of_block Kb.out
        go_wp2_with fail
        refine (C1.out _ HX.out).mono ?_
        intro w2 hE
        replace hE : Ext _ w2 := hE
        clear a0 a1 a2 a3 a4 a5 lta
        clear b0 b1 b2 b3 b4 b5 ltb
        replace Ka := Lib.hid ((hE.below.block _ (lt_of_block Ka.out)).trans Ka.out)
        replace Kb := Lib.hid ((hE.below.block _ (lt_of_block Kb.out)).trans Kb.out)
        replace HX := Lib.hid (Ext.trans HX.out hE)
        clear hE
        obtain ⟨a0, a1, a2, a3, a4, a5⟩ := box5z Ka.out
        have lta := lt_of_block Ka.out
        obtain ⟨b0, b1, b2, b3, b4, b5⟩ := box5z Kb.out
        have ltb := lt_of_block Kb.out
        go_wp2_with fail
        refine (CA.out _).mono ?_
        intro w3 hE
        replace hE : Ext _ w3 := hE
        clear a0 a1 a2 a3 a4 a5 lta
        clear b0 b1 b2 b3 b4 b5 ltb
        replace Ka := Lib.hid ((hE.below.block _ (lt_of_block Ka.out)).trans Ka.out)
        replace Kb := Lib.hid ((hE.below.block _ (lt_of_block Kb.out)).trans Kb.out)
        replace HX := Lib.hid (Ext.trans HX.out hE)
        clear hE
        obtain ⟨a0, a1, a2, a3, a4, a5⟩ := box5z Ka.out
        have lta := lt_of_block Ka.out
        obtain ⟨b0, b1, b2, b3, b4, b5⟩ := box5z Kb.out
        have ltb := lt_of_block Kb.out
        clear a0 a1 a2 a3 a4 a5 lta
        clear b0 b1 b2 b3 b4 b5 ltb
        go_wp2
        go_ret
        exact ⟨rfl, HX.out⟩
      · have h40 : lb ≤ 40 := by omega
        have H40 := Lib.hid h40
        have hd40 : decide ((40 : Int) < (lb : Int)) = false := decide_eq_false (by omega)
        clear h40
        cases gb with
        | false =>
          go_enter Tryz.func5, Tryz.ntmps5
          obtain ⟨a0, a1, a2, a3, a4, a5⟩ := box5z Ka.out
          have lta := lt_of_block Ka.out
          obtain ⟨b0, b1, b2, b3, b4, b5⟩ := box5z Kb.out
          have ltb := lt_of_block Kb.out
          go_wp2_with fail
          refine (C0.out _ HX.out).mono ?_
          intro w1 hE
          replace hE : Ext _ w1 := hE
          clear a0 a1 a2 a3 a4 a5 lta
          clear b0 b1 b2 b3 b4 b5 ltb
          replace Ka := Lib.hid ((hE.below.block _ (lt_of_block Ka.out)).trans Ka.out)
          replace Kb := Lib.hid ((hE.below.block _ (lt_of_block Kb.out)).trans Kb.out)
          replace HX := Lib.hid (Ext.trans HX.out hE)
          clear hE
          obtain ⟨a0, a1, a2, a3, a4, a5⟩ := box5z Ka.out
          have lta := lt_of_block Ka.out
          obtain ⟨b0, b1, b2, b3, b4, b5⟩ := box5z Kb.out
          have ltb := lt_of_block Kb.out
          go_wp2_with fail
          refine (C1.out _ HX.out).mono ?_
          intro w2 hE
          replace hE : Ext _ w2 := hE
          clear a0 a1 a2 a3 a4 a5 lta
          clear b0 b1 b2 b3 b4 b5 ltb
          replace Ka := Lib.hid ((hE.below.block _ (lt_of_block Ka.out)).trans Ka.out)
          replace Kb := Lib.hid ((hE.below.block _ (lt_of_block Kb.out)).trans Kb.out)
          replace HX := Lib.hid (Ext.trans HX.out hE)
          clear hE
          obtain ⟨a0, a1, a2, a3, a4, a5⟩ := box5z Ka.out
          have lta := lt_of_block Ka.out
          obtain ⟨b0, b1, b2, b3, b4, b5⟩ := box5z Kb.out
          have ltb := lt_of_block Kb.out
          go_wp2_with fail
          refine (CB2.out (by trivial) _ HX.out).mono ?_
          intro w3 hE
          replace hE : Ext _ w3 := hE
          clear a0 a1 a2 a3 a4 a5 lta
          clear b0 b1 b2 b3 b4 b5 ltb
          replace Ka := Lib.hid ((hE.below.block _ (lt_of_block Ka.out)).trans Ka.out)
          replace Kb := Lib.hid ((hE.below.block _ (lt_of_block Kb.out)).trans Kb.out)
          replace HX := Lib.hid (Ext.trans HX.out hE)
          clear hE
          obtain ⟨a0, a1, a2, a3, a4, a5⟩ := box5z Ka.out
          have lta := lt_of_block Ka.out
          obtain ⟨b0, b1, b2, b3, b4, b5⟩ := box5z Kb.out
          have ltb := lt_of_block Kb.out
          go_wp2_with fail
          refine (CA.out _).mono ?_
          intro w4 hE
          replace hE : Ext _ w4 := hE
          clear a0 a1 a2 a3 a4 a5 lta
          clear b0 b1 b2 b3 b4 b5 ltb
          replace Ka := Lib.hid ((hE.below.block _ (lt_of_block Ka.out)).trans Ka.out)
          replace Kb := Lib.hid ((hE.below.block _ (lt_of_block Kb.out)).trans Kb.out)
          replace HX := Lib.hid (Ext.trans HX.out hE)
          clear hE
          obtain ⟨a0, a1, a2, a3, a4, a5⟩ := box5z Ka.out
          have lta := lt_of_block Ka.out
          obtain ⟨b0, b1, b2, b3, b4, b5⟩ := box5z Kb.out
          have ltb := lt_of_block Kb.out
          clear a0 a1 a2 a3 a4 a5 lta
          clear b0 b1 b2 b3 b4 b5 ltb
          go_wp2
          go_ret
          exact ⟨rfl, HX.out⟩
        | true =>
          go_enter Tryz.func5, Tryz.ntmps5
          obtain ⟨a0, a1, a2, a3, a4, a5⟩ := box5z Ka.out
          have lta := lt_of_block Ka.out
          obtain ⟨b0, b1, b2, b3, b4, b5⟩ := box5z Kb.out
          have ltb := lt_of_block Kb.out
          go_wp2_with fail
          refine (C0.out _ HX.out).mono ?_
          intro w1 hE
          replace hE : Ext _ w1 := hE
          clear a0 a1 a2 a3 a4 a5 lta
          clear b0 b1 b2 b3 b4 b5 ltb
          replace Ka := Lib.hid ((hE.below.block _ (lt_of_block Ka.out)).trans Ka.out)
          replace Kb := Lib.hid ((hE.below.block _ (lt_of_block Kb.out)).trans Kb.out)
          replace HX := Lib.hid (Ext.trans HX.out hE)
          clear hE
          obtain ⟨a0, a1, a2, a3, a4, a5⟩ := box5z Ka.out
          have lta := lt_of_block Ka.out
          obtain ⟨b0, b1, b2, b3, b4, b5⟩ := box5z Kb.out
          have ltb := lt_of_block Kb.out
          go_wp2_with fail
          refine (C1.out _ HX.out).mono ?_
          intro w2 hE
          replace hE : Ext _ w2 := hE
          clear a0 a1 a2 a3 a4 a5 lta
          clear b0 b1 b2 b3 b4 b5 ltb
          replace Ka := Lib.hid ((hE.below.block _ (lt_of_block Ka.out)).trans Ka.out)
          replace Kb := Lib.hid ((hE.below.block _ (lt_of_block Kb.out)).trans Kb.out)
          replace HX := Lib.hid (Ext.trans HX.out hE)
          clear hE
          obtain ⟨a0, a1, a2, a3, a4, a5⟩ := box5z Ka.out
          have lta := lt_of_block Ka.out
          obtain ⟨b0, b1, b2, b3, b4, b5⟩ := box5z Kb.out
          have ltb := lt_of_block Kb.out
          go_wp2_with fail
          refine (CB1.out (by trivial) _ HX.out).mono ?_
          intro w3 hE
          replace hE : Ext _ w3 := hE
          clear a0 a1 a2 a3 a4 a5 lta
          clear b0 b1 b2 b3 b4 b5 ltb
          replace Ka := Lib.hid ((hE.below.block _ (lt_of_block Ka.out)).trans Ka.out)
          replace Kb := Lib.hid ((hE.below.block _ (lt_of_block Kb.out)).trans Kb.out)
          replace HX := Lib.hid (Ext.trans HX.out hE)
          clear hE
          obtain ⟨a0, a1, a2, a3, a4, a5⟩ := box5z Ka.out
          have lta := lt_of_block Ka.out
          obtain ⟨b0, b1, b2, b3, b4, b5⟩ := box5z Kb.out
          have ltb := lt_of_block Kb.out
          go_wp2_with fail
          refine (CE.out _ HX.out).mono ?_
          intro w4 hE
          replace hE : Ext _ w4 := hE
          clear a0 a1 a2 a3 a4 a5 lta
          clear b0 b1 b2 b3 b4 b5 ltb
          replace Ka := Lib.hid ((hE.below.block _ (lt_of_block Ka.out)).trans Ka.out)
          replace Kb := Lib.hid ((hE.below.block _ (lt_of_block Kb.out)).trans Kb.out)
          replace HX := Lib.hid (Ext.trans HX.out hE)
          clear hE
          obtain ⟨a0, a1, a2, a3, a4, a5⟩ := box5z Ka.out
          have lta := lt_of_block Ka.out
          obtain ⟨b0, b1, b2, b3, b4, b5⟩ := box5z Kb.out
          have ltb := lt_of_block Kb.out
          go_wp2_with fail
          refine (CT.out _ HX.out).mono ?_
          intro w5 hE
          replace hE : Ext _ w5 := hE
          clear a0 a1 a2 a3 a4 a5 lta
          clear b0 b1 b2 b3 b4 b5 ltb
          replace Ka := Lib.hid ((hE.below.block _ (lt_of_block Ka.out)).trans Ka.out)
          replace Kb := Lib.hid ((hE.below.block _ (lt_of_block Kb.out)).trans Kb.out)
          replace HX := Lib.hid (Ext.trans HX.out hE)
          clear hE
          obtain ⟨a0, a1, a2, a3, a4, a5⟩ := box5z Ka.out
          have lta := lt_of_block Ka.out
          obtain ⟨b0, b1, b2, b3, b4, b5⟩ := box5z Kb.out
          have ltb := lt_of_block Kb.out
          go_wp2_with fail
          refine (CN.out _ HX.out).mono ?_
          rintro _ w6 ⟨v', rfl, hr, hE⟩
          replace hE : Ext _ w6 := hE
          clear a0 a1 a2 a3 a4 a5 lta
          clear b0 b1 b2 b3 b4 b5 ltb
          replace Ka := Lib.hid ((hE.below.block _ (lt_of_block Ka.out)).trans Ka.out)
          replace Kb := Lib.hid ((hE.below.block _ (lt_of_block Kb.out)).trans Kb.out)
          replace HX := Lib.hid (Ext.trans HX.out hE)
          obtain ⟨xs, xc, rfl, hS⟩ := hr.strs
          have HSR := Lib.hid hS
          clear hr hS
          clear hE
          obtain ⟨a0, a1, a2, a3, a4, a5⟩ := box5z Ka.out
          have lta := lt_of_block Ka.out
          obtain ⟨b0, b1, b2, b3, b4, b5⟩ := box5z Kb.out
          have ltb := lt_of_block Kb.out
          clear C0 C1 CB1 CB2 CE CT CN
          by_cases hr1 : r1 = 0
          · have HR1 := Lib.hid hr1
            have hr2 : (r1 == 0) = true := by simpa using hr1
            have hr3 : (r1 != 0) = false := by simpa using hr1
            clear hr1
            by_cases ht1 : t1 = 0
            · have HT1 := Lib.hid ht1
              have ht2 : (t1 == 0) = true := by simpa using ht1
              have ht3 : (t1 != 0) = false := by simpa using ht1
              clear ht1
              have hnl := HNL.out
              by_cases hL : nm.length = 0
              · have hL1 : ((nm.length : Int) == 0) = true := by simpa using hL
                go_wp2_with fail
                refine (CA.out _).mono ?_
                intro w7 hE
                replace hE : Ext _ w7 := hE
                clear a0 a1 a2 a3 a4 a5 lta
                clear b0 b1 b2 b3 b4 b5 ltb
                replace Ka := Lib.hid ((hE.below.block _ (lt_of_block Ka.out)).trans Ka.out)
                replace Kb := Lib.hid ((hE.below.block _ (lt_of_block Kb.out)).trans Kb.out)
                replace HSR := Lib.hid (HSR.out.below hE)
                replace HX := Lib.hid (Ext.trans HX.out hE)
                clear hE
                obtain ⟨a0, a1, a2, a3, a4, a5⟩ := box5z Ka.out
                have lta := lt_of_block Ka.out
                obtain ⟨b0, b1, b2, b3, b4, b5⟩ := box5z Kb.out
                have ltb := lt_of_block Kb.out
                clear a0 a1 a2 a3 a4 a5 lta
                clear b0 b1 b2 b3 b4 b5 ltb
                go_wp2
                go_ret
                exact ⟨rfl, HX.out⟩
              · have hL1 : ((nm.length : Int) == 0) = false := by rw [beq_eq_false_iff_ne]; omega
                have hL2 : 0 < nm.length := by omega
                clear hL
                obtain ⟨i, hi⟩ : ∃ i, i = k % nm.length := ⟨_, rfl⟩
                have him : i < nm.length := by rw [hi]; exact Nat.mod_lt _ (by omega)
                have hmod : (k : Int).tmod (nm.length : Int) = (i : Int) := by rw [hi, Int.tmod_eq_emod_of_nonneg (by omega)]; simp
                clear hi
                obtain ⟨bb, off, hxs, hcell⟩ := HSR.out i him
                subst hxs
                have HMEM := Lib.hid (List.getElem_mem him)
                have CSN := Lib.hid (CS.out nm[i] HMEM.out)
                have CBN := Lib.hid (CB.out H40.out nm[i] t0 r0)
                have HSN := Lib.hid (HSUB.out nm[i] H40.out HT1.out HR1.out HMEM.out)
                have HFN := Lib.hid (HFT.out nm[i] HT1.out HR1.out HMEM.out)
                generalize nm[i] = m at *
                clear CS CB HSUB HFT HMEM
                generalize sbR e m r = S at *
                generalize bdB bs ⟨m, t0, r0⟩ = ms at *
                obtain ⟨F, zz⟩ := S
                simp only at CSN HSN
                have hlb2 := Ex.cell_lt' hcell
                go_wp2_with fail
                refine (CSN.out _ HX.out).mono ?_
                rintro _ w7 ⟨qf, df, rfl, hAf, hE⟩
                replace hE : Ext _ w7 := hE
                clear a0 a1 a2 a3 a4 a5 lta
                clear b0 b1 b2 b3 b4 b5 ltb
                replace Ka := Lib.hid ((hE.below.block _ (lt_of_block Ka.out)).trans Ka.out)
                replace Kb := Lib.hid ((hE.below.block _ (lt_of_block Kb.out)).trans Kb.out)
                replace HX := Lib.hid (Ext.trans HX.out hE)
                have HAf := Lib.hid hAf
                clear hAf hcell hlb2
                clear hE
                obtain ⟨a0, a1, a2, a3, a4, a5⟩ := box5z Ka.out
                have lta := lt_of_block Ka.out
                obtain ⟨b0, b1, b2, b3, b4, b5⟩ := box5z Kb.out
                have ltb := lt_of_block Kb.out
                have hE : Ext w7 (w7.alloc (.cells #[.int .i64 F.kind, .int .i64 F.op, sV F.name, .int .i64 F.value, .slice qf F.args.length df] tEx)) := (Below.refl _ _).alloc (Nat.le_refl _) _
                have Kf := Lib.hid (alloc_here w7 (.cells #[.int .i64 F.kind, .int .i64 F.op, sV F.name, .int .i64 F.value, .slice qf F.args.length df] tEx))
                replace Ka := Lib.hid ((hE.below.block _ (lt_of_block Ka.out)).trans Ka.out)
                replace Kb := Lib.hid ((hE.below.block _ (lt_of_block Kb.out)).trans Kb.out)
                replace HAf := Lib.hid (HAf.out.below hE)
                replace HX := Lib.hid (Ext.trans HX.out hE)
                clear hE
                by_cases hzz : zz = 0
                · subst hzz
                  obtain ⟨hty, hev⟩ := HSN.out.2 rfl
                  have CEFF := Lib.hid (fun q d W (hF : Ex.At W q F) (h : Ext w W) => show Gives Tryz.prog 25 #[.agg #[.int .i64 F.kind, .int .i64 F.op, sV F.name, .int .i64 F.value, .slice q F.args.length d], .slice pb lb cb] W (.tuple #[.int .i64 (evR ms e).1, .int .i64 (evR ms e).2]) from hev ▸ CEF.out F q d W hF h)
                  have CTFF := Lib.hid (fun q d W (hF : Ex.At W q F) (h : Ext w W) => show Gives Tryz.prog 12 #[.agg #[.int .i64 F.kind, .int .i64 F.op, sV F.name, .int .i64 F.value, .slice q F.args.length d], .slice pb lb cb] W (.tuple #[.int .i64 (tyR ms e).1, .int .i64 (tyR ms e).2]) from hty ▸ CTF.out F q d W hF h)
                  have CEMM := Lib.hid (CEM.out ms)
                  have CTMM := Lib.hid (CTM.out ms)
                  clear hty hev HSN CEF CTF CEM CTM
                  generalize (evR ms e).1 = e0 at *
                  generalize (evR ms e).2 = e1 at *
                  generalize (tyR ms e).1 = y0 at *
                  generalize (tyR ms e).2 = y1 at *
                  go_wp2_with fail
                  refine (CBN.out _ HX.out).mono ?_
                  rintro _ w8 ⟨vm, rfl, hrm, hE⟩
                  replace hE : Ext _ w8 := hE
                  clear a0 a1 a2 a3 a4 a5 lta
                  clear b0 b1 b2 b3 b4 b5 ltb
                  replace Ka := Lib.hid ((hE.below.block _ (lt_of_block Ka.out)).trans Ka.out)
                  replace Kb := Lib.hid ((hE.below.block _ (lt_of_block Kb.out)).trans Kb.out)
                  replace Kf := Lib.hid ((hE.below.block _ (lt_of_block Kf.out)).trans Kf.out)
                  replace HAf := Lib.hid (HAf.out.below hE)
                  replace HX := Lib.hid (Ext.trans HX.out hE)
                  obtain ⟨pm, cm, rfl, hbm⟩ := hrm.at (HFN.out.1 H40.out) HFN.out.2
                  have HBM := Lib.hid hbm
                  clear hrm hbm
                  clear hE
                  obtain ⟨a0, a1, a2, a3, a4, a5⟩ := box5z Ka.out
                  have lta := lt_of_block Ka.out
                  obtain ⟨b0, b1, b2, b3, b4, b5⟩ := box5z Kb.out
                  have ltb := lt_of_block Kb.out
                  obtain ⟨f0, f1, f2, f3, f4, f5⟩ := box5z Kf.out
                  have ltf := lt_of_block Kf.out
                  go_wp2_with fail
                  refine (CEFF.out _ _ _ HAf.out HX.out).mono ?_
                  intro w9 hE
                  replace hE : Ext _ w9 := hE
                  clear a0 a1 a2 a3 a4 a5 lta
                  clear b0 b1 b2 b3 b4 b5 ltb
                  clear f0 f1 f2 f3 f4 f5 ltf
                  replace Ka := Lib.hid ((hE.below.block _ (lt_of_block Ka.out)).trans Ka.out)
                  replace Kb := Lib.hid ((hE.below.block _ (lt_of_block Kb.out)).trans Kb.out)
                  replace Kf := Lib.hid ((hE.below.block _ (lt_of_block Kf.out)).trans Kf.out)
                  replace HAf := Lib.hid (HAf.out.below hE)
                  replace HBM := Lib.hid (HBM.out.below hE)
                  replace HX := Lib.hid (Ext.trans HX.out hE)
                  clear hE
                  obtain ⟨a0, a1, a2, a3, a4, a5⟩ := box5z Ka.out
                  have lta := lt_of_block Ka.out
                  obtain ⟨b0, b1, b2, b3, b4, b5⟩ := box5z Kb.out
                  have ltb := lt_of_block Kb.out
                  obtain ⟨f0, f1, f2, f3, f4, f5⟩ := box5z Kf.out
                  have ltf := lt_of_block Kf.out
                  go_wp2_with fail
                  refine (CEMM.out _ _ _ HX.out HBM.out).mono ?_
                  intro w10 hE
                  replace hE : Ext _ w10 := hE
                  clear a0 a1 a2 a3 a4 a5 lta
                  clear b0 b1 b2 b3 b4 b5 ltb
                  clear f0 f1 f2 f3 f4 f5 ltf
                  replace Ka := Lib.hid ((hE.below.block _ (lt_of_block Ka.out)).trans Ka.out)
                  replace Kb := Lib.hid ((hE.below.block _ (lt_of_block Kb.out)).trans Kb.out)
                  replace Kf := Lib.hid ((hE.below.block _ (lt_of_block Kf.out)).trans Kf.out)
                  replace HAf := Lib.hid (HAf.out.below hE)
                  replace HBM := Lib.hid (HBM.out.below hE)
                  replace HX := Lib.hid (Ext.trans HX.out hE)
                  clear hE
                  obtain ⟨a0, a1, a2, a3, a4, a5⟩ := box5z Ka.out
                  have lta := lt_of_block Ka.out
                  obtain ⟨b0, b1, b2, b3, b4, b5⟩ := box5z Kb.out
                  have ltb := lt_of_block Kb.out
                  obtain ⟨f0, f1, f2, f3, f4, f5⟩ := box5z Kf.out
                  have ltf := lt_of_block Kf.out
                  go_wp2_with fail
                  refine (CTFF.out _ _ _ HAf.out HX.out).mono ?_
                  intro w11 hE
                  replace hE : Ext _ w11 := hE
                  clear a0 a1 a2 a3 a4 a5 lta
                  clear b0 b1 b2 b3 b4 b5 ltb
                  clear f0 f1 f2 f3 f4 f5 ltf
                  replace Ka := Lib.hid ((hE.below.block _ (lt_of_block Ka.out)).trans Ka.out)
                  replace Kb := Lib.hid ((hE.below.block _ (lt_of_block Kb.out)).trans Kb.out)
                  replace Kf := Lib.hid ((hE.below.block _ (lt_of_block Kf.out)).trans Kf.out)
                  replace HAf := Lib.hid (HAf.out.below hE)
                  replace HBM := Lib.hid (HBM.out.below hE)
                  replace HX := Lib.hid (Ext.trans HX.out hE)
                  clear hE
                  obtain ⟨a0, a1, a2, a3, a4, a5⟩ := box5z Ka.out
                  have lta := lt_of_block Ka.out
                  obtain ⟨b0, b1, b2, b3, b4, b5⟩ := box5z Kb.out
                  have ltb := lt_of_block Kb.out
                  obtain ⟨f0, f1, f2, f3, f4, f5⟩ := box5z Kf.out
                  have ltf := lt_of_block Kf.out
                  go_wp2_with fail
                  refine (CTMM.out _ _ _ HX.out HBM.out).mono ?_
                  intro w12 hE
                  replace hE : Ext _ w12 := hE
                  clear a0 a1 a2 a3 a4 a5 lta
                  clear b0 b1 b2 b3 b4 b5 ltb
                  clear f0 f1 f2 f3 f4 f5 ltf
                  replace Ka := Lib.hid ((hE.below.block _ (lt_of_block Ka.out)).trans Ka.out)
                  replace Kb := Lib.hid ((hE.below.block _ (lt_of_block Kb.out)).trans Kb.out)
                  replace Kf := Lib.hid ((hE.below.block _ (lt_of_block Kf.out)).trans Kf.out)
                  replace HAf := Lib.hid (HAf.out.below hE)
                  replace HBM := Lib.hid (HBM.out.below hE)
                  replace HX := Lib.hid (Ext.trans HX.out hE)
                  clear hE
                  obtain ⟨a0, a1, a2, a3, a4, a5⟩ := box5z Ka.out
                  have lta := lt_of_block Ka.out
                  obtain ⟨b0, b1, b2, b3, b4, b5⟩ := box5z Kb.out
                  have ltb := lt_of_block Kb.out
                  obtain ⟨f0, f1, f2, f3, f4, f5⟩ := box5z Kf.out
                  have ltf := lt_of_block Kf.out
                  go_wp2_with fail
                  refine (CA.out _).mono ?_
                  intro w13 hE
                  replace hE : Ext _ w13 := hE
                  clear a0 a1 a2 a3 a4 a5 lta
                  clear b0 b1 b2 b3 b4 b5 ltb
                  clear f0 f1 f2 f3 f4 f5 ltf
                  replace Ka := Lib.hid ((hE.below.block _ (lt_of_block Ka.out)).trans Ka.out)
                  replace Kb := Lib.hid ((hE.below.block _ (lt_of_block Kb.out)).trans Kb.out)
                  replace Kf := Lib.hid ((hE.below.block _ (lt_of_block Kf.out)).trans Kf.out)
                  replace HAf := Lib.hid (HAf.out.below hE)
                  replace HBM := Lib.hid (HBM.out.below hE)
                  replace HX := Lib.hid (Ext.trans HX.out hE)
                  clear hE
                  obtain ⟨a0, a1, a2, a3, a4, a5⟩ := box5z Ka.out
                  have lta := lt_of_block Ka.out
                  obtain ⟨b0, b1, b2, b3, b4, b5⟩ := box5z Kb.out
                  have ltb := lt_of_block Kb.out
                  obtain ⟨f0, f1, f2, f3, f4, f5⟩ := box5z Kf.out
                  have ltf := lt_of_block Kf.out
                  clear a0 a1 a2 a3 a4 a5 lta
                  clear b0 b1 b2 b3 b4 b5 ltb
                  clear f0 f1 f2 f3 f4 f5 ltf
                  go_wp2
                  go_ret
                  exact ⟨rfl, HX.out⟩
                · have h422 := HSN.out.1 hzz
                  rcases h422 with rfl | rfl
                  · clear hzz
                    go_wp2_with fail
                    refine (CA.out _).mono ?_
                    intro w8 hE
                    replace hE : Ext _ w8 := hE
                    clear a0 a1 a2 a3 a4 a5 lta
                    clear b0 b1 b2 b3 b4 b5 ltb
                    replace Ka := Lib.hid ((hE.below.block _ (lt_of_block Ka.out)).trans Ka.out)
                    replace Kb := Lib.hid ((hE.below.block _ (lt_of_block Kb.out)).trans Kb.out)
                    replace Kf := Lib.hid ((hE.below.block _ (lt_of_block Kf.out)).trans Kf.out)
                    replace HAf := Lib.hid (HAf.out.below hE)
                    replace HX := Lib.hid (Ext.trans HX.out hE)
                    clear hE
                    obtain ⟨a0, a1, a2, a3, a4, a5⟩ := box5z Ka.out
                    have lta := lt_of_block Ka.out
                    obtain ⟨b0, b1, b2, b3, b4, b5⟩ := box5z Kb.out
                    have ltb := lt_of_block Kb.out
                    obtain ⟨f0, f1, f2, f3, f4, f5⟩ := box5z Kf.out
                    have ltf := lt_of_block Kf.out
                    clear a0 a1 a2 a3 a4 a5 lta
                    clear b0 b1 b2 b3 b4 b5 ltb
                    clear f0 f1 f2 f3 f4 f5 ltf
                    go_wp2
                    go_ret
                    exact ⟨rfl, HX.out⟩
                  · clear hzz
                    go_wp2_with fail
                    refine (CA.out _).mono ?_
                    intro w8 hE
                    replace hE : Ext _ w8 := hE
                    clear a0 a1 a2 a3 a4 a5 lta
                    clear b0 b1 b2 b3 b4 b5 ltb
                    replace Ka := Lib.hid ((hE.below.block _ (lt_of_block Ka.out)).trans Ka.out)
                    replace Kb := Lib.hid ((hE.below.block _ (lt_of_block Kb.out)).trans Kb.out)
                    replace Kf := Lib.hid ((hE.below.block _ (lt_of_block Kf.out)).trans Kf.out)
                    replace HAf := Lib.hid (HAf.out.below hE)
                    replace HX := Lib.hid (Ext.trans HX.out hE)
                    clear hE
                    obtain ⟨a0, a1, a2, a3, a4, a5⟩ := box5z Ka.out
                    have lta := lt_of_block Ka.out
                    obtain ⟨b0, b1, b2, b3, b4, b5⟩ := box5z Kb.out
                    have ltb := lt_of_block Kb.out
                    obtain ⟨f0, f1, f2, f3, f4, f5⟩ := box5z Kf.out
                    have ltf := lt_of_block Kf.out
                    clear a0 a1 a2 a3 a4 a5 lta
                    clear b0 b1 b2 b3 b4 b5 ltb
                    clear f0 f1 f2 f3 f4 f5 ltf
                    go_wp2
                    go_ret
                    exact ⟨rfl, HX.out⟩
            · have ht2 : (t1 == 0) = false := by simpa using ht1
              have ht3 : (t1 != 0) = true := by simpa using ht1
              clear ht1
              go_wp2_with fail
              refine (CA.out _).mono ?_
              intro w7 hE
              replace hE : Ext _ w7 := hE
              clear a0 a1 a2 a3 a4 a5 lta
              clear b0 b1 b2 b3 b4 b5 ltb
              replace Ka := Lib.hid ((hE.below.block _ (lt_of_block Ka.out)).trans Ka.out)
              replace Kb := Lib.hid ((hE.below.block _ (lt_of_block Kb.out)).trans Kb.out)
              replace HSR := Lib.hid (HSR.out.below hE)
              replace HX := Lib.hid (Ext.trans HX.out hE)
              clear hE
              obtain ⟨a0, a1, a2, a3, a4, a5⟩ := box5z Ka.out
              have lta := lt_of_block Ka.out
              obtain ⟨b0, b1, b2, b3, b4, b5⟩ := box5z Kb.out
              have ltb := lt_of_block Kb.out
              clear a0 a1 a2 a3 a4 a5 lta
              clear b0 b1 b2 b3 b4 b5 ltb
              go_wp2
              go_ret
              exact ⟨rfl, HX.out⟩
          · have hr2 : (r1 == 0) = false := by simpa using hr1
            have hr3 : (r1 != 0) = true := by simpa using hr1
            clear hr1
            go_wp2_with fail
            refine (CA.out _).mono ?_
            intro w7 hE
            replace hE : Ext _ w7 := hE
            clear a0 a1 a2 a3 a4 a5 lta
            clear b0 b1 b2 b3 b4 b5 ltb
            replace Ka := Lib.hid ((hE.below.block _ (lt_of_block Ka.out)).trans Ka.out)
            replace Kb := Lib.hid ((hE.below.block _ (lt_of_block Kb.out)).trans Kb.out)
            replace HSR := Lib.hid (HSR.out.below hE)
            replace HX := Lib.hid (Ext.trans HX.out hE)
            clear hE
            obtain ⟨a0, a1, a2, a3, a4, a5⟩ := box5z Ka.out
            have lta := lt_of_block Ka.out
            obtain ⟨b0, b1, b2, b3, b4, b5⟩ := box5z Kb.out
            have ltb := lt_of_block Kb.out
            clear a0 a1 a2 a3 a4 a5 lta
            clear b0 b1 b2 b3 b4 b5 ltb
            go_wp2
            go_ret
            exact ⟨rfl, HX.out⟩

end Go.Proofs.YtgkalcboklhdgaaGreatDoor

namespace Go.Proofs.YtgkalcboklhdgaaGreatDoor.exprSubstitute
open Go.ChangeShapes Go.WideShapes Go.ChangeAt Go.RowKit
open Go.ChangeMaps (open_string shut_string)
set_option linter.unusedVariables false

theorem own : ownKnob Tryz.prog.godebug = none := by kernel_rfl
theorem laidOut : laidOutB Tryz.prog = true := by kernel_rfl
/-- the cells of a datum of plain values -/
def flat : Nat → DataW Unit → List Value
  | _, .lit l => [l.value]
  | n + 1, .agg ps => ps.flatMap (flat n)
  | _, _ => []
/-- a world for the witness: the settled one, the listed tables holding what the text lays -/
def lay (d : DataW Unit) : Obj → Obj
  | .cells _ t frozen => .cells (flat 4 d).toArray t frozen
  | o => o
noncomputable def laidWorld (os : Os) : World :=
  { World.holding Tryz.prog os ⟨#[], #[], []⟩ with heap := ((((World.holding Tryz.prog os ⟨#[], #[], []⟩).heap.modify 1 (lay Rows.laid_math_bits_deBruijn32tab)).modify 2 (lay Rows.laid_math_bits_deBruijn64tab)).modify 0 (lay Rows.laid_internal_strconv_uint64pow10)) }
theorem laid_met (os : Os) : laidMet Tryz.prog Rows.exprSubstituteRow.laid ((laidWorld os).forCall (fun _ _ => 0) ⟨#[], #[.agg #[.int .i64 0, .int .i64 0, .string ByteArray.empty, .int .i64 0, .slice none 0 0], .agg #[.int .i64 0, .int .i64 0, .string ByteArray.empty, .int .i64 0, .slice none 0 0], .slice none 0 0, .int .u8 0], []⟩).memory :=
  laidMet_of_run' 8 (by kernel_rfl) (by kernel_rfl)
theorem reads (os : Os) {H : Type} (enc : TypeId × Value → H) : ∃ places, DataW.whole enc Tryz.prog ((laidWorld os).forCall (fun _ _ => 0) ⟨#[], #[.agg #[.int .i64 0, .int .i64 0, .string ByteArray.empty, .int .i64 0, .slice none 0 0], .agg #[.int .i64 0, .int .i64 0, .string ByteArray.empty, .int .i64 0, .slice none 0 0], .slice none 0 0, .int .u8 0], []⟩).memory Tryz.f5.params.toList Rows.exprSubstituteSpec.vars false (#[.agg #[.int .i64 0, .int .i64 0, .string ByteArray.empty, .int .i64 0, .slice none 0 0], .agg #[.int .i64 0, .int .i64 0, .string ByteArray.empty, .int .i64 0, .slice none 0 0], .slice none 0 0, .int .u8 0] : Array Value).toList 8 = some ([.agg [.lit (.int .i64 0), .lit (.int .i64 0), .lit (.string []), .lit (.int .i64 0), .nil], .agg [.lit (.int .i64 0), .lit (.int .i64 0), .lit (.string []), .lit (.int .i64 0), .nil], .nil, .lit (.int .u8 0)], [], places) :=
  ⟨[], by kernel_rfl⟩
theorem tab (W : World) (h : laidMetH Tryz.prog Rows.exprSubstituteRow.laid W) : TabW W := by
  have h1 : laidMet Tryz.prog Rows.exprSubstituteRow.laid W := h
  exact Lib.tabIs_of_head (g := 0) (t := 141) (e := 123) (n := 20) (by kernel_rfl) (by kernel_rfl) Tryz.underlying141 Tryz.underlying123 (by kernel_rfl) (by kernel_rfl) h1.tail.tail
set_option maxRecDepth 100000 in
theorem contract (H : Type) (enc : TypeId × Value → H) (W : World) (base : Nat) (args : Array Value) (ds gs : List (DataW H)) (before : List MemPlace)
    (hval0 : ∀ (j : Nat) t v, Tryz.f5.params[j]? = some t → args[j]? = some v → Value.okWide Tryz.prog W .any base t v)
    (hW : DataW.Whole enc Tryz.prog Tryz.f5.params.toList Rows.exprSubstituteSpec.vars false W args.toList ds gs before) (hz : (DataW.weightsEach Tryz.prog (Tryz.f5.params.toList ++ (OpenSpec.ofChange Rows.exprSubstituteSpec).bare.plain.varTypes Tryz.prog) (ds ++ gs)).all (· ≤ reachBytes) = true) (hL : laidMetH Tryz.prog Rows.exprSubstituteRow.laid W) :
    Calls Tryz.prog 5 args W fun e W' => ∃ v, e = .returned v ∧ Rows.exprSubstituteSpec.post enc Tryz.prog Tryz.f5 false true false false W args v W' := by
  have hval := hval0
  have hW' := hW
  obtain ⟨p, q, hA0, hV, rfl, hfz, hnd⟩ := hW
  have hA : DataW.TrodAll enc Tryz.prog W 0 (fun _ => true) true Tryz.f5.params.toList args.toList ds p := hA0
  rw [Tryz.params5] at hA hval
  obtain ⟨v0, vs0, d0, ds0, p0, q0, hargs, rfl, rfl, h0, r0⟩ := trodAll_cons hA
  obtain ⟨v1, vs1, d1, ds1, p1, q1, rfl, rfl, rfl, h1, r1⟩ := trodAll_cons r0
  obtain ⟨v2, vs2, d2, ds2, p2, q2, rfl, rfl, rfl, h2, r2⟩ := trodAll_cons r1
  obtain ⟨v3, vs3, d3, ds3, p3, q3, rfl, rfl, rfl, h3, r3⟩ := trodAll_cons r2
  obtain ⟨rfl, rfl, rfl⟩ := trodAll_nil r3
  obtain rfl : args = #[v0, v1, v2, v3] := by cases args; simp_all
  obtain ⟨rfl, rfl⟩ := trodVars_none hV
  have k0 := h0
  have lt0 : ∀ x ∈ p0, x.block < W.heap.size := by obtain ⟨m, hm⟩ := k0; exact DataW.trod_lt m _ _ _ hm
  obtain ⟨e0, pe0, ce0, rfl, w0⟩ := open_ex (hval 0 24 v0 rfl rfl) h0 (fun n hn => by have := List.all_eq_true.1 hz n (DataW.weights_mem_each (j := 0) rfl rfl n hn); simpa using this)
  have k1 := h1
  have lt1 : ∀ x ∈ p1, x.block < W.heap.size := by obtain ⟨m, hm⟩ := k1; exact DataW.trod_lt m _ _ _ hm
  obtain ⟨e1, pe1, ce1, rfl, w1⟩ := open_ex (hval 1 24 v1 rfl rfl) h1 (fun n hn => by have := List.all_eq_true.1 hz n (DataW.weights_mem_each (j := 1) rfl rfl n hn); simpa using this)
  obtain ⟨a2, len2, cap2, rfl⟩ := okWide_slice Tryz.underlying25 (hval 2 25 v2 rfl rfl)
  have k2 := h2
  have lt2 : ∀ x ∈ p2, x.block < W.heap.size := by obtain ⟨m, hm⟩ := k2; exact DataW.trod_lt m _ _ _ hm
  obtain ⟨bs2, rfl, w2⟩ := open_bns h2 (fun n hn => by have := List.all_eq_true.1 hz n (DataW.weights_mem_each (j := 2) rfl rfl n hn); simpa using this)
  obtain ⟨a3, rfl, rfl, rfl, w3⟩ := open_int Tryz.underlying5 (hval 3 5 v3 rfl rfl) h3
  clear hA0 hval0 hz
  refine (exprSubstitute_walk e0 pe0 ce0 e1 pe1 ce1 bs2 a2 cap2 a3 W w0 w1 w2 w3 (tab W hL)).mono fun W' bel => ?_
  exact ⟨_, rfl, _, _, _, [], _, [], hW', trodAll_mk1 (shut_bool Tryz.underlying4 _), (trodAll_cons_mk (Below.trod laidOut (by kernel_rfl) (of_decide_eq_true (by kernel_rfl)) k0 bel lt0) (trodAll_cons_mk (Below.trod laidOut (by kernel_rfl) (of_decide_eq_true (by kernel_rfl)) k1 bel lt1) (trodAll_cons_mk (Below.trod laidOut (by kernel_rfl) (of_decide_eq_true (by kernel_rfl)) k2 bel lt2) (trodAll_cons_mk (shut_int Tryz.underlying5 w3) trodAll_mk0)))), rfl, bel.frame _, fun h => by cases h⟩

set_option maxRecDepth 100000 in
theorem lifted (os : Os) (started : os.Started) (H : Type) (enc : TypeId × Value → H) (F : Stop.Interp) :
    ReturnsInHanded {} Tryz.checked os 5 .any ((OpenSpec.ofChange Rows.exprSubstituteSpec).preRow enc Tryz.prog Tryz.f5 Rows.exprSubstituteRow.domain false Rows.exprSubstituteRow.laid) (((OpenSpec.ofChange Rows.exprSubstituteSpec).at F).post enc Tryz.prog Tryz.f5 false true false false) := by
  obtain ⟨places, hx⟩ := reads os enc
  refine returnsInHanded_of_row (C := Tryz.checked) (s := OpenSpec.ofChange Rows.exprSubstituteSpec) own started (by kernel_rfl) Tryz.func5
    (witness_row_at (enc := enc) (C := Tryz.checked) false (laidWorld os) #[.agg #[.int .i64 0, .int .i64 0, .string ByteArray.empty, .int .i64 0, .slice none 0 0], .agg #[.int .i64 0, .int .i64 0, .string ByteArray.empty, .int .i64 0, .slice none 0 0], .slice none 0 0, .int .u8 0] rfl (by kernel_rfl) (by kernel_rfl) (by kernel_rfl)
      (OpenSpec.preRow_of_cond 8 hx (by kernel_rfl) (fun k hk => by cases hk) (by kernel_rfl) (laid_met os))) ?_
  intro W base args ds gs before hval hW _ _ hz hL hsh _
  exact contract H enc W base args ds gs before hval hW hz hL

theorem said : Rows.ExprSubstituteSaid :=
  OpenClaim.holds_of_cond 5 Tryz.f5 rfl rfl rfl rfl rfl rfl rfl ⟨rfl, rfl, rfl, rfl, rfl⟩ rfl rfl rfl rfl rfl (by kernel_rfl) Tryz.func5 (by kernel_rfl)
    (of_decide_eq_true (by kernel_rfl)) (by unfold Func.isWrapper; first | (rw [if_pos (by decide +kernel)]; kernel_rfl) | (rw [if_neg (by decide +kernel)]; exact ⟨rfl, rfl⟩))
    (fun os started H enc _ F => by rw [OpenClaim.pre_eq_preRow]; exact lifted os started H enc F)

theorem plain (f : FuncId) (fn : Func) (hf : Tryz.pinned.checked.prog.funcNamed "nursery/nurserylaw09.ExprSubstitute" = some f) (hfn : Tryz.pinned.checked.prog.funcs[f]? = some fn) :
    false = Tryz.pinned.checked.prog.looks [] ∧ ∀ (j : Nat) t, fn.params[j]? = some t → Tryz.pinned.checked.prog.wantsStandIn t = false := by
  obtain rfl : f = 5 := Option.some.inj ((show Tryz.prog.funcNamed "nursery/nurserylaw09.ExprSubstitute" = some 5 by kernel_rfl).symm.trans hf) |>.symm
  obtain rfl : fn = Tryz.f5 := (Option.some.inj (Tryz.func5.symm.trans hfn)).symm
  refine ⟨by kernel_rfl, fun j t ht => ?_⟩
  rw [Tryz.params5] at ht
  rcases j with _ | _ | _ | _ | j
  · obtain rfl : t = 24 := by simpa using ht.symm
    exact (show Tryz.prog.wantsStandIn 24 = false by kernel_rfl)
  · obtain rfl : t = 24 := by simpa using ht.symm
    exact (show Tryz.prog.wantsStandIn 24 = false by kernel_rfl)
  · obtain rfl : t = 25 := by simpa using ht.symm
    exact (show Tryz.prog.wantsStandIn 25 = false by kernel_rfl)
  · obtain rfl : t = 5 := by simpa using ht.symm
    exact (show Tryz.prog.wantsStandIn 5 = false by kernel_rfl)
  · simp at ht

/-- the statement -/
theorem proved : Rows.ExprSubstituteCardSaid :=
  Claim7.holds_tied_plain_at .later [] _ _ _ _ said (fun _ h => by cases h) (by kernel_rfl) (fun _ h => by cases h) exprSubstitute_row_tie rfl ⟨rfl, rfl⟩ (by kernel_rfl) rfl plain (by kernel_rfl)
#print axioms proved
end Go.Proofs.YtgkalcboklhdgaaGreatDoor.exprSubstitute

