/- The statement ExprTextsCardSaid: for every input the law returns true, and the arguments read as before; the tables of the library that it lists are tied to the text. The frame round the walk of the law. (With it: Plain: different valid expressions have different texts.; Plain: different valid expressions have different texts, the proof.; Plain: folding keeps the type, the value and the error; folding again changes nothing.; Plain: the type of an expression without the binding of a name.; Rows of bindings of the call's own; slices.Clone of bindings; the law's closure; slices.IndexFunc.; slices.IndexFunc with the law's closure; what DeleteFunc keeps; clear of bindings.; slices.DeleteFunc of bindings with the law's closure.; ExprTexts: the walk.) -/
import Derived.Stop.LaidErr
import Derived.Test.YtgkalcboklhdgaaGreatDoorCards
import Derived.Test.YtgkalcboklhdgaaGreatDoorTie
import Derived.WalkKit
import Derived.ProofKit
import Derived.OpenShut
import Derived.ShutString
import Derived.ChangeOld
import Derived.Below
import Derived.Deep.DeepHandedRow
import Derived.Lib.LaidTab
import Derived.Shelf.Vars
import Derived.Test.YtgkalcboklhdgaaGreatDoorPart7
import Derived.Test.YtgkalcboklhdgaaGreatDoorPart4
import Derived.Test.YtgkalcboklhdgaaGreatDoorPart6
import Derived.Test.YtgkalcboklhdgaaGreatDoorPart8

namespace Go.Proofs.YtgkalcboklhdgaaGreatDoor
set_option linter.unusedVariables false
set_option linter.unusedSimpArgs false
open Ex

/-- the depth behind a byte -/
def nx (d : Nat) (c : UInt8) : Nat := if c = 40 then d + 1 else if c = 41 then d - 1 else d
/-- a text cut at the spaces outside of brackets -/
def sp : Nat → List UInt8 → List UInt8 → List (List UInt8)
  | _, cur, [] => [cur]
  | d, cur, c :: s => if c = 32 ∧ d = 0 then cur :: sp 0 [] s else sp (nx d c) (cur ++ [c]) s
def dep : Nat → List UInt8 → Nat
  | d, [] => d
  | d, c :: s => dep (nx d c) s
theorem dep_app : ∀ (x y : List UInt8) (d : Nat), dep d (x ++ y) = dep (dep d x) y
  | [], y, d => rfl
  | c :: x, y, d => by simp only [List.cons_append, dep]; exact dep_app x y _
theorem sp_cut : ∀ (x : List UInt8) (d : Nat) (cur y : List UInt8), dep d x = 0 → sp d cur (x ++ 32 :: y) = sp d cur x ++ sp 0 [] y
  | [], d, cur, y, h => by have : d = 0 := h; subst this; simp [sp]
  | c :: x, d, cur, y, h => by
    simp only [dep] at h
    simp only [List.cons_append, sp]
    by_cases hc : c = 32 ∧ d = 0
    · obtain ⟨rfl, rfl⟩ := hc
      rw [if_pos ⟨rfl, rfl⟩, if_pos ⟨rfl, rfl⟩, sp_cut x 0 [] y h]; rfl
    · rw [if_neg hc, if_neg hc, sp_cut x _ _ y h]
theorem sp_step {d : Nat} {cur : List UInt8} {c : UInt8} {s : List UInt8} (h : ¬ (c = 32 ∧ d = 0)) : sp d cur (c :: s) = sp (nx d c) (cur ++ [c]) s := by
  simp only [sp]; rw [if_neg h]
theorem sp_cur : ∀ (x : List UInt8) (d : Nat), ∃ h t, ∀ cur, sp d cur x = (cur ++ h) :: t
  | [], d => ⟨[], [], fun cur => by simp [sp]⟩
  | c :: x, d => by
    by_cases hc : c = 32 ∧ d = 0
    · exact ⟨[], sp 0 [] x, fun cur => by simp only [sp]; rw [if_pos hc, List.append_nil]⟩
    · obtain ⟨h, t, hh⟩ := sp_cur x (nx d c)
      exact ⟨c :: h, t, fun cur => by simp only [sp]; rw [if_neg hc, hh]; simp⟩
def Safe (x : List UInt8) : Prop := ∀ d cur y, 1 ≤ d → sp d cur (x ++ y) = sp d (cur ++ x) y
def Flat (x : List UInt8) : Prop := ∀ d, dep d x = d
theorem Safe.app {x y : List UInt8} (hx : Safe x) (hy : Safe y) : Safe (x ++ y) := fun d cur z h => by
  rw [List.append_assoc, hx d cur _ h, hy d _ _ h, List.append_assoc]
theorem Flat.app {x y : List UInt8} (hx : Flat x) (hy : Flat y) : Flat (x ++ y) := fun d => by rw [dep_app, hx d, hy d]
theorem nx_plain {d : Nat} {c : UInt8} (h : c ≠ 40 ∧ c ≠ 41) : nx d c = d := by unfold nx; rw [if_neg h.1, if_neg h.2]
theorem safe_plain : ∀ (x : List UInt8), (∀ c ∈ x, c ≠ 40 ∧ c ≠ 41) → Safe x
  | [], _ => fun d cur y _ => by simp
  | c :: x, h => fun d cur y hd => by
    have hc : ¬ (c = 32 ∧ d = 0) := by omega
    simp only [List.cons_append, sp]
    rw [if_neg hc, nx_plain (h c (by simp)), safe_plain x (fun c hc => h c (List.mem_cons_of_mem _ hc)) d _ y hd]
    simp
theorem flat_plain : ∀ (x : List UInt8), (∀ c ∈ x, c ≠ 40 ∧ c ≠ 41) → Flat x
  | [], _ => fun d => rfl
  | c :: x, h => fun d => by
    simp only [dep]
    rw [nx_plain (h c (by simp))]
    exact flat_plain x (fun c hc => h c (List.mem_cons_of_mem _ hc)) d
theorem sp_one : ∀ (x : List UInt8) (d : Nat) (cur : List UInt8), (∀ c ∈ x, c ≠ 32) → sp d cur x = [cur ++ x]
  | [], d, cur, _ => by simp [sp]
  | c :: x, d, cur, h => by
    have hc : ¬ (c = 32 ∧ d = 0) := fun e => h c (by simp) e.1
    simp only [sp]
    rw [if_neg hc, sp_one x _ _ (fun c hc => h c (List.mem_cons_of_mem _ hc))]
    simp
theorem safe_br {x : List UInt8} (h : Safe x) : Safe ([40] ++ x ++ [41]) := fun d cur y hd => by
  have h1 : [40] ++ x ++ [41] ++ y = 40 :: (x ++ 41 :: y) := by simp
  have hc : ¬ ((40 : UInt8) = 32 ∧ d = 0) := by omega
  have hc2 : ¬ ((41 : UInt8) = 32 ∧ d + 1 = 0) := by omega
  rw [h1]
  simp only [sp]
  rw [if_neg hc, show nx d 40 = d + 1 from rfl, h (d + 1) _ _ (by omega)]
  simp only [sp]
  rw [if_neg hc2, show nx (d + 1) 41 = d from rfl]
  simp
theorem flat_br {x : List UInt8} (h : Flat x) : Flat ([40] ++ x ++ [41]) := fun d => by
  rw [dep_app, dep_app]
  show dep (dep (d + 1) x) [41] = d
  rw [h]; rfl
theorem sp_br {x : List UInt8} (h : Safe x) (cur : List UInt8) : sp 0 cur ([40] ++ x ++ [41]) = [cur ++ ([40] ++ x ++ [41])] := by
  have h1 : [40] ++ x ++ [41] = 40 :: (x ++ [41]) := by simp
  rw [h1, sp_step (by decide), show nx 0 40 = 1 from rfl, h 1 _ _ (by omega), sp_step (by decide)]
  simp [sp]

/-- the bytes of numerals, names and signs -/
theorem digits_bytes : ∀ (k n : Nat), n < 10 ^ k → ∀ c ∈ Lib.decDigits n, 48 ≤ c.toNat ∧ c.toNat ≤ 57 := by
  have h1 : ∀ n, n < 10 → ∀ c ∈ Lib.decDigits n, 48 ≤ c.toNat ∧ c.toNat ≤ 57 := by
    intro n hn
    have : ∀ n, n < 10 → ((Lib.decDigits n).all fun c => decide (48 ≤ c.toNat ∧ c.toNat ≤ 57)) = true := by
      intro n hn
      rw [Lib.decDigits_one hn]
      revert n
      decide
    exact fun c hc => by simpa using List.all_eq_true.1 (this n hn) c hc
  intro k
  induction k with
  | zero => intro n h; exact h1 n (by simp at h; omega)
  | succ k ih =>
    intro n h c hc
    by_cases h9 : n < 10
    · exact h1 n h9 c hc
    · rw [Lib.decDigits.eq_def, dif_neg h9, List.mem_append] at hc
      rcases hc with hc | hc
      · exact ih (n / 10) (by rw [Nat.div_lt_iff_lt_mul (by omega)]; rw [Nat.pow_succ] at h; exact h) c hc
      · have := h1 (n % 10) (by omega) c (by rw [Lib.decDigits_one (by omega)]; exact hc)
        exact this
theorem name_bytes {x : List UInt8} (h : isNm x = true) : ∃ c s, x = c :: s ∧ (97 ≤ c.toNat ∧ c.toNat ≤ 122) ∧ ∀ b ∈ x, 48 ≤ b.toNat := by
  unfold isNm at h
  rw [Bool.and_eq_true] at h
  obtain ⟨h1, h2⟩ := h
  have h1 := of_decide_eq_true h1
  have hall : ∀ j, j < x.length → okAt j (x.getD j 0) = true := by
    have : ∀ n, okTo x n = true → ∀ j, j < n → okAt j (x.getD j 0) = true := by
      intro n
      induction n with
      | zero => intro _ j hj; omega
      | succ n ih =>
        intro h j hj
        simp only [okTo, Bool.and_eq_true] at h
        by_cases e : j = n
        · subst e; exact h.2
        · exact ih h.1 j (by omega)
    exact this _ h2
  cases x with
  | nil => simp at h1
  | cons c s =>
    refine ⟨c, s, rfl, ?_, fun b hb => ?_⟩
    · have := hall 0 (by simp)
      simpa [okAt, letter] using this
    · obtain ⟨j, hj, rfl⟩ := List.getElem_of_mem hb
      have := hall j hj
      rw [List.getD_eq_getElem?_getD, List.getElem?_eq_getElem hj] at this
      simp only [Option.getD_some, okAt, letter, other, Bool.or_eq_true, Bool.and_eq_true, decide_eq_true_eq] at this
      omega
/-- what a sign begins with -/
def signOk (w : List UInt8) : Bool := match w with
  | [] => false
  | c :: s => decide (c.toNat < 48 ∨ (57 < c.toNat ∧ c.toNat < 97) ∨ 122 < c.toNat) && decide (c ≠ 40) && (decide (c ≠ 45) || s.isEmpty) && (decide (c ≠ 33) || (s == [61])) && (c :: s).all fun b => decide (b ≠ 40 ∧ b ≠ 41 ∧ b ≠ 32)
theorem sign_ok : ∀ n : Nat, n < 16 → 3 ≤ n → signOk (opOf (n : Int)).sign = true := by decide
theorem sign_inj : ∀ n : Nat, n < 16 → 3 ≤ n → ∀ m : Nat, m < 16 → 3 ≤ m → (opOf (n : Int)).sign = (opOf (m : Int)).sign → n = m := by decide
theorem sign_prec : ∀ n : Nat, n < 16 → 3 ≤ n → 1 ≤ (opOf (n : Int)).prec ∧ (opOf (n : Int)).prec ≤ 5 := by decide
/-- a text that begins as no sign does -/
def Atom (x : List UInt8) : Prop := ∃ c s, x = c :: s ∧ ((48 ≤ c.toNat ∧ c.toNat ≤ 57) ∨ (97 ≤ c.toNat ∧ c.toNat ≤ 122) ∨ c = 40 ∨ (c = 45 ∧ s ≠ []) ∨ (c = 33 ∧ ∃ b r, s = b :: r ∧ b ≠ 61))
theorem Atom.no_sign {x : List UInt8} (h : Atom x) (n : Nat) (h1 : n < 16) (h2 : 3 ≤ n) : (opOf (n : Int)).sign ≠ x := by
  intro e
  have hs := sign_ok n h1 h2
  rw [e] at hs
  obtain ⟨c, s, rfl, h⟩ := h
  simp only [signOk, Bool.and_eq_true, Bool.or_eq_true, decide_eq_true_eq] at hs
  obtain ⟨⟨⟨⟨g1, g2⟩, g3⟩, g4⟩, _⟩ := hs
  rcases h with h | h | h | ⟨h, h'⟩ | ⟨h, b, r, h', h''⟩
  · omega
  · omega
  · exact g2 h
  · rcases g3 with g | g
    · exact g h
    · exact h' (by simpa using g)
  · rcases g4 with g | g
    · exact g h
    · rw [h'] at g
      simp at g
      exact h'' g.1
/-- every sign among ws binds at least as tightly as k -/
def Lo (k : Int) (ws : List (List UInt8)) : Prop := ∀ w ∈ ws, ∀ n : Nat, n < 16 → 3 ≤ n → (opOf (n : Int)).sign = w → k ≤ (opOf (n : Int)).prec
theorem Lo.atom {x : List UInt8} (h : Atom x) (k : Int) : Lo k [x] := fun w hw n h1 h2 e => by
  obtain rfl := List.mem_singleton.1 hw
  exact absurd e (h.no_sign n h1 h2)
theorem Lo.app {k : Int} {a b : List (List UInt8)} (ha : Lo k a) (hb : Lo k b) : Lo k (a ++ b) := fun w hw => by
  rcases List.mem_append.1 hw with h | h
  · exact ha w h
  · exact hb w h
theorem Lo.mono {k k' : Int} {a : List (List UInt8)} (ha : Lo k a) (h : k' ≤ k) : Lo k' a := fun w hw n h1 h2 e => Int.le_trans h (ha w hw n h1 h2 e)
theorem Lo.sign (n : Nat) (h1 : n < 16) (h2 : 3 ≤ n) : Lo (opOf (n : Int)).prec [(opOf (n : Int)).sign] := fun w hw m g1 g2 e => by
  obtain rfl := List.mem_singleton.1 hw
  rw [sign_inj m g1 g2 n h1 h2 e]; exact Int.le_refl _
/-- the sign that binds least, the last of them -/
theorem one_main {A B A' B' : List (List UInt8)} {n m : Nat} (h1 : n < 16) (h2 : 3 ≤ n) (g1 : m < 16) (g2 : 3 ≤ m)
    (hA : Lo (opOf (n : Int)).prec A) (hB : Lo ((opOf (n : Int)).prec + 1) B) (hA' : Lo (opOf (m : Int)).prec A') (hB' : Lo ((opOf (m : Int)).prec + 1) B')
    (e : A ++ ((opOf (n : Int)).sign :: B) = A' ++ ((opOf (m : Int)).sign :: B')) : A = A' ∧ n = m ∧ B = B' := by
  rcases List.append_eq_append_iff.1 e with ⟨u, hu, hv⟩ | ⟨u, hu, hv⟩
  · cases u with
    | nil =>
      simp only [List.append_nil, List.nil_append] at hu hv
      obtain ⟨e1, e2⟩ := List.cons.inj hv
      exact ⟨hu.symm, sign_inj n h1 h2 m g1 g2 e1, e2⟩
    | cons x u =>
      exfalso
      obtain ⟨e1, e2⟩ := List.cons.inj hv
      have a1 := hA' (opOf (n : Int)).sign (by rw [hu, ← e1]; simp) n h1 h2 rfl
      have a2 := hB (opOf (m : Int)).sign (by rw [e2]; simp) m g1 g2 rfl
      omega
  · cases u with
    | nil =>
      simp only [List.append_nil, List.nil_append] at hu hv
      obtain ⟨e1, e2⟩ := List.cons.inj hv
      exact ⟨hu, (sign_inj m g1 g2 n h1 h2 e1).symm, e2.symm⟩
    | cons x u =>
      exfalso
      obtain ⟨e1, e2⟩ := List.cons.inj hv
      have a1 := hA (opOf (m : Int)).sign (by rw [hu, ← e1]; simp) m g1 g2 rfl
      have a2 := hB' (opOf (n : Int)).sign (by rw [e2]; simp) n h1 h2 rfl
      omega

end Go.Proofs.YtgkalcboklhdgaaGreatDoor

namespace Go.Proofs.YtgkalcboklhdgaaGreatDoor
set_option linter.unusedVariables false
set_option linter.unusedSimpArgs false
open Ex

/-- what is known of a text that stands in a place that asks for l -/
structure Info (l : Int) (x : List UInt8) : Prop where
  safe : Safe x
  flat : Flat x
  head : ∃ c s, x = c :: s ∧ c ≠ 61
  lo : Lo l (sp 0 [] x)
  one : 6 ≤ l → (∀ cur, sp 0 cur x = [cur ++ x]) ∧ Atom x
theorem Info.put {p : Int} {x : List UInt8} (h : Info p x) (l : Int) : Info l (brk l p x) := by
  unfold brk
  by_cases hp : p < l
  · rw [if_pos hp]
    have ha : Atom ([40] ++ x ++ [41]) := ⟨40, x ++ [41], by simp, .inr (.inr (.inl rfl))⟩
    exact ⟨safe_br h.safe, flat_br h.flat, ⟨40, x ++ [41], by simp, by decide⟩, by rw [sp_br h.safe, List.nil_append]; exact Lo.atom ha l, fun _ => ⟨sp_br h.safe, ha⟩⟩
  · rw [if_neg hp]
    exact ⟨h.safe, h.flat, h.head, h.lo.mono (by omega), fun h6 => h.one (by omega)⟩
theorem one_of {x : List UInt8} (h : sp 0 [] x = [x]) (cur : List UInt8) : sp 0 cur x = [cur ++ x] := by
  obtain ⟨a, t, ha⟩ := sp_cur x 0
  have := ha []
  rw [h, List.nil_append] at this
  obtain ⟨rfl, rfl⟩ := List.cons.inj this
  rw [ha]
theorem bin_cut {L R s : List UInt8} (hL : Flat L) (hs : ∀ c ∈ s, c ≠ 40 ∧ c ≠ 41 ∧ c ≠ 32) : sp 0 [] (L ++ [32] ++ s ++ [32] ++ R) = sp 0 [] L ++ (s :: sp 0 [] R) := by
  have e : L ++ [32] ++ s ++ [32] ++ R = L ++ 32 :: (s ++ 32 :: R) := by simp
  rw [e, sp_cut L 0 [] _ (hL 0), sp_cut s 0 [] _ (flat_plain s (fun c hc => ⟨(hs c hc).1, (hs c hc).2.1⟩) 0), sp_one s 0 [] (fun c hc => (hs c hc).2.2)]
  simp
theorem sign_bytes (n : Nat) (h1 : n < 16) (h2 : 3 ≤ n) : ∀ c ∈ (opOf (n : Int)).sign, c ≠ 40 ∧ c ≠ 41 ∧ c ≠ 32 := by
  have h := sign_ok n h1 h2
  unfold signOk at h
  intro c hc
  generalize (opOf (n : Int)).sign = w at *
  cases w with
  | nil => cases hc
  | cons x s =>
    simp only [Bool.and_eq_true] at h
    simpa using List.all_eq_true.1 h.2 c hc
theorem decI_bytes {v : Int} (h2 : v ≤ 1099511627776) : ∀ c ∈ decI v, 48 ≤ c.toNat ∧ c.toNat ≤ 57 := digits_bytes 13 v.toNat (by omega)
theorem digits_ne (n : Nat) : ∃ c s, Lib.decDigits n = c :: s := by
  cases h : Lib.decDigits n with
  | nil =>
    exfalso
    by_cases h9 : n < 10
    · rw [Lib.decDigits_one h9] at h; cases h
    · rw [Lib.decDigits.eq_def, dif_neg h9] at h; simp at h
  | cons c s => exact ⟨c, s, rfl⟩
theorem plain_of {x : List UInt8} (h : ∀ c ∈ x, 48 ≤ c.toNat) : (∀ c ∈ x, c ≠ 40 ∧ c ≠ 41) ∧ ∀ c ∈ x, c ≠ 32 := by
  constructor
  · intro c hc
    have := h c hc
    constructor <;> (rintro rfl; simp at this)
  · intro c hc
    have := h c hc
    rintro rfl; simp at this

theorem txt_un (o : Int) (t : Ex) : txt decI (.mk 3 o [] 0 [t]) = (if o = 1 then [45] else [33]) ++ brk 6 (prec t) (txt decI t) := by simp [txt, txts]
theorem txt_bin (o : Int) (t u : Ex) : txt decI (.mk 4 o [] 0 [t, u]) = brk (if (opOf o).prec = 3 then 4 else (opOf o).prec) (prec t) (txt decI t) ++ [32] ++ (opOf o).sign ++ [32] ++ brk ((opOf o).prec + 1) (prec u) (txt decI u) := by simp [txt, txts]
theorem prec_le {o : Int} (h1 : 3 ≤ o) (h2 : o ≤ 15) : ∃ n : Nat, o = n ∧ n < 16 ∧ 3 ≤ n := ⟨o.toNat, by omega, by omega, by omega⟩
/-- the kind, read off a text -/
def headK : List UInt8 → Int
  | [] => 0
  | c :: _ => if c = 40 then 5 else if c.toNat ≤ 47 then 3 else if c.toNat ≤ 57 then 1 else 2
def kindT (x : List UInt8) : Int := if (sp 0 [] x).length ≠ 1 then 4 else headK x
theorem kindT_one {x : List UInt8} (h : sp 0 [] x = [x]) : kindT x = headK x := by
  unfold kindT
  rw [if_neg (by simp [h])]
theorem txt_info : ∀ (n : Nat) (e : Ex), e.size ≤ n → e.fe = 0 → Info (prec e) (txt decI e) ∧ kindT (txt decI e) = e.kind := by
  intro n
  induction n with
  | zero => intro e he; have := e.size_pos; omega
  | succ n ih =>
    intro e he hfe
    obtain ⟨k, o, nm, v, ts⟩ := e
    obtain ⟨hpc, hfes⟩ := fe_mk hfe
    rcases pc_zero hpc with ⟨rfl, rfl, rfl, hm, hv1, hv2⟩ | ⟨rfl, rfl, rfl, hm, hnm⟩ | ⟨rfl, rfl, rfl, hm, ho⟩ | ⟨rfl, rfl, rfl, hm, ho1, ho2⟩
    · obtain rfl := List.eq_nil_of_length_eq_zero hm
      have HT : txt decI (.mk 1 0 [] v []) = decI v := by simp [txt]
      rw [HT]
      have hb := decI_bytes hv2
      obtain ⟨hp1, hp2⟩ := plain_of (fun c hc => (hb c hc).1)
      obtain ⟨c, s, hcs⟩ := digits_ne v.toNat
      have hcs : decI v = c :: s := hcs
      have hc := hb c (by rw [hcs]; simp)
      have h1 : ∀ cur, sp 0 cur (decI v) = [cur ++ decI v] := fun cur => sp_one _ _ _ hp2
      have ha : Atom (decI v) := ⟨c, s, hcs, .inl hc⟩
      refine ⟨⟨safe_plain _ hp1, flat_plain _ hp1, ⟨c, s, hcs, by rintro rfl; simp at hc⟩, by rw [h1]; exact Lo.atom ha _, fun _ => ⟨h1, ha⟩⟩, ?_⟩
      rw [kindT_one (h1 []), hcs]
      show (if c = 40 then (5 : Int) else _) = 1
      rw [if_neg (by rintro rfl; simp at hc), if_neg (by omega), if_pos hc.2]
    · obtain rfl := List.eq_nil_of_length_eq_zero hm
      have HT : txt decI (.mk 2 0 nm 0 []) = nm := by simp [txt]
      rw [HT]
      obtain ⟨c, s, hcs, hc, hb⟩ := name_bytes hnm
      obtain ⟨hp1, hp2⟩ := plain_of hb
      have h1 : ∀ cur, sp 0 cur nm = [cur ++ nm] := fun cur => sp_one _ _ _ hp2
      have ha : Atom nm := ⟨c, s, hcs, .inr (.inl hc)⟩
      refine ⟨⟨safe_plain _ hp1, flat_plain _ hp1, ⟨c, s, hcs, by rintro rfl; simp at hc⟩, by rw [h1]; exact Lo.atom ha _, fun _ => ⟨h1, ha⟩⟩, ?_⟩
      rw [kindT_one (h1 []), hcs]
      show (if c = 40 then (5 : Int) else _) = 2
      rw [if_neg (by rintro rfl; simp at hc), if_neg (by omega), if_neg (by omega)]
    · obtain ⟨t, rfl⟩ := len1 hm
      have hft : t.fe = 0 := by simpa using fes_get hfes 0 (by simp)
      have hsz : t.size ≤ n := by simp only [Ex.size, Ex.sizes] at he; omega
      have hI := (ih t hsz hft).1.put 6
      rw [txt_un]
      generalize brk 6 (prec t) (txt decI t) = x at *
      obtain ⟨c, s, hcs, hc⟩ := hI.head
      have h1 := (hI.one (by omega)).1
      have go : ∀ b : UInt8, (b = 45 ∨ b = 33) → Info 6 ([b] ++ x) ∧ kindT ([b] ++ x) = 3 := by
        intro b hb
        have hb1 : b ≠ 40 ∧ b ≠ 41 := by rcases hb with rfl | rfl <;> decide
        have hb2 : b ≠ 32 := by rcases hb with rfl | rfl <;> decide
        have hw : sp 0 [] ([b] ++ x) = [[b] ++ x] := by
          show sp 0 [] (b :: x) = _
          rw [sp_step (fun e => hb2 e.1), nx_plain hb1, h1]
          rfl
        have ha : Atom ([b] ++ x) := ⟨b, x, rfl, by
          rcases hb with rfl | rfl
          · exact .inr (.inr (.inr (.inl ⟨rfl, by rw [hcs]; simp⟩)))
          · exact .inr (.inr (.inr (.inr ⟨rfl, c, s, hcs, hc⟩)))⟩
        refine ⟨⟨(safe_plain [b] (by simpa using hb1)).app hI.safe, (flat_plain [b] (by simpa using hb1)).app hI.flat, ⟨b, x, rfl, by rcases hb with rfl | rfl <;> decide⟩, by rw [hw]; exact Lo.atom ha _, fun _ => ⟨one_of hw, ha⟩⟩, ?_⟩
        rw [kindT_one hw]
        rcases hb with rfl | rfl <;> rfl
      rcases ho with rfl | rfl
      · exact go 45 (.inl rfl)
      · exact go 33 (.inr rfl)
    · obtain ⟨t, u, rfl⟩ := len2 hm
      have hft : t.fe = 0 := by simpa using fes_get hfes 0 (by simp)
      have hfu : u.fe = 0 := by simpa using fes_get hfes 1 (by simp)
      have hsz : t.size ≤ n := by simp only [Ex.size, Ex.sizes] at he; omega
      have hsz2 : u.size ≤ n := by simp only [Ex.size, Ex.sizes] at he; omega
      obtain ⟨m, rfl, hm1, hm2⟩ := prec_le ho1 ho2
      have hL := (ih t hsz hft).1.put (if (opOf (m : Int)).prec = 3 then 4 else (opOf (m : Int)).prec)
      have hR := (ih u hsz2 hfu).1.put ((opOf (m : Int)).prec + 1)
      rw [txt_bin]
      obtain ⟨hp1, hp2⟩ := sign_prec m hm1 hm2
      have hs := sign_bytes m hm1 hm2
      have hls := Lo.sign m hm1 hm2
      generalize brk (if (opOf (m : Int)).prec = 3 then 4 else (opOf (m : Int)).prec) (prec t) (txt decI t) = L at *
      generalize brk ((opOf (m : Int)).prec + 1) (prec u) (txt decI u) = R at *
      have hpe : prec (.mk 4 (m : Int) [] 0 [t, u]) = (opOf (m : Int)).prec := by simp [prec, Ex.kind, Ex.op]
      rw [hpe]
      have hw := bin_cut (R := R) hL.flat hs
      have hp32 : ∀ c ∈ [(32 : UInt8)], c ≠ 40 ∧ c ≠ 41 := by decide
      have hss : ∀ c ∈ (opOf (m : Int)).sign, c ≠ 40 ∧ c ≠ 41 := fun c hc => ⟨(hs c hc).1, (hs c hc).2.1⟩
      have hlo : (opOf (m : Int)).prec ≤ (if (opOf (m : Int)).prec = 3 then 4 else (opOf (m : Int)).prec) := by split <;> omega
      refine ⟨⟨(((hL.safe.app (safe_plain _ hp32)).app (safe_plain _ hss)).app (safe_plain _ hp32)).app hR.safe, (((hL.flat.app (flat_plain _ hp32)).app (flat_plain _ hss)).app (flat_plain _ hp32)).app hR.flat, ?_, ?_, fun h6 => by omega⟩, ?_⟩
      · obtain ⟨c, s, hcs, hc⟩ := hL.head
        exact ⟨c, s ++ [32] ++ (opOf (m : Int)).sign ++ [32] ++ R, by rw [hcs]; simp, hc⟩
      · rw [hw]
        exact (hL.lo.mono hlo).app (Lo.app (a := [_]) hls (hR.lo.mono (by omega)))
      · unfold kindT
        rw [hw, if_pos]
        · rfl
        · obtain ⟨h, t', hh⟩ := sp_cur L 0
          rw [hh]
          simp only [List.length_append, List.length_cons]
          omega

/-- put together again -/
def joinS : List (List UInt8) → List UInt8
  | [] => []
  | [w] => w
  | w :: v :: ws => w ++ 32 :: joinS (v :: ws)
theorem sp_join : ∀ (x : List UInt8) (d : Nat) (cur : List UInt8), joinS (sp d cur x) = cur ++ x
  | [], d, cur => by simp [sp, joinS]
  | c :: x, d, cur => by
    by_cases hc : c = 32 ∧ d = 0
    · obtain ⟨rfl, rfl⟩ := hc
      simp only [sp]
      rw [if_pos (by simp)]
      have ih := sp_join x 0 []
      obtain ⟨h, t, hh⟩ := sp_cur x 0
      rw [hh] at ih ⊢
      simp only [joinS]
      rw [ih]; simp
    · rw [sp_step hc, sp_join x]; simp
theorem sp_inj {x y : List UInt8} (h : sp 0 [] x = sp 0 [] y) : x = y := by
  have h1 := sp_join x 0 []
  rw [h, sp_join y] at h1
  simpa using h1.symm
theorem digits_inj : ∀ (k m n : Nat), m < 10 ^ k → Lib.decDigits m = Lib.decDigits n → m = n := by
  have two : ∀ n, ¬ n < 10 → 2 ≤ (Lib.decDigits n).length := by
    intro n h
    obtain ⟨c, s, e⟩ := digits_ne (n / 10)
    rw [Lib.decDigits.eq_def, dif_neg h, e]; simp
  have one : ∀ m n, m < 10 → n < 10 → UInt8.ofNat (48 + m) = UInt8.ofNat (48 + n) → m = n := by
    intro m n hm hn e
    have := congrArg UInt8.toNat e
    simp at this
    omega
  intro k
  induction k with
  | zero =>
    intro m n hm e
    have : m = 0 := by simpa using hm
    subst this
    by_cases hn : n < 10
    · rw [Lib.decDigits_one (by omega), Lib.decDigits_one hn] at e
      exact one 0 n (by omega) hn (List.cons.inj e).1
    · have := two n hn
      rw [← e, Lib.decDigits_one (by omega)] at this
      simp at this
  | succ k ih =>
    intro m n hm e
    by_cases h1 : m < 10
    · by_cases hn : n < 10
      · rw [Lib.decDigits_one h1, Lib.decDigits_one hn] at e
        exact one m n h1 hn (List.cons.inj e).1
      · have := two n hn
        rw [← e, Lib.decDigits_one h1] at this
        simp at this
    · by_cases hn : n < 10
      · have := two m h1
        rw [e, Lib.decDigits_one hn] at this
        simp at this
      · rw [Lib.decDigits.eq_def m, Lib.decDigits.eq_def n, dif_neg h1, dif_neg hn] at e
        obtain ⟨e1, e2⟩ := List.append_inj' e rfl
        have h3 := ih (m / 10) (n / 10) (by rw [Nat.div_lt_iff_lt_mul (by omega)]; rw [Nat.pow_succ] at hm; exact hm) e1
        have h4 := one (m % 10) (n % 10) (by omega) (by omega) (List.cons.inj e2).1
        omega

theorem txt_inj : ∀ (n : Nat) (a : Ex), a.size ≤ n → ∀ b : Ex, a.fe = 0 → b.fe = 0 → txt decI a = txt decI b → a = b := by
  intro n
  induction n with
  | zero => intro e he; have := e.size_pos; omega
  | succ n ih =>
    intro a ha b hfa hfb heq
    have hk : a.kind = b.kind := by rw [← (txt_info _ a (Nat.le_refl _) hfa).2, heq]; exact (txt_info _ b (Nat.le_refl _) hfb).2
    have BI : ∀ (l : Int) (t t' : Ex), t.size ≤ n → t.fe = 0 → t'.fe = 0 → brk l (prec t) (txt decI t) = brk l (prec t') (txt decI t') → t = t' := by
      intro l t t' hs h h' e
      have hc : ∀ (x : List UInt8) (u : Ex), Safe x → u.fe = 0 → [40] ++ x ++ [41] = txt decI u → False := by
        intro x u hx hu e
        have hku := (txt_info _ u (Nat.le_refl _) hu).2
        rw [← e] at hku
        have : kindT ([40] ++ x ++ [41]) = 5 := by
          rw [kindT_one (by rw [sp_br hx, List.nil_append])]; rfl
        rw [this] at hku
        obtain ⟨k, o, nm, v, ts⟩ := u
        have hku : (5 : Int) = k := hku
        rcases pc_zero (fe_mk hu).1 with ⟨h0, _⟩ | ⟨h0, _⟩ | ⟨h0, _⟩ | ⟨h0, _⟩ <;> omega
      have hI := (txt_info _ t (Nat.le_refl _) h).1
      have hI' := (txt_info _ t' (Nat.le_refl _) h').1
      unfold brk at e
      by_cases h1 : prec t < l
      · by_cases h2 : prec t' < l
        · rw [if_pos h1, if_pos h2] at e
          have e2 := List.append_cancel_right e
          exact ih t hs t' h h' (List.append_cancel_left e2)
        · rw [if_pos h1, if_neg h2] at e
          exact (hc _ _ hI.safe h' e).elim
      · by_cases h2 : prec t' < l
        · rw [if_neg h1, if_pos h2] at e
          exact (hc _ _ hI'.safe h e.symm).elim
        · rw [if_neg h1, if_neg h2] at e
          exact ih t hs t' h h' e
    obtain ⟨k, o, nm, v, ts⟩ := a
    obtain ⟨k', o', nm', v', ts'⟩ := b
    obtain rfl : k = k' := hk
    obtain ⟨hpc, hfes⟩ := fe_mk hfa
    obtain ⟨hpc', hfes'⟩ := fe_mk hfb
    rcases pc_zero hpc with ⟨rfl, rfl, rfl, hm, hv1, hv2⟩ | ⟨rfl, rfl, rfl, hm, hnm⟩ | ⟨rfl, rfl, rfl, hm, ho⟩ | ⟨rfl, rfl, rfl, hm, ho1, ho2⟩
    · rcases pc_zero hpc' with ⟨_, rfl, rfl, hm', hv1', hv2'⟩ | ⟨h0, _⟩ | ⟨h0, _⟩ | ⟨h0, _⟩
      · obtain rfl := List.eq_nil_of_length_eq_zero hm
        obtain rfl := List.eq_nil_of_length_eq_zero hm'
        have e : decI v = decI v' := by simpa [txt] using heq
        have := digits_inj 13 v.toNat v'.toNat (by omega) e
        rw [show v = v' by omega]
      · cases h0
      · cases h0
      · cases h0
    · rcases pc_zero hpc' with ⟨h0, _⟩ | ⟨_, rfl, rfl, hm', hnm'⟩ | ⟨h0, _⟩ | ⟨h0, _⟩
      · cases h0
      · obtain rfl := List.eq_nil_of_length_eq_zero hm
        obtain rfl := List.eq_nil_of_length_eq_zero hm'
        have e : nm = nm' := by simpa [txt] using heq
        rw [e]
      · cases h0
      · cases h0
    · rcases pc_zero hpc' with ⟨h0, _⟩ | ⟨h0, _⟩ | ⟨_, rfl, rfl, hm', ho'⟩ | ⟨h0, _⟩
      · cases h0
      · cases h0
      · obtain ⟨t, rfl⟩ := len1 hm
        obtain ⟨t', rfl⟩ := len1 hm'
        have hft : t.fe = 0 := by simpa using fes_get hfes 0 (by simp)
        have hft' : t'.fe = 0 := by simpa using fes_get hfes' 0 (by simp)
        have hsz : t.size ≤ n := by simp only [Ex.size, Ex.sizes] at ha; omega
        rw [txt_un, txt_un] at heq
        have hoo : o = o' ∧ brk 6 (prec t) (txt decI t) = brk 6 (prec t') (txt decI t') := by
          rcases ho with rfl | rfl <;> rcases ho' with rfl | rfl
          · exact ⟨rfl, List.append_cancel_left heq⟩
          · exact absurd (List.cons.inj heq).1 (by decide)
          · exact absurd (List.cons.inj heq).1 (by decide)
          · exact ⟨rfl, List.append_cancel_left heq⟩
        obtain ⟨rfl, e⟩ := hoo
        rw [BI 6 t t' hsz hft hft' e]
      · cases h0
    · rcases pc_zero hpc' with ⟨h0, _⟩ | ⟨h0, _⟩ | ⟨h0, _⟩ | ⟨_, rfl, rfl, hm', ho1', ho2'⟩
      · cases h0
      · cases h0
      · cases h0
      · obtain ⟨t, u, rfl⟩ := len2 hm
        obtain ⟨t', u', rfl⟩ := len2 hm'
        have hft : t.fe = 0 := by simpa using fes_get hfes 0 (by simp)
        have hfu : u.fe = 0 := by simpa using fes_get hfes 1 (by simp)
        have hft' : t'.fe = 0 := by simpa using fes_get hfes' 0 (by simp)
        have hfu' : u'.fe = 0 := by simpa using fes_get hfes' 1 (by simp)
        have hsz : t.size ≤ n := by simp only [Ex.size, Ex.sizes] at ha; omega
        have hsz2 : u.size ≤ n := by simp only [Ex.size, Ex.sizes] at ha; omega
        obtain ⟨m, rfl, hm1, hm2⟩ := prec_le ho1 ho2
        obtain ⟨q, rfl, hq1, hq2⟩ := prec_le ho1' ho2'
        have hL := (txt_info _ t (Nat.le_refl _) hft).1.put (if (opOf (m : Int)).prec = 3 then 4 else (opOf (m : Int)).prec)
        have hR := (txt_info _ u (Nat.le_refl _) hfu).1.put ((opOf (m : Int)).prec + 1)
        have hL' := (txt_info _ t' (Nat.le_refl _) hft').1.put (if (opOf (q : Int)).prec = 3 then 4 else (opOf (q : Int)).prec)
        have hR' := (txt_info _ u' (Nat.le_refl _) hfu').1.put ((opOf (q : Int)).prec + 1)
        have lo1 : ∀ z : Int, z ≤ (if z = 3 then 4 else z) := fun z => by split <;> omega
        rw [txt_bin, txt_bin] at heq
        have hw := congrArg (sp 0 []) heq
        rw [bin_cut hL.flat (sign_bytes m hm1 hm2), bin_cut hL'.flat (sign_bytes q hq1 hq2)] at hw
        obtain ⟨e1, e2, e3⟩ := one_main hm1 hm2 hq1 hq2 (hL.lo.mono (lo1 _)) hR.lo (hL'.lo.mono (lo1 _)) hR'.lo hw
        subst e2
        rw [BI _ t t' hsz hft hft' (sp_inj e1), BI _ u u' hsz2 hfu hfu' (sp_inj e3)]
theorem eqE_self : ∀ (n : Nat) (a : Ex), a.size ≤ n → eqE a a = true := by
  intro n
  induction n with
  | zero => intro e he; have := e.size_pos; omega
  | succ n ih =>
    intro a ha
    obtain ⟨k, o, nm, v, ts⟩ := a
    have hl : ∀ ts : List Ex, sizes ts ≤ n → eqL ts ts = true := by
      intro ts
      induction ts with
      | nil => intro _; rfl
      | cons t ts iht =>
        intro h
        simp only [sizes] at h
        simp only [eqL]
        rw [ih t (by omega), iht (by omega)]; rfl
    simp only [Ex.size] at ha
    simp only [eqE, beq_self_eq_true, hl ts (by omega), Bool.and_true]
theorem eqE_eq : ∀ (n : Nat) (a : Ex), a.size ≤ n → ∀ b, eqE a b = true → a = b := by
  intro n
  induction n with
  | zero => intro e he; have := e.size_pos; omega
  | succ n ih =>
    intro a ha b h
    obtain ⟨k, o, nm, v, ts⟩ := a
    obtain ⟨k', o', nm', v', ts'⟩ := b
    rw [eqE_def] at h
    simp only [Bool.and_eq_true, beq_iff_eq] at h
    obtain ⟨h1, h2, h3, h4, h5⟩ := h
    have hl : ∀ ts ts' : List Ex, sizes ts ≤ n → eqL ts ts' = true → ts = ts' := by
      intro ts
      induction ts with
      | nil =>
        intro ts' _ h
        cases ts' with
        | nil => rfl
        | cons t ts' => simp [eqL] at h
      | cons t ts iht =>
        intro ts' hs h
        cases ts' with
        | nil => simp [eqL] at h
        | cons t' ts' =>
          simp only [sizes] at hs
          simp only [eqL, Bool.and_eq_true] at h
          rw [ih t (by omega) t' h.1, iht ts' (by omega) h.2]
    simp only [Ex.size] at ha
    simp only [Ex.kind, Ex.op, Ex.name, Ex.value, Ex.args] at h1 h2 h3 h4 h5
    rw [h1, h2, h3, h4, hl ts ts' (by omega) h5]
/-- the law's first half -/
theorem texts_eq (a b : Ex) (ha : (prR decI a).2 = 0) (hb : (prR decI b).2 = 0) : ((prR decI a).1 == (prR decI b).1) = (a.chk == 0 && (b.chk == 0 && eqE a b)) := by
  have go : ∀ e : Ex, (prR decI e).2 = 0 → e.chk = 0 ∧ (prR decI e).1 = txt decI e := by
    intro e h
    unfold prR at h ⊢
    by_cases h0 : e.chk ≠ 0
    · rw [if_pos h0] at h; exact absurd h h0
    · rw [if_neg h0]; exact ⟨Classical.not_not.1 h0, rfl⟩
  obtain ⟨a1, a2⟩ := go a ha
  obtain ⟨b1, b2⟩ := go b hb
  rw [a2, b2, a1, b1]
  simp only [beq_self_eq_true, Bool.true_and]
  by_cases h : txt decI a = txt decI b
  · have e := txt_inj _ a (Nat.le_refl _) b (chk_zero a1).2.2 (chk_zero b1).2.2 h
    subst e
    rw [eqE_self _ a (Nat.le_refl _)]
    simp
  · have h2 : eqE a b = false := by
      cases hq : eqE a b with
      | false => rfl
      | true => exact absurd (by rw [eqE_eq _ a (Nat.le_refl _) b hq]) h
    rw [h2]
    simpa using h

end Go.Proofs.YtgkalcboklhdgaaGreatDoor

namespace Go.Proofs.YtgkalcboklhdgaaGreatDoor
set_option linter.unusedVariables false
set_option linter.unusedSimpArgs false
open Ex

theorem tys_cons {bs : List Bn} {t : Ex} {ts : List Ex} (h : (Ex.tys bs (t :: ts)).1 = 0) : (t.ty bs).2 = 0 ∧ (Ex.tys bs ts).1 = 0 ∧ Ex.tys bs (t :: ts) = (0, (t.ty bs).1 :: (Ex.tys bs ts).2) := by
  simp only [Ex.tys] at h ⊢
  by_cases h0 : (t.ty bs).2 = 0
  · rw [if_neg (by simp [h0])] at h ⊢
    exact ⟨h0, h, by rw [h]⟩
  · rw [if_pos h0] at h; exact absurd h h0
theorem ty_args {bs : List Bn} {k o : Int} {n : List UInt8} {v : Int} {ts : List Ex} (h : ((Ex.mk k o n v ts).ty bs).2 = 0) : (Ex.tys bs ts).1 = 0 ∧ (Ex.mk k o n v ts).ty bs = tyN bs k o n (Ex.tys bs ts).2 := by
  simp only [Ex.ty] at h ⊢
  by_cases h0 : (Ex.tys bs ts).1 = 0
  · exact ⟨h0, by rw [if_neg (by simp [h0])]⟩
  · rw [if_pos h0] at h; exact absurd h h0
theorem tyN_nil {bs : List Bn} {k o : Int} {n : List UInt8} {l : List Int} (h : (tyN [] k o n l).2 = 0) : tyN bs k o n l = tyN [] k o n l ∧ k ≠ 2 := by
  unfold tyN at h ⊢
  by_cases h1 : k = 1
  · subst h1; simp
  · by_cases h2 : k = 2
    · subst h2; simp [fdIs] at h
    · simp only [if_neg h1, if_neg h2] at h ⊢
      exact ⟨trivial, h2⟩
mutual
theorem ty_any (bs : List Bn) : ∀ e : Ex, (e.ty []).2 = 0 → e.ty bs = e.ty [] ∧ e.ev bs = e.ev []
  | .mk k o n v ts, h => by
    obtain ⟨h1, h2⟩ := ty_args h
    obtain ⟨h3, h4⟩ := tys_any bs ts h1
    rw [h2] at h
    obtain ⟨h5, h6⟩ := tyN_nil (bs := bs) h
    refine ⟨?_, ?_⟩
    · rw [h2, ← h5]; simp only [Ex.ty]; rw [h3, if_neg (by simp [h1])]
    · simp only [Ex.ev]; rw [h4]
      unfold evN
      simp only [if_neg h6]
theorem tys_any (bs : List Bn) : ∀ ts : List Ex, (Ex.tys [] ts).1 = 0 → Ex.tys bs ts = Ex.tys [] ts ∧ Ex.evs bs ts = Ex.evs [] ts
  | [], _ => ⟨rfl, rfl⟩
  | t :: ts, h => by
    obtain ⟨h1, h2, h3⟩ := tys_cons h
    obtain ⟨a1, a2⟩ := ty_any bs t h1
    obtain ⟨b1, b2⟩ := tys_any bs ts h2
    simp only [Ex.tys, Ex.evs, a1, a2, b1, b2, and_self]
end
theorem lit_ty (bs : List Bn) (n : Int) : (lit n).ty bs = (1, 0) ∧ (lit n).ev bs = (n, 0) := by
  unfold lit
  by_cases h : n < 0
  · rw [if_pos h]
    simp [Ex.ty, Ex.tys, tyN, Ex.ev, Ex.evs, evN]
  · rw [if_neg h]
    simp [Ex.ty, Ex.tys, tyN, Ex.ev, Ex.evs, evN]
theorem cst_true {e : Ex} (h : (cst e).2 = true) : e.ty [] = (1, 0) ∧ e.ev [] = ((cst e).1, 0) := by
  unfold cst at h ⊢
  by_cases h1 : (e.ty []).2 ≠ 0 ∨ (e.ty []).1 ≠ 1
  · rw [if_pos h1] at h; cases h
  · rw [if_neg h1] at h ⊢
    simp only [not_or, Classical.not_not] at h1
    have h2 : (e.ev []).2 = 0 := by simpa using h
    exact ⟨Prod.ext h1.2 h1.1, Prod.ext rfl h2⟩
theorem mp_node (k o : Int) (n : List UInt8) (v : Int) (ts : List Ex) :
    ((cst (.mk k o n v ts)).2 = true → mp foldOne (.mk k o n v ts) = lit (cst (.mk k o n v ts)).1) ∧ ((cst (.mk k o n v ts)).2 = false → mp foldOne (.mk k o n v ts) = .mk k o n v (mps foldOne ts)) := by
  simp only [mp]
  constructor
  · intro h; simp only [foldOne, h, if_true]
  · intro h
    have : foldOne (.mk k o n v ts) = none := by unfold foldOne; rw [h]; rfl
    rw [this]
mutual
theorem mp_ty (bs : List Bn) : ∀ e : Ex, (mp foldOne e).ty bs = e.ty bs
  | .mk k o n v ts => by
    cases hc : (cst (.mk k o n v ts)).2 with
    | true =>
      rw [(mp_node k o n v ts).1 hc, (lit_ty bs _).1, (ty_any bs _ (by rw [(cst_true hc).1])).1, (cst_true hc).1]
    | false =>
      rw [(mp_node k o n v ts).2 hc]
      simp only [Ex.ty]
      rw [mps_ty bs ts]
theorem mps_ty (bs : List Bn) : ∀ ts : List Ex, Ex.tys bs (mps foldOne ts) = Ex.tys bs ts
  | [] => rfl
  | t :: ts => by simp only [mps, Ex.tys]; rw [mp_ty bs t, mps_ty bs ts]
end
mutual
theorem mp_ev (bs : List Bn) : ∀ e : Ex, (e.ty bs).2 = 0 → (mp foldOne e).ev bs = e.ev bs
  | .mk k o n v ts, h => by
    cases hc : (cst (.mk k o n v ts)).2 with
    | true =>
      rw [(mp_node k o n v ts).1 hc, (lit_ty bs _).2, (ty_any bs _ (by rw [(cst_true hc).1])).2, (cst_true hc).2]
    | false =>
      rw [(mp_node k o n v ts).2 hc]
      simp only [Ex.ev]
      rw [mps_ev bs ts (ty_args h).1]
theorem mps_ev (bs : List Bn) : ∀ ts : List Ex, (Ex.tys bs ts).1 = 0 → Ex.evs bs (mps foldOne ts) = Ex.evs bs ts
  | [], _ => rfl
  | t :: ts, h => by
    obtain ⟨h1, h2, _⟩ := tys_cons h
    simp only [mps, Ex.evs]; rw [mp_ev bs t h1, mps_ev bs ts h2]
end
theorem cst_congr {a b : Ex} (h1 : a.ty [] = b.ty []) (h2 : (b.ty []).2 = 0 → a.ev [] = b.ev []) : cst a = cst b := by
  unfold cst
  rw [h1]
  by_cases h : (b.ty []).2 ≠ 0 ∨ (b.ty []).1 ≠ 1
  · rw [if_pos h, if_pos h]
  · rw [if_neg h, if_neg h]
    simp only [not_or, Classical.not_not] at h
    rw [h2 h.1]
theorem lit_mp (n : Int) : mp foldOne (lit n) = lit n := by
  have hc : cst (lit n) = (n, true) := by
    unfold cst
    rw [(lit_ty [] n).1, (lit_ty [] n).2]; rfl
  obtain ⟨k, o, nm, v, ts, h⟩ : ∃ k o nm v ts, lit n = .mk k o nm v ts := by cases lit n; exact ⟨_, _, _, _, _, rfl⟩
  rw [h] at hc ⊢
  rw [(mp_node k o nm v ts).1 (by rw [hc]), hc, ← h]
mutual
theorem mp_idem : ∀ e : Ex, mp foldOne (mp foldOne e) = mp foldOne e
  | .mk k o n v ts => by
    cases hc : (cst (.mk k o n v ts)).2 with
    | true => rw [(mp_node k o n v ts).1 hc, lit_mp]
    | false =>
      have he := (mp_node k o n v ts).2 hc
      have hcc : cst (.mk k o n v (mps foldOne ts)) = cst (.mk k o n v ts) := by
        rw [← he]; exact cst_congr (mp_ty [] _) (mp_ev [] _)
      rw [he, (mp_node k o n v _).2 (by rw [hcc]; exact hc), mps_idem ts]
theorem mps_idem : ∀ ts : List Ex, mps foldOne (mps foldOne ts) = mps foldOne ts
  | [] => rfl
  | t :: ts => by simp only [mps]; rw [mp_idem t, mps_idem ts]
end
mutual
theorem eqE_refl : ∀ e : Ex, eqE e e = true
  | .mk k o n v ts => by simp [eqE, eqL_refl ts]
theorem eqL_refl : ∀ ts : List Ex, eqL ts ts = true
  | [] => by simp [eqL]
  | t :: ts => by simp [eqL, eqE_refl t, eqL_refl ts]
end
/-- what folding a checked expression yields -/
theorem fold_all (bs : List Bn) (e : Ex) (h : e.chk = 0) : ∃ f : Ex, fdR e = (f, 0) ∧ f.chk = 0 ∧ fdR f = (f, 0) ∧ tyR bs f = tyR bs e ∧ evR bs f = evR bs e ∧ f.size ≤ e.size ∧ eqE f f = true := by
  obtain ⟨h1, h2, h3⟩ := chk_zero h
  obtain ⟨g1, g2, g3⟩ := mp_ok e h3
  have hc : (mp foldOne e).chk = 0 := by
    unfold Ex.chk
    rw [if_neg (by omega), if_neg (by omega)]; exact g3
  have ht : tyR bs (mp foldOne e) = tyR bs e := by
    unfold tyR
    simp only [hc, h, mp_ty]
  refine ⟨mp foldOne e, by unfold fdR; rw [if_neg (by simp [h])], hc, by unfold fdR; rw [if_neg (by simp [hc]), mp_idem], ht, ?_, g1, eqE_refl _⟩
  unfold evR
  rw [ht]
  by_cases h0 : (tyR bs e).2 = 0
  · rw [if_neg (by simp [h0]), if_neg (by simp [h0])]
    have := tyR_zero h0
    exact mp_ev bs e (by rw [← this.2.2]; exact h0)
  · rw [if_pos h0, if_pos h0]
end Go.Proofs.YtgkalcboklhdgaaGreatDoor

namespace Go.Proofs.YtgkalcboklhdgaaGreatDoor
set_option linter.unusedVariables false
set_option linter.unusedSimpArgs false
open Ex

/-- the bindings without those of n -/
def delB (bs : List Bn) (n : List UInt8) : List Bn := bs.filter fun b => !isN n b
theorem del_find (bs : List Bn) (n m : List UInt8) : (delB bs n).find? (isN m) = if m = n then none else bs.find? (isN m) := by
  unfold delB
  induction bs with
  | nil => simp
  | cons b bs ih =>
    by_cases hb : isN n b = true
    · rw [List.filter_cons_of_neg (by simp [hb]), ih]
      by_cases hm : m = n
      · rw [if_pos hm, if_pos hm]
      · rw [if_neg hm, if_neg hm, List.find?_cons_of_neg]
        unfold isN at hb ⊢
        simp only [beq_iff_eq] at hb ⊢
        rw [hb]
        exact fun e => hm e.symm
    · rw [List.filter_cons_of_pos (by simp [hb])]
      by_cases hm : m = n
      · subst hm
        rw [List.find?_cons_of_neg hb, ih, if_pos rfl, if_pos rfl]
      · rw [if_neg hm] at ih
        rw [if_neg hm]
        cases h : isN m b with
        | true => rw [List.find?_cons_of_pos h, List.find?_cons_of_pos h]
        | false => rw [List.find?_cons_of_neg (by simp [h]), List.find?_cons_of_neg (by simp [h]), ih]
theorem tyN_del (bs : List Bn) (n : List UInt8) (k o : Int) (m : List UInt8) (l : List Int) : tyN (delB bs n) k o m l = if k = 2 ∧ m = n then (0, 7) else tyN bs k o m l := by
  unfold tyN fdIs fdB
  rw [del_find]
  by_cases h1 : k = 1
  · have h2 : ¬ (k = 2 ∧ m = n) := fun h => by omega
    rw [if_pos h1, if_pos h1, if_neg h2]
  · rw [if_neg h1, if_neg h1]
    by_cases h2 : k = 2
    · by_cases hm : m = n
      · have h3 : k = 2 ∧ m = n := ⟨h2, hm⟩
        simp only [if_pos h2, if_pos hm, if_pos h3]; rfl
      · have h3 : ¬ (k = 2 ∧ m = n) := fun h => hm h.2
        simp only [if_pos h2, if_neg hm, if_neg h3]
    · have h3 : ¬ (k = 2 ∧ m = n) := fun h => h2 h.1
      simp only [if_neg h2, if_neg h3]
mutual
theorem ty_del (bs : List Bn) (n : List UInt8) : ∀ e : Ex, e.fe = 0 → (e.ty bs).2 = 0 → e.ty (delB bs n) = if n ∈ nmE e then (0, 7) else e.ty bs
  | .mk k o m v ts, hf, h => by
    obtain ⟨hpc, hfes⟩ := fe_mk hf
    obtain ⟨h1, h2⟩ := ty_args h
    obtain ⟨g1, g2⟩ := tys_del bs n ts hfes h1
    rw [h2]
    by_cases hk : k = 2
    · subst hk
      obtain rfl : ts = [] := by
        rcases pc_zero hpc with ⟨h0, _⟩ | ⟨_, _, _, hm, _⟩ | ⟨h0, _⟩ | ⟨h0, _⟩
        · cases h0
        · exact List.eq_nil_of_length_eq_zero hm
        · cases h0
        · cases h0
      have e1 : (Ex.mk 2 o m v []).ty (delB bs n) = tyN (delB bs n) 2 o m [] := by simp [Ex.ty, Ex.tys]
      have e2 : nmE (.mk 2 o m v []) = [m] := by simp [nmE]
      have e3 : (Ex.tys bs []).2 = [] := rfl
      rw [e1, e2, e3, tyN_del]
      by_cases hm : m = n
      · rw [if_pos ⟨rfl, hm⟩, if_pos (by simp [hm])]
      · rw [if_neg (fun h => hm h.2), if_neg (by simp only [List.mem_singleton]; exact fun h => hm h.symm)]
    · have e2 : nmE (.mk k o m v ts) = nmL ts := by simp only [nmE]; exact if_neg hk
      rw [e2]
      simp only [Ex.ty]
      by_cases hn : n ∈ nmL ts
      · rw [if_pos hn, if_pos (by rw [g1 hn]; decide), g1 hn]
      · rw [if_neg hn, g2 hn, if_neg (by simp [h1]), tyN_del, if_neg (fun h => hk h.1)]
theorem tys_del (bs : List Bn) (n : List UInt8) : ∀ ts : List Ex, fes ts = 0 → (Ex.tys bs ts).1 = 0 → (n ∈ nmL ts → (Ex.tys (delB bs n) ts).1 = 7) ∧ (n ∉ nmL ts → Ex.tys (delB bs n) ts = Ex.tys bs ts)
  | [], _, _ => ⟨fun h => by simp [nmL] at h, fun _ => rfl⟩
  | t :: ts, hf, h => by
    simp only [Ex.fes] at hf
    have hft : t.fe = 0 := by
      by_cases h0 : t.fe = 0
      · exact h0
      · rw [if_pos h0] at hf; exact absurd hf h0
    rw [if_neg (by simp [hft])] at hf
    simp only [Ex.tys] at h ⊢
    have ht : (t.ty bs).2 = 0 := by
      by_cases h0 : (t.ty bs).2 = 0
      · exact h0
      · rw [if_pos h0] at h; exact absurd h h0
    rw [if_neg (by simp [ht])] at h
    obtain ⟨g1, g2⟩ := tys_del bs n ts hf h
    have g0 := ty_del bs n t hft ht
    simp only [nmL, List.mem_append]
    by_cases hn : n ∈ nmE t
    · rw [if_pos hn] at g0
      rw [g0]
      exact ⟨fun _ => by simp, fun h => absurd (.inl hn) h⟩
    · rw [if_neg hn] at g0
      rw [g0]
      refine ⟨fun h => ?_, fun h => ?_⟩
      · rw [if_neg (by simp [ht])]
        rcases h with h | h
        · exact absurd h hn
        · exact g1 h
      · rw [if_neg (by simp [ht]), if_neg (by simp [ht]), g2 (fun h' => h (.inr h'))]
end
theorem ok_prev {p q : Option (List UInt8)} {b : Bn} (h : b.ok p = true) (hq : ∀ x, prevLt p x = true → prevLt q x = true) : b.ok q = true := by
  unfold Bn.ok at h ⊢
  simp only [Bool.and_eq_true] at h ⊢
  obtain ⟨⟨⟨h1, h2⟩, h3⟩, h4⟩ := h
  exact ⟨⟨⟨h1, hq b.name h2⟩, h3⟩, h4⟩
theorem bnsOk_filter (f : Bn → Bool) : ∀ (bs : List Bn) (p q : Option (List UInt8)), bnsOk p bs = true → (∀ x, prevLt p x = true → prevLt q x = true) → bnsOk q (bs.filter f) = true
  | [], _, _, _, _ => rfl
  | b :: bs, p, q, h, hq => by
    simp only [bnsOk, Bool.and_eq_true] at h
    obtain ⟨h1, h2⟩ := h
    cases hf : f b with
    | true =>
      rw [List.filter_cons_of_pos hf]
      simp only [bnsOk, Bool.and_eq_true]
      exact ⟨ok_prev h1 hq, bnsOk_filter f bs _ _ h2 (fun x hx => hx)⟩
    | false =>
      rw [List.filter_cons_of_neg (by simp [hf])]
      refine bnsOk_filter f bs _ _ h2 (fun x hx => ?_)
      have hb : prevLt p b.name = true := by
        unfold Bn.ok at h1
        simp only [Bool.and_eq_true] at h1
        exact h1.1.1.2
      have hb := hq _ hb
      unfold prevLt at hb hx ⊢
      cases q with
      | none => rfl
      | some m =>
        simp only at hb hx ⊢
        rw [less_iff] at hb hx ⊢
        exact List.lt_trans hb hx
theorem bnds_del {bs : List Bn} (h : bnds bs = true) (n : List UInt8) : bnds (delB bs n) = true := by
  unfold bnds at h ⊢
  simp only [Bool.and_eq_true, decide_eq_true_eq] at h ⊢
  refine ⟨bnsOk_filter _ bs none none h.1 (fun _ h => h), ?_⟩
  have := List.length_filter_le (fun b => !isN n b) bs
  unfold delB
  omega
/-- the law's second half -/
theorem tyR_del {bs : List Bn} {a : Ex} {n : List UInt8} (h : (tyR bs a).2 = 0) (hn : n ∈ nmR a) : tyR (delB bs n) a = (0, 7) := by
  obtain ⟨h1, h2, h3⟩ := tyR_zero h
  rw [h3] at h
  have hn : n ∈ nmE a := by
    unfold nmR at hn
    rw [if_neg (by simp [h1])] at hn
    rcases ((fold_spec (nmE a) [] (by simp)).2 n).1 hn with h | h
    · exact h
    · cases h
  unfold tyR
  rw [if_neg (by simp [h1]), if_pos (bnds_del h2 n), ty_del bs n a (chk_zero h1).2.2 h, if_pos hn]

end Go.Proofs.YtgkalcboklhdgaaGreatDoor

namespace Go.Proofs.YtgkalcboklhdgaaGreatDoor
open Go.RowKit
set_option linter.unusedVariables false
set_option linter.unusedSimpArgs false

abbrev tBn : TypeId := 39
def bc (b : Bn) : List Value := [sV b.name, .int .i64 b.type, .int .i64 b.value]
def rowB (bs : List Bn) : List Value := bs.flatMap bc
theorem rowB_length (bs : List Bn) : (rowB bs).length = bs.length * 3 := by
  induction bs with
  | nil => rfl
  | cons r rs ih => simp only [rowB, List.flatMap_cons, List.length_append] at ih ⊢; rw [ih]; simp [bc]; omega
theorem rowB_get (rs : List Bn) (j i : Nat) (hj : j < rs.length) (hi : i < 3) : (rowB rs)[j * 3 + i]? = (bc rs[j])[i]? := by
  induction rs generalizing j with
  | nil => simp at hj
  | cons r rs ih =>
    simp only [rowB, List.flatMap_cons] at ih ⊢
    cases j with
    | zero => rw [List.getElem?_append_left (by simp [bc]; omega)]; simp
    | succ j =>
      rw [List.getElem?_append_right (by simp [bc]; omega)]
      have : (j + 1) * 3 + i - (bc r).length = j * 3 + i := by simp [bc]; omega
      rw [this, ih j (by simpa using hj)]
      simp
theorem rowB_one (rs : List Bn) : ∀ u ∈ rowB rs, u.oneCell' = true := by
  intro u hu
  obtain ⟨r, _, h⟩ := List.mem_flatMap.1 hu
  simp only [bc, List.mem_cons, List.not_mem_nil, or_false] at h
  rcases h with rfl | rfl | rfl <;> rfl
theorem rowB_app (a b : List Bn) : rowB (a ++ b) = rowB a ++ rowB b := by simp [rowB]
theorem rowB_set (rs : List Bn) (j : Nat) (hj : j < rs.length) (r : Bn) : (((rowB rs).set (j * 3) (sV r.name)).set (j * 3 + 1) (.int .i64 r.type)).set (j * 3 + 2) (.int .i64 r.value) = rowB (rs.set j r) := by
  induction rs generalizing j with
  | nil => simp at hj
  | cons x rs ih =>
    cases j with
    | zero => simp [rowB, bc]
    | succ j =>
      have := ih j (by simpa using hj)
      have h5 : (j + 1) * 3 = j * 3 + 1 + 1 + 1 := by omega
      simp only [rowB, List.flatMap_cons, List.set_cons_succ] at this ⊢
      rw [← this, h5]
      simp [bc]
/-- v is a row of bindings of the call's own -/
def RowB (base : Nat) (v : Value) (bs : List Bn) (w : World) : Prop := w.ownsRow base tBn 3 v bs.length (rowB bs)
theorem infoBn : (Tryz.prog.info? 39).map (fun i => (i.zero, i.size, i.bytes)) = some (some (.agg #[sV [], .int .i64 0, .int .i64 0]), 3, 32) := by kernel_rfl
theorem RowB.ext {base : Nat} {v : Value} {rs : List Bn} {w w' : World} (h : RowB base v rs w) (hb : Below w.heap.size w w') : RowB base v rs w' := ownsRow_extI h hb
theorem RowB.forms {base : Nat} {v : Value} {rs : List Bn} {w : World} (h : RowB base v rs w) : (v = .slice none 0 0 ∧ rs = []) ∨ ∃ g cap, v = .slice (some ⟨g, 0, none⟩) rs.length cap ∧ base ≤ g ∧ g < w.heap.size := by
  rcases Go.Joins.ownsRow_forms h with ⟨h1, h2⟩ | ⟨g, cap, h1⟩
  · exact .inl ⟨h1, List.eq_nil_of_length_eq_zero h2⟩
  · subst h1
    exact .inr ⟨g, cap, rfl, World.ownsRow.lt h g rfl⟩
theorem RowB.cells {base g cap : Nat} {rs : List Bn} {w : World} (h : RowB base (.slice (some ⟨g, 0, none⟩) rs.length cap) rs w) (j : Nat) (hj : j < rs.length) : Bn.cells w g (j * 3) rs[j] := by
  have hc : ∀ i, i < 3 → w.cell? ⟨g, j * 3 + i, none⟩ = (bc rs[j])[i]? := fun i hi => by
    rw [World.ownsRow.cellAt h (j * 3 + i) (by omega), rowB_get rs j i hj hi]
  exact ⟨hc 0 (by omega), hc 1 (by omega), hc 2 (by omega)⟩
/-- a row is an argument -/
theorem RowB.at {base : Nat} {v : Value} {rs : List Bn} {w : World} (h : RowB base v rs w) (hl : rs.length ≤ 4398046510976) (hf : ∀ b ∈ rs, b.fits) : ∃ p c, v = .slice p rs.length c ∧ BAt w p rs := by
  rcases h.forms with ⟨rfl, rfl⟩ | ⟨g, cap, rfl, _⟩
  · exact ⟨none, 0, rfl, ⟨hl, hf⟩, fun j hj => by simp at hj⟩
  · exact ⟨_, _, rfl, ⟨hl, hf⟩, fun j hj => ⟨g, 0, rfl, by rw [Nat.zero_add]; exact h.cells j hj⟩⟩
/-- the world behind a store of a whole binding -/
def setB (w : World) (g o : Nat) (r : Bn) : World :=
  ((w.setCell ⟨g, o, none⟩ (sV r.name)).setCell ⟨g, o + 1, none⟩ (.int .i64 r.type)).setCell ⟨g, o + 2, none⟩ (.int .i64 r.value)
theorem RowB.store {base g cap : Nat} {rs : List Bn} {w : World} (h : RowB base (.slice (some ⟨g, 0, none⟩) rs.length cap) rs w) (j : Nat) (hj : j < rs.length) (r : Bn) : RowB base (.slice (some ⟨g, 0, none⟩) (rs.set j r).length cap) (rs.set j r) (setB w g (j * 3) r) := by
  unfold RowB setB
  rw [List.length_set, ← rowB_set rs j hj r]
  exact (World.ownsRow.stored (World.ownsRow.stored (World.ownsRow.stored h _ _).1 _ _).1 _ _).1
theorem setB_below {w : World} {g o n₀ : Nat} {r : Bn} (h : n₀ ≤ g) : Below n₀ w (setB w g o r) := by
  unfold setB
  exact (((Below.refl n₀ w).setCell (p := ⟨g, o, none⟩) h _).setCell (p := ⟨g, o + 1, none⟩) h _).setCell (p := ⟨g, o + 2, none⟩) h _
theorem setB_other {w : World} {g o b : Nat} {r : Bn} (h : b ≠ g) : (setB w g o r).heap[b]? = w.heap[b]? := by
  unfold setB
  rw [Below.heap_setCell _ ⟨g, o + 2, none⟩ _ _ h, Below.heap_setCell _ ⟨g, o + 1, none⟩ _ _ h, Below.heap_setCell _ ⟨g, o, none⟩ _ _ h]
theorem setB_size {w : World} {g o : Nat} {r : Bn} : (setB w g o r).heap.size = w.heap.size := by unfold setB; simp [World.setCell]

theorem rowB_at {w : World} {b o : Nat} {rs : List Bn} (h : ∀ j (h : j < rs.length), Bn.cells w b (o + j * 3) rs[j]) : ∀ j u, (rowB rs)[j]? = some u → w.cell? ((⟨b, o, none⟩ : Addr).add j) = some u := by
  intro j u hu
  have hj : j < rs.length * 3 := by rw [← rowB_length]; exact (List.getElem?_eq_some_iff.1 hu).1
  have e : (⟨b, o, none⟩ : Addr).add j = ⟨b, o + j, none⟩ := by unfold Addr.add; split <;> simp_all
  rw [e]
  have hq : j / 3 < rs.length := by omega
  obtain ⟨c0, c1, c2⟩ := h (j / 3) hq
  have hr : j = j / 3 * 3 + j % 3 := by omega
  have hm : j % 3 < 3 := by omega
  rw [hr, rowB_get rs (j / 3) (j % 3) hq hm] at hu
  rw [hr]
  have h5 : j % 3 = 0 ∨ j % 3 = 1 ∨ j % 3 = 2 := by omega
  generalize j % 3 = m at *
  generalize j / 3 = d at *
  rcases h5 with rfl | rfl | rfl
  · simp only [bc, List.getElem?_cons_zero, Option.some.injEq] at hu; rw [← hu]; simpa using c0
  · simp only [bc, List.getElem?_cons_zero, List.getElem?_cons_succ, Option.some.injEq] at hu; rw [← hu, ← Nat.add_assoc]; exact c1
  · simp only [bc, List.getElem?_cons_zero, List.getElem?_cons_succ, Option.some.injEq] at hu; rw [← hu, ← Nat.add_assoc]; exact c2

set_option maxHeartbeats 1000000 in
theorem CloneB_any (rs : List Bn) (a : Addr) (c : Nat) (w : World) (hl : rs.length ≤ 4398046510976) (hc : ∀ j u, (rowB rs)[j]? = some u → w.cell? (a.add j) = some u) :
    Calls Tryz.prog 14 #[.slice (some a) rs.length c] w fun e w' => ∃ v, e = .returned v ∧ RowB w.heap.size v rs w' ∧ Ext w w' := by
  obtain ⟨i0, hi, hz0, hz1, hz2⟩ := info_parts infoBn
  have hn : ∀ W, (binOp .eql 25 (.slice (some a) rs.length c) (.slice none 0 0)).run Tryz.prog W = .ok (.bool false) W := fun W => Lib.run_eql_slice_nil (P := Tryz.prog) W 25 _ (some a) rs.length c 0 0 Tryz.underlying25
  have HC := Lib.hid (fun W (h : Ext w W) j u hu => (h.below.cell (Ex.cell_lt' (hc j u hu))).trans (hc j u hu))
  have HL := Lib.hid (rowB_length rs)
  have HO := Lib.hid (rowB_one rs)
  clear hc
  unfold RowB
  generalize rowB rs = xs at *
  generalize rs.length = n at *
  have hE0 : Ext w (w.alloc (.cells #[] tBn)) := (Below.refl _ w).alloc (Nat.le_refl _) _
  have hA := HC.out _ hE0
  go_enter Tryz.func14, Tryz.ntmps14
  go_wp2_with (at_builtin; go_loud (refine wpList_append_own _ rfl _ _ 25 rfl w.heap.size tBn i0 (.agg #[sV [], .int .i64 0, .int .i64 0]) 3 32 Tryz.underlying25 hi hz0 hz1 hz2 rfl (by decide) _ 0 [] rfl (World.ownsRow_lit (base := w.heap.size) w #[] 0 (Nat.le_refl _) (by unfold maxLen; omega) (by simp)) a n c xs rfl HL.out hA HO.out (by unfold maxLen; omega) (by omega) (by simp) ?_); intro v' w3 hown hgrow hnil)
  go_wp2
  go_ret
  rw [Nat.zero_add, List.nil_append] at hown
  exact ⟨_, rfl, hown, ((Below.refl _ w).alloc (Nat.le_refl _) _).grown hgrow (by simp) (fun k e => by cases e; exact Nat.le_refl _)⟩
theorem CloneB_nil (c : Nat) (w : World) : Calls Tryz.prog 14 #[.slice none 0 c] w fun e w' => e = .returned (.slice none 0 0) ∧ w = w' := by
  have hn : ∀ W, (binOp .eql 25 (.slice none 0 c) (.slice none 0 0)).run Tryz.prog W = .ok (.bool true) W := fun W => Lib.run_eql_slice_nil (P := Tryz.prog) W 25 _ none 0 c 0 0 Tryz.underlying25
  go_enter Tryz.func14, Tryz.ntmps14
  go_wp2
  go_ret
  exact ⟨rfl, rfl⟩
/-- the clone of bindings -/
theorem CloneB_row {w : World} {p : Option Addr} {bs : List Bn} (h : BAt w p bs) (c : Nat) : Calls Tryz.prog 14 #[.slice p bs.length c] w fun e w' => ∃ v, e = .returned v ∧ RowB w.heap.size v bs w' ∧ Ext w w' := by
  obtain ⟨⟨hl, _⟩, h2⟩ := h
  cases p with
  | none =>
    have h0 : bs = [] := by
      cases bs with
      | nil => rfl
      | cons x rs => obtain ⟨b, o, e, _⟩ := h2 0 (by simp); cases e
    subst h0
    exact (CloneB_nil c w).mono (fun e w' ⟨h3, h4⟩ => ⟨_, h3, World.ownsRow_nil _ _ _ _, by rw [← h4]; exact Below.refl _ _⟩)
  | some a =>
    refine CloneB_any bs a c w hl ?_
    by_cases h0 : bs = []
    · subst h0; intro j u hu; simp [rowB] at hu
    · obtain ⟨b, o, e, _⟩ := h2 0 (List.length_pos_iff.2 h0)
      cases e
      refine rowB_at (fun j hj => ?_)
      obtain ⟨b', o', e, h3⟩ := h2 j hj
      cases e
      exact h3

set_option maxHeartbeats 1000000 in
/-- the law's closure: has the binding the name? -/
theorem named_any (n : List UInt8) (B : Nat) (b : Bn) (w : World) (hB : w.cell? ⟨B, 0, none⟩ = some (sV n)) :
    Gives Tryz.prog 15 #[b.val, .pointer (some ⟨B, 0, none⟩)] w (.bool (isN n b)) := by
  obtain ⟨nm, t, x⟩ := b
  have hlt := Ex.cell_lt' hB
  have hv : (Bn.mk nm t x).val = .agg #[sV nm, .int .i64 t, .int .i64 x] := rfl
  have hi : isN n ⟨nm, t, x⟩ = (nm == n) := rfl
  rw [hv, hi]
  clear hv hi
  unfold Gives
  go_enter Tryz.func15, Tryz.ntmps15
  go_wp2
  go_ret
  exact ⟨rfl, (Below.refl _ w).alloc (Nat.le_refl _) _⟩

end Go.Proofs.YtgkalcboklhdgaaGreatDoor

namespace Go.Proofs.YtgkalcboklhdgaaGreatDoor
open Go.RowKit
set_option linter.unusedVariables false
set_option linter.unusedSimpArgs false

set_option maxHeartbeats 1000000 in
theorem IndexLaw_any (bs : List Bn) (p : Option Addr) (c g : Nat) (n : List UInt8) (w : World) (hA : BAt w p bs) (hg : w.cell? ⟨g, 0, none⟩ = some (sV n)) :
    Calls Tryz.prog 42 #[.slice p bs.length c, .func (.func 15) #[] #[.pointer (some ⟨g, 0, none⟩)]] w fun e w' =>
      Ext w w' ∧ ((noneTo bs n bs.length = true ∧ e = .returned (.int .i64 (-1))) ∨ ∃ j, ∃ h : j < bs.length, noneTo bs n j = true ∧ isN n bs[j] = true ∧ e = .returned (.int .i64 (j : Int))) := by
  have en := enters_fn Tryz.func15 (by kernel_rfl) rfl
  have hl := hA.1.1
  have HA := Lib.hid hA
  have HG := Lib.hid hg
  have HS := Lib.hid (noneTo_succ bs n)
  have HF := Lib.hid (fd_at bs n)
  have HN := Lib.hid (fd_none bs n)
  clear hA hg
  go_enter Tryz.func42, Tryz.ntmps42
  go_wp2
  go_loopw [8] (fun i wr => ∃ j : Nat, j ≤ bs.length ∧ i = .int .i64 (j : Int) ∧ noneTo bs n j = true ∧ Ext w wr) (fun i _ => bs.length - (intOf i).toNat)
  case atStart => exact ⟨0, Nat.zero_le _, rfl, rfl, Below.refl _ _⟩
  case round =>
    obtain ⟨j, hj, rfl, hk, hE⟩ := hrel
    have HK := Lib.hid hk
    have HE := Lib.hid hE
    by_cases hlt : j < bs.length
    · obtain ⟨b, off, rfl, hcs⟩ := (HA.out.below hE).2 j hlt
      have hg : wr.cell? ⟨g, 0, none⟩ = some (sV n) := (hE.below.cell (p := ⟨g, 0, none⟩) (Ex.cell_lt' HG.out)).trans HG.out
      obtain ⟨c0, c1, c2⟩ := hcs
      have FC := Lib.hid (show Gives Tryz.prog 15 #[.agg #[sV (bs[j]).name, .int .i64 (bs[j]).type, .int .i64 (bs[j]).value], .pointer (some ⟨g, 0, none⟩)] wr (.bool ((bs[j]).name == n)) from named_any n g bs[j] wr hg)
      have hs := Lib.hid (HS.out j hlt)
      have hf := Lib.hid (HF.out j hlt HK.out)
      cases hb : (bs[j]).name == n with
      | true =>
        rw [hb] at FC
        have HR := Lib.hid (show isN n bs[j] = true from hb)
        generalize (bs[j]).name = m at *
        generalize (bs[j]).type = ty at *
        generalize (bs[j]).value = v at *
        clear hk hE hb hf hs hg
        go_wp2_with fail
        refine FC.out.mono ?_
        intro w1 hB1
        go_wp2
        go_ret
        exact ⟨Ext.trans HE.out hB1, .inr ⟨j, hlt, HK.out, HR.out, rfl⟩⟩
      | false =>
        rw [hb] at FC
        have HR := Lib.hid (show noneTo bs n (j + 1) = true by rw [hs.out, HK.out]; simp [isN, hb])
        generalize (bs[j]).name = m at *
        generalize (bs[j]).type = ty at *
        generalize (bs[j]).value = v at *
        clear hk hE hb hf hs hg
        go_wp2_with fail
        refine FC.out.mono ?_
        intro w1 hB1
        go_wp2
        go_roundw
        case rel => exact ⟨j + 1, by omega, by go_num, HR.out, Ext.trans HE.out hB1⟩
        case measure => simp [intOf]; omega
    · obtain rfl : j = bs.length := by omega
      have HR := Lib.hid HK.out
      clear hk hE
      go_wp2
      go_ret
      exact ⟨HE.out, .inl ⟨HR.out, rfl⟩⟩


theorem del_none {bs : List Bn} {n : List UInt8} {j : Nat} (h : noneTo bs n j = true) : delB (bs.take j) n = bs.take j := by
  unfold delB
  unfold noneTo at h
  rw [List.filter_eq_self]
  intro b hb
  exact List.all_eq_true.1 h b hb
theorem del_succ (bs : List Bn) (n : List UInt8) (j : Nat) (h : j < bs.length) : delB (bs.take (j + 1)) n = delB (bs.take j) n ++ (if isN n bs[j] = true then [] else [bs[j]]) := by
  unfold delB
  rw [List.take_succ_eq_append_getElem h, List.filter_append]
  congr 1
  cases hq : isN n bs[j] <;> simp [hq]
/-- what DeleteFunc has made of the first j -/
structure DI (bs : List Bn) (n : List UInt8) (i j : Nat) (R : List Bn) : Prop where
  lt : i < j
  len : R.length = bs.length
  low : R.take i = delB (bs.take j) n
  high : ∀ k, j ≤ k → R[k]? = bs[k]?
theorem DI.start {bs : List Bn} {n : List UInt8} {j : Nat} (h : j < bs.length) (h0 : noneTo bs n j = true) (h1 : isN n bs[j] = true) : DI bs n j (j + 1) bs :=
  ⟨by omega, rfl, by rw [del_succ bs n j h, if_pos h1, List.append_nil, del_none h0], fun _ _ => rfl⟩
theorem DI.skip {bs : List Bn} {n : List UInt8} {i j : Nat} {R : List Bn} (h : DI bs n i j R) (hj : j < bs.length) (h1 : isN n bs[j] = true) : DI bs n i (j + 1) R :=
  ⟨by have := h.lt; omega, h.len, by rw [del_succ bs n j hj, if_pos h1, List.append_nil, h.low], fun k hk => h.high k (by omega)⟩
theorem DI.keep {bs : List Bn} {n : List UInt8} {i j : Nat} {R : List Bn} (h : DI bs n i j R) (hj : j < bs.length) (h1 : isN n bs[j] = false) : DI bs n (i + 1) (j + 1) (R.set i bs[j]) := by
  have hi := h.lt
  have hl := h.len
  refine ⟨by omega, by rw [List.length_set]; exact hl, ?_, fun k hk => ?_⟩
  · rw [del_succ bs n j hj, if_neg (by simp [h1]), ← h.low, List.take_succ_eq_append_getElem (by rw [List.length_set]; omega), List.getElem_set_self, List.take_set_of_le (Nat.le_refl _)]
  · rw [List.getElem?_set_ne (by omega)]
    exact h.high k (by omega)
theorem DI.done {bs : List Bn} {n : List UInt8} {i : Nat} {R : List Bn} (h : DI bs n i bs.length R) : R.take i = delB bs n := by
  rw [h.low, List.take_length]
theorem DI.get {bs : List Bn} {n : List UInt8} {i j : Nat} {R : List Bn} (h : DI bs n i j R) (hj : j < bs.length) : ∃ h' : j < R.length, R[j] = bs[j] := by
  have h' : j < R.length := by rw [h.len]; exact hj
  refine ⟨h', ?_⟩
  have := h.high j (Nat.le_refl _)
  rw [List.getElem?_eq_getElem h', List.getElem?_eq_getElem hj] at this
  exact Option.some.inj this
theorem rowB_take (rs : List Bn) (i : Nat) : (rowB rs).take (i * 3) = rowB (rs.take i) := by
  induction rs generalizing i with
  | nil => simp [rowB]
  | cons r rs ih =>
    cases i with
    | zero => simp [rowB]
    | succ i =>
      have := ih i
      simp only [rowB, List.flatMap_cons, List.take_succ_cons] at this ⊢
      rw [← this, show (i + 1) * 3 = (bc r).length + i * 3 by simp [bc]; omega, List.take_length_add_append]
/-- a store of cells from o on leaves the row's head -/
theorem row_cells_set {base g cap n size : Nat} {e : TypeId} : ∀ (vs : List Value) (o : Nat) (xs : List Value) (w : World), w.ownsRow base e size (.slice (some ⟨g, 0, none⟩) n cap) n xs →
    ∃ ys, ys.take o = xs.take o ∧ (w.setCells g o vs).ownsRow base e size (.slice (some ⟨g, 0, none⟩) n cap) n ys ∧ Below base w (w.setCells g o vs)
  | [], o, xs, w, h => ⟨xs, rfl, h, Below.refl _ _⟩
  | v :: vs, o, xs, w, h => by
    obtain ⟨h1, _⟩ := World.ownsRow.stored h o v
    obtain ⟨ys, h2, h3, h4⟩ := row_cells_set vs (o + 1) _ _ h1
    refine ⟨ys, ?_, h3, Below.trans ((Below.refl base w).setCell (p := ⟨g, o, none⟩) (World.ownsRow.lt h g rfl).1 v) h4⟩
    have e1 := congrArg (List.take o) h2
    rw [List.take_take, List.take_take, Nat.min_eq_left (by omega), List.take_set_of_le (Nat.le_refl _)] at e1
    exact e1
theorem row_cut {base g cap n size : Nat} {e : TypeId} {xs : List Value} {w : World} (h : w.ownsRow base e size (.slice (some ⟨g, 0, none⟩) n cap) n xs) (k : Nat) (hk : k ≤ n) : w.ownsRow base e size (.slice (some ⟨g, 0, none⟩) k cap) k (xs.take (k * size)) := by
  obtain ⟨h1, h2⟩ := h
  rcases h2 with ⟨e0, _⟩ | ⟨g', cap', cur, e0, hb, hg, hn, hm, hs, ht⟩
  · cases e0
  · injection e0 with e1 _ e3
    injection e1 with e1
    injection e1 with e1
    subst e1; subst e3
    have hkn : k * size ≤ n * size := Nat.mul_le_mul_right _ hk
    refine ⟨by rw [List.length_take, h1, Nat.min_eq_left hkn], .inr ⟨g, cap, cur, rfl, hb, hg, by omega, hm, hs, ?_⟩⟩
    rw [← ht, List.take_take, Nat.min_eq_left hkn]
/-- the cells that clear writes -/
def zerosB (n : Nat) : List Value := (Builtin.zeroCells #[sV [], .int .i64 0, .int .i64 0] n).toList
theorem zerosB_length (n : Nat) : (zerosB n).length = n * 3 := by simp [zerosB, Builtin.zeroCells]
theorem clearB_run (ty : TypeId) (g o n c : Nat) (w : World) (hn : 0 < n) (hc : ∀ j, j < n * 3 → (w.cell? ⟨g, o + j, none⟩).isSome = true) (hf : ∀ j, j < n * 3 → w.frozen? ⟨g, o + j, none⟩ = false) :
    (Builtin.clear_ #[25] ty #[.slice (some ⟨g, o, none⟩) n c]).run Tryz.prog w = .ok (.tuple #[]) (w.setCells g o (zerosB n)) := by
  have hv : ∀ w, (zeroValue 39).run Tryz.prog w = .ok (.agg #[sV [], .int .i64 0, .int .i64 0]) w := fun w => by kernel_rfl
  have hst := run_storeCells_cells (P := Tryz.prog) g o (zerosB n) 0 w (by rw [zerosB_length]; simpa using hc) (by rw [zerosB_length]; simpa using hf) (by
    intro v hv'
    unfold zerosB Builtin.zeroCells at hv'
    simp only [Array.toList_map, List.mem_map] at hv'
    obtain ⟨i, _, rfl⟩ := hv'
    have h3 : i % 3 = 0 ∨ i % 3 = 1 ∨ i % 3 = 2 := by omega
    show (#[sV [], Value.int .i64 0, Value.int .i64 0][i % 3]!).oneCell' = true
    rcases h3 with h | h | h <;> rw [h] <;> rfl)
  simp only [Nat.add_zero] at hst
  obtain ⟨m, rfl⟩ : ∃ m, n = m + 1 := ⟨n - 1, by omega⟩
  unfold zerosB at hst ⊢
  simp [Builtin.clear_, run_underlying Tryz.underlying25, hv, Value.cells, hst]

end Go.Proofs.YtgkalcboklhdgaaGreatDoor

namespace Go.Proofs.YtgkalcboklhdgaaGreatDoor
open Go.RowKit
set_option linter.unusedVariables false
set_option linter.unusedSimpArgs false

theorem Calls_arg {P : Program} {f : FuncId} {args args' : Array Value} {w : World} {Q : Ending → World → Prop} (h : Calls P f args w Q) (e : args = args') : Calls P f args' w Q := e ▸ h
set_option maxRecDepth 100000 in
set_option maxHeartbeats 4000000 in
theorem DeleteFunc_any (bs : List Bn) (n : List UInt8) (B base : Nat) (v : Value) (w : World) (hl : bs.length ≤ 4398046510976) (hf : ∀ b ∈ bs, b.fits) (hR : RowB base v bs w) (hB : w.cell? ⟨B, 0, none⟩ = some (sV n)) (hBb : B < base) (hbase : base ≤ w.heap.size) :
    Calls Tryz.prog 13 #[v, .func (.func 15) #[] #[.pointer (some ⟨B, 0, none⟩)]] w fun e w' => ∃ v', e = .returned v' ∧ RowB base v' (delB bs n) w' ∧ Below base w w' := by
  have en := enters_fn Tryz.func15 (by kernel_rfl) rfl
  obtain ⟨p, c, rfl, hA⟩ := hR.at hl hf
  have IC := Lib.hid (IndexLaw_any bs p c B n w hA hB)
  have HR := Lib.hid hR
  have HD0 := Lib.hid (show noneTo bs n bs.length = true → delB bs n = bs from fun h => by have := del_none h; rwa [List.take_length] at this)
  have HST := Lib.hid (fun j h h0 h1 => DI.start (bs := bs) (n := n) (j := j) h h0 h1)
  have HBL := Lib.hid (fun W (h : Below base w W) => show W.cell? ⟨B, 0, none⟩ = some (sV n) from (h.cell (p := ⟨B, 0, none⟩) hBb).trans hB)
  have FC := Lib.hid (fun (b : Bn) W (h : W.cell? ⟨B, 0, none⟩ = some (sV n)) => show Gives Tryz.prog 15 #[.agg #[sV b.name, .int .i64 b.type, .int .i64 b.value], .pointer (some ⟨B, 0, none⟩)] W (.bool (isN n b)) from named_any n B b W h)
  obtain ⟨m, hm⟩ : ∃ m, bs.length = m := ⟨_, rfl⟩
  have HM := Lib.hid hm
  rw [hm] at hl
  rw [hm]
  have IC := Lib.hid (Calls_arg IC.out (show _ = #[.slice p m c, _] by rw [hm]))
  clear hA hR hB hm
  go_enter Tryz.func13, Tryz.ntmps13
  go_wp2_with fail
  refine IC.out.mono ?_
  rintro e w1 ⟨hE1, ⟨hno, rfl⟩ | ⟨j0, hj0, h0, h1, rfl⟩⟩
  · have HNO := Lib.hid (HD0.out hno)
    have HE1 := Lib.hid hE1
    clear hno hE1
    go_wp2
    go_ret
    exact ⟨_, rfl, by rw [HNO.out, ← HM.out]; exact HR.out.ext HE1.out, HE1.out.mono hbase⟩
  · have hj0' : j0 < bs.length := hj0
    have hj0m : j0 < m := by rw [← HM.out]; exact hj0
    have HS0 := Lib.hid (HST.out j0 hj0' h0 h1)
    have HE1 := Lib.hid hE1
    have hne1 : ((j0 : Int) == -1) = false := beq_eq_false_iff_ne.2 (by omega)
    obtain ⟨g, cap, hpg, hgb, hgl⟩ : ∃ g cap, Value.slice p bs.length c = .slice (some ⟨g, 0, none⟩) bs.length cap ∧ base ≤ g ∧ g < w.heap.size := by
      rcases HR.out.forms with ⟨e, e2⟩ | h
      · rw [e2] at hj0'; simp at hj0'
      · exact h
    injection hpg with e1 _ e3
    subst e1; subst e3
    have HR1 := Lib.hid (HR.out.ext HE1.out)
    clear h0 h1 hE1 HST HD0 IC
    go_wp2_with fail
    go_loopw [5, 6, 7] (fun si sj s7 wr => ∃ (i j : Nat) (R : List Bn), si = .int .i64 (i : Int) ∧ sj = .int .i64 (j : Int) ∧ j ≤ m ∧ DI bs n i j R ∧ RowB base (.slice (some ⟨g, 0, none⟩) m c) R wr ∧ Below base w wr) (fun _ sj _ _ => m - (intOf sj).toNat)
    case atStart => exact ⟨j0, j0 + 1, bs, rfl, by go_num, by omega, HS0.out, by rw [← HM.out]; exact HR1.out, HE1.out.mono hbase⟩
    case round =>
      obtain ⟨i, j, R, rfl, rfl, hj, hI, hr, hE⟩ := hrel
      have HI := Lib.hid hI
      have HR2 := Lib.hid hr
      have HE := Lib.hid hE
      have hij := hI.lt
      have hRl : R.length = m := by rw [hI.len, HM.out]
      have HRL := Lib.hid hRl
      have hgr := (World.ownsRow.lt hr g rfl).2
      have hbr : base ≤ wr.heap.size := Nat.le_trans hbase HE.out.size
      clear hI hE
      by_cases hlt : j < m
      · have hjb : j < bs.length := by rw [HM.out]; exact hlt
        obtain ⟨hjR, hget⟩ := HI.out.get hjb
        have hr' : RowB base (.slice (some ⟨g, 0, none⟩) R.length c) R wr := by rw [hRl]; exact hr
        obtain ⟨c0, c1, c2⟩ := hr'.cells j hjR
        rw [hget] at c0 c1 c2
        have D := Lib.hid (FC.out bs[j])
        have HK := Lib.hid (fun h => HI.out.keep hjb h)
        have HSK := Lib.hid (fun h => HI.out.skip hjb h)
        have HBN := Lib.hid (show (⟨(bs[j]).name, (bs[j]).type, (bs[j]).value⟩ : Bn) = bs[j] from rfl)
        clear hr hr' hget
        generalize isN n bs[j] = q at *
        generalize bs[j] = b at *
        obtain ⟨nm, ty, x⟩ := b
        simp only at c0 c1 c2
        have D := Lib.hid (show ∀ W (h : W.cell? ⟨B, 0, none⟩ = some (sV n)), Gives Tryz.prog 15 #[.agg #[sV nm, .int .i64 ty, .int .i64 x], .pointer (some ⟨B, 0, none⟩)] W (.bool q) from D.out)
        have hE3 : Ext wr (wr.alloc (.cells #[sV nm, .int .i64 ty, .int .i64 x] tBn)) := (Below.refl _ wr).alloc (Nat.le_refl _) _
        have HE3 := Lib.hid hE3
        have KB := Lib.hid (alloc_here wr (.cells #[sV nm, .int .i64 ty, .int .i64 x] tBn))
        clear hE3
        go_wp2_with fail
        refine (D.out _ (HBL.out _ (Below.trans HE.out (HE3.out.mono hbr)))).mono ?_
        intro w4 hE4
        replace hE4 : Ext _ w4 := hE4
        have KB4 := Lib.hid ((hE4.below.block _ (lt_of_block KB.out)).trans KB.out)
        have HE4 := Lib.hid (Ext.trans HE3.out hE4)
        clear hE4 c0 c1 c2
        cases q with
        | true =>
          have HN := Lib.hid (HSK.out rfl)
          clear HSK HK
          go_wp2
          go_roundw
          case rel => exact ⟨i, j + 1, R, rfl, by go_num, by omega, HN.out, HR2.out.ext HE4.out, Below.trans HE.out (HE4.out.mono hbr)⟩
          case measure => simp [intOf]; omega
        | false =>
          have HN := Lib.hid (HK.out rfl)
          clear HSK HK
          have hiR : i < R.length := by omega
          have hr4 : RowB base (.slice (some ⟨g, 0, none⟩) R.length c) R w4 := by rw [HRL.out]; exact HR2.out.ext HE4.out
          obtain ⟨e0, e1, e2⟩ := hr4.cells i hiR
          have f0 : ∀ k, w4.frozen? ⟨g, k, none⟩ = false := fun k => World.ownsRow.frozenAt hr4 k
          have b0 : w4.cell? ⟨wr.heap.size, 0, none⟩ = some (sV nm) := cell_of KB4.out rfl
          have b1 : w4.cell? ⟨wr.heap.size, 1, none⟩ = some (.int .i64 ty) := cell_of KB4.out rfl
          have b2 : w4.cell? ⟨wr.heap.size, 2, none⟩ = some (.int .i64 x) := cell_of KB4.out rfl
          have HR4 := Lib.hid hr4
          have him : i < m := by omega
          have HIR := Lib.hid hiR
          generalize R[i] = old at *
          clear hr4 hiR
          go_wp2
          have hset : setB w4 g (i * 3) ⟨nm, ty, x⟩ = ((w4.setCell ⟨g, i * 3, none⟩ (sV nm)).setCell ⟨g, i * 3 + 1, none⟩ (.int .i64 ty)).setCell ⟨g, i * 3 + 2, none⟩ (.int .i64 x) := rfl
          have h1 := RowB.store HR4.out i HIR.out ⟨nm, ty, x⟩
          have h2 : Below base w (setB w4 g (i * 3) ⟨nm, ty, x⟩) := Below.trans (Below.trans HE.out (HE4.out.mono hbr)) (setB_below hgb)
          rw [List.length_set, HRL.out] at h1
          rw [hset] at h1 h2
          go_roundw
          case rel => exact ⟨i + 1, j + 1, R.set i ⟨nm, ty, x⟩, by go_num, by go_num, by omega, HN.out, h1, h2⟩
          case measure => simp [intOf]; omega
      · obtain rfl : j = m := by omega
        have hr' : RowB base (.slice (some ⟨g, 0, none⟩) R.length c) R wr := by rw [hRl]; exact hr
        have hcl : ∀ ty, (Builtin.clear_ #[25] ty #[.slice (some ⟨g, i * 3, none⟩) (j - i) (c - i)]).run Tryz.prog wr = .ok (.tuple #[]) (wr.setCells g (i * 3) (zerosB (j - i))) :=
          fun ty => clearB_run ty g (i * 3) (j - i) (c - i) wr (by omega) (fun k hk => by
            have hx : i * 3 + k < (rowB R).length := by rw [rowB_length]; omega
            rw [World.ownsRow.cellAt hr' (i * 3 + k) (by rw [← rowB_length]; exact hx), List.getElem?_eq_getElem hx]; rfl) (fun k hk => World.ownsRow.frozenAt hr' _)
        have hcap : j ≤ c := by
          rcases hr.2 with ⟨e, _⟩ | ⟨g', cap', cur, e, _, _, hn, _⟩
          · cases e
          · cases e; exact hn
        have hltz : ¬ (j : Int) < (j : Int) := by omega
        obtain ⟨ys, hy1, hy2, hy3⟩ := row_cells_set (zerosB (j - i)) (i * 3) _ _ hr'
        have HY2 := Lib.hid (row_cut hy2 i (by omega))
        have HY1 := Lib.hid hy1
        have HY3 := Lib.hid hy3
        clear hr hr' hy1 hy2 hy3
        go_wp2
        go_ret
        refine ⟨_, rfl, ?_, Below.trans HE.out HY3.out⟩
        have hd : R.take i = delB bs n := by
          have h := HI.out
          rw [← HM.out] at h
          exact h.done
        have h := HY2.out
        rw [HY1.out, rowB_take, hd] at h
        unfold RowB
        have hli : (delB bs n).length = i := by rw [← hd, List.length_take]; omega
        rw [hli]
        exact h

end Go.Proofs.YtgkalcboklhdgaaGreatDoor

namespace Go.Proofs.YtgkalcboklhdgaaGreatDoor
open Go.RowKit
set_option linter.unusedVariables false
set_option linter.unusedSimpArgs false
open Ex

theorem u8_bd {x : Int} (h : (Lit.int .u8 x).wf = true) : 0 ≤ x ∧ x ≤ 255 := by
  simp [Lit.wf, IntKind.min, IntKind.max, IntKind.signed, IntKind.bits] at h
  omega
theorem del_fits {bs : List Bn} (h : bs.length ≤ 4398046510976 ∧ ∀ b ∈ bs, b.fits) (n : List UInt8) : (delB bs n).length ≤ 4398046510976 ∧ ∀ b ∈ delB bs n, b.fits :=
  ⟨Nat.le_trans (List.length_filter_le _ _) h.1, fun b hb => h.2 b (List.mem_filter.1 hb).1⟩
theorem nmR_len (e : Ex) : (nmR e).length ≤ 1000000000 := by
  unfold nmR
  split
  · simp
  · rename_i h
    have h0 : e.chk = 0 := Classical.not_not.1 h
    have h1 := (chk_zero h0).1
    have h2 := nmE_size e
    have h3 := fold_len (nmE e) []
    simp only [List.length_nil] at h3
    omega
theorem box1z {W : World} {B : Nat} {a0 : Value} {T : TypeId} (h : W.heap[B]? = some (.cells #[a0] T (0, 0))) : W.cell? ⟨B, 0, none⟩ = some a0 ∧ True := ⟨cell_of h rfl, trivial⟩
set_option maxRecDepth 100000 in
set_option maxHeartbeats 8000000 in
theorem exprTexts_walk (a : Ex) (p : Option Addr) (c : Nat) (b : Ex) (p2 : Option Addr) (c2 : Nat) (bs : List Bn) (pb : Option Addr) (cb : Nat) (x : Int) (w : World) (hA : Ex.At w p a) (hB : Ex.At w p2 b) (hS : BAt w pb bs) (hx : (Lit.int .u8 x).wf = true) (hT : TabW w) :
    Gives Tryz.prog 3 #[a.val p c, b.val p2 c2, .slice pb bs.length cb, .int .u8 x] w (.bool true) := by
  obtain ⟨hx0, hx1⟩ := u8_bd hx
  clear hx
  obtain ⟨k, rfl⟩ : ∃ k : Nat, x = k := ⟨x.toNat, by omega⟩
  have C0 := Lib.hid (fun W (h : Ext w W) => show Gives _ _ #[.agg #[.int .i64 a.kind, .int .i64 a.op, sV a.name, .int .i64 a.value, .slice p a.args.length c]] _ _ from Great_any a p c W (hA.below h))
  have C1 := Lib.hid (fun W (h : Ext w W) => show Gives _ _ #[.agg #[.int .i64 b.kind, .int .i64 b.op, sV b.name, .int .i64 b.value, .slice p2 b.args.length c2]] _ _ from Great_any b p2 c2 W (hB.below h))
  have CG := Lib.hid (fun W (h : Ext w W) => GreatBindings_any bs pb cb W (hS.below h))
  have CW := Lib.hid (fun W (h : Ext w W) => show Gives _ _ #[.agg #[.int .i64 a.kind, .int .i64 a.op, sV a.name, .int .i64 a.value, .slice p a.args.length c]] _ (.tuple #[sV (prR decI a).1, .int .i64 (prR decI a).2]) from PrintZ_any a p c W (hT.below h.below) (hA.below h))
  have CV := Lib.hid (fun W (h : Ext w W) => show Gives _ _ #[.agg #[.int .i64 b.kind, .int .i64 b.op, sV b.name, .int .i64 b.value, .slice p2 b.args.length c2]] _ (.tuple #[sV (prR decI b).1, .int .i64 (prR decI b).2]) from PrintZ_any b p2 c2 W (hT.below h.below) (hB.below h))
  have CQ := Lib.hid (fun W (h : Ext w W) => show Gives _ _ #[.agg #[.int .i64 a.kind, .int .i64 a.op, sV a.name, .int .i64 a.value, .slice p a.args.length c], .agg #[.int .i64 b.kind, .int .i64 b.op, sV b.name, .int .i64 b.value, .slice p2 b.args.length c2]] _ _ from EqualX_any a b p p2 c c2 W (hA.below h) (hB.below h))
  have CN := Lib.hid (fun W (h : Ext w W) => show Calls _ _ #[.agg #[.int .i64 a.kind, .int .i64 a.op, sV a.name, .int .i64 a.value, .slice p a.args.length c]] _ _ from Names_any a p c W (hA.below h))
  have CT := Lib.hid (fun W (h : Ext w W) => show Gives _ _ #[.agg #[.int .i64 a.kind, .int .i64 a.op, sV a.name, .int .i64 a.value, .slice p a.args.length c], _] _ (.tuple #[.int .i64 (tyR bs a).1, .int .i64 (tyR bs a).2]) from Type_any bs pb cb a p c W (hA.below h) (hS.below h))
  have CT2 := Lib.hid (fun (n : List UInt8) (hz : (tyR bs a).2 = 0) (hn : n ∈ nmR a) q d W (h : Ext w W) (hb : BAt W q (delB bs n)) => show Gives _ _ #[.agg #[.int .i64 a.kind, .int .i64 a.op, sV a.name, .int .i64 a.value, .slice p a.args.length c], .slice q (delB bs n).length d] _ (.tuple #[.int .i64 0, .int .i64 7]) from by
    have h1 := Type_any (delB bs n) q d a p c W (hA.below h) hb
    rw [tyR_del hz hn] at h1
    exact h1)
  have CC := Lib.hid (fun W (h : Ext w W) => CloneB_row (hS.below h) cb)
  have CD := Lib.hid (fun (n : List UInt8) B base v W (hR : RowB base v bs W) hB hBb hbase => DeleteFunc_any bs n B base v W hS.1.1 hS.1.2 hR hB hBb hbase)
  have CA := Lib.hid (fun W => awake_any W)
  have HNL := Lib.hid (nmR_len a)
  have HTX := Lib.hid (texts_eq a b)
  have HFT := Lib.hid (And.intro hS.1.1 hS.1.2)
  have hv : a.val p c = .agg #[.int .i64 a.kind, .int .i64 a.op, sV a.name, .int .i64 a.value, .slice p a.args.length c] := rfl
  have hv2 : b.val p2 c2 = .agg #[.int .i64 b.kind, .int .i64 b.op, sV b.name, .int .i64 b.value, .slice p2 b.args.length c2] := rfl
  rw [hv, hv2]
  clear hv hv2 hA hB hT hS
  generalize (a.chk == 0 && (b.chk == 0 && eqE a b)) = q at *
  generalize a.great = ga at *
  generalize b.great = gb at *
  generalize gbs bs = gl at *
  generalize (prR decI a).1 = S at *
  generalize (prR decI a).2 = E at *
  generalize (prR decI b).1 = T at *
  generalize (prR decI b).2 = F at *
  generalize nmR a = nm at *
  generalize (tyR bs a).1 = t0 at *
  generalize (tyR bs a).2 = t1 at *
  obtain ⟨lb, hlb⟩ : ∃ lb, bs.length = lb := ⟨_, rfl⟩
  have HLB := Lib.hid hlb
  rw [hlb]
  rw [hlb] at CT CC CG
  clear hlb
  generalize a.kind = k1 at *
  generalize a.op = o1 at *
  generalize a.name = n1 at *
  generalize a.value = v1 at *
  generalize a.args.length = l1 at *
  generalize b.kind = k2 at *
  generalize b.op = o2 at *
  generalize b.name = n2 at *
  generalize b.value = v2 at *
  generalize b.args.length = l2 at *
  obtain ⟨hb1, hb2, hE⟩ := two_boxes w (.int .i64 k1) (.int .i64 o1) (sV n1) (.int .i64 v1) (.slice p l1 c) (.int .i64 k2) (.int .i64 o2) (sV n2) (.int .i64 v2) (.slice p2 l2 c2) tEx
  have Ka := Lib.hid hb1
  have Kb := Lib.hid hb2
  have HX := Lib.hid hE
  clear hb1 hb2 hE
  unfold Gives
  cases ga with
  | true =>
    go_enter Tryz.func3, Tryz.ntmps3
    obtain ⟨a0, a1, a2, a3, a4, a5⟩ := box5z Ka.out
    have lta := lt_of_block Ka.out
    obtain ⟨b0, b1, b2, b3, b4, b5⟩ := box5z Kb.out
    have ltb := lt_of_block Kb.out
    go_wp2_with fail
    refine (C0.out _ HX.out).mono ?_
    intro w1 hE
    replace hE : Ext _ w1 := hE
    clear a0 a1 a2 a3 a4 a5 lta
    clear b0 b1 b2 b3 b4 b5 ltb
    replace Ka := Lib.hid ((hE.below.block _ (lt_of_block Ka.out)).trans Ka.out)
    replace Kb := Lib.hid ((hE.below.block _ (lt_of_block Kb.out)).trans Kb.out)
    replace HX := Lib.hid (Ext.trans HX.out hE)
    clear hE
    obtain ⟨a0, a1, a2, a3, a4, a5⟩ := box5z Ka.out
    have lta := lt_of_block Ka.out
    obtain ⟨b0, b1, b2, b3, b4, b5⟩ := box5z Kb.out
    have ltb := lt_of_block Kb.out
    go_wp2_with fail
    refine (CA.out _).mono ?_
    intro w2 hE
    replace hE : Ext _ w2 := hE
    clear a0 a1 a2 a3 a4 a5 lta
    clear b0 b1 b2 b3 b4 b5 ltb
    replace Ka := Lib.hid ((hE.below.block _ (lt_of_block Ka.out)).trans Ka.out)
    replace Kb := Lib.hid ((hE.below.block _ (lt_of_block Kb.out)).trans Kb.out)
    replace HX := Lib.hid (Ext.trans HX.out hE)
    clear hE
    obtain ⟨a0, a1, a2, a3, a4, a5⟩ := box5z Ka.out
    have lta := lt_of_block Ka.out
    obtain ⟨b0, b1, b2, b3, b4, b5⟩ := box5z Kb.out
    have ltb := lt_of_block Kb.out
    clear a0 a1 a2 a3 a4 a5 lta
    clear b0 b1 b2 b3 b4 b5 ltb
    go_wp2
    go_ret
    exact ⟨rfl, HX.out⟩
  | false =>
    cases gb with
    | true =>
      go_enter Tryz.func3, Tryz.ntmps3
      obtain ⟨a0, a1, a2, a3, a4, a5⟩ := box5z Ka.out
      have lta := lt_of_block Ka.out
      obtain ⟨b0, b1, b2, b3, b4, b5⟩ := box5z Kb.out
      have ltb := lt_of_block Kb.out
      go_wp2_with fail
      refine (C0.out _ HX.out).mono ?_
      intro w1 hE
      replace hE : Ext _ w1 := hE
      clear a0 a1 a2 a3 a4 a5 lta
      clear b0 b1 b2 b3 b4 b5 ltb
      replace Ka := Lib.hid ((hE.below.block _ (lt_of_block Ka.out)).trans Ka.out)
      replace Kb := Lib.hid ((hE.below.block _ (lt_of_block Kb.out)).trans Kb.out)
      replace HX := Lib.hid (Ext.trans HX.out hE)
      clear hE
      obtain ⟨a0, a1, a2, a3, a4, a5⟩ := box5z Ka.out
      have lta := lt_of_block Ka.out
      obtain ⟨b0, b1, b2, b3, b4, b5⟩ := box5z Kb.out
      have ltb := lt_of_block Kb.out
      go_wp2_with fail
      refine (C1.out _ HX.out).mono ?_
      intro w2 hE
      replace hE : Ext _ w2 := hE
      clear a0 a1 a2 a3 a4 a5 lta
      clear b0 b1 b2 b3 b4 b5 ltb
      replace Ka := Lib.hid ((hE.below.block _ (lt_of_block Ka.out)).trans Ka.out)
      replace Kb := Lib.hid ((hE.below.block _ (lt_of_block Kb.out)).trans Kb.out)
      replace HX := Lib.hid (Ext.trans HX.out hE)
      clear hE
      obtain ⟨a0, a1, a2, a3, a4, a5⟩ := box5z Ka.out
      have lta := lt_of_block Ka.out
      obtain ⟨b0, b1, b2, b3, b4, b5⟩ := box5z Kb.out
      have ltb := lt_of_block Kb.out
      go_wp2_with fail
      refine (CA.out _).mono ?_
      intro w3 hE
      replace hE : Ext _ w3 := hE
      clear a0 a1 a2 a3 a4 a5 lta
      clear b0 b1 b2 b3 b4 b5 ltb
      replace Ka := Lib.hid ((hE.below.block _ (lt_of_block Ka.out)).trans Ka.out)
      replace Kb := Lib.hid ((hE.below.block _ (lt_of_block Kb.out)).trans Kb.out)
      replace HX := Lib.hid (Ext.trans HX.out hE)
      clear hE
      obtain ⟨a0, a1, a2, a3, a4, a5⟩ := box5z Ka.out
      have lta := lt_of_block Ka.out
      obtain ⟨b0, b1, b2, b3, b4, b5⟩ := box5z Kb.out
      have ltb := lt_of_block Kb.out
      clear a0 a1 a2 a3 a4 a5 lta
      clear b0 b1 b2 b3 b4 b5 ltb
      go_wp2
      go_ret
      exact ⟨rfl, HX.out⟩
    | false =>
      cases gl with
      | true =>
        go_enter Tryz.func3, Tryz.ntmps3
        obtain ⟨a0, a1, a2, a3, a4, a5⟩ := box5z Ka.out
        have lta := lt_of_block Ka.out
        obtain ⟨b0, b1, b2, b3, b4, b5⟩ := box5z Kb.out
        have ltb := lt_of_block Kb.out
        go_wp2_with fail
        refine (C0.out _ HX.out).mono ?_
        intro w1 hE
        replace hE : Ext _ w1 := hE
        clear a0 a1 a2 a3 a4 a5 lta
        clear b0 b1 b2 b3 b4 b5 ltb
        replace Ka := Lib.hid ((hE.below.block _ (lt_of_block Ka.out)).trans Ka.out)
        replace Kb := Lib.hid ((hE.below.block _ (lt_of_block Kb.out)).trans Kb.out)
        replace HX := Lib.hid (Ext.trans HX.out hE)
        clear hE
        obtain ⟨a0, a1, a2, a3, a4, a5⟩ := box5z Ka.out
        have lta := lt_of_block Ka.out
        obtain ⟨b0, b1, b2, b3, b4, b5⟩ := box5z Kb.out
        have ltb := lt_of_block Kb.out
        go_wp2_with fail
        refine (C1.out _ HX.out).mono ?_
        intro w2 hE
        replace hE : Ext _ w2 := hE
        clear a0 a1 a2 a3 a4 a5 lta
        clear b0 b1 b2 b3 b4 b5 ltb
        replace Ka := Lib.hid ((hE.below.block _ (lt_of_block Ka.out)).trans Ka.out)
        replace Kb := Lib.hid ((hE.below.block _ (lt_of_block Kb.out)).trans Kb.out)
        replace HX := Lib.hid (Ext.trans HX.out hE)
        clear hE
        obtain ⟨a0, a1, a2, a3, a4, a5⟩ := box5z Ka.out
        have lta := lt_of_block Ka.out
        obtain ⟨b0, b1, b2, b3, b4, b5⟩ := box5z Kb.out
        have ltb := lt_of_block Kb.out
        go_wp2_with fail
        refine (CG.out _ HX.out).mono ?_
        intro w3 hE
        replace hE : Ext _ w3 := hE
        clear a0 a1 a2 a3 a4 a5 lta
        clear b0 b1 b2 b3 b4 b5 ltb
        replace Ka := Lib.hid ((hE.below.block _ (lt_of_block Ka.out)).trans Ka.out)
        replace Kb := Lib.hid ((hE.below.block _ (lt_of_block Kb.out)).trans Kb.out)
        replace HX := Lib.hid (Ext.trans HX.out hE)
        clear hE
        obtain ⟨a0, a1, a2, a3, a4, a5⟩ := box5z Ka.out
        have lta := lt_of_block Ka.out
        obtain ⟨b0, b1, b2, b3, b4, b5⟩ := box5z Kb.out
        have ltb := lt_of_block Kb.out
        go_wp2_with fail
        refine (CA.out _).mono ?_
        intro w4 hE
        replace hE : Ext _ w4 := hE
        clear a0 a1 a2 a3 a4 a5 lta
        clear b0 b1 b2 b3 b4 b5 ltb
        replace Ka := Lib.hid ((hE.below.block _ (lt_of_block Ka.out)).trans Ka.out)
        replace Kb := Lib.hid ((hE.below.block _ (lt_of_block Kb.out)).trans Kb.out)
        replace HX := Lib.hid (Ext.trans HX.out hE)
        clear hE
        obtain ⟨a0, a1, a2, a3, a4, a5⟩ := box5z Ka.out
        have lta := lt_of_block Ka.out
        obtain ⟨b0, b1, b2, b3, b4, b5⟩ := box5z Kb.out
        have ltb := lt_of_block Kb.out
        clear a0 a1 a2 a3 a4 a5 lta
        clear b0 b1 b2 b3 b4 b5 ltb
        go_wp2
        go_ret
        exact ⟨rfl, HX.out⟩
      | false =>
        go_enter Tryz.func3, Tryz.ntmps3
        obtain ⟨a0, a1, a2, a3, a4, a5⟩ := box5z Ka.out
        have lta := lt_of_block Ka.out
        obtain ⟨b0, b1, b2, b3, b4, b5⟩ := box5z Kb.out
        have ltb := lt_of_block Kb.out
        go_wp2_with fail
        refine (C0.out _ HX.out).mono ?_
        intro w1 hE
        replace hE : Ext _ w1 := hE
        clear a0 a1 a2 a3 a4 a5 lta
        clear b0 b1 b2 b3 b4 b5 ltb
        replace Ka := Lib.hid ((hE.below.block _ (lt_of_block Ka.out)).trans Ka.out)
        replace Kb := Lib.hid ((hE.below.block _ (lt_of_block Kb.out)).trans Kb.out)
        replace HX := Lib.hid (Ext.trans HX.out hE)
        clear hE
        obtain ⟨a0, a1, a2, a3, a4, a5⟩ := box5z Ka.out
        have lta := lt_of_block Ka.out
        obtain ⟨b0, b1, b2, b3, b4, b5⟩ := box5z Kb.out
        have ltb := lt_of_block Kb.out
        go_wp2_with fail
        refine (C1.out _ HX.out).mono ?_
        intro w2 hE
        replace hE : Ext _ w2 := hE
        clear a0 a1 a2 a3 a4 a5 lta
        clear b0 b1 b2 b3 b4 b5 ltb
        replace Ka := Lib.hid ((hE.below.block _ (lt_of_block Ka.out)).trans Ka.out)
        replace Kb := Lib.hid ((hE.below.block _ (lt_of_block Kb.out)).trans Kb.out)
        replace HX := Lib.hid (Ext.trans HX.out hE)
        clear hE
        obtain ⟨a0, a1, a2, a3, a4, a5⟩ := box5z Ka.out
        have lta := lt_of_block Ka.out
        obtain ⟨b0, b1, b2, b3, b4, b5⟩ := box5z Kb.out
        have ltb := lt_of_block Kb.out
        go_wp2_with fail
        refine (CG.out _ HX.out).mono ?_
        intro w3 hE
        replace hE : Ext _ w3 := hE
        clear a0 a1 a2 a3 a4 a5 lta
        clear b0 b1 b2 b3 b4 b5 ltb
        replace Ka := Lib.hid ((hE.below.block _ (lt_of_block Ka.out)).trans Ka.out)
        replace Kb := Lib.hid ((hE.below.block _ (lt_of_block Kb.out)).trans Kb.out)
        replace HX := Lib.hid (Ext.trans HX.out hE)
        clear hE
        obtain ⟨a0, a1, a2, a3, a4, a5⟩ := box5z Ka.out
        have lta := lt_of_block Ka.out
        obtain ⟨b0, b1, b2, b3, b4, b5⟩ := box5z Kb.out
        have ltb := lt_of_block Kb.out
        go_wp2_with fail
        refine (CW.out _ HX.out).mono ?_
        intro w4 hE
        replace hE : Ext _ w4 := hE
        clear a0 a1 a2 a3 a4 a5 lta
        clear b0 b1 b2 b3 b4 b5 ltb
        replace Ka := Lib.hid ((hE.below.block _ (lt_of_block Ka.out)).trans Ka.out)
        replace Kb := Lib.hid ((hE.below.block _ (lt_of_block Kb.out)).trans Kb.out)
        replace HX := Lib.hid (Ext.trans HX.out hE)
        clear hE
        obtain ⟨a0, a1, a2, a3, a4, a5⟩ := box5z Ka.out
        have lta := lt_of_block Ka.out
        obtain ⟨b0, b1, b2, b3, b4, b5⟩ := box5z Kb.out
        have ltb := lt_of_block Kb.out
        go_wp2_with fail
        refine (CV.out _ HX.out).mono ?_
        intro w5 hE
        replace hE : Ext _ w5 := hE
        clear a0 a1 a2 a3 a4 a5 lta
        clear b0 b1 b2 b3 b4 b5 ltb
        replace Ka := Lib.hid ((hE.below.block _ (lt_of_block Ka.out)).trans Ka.out)
        replace Kb := Lib.hid ((hE.below.block _ (lt_of_block Kb.out)).trans Kb.out)
        replace HX := Lib.hid (Ext.trans HX.out hE)
        clear hE
        obtain ⟨a0, a1, a2, a3, a4, a5⟩ := box5z Ka.out
        have lta := lt_of_block Ka.out
        obtain ⟨b0, b1, b2, b3, b4, b5⟩ := box5z Kb.out
        have ltb := lt_of_block Kb.out
        clear C0 C1 CG CW CV
        by_cases hE0 : E = 0
        · subst hE0
          by_cases hF0 : F = 0
          · subst hF0
            have hq := HTX.out rfl rfl
            clear HTX
            by_cases hST : S = T
            · subst hST
              have hq : true = q := by rw [← hq]; simp
              subst hq
              go_wp2_with fail
              refine (CQ.out _ HX.out).mono ?_
              intro w6 hE
              replace hE : Ext _ w6 := hE
              clear a0 a1 a2 a3 a4 a5 lta
              clear b0 b1 b2 b3 b4 b5 ltb
              replace Ka := Lib.hid ((hE.below.block _ (lt_of_block Ka.out)).trans Ka.out)
              replace Kb := Lib.hid ((hE.below.block _ (lt_of_block Kb.out)).trans Kb.out)
              replace HX := Lib.hid (Ext.trans HX.out hE)
              clear hE
              obtain ⟨a0, a1, a2, a3, a4, a5⟩ := box5z Ka.out
              have lta := lt_of_block Ka.out
              obtain ⟨b0, b1, b2, b3, b4, b5⟩ := box5z Kb.out
              have ltb := lt_of_block Kb.out
              go_wp2_with fail
              refine (CN.out _ HX.out).mono ?_
              rintro _ w7 ⟨v', rfl, hr, hE⟩
              replace hE : Ext _ w7 := hE
              clear a0 a1 a2 a3 a4 a5 lta
              clear b0 b1 b2 b3 b4 b5 ltb
              replace Ka := Lib.hid ((hE.below.block _ (lt_of_block Ka.out)).trans Ka.out)
              replace Kb := Lib.hid ((hE.below.block _ (lt_of_block Kb.out)).trans Kb.out)
              replace HX := Lib.hid (Ext.trans HX.out hE)
              obtain ⟨xs, xc, rfl, hS⟩ := hr.strs
              have HSR := Lib.hid hS
              clear hr hS
              clear hE
              obtain ⟨a0, a1, a2, a3, a4, a5⟩ := box5z Ka.out
              have lta := lt_of_block Ka.out
              obtain ⟨b0, b1, b2, b3, b4, b5⟩ := box5z Kb.out
              have ltb := lt_of_block Kb.out
              go_wp2_with fail
              refine (CT.out _ HX.out).mono ?_
              intro w8 hE
              replace hE : Ext _ w8 := hE
              clear a0 a1 a2 a3 a4 a5 lta
              clear b0 b1 b2 b3 b4 b5 ltb
              replace Ka := Lib.hid ((hE.below.block _ (lt_of_block Ka.out)).trans Ka.out)
              replace Kb := Lib.hid ((hE.below.block _ (lt_of_block Kb.out)).trans Kb.out)
              replace HSR := Lib.hid (HSR.out.below hE)
              replace HX := Lib.hid (Ext.trans HX.out hE)
              clear hE
              obtain ⟨a0, a1, a2, a3, a4, a5⟩ := box5z Ka.out
              have lta := lt_of_block Ka.out
              obtain ⟨b0, b1, b2, b3, b4, b5⟩ := box5z Kb.out
              have ltb := lt_of_block Kb.out
              by_cases hz : t1 = 0
              · have HT0 := Lib.hid hz
                have hz1 : (t1 == 0) = true := by simpa using hz
                have hz2 : (t1 != 0) = false := by simpa using hz
                clear hz
                have hnl := HNL.out
                by_cases hL : nm.length = 0
                · have hL1 : ((nm.length : Int) == 0) = true := by simpa using hL
                  go_wp2_with fail
                  refine (CA.out _).mono ?_
                  intro w9 hE
                  replace hE : Ext _ w9 := hE
                  clear a0 a1 a2 a3 a4 a5 lta
                  clear b0 b1 b2 b3 b4 b5 ltb
                  replace Ka := Lib.hid ((hE.below.block _ (lt_of_block Ka.out)).trans Ka.out)
                  replace Kb := Lib.hid ((hE.below.block _ (lt_of_block Kb.out)).trans Kb.out)
                  replace HSR := Lib.hid (HSR.out.below hE)
                  replace HX := Lib.hid (Ext.trans HX.out hE)
                  clear hE
                  obtain ⟨a0, a1, a2, a3, a4, a5⟩ := box5z Ka.out
                  have lta := lt_of_block Ka.out
                  obtain ⟨b0, b1, b2, b3, b4, b5⟩ := box5z Kb.out
                  have ltb := lt_of_block Kb.out
                  clear a0 a1 a2 a3 a4 a5 lta
                  clear b0 b1 b2 b3 b4 b5 ltb
                  go_wp2
                  go_ret
                  exact ⟨rfl, HX.out⟩
                · have hL1 : ((nm.length : Int) == 0) = false := by rw [beq_eq_false_iff_ne]; omega
                  have hL2 : 0 < nm.length := by omega
                  clear hL
                  obtain ⟨i, hi⟩ : ∃ i, i = k % nm.length := ⟨_, rfl⟩
                  have him : i < nm.length := by rw [hi]; exact Nat.mod_lt _ (by omega)
                  have hmod : (k : Int).tmod (nm.length : Int) = (i : Int) := by rw [hi, Int.tmod_eq_emod_of_nonneg (by omega)]; simp
                  clear hi
                  obtain ⟨bb, off, hxs, hcell⟩ := HSR.out i him
                  subst hxs
                  have HMEM := Lib.hid (List.getElem_mem him)
                  have HD2 := Lib.hid (CT2.out nm[i] HT0.out HMEM.out)
                  have HCD := Lib.hid (CD.out nm[i])
                  generalize nm[i] = m at *
                  clear CT2 CD HMEM
                  have hlb := Ex.cell_lt' hcell
                  have KN := Lib.hid (alloc_here w8 (.cells #[sV m] 9))
                  have hE : Ext w8 (w8.alloc (.cells #[sV m] 9)) := (Below.refl _ _).alloc (Nat.le_refl _) _
                  have HWB := Lib.hid (show w8.heap.size < (w8.alloc (.cells #[sV m] 9)).heap.size by simp)
                  clear a0 a1 a2 a3 a4 a5 lta
                  clear b0 b1 b2 b3 b4 b5 ltb
                  replace Ka := Lib.hid ((hE.below.block _ (lt_of_block Ka.out)).trans Ka.out)
                  replace Kb := Lib.hid ((hE.below.block _ (lt_of_block Kb.out)).trans Kb.out)
                  replace HX := Lib.hid (Ext.trans HX.out hE)
                  clear hE
                  obtain ⟨a0, a1, a2, a3, a4, a5⟩ := box5z Ka.out
                  have lta := lt_of_block Ka.out
                  obtain ⟨b0, b1, b2, b3, b4, b5⟩ := box5z Kb.out
                  have ltb := lt_of_block Kb.out
                  obtain ⟨N0, N1⟩ := box1z KN.out
                  have ltN := lt_of_block KN.out
                  go_wp2_with fail
                  refine (CC.out _ HX.out).mono ?_
                  rintro _ wc ⟨vr, rfl, hrow, hEc⟩
                  have hcN : wc.cell? ⟨w8.heap.size, 0, none⟩ = some (sV m) := cell_of ((hEc.below.block _ (lt_of_block KN.out)).trans KN.out) rfl
                  have C := Lib.hid (HCD.out w8.heap.size _ vr wc hrow hcN HWB.out hEc.size)
                  have HEC := Lib.hid hEc
                  clear hEc hrow hcN
                  clear a0 a1 a2 a3 a4 a5 lta
                  clear b0 b1 b2 b3 b4 b5 ltb
                  clear N0 N1 ltN
                  clear hcell hlb
                  go_wp2_with fail
                  refine (C.out).mono ?_
                  rintro _ wd ⟨v3, rfl, hr3, hE3⟩
                  have hE : Ext _ wd := Below.trans HEC.out hE3
                  obtain ⟨p3, c3, rfl, hb3⟩ := hr3.at (del_fits HFT.out m).1 (del_fits HFT.out m).2
                  have HB3 := Lib.hid hb3
                  clear hb3 hr3 hE3
                  clear KN
                  replace Ka := Lib.hid ((hE.below.block _ (lt_of_block Ka.out)).trans Ka.out)
                  replace Kb := Lib.hid ((hE.below.block _ (lt_of_block Kb.out)).trans Kb.out)
                  replace HX := Lib.hid (Ext.trans HX.out hE)
                  clear hE
                  obtain ⟨a0, a1, a2, a3, a4, a5⟩ := box5z Ka.out
                  have lta := lt_of_block Ka.out
                  obtain ⟨b0, b1, b2, b3, b4, b5⟩ := box5z Kb.out
                  have ltb := lt_of_block Kb.out
                  go_wp2_with fail
                  refine (HD2.out _ _ _ HX.out HB3.out).mono ?_
                  intro w41 hE
                  replace hE : Ext _ w41 := hE
                  clear a0 a1 a2 a3 a4 a5 lta
                  clear b0 b1 b2 b3 b4 b5 ltb
                  replace Ka := Lib.hid ((hE.below.block _ (lt_of_block Ka.out)).trans Ka.out)
                  replace Kb := Lib.hid ((hE.below.block _ (lt_of_block Kb.out)).trans Kb.out)
                  replace HX := Lib.hid (Ext.trans HX.out hE)
                  clear hE
                  obtain ⟨a0, a1, a2, a3, a4, a5⟩ := box5z Ka.out
                  have lta := lt_of_block Ka.out
                  obtain ⟨b0, b1, b2, b3, b4, b5⟩ := box5z Kb.out
                  have ltb := lt_of_block Kb.out
                  go_wp2_with fail
                  refine (CA.out _).mono ?_
                  intro w42 hE
                  replace hE : Ext _ w42 := hE
                  clear a0 a1 a2 a3 a4 a5 lta
                  clear b0 b1 b2 b3 b4 b5 ltb
                  replace Ka := Lib.hid ((hE.below.block _ (lt_of_block Ka.out)).trans Ka.out)
                  replace Kb := Lib.hid ((hE.below.block _ (lt_of_block Kb.out)).trans Kb.out)
                  replace HX := Lib.hid (Ext.trans HX.out hE)
                  clear hE
                  obtain ⟨a0, a1, a2, a3, a4, a5⟩ := box5z Ka.out
                  have lta := lt_of_block Ka.out
                  obtain ⟨b0, b1, b2, b3, b4, b5⟩ := box5z Kb.out
                  have ltb := lt_of_block Kb.out
                  clear a0 a1 a2 a3 a4 a5 lta
                  clear b0 b1 b2 b3 b4 b5 ltb
                  go_wp2
                  go_ret
                  exact ⟨rfl, HX.out⟩
              · have hz1 : (t1 == 0) = false := by simpa using hz
                have hz2 : (t1 != 0) = true := by simpa using hz
                clear hz
                go_wp2_with fail
                refine (CA.out _).mono ?_
                intro w9 hE
                replace hE : Ext _ w9 := hE
                clear a0 a1 a2 a3 a4 a5 lta
                clear b0 b1 b2 b3 b4 b5 ltb
                replace Ka := Lib.hid ((hE.below.block _ (lt_of_block Ka.out)).trans Ka.out)
                replace Kb := Lib.hid ((hE.below.block _ (lt_of_block Kb.out)).trans Kb.out)
                replace HSR := Lib.hid (HSR.out.below hE)
                replace HX := Lib.hid (Ext.trans HX.out hE)
                clear hE
                obtain ⟨a0, a1, a2, a3, a4, a5⟩ := box5z Ka.out
                have lta := lt_of_block Ka.out
                obtain ⟨b0, b1, b2, b3, b4, b5⟩ := box5z Kb.out
                have ltb := lt_of_block Kb.out
                clear a0 a1 a2 a3 a4 a5 lta
                clear b0 b1 b2 b3 b4 b5 ltb
                go_wp2
                go_ret
                exact ⟨rfl, HX.out⟩
            · have hs1 : (S == T) = false := by simpa using hST
              have hq : false = q := by rw [← hq, hs1]
              subst hq
              clear hST
              go_wp2_with fail
              refine (CQ.out _ HX.out).mono ?_
              intro w6 hE
              replace hE : Ext _ w6 := hE
              clear a0 a1 a2 a3 a4 a5 lta
              clear b0 b1 b2 b3 b4 b5 ltb
              replace Ka := Lib.hid ((hE.below.block _ (lt_of_block Ka.out)).trans Ka.out)
              replace Kb := Lib.hid ((hE.below.block _ (lt_of_block Kb.out)).trans Kb.out)
              replace HX := Lib.hid (Ext.trans HX.out hE)
              clear hE
              obtain ⟨a0, a1, a2, a3, a4, a5⟩ := box5z Ka.out
              have lta := lt_of_block Ka.out
              obtain ⟨b0, b1, b2, b3, b4, b5⟩ := box5z Kb.out
              have ltb := lt_of_block Kb.out
              go_wp2_with fail
              refine (CN.out _ HX.out).mono ?_
              rintro _ w7 ⟨v', rfl, hr, hE⟩
              replace hE : Ext _ w7 := hE
              clear a0 a1 a2 a3 a4 a5 lta
              clear b0 b1 b2 b3 b4 b5 ltb
              replace Ka := Lib.hid ((hE.below.block _ (lt_of_block Ka.out)).trans Ka.out)
              replace Kb := Lib.hid ((hE.below.block _ (lt_of_block Kb.out)).trans Kb.out)
              replace HX := Lib.hid (Ext.trans HX.out hE)
              obtain ⟨xs, xc, rfl, hS⟩ := hr.strs
              have HSR := Lib.hid hS
              clear hr hS
              clear hE
              obtain ⟨a0, a1, a2, a3, a4, a5⟩ := box5z Ka.out
              have lta := lt_of_block Ka.out
              obtain ⟨b0, b1, b2, b3, b4, b5⟩ := box5z Kb.out
              have ltb := lt_of_block Kb.out
              go_wp2_with fail
              refine (CT.out _ HX.out).mono ?_
              intro w8 hE
              replace hE : Ext _ w8 := hE
              clear a0 a1 a2 a3 a4 a5 lta
              clear b0 b1 b2 b3 b4 b5 ltb
              replace Ka := Lib.hid ((hE.below.block _ (lt_of_block Ka.out)).trans Ka.out)
              replace Kb := Lib.hid ((hE.below.block _ (lt_of_block Kb.out)).trans Kb.out)
              replace HSR := Lib.hid (HSR.out.below hE)
              replace HX := Lib.hid (Ext.trans HX.out hE)
              clear hE
              obtain ⟨a0, a1, a2, a3, a4, a5⟩ := box5z Ka.out
              have lta := lt_of_block Ka.out
              obtain ⟨b0, b1, b2, b3, b4, b5⟩ := box5z Kb.out
              have ltb := lt_of_block Kb.out
              by_cases hz : t1 = 0
              · have HT0 := Lib.hid hz
                have hz1 : (t1 == 0) = true := by simpa using hz
                have hz2 : (t1 != 0) = false := by simpa using hz
                clear hz
                have hnl := HNL.out
                by_cases hL : nm.length = 0
                · have hL1 : ((nm.length : Int) == 0) = true := by simpa using hL
                  go_wp2_with fail
                  refine (CA.out _).mono ?_
                  intro w9 hE
                  replace hE : Ext _ w9 := hE
                  clear a0 a1 a2 a3 a4 a5 lta
                  clear b0 b1 b2 b3 b4 b5 ltb
                  replace Ka := Lib.hid ((hE.below.block _ (lt_of_block Ka.out)).trans Ka.out)
                  replace Kb := Lib.hid ((hE.below.block _ (lt_of_block Kb.out)).trans Kb.out)
                  replace HSR := Lib.hid (HSR.out.below hE)
                  replace HX := Lib.hid (Ext.trans HX.out hE)
                  clear hE
                  obtain ⟨a0, a1, a2, a3, a4, a5⟩ := box5z Ka.out
                  have lta := lt_of_block Ka.out
                  obtain ⟨b0, b1, b2, b3, b4, b5⟩ := box5z Kb.out
                  have ltb := lt_of_block Kb.out
                  clear a0 a1 a2 a3 a4 a5 lta
                  clear b0 b1 b2 b3 b4 b5 ltb
                  go_wp2
                  go_ret
                  exact ⟨rfl, HX.out⟩
                · have hL1 : ((nm.length : Int) == 0) = false := by rw [beq_eq_false_iff_ne]; omega
                  have hL2 : 0 < nm.length := by omega
                  clear hL
                  obtain ⟨i, hi⟩ : ∃ i, i = k % nm.length := ⟨_, rfl⟩
                  have him : i < nm.length := by rw [hi]; exact Nat.mod_lt _ (by omega)
                  have hmod : (k : Int).tmod (nm.length : Int) = (i : Int) := by rw [hi, Int.tmod_eq_emod_of_nonneg (by omega)]; simp
                  clear hi
                  obtain ⟨bb, off, hxs, hcell⟩ := HSR.out i him
                  subst hxs
                  have HMEM := Lib.hid (List.getElem_mem him)
                  have HD2 := Lib.hid (CT2.out nm[i] HT0.out HMEM.out)
                  have HCD := Lib.hid (CD.out nm[i])
                  generalize nm[i] = m at *
                  clear CT2 CD HMEM
                  have hlb := Ex.cell_lt' hcell
                  have KN := Lib.hid (alloc_here w8 (.cells #[sV m] 9))
                  have hE : Ext w8 (w8.alloc (.cells #[sV m] 9)) := (Below.refl _ _).alloc (Nat.le_refl _) _
                  have HWB := Lib.hid (show w8.heap.size < (w8.alloc (.cells #[sV m] 9)).heap.size by simp)
                  clear a0 a1 a2 a3 a4 a5 lta
                  clear b0 b1 b2 b3 b4 b5 ltb
                  replace Ka := Lib.hid ((hE.below.block _ (lt_of_block Ka.out)).trans Ka.out)
                  replace Kb := Lib.hid ((hE.below.block _ (lt_of_block Kb.out)).trans Kb.out)
                  replace HX := Lib.hid (Ext.trans HX.out hE)
                  clear hE
                  obtain ⟨a0, a1, a2, a3, a4, a5⟩ := box5z Ka.out
                  have lta := lt_of_block Ka.out
                  obtain ⟨b0, b1, b2, b3, b4, b5⟩ := box5z Kb.out
                  have ltb := lt_of_block Kb.out
                  obtain ⟨N0, N1⟩ := box1z KN.out
                  have ltN := lt_of_block KN.out
                  go_wp2_with fail
                  refine (CC.out _ HX.out).mono ?_
                  rintro _ wc ⟨vr, rfl, hrow, hEc⟩
                  have hcN : wc.cell? ⟨w8.heap.size, 0, none⟩ = some (sV m) := cell_of ((hEc.below.block _ (lt_of_block KN.out)).trans KN.out) rfl
                  have C := Lib.hid (HCD.out w8.heap.size _ vr wc hrow hcN HWB.out hEc.size)
                  have HEC := Lib.hid hEc
                  clear hEc hrow hcN
                  clear a0 a1 a2 a3 a4 a5 lta
                  clear b0 b1 b2 b3 b4 b5 ltb
                  clear N0 N1 ltN
                  clear hcell hlb
                  go_wp2_with fail
                  refine (C.out).mono ?_
                  rintro _ wd ⟨v3, rfl, hr3, hE3⟩
                  have hE : Ext _ wd := Below.trans HEC.out hE3
                  obtain ⟨p3, c3, rfl, hb3⟩ := hr3.at (del_fits HFT.out m).1 (del_fits HFT.out m).2
                  have HB3 := Lib.hid hb3
                  clear hb3 hr3 hE3
                  clear KN
                  replace Ka := Lib.hid ((hE.below.block _ (lt_of_block Ka.out)).trans Ka.out)
                  replace Kb := Lib.hid ((hE.below.block _ (lt_of_block Kb.out)).trans Kb.out)
                  replace HX := Lib.hid (Ext.trans HX.out hE)
                  clear hE
                  obtain ⟨a0, a1, a2, a3, a4, a5⟩ := box5z Ka.out
                  have lta := lt_of_block Ka.out
                  obtain ⟨b0, b1, b2, b3, b4, b5⟩ := box5z Kb.out
                  have ltb := lt_of_block Kb.out
                  go_wp2_with fail
                  refine (HD2.out _ _ _ HX.out HB3.out).mono ?_
                  intro w41 hE
                  replace hE : Ext _ w41 := hE
                  clear a0 a1 a2 a3 a4 a5 lta
                  clear b0 b1 b2 b3 b4 b5 ltb
                  replace Ka := Lib.hid ((hE.below.block _ (lt_of_block Ka.out)).trans Ka.out)
                  replace Kb := Lib.hid ((hE.below.block _ (lt_of_block Kb.out)).trans Kb.out)
                  replace HX := Lib.hid (Ext.trans HX.out hE)
                  clear hE
                  obtain ⟨a0, a1, a2, a3, a4, a5⟩ := box5z Ka.out
                  have lta := lt_of_block Ka.out
                  obtain ⟨b0, b1, b2, b3, b4, b5⟩ := box5z Kb.out
                  have ltb := lt_of_block Kb.out
                  go_wp2_with fail
                  refine (CA.out _).mono ?_
                  intro w42 hE
                  replace hE : Ext _ w42 := hE
                  clear a0 a1 a2 a3 a4 a5 lta
                  clear b0 b1 b2 b3 b4 b5 ltb
                  replace Ka := Lib.hid ((hE.below.block _ (lt_of_block Ka.out)).trans Ka.out)
                  replace Kb := Lib.hid ((hE.below.block _ (lt_of_block Kb.out)).trans Kb.out)
                  replace HX := Lib.hid (Ext.trans HX.out hE)
                  clear hE
                  obtain ⟨a0, a1, a2, a3, a4, a5⟩ := box5z Ka.out
                  have lta := lt_of_block Ka.out
                  obtain ⟨b0, b1, b2, b3, b4, b5⟩ := box5z Kb.out
                  have ltb := lt_of_block Kb.out
                  clear a0 a1 a2 a3 a4 a5 lta
                  clear b0 b1 b2 b3 b4 b5 ltb
                  go_wp2
                  go_ret
                  exact ⟨rfl, HX.out⟩
              · have hz1 : (t1 == 0) = false := by simpa using hz
                have hz2 : (t1 != 0) = true := by simpa using hz
                clear hz
                go_wp2_with fail
                refine (CA.out _).mono ?_
                intro w9 hE
                replace hE : Ext _ w9 := hE
                clear a0 a1 a2 a3 a4 a5 lta
                clear b0 b1 b2 b3 b4 b5 ltb
                replace Ka := Lib.hid ((hE.below.block _ (lt_of_block Ka.out)).trans Ka.out)
                replace Kb := Lib.hid ((hE.below.block _ (lt_of_block Kb.out)).trans Kb.out)
                replace HSR := Lib.hid (HSR.out.below hE)
                replace HX := Lib.hid (Ext.trans HX.out hE)
                clear hE
                obtain ⟨a0, a1, a2, a3, a4, a5⟩ := box5z Ka.out
                have lta := lt_of_block Ka.out
                obtain ⟨b0, b1, b2, b3, b4, b5⟩ := box5z Kb.out
                have ltb := lt_of_block Kb.out
                clear a0 a1 a2 a3 a4 a5 lta
                clear b0 b1 b2 b3 b4 b5 ltb
                go_wp2
                go_ret
                exact ⟨rfl, HX.out⟩
          · have hf1 : (F == 0) = false := by simpa using hF0
            have hf2 : (F != 0) = true := by simpa using hF0
            clear hF0 HTX
            go_wp2_with fail
            refine (CN.out _ HX.out).mono ?_
            rintro _ w6 ⟨v', rfl, hr, hE⟩
            replace hE : Ext _ w6 := hE
            clear a0 a1 a2 a3 a4 a5 lta
            clear b0 b1 b2 b3 b4 b5 ltb
            replace Ka := Lib.hid ((hE.below.block _ (lt_of_block Ka.out)).trans Ka.out)
            replace Kb := Lib.hid ((hE.below.block _ (lt_of_block Kb.out)).trans Kb.out)
            replace HX := Lib.hid (Ext.trans HX.out hE)
            obtain ⟨xs, xc, rfl, hS⟩ := hr.strs
            have HSR := Lib.hid hS
            clear hr hS
            clear hE
            obtain ⟨a0, a1, a2, a3, a4, a5⟩ := box5z Ka.out
            have lta := lt_of_block Ka.out
            obtain ⟨b0, b1, b2, b3, b4, b5⟩ := box5z Kb.out
            have ltb := lt_of_block Kb.out
            go_wp2_with fail
            refine (CT.out _ HX.out).mono ?_
            intro w7 hE
            replace hE : Ext _ w7 := hE
            clear a0 a1 a2 a3 a4 a5 lta
            clear b0 b1 b2 b3 b4 b5 ltb
            replace Ka := Lib.hid ((hE.below.block _ (lt_of_block Ka.out)).trans Ka.out)
            replace Kb := Lib.hid ((hE.below.block _ (lt_of_block Kb.out)).trans Kb.out)
            replace HSR := Lib.hid (HSR.out.below hE)
            replace HX := Lib.hid (Ext.trans HX.out hE)
            clear hE
            obtain ⟨a0, a1, a2, a3, a4, a5⟩ := box5z Ka.out
            have lta := lt_of_block Ka.out
            obtain ⟨b0, b1, b2, b3, b4, b5⟩ := box5z Kb.out
            have ltb := lt_of_block Kb.out
            by_cases hz : t1 = 0
            · have HT0 := Lib.hid hz
              have hz1 : (t1 == 0) = true := by simpa using hz
              have hz2 : (t1 != 0) = false := by simpa using hz
              clear hz
              have hnl := HNL.out
              by_cases hL : nm.length = 0
              · have hL1 : ((nm.length : Int) == 0) = true := by simpa using hL
                go_wp2_with fail
                refine (CA.out _).mono ?_
                intro w8 hE
                replace hE : Ext _ w8 := hE
                clear a0 a1 a2 a3 a4 a5 lta
                clear b0 b1 b2 b3 b4 b5 ltb
                replace Ka := Lib.hid ((hE.below.block _ (lt_of_block Ka.out)).trans Ka.out)
                replace Kb := Lib.hid ((hE.below.block _ (lt_of_block Kb.out)).trans Kb.out)
                replace HSR := Lib.hid (HSR.out.below hE)
                replace HX := Lib.hid (Ext.trans HX.out hE)
                clear hE
                obtain ⟨a0, a1, a2, a3, a4, a5⟩ := box5z Ka.out
                have lta := lt_of_block Ka.out
                obtain ⟨b0, b1, b2, b3, b4, b5⟩ := box5z Kb.out
                have ltb := lt_of_block Kb.out
                clear a0 a1 a2 a3 a4 a5 lta
                clear b0 b1 b2 b3 b4 b5 ltb
                go_wp2
                go_ret
                exact ⟨rfl, HX.out⟩
              · have hL1 : ((nm.length : Int) == 0) = false := by rw [beq_eq_false_iff_ne]; omega
                have hL2 : 0 < nm.length := by omega
                clear hL
                obtain ⟨i, hi⟩ : ∃ i, i = k % nm.length := ⟨_, rfl⟩
                have him : i < nm.length := by rw [hi]; exact Nat.mod_lt _ (by omega)
                have hmod : (k : Int).tmod (nm.length : Int) = (i : Int) := by rw [hi, Int.tmod_eq_emod_of_nonneg (by omega)]; simp
                clear hi
                obtain ⟨bb, off, hxs, hcell⟩ := HSR.out i him
                subst hxs
                have HMEM := Lib.hid (List.getElem_mem him)
                have HD2 := Lib.hid (CT2.out nm[i] HT0.out HMEM.out)
                have HCD := Lib.hid (CD.out nm[i])
                generalize nm[i] = m at *
                clear CT2 CD HMEM
                have hlb := Ex.cell_lt' hcell
                have KN := Lib.hid (alloc_here w7 (.cells #[sV m] 9))
                have hE : Ext w7 (w7.alloc (.cells #[sV m] 9)) := (Below.refl _ _).alloc (Nat.le_refl _) _
                have HWB := Lib.hid (show w7.heap.size < (w7.alloc (.cells #[sV m] 9)).heap.size by simp)
                clear a0 a1 a2 a3 a4 a5 lta
                clear b0 b1 b2 b3 b4 b5 ltb
                replace Ka := Lib.hid ((hE.below.block _ (lt_of_block Ka.out)).trans Ka.out)
                replace Kb := Lib.hid ((hE.below.block _ (lt_of_block Kb.out)).trans Kb.out)
                replace HX := Lib.hid (Ext.trans HX.out hE)
                clear hE
                obtain ⟨a0, a1, a2, a3, a4, a5⟩ := box5z Ka.out
                have lta := lt_of_block Ka.out
                obtain ⟨b0, b1, b2, b3, b4, b5⟩ := box5z Kb.out
                have ltb := lt_of_block Kb.out
                obtain ⟨N0, N1⟩ := box1z KN.out
                have ltN := lt_of_block KN.out
                go_wp2_with fail
                refine (CC.out _ HX.out).mono ?_
                rintro _ wc ⟨vr, rfl, hrow, hEc⟩
                have hcN : wc.cell? ⟨w7.heap.size, 0, none⟩ = some (sV m) := cell_of ((hEc.below.block _ (lt_of_block KN.out)).trans KN.out) rfl
                have C := Lib.hid (HCD.out w7.heap.size _ vr wc hrow hcN HWB.out hEc.size)
                have HEC := Lib.hid hEc
                clear hEc hrow hcN
                clear a0 a1 a2 a3 a4 a5 lta
                clear b0 b1 b2 b3 b4 b5 ltb
                clear N0 N1 ltN
                clear hcell hlb
                go_wp2_with fail
                refine (C.out).mono ?_
                rintro _ wd ⟨v3, rfl, hr3, hE3⟩
                have hE : Ext _ wd := Below.trans HEC.out hE3
                obtain ⟨p3, c3, rfl, hb3⟩ := hr3.at (del_fits HFT.out m).1 (del_fits HFT.out m).2
                have HB3 := Lib.hid hb3
                clear hb3 hr3 hE3
                clear KN
                replace Ka := Lib.hid ((hE.below.block _ (lt_of_block Ka.out)).trans Ka.out)
                replace Kb := Lib.hid ((hE.below.block _ (lt_of_block Kb.out)).trans Kb.out)
                replace HX := Lib.hid (Ext.trans HX.out hE)
                clear hE
                obtain ⟨a0, a1, a2, a3, a4, a5⟩ := box5z Ka.out
                have lta := lt_of_block Ka.out
                obtain ⟨b0, b1, b2, b3, b4, b5⟩ := box5z Kb.out
                have ltb := lt_of_block Kb.out
                go_wp2_with fail
                refine (HD2.out _ _ _ HX.out HB3.out).mono ?_
                intro w41 hE
                replace hE : Ext _ w41 := hE
                clear a0 a1 a2 a3 a4 a5 lta
                clear b0 b1 b2 b3 b4 b5 ltb
                replace Ka := Lib.hid ((hE.below.block _ (lt_of_block Ka.out)).trans Ka.out)
                replace Kb := Lib.hid ((hE.below.block _ (lt_of_block Kb.out)).trans Kb.out)
                replace HX := Lib.hid (Ext.trans HX.out hE)
                clear hE
                obtain ⟨a0, a1, a2, a3, a4, a5⟩ := box5z Ka.out
                have lta := lt_of_block Ka.out
                obtain ⟨b0, b1, b2, b3, b4, b5⟩ := box5z Kb.out
                have ltb := lt_of_block Kb.out
                go_wp2_with fail
                refine (CA.out _).mono ?_
                intro w42 hE
                replace hE : Ext _ w42 := hE
                clear a0 a1 a2 a3 a4 a5 lta
                clear b0 b1 b2 b3 b4 b5 ltb
                replace Ka := Lib.hid ((hE.below.block _ (lt_of_block Ka.out)).trans Ka.out)
                replace Kb := Lib.hid ((hE.below.block _ (lt_of_block Kb.out)).trans Kb.out)
                replace HX := Lib.hid (Ext.trans HX.out hE)
                clear hE
                obtain ⟨a0, a1, a2, a3, a4, a5⟩ := box5z Ka.out
                have lta := lt_of_block Ka.out
                obtain ⟨b0, b1, b2, b3, b4, b5⟩ := box5z Kb.out
                have ltb := lt_of_block Kb.out
                clear a0 a1 a2 a3 a4 a5 lta
                clear b0 b1 b2 b3 b4 b5 ltb
                go_wp2
                go_ret
                exact ⟨rfl, HX.out⟩
            · have hz1 : (t1 == 0) = false := by simpa using hz
              have hz2 : (t1 != 0) = true := by simpa using hz
              clear hz
              go_wp2_with fail
              refine (CA.out _).mono ?_
              intro w8 hE
              replace hE : Ext _ w8 := hE
              clear a0 a1 a2 a3 a4 a5 lta
              clear b0 b1 b2 b3 b4 b5 ltb
              replace Ka := Lib.hid ((hE.below.block _ (lt_of_block Ka.out)).trans Ka.out)
              replace Kb := Lib.hid ((hE.below.block _ (lt_of_block Kb.out)).trans Kb.out)
              replace HSR := Lib.hid (HSR.out.below hE)
              replace HX := Lib.hid (Ext.trans HX.out hE)
              clear hE
              obtain ⟨a0, a1, a2, a3, a4, a5⟩ := box5z Ka.out
              have lta := lt_of_block Ka.out
              obtain ⟨b0, b1, b2, b3, b4, b5⟩ := box5z Kb.out
              have ltb := lt_of_block Kb.out
              clear a0 a1 a2 a3 a4 a5 lta
              clear b0 b1 b2 b3 b4 b5 ltb
              go_wp2
              go_ret
              exact ⟨rfl, HX.out⟩
        · have he1 : (E == 0) = false := by simpa using hE0
          have he2 : (E != 0) = true := by simpa using hE0
          clear hE0 HTX
          go_wp2_with fail
          refine (CN.out _ HX.out).mono ?_
          rintro _ w6 ⟨v', rfl, hr, hE⟩
          replace hE : Ext _ w6 := hE
          clear a0 a1 a2 a3 a4 a5 lta
          clear b0 b1 b2 b3 b4 b5 ltb
          replace Ka := Lib.hid ((hE.below.block _ (lt_of_block Ka.out)).trans Ka.out)
          replace Kb := Lib.hid ((hE.below.block _ (lt_of_block Kb.out)).trans Kb.out)
          replace HX := Lib.hid (Ext.trans HX.out hE)
          obtain ⟨xs, xc, rfl, hS⟩ := hr.strs
          have HSR := Lib.hid hS
          clear hr hS
          clear hE
          obtain ⟨a0, a1, a2, a3, a4, a5⟩ := box5z Ka.out
          have lta := lt_of_block Ka.out
          obtain ⟨b0, b1, b2, b3, b4, b5⟩ := box5z Kb.out
          have ltb := lt_of_block Kb.out
          go_wp2_with fail
          refine (CT.out _ HX.out).mono ?_
          intro w7 hE
          replace hE : Ext _ w7 := hE
          clear a0 a1 a2 a3 a4 a5 lta
          clear b0 b1 b2 b3 b4 b5 ltb
          replace Ka := Lib.hid ((hE.below.block _ (lt_of_block Ka.out)).trans Ka.out)
          replace Kb := Lib.hid ((hE.below.block _ (lt_of_block Kb.out)).trans Kb.out)
          replace HSR := Lib.hid (HSR.out.below hE)
          replace HX := Lib.hid (Ext.trans HX.out hE)
          clear hE
          obtain ⟨a0, a1, a2, a3, a4, a5⟩ := box5z Ka.out
          have lta := lt_of_block Ka.out
          obtain ⟨b0, b1, b2, b3, b4, b5⟩ := box5z Kb.out
          have ltb := lt_of_block Kb.out
          by_cases hz : t1 = 0
          · have HT0 := Lib.hid hz
            have hz1 : (t1 == 0) = true := by simpa using hz
            have hz2 : (t1 != 0) = false := by simpa using hz
            clear hz
            have hnl := HNL.out
            by_cases hL : nm.length = 0
            · have hL1 : ((nm.length : Int) == 0) = true := by simpa using hL
              go_wp2_with fail
              refine (CA.out _).mono ?_
              intro w8 hE
              replace hE : Ext _ w8 := hE
              clear a0 a1 a2 a3 a4 a5 lta
              clear b0 b1 b2 b3 b4 b5 ltb
              replace Ka := Lib.hid ((hE.below.block _ (lt_of_block Ka.out)).trans Ka.out)
              replace Kb := Lib.hid ((hE.below.block _ (lt_of_block Kb.out)).trans Kb.out)
              replace HSR := Lib.hid (HSR.out.below hE)
              replace HX := Lib.hid (Ext.trans HX.out hE)
              clear hE
              obtain ⟨a0, a1, a2, a3, a4, a5⟩ := box5z Ka.out
              have lta := lt_of_block Ka.out
              obtain ⟨b0, b1, b2, b3, b4, b5⟩ := box5z Kb.out
              have ltb := lt_of_block Kb.out
              clear a0 a1 a2 a3 a4 a5 lta
              clear b0 b1 b2 b3 b4 b5 ltb
              go_wp2
              go_ret
              exact ⟨rfl, HX.out⟩
            · have hL1 : ((nm.length : Int) == 0) = false := by rw [beq_eq_false_iff_ne]; omega
              have hL2 : 0 < nm.length := by omega
              clear hL
              obtain ⟨i, hi⟩ : ∃ i, i = k % nm.length := ⟨_, rfl⟩
              have him : i < nm.length := by rw [hi]; exact Nat.mod_lt _ (by omega)
              have hmod : (k : Int).tmod (nm.length : Int) = (i : Int) := by rw [hi, Int.tmod_eq_emod_of_nonneg (by omega)]; simp
              clear hi
              obtain ⟨bb, off, hxs, hcell⟩ := HSR.out i him
              subst hxs
              have HMEM := Lib.hid (List.getElem_mem him)
              have HD2 := Lib.hid (CT2.out nm[i] HT0.out HMEM.out)
              have HCD := Lib.hid (CD.out nm[i])
              generalize nm[i] = m at *
              clear CT2 CD HMEM
              have hlb := Ex.cell_lt' hcell
              have KN := Lib.hid (alloc_here w7 (.cells #[sV m] 9))
              have hE : Ext w7 (w7.alloc (.cells #[sV m] 9)) := (Below.refl _ _).alloc (Nat.le_refl _) _
              have HWB := Lib.hid (show w7.heap.size < (w7.alloc (.cells #[sV m] 9)).heap.size by simp)
              clear a0 a1 a2 a3 a4 a5 lta
              clear b0 b1 b2 b3 b4 b5 ltb
              replace Ka := Lib.hid ((hE.below.block _ (lt_of_block Ka.out)).trans Ka.out)
              replace Kb := Lib.hid ((hE.below.block _ (lt_of_block Kb.out)).trans Kb.out)
              replace HX := Lib.hid (Ext.trans HX.out hE)
              clear hE
              obtain ⟨a0, a1, a2, a3, a4, a5⟩ := box5z Ka.out
              have lta := lt_of_block Ka.out
              obtain ⟨b0, b1, b2, b3, b4, b5⟩ := box5z Kb.out
              have ltb := lt_of_block Kb.out
              obtain ⟨N0, N1⟩ := box1z KN.out
              have ltN := lt_of_block KN.out
              go_wp2_with fail
              refine (CC.out _ HX.out).mono ?_
              rintro _ wc ⟨vr, rfl, hrow, hEc⟩
              have hcN : wc.cell? ⟨w7.heap.size, 0, none⟩ = some (sV m) := cell_of ((hEc.below.block _ (lt_of_block KN.out)).trans KN.out) rfl
              have C := Lib.hid (HCD.out w7.heap.size _ vr wc hrow hcN HWB.out hEc.size)
              have HEC := Lib.hid hEc
              clear hEc hrow hcN
              clear a0 a1 a2 a3 a4 a5 lta
              clear b0 b1 b2 b3 b4 b5 ltb
              clear N0 N1 ltN
              clear hcell hlb
              go_wp2_with fail
              refine (C.out).mono ?_
              rintro _ wd ⟨v3, rfl, hr3, hE3⟩
              have hE : Ext _ wd := Below.trans HEC.out hE3
              obtain ⟨p3, c3, rfl, hb3⟩ := hr3.at (del_fits HFT.out m).1 (del_fits HFT.out m).2
              have HB3 := Lib.hid hb3
              clear hb3 hr3 hE3
              clear KN
              replace Ka := Lib.hid ((hE.below.block _ (lt_of_block Ka.out)).trans Ka.out)
              replace Kb := Lib.hid ((hE.below.block _ (lt_of_block Kb.out)).trans Kb.out)
              replace HX := Lib.hid (Ext.trans HX.out hE)
              clear hE
              obtain ⟨a0, a1, a2, a3, a4, a5⟩ := box5z Ka.out
              have lta := lt_of_block Ka.out
              obtain ⟨b0, b1, b2, b3, b4, b5⟩ := box5z Kb.out
              have ltb := lt_of_block Kb.out
              go_wp2_with fail
              refine (HD2.out _ _ _ HX.out HB3.out).mono ?_
              intro w41 hE
              replace hE : Ext _ w41 := hE
              clear a0 a1 a2 a3 a4 a5 lta
              clear b0 b1 b2 b3 b4 b5 ltb
              replace Ka := Lib.hid ((hE.below.block _ (lt_of_block Ka.out)).trans Ka.out)
              replace Kb := Lib.hid ((hE.below.block _ (lt_of_block Kb.out)).trans Kb.out)
              replace HX := Lib.hid (Ext.trans HX.out hE)
              clear hE
              obtain ⟨a0, a1, a2, a3, a4, a5⟩ := box5z Ka.out
              have lta := lt_of_block Ka.out
              obtain ⟨b0, b1, b2, b3, b4, b5⟩ := box5z Kb.out
              have ltb := lt_of_block Kb.out
              go_wp2_with fail
              refine (CA.out _).mono ?_
              intro w42 hE
              replace hE : Ext _ w42 := hE
              clear a0 a1 a2 a3 a4 a5 lta
              clear b0 b1 b2 b3 b4 b5 ltb
              replace Ka := Lib.hid ((hE.below.block _ (lt_of_block Ka.out)).trans Ka.out)
              replace Kb := Lib.hid ((hE.below.block _ (lt_of_block Kb.out)).trans Kb.out)
              replace HX := Lib.hid (Ext.trans HX.out hE)
              clear hE
              obtain ⟨a0, a1, a2, a3, a4, a5⟩ := box5z Ka.out
              have lta := lt_of_block Ka.out
              obtain ⟨b0, b1, b2, b3, b4, b5⟩ := box5z Kb.out
              have ltb := lt_of_block Kb.out
              clear a0 a1 a2 a3 a4 a5 lta
              clear b0 b1 b2 b3 b4 b5 ltb
              go_wp2
              go_ret
              exact ⟨rfl, HX.out⟩
          · have hz1 : (t1 == 0) = false := by simpa using hz
            have hz2 : (t1 != 0) = true := by simpa using hz
            clear hz
            go_wp2_with fail
            refine (CA.out _).mono ?_
            intro w8 hE
            replace hE : Ext _ w8 := hE
            clear a0 a1 a2 a3 a4 a5 lta
            clear b0 b1 b2 b3 b4 b5 ltb
            replace Ka := Lib.hid ((hE.below.block _ (lt_of_block Ka.out)).trans Ka.out)
            replace Kb := Lib.hid ((hE.below.block _ (lt_of_block Kb.out)).trans Kb.out)
            replace HSR := Lib.hid (HSR.out.below hE)
            replace HX := Lib.hid (Ext.trans HX.out hE)
            clear hE
            obtain ⟨a0, a1, a2, a3, a4, a5⟩ := box5z Ka.out
            have lta := lt_of_block Ka.out
            obtain ⟨b0, b1, b2, b3, b4, b5⟩ := box5z Kb.out
            have ltb := lt_of_block Kb.out
            clear a0 a1 a2 a3 a4 a5 lta
            clear b0 b1 b2 b3 b4 b5 ltb
            go_wp2
            go_ret
            exact ⟨rfl, HX.out⟩

end Go.Proofs.YtgkalcboklhdgaaGreatDoor

namespace Go.Proofs.YtgkalcboklhdgaaGreatDoor.exprTexts
open Go.ChangeShapes Go.WideShapes Go.ChangeAt Go.RowKit
open Go.ChangeMaps (open_string shut_string)
set_option linter.unusedVariables false

theorem own : ownKnob Tryz.prog.godebug = none := by kernel_rfl
theorem laidOut : laidOutB Tryz.prog = true := by kernel_rfl
/-- the cells of a datum of plain values -/
def flat : Nat → DataW Unit → List Value
  | _, .lit l => [l.value]
  | n + 1, .agg ps => ps.flatMap (flat n)
  | _, _ => []
/-- a world for the witness: the settled one, the listed tables holding what the text lays -/
def lay (d : DataW Unit) : Obj → Obj
  | .cells _ t frozen => .cells (flat 4 d).toArray t frozen
  | o => o
noncomputable def laidWorld (os : Os) : World :=
  { World.holding Tryz.prog os ⟨#[], #[], []⟩ with heap := ((((World.holding Tryz.prog os ⟨#[], #[], []⟩).heap.modify 1 (lay Rows.laid_math_bits_deBruijn32tab)).modify 2 (lay Rows.laid_math_bits_deBruijn64tab)).modify 0 (lay Rows.laid_internal_strconv_uint64pow10)) }
theorem laid_met (os : Os) : laidMet Tryz.prog Rows.exprTextsRow.laid ((laidWorld os).forCall (fun _ _ => 0) ⟨#[], #[.agg #[.int .i64 0, .int .i64 0, .string ByteArray.empty, .int .i64 0, .slice none 0 0], .agg #[.int .i64 0, .int .i64 0, .string ByteArray.empty, .int .i64 0, .slice none 0 0], .slice none 0 0, .int .u8 0], []⟩).memory :=
  laidMet_of_run' 8 (by kernel_rfl) (by kernel_rfl)
theorem reads (os : Os) {H : Type} (enc : TypeId × Value → H) : ∃ places, DataW.whole enc Tryz.prog ((laidWorld os).forCall (fun _ _ => 0) ⟨#[], #[.agg #[.int .i64 0, .int .i64 0, .string ByteArray.empty, .int .i64 0, .slice none 0 0], .agg #[.int .i64 0, .int .i64 0, .string ByteArray.empty, .int .i64 0, .slice none 0 0], .slice none 0 0, .int .u8 0], []⟩).memory Tryz.f3.params.toList Rows.exprTextsSpec.vars false (#[.agg #[.int .i64 0, .int .i64 0, .string ByteArray.empty, .int .i64 0, .slice none 0 0], .agg #[.int .i64 0, .int .i64 0, .string ByteArray.empty, .int .i64 0, .slice none 0 0], .slice none 0 0, .int .u8 0] : Array Value).toList 8 = some ([.agg [.lit (.int .i64 0), .lit (.int .i64 0), .lit (.string []), .lit (.int .i64 0), .nil], .agg [.lit (.int .i64 0), .lit (.int .i64 0), .lit (.string []), .lit (.int .i64 0), .nil], .nil, .lit (.int .u8 0)], [], places) :=
  ⟨[], by kernel_rfl⟩
theorem tab (W : World) (h : laidMetH Tryz.prog Rows.exprTextsRow.laid W) : TabW W := by
  have h1 : laidMet Tryz.prog Rows.exprTextsRow.laid W := h
  exact Lib.tabIs_of_head (g := 0) (t := 141) (e := 123) (n := 20) (by kernel_rfl) (by kernel_rfl) Tryz.underlying141 Tryz.underlying123 (by kernel_rfl) (by kernel_rfl) h1.tail.tail
set_option maxRecDepth 100000 in
theorem contract (H : Type) (enc : TypeId × Value → H) (W : World) (base : Nat) (args : Array Value) (ds gs : List (DataW H)) (before : List MemPlace)
    (hval0 : ∀ (j : Nat) t v, Tryz.f3.params[j]? = some t → args[j]? = some v → Value.okWide Tryz.prog W .any base t v)
    (hW : DataW.Whole enc Tryz.prog Tryz.f3.params.toList Rows.exprTextsSpec.vars false W args.toList ds gs before) (hz : (DataW.weightsEach Tryz.prog (Tryz.f3.params.toList ++ (OpenSpec.ofChange Rows.exprTextsSpec).bare.plain.varTypes Tryz.prog) (ds ++ gs)).all (· ≤ reachBytes) = true) (hL : laidMetH Tryz.prog Rows.exprTextsRow.laid W) :
    Calls Tryz.prog 3 args W fun e W' => ∃ v, e = .returned v ∧ Rows.exprTextsSpec.post enc Tryz.prog Tryz.f3 false true false false W args v W' := by
  have hval := hval0
  have hW' := hW
  obtain ⟨p, q, hA0, hV, rfl, hfz, hnd⟩ := hW
  have hA : DataW.TrodAll enc Tryz.prog W 0 (fun _ => true) true Tryz.f3.params.toList args.toList ds p := hA0
  rw [Tryz.params3] at hA hval
  obtain ⟨v0, vs0, d0, ds0, p0, q0, hargs, rfl, rfl, h0, r0⟩ := trodAll_cons hA
  obtain ⟨v1, vs1, d1, ds1, p1, q1, rfl, rfl, rfl, h1, r1⟩ := trodAll_cons r0
  obtain ⟨v2, vs2, d2, ds2, p2, q2, rfl, rfl, rfl, h2, r2⟩ := trodAll_cons r1
  obtain ⟨v3, vs3, d3, ds3, p3, q3, rfl, rfl, rfl, h3, r3⟩ := trodAll_cons r2
  obtain ⟨rfl, rfl, rfl⟩ := trodAll_nil r3
  obtain rfl : args = #[v0, v1, v2, v3] := by cases args; simp_all
  obtain ⟨rfl, rfl⟩ := trodVars_none hV
  have k0 := h0
  have lt0 : ∀ x ∈ p0, x.block < W.heap.size := by obtain ⟨m, hm⟩ := k0; exact DataW.trod_lt m _ _ _ hm
  obtain ⟨e0, pe0, ce0, rfl, w0⟩ := open_ex (hval 0 24 v0 rfl rfl) h0 (fun n hn => by have := List.all_eq_true.1 hz n (DataW.weights_mem_each (j := 0) rfl rfl n hn); simpa using this)
  have k1 := h1
  have lt1 : ∀ x ∈ p1, x.block < W.heap.size := by obtain ⟨m, hm⟩ := k1; exact DataW.trod_lt m _ _ _ hm
  obtain ⟨e1, pe1, ce1, rfl, w1⟩ := open_ex (hval 1 24 v1 rfl rfl) h1 (fun n hn => by have := List.all_eq_true.1 hz n (DataW.weights_mem_each (j := 1) rfl rfl n hn); simpa using this)
  obtain ⟨a2, len2, cap2, rfl⟩ := okWide_slice Tryz.underlying25 (hval 2 25 v2 rfl rfl)
  have k2 := h2
  have lt2 : ∀ x ∈ p2, x.block < W.heap.size := by obtain ⟨m, hm⟩ := k2; exact DataW.trod_lt m _ _ _ hm
  obtain ⟨bs2, rfl, w2⟩ := open_bns h2 (fun n hn => by have := List.all_eq_true.1 hz n (DataW.weights_mem_each (j := 2) rfl rfl n hn); simpa using this)
  obtain ⟨a3, rfl, rfl, rfl, w3⟩ := open_int Tryz.underlying5 (hval 3 5 v3 rfl rfl) h3
  clear hA0 hval0 hz
  refine (exprTexts_walk e0 pe0 ce0 e1 pe1 ce1 bs2 a2 cap2 a3 W w0 w1 w2 w3 (tab W hL)).mono fun W' bel => ?_
  exact ⟨_, rfl, _, _, _, [], _, [], hW', trodAll_mk1 (shut_bool Tryz.underlying4 _), (trodAll_cons_mk (Below.trod laidOut (by kernel_rfl) (of_decide_eq_true (by kernel_rfl)) k0 bel lt0) (trodAll_cons_mk (Below.trod laidOut (by kernel_rfl) (of_decide_eq_true (by kernel_rfl)) k1 bel lt1) (trodAll_cons_mk (Below.trod laidOut (by kernel_rfl) (of_decide_eq_true (by kernel_rfl)) k2 bel lt2) (trodAll_cons_mk (shut_int Tryz.underlying5 w3) trodAll_mk0)))), rfl, bel.frame _, fun h => by cases h⟩

set_option maxRecDepth 100000 in
theorem lifted (os : Os) (started : os.Started) (H : Type) (enc : TypeId × Value → H) (F : Stop.Interp) :
    ReturnsInHanded {} Tryz.checked os 3 .any ((OpenSpec.ofChange Rows.exprTextsSpec).preRow enc Tryz.prog Tryz.f3 Rows.exprTextsRow.domain false Rows.exprTextsRow.laid) (((OpenSpec.ofChange Rows.exprTextsSpec).at F).post enc Tryz.prog Tryz.f3 false true false false) := by
  obtain ⟨places, hx⟩ := reads os enc
  refine returnsInHanded_of_row (C := Tryz.checked) (s := OpenSpec.ofChange Rows.exprTextsSpec) own started (by kernel_rfl) Tryz.func3
    (witness_row_at (enc := enc) (C := Tryz.checked) false (laidWorld os) #[.agg #[.int .i64 0, .int .i64 0, .string ByteArray.empty, .int .i64 0, .slice none 0 0], .agg #[.int .i64 0, .int .i64 0, .string ByteArray.empty, .int .i64 0, .slice none 0 0], .slice none 0 0, .int .u8 0] rfl (by kernel_rfl) (by kernel_rfl) (by kernel_rfl)
      (OpenSpec.preRow_of_cond 8 hx (by kernel_rfl) (fun k hk => by cases hk) (by kernel_rfl) (laid_met os))) ?_
  intro W base args ds gs before hval hW _ _ hz hL hsh _
  exact contract H enc W base args ds gs before hval hW hz hL

theorem said : Rows.ExprTextsSaid :=
  OpenClaim.holds_of_cond 3 Tryz.f3 rfl rfl rfl rfl rfl rfl rfl ⟨rfl, rfl, rfl, rfl, rfl⟩ rfl rfl rfl rfl rfl (by kernel_rfl) Tryz.func3 (by kernel_rfl)
    (of_decide_eq_true (by kernel_rfl)) (by unfold Func.isWrapper; first | (rw [if_pos (by decide +kernel)]; kernel_rfl) | (rw [if_neg (by decide +kernel)]; exact ⟨rfl, rfl⟩))
    (fun os started H enc _ F => by rw [OpenClaim.pre_eq_preRow]; exact lifted os started H enc F)

theorem plain (f : FuncId) (fn : Func) (hf : Tryz.pinned.checked.prog.funcNamed "nursery/nurserylaw09.ExprTexts" = some f) (hfn : Tryz.pinned.checked.prog.funcs[f]? = some fn) :
    false = Tryz.pinned.checked.prog.looks [] ∧ ∀ (j : Nat) t, fn.params[j]? = some t → Tryz.pinned.checked.prog.wantsStandIn t = false := by
  obtain rfl : f = 3 := Option.some.inj ((show Tryz.prog.funcNamed "nursery/nurserylaw09.ExprTexts" = some 3 by kernel_rfl).symm.trans hf) |>.symm
  obtain rfl : fn = Tryz.f3 := (Option.some.inj (Tryz.func3.symm.trans hfn)).symm
  refine ⟨by kernel_rfl, fun j t ht => ?_⟩
  rw [Tryz.params3] at ht
  rcases j with _ | _ | _ | _ | j
  · obtain rfl : t = 24 := by simpa using ht.symm
    exact (show Tryz.prog.wantsStandIn 24 = false by kernel_rfl)
  · obtain rfl : t = 24 := by simpa using ht.symm
    exact (show Tryz.prog.wantsStandIn 24 = false by kernel_rfl)
  · obtain rfl : t = 25 := by simpa using ht.symm
    exact (show Tryz.prog.wantsStandIn 25 = false by kernel_rfl)
  · obtain rfl : t = 5 := by simpa using ht.symm
    exact (show Tryz.prog.wantsStandIn 5 = false by kernel_rfl)
  · simp at ht

/-- the statement -/
theorem proved : Rows.ExprTextsCardSaid :=
  Claim7.holds_tied_plain_at .later [] _ _ _ _ said (fun _ h => by cases h) (by kernel_rfl) (fun _ h => by cases h) exprTexts_row_tie rfl ⟨rfl, rfl⟩ (by kernel_rfl) rfl plain (by kernel_rfl)
#print axioms proved
end Go.Proofs.YtgkalcboklhdgaaGreatDoor.exprTexts

