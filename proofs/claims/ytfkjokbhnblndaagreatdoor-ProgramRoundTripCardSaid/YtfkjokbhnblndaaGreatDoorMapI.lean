/- Maps with int keys: a store of a new key, and a look-up, at entries that are known. -/
import Derived.Test.YtfkjokbhnblndaaGreatDoorBase
import Derived.Test.YtfkjokbhnblndaaGreatDoorRegion
import Derived.Maps.Own
namespace Go.Proofs.YtfkjokbhnblndaaGreatDoor
open Go.RowKit
set_option linter.unusedVariables false
set_option linter.unusedSimpArgs false

/-- the entries hold these keys and values, in this order -/
def Holds (es : Array MapEntry) (l : List (Int × Value)) : Prop := es.toList.map (fun e => (e.key, e.val)) = l.map fun p => (Value.int .i64 p.1, p.2)

theorem findNow_at (k : Int) : ∀ (es : List MapEntry) (l : List (Int × Value)) (i : Nat), es.map (fun e => (e.key, e.val)) = l.map (fun p => (Value.int .i64 p.1, p.2)) →
    Instr.findNow (.int .i64) (.int .i64 k) es i = some ((l.zipIdx i).find? (fun p => p.1.1 == k) |>.map fun p => (p.2, p.1.2))
  | [], l, i, h => by
    obtain rfl : l = [] := by simpa using h.symm
    rfl
  | e :: es, [], i, h => by simp at h
  | e :: es, (n, v) :: l, i, h => by
    simp only [List.map_cons, List.cons.injEq, Prod.mk.injEq] at h
    obtain ⟨⟨h1, h2⟩, h3⟩ := h
    have ih := findNow_at k es l (i + 1) h3
    simp only [Instr.findNow, h1, Instr.sameNow, if_true, List.zipIdx_cons, List.find?_cons]
    by_cases hn : n = k
    · subst hn; simp [h2]
    · have e1 : (n == k) = false := by simpa using hn
      have e2 : (k == n) = false := by simpa using Ne.symm hn
      simp only [e1, e2]
      exact ih

variable {P : Program}
open Go.MapKept

theorem holds_find {es : Array MapEntry} {l : List (Int × Value)} (h : Holds es l) (kt : TypeId) (hk : P.underlying kt = some (.int .i64)) (k : Int) (w : World) :
    (Instr.findKey kt (.int .i64 k) es.toList).run P w = .ok ((l.zipIdx 0).find? (fun p => p.1.1 == k) |>.map fun p => (p.2, p.1.2)) w := by
  simp [Instr.findKey, run_underlying hk, findNow_at k es.toList l 0 h, Result.andThen]

theorem check_int (kt : TypeId) (hk : P.underlying kt = some (.int .i64)) (em : Bool) (k : Int) (w : World) : (Instr.checkKey em 10000 kt (.int .i64 k)).run P w = .ok () w := by
  rw [show (10000 : Nat) = 9999 + 1 from rfl, Instr.checkKey]
  simp [run_underlying hk, Result.andThen]

theorem zip_find (k : Int) : ∀ (l : List (Int × Value)) (i : Nat), ((l.zipIdx i).find? (fun p => p.1.1 == k)).map (fun p => p.1.2) = (l.find? (fun p => p.1 == k)).map (·.2)
  | [], _ => rfl
  | (n, v) :: l, i => by
    simp only [List.zipIdx_cons, List.find?_cons]
    cases h : n == k with
    | true => rfl
    | false => exact zip_find k l (i + 1)

/-- a look-up -/
theorem run_lookup_int {es : Array MapEntry} {clock b : Nat} {l : List (Int × Value)} {t kt e : TypeId} {w : World} (ht : P.underlying t = some (.map kt e)) (hk : P.underlying kt = some (.int .i64)) (hb : w.heap[b]? = some (.map es clock)) (h : Holds es l) (z : Value) (hz : (zeroValue e).run P w = .ok z w) (k : Int) (c : Bool) :
    (Instr.lookup t (.map (some b)) (.int .i64 k) c).run P w = .ok (if c then .tuple #[(((l.find? (fun p => p.1 == k)).map (·.2))).getD z, .bool ((l.find? (fun p => p.1 == k)).map (·.2)).isSome] else (((l.find? (fun p => p.1 == k)).map (·.2))).getD z) w := by
  rw [← zip_find k l 0]
  have hf := holds_find (P := P) h kt hk k w
  simp only [Instr.lookup, Sem.run_bind, run_underlying ht, Go.MapKept.run_getObj_map hb, check_int kt hk, hf, Result.andThen, Sem.run_pure]
  cases (l.zipIdx 0).find? (fun p => p.1.1 == k) with
  | none => simp [hz, Result.andThen]
  | some x => simp

/-- a store of a new key -/
theorem run_insert_new {es : Array MapEntry} {clock b : Nat} {l : List (Int × Value)} {t kt e : TypeId} {w : World} (ht : P.underlying t = some (.map kt e)) (hk : P.underlying kt = some (.int .i64)) (hb : w.heap[b]? = some (.map es clock)) (h : Holds es l) (k : Int) (hno : l.all (fun p => p.1 != k) = true) (v : Value) :
    ∃ es' clock' W, (Instr.mapUpdate t (.map (some b)) (.int .i64 k) v).run P w = .ok () W ∧ Holds es' (l ++ [(k, v)]) ∧ Turn b (.map es' clock') w W := by
  have hf := holds_find (P := P) h kt hk k w
  have hn : (l.zipIdx 0).find? (fun p => p.1.1 == k) = none := by
    have hz := zip_find k l 0
    have h0 : l.find? (fun p => p.1 == k) = none := by
      rw [List.find?_eq_none]
      intro x hx
      have := List.all_eq_true.1 hno x hx
      simpa using this
    rw [h0] at hz
    simpa using hz
  rw [hn] at hf
  have hlt := lt_of_block hb
  refine ⟨es.push { key := .int .i64 k, val := v, born := clock }, clock + 1, { w with heap := w.heap.setIfInBounds b (.map (es.push { key := .int .i64 k, val := v, born := clock }) (clock + 1)) }, ?_, ?_, ?_⟩
  · simp only [Instr.mapUpdate, Sem.run_bind, run_underlying ht, Go.MapKept.run_getObj_map hb, check_int kt hk, hf, Result.andThen]
    simp [run_setObj_map _ hb]
  · unfold Holds at h ⊢
    simp [h]
  · exact ⟨rfl, rfl, rfl, by simp, by simp [hlt], fun j hj hne => by simp [Array.getElem?_setIfInBounds_ne (Ne.symm hne)]⟩

end Go.Proofs.YtfkjokbhnblndaaGreatDoor
