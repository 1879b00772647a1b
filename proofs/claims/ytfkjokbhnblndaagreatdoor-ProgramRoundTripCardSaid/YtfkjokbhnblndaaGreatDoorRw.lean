/- A drawn region in a round of a range over a function, every operation quiet: one walk of the lexical order serves all. -/
import Derived.Test.YtfkjokbhnblndaaGreatDoorRu
import Derived.OrdersIn
import Derived.RangeFuncCalls
import Derived.TacticsIn
namespace Go.Proofs.YtfkjokbhnblndaaGreatDoor
open Go.RowKit
set_option linter.unusedVariables false
set_option linter.unusedSimpArgs false

def noDeferB (l : List Oper) : Bool := l.all fun o => match o.op with | .defer _ => false | _ => true
theorem noDeferB_spec {l : List Oper} (h : noDeferB l = true) {i : Nat} {o : Oper} (ho : l[i]? = some o) : ∀ c, o.op ≠ .defer c := by
  intro c e
  have := List.all_eq_true.1 h o (List.mem_of_getElem? ho)
  rw [e] at this
  cases this
theorem wpIn_of_quietR {P : Program} {C : World → Prop} {l n : Nat} {o : Oper} {a : Act} {K : Act → Prop} {K' : Act → World → Prop} {Q' : Exit → Act → World → Prop} {w : World} (hnd : ∀ c, o.op ≠ .defer c) (hw : C w)
    (h : ∀ a w', C w' → K a → K' a w') (hh : o.quiet P a C K) : o.wpIn (Fence.wide.inRound l) n P a w K' Q' := by
  obtain ⟨v, h1, h2⟩ := hh
  have h3 := h1 w hw
  unfold Oper.quietAt at h3
  unfold Oper.wpIn
  refine ⟨fun f _ => trivial, ?_⟩
  rw [Oper.semAt_eq _ _ _ hnd]
  generalize (execOp a.eval o).run P w = r at *
  cases r with
  | ok x w' =>
    cases x <;> simp only [Oper.quietUpon] at h3 <;> simp only [Oper.uponIn]
    case value u =>
      obtain ⟨e1, e2⟩ := h3
      rw [e1, e2]
      exact h _ _ hw h2
    case skip =>
      obtain ⟨e1, e2⟩ := h3
      rw [e1, ← e2]
      exact h _ _ hw h2
    case enter f args =>
      obtain ⟨e1, hc⟩ := h3
      rw [e1]
      refine ⟨fun hd => (by cases hd), CallsIn.inRound l (callsIn_wide.2 (hc.mono fun e w'' ⟨he, hw''⟩ => ?_))⟩
      subst he
      exact h _ _ hw'' h2
  | halt x w' => simp only [Oper.quietUpon] at h3
theorem wpAnyIn_of_quietR {P : Program} {C : World → Prop} {l n : Nat} {md : Region.Mode} {ops : List Oper} {Q : Act → Prop} {Q' : Exit → Act → World → Prop} (hnd : noDeferB ops = true) (hQ : ∀ a w, C w → Q a → Q' .normal a w) :
    ∀ (fuel : Nat) (listed : Array Bool) (a : Act) (w : World), C w → wpAnyQ P md ops.toArray C Q fuel listed a → wpAnyIn (Fence.wide.inRound l) n P md ops.toArray Q' fuel listed a w
  | 0, _, _, _, hw, h => ⟨h.1, hQ _ _ hw h.2⟩
  | fuel + 1, _, _, _, hw, h => ⟨fun h0 => hQ _ _ hw (h.1 h0), fun i hi => by
      have hh := h.2 i hi
      unfold qOp at hh
      unfold wpOpIn
      split
      · rename_i ho
        simp only [ho] at hh
        exact wpAnyIn_of_quietR hnd hQ fuel _ _ _ hw hh
      · rename_i o ho
        simp only [ho] at hh
        split
        · rename_i hwt
          simp only [hwt, if_true] at hh
          exact wpIn_of_quietR (noDeferB_spec hnd (by simpa using ho)) hw (fun a' w' hw' => wpAnyIn_of_quietR hnd hQ fuel _ a' w' hw') hh
        · rename_i hwt
          simp only [hwt] at hh
          exact ⟨fun f _ => trivial, wpAnyIn_of_quietR hnd hQ fuel _ _ _ hw hh⟩⟩
theorem wpIn_region_up_round {P : Program} {id l n : Nat} {Q : Exit → Act → World → Prop} {a : Act} {w : World} {ops : List Oper} (hm : P.follows .mixedOrders = true) (hB : Region.lexB .any ops.toArray = true) (hnd : noDeferB ops = true)
    (h : wpQuiet P ops.toArray (fun W => ∃ U : Up w, W = U.W) (fun a' => ∀ w', (∃ U : Up w, w' = U.W) → Q .normal a' w') ops a) : (Code.region id ops.toArray true).wpIn (Fence.wide.inRound l) n P Q a w := by
  have hC : (fun W => ∃ U : Up w, W = U.W) { w with drawn := w.drawn + 1 } := ⟨⟨{ w with drawn := w.drawn + 1 }, ⟨rfl, rfl, rfl, Nat.le_refl _, fun _ _ => rfl⟩⟩, rfl⟩
  simp only [Region.lexB, Bool.and_eq_true] at hB
  have hq := wpAnyQ_lex (P := P) (C := fun W => ∃ U : Up w, W = U.W) (md := .any) hB.1 ops 0 (Array.replicate ops.toArray.size false) a (by simp) (by simpa using hB.2) h
  refine wpIn_region_any hm (wpAnyIn_of_quietR (Q := fun a' => ∀ w', (∃ U : Up w, w' = U.W) → Q .normal a' w') hnd (fun _ w' hw' h => h w' hw') _ _ _ _ hC ?_)
  simpa using hq
end Go.Proofs.YtfkjokbhnblndaaGreatDoor
