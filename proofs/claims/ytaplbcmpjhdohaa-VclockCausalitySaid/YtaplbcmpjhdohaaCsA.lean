/- VclockCausality: an append keeps the old row; two rows that grow in a region that draws its order. -/
import Derived.Test.YtaplbcmpjhdohaaRt
import Derived.Test.YtaplbcmpjhdohaaBnd2
import Derived.Deep.DeepAppendRoom
namespace Go.Proofs.Ytaplbcmpjhdohaa
open Go.RowKit
set_option linter.unusedVariables false
set_option linter.unusedSimpArgs false

/-- own rows of different element types lie in different blocks -/
theorem own_ne {w : World} {base base' : Nat} {e1 e2 : TypeId} {v1 v2 : Value} {n1 n2 : Nat} {xs1 xs2 : List Value} (h1 : w.ownsRow base e1 1 v1 n1 xs1) (h2 : w.ownsRow base' e2 1 v2 n2 xs2) (hne : e1 ≠ e2) : v2.ownBlock = none ∨ v2.ownBlock ≠ v1.ownBlock := by
  rcases h2.2 with ⟨rfl, _⟩ | ⟨g2, c2, cur2, rfl, _, hg2, _⟩
  · exact .inl rfl
  · refine .inr fun e => ?_
    rcases h1.2 with ⟨rfl, _⟩ | ⟨g1, c1, cur1, rfl, _, hg1, _⟩
    · simp [Value.ownBlock] at e
    · simp [Value.ownBlock] at e
      subst e
      rw [hg1] at hg2
      cases hg2
      exact hne rfl

/-- append of one cell: the old row stays, and so does each row that holds what the new one holds -/
theorem run_append_kept {P : Program} (w : World) (t ty : TypeId) (base : Nat) (e : TypeId) (i : TypeInfo) (z : Value) (bytes : Nat) (ht : P.underlying t = some (.slice e)) (hi : P.info? e = some i) (hz : i.zero = some z)
    (hsize : i.size = 1) (hby : i.bytes = bytes) (hzs : z.cells.size = 1)
    (v : Value) (n : Nat) (xs : List Value) (hown : w.ownsRow base e 1 v n xs) (ad : Addr) (c : Nat) (u : Value) (hu : w.cell? ad = some u) (h1 : u.oneCell' = true)
    (h63 : n + 1 ≤ maxLen) (hbytes : (n + 1) * bytes ≤ 140737488355328) (hbase : base ≤ w.heap.size) :
    ∃ g cap w', (Builtin.append_ #[t, t] ty #[v, .slice (some ad) 1 c]).run P w = .ok (.slice (some ⟨g, 0, none⟩) (n + 1) cap) w' ∧
      w'.ownsRow base e 1 (.slice (some ⟨g, 0, none⟩) (n + 1) cap) (n + 1) (xs ++ [u]) ∧ w.grownBy w' v.ownBlock ∧ (v.ownBlock = some g ∨ g = w.heap.size) ∧
      w'.ownsRow base e 1 v n xs ∧ ∀ v', w.ownsRow base e 1 v' (n + 1) (xs ++ [u]) → w'.ownsRow base e 1 v' (n + 1) (xs ++ [u]) := by
  have hnews : ∀ j x, [u][j]? = some x → w.cell? (ad.add j) = some x := by
    intro j x hx
    match j, hx with
    | 0, hx =>
      obtain rfl := Option.some.inj hx
      have e0 : ad.add 0 = ad := by obtain ⟨b, o, s⟩ := ad; cases s <;> simp [Addr.add]
      rw [e0]; exact hu
    | j + 1, hx => simp at hx
  have hl1 : ∀ x ∈ [u], x.oneCell' = true := by intro x hx; rw [List.mem_singleton] at hx; subst hx; exact h1
  obtain ⟨g, cap, w', hr, h2, h3, h4, h5⟩ := run_append_lies (P := P) w t ty base e i z 1 bytes ht hi hz hsize hby hzs (by decide) v n xs hown ad 1 c [u] rfl hnews hl1 (by decide) h63 hbytes hbase w.heap.size rfl
  have far : w.grownBy w' none → w'.ownsRow base e 1 v n xs ∧ ∀ v', w.ownsRow base e 1 v' (n + 1) (xs ++ [u]) → w'.ownsRow base e 1 v' (n + 1) (xs ++ [u]) := fun hg =>
    ⟨hown.kept hg (by cases v.ownBlock <;> simp), fun v' h => h.kept hg (by cases v'.ownBlock <;> simp)⟩
  refine ⟨g, cap, w', hr, h2, h3, h4, ?_⟩
  rcases hown.2 with ⟨rfl, rfl⟩ | ⟨g0, cap0, cur, rfl, hbg, hg, hnc, hcm, hcs, htake⟩
  · exact far h3
  · by_cases hroom : n + 1 ≤ cap0
    · obtain ⟨w2, hr2, o2, g2⟩ := run_append_own_spare (P := P) w base t ty e i 1 ht hi hsize g0 n cap0 xs hown ad 1 c [u] rfl hnews hl1 hroom
      rw [hr] at hr2
      injection hr2 with hv hw
      subst hw
      injection hv with hv1 _ hv2
      injection hv1 with hv1
      injection hv1 with hv1
      subst hv1
      subst hv2
      rcases o2.2 with ⟨h0, _⟩ | ⟨g', cap', cur', hv', _, hg', _, _, hcs', htake'⟩
      · cases h0
      · injection hv' with hv1 _ hv2
        injection hv1 with hv1
        injection hv1 with hv1
        subst hv1
        subst hv2
        refine ⟨⟨hown.1, .inr ⟨g, cap, cur', rfl, hbg, hg', by omega, hcm, hcs', ?_⟩⟩, ?_⟩
        · have := congrArg (List.take (n * 1)) htake'
          rw [List.take_take, Nat.min_eq_left (by omega)] at this
          rw [this, List.take_left' (by rw [hown.1])]
        · intro v' h
          rcases h.2 with ⟨rfl, h0⟩ | ⟨g3, cap3, cur3, rfl, hb3, hg3, hn3, hm3, hs3, ht3⟩
          · omega
          · by_cases e3 : g3 = g
            · subst e3
              rw [hg] at hg3
              injection hg3 with hg3
              injection hg3 with hc3 _
              subst hc3
              have : cap3 = cap := by omega
              subst this
              exact o2
            · exact h.kept g2 (.inr (by simpa [Value.ownBlock] using e3))
    · have holds : ∀ j x, xs[j]? = some x → w.cell? ((⟨g0, 0, none⟩ : Addr).add j) = some x := hown.cells (g := g0) rfl
      have hlen : xs.length = n * i.size := by rw [hsize]; exact hown.1
      have hr2 := run_append_grow (P := P) w t ty e i z ht hi hz ⟨g0, 0, none⟩ n cap0 xs hlen holds ad 1 c [u] (by rw [hsize]; rfl) hnews (by omega) (by simp only [maxLen] at h63; omega) (growslice_fits (by omega) (by rw [hby]; exact hbytes))
      rw [hr] at hr2
      injection hr2 with hv hw
      refine far ?_
      rw [hw]
      exact ⟨rfl, rfl, rfl, by simp, fun k hk _ => heap_alloc_old w.drew _ hk⟩

/-- w has become W: two own rows v1, v2 may have taken one more cell each -/
structure Two (base : Nat) (e1 : TypeId) (v1 : Value) (n1 : Nat) (xs1 : List Value) (u1 : Value) (e2 : TypeId) (v2 : Value) (n2 : Nat) (xs2 : List Value) (u2 : Value) (w W : World) : Prop where
  os : W.os = w.os
  tape : W.tape = w.tape
  output : W.output = w.output
  size : w.heap.size ≤ W.heap.size
  block : ∀ j, j < w.heap.size → v1.ownBlock ≠ some j → v2.ownBlock ≠ some j → W.heap[j]? = w.heap[j]?
  a1 : w.ownsRow base e1 1 v1 n1 xs1 → W.ownsRow base e1 1 v1 n1 xs1
  b1 : ∀ v, w.ownsRow base e1 1 v (n1 + 1) (xs1 ++ [u1]) → W.ownsRow base e1 1 v (n1 + 1) (xs1 ++ [u1])
  a2 : w.ownsRow base e2 1 v2 n2 xs2 → W.ownsRow base e2 1 v2 n2 xs2
  b2 : ∀ v, w.ownsRow base e2 1 v (n2 + 1) (xs2 ++ [u2]) → W.ownsRow base e2 1 v (n2 + 1) (xs2 ++ [u2])

section
variable {base : Nat} {e1 : TypeId} {v1 : Value} {n1 : Nat} {xs1 : List Value} {u1 : Value} {e2 : TypeId} {v2 : Value} {n2 : Nat} {xs2 : List Value} {u2 : Value}
theorem Two.ext {w W : World} (h : Ext w W) : Two base e1 v1 n1 xs1 u1 e2 v2 n2 xs2 u2 w W :=
  ⟨h.os, h.tape, h.output, h.size, fun j hj _ _ => h.block j hj, fun x => ownsRow_ext x h, fun v x => ownsRow_ext x h, fun x => ownsRow_ext x h, fun v x => ownsRow_ext x h⟩
theorem Two.refl (w : World) : Two base e1 v1 n1 xs1 u1 e2 v2 n2 xs2 u2 w w := .ext (Below.refl _ w)
theorem Two.drawn (W : World) : Two base e1 v1 n1 xs1 u1 e2 v2 n2 xs2 u2 W { W with drawn := W.drawn + 1 } := .ext (show Below W.heap.size W { W with drawn := W.drawn + 1 } from ⟨rfl, rfl, rfl, Nat.le_refl _, fun _ _ => rfl⟩)
theorem Two.trans {a b c : World} (h : Two base e1 v1 n1 xs1 u1 e2 v2 n2 xs2 u2 a b) (g : Two base e1 v1 n1 xs1 u1 e2 v2 n2 xs2 u2 b c) : Two base e1 v1 n1 xs1 u1 e2 v2 n2 xs2 u2 a c :=
  ⟨g.os.trans h.os, g.tape.trans h.tape, g.output.trans h.output, Nat.le_trans h.size g.size, fun j hj x y => (g.block j (Nat.lt_of_lt_of_le hj h.size) x y).trans (h.block j hj x y), fun x => g.a1 (h.a1 x), fun v x => g.b1 v (h.b1 v x), fun x => g.a2 (h.a2 x), fun v x => g.b2 v (h.b2 v x)⟩
theorem Two.one {W W' : World} (hne : e1 ≠ e2) (h1 : W.ownsRow base e1 1 v1 n1 xs1) (hg : W.grownBy W' v1.ownBlock) (k1 : W'.ownsRow base e1 1 v1 n1 xs1) (k2 : ∀ v, W.ownsRow base e1 1 v (n1 + 1) (xs1 ++ [u1]) → W'.ownsRow base e1 1 v (n1 + 1) (xs1 ++ [u1])) : Two base e1 v1 n1 xs1 u1 e2 v2 n2 xs2 u2 W W' :=
  ⟨hg.os, hg.tape, hg.output, hg.size, fun j hj x _ => hg.block j hj (fun e => x e.symm), fun _ => k1, k2, fun h => h.kept hg (own_ne h1 h hne), fun v h => h.kept hg (own_ne h1 h hne)⟩
theorem Two.two {W W' : World} (hne : e1 ≠ e2) (h2 : W.ownsRow base e2 1 v2 n2 xs2) (hg : W.grownBy W' v2.ownBlock) (k1 : W'.ownsRow base e2 1 v2 n2 xs2) (k2 : ∀ v, W.ownsRow base e2 1 v (n2 + 1) (xs2 ++ [u2]) → W'.ownsRow base e2 1 v (n2 + 1) (xs2 ++ [u2])) : Two base e1 v1 n1 xs1 u1 e2 v2 n2 xs2 u2 W W' :=
  ⟨hg.os, hg.tape, hg.output, hg.size, fun j hj _ x => hg.block j hj (fun e => x e.symm), fun h => h.kept hg (own_ne h2 h (Ne.symm hne)), fun v h => h.kept hg (own_ne h2 h (Ne.symm hne)), fun _ => k1, k2⟩
end

/-- an operation that appends -/
theorem GoesG.append {P : Program} {l : List Oper} {R : World → World → Prop} {Φ : Nat → (Nat → Value) → World → Prop} {i : Nat} {o : Oper} {a' : Act} {W W' : World} {Q : Exit → Act → World → Prop} (hg : o.guard = none) (s x : Operand) (t : TypeId) (ho : o.op = .call { callee := .builtin .append, args := #[s, x], argTypes := #[t, t] })
    (v v' sl : Value) (hs : a'.eval s = v) (hx : a'.eval x = sl) (hr : (Builtin.append_ #[t, t] o.type #[v, sl]).run P W = .ok v' W') (hR : R W W')
    (hΦ : ∀ s : Nat → Value, (o.dst.isSome = true → s i = v') → (∀ k, k ≠ i → ancB l l.length i k = true → s k = sv l a' k) → Φ i s W') : GoesG P l R Φ i o a' W Q :=
  GoesG.value v' hg (by simp only [execOp, ho, resolve, invoke, builtin, Sem.run_bind, Sem.run_pure, Result.andThen_ok, List.map_toArray, List.map_cons, List.map_nil, hs, hx, hr]) hR hΦ

end Go.Proofs.Ytaplbcmpjhdohaa
