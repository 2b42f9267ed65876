/- append of a whole row of numbers to a row of the call's own. -/
import Derived.Test.YthancaehlijaoaaAppend
import Derived.Test.YthancaehlijaoaaOrder
namespace Go.Proofs.Ythancaehlijaoaa
set_option linter.unusedVariables false
open Go.RowKit
section
variable {P : Program}
theorem ints_app (a b : List Int) : ints (a ++ b) = ints a ++ ints b := by simp [ints]
theorem wpList_appl (W : World) {ops : Array Oper} {rest : List Oper} {o : Oper} {a : Act} {Q : Exit → Act → World → Prop} (l xs : List Int) (v : Value) (base : Nat) (e : TypeId) (hown : W.ownsRow base e 1 v xs.length (ints xs)) (t : TypeId)
    (hgd : o.guard = none) (s y : Operand) (ho : o.op = .call { callee := .builtin .append, args := #[s, y], argTypes := #[t, t] })
    (hinfo : (P.info? e).map (fun i => (i.zero, i.size, i.bytes)) = some (some (.int .i64 0), 1, 8)) (ht : P.underlying t = some (.slice e))
    (hs : a.eval s = v) (g off m c : Nat) (hx : a.eval y = .slice (some ⟨g, off, none⟩) m c) (hm : m = l.length) (hc : ∀ k, k < m → W.cell? ⟨g, off + k, none⟩ = some (.int .i64 (l.getD k 0)))
    (hl : xs.length + m ≤ 1000000000000) (hbase : base ≤ W.heap.size)
    (h : ∀ v' w', w'.ownsRow base e 1 v' (xs ++ l).length (ints (xs ++ l)) → W.grownBy w' v.ownBlock → (v'.ownBlock = v.ownBlock ∨ v'.ownBlock = some W.heap.size) → wpList P ops Q rest (a.put o.dst v') w') :
    wpList P ops Q (o :: rest) a W := by
  obtain ⟨i0, hi, hz0, hz1, hz2⟩ := info_parts hinfo
  subst hm
  refine wpList_append_sep _ hgd s y t ho base e i0 (.int .i64 0) 1 8 ht hi hz0 hz1 hz2 rfl (by decide) v xs.length (ints xs) hs hown ⟨g, off, none⟩ l.length c (ints l) hx (by rw [ints_len]; omega) ?_ ?_ (by unfold maxLen; omega) (by omega) hbase ?_
  · intro j u hu
    have hj : j < l.length := by
      have := (List.getElem?_eq_some_iff.1 hu).1
      rwa [ints_len] at this
    rw [show (⟨g, off, none⟩ : Addr).add j = ⟨g, off + j, none⟩ by simp [Addr.add], hc j hj, ← hu]
    simp [ints, hj]
  · intro u hu
    simp only [ints, List.mem_map] at hu
    obtain ⟨x, _, rfl⟩ := hu
    rfl
  · intro v' w' h1 h2 h3
    refine h v' w' ?_ h2 h3
    rw [List.length_append, ints_app]
    exact h1
end
theorem own_blk {w : World} {base n size : Nat} {e : TypeId} {v : Value} {xs : List Value} (h : w.ownsRow base e size v n xs) {k : Nat} (hk : v.ownBlock = some k) : base ≤ k := by
  rcases h.2 with ⟨rfl, _⟩ | ⟨g, cap, cur, rfl, hg, _⟩
  · cases hk
  · cases hk; exact hg
theorem ext_grown0 {w wr w1 : World} {row : Option Nat} (he : Ext w wr) (h : wr.grownBy w1 row) (hr : ∀ k, row = some k → w.heap.size ≤ k) : Ext w w1 := he.grown h he.size hr
/-- A slice of numbers that came in. -/
def SlArg (w : World) (p : Option Addr) (n cap : Nat) (l : List Int) : Prop :=
  n = l.length ∧ n ≤ cap ∧ ((n = 0 ∧ (p = none → cap = 0)) ∨ ∃ g off, p = some ⟨g, off, none⟩ ∧ g < w.heap.size ∧ ∀ k, k < n → w.cell? ⟨g, off + k, none⟩ = some (.int .i64 (l.getD k 0)))
end Go.Proofs.Ythancaehlijaoaa
