/- A slice of updates that the call itself makes. -/
import Derived.Test.YthancaehlijaoaaBoxes
import Derived.Test.YthancaehlijaoaaAppend
namespace Go.Proofs.Ythancaehlijaoaa
set_option linter.unusedVariables false
open Go.RowKit

def updV (ps : List (Int × Int)) : List Value := ps.flatMap fun u => [.int .u64 u.1, .int .i64 u.2]
theorem updV_len (ps : List (Int × Int)) : (updV ps).length = ps.length * 2 := by
  induction ps with
  | nil => rfl
  | cons u ps ih =>
    have : updV (u :: ps) = .int .u64 u.1 :: .int .i64 u.2 :: updV ps := rfl
    rw [this, List.length_cons, List.length_cons, List.length_cons, ih]; omega
theorem updV_append (a b : List (Int × Int)) : updV (a ++ b) = updV a ++ updV b := by simp [updV]
theorem updV_at {ps : List (Int × Int)} : ∀ {k : Nat} (h : k < ps.length), (updV ps)[k * 2]? = some (.int .u64 (ps.getD k (0, 0)).1) ∧ (updV ps)[k * 2 + 1]? = some (.int .i64 (ps.getD k (0, 0)).2) := by
  induction ps with
  | nil => intro k h; simp at h
  | cons u ps ih =>
    intro k h
    have e : updV (u :: ps) = .int .u64 u.1 :: .int .i64 u.2 :: updV ps := rfl
    rw [e]
    cases k with
    | zero => exact ⟨rfl, rfl⟩
    | succ k =>
      have := ih (k := k) (by simpa using h)
      rw [show (k + 1) * 2 = k * 2 + 1 + 1 by omega]
      simp only [List.getElem?_cons_succ, List.getD_cons_succ]
      exact this
theorem UpsAt.of_row {w : World} {base : Nat} {e : TypeId} {v : Value} {n : Nat} {ps : List (Int × Int)} (h : w.ownsRow base e 2 v n (updV ps)) : UpsAt w v ps := by
  obtain ⟨h1, h2⟩ := h
  have hn : n = ps.length := by rw [updV_len] at h1; omega
  subst hn
  rcases h2 with ⟨h2, h3⟩ | ⟨g, cap, cur, rfl, _, hh, hc, _, hs, ht⟩
  · refine .inl ⟨⟨_, h2⟩, ?_⟩
    exact List.length_eq_zero_iff.1 h3
  · refine .inr ⟨g, 0, cap, rfl, lt_of hh, fun k hk => ?_⟩
    obtain ⟨a1, a2⟩ := updV_at hk
    rw [← ht] at a1 a2
    rw [List.getElem?_take_of_lt (by omega)] at a1 a2
    simp only [Array.getElem?_toList] at a1 a2
    rw [cell_of hh, cell_of hh, Nat.zero_add]
    exact ⟨a1, a2⟩
section
variable {P : Program}
/-- 's = append(s, u)', u an update, s a row of the call's own. -/
theorem wpList_appu (W : World) {ops : Array Oper} {rest : List Oper} {o : Oper} {a : Act} {Q : Exit → Act → World → Prop} (u : Int × Int) (l : List (Int × Int)) (v : Value) (base : Nat) (e e' : TypeId) (hown : W.ownsRow base e 2 v l.length (updV l)) (t : TypeId)
    (hgd : o.guard = none) (s y : Operand) (ho : o.op = .call { callee := .builtin .append, args := #[s, y], argTypes := #[t, t] })
    (i0 : TypeInfo) (z : Value) (hi : P.info? e = some i0) (hz0 : i0.zero = some z) (hz1 : i0.size = 2) (hz2 : i0.bytes = 16) (hzs : z.cells.size = 2) (ht : P.underlying t = some (.slice e))
    (hs : a.eval s = v) (hx : a.eval y = .slice (some ⟨W.heap.size, 0, none⟩) 1 1)
    (hl : l.length ≤ 1000000000) (hbase : base ≤ W.heap.size)
    (h : ∀ v' w', w'.ownsRow base e 2 v' (l ++ [u]).length (updV (l ++ [u])) → (W.alloc (.cells #[.int .u64 u.1, .int .i64 u.2] e')).grownBy w' v.ownBlock → (v'.ownBlock = v.ownBlock ∨ v'.ownBlock = some (W.heap.size + 1)) → wpList P ops Q rest (a.put o.dst v') w') :
    wpList P ops Q (o :: rest) a (W.alloc (.cells #[.int .u64 u.1, .int .i64 u.2] e')) := by
  refine wpList_append_sep _ hgd s y t ho base e i0 z 2 16 ht hi hz0 hz1 hz2 hzs (by decide) v l.length (updV l) hs (hown.alloc _) ⟨W.heap.size, 0, none⟩ 1 1 [.int .u64 u.1, .int .i64 u.2] hx rfl ?_ ?_ (by unfold maxLen; omega) (by omega) (by rw [size_alloc]; omega) ?_
  · intro j v hv
    have hj : j = 0 ∨ j = 1 := by
      have := (List.getElem?_eq_some_iff.1 hv).1
      simp at this; omega
    rcases hj with rfl | rfl
    · rw [show (⟨W.heap.size, 0, none⟩ : Addr).add 0 = ⟨W.heap.size, 0, none⟩ by simp [Addr.add], cell_of (heap_at W _ rfl) 0]
      exact hv
    · rw [show (⟨W.heap.size, 0, none⟩ : Addr).add 1 = ⟨W.heap.size, 1, none⟩ by simp [Addr.add], cell_of (heap_at W _ rfl) 1]
      exact hv
  · intro x hx
    simp at hx
    rcases hx with rfl | rfl <;> rfl
  · intro v' w' h1 h2 h3
    refine h v' w' ?_ h2 ?_
    · rw [List.length_append, updV_append]
      exact h1
    · rw [size_alloc] at h3; exact h3
end
end Go.Proofs.Ythancaehlijaoaa
