/- Plain laws on the updates from one on to another. -/
import Derived.Test.YthancaehlijaoaaFeed
namespace Go.Proofs.Ythancaehlijaoaa

/-- The updates from one on to another. -/
def fus (us : List (Int × Int)) (i j : Nat) : List (Int × Int) := (us.take j).drop i
theorem fus_len (us : List (Int × Int)) (i j : Nat) : (fus us i j).length ≤ j := by
  unfold fus; rw [List.length_drop, List.length_take]; omega
theorem fus_self (us : List (Int × Int)) (i : Nat) : fus us i i = [] := by
  unfold fus; rw [List.drop_eq_nil_iff]; rw [List.length_take]; omega
theorem fus_snoc (us : List (Int × Int)) {i k : Nat} (h : i ≤ k) (hk : k < us.length) : fus us i (k + 1) = fus us i k ++ [us.getD k (0, 0)] := by
  unfold fus
  rw [List.take_succ_eq_append_getElem hk, List.drop_append_of_le_length (by rw [List.length_take]; omega)]
  simp [hk]
theorem fus_end (us : List (Int × Int)) {i j k : Nat} (hi : i ≤ j) (hik : i ≤ k) (hk : k = i ∨ (k ≤ j ∧ k ≤ us.length)) (he : ¬ (k < us.length ∧ k < j)) : fus us i k = fus us i j := by
  rcases hk with rfl | ⟨h1, h2⟩
  · rw [fus_self]
    unfold fus
    symm
    rw [List.drop_eq_nil_iff, List.length_take]
    omega
  · unfold fus
    by_cases hkj : k = j
    · rw [hkj]
    · have : k = us.length := by omega
      subst this
      rw [List.take_length, List.take_of_length_le (by omega)]
end Go.Proofs.Ythancaehlijaoaa
