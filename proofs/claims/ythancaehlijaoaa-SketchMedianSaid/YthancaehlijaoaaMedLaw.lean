/- Plain law: if most are near 0, the middle one is near what all have in common. -/
import Derived.Test.YthancaehlijaoaaPointLaw
namespace Go.Proofs.Ythancaehlijaoaa
set_option linter.unusedVariables false

/-- How many of the first k are not farther from 0 than F. -/
def nearN (f : Nat → Int) (F : Int) (k : Nat) : Nat := ((List.range k).filter fun r => decide (-F ≤ f r) && decide (f r ≤ F)).length
theorem nearN_succ (f : Nat → Int) (F : Int) (k : Nat) : nearN f F (k + 1) = nearN f F k + bif decide (-F ≤ f k) && decide (f k ≤ F) then 1 else 0 := by
  unfold nearN
  rw [List.range_succ, List.filter_append, List.length_append]
  cases h : decide (-F ≤ f k) && decide (f k ≤ F) <;> simp [h]
theorem nearN_le (f : Nat → Int) (F : Int) (k : Nat) : nearN f F k ≤ k := by
  unfold nearN
  have := List.length_filter_le (fun r => decide (-F ≤ f r) && decide (f r ≤ F)) (List.range k)
  simpa using this
theorem two_filters {α : Type} (p q : α → Bool) (l : List α) (h : ∀ x ∈ l, p x = true → q x = true) : (l.filter p).length ≤ (l.filter q).length := by
  induction l with
  | nil => simp
  | cons x l ih =>
    have ih' := ih (fun y hy => h y (by simp [hy]))
    have hx := h x (by simp)
    simp only [List.filter_cons]
    cases hp : p x
    · cases hq : q x <;> simp <;> omega
    · rw [hx hp]; simp; omega
theorem filter_not_len {α : Type} (p : α → Bool) (l : List α) : (l.filter p).length + (l.filter fun x => !p x).length = l.length := by
  induction l with
  | nil => rfl
  | cons x l ih =>
    simp only [List.filter_cons]
    cases p x <;> simp <;> omega
theorem filter_map_len {α β : Type} (g : α → β) (p : β → Bool) (l : List α) : ((l.map g).filter p).length = (l.filter fun x => p (g x)).length := by
  rw [List.filter_map, List.length_map]; rfl
theorem median_near {own : Int} {f : Nat → Int} {R : Nat} {n F : Int} (hR : 0 < R) (h : IsKth ((List.range R).map fun r => own + f r) ((R - 1) / 2) n) (hm : R < 2 * nearN f F R) : own - F ≤ n ∧ n ≤ own + F := by
  obtain ⟨h1, h2⟩ := h
  have hN := filter_not_len (fun r => decide (-F ≤ f r) && decide (f r ≤ F)) (List.range R)
  rw [List.length_range] at hN
  have hn : nearN f F R = ((List.range R).filter fun r => decide (-F ≤ f r) && decide (f r ≤ F)).length := rfl
  rw [← hn] at hN
  unfold lessL at h1 h2
  unfold sameN at h2
  rw [filter_map_len] at h1 h2
  rw [filter_map_len] at h2
  constructor
  · rcases Int.lt_or_le n (own - F) with hlt | hge
    · exfalso
      have hs : ((List.range R).filter fun r => decide (own + f r < n)).length + ((List.range R).filter fun r => decide (own + f r = n)).length ≤ ((List.range R).filter fun r => !(decide (-F ≤ f r) && decide (f r ≤ F))).length := by
        clear h1 h2 hN hn hm hR
        induction (List.range R) with
        | nil => simp
        | cons x l ih =>
          simp only [List.filter_cons]
          by_cases a : own + f x < n
          · have b : ¬ own + f x = n := by omega
            have c : ¬ -F ≤ f x := by omega
            simp only [decide_eq_true a, decide_eq_false b, decide_eq_false c, Bool.false_and, Bool.not_false, if_true, Bool.false_eq_true, if_false, List.length_cons]
            omega
          · by_cases b : own + f x = n
            · have c : ¬ -F ≤ f x := by omega
              simp only [decide_eq_false a, decide_eq_true b, decide_eq_false c, Bool.false_and, Bool.not_false, if_true, Bool.false_eq_true, if_false, List.length_cons]
              omega
            · simp only [decide_eq_false a, decide_eq_false b, Bool.false_eq_true, if_false]
              cases (!(decide (-F ≤ f x) && decide (f x ≤ F)))
              · simp only [Bool.false_eq_true, if_false]; omega
              · simp only [if_true, List.length_cons]; omega
      omega
    · exact hge
  · rcases Int.lt_or_le (own + F) n with hlt | hge
    · exfalso
      have hs := two_filters (fun r => decide (-F ≤ f r) && decide (f r ≤ F)) (fun r => decide (own + f r < n)) (List.range R) (fun x _ hx => by
        simp only [Bool.and_eq_true, decide_eq_true_eq] at hx ⊢
        omega)
      rw [← hn] at hs
      omega
    · exact hge
theorem tmod40 (d : Int) : -1099511627776 < d.tmod 1099511627776 ∧ d.tmod 1099511627776 < 1099511627776 := tmod_bd d
end Go.Proofs.Ythancaehlijaoaa
