/- Plain law: the least of what is read in a key's columns. -/
import Derived.Test.YthancaehlijaoaaSumLaw
namespace Go.Proofs.Ythancaehlijaoaa
set_option linter.unusedVariables false

theorem kth0_spec {l : List Int} {x : Int} (h : IsKth l 0 x) : x ∈ l ∧ ∀ y ∈ l, x ≤ y := by
  have hx : x ∈ l := sameN_pos (by have := h.1; have := h.2; omega)
  have hm := kth0_min h
  have hs := minL_spec l (by intro e; rw [e] at hx; cases hx)
  rw [hm] at hs
  exact hs
theorem least_of {own : Int} {f : Nat → Int} {R : Nat} {n : Int} (h : IsKth ((List.range R).map fun r => own + f r) 0 n) : n = own + leastF f R := by
  obtain ⟨h1, h2⟩ := kth0_spec h
  simp only [List.mem_map, List.mem_range] at h1 h2
  obtain ⟨r, hr, rfl⟩ := h1
  obtain ⟨j, hj, hj'⟩ := leastF_mem f R (by omega)
  have a1 := (leastF_le f R).2 r hr
  have a2 := h2 (own + f j) ⟨j, hj, rfl⟩
  omega
/-- No key of the first k updates has less than 0. -/
def plainK (C : Cfg) (LV : Int) (us : List (Int × Int)) (P : List (Int × Int)) (k : Nat) : Bool := (us.take k).all fun u => decide (0 ≤ hasP (cutK C LV u.1) P)
theorem plainK_zero (C : Cfg) (LV : Int) (us P : List (Int × Int)) : plainK C LV us P 0 = true := rfl
theorem plainK_succ (C : Cfg) (LV : Int) (us P : List (Int × Int)) {k : Nat} (hk : k < us.length) : plainK C LV us P (k + 1) = (plainK C LV us P k && decide (0 ≤ hasP (cutK C LV us[k].1) P)) := by
  unfold plainK
  rw [List.take_succ_eq_append_getElem hk, List.all_append]
  simp
theorem plainK_end (C : Cfg) (LV : Int) (us P : List (Int × Int)) {k : Nat} (h60 : k ≤ 60) (hk : k ≤ us.length) (he : ¬ (k < us.length ∧ k < 60)) : plainK C LV us P k = plainK C LV us P 60 := by
  unfold plainK
  by_cases h : k = 60
  · rw [h]
  · have : k = us.length := by omega
    rw [this, List.take_length, List.take_of_length_le (by omega)]
theorem least_nn {C : Cfg} {LV key : Int} {us : List (Int × Int)} {R : Nat} (hR : 0 < R) (h : plainK C LV us (cutP C LV (fus us 0 60)) 60 = true) : 0 ≤ leastF (fun r => othP C LV key r (cutP C LV (fus us 0 60))) R := by
  obtain ⟨r, _, hr⟩ := leastF_mem (fun r => othP C LV key r (cutP C LV (fus us 0 60))) R hR
  rw [hr]
  refine oth_nn (fun u hu => ?_)
  simp only [cutP, List.mem_map] at hu
  obtain ⟨v, hv, rfl⟩ := hu
  unfold plainK at h
  rw [List.all_eq_true] at h
  have := h v (by unfold fus at hv; simpa using hv)
  simpa using this
theorem leastF_bd (f : Nat → Int) (B : Int) (hf : ∀ r, -B ≤ f r ∧ f r ≤ B) (k : Nat) : -B ≤ leastF f k ∧ leastF f k ≤ B := by
  induction k with
  | zero => exact hf 0
  | succ k ih =>
    rw [leastF_succ]
    have := hf k
    omega
end Go.Proofs.Ythancaehlijaoaa
