/- Part. No condition. -/
import Derived.Test.YtdenbmmbeeamcaaGreatL8

/- Plain laws: products of rows fit, and it does not matter which is named first. -/
namespace Go.Proofs.YtdenbmmbeeamcaaGreat
set_option linter.unusedVariables false

def dotS (a b : List Int) : Nat → Int
  | 0 => 0
  | k + 1 => dotS a b k + a.getD k 0 * b.getD k 0
theorem dotF_comm (a b : List Int) : ∀ k, dotF a b k = dotF b a k := by
  intro k
  induction k with
  | zero => rfl
  | succ k ih =>
    simp only [dotF]
    rw [ih]
    congr 1
    funext s
    rw [Int.mul_comm (a.getD k 0)]
theorem innF_comm (l m : List Int) (W : Nat) : ∀ r, innF l m W r = innF m l W r := by
  intro r
  induction r with
  | zero => rfl
  | succ r ih =>
    simp only [innF]
    rw [ih, dotF_comm]
theorem dotF_fit {a b : List Int} (ha : Bnd 35184372088832 a) (hb : Bnd 35184372088832 b) : ∀ k, k ≤ 1000 → dotF a b k = some (dotS a b k) ∧ -((k : Int) * 1237940039285380274899124224) ≤ dotS a b k ∧ dotS a b k ≤ (k : Int) * 1237940039285380274899124224 := by
  intro k
  induction k with
  | zero => intro _; exact ⟨rfl, by simp [dotS], by simp [dotS]⟩
  | succ k ih =>
    intro hk
    obtain ⟨h1, h2, h3⟩ := ih (by omega)
    have hp := mul_abs (ha.getD (by omega) k) (hb.getD (by omega) k)
    have hw : W128 (dotS a b k + a.getD k 0 * b.getD k 0) := by unfold W128; omega
    refine ⟨dotF_yes h1 hw, ?_, ?_⟩
    · show _ ≤ dotS a b k + a.getD k 0 * b.getD k 0; push_cast; omega
    · show dotS a b k + a.getD k 0 * b.getD k 0 ≤ _; push_cast; omega
theorem Bnd.row {B : Int} {l : List Int} (h : Bnd B l) (hB : 0 ≤ B) (W r : Nat) : Bnd B (rowP l W r) := by
  intro x hx
  simp only [rowP, List.mem_map, List.mem_range] at hx
  obtain ⟨k, _, rfl⟩ := hx
  exact h.getD hB _
theorem Bnd.le {A B : Int} {l : List Int} (h : Bnd A l) (hAB : A ≤ B) : Bnd B l := fun x hx => ⟨by have := (h x hx).1; omega, by have := (h x hx).2; omega⟩
/-- The least of the sums of products of the first r rows. -/
def innS (l m : List Int) (W : Nat) : Nat → Int
  | 0 => 0
  | r + 1 => bif decide (r = 0) || decide (dotS (rowP l W r) (rowP m W r) W < innS l m W r) then dotS (rowP l W r) (rowP m W r) W else innS l m W r
theorem innF_fit {l m : List Int} (hl : Bnd 35184372088832 l) (hm : Bnd 35184372088832 m) {W : Nat} (hW : W ≤ 1000) : ∀ r, innF l m W r = some (innS l m W r) := by
  intro r
  induction r with
  | zero => rfl
  | succ r ih =>
    have hd := (dotF_fit (hl.row (by omega) W r) (hm.row (by omega) W r) W hW).1
    simp only [innF, ih, hd, Option.bind_some, innS]
end Go.Proofs.YtdenbmmbeeamcaaGreat
