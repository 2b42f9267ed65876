/- Plain laws: a product of rows is the sum of the products of their parts. -/
import Derived.Test.YthancaehlijaoaaInnLaw
import Derived.Test.YthancaehlijaoaaAppl
namespace Go.Proofs.Ythancaehlijaoaa
set_option linter.unusedVariables false

def x50 (l : List Int) (n : Nat) : List Int := (List.range n).map fun j => (l.getD j 0).tmod 1125899906842624
def z50 (l : List Int) (n : Nat) : List Int := (List.range n).map fun j => 2 * (l.getD j 0).tmod 1125899906842624
theorem x50_len (l : List Int) (n : Nat) : (x50 l n).length = n := by simp [x50]
theorem z50_len (l : List Int) (n : Nat) : (z50 l n).length = n := by simp [z50]
theorem x50_snoc (l : List Int) (n : Nat) : x50 l (n + 1) = x50 l n ++ [(l.getD n 0).tmod 1125899906842624] := by simp [x50, List.range_succ]
theorem z50_snoc (l : List Int) (n : Nat) : z50 l (n + 1) = z50 l n ++ [2 * (l.getD n 0).tmod 1125899906842624] := by simp [z50, List.range_succ]
theorem tmod50 (d : Int) : -1125899906842624 < d.tmod 1125899906842624 ∧ d.tmod 1125899906842624 < 1125899906842624 := ⟨Int.lt_tmod_of_pos d (by decide), Int.tmod_lt_of_pos d (by decide)⟩
theorem x50_bnd (l : List Int) (n : Nat) : Bnd 2251799813685248 (x50 l n) := by
  intro x hx
  simp only [x50, List.mem_map, List.mem_range] at hx
  obtain ⟨j, _, rfl⟩ := hx
  have := tmod50 (l.getD j 0)
  omega
theorem z50_bnd (l : List Int) (n : Nat) : Bnd 2251799813685248 (z50 l n) := by
  intro x hx
  simp only [z50, List.mem_map, List.mem_range] at hx
  obtain ⟨j, _, rfl⟩ := hx
  have := tmod50 (l.getD j 0)
  omega
theorem bnd_all {l : List Int} (h : Bnd 2251799813685248 l) : ∀ x ∈ l, I64 x := fun x hx => by have := h x hx; unfold I64; omega
theorem bnd_take {B : Int} {l : List Int} (h : Bnd B l) (k : Nat) : Bnd B (l.take k) := fun x hx => h x (List.mem_of_mem_take hx)
theorem bnd_drop {B : Int} {l : List Int} (h : Bnd B l) (k : Nat) : Bnd B (l.drop k) := fun x hx => h x (List.mem_of_mem_drop hx)
theorem z50_get (l : List Int) {n k : Nat} (h : k < n) : (z50 l n).getD k 0 = 2 * (x50 l n).getD k 0 := by simp [z50, x50, h]
theorem dotF_fit2 {a b : List Int} (ha : Bnd 2251799813685248 a) (hb : Bnd 2251799813685248 b) : ∀ k, k ≤ 1000 → dotF a b k = some (dotS a b k) ∧ -((k : Int) * 5070602400912917605986812821504) ≤ dotS a b k ∧ dotS a b k ≤ (k : Int) * 5070602400912917605986812821504 := by
  intro k
  induction k with
  | zero => intro _; exact ⟨rfl, by simp [dotS], by simp [dotS]⟩
  | succ k ih =>
    intro hk
    obtain ⟨h1, h2, h3⟩ := ih (by omega)
    have hp := mul_abs (ha.getD (by omega) k) (hb.getD (by omega) k)
    have hw : W128 (dotS a b k + a.getD k 0 * b.getD k 0) := by unfold W128; omega
    refine ⟨dotF_yes h1 hw, ?_, ?_⟩
    · show _ ≤ dotS a b k + a.getD k 0 * b.getD k 0; push_cast; omega
    · show dotS a b k + a.getD k 0 * b.getD k 0 ≤ _; push_cast; omega
theorem dotS_take (a b : List Int) (n : Nat) : ∀ k, k ≤ n → dotS (a.take n) (b.take n) k = dotS a b k := by
  intro k
  induction k with
  | zero => intro _; rfl
  | succ k ih =>
    intro hk
    simp only [dotS]
    rw [ih (by omega)]
    have e : ∀ l : List Int, (l.take n).getD k 0 = l.getD k 0 := fun l => by simp [List.getElem?_take_of_lt (show k < n by omega)]
    rw [e, e]
theorem dotS_drop (a b : List Int) (n : Nat) : ∀ k, dotS a b n + dotS (a.drop n) (b.drop n) k = dotS a b (n + k) := by
  intro k
  induction k with
  | zero => simp [dotS]
  | succ k ih =>
    have e : ∀ l : List Int, (l.drop n).getD k 0 = l.getD (n + k) 0 := fun l => by simp [List.getElem?_drop]
    show dotS a b n + (dotS (a.drop n) (b.drop n) k + (a.drop n).getD k 0 * (b.drop n).getD k 0) = dotS a b (n + k) + a.getD (n + k) 0 * b.getD (n + k) 0
    rw [← ih, e, e]
    omega
theorem dotS_twice (a l : List Int) (n : Nat) : ∀ k, k ≤ n → dotS a (z50 l n) k = 2 * dotS a (x50 l n) k := by
  intro k
  induction k with
  | zero => intro _; rfl
  | succ k ih =>
    intro hk
    simp only [dotS]
    rw [ih (by omega), z50_get l (by omega), Int.mul_left_comm]
    omega
/-- Two rows do not lie in one block. -/
def Dj (v u : Value) : Prop := ∀ i, v.ownBlock = some i → u.ownBlock ≠ some i
theorem Dj.symm {v u : Value} (h : Dj v u) : Dj u v := fun i h1 h2 => h i h2 h1
theorem dj_new {W : World} {base n : Nat} {e : TypeId} {v v' u : Value} {xs : List Value} (h : W.ownsRow base e 1 u n xs) (hd : v'.ownBlock = v.ownBlock ∨ v'.ownBlock = some (W.heap.size + 1)) (hj : Dj v u) : Dj v' u := by
  intro i hi hu
  rcases hd with hd | hd
  · exact hj i (hd ▸ hi) hu
  · rcases h.2 with ⟨rfl, _⟩ | ⟨g, cap, cur, rfl, _, hh, _⟩
    · cases hu
    · have hg := lt_of hh
      rw [hd] at hi
      have h1 := Option.some.inj hi
      have h2 : g = i := Option.some.inj hu
      omega
theorem own_other {W w' : World} {o : Obj} {base n : Nat} {e : TypeId} {v u : Value} {xs : List Value} (h : W.ownsRow base e 1 u n xs) (hg : (W.alloc o).grownBy w' v.ownBlock) (hj : Dj v u) : w'.ownsRow base e 1 u n xs := by
  refine ⟨h.1, ?_⟩
  rcases h.2 with h' | ⟨g, cap, cur, rfl, hb, hh, hr⟩
  · exact .inl h'
  · exact .inr ⟨g, cap, cur, rfl, hb, (grown_old hg (lt_of hh) (fun e => hj g e.symm rfl)).trans hh, hr⟩
end Go.Proofs.Ythancaehlijaoaa
