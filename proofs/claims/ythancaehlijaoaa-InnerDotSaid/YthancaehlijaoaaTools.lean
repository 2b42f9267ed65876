/- Rows of numbers in memory. No condition. -/
import Derived.Test.YthancaehlijaoaaBase
namespace Go.Proofs.Ythancaehlijaoaa
set_option linter.unusedVariables false
open Go.RowKit

def ints (l : List Int) : List Value := l.map (.int .i64)
theorem ints_len (l : List Int) : (ints l).length = l.length := by simp [ints]
/-- n cells, the first k of which hold f, all others 0. -/
def fillA (f : Nat → Int) (k n : Nat) : Array Value := Array.ofFn fun i : Fin n => .int .i64 (if i.val < k then f i.val else 0)
theorem fillA_size (f : Nat → Int) (k n : Nat) : (fillA f k n).size = n := by simp [fillA]
theorem fillA_at (f : Nat → Int) (k n i : Nat) (h : i < n) : (fillA f k n)[i]? = some (.int .i64 (if i < k then f i else 0)) := by
  simp [fillA, h]
theorem fillA_set (f : Nat → Int) (k n : Nat) : (fillA f k n).setIfInBounds k (.int .i64 (f k)) = fillA f (k + 1) n := by
  apply Array.ext
  · simp [fillA]
  · intro i h1 h2
    simp only [fillA, Array.size_setIfInBounds, Array.size_ofFn] at h1 h2
    rw [Array.getElem_setIfInBounds (by simpa [fillA] using h1)]
    simp only [fillA, Array.getElem_ofFn]
    by_cases e : k = i
    · subst e; simp
    · rw [if_neg e]
      by_cases h : i < k
      · rw [if_pos h, if_pos (by omega)]
      · rw [if_neg h, if_neg (by omega)]
theorem fillA_done (f : Nat → Int) (n : Nat) : (fillA f n n).toList = ints ((List.range n).map f) := by
  apply List.ext_getElem
  · simp [fillA, ints]
  · intro i h1 h2
    simp only [fillA, Array.toList_ofFn, List.length_ofFn] at h1
    simp [fillA, ints]
theorem run_make_ints {P : Program} (t e : TypeId) (i : TypeInfo) (ht : P.underlying t = some (.slice e)) (hi : P.info? e = some i) (hz : i.zero = some (.int .i64 0)) (hs : i.size = 1) (hb : i.bytes = 8)
    (n : Nat) (hn : n ≤ 1000000) (f : Nat → Int) (w : World) :
    (Instr.makeSlice t (.int .i64 (n : Int)) (.int .i64 (n : Int))).run P w = .ok (.slice (some ⟨w.heap.size, 0, none⟩) n n) (w.alloc (.cells (fillA f 0 n) e)) := by
  have h := run_make w t e i (.int .i64 0) ht hi hz .i64 .i64 n n (by omega) (by omega) (by rw [hb]; omega) (by omega)
  simp only [Int.toNat_natCast] at h
  rw [h, hs]
  congr 3
  apply Array.ext
  · rw [size_madeCells, fillA_size]; omega
  · intro j h1 h2
    rw [fillA_size] at h2
    simp [madeCells, fillA, Value.cells, Nat.mod_one]
theorem ownsRow_of {w : World} {base g : Nat} {e : TypeId} {cur : Array Value} {n cap : Nat} {xs : List Value} (h : w.heap[g]? = some (.cells cur e (0, 0))) (hb : base ≤ g) (hn : n ≤ cap) (hc : cap ≤ maxLen) (hs : cur.size = cap) (hx : cur.toList.take n = xs) :
    w.ownsRow base e 1 (.slice (some ⟨g, 0, none⟩) n cap) n xs := by
  refine ⟨?_, .inr ⟨g, cap, cur, rfl, hb, h, hn, hc, by omega, by rw [Nat.mul_one]; exact hx⟩⟩
  rw [← hx]; simp; omega

theorem setCell_same {w : World} {b : Nat} {c : Array Value} {t : TypeId} {fz : Nat × Nat} (h : w.heap[b]? = some (.cells c t fz)) (o : Nat) (v : Value) :
    (w.setCell ⟨b, o, none⟩ v).heap[b]? = some (.cells (c.setIfInBounds o v) t fz) := by
  show (w.heap.modify b _)[b]? = _
  rw [Array.getElem?_modify, if_pos rfl, h]
  rfl
theorem setCell_other {w : World} {b b' : Nat} (o : Nat) (v : Value) (hn : b' ≠ b) : (w.setCell ⟨b, o, none⟩ v).heap[b']? = w.heap[b']? :=
  Below.heap_setCell _ _ _ _ hn
theorem size_setCell (w : World) (a : Addr) (v : Value) : (w.setCell a v).heap.size = w.heap.size := by simp [World.setCell]
/-- A slice of integers that can be read. -/
def IntsAt (w : World) (v : Value) (xs : List Int) : Prop :=
  (v = .slice none 0 0 ∧ xs = []) ∨ ∃ g off cap, v = .slice (some ⟨g, off, none⟩) xs.length cap ∧ g < w.heap.size ∧ ∀ k, k < xs.length → w.cell? ⟨g, off + k, none⟩ = some (.int .i64 (xs.getD k 0))
theorem IntsAt.ext {w w' : World} {v : Value} {xs : List Int} (h : IntsAt w v xs) (he : Ext w w') : IntsAt w' v xs := by
  rcases h with h | ⟨g, off, cap, h1, h2, h3⟩
  · exact .inl h
  · exact .inr ⟨g, off, cap, h1, Nat.lt_of_lt_of_le h2 he.size, fun k hk => ((bcell he).1 _ _ h2).trans (h3 k hk)⟩
theorem IntsAt.of_row {w : World} {base : Nat} {e : TypeId} {v : Value} {n : Nat} {xs : List Int} (h : w.ownsRow base e 1 v n (ints xs)) : IntsAt w v xs := by
  obtain ⟨h1, h2⟩ := h
  have hn : n = xs.length := by simpa [ints] using h1.symm
  subst hn
  rcases h2 with ⟨h2, h3⟩ | ⟨g, cap, cur, rfl, _, hh, hc, _, hs, ht⟩
  · exact .inl ⟨h2, List.length_eq_zero_iff.1 h3⟩
  · refine .inr ⟨g, 0, cap, rfl, lt_of hh, fun k hk => ?_⟩
    rw [cell_of hh, Nat.zero_add]
    have : (cur.toList.take (xs.length * 1))[k]? = (ints xs)[k]? := by rw [ht]
    rw [List.getElem?_take_of_lt (by omega)] at this
    simp only [Array.getElem?_toList] at this
    rw [this]
    simp [ints, hk]
def lsum (l : List Int) : Int := l.foldl (· + ·) 0
theorem lsum_acc (l : List Int) : ∀ a : Int, l.foldl (· + ·) a = a + lsum l := by
  unfold lsum
  induction l with
  | nil => intro a; simp
  | cons x l ih => intro a; simp only [List.foldl_cons]; rw [ih (a + x), ih (0 + x)]; omega
theorem lsum_cons (x : Int) (l : List Int) : lsum (x :: l) = x + lsum l := by
  show (x :: l).foldl (· + ·) 0 = _
  rw [List.foldl_cons, lsum_acc]; omega
theorem lsum_nil : lsum [] = 0 := rfl
theorem lsum_append (a b : List Int) : lsum (a ++ b) = lsum a + lsum b := by
  induction a with
  | nil => simp [lsum_nil]
  | cons x a ih => rw [List.cons_append, lsum_cons, lsum_cons, ih]; omega
theorem take_snoc {l : List Int} {k : Nat} (h : k < l.length) : l.take (k + 1) = l.take k ++ [l.getD k 0] := by
  rw [List.take_succ_eq_append_getElem h]; simp [h]
theorem lsum_snoc {l : List Int} {k : Nat} (h : k < l.length) : lsum (l.take (k + 1)) = lsum (l.take k) + l.getD k 0 := by
  rw [take_snoc h, lsum_append, lsum_cons, lsum_nil]; omega
theorem lsum_bd {l : List Int} {B : Int} (hb : 0 ≤ B) (h : ∀ x ∈ l, -B ≤ x ∧ x ≤ B) : -(l.length * B) ≤ lsum l ∧ lsum l ≤ l.length * B := by
  induction l with
  | nil => simp [lsum_nil]
  | cons x l ih =>
    have h1 := h x (by simp)
    have h2 := ih (fun y hy => h y (by simp [hy]))
    rw [lsum_cons]
    have e : ((x :: l).length : Int) * B = l.length * B + B := by simp [Int.add_mul]
    omega
theorem getD_mem {l : List Int} {k : Nat} (h : k < l.length) : l.getD k 0 ∈ l := by simp [h]
end Go.Proofs.Ythancaehlijaoaa
