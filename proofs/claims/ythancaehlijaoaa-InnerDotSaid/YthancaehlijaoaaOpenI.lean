/- What a slice of numbers reads as. No condition. -/
import Derived.Test.YthancaehlijaoaaOpen10
import Derived.Test.YthancaehlijaoaaAppl
import Derived.Test.YthancaehlijaoaaJoin
import Derived.ChangeSlices
namespace Go.Proofs.Ythancaehlijaoaa
set_option linter.unusedVariables false
open Go.ChangeShapes Go.WideShapes Go.ChangeAt Go.RowKit Go.Deep
section
variable {H : Type} {enc : TypeId × Value → H} {w : World} {held : Bool}
set_option maxRecDepth 100000 in
theorem intsarg_of {r : Reach} {b0 : Nat} {v : Value} {d : DataW H} {p : List MemPlace} (hv : Value.okWide Try.prog w r b0 32 v) (h : DataW.Trod enc Try.prog w 0 (fun _ => true) held 32 v d p) :
    ∃ (l : List Int) (q : Option Addr) (n cap : Nat), allI l ∧ SlArg w q n cap l ∧ v = .slice q n cap ∧
      ∀ (ts : List TypeId) (ds : List (DataW H)) (j : Nat), (DataW.weightsEach Try.prog ts ds).all (· ≤ reachBytes) = true → ts[j]? = some 32 → ds[j]? = some d → n ≤ 281474976710656 := by
  obtain ⟨q, n, cap, rfl⟩ := okWide_slice Try.underlying32 hv
  obtain ⟨fuel, hf⟩ := h
  rcases open_ints Try.underlying32 Try.underlying2 (by kernel_rfl) hf with ⟨hcs, _⟩ | ⟨a, len, cap', zs, hcs, _, hlc, hcm, hzl, hx, hi, hwf⟩
  · have hcs' : [Value.slice q n cap] = [Value.slice none 0 0] := hcs
    simp only [List.cons.injEq, and_true, Value.slice.injEq] at hcs'
    obtain ⟨rfl, rfl, rfl⟩ := hcs'
    exact ⟨[], none, 0, 0, (by intro x hx; cases hx), ⟨rfl, Nat.le_refl _, .inl ⟨rfl, fun _ => rfl⟩⟩, rfl, fun _ _ _ _ _ _ => Nat.zero_le _⟩
  · have hcs' : [Value.slice q n cap] = [Value.slice (some a) len cap'] := hcs
    simp only [List.cons.injEq, and_true, Value.slice.injEq] at hcs'
    obtain ⟨rfl, rfl, rfl⟩ := hcs'
    simp only [if_true] at hzl
    refine ⟨zs.take n, some a, n, cap, ?_, ⟨by rw [List.length_take]; omega, hlc, ?_⟩, rfl, ?_⟩
    · intro x hx'
      exact wf_i64 (hwf x (List.mem_of_mem_take hx'))
    · by_cases h0 : n = 0
      · exact .inl ⟨h0, fun h => by cases h⟩
      · have h1 := hi 0 (by omega)
        obtain ⟨b, off, spot⟩ := a
        have hspot : spot = none := by simpa [Addr.add] using World.cell?_spot h1
        subst hspot
        have hb : b < w.heap.size := by
          rcases Nat.lt_or_ge b w.heap.size with h' | h'
          · exact h'
          · simp [World.cell?, Addr.add, Array.getElem?_eq_none h'] at h1
        refine .inr ⟨b, off, rfl, hb, fun k hk => ?_⟩
        have := hi k (by omega)
        rw [add_plain0] at this
        rw [this]
        simp [List.getElem?_take_of_lt hk]
    · intro ts ds j hs ht hj
      have hb : Try.prog.bytesOf 2 = 8 := by kernel_rfl
      simp only [Prod.mk.injEq] at hx
      have := reach_of hs ht hj (n := ((lits .i64 (zs.take n)).length + (lits .i64 (zs.drop n)).length) * Try.prog.bytesOf 2) (by
        rw [hx.1]
        simp [DataW.weights, DataW.weightsEach, Try.underlying32]
        exact .inl rfl)
      rw [hb] at this
      simp only [reachBytes, lits, List.length_map, List.length_take, List.length_drop] at this
      omega
end
end Go.Proofs.Ythancaehlijaoaa
