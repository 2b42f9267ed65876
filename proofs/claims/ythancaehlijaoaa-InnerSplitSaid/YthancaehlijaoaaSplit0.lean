/- The products of the parts of two rows, as calls. -/
import Derived.Test.YthancaehlijaoaaSplitLaw
namespace Go.Proofs.Ythancaehlijaoaa
set_option linter.unusedVariables false
open Go.RowKit

theorem IntsAt.sub {w w' : World} {g k cap : Nat} {X : List Int} (h : IntsAt w (.slice (some ⟨g, 0, none⟩) k cap) X) (hX : X.length = k) (hk : 0 < k) (hE : Ext w w') {j : Nat} (hj : j ≤ k) :
    (∀ c, IntsAt w' (.slice (some ⟨g, 0, none⟩) j c) (X.take j)) ∧ ∀ o c, (o = j ∨ k = j) → IntsAt w' (.slice (some ⟨g, o, none⟩) (k - j) c) (X.drop j) := by
  rcases h with ⟨h, _⟩ | ⟨g', off, cap', hv, hg, hc⟩
  · cases h
  · simp only [Value.slice.injEq, Option.some.injEq, Addr.mk.injEq] at hv
    obtain ⟨⟨rfl, rfl, _⟩, _, rfl⟩ := hv
    have hlx : (X.take j).length = j := by rw [List.length_take]; omega
    have hld : (X.drop j).length = k - j := by rw [List.length_drop]; omega
    constructor
    · intro c
      refine .inr ⟨g, 0, c, by rw [hlx], Nat.lt_of_lt_of_le hg hE.size, fun i hi => ?_⟩
      rw [hlx] at hi
      rw [(bcell hE).1 g _ hg, hc i (by omega)]
      simp [List.getElem?_take_of_lt hi]
    · intro o c ho
      refine .inr ⟨g, o, c, by rw [hld], Nat.lt_of_lt_of_le hg hE.size, fun i hi => ?_⟩
      rw [hld] at hi
      obtain rfl : o = j := by omega
      have h2 := hc (o + i) (by omega)
      rw [Nat.zero_add] at h2
      rw [(bcell hE).1 g _ hg, h2]
      simp [List.getElem?_drop]
/-- What the calls of a split tell. -/
structure Parts (w : World) (g9 k9 g10 k10 k j : Nat) (S S1 S2 : Int) : Prop where
  d1 : ∀ w' : World, Ext w w' → Calls Try.prog 31 #[.slice (some ⟨g9, 0, none⟩) j k9, .slice (some ⟨g10, 0, none⟩) j k10] w' fun e w'' => e = .returned (.tuple #[.agg #[.int .i64 (hi S1), .int .u64 (lo S1)], .bool true]) ∧ Ext w' w''
  d2 : ∀ o o' cc cc' m m' : Nat, (o = j ∨ k = j) → (o' = j ∨ k = j) → m = k - j → m' = k - j → ∀ w' : World, Ext w w' → Calls Try.prog 31 #[.slice (some ⟨g9, o, none⟩) m cc, .slice (some ⟨g10, o', none⟩) m' cc'] w' fun e w'' => e = .returned (.tuple #[.agg #[.int .i64 (hi S2), .int .u64 (lo S2)], .bool true]) ∧ Ext w' w''
  sum : S1 + S2 = S
  w1 : W128 S1
  w2 : W128 S2
  w0 : W128 S
  w3 : W128 (S + S)
theorem parts_of {w : World} {g9 k9 g10 k10 k : Nat} {X Y : List Int} (i9 : IntsAt w (.slice (some ⟨g9, 0, none⟩) k k9) X) (i10 : IntsAt w (.slice (some ⟨g10, 0, none⟩) k k10) Y) (hX : X.length = k) (hY : Y.length = k) (hk : 0 < k) (h100 : k ≤ 100) (bX : Bnd 2251799813685248 X) (bY : Bnd 2251799813685248 Y) {j : Nat} (hj : j ≤ k) :
    Parts w g9 k9 g10 k10 k j (dotS X Y k) (dotS X Y j) (dotS (X.drop j) (Y.drop j) (k - j)) := by
  have hlx : (X.take j).length = j := by rw [List.length_take]; omega
  have hly : (Y.take j).length = j := by rw [List.length_take]; omega
  have hdx : (X.drop j).length = k - j := by rw [List.length_drop]; omega
  have hdy : (Y.drop j).length = k - j := by rw [List.length_drop]; omega
  have F1 := dotF_fit2 (bnd_take bX j) (bnd_take bY j) j (by omega)
  rw [dotS_take X Y j j (Nat.le_refl _)] at F1
  have F2 := dotF_fit2 (bnd_drop bX j) (bnd_drop bY j) (k - j) (by omega)
  have F0 := dotF_fit2 bX bY k (by omega)
  refine ⟨fun w' hE => ?_, fun o o' cc cc' m m' ho ho' hm hm' w' hE => ?_, ?_, ?_, ?_, ?_, ?_⟩
  · have := Dot_c (X.take j) (Y.take j) _ _ w' (bnd_all (bnd_take bX j)) (bnd_all (bnd_take bY j)) (hlx.trans hly.symm) (by rw [hlx]; omega) ((i9.sub hX hk hE hj).1 k9) ((i10.sub hY hk hE hj).1 k10)
    rw [hlx, F1.1] at this
    exact this
  · subst hm hm'
    have := Dot_c (X.drop j) (Y.drop j) _ _ w' (bnd_all (bnd_drop bX j)) (bnd_all (bnd_drop bY j)) (hdx.trans hdy.symm) (by rw [hdx]; omega) ((i9.sub hX hk hE hj).2 o cc ho) ((i10.sub hY hk hE hj).2 o' cc' ho')
    rw [hdx, F2.1] at this
    exact this
  · have := dotS_drop X Y j (k - j)
    rwa [Nat.add_sub_cancel' hj] at this
  · obtain ⟨_, h1, h2⟩ := F1; unfold W128; omega
  · obtain ⟨_, h1, h2⟩ := F2; unfold W128; omega
  · obtain ⟨_, h1, h2⟩ := F0; unfold W128; omega
  · obtain ⟨_, h1, h2⟩ := F0; unfold W128; omega
end Go.Proofs.Ythancaehlijaoaa
