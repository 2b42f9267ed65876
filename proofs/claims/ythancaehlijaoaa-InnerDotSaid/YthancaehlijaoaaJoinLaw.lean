/- Plain laws: sums of cells are the cells of all updates. -/
import Derived.Test.YthancaehlijaoaaSumLaw
import Derived.Test.YthancaehlijaoaaJoin
namespace Go.Proofs.Ythancaehlijaoaa
set_option linter.unusedVariables false

theorem sumIf_append (p : Int → Bool) (a b : List (Int × Int)) : sumIf p (a ++ b) = sumIf p a + sumIf p b := by
  unfold sumIf; rw [List.map_append, lsum_append]
theorem cutP_append (C : Cfg) (lv : Int) (a b : List (Int × Int)) : cutP C lv (a ++ b) = cutP C lv a ++ cutP C lv b := by simp [cutP]
theorem list_ext_getD {a b : List Int} (hl : a.length = b.length) (h : ∀ i, i < a.length → a.getD i 0 = b.getD i 0) : a = b := by
  apply List.ext_getElem hl
  intro i h1 h2
  have := h i h1
  simpa [h1, h2] using this
theorem plusL_get {l m : List Int} {i : Nat} (h : i < l.length) : (plusL l m).getD i 0 = l.getD i 0 + m.getD i 0 := by simp [plusL, h]
theorem minusL_get {l m : List Int} {i : Nat} (h : i < l.length) : (minusL l m).getD i 0 = l.getD i 0 - m.getD i 0 := by simp [minusL, h]
theorem feed_plus (C : Cfg) (hok : C.Ok) (lv : Int) (R W : Nat) (hr : C.rows = R) (hw : C.width = W) (hm : C.mode ≠ 2) (us vs : List (Int × Int)) :
    plusL (feed C lv R W us (zs (R * W))) (feed C lv R W vs (zs (R * W))) = feed C lv R W (us ++ vs) (zs (R * W)) := by
  have hW : 0 < W := by have := hok.w1; omega
  apply list_ext_getD
  · rw [plusL_len, feed_len, feed_len]
  · intro i hi
    rw [plusL_len] at hi
    rw [plusL_get hi]
    rw [feed_len, zs_len] at hi
    have h1 : i / W < R := Nat.div_lt_of_lt_mul (by rw [Nat.mul_comm]; exact hi)
    have h2 : i % W < W := Nat.mod_lt _ hW
    have e : i = i / W * W + i % W := by have := Nat.div_add_mod i W; rw [Nat.mul_comm] at this; exact this.symm
    rw [e, feed_cell C hok lv R W hr hw hm us h1 h2, feed_cell C hok lv R W hr hw hm vs h1 h2, feed_cell C hok lv R W hr hw hm (us ++ vs) h1 h2, cutP_append, sumIf_append]
theorem minus_plus {a b : List Int} (h : a.length = b.length) : minusL (plusL a b) b = a := by
  apply list_ext_getD
  · rw [minusL_len, plusL_len]
  · intro i hi
    rw [minusL_len] at hi
    rw [minusL_get hi]
    rw [plusL_len] at hi
    rw [plusL_get hi]
    omega
theorem minus_self (a : List Int) : minusL a a = zs a.length := by
  apply list_ext_getD
  · rw [minusL_len, zs_len]
  · intro i hi
    rw [minusL_len] at hi
    rw [minusL_get hi]
    simp [zs, hi]
theorem feed_fit (C : Cfg) (lv : Int) (R W : Nat) (us : List (Int × Int)) (hl : us.length ≤ 1000) : allI (feed C lv R W us (zs (R * W))) := by
  intro x hx
  have := feed_bnd C lv R W us x hx
  unfold I64
  constructor <;> omega
theorem fus_cat (us : List (Int × Int)) {k : Nat} (hk : k ≤ 60) : fus us 0 k ++ fus us k 60 = fus us 0 60 := by
  unfold fus
  rw [List.drop_zero, List.drop_zero]
  have : us.take k = (us.take 60).take k := by rw [List.take_take, Nat.min_eq_left hk]
  rw [this, List.take_append_drop]
theorem zs_fit (n : Nat) : allI (zs n) := by
  intro x hx
  simp only [zs, List.mem_replicate] at hx
  rw [hx.2]; unfold I64; omega
theorem IntsAt.mod {S : Nat → Prop} {w w' : World} {v : Value} {xs : List Int} (h : IntsAt w v xs) (hm : Mod S w w') (hne : ∀ g off n cap, v = .slice (some ⟨g, off, none⟩) n cap → ¬ S g) : IntsAt w' v xs := by
  rcases h with h | ⟨g, off, cap, h1, h2, h3⟩
  · exact .inl h
  · exact .inr ⟨g, off, cap, h1, Nat.lt_of_lt_of_le h2 hm.size, fun k hk => (mcell hm h2 (hne _ _ _ _ h1) _).trans (h3 k hk)⟩
theorem SAt.mod {S : Nat → Prop} {w w' : World} {s b c : Nat} {C : Cfg} {lv : Int} {R W : Nat} {l : List Int} (h : SAt w s b c C lv R W l) (hm : Mod S w w') (h1 : ¬ S s) (h2 : ¬ S b) (h3 : ¬ S c) : SAt w' s b c C lv R W l :=
  h.keep (hm.block s h.lts h1) (hm.block b h.g.ltb h2) (hm.block c h.g.ltc h3)
end Go.Proofs.Ythancaehlijaoaa
