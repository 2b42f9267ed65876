/- MergeInner: where no key has less than 0, the product of two stacks is not less than the sum of the products of what all keys have; where level 0 is exact it is just that. No condition: every input. -/
import Derived.Test.YtdenbmmbeeamcaaGreatL12
import Derived.Test.YtdenbmmbeeamcaaGreatL5
import Derived.Test.YtdenbmmbeeamcaaGreatL6
import Derived.Test.YtdenbmmbeeamcaaGreatL9
import Derived.Test.YtdenbmmbeeamcaaGreatL13
import Derived.Test.YtdenbmmbeeamcaaGreatL7
import Derived.Test.YtdenbmmbeeamcaaGreatL3

/- Plain law: the product of two stacks that were fed no key less than 0 is not less than that of what keys have. -/
namespace Go.Proofs.YtdenbmmbeeamcaaGreat
set_option linter.unusedVariables false
open Go.RowKit
def d24 (d : Int) : Int := max (d.tmod 16777216) (-(d.tmod 16777216))
theorem d24_bd (d : Int) : 0 ≤ d24 d ∧ d24 d ≤ 16777216 := by
  have h1 := Int.lt_tmod_of_pos d (show (0 : Int) < 16777216 by decide)
  have h2 := Int.tmod_lt_of_pos d (show (0 : Int) < 16777216 by decide)
  unfold d24; omega
/-- Updates of keys that there are, none below 0. -/
def Small (C : Cfg) (P : List (Int × Int)) : Prop := ∀ p ∈ P, 0 ≤ p.1 ∧ p.1 < keys C 0 ∧ 0 ≤ p.2 ∧ p.2 ≤ 16777216
theorem Small.cut {C : Cfg} (hm : C.mode ≠ 2) {p : Int × Int} (h : 0 ≤ p.1 ∧ p.1 < keys C 0 ∧ 0 ≤ p.2 ∧ p.2 ≤ 16777216) : cutK C 0 p.1 = p.1 ∧ cutD C.mode p.2 = p.2 := by
  obtain ⟨h1, h2, h3, h4⟩ := h
  refine ⟨Int.emod_eq_of_lt h1 h2, ?_⟩
  unfold cutD
  rw [decide_eq_false hm]
  exact Int.tmod_eq_of_lt h3 (by omega)
theorem Small.cutP {C : Cfg} (hm : C.mode ≠ 2) {P : List (Int × Int)} (h : Small C P) : cutP C 0 P = P := by
  unfold Go.Proofs.YtdenbmmbeeamcaaGreat.cutP
  have : ∀ p ∈ P, (fun u : Int × Int => (cutK C 0 u.1, cutD C.mode u.2)) p = p := fun p hp => by
    have := Small.cut hm (h p hp)
    show (cutK C 0 p.1, cutD C.mode p.2) = p
    rw [this.1, this.2]
  rw [List.map_congr_left this]; simp
theorem Small.stP {C : Cfg} (hm : C.mode ≠ 2) {P : List (Int × Int)} (h : Small C P) : stP C 0 P = P := by
  unfold Go.Proofs.YtdenbmmbeeamcaaGreat.stP
  have : ∀ p ∈ P, (fun u : Int × Int => (sh 0 (cutK C 0 u.1), cutD C.mode u.2)) p = p := fun p hp => by
    have := Small.cut hm (h p hp)
    show (sh 0 (cutK C 0 p.1), cutD C.mode p.2) = p
    rw [this.1, this.2, sh_zero]
  rw [List.map_congr_left this]; simp
theorem shU_zero (P : List (Int × Int)) : shU 0 P = P := by
  unfold shU
  have : ∀ p ∈ P, (fun u : Int × Int => (u.1 / 2 ^ 0, u.2)) p = p := fun p _ => by
    show (p.1 / 2 ^ 0, p.2) = p
    simp
  rw [List.map_congr_left this]; simp
theorem Small.ups {C : Cfg} (hok : C.Ok) {P : List (Int × Int)} (h : Small C P) : UpsOk P := by
  intro p hp
  obtain ⟨h1, h2, h3, h4⟩ := h p hp
  have := keys_bd C hok 0 (Int.le_refl 0)
  refine ⟨⟨h1, ?_⟩, ?_⟩
  · omega
  · unfold I64; omega
theorem Small.bnd {C : Cfg} (hm : C.mode ≠ 2) (n : Nat) (P : List (Int × Int)) : Small C P → Bnd (P.length * 16777216) (feedK C P n) := by
  refine snoc_ind (P := fun us => Small C us → Bnd (us.length * 16777216) (feedK C us n)) ?_ ?_ P
  · intro _; exact zs_bnd _
  · intro us u ih h
    have hu := h u (by simp)
    have ih' := ih (fun v hv => h v (by simp [hv]))
    rw [feedK_snoc]
    have hc := Small.cut hm hu
    rw [hc.1, hc.2]
    have := updK_bnd (C := C) (ls := feedK C us) (key := u.1) (d := u.2) (n := n) ih' (by omega) (show (0 : Int) ≤ 16777216 by decide) (by omega)
    have e : ((us ++ [u]).length : Int) * 16777216 = us.length * 16777216 + 16777216 := by
      rw [List.length_append, List.length_singleton]; push_cast; omega
    rw [e]
    exact this
theorem row_pairsG (C : Cfg) (hok : C.Ok) (lv : Int) (R W : Nat) (hr : C.rows = R) (hw : C.width = W) (hm : C.mode ≠ 2) (A B : List (Int × Int)) (hA : cutP C lv A = A) (hB : cutP C lv B = B) {r : Nat} (hrr : r < R) :
    dotS (rowP (feed C lv R W A (zs (R * W))) W r) (rowP (feed C lv R W B (zs (R * W))) W r) W = pairS (fun a b => (cols C lv b).getD r 0 == (cols C lv a).getD r 0) A B := by
  have hcell : ∀ (xs : List (Int × Int)), cutP C lv xs = xs → ∀ a : Nat, a < W → (rowP (feed C lv R W xs (zs (R * W))) W r).getD a 0 = sumIf (fun k => (cols C lv k).getD r 0 == (a : Int)) xs := by
    intro xs hxs a ha
    rw [rowP_get _ ha, feed_cell C hok lv R W hr hw hm _ hrr ha, hxs]
  have hk : ∀ k, k ≤ W → dotS (rowP (feed C lv R W A (zs (R * W))) W r) (rowP (feed C lv R W B (zs (R * W))) W r) k = cellS (fun k => (cols C lv k).getD r 0) A B k := by
    intro k
    induction k with
    | zero => intro _; rfl
    | succ k ih =>
      intro hk
      simp only [dotS, cellS]
      rw [ih (by omega), hcell A hA k (by omega), hcell B hB k (by omega)]
  rw [hk W (Nat.le_refl _)]
  refine cellS_pairs (fun k => (cols C lv k).getD r 0) _ W _ (fun p _ => ?_)
  have hme := cols_meets C hok lv p.1 hr hw
  exact ⟨hme.lo r hrr, hme.hi r hrr⟩
theorem oneS_nn (f : Int → Int → Bool) (p : Int × Int) (hp : 0 ≤ p.2) : ∀ Q : List (Int × Int), (∀ q ∈ Q, 0 ≤ q.2) → 0 ≤ oneS f p Q := by
  intro Q
  induction Q with
  | nil => intro _; exact Int.le_refl _
  | cons q Q ih =>
    intro h
    have := ih (fun x hx => h x (List.mem_cons_of_mem _ hx))
    have hq := h q (List.mem_cons_self ..)
    have hm := Int.mul_nonneg hp hq
    rw [oneS_cons]
    cases f p.1 q.1 with
    | true => simp only [cond_true]; omega
    | false => simp only [cond_false]; omega
theorem pairS_nn (f : Int → Int → Bool) (Q : List (Int × Int)) (hQ : ∀ q ∈ Q, 0 ≤ q.2) : ∀ P : List (Int × Int), (∀ p ∈ P, 0 ≤ p.2) → 0 ≤ pairS f P Q := by
  intro P
  induction P with
  | nil => intro _; exact Int.le_refl _
  | cons p P ih =>
    intro h
    have := ih (fun x hx => h x (List.mem_cons_of_mem _ hx))
    have hp := oneS_nn f p (h p (List.mem_cons_self ..)) Q hQ
    rw [pairS_cons]; omega
theorem oneS_le (f : Int → Int → Bool) (p : Int × Int) (hp : 0 ≤ p.2 ∧ p.2 ≤ 16777216) : ∀ Q : List (Int × Int), (∀ q ∈ Q, 0 ≤ q.2 ∧ q.2 ≤ 16777216) → oneS f p Q ≤ Q.length * 281474976710656 := by
  intro Q
  induction Q with
  | nil => intro _; exact Int.le_refl _
  | cons q Q ih =>
    intro h
    have := ih (fun x hx => h x (List.mem_cons_of_mem _ hx))
    have hq := h q (List.mem_cons_self ..)
    have hm : p.2 * q.2 ≤ 16777216 * 16777216 := Int.mul_le_mul hp.2 hq.2 hq.1 (by decide)
    rw [oneS_cons, List.length_cons]
    push_cast
    cases f p.1 q.1 with
    | true => simp only [cond_true]; omega
    | false => simp only [cond_false]; omega
theorem pairS_le (f : Int → Int → Bool) (Q : List (Int × Int)) (hQ : ∀ q ∈ Q, 0 ≤ q.2 ∧ q.2 ≤ 16777216) (hl : Q.length ≤ 60) : ∀ P : List (Int × Int), (∀ p ∈ P, 0 ≤ p.2 ∧ p.2 ≤ 16777216) → pairS f P Q ≤ P.length * 16888498602639360 := by
  intro P
  induction P with
  | nil => intro _; exact Int.le_refl _
  | cons p P ih =>
    intro h
    have := ih (fun x hx => h x (List.mem_cons_of_mem _ hx))
    have hp := oneS_le f p (h p (List.mem_cons_self ..)) Q hQ
    rw [pairS_cons, List.length_cons]
    push_cast
    omega
theorem innS_ge {l m : List Int} {W : Nat} {s : Int} : ∀ r, 0 < r → (∀ i, i < r → s ≤ dotS (rowP l W i) (rowP m W i) W) → s ≤ innS l m W r := by
  intro r
  induction r with
  | zero => intro h; omega
  | succ r ih =>
    intro _ h
    simp only [innS]
    cases hb : (decide (r = 0) || decide (dotS (rowP l W r) (rowP m W r) W < innS l m W r)) with
    | true => exact h r (Nat.lt_succ_self r)
    | false =>
      have h0 : ¬ r = 0 := by
        intro h0
        rw [decide_eq_true h0] at hb
        simp at hb
      exact ih (by omega) (fun i hi => h i (by omega))
theorem innS_le {l m : List Int} {W : Nat} {s : Int} (hs : 0 ≤ s) : ∀ r, (∀ i, i < r → dotS (rowP l W i) (rowP m W i) W ≤ s) → innS l m W r ≤ s := by
  intro r
  induction r with
  | zero => intro _; exact hs
  | succ r ih =>
    intro h
    simp only [innS]
    cases hb : (decide (r = 0) || decide (dotS (rowP l W r) (rowP m W r) W < innS l m W r)) with
    | true => exact h r (Nat.lt_succ_self r)
    | false => exact ih (fun i hi => h i (by omega))
theorem pairS_top {C : Cfg} (f : Int → Int → Bool) {A D : List (Int × Int)} (hA : Small C A) (hD : Small C D) (lA : A.length ≤ 60) (lD : D.length ≤ 60) : pairS f A D ≤ 1013309916158361600 := by
  have h2 := pairS_le f D (fun q hq => ⟨(hD q hq).2.2.1, (hD q hq).2.2.2⟩) lD A (fun p hp => ⟨(hA p hp).2.2.1, (hA p hp).2.2.2⟩)
  omega
def eqS (A B : List (Int × Int)) : Int := pairS (fun a b => a == b) A B
theorem minner_law {C : Cfg} (hok : C.Ok) (hm : C.mode = 1) (hwd : C.width ≤ 1000) {A B : List (Int × Int)} (hA : Small C A) (hB : Small C B) (lA : A.length ≤ 60) (lB : B.length ≤ 60) :
    ∃ z, lvInn C 0 (feedK C A 0) (feedK C B 0) = some z ∧ (eqS A B ≤ z ∧ z ≤ 1013309916158361600) ∧ (isX C 0 = true → z = eqS A B) := by
  have hm2 : C.mode ≠ 2 := by rw [hm]; decide
  have bA : Bnd 35184372088832 (feedK C A 0) := fun x hx => by have := Small.bnd hm2 0 A hA x hx; omega
  have bB : Bnd 35184372088832 (feedK C B 0) := fun x hx => by have := Small.bnd hm2 0 B hB x hx; omega
  have hb := hok.b1
  unfold lvInn
  cases hx : isX C 0 with
  | true =>
    have h3 : keys C 0 ≤ C.width := of_decide_eq_true hx
    have h4 := kN_eq hok (Int.le_refl 0)
    refine ⟨_, (dotF_fit bA bB _ (by omega)).1, ?_⟩
    have e : ∀ k, dotS (feedK C A 0) (feedK C B 0) k = cellS (fun k => k) A B k := by
      intro k
      induction k with
      | zero => rfl
      | succ k ih =>
        have f1 := feedK_x (n := 0) hok (by show (0 : Int) ≤ _; omega) (hA.ups hok) hx k
        have f2 := feedK_x (n := 0) hok (by show (0 : Int) ≤ _; omega) (hB.ups hok) hx k
        simp only [dotS, cellS]
        rw [ih, f1, f2, hA.stP hm2, hB.stP hm2]
        rfl
    have e2 : dotS (feedK C A 0) (feedK C B 0) (kN C 0) = eqS A B := by
      rw [e, cellS_pairs (fun k => k) _ _ _ (fun p hp => by have := hA p hp; exact ⟨this.1, by omega⟩)]
      unfold eqS
      congr 1
      funext a b
      by_cases h : a = b
      · subst h; rfl
      · have h' : ¬ b = a := fun e => h e.symm
        exact (beq_eq_false_iff_ne.2 h').trans (beq_eq_false_iff_ne.2 h).symm
    rw [e2]
    exact ⟨⟨Int.le_refl _, pairS_top _ hA hB lA lB⟩, fun _ => rfl⟩
  | false =>
    have hr := rN_eq hok
    have hw := wN_eq hok
    refine ⟨_, innF_fit bA bB (by omega) _, ?_, fun h => by cases h⟩
    have hrow : ∀ i, i < rN C → dotS (rowP (feedK C A 0) (wN C) i) (rowP (feedK C B 0) (wN C) i) (wN C) = pairS (fun a b => (cols C 0 b).getD i 0 == (cols C 0 a).getD i 0) A B := fun i hi => by
      rw [feedK_s (n := 0) hok (by show (0 : Int) ≤ _; omega) (hA.ups hok) hx, feedK_s (n := 0) hok (by show (0 : Int) ≤ _; omega) (hB.ups hok) hx, shU_zero, shU_zero]
      exact row_pairsG C hok 0 (rN C) (wN C) hr hw hm2 A B (hA.cutP hm2) (hB.cutP hm2) hi
    refine ⟨innS_ge _ (by have := hok.r1; omega) (fun i hi => ?_), innS_le (by decide) _ (fun i hi => by rw [hrow i hi]; exact pairS_top _ hA hB lA lB)⟩
    have h2 := pairS_split (fun a b => a == b) (fun a b => (cols C 0 b).getD i 0 == (cols C 0 a).getD i 0) B (fun a b h => by
      have : a = b := by simpa using h
      subst this
      simp) A
    have h3 := pairS_nn (fun a b => !(a == b) && ((cols C 0 b).getD i 0 == (cols C 0 a).getD i 0)) B (fun q hq => (hB q hq).2.2.1) A (fun p hp => (hA p hp).2.2.1)
    rw [hrow i hi]
    unfold eqS
    omega
end Go.Proofs.YtdenbmmbeeamcaaGreat

/- gaugerlaw20.MergeInner, walked. -/
namespace Go.Proofs.YtdenbmmbeeamcaaGreat
set_option linter.unusedVariables false
open Go.RowKit
theorem KAt.keepB {w0 w w' : World} {s g : Nat} {C : Cfg} {B : Nat} {L : Nat → Lev} {ls0 ls : Nat → List Int} (h : KAt w s g C B L ls) (h0 : KAt w0 s g C B L ls0) (he : ∀ k, k < w0.heap.size → w'.heap[k]? = w.heap[k]?) : KAt w' s g C B L ls := by
  refine ⟨?_, ?_, fun n hn => (h.lev n hn).keep (he _ (h0.lev n hn).lts) (he _ (h0.lev n hn).ltb) (he _ (h0.lev n hn).ltc), h.sep, h.ok, h.hB⟩
  · rw [he s h0.lts]; exact h.ex
  · rw [he g h0.ltg]; exact h.row
theorem own_ltB {w : World} {base n size : Nat} {e : TypeId} {v : Value} {xs : List Value} (h : w.ownsRow base e size v n xs) {b : Nat} (hb : v.ownBlock = some b) : b < w.heap.size := by
  rcases h.2 with ⟨rfl, _⟩ | ⟨g, cap, cur, rfl, _, hh, _⟩
  · cases hb
  · cases hb; exact lt_of hh
theorem key_u64' {j K : Int} (h0 : 0 ≤ j) (h1 : j < K) (h2 : K ≤ 576460752303423488) : U64 j := by unfold U64; omega
theorem d24_i64 {d : Int} (h0 : 0 ≤ d) (h1 : d ≤ 16777216) : I64 d := by unfold I64; omega
theorem fus_len0 (us : List (Int × Int)) {i : Nat} (h : i ≤ us.length) : (fus us 0 i).length = i := by unfold fus; rw [List.drop_zero, List.length_take]; omega
theorem UpsAt.pair {w : World} {p : Option Addr} {n c : Nat} {us : List (Int × Int)} (h : UpsAt w (.slice p n c) us) {i j : Nat} (hi : i < us.length) (hj : j < us.length) :
    ∃ g off, p = some ⟨g, off, none⟩ ∧ g < w.heap.size ∧ w.cell? ⟨g, off + i * 2, none⟩ = some (.int .u64 (us.getD i (0, 0)).1) ∧ w.cell? ⟨g, off + i * 2 + 1, none⟩ = some (.int .i64 (us.getD i (0, 0)).2) ∧ w.cell? ⟨g, off + j * 2, none⟩ = some (.int .u64 (us.getD j (0, 0)).1) ∧ w.cell? ⟨g, off + j * 2 + 1, none⟩ = some (.int .i64 (us.getD j (0, 0)).2) := by
  obtain ⟨g, off, rfl, hl, a, b⟩ := h.one hi
  obtain ⟨g2, off2, hp2, _, c, d⟩ := h.one hj
  have hp3 := Option.some.inj hp2
  simp only [Addr.mk.injEq] at hp3
  obtain ⟨rfl, rfl, _⟩ := hp3
  have e1 : us.getD i (0, 0) = us[i] := by simp [hi]
  have e2 : us.getD j (0, 0) = us[j] := by simp [hj]
  rw [e1, e2]
  exact ⟨g, off, rfl, hl, a, b, c, d⟩
theorem take_snocG {α : Type} (l : List α) (z : α) {k : Nat} (h : k < l.length) : l.take (k + 1) = l.take k ++ [l.getD k z] := by
  rw [List.take_succ_eq_append_getElem h]; simp [h]
theorem pairS_take' (f : Int → Int → Bool) (A D : List (Int × Int)) {a : Nat} (h : a < A.length) : pairS f (A.take (a + 1)) D = pairS f (A.take a) D + oneS f (A.getD a (0, 0)) D := by
  rw [take_snocG A (0, 0) h, pairS_snoc]
theorem oneS_take' (f : Int → Int → Bool) (p : Int × Int) (D : List (Int × Int)) {b : Nat} (h : b < D.length) : oneS f p (D.take (b + 1)) = oneS f p (D.take b) + bif f p.1 (D.getD b (0, 0)).1 then p.2 * (D.getD b (0, 0)).2 else 0 := by
  rw [take_snocG D (0, 0) h, oneS_snoc]
theorem Small.get {C : Cfg} {P : List (Int × Int)} (h : Small C P) {a : Nat} (ha : a < P.length) : 0 ≤ (P.getD a (0, 0)).1 ∧ (P.getD a (0, 0)).1 < keys C 0 ∧ 0 ≤ (P.getD a (0, 0)).2 ∧ (P.getD a (0, 0)).2 ≤ 16777216 := by
  have e : P.getD a (0, 0) = P[a] := by simp [ha]
  rw [e]; exact h _ (List.getElem_mem ha)
theorem eqS_bd {C : Cfg} {A D : List (Int × Int)} (hA : Small C A) (hD : Small C D) (lA : A.length ≤ 60) (lD : D.length ≤ 60) : 0 ≤ eqS A D ∧ eqS A D ≤ 1013309916158361600 := by
  have h1 := pairS_nn (fun a b => a == b) D (fun q hq => (hD q hq).2.2.1) A (fun p hp => (hA p hp).2.2.1)
  have h2 := pairS_le (fun a b => a == b) D (fun q hq => ⟨(hD q hq).2.2.1, (hD q hq).2.2.2⟩) lD A (fun p hp => ⟨(hA p hp).2.2.1, (hA p hp).2.2.2⟩)
  unfold eqS
  omega
theorem fitN_i64 {z : Int} (h : I64 z) : fitN z = z := by unfold I64 at h; unfold fitN fitB; simp [h.1, h.2]
theorem fitB_i64 {z : Int} (h : I64 z) : fitB z = true := by unfold I64 at h; unfold fitB; simp [h.1, h.2]
def p24 (C : Cfg) (us : List (Int × Int)) : List (Int × Int) := us.map fun u => (cutK C 0 u.1, d24 u.2)
theorem p24_len (C : Cfg) (us : List (Int × Int)) : (p24 C us).length = us.length := by simp [p24]
theorem p24_snoc (C : Cfg) (us : List (Int × Int)) (u : Int × Int) : p24 C (us ++ [u]) = p24 C us ++ [(cutK C 0 u.1, d24 u.2)] := by simp [p24]
theorem p24_small {C : Cfg} (hok : C.Ok) (us : List (Int × Int)) : Small C (p24 C us) := by
  intro p hp
  simp only [p24, List.mem_map] at hp
  obtain ⟨v, _, rfl⟩ := hp
  have hk := cutK_bd C hok 0 v.1 (Int.le_refl 0)
  have hd := d24_bd v.2
  exact ⟨hk.1, hk.2, hd.1, hd.2⟩
theorem Small.take {C : Cfg} {P : List (Int × Int)} (h : Small C P) (k : Nat) : Small C (P.take k) := fun p hp => h p (List.mem_of_mem_take hp)
theorem Small.drop {C : Cfg} {P : List (Int × Int)} (h : Small C P) (k : Nat) : Small C (P.drop k) := fun p hp => h p (List.mem_of_mem_drop hp)
theorem Small.err {C : Cfg} (hok : C.Ok) (hm : C.mode = 1) {B : Nat} (hB : C.bits = B) {P : List (Int × Int)} (h : Small C P) (hl : P.length ≤ 1000) {key d : Int} (hk : 0 ≤ key ∧ key < keys C 0) (hd : 0 ≤ d ∧ d ≤ 16777216) : errK C B (feedK C P) key d = 0 := by
  have hm2 : C.mode ≠ 2 := by rw [hm]; decide
  exact errK_ok hok hB (fun n _ => Small.bnd hm2 n P h) (by omega) (show (0 : Int) ≤ 16777216 by decide) (by omega) (by omega) hk.1 hk.2 (fun h2 => absurd h2 hm2)
theorem Small.snoc {C : Cfg} (hm : C.mode = 1) {key d : Int} (hk : 0 ≤ key ∧ key < keys C 0) (hd : 0 ≤ d ∧ d ≤ 16777216) (P : List (Int × Int)) : updK C (feedK C P) key d = feedK C (P ++ [(key, d)]) := by
  have hc := Small.cut (C := C) (p := (key, d)) (by rw [hm]; decide) ⟨hk.1, hk.2, hd.1, hd.2⟩
  rw [feedK_snoc, hc.1, hc.2]
theorem take_app1 {α : Type} (l : List α) (x : α) {k : Nat} (h : l.length < k) : (l ++ [x]).take k = l.take k ++ [x] := by
  rw [List.take_of_length_le (by rw [List.length_append]; simp; omega), List.take_of_length_le (by omega)]
theorem take_app2 {α : Type} (l : List α) (x : α) {k : Nat} (h : k ≤ l.length) : (l ++ [x]).take k = l.take k := List.take_append_of_le_length h
theorem drop_app1 {α : Type} (l : List α) (x : α) {k : Nat} (h : l.length < k) : (l ++ [x]).drop k = l.drop k := by
  rw [List.drop_eq_nil_of_le (by rw [List.length_append]; simp; omega), List.drop_eq_nil_of_le (by omega)]
theorem drop_app2 {α : Type} (l : List α) (x : α) {k : Nat} (h : k ≤ l.length) : (l ++ [x]).drop k = l.drop k ++ [x] := List.drop_append_of_le_length h
set_option maxRecDepth 20000 in
set_option maxHeartbeats 16000000 in
theorem MInner_core (x : Cfg) (hx : x.Raw) (part : Int) (k : Nat) (hk60 : k ≤ 60) (h16 : bits BinOp.and IntKind.i64 part 65535 = part % 65536) (hk : part % 65536 % 61 = k) (h16b : 0 ≤ part % 65536 ∧ part % 65536 < 65536) (us : List (Int × Int)) (hus : UpsOk us) (v : Value) (w : World) (hv : UpsAt w v us) (hul : us.length ≤ 140737488355328) :
    Calls Tryz.prog 14 #[.agg #[.int .i64 x.bits, .int .i64 x.rows, .int .i64 x.width, .int .i64 x.mode, .int .u64 x.seed, v], .int .i64 part] w fun e w' => e = .returned (.bool true) ∧ Ext w w' := by
  obtain ⟨vp, vc, rfl⟩ := hv.sl
  have HV := Lib.hid hv
  have hk0 : 0 ≤ part % 65536 % 61 := by omega
  clear hv
  go_enter Tryz.func14, Tryz.ntmps14
  go_wp2_with fail
  refine (shown20_c _).mono ?_
  rintro e w1 ⟨rfl, hb1⟩
  have hE : Ext w w1 := by (repeat' (first | exact Ext.refl _ | assumption | apply Ext.allocR | apply Ext.drewR | apply Ext.drewNR | (refine Ext.trans' ?_ (by assumption))))
  have hP := hb1.keep (heap_at w (.cells #[.int .i64 x.bits, .int .i64 x.rows, .int .i64 x.width, .int .i64 x.mode, .int .u64 x.seed, .slice vp us.length vc] 128) rfl)
  clear hb1
  have p0 := (cell_of hP 0).trans rfl
  have p1 := (cell_of hP 1).trans rfl
  have p2 := (cell_of hP 2).trans rfl
  have p3 := (cell_of hP 3).trans rfl
  have p4 := (cell_of hP 4).trans rfl
  have p5 := (cell_of hP 5).trans rfl
  have pl := lt_of hP
  go_upto_region 3 with (fail)
  rw [hk] at *
  clear h16 hk0 h16b hk
  go_wp2_with fail
  refine Calls.mono (Any_c x hx 10 9 (by decide) (by decide) (by decide) (by decide) _) ?_
  rintro e w2 ⟨rfl, hxa⟩
  go_upto_region 5 with (fail)
  obtain ⟨w3, hw3⟩ : ∃ w3, w2.alloc (.cells #[.int .i64 (mkC x 10 9).bits, .int .i64 (mkC x 10 9).rows, .int .i64 (mkC x 10 9).width, .int .i64 1, .int .u64 (mkC x 10 9).seed] 24) = w3 := ⟨_, rfl⟩
  have hx3 : Ext w2 w3 := by rw [← hw3]; exact Ext.alloc' _ _
  have hQ : w3.heap[w2.heap.size]? = some (.cells #[.int .i64 ({ mkC x 10 9 with mode := 1 } : Cfg).bits, .int .i64 ({ mkC x 10 9 with mode := 1 } : Cfg).rows, .int .i64 ({ mkC x 10 9 with mode := 1 } : Cfg).width, .int .i64 ({ mkC x 10 9 with mode := 1 } : Cfg).mode, .int .u64 ({ mkC x 10 9 with mode := 1 } : Cfg).seed] 24 (0, 0)) := by rw [← hw3]; exact heap_at _ _ rfl
  rw [hw3]
  clear hw3
  have hxx := hxa.trans' hx3
  have hok : ({ mkC x 10 9 with mode := 1 } : Cfg).Ok := by have := kcfg_ok x hx.s (nb := 10) (m := 1) (by decide) (by decide) (by decide); unfold kcfg at this; rw [if_pos (by decide)] at this; exact this
  have hcm : ({ mkC x 10 9 with mode := 1 } : Cfg).mode = 1 := rfl
  have hcw : ({ mkC x 10 9 with mode := 1 } : Cfg).width ≤ 1000 := by have := Int.emod_lt_of_pos (x.width % 65536) (show (0 : Int) < 9 by decide); show 1 + x.width % 65536 % 9 ≤ 1000; omega
  replace hP := hxx.keep hP
  replace hE := hE.trans' hxx
  generalize ({ mkC x 10 9 with mode := 1 } : Cfg) = C at *
  obtain ⟨B, hB⟩ : ∃ B : Nat, C.bits = B := ⟨C.bits.toNat, by have := hok.b1; omega⟩
  have HBT := Lib.hid (show C.bits.toNat = B by omega)
  have HB := Lib.hid hB
  have HCM := Lib.hid hcm
  have HCW := Lib.hid hcw
  have HOK := Lib.hid hok
  have hs0 := hE.size
  clear hB hcm hcw hok hxa hx3 hxx
  clear p0 p1 p2 p3 p4 p5 pl
  have p0 := (cell_of hQ 0).trans rfl
  have p1 := (cell_of hQ 1).trans rfl
  have p2 := (cell_of hQ 2).trans rfl
  have p3 := (cell_of hQ 3).trans rfl
  have p4 := (cell_of hQ 4).trans rfl
  have pl := lt_of hQ
  go_wp2_with fail
  refine Calls.mono (KNew_c C HOK.out _) ?_
  rintro e w10 ⟨s1, g1, L1, rfl, hKn, _, _, hFn, hxn⟩
  rw [HBT.out] at hKn hFn
  replace hKn : KAt w10 s1 g1 C B L1 (feedK C []) := hKn.cong (fun n _ => (feedK_nil C n).symm)
  have I1 := Lib.hid (hKn.kin hFn)
  have z1 := Lib.hid hxn.size
  replace hP := hxn.keep hP
  replace hQ := hxn.keep hQ
  replace hE := hE.trans' hxn
  have K1 := Lib.hid hKn
  clear p0 p1 p2 p3 p4 pl
  clear hKn hFn hxn
  have p0 := (cell_of hQ 0).trans rfl
  have p1 := (cell_of hQ 1).trans rfl
  have p2 := (cell_of hQ 2).trans rfl
  have p3 := (cell_of hQ 3).trans rfl
  have p4 := (cell_of hQ 4).trans rfl
  have pl := lt_of hQ
  go_wp2_with fail
  refine Calls.mono (KNew_c C HOK.out _) ?_
  rintro e w11 ⟨s2, g2, L2, rfl, hKn, _, _, hFn, hxn⟩
  rw [HBT.out] at hKn hFn
  replace hKn : KAt w11 s2 g2 C B L2 (feedK C []) := hKn.cong (fun n _ => (feedK_nil C n).symm)
  have I2 := Lib.hid (hKn.kin hFn)
  have z2 := Lib.hid hxn.size
  replace K1 := Lib.hid (K1.out.ext hxn)
  replace hP := hxn.keep hP
  replace hQ := hxn.keep hQ
  replace hE := hE.trans' hxn
  have K2 := Lib.hid hKn
  clear p0 p1 p2 p3 p4 pl
  clear hKn hFn hxn
  have ZZ := Lib.hid (And.intro hs0 (And.intro z1.out z2.out))
  have HK1 := Lib.hid K1.out
  have HK2 := Lib.hid K2.out
  have HP := Lib.hid hP
  have HQ := Lib.hid hQ
  have HE := Lib.hid hE
  clear hs0 z1 z2
  go_upto_region 9 with (fail)
  go_wp2_with fail
  go_loopw [11, 12] (fun u11 u12 wr => ∃ i : Nat, i ≤ 60 ∧ i ≤ us.length ∧ u12 = .int .i64 i ∧ Ext w wr ∧ w11.heap.size ≤ wr.heap.size ∧ wr.heap[w.heap.size]? = some (.cells #[.int .i64 x.bits, .int .i64 x.rows, .int .i64 x.width, .int .i64 x.mode, .int .u64 x.seed, .slice vp us.length vc] 128 (0, 0)) ∧ wr.heap[w2.heap.size]? = some (.cells #[.int .i64 C.bits, .int .i64 C.rows, .int .i64 C.width, .int .i64 C.mode, .int .u64 C.seed] 24 (0, 0)) ∧ KAt wr s1 g1 C B L1 (feedK C ((p24 C (fus us 0 i)).take k)) ∧ KAt wr s2 g2 C B L2 (feedK C ((p24 C (fus us 0 i)).drop k)) ∧ wr.ownsRow w11.heap.size 60 2 u11 (p24 C (fus us 0 i)).length (updV (p24 C (fus us 0 i)))) (fun _ u12 _ => 60 - (intOf u12).toNat)
  case atStart =>
    exact ⟨0, Nat.zero_le _, Nat.zero_le _, rfl, hE, Nat.le_refl _, hP, hQ, by rw [fus_self]; exact HK1.out.cong (fun n _ => by simp [p24]), by rw [fus_self]; exact HK2.out.cong (fun n _ => by simp [p24]), by rw [fus_self]; exact ⟨rfl, .inl ⟨rfl, rfl⟩⟩⟩
  case round =>
    obtain ⟨i, hi60, hil, rfl, hEr, hsr, hPr, hQr, hK1r, hK2r, hrow⟩ := hrel
    have p5 := (cell_of hPr 5).trans rfl
    have pl := lt_of hPr
    by_cases hgo : i < us.length ∧ i < 60
    · obtain ⟨hg1, hg2⟩ := hgo
      obtain ⟨ug, off, rfl, hul0, e0', e1'⟩ := HV.out.one hg1
      have e0 := ((bcell hEr).1 ug _ hul0).trans e0'
      have e1 := ((bcell hEr).1 ug _ hul0).trans e1'
      have hulr : ug < wr.heap.size := Nat.lt_of_lt_of_le hul0 hEr.size
      have hu := hus _ (List.getElem_mem hg1)
      have hsn : p24 C (fus us 0 (i + 1)) = p24 C (fus us 0 i) ++ [(cutK C 0 us[i].1, d24 us[i].2)] := by
        rw [fus_snoc us (Nat.zero_le i) hg1, p24_snoc]
        have : us.getD i (0, 0) = us[i] := by simp [hg1]
        rw [this]
      have hln : (p24 C (fus us 0 i)).length = i := by rw [p24_len, fus_len0 us (by omega)]
      have hsm := p24_small HOK.out (fus us 0 i)
      have c0 := (cell_of hQr 0).trans rfl
      have c1 := (cell_of hQr 1).trans rfl
      have c2 := (cell_of hQr 2).trans rfl
      have c3 := (cell_of hQr 3).trans rfl
      have c4 := (cell_of hQr 4).trans rfl
      have cl := lt_of hQr
      have hkk := cutK_bd C HOK.out 0 us[i].1 (Int.le_refl 0)
      have hdd := d24_bd us[i].2
      generalize us[i] = uu at *
      obtain ⟨uk, ud⟩ := uu
      generalize p24 C (fus us 0 i) = PS at *
      have HSN := Lib.hid hsn
      have HROW := Lib.hid hrow
      have KK1 := Lib.hid hK1r
      have KK2 := Lib.hid hK2r
      obtain ⟨hu1, hu2⟩ := hu.1
      obtain ⟨hu3, hu4⟩ := hu.2
      have hkb := keys_bd C HOK.out 0 (Int.le_refl 0)
      have hkb2 := hkb.2
      have hb1 := HOK.out.b1
      have hkn : keys C 0 ≠ 0 := by omega
      have hkz : (keys C 0 == 0) = false := by simpa using hkn
      have ht1 := Int.lt_tmod_of_pos ud (show (0 : Int) < 16777216 by decide)
      have ht2 := Int.tmod_lt_of_pos ud (show (0 : Int) < 16777216 by decide)
      have HKY := Lib.hid (fun W => KeysR_c C HOK.out 0 (Int.le_refl 0) (by omega) W)
      clear hsn hrow hK1r hK2r e0' e1' hu hb1
      go_upto_region 14 with (fail)
      go_cut [14] (fun s14 wx => ∃ pb : Nat, s14 = .pointer (some ⟨pb, 0, none⟩) ∧ wx.heap[pb]? = some (.cells #[.int .u64 (cutK C 0 uk), .int .i64 (d24 ud)] 60 (0, 0)) ∧ Ext wr wx ∧ wr.heap.size ≤ pb)
      case first =>
        have hC0 := af_drew wr
        by_cases hmx : -ud.tmod 16777216 ≤ ud.tmod 16777216
        all_goals
          have hdv : d24 ud = max (ud.tmod 16777216) (-ud.tmod 16777216) := rfl
          refine pi_start (fun w' => ∃ x : After wr, w' = x.w) [15] (by kernel_rfl) ?_
          refine pi_t 0 rfl (by kernel_rfl) (by kernel_rfl) (fun _ _ _ _ h => h) (fun K hK => ?_)
          go_big_quiet_op
          refine hK _ ?_
          clear hK K
          refine pi_t 2 rfl (by kernel_rfl) (by kernel_rfl) (fun _ _ _ _ h => h) (fun K hK => ?_)
          go_big_quiet_op
          refine hK _ ?_
          clear hK K
          refine pi_t 9 rfl (by kernel_rfl) (by kernel_rfl) (fun _ _ _ _ h => h) (fun K hK => ?_)
          go_big_quiet_op
          refine hK _ ?_
          clear hK K
          refine pi_t 10 rfl (by kernel_rfl) (by kernel_rfl) (fun _ _ _ _ h => h) (fun K hK => ?_)
          go_big_quiet_op
          refine hK _ ?_
          clear hK K
          refine pi_t 11 rfl (by kernel_rfl) (by kernel_rfl) (fun _ _ _ _ h => h) (fun K hK => ?_)
          go_big_quiet_op
          refine hK _ ?_
          clear hK K
          refine pi_t 12 rfl (by kernel_rfl) (by kernel_rfl) (fun _ _ _ _ h => h) (fun K hK => ?_)
          go_big_quiet_op
          refine hK _ ?_
          clear hK K
          refine pi_c 1 (by assumption) rfl (by kernel_rfl) (by kernel_rfl) (fun _ _ _ _ h => h) (fun K hK => ?_)
          go_big_quiet_op
          refine hK _ ?_
          clear hK K
          refine pi_t 3 rfl (by kernel_rfl) (by kernel_rfl) (fun _ _ _ _ h => h) (fun K hK => ?_)
          go_big_quiet_op
          refine hK _ ?_
          clear hK K
          refine pi_t 4 rfl (by kernel_rfl) (by kernel_rfl) (fun _ _ _ _ h => h) (fun K hK => ?_)
          go_big_quiet_op
          refine hK _ ?_
          clear hK K
          refine pi_c 5 (by assumption) rfl (by kernel_rfl) (by kernel_rfl) (fun _ _ _ _ h => h) (fun K hK => ?_)
          go_big_quiet_op
          refine hK _ ?_
          clear hK K
          refine pi_c 6 (by assumption) rfl (by kernel_rfl) (by kernel_rfl) (fun _ _ _ _ h => h) (fun K hK => ?_)
          go_big_quiet_op
          refine hK _ ?_
          clear hK K
          refine pi_b 7 14 rfl rfl (by kernel_rfl) (fun K hK => ?_) (fun K hK => ?_)
          · go_wp2_with (go_at_call 85; refine Calls.mono (HKY.out _) ?_; rintro e wt ⟨rfl, hxt⟩)
            refine hK _ _ (fun _ h => af_step h hxt) ?_
            clear hK K
            have hEt : Ext wr wt := Ext.trans' (Below.drew (Ext.refl wr)) hxt
            refine pi_t 8 rfl (by kernel_rfl) (by kernel_rfl) (fun _ _ _ _ h => h) (fun K hK => ?_)
            go_big_quiet_op
            refine hK _ ?_
            clear hK K
            refine pi_t 13 rfl (by kernel_rfl) (by kernel_rfl) (fun _ _ _ _ h => h) (fun K hK => ?_)
            go_big_quiet_op
            refine hK _ ?_
            clear hK K
            refine pi_l 14 rfl (by kernel_rfl) (fun K hK => ?_)
            go_wp2
            refine hK _ _ (fun _ h => af_step h (Ext.alloc' _ _)) ?_
            clear hK K
            refine pi_l 15 rfl (by kernel_rfl) (fun K hK => ?_)
            go_wp2
            have hszt := hEt.size
            refine hK _ _ (by simp) ?_
            clear hK K
            refine pi_end (by kernel_rfl) ?_
            go_wp2_with fail
            go_meet
            refine ⟨_, rfl, ?_, hEt.trans' (Ext.alloc' _ _), hszt⟩
            rw [heap_at _ _ rfl]
            simp only [hdv]
            first | (rw [Int.max_eq_left hmx]; rfl) | (rw [Int.max_eq_right (by omega)]; rfl)
          · go_wp2
            refine hK _ _ (fun _ h => af_step h (Ext.alloc' _ _)) ?_
            clear hK K
            refine pi_l 7 rfl (by kernel_rfl) (fun K hK => ?_)
            go_wp2_with (go_at_call 85; refine Calls.mono (HKY.out _) ?_; rintro e wt ⟨rfl, hxt⟩)
            refine hK _ _ (fun _ h => af_step h hxt) ?_
            clear hK K
            have hEt : Ext wr wt := ((show Ext wr wr.drew from Below.drew (Ext.refl wr)).allocR _).trans' hxt
            have hbx := hxt.keep (heap_at _ _ rfl)
            have f0 := frozen_of hbx 0
            have f1 := frozen_of hbx 1
            have p0 := (cell_of hbx 0).trans rfl
            have p1 := (cell_of hbx 1).trans rfl
            have HBX := Lib.hid hbx
            clear hbx
            refine pi_t 8 rfl (by kernel_rfl) (by kernel_rfl) (fun _ _ _ _ h => h) (fun K hK => ?_)
            go_big_quiet_op
            refine hK _ ?_
            clear hK K
            refine pi_t 13 rfl (by kernel_rfl) (by kernel_rfl) (fun _ _ _ _ h => h) (fun K hK => ?_)
            go_big_quiet_op
            refine hK _ ?_
            clear hK K
            refine pi_l 15 rfl (by kernel_rfl) (fun K hK => ?_)
            go_wp2
            refine hK _ _ (by simp) ?_
            clear hK K
            refine pi_end (by kernel_rfl) ?_
            go_wp2_with fail
            go_meet
            refine ⟨_, rfl, ?_, (hEt.setR (Nat.le_refl _) _).setR (Nat.le_refl _) _, Nat.le_refl _⟩
            rw [set2 HBX.out]
            simp only [hdv]
            first | (rw [Int.max_eq_left hmx]; rfl) | (rw [Int.max_eq_right (by omega)]; rfl)
      case rest =>
        obtain ⟨pb, rfl, hS, hxn, hpb⟩ := hcut
        rename World => wx
        clear HKY c0 c1 c2 c3 c4 cl e0 e1 hulr p5 pl hkn hkz ht1 ht2 hu1 hu2 hu3 hu4
        generalize cutK C 0 uk = kk at *
        generalize d24 ud = dd at *
        have hPx := hxn.keep hPr
        have hQx := hxn.keep hQr
        have hEx := hEr.trans' hxn
        have hszx := Nat.le_trans hsr hxn.size
        replace KK1 := Lib.hid (KK1.out.ext hxn)
        replace KK2 := Lib.hid (KK2.out.ext hxn)
        have hrx := own_ext HROW.out hxn
        have HRX := Lib.hid hrx
        have p0 := (cell_of hS 0).trans rfl
        have p1 := (cell_of hS 1).trans rfl
        have pl6 := lt_of hS
        have hob : ∀ b, u11.ownBlock = some b → b < wr.heap.size := fun b hb => own_ltB HROW.out hb
        clear hxn HROW hrx
        obtain ⟨i0, z0, hi0, hz0, hz1, hz2, hz3⟩ := info_upd
        go_wp2_with (at_builtin; refine wpList_appu wx (kk, dd) PS u11 w11.heap.size 60 60 HRX.out 56 rfl _ _ rfl i0 z0 hi0 hz0 hz1 hz2 hz3 Tryz.underlying56 rfl rfl ?a1 ?a2 ?_)
        case a1 => omega
        case a2 => omega
        intro z' w5 hr5 hg5 hd5
        obtain ⟨zp, zc, rfl⟩ := own_sl hr5
        have hold : ∀ b, b < w11.heap.size → w5.heap[b]? = wx.heap[b]? := fun b hb => grown_old hg5 (Nat.lt_of_lt_of_le hb hszx) (fun e => by have := own_blk HRX.out e.symm; omega)
        have hE5 : Ext w w5 := ext_grown hEx hg5 (fun b hb => by have := own_blk HRX.out hb; have := ZZ.out; omega)
        have hP5 := (hold _ (by have := lt_of HP.out; omega)).trans hPx
        have hQ5 := (hold _ (by have := lt_of HQ.out; omega)).trans hQx
        have hS5 := (grown_old hg5 (lt_of hS) (fun e => by have := hob _ e.symm; omega)).trans hS
        have hsz5 : w11.heap.size ≤ w5.heap.size := Nat.le_trans hszx (Nat.le_trans (by rw [size_alloc]; exact Nat.le_succ _) hg5.size)
        replace KK1 := Lib.hid (KK1.out.keepB HK1.out hold)
        replace KK2 := Lib.hid (KK2.out.keepB HK2.out hold)
        have HR5 := Lib.hid hr5
        clear hr5 hg5 hd5 hold hPx hQx hEx hszx p0 p1 pl6
        have p0 := (cell_of hS5 0).trans rfl
        have p1 := (cell_of hS5 1).trans rfl
        have pl6 := lt_of hS5
        have hiz : (i : Int) < (k : Int) ↔ i < k := Int.ofNat_lt
        by_cases hik : i < k
        · have hiz' : (i : Int) < (k : Int) := by omega
          have hlt : PS.length < k := by omega
          clear hiz
          have hkU : U64 kk := key_u64' hkk.1 hkk.2 hkb2
          have hdI : I64 dd := d24_i64 hdd.1 hdd.2
          have her := Small.err HOK.out HCM.out HB.out (hsm.take k) (by rw [List.length_take]; omega) hkk hdd
          have hsn2 := Small.snoc HCM.out hkk hdd ((PS).take k)
          have HER := Lib.hid her
          have HSN2 := Lib.hid hsn2
          clear her hsn2
          go_wp2_with fail
          refine Calls.mono (KUpdate_c s1 g1 C B L1 _ kk dd _ KK1.out hdI hkU) ?_
          rintro e w6 ⟨rfl, hKn, hMn⟩
          rw [HER.out] at hKn ⊢
          replace hKn : KAt w6 s1 g1 C B L1 (updK C (feedK C (PS.take k)) kk dd) := hKn
          rw [HSN2.out] at hKn
          have hcl : ∀ b, cellsOf B L1 b → b < w11.heap.size := fun b hb => (I1.out.cells hb).2 |> fun h => Nat.lt_of_lt_of_le h (by have := ZZ.out; omega)
          have K6 := Lib.hid (KK2.out.part KK1.out hMn I2.out I1.out (by have := ZZ.out; omega))
          have P6 := KK1.out.blk hMn hP5 (by decide)
          have Q6 := KK1.out.blk hMn hQ5 (by decide)
          have E6 : Ext w w6 := KAt.extm (s := 0) (g := 0) (C := C) (ls := fun _ => []) hE5 hMn I1.out (by have := ZZ.out; omega)
          have R6 := own_keepB HR5.out (w' := w6) (fun b hb => hMn.block b (own_ltB HR5.out hb) (fun h => by have := hcl b h; have := own_blk HR5.out hb; omega))
          have S6 := Nat.le_trans hsz5 hMn.size
          have HR6 := Lib.hid R6
          have KN6 := Lib.hid hKn
          clear hKn hMn R6 hcl p0 p1 pl6
          go_wp2_with fail
          go_roundw
          case rel =>
            refine ⟨i + 1, by omega, by omega, by go_num, E6, S6, P6, Q6, ?_, ?_, ?_⟩
            · rw [HSN.out, take_app1 _ _ hlt]; exact KN6.out
            · rw [HSN.out, drop_app1 _ _ hlt]; exact K6.out
            · rw [HSN.out]; have := HR6.out; first | exact this | (rw [List.length_append, hln]; exact this)
          case measure => simp [intOf]; omega
        · have hiz' : ¬ (i : Int) < (k : Int) := by omega
          have hge : k ≤ PS.length := by omega
          clear hiz
          have hkU : U64 kk := key_u64' hkk.1 hkk.2 hkb2
          have hdI : I64 dd := d24_i64 hdd.1 hdd.2
          have her := Small.err HOK.out HCM.out HB.out (hsm.drop k) (by rw [List.length_drop]; omega) hkk hdd
          have hsn2 := Small.snoc HCM.out hkk hdd ((PS).drop k)
          have HER := Lib.hid her
          have HSN2 := Lib.hid hsn2
          clear her hsn2
          go_wp2_with fail
          refine Calls.mono (KUpdate_c s2 g2 C B L2 _ kk dd _ KK2.out hdI hkU) ?_
          rintro e w6 ⟨rfl, hKn, hMn⟩
          rw [HER.out] at hKn ⊢
          replace hKn : KAt w6 s2 g2 C B L2 (updK C (feedK C (PS.drop k)) kk dd) := hKn
          rw [HSN2.out] at hKn
          have hcl : ∀ b, cellsOf B L2 b → b < w11.heap.size := fun b hb => (I2.out.cells hb).2 |> fun h => Nat.lt_of_lt_of_le h (by have := ZZ.out; omega)
          have K6 := Lib.hid (KK1.out.part KK2.out hMn I1.out I2.out (by have := ZZ.out; omega))
          have P6 := KK2.out.blk hMn hP5 (by decide)
          have Q6 := KK2.out.blk hMn hQ5 (by decide)
          have E6 : Ext w w6 := KAt.extm (s := 0) (g := 0) (C := C) (ls := fun _ => []) hE5 hMn I2.out (by have := ZZ.out; omega)
          have R6 := own_keepB HR5.out (w' := w6) (fun b hb => hMn.block b (own_ltB HR5.out hb) (fun h => by have := hcl b h; have := own_blk HR5.out hb; omega))
          have S6 := Nat.le_trans hsz5 hMn.size
          have HR6 := Lib.hid R6
          have KN6 := Lib.hid hKn
          clear hKn hMn R6 hcl p0 p1 pl6
          go_wp2_with fail
          go_roundw
          case rel =>
            refine ⟨i + 1, by omega, by omega, by go_num, E6, S6, P6, Q6, ?_, ?_, ?_⟩
            · rw [HSN.out, take_app2 _ _ hge]; exact K6.out
            · rw [HSN.out, drop_app2 _ _ hge]; exact KN6.out
            · rw [HSN.out]; have := HR6.out; first | exact this | (rw [List.length_append, hln]; exact this)
          case measure => simp [intOf]; omega
    · have hfe := fus_end us (i := 0) (j := 60) (k := i) (by omega) (by omega) (.inr ⟨hi60, hil⟩) hgo
      rw [hfe] at hrow hK1r hK2r
      have hsm := p24_small HOK.out (fus us 0 60)
      have hPl : (p24 C (fus us 0 60)).length ≤ 60 := by rw [p24_len]; exact fus_len us 0 60
      have hUz := UpsAt.of_row hrow
      generalize p24 C (fus us 0 60) = PP at *
      have HUZ := Lib.hid hUz
      have KK1 := Lib.hid hK1r
      have KK2 := Lib.hid hK2r
      obtain ⟨zp, zc, rfl⟩ := own_sl hrow
      have hgo' : ¬ (i < us.length) ∨ ¬ (i < 60) := by omega
      clear hrow hUz hK1r hK2r hfe hgo
      go_upto_region 11 with (fail)
      go_cut [63] (fun s63 wx => s63 = .bool false ∧ wx = wr)
      case first =>
        by_cases hgl : i < us.length
        · have hg6 : ¬ i < 60 := by omega
          go_wp2_with fail
          go_meet
          exact ⟨by first | rfl | exact congrArg Value.bool (decide_eq_false (by omega)), rfl⟩
        · first
            | (go_wp2_with fail
               go_meet
               exact ⟨rfl, rfl⟩)
      case rest =>
        obtain ⟨rfl, rfl⟩ := hcut
        rename World => wr
        clear hgo' p5 pl
        have lA : (PP.take k).length = min k PP.length := List.length_take
        have lD : (PP.drop k).length = PP.length - k := List.length_drop
        have hAi : ∀ a, a < (PP.take k).length → PP.getD a (0, 0) = (PP.take k).getD a (0, 0) := fun a ha => by
          simp only [List.getD_eq_getElem?_getD, List.getElem?_take_of_lt (show a < k by omega)]
        have hDj : ∀ b, PP.getD (k + b) (0, 0) = (PP.drop k).getD b (0, 0) := fun b => by
          simp only [List.getD_eq_getElem?_getD, List.getElem?_drop]
        have hsA := hsm.take k
        have hsD := hsm.drop k
        have HLAW := Lib.hid (minner_law HOK.out HCM.out HCW.out hsA hsD (by omega) (by omega))
        have HLA := Lib.hid lA
        have HLD := Lib.hid lD
        clear lA lD
        generalize PP.take k = A at *
        generalize PP.drop k = D at *
        have HAI := Lib.hid hAi
        have HDJ := Lib.hid hDj
        have HSA := Lib.hid hsA
        have HSD := Lib.hid hsD
        clear hAi hDj hsA hsD hsm
        go_wp2_with fail
        go_loopw [16, 17] (fun u16 u17 wo => ∃ a : Nat, a ≤ A.length ∧ u17 = .int .i64 a ∧ u16 = .int .i64 (eqS (A.take a) D) ∧ Ext wr wo) (fun _ u17 _ => A.length - (intOf u17).toNat)
        case atStart => exact ⟨0, Nat.zero_le _, rfl, rfl, Ext.refl _⟩
        case round =>
          rename World => wo
          obtain ⟨a, ha, rfl, rfl, hEo⟩ := hrel
          by_cases hga : a < A.length
          · have haP : (a : Int) < (PP.length : Int) := by have := HLA.out; have := HLD.out; omega
            have hak : (a : Int) < (k : Int) := by have := HLA.out; have := HLD.out; omega
            have haPn : a < PP.length := by have := HLA.out; have := HLD.out; omega
            have hga' : decide ((a : Int) < (k : Int)) = true := decide_eq_true hak
            have hpt : eqS (A.take (a + 1)) D = eqS (A.take a) D + oneS (fun x y => x == y) (A.getD a (0, 0)) D := pairS_take' _ A D hga
            have hps := HSA.out.get hga
            have HPT := Lib.hid hpt
            have hb0 := eqS_bd (HSA.out.take a) HSD.out (show (A.take a).length ≤ 60 by rw [List.length_take]; have := HLA.out; have := HLD.out; omega) (by have := HLA.out; have := HLD.out; omega)
            have hpa := HAI.out a hga
            generalize A.getD a (0, 0) = pp at *
            generalize eqS (A.take a) D = sA at *
            clear hpt
            go_wp2_with fail
            go_loopw [16, 18] (fun u16 u18 wi => ∃ b : Nat, b ≤ D.length ∧ u18 = .int .i64 ((k : Int) + b) ∧ u16 = .int .i64 (sA + oneS (fun x y => x == y) pp (D.take b)) ∧ Ext wr wi) (fun _ u18 _ => k + D.length - (intOf u18).toNat)
            case atStart => exact ⟨0, Nat.zero_le _, by simp, by rw [List.take_zero, oneS_nil, Int.add_zero], hEo⟩
            case round =>
              rename World => wi
              obtain ⟨b, hb, rfl, rfl, hEi⟩ := hrel
              by_cases hgb : b < D.length
              · have hkbP : (k : Int) + (b : Int) < (PP.length : Int) := by have := HLA.out; have := HLD.out; omega
                have hkbn : k + b < PP.length := by have := HLA.out; have := HLD.out; omega
                have hot : oneS (fun x y => x == y) pp (D.take (b + 1)) = oneS (fun x y => x == y) pp (D.take b) + bif pp.1 == (D.getD b (0, 0)).1 then pp.2 * (D.getD b (0, 0)).2 else 0 := oneS_take' _ pp D hgb
                have hqs := HSD.out.get hgb
                have ho1 := oneS_nn (fun x y => x == y) pp hps.2.2.1 (D.take b) (fun q hq => (HSD.out.take b q hq).2.2.1)
                have ho2 := oneS_le (fun x y => x == y) pp ⟨hps.2.2.1, hps.2.2.2⟩ (D.take b) (fun q hq => ⟨(HSD.out.take b q hq).2.2.1, (HSD.out.take b q hq).2.2.2⟩)
                have ho3 : ((D.take b).length : Int) ≤ 60 := by rw [List.length_take]; have := HLA.out; have := HLD.out; omega
                have hqb := HDJ.out b
                obtain ⟨ug, off, rfl, hul0, e0', e1', f0', f1'⟩ := (HUZ.out.ext hEi).pair haPn hkbn
                rw [hpa] at e0' e1'
                rw [hqb] at f0' f1'
                generalize D.getD b (0, 0) = qq at *
                have hm1 : 0 ≤ pp.2 * qq.2 := Int.mul_nonneg hps.2.2.1 hqs.2.2.1
                have hm2 : pp.2 * qq.2 ≤ 16777216 * 16777216 := Int.mul_le_mul hps.2.2.2 hqs.2.2.2 hqs.2.2.1 (by decide)
                obtain ⟨pk, pd⟩ := pp
                obtain ⟨qk, qd⟩ := qq
                generalize oneS (fun x y => x == y) (pk, pd) (D.take b) = sB at *
                have HOT := Lib.hid hot
                have hst : ((k : Int) + (b : Int)).toNat = k + b := by omega
                have hk0 : (0 : Int) ≤ (k : Int) + (b : Int) := by omega
                clear hot
                by_cases hkq : pk = qk
                · subst hkq
                  go_wp2_with fail
                  refine wp_region_after (by kernel_rfl) (by kernel_rfl) ?_
                  repeat (go_big_quiet_step ((fail)))
                  refine wpQuiet_nil ?_
                  rintro _ ⟨xx, rfl⟩
                  obtain ⟨w7, hb7⟩ := xx
                  try dsimp only
                  have g0 := ((bcell hb7).1 ug _ hul0).trans e1'
                  have g1 := ((bcell hb7).1 ug _ hul0).trans f1'
                  have gl := Nat.lt_of_lt_of_le hul0 hb7.size
                  go_wp2_with fail
                  refine wp_region_after (by kernel_rfl) (by kernel_rfl) ?_
                  repeat (go_big_quiet_step ((fail)))
                  refine wpQuiet_nil ?_
                  rintro _ ⟨xx, rfl⟩
                  obtain ⟨w8, hb8⟩ := xx
                  try dsimp only
                  go_wp2_with fail
                  go_roundw
                  case rel => exact ⟨b + 1, by omega, by go_num, by rw [HOT.out]; simp only [beq_self_eq_true, cond_true, Int.add_assoc]; try (congr 1; unfold wrap64; omega), hEi.trans' (hb7.trans' hb8)⟩
                  case measure => simp [intOf]; omega
                · have hkq' : (pk == qk) = false := by simpa using hkq
                  go_wp2_with fail
                  refine wp_region_after (by kernel_rfl) (by kernel_rfl) ?_
                  repeat (go_big_quiet_step ((fail)))
                  refine wpQuiet_nil ?_
                  rintro _ ⟨xx, rfl⟩
                  obtain ⟨w7, hb7⟩ := xx
                  try dsimp only
                  go_wp2_with fail
                  go_roundw
                  case rel => exact ⟨b + 1, by omega, by go_num, by rw [HOT.out, hkq', cond_false, Int.add_zero], hEi.trans' hb7⟩
                  case measure => simp [intOf]; omega
              · have hbe : b = D.length := by omega
                subst hbe
                have hkbP : ¬ (k : Int) + (D.length : Int) < (PP.length : Int) := by have := HLA.out; have := HLD.out; omega
                rw [List.take_length]
                go_wp2_with fail
                go_roundw
                case rel => exact ⟨a + 1, by omega, by go_num, by rw [HPT.out], hEi⟩
                case measure => simp [intOf]; omega
          · have hae : a = A.length := by omega
            subst hae
            rw [List.take_length]
            go_upto_region 24 with (fail)
            go_cut [116] (fun s116 wx => s116 = .bool false ∧ wx = wo)
            case first =>
              by_cases hgl : A.length < PP.length
              · have hg5 : (A.length : Int) < (PP.length : Int) := by have := HLA.out; have := HLD.out; omega
                have hg6 : ¬ (A.length : Int) < (k : Int) := by have := HLA.out; have := HLD.out; omega
                go_wp2_with fail
                go_meet
                exact ⟨by first | rfl | exact congrArg Value.bool (decide_eq_false (by have := HLA.out; have := HLD.out; omega)), rfl⟩
              · have hg5 : ¬ (A.length : Int) < (PP.length : Int) := by have := HLA.out; have := HLD.out; omega
                go_wp2_with fail
                go_meet
                exact ⟨by first | rfl | exact congrArg Value.bool (decide_eq_false (by have := HLA.out; have := HLD.out; omega)), rfl⟩
            case rest =>
            obtain ⟨rfl, rfl⟩ := hcut
            rename World => wo
            obtain ⟨z, hz, ⟨hz1, hz2⟩, hz3⟩ := HLAW.out
            have heq := eqS_bd HSA.out HSD.out (by have := HLA.out; have := HLD.out; omega) (by have := HLA.out; have := HLD.out; omega)
            have hin := KInner_c s1 g1 s2 g2 C B L1 L2 _ _ _ (KK1.out.ext hEo) (KK2.out.ext hEo) (hi z) (lo z) 0 (fun M M2 W h1 h2 => by have := LInner_c C 0 M M2 _ _ W h1 h2 HCM.out; rw [hz] at this; exact this)
            have HIN := Lib.hid hin
            have hW : W128 z := by unfold W128; omega
            have HOF := Lib.hid (fun W => LOf_c z hW W)
            have HIT := Lib.hid (fun W => LInt_c z (by omega) (by omega) W)
            have hfN : fitN z = z := fitN_i64 (by unfold I64; omega)
            have hfB : fitB z = true := fitB_i64 (by unfold I64; omega)
            have hEo2 := hEr.trans' hEo
            have hQo := hEo.keep hQr
            clear hin hW
            generalize eqS A D = sA at *
            go_wp2_with fail
            refine Calls.mono HIN.out ?_
            rintro e v2 ⟨rfl, hxn⟩
            have hxm : Ext v2 (v2.alloc (.cells #[.int .i64 (hi z), .int .u64 (lo z)] 95)) := Ext.alloc' _ _
            have hZ : (v2.alloc (.cells #[.int .i64 (hi z), .int .u64 (lo z)] 95)).heap[v2.heap.size]? = some (.cells #[.int .i64 (hi z), .int .u64 (lo z)] 95 (0, 0)) := heap_at _ _ rfl
            go_upto_region 32 with (fail)
            generalize v2.alloc (.cells #[.int .i64 (hi z), .int .u64 (lo z)] 95) = v3 at *
            have hQ3 := (hxn.trans' hxm).keep hQo
            have hE3 := (hEo2.trans' hxn).trans' hxm
            have q0 := (cell_of hZ 0).trans rfl
            have q1 := (cell_of hZ 1).trans rfl
            have ql := lt_of hZ
            clear hxn hxm hQo HIN
            go_wp2_with fail
            refine Calls.mono (HOF.out _) ?_
            rintro e v4 ⟨rfl, hx4⟩
            go_wp2_with fail
            refine Calls.mono (HIT.out _) ?_
            rintro e v5 ⟨rfl, hx5⟩
            rw [hfN, hfB]
            have hQ5 := (hx4.trans' hx5).keep hQ3
            have hE5 := (hE3.trans' hx4).trans' hx5
            have c0 := (cell_of hQ5 0).trans rfl
            have c1 := (cell_of hQ5 1).trans rfl
            have c2 := (cell_of hQ5 2).trans rfl
            have c3 := (cell_of hQ5 3).trans rfl
            have c4 := (cell_of hQ5 4).trans rfl
            have cl := lt_of hQ5
            clear hx4 hx5 q0 q1 ql hfN hfB
            have hge : decide (sA ≤ z) = true := decide_eq_true hz1
            by_cases hze : z = sA
            · have hzb : (z == sA) = true := by simpa using hze
              clear hze
              go_wp2
              go_ret
              exact ⟨by first | rfl | simp, hE5⟩
            · have hxf : isX C 0 = false := by
                cases hx : isX C 0 with
                | true => exact absurd (hz3 hx) hze
                | false => rfl
              have hzb : (z == sA) = false := by simpa using hze
              have HXC := Lib.hid (ExactR_c C HOK.out 0 (Int.le_refl 0) (by have := HOK.out.b1; omega) v5)
              rw [hxf] at HXC
              clear hze hxf
              go_wp2_with fail
              refine Calls.mono HXC.out ?_
              rintro e v6 ⟨rfl, hx6⟩
              go_wp2
              go_ret
              exact ⟨by first | rfl | simp, hE5.trans' hx6⟩
theorem MInnerL_c (x : Cfg) (hx : x.Raw) (part : Int) (hpart : I64 part) (us : List (Int × Int)) (hus : UpsOk us) (v : Value) (w : World) (hv : UpsAt w v us) (hul : us.length ≤ 140737488355328) :
    Calls Tryz.prog 14 #[.agg #[.int .i64 x.bits, .int .i64 x.rows, .int .i64 x.width, .int .i64 x.mode, .int .u64 x.seed, v], .int .i64 part] w fun e w' => e = .returned (.bool true) ∧ Ext w w' := by
  have h1 := Int.emod_nonneg (part % 65536) (show (61 : Int) ≠ 0 by decide)
  have h2 := Int.emod_lt_of_pos (part % 65536) (show (0 : Int) < 61 by decide)
  obtain ⟨k, hk⟩ : ∃ k : Nat, part % 65536 % 61 = k := ⟨(part % 65536 % 61).toNat, by omega⟩
  exact MInner_core x hx part k (by omega) (and16 part) hk ⟨by omega, by omega⟩ us hus v w hv hul
end Go.Proofs.YtdenbmmbeeamcaaGreat

/- MergeInner: where no key has less than 0, the product of two stacks is not less than the sum of the products of what all keys have; where level 0 is exact it is just that. No condition: every input. -/
namespace Go.Proofs.YtdenbmmbeeamcaaGreat
set_option linter.unusedVariables false
open Go.ChangeShapes Go.WideShapes Go.ChangeAt Go.RowKit

set_option maxRecDepth 100000 in
theorem mergeInner_lifted (os : Os) (started : os.Started) (H : Type) (enc : TypeId × Value → H) :
    ReturnsInHanded {} Tryz.checked os 14 .any (Rows.mergeInnerSpec.pre6 enc Tryz.prog Tryz.f14 Rows.mergeInnerRow.domain false) (Rows.mergeInnerSpec.post enc Tryz.prog Tryz.f14 false true false false) := by
  refine returnsInHanded_of_change_sized (C := Tryz.checked) own started (by kernel_rfl) Tryz.func14
    (ChangeSpec.witness6 (enc := enc) (C := Tryz.checked) false ⟨#[], #[.agg #[.int .i64 0, .int .i64 0, .int .i64 0, .int .i64 0, .int .u64 0, .slice none 0 0], .int .i64 0], []⟩ 8 (by kernel_rfl) (by kernel_rfl) (by kernel_rfl) (by kernel_rfl)) ?_
  intro W base args ds gs before hval0 hW hcnd hsz0 _
  have hval : ∀ (j : Nat) t v, Tryz.f14.params[j]? = some t → args[j]? = some v → Value.okWide Tryz.prog W .any base t v := hval0
  have hW' := hW
  obtain ⟨p, q, hA0, hV, rfl, hfz, hnd⟩ := hW
  have hA : DataW.TrodAll enc Tryz.prog W 0 (fun _ => true) true Tryz.f14.params.toList args.toList ds p := hA0
  have hsz : (DataW.weightsEach Tryz.prog (Tryz.f14.params.toList ++ Rows.mergeInnerSpec.plain.varTypes Tryz.prog) (ds ++ gs)).all (· ≤ reachBytes) = true := hsz0
  rw [Tryz.params14] at hA hval hsz
  obtain ⟨v0, vs0, d0, ds0, p0, q0, hargs, rfl, rfl, h0, r0⟩ := trodAll_cons hA
  obtain ⟨v1, vs1, d1, ds1, p1, q1, rfl, rfl, rfl, h1, r1⟩ := trodAll_cons r0
  obtain ⟨rfl, rfl, rfl⟩ := trodAll_nil r1
  obtain rfl : args = #[v0, v1] := by cases args; simp_all
  obtain ⟨rfl, rfl⟩ := trodVars_none hV
  have k0 := h0
  have k1 := h1
  have lt0 : ∀ x ∈ p0, x.block < W.heap.size := by obtain ⟨m, hm⟩ := k0; exact DataW.trod_lt m _ _ _ hm
  have lt1 : ∀ x ∈ p1, x.block < W.heap.size := by obtain ⟨m, hm⟩ := k1; exact DataW.trod_lt m _ _ _ hm
  obtain ⟨x0, us0, u0, hx0, hus0, hat0, rfl, hr0⟩ := play20_of (hval 0 _ v0 rfl rfl) h0
  have hul0 := hr0 _ _ 0 hsz rfl rfl
  obtain ⟨n1, rfl, _, _, wf1⟩ := open_int Tryz.underlying3 (hval 1 _ v1 rfl rfl) h1
  have hn1 := wf_i64 wf1
  clear hA0 hval0
  refine (MInnerL_c x0 hx0 n1 hn1 us0 hus0 u0 W hat0 hul0).mono fun e W' ⟨he, bel⟩ => ?_
  subst he
  exact ⟨_, rfl, _, _, _, [], _, [], hW', trodAll_mk1 (shut_bool Tryz.underlying4 _), (trodAll_cons_mk (Below.trod laidOut (by kernel_rfl) (of_decide_eq_true (by kernel_rfl)) k0 bel lt0) (trodAll_cons_mk (Below.trod laidOut (by kernel_rfl) (of_decide_eq_true (by kernel_rfl)) k1 bel lt1) trodAll_mk0)), rfl, bel.frame _, fun h => by cases h⟩
end Go.Proofs.YtdenbmmbeeamcaaGreat
