/- Plain laws on sums over updates: what a key has, what others have in its columns. -/
import Derived.Test.YthancaehlijaoaaFedLaw
namespace Go.Proofs.Ythancaehlijaoaa
set_option linter.unusedVariables false

/-- The sum of what keys have that meet p. -/
def sumIf (p : Int → Bool) (ps : List (Int × Int)) : Int := lsum (ps.map fun u => bif p u.1 then u.2 else 0)
theorem sumIf_nil (p : Int → Bool) : sumIf p [] = 0 := rfl
theorem sumIf_cons (p : Int → Bool) (u : Int × Int) (ps : List (Int × Int)) : sumIf p (u :: ps) = (bif p u.1 then u.2 else 0) + sumIf p ps := by
  unfold sumIf; rw [List.map_cons, lsum_cons]
theorem sumIf_snoc (p : Int → Bool) (u : Int × Int) (ps : List (Int × Int)) : sumIf p (ps ++ [u]) = sumIf p ps + (bif p u.1 then u.2 else 0) := by
  unfold sumIf; rw [List.map_append, lsum_append, List.map_cons, List.map_nil, lsum_cons, lsum_nil]; omega
theorem sumIf_split (p q : Int → Bool) (ps : List (Int × Int)) : sumIf p ps = sumIf (fun k => p k && q k) ps + sumIf (fun k => p k && !q k) ps := by
  induction ps with
  | nil => rfl
  | cons u ps ih =>
    simp only [sumIf_cons]
    rw [ih]
    cases p u.1 <;> cases q u.1 <;> simp <;> omega
theorem sumIf_congr {p q : Int → Bool} {ps : List (Int × Int)} (h : ∀ u ∈ ps, p u.1 = q u.1) : sumIf p ps = sumIf q ps := by
  induction ps with
  | nil => rfl
  | cons u ps ih =>
    rw [sumIf_cons, sumIf_cons, h u (by simp), ih (fun v hv => h v (by simp [hv]))]
theorem sumIf_filter (p q : Int → Bool) (ps : List (Int × Int)) : sumIf p (ps.filter fun u => q u.1) = sumIf (fun k => p k && q k) ps := by
  induction ps with
  | nil => rfl
  | cons u ps ih =>
    rw [List.filter_cons]
    cases h : q u.1
    · simp only [Bool.false_eq_true, if_false]
      rw [sumIf_cons, ih, h, Bool.and_false]; simp
    · simp only [if_true]
      rw [sumIf_cons, sumIf_cons, ih, h, Bool.and_true]
def notK (v k : Int) : Bool := !(k == v)
theorem sumIf_nn (p : Int → Bool) : ∀ (n : Nat) (ps : List (Int × Int)), ps.length ≤ n → (∀ u ∈ ps, 0 ≤ sumIf (fun k => k == u.1) ps) → 0 ≤ sumIf p ps := by
  intro n
  induction n with
  | zero =>
    intro ps hl _
    obtain rfl : ps = [] := List.length_eq_zero_iff.1 (by omega)
    exact Int.le_refl _
  | succ n ih =>
    intro ps hl h
    cases ps with
    | nil => exact Int.le_refl _
    | cons v ps =>
      have hv := h v (by simp)
      have hlen : ((v :: ps).filter fun u => notK v.1 u.1).length ≤ n := by
        rw [List.filter_cons]
        have e0 : notK v.1 v.1 = false := by simp [notK]
        simp only [e0, Bool.false_eq_true, if_false]
        have := List.length_filter_le (fun u : Int × Int => notK v.1 u.1) ps
        simp only [List.length_cons] at hl
        omega
      have hrest := ih _ hlen (fun u hu => by
        rw [List.mem_filter] at hu
        rw [sumIf_filter (fun k => k == u.1) (notK v.1)]
        have e : sumIf (fun k => k == u.1 && notK v.1 k) (v :: ps) = sumIf (fun k => k == u.1) (v :: ps) := by
          apply sumIf_congr
          intro x _
          cases hx : (x.1 == u.1) with
          | false => rfl
          | true =>
            have : x.1 = u.1 := by simpa using hx
            rw [this, hu.2]; rfl
        rw [e]; exact h u hu.1)
      rw [sumIf_filter p (notK v.1)] at hrest
      rw [sumIf_split p (fun k => k == v.1)]
      replace hrest : 0 ≤ sumIf (fun k => p k && !(k == v.1)) (v :: ps) := hrest
      have e : sumIf (fun k => p k && (k == v.1)) (v :: ps) = bif p v.1 then sumIf (fun k => k == v.1) (v :: ps) else 0 := by
        cases hp : p v.1 with
        | true =>
          show _ = sumIf (fun k => k == v.1) (v :: ps)
          apply sumIf_congr
          intro x _
          cases hx : (x.1 == v.1) with
          | false => simp
          | true =>
            have : x.1 = v.1 := by simpa using hx
            rw [this, hp]; rfl
        | false =>
          show _ = (0 : Int)
          have : sumIf (fun k => p k && (k == v.1)) (v :: ps) = sumIf (fun _ => false) (v :: ps) := by
            apply sumIf_congr
            intro x _
            cases hx : (x.1 == v.1) with
            | false => simp
            | true =>
              have : x.1 = v.1 := by simpa using hx
              rw [this, hp]; rfl
          rw [this]
          clear this hrest hv h hlen hl ih
          induction (v :: ps) with
          | nil => rfl
          | cons a l ih => rw [sumIf_cons, ih]; rfl
      rw [e]
      cases p v.1 <;> simp <;> omega

/-- The updates as they are made. -/
def cutP (C : Cfg) (lv : Int) (us : List (Int × Int)) : List (Int × Int) := us.map fun u => (cutK C lv u.1, cutD C.mode u.2)
theorem cutP_len (C : Cfg) (lv : Int) (us : List (Int × Int)) : (cutP C lv us).length = us.length := by simp [cutP]
theorem cutP_snoc (C : Cfg) (lv : Int) (us : List (Int × Int)) (u : Int × Int) : cutP C lv (us ++ [u]) = cutP C lv us ++ [(cutK C lv u.1, cutD C.mode u.2)] := by simp [cutP]
def hasP (key : Int) (ps : List (Int × Int)) : Int := sumIf (fun k => k == key) ps
def sameCol (C : Cfg) (lv key : Int) (r : Nat) (k : Int) : Bool := (cols C lv k).getD r 0 == (cols C lv key).getD r 0
def othP (C : Cfg) (lv key : Int) (r : Nat) (ps : List (Int × Int)) : Int := sumIf (fun k => !(k == key) && sameCol C lv key r k) ps
theorem oth_nn {C : Cfg} {lv key : Int} {r : Nat} {ps : List (Int × Int)} (h : ∀ u ∈ ps, 0 ≤ hasP u.1 ps) : 0 ≤ othP C lv key r ps := sumIf_nn _ _ ps (Nat.le_refl _) h
theorem sumIf_bnd (p : Int → Bool) (B : Int) (_hB : 0 ≤ B) (ps : List (Int × Int)) (h : ∀ u ∈ ps, -B ≤ u.2 ∧ u.2 ≤ B) : -(ps.length * B) ≤ sumIf p ps ∧ sumIf p ps ≤ ps.length * B := by
  induction ps with
  | nil => simp [sumIf_nil]
  | cons u ps ih =>
    have h1 := h u (by simp)
    have h2 := ih (fun v hv => h v (by simp [hv]))
    rw [sumIf_cons, List.length_cons]
    push_cast
    rw [Int.add_mul]
    cases p u.1 <;> simp <;> omega
theorem cutP_bnd (C : Cfg) (lv : Int) (us : List (Int × Int)) : ∀ u ∈ cutP C lv us, -1099511627776 ≤ u.2 ∧ u.2 ≤ 1099511627776 := by
  intro u hu
  simp only [cutP, List.mem_map] at hu
  obtain ⟨v, _, rfl⟩ := hu
  have := cutD_bd C.mode v.2
  simp only; omega

theorem at_ne {W r j : Nat} {a c : Nat} (ha : a < W) (hc : c < W) (h : r ≠ j ∨ a ≠ c) : r * W + a ≠ j * W + c := by
  intro he
  have hW : 0 < W := by omega
  have h1 : (r * W + a) / W = (j * W + c) / W := by rw [he]
  rw [Nat.add_comm, Nat.mul_comm r, Nat.add_mul_div_left _ _ hW, Nat.div_eq_of_lt ha, Nat.add_comm (j * W), Nat.mul_comm j, Nat.add_mul_div_left _ _ hW, Nat.div_eq_of_lt hc] at h1
  have h2 : r = j := by omega
  subst h2
  omega
theorem putK_get {R W : Nat} {cs : List Int} (hm : Meets R W cs) {f : Nat → Int} {l : List Int} (hl : l.length = R * W) {r a : Nat} (hr : r < R) (ha : a < W) :
    ∀ k, k ≤ R → (putK W cs f k l).getD (r * W + a) 0 = if r < k ∧ cs.getD r 0 = (a : Int) then f r else l.getD (r * W + a) 0 := by
  intro k
  induction k with
  | zero => intro _; rw [putK, if_neg (by omega)]
  | succ k ih =>
    intro hk
    have h0 := hm.lo k (by omega)
    have h1 := hm.hi k (by omega)
    rw [putK]
    by_cases he : k = r ∧ cs.getD k 0 = (a : Int)
    · obtain ⟨rfl, he⟩ := he
      rw [if_pos ⟨by omega, he⟩]
      have hat : at_ W cs k = k * W + a := by unfold at_; omega
      rw [hat]
      have hlen : k * W + a < (putK W cs f k l).length := by
        rw [putK_len, hl]
        calc k * W + a < k * W + W := by omega
          _ = (k + 1) * W := by rw [Nat.add_mul, Nat.one_mul]
          _ ≤ R * W := Nat.mul_le_mul_right W hr
      simp [hlen]
    · have hne : at_ W cs k ≠ r * W + a := by
        unfold at_
        refine at_ne (by omega) ha ?_
        by_cases hkr : k = r
        · right
          intro h
          exact he ⟨hkr, by omega⟩
        · exact .inl hkr
      have e : ((putK W cs f k l).set (at_ W cs k) (f k)).getD (r * W + a) 0 = (putK W cs f k l).getD (r * W + a) 0 := by
        simp [List.getElem?_set_ne hne]
      rw [e, ih (by omega)]
      by_cases hc : r < k ∧ cs.getD r 0 = (a : Int)
      · rw [if_pos hc, if_pos ⟨by omega, hc.2⟩]
      · rw [if_neg hc, if_neg]
        intro h
        by_cases hkr : k = r
        · subst hkr; exact he ⟨rfl, h.2⟩
        · exact hc ⟨by omega, h.2⟩
theorem snoc_ind {α : Type} {P : List α → Prop} (h0 : P []) (h1 : ∀ l x, P l → P (l ++ [x])) (l : List α) : P l := by
  have key : ∀ n (l : List α), l.length = n → P l := by
    intro n
    induction n with
    | zero => intro l hl; rw [List.length_eq_zero_iff.1 hl]; exact h0
    | succ n ih =>
      intro l hl
      have hne : l ≠ [] := by intro h; rw [h] at hl; cases hl
      rw [← List.dropLast_concat_getLast hne]
      exact h1 _ _ (ih _ (by rw [List.length_dropLast]; omega))
  exact key _ l rfl
theorem feed_len (C : Cfg) (lv : Int) (R W : Nat) (us : List (Int × Int)) (l : List Int) : (feed C lv R W us l).length = l.length := by
  unfold feed
  induction us generalizing l with
  | nil => rfl
  | cons u us ih =>
    rw [List.foldl_cons, ih]
    unfold updL
    cases decide (C.mode = 2) <;> exact putK_len _ _ _ _ _
/-- Each cell is the sum of what the keys have whose column it is. -/
theorem feed_cell (C : Cfg) (hok : C.Ok) (lv : Int) (R W : Nat) (hr : C.rows = R) (hw : C.width = W) (hm : C.mode ≠ 2) (us : List (Int × Int)) {r a : Nat} (hrr : r < R) (ha : a < W) :
    (feed C lv R W us (zs (R * W))).getD (r * W + a) 0 = sumIf (fun k => (cols C lv k).getD r 0 == (a : Int)) (cutP C lv us) := by
  refine snoc_ind (P := fun us => (feed C lv R W us (zs (R * W))).getD (r * W + a) 0 = sumIf (fun k => (cols C lv k).getD r 0 == (a : Int)) (cutP C lv us)) ?_ ?_ us
  ·
    show (zs (R * W)).getD _ 0 = 0
    unfold zs
    rw [List.getD_eq_getElem?_getD]
    rcases Nat.lt_or_ge (r * W + a) (R * W) with h | h
    · simp [h]
    · simp [h]
  · intro us u ih
    rw [feed_snoc, cutP_snoc, sumIf_snoc]
    unfold updL
    rw [decide_eq_false hm]
    have hme := cols_meets C hok lv (cutK C lv u.1) hr hw
    show (putK W _ _ R _).getD _ 0 = _
    rw [putK_get hme (by rw [feed_len, zs_len]) hrr ha R (Nat.le_refl _), ih]
    by_cases he : (cols C lv (cutK C lv u.1)).getD r 0 = (a : Int)
    · rw [if_pos ⟨hrr, he⟩]
      have hat : at_ W (cols C lv (cutK C lv u.1)) r = r * W + a := by unfold at_; omega
      rw [hat]
      show _ + _ = _
      rw [ih]
      have hb : ((cols C lv (cutK C lv u.1)).getD r 0 == (a : Int)) = true := by simpa using he
      simp only [hb]; rfl
    · rw [if_neg (fun h => he h.2)]
      have : ((cols C lv (cutK C lv u.1)).getD r 0 == (a : Int)) = false := by simpa using he
      simp only [this]; simp
/-- What is read in a key's columns: what it has, and what others have there. -/
theorem read_cell (C : Cfg) (hok : C.Ok) (lv : Int) (R W : Nat) (hr : C.rows = R) (hw : C.width = W) (hm : C.mode ≠ 2) (us : List (Int × Int)) (key : Int) :
    readL W (feed C lv R W us (zs (R * W))) (cols C lv key) = (List.range R).map fun r => hasP key (cutP C lv us) + othP C lv key r (cutP C lv us) := by
  have hme := cols_meets C hok lv key hr hw
  unfold readL
  rw [hme.len]
  apply List.map_congr_left
  intro r hrr
  rw [List.mem_range] at hrr
  have h0 := hme.lo r hrr
  have h1 := hme.hi r hrr
  have hat : at_ W (cols C lv key) r = r * W + ((cols C lv key).getD r 0).toNat := rfl
  rw [hat, feed_cell C hok lv R W hr hw hm us hrr (by omega)]
  have e : (((cols C lv key).getD r 0).toNat : Int) = (cols C lv key).getD r 0 := Int.toNat_of_nonneg h0
  rw [e]
  rw [sumIf_split _ (fun k => k == key)]
  unfold hasP othP
  congr 1
  · apply sumIf_congr
    intro x _
    cases hx : (x.1 == key) with
    | false => simp
    | true =>
      have : x.1 = key := by simpa using hx
      rw [this]; simp
  · apply sumIf_congr
    intro x _
    unfold sameCol
    exact Bool.and_comm _ _
/-- The least of numbers. -/
def leastF (f : Nat → Int) (k : Nat) : Int := (List.range k).foldl (fun m r => min m (f r)) (f 0)
theorem leastF_succ (f : Nat → Int) (k : Nat) : leastF f (k + 1) = min (leastF f k) (f k) := by
  unfold leastF; rw [List.range_succ, List.foldl_append]; rfl
theorem leastF_le (f : Nat → Int) (k : Nat) : leastF f k ≤ f 0 ∧ ∀ r, r < k → leastF f k ≤ f r := by
  induction k with
  | zero => exact ⟨Int.le_refl _, fun r h => by omega⟩
  | succ k ih =>
    rw [leastF_succ]
    refine ⟨by omega, fun r h => ?_⟩
    by_cases e : r = k
    · subst e; omega
    · have := ih.2 r (by omega); omega
theorem leastF_mem (f : Nat → Int) (k : Nat) (h : 0 < k) : ∃ r, r < k ∧ leastF f k = f r := by
  induction k with
  | zero => omega
  | succ k ih =>
    rw [leastF_succ]
    by_cases hk : 0 < k
    · obtain ⟨r, h1, h2⟩ := ih hk
      rcases Int.le_total (leastF f k) (f k) with h3 | h3
      · exact ⟨r, by omega, by omega⟩
      · exact ⟨k, by omega, by omega⟩
    · have : k = 0 := by omega
      subst this
      refine ⟨0, by omega, ?_⟩
      show min (f 0) (f 0) = f 0
      omega
end Go.Proofs.Ythancaehlijaoaa
