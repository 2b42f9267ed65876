/- Plain laws: conservative cells lie between what a key has and the sums. -/
import Derived.Test.YthancaehlijaoaaJoinLaw
import Derived.Test.YthancaehlijaoaaPointLaw
import Derived.Test.YthancaehlijaoaaJoin
import Derived.Test.YthancaehlijaoaaFed
namespace Go.Proofs.Ythancaehlijaoaa
set_option linter.unusedVariables false

/-- The same config in the mode Linear. -/
def lin (C : Cfg) : Cfg := { C with mode := 1 }
theorem cons_cell {C : Cfg} {lv : Int} {R W : Nat} (hok : C.Ok) (hr : C.rows = R) (hw : C.width = W) (hm : C.mode = 2) {l : List Int} (hl : l.length = R * W) (key d : Int) {r a : Nat} (hrr : r < R) (ha : a < W) :
    (updL C lv R W l key d).getD (r * W + a) 0 = if (cols C lv key).getD r 0 = (a : Int) then max (l.getD (r * W + a) 0) (minL (readL W l (cols C lv key)) + d) else l.getD (r * W + a) 0 := by
  have hme := cols_meets C hok lv key hr hw
  unfold updL
  rw [decide_eq_true hm]
  show (putK W _ _ R _).getD _ 0 = _
  rw [putK_get hme hl hrr ha R (Nat.le_refl _)]
  by_cases he : (cols C lv key).getD r 0 = (a : Int)
  · rw [if_pos ⟨hrr, he⟩, if_pos he]
    have hat : at_ W (cols C lv key) r = r * W + a := by unfold at_; omega
    rw [hat]
  · rw [if_neg (fun h => he h.2), if_neg he]
theorem updL_len' (C : Cfg) (lv : Int) (R W : Nat) (l : List Int) (key d : Int) : (updL C lv R W l key d).length = l.length := by
  unfold updL
  cases decide (C.mode = 2) <;> exact putK_len _ _ _ _ _
theorem min_read {C : Cfg} {lv : Int} {R W : Nat} (hok : C.Ok) (hr : C.rows = R) (hw : C.width = W) (l : List Int) (key : Int) :
    (∃ r, r < R ∧ minL (readL W l (cols C lv key)) = l.getD (at_ W (cols C lv key) r) 0) ∧ ∀ r, r < R → minL (readL W l (cols C lv key)) ≤ l.getD (at_ W (cols C lv key) r) 0 := by
  have hme := cols_meets C hok lv key hr hw
  have hR : 0 < R := by have := hok.r1; omega
  have hlen : (readL W l (cols C lv key)).length = R := by rw [readL_len, hme.len]
  have hs := minL_spec (readL W l (cols C lv key)) (by intro e; rw [e] at hlen; simp at hlen; omega)
  constructor
  · have := hs.1
    simp only [readL, List.mem_map, List.mem_range] at this
    obtain ⟨j, hj, he⟩ := this
    rw [hme.len] at hj
    exact ⟨j, hj, he.symm⟩
  · intro r hrr
    refine hs.2 _ ?_
    simp only [readL, List.mem_map, List.mem_range]
    exact ⟨r, by rw [hme.len]; exact hrr, rfl⟩
theorem at_col {C : Cfg} {lv : Int} {R W : Nat} (hok : C.Ok) (hr : C.rows = R) (hw : C.width = W) (key : Int) {r : Nat} (hrr : r < R) :
    ∃ a, a < W ∧ at_ W (cols C lv key) r = r * W + a ∧ (cols C lv key).getD r 0 = (a : Int) := by
  have hme := cols_meets C hok lv key hr hw
  have h0 := hme.lo r hrr
  have h1 := hme.hi r hrr
  exact ⟨((cols C lv key).getD r 0).toNat, by omega, rfl, by omega⟩
theorem feed_len' (C : Cfg) (lv : Int) (R W : Nat) (us : List (Int × Int)) : (feed C lv R W us (zs (R * W))).length = R * W := by rw [feed_len, zs_len]
theorem zs_get0 (n i : Nat) : (zs n).getD i 0 = 0 := by
  unfold zs
  rw [List.getD_eq_getElem?_getD]
  rcases Nat.lt_or_ge i n with h | h
  · simp [h]
  · simp [h]
/-- Each cell of a key's columns holds not less than what it has. -/
theorem cons_low (C : Cfg) (hok : C.Ok) (lv : Int) (R W : Nat) (hr : C.rows = R) (hw : C.width = W) (hm : C.mode = 2) (us : List (Int × Int)) (key : Int) :
    ∀ r, r < R → hasP key (cutP C lv us) ≤ (feed C lv R W us (zs (R * W))).getD (at_ W (cols C lv key) r) 0 := by
  refine snoc_ind (P := fun us => ∀ r, r < R → hasP key (cutP C lv us) ≤ (feed C lv R W us (zs (R * W))).getD (at_ W (cols C lv key) r) 0) ?_ ?_ us
  · intro r hrr
    show (0 : Int) ≤ (zs (R * W)).getD _ 0
    rw [zs_get0]; exact Int.le_refl _
  · intro us u ih r hrr
    obtain ⟨a, ha, hat, hc⟩ := at_col (lv := lv) hok hr hw key hrr
    have ih' := ih r hrr
    rw [feed_snoc, cutP_snoc, hat]
    rw [hat] at ih'
    unfold hasP at ih' ⊢
    rw [sumIf_snoc]
    rw [cons_cell hok hr hw hm (feed_len' C lv R W us) _ _ hrr ha]
    obtain ⟨⟨j, hj, hj'⟩, _⟩ := min_read (lv := lv) hok hr hw (feed C lv R W us (zs (R * W))) (cutK C lv u.1)
    by_cases hk : cutK C lv u.1 = key
    · have ihj := ih j hj
      unfold hasP at ihj
      rw [hk] at hj' ⊢
      rw [if_pos hc, hj']
      simp only [BEq.rfl, cond_true]
      omega
    · have hb : (cutK C lv u.1 == key) = false := by simpa using hk
      simp only [hb, cond_false]
      by_cases he : (cols C lv (cutK C lv u.1)).getD r 0 = (a : Int)
      · rw [if_pos he]; omega
      · rw [if_neg he]; omega
/-- No cell holds more than the sum. -/
theorem cons_high (C : Cfg) (hok : C.Ok) (lv : Int) (R W : Nat) (hr : C.rows = R) (hw : C.width = W) (hm : C.mode = 2) (us : List (Int × Int)) :
    ∀ r a, r < R → a < W → (feed C lv R W us (zs (R * W))).getD (r * W + a) 0 ≤ sumIf (fun k => (cols C lv k).getD r 0 == (a : Int)) (cutP C lv us) := by
  refine snoc_ind (P := fun us => ∀ r a, r < R → a < W → (feed C lv R W us (zs (R * W))).getD (r * W + a) 0 ≤ sumIf (fun k => (cols C lv k).getD r 0 == (a : Int)) (cutP C lv us)) ?_ ?_ us
  · intro r a hrr ha
    show (zs (R * W)).getD _ 0 ≤ (0 : Int)
    rw [zs_get0]; exact Int.le_refl _
  · intro us u ih r a hrr ha
    have ih' := ih r a hrr ha
    rw [feed_snoc, cutP_snoc, sumIf_snoc, cons_cell hok hr hw hm (feed_len' C lv R W us) _ _ hrr ha]
    have hd := cutD_nn (d := u.2) hm
    by_cases he : (cols C lv (cutK C lv u.1)).getD r 0 = (a : Int)
    · have hb : ((cols C lv (cutK C lv u.1)).getD r 0 == (a : Int)) = true := by simpa using he
      have hmn := (min_read (lv := lv) hok hr hw (feed C lv R W us (zs (R * W))) (cutK C lv u.1)).2 r hrr
      have hat : at_ W (cols C lv (cutK C lv u.1)) r = r * W + a := by unfold at_; omega
      rw [hat] at hmn
      rw [if_pos he]
      simp only [hb, cond_true]
      omega
    · have hb : ((cols C lv (cutK C lv u.1)).getD r 0 == (a : Int)) = false := by simpa using he
      rw [if_neg he]
      simp only [hb, cond_false]
      omega
theorem cols_lin (C : Cfg) (lv key : Int) : cols (lin C) lv key = cols C lv key := rfl
theorem keys_lin (C : Cfg) (lv : Int) : keys (lin C) lv = keys C lv := rfl
theorem lin_ok {C : Cfg} (h : C.Ok) : (lin C).Ok := by
  obtain ⟨a1, a2, a3, a4, a5, a6, a7, a8, a9⟩ := h
  exact ⟨a1, a2, a3, a4, a5, a6, show (1:Int) ≤ 1 by decide, show (1:Int) ≤ 3 by decide, a9⟩
theorem fcfg_lin (x : Cfg) : fcfg x 1 = lin (fcfg x 2) := rfl
/-- Cut once more, cut updates are as they are. -/
theorem cutP_lin (C : Cfg) (hok : C.Ok) (lv : Int) (h0 : 0 ≤ lv) (us : List (Int × Int)) : cutP (lin C) lv (cutP C lv us) = cutP C lv us := by
  unfold cutP
  rw [List.map_map]
  apply List.map_congr_left
  intro u _
  have hk := cutK_bd C hok lv u.1 h0
  have hd := cutD_bd C.mode u.2
  show (cutK (lin C) lv (cutK C lv u.1), cutD 1 (cutD C.mode u.2)) = _
  have e1 : cutK (lin C) lv (cutK C lv u.1) = cutK C lv u.1 := Int.emod_eq_of_lt hk.1 hk.2
  have e2 : cutD 1 (cutD C.mode u.2) = cutD C.mode u.2 := by
    generalize cutD C.mode u.2 = d at *
    show d.tmod 1099511627776 = d
    rcases Int.le_total 0 d with h | h
    · exact Int.tmod_eq_of_lt h (by omega)
    · have := Int.neg_tmod (-d) 1099511627776
      rw [Int.neg_neg] at this
      rw [this, Int.tmod_eq_of_lt (by omega) (by omega), Int.neg_neg]
  rw [e1, e2]
theorem fus_full (ps : List (Int × Int)) (h : ps.length ≤ 60) : fus ps 0 60 = ps := by
  unfold fus
  rw [List.drop_zero, List.take_of_length_le h]
theorem bounds_law {C : Cfg} (hok : C.Ok) {lv : Int} (h0 : 0 ≤ lv) {R W : Nat} (hr : C.rows = R) (hw : C.width = W) (hm : C.mode = 2) (us : List (Int × Int)) {k : Nat} (hk : k ≤ 60) (key a b : Int)
    (ha : IsKth (readL W (plusL (feed C lv R W (fus us 0 k) (zs (R * W))) (feed C lv R W (fus us k 60) (zs (R * W)))) (cols C lv key)) 0 a)
    (hb : IsKth (readL W (feed (lin C) lv R W (fus (cutP C lv (fus us 0 60)) 0 60) (zs (R * W))) (cols (lin C) lv key)) 0 b) :
    hasP key (cutP C lv (fus us 0 60)) ≤ a ∧ a ≤ b := by
  have hme := cols_meets C hok lv key hr hw
  rw [fus_full _ (by rw [cutP_len]; exact fus_len us 0 60), cols_lin] at hb
  obtain ⟨a1, a2⟩ := kth0_spec ha
  obtain ⟨b1, _⟩ := kth0_spec hb
  have hpl : ∀ r, r < R → ∃ q, q < W ∧ at_ W (cols C lv key) r = r * W + q ∧ (plusL (feed C lv R W (fus us 0 k) (zs (R * W))) (feed C lv R W (fus us k 60) (zs (R * W)))).getD (r * W + q) 0 = (feed C lv R W (fus us 0 k) (zs (R * W))).getD (r * W + q) 0 + (feed C lv R W (fus us k 60) (zs (R * W))).getD (r * W + q) 0 := by
    intro r hrr
    obtain ⟨q, hq, hat, _⟩ := at_col (lv := lv) hok hr hw key hrr
    exact ⟨q, hq, hat, plusL_get (by rw [feed_len']; exact idx_lt hrr hq)⟩
  simp only [readL, List.mem_map, List.mem_range, hme.len] at a1 a2 b1
  constructor
  · obtain ⟨r, hrr, rfl⟩ := a1
    obtain ⟨q, hq, hat, hp⟩ := hpl r hrr
    have l1 := cons_low C hok lv R W hr hw hm (fus us 0 k) key r hrr
    have l2 := cons_low C hok lv R W hr hw hm (fus us k 60) key r hrr
    rw [hat] at l1 l2 ⊢
    rw [hp, ← fus_cat us hk, cutP_append]
    unfold hasP at *
    rw [sumIf_append]
    omega
  · obtain ⟨r, hrr, rfl⟩ := b1
    obtain ⟨q, hq, hat, hp⟩ := hpl r hrr
    have hle := a2 _ ⟨r, hrr, rfl⟩
    have u1 := cons_high C hok lv R W hr hw hm (fus us 0 k) r q hrr hq
    have u2 := cons_high C hok lv R W hr hw hm (fus us k 60) r q hrr hq
    have fc := feed_cell (lin C) (lin_ok hok) lv R W hr hw (show (1:Int) ≠ 2 by decide) (cutP C lv (fus us 0 60)) hrr hq
    rw [cutP_lin C hok lv h0, ← fus_cat us hk, cutP_append, sumIf_append] at fc
    rw [hat] at hle ⊢
    rw [hp] at hle
    rw [← fus_cat us hk, cutP_append, fc]
    have e : ∀ r, (fun k => (cols (lin C) lv k).getD r 0 == (q : Int)) = (fun k => (cols C lv k).getD r 0 == (q : Int)) := fun _ => rfl
    rw [e]
    omega
end Go.Proofs.Ythancaehlijaoaa
