/- Plain laws on sums over updates: what a key has, what others have in its columns. -/
import Derived.Test.YtpnbgoahjoabkaaAQuantBounds3

/- Plain laws on sums over updates: what a key has, what others have in its columns. -/
namespace Go.Proofs.Ytpnbgoahjoabkaa
set_option linter.unusedVariables false

/-- The sum of what keys have that meet p. -/
def sumIf (p : Int → Bool) (ps : List (Int × Int)) : Int := lsum (ps.map fun u => bif p u.1 then u.2 else 0)
theorem sumIf_nil (p : Int → Bool) : sumIf p [] = 0 := rfl
theorem sumIf_cons (p : Int → Bool) (u : Int × Int) (ps : List (Int × Int)) : sumIf p (u :: ps) = (bif p u.1 then u.2 else 0) + sumIf p ps := by
  unfold sumIf; rw [List.map_cons, lsum_cons]
theorem sumIf_snoc (p : Int → Bool) (u : Int × Int) (ps : List (Int × Int)) : sumIf p (ps ++ [u]) = sumIf p ps + (bif p u.1 then u.2 else 0) := by
  unfold sumIf; rw [List.map_append, lsum_append, List.map_cons, List.map_nil, lsum_cons, lsum_nil]; omega
theorem sumIf_split (p q : Int → Bool) (ps : List (Int × Int)) : sumIf p ps = sumIf (fun k => p k && q k) ps + sumIf (fun k => p k && !q k) ps := by
  induction ps with
  | nil => rfl
  | cons u ps ih =>
    simp only [sumIf_cons]
    rw [ih]
    cases p u.1 <;> cases q u.1 <;> simp <;> omega
theorem sumIf_congr {p q : Int → Bool} {ps : List (Int × Int)} (h : ∀ u ∈ ps, p u.1 = q u.1) : sumIf p ps = sumIf q ps := by
  induction ps with
  | nil => rfl
  | cons u ps ih =>
    rw [sumIf_cons, sumIf_cons, h u (by simp), ih (fun v hv => h v (by simp [hv]))]
theorem sumIf_filter (p q : Int → Bool) (ps : List (Int × Int)) : sumIf p (ps.filter fun u => q u.1) = sumIf (fun k => p k && q k) ps := by
  induction ps with
  | nil => rfl
  | cons u ps ih =>
    rw [List.filter_cons]
    cases h : q u.1
    · simp only [Bool.false_eq_true, if_false]
      rw [sumIf_cons, ih, h, Bool.and_false]; simp
    · simp only [if_true]
      rw [sumIf_cons, sumIf_cons, ih, h, Bool.and_true]
def notK (v k : Int) : Bool := !(k == v)
theorem sumIf_nn (p : Int → Bool) : ∀ (n : Nat) (ps : List (Int × Int)), ps.length ≤ n → (∀ u ∈ ps, 0 ≤ sumIf (fun k => k == u.1) ps) → 0 ≤ sumIf p ps := by
  intro n
  induction n with
  | zero =>
    intro ps hl _
    obtain rfl : ps = [] := List.length_eq_zero_iff.1 (by omega)
    exact Int.le_refl _
  | succ n ih =>
    intro ps hl h
    cases ps with
    | nil => exact Int.le_refl _
    | cons v ps =>
      have hv := h v (by simp)
      have hlen : ((v :: ps).filter fun u => notK v.1 u.1).length ≤ n := by
        rw [List.filter_cons]
        have e0 : notK v.1 v.1 = false := by simp [notK]
        simp only [e0, Bool.false_eq_true, if_false]
        have := List.length_filter_le (fun u : Int × Int => notK v.1 u.1) ps
        simp only [List.length_cons] at hl
        omega
      have hrest := ih _ hlen (fun u hu => by
        rw [List.mem_filter] at hu
        rw [sumIf_filter (fun k => k == u.1) (notK v.1)]
        have e : sumIf (fun k => k == u.1 && notK v.1 k) (v :: ps) = sumIf (fun k => k == u.1) (v :: ps) := by
          apply sumIf_congr
          intro x _
          cases hx : (x.1 == u.1) with
          | false => rfl
          | true =>
            have : x.1 = u.1 := by simpa using hx
            rw [this, hu.2]; rfl
        rw [e]; exact h u hu.1)
      rw [sumIf_filter p (notK v.1)] at hrest
      rw [sumIf_split p (fun k => k == v.1)]
      replace hrest : 0 ≤ sumIf (fun k => p k && !(k == v.1)) (v :: ps) := hrest
      have e : sumIf (fun k => p k && (k == v.1)) (v :: ps) = bif p v.1 then sumIf (fun k => k == v.1) (v :: ps) else 0 := by
        cases hp : p v.1 with
        | true =>
          show _ = sumIf (fun k => k == v.1) (v :: ps)
          apply sumIf_congr
          intro x _
          cases hx : (x.1 == v.1) with
          | false => simp
          | true =>
            have : x.1 = v.1 := by simpa using hx
            rw [this, hp]; rfl
        | false =>
          show _ = (0 : Int)
          have : sumIf (fun k => p k && (k == v.1)) (v :: ps) = sumIf (fun _ => false) (v :: ps) := by
            apply sumIf_congr
            intro x _
            cases hx : (x.1 == v.1) with
            | false => simp
            | true =>
              have : x.1 = v.1 := by simpa using hx
              rw [this, hp]; rfl
          rw [this]
          clear this hrest hv h hlen hl ih
          induction (v :: ps) with
          | nil => rfl
          | cons a l ih => rw [sumIf_cons, ih]; rfl
      rw [e]
      cases p v.1 <;> simp <;> omega

/-- The updates as they are made. -/
def cutP (C : Cfg) (lv : Int) (us : List (Int × Int)) : List (Int × Int) := us.map fun u => (cutK C lv u.1, cutD C.mode u.2)
theorem cutP_len (C : Cfg) (lv : Int) (us : List (Int × Int)) : (cutP C lv us).length = us.length := by simp [cutP]
theorem cutP_snoc (C : Cfg) (lv : Int) (us : List (Int × Int)) (u : Int × Int) : cutP C lv (us ++ [u]) = cutP C lv us ++ [(cutK C lv u.1, cutD C.mode u.2)] := by simp [cutP]
def hasP (key : Int) (ps : List (Int × Int)) : Int := sumIf (fun k => k == key) ps
def sameCol (C : Cfg) (lv key : Int) (r : Nat) (k : Int) : Bool := (cols C lv k).getD r 0 == (cols C lv key).getD r 0
def othP (C : Cfg) (lv key : Int) (r : Nat) (ps : List (Int × Int)) : Int := sumIf (fun k => !(k == key) && sameCol C lv key r k) ps
theorem oth_nn {C : Cfg} {lv key : Int} {r : Nat} {ps : List (Int × Int)} (h : ∀ u ∈ ps, 0 ≤ hasP u.1 ps) : 0 ≤ othP C lv key r ps := sumIf_nn _ _ ps (Nat.le_refl _) h
theorem sumIf_bnd (p : Int → Bool) (B : Int) (_hB : 0 ≤ B) (ps : List (Int × Int)) (h : ∀ u ∈ ps, -B ≤ u.2 ∧ u.2 ≤ B) : -(ps.length * B) ≤ sumIf p ps ∧ sumIf p ps ≤ ps.length * B := by
  induction ps with
  | nil => simp [sumIf_nil]
  | cons u ps ih =>
    have h1 := h u (by simp)
    have h2 := ih (fun v hv => h v (by simp [hv]))
    rw [sumIf_cons, List.length_cons]
    push_cast
    rw [Int.add_mul]
    cases p u.1 <;> simp <;> omega
theorem cutP_bnd (C : Cfg) (lv : Int) (us : List (Int × Int)) : ∀ u ∈ cutP C lv us, -1099511627776 ≤ u.2 ∧ u.2 ≤ 1099511627776 := by
  intro u hu
  simp only [cutP, List.mem_map] at hu
  obtain ⟨v, _, rfl⟩ := hu
  have := cutD_bd C.mode v.2
  simp only; omega

theorem at_ne {W r j : Nat} {a c : Nat} (ha : a < W) (hc : c < W) (h : r ≠ j ∨ a ≠ c) : r * W + a ≠ j * W + c := by
  intro he
  have hW : 0 < W := by omega
  have h1 : (r * W + a) / W = (j * W + c) / W := by rw [he]
  rw [Nat.add_comm, Nat.mul_comm r, Nat.add_mul_div_left _ _ hW, Nat.div_eq_of_lt ha, Nat.add_comm (j * W), Nat.mul_comm j, Nat.add_mul_div_left _ _ hW, Nat.div_eq_of_lt hc] at h1
  have h2 : r = j := by omega
  subst h2
  omega
theorem putK_get {R W : Nat} {cs : List Int} (hm : Meets R W cs) {f : Nat → Int} {l : List Int} (hl : l.length = R * W) {r a : Nat} (hr : r < R) (ha : a < W) :
    ∀ k, k ≤ R → (putK W cs f k l).getD (r * W + a) 0 = if r < k ∧ cs.getD r 0 = (a : Int) then f r else l.getD (r * W + a) 0 := by
  intro k
  induction k with
  | zero => intro _; rw [putK, if_neg (by omega)]
  | succ k ih =>
    intro hk
    have h0 := hm.lo k (by omega)
    have h1 := hm.hi k (by omega)
    rw [putK]
    by_cases he : k = r ∧ cs.getD k 0 = (a : Int)
    · obtain ⟨rfl, he⟩ := he
      rw [if_pos ⟨by omega, he⟩]
      have hat : at_ W cs k = k * W + a := by unfold at_; omega
      rw [hat]
      have hlen : k * W + a < (putK W cs f k l).length := by
        rw [putK_len, hl]
        calc k * W + a < k * W + W := by omega
          _ = (k + 1) * W := by rw [Nat.add_mul, Nat.one_mul]
          _ ≤ R * W := Nat.mul_le_mul_right W hr
      simp [hlen]
    · have hne : at_ W cs k ≠ r * W + a := by
        unfold at_
        refine at_ne (by omega) ha ?_
        by_cases hkr : k = r
        · right
          intro h
          exact he ⟨hkr, by omega⟩
        · exact .inl hkr
      have e : ((putK W cs f k l).set (at_ W cs k) (f k)).getD (r * W + a) 0 = (putK W cs f k l).getD (r * W + a) 0 := by
        simp [List.getElem?_set_ne hne]
      rw [e, ih (by omega)]
      by_cases hc : r < k ∧ cs.getD r 0 = (a : Int)
      · rw [if_pos hc, if_pos ⟨by omega, hc.2⟩]
      · rw [if_neg hc, if_neg]
        intro h
        by_cases hkr : k = r
        · subst hkr; exact he ⟨rfl, h.2⟩
        · exact hc ⟨by omega, h.2⟩
theorem snoc_ind {α : Type} {P : List α → Prop} (h0 : P []) (h1 : ∀ l x, P l → P (l ++ [x])) (l : List α) : P l := by
  have key : ∀ n (l : List α), l.length = n → P l := by
    intro n
    induction n with
    | zero => intro l hl; rw [List.length_eq_zero_iff.1 hl]; exact h0
    | succ n ih =>
      intro l hl
      have hne : l ≠ [] := by intro h; rw [h] at hl; cases hl
      rw [← List.dropLast_concat_getLast hne]
      exact h1 _ _ (ih _ (by rw [List.length_dropLast]; omega))
  exact key _ l rfl
theorem feed_len (C : Cfg) (lv : Int) (R W : Nat) (us : List (Int × Int)) (l : List Int) : (feed C lv R W us l).length = l.length := by
  unfold feed
  induction us generalizing l with
  | nil => rfl
  | cons u us ih =>
    rw [List.foldl_cons, ih]
    unfold updL
    cases decide (C.mode = 2) <;> exact putK_len _ _ _ _ _
/-- Each cell is the sum of what the keys have whose column it is. -/
theorem feed_cell (C : Cfg) (hok : C.Ok) (lv : Int) (R W : Nat) (hr : C.rows = R) (hw : C.width = W) (hm : C.mode ≠ 2) (us : List (Int × Int)) {r a : Nat} (hrr : r < R) (ha : a < W) :
    (feed C lv R W us (zs (R * W))).getD (r * W + a) 0 = sumIf (fun k => (cols C lv k).getD r 0 == (a : Int)) (cutP C lv us) := by
  refine snoc_ind (P := fun us => (feed C lv R W us (zs (R * W))).getD (r * W + a) 0 = sumIf (fun k => (cols C lv k).getD r 0 == (a : Int)) (cutP C lv us)) ?_ ?_ us
  ·
    show (zs (R * W)).getD _ 0 = 0
    unfold zs
    rw [List.getD_eq_getElem?_getD]
    rcases Nat.lt_or_ge (r * W + a) (R * W) with h | h
    · simp [h]
    · simp [h]
  · intro us u ih
    rw [feed_snoc, cutP_snoc, sumIf_snoc]
    unfold updL
    rw [decide_eq_false hm]
    have hme := cols_meets C hok lv (cutK C lv u.1) hr hw
    show (putK W _ _ R _).getD _ 0 = _
    rw [putK_get hme (by rw [feed_len, zs_len]) hrr ha R (Nat.le_refl _), ih]
    by_cases he : (cols C lv (cutK C lv u.1)).getD r 0 = (a : Int)
    · rw [if_pos ⟨hrr, he⟩]
      have hat : at_ W (cols C lv (cutK C lv u.1)) r = r * W + a := by unfold at_; omega
      rw [hat]
      show _ + _ = _
      rw [ih]
      have hb : ((cols C lv (cutK C lv u.1)).getD r 0 == (a : Int)) = true := by simpa using he
      simp only [hb]; rfl
    · rw [if_neg (fun h => he h.2)]
      have : ((cols C lv (cutK C lv u.1)).getD r 0 == (a : Int)) = false := by simpa using he
      simp only [this]; simp
/-- What is read in a key's columns: what it has, and what others have there. -/
theorem read_cell (C : Cfg) (hok : C.Ok) (lv : Int) (R W : Nat) (hr : C.rows = R) (hw : C.width = W) (hm : C.mode ≠ 2) (us : List (Int × Int)) (key : Int) :
    readL W (feed C lv R W us (zs (R * W))) (cols C lv key) = (List.range R).map fun r => hasP key (cutP C lv us) + othP C lv key r (cutP C lv us) := by
  have hme := cols_meets C hok lv key hr hw
  unfold readL
  rw [hme.len]
  apply List.map_congr_left
  intro r hrr
  rw [List.mem_range] at hrr
  have h0 := hme.lo r hrr
  have h1 := hme.hi r hrr
  have hat : at_ W (cols C lv key) r = r * W + ((cols C lv key).getD r 0).toNat := rfl
  rw [hat, feed_cell C hok lv R W hr hw hm us hrr (by omega)]
  have e : (((cols C lv key).getD r 0).toNat : Int) = (cols C lv key).getD r 0 := Int.toNat_of_nonneg h0
  rw [e]
  rw [sumIf_split _ (fun k => k == key)]
  unfold hasP othP
  congr 1
  · apply sumIf_congr
    intro x _
    cases hx : (x.1 == key) with
    | false => simp
    | true =>
      have : x.1 = key := by simpa using hx
      rw [this]; simp
  · apply sumIf_congr
    intro x _
    unfold sameCol
    exact Bool.and_comm _ _
/-- The least of numbers. -/
def leastF (f : Nat → Int) (k : Nat) : Int := (List.range k).foldl (fun m r => min m (f r)) (f 0)
theorem leastF_succ (f : Nat → Int) (k : Nat) : leastF f (k + 1) = min (leastF f k) (f k) := by
  unfold leastF; rw [List.range_succ, List.foldl_append]; rfl
theorem leastF_le (f : Nat → Int) (k : Nat) : leastF f k ≤ f 0 ∧ ∀ r, r < k → leastF f k ≤ f r := by
  induction k with
  | zero => exact ⟨Int.le_refl _, fun r h => by omega⟩
  | succ k ih =>
    rw [leastF_succ]
    refine ⟨by omega, fun r h => ?_⟩
    by_cases e : r = k
    · subst e; omega
    · have := ih.2 r (by omega); omega
theorem leastF_mem (f : Nat → Int) (k : Nat) (h : 0 < k) : ∃ r, r < k ∧ leastF f k = f r := by
  induction k with
  | zero => omega
  | succ k ih =>
    rw [leastF_succ]
    by_cases hk : 0 < k
    · obtain ⟨r, h1, h2⟩ := ih hk
      rcases Int.le_total (leastF f k) (f k) with h3 | h3
      · exact ⟨r, by omega, by omega⟩
      · exact ⟨k, by omega, by omega⟩
    · have : k = 0 := by omega
      subst this
      refine ⟨0, by omega, ?_⟩
      show min (f 0) (f 0) = f 0
      omega
end Go.Proofs.Ytpnbgoahjoabkaa

/- Boxes that hold a config or a play. No condition. -/
namespace Go.Proofs.Ytpnbgoahjoabkaa
set_option linter.unusedVariables false
open Go.RowKit

structure CfgAt (w : World) (b : Nat) (C : Cfg) : Prop where
  lt : b < w.heap.size
  c0 : w.cell? ⟨b, 0, none⟩ = some (.int .i64 C.bits)
  c1 : w.cell? ⟨b, 1, none⟩ = some (.int .i64 C.rows)
  c2 : w.cell? ⟨b, 2, none⟩ = some (.int .i64 C.width)
  c3 : w.cell? ⟨b, 3, none⟩ = some (.int .i64 C.mode)
  c4 : w.cell? ⟨b, 4, none⟩ = some (.int .u64 C.seed)
theorem CfgAt.of {w : World} {b : Nat} {C : Cfg} {t : TypeId} (h : w.heap[b]? = some (.cells #[.int .i64 C.bits, .int .i64 C.rows, .int .i64 C.width, .int .i64 C.mode, .int .u64 C.seed] t (0, 0))) : CfgAt w b C :=
  ⟨lt_of h, (cell_of h 0).trans rfl, (cell_of h 1).trans rfl, (cell_of h 2).trans rfl, (cell_of h 3).trans rfl, (cell_of h 4).trans rfl⟩
theorem CfgAt.box {w : World} (C : Cfg) (t : TypeId) {n : Nat} (h : n = w.heap.size) : CfgAt (w.alloc (.cells #[.int .i64 C.bits, .int .i64 C.rows, .int .i64 C.width, .int .i64 C.mode, .int .u64 C.seed] t)) n C := CfgAt.of (t := t) (heap_at _ _ h)
theorem CfgAt.ext {w w' : World} {b : Nat} {C : Cfg} (h : CfgAt w b C) (he : Ext w w') : CfgAt w' b C :=
  have k := (bcell he).1
  ⟨Nat.lt_of_lt_of_le h.lt he.size, (k _ _ h.lt).trans h.c0, (k _ _ h.lt).trans h.c1, (k _ _ h.lt).trans h.c2, (k _ _ h.lt).trans h.c3, (k _ _ h.lt).trans h.c4⟩
theorem CfgAt.mod {S : Nat → Prop} {w w' : World} {b : Nat} {C : Cfg} (h : CfgAt w b C) (he : Mod S w w') (hs : ¬ S b) : CfgAt w' b C :=
  have k := fun o => mcell he h.lt hs o
  ⟨Nat.lt_of_lt_of_le h.lt he.size, (k _).trans h.c0, (k _).trans h.c1, (k _).trans h.c2, (k _).trans h.c3, (k _).trans h.c4⟩
structure PlayAt (w : World) (b : Nat) (x : Cfg) (lv : Int) (v : Value) : Prop where
  c : CfgAt w b x
  c5 : w.cell? ⟨b, 5, none⟩ = some (.int .i64 lv)
  c6 : w.cell? ⟨b, 6, none⟩ = some v
theorem PlayAt.box {w : World} (x : Cfg) (lv : Int) (v : Value) (t : TypeId) {n : Nat} (h : n = w.heap.size) : PlayAt (w.alloc (.cells #[.int .i64 x.bits, .int .i64 x.rows, .int .i64 x.width, .int .i64 x.mode, .int .u64 x.seed, .int .i64 lv, v] t)) n x lv v :=
  have h := heap_at w (.cells #[.int .i64 x.bits, .int .i64 x.rows, .int .i64 x.width, .int .i64 x.mode, .int .u64 x.seed, .int .i64 lv, v] t) h
  ⟨⟨lt_of h, (cell_of h 0).trans rfl, (cell_of h 1).trans rfl, (cell_of h 2).trans rfl, (cell_of h 3).trans rfl, (cell_of h 4).trans rfl⟩, (cell_of h 5).trans rfl, (cell_of h 6).trans rfl⟩
theorem PlayAt.ext {w w' : World} {b : Nat} {x : Cfg} {lv : Int} {v : Value} (h : PlayAt w b x lv v) (he : Ext w w') : PlayAt w' b x lv v :=
  have k := (bcell he).1
  ⟨h.c.ext he, (k _ _ h.c.lt).trans h.c5, (k _ _ h.c.lt).trans h.c6⟩
theorem PlayAt.mod {S : Nat → Prop} {w w' : World} {b : Nat} {x : Cfg} {lv : Int} {v : Value} (h : PlayAt w b x lv v) (he : Mod S w w') (hs : ¬ S b) : PlayAt w' b x lv v :=
  have k := fun o => mcell he h.c.lt hs o
  ⟨h.c.mod he hs, (k _).trans h.c5, (k _).trans h.c6⟩
theorem UpsAt.ext {w w' : World} {v : Value} {us : List (Int × Int)} (h : UpsAt w v us) (he : Ext w w') : UpsAt w' v us :=
  h.imp id (fun ⟨g, off, cap, hv, hl, hc⟩ => ⟨g, off, cap, hv, Nat.lt_of_lt_of_le hl he.size, fun k hk => ⟨((bcell he).1 _ _ hl).trans (hc k hk).1, ((bcell he).1 _ _ hl).trans (hc k hk).2⟩⟩)
theorem UpsAt.sl {w : World} {v : Value} {us : List (Int × Int)} (h : UpsAt w v us) : ∃ p c, v = .slice p us.length c := by
  rcases h with ⟨⟨_, rfl⟩, rfl⟩ | ⟨g, off, cap, rfl, _⟩
  · exact ⟨_, _, rfl⟩
  · exact ⟨_, _, rfl⟩
/-- One update of a slice, with its cells. -/
theorem UpsAt.one {w : World} {p : Option Addr} {n c : Nat} {us : List (Int × Int)} (h : UpsAt w (.slice p n c) us) {k : Nat} (hk : k < us.length) :
    ∃ g off, p = some ⟨g, off, none⟩ ∧ g < w.heap.size ∧ w.cell? ⟨g, off + k * 2, none⟩ = some (.int .u64 us[k].1) ∧ w.cell? ⟨g, off + k * 2 + 1, none⟩ = some (.int .i64 us[k].2) := by
  obtain ⟨g, off, cap, hvv, hgl, hcell⟩ := h.resolve_left (fun h => by rw [h.2] at hk; simp at hk)
  obtain ⟨rfl, rfl⟩ : p = some ⟨g, off, none⟩ ∧ n = us.length := by
    have := Value.slice.inj hvv
    exact ⟨this.1, this.2.1⟩
  have := hcell k hk
  have hget : us.getD k (0, 0) = us[k] := by simp [hk]
  rw [hget] at this
  exact ⟨g, off, rfl, hgl, this.1, this.2⟩
end Go.Proofs.Ytpnbgoahjoabkaa

/- Package exact: an array that lies in memory; what its calls tell, and what they change. -/
namespace Go.Proofs.Ytpnbgoahjoabkaa
set_option linter.unusedVariables false
open Go.RowKit

/-- Is a level exact? -/
def isX (C : Cfg) (lv : Int) : Bool := decide (keys C lv ≤ C.width)
def kN (C : Cfg) (lv : Int) : Nat := (keys C lv).toNat
theorem kN_eq {C : Cfg} (h : C.Ok) {lv : Int} (h0 : 0 ≤ lv) : keys C lv = (kN C lv : Int) := by
  have := (keys_bd C h lv h0).1
  unfold kN; omega
set_option maxRecDepth 20000 in
set_option maxHeartbeats 2000000 in
theorem Exact_c (C : Cfg) (h : C.Ok) (lv : Int) (h0 : 0 ≤ lv) (h1 : lv ≤ C.bits) (w : World) :
    Calls Try.prog 48 #[.agg #[.int .i64 C.bits, .int .i64 C.rows, .int .i64 C.width, .int .i64 C.mode, .int .u64 C.seed], .int .i64 lv] w fun e w' => e = .returned (.bool (isX C lv)) ∧ Ext w w' := by
  have hk := keys_bd C h lv h0
  have w1' := h.w1
  have w2' := h.w2
  have hI : isX C lv = decide (keys C lv ≤ C.width) := rfl
  go_enter Try.func48, Try.ntmps48
  go_wp2_with fail
  refine (Keys_c C h lv h0 h1 _).mono ?_
  rintro e w1 ⟨rfl, hb⟩
  have hE : Ext w w1 := by (repeat' (first | exact Ext.refl _ | assumption | apply Ext.allocR | apply Ext.drewR | apply Ext.drewNR | (refine Ext.trans' ?_ (by assumption))))
  have hC := (CfgAt.box (w := w) C 24 rfl).ext hb
  have c2 := hC.c2
  have cl := hC.lt
  have HI := Lib.hid hI
  generalize keys C lv = N at *
  clear hb hI hC
  by_cases hx : N ≤ C.width
  · go_wp2
    go_ret
    exact ⟨by rw [HI.out, decide_eq_true hx]; rfl, hE⟩
  · go_wp2
    go_ret
    exact ⟨by rw [HI.out, decide_eq_false (by omega)]; rfl, hE⟩
/-- An array. -/
structure EAt (w : World) (s b c : Nat) (C : Cfg) (lv : Int) (K : Nat) (l : List Int) : Prop where
  ex : w.heap[s]? = some (.cells #[.int .i64 C.bits, .int .i64 C.rows, .int .i64 C.width, .int .i64 C.mode, .int .u64 C.seed, .int .i64 lv, .pointer (some ⟨b, 0, none⟩)] 223 (0, 0))
  g : GAt w b c 1 K l
  ok : C.Ok
  lo : 0 ≤ lv
  hi : lv ≤ C.bits
  hk : keys C lv = K
  fit : ∀ x ∈ l, I64 x
theorem EAt.lts {w : World} {s b c : Nat} {C : Cfg} {lv : Int} {K : Nat} {l : List Int} (h : EAt w s b c C lv K l) : s < w.heap.size := lt_of h.ex
theorem EAt.keep {w w' : World} {s b c : Nat} {C : Cfg} {lv : Int} {K : Nat} {l : List Int} (h : EAt w s b c C lv K l) (hs : w'.heap[s]? = w.heap[s]?) (hb : w'.heap[b]? = w.heap[b]?) (hc : w'.heap[c]? = w.heap[c]?) : EAt w' s b c C lv K l :=
  ⟨by rw [hs]; exact h.ex, h.g.keep hb hc, h.ok, h.lo, h.hi, h.hk, h.fit⟩
theorem EAt.ext {w w' : World} {s b c : Nat} {C : Cfg} {lv : Int} {K : Nat} {l : List Int} (h : EAt w s b c C lv K l) (he : Ext w w') : EAt w' s b c C lv K l :=
  h.keep (he.block s h.lts) (he.block b h.g.ltb) (he.block c h.g.ltc)
theorem EAt.nes {w : World} {s b c : Nat} {C : Cfg} {lv : Int} {K : Nat} {l : List Int} (h : EAt w s b c C lv K l) : s ≠ c := by
  intro e
  obtain ⟨cap, h1, h2⟩ := h.g.ex
  obtain ⟨cur, h3, _⟩ := h2.ex
  have := h.ex
  rw [e, h3] at this
  simp at this
theorem EAt.mod {S : Nat → Prop} {w w' : World} {s b c : Nat} {C : Cfg} {lv : Int} {K : Nat} {l : List Int} (h : EAt w s b c C lv K l) (he : Mod S w w') (h1 : ¬ S s) (h2 : ¬ S b) (h3 : ¬ S c) : EAt w' s b c C lv K l :=
  h.keep (he.block s h.lts h1) (he.block b h.g.ltb h2) (he.block c h.g.ltc h3)
theorem EAt.len {w : World} {s b c : Nat} {C : Cfg} {lv : Int} {K : Nat} {l : List Int} (h : EAt w s b c C lv K l) : l.length = K := by
  rw [h.g.len, Nat.one_mul]
def ENewPost (w : World) (C : Cfg) (lv : Int) (N : Nat) (e : Ending) (w' : World) : Prop :=
  ∃ s b c, e = .returned (.tuple #[.pointer (some ⟨s, 0, none⟩), .int .i64 0]) ∧ EAt w' s b c C lv N (zs N) ∧ w.heap.size ≤ s ∧ w.heap.size ≤ b ∧ w.heap.size ≤ c ∧ Ext w w'
set_option maxRecDepth 20000 in
set_option maxHeartbeats 2000000 in
theorem ENew_c (C : Cfg) (h : C.Ok) (lv : Int) (h0 : 0 ≤ lv) (h1 : lv ≤ C.bits) (N : Nat) (hN : keys C lv = N) (hx : isX C lv = true) (w : World) :
    Calls Try.prog 123 #[.agg #[.int .i64 C.bits, .int .i64 C.rows, .int .i64 C.width, .int .i64 C.mode, .int .u64 C.seed], .int .i64 lv] w (ENewPost w C lv N) := by
  have hk := keys_bd C h lv h0
  have w2' := h.w2
  have hx' : keys C lv ≤ C.width := by simpa [isX] using hx
  have HX := Lib.hid hx
  have HN := Lib.hid hN
  rw [hN] at hk hx'
  clear hx hN
  go_enter Try.func123, Try.ntmps123
  go_wp2_with fail
  refine (Exact_c C h lv h0 h1 _).mono ?_
  rintro e w1 ⟨rfl, hb⟩
  rw [HX.out]
  have hE : Ext w w1 := by (repeat' (first | exact Ext.refl _ | assumption | apply Ext.allocR | apply Ext.drewR | apply Ext.drewNR | (refine Ext.trans' ?_ (by assumption))))
  have hC := (CfgAt.box (w := w) C 24 rfl).ext hb
  have d0 := hC.c0
  have d1 := hC.c1
  have d2 := hC.c2
  have d3 := hC.c3
  have d4 := hC.c4
  have cl := hC.lt
  clear hb hC
  go_wp2
  have hC0 := af_drew w1
  refine pi_start (fun w' => ∃ x : After w1, w' = x.w) [] (by kernel_rfl) ?_
  refine pi_t 1 rfl (by kernel_rfl) (by kernel_rfl) (fun _ _ _ _ h => h) (fun K hK => ?_)
  go_big_quiet_op
  refine hK _ ?_
  clear hK K
  refine pi_t 3 rfl (by kernel_rfl) (by kernel_rfl) (fun _ _ _ _ h => h) (fun K hK => ?_)
  go_big_quiet_op
  refine hK _ ?_
  clear hK K
  refine pi_c 0 (by assumption) rfl (by kernel_rfl) (by kernel_rfl) (fun _ _ _ _ h => h) (fun K hK => ?_)
  go_big_quiet_op
  refine hK _ ?_
  clear hK K
  refine pi_c 2 (by assumption) rfl (by kernel_rfl) (by kernel_rfl) (fun _ _ _ _ h => h) (fun K hK => ?_)
  go_big_quiet_op
  refine hK _ ?_
  clear hK K
  refine pi_l 4 rfl (by kernel_rfl) (fun K hK => ?_)
  go_wp2_with (go_at_call 90; refine (Keys_c C h lv h0 h1 _).mono ?_; rintro e w2 ⟨rfl, hx2⟩)
  refine hK _ _ (fun _ h => af_step h hx2) ?_
  clear hK K
  rw [HN.out]
  refine pi_t 5 rfl (by kernel_rfl) (by kernel_rfl) (fun _ _ _ _ h => h) (fun K hK => ?_)
  go_big_quiet_op
  refine hK _ ?_
  clear hK K
  refine pi_l 6 rfl (by kernel_rfl) (fun K hK => ?_)
  go_wp2_with (go_at_call 91; refine (GNew_c 1 N _ (by decide) (by decide) (by omega) (by omega)).mono ?_; rintro e w3 ⟨gb, gc, rfl, hG, hgb, hgc, hx3⟩)
  refine hK _ _ (fun _ h => af_step h hx3) ?_
  clear hK K
  refine pi_t 7 rfl (by kernel_rfl) (by kernel_rfl) (fun _ _ _ _ h => h) (fun K hK => ?_)
  go_big_quiet_op
  refine hK _ ?_
  clear hK K
  refine pi_l 8 rfl (by kernel_rfl) (fun K hK => ?_)
  go_wp2
  refine hK _ _ (fun _ h => af_step h (Ext.alloc' _ _)) ?_
  clear hK K
  refine pi_t 9 rfl (by kernel_rfl) (by kernel_rfl) (fun _ _ _ _ h => h) (fun K hK => ?_)
  go_big_quiet_op
  refine hK _ ?_
  clear hK K
  refine pi_t 10 rfl (by kernel_rfl) (by kernel_rfl) (fun _ _ _ _ h => h) (fun K hK => ?_)
  go_big_quiet_op
  refine hK _ ?_
  clear hK K
  refine pi_end (by kernel_rfl) ?_
  go_wp2
  go_ret2
  have hx2' : Ext w1 w2 := Ext.trans' (Below.drew (Ext.refl w1)) hx2
  have hs2 := hx2'.size
  have hs3 := hx3.size
  have hs1 := hE.size
  rw [Nat.one_mul] at hG
  refine ⟨w3.heap.size, gb, gc, rfl, ⟨?_, hG.keep (heap_old _ _ hG.ltb) (heap_old _ _ hG.ltc), h, h0, h1, HN.out, ?_⟩, by omega, by omega, by omega, by (repeat' (first | exact Ext.refl _ | assumption | apply Ext.allocR | apply Ext.drewR | apply Ext.drewNR | (refine Ext.trans' ?_ (by assumption))))⟩
  · rw [heap_at _ _ rfl]
  · intro x hx
    simp only [zs, List.mem_replicate] at hx
    rw [hx.2]
    unfold I64; omega
end Go.Proofs.Ytpnbgoahjoabkaa

/- Package exact: what its calls tell, and what they change. -/
namespace Go.Proofs.Ytpnbgoahjoabkaa
set_option linter.unusedVariables false
open Go.RowKit

theorem EConfig_c (s b c : Nat) (C : Cfg) (lv : Int) (N : Nat) (l : List Int) (w : World) (h : EAt w s b c C lv N l) :
    Calls Try.prog 137 #[.pointer (some ⟨s, 0, none⟩)] w fun e w' => e = .returned (.agg #[.int .i64 C.bits, .int .i64 C.rows, .int .i64 C.width, .int .i64 C.mode, .int .u64 C.seed]) ∧ Ext w w' := by
  have c0 := (cell_of h.ex 0).trans rfl
  have c1 := (cell_of h.ex 1).trans rfl
  have c2 := (cell_of h.ex 2).trans rfl
  have c3 := (cell_of h.ex 3).trans rfl
  have c4 := (cell_of h.ex 4).trans rfl
  have hlt := h.lts
  clear h
  go_enter Try.func137, Try.ntmps137
  go_wp2
  exact bodyPost_ret (v := .agg #[.int .i64 C.bits, .int .i64 C.rows, .int .i64 C.width, .int .i64 C.mode, .int .u64 C.seed]) (by simp [results, Try.results137, go_sem]) rfl ⟨rfl, by (repeat' (first | exact Ext.refl _ | assumption | apply Ext.allocR | apply Ext.drewR | apply Ext.drewNR | (refine Ext.trans' ?_ (by assumption))))⟩
theorem ELevel_c (s b c : Nat) (C : Cfg) (lv : Int) (N : Nat) (l : List Int) (w : World) (h : EAt w s b c C lv N l) :
    Calls Try.prog 138 #[.pointer (some ⟨s, 0, none⟩)] w fun e w' => e = .returned (.int .i64 lv) ∧ w = w' := by
  have c5 := (cell_of h.ex 5).trans rfl
  have hlt := h.lts
  clear h
  go_enter Try.func138, Try.ntmps138
  go_wp2
  go_ret
  exact ⟨rfl, rfl⟩
theorem ECells_c (s b c : Nat) (C : Cfg) (lv : Int) (N : Nat) (l : List Int) (w : World) (h : EAt w s b c C lv N l) :
    Calls Try.prog 139 #[.pointer (some ⟨s, 0, none⟩)] w fun e w' => ∃ v, e = .returned v ∧ w'.ownsRow w.heap.size 2 1 v l.length (ints l) ∧ (v = .slice none 0 0 → False) ∧ Ext w w' := by
  have c6 := (cell_of h.ex 6).trans rfl
  have hlt := h.lts
  have hg := h.g
  clear h
  go_enter Try.func139, Try.ntmps139
  go_wp2_with fail
  refine (GCells_c b c 1 N l _ hg).mono ?_
  rintro e w1 ⟨v, rfl, h1, h2, h3⟩
  go_wp2
  go_ret
  exact ⟨v, rfl, h1, h2, h3⟩
/-- What Check tells of an array. -/
def errX (C : Cfg) (lv : Int) (l : List Int) (key d : Int) : Int :=
  bif decide (key < keys C lv) then (bif decide (C.mode = 2) && decide (d < 0) then 3 else bif fitB (l.getD key.toNat 0 + d) then 0 else 4) else 2
def updX (l : List Int) (key d : Int) : List Int := l.set key.toNat (l.getD key.toNat 0 + d)
theorem errX_key {C : Cfg} {lv : Int} {l : List Int} {key d : Int} (h : keys C lv ≤ key) : errX C lv l key d = 2 := by
  unfold errX; rw [decide_eq_false (by omega)]; rfl
theorem errX_neg {C : Cfg} {lv : Int} {l : List Int} {key d : Int} (h : key < keys C lv) (hm : C.mode = 2) (hd : d < 0) : errX C lv l key d = 3 := by
  unfold errX; rw [decide_eq_true h, decide_eq_true hm, decide_eq_true hd]; rfl
theorem errX_sum {C : Cfg} {lv : Int} {l : List Int} {key d : Int} (h : key < keys C lv) (hm : ¬ (C.mode = 2 ∧ d < 0)) : errX C lv l key d = bif fitB (l.getD key.toNat 0 + d) then 0 else 4 := by
  unfold errX
  rw [decide_eq_true h]
  have : (decide (C.mode = 2) && decide (d < 0)) = false := by
    rw [Bool.and_eq_false_iff, decide_eq_false_iff_not, decide_eq_false_iff_not]
    by_cases hc : C.mode = 2
    · exact .inr (fun h => hm ⟨hc, h⟩)
    · exact .inl hc
  rw [this]; rfl
theorem At_k {b c N : Nat} {l : List Int} {w : World} (h : GAt w b c 1 N l) {key : Int} (h0 : 0 ≤ key) (h1 : key < N) :
    Calls Try.prog 144 #[.pointer (some ⟨b, 0, none⟩), .int .i64 0, .int .i64 key] w fun e w' => e = .returned (.int .i64 (l.getD key.toNat 0)) ∧ w = w' := by
  obtain ⟨k, rfl⟩ := Int.eq_ofNat_of_zero_le h0
  have := At_c b c 1 N l w h 0 k (by decide) (by omega)
  rw [Nat.zero_mul, Nat.zero_add] at this
  exact this
theorem Put_k {b c N : Nat} {l : List Int} {w : World} (h : GAt w b c 1 N l) {key : Int} (h0 : 0 ≤ key) (h1 : key < N) (n : Int) :
    Calls Try.prog 145 #[.pointer (some ⟨b, 0, none⟩), .int .i64 0, .int .i64 key, .int .i64 n] w fun e w' => e = .returned (.bool true) ∧ w.setCell ⟨c, key.toNat, none⟩ (.int .i64 n) = w' := by
  obtain ⟨k, rfl⟩ := Int.eq_ofNat_of_zero_le h0
  have := Put_c b c 1 N l w h 0 k (by decide) (by omega) n
  rw [Nat.zero_mul, Nat.zero_add] at this
  exact this
set_option maxRecDepth 20000 in
set_option maxHeartbeats 2000000 in
theorem ECheck_c (s b c : Nat) (C : Cfg) (lv : Int) (N : Nat) (l : List Int) (key d : Int) (w : World) (h : EAt w s b c C lv N l) (hd : I64 d) (hk : U64 key) :
    Calls Try.prog 213 #[.pointer (some ⟨s, 0, none⟩), .int .u64 key, .int .i64 d] w fun e w' => e = .returned (.int .i64 (errX C lv l key d)) ∧ Ext w w' := by
  have c3 := (cell_of h.ex 3).trans rfl
  have c6 := (cell_of h.ex 6).trans rfl
  have hlt := h.lts
  have hg := h.g
  have hN := h.hk
  have w2' := h.g.w2
  have hy := getD_i64 h.fit key.toNat
  obtain ⟨hk0, hk1⟩ := hk
  have HG := Lib.hid hg
  have HN := Lib.hid hN
  have hd' := hd
  unfold I64 at hd
  by_cases hkey : N ≤ key
  · have he := errX_key (l := l) (d := d) (show keys C lv ≤ key by rw [hN]; exact hkey)
    have HE := Lib.hid he
    clear he h hg hN
    go_enter Try.func213, Try.ntmps213
    go_wp2_with fail
    refine (Width_c b c 1 N l _ HG.out).mono ?_
    rintro e w1 ⟨rfl, rfl⟩
    go_wp2
    go_ret
    exact ⟨by rw [HE.out]; rfl, Ext.refl _⟩
  · have hkl : key < keys C lv := by rw [hN]; omega
    by_cases hm : C.mode = 2 ∧ d < 0
    · obtain ⟨hm1, hm2⟩ := hm
      have he := errX_neg (l := l) hkl hm1 hm2
      have hmb : (C.mode == 2) = true := by simpa using hm1
      have HE := Lib.hid he
      clear he h hg hN hm1 hkl
      go_enter Try.func213, Try.ntmps213
      go_wp2_with fail
      refine (Width_c b c 1 N l _ HG.out).mono ?_
      rintro e w1 ⟨rfl, rfl⟩
      go_wp2
      go_ret
      exact ⟨by rw [HE.out]; rfl, Ext.refl _⟩
    · have he := errX_sum (l := l) hkl hm
      have HE := Lib.hid he
      have hmb : ((C.mode == 2) = false) ∨ ((C.mode == 2) = true ∧ ¬ d < 0) := by
        by_cases hc : C.mode = 2
        · exact .inr ⟨by simpa using hc, fun h => hm ⟨hc, h⟩⟩
        · exact .inl (by simpa using hc)
      obtain ⟨y, hyy⟩ : ∃ y, l.getD key.toNat 0 = y := ⟨_, rfl⟩
      rw [hyy] at hy
      have HY := Lib.hid hyy
      clear he h hg hN hm hkl hyy
      have hkN : key < N := by omega
      rcases hmb with hmb | ⟨hmb, hdn⟩
      all_goals
        by_cases hf : I64 (y + d)
        · have hfb := fitB_yes hf
          go_enter Try.func213, Try.ntmps213
          go_wp2_with fail
          refine (Width_c b c 1 N l _ HG.out).mono ?_
          rintro e w1 ⟨rfl, rfl⟩
          go_wp2_with fail
          refine (At_k HG.out hk0 hkN).mono ?_
          rintro e w1 ⟨rfl, rfl⟩
          rw [HY.out]
          go_wp2_with fail
          refine (Plus_c y d hy hd' _).mono ?_
          rintro e w1 ⟨rfl, hx1⟩
          rw [hfb]
          go_wp2
          go_ret
          exact ⟨by rw [HE.out, HY.out, hfb]; rfl, hx1⟩
        · have hfb := fitB_no hf
          go_enter Try.func213, Try.ntmps213
          go_wp2_with fail
          refine (Width_c b c 1 N l _ HG.out).mono ?_
          rintro e w1 ⟨rfl, rfl⟩
          go_wp2_with fail
          refine (At_k HG.out hk0 hkN).mono ?_
          rintro e w1 ⟨rfl, rfl⟩
          rw [HY.out]
          go_wp2_with fail
          refine (Plus_c y d hy hd' _).mono ?_
          rintro e w1 ⟨rfl, hx1⟩
          rw [hfb]
          go_wp2
          go_ret
          exact ⟨by rw [HE.out, HY.out, hfb]; rfl, hx1⟩
/-- What Update does to an array. -/
def EUpdPost (w : World) (s b c : Nat) (C : Cfg) (lv : Int) (N : Nat) (l : List Int) (key d : Int) (e : Ending) (w' : World) : Prop :=
  e = .returned (.int .i64 (errX C lv l key d)) ∧
    ((errX C lv l key d = 0 ∧ EAt w' s b c C lv N (updX l key d) ∧ Mod (fun k => k = c) w w') ∨ (errX C lv l key d ≠ 0 ∧ Ext w w'))
theorem errX_zero {C : Cfg} {lv : Int} {l : List Int} {key d : Int} (h : errX C lv l key d = 0) : key < keys C lv ∧ I64 (l.getD key.toNat 0 + d) := by
  rcases Int.lt_or_le key (keys C lv) with h' | h'
  · refine ⟨h', ?_⟩
    by_cases hm : C.mode = 2 ∧ d < 0
    · rw [errX_neg h' hm.1 hm.2] at h; cases h
    · rw [errX_sum h' hm] at h
      by_cases hf : I64 (l.getD key.toNat 0 + d)
      · exact hf
      · rw [fitB_no hf] at h; cases h
  · rw [errX_key h'] at h; cases h
theorem EAt.setl {w : World} {s b c : Nat} {C : Cfg} {lv : Int} {N : Nat} {l : List Int} (h : EAt w s b c C lv N l) {i : Nat} (hi : i < l.length) {n : Int} (hn : I64 n) : EAt (w.setCell ⟨c, i, none⟩ (.int .i64 n)) s b c C lv N (l.set i n) :=
  ⟨by rw [setCell_other _ _ h.nes]; exact h.ex, h.g.set hi n, h.ok, h.lo, h.hi, h.hk, fun x hx => by
    rcases List.mem_or_eq_of_mem_set hx with h1 | h1
    · exact h.fit x h1
    · rw [h1]; exact hn⟩
set_option maxRecDepth 20000 in
set_option maxHeartbeats 2000000 in
theorem EUpdate_c (s b c : Nat) (C : Cfg) (lv : Int) (N : Nat) (l : List Int) (key d : Int) (w : World) (h : EAt w s b c C lv N l) (hd : I64 d) (hk : U64 key) :
    Calls Try.prog 216 #[.pointer (some ⟨s, 0, none⟩), .int .u64 key, .int .i64 d] w (EUpdPost w s b c C lv N l key d) := by
  by_cases he0 : errX C lv l key d = 0
  · have hz := errX_zero he0
    have hN := h.hk
    have w2' := h.g.w2
    have hkN : key < N := by omega
    have hsum := hz.2
    have hlen := h.len
    have HE := Lib.hid he0
    obtain ⟨hk0, hk1⟩ := hk
    clear he0 hz
    go_enter Try.func216, Try.ntmps216
    go_wp2_with fail
    refine (ECheck_c s b c C lv N l key d _ h hd ⟨hk0, hk1⟩).mono ?_
    rintro e w1 ⟨rfl, hx1⟩
    rw [HE.out]
    have h' := h.ext hx1
    have c6 := (cell_of h'.ex 6).trans rfl
    have hlt := h'.lts
    have hG := h'.g.ext (Below.drew (Ext.refl w1))
    obtain ⟨y, hyy⟩ : ∃ y, l.getD key.toNat 0 = y := ⟨_, rfl⟩
    have HY := Lib.hid hyy
    have HS := Lib.hid hsum
    rw [hyy] at hsum
    unfold I64 at hsum hd
    clear hyy hN
    have HH := Lib.hid h'
    clear h h'
    go_wp2
    have hC0 := af_drew w1
    refine pi_start (fun w' => ∃ x : After w1, w' = x.w) [15] (by kernel_rfl) ?_
    refine pi_t 0 rfl (by kernel_rfl) (by kernel_rfl) (fun _ _ _ _ h => h) (fun K hK => ?_)
    go_big_quiet_op
    refine hK _ ?_
    clear hK K
    refine pi_t 1 rfl (by kernel_rfl) (by kernel_rfl) (fun _ _ _ _ h => h) (fun K hK => ?_)
    go_big_quiet_op
    refine hK _ ?_
    clear hK K
    refine pi_t 2 rfl (by kernel_rfl) (by kernel_rfl) (fun _ _ _ _ h => h) (fun K hK => ?_)
    go_big_quiet_op
    refine hK _ ?_
    clear hK K
    refine pi_t 4 rfl (by kernel_rfl) (by kernel_rfl) (fun _ _ _ _ h => h) (fun K hK => ?_)
    go_big_quiet_op
    refine hK _ ?_
    clear hK K
    refine pi_t 5 rfl (by kernel_rfl) (by kernel_rfl) (fun _ _ _ _ h => h) (fun K hK => ?_)
    go_big_quiet_op
    refine hK _ ?_
    clear hK K
    refine pi_t 6 rfl (by kernel_rfl) (by kernel_rfl) (fun _ _ _ _ h => h) (fun K hK => ?_)
    go_big_quiet_op
    refine hK _ ?_
    clear hK K
    refine pi_t 7 rfl (by kernel_rfl) (by kernel_rfl) (fun _ _ _ _ h => h) (fun K hK => ?_)
    go_big_quiet_op
    refine hK _ ?_
    clear hK K
    refine pi_t 8 rfl (by kernel_rfl) (by kernel_rfl) (fun _ _ _ _ h => h) (fun K hK => ?_)
    go_big_quiet_op
    refine hK _ ?_
    clear hK K
    refine pi_t 10 rfl (by kernel_rfl) (by kernel_rfl) (fun _ _ _ _ h => h) (fun K hK => ?_)
    go_big_quiet_op
    refine hK _ ?_
    clear hK K
    refine pi_t 11 rfl (by kernel_rfl) (by kernel_rfl) (fun _ _ _ _ h => h) (fun K hK => ?_)
    go_big_quiet_op
    refine hK _ ?_
    clear hK K
    refine pi_t 13 rfl (by kernel_rfl) (by kernel_rfl) (fun _ _ _ _ h => h) (fun K hK => ?_)
    go_big_quiet_op
    refine hK _ ?_
    clear hK K
    refine pi_c 3 (by assumption) rfl (by kernel_rfl) (by kernel_rfl) (fun _ _ _ _ h => h) (fun K hK => ?_)
    go_big_quiet_op
    refine hK _ ?_
    clear hK K
    refine pi_l 9 rfl (by kernel_rfl) (fun K hK => ?_)
    go_wp2
    refine hK _ _ (fun _ h => h) ?_
    clear hK K
    refine pi_l 12 rfl (by kernel_rfl) (fun K hK => ?_)
    go_wp2_with (go_at_call 144; refine (At_k hG hk0 hkN).mono ?_; rintro e w2 ⟨rfl, rfl⟩; rw [HY.out])
    refine hK _ _ (fun _ h => h) ?_
    clear hK K
    refine pi_t 14 rfl (by kernel_rfl) (by kernel_rfl) (fun _ _ _ _ h => h) (fun K hK => ?_)
    go_big_quiet_op
    refine hK _ ?_
    clear hK K
    refine pi_l 15 rfl (by kernel_rfl) (fun K hK => ?_)
    go_wp2_with (go_at_call 145; refine (Put_k hG hk0 hkN (y + d)).mono ?_; rintro e w2 ⟨rfl, rfl⟩)
    refine hK _ _ (by simp) ?_
    clear hK K
    refine pi_end (by kernel_rfl) ?_
    go_wp2
    go_ret
    refine ⟨by rw [HE.out]; rfl, .inl ⟨HE.out, ?_, ?_⟩⟩
    · have := (HH.out.ext (Below.drew (Ext.refl w1))).setl (i := key.toNat) (by rw [hlen]; omega) (n := y + d) (by unfold I64; omega)
      unfold updX
      rw [HY.out]
      exact this
    · exact (hx1.mod _).trans ((Ext.mod _ (Below.drew (Ext.refl w1))).trans (mod_set _ _ _ _))
  · have hb : (errX C lv l key d == 0) = false := by simpa using he0
    go_enter Try.func216, Try.ntmps216
    go_wp2_with fail
    refine (ECheck_c s b c C lv N l key d _ h hd hk).mono ?_
    rintro e w0 ⟨rfl, hx00⟩
    go_wp2
    go_ret
    exact ⟨rfl, .inr ⟨he0, hx00⟩⟩
set_option maxRecDepth 20000 in
theorem EPoint_c (s b c : Nat) (C : Cfg) (lv : Int) (N : Nat) (l : List Int) (key : Int) (w : World) (h : EAt w s b c C lv N l) (hk0 : 0 ≤ key) (hk1 : key < keys C lv) :
    Calls Try.prog 215 #[.pointer (some ⟨s, 0, none⟩), .int .u64 key] w fun e w' => e = .returned (.tuple #[.int .i64 (l.getD key.toNat 0), .int .i64 0]) ∧ w = w' := by
  have c6 := (cell_of h.ex 6).trans rfl
  have hlt := h.lts
  have hG := h.g
  have w2' := h.g.w2
  have hkN : key < N := by rw [← h.hk]; exact hk1
  have HG := Lib.hid hG
  clear h hG hk1
  go_enter Try.func215, Try.ntmps215
  go_wp2_with fail
  refine (Width_c b c 1 N l _ HG.out).mono ?_
  rintro e w1 ⟨rfl, rfl⟩
  go_wp2_with fail
  refine (At_k HG.out hk0 hkN).mono ?_
  rintro e w1 ⟨rfl, rfl⟩
  go_wp2
  go_ret2
  exact ⟨rfl, rfl⟩
set_option maxRecDepth 20000 in
theorem EPoint_no (s b c : Nat) (C : Cfg) (lv : Int) (N : Nat) (l : List Int) (key : Int) (w : World) (h : EAt w s b c C lv N l) (hk : U64 key) (hk1 : keys C lv ≤ key) :
    Calls Try.prog 215 #[.pointer (some ⟨s, 0, none⟩), .int .u64 key] w fun e w' => e = .returned (.tuple #[.int .i64 0, .int .i64 2]) ∧ w = w' := by
  have c6 := (cell_of h.ex 6).trans rfl
  have hlt := h.lts
  have hG := h.g
  have w2' := h.g.w2
  have hkN : N ≤ key := by rw [← h.hk]; exact hk1
  have HG := Lib.hid hG
  obtain ⟨hk0, hk2⟩ := hk
  clear h hG hk1
  go_enter Try.func215, Try.ntmps215
  go_wp2_with fail
  refine (Width_c b c 1 N l _ HG.out).mono ?_
  rintro e w1 ⟨rfl, rfl⟩
  go_wp2
  go_ret2
  exact ⟨rfl, rfl⟩
set_option maxRecDepth 20000 in
set_option maxHeartbeats 2000000 in
theorem ECopy_c (s b c : Nat) (C : Cfg) (lv : Int) (N : Nat) (l : List Int) (w : World) (h : EAt w s b c C lv N l) :
    Calls Try.prog 133 #[.pointer (some ⟨s, 0, none⟩)] w fun e w' => ∃ s' b' c', e = .returned (.pointer (some ⟨s', 0, none⟩)) ∧ EAt w' s' b' c' C lv N l ∧ w.heap.size ≤ s' ∧ w.heap.size ≤ b' ∧ w.heap.size ≤ c' ∧ Ext w w' := by
  have c0 := (cell_of h.ex 0).trans rfl
  have c1 := (cell_of h.ex 1).trans rfl
  have c2 := (cell_of h.ex 2).trans rfl
  have c3 := (cell_of h.ex 3).trans rfl
  have c4 := (cell_of h.ex 4).trans rfl
  have c5 := (cell_of h.ex 5).trans rfl
  have c6 := (cell_of h.ex 6).trans rfl
  have hlt := h.lts
  have hG := h.g.ext (Below.drew (Ext.refl w))
  have HH := Lib.hid h
  clear h
  go_enter Try.func133, Try.ntmps133
  go_wp2
  have hC0 := af_drew w
  refine pi_start (fun w' => ∃ x : After w, w' = x.w) [] (by kernel_rfl) ?_
  refine pi_t 0 rfl (by kernel_rfl) (by kernel_rfl) (fun _ _ _ _ h => h) (fun K hK => ?_)
  go_big_quiet_op
  refine hK _ ?_
  clear hK K
  refine pi_t 1 rfl (by kernel_rfl) (by kernel_rfl) (fun _ _ _ _ h => h) (fun K hK => ?_)
  go_big_quiet_op
  refine hK _ ?_
  clear hK K
  refine pi_t 2 rfl (by kernel_rfl) (by kernel_rfl) (fun _ _ _ _ h => h) (fun K hK => ?_)
  go_big_quiet_op
  refine hK _ ?_
  clear hK K
  refine pi_t 4 rfl (by kernel_rfl) (by kernel_rfl) (fun _ _ _ _ h => h) (fun K hK => ?_)
  go_big_quiet_op
  refine hK _ ?_
  clear hK K
  refine pi_t 5 rfl (by kernel_rfl) (by kernel_rfl) (fun _ _ _ _ h => h) (fun K hK => ?_)
  go_big_quiet_op
  refine hK _ ?_
  clear hK K
  refine pi_t 6 rfl (by kernel_rfl) (by kernel_rfl) (fun _ _ _ _ h => h) (fun K hK => ?_)
  go_big_quiet_op
  refine hK _ ?_
  clear hK K
  refine pi_t 8 rfl (by kernel_rfl) (by kernel_rfl) (fun _ _ _ _ h => h) (fun K hK => ?_)
  go_big_quiet_op
  refine hK _ ?_
  clear hK K
  refine pi_t 9 rfl (by kernel_rfl) (by kernel_rfl) (fun _ _ _ _ h => h) (fun K hK => ?_)
  go_big_quiet_op
  refine hK _ ?_
  clear hK K
  refine pi_t 10 rfl (by kernel_rfl) (by kernel_rfl) (fun _ _ _ _ h => h) (fun K hK => ?_)
  go_big_quiet_op
  refine hK _ ?_
  clear hK K
  refine pi_c 3 (by assumption) rfl (by kernel_rfl) (by kernel_rfl) (fun _ _ _ _ h => h) (fun K hK => ?_)
  go_big_quiet_op
  refine hK _ ?_
  clear hK K
  refine pi_c 7 (by assumption) rfl (by kernel_rfl) (by kernel_rfl) (fun _ _ _ _ h => h) (fun K hK => ?_)
  go_big_quiet_op
  refine hK _ ?_
  clear hK K
  refine pi_c 11 (by assumption) rfl (by kernel_rfl) (by kernel_rfl) (fun _ _ _ _ h => h) (fun K hK => ?_)
  go_big_quiet_op
  refine hK _ ?_
  clear hK K
  refine pi_l 12 rfl (by kernel_rfl) (fun K hK => ?_)
  go_wp2_with (go_at_call 114; refine (GCopy_c b c 1 N l _ hG).mono ?_; rintro e w1 ⟨b', c', rfl, hg', hb', hc', hx1⟩)
  refine hK _ _ (fun _ h => af_step h hx1) ?_
  clear hK K
  refine pi_t 13 rfl (by kernel_rfl) (by kernel_rfl) (fun _ _ _ _ h => h) (fun K hK => ?_)
  go_big_quiet_op
  refine hK _ ?_
  clear hK K
  refine pi_l 14 rfl (by kernel_rfl) (fun K hK => ?_)
  go_wp2
  refine hK _ _ (fun _ h => af_step h (Ext.alloc' _ _)) ?_
  clear hK K
  refine pi_t 15 rfl (by kernel_rfl) (by kernel_rfl) (fun _ _ _ _ h => h) (fun K hK => ?_)
  go_big_quiet_op
  refine hK _ ?_
  clear hK K
  refine pi_end (by kernel_rfl) ?_
  go_wp2
  go_ret
  have hx1' : Ext w w1 := Ext.trans' (Below.drew (Ext.refl w)) hx1
  have hs1 := hx1'.size
  have H := HH.out
  refine ⟨w1.heap.size, b', c', rfl, ⟨heap_at _ _ rfl, hg'.keep (heap_old _ _ hg'.ltb) (heap_old _ _ hg'.ltc), H.ok, H.lo, H.hi, H.hk, H.fit⟩, hs1, hb', hc', by (repeat' (first | exact Ext.refl _ | assumption | apply Ext.allocR | apply Ext.drewR | apply Ext.drewNR | (refine Ext.trans' ?_ (by assumption))))⟩
set_option maxRecDepth 20000 in
set_option maxHeartbeats 2000000 in
theorem SCopy_c (s b c : Nat) (C : Cfg) (lv : Int) (R W : Nat) (l : List Int) (w : World) (h : SAt w s b c C lv R W l) :
    Calls Try.prog 40 #[.pointer (some ⟨s, 0, none⟩)] w fun e w' => ∃ s' b' c', e = .returned (.pointer (some ⟨s', 0, none⟩)) ∧ SAt w' s' b' c' C lv R W l ∧ w.heap.size ≤ s' ∧ w.heap.size ≤ b' ∧ w.heap.size ≤ c' ∧ Ext w w' := by
  have c0 := (cell_of h.ex 0).trans rfl
  have c1 := (cell_of h.ex 1).trans rfl
  have c2 := (cell_of h.ex 2).trans rfl
  have c3 := (cell_of h.ex 3).trans rfl
  have c4 := (cell_of h.ex 4).trans rfl
  have c5 := (cell_of h.ex 5).trans rfl
  have c6 := (cell_of h.ex 6).trans rfl
  have hlt := h.lts
  have hG := h.g.ext (Below.drew (Ext.refl w))
  have HH := Lib.hid h
  clear h
  go_enter Try.func40, Try.ntmps40
  go_wp2
  have hC0 := af_drew w
  refine pi_start (fun w' => ∃ x : After w, w' = x.w) [] (by kernel_rfl) ?_
  refine pi_t 0 rfl (by kernel_rfl) (by kernel_rfl) (fun _ _ _ _ h => h) (fun K hK => ?_)
  go_big_quiet_op
  refine hK _ ?_
  clear hK K
  refine pi_t 1 rfl (by kernel_rfl) (by kernel_rfl) (fun _ _ _ _ h => h) (fun K hK => ?_)
  go_big_quiet_op
  refine hK _ ?_
  clear hK K
  refine pi_t 2 rfl (by kernel_rfl) (by kernel_rfl) (fun _ _ _ _ h => h) (fun K hK => ?_)
  go_big_quiet_op
  refine hK _ ?_
  clear hK K
  refine pi_t 3 rfl (by kernel_rfl) (by kernel_rfl) (fun _ _ _ _ h => h) (fun K hK => ?_)
  go_big_quiet_op
  refine hK _ ?_
  clear hK K
  refine pi_t 7 rfl (by kernel_rfl) (by kernel_rfl) (fun _ _ _ _ h => h) (fun K hK => ?_)
  go_big_quiet_op
  refine hK _ ?_
  clear hK K
  refine pi_t 8 rfl (by kernel_rfl) (by kernel_rfl) (fun _ _ _ _ h => h) (fun K hK => ?_)
  go_big_quiet_op
  refine hK _ ?_
  clear hK K
  refine pi_t 9 rfl (by kernel_rfl) (by kernel_rfl) (fun _ _ _ _ h => h) (fun K hK => ?_)
  go_big_quiet_op
  refine hK _ ?_
  clear hK K
  refine pi_t 11 rfl (by kernel_rfl) (by kernel_rfl) (fun _ _ _ _ h => h) (fun K hK => ?_)
  go_big_quiet_op
  refine hK _ ?_
  clear hK K
  refine pi_t 12 rfl (by kernel_rfl) (by kernel_rfl) (fun _ _ _ _ h => h) (fun K hK => ?_)
  go_big_quiet_op
  refine hK _ ?_
  clear hK K
  refine pi_t 13 rfl (by kernel_rfl) (by kernel_rfl) (fun _ _ _ _ h => h) (fun K hK => ?_)
  go_big_quiet_op
  refine hK _ ?_
  clear hK K
  refine pi_c 4 (by assumption) rfl (by kernel_rfl) (by kernel_rfl) (fun _ _ _ _ h => h) (fun K hK => ?_)
  go_big_quiet_op
  refine hK _ ?_
  clear hK K
  refine pi_c 10 (by assumption) rfl (by kernel_rfl) (by kernel_rfl) (fun _ _ _ _ h => h) (fun K hK => ?_)
  go_big_quiet_op
  refine hK _ ?_
  clear hK K
  refine pi_c 14 (by assumption) rfl (by kernel_rfl) (by kernel_rfl) (fun _ _ _ _ h => h) (fun K hK => ?_)
  go_big_quiet_op
  refine hK _ ?_
  clear hK K
  refine pi_l 5 rfl (by kernel_rfl) (fun K hK => ?_)
  go_wp2_with (go_at_call 114; refine (GCopy_c b c R W l _ hG).mono ?_; rintro e w1 ⟨b', c', rfl, hg', hb', hc', hx1⟩)
  refine hK _ _ (fun _ h => af_step h hx1) ?_
  clear hK K
  refine pi_t 6 rfl (by kernel_rfl) (by kernel_rfl) (fun _ _ _ _ h => h) (fun K hK => ?_)
  go_big_quiet_op
  refine hK _ ?_
  clear hK K
  refine pi_t 15 rfl (by kernel_rfl) (by kernel_rfl) (fun _ _ _ _ h => h) (fun K hK => ?_)
  go_big_quiet_op
  refine hK _ ?_
  clear hK K
  refine pi_l 16 rfl (by kernel_rfl) (fun K hK => ?_)
  go_wp2
  refine hK _ _ (fun _ h => af_step h (Ext.alloc' _ _)) ?_
  clear hK K
  refine pi_t 17 rfl (by kernel_rfl) (by kernel_rfl) (fun _ _ _ _ h => h) (fun K hK => ?_)
  go_big_quiet_op
  refine hK _ ?_
  clear hK K
  refine pi_end (by kernel_rfl) ?_
  go_wp2
  go_ret
  have hx1' : Ext w w1 := Ext.trans' (Below.drew (Ext.refl w)) hx1
  have hs1 := hx1'.size
  have H := HH.out
  refine ⟨w1.heap.size, b', c', rfl, ⟨heap_at _ _ rfl, hg'.keep (heap_old _ _ hg'.ltb) (heap_old _ _ hg'.ltc), H.ok, H.lo, H.hi, H.hr, H.hw, H.fit⟩, hs1, hb', hc', by (repeat' (first | exact Ext.refl _ | assumption | apply Ext.allocR | apply Ext.drewR | apply Ext.drewNR | (refine Ext.trans' ?_ (by assumption))))⟩
end Go.Proofs.Ytpnbgoahjoabkaa

/- Package level: a level is an array or a sketch that lies in memory. -/
namespace Go.Proofs.Ytpnbgoahjoabkaa
set_option linter.unusedVariables false
open Go.RowKit

def rN (C : Cfg) : Nat := C.rows.toNat
def wN (C : Cfg) : Nat := C.width.toNat
theorem rN_eq {C : Cfg} (h : C.Ok) : C.rows = (rN C : Int) := by have := h.r1; unfold rN; omega
theorem wN_eq {C : Cfg} (h : C.Ok) : C.width = (wN C : Int) := by have := h.w1; unfold wN; omega
/-- How many cells a level has. -/
def lvN (C : Cfg) (lv : Int) : Nat := bif isX C lv then kN C lv else rN C * wN C
/-- Where a level lies: what it is, its grid, its cells. -/
structure Lev where
  s : Nat
  b : Nat
  c : Nat
def LvAt (w : World) (L : Lev) (C : Cfg) (lv : Int) (l : List Int) : Prop :=
  (isX C lv = true ∧ EAt w L.s L.b L.c C lv (kN C lv) l) ∨ (isX C lv = false ∧ SAt w L.s L.b L.c C lv (rN C) (wN C) l)
def lvT (C : Cfg) (lv : Int) : TypeId := bif isX C lv then 174 else 30
def lvV (C : Cfg) (lv : Int) (L : Lev) : Value := .iface (lvT C lv) (.pointer (some ⟨L.s, 0, none⟩))
theorem lvV_x {C : Cfg} {lv : Int} (h : isX C lv = true) (L : Lev) : lvV C lv L = .iface 174 (.pointer (some ⟨L.s, 0, none⟩)) := by unfold lvV lvT; rw [h]; rfl
theorem lvV_s {C : Cfg} {lv : Int} (h : isX C lv = false) (L : Lev) : lvV C lv L = .iface 30 (.pointer (some ⟨L.s, 0, none⟩)) := by unfold lvV lvT; rw [h]; rfl
theorem LvAt.x {w : World} {L : Lev} {C : Cfg} {lv : Int} {l : List Int} (h : LvAt w L C lv l) (hx : isX C lv = true) : EAt w L.s L.b L.c C lv (kN C lv) l := by
  rcases h with ⟨_, h⟩ | ⟨h, _⟩
  · exact h
  · rw [hx] at h; cases h
theorem LvAt.sk {w : World} {L : Lev} {C : Cfg} {lv : Int} {l : List Int} (h : LvAt w L C lv l) (hx : isX C lv = false) : SAt w L.s L.b L.c C lv (rN C) (wN C) l := by
  rcases h with ⟨h, _⟩ | ⟨_, h⟩
  · rw [hx] at h; cases h
  · exact h
theorem LvAt.lts {w : World} {L : Lev} {C : Cfg} {lv : Int} {l : List Int} (h : LvAt w L C lv l) : L.s < w.heap.size := by
  rcases h with ⟨_, h⟩ | ⟨_, h⟩ <;> exact h.lts
theorem LvAt.ltb {w : World} {L : Lev} {C : Cfg} {lv : Int} {l : List Int} (h : LvAt w L C lv l) : L.b < w.heap.size := by
  rcases h with ⟨_, h⟩ | ⟨_, h⟩ <;> exact h.g.ltb
theorem LvAt.ltc {w : World} {L : Lev} {C : Cfg} {lv : Int} {l : List Int} (h : LvAt w L C lv l) : L.c < w.heap.size := by
  rcases h with ⟨_, h⟩ | ⟨_, h⟩ <;> exact h.g.ltc
theorem LvAt.ok {w : World} {L : Lev} {C : Cfg} {lv : Int} {l : List Int} (h : LvAt w L C lv l) : C.Ok := by
  rcases h with ⟨_, h⟩ | ⟨_, h⟩ <;> exact h.ok
theorem LvAt.lo {w : World} {L : Lev} {C : Cfg} {lv : Int} {l : List Int} (h : LvAt w L C lv l) : 0 ≤ lv := by
  rcases h with ⟨_, h⟩ | ⟨_, h⟩ <;> exact h.lo
theorem LvAt.hi {w : World} {L : Lev} {C : Cfg} {lv : Int} {l : List Int} (h : LvAt w L C lv l) : lv ≤ C.bits := by
  rcases h with ⟨_, h⟩ | ⟨_, h⟩ <;> exact h.hi
theorem LvAt.fit {w : World} {L : Lev} {C : Cfg} {lv : Int} {l : List Int} (h : LvAt w L C lv l) : ∀ x ∈ l, I64 x := by
  rcases h with ⟨_, h⟩ | ⟨_, h⟩ <;> exact h.fit
theorem LvAt.len {w : World} {L : Lev} {C : Cfg} {lv : Int} {l : List Int} (h : LvAt w L C lv l) : l.length = lvN C lv := by
  unfold lvN
  rcases h with ⟨hx, h⟩ | ⟨hx, h⟩
  · rw [hx]; exact h.len
  · rw [hx]; exact h.g.len
theorem LvAt.keep {w w' : World} {L : Lev} {C : Cfg} {lv : Int} {l : List Int} (h : LvAt w L C lv l) (hs : w'.heap[L.s]? = w.heap[L.s]?) (hb : w'.heap[L.b]? = w.heap[L.b]?) (hc : w'.heap[L.c]? = w.heap[L.c]?) : LvAt w' L C lv l := by
  rcases h with ⟨hx, h⟩ | ⟨hx, h⟩
  · exact .inl ⟨hx, h.keep hs hb hc⟩
  · exact .inr ⟨hx, h.keep hs hb hc⟩
theorem LvAt.ext {w w' : World} {L : Lev} {C : Cfg} {lv : Int} {l : List Int} (h : LvAt w L C lv l) (he : Ext w w') : LvAt w' L C lv l :=
  h.keep (he.block _ h.lts) (he.block _ h.ltb) (he.block _ h.ltc)
/-- A block of cells is a block of int64. -/
theorem LvAt.isc {w : World} {L : Lev} {C : Cfg} {lv : Int} {l : List Int} (h : LvAt w L C lv l) : ∃ cur, w.heap[L.c]? = some (.cells cur 2 (0, 0)) := by
  rcases h with ⟨_, h⟩ | ⟨_, h⟩ <;> (obtain ⟨cap, _, h2⟩ := h.g.ex; obtain ⟨cur, h3, _⟩ := h2.ex; exact ⟨cur, h3⟩)
theorem LvAt.iss {w : World} {L : Lev} {C : Cfg} {lv : Int} {l : List Int} (h : LvAt w L C lv l) : ∃ cur t, w.heap[L.s]? = some (.cells cur t (0, 0)) ∧ t ≠ 2 := by
  rcases h with ⟨_, h⟩ | ⟨_, h⟩ <;> exact ⟨_, _, h.ex, by decide⟩
theorem LvAt.isb {w : World} {L : Lev} {C : Cfg} {lv : Int} {l : List Int} (h : LvAt w L C lv l) : ∃ cur t, w.heap[L.b]? = some (.cells cur t (0, 0)) ∧ t ≠ 2 := by
  rcases h with ⟨_, h⟩ | ⟨_, h⟩ <;> (obtain ⟨cap, h1, _⟩ := h.g.ex; exact ⟨_, _, h1, by decide⟩)
theorem blk_ne {w : World} {i j : Nat} {cur cur' : Array Value} {t t' : TypeId} {f f' : Nat × Nat} (h : w.heap[i]? = some (.cells cur t f)) (h' : w.heap[j]? = some (.cells cur' t' f')) (ht : t ≠ t') : i ≠ j := by
  intro e
  subst e
  rw [h] at h'
  injection h' with h'
  injection h' with _ h' _
  exact ht h'
/-- What another level's cells are changed to does not touch a level. -/
theorem LvAt.mod {S : Nat → Prop} {w w' : World} {L : Lev} {C : Cfg} {lv : Int} {l : List Int} (h : LvAt w L C lv l) (he : Mod S w w') (hS : ∀ k, S k → k < w.heap.size → ∃ cur, w.heap[k]? = some (.cells cur 2 (0, 0))) (hc : ¬ S L.c) : LvAt w' L C lv l := by
  refine h.keep (he.block _ h.lts fun hs => ?_) (he.block _ h.ltb fun hs => ?_) (he.block _ h.ltc hc)
  · obtain ⟨cur, t, h1, h2⟩ := h.iss
    obtain ⟨cur', h3⟩ := hS _ hs h.lts
    exact blk_ne h1 h3 h2 rfl
  · obtain ⟨cur, t, h1, h2⟩ := h.isb
    obtain ⟨cur', h3⟩ := hS _ hs h.ltb
    exact blk_ne h1 h3 h2 rfl
/-- Is a level an array, or a sketch? -/
@[go_sem] theorem ta_xx (p : Option Addr) (w : World) : (Instr.typeAssert (.iface 174 (.pointer p)) 88 174 true).run Try.prog w = .ok (.tuple #[.pointer p, .bool true]) w := by kernel_rfl
@[go_sem] theorem ta_xs (p : Option Addr) (w : World) : (Instr.typeAssert (.iface 174 (.pointer p)) 88 30 true).run Try.prog w = .ok (.tuple #[.pointer none, .bool false]) w := by kernel_rfl
@[go_sem] theorem ta_sx (p : Option Addr) (w : World) : (Instr.typeAssert (.iface 30 (.pointer p)) 88 174 true).run Try.prog w = .ok (.tuple #[.pointer none, .bool false]) w := by kernel_rfl
@[go_sem] theorem ta_ss (p : Option Addr) (w : World) : (Instr.typeAssert (.iface 30 (.pointer p)) 88 30 true).run Try.prog w = .ok (.tuple #[.pointer p, .bool true]) w := by kernel_rfl
@[go_sem] theorem ta_nx (w : World) : (Instr.typeAssert .nilIface 88 174 true).run Try.prog w = .ok (.tuple #[.pointer none, .bool false]) w := by kernel_rfl
@[go_sem] theorem ta_ns (w : World) : (Instr.typeAssert .nilIface 88 30 true).run Try.prog w = .ok (.tuple #[.pointer none, .bool false]) w := by kernel_rfl
@[go_sem] theorem tm_ss (p : Option Addr) (w : World) : (Instr.typeAssert (.iface 30 (.pointer p)) 88 30 false).run Try.prog w = .ok (.pointer p) w := by kernel_rfl
def LNewPost (w : World) (C : Cfg) (lv : Int) (e : Ending) (w' : World) : Prop :=
  ∃ L : Lev, e = .returned (.tuple #[lvV C lv L, .int .i64 0]) ∧ LvAt w' L C lv (zs (lvN C lv)) ∧ w.heap.size ≤ L.s ∧ w.heap.size ≤ L.b ∧ w.heap.size ≤ L.c ∧ Ext w w'
set_option maxRecDepth 20000 in
set_option maxHeartbeats 2000000 in
theorem LNew_c (C : Cfg) (h : C.Ok) (lv : Int) (h0 : 0 ≤ lv) (h1 : lv ≤ C.bits) (w : World) :
    Calls Try.prog 65 #[.agg #[.int .i64 C.bits, .int .i64 C.rows, .int .i64 C.width, .int .i64 C.mode, .int .u64 C.seed], .int .i64 lv] w (LNewPost w C lv) := by
  cases hx : isX C lv with
  | true =>
    have HX := Lib.hid hx
    clear hx
    go_enter Try.func65, Try.ntmps65
    go_wp2_with fail
    refine (Exact_c C h lv h0 h1 _).mono ?_
    rintro e w1 ⟨rfl, hb⟩
    rw [HX.out]
    have hE : Ext w w1 := by (repeat' (first | exact Ext.refl _ | assumption | apply Ext.allocR | apply Ext.drewR | apply Ext.drewNR | (refine Ext.trans' ?_ (by assumption))))
    have hC := (CfgAt.box (w := w) C 24 rfl).ext hb
    have d0 := hC.c0
    have d1 := hC.c1
    have d2 := hC.c2
    have d3 := hC.c3
    have d4 := hC.c4
    have cl := hC.lt
    have hs := hE.size
    clear hb hC
    go_wp2_with fail
    refine (ENew_c C h lv h0 h1 (kN C lv) (kN_eq h h0) HX.out _).mono ?_
    rintro e w2 ⟨s, b, c, rfl, hA, hs1, hb1, hc1, hx2⟩
    go_wp2
    go_ret2
    refine ⟨⟨s, b, c⟩, by rw [lvV_x HX.out]; rfl, .inl ⟨HX.out, ?_⟩, Nat.le_trans hs hs1, Nat.le_trans hs hb1, Nat.le_trans hs hc1, hE.trans' hx2⟩
    unfold lvN; rw [HX.out]; exact hA
  | false =>
    have HX := Lib.hid hx
    clear hx
    go_enter Try.func65, Try.ntmps65
    go_wp2_with fail
    refine (Exact_c C h lv h0 h1 _).mono ?_
    rintro e w1 ⟨rfl, hb⟩
    rw [HX.out]
    have hE : Ext w w1 := by (repeat' (first | exact Ext.refl _ | assumption | apply Ext.allocR | apply Ext.drewR | apply Ext.drewNR | (refine Ext.trans' ?_ (by assumption))))
    have hC := (CfgAt.box (w := w) C 24 rfl).ext hb
    have d0 := hC.c0
    have d1 := hC.c1
    have d2 := hC.c2
    have d3 := hC.c3
    have d4 := hC.c4
    have cl := hC.lt
    have hs := hE.size
    clear hb hC
    go_wp2_with fail
    refine (SNew_c C h lv h0 h1 (rN C) (wN C) (rN_eq h) (wN_eq h) _).mono ?_
    rintro e w2 ⟨s, b, c, rfl, hA, hs1, hb1, hc1, hx2⟩
    go_wp2
    go_ret2
    refine ⟨⟨s, b, c⟩, by rw [lvV_s HX.out]; rfl, .inr ⟨HX.out, ?_⟩, Nat.le_trans hs hs1, Nat.le_trans hs hb1, Nat.le_trans hs hc1, hE.trans' hx2⟩
    unfold lvN; rw [HX.out]; exact hA
def LCopyPost (w : World) (C : Cfg) (lv : Int) (l : List Int) (e : Ending) (w' : World) : Prop :=
  ∃ L' : Lev, e = .returned (lvV C lv L') ∧ LvAt w' L' C lv l ∧ w.heap.size ≤ L'.s ∧ w.heap.size ≤ L'.b ∧ w.heap.size ≤ L'.c ∧ Ext w w'
set_option maxRecDepth 20000 in
set_option maxHeartbeats 2000000 in
theorem LCopy_c (C : Cfg) (lv : Int) (L : Lev) (l : List Int) (w : World) (h : LvAt w L C lv l) :
    Calls Try.prog 81 #[lvV C lv L] w (LCopyPost w C lv l) := by
  cases hx : isX C lv with
  | true =>
    have hA := h.x hx
    have HX := Lib.hid hx
    rw [lvV_x hx]
    clear hx
    go_enter Try.func81, Try.ntmps81
    go_wp2_with fail
    refine (ECopy_c L.s L.b L.c C lv _ l _ hA).mono ?_
    rintro e w1 ⟨s', b', c', rfl, hA', h1, h2, h3, hx1⟩
    go_wp2
    go_ret
    exact ⟨⟨s', b', c'⟩, by rw [lvV_x HX.out]; rfl, .inl ⟨HX.out, hA'⟩, h1, h2, h3, hx1⟩
  | false =>
    have hA := h.sk hx
    have HX := Lib.hid hx
    rw [lvV_s hx]
    clear hx
    go_enter Try.func81, Try.ntmps81
    go_wp2_with fail
    refine (SCopy_c L.s L.b L.c C lv _ _ l _ hA).mono ?_
    rintro e w1 ⟨s', b', c', rfl, hA', h1, h2, h3, hx1⟩
    go_wp2
    go_ret
    exact ⟨⟨s', b', c'⟩, by rw [lvV_s HX.out]; rfl, .inr ⟨HX.out, hA'⟩, h1, h2, h3, hx1⟩
set_option maxRecDepth 20000 in
theorem LCopy_nil (w : World) :
    Calls Try.prog 81 #[.nilIface] w fun e w' => e = .returned .nilIface ∧ w = w' := by
  go_enter Try.func81, Try.ntmps81
  go_wp2
  go_ret
  exact ⟨rfl, rfl⟩
set_option maxRecDepth 20000 in
theorem AsSketch_x (s : Nat) (w : World) :
    Calls Try.prog 66 #[.iface 174 (.pointer (some ⟨s, 0, none⟩))] w fun e w' => e = .returned (.tuple #[.pointer none, .bool false]) ∧ w = w' := by
  go_enter Try.func66, Try.ntmps66
  go_wp2
  go_ret2
  exact ⟨rfl, rfl⟩
set_option maxRecDepth 20000 in
theorem AsSketch_s (s : Nat) (w : World) :
    Calls Try.prog 66 #[.iface 30 (.pointer (some ⟨s, 0, none⟩))] w fun e w' => e = .returned (.tuple #[.pointer (some ⟨s, 0, none⟩), .bool true]) ∧ w = w' := by
  go_enter Try.func66, Try.ntmps66
  go_wp2
  go_ret2
  exact ⟨rfl, rfl⟩
set_option maxRecDepth 20000 in
theorem MustSketch_s (s : Nat) (w : World) :
    Calls Try.prog 67 #[.iface 30 (.pointer (some ⟨s, 0, none⟩))] w fun e w' => e = .returned (.pointer (some ⟨s, 0, none⟩)) ∧ w = w' := by
  go_enter Try.func67, Try.ntmps67
  go_wp2
  go_ret
  exact ⟨rfl, rfl⟩
end Go.Proofs.Ytpnbgoahjoabkaa

/- Package stack: a stack that lies in memory; what its calls tell. -/
namespace Go.Proofs.Ytpnbgoahjoabkaa
set_option linter.unusedVariables false
open Go.RowKit

/-- A stack at s: its levels lie at L, and have the cells ls. -/
structure KAt (w : World) (s g : Nat) (C : Cfg) (B : Nat) (L : Nat → Lev) (ls : Nat → List Int) : Prop where
  ex : ∃ cap, w.heap[s]? = some (.cells #[.int .i64 C.bits, .int .i64 C.rows, .int .i64 C.width, .int .i64 C.mode, .int .u64 C.seed, .slice (some ⟨g, 0, none⟩) (B + 1) cap] 170 (0, 0)) ∧ B + 1 ≤ cap
  row : ∃ cur, w.heap[g]? = some (.cells cur 88 (0, 0)) ∧ ∀ n, n ≤ B → cur[n]? = some (lvV C n (L n))
  lev : ∀ n, n ≤ B → LvAt w (L n) C n (ls n)
  sep : ∀ m n, m ≤ B → n ≤ B → m ≠ n → (L m).c ≠ (L n).c
  ok : C.Ok
  hB : C.bits = B
/-- The blocks of its cells. -/
def cellsOf (B : Nat) (L : Nat → Lev) (k : Nat) : Prop := ∃ n, n ≤ B ∧ k = (L n).c
theorem KAt.lts {w : World} {s g : Nat} {C : Cfg} {B : Nat} {L : Nat → Lev} {ls : Nat → List Int} (h : KAt w s g C B L ls) : s < w.heap.size := by
  obtain ⟨cap, h1, _⟩ := h.ex; exact lt_of h1
theorem KAt.ltg {w : World} {s g : Nat} {C : Cfg} {B : Nat} {L : Nat → Lev} {ls : Nat → List Int} (h : KAt w s g C B L ls) : g < w.heap.size := by
  obtain ⟨cur, h1, _⟩ := h.row; exact lt_of h1
theorem KAt.cell {w : World} {s g : Nat} {C : Cfg} {B : Nat} {L : Nat → Lev} {ls : Nat → List Int} (h : KAt w s g C B L ls) {n : Nat} (hn : n ≤ B) : w.cell? ⟨g, n, none⟩ = some (lvV C n (L n)) := by
  obtain ⟨cur, h1, h2⟩ := h.row; rw [cell_of h1]; exact h2 n hn
theorem KAt.isc {w : World} {s g : Nat} {C : Cfg} {B : Nat} {L : Nat → Lev} {ls : Nat → List Int} (h : KAt w s g C B L ls) {k : Nat} (hk : cellsOf B L k) : ∃ cur, w.heap[k]? = some (.cells cur 2 (0, 0)) := by
  obtain ⟨n, hn, rfl⟩ := hk; exact (h.lev n hn).isc
theorem KAt.ltc {w : World} {s g : Nat} {C : Cfg} {B : Nat} {L : Nat → Lev} {ls : Nat → List Int} (h : KAt w s g C B L ls) {k : Nat} (hk : cellsOf B L k) : k < w.heap.size := by
  obtain ⟨n, hn, rfl⟩ := hk; exact (h.lev n hn).ltc
theorem KAt.nots {w : World} {s g : Nat} {C : Cfg} {B : Nat} {L : Nat → Lev} {ls : Nat → List Int} (h : KAt w s g C B L ls) : ¬ cellsOf B L s := by
  intro hk
  obtain ⟨cur, h1⟩ := h.isc hk
  obtain ⟨cap, h2, _⟩ := h.ex
  exact blk_ne h1 h2 (by decide) rfl
theorem KAt.notg {w : World} {s g : Nat} {C : Cfg} {B : Nat} {L : Nat → Lev} {ls : Nat → List Int} (h : KAt w s g C B L ls) : ¬ cellsOf B L g := by
  intro hk
  obtain ⟨cur, h1⟩ := h.isc hk
  obtain ⟨cur', h2, _⟩ := h.row
  exact blk_ne h1 h2 (by decide) rfl
theorem KAt.ext {w w' : World} {s g : Nat} {C : Cfg} {B : Nat} {L : Nat → Lev} {ls : Nat → List Int} (h : KAt w s g C B L ls) (he : Ext w w') : KAt w' s g C B L ls :=
  ⟨by rw [he.block s h.lts]; exact h.ex, by rw [he.block g h.ltg]; exact h.row, fun n hn => (h.lev n hn).ext he, h.sep, h.ok, h.hB⟩
/-- What other cells are changed to does not touch a stack. -/
theorem KAt.mod {S : Nat → Prop} {w w' : World} {s g : Nat} {C : Cfg} {B : Nat} {L : Nat → Lev} {ls : Nat → List Int} (h : KAt w s g C B L ls) (he : Mod S w w') (hS : ∀ k, S k → k < w.heap.size → ∃ cur, w.heap[k]? = some (.cells cur 2 (0, 0))) (hc : ∀ n, n ≤ B → ¬ S (L n).c) : KAt w' s g C B L ls := by
  refine ⟨?_, ?_, fun n hn => (h.lev n hn).mod he hS (hc n hn), h.sep, h.ok, h.hB⟩
  · rw [he.block s h.lts fun hs => ?_]
    · exact h.ex
    · obtain ⟨cur, h1⟩ := hS _ hs h.lts
      obtain ⟨cap, h2, _⟩ := h.ex
      exact blk_ne h1 h2 (by decide) rfl
  · rw [he.block g h.ltg fun hs => ?_]
    · exact h.row
    · obtain ⟨cur, h1⟩ := hS _ hs h.ltg
      obtain ⟨cur', h2, _⟩ := h.row
      exact blk_ne h1 h2 (by decide) rfl
theorem SKConfig_c (s g : Nat) (C : Cfg) (B : Nat) (L : Nat → Lev) (ls : Nat → List Int) (w : World) (h : KAt w s g C B L ls) :
    Calls Try.prog 60 #[.pointer (some ⟨s, 0, none⟩)] w fun e w' => e = .returned (.agg #[.int .i64 C.bits, .int .i64 C.rows, .int .i64 C.width, .int .i64 C.mode, .int .u64 C.seed]) ∧ Ext w w' := by
  have hlt := h.lts
  obtain ⟨cap, hex, _⟩ := h.ex
  have c0 := (cell_of hex 0).trans rfl
  have c1 := (cell_of hex 1).trans rfl
  have c2 := (cell_of hex 2).trans rfl
  have c3 := (cell_of hex 3).trans rfl
  have c4 := (cell_of hex 4).trans rfl
  clear h hex
  go_enter Try.func60, Try.ntmps60
  go_wp2
  exact bodyPost_ret (v := .agg #[.int .i64 C.bits, .int .i64 C.rows, .int .i64 C.width, .int .i64 C.mode, .int .u64 C.seed]) (by simp [results, Try.results60, go_sem]) rfl ⟨rfl, by (repeat' (first | exact Ext.refl _ | assumption | apply Ext.allocR | apply Ext.drewR | apply Ext.drewNR | (refine Ext.trans' ?_ (by assumption))))⟩
set_option maxRecDepth 20000 in
theorem level_yes (s g : Nat) (C : Cfg) (B : Nat) (L : Nat → Lev) (ls : Nat → List Int) (w : World) (h : KAt w s g C B L ls) (n : Nat) (hn : n ≤ B) :
    Calls Try.prog 119 #[.pointer (some ⟨s, 0, none⟩), .int .i64 n] w fun e w' => e = .returned (.tuple #[lvV C n (L n), .bool true]) ∧ w = w' := by
  have hlt := h.lts
  have hlg := h.ltg
  obtain ⟨cap, hex, hcap⟩ := h.ex
  have c5 := (cell_of hex 5).trans rfl
  have cn := h.cell hn
  have hbt := h.ok.b2
  have hB := h.hB
  generalize lvV C n (L n) = v at *
  clear h hex
  go_enter Try.func119, Try.ntmps119
  go_wp2
  go_ret2
  exact ⟨rfl, rfl⟩
set_option maxRecDepth 20000 in
theorem level_no (s g : Nat) (C : Cfg) (B : Nat) (L : Nat → Lev) (ls : Nat → List Int) (w : World) (h : KAt w s g C B L ls) (n : Int) (hn : n < 0 ∨ (B : Int) < n) :
    Calls Try.prog 119 #[.pointer (some ⟨s, 0, none⟩), .int .i64 n] w fun e w' => e = .returned (.tuple #[.nilIface, .bool false]) ∧ w = w' := by
  have hlt := h.lts
  have hlg := h.ltg
  obtain ⟨cap, hex, hcap⟩ := h.ex
  have c5 := (cell_of hex 5).trans rfl
  have hbt := h.ok.b2
  have hB := h.hB
  clear h hex
  rcases hn with hn | hn
  · go_enter Try.func119, Try.ntmps119
    go_wp2
    go_ret2
    exact ⟨rfl, rfl⟩
  · by_cases h0 : n < 0
    · go_enter Try.func119, Try.ntmps119
      go_wp2
      go_ret2
      exact ⟨rfl, rfl⟩
    · have hge : decide ((B : Int) + 1 ≤ n) = true := by simp; omega
      go_enter Try.func119, Try.ntmps119
      go_wp2
      go_ret2
      exact ⟨rfl, rfl⟩
set_option maxRecDepth 20000 in
theorem KCells_c (s g : Nat) (C : Cfg) (B : Nat) (L : Nat → Lev) (ls : Nat → List Int) (w : World) (h : KAt w s g C B L ls) (n : Nat) (hn : n ≤ B) :
    Calls Try.prog 52 #[.pointer (some ⟨s, 0, none⟩), .int .i64 n] w fun e w' => ∃ v, e = .returned v ∧ w'.ownsRow w.heap.size 2 1 v (ls n).length (ints (ls n)) ∧ (v = .slice none 0 0 → False) ∧ Ext w w' := by
  cases hx : isX C n with
  | true =>
    have hA := (h.lev n hn).x hx
    have HX := Lib.hid hx
    clear hx
    go_enter Try.func52, Try.ntmps52
    go_wp2_with fail
    refine (level_yes s g C B L ls w h n hn).mono ?_
    rintro e w1 ⟨rfl, rfl⟩
    rw [lvV_x HX.out]
    go_wp2_with fail
    refine (ECells_c _ _ _ C _ _ _ _ hA).mono ?_
    rintro e w1 ⟨v, rfl, h1, h2, h3⟩
    go_wp2
    go_ret
    exact ⟨v, rfl, h1, h2, h3⟩
  | false =>
    have hA := (h.lev n hn).sk hx
    have HX := Lib.hid hx
    clear hx
    go_enter Try.func52, Try.ntmps52
    go_wp2_with fail
    refine (level_yes s g C B L ls w h n hn).mono ?_
    rintro e w1 ⟨rfl, rfl⟩
    rw [lvV_s HX.out]
    go_wp2_with fail
    refine (SCells_c _ _ _ C _ _ _ _ _ hA).mono ?_
    rintro e w1 ⟨v, rfl, h1, h2, h3⟩
    go_wp2
    go_ret
    exact ⟨v, rfl, h1, h2, h3⟩
set_option maxRecDepth 20000 in
theorem KCells_no (s g : Nat) (C : Cfg) (B : Nat) (L : Nat → Lev) (ls : Nat → List Int) (w : World) (h : KAt w s g C B L ls) (n : Int) (hn : n < 0 ∨ (B : Int) < n) :
    Calls Try.prog 52 #[.pointer (some ⟨s, 0, none⟩), .int .i64 n] w fun e w' => e = .returned (.slice none 0 0) ∧ w = w' := by
  go_enter Try.func52, Try.ntmps52
  go_wp2_with fail
  refine (level_no s g C B L ls w h n hn).mono ?_
  rintro e w1 ⟨rfl, rfl⟩
  go_wp2
  go_ret
  exact ⟨rfl, rfl⟩
/-- What Point tells of a level. -/
def lvPt (C : Cfg) (lv : Int) (l : List Int) (key x : Int) : Prop :=
  (isX C lv = true ∧ x = l.getD key.toNat 0) ∨ (isX C lv = false ∧ IsKth (readL (wN C) l (cols C lv key)) (if C.mode = 3 then (rN C - 1) / 2 else 0) x)
theorem lvPt_unique {C : Cfg} {lv : Int} {l : List Int} {key x y : Int} (h : lvPt C lv l key x) (h' : lvPt C lv l key y) : x = y := by
  rcases h with ⟨h1, h2⟩ | ⟨h1, h2⟩ <;> rcases h' with ⟨h3, h4⟩ | ⟨h3, h4⟩
  · rw [h2, h4]
  · rw [h1] at h3; cases h3
  · rw [h1] at h3; cases h3
  · exact kth_unique h2 h4
def KPointPost (w : World) (C : Cfg) (ls : Nat → List Int) (n : Nat) (key : Int) (e : Ending) (w' : World) : Prop :=
  ∃ x, e = .returned (.tuple #[.int .i64 x, .int .i64 0]) ∧ lvPt C n (ls n) key x ∧ Ext w w'
set_option maxRecDepth 20000 in
theorem KPoint_c (s g : Nat) (C : Cfg) (B : Nat) (L : Nat → Lev) (ls : Nat → List Int) (w : World) (h : KAt w s g C B L ls) (n : Nat) (hn : n ≤ B) (key : Int) (hk0 : 0 ≤ key) (hk1 : key < keys C n) :
    Calls Try.prog 53 #[.pointer (some ⟨s, 0, none⟩), .agg #[.int .i64 n, .int .u64 key]] w (KPointPost w C ls n key) := by
  cases hx : isX C n with
  | true =>
    have HX := Lib.hid hx
    clear hx
    go_enter Try.func53, Try.ntmps53
    go_wp2_with fail
    refine (level_yes s g C B L ls _ (h.ext (Ext.alloc' _ _)) n hn).mono ?_
    rintro e w1 ⟨rfl, rfl⟩
    have hA := ((h.ext (Ext.alloc' _ (.cells #[.int .i64 n, .int .u64 key] 77))).lev n hn).x HX.out
    rw [lvV_x HX.out]
    go_wp2_with fail
    refine (EPoint_c _ _ _ C _ _ _ key _ hA hk0 hk1).mono ?_
    rintro e w1 ⟨rfl, rfl⟩
    go_wp2
    go_ret2
    exact ⟨_, rfl, .inl ⟨HX.out, rfl⟩, Ext.alloc' _ _⟩
  | false =>
    have HX := Lib.hid hx
    clear hx
    go_enter Try.func53, Try.ntmps53
    go_wp2_with fail
    refine (level_yes s g C B L ls _ (h.ext (Ext.alloc' _ _)) n hn).mono ?_
    rintro e w1 ⟨rfl, rfl⟩
    have hA := ((h.ext (Ext.alloc' _ (.cells #[.int .i64 n, .int .u64 key] 77))).lev n hn).sk HX.out
    rw [lvV_s HX.out]
    go_wp2_with fail
    refine (Point_c _ _ _ C _ _ _ _ key _ hA hk0 hk1).mono ?_
    rintro e w1 ⟨x, rfl, hk, hx1⟩
    go_wp2
    go_ret2
    exact ⟨x, rfl, .inr ⟨HX.out, hk⟩, (Ext.alloc' _ _).trans' hx1⟩
set_option maxRecDepth 20000 in
theorem KPoint_lv (s g : Nat) (C : Cfg) (B : Nat) (L : Nat → Lev) (ls : Nat → List Int) (w : World) (h : KAt w s g C B L ls) (n : Int) (hn : n < 0 ∨ (B : Int) < n) (key : Int) :
    Calls Try.prog 53 #[.pointer (some ⟨s, 0, none⟩), .agg #[.int .i64 n, .int .u64 key]] w fun e w' => e = .returned (.tuple #[.int .i64 0, .int .i64 2]) ∧ Ext w w' := by
  go_enter Try.func53, Try.ntmps53
  go_wp2_with fail
  refine (level_no s g C B L ls _ (h.ext (Ext.alloc' _ _)) n hn).mono ?_
  rintro e w1 ⟨rfl, rfl⟩
  go_wp2
  go_ret2
  exact ⟨rfl, Ext.alloc' _ _⟩
def KTotalPost (w : World) (C : Cfg) (B : Nat) (ls : Nat → List Int) (e : Ending) (w' : World) : Prop :=
  ∃ x, e = .returned (.int .i64 x) ∧ lvPt C B (ls B) 0 x ∧ Ext w w'
theorem keys_top {C : Cfg} {B : Nat} (hB : C.bits = B) : keys C B = 1 := by unfold keys; rw [hB]; simp
theorem isX_top {C : Cfg} (h : C.Ok) {B : Nat} (hB : C.bits = B) : isX C B = true := by
  unfold isX; rw [keys_top hB]; have := h.w1; simpa using this
set_option maxRecDepth 20000 in
theorem KTotal_c (s g : Nat) (C : Cfg) (B : Nat) (L : Nat → Lev) (ls : Nat → List Int) (w : World) (h : KAt w s g C B L ls) :
    Calls Try.prog 54 #[.pointer (some ⟨s, 0, none⟩)] w fun e w' => e = .returned (.int .i64 ((ls B).getD 0 0)) ∧ Ext w w' := by
  have hlt := h.lts
  have hlg := h.ltg
  obtain ⟨cap, hex, hcap⟩ := h.ex
  have c0 := (cell_of hex 0).trans (show _ = some (Value.int .i64 (B : Int)) by rw [← h.hB]; rfl)
  have c5 := (cell_of hex 5).trans rfl
  have cn := (h.cell (Nat.le_refl B)).trans (by rw [lvV_x (isX_top h.ok h.hB)])
  have hb2 : B ≤ 59 := by have := h.ok.b2; have := h.hB; omega
  have hA := ((h.lev B (Nat.le_refl B)).x (isX_top h.ok h.hB)).ext (Below.drew (Ext.refl w))
  have hk := keys_top h.hB
  clear h hex
  go_enter Try.func54, Try.ntmps54
  go_wp2
  have hC0 := af_drew w
  refine pi_start (fun w' => ∃ x : After w, w' = x.w) [] (by kernel_rfl) ?_
  refine pi_t 0 rfl (by kernel_rfl) (by kernel_rfl) (fun _ _ _ _ h => h) (fun K hK => ?_)
  go_big_quiet_op
  refine hK _ ?_
  clear hK K
  refine pi_t 1 rfl (by kernel_rfl) (by kernel_rfl) (fun _ _ _ _ h => h) (fun K hK => ?_)
  go_big_quiet_op
  refine hK _ ?_
  clear hK K
  refine pi_t 2 rfl (by kernel_rfl) (by kernel_rfl) (fun _ _ _ _ h => h) (fun K hK => ?_)
  go_big_quiet_op
  refine hK _ ?_
  clear hK K
  refine pi_t 4 rfl (by kernel_rfl) (by kernel_rfl) (fun _ _ _ _ h => h) (fun K hK => ?_)
  go_big_quiet_op
  refine hK _ ?_
  clear hK K
  refine pi_t 5 rfl (by kernel_rfl) (by kernel_rfl) (fun _ _ _ _ h => h) (fun K hK => ?_)
  go_big_quiet_op
  refine hK _ ?_
  clear hK K
  refine pi_t 6 rfl (by kernel_rfl) (by kernel_rfl) (fun _ _ _ _ h => h) (fun K hK => ?_)
  go_big_quiet_op
  refine hK _ ?_
  clear hK K
  refine pi_t 7 rfl (by kernel_rfl) (by kernel_rfl) (fun _ _ _ _ h => h) (fun K hK => ?_)
  go_big_quiet_op
  refine hK _ ?_
  clear hK K
  refine pi_c 3 (by assumption) rfl (by kernel_rfl) (by kernel_rfl) (fun _ _ _ _ h => h) (fun K hK => ?_)
  go_big_quiet_op
  refine hK _ ?_
  clear hK K
  refine pi_c 8 (by assumption) rfl (by kernel_rfl) (by kernel_rfl) (fun _ _ _ _ h => h) (fun K hK => ?_)
  go_big_quiet_op
  refine hK _ ?_
  clear hK K
  refine pi_t 9 rfl (by kernel_rfl) (by kernel_rfl) (fun _ _ _ _ h => h) (fun K hK => ?_)
  go_big_quiet_op
  refine hK _ ?_
  clear hK K
  refine pi_c 10 (by assumption) rfl (by kernel_rfl) (by kernel_rfl) (fun _ _ _ _ h => h) (fun K hK => ?_)
  go_big_quiet_op
  refine hK _ ?_
  clear hK K
  refine pi_l 11 rfl (by kernel_rfl) (fun K hK => ?_)
  go_wp2_with fail
  refine (EPoint_c _ _ _ C _ _ _ 0 _ hA (by decide) (by rw [hk]; decide)).mono ?_
  rintro e w1 ⟨rfl, rfl⟩
  go_wp2
  refine hK _ _ (fun _ h => h) ?_
  clear hK K
  refine pi_t 12 rfl (by kernel_rfl) (by kernel_rfl) (fun _ _ _ _ h => h) (fun K hK => ?_)
  go_big_quiet_op
  refine hK _ ?_
  clear hK K
  refine pi_t 13 rfl (by kernel_rfl) (by kernel_rfl) (fun _ _ _ _ h => h) (fun K hK => ?_)
  go_big_quiet_op
  refine hK _ ?_
  clear hK K
  refine pi_t 14 rfl (by kernel_rfl) (by kernel_rfl) (fun _ _ _ _ h => h) (fun K hK => ?_)
  go_big_quiet_op
  refine hK _ ?_
  clear hK K
  refine pi_t 15 rfl (by kernel_rfl) (by kernel_rfl) (fun _ _ _ _ h => h) (fun K hK => ?_)
  go_big_quiet_op
  refine hK _ ?_
  clear hK K
  refine pi_t 16 rfl (by kernel_rfl) (by kernel_rfl) (fun _ _ _ _ h => h) (fun K hK => ?_)
  go_big_quiet_op
  refine hK _ ?_
  clear hK K
  refine pi_end (by kernel_rfl) ?_
  go_wp2
  go_ret
  exact ⟨rfl, Below.drew (Ext.refl w)⟩
end Go.Proofs.Ytpnbgoahjoabkaa
