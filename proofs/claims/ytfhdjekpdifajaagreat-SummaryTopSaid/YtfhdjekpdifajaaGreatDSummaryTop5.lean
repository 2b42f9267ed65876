/- Part. No condition. -/
import Derived.Test.YtfhdjekpdifajaaGreatDSummaryTop4
import Derived.Test.YtfhdjekpdifajaaGreatDSummaryTop3
import Derived.Test.YtfhdjekpdifajaaGreatDSummaryTop1
import Derived.Test.YtfhdjekpdifajaaGreatDSummaryTop2
import Derived.Defers
namespace Go.Proofs.YtfhdjekpdifajaaGreat
set_option linter.unusedVariables false
open Go.RowKit
/-- Element m of a row whose first and last k have changed places. -/
def rvF (ps : List (Nat × Int)) (k m : Nat) : Nat × Int := if m < k ∨ ps.length ≤ m + k then ps.getD (ps.length - 1 - m) (0, 0) else ps.getD m (0, 0)
theorem rvF_zero (ps : List (Nat × Int)) {m : Nat} (h : m < ps.length) : rvF ps 0 m = ps.getD m (0, 0) := by
  unfold rvF; rw [if_neg (by omega)]
theorem rvF_end (ps : List (Nat × Int)) {k m : Nat} (h : m < ps.length) (hk : ps.length ≤ 2 * k + 1) : rvF ps k m = ps.reverse.getD m (0, 0) := by
  have e : ps.reverse.getD m (0, 0) = ps.getD (ps.length - 1 - m) (0, 0) := by
    rw [List.getD_eq_getElem?_getD, List.getD_eq_getElem?_getD, List.getElem?_reverse h]
  rw [e]
  unfold rvF
  by_cases hc : m < k ∨ ps.length ≤ m + k
  · rw [if_pos hc]
  · rw [if_neg hc]
    congr 1
    omega
def CellsF (cur : Array Value) (n : Nat) (f : Nat → Nat × Int) : Prop := ∀ m, m < n → cur[m * 2]? = some (.int .i64 ((f m).1 : Int)) ∧ cur[m * 2 + 1]? = some (.int .u64 (f m).2)
theorem cellsF_swap {cur : Array Value} {ps : List (Nat × Int)} {k j : Nat} (hc : CellsF cur ps.length (rvF ps k)) (hs : ps.length * 2 ≤ cur.size) (hkj : k < j) (hj : j + k + 1 = ps.length) :
    CellsF ((((cur.setIfInBounds (k * 2) (.int .i64 ((rvF ps k j).1 : Int))).setIfInBounds (k * 2 + 1) (.int .u64 (rvF ps k j).2)).setIfInBounds (j * 2) (.int .i64 ((rvF ps k k).1 : Int))).setIfInBounds (j * 2 + 1) (.int .u64 (rvF ps k k).2)) ps.length (rvF ps (k + 1)) := by
  intro m hm
  have e1 : rvF ps k j = ps.getD j (0, 0) := by unfold rvF; rw [if_neg (by omega)]
  have e2 : rvF ps k k = ps.getD k (0, 0) := by unfold rvF; rw [if_neg (by omega)]
  rw [e1, e2]
  obtain ⟨a1, a2⟩ := hc m hm
  by_cases hmk : m = k
  · subst hmk
    have e : rvF ps (m + 1) m = ps.getD j (0, 0) := by unfold rvF; rw [if_pos (by omega)]; congr 1; omega
    rw [e]
    constructor
    · rw [Array.getElem?_setIfInBounds_ne (by omega), Array.getElem?_setIfInBounds_ne (by omega), Array.getElem?_setIfInBounds_ne (by omega), Array.getElem?_setIfInBounds_self_of_lt (by omega)]
    · rw [Array.getElem?_setIfInBounds_ne (by omega), Array.getElem?_setIfInBounds_ne (by omega), Array.getElem?_setIfInBounds_self_of_lt (by rw [Array.size_setIfInBounds]; omega)]
  · by_cases hmj : m = j
    · subst hmj
      have e : rvF ps (k + 1) m = ps.getD k (0, 0) := by unfold rvF; rw [if_pos (by omega)]; congr 1; omega
      rw [e]
      constructor
      · rw [Array.getElem?_setIfInBounds_ne (by omega), Array.getElem?_setIfInBounds_self_of_lt (by simp only [Array.size_setIfInBounds]; omega)]
      · rw [Array.getElem?_setIfInBounds_self_of_lt (by simp only [Array.size_setIfInBounds]; omega)]
    · have e : rvF ps (k + 1) m = rvF ps k m := by
        unfold rvF
        by_cases hc : m < k ∨ ps.length ≤ m + k
        · rw [if_pos hc, if_pos (by omega)]
        · rw [if_neg hc, if_neg (by omega)]
      rw [e]
      constructor
      · rw [Array.getElem?_setIfInBounds_ne (by omega), Array.getElem?_setIfInBounds_ne (by omega), Array.getElem?_setIfInBounds_ne (by omega), Array.getElem?_setIfInBounds_ne (by omega)]; exact a1
      · rw [Array.getElem?_setIfInBounds_ne (by omega), Array.getElem?_setIfInBounds_ne (by omega), Array.getElem?_setIfInBounds_ne (by omega), Array.getElem?_setIfInBounds_ne (by omega)]; exact a2
theorem cellsF_take {cur : Array Value} {n : Nat} {f : Nat → Nat × Int} {ps : List (Nat × Int)} (hc : CellsF cur n f) (hl : ps.length = n) (hf : ∀ m, m < n → f m = ps.getD m (0, 0)) : cur.toList.take (n * 2) = pcV ps := by
  subst hl
  apply List.ext_getElem?
  intro i
  by_cases hi : i < ps.length * 2
  · rw [List.getElem?_take_of_lt hi, Array.getElem?_toList]
    obtain ⟨b1, b2⟩ := hc (i / 2) (by omega)
    obtain ⟨a1, a2⟩ := pcV_at (ps := ps) (k := i / 2) (by omega)
    rw [hf (i / 2) (by omega)] at b1 b2
    by_cases he : i % 2 = 0
    · rw [show i = i / 2 * 2 by omega, b1, a1]
    · rw [show i = i / 2 * 2 + 1 by omega, b2, a2]
  · rw [List.getElem?_eq_none (by rw [List.length_take]; omega), List.getElem?_eq_none (by rw [pcV_len]; omega)]
theorem cellsF_of {cur : Array Value} {ps : List (Nat × Int)} (h : cur.toList.take (ps.length * 2) = pcV ps) : CellsF cur ps.length (rvF ps 0) := by
  intro m hm
  obtain ⟨a1, a2⟩ := pcV_at hm
  rw [← h] at a1 a2
  rw [List.getElem?_take_of_lt (by omega)] at a1 a2
  simp only [Array.getElem?_toList] at a1 a2
  rw [rvF_zero _ hm]
  exact ⟨a1, a2⟩
/-- The world in which a row is being turned round. -/
def RvAt (w : World) (g : Nat) (ps : List (Nat × Int)) (cs k : Nat) (W : World) : Prop :=
  (∃ cur, W.heap[g]? = some (.cells cur 39 (0, 0)) ∧ cur.size = cs ∧ CellsF cur ps.length (rvF ps k)) ∧ Mod (fun b => b = g) w W
theorem rv_next {w W : World} {g : Nat} {ps : List (Nat × Int)} {cs k j : Nat} (h : RvAt w g ps cs k W) (hs : ps.length * 2 ≤ cs) (hkj : k < j) (hj : j + k + 1 = ps.length) {a c : Nat × Int} (ha : rvF ps k j = a) (hc : rvF ps k k = c) :
    RvAt w g ps cs (k + 1) ((((W.setCell ⟨g, k * 2, none⟩ (.int .i64 (a.1 : Int))).setCell ⟨g, k * 2 + 1, none⟩ (.int .u64 a.2)).setCell ⟨g, j * 2, none⟩ (.int .i64 (c.1 : Int))).setCell ⟨g, j * 2 + 1, none⟩ (.int .u64 c.2)).drew := by
  subst ha hc
  obtain ⟨⟨cur, h1, h2, h3⟩, hm⟩ := h
  have q := setCell_same (setCell_same (setCell_same (setCell_same h1 (k * 2) (.int .i64 ((rvF ps k j).1 : Int))) (k * 2 + 1) (.int .u64 (rvF ps k j).2)) (j * 2) (.int .i64 ((rvF ps k k).1 : Int))) (j * 2 + 1) (.int .u64 (rvF ps k k).2)
  refine ⟨⟨_, q, by simp only [Array.size_setIfInBounds]; exact h2, cellsF_swap h3 (by omega) hkj hj⟩, ?_⟩
  exact ((((hm.trans (mod_set _ _ _ _)).trans (mod_set _ _ _ _)).trans (mod_set _ _ _ _)).trans (mod_set _ _ _ _)).trans ((Ext.refl _).drewR.mod _)
def RevPost (w : World) (v : Value) (base : Nat) (ps : List (Nat × Int)) (e : Ending) (w' : World) : Prop :=
  e = .returned (.tuple #[]) ∧ w'.ownsRow base 39 2 v ps.length (pcV ps.reverse) ∧ Mod (fun k => v.ownBlock = some k) w w'
set_option maxRecDepth 20000 in
set_option maxHeartbeats 4000000 in
theorem Reverse_c (ps : List (Nat × Int)) (v : Value) (base : Nat) (w : World) (h : w.ownsRow base 39 2 v ps.length (pcV ps)) (hl : ps.length ≤ 1000000) :
    Calls Tryz.prog 215 #[v] w (RevPost w v base ps) := by
  rcases h.2 with ⟨rfl, h0⟩ | ⟨g, cap, cur, rfl, hb, hh, hnc, hcm, hcs, htk⟩
  · have e : ps = [] := List.length_eq_zero_iff.1 h0
    subst e
    have h' := h
    clear h h0
    go_enter Tryz.func215, Tryz.ntmps215
    go_wp2
    go_loopw [2, 3] (fun i j wr => i = .int .i64 0 ∧ j = .int .i64 (-1) ∧ wr = w) (fun _ _ _ => 0)
    case atStart => exact ⟨rfl, rfl, rfl⟩
    case round =>
      obtain ⟨rfl, rfl, rfl⟩ := hrel
      go_wp2
      go_end0
      exact ⟨rfl, h', Mod.refl _ _⟩
  · have hr0 : RvAt w g ps (cap * 2) 0 w := ⟨⟨cur, hh, hcs, cellsF_of htk⟩, Mod.refl _ _⟩
    have HR0 := Lib.hid hr0
    have hcap := hcm
    unfold maxLen at hcap
    clear h hr0 htk hh hcs
    generalize hn : ps.length = n at *
    have HN := Lib.hid hn
    clear hn
    go_enter Tryz.func215, Tryz.ntmps215
    go_wp2
    go_loopw [2, 3] (fun i j wr => ∃ (k : Nat) (z : Int), z + k + 1 = n ∧ 2 * k ≤ n ∧ i = .int .i64 k ∧ j = .int .i64 z ∧ RvAt w g ps (cap * 2) k wr) (fun i _ _ => n - (intOf i).toNat)
    case atStart => exact ⟨0, (n : Int) - 1, by omega, by omega, rfl, rfl, HR0.out⟩
    case round =>
      obtain ⟨k, z, hz, hk2, rfl, rfl, hR⟩ := hrel
      by_cases hlt : (k : Int) < z
      · obtain ⟨j, rfl⟩ : ∃ j : Nat, z = j := ⟨z.toNat, by omega⟩
        obtain ⟨cur', hh, hcs, hcf⟩ := hR.1
        have hgl : g < wr.heap.size := lt_of hh
        obtain ⟨k0, k1⟩ := hcf k (by rw [HN.out]; omega)
        obtain ⟨j0, j1⟩ := hcf j (by rw [HN.out]; omega)
        rw [← cell_of hh] at k0 k1 j0 j1
        have fz := fun o => frozen_of hh o
        have HH := Lib.hid hh
        have HR := Lib.hid hR
        clear hR hh hcs hcf
        generalize hvk : rvF ps k k = vk at *
        generalize hvj : rvF ps k j = vj at *
        have HV := Lib.hid (And.intro hvk hvj)
        clear hvk hvj
        obtain ⟨vk1, vk2⟩ := vk
        obtain ⟨vj1, vj2⟩ := vj
        dsimp only at k0 k1 j0 j1
        go_wp2_with fail
        have hC0 := af_drew wr
        refine pi_start (fun w' => ∃ x : After wr, w' = x.w) [13, 15] (by kernel_rfl) ?_
        refine pi_t 0 rfl (by kernel_rfl) (by kernel_rfl) (fun _ _ _ _ h => h) (fun K hK => ?_)
        go_big_quiet_op
        refine hK _ ?_
        clear hK K
        refine pi_t 1 rfl (by kernel_rfl) (by kernel_rfl) (fun _ _ _ _ h => h) (fun K hK => ?_)
        go_big_quiet_op
        refine hK _ ?_
        clear hK K
        refine pi_t 2 rfl (by kernel_rfl) (by kernel_rfl) (fun _ _ _ _ h => h) (fun K hK => ?_)
        go_big_quiet_op
        refine hK _ ?_
        clear hK K
        refine pi_t 3 rfl (by kernel_rfl) (by kernel_rfl) (fun _ _ _ _ h => h) (fun K hK => ?_)
        go_big_quiet_op
        refine hK _ ?_
        clear hK K
        refine pi_t 4 rfl (by kernel_rfl) (by kernel_rfl) (fun _ _ _ _ h => h) (fun K hK => ?_)
        go_big_quiet_op
        refine hK _ ?_
        clear hK K
        refine pi_t 5 rfl (by kernel_rfl) (by kernel_rfl) (fun _ _ _ _ h => h) (fun K hK => ?_)
        go_big_quiet_op
        refine hK _ ?_
        clear hK K
        refine pi_t 6 rfl (by kernel_rfl) (by kernel_rfl) (fun _ _ _ _ h => h) (fun K hK => ?_)
        go_big_quiet_op
        refine hK _ ?_
        clear hK K
        refine pi_t 8 rfl (by kernel_rfl) (by kernel_rfl) (fun _ _ _ _ h => h) (fun K hK => ?_)
        go_big_quiet_op
        refine hK _ ?_
        clear hK K
        refine pi_t 9 rfl (by kernel_rfl) (by kernel_rfl) (fun _ _ _ _ h => h) (fun K hK => ?_)
        go_big_quiet_op
        refine hK _ ?_
        clear hK K
        refine pi_t 10 rfl (by kernel_rfl) (by kernel_rfl) (fun _ _ _ _ h => h) (fun K hK => ?_)
        go_big_quiet_op
        refine hK _ ?_
        clear hK K
        refine pi_c 7 (by assumption) rfl (by kernel_rfl) (by kernel_rfl) (fun _ _ _ _ h => h) (fun K hK => ?_)
        go_big_quiet_op
        refine hK _ ?_
        clear hK K
        refine pi_c 11 (by assumption) rfl (by kernel_rfl) (by kernel_rfl) (fun _ _ _ _ h => h) (fun K hK => ?_)
        go_big_quiet_op
        refine hK _ ?_
        clear hK K
        refine pi_t 12 rfl (by kernel_rfl) (by kernel_rfl) (fun _ _ _ _ h => h) (fun K hK => ?_)
        go_big_quiet_op
        refine hK _ ?_
        clear hK K
        refine pi_l 13 rfl (by kernel_rfl) (fun K hK => ?_)
        go_wp2
        refine hK _ _ (by simp) ?_
        clear hK K
        refine pi_t 14 rfl (by kernel_rfl) (by kernel_rfl) (fun _ _ _ _ h => h) (fun K hK => ?_)
        go_big_quiet_op
        refine hK _ ?_
        clear hK K
        refine pi_l 15 rfl (by kernel_rfl) (fun K hK => ?_)
        go_wp2
        refine hK _ _ (by simp) ?_
        clear hK K
        refine pi_end (by kernel_rfl) ?_
        go_wp2_with fail
        go_roundw
        case rel =>
          have hN := rv_next (a := (vj1, vj2)) (c := (vk1, vk2)) HR.out (by rw [HN.out]; omega) (by omega) (by rw [HN.out]; omega) HV.out.2 HV.out.1
          exact ⟨k + 1, (j : Int) - 1, by omega, by omega, by go_num, by go_num, hN⟩
        case measure => simp [intOf]; omega
      · have hk3 : n ≤ 2 * k + 1 := by omega
        obtain ⟨⟨cur', h1, h2, h3⟩, hm⟩ := hR
        have hfin : wr.ownsRow base 39 2 (.slice (some ⟨g, 0, none⟩) n cap) n (pcV ps.reverse) :=
          ⟨by rw [pcV_len, List.length_reverse, HN.out], .inr ⟨g, cap, cur', rfl, hb, h1, hnc, hcm, h2, by rw [← HN.out]; exact cellsF_take h3 (List.length_reverse) (fun m hm => rvF_end ps hm (by rw [HN.out]; exact hk3))⟩⟩
        go_wp2
        go_end0
        exact ⟨rfl, by rw [HN.out]; exact hfin, hm.mono (fun k hk _ => by rw [hk]; rfl)⟩
end Go.Proofs.YtfhdjekpdifajaaGreat
namespace Go.Proofs.YtfhdjekpdifajaaGreat
set_option linter.unusedVariables false
open Go.RowKit
/-- The pieces of a span, from both sides, level by level. -/
def covL : Nat → Nat → Int → Int → List (Nat × Int)
  | 0, l, lo, _ => [(l, lo)]
  | f + 1, l, lo, hi =>
    if lo = hi then [(l, lo)]
    else (if lo % 2 = 1 then [(l, lo)] else []) ++
      ((if (if hi % 2 = 0 then hi - 1 else hi) < (if lo % 2 = 1 then lo + 1 else lo) then [] else covL f (l + 1) ((if lo % 2 = 1 then lo + 1 else lo) / 2) ((if hi % 2 = 0 then hi - 1 else hi) / 2)) ++
      (if hi % 2 = 0 then [(l, hi)] else []))
theorem pw (n : Nat) : (0 : Int) < 2 ^ n := Int.pow_pos (by decide)
theorem pw_succ (n : Nat) : (2 : Int) ^ (n + 1) = 2 * 2 ^ n := by rw [Int.pow_succ, Int.mul_comm]
theorem cov_lev : ∀ (f l : Nat) (lo hi : Int), ∀ p ∈ covL f l lo hi, l ≤ p.1 ∧ p.1 ≤ l + f
  | 0, l, lo, hi, p, hp => by
    simp only [covL, List.mem_singleton] at hp
    subst hp
    exact ⟨Nat.le_refl _, Nat.le_refl _⟩
  | f + 1, l, lo, hi, p, hp => by
    unfold covL at hp
    by_cases he : lo = hi
    · rw [if_pos he] at hp
      simp only [List.mem_singleton] at hp
      subst hp
      exact ⟨Nat.le_refl _, by simp⟩
    · rw [if_neg he] at hp
      simp only [List.mem_append] at hp
      rcases hp with hp | hp | hp
      · split at hp
        · simp only [List.mem_singleton] at hp; subst hp; exact ⟨Nat.le_refl _, by simp⟩
        · cases hp
      · by_cases hc : (if hi % 2 = 0 then hi - 1 else hi) < (if lo % 2 = 1 then lo + 1 else lo)
        · rw [if_pos hc] at hp; cases hp
        · rw [if_neg hc] at hp
          have := cov_lev f (l + 1) _ _ p hp
          omega
      · split at hp
        · simp only [List.mem_singleton] at hp; subst hp; exact ⟨Nat.le_refl _, by simp⟩
        · cases hp
theorem cov_len : ∀ (f l : Nat) (lo hi : Int), (covL f l lo hi).length ≤ 2 * f + 1
  | 0, _, _, _ => Nat.le_refl _
  | f + 1, l, lo, hi => by
    unfold covL
    split
    · simp
    · have := cov_len f (l + 1) ((if lo % 2 = 1 then lo + 1 else lo) / 2) ((if hi % 2 = 0 then hi - 1 else hi) / 2)
      simp only [List.length_append]
      split <;> split <;> split <;> simp_all <;> omega
theorem cov_bd : ∀ (f l : Nat) (lo hi : Int), 0 ≤ lo → lo ≤ hi → hi < 2 ^ f → ∀ p ∈ covL f l lo hi, 0 ≤ p.2 ∧ p.2 < 2 ^ (l + f - p.1)
  | 0, l, lo, hi, h0, h1, h2, p, hp => by
    have h2' : hi < 1 := h2
    simp only [covL, List.mem_singleton] at hp
    subst hp
    refine ⟨h0, ?_⟩
    show lo < 2 ^ (l + 0 - l)
    rw [Nat.add_zero, Nat.sub_self]
    show lo < 1
    omega
  | f + 1, l, lo, hi, h0, h1, h2, p, hp => by
    have hh := h2
    rw [pw_succ] at h2
    unfold covL at hp
    by_cases he : lo = hi
    · rw [if_pos he] at hp
      simp only [List.mem_singleton] at hp
      subst hp
      refine ⟨h0, ?_⟩
      show lo < 2 ^ (l + (f + 1) - l)
      rw [show l + (f + 1) - l = f + 1 by omega]; omega
    · rw [if_neg he] at hp
      simp only [List.mem_append] at hp
      rcases hp with hp | hp | hp
      · split at hp
        · simp only [List.mem_singleton] at hp; subst hp
          refine ⟨h0, ?_⟩
          show lo < 2 ^ (l + (f + 1) - l)
          rw [show l + (f + 1) - l = f + 1 by omega]; omega
        · cases hp
      · have h3 : 0 ≤ (if lo % 2 = 1 then lo + 1 else lo) := by split <;> omega
        have h4 : (if hi % 2 = 0 then hi - 1 else hi) ≤ hi := by split <;> omega
        generalize (if lo % 2 = 1 then lo + 1 else lo) = a at *
        generalize (if hi % 2 = 0 then hi - 1 else hi) = b at *
        by_cases hc : b < a
        · rw [if_pos hc] at hp; cases hp
        · rw [if_neg hc] at hp
          have := cov_bd f (l + 1) (a / 2) (b / 2) (by omega) (by omega) (by omega) p hp
          rw [show l + 1 + f = l + (f + 1) by omega] at this
          exact this
      · split at hp
        · simp only [List.mem_singleton] at hp; subst hp
          refine ⟨by omega, ?_⟩
          show hi < 2 ^ (l + (f + 1) - l)
          rw [show l + (f + 1) - l = f + 1 by omega]; omega
        · cases hp
theorem cov_self (f l : Nat) (i : Int) : covL f l i i = [(l, i)] := by
  cases f with
  | zero => rfl
  | succ f => unfold covL; rw [if_pos rfl]
end Go.Proofs.YtfhdjekpdifajaaGreat
namespace Go.Proofs.YtfhdjekpdifajaaGreat
set_option linter.unusedVariables false
open Go.RowKit
def CloPost (w W : World) (b6 : Nat) (pre suf : List (Nat × Int)) (e : Ending) (w' : World) : Prop :=
  e = .returned (.tuple #[]) ∧ ∃ v', w'.heap[b6]? = some (.cells #[v'] 165 (0, 0)) ∧ w'.ownsRow w.heap.size 39 2 v' (pre ++ suf.reverse).length (pcV (pre ++ suf.reverse)) ∧ Ext w w'
/-- What the row at b8 was is turned round. -/
theorem CovW.rev {w W w1 : World} {b6 b8 : Nat} {v6 v8 : Value} {pre suf : List (Nat × Int)} (h : CovW w W b6 b8 v6 v8 pre suf)
    (h1 : w1.ownsRow w.heap.size 39 2 v8 suf.length (pcV suf.reverse)) (hm : Mod (fun k => v8.ownBlock = some k) W w1) : CovW w w1 b6 b8 v6 v8 pre suf.reverse := by
  have k6 := (hm.block b6 (lt_of h.x6) (fun e => own_notB h.o8 h.x6 (by decide) e)).trans h.x6
  have k8 := (hm.block b8 (lt_of h.x8) (fun e => own_notB h.o8 h.x8 (by decide) e)).trans h.x8
  refine ⟨k6, k8, own_keepB h.o6 (fun k hk => hm.block k (own_lt h.o6 hk) (fun e => h.dj k hk e)), by rw [List.length_reverse]; exact h1, h.dj, h.g6, h.g8, h.ne, ?_⟩
  exact ⟨hm.os.trans h.ext.os, hm.tape.trans h.ext.tape, hm.output.trans h.ext.output, Nat.le_trans h.ext.size hm.size, fun k hk => (hm.block k (Nat.lt_of_lt_of_le hk h.ext.size) (fun e => by have := own_blk h.o8 e; omega)).trans (h.ext.block k hk)⟩
set_option maxRecDepth 20000 in
set_option maxHeartbeats 2000000 in
theorem CoverD_c (w W : World) (b6 b8 : Nat) (v6 v8 : Value) (pre suf : List (Nat × Int)) (u : FrameMode) (h : CovW w W b6 b8 v6 v8 pre suf) (hp : pre.length ≤ 100000) (hs : suf.length ≤ 100000) :
    CallsD Tryz.prog 214 #[.pointer (some ⟨b8, 0, none⟩), .pointer (some ⟨b6, 0, none⟩)] u W fun e u' w' => u' = u ∧ CloPost w W b6 pre suf e w' := by
  obtain ⟨i0, z0, hi, hz0, hz1, hz2, hzs⟩ := info_pc
  have c8 := (cell_of h.x8 0).trans rfl
  have l8 := lt_of h.x8
  have HH := Lib.hid h
  clear h
  go_enter_d Tryz.func214, Tryz.ntmps214
  go_wp2_with fail
  refine Calls.mono (Reverse_c suf v8 w.heap.size W HH.out.o8 (by omega)) ?_
  rintro e w1 ⟨rfl, ho, hm⟩
  have h1 := HH.out.rev ho hm
  clear c8 l8 ho hm
  have c6 := (cell_of h1.x6 0).trans rfl
  have c8 := (cell_of h1.x8 0).trans rfl
  have l6 := lt_of h1.x6
  have l8 := lt_of h1.x8
  have f6 := frozen_of h1.x6 0
  have H1 := Lib.hid h1
  clear h1
  go_wp2_with (at_builtin; refine wpList_apppz _ suf.reverse pre v6 w.heap.size 39 H1.out.o6 165 rfl _ _ rfl i0 z0 hi hz0 hz1 hz2 hzs Tryz.underlying165 rfl v8 rfl w.heap.size H1.out.o8 (by rw [List.length_reverse]; omega) H1.out.ext.size ?_)
  intro v' w2 hown hext hcells
  have k6 := hcells _ _ _ H1.out.x6 (by decide)
  have hE := hext w H1.out.ext (Nat.le_refl _)
  have HK := Lib.hid k6
  have c62 := (cell_of k6 0).trans rfl
  have l62 := lt_of k6
  have f62 := frozen_of k6 0
  obtain ⟨pv, cv, rfl⟩ := own_sl hown
  clear hext hcells k6
  go_wp2
  go_end0
  have hlen : (pre ++ suf.reverse).length = pre.length + suf.length := by simp
  refine ⟨rfl, _, by rw [setCell_same HK.out]; rfl, ?_, hE.setR (p := ⟨b6, 0, none⟩) H1.out.g6 _⟩
  rw [hlen]
  exact own_keepB hown (fun k hk => setCell_other _ _ (fun e => own_notB hown HK.out (by decide) (e ▸ hk)))
def CoverPost (w : World) (B : Nat) (lo hi : Int) (e : Ending) (w' : World) : Prop :=
  ((hi < lo ∨ 2 ^ B ≤ hi) ∧ e = .returned (.tuple #[.slice none 0 0, .bool false]) ∧ Ext w w') ∨
  ((lo ≤ hi ∧ hi < 2 ^ B) ∧ ∃ v, e = .returned (.tuple #[v, .bool true]) ∧ w'.ownsRow w.heap.size 39 2 v (covL B 0 lo hi).length (pcV (covL B 0 lo hi)) ∧ Ext w w')
theorem cov_step {B l : Nat} {a b : Int} (hl : l < B) (hne : a ≠ b) : covL (B - l) l a b = (if a % 2 = 1 then [(l, a)] else []) ++
    ((if (if b % 2 = 0 then b - 1 else b) < (if a % 2 = 1 then a + 1 else a) then [] else covL (B - (l + 1)) (l + 1) ((if a % 2 = 1 then a + 1 else a) / 2) ((if b % 2 = 0 then b - 1 else b) / 2)) ++ (if b % 2 = 0 then [(l, b)] else [])) := by
  rw [show B - l = (B - (l + 1)) + 1 by omega]
  conv => lhs; unfold covL
  rw [if_neg hne]
theorem rev_one (c : Prop) [Decidable c] (p : Nat × Int) : (if c then [p] else []).reverse = if c then [p] else [] := by split <;> rfl
set_option maxRecDepth 20000 in
set_option maxHeartbeats 4000000 in
theorem Cover_c (B : Nat) (hB1 : 1 ≤ B) (hB2 : B ≤ 59) (lo hi : Int) (hlo : U64 lo) (hhi : U64 hi) (w : World) :
    Calls Tryz.prog 186 #[.int .i64 B, .int .u64 lo, .int .u64 hi] w (CoverPost w B lo hi) := by
  have hmf : ∀ (fn : Fn) (first cap : Array Value) (w : World), (Instr.makeFunc fn first cap).run Tryz.prog w = .ok (.func fn first cap) w := fun _ _ _ _ => rfl
  obtain ⟨hlo0, hlo1⟩ := hlo
  obtain ⟨hhi0, hhi1⟩ := hhi
  have hpw := pow_bd B hB2
  by_cases h1 : hi < lo
  · go_enter_defers Tryz.func186, Tryz.ntmps186
    go_wp2
    exact ⟨.tuple #[.slice none 0 0, .bool false], by simp [results, Tryz.results186, go_sem], .inl ⟨.inl h1, rfl, Ext.alloc' _ _⟩⟩
  · by_cases h2 : 2 ^ B ≤ hi
    · go_enter_defers Tryz.func186, Tryz.ntmps186
      go_wp2
      exact ⟨.tuple #[.slice none 0 0, .bool false], by simp [results, Tryz.results186, go_sem], .inl ⟨.inr h2, rfl, Ext.alloc' _ _⟩⟩
    · have hcv : CovW w ((w.alloc (.cells #[.slice none 0 0] 165)).alloc (.cells #[.slice none 0 0] 165)) w.heap.size (w.heap.size + 1) (.slice none 0 0) (.slice none 0 0) [] [] :=
        ⟨by rw [heap_old _ _ (by rw [size_alloc]; omega)]; exact heap_at _ _ rfl, heap_at _ _ (size_alloc _ _).symm, ⟨rfl, .inl ⟨rfl, rfl⟩⟩, ⟨rfl, .inl ⟨rfl, rfl⟩⟩, (fun i hi => by simp [Value.ownBlock] at hi), Nat.le_refl _, by omega, by omega, (Ext.alloc' _ _).allocR _⟩
      have HCV := Lib.hid hcv
      have HF := Lib.hid (show (lo ≤ hi ∧ hi < 2 ^ B) from ⟨by omega, by omega⟩)
      obtain ⟨i0, z0, hi0, hz0, hz1, hz2, hzs⟩ := info_pc
      have door : ∀ (W : World) (v6 v8 : Value) (pre suf : List (Nat × Int)) (tm : Array Value), CovW w W w.heap.size (w.heap.size + 1) v6 v8 pre suf → pre.length ≤ 100 → suf.length ≤ 100 → covL B 0 lo hi = pre ++ suf.reverse → tm[6]? = some (.pointer (some ⟨w.heap.size, 0, none⟩)) → tm[7]? = some (.bool true) →
          bodyPostD Tryz.prog Tryz.f186 (CoverPost w B lo hi) .ret { tmps := tm, defers := [{ target := .fn (.func 214) #[.pointer (some ⟨w.heap.size + 1, 0, none⟩), .pointer (some ⟨w.heap.size, 0, none⟩)], args := #[] }] } W := by
        intro W v6 v8 pre suf tm h hp hs hcv t6 t7
        refine leaves_cons (f := 214) (args := #[.pointer (some ⟨w.heap.size + 1, 0, none⟩), .pointer (some ⟨w.heap.size, 0, none⟩)]) (by simp) (by simp [go_sem]) ?_
        refine (CoverD_c w W _ _ v6 v8 pre suf .returning h (by omega) (by omega)).mono ?_
        rintro e u' w'' ⟨rfl, rfl, v', hk, ho, hE⟩
        have hc := (cell_of hk 0).trans rfl
        exact ⟨.tuple #[v', .bool true], by simp [results, Tryz.results186, go_sem, t6, t7, hc], .inr ⟨HF.out, v', rfl, by rw [hcv]; exact ho, hE⟩⟩
      have HD := Lib.hid door
      clear door hcv
      go_enter_defers Tryz.func186, Tryz.ntmps186
      go_wp2_with fail
      go_loopw [1, 2, 9] (fun s1 s2 s9 wr => ∃ (a b : Int) (l : Nat) (pre suf : List (Nat × Int)) (v6 v8 : Value), s1 = .int .u64 a ∧ s2 = .int .u64 b ∧ s9 = .int .i64 l ∧ l ≤ B ∧ 0 ≤ a ∧ a ≤ b ∧ b < 2 ^ (B - l) ∧ pre.length ≤ l ∧ suf.length ≤ l ∧
        covL B 0 lo hi = pre ++ (covL (B - l) l a b ++ suf.reverse) ∧ CovW w wr w.heap.size (w.heap.size + 1) v6 v8 pre suf) (fun _ _ s9 _ => B - (intOf s9).toNat)
      case atStart => exact ⟨lo, hi, 0, [], [], _, _, rfl, rfl, rfl, Nat.zero_le _, hlo0, by omega, by rw [Nat.sub_zero]; omega, Nat.le_refl _, Nat.le_refl _, by simp, HCV.out⟩
      case round =>
        obtain ⟨a, b, l, pre, suf, v6, v8, rfl, rfl, rfl, hl, ha0, hab, hbb, hpl, hsl, hcov, hW⟩ := hrel
        have hpw2 := pow_bd (B - l) (by omega)
        have HC := Lib.hid hcov
        have c6 := (cell_of hW.x6 0).trans rfl
        have c8 := (cell_of hW.x8 0).trans rfl
        have l6 := lt_of hW.x6
        have l8 := lt_of hW.x8
        have f6 := frozen_of hW.x6 0
        have f8 := frozen_of hW.x8 0
        have hsz := hW.ext.size
        have HW := Lib.hid hW
        clear hcov hW
        by_cases he : a = b
        · subst he
          go_wp2_with (at_builtin; refine wpList_appp _ (l, a) pre v6 w.heap.size 39 39 HW.out.o6 165 rfl _ _ rfl i0 z0 hi0 hz0 hz1 hz2 hzs Tryz.underlying165 rfl rfl (by omega) HW.out.ext.size ?_)
          intro v' w' hw1 hw2 hw3
          have hW1 := HW.out.app hw1 hw2 hw3
          have hk0 := HW.out.app0 hw2
          obtain ⟨pv, cv, rfl⟩ := own_sl hw1
          have W1 := Lib.hid hW1
          have j6 := (cell_of hk0 0).trans rfl
          have j6l := lt_of hk0
          have j6f := frozen_of hk0 0
          have k6 := (cell_of hW1.x6 0).trans rfl
          have k6l := lt_of hW1.x6
          have k6f := frozen_of hW1.x6 0
          clear hw1 hw2 hw3 hW1 hk0
          go_wp2
          refine HD.out _ _ _ _ _ _ W1.out.set ?_ ?_ ?_ rfl rfl
          · rw [List.length_append, List.length_singleton]; omega
          · omega
          · rw [HC.out, cov_self, List.append_assoc]
        · have hl2 : l < B := by
            rcases Nat.lt_or_ge l B with h | h
            · exact h
            · rw [show B - l = 0 by omega] at hbb
              have : b < 1 := hbb
              omega
          have ha1 := and_1 a ha0 (by omega)
          have hb1 := and_1 b (by omega) (by omega)
          have hstep := cov_step hl2 he
          have h3 : (if a % 2 = 1 then a + 1 else a) % 2 = 0 ∧ a ≤ (if a % 2 = 1 then a + 1 else a) ∧ (if a % 2 = 1 then a + 1 else a) ≤ b := by split <;> omega
          have h4 : (if b % 2 = 0 then b - 1 else b) % 2 = 1 ∧ (if b % 2 = 0 then b - 1 else b) ≤ b ∧ a ≤ (if b % 2 = 0 then b - 1 else b) := by split <;> omega
          have h5 : (if a % 2 = 1 then a + 1 else a) ≤ (if b % 2 = 0 then b - 1 else b) + 1 := by split <;> split <;> omega
          have h6 : (if a % 2 = 1 then [(l, a)] else []).length ≤ 1 ∧ (if b % 2 = 0 then [(l, b)] else []).length ≤ 1 := by constructor <;> split <;> simp
          have h7 := rev_one (b % 2 = 0) (l, b)
          obtain ⟨a2, ha2⟩ : ∃ a2, (if a % 2 = 1 then a + 1 else a) = a2 := ⟨_, rfl⟩
          obtain ⟨b2, hb2⟩ : ∃ b2, (if b % 2 = 0 then b - 1 else b) = b2 := ⟨_, rfl⟩
          obtain ⟨L, hL⟩ : ∃ L, (if a % 2 = 1 then [(l, a)] else []) = L := ⟨_, rfl⟩
          obtain ⟨R, hR⟩ : ∃ R, (if b % 2 = 0 then [(l, b)] else []) = R := ⟨_, rfl⟩
          rw [ha2] at h3 h5
          rw [hb2] at h4 h5
          rw [hL, hR] at h6
          rw [hR] at h7
          rw [ha2, hb2, hL, hR] at hstep
          obtain ⟨h31, h32, h33⟩ := h3
          obtain ⟨h41, h42, h43⟩ := h4
          have HS := Lib.hid hstep
          have H6 := Lib.hid h6
          have H7 := Lib.hid h7
          have HA := Lib.hid ha2
          have HBB := Lib.hid hb2
          have HL := Lib.hid hL
          have HR := Lib.hid hR
          clear hstep h6 h7 ha2 hb2 hL hR
          go_upto_if 42 with (fail)
          go_cut [1] from 30 to 69 (fun s1 wx => ∃ v6' : Value, s1 = .int .u64 a2 ∧ CovW w wx w.heap.size (w.heap.size + 1) v6' v8 (pre ++ L) suf)
          case first =>
            have hA2 := HA.out
            have hL2 := HL.out
            by_cases ho : a % 2 = 1
            · rw [if_pos ho] at hA2 hL2
              subst hA2 hL2
              go_wp2_with (at_builtin; refine wpList_appp _ (l, a) pre v6 w.heap.size 39 39 HW.out.o6 165 rfl _ _ rfl i0 z0 hi0 hz0 hz1 hz2 hzs Tryz.underlying165 rfl rfl (by omega) HW.out.ext.size ?_)
              intro v' w' hw1 hw2 hw3
              have hW1 := HW.out.app hw1 hw2 hw3
              have hk0 := HW.out.app0 hw2
              obtain ⟨pv, cv, rfl⟩ := own_sl hw1
              have W1 := Lib.hid hW1
              have j6 := (cell_of hk0 0).trans rfl
              have j6l := lt_of hk0
              have j6f := frozen_of hk0 0
              clear hw1 hw2 hw3 hW1 hk0
              go_wp2
              go_meet
              exact ⟨_, rfl, W1.out⟩
            · rw [if_neg ho] at hA2 hL2
              subst hA2 hL2
              have ho2 : (a % 2 == 1) = false := by simp; omega
              go_wp2_with fail
              go_meet
              exact ⟨v6, rfl, by rw [List.append_nil]; exact HW.out⟩
          case rest =>
            obtain ⟨v6', rfl, hW2⟩ := hcut
            clear HW c6 c8 l6 l8 f6 f8 ha1
            have c8 := (cell_of hW2.x8 0).trans rfl
            have l8 := lt_of hW2.x8
            have f8 := frozen_of hW2.x8 0
            have HW2 := Lib.hid hW2
            clear hW2
            go_upto_if 53 with (fail)
            go_cut [2] from 30 to 69 (fun s2 wx => ∃ v8' : Value, s2 = .int .u64 b2 ∧ CovW w wx w.heap.size (w.heap.size + 1) v6' v8' (pre ++ L) (suf ++ R))
            case first =>
              have hB2 := HBB.out
              have hR2 := HR.out
              by_cases ho : b % 2 = 0
              · rw [if_pos ho] at hB2 hR2
                subst hB2 hR2
                go_wp2_with (at_builtin; refine wpList_appp _ (l, b) suf v8 w.heap.size 39 39 HW2.out.o8 165 rfl _ _ rfl i0 z0 hi0 hz0 hz1 hz2 hzs Tryz.underlying165 rfl rfl (by omega) HW2.out.ext.size ?_)
                intro v' w' hw1 hw2 hw3
                have hW1 := HW2.out.symm.app hw1 hw2 hw3
                have hk0 := HW2.out.symm.app0 hw2
                obtain ⟨pv, cv, rfl⟩ := own_sl hw1
                have W1 := Lib.hid hW1
                have j8 := (cell_of hk0 0).trans rfl
                have j8l := lt_of hk0
                have j8f := frozen_of hk0 0
                clear hw1 hw2 hw3 hW1 hk0
                go_wp2
                go_meet
                exact ⟨_, rfl, W1.out.symm⟩
              · rw [if_neg ho] at hB2 hR2
                subst hB2 hR2
                have ho2 : (b % 2 == 0) = false := by simp; omega
                go_wp2_with fail
                go_meet
                exact ⟨v8, rfl, by rw [List.append_nil]; exact HW2.out⟩
            case rest =>
              obtain ⟨v8', rfl, hW3⟩ := hcut
              clear HW2 c8 l8 f8 hb1
              have c6 := (cell_of hW3.x6 0).trans rfl
              have l6 := lt_of hW3.x6
              have f6 := frozen_of hW3.x6 0
              have HW3 := Lib.hid hW3
              clear hW3
              by_cases hlt : b2 < a2
              · obtain ⟨p6, n6, q6, hv6⟩ : ∃ p n c, v6' = .slice p n c := by obtain ⟨p, c, h⟩ := own_sl HW3.out.o6; exact ⟨p, _, c, h⟩
                subst hv6
                go_wp2_with fail
                refine HD.out _ _ _ _ _ _ HW3.out.set ?_ ?_ ?_ rfl rfl
                · rw [List.length_append]; have := H6.out.1; omega
                · rw [List.length_append]; have := H6.out.2; omega
                · rw [HC.out, HS.out, if_pos hlt, List.reverse_append, H7.out, List.nil_append, List.append_assoc, List.append_assoc]
              · go_wp2_with fail
                go_roundw
                case rel =>
                  refine ⟨a2 / 2, b2 / 2, l + 1, pre ++ L, suf ++ R, v6', v8', by go_num, by go_num, by go_num, by omega, by omega, by omega, ?_, ?_, ?_, ?_, HW3.out⟩
                  · have e : (2 : Int) ^ (B - l) = 2 * 2 ^ (B - (l + 1)) := by rw [show B - l = B - (l + 1) + 1 by omega]; exact pw_succ _
                    omega
                  · rw [List.length_append]; have := H6.out.1; omega
                  · rw [List.length_append]; have := H6.out.2; omega
                  · rw [HC.out, HS.out, if_neg hlt, List.reverse_append, H7.out]; simp only [List.append_assoc]
                case measure => simp [intOf]; omega
end Go.Proofs.YtfhdjekpdifajaaGreat
namespace Go.Proofs.YtfhdjekpdifajaaGreat
set_option linter.unusedVariables false
open Go.RowKit
/-- Where it lies: its block, its row of rows, its rows, and how many cells they could have. -/
structure Gr where
  g : Nat
  m : Nat
  r : Nat → Nat
  c : Nat → Nat
def Gr.foot (G : Gr) (R : Nat) (k : Nat) : Prop := k = G.g ∨ k = G.m ∨ ∃ r, r < R ∧ k = G.r r
def Gr.row (G : Gr) (W r : Nat) : Value := .slice (some ⟨G.r r, 0, none⟩) W (G.c r)
structure RGAt (w : World) (G : Gr) (R W : Nat) (l : List Int) : Prop where
  ex : ∃ cap, w.heap[G.g]? = some (.cells #[.slice (some ⟨G.m, 0, none⟩) R cap] 161 (0, 0)) ∧ R ≤ cap
  row : ∃ cur, w.heap[G.m]? = some (.cells cur 43 (0, 0)) ∧ ∀ r, r < R → cur[r]? = some (G.row W r)
  cells : ∀ r, r < R → ∃ cur, w.heap[G.r r]? = some (.cells cur 2 (0, 0)) ∧ ∀ k, k < W → cur[k]? = some (.int .i64 (l.getD (r * W + k) 0))
  capc : ∀ r, r < R → W ≤ G.c r
  sep : ∀ r q, r < R → q < R → r ≠ q → G.r r ≠ G.r q
  len : l.length = R * W
  r1 : 1 ≤ R
  r2 : R ≤ 8
  w1 : 1 ≤ W
  w2 : W ≤ 128
section
variable {w : World} {G : Gr} {R W : Nat} {l : List Int}
theorem RGAt.ltg (h : RGAt w G R W l) : G.g < w.heap.size := by obtain ⟨cap, h1, _⟩ := h.ex; exact lt_of h1
theorem RGAt.ltm (h : RGAt w G R W l) : G.m < w.heap.size := by obtain ⟨cur, h1, _⟩ := h.row; exact lt_of h1
theorem RGAt.ltr (h : RGAt w G R W l) {r : Nat} (hr : r < R) : G.r r < w.heap.size := by obtain ⟨cur, h1, _⟩ := h.cells r hr; exact lt_of h1
theorem RGAt.lt (h : RGAt w G R W l) {k : Nat} (hk : G.foot R k) : k < w.heap.size := by
  rcases hk with rfl | rfl | ⟨r, hr, rfl⟩
  · exact h.ltg
  · exact h.ltm
  · exact h.ltr hr
theorem RGAt.ngr (h : RGAt w G R W l) {r : Nat} (hr : r < R) : G.g ≠ G.r r := by
  obtain ⟨cap, h1, _⟩ := h.ex
  obtain ⟨cur, h2, _⟩ := h.cells r hr
  exact blk_ne h1 h2 (by decide)
theorem RGAt.nmr (h : RGAt w G R W l) {r : Nat} (hr : r < R) : G.m ≠ G.r r := by
  obtain ⟨c1, h1, _⟩ := h.row
  obtain ⟨cur, h2, _⟩ := h.cells r hr
  exact blk_ne h1 h2 (by decide)
theorem RGAt.ngm (h : RGAt w G R W l) : G.g ≠ G.m := by
  obtain ⟨cap, h1, _⟩ := h.ex
  obtain ⟨cur, h2, _⟩ := h.row
  exact blk_ne h1 h2 (by decide)
theorem RGAt.keep {w' : World} (h : RGAt w G R W l) (hk : ∀ k, G.foot R k → w'.heap[k]? = w.heap[k]?) : RGAt w' G R W l :=
  ⟨by rw [hk _ (.inl rfl)]; exact h.ex, by rw [hk _ (.inr (.inl rfl))]; exact h.row, fun r hr => by rw [hk _ (.inr (.inr ⟨r, hr, rfl⟩))]; exact h.cells r hr, h.capc, h.sep, h.len, h.r1, h.r2, h.w1, h.w2⟩
theorem RGAt.ext {w' : World} (h : RGAt w G R W l) (he : Ext w w') : RGAt w' G R W l := h.keep fun k hk => he.block k (h.lt hk)
theorem RGAt.mod {S : Nat → Prop} {w' : World} (h : RGAt w G R W l) (he : Mod S w w') (hn : ∀ k, G.foot R k → ¬ S k) : RGAt w' G R W l := h.keep fun k hk => he.block k (h.lt hk) (hn k hk)
theorem RGAt.cg (h : RGAt w G R W l) : ∃ cap, w.cell? ⟨G.g, 0, none⟩ = some (.slice (some ⟨G.m, 0, none⟩) R cap) ∧ R ≤ cap := by
  obtain ⟨cap, h1, h2⟩ := h.ex
  exact ⟨cap, (cell_of h1 0).trans rfl, h2⟩
theorem RGAt.cm (h : RGAt w G R W l) {r : Nat} (hr : r < R) : w.cell? ⟨G.m, r, none⟩ = some (.slice (some ⟨G.r r, 0, none⟩) W (G.c r)) := by
  obtain ⟨cur, h1, h2⟩ := h.row
  rw [cell_of h1]; exact h2 r hr
theorem RGAt.fm (h : RGAt w G R W l) (r : Nat) : w.frozen? ⟨G.m, r, none⟩ = false := by
  obtain ⟨cur, h1, h2⟩ := h.row
  exact frozen_of h1 r
theorem RGAt.cr (h : RGAt w G R W l) {r k : Nat} (hr : r < R) (hk : k < W) : w.cell? ⟨G.r r, k, none⟩ = some (.int .i64 (l.getD (r * W + k) 0)) := by
  obtain ⟨cur, h1, h2⟩ := h.cells r hr
  rw [cell_of h1]; exact h2 k hk
theorem RGAt.fr (h : RGAt w G R W l) {r : Nat} (hr : r < R) (k : Nat) : w.frozen? ⟨G.r r, k, none⟩ = false := by
  obtain ⟨cur, h1, h2⟩ := h.cells r hr
  exact frozen_of h1 k
/-- A row of its cells. -/
def rowL (l : List Int) (W r : Nat) : List Int := (List.range W).map fun k => l.getD (r * W + k) 0
theorem rowL_len (l : List Int) (W r : Nat) : (rowL l W r).length = W := by simp [rowL]
theorem rowL_get {l : List Int} {W r k : Nat} (hk : k < W) : (rowL l W r).getD k 0 = l.getD (r * W + k) 0 := by simp [rowL, hk]
theorem RGAt.ints (h : RGAt w G R W l) {r : Nat} (hr : r < R) : IntsAt w (.slice (some ⟨G.r r, 0, none⟩) W (G.c r)) (rowL l W r) :=
  .inr ⟨G.r r, 0, G.c r, by rw [rowL_len], h.ltr hr, fun k hk => by rw [rowL_len] at hk; rw [Nat.zero_add, rowL_get hk]; exact h.cr hr hk⟩
/-- One cell set. -/
theorem RGAt.set (h : RGAt w G R W l) {r k : Nat} (hr : r < R) (hk : k < W) (x : Int) : RGAt (w.setCell ⟨G.r r, k, none⟩ (.int .i64 x)) G R W (l.set (r * W + k) x) := by
  have hlt : r * W + k < l.length := by
    rw [h.len]
    calc r * W + k < r * W + W := by omega
      _ = (r + 1) * W := by rw [Nat.add_mul, Nat.one_mul]
      _ ≤ R * W := Nat.mul_le_mul_right W hr
  refine ⟨by rw [setCell_other _ _ (h.ngr hr)]; exact h.ex, by rw [setCell_other _ _ (h.nmr hr)]; exact h.row, fun q hq => ?_, h.capc, h.sep, by rw [List.length_set]; exact h.len, h.r1, h.r2, h.w1, h.w2⟩
  obtain ⟨cur, h1, h2⟩ := h.cells q hq
  by_cases e : q = r
  · subst e
    refine ⟨_, setCell_same h1 _ _, fun j hj => ?_⟩
    by_cases ej : j = k
    · subst ej
      have hsz : j < cur.size := by
        have := h2 j hj
        rw [Array.getElem?_eq_some_iff] at this
        exact this.1
      rw [Array.getElem?_setIfInBounds_self_of_lt hsz, List.getD_eq_getElem?_getD, List.getElem?_set_self hlt]
      rfl
    · rw [Array.getElem?_setIfInBounds_ne (fun e => ej e.symm), h2 j hj, List.getD_eq_getElem?_getD, List.getD_eq_getElem?_getD, List.getElem?_set_ne (by omega)]
  · refine ⟨cur, by rw [setCell_other _ _ (h.sep q r hq hr e)]; exact h1, fun j hj => ?_⟩
    rw [h2 j hj, List.getD_eq_getElem?_getD, List.getD_eq_getElem?_getD, List.getElem?_set_ne (at_ne hk hj (.inl fun e' => e e'.symm))]
theorem mod_rset {w : World} {G : Gr} {R r : Nat} (hr : r < R) (k : Nat) (v : Value) : Mod (G.foot R) w (w.setCell ⟨G.r r, k, none⟩ v) :=
  ⟨rfl, rfl, rfl, by rw [size_setCell]; exact Nat.le_refl _, fun j _ hj => setCell_other _ _ (fun e => hj (.inr (.inr ⟨r, hr, e⟩)))⟩
end
/-- Rows that have been made. -/
structure GMade (w : World) (B0 : Nat) (G : Gr) (W k : Nat) (v : Value) (f : Nat → Nat → Int) : Prop where
  row : w.ownsRow B0 43 1 v ((List.range k).map (G.row W)).length ((List.range k).map (G.row W))
  cells : ∀ r, r < k → ∃ cur, w.heap[G.r r]? = some (.cells cur 2 (0, 0)) ∧ ∀ j, j < W → cur[j]? = some (.int .i64 (f r j))
  capc : ∀ r, r < k → W ≤ G.c r
  new : ∀ r, r < k → B0 ≤ G.r r
  sep : ∀ r q, r < k → q < k → r ≠ q → G.r r ≠ G.r q
theorem GMade.zero (w : World) (B0 : Nat) (G : Gr) (W : Nat) (f : Nat → Nat → Int) : GMade w B0 G W 0 (.slice none 0 0) f :=
  ⟨⟨rfl, .inl ⟨rfl, rfl⟩⟩, by intros; omega, by intros; omega, by intros; omega, by intros; omega⟩
theorem GMade.ext {w w' : World} {B0 W k : Nat} {G : Gr} {v : Value} {f : Nat → Nat → Int} (h : GMade w B0 G W k v f) (he : Ext w w') : GMade w' B0 G W k v f :=
  ⟨own_ext h.row he, fun r hr => by obtain ⟨cur, h1, h2⟩ := h.cells r hr; exact ⟨cur, he.keep h1, h2⟩, h.capc, h.new, h.sep⟩
theorem GMade.lt {w : World} {B0 W k : Nat} {G : Gr} {v : Value} {f : Nat → Nat → Int} (h : GMade w B0 G W k v f) {r : Nat} (hr : r < k) : G.r r < w.heap.size := by
  obtain ⟨cur, h1, _⟩ := h.cells r hr; exact lt_of h1
theorem GMade.setc {w : World} {B0 W k : Nat} {G : Gr} {v : Value} {f : Nat → Nat → Int} (h : GMade w B0 G W k v f) {b : Nat} (hb : b < B0) (o : Nat) (u : Value) : GMade (w.setCell ⟨b, o, none⟩ u) B0 G W k v f :=
  ⟨own_setc h.row hb o u, fun r hr => by obtain ⟨cur, h1, h2⟩ := h.cells r hr; exact ⟨cur, by rw [setCell_other _ _ (by have := h.new r hr; omega)]; exact h1, h2⟩, h.capc, h.new, h.sep⟩
/-- A row that the call has made. -/
theorem own_row1 {w : World} {N : Nat} {u : Value} {xs : List Int} (h : w.ownsRow N 2 1 u xs.length (ints xs)) (hx : 0 < xs.length) :
    ∃ z cap cur, u = .slice (some ⟨z, 0, none⟩) xs.length cap ∧ xs.length ≤ cap ∧ N ≤ z ∧ w.heap[z]? = some (.cells cur 2 (0, 0)) ∧ ∀ j, j < xs.length → cur[j]? = some (.int .i64 (xs.getD j 0)) := by
  obtain ⟨z, cap, hv, hz, hc⟩ := CAt.of_row h hx
  obtain ⟨cur, h1, h2, h3⟩ := hc.ex
  exact ⟨z, cap, cur, hv, hc.le, hz, h1, fun j hj => by rw [← cell_of h1]; exact hc.cell hj⟩
/-- One more. -/
theorem GMade.next {w w' : World} {B0 W k N : Nat} {G : Gr} {v v' : Value} {f : Nat → Nat → Int} {z cap : Nat} {cur : Array Value} {o : Obj} (h : GMade w B0 G W k v f)
    (hz : w.heap[z]? = some (.cells cur 2 (0, 0))) (hf : ∀ j, j < W → cur[j]? = some (.int .i64 (f k j))) (hcap : W ≤ cap) (hN : ∀ r, r < k → G.r r < N) (hB : B0 ≤ N) (hzN : N ≤ z)
    (hown : w'.ownsRow B0 43 1 v' ((List.range k).map (G.row W) ++ [Value.slice (some ⟨z, 0, none⟩) W cap]).length ((List.range k).map (G.row W) ++ [Value.slice (some ⟨z, 0, none⟩) W cap])) (hg : (w.alloc o).grownBy w' v.ownBlock) :
    GMade w' B0 ⟨G.g, G.m, fun r => if r = k then z else G.r r, fun r => if r = k then cap else G.c r⟩ W (k + 1) v' f := by
  have hold : ∀ (j : Nat) (cu : Array Value), w.heap[j]? = some (Obj.cells cu 2 (0, 0)) → w'.heap[j]? = some (Obj.cells cu 2 (0, 0)) := fun j cu hj =>
    (grown_old hg (lt_of hj) (fun e => own_notB h.row hj (by decide) e.symm)).trans hj
  refine ⟨?_, fun r hr => ?_, fun r hr => ?_, fun r hr => ?_, fun r q hr hq hrq => ?_⟩
  · have e : (List.range (k + 1)).map (Gr.row ⟨G.g, G.m, fun r => if r = k then z else G.r r, fun r => if r = k then cap else G.c r⟩ W) = (List.range k).map (G.row W) ++ [Value.slice (some ⟨z, 0, none⟩) W cap] := by
      rw [List.range_succ, List.map_append]
      congr 1
      · apply List.map_congr_left
        intro i hi
        rw [List.mem_range] at hi
        simp only [Gr.row, if_neg (show ¬ i = k by omega)]
      · simp [Gr.row]
    rw [e]; exact hown
  · by_cases e : r = k
    · subst e
      refine ⟨cur, ?_, hf⟩
      simp only [if_pos]
      exact hold _ _ hz
    · obtain ⟨cu, h1, h2⟩ := h.cells r (by omega)
      refine ⟨cu, ?_, h2⟩
      simp only [if_neg e]
      exact hold _ _ h1
  · by_cases e : r = k
    · simp only [if_pos e]; exact hcap
    · simp only [if_neg e]; exact h.capc r (by omega)
  · by_cases e : r = k
    · simp only [if_pos e]; omega
    · simp only [if_neg e]; exact h.new r (by omega)
  · by_cases e : r = k
    · subst e
      simp only [if_pos, if_neg (show ¬ q = r by omega)]
      have := hN q (by omega)
      omega
    · by_cases e' : q = k
      · subst e'
        simp only [if_pos, if_neg e]
        have := hN r (by omega)
        omega
      · simp only [if_neg e, if_neg e']
        exact h.sep r q (by omega) (by omega) hrq
/-- All rows, and the grid's own block: a grid. -/
theorem GMade.grid {w : World} {B0 R W g : Nat} {G : Gr} {v : Value} {f : Nat → Nat → Int} {l : List Int} (h : GMade w B0 G W R v f) (hg : w.heap[g]? = some (.cells #[v] 161 (0, 0)))
    (hl : l.length = R * W) (hf : ∀ r k, r < R → k < W → f r k = l.getD (r * W + k) 0) (r1 : 1 ≤ R) (r2 : R ≤ 8) (w1 : 1 ≤ W) (w2 : W ≤ 128) :
    ∃ m, B0 ≤ m ∧ RGAt w ⟨g, m, G.r, G.c⟩ R W l := by
  have hlen : ((List.range R).map (G.row W)).length = R := by simp
  rcases h.row.2 with ⟨_, h0⟩ | ⟨m, cap, cur, rfl, hbg, hm, hnc, hcm, hcs, htake⟩
  · rw [hlen] at h0; omega
  · rw [hlen] at hg hnc
    refine ⟨m, hbg, ⟨⟨cap, hg, hnc⟩, ⟨cur, hm, fun r hr => ?_⟩, fun r hr => ?_, h.capc, h.sep, hl, r1, r2, w1, w2⟩⟩
    · have hget : ((List.range R).map (G.row W))[r]? = some (G.row W r) := by rw [List.getElem?_map, List.getElem?_range hr]; rfl
      have h1 := h.row.cells (g := m) rfl r _ hget
      rw [show ((⟨m, 0, none⟩ : Addr).add r) = ⟨m, r, none⟩ by (simp [Addr.add]; intro e; exact e.symm), cell_of hm] at h1
      exact h1
    · obtain ⟨cu, h1, h2⟩ := h.cells r hr
      exact ⟨cu, h1, fun k hk => by rw [h2 k hk, hf r k hr hk]⟩
theorem info_row : ∃ i z, Tryz.prog.info? 43 = some i ∧ i.zero = some z ∧ i.size = 1 ∧ i.bytes = 24 ∧ z.cells.size = 1 := by
  have h : (Tryz.prog.info? 43).map (fun i => (i.zero, i.size, i.bytes)) = some (some (.slice none 0 0), 1, 24) := by kernel_rfl
  match hi : Tryz.prog.info? 43, h with
  | some i, h =>
    simp only [Option.map_some, Option.some.injEq, Prod.mk.injEq] at h
    exact ⟨i, .slice none 0 0, rfl, h.1, h.2.1, h.2.2, rfl⟩
section
variable {P : Program}
/-- 's = append(s, x)', x of one cell and so many bytes, s a row of the call's own. -/
theorem wpList_appB (W : World) {ops : Array Oper} {rest : List Oper} {o : Oper} {a : Act} {Q : Exit → Act → World → Prop} (by_ : Nat) (hby : by_ ≤ 64) (x : Value) (hx1 : x.oneCell' = true) (xs : List Value) (v : Value) (base : Nat) (e : TypeId) (hown : W.ownsRow base e 1 v xs.length xs) (t : TypeId)
    (hgd : o.guard = none) (s y : Operand) (ho : o.op = .call { callee := .builtin .append, args := #[s, y], argTypes := #[t, t] })
    (i0 : TypeInfo) (z0 : Value) (hi : P.info? e = some i0) (hz0 : i0.zero = some z0) (hz1 : i0.size = 1) (hz2 : i0.bytes = by_) (hz3 : z0.cells.size = 1) (ht : P.underlying t = some (.slice e))
    (hs : a.eval s = v) (hx : a.eval y = .slice (some ⟨W.heap.size, 0, none⟩) 1 1)
    (hl : xs.length ≤ 1000000) (hbase : base ≤ W.heap.size)
    (h : ∀ v' w', w'.ownsRow base e 1 v' (xs ++ [x]).length (xs ++ [x]) → (W.alloc (.cells #[x] e)).grownBy w' v.ownBlock → wpList P ops Q rest (a.put o.dst v') w') :
    wpList P ops Q (o :: rest) a (W.alloc (.cells #[x] e)) := by
  refine wpList_append_sep _ hgd s y t ho base e i0 z0 1 by_ ht hi hz0 hz1 hz2 hz3 (by decide) v xs.length xs hs (hown.alloc _) ⟨W.heap.size, 0, none⟩ 1 1 [x] hx rfl ?_ ?_ (by unfold maxLen; omega) ?_ (by rw [size_alloc]; omega) ?_
  · intro j u hu
    have hj : j = 0 := by
      have := (List.getElem?_eq_some_iff.1 hu).1
      simp at this; exact this
    subst hj
    rw [show (⟨W.heap.size, 0, none⟩ : Addr).add 0 = ⟨W.heap.size, 0, none⟩ by simp [Addr.add], cell_of (heap_at W _ rfl) 0]
    exact hu
  · intro u hu
    simp at hu
    subst hu
    exact hx1
  · have : (xs.length + 1) * by_ ≤ 1000001 * 64 := Nat.mul_le_mul (by omega) hby
    omega
  · intro v' w' h1 h2 h3
    refine h v' w' ?_ h2
    rw [List.length_append]
    exact h1
end
end Go.Proofs.YtfhdjekpdifajaaGreat
namespace Go.Proofs.YtfhdjekpdifajaaGreat
set_option linter.unusedVariables false
open Go.RowKit
/-- P is told of the blocks F, which are there. -/
structure Own (F : Nat → Prop) (P : World → Prop) (w : World) : Prop where
  h : P w
  keep : ∀ w w' : World, P w → (∀ k, F k → w'.heap[k]? = w.heap[k]?) → P w'
  lt : ∀ k, F k → k < w.heap.size
theorem Own.mod {F S : Nat → Prop} {P : World → Prop} {w w' : World} (h : Own F P w) (hm : Mod S w w') (hn : ∀ k, F k → ¬ S k) : Own F P w' :=
  ⟨h.keep w w' h.h (fun k hk => hm.block k (h.lt k hk) (hn k hk)), h.keep, fun k hk => Nat.lt_of_lt_of_le (h.lt k hk) hm.size⟩
theorem Own.ext {F : Nat → Prop} {P : World → Prop} {w w' : World} (h : Own F P w) (he : Ext w w') : Own F P w' :=
  ⟨h.keep w w' h.h (fun k hk => he.block k (h.lt k hk)), h.keep, fun k hk => Nat.lt_of_lt_of_le (h.lt k hk) he.size⟩
/-- They have no block in common. -/
def Dj (F G : Nat → Prop) : Prop := ∀ k, F k → ¬ G k
theorem Dj.symm {F G : Nat → Prop} (h : Dj F G) : Dj G F := fun k hg hf => h k hf hg
/-- What came out of one of them, or is new. -/
theorem Own.grow {F G G' : Nat → Prop} {P : World → Prop} {w : World} (h : Own F P w) (hd : Dj F G) (hG : ∀ k, G' k → G k ∨ w.heap.size ≤ k) : Dj F G' := fun k hf hg => by
  rcases hG k hg with h1 | h1
  · exact hd k hf h1
  · have := h.lt k hf; omega
theorem Own.of {F : Nat → Prop} {P : World → Prop} {w : World} (h : P w) (keep : ∀ w w' : World, P w → (∀ k, F k → w'.heap[k]? = w.heap[k]?) → P w') (lt : ∀ k, F k → k < w.heap.size) : Own F P w := ⟨h, keep, lt⟩
theorem Mod.wider {S T : Nat → Prop} {w w' : World} (h : Mod S w w') (hs : ∀ k, S k → T k) : Mod T w w' := ⟨h.os, h.tape, h.output, h.size, fun k hk hn => h.block k hk (fun hk2 => hn (hs k hk2))⟩
end Go.Proofs.YtfhdjekpdifajaaGreat
namespace Go.Proofs.YtfhdjekpdifajaaGreat
set_option linter.unusedVariables false
open Go.RowKit
/-- A sketch of the references. -/
structure RSAt (w : World) (s : Nat) (G : Gr) (C : Cfg) (lv : Int) (R W : Nat) (l : List Int) : Prop where
  ex : w.heap[s]? = some (.cells #[.int .i64 C.bits, .int .i64 C.rows, .int .i64 C.width, .int .i64 C.mode, .int .u64 C.seed, .int .i64 lv, .pointer (some ⟨G.g, 0, none⟩)] 158 (0, 0))
  g : RGAt w G R W l
  ok : C.Ok
  lo : 0 ≤ lv
  hi : lv ≤ C.bits
  hr : C.rows = R
  hw : C.width = W
  fit : ∀ x ∈ l, I64 x
def rsF (s : Nat) (G : Gr) (R : Nat) (k : Nat) : Prop := k = s ∨ G.foot R k
section
variable {w : World} {s : Nat} {G : Gr} {C : Cfg} {lv : Int} {R W : Nat} {l : List Int}
theorem RSAt.lts (h : RSAt w s G C lv R W l) : s < w.heap.size := lt_of h.ex
theorem RSAt.keep {w' : World} (h : RSAt w s G C lv R W l) (hk : ∀ k, rsF s G R k → w'.heap[k]? = w.heap[k]?) : RSAt w' s G C lv R W l :=
  ⟨by rw [hk s (.inl rfl)]; exact h.ex, h.g.keep fun k hg => hk k (.inr hg), h.ok, h.lo, h.hi, h.hr, h.hw, h.fit⟩
theorem RSAt.lt (h : RSAt w s G C lv R W l) {k : Nat} (hk : rsF s G R k) : k < w.heap.size := by
  rcases hk with rfl | hk
  · exact h.lts
  · exact h.g.lt hk
theorem RSAt.ext {w' : World} (h : RSAt w s G C lv R W l) (he : Ext w w') : RSAt w' s G C lv R W l := h.keep fun k hk => he.block k (h.lt hk)
theorem RSAt.mod {S : Nat → Prop} {w' : World} (h : RSAt w s G C lv R W l) (he : Mod S w w') (hn : ∀ k, rsF s G R k → ¬ S k) : RSAt w' s G C lv R W l := h.keep fun k hk => he.block k (h.lt hk) (hn k hk)
theorem RSAt.ns (h : RSAt w s G C lv R W l) : ¬ G.foot R s := by
  rintro (e | e | ⟨r, hr, e⟩)
  · obtain ⟨cap, h1, _⟩ := h.g.ex; exact blk_ne h.ex h1 (by decide) e
  · obtain ⟨cap, h1, _⟩ := h.g.row; exact blk_ne h.ex h1 (by decide) e
  · obtain ⟨cur, h1, _⟩ := h.g.cells r hr; exact blk_ne h.ex h1 (by decide) e
theorem RSAt.own (h : RSAt w s G C lv R W l) : Own (rsF s G R) (fun w => RSAt w s G C lv R W l) w := ⟨h, fun w w' h hk => h.keep hk, fun k hk => h.lt hk⟩
/-- Its cells are others. -/
theorem RSAt.putg {w' : World} {m : List Int} (h : RSAt w s G C lv R W l) (hg : RGAt w' G R W m) (hm : Mod (G.foot R) w w') (hi : ∀ x ∈ m, I64 x) : RSAt w' s G C lv R W m :=
  ⟨by rw [hm.block s h.lts h.ns]; exact h.ex, hg, h.ok, h.lo, h.hi, h.hr, h.hw, hi⟩
end
/-- An array of the references. -/
structure RXAt (w : World) (a m : Nat) (C : Cfg) (lv : Int) (K : Nat) (l : List Int) : Prop where
  ex : ∃ cap, w.heap[a]? = some (.cells #[.int .i64 C.bits, .int .i64 C.rows, .int .i64 C.width, .int .i64 C.mode, .int .u64 C.seed, .int .i64 lv, .slice (some ⟨m, 0, none⟩) K cap] 155 (0, 0)) ∧ K ≤ cap
  cells : ∃ cur, w.heap[m]? = some (.cells cur 2 (0, 0)) ∧ ∀ k, k < K → cur[k]? = some (.int .i64 (l.getD k 0))
  len : l.length = K
  k1 : 1 ≤ K
  k2 : K ≤ 128
  fit : ∀ x ∈ l, I64 x
def rxF (a m : Nat) (k : Nat) : Prop := k = a ∨ k = m
section
variable {w : World} {a m : Nat} {C : Cfg} {lv : Int} {K : Nat} {l : List Int}
theorem RXAt.lta (h : RXAt w a m C lv K l) : a < w.heap.size := by obtain ⟨cap, h1, _⟩ := h.ex; exact lt_of h1
theorem RXAt.ltm (h : RXAt w a m C lv K l) : m < w.heap.size := by obtain ⟨cur, h1, _⟩ := h.cells; exact lt_of h1
theorem RXAt.ne (h : RXAt w a m C lv K l) : a ≠ m := by
  obtain ⟨cap, h1, _⟩ := h.ex
  obtain ⟨cur, h2, _⟩ := h.cells
  exact blk_ne h1 h2 (by decide)
theorem RXAt.lt (h : RXAt w a m C lv K l) {k : Nat} (hk : rxF a m k) : k < w.heap.size := by
  rcases hk with rfl | rfl
  · exact h.lta
  · exact h.ltm
theorem RXAt.keep {w' : World} (h : RXAt w a m C lv K l) (hk : ∀ k, rxF a m k → w'.heap[k]? = w.heap[k]?) : RXAt w' a m C lv K l :=
  ⟨by rw [hk a (.inl rfl)]; exact h.ex, by rw [hk m (.inr rfl)]; exact h.cells, h.len, h.k1, h.k2, h.fit⟩
theorem RXAt.ext {w' : World} (h : RXAt w a m C lv K l) (he : Ext w w') : RXAt w' a m C lv K l := h.keep fun k hk => he.block k (h.lt hk)
theorem RXAt.cell (h : RXAt w a m C lv K l) {k : Nat} (hk : k < K) : w.cell? ⟨m, k, none⟩ = some (.int .i64 (l.getD k 0)) := by
  obtain ⟨cur, h1, h2⟩ := h.cells; rw [cell_of h1]; exact h2 k hk
theorem RXAt.frz (h : RXAt w a m C lv K l) (k : Nat) : w.frozen? ⟨m, k, none⟩ = false := by
  obtain ⟨cur, h1, h2⟩ := h.cells; exact frozen_of h1 k
theorem RXAt.ints {cap : Nat} (h : RXAt w a m C lv K l) : IntsAt w (.slice (some ⟨m, 0, none⟩) K cap) l :=
  .inr ⟨m, 0, cap, by rw [h.len], h.ltm, fun k hk => by rw [h.len] at hk; rw [Nat.zero_add]; exact h.cell hk⟩
theorem RXAt.set (h : RXAt w a m C lv K l) {k : Nat} (hk : k < K) {x : Int} (hx : I64 x) : RXAt (w.setCell ⟨m, k, none⟩ (.int .i64 x)) a m C lv K (l.set k x) := by
  refine ⟨by rw [setCell_other _ _ h.ne]; exact h.ex, ?_, by rw [List.length_set]; exact h.len, h.k1, h.k2, fun y hy => ?_⟩
  · obtain ⟨cur, h1, h2⟩ := h.cells
    refine ⟨_, setCell_same h1 _ _, fun j hj => ?_⟩
    by_cases ej : j = k
    · subst ej
      have hsz : j < cur.size := by
        have := h2 j hj
        rw [Array.getElem?_eq_some_iff] at this
        exact this.1
      rw [Array.getElem?_setIfInBounds_self_of_lt hsz, List.getD_eq_getElem?_getD, List.getElem?_set_self (by rw [h.len]; exact hk)]
      rfl
    · rw [Array.getElem?_setIfInBounds_ne (fun e => ej e.symm), h2 j hj, List.getD_eq_getElem?_getD, List.getD_eq_getElem?_getD, List.getElem?_set_ne (fun e => ej e.symm)]
  · rcases List.mem_or_eq_of_mem_set hy with h1 | rfl
    · exact h.fit y h1
    · exact hx
end
/-- Where a level of the references lies. -/
structure RLev where
  p : Nat
  a : Nat
  G : Gr
def RLvAt (w : World) (L : RLev) (C : Cfg) (lv : Int) (l : List Int) : Prop :=
  C.Ok ∧ 0 ≤ lv ∧ lv ≤ C.bits ∧
    ((isX C lv = true ∧ w.heap[L.p]? = some (.cells #[.pointer (some ⟨L.a, 0, none⟩), .pointer none] 153 (0, 0)) ∧ RXAt w L.a L.G.m C lv (kN C lv) l) ∨
     (isX C lv = false ∧ w.heap[L.p]? = some (.cells #[.pointer none, .pointer (some ⟨L.a, 0, none⟩)] 153 (0, 0)) ∧ RSAt w L.a L.G C lv (rN C) (wN C) l))
def RLev.foot (C : Cfg) (lv : Int) (L : RLev) (k : Nat) : Prop := k = L.p ∨ (isX C lv = true ∧ rxF L.a L.G.m k) ∨ (isX C lv = false ∧ rsF L.a L.G (rN C) k)
section
variable {w : World} {L : RLev} {C : Cfg} {lv : Int} {l : List Int}
theorem RLvAt.fit (h : RLvAt w L C lv l) : ∀ x ∈ l, I64 x := by
  obtain ⟨_, _, _, ⟨_, _, h⟩ | ⟨_, _, h⟩⟩ := h
  · exact h.fit
  · exact h.fit
theorem RLvAt.len (h : RLvAt w L C lv l) : l.length = lvN C lv := by
  obtain ⟨_, _, _, ⟨hx, _, h⟩ | ⟨hx, _, h⟩⟩ := h
  · unfold lvN; rw [hx]; exact h.len
  · unfold lvN; rw [hx]; exact h.g.len
theorem RLvAt.x (h : RLvAt w L C lv l) (hx : isX C lv = true) : w.heap[L.p]? = some (.cells #[.pointer (some ⟨L.a, 0, none⟩), .pointer none] 153 (0, 0)) ∧ RXAt w L.a L.G.m C lv (kN C lv) l := by
  obtain ⟨_, _, _, ⟨_, h1, h2⟩ | ⟨hy, _⟩⟩ := h
  · exact ⟨h1, h2⟩
  · rw [hx] at hy; cases hy
theorem RLvAt.sk (h : RLvAt w L C lv l) (hx : isX C lv = false) : w.heap[L.p]? = some (.cells #[.pointer none, .pointer (some ⟨L.a, 0, none⟩)] 153 (0, 0)) ∧ RSAt w L.a L.G C lv (rN C) (wN C) l := by
  obtain ⟨_, _, _, ⟨hy, _⟩ | ⟨_, h1, h2⟩⟩ := h
  · rw [hx] at hy; cases hy
  · exact ⟨h1, h2⟩
theorem RLvAt.lt (h : RLvAt w L C lv l) {k : Nat} (hk : L.foot C lv k) : k < w.heap.size := by
  rcases hk with rfl | ⟨hx, hk⟩ | ⟨hx, hk⟩
  · obtain ⟨_, _, _, ⟨_, h1, _⟩ | ⟨_, h1, _⟩⟩ := h <;> exact lt_of h1
  · exact (h.x hx).2.lt hk
  · exact (h.sk hx).2.lt hk
theorem RLvAt.keep {w' : World} (h : RLvAt w L C lv l) (hk : ∀ k, L.foot C lv k → w'.heap[k]? = w.heap[k]?) : RLvAt w' L C lv l := by
  obtain ⟨h1, h2, h3, ⟨hx, h4, h5⟩ | ⟨hx, h4, h5⟩⟩ := h
  · exact ⟨h1, h2, h3, .inl ⟨hx, by rw [hk _ (.inl rfl)]; exact h4, h5.keep fun k hg => hk k (.inr (.inl ⟨hx, hg⟩))⟩⟩
  · exact ⟨h1, h2, h3, .inr ⟨hx, by rw [hk _ (.inl rfl)]; exact h4, h5.keep fun k hg => hk k (.inr (.inr ⟨hx, hg⟩))⟩⟩
theorem RLvAt.ext {w' : World} (h : RLvAt w L C lv l) (he : Ext w w') : RLvAt w' L C lv l := h.keep fun k hk => he.block k (h.lt hk)
theorem RLvAt.mod {S : Nat → Prop} {w' : World} (h : RLvAt w L C lv l) (he : Mod S w w') (hn : ∀ k, L.foot C lv k → ¬ S k) : RLvAt w' L C lv l := h.keep fun k hk => he.block k (h.lt hk) (hn k hk)
theorem RLvAt.own (h : RLvAt w L C lv l) : Own (L.foot C lv) (fun w => RLvAt w L C lv l) w := ⟨h, fun w w' h hk => h.keep hk, fun k hk => h.lt hk⟩
end
/-- A stack of the references. -/
structure RKAt (w : World) (s t : Nat) (C : Cfg) (B : Nat) (L : Nat → RLev) (ls : Nat → List Int) : Prop where
  ex : ∃ cap, w.heap[s]? = some (.cells #[.int .i64 C.bits, .int .i64 C.rows, .int .i64 C.width, .int .i64 C.mode, .int .u64 C.seed, .slice (some ⟨t, 0, none⟩) (B + 1) cap] 48 (0, 0)) ∧ B + 1 ≤ cap
  row : ∃ cur, w.heap[t]? = some (.cells cur 45 (0, 0)) ∧ ∀ n, n ≤ B → cur[n]? = some (.pointer (some ⟨(L n).p, 0, none⟩))
  lev : ∀ n, n ≤ B → RLvAt w (L n) C n (ls n)
  sep : ∀ m n, m ≤ B → n ≤ B → m ≠ n → Dj ((L m).foot C m) ((L n).foot C n)
  ok : C.Ok
  hB : C.bits = B
def rkF (s t : Nat) (C : Cfg) (B : Nat) (L : Nat → RLev) (k : Nat) : Prop := k = s ∨ k = t ∨ ∃ n, n ≤ B ∧ (L n).foot C n k
section
variable {w : World} {s t : Nat} {C : Cfg} {B : Nat} {L : Nat → RLev} {ls : Nat → List Int}
theorem RKAt.lts (h : RKAt w s t C B L ls) : s < w.heap.size := by obtain ⟨cap, h1, _⟩ := h.ex; exact lt_of h1
theorem RKAt.ltt (h : RKAt w s t C B L ls) : t < w.heap.size := by obtain ⟨cap, h1, _⟩ := h.row; exact lt_of h1
theorem RKAt.lt (h : RKAt w s t C B L ls) {k : Nat} (hk : rkF s t C B L k) : k < w.heap.size := by
  rcases hk with rfl | rfl | ⟨n, hn, hk⟩
  · exact h.lts
  · exact h.ltt
  · exact (h.lev n hn).lt hk
theorem RKAt.keep {w' : World} (h : RKAt w s t C B L ls) (hk : ∀ k, rkF s t C B L k → w'.heap[k]? = w.heap[k]?) : RKAt w' s t C B L ls :=
  ⟨by rw [hk s (.inl rfl)]; exact h.ex, by rw [hk t (.inr (.inl rfl))]; exact h.row, fun n hn => (h.lev n hn).keep fun k hg => hk k (.inr (.inr ⟨n, hn, hg⟩)), h.sep, h.ok, h.hB⟩
theorem RKAt.ext {w' : World} (h : RKAt w s t C B L ls) (he : Ext w w') : RKAt w' s t C B L ls := h.keep fun k hk => he.block k (h.lt hk)
theorem RKAt.own (h : RKAt w s t C B L ls) : Own (rkF s t C B L) (fun w => RKAt w s t C B L ls) w := ⟨h, fun w w' h hk => h.keep hk, fun k hk => h.lt hk⟩
theorem RKAt.cell (h : RKAt w s t C B L ls) {n : Nat} (hn : n ≤ B) : w.cell? ⟨t, n, none⟩ = some (.pointer (some ⟨(L n).p, 0, none⟩)) := by
  obtain ⟨cur, h1, h2⟩ := h.row; rw [cell_of h1]; exact h2 n hn
end
end Go.Proofs.YtfhdjekpdifajaaGreat
namespace Go.Proofs.YtfhdjekpdifajaaGreat
set_option linter.unusedVariables false
open Go.RowKit
theorem own_empty (w : World) (e : TypeId) : (w.alloc (.cells #[] e)).ownsRow w.heap.size e 1 (.slice (some ⟨w.heap.size, 0, none⟩) 0 0) 0 [] :=
  ⟨rfl, .inr ⟨w.heap.size, 0, #[], rfl, Nat.le_refl _, heap_at _ _ rfl, Nat.le_refl _, Nat.zero_le _, rfl, rfl⟩⟩
theorem zs_succ (n : Nat) : zs (n + 1) = zs n ++ [0] := List.replicate_succ'
set_option maxRecDepth 20000 in
set_option maxHeartbeats 4000000 in
theorem RGNew_c (R W : Nat) (r1 : 1 ≤ R) (r2 : R ≤ 8) (w1 : 1 ≤ W) (w2 : W ≤ 128) (w : World) :
    Calls Tryz.prog 155 #[.int .i64 R, .int .i64 W] w fun e w' => ∃ G : Gr, e = .returned (.pointer (some ⟨G.g, 0, none⟩)) ∧ RGAt w' G R W (zs (R * W)) ∧ (∀ k, G.foot R k → w.heap.size ≤ k) ∧ Ext w w' := by
  go_enter Tryz.func155, Tryz.ntmps155
  go_wp2_with fail
  go_loopw [6] (fun u6 wr => ∃ (k : Nat) (G : Gr) (v : Value), k ≤ R ∧ u6 = .int .i64 k ∧ Ext w wr ∧ wr.heap[w.heap.size]? = some (.cells #[v] 161 (0, 0)) ∧ GMade wr (w.heap.size + 1) G W k v (fun _ _ => 0)) (fun u6 _ => R - (intOf u6).toNat)
  case atStart => exact ⟨0, ⟨0, 0, fun _ => 0, fun _ => 0⟩, _, Nat.zero_le _, rfl, Ext.alloc' _ _, heap_at _ _ rfl, GMade.zero _ _ _ _ _⟩
  case round =>
    obtain ⟨k, G, v, hk, rfl, hE, hb, hM⟩ := hrel
    rename World => wo
    have hbl := lt_of hb
    have hsz := hE.size
    have HB := Lib.hid hb
    have HM := Lib.hid hM
    clear hb hM
    by_cases hlt : k < R
    · have hk8 : (k : Int) < 8 := by omega
      have hk8b : decide ((k : Int) < 8) = true := by simp; omega
      go_wp2_with fail
      go_loopw [7, 8] (fun u7 u8 wr => ∃ j : Nat, j ≤ W ∧ u8 = .int .i64 j ∧ wr.ownsRow wo.heap.size 2 1 u7 (zs j).length (ints (zs j)) ∧ Ext wo wr) (fun _ u8 _ => W - (intOf u8).toNat)
      case atStart => exact ⟨0, Nat.zero_le _, rfl, own_empty _ _, Ext.alloc' _ _⟩
      case round =>
        obtain ⟨j, hj, rfl, hown, hx⟩ := hrel
        have hxs := hx.size
        by_cases hjl : j < W
        · have hj128 : (j : Int) < 128 := by omega
          have hj128b : decide ((j : Int) < 128) = true := by simp; omega
          go_wp2_with (at_builtin; refine wpList_app1 wr 0 (zs j) _ wo.heap.size 2 hown 43 rfl _ _ rfl info_i64 Tryz.underlying43 rfl rfl ?a1 ?a2 ?_)
          case a1 => rw [zs_len]; omega
          case a2 => exact hxs
          intro v' w' g1 g2 g3
          have hx' : Ext wo w' := ext_grown hx g2 (fun i hi => own_blk hown hi)
          rw [← zs_succ] at g1
          have G1 := Lib.hid g1
          clear g1 g2 g3 hown
          go_wp2
          go_roundw
          case rel => exact ⟨j + 1, by omega, by go_num, G1.out, hx'⟩
          case measure => simp [intOf]; omega
        · obtain rfl : j = W := by omega
          obtain ⟨z, cap, cur, hu, hcap, hz, hzc, hcur⟩ := own_row1 hown (by rw [zs_len]; omega)
          rw [zs_len] at hu hcap hcur
          subst hu
          have hbx := hx.keep HB.out
          have hMx := HM.out.ext hx
          have c0 := (cell_of hbx 0).trans rfl
          have lb := lt_of hbx
          obtain ⟨i0, z0, hi0, hz0, hz1, hz2, hz3⟩ := info_row
          have HC := Lib.hid (And.intro hcap (And.intro hz (And.intro hzc hcur)))
          have HBX := Lib.hid hbx
          have HMX := Lib.hid hMx
          clear hown hcap hz hzc hcur hbx hMx
          go_wp2_with (at_builtin; refine wpList_appB wr 24 (by decide) (.slice (some ⟨z, 0, none⟩) j cap) rfl ((List.range k).map (G.row j)) v (w.heap.size + 1) 43 HMX.out.row 159 rfl _ _ rfl i0 z0 hi0 hz0 hz1 hz2 hz3 Tryz.underlying159 rfl rfl ?b1 ?b2 ?_)
          case b1 => rw [List.length_map, List.length_range]; omega
          case b2 => omega
          intro v' w' g1 g2
          obtain ⟨q1, q2, q3, q4⟩ := HC.out
          have hnext := HMX.out.next q3 (fun i hi => by rw [q4 i hi, zs_get0]) q1 (fun r hr => HM.out.lt hr) (by omega) q2 (by rw [List.length_append, List.length_map, List.length_range]; exact g1) g2
          have hbw := (grown_old g2 lb (fun e => by have := own_blk HMX.out.row e.symm; omega)).trans HBX.out
          have hEw : Ext w w' := ext_grown (hE.trans' hx) g2 (fun i hi => by have := own_blk HMX.out.row hi; omega)
          have d0 := (cell_of hbw 0).trans rfl
          have f0 := frozen_of hbw 0
          have l0 := lt_of hbw
          obtain ⟨pv, nv, cv, rfl⟩ := own_slice g1
          have HN := Lib.hid hnext
          have HBW := Lib.hid hbw
          clear hnext hbw g1 g2 c0
          go_wp2
          go_roundw
          case rel => exact ⟨k + 1, _, _, by omega, by go_num, hEw.setR (p := ⟨w.heap.size, 0, none⟩) (Nat.le_refl _) _, (setCell_same HBW.out 0 _).trans rfl, HN.out.setc (by omega) _ _⟩
          case measure => simp [intOf]; omega
    · obtain rfl : k = R := by omega
      go_wp2
      go_ret
      obtain ⟨m, hm, hG⟩ := HM.out.grid (l := zs (k * W)) HB.out (zs_len _) (fun r c _ _ => (zs_get0 _ _).symm) r1 r2 w1 w2
      refine ⟨_, rfl, hG, ?_, hE⟩
      rintro i (rfl | rfl | ⟨r, hr, rfl⟩)
      · exact Nat.le_refl _
      · exact Nat.le_trans (Nat.le_succ _) hm
      · exact Nat.le_trans (Nat.le_succ _) (HM.out.new r hr)
end Go.Proofs.YtfhdjekpdifajaaGreat
namespace Go.Proofs.YtfhdjekpdifajaaGreat
set_option linter.unusedVariables false
open Go.RowKit
def uu (a : Int) : Int := a % 18446744073709551616
theorem uu_u (a : Int) : U64 (uu a) := by unfold uu U64; omega
theorem u64_wrap (a : Int) : IntKind.u64.wrap a = uu a := by rw [IntKind.wrap_u64]; rfl
end Go.Proofs.YtfhdjekpdifajaaGreat
namespace Go.Proofs.YtfhdjekpdifajaaGreat
set_option linter.unusedVariables false
open Go.RowKit
theorem and_16 (x : Int) (h0 : 0 ≤ x) (h1 : x < 18446744073709551616) : bits BinOp.and IntKind.u64 x 65535 = x % 65536 := and_mask x 16 (by decide) h0 h1
theorem w16 (x : Int) : wrap64 (x % 65536) = x % 65536 := by unfold wrap64; omega
theorem wa16 (x : Int) (h : U64 x) : wrap64 (bits BinOp.and IntKind.u64 x 65535) = x % 65536 := by rw [and_16 x h.1 h.2, w16]
/-- A number's digit to base 65536. -/
def dg (x : Int) (i : Nat) : Int := x / (65536 ^ i : Int) % 65536
theorem dg_bd (x : Int) (i : Nat) : 0 ≤ dg x i ∧ dg x i ≤ 65535 := by unfold dg; omega
theorem dg0 (x : Int) : dg x 0 = x % 65536 := by unfold dg; rw [show (65536 : Int) ^ 0 = 1 from rfl]; omega
theorem dg1 (x : Int) : dg x 1 = x / 65536 % 65536 := rfl
theorem dg2 (x : Int) : dg x 2 = x / 4294967296 % 65536 := rfl
theorem dg3 (x : Int) : dg x 3 = x / 281474976710656 % 65536 := rfl
theorem dg4 (x : Int) : dg x 4 = x / 18446744073709551616 % 65536 := rfl
theorem dg5 (x : Int) : dg x 5 = x / 1208925819614629174706176 % 65536 := rfl
theorem dg6 (x : Int) : dg x 6 = x / 79228162514264337593543950336 % 65536 := rfl
theorem dg7 (x : Int) : dg x 7 = x / 5192296858534827628530496329220096 % 65536 := rfl
theorem dg8 (x : Int) : dg x 8 = x / 340282366920938463463374607431768211456 % 65536 := rfl
theorem dg9 (x : Int) : dg x 9 = x / 22300745198530623141535718272648361505980416 % 65536 := rfl
def longA (d : Nat → Int) : Value := .agg #[.int .i64 (d 0), .int .i64 (d 1), .int .i64 (d 2), .int .i64 (d 3), .int .i64 (d 4), .int .i64 (d 5), .int .i64 (d 6), .int .i64 (d 7), .int .i64 (d 8), .int .i64 (d 9)]
def longV (x : Int) : Value := longA (dg x)
theorem hid_lo (x : Int) : lo x % 65536 = dg x 0 ∧ lo x / 65536 % 65536 = dg x 1 ∧ lo x / 4294967296 % 65536 = dg x 2 ∧ lo x / 281474976710656 % 65536 = dg x 3 := by
  rw [dg0, dg1, dg2, dg3]; unfold lo
  refine ⟨?_, ?_, ?_, ?_⟩ <;> omega
theorem div_u {x k : Int} (h : U64 x) (hk : 1 ≤ k) : U64 (x / k) := by
  refine ⟨Int.ediv_nonneg h.1 (by omega), ?_⟩
  have := Int.ediv_le_self k h.1
  have := h.2
  omega
end Go.Proofs.YtfhdjekpdifajaaGreat
namespace Go.Proofs.YtfhdjekpdifajaaGreat
set_option linter.unusedVariables false
open Go.RowKit
theorem uu_dg (n : Int) : uu n % 65536 = dg n 0 ∧ uu n / 65536 % 65536 = dg n 1 ∧ uu n / 4294967296 % 65536 = dg n 2 ∧ uu n / 281474976710656 % 65536 = dg n 3 := hid_lo n
theorem hi_dg (n : Int) (h : I64 n) : ∀ i, 4 ≤ i → i < 10 → dg n i = (bif decide (n < 0) then 65535 else 0) := by
  intro i h1 h2
  unfold I64 at h
  have hc : i = 4 ∨ i = 5 ∨ i = 6 ∨ i = 7 ∨ i = 8 ∨ i = 9 := by omega
  by_cases hx : n < 0 <;> simp only [hx, decide_true, decide_false, cond_true, cond_false] <;> rcases hc with rfl | rfl | rfl | rfl | rfl | rfl
  all_goals first | rw [dg4] | rw [dg5] | rw [dg6] | rw [dg7] | rw [dg8] | rw [dg9]
  all_goals omega
set_option maxRecDepth 20000 in
set_option maxHeartbeats 4000000 in
theorem OfInt_core (n : Int) (b : Bool) (hb : decide (n < 0) = b) (hd : ∀ i, 4 ≤ i → i < 10 → dg n i = (bif b then 65535 else 0)) (w : World) :
    Calls Tryz.prog 152 #[.int .i64 n] w fun e w' => e = .returned (longV n) ∧ Ext w w' := by
  obtain ⟨y1, y2⟩ := uu_u n
  have e1 := u64_wrap n
  obtain ⟨g0, g1, g2, g3⟩ := uu_dg n
  have a4 := (wa16 (uu n) (uu_u _)).trans g0
  have a5 := (wa16 (uu n / 65536) (div_u (uu_u _) (by decide))).trans g1
  have a6 := (wa16 (uu n / 4294967296) (div_u (uu_u _) (by decide))).trans g2
  have a7 := (wa16 (uu n / 281474976710656) (div_u (uu_u _) (by decide))).trans g3
  have HD := Lib.hid hd
  clear hd g0 g1 g2 g3
  cases b
  all_goals
    go_enter Tryz.func152, Tryz.ntmps152
    go_wp2
    refine wp_loop_rounds 11 ?_
    iterate 10
      rw [rounds_succ]
      go_wp2_with fail
    rw [rounds_succ]
    go_wp2_with fail
    refine bodyPost_ret (v := longV n) ?_ rfl ⟨rfl, by (repeat' (first | exact Ext.refl _ | assumption | apply Ext.allocR | apply Ext.drewR | apply Ext.drewNR | (refine Ext.trans' ?_ (by assumption))))⟩
    unfold longV longA
    rw [HD.out 4 (by decide) (by decide), HD.out 5 (by decide) (by decide), HD.out 6 (by decide) (by decide), HD.out 7 (by decide) (by decide), HD.out 8 (by decide) (by decide), HD.out 9 (by decide) (by decide)]
    simp [results, Tryz.results152, go_sem]
theorem OfInt_c (n : Int) (h : I64 n) (w : World) :
    Calls Tryz.prog 152 #[.int .i64 n] w fun e w' => e = .returned (longV n) ∧ Ext w w' := OfInt_core n _ rfl (hi_dg n h) w
end Go.Proofs.YtfhdjekpdifajaaGreat
namespace Go.Proofs.YtfhdjekpdifajaaGreat
set_option linter.unusedVariables false
open Go.RowKit
theorem fill10 (s : Nat → Int) : fillA s 10 10 = #[.int .i64 (s 0), .int .i64 (s 1), .int .i64 (s 2), .int .i64 (s 3), .int .i64 (s 4), .int .i64 (s 5), .int .i64 (s 6), .int .i64 (s 7), .int .i64 (s 8), .int .i64 (s 9)] := by
  apply Array.ext
  · simp [fillA]
  · intro i h1 h2
    have hi : i < 10 := by simpa [fillA] using h1
    have hc : i = 0 ∨ i = 1 ∨ i = 2 ∨ i = 3 ∨ i = 4 ∨ i = 5 ∨ i = 6 ∨ i = 7 ∨ i = 8 ∨ i = 9 := by omega
    rcases hc with rfl | rfl | rfl | rfl | rfl | rfl | rfl | rfl | rfl | rfl <;> simp [fillA]
set_option maxRecDepth 20000 in
set_option maxHeartbeats 8000000 in
theorem Plus_core (a b s c : Nat → Int) (ha : ∀ i, i < 10 → 0 ≤ a i ∧ a i ≤ 65535) (hb : ∀ i, i < 10 → 0 ≤ b i ∧ b i ≤ 65535) (hc : ∀ i, i < 10 → 0 ≤ c i ∧ c i ≤ 1) (h0 : c 0 = 0)
    (hs : ∀ i, i < 10 → (a i + b i + c i) % 65536 = s i) (hn : ∀ i, i < 10 → (a i + b i + c i) / 65536 = c (i + 1)) (w : World) :
    Calls Tryz.prog 151 #[longA a, longA b] w fun e w' => e = .returned (longA s) ∧ Ext w w' := by
  obtain ⟨a0l, a0h⟩ := ha 0 (by decide)
  obtain ⟨b0l, b0h⟩ := hb 0 (by decide)
  obtain ⟨c0l, c0h⟩ := hc 0 (by decide)
  have s0 := hs 0 (by decide)
  have n0 := hn 0 (by decide)
  obtain ⟨a1l, a1h⟩ := ha 1 (by decide)
  obtain ⟨b1l, b1h⟩ := hb 1 (by decide)
  obtain ⟨c1l, c1h⟩ := hc 1 (by decide)
  have s1 := hs 1 (by decide)
  have n1 := hn 1 (by decide)
  obtain ⟨a2l, a2h⟩ := ha 2 (by decide)
  obtain ⟨b2l, b2h⟩ := hb 2 (by decide)
  obtain ⟨c2l, c2h⟩ := hc 2 (by decide)
  have s2 := hs 2 (by decide)
  have n2 := hn 2 (by decide)
  obtain ⟨a3l, a3h⟩ := ha 3 (by decide)
  obtain ⟨b3l, b3h⟩ := hb 3 (by decide)
  obtain ⟨c3l, c3h⟩ := hc 3 (by decide)
  have s3 := hs 3 (by decide)
  have n3 := hn 3 (by decide)
  obtain ⟨a4l, a4h⟩ := ha 4 (by decide)
  obtain ⟨b4l, b4h⟩ := hb 4 (by decide)
  obtain ⟨c4l, c4h⟩ := hc 4 (by decide)
  have s4 := hs 4 (by decide)
  have n4 := hn 4 (by decide)
  obtain ⟨a5l, a5h⟩ := ha 5 (by decide)
  obtain ⟨b5l, b5h⟩ := hb 5 (by decide)
  obtain ⟨c5l, c5h⟩ := hc 5 (by decide)
  have s5 := hs 5 (by decide)
  have n5 := hn 5 (by decide)
  obtain ⟨a6l, a6h⟩ := ha 6 (by decide)
  obtain ⟨b6l, b6h⟩ := hb 6 (by decide)
  obtain ⟨c6l, c6h⟩ := hc 6 (by decide)
  have s6 := hs 6 (by decide)
  have n6 := hn 6 (by decide)
  obtain ⟨a7l, a7h⟩ := ha 7 (by decide)
  obtain ⟨b7l, b7h⟩ := hb 7 (by decide)
  obtain ⟨c7l, c7h⟩ := hc 7 (by decide)
  have s7 := hs 7 (by decide)
  have n7 := hn 7 (by decide)
  obtain ⟨a8l, a8h⟩ := ha 8 (by decide)
  obtain ⟨b8l, b8h⟩ := hb 8 (by decide)
  obtain ⟨c8l, c8h⟩ := hc 8 (by decide)
  have s8 := hs 8 (by decide)
  have n8 := hn 8 (by decide)
  obtain ⟨a9l, a9h⟩ := ha 9 (by decide)
  obtain ⟨b9l, b9h⟩ := hb 9 (by decide)
  obtain ⟨c9l, c9h⟩ := hc 9 (by decide)
  have s9 := hs 9 (by decide)
  have n9 := hn 9 (by decide)
  rw [h0, Int.add_zero] at s0 n0
  simp only [Nat.reduceAdd] at n0 n1 n2 n3 n4 n5 n6 n7 n8 n9
  unfold longA
  clear ha hb hc hs hn h0 c0l c0h
  generalize a 0 = A0 at *
  generalize b 0 = B0 at *
  generalize s 0 = S0 at *
  generalize a 1 = A1 at *
  generalize b 1 = B1 at *
  generalize s 1 = S1 at *
  generalize a 2 = A2 at *
  generalize b 2 = B2 at *
  generalize s 2 = S2 at *
  generalize a 3 = A3 at *
  generalize b 3 = B3 at *
  generalize s 3 = S3 at *
  generalize a 4 = A4 at *
  generalize b 4 = B4 at *
  generalize s 4 = S4 at *
  generalize a 5 = A5 at *
  generalize b 5 = B5 at *
  generalize s 5 = S5 at *
  generalize a 6 = A6 at *
  generalize b 6 = B6 at *
  generalize s 6 = S6 at *
  generalize a 7 = A7 at *
  generalize b 7 = B7 at *
  generalize s 7 = S7 at *
  generalize a 8 = A8 at *
  generalize b 8 = B8 at *
  generalize s 8 = S8 at *
  generalize a 9 = A9 at *
  generalize b 9 = B9 at *
  generalize s 9 = S9 at *
  generalize c 1 = C1 at *
  generalize c 2 = C2 at *
  generalize c 3 = C3 at *
  generalize c 4 = C4 at *
  generalize c 5 = C5 at *
  generalize c 6 = C6 at *
  generalize c 7 = C7 at *
  generalize c 8 = C8 at *
  generalize c 9 = C9 at *
  generalize c 10 = C10 at *
  go_enter Tryz.func151, Tryz.ntmps151
  go_wp2_with fail
  refine wp_loop_rounds 11 ?_
  iterate 10
    rw [rounds_succ]
    go_wp2_with fail
    go_region
    go_wp2_with fail
  rw [rounds_succ]
  go_wp2_with fail
  refine bodyPost_ret (v := .agg #[.int .i64 S0, .int .i64 S1, .int .i64 S2, .int .i64 S3, .int .i64 S4, .int .i64 S5, .int .i64 S6, .int .i64 S7, .int .i64 S8, .int .i64 S9]) ?_ rfl ⟨rfl, by (repeat' (first | exact Ext.refl _ | assumption | apply Ext.allocR | apply Ext.drewR | apply Ext.drewNR | (refine Ext.trans' ?_ (by assumption))))⟩
  simp [results, Tryz.results151, go_sem]
/-- The carry of a sum. -/
def cr (x y : Int) (i : Nat) : Int := (x % (65536 ^ i : Int) + y % (65536 ^ i : Int)) / (65536 ^ i : Int)
theorem pw_pos (i : Nat) : 0 < (65536 ^ i : Int) := Int.pow_pos (by decide)
theorem cr_bd (x y : Int) (i : Nat) : 0 ≤ cr x y i ∧ cr x y i ≤ 1 := by
  have hp := pw_pos i
  unfold cr
  generalize (65536 ^ i : Int) = M at *
  have h1 := Int.emod_nonneg x (show M ≠ 0 by omega)
  have h2 := Int.emod_lt_of_pos x hp
  have h3 := Int.emod_nonneg y (show M ≠ 0 by omega)
  have h4 := Int.emod_lt_of_pos y hp
  refine ⟨Int.ediv_nonneg (by omega) (by omega), ?_⟩
  have : (x % M + y % M) / M < 2 := Int.ediv_lt_of_lt_mul hp (by omega)
  omega
theorem mod_mul' (x M : Int) (hM : 0 < M) : x % (M * 65536) = x % M + M * (x / M % 65536) := by
  have h1 := Int.emod_add_mul_ediv x M
  have h2 := Int.emod_add_mul_ediv (x / M) 65536
  have h3 : x / M / 65536 = x / (M * 65536) := by rw [Int.ediv_ediv_of_nonneg (by omega)]
  have h4 := Int.emod_add_mul_ediv x (M * 65536)
  rw [← h3] at h4
  have h5 : M * 65536 * (x / M / 65536) = M * (65536 * (x / M / 65536)) := Int.mul_assoc _ _ _
  have h6 : M * (x / M) = M * (x / M % 65536) + M * (65536 * (x / M / 65536)) := by rw [← Int.mul_add, h2]
  omega
theorem plus_step (x y : Int) (i : Nat) : (dg x i + dg y i + cr x y i) % 65536 = dg (x + y) i ∧ (dg x i + dg y i + cr x y i) / 65536 = cr x y (i + 1) := by
  have hp := pw_pos i
  unfold dg cr
  rw [Int.pow_succ]
  generalize (65536 ^ i : Int) = M at *
  rw [mod_mul' x M hp, mod_mul' y M hp]
  have ex := Int.emod_add_mul_ediv x M
  have ey := Int.emod_add_mul_ediv y M
  have hd : x + y = (x % M + y % M) + M * (x / M + y / M) := by rw [Int.mul_add]; omega
  constructor
  · rw [hd, Int.add_mul_ediv_left _ _ (show M ≠ 0 by omega)]
    generalize (x % M + y % M) / M = c
    omega
  · have e1 : x % M + M * (x / M % 65536) + (y % M + M * (y / M % 65536)) = (x % M + y % M) + M * (x / M % 65536 + y / M % 65536) := by rw [Int.mul_add]; omega
    rw [e1, ← Int.ediv_ediv_of_nonneg (by omega), Int.add_mul_ediv_left _ _ (show M ≠ 0 by omega)]
    congr 1
    omega
theorem cr0 (x y : Int) : cr x y 0 = 0 := by
  unfold cr
  rw [show ((65536 : Int) ^ 0) = 1 from rfl]
  omega
theorem LPlus_c (x y : Int) (w : World) : Calls Tryz.prog 151 #[longV x, longV y] w fun e w' => e = .returned (longV (x + y)) ∧ Ext w w' :=
  Plus_core (dg x) (dg y) (dg (x + y)) (cr x y) (fun i _ => dg_bd x i) (fun i _ => dg_bd y i) (fun i _ => cr_bd x y i) (cr0 x y) (fun i _ => (plus_step x y i).1) (fun i _ => (plus_step x y i).2) w
end Go.Proofs.YtfhdjekpdifajaaGreat
namespace Go.Proofs.YtfhdjekpdifajaaGreat
set_option linter.unusedVariables false
open Go.RowKit
theorem fillA_put (f : Nat → Int) (m : Nat) (v : Int) (hm : m < 10) : (fillA f 10 10).setIfInBounds m (.int .i64 v) = fillA (fun j => if j = m then v else f j) 10 10 := by
  apply Array.ext
  · simp [fillA]
  · intro i h1 h2
    have hi : i < 10 := by simpa [fillA] using h1
    by_cases he : m = i
    · subst he; simp [fillA]
    · have he' : ¬ i = m := fun h => he h.symm
      simp [fillA, hi, he, he']
/-- A box of ten digits. -/
def LongAt (w : World) (b : Nat) (a : Nat → Int) : Prop := w.heap[b]? = some (.cells (fillA a 10 10) 237 (0, 0))
theorem LongAt.cell {w : World} {b : Nat} {a : Nat → Int} (h : LongAt w b a) {k : Nat} (hk : k < 10) : w.cell? ⟨b, k, none⟩ = some (.int .i64 (a k)) := by
  rw [cell_of h, fillA_at a 10 10 k hk, if_pos hk]
theorem LongAt.keep {w w' : World} {b : Nat} {a : Nat → Int} (h : LongAt w b a) (he : w'.heap[b]? = w.heap[b]?) : LongAt w' b a := he.trans h
theorem LongAt.put {w : World} {b : Nat} {f : Nat → Int} (h : LongAt w b f) {m : Nat} (hm : m < 10) (v : Int) : LongAt (w.setCell ⟨b, m, none⟩ (.int .i64 v)) b (fun j => if j = m then v else f j) := by
  unfold LongAt at *
  rw [setCell_same h m, fillA_put f m v hm]
theorem dg_add (P z : Int) {i j : Nat} (h : j < i) : dg (P + (65536 ^ i : Int) * z) j = dg P j := by
  obtain ⟨m, rfl⟩ : ∃ m, i = j + 1 + m := ⟨i - (j + 1), by omega⟩
  unfold dg
  rw [Int.pow_add, Int.pow_succ]
  have hB := pw_pos j
  generalize (65536 ^ m : Int) = Q
  generalize (65536 ^ j : Int) = B at *
  have e : B * 65536 * Q * z = B * (65536 * (Q * z)) := by rw [Int.mul_assoc, Int.mul_assoc]
  rw [e, Int.add_mul_ediv_left _ _ (show B ≠ 0 by omega)]
  omega
end Go.Proofs.YtfhdjekpdifajaaGreat
namespace Go.Proofs.YtfhdjekpdifajaaGreat
set_option linter.unusedVariables false
open Go.RowKit
set_option maxRecDepth 20000 in
set_option maxHeartbeats 4000000 in
@[go_sem] theorem eqLong (a0 a1 a2 a3 a4 a5 a6 a7 a8 a9 b0 b1 b2 b3 b4 b5 b6 b7 b8 b9 : Int) (w : World) : (Op.equalIn 10000 237 (.agg #[.int .i64 a0, .int .i64 a1, .int .i64 a2, .int .i64 a3, .int .i64 a4, .int .i64 a5, .int .i64 a6, .int .i64 a7, .int .i64 a8, .int .i64 a9]) (.agg #[.int .i64 b0, .int .i64 b1, .int .i64 b2, .int .i64 b3, .int .i64 b4, .int .i64 b5, .int .i64 b6, .int .i64 b7, .int .i64 b8, .int .i64 b9])).run Tryz.prog w = .ok (a0 == b0 && (a1 == b1 && (a2 == b2 && (a3 == b3 && (a4 == b4 && (a5 == b5 && (a6 == b6 && (a7 == b7 && (a8 == b8 && a9 == b9))))))))) w := by
  have u3 := Tryz.underlying3
  have a3' := Tryz.isAgg3
  have z3 := Tryz.sizeOf3
  rw [show (10000 : Nat) = 9999 + 1 from rfl, Op.equalIn]
  simp only [Sem.run_bind, run_underlying Tryz.underlying237, Result.andThen_ok]
  simp only [Std.Legacy.Range.forIn_eq_forIn_range', Std.Legacy.Range.size, Nat.sub_zero, Nat.add_sub_cancel, Nat.div_one, List.range'_succ, List.range'_zero, List.forIn_cons, List.forIn_nil]
  go_simp
  by_cases h0 : a0 = b0
  · by_cases h1 : a1 = b1
    · by_cases h2 : a2 = b2
      · by_cases h3 : a3 = b3
        · by_cases h4 : a4 = b4
          · by_cases h5 : a5 = b5
            · by_cases h6 : a6 = b6
              · by_cases h7 : a7 = b7
                · by_cases h8 : a8 = b8
                  · by_cases h9 : a9 = b9 <;> simp [h0, h1, h2, h3, h4, h5, h6, h7, h8, h9]
                  · simp [h0, h1, h2, h3, h4, h5, h6, h7, h8]
                · simp [h0, h1, h2, h3, h4, h5, h6, h7]
              · simp [h0, h1, h2, h3, h4, h5, h6]
            · simp [h0, h1, h2, h3, h4, h5]
          · simp [h0, h1, h2, h3, h4]
        · simp [h0, h1, h2, h3]
      · simp [h0, h1, h2]
    · simp [h0, h1]
  · simp [h0]
end Go.Proofs.YtfhdjekpdifajaaGreat
namespace Go.Proofs.YtfhdjekpdifajaaGreat
set_option linter.unusedVariables false
open Go.RowKit
theorem IntsAt.sl {w : World} {v : Value} {xs : List Int} (h : IntsAt w v xs) : ∃ p c, v = .slice p xs.length c := by
  rcases h with ⟨rfl, rfl⟩ | ⟨g, off, cap, rfl, _⟩
  · exact ⟨none, 0, rfl⟩
  · exact ⟨_, _, rfl⟩
theorem IntsAt.one {w : World} {p : Option Addr} {n c : Nat} {xs : List Int} (h : IntsAt w (.slice p n c) xs) {k : Nat} (hk : k < xs.length) :
    ∃ g off, p = some ⟨g, off, none⟩ ∧ g < w.heap.size ∧ w.cell? ⟨g, off + k, none⟩ = some (.int .i64 (xs.getD k 0)) := by
  rcases h with ⟨_, rfl⟩ | ⟨g, off, cap, hv, hg, hc⟩
  · simp at hk
  · cases hv
    exact ⟨g, off, rfl, hg, hc k hk⟩
end Go.Proofs.YtfhdjekpdifajaaGreat
namespace Go.Proofs.YtfhdjekpdifajaaGreat
set_option linter.unusedVariables false
open Go.RowKit
theorem or_flip (x y : Int) : bits BinOp.or IntKind.u64 x y = bits BinOp.or IntKind.u64 y x := by
  show IntKind.u64.wrap ((BitVec.ofInt 64 x ||| BitVec.ofInt 64 y).toNat : Int) = IntKind.u64.wrap ((BitVec.ofInt 64 y ||| BitVec.ofInt 64 x).toNat : Int)
  rw [BitVec.or_comm]
theorem or_at (y d : Int) (k : Nat) (hk : k ≤ 48) (hd : 0 ≤ d ∧ d ≤ 65535) (hy0 : 0 ≤ y) (hy : y < ((2 ^ k : Nat) : Int)) : bits BinOp.or IntKind.u64 y (d * ((2 ^ k : Nat) : Int)) = y + d * ((2 ^ k : Nat) : Int) := by
  have hp : ((2 ^ k : Nat) : Int) ≤ 281474976710656 := by
    have := Nat.pow_le_pow_right (show 0 < 2 by decide) hk
    have e : (2 : Nat) ^ 48 = 281474976710656 := by decide
    omega
  have hq : d * ((2 ^ k : Nat) : Int) ≤ 65535 * ((2 ^ k : Nat) : Int) := Int.mul_le_mul_of_nonneg_right hd.2 (by omega)
  have h0 : 0 ≤ d * ((2 ^ k : Nat) : Int) := Int.mul_nonneg hd.1 (by omega)
  rw [or_flip, or_add _ y k (by omega) h0 (by omega) (Int.dvd_mul_left _ _) hy0 hy, Int.add_comm]
theorem or0 (x : Int) : bits BinOp.or IntKind.u64 (x % 1) (dg x 0) = x % 65536 := by
  have := or_at (x % 1) (dg x 0) 0 (by decide) (dg_bd x 0) (by omega) (by show x % 1 < 1; omega)
  rw [show (((2 ^ 0 : Nat) : Nat) : Int) = 1 from rfl, Int.mul_one] at this
  rw [this, dg0]; omega
theorem or1 (x : Int) : bits BinOp.or IntKind.u64 (x % 65536) (dg x 1 * 65536) = x % 4294967296 := by
  have := or_at (x % 65536) (dg x 1) 16 (by decide) (dg_bd x 1) (by omega) (by show x % 65536 < 65536; omega)
  rw [show (((2 ^ 16 : Nat) : Nat) : Int) = 65536 from rfl] at this
  rw [this, dg1]; omega
theorem or2 (x : Int) : bits BinOp.or IntKind.u64 (x % 4294967296) (dg x 2 * 4294967296) = x % 281474976710656 := by
  have := or_at (x % 4294967296) (dg x 2) 32 (by decide) (dg_bd x 2) (by omega) (by show x % 4294967296 < 4294967296; omega)
  rw [show (((2 ^ 32 : Nat) : Nat) : Int) = 4294967296 from rfl] at this
  rw [this, dg2]; omega
theorem or3 (x : Int) : bits BinOp.or IntKind.u64 (x % 281474976710656) (dg x 3 * 281474976710656) = x % 18446744073709551616 := by
  have := or_at (x % 281474976710656) (dg x 3) 48 (by decide) (dg_bd x 3) (by omega) (by show x % 281474976710656 < 281474976710656; omega)
  rw [show (((2 ^ 48 : Nat) : Nat) : Int) = 281474976710656 from rfl] at this
  rw [this, dg3]; omega
def LL (x : Int) : Nat → Int
  | 0 => x % 1
  | 1 => x % 65536
  | 2 => x % 4294967296
  | 3 => x % 281474976710656
  | _ => x % 18446744073709551616
end Go.Proofs.YtfhdjekpdifajaaGreat
namespace Go.Proofs.YtfhdjekpdifajaaGreat
set_option linter.unusedVariables false
open Go.RowKit
theorem fitB_I {x : Int} (h : fitB x = true) : I64 x := of_decide_eq_true (p := -9223372036854775808 ≤ x ∧ x ≤ 9223372036854775807) h
set_option maxRecDepth 20000 in
set_option maxHeartbeats 8000000 in
theorem Int_core (d D : Nat → Int) (hd : ∀ i, 0 ≤ d i ∧ d i ≤ 65535) (L : Nat → Int) (ok : Bool) (l0 : L 0 = 0)
    (hl0 : bits BinOp.or IntKind.u64 (L 0) (d 0) = L 1) (hl1 : bits BinOp.or IntKind.u64 (L 1) (d 1 * 65536) = L 2) (hl2 : bits BinOp.or IntKind.u64 (L 2) (d 2 * 4294967296) = L 3) (hl3 : bits BinOp.or IntKind.u64 (L 3) (d 3 * 281474976710656) = L 4)
    (z : Int) (hw : wrap64 (L 4) = z)
    (hOf : ∀ w' : World, Calls Tryz.prog 152 #[.int .i64 z] w' fun e w'' => e = .returned (longA D) ∧ Ext w' w'')
    (hcmp : ((∀ j, j < 10 → D j = d j) ∧ ok = true) ∨ ((∀ j, j < 4 → D j = d j) ∧ ok = false ∧ ((D 4 == d 4 && (D 5 == d 5 && (D 6 == d 6 && (D 7 == d 7 && (D 8 == d 8 && D 9 == d 9))))) = false))) (w : World) :
    Calls Tryz.prog 150 #[longA d] w fun e w' => e = .returned (bif ok then .tuple #[.int .i64 z, .bool true] else .tuple #[.int .i64 0, .bool false]) ∧ Ext w w' := by
  have HD := Lib.hid hd
  have HL0 := Lib.hid hl0
  have HL1 := Lib.hid hl1
  have HL2 := Lib.hid hl2
  have HL3 := Lib.hid hl3
  have HW := Lib.hid hw
  have L0 := Lib.hid l0
  have HCMP := Lib.hid hcmp
  unfold longA at hOf ⊢
  have HOF := Lib.hid hOf
  clear hd hl0 hl1 hl2 hl3 hw l0 hOf hcmp
  go_enter Tryz.func150, Tryz.ntmps150
  go_wp2_with fail
  go_loopw [4, 5] (fun u4 u5 wr => ∃ i : Nat, i ≤ 4 ∧ u4 = .int .u64 (L i) ∧ u5 = .int .i64 i ∧ Ext w wr ∧ LongAt wr w.heap.size d) (fun _ u5 _ => 4 - (intOf u5).toNat)
  case atStart =>
    refine ⟨0, Nat.zero_le _, by rw [L0.out], rfl, Ext.alloc' _ _, ?_⟩
    unfold LongAt
    rw [fill10]
    exact heap_at _ _ rfl
  case round =>
    obtain ⟨i, hi, rfl, rfl, hE, hA⟩ := hrel
    have l0 := lt_of hA
    have hc : i = 0 ∨ i = 1 ∨ i = 2 ∨ i = 3 ∨ i = 4 := by omega
    rcases hc with rfl | rfl | rfl | rfl | rfl
    · have x0 := hA.cell (k := 0) (by decide)
      obtain ⟨d1l, d1h⟩ := HD.out 0
      have hl := HL0.out
      generalize d 0 = d1 at *
      generalize L 0 = L1 at *
      have HLf := Lib.hid hl
      have HA := Lib.hid hA
      clear hl hA
      go_wp2_with fail
      go_roundw
      case rel => exact ⟨1, by decide, congrArg _ HLf.out, by go_num, hE, HA.out⟩
      case measure => simp [intOf]
    · have x0 := hA.cell (k := 1) (by decide)
      obtain ⟨d1l, d1h⟩ := HD.out 1
      have hl := HL1.out
      generalize d 1 = d1 at *
      generalize L 1 = L1 at *
      have HLf := Lib.hid hl
      have HA := Lib.hid hA
      clear hl hA
      go_wp2_with fail
      go_roundw
      case rel => exact ⟨2, by decide, congrArg _ HLf.out, by go_num, hE, HA.out⟩
      case measure => simp [intOf]
    · have x0 := hA.cell (k := 2) (by decide)
      obtain ⟨d1l, d1h⟩ := HD.out 2
      have hl := HL2.out
      generalize d 2 = d1 at *
      generalize L 2 = L1 at *
      have HLf := Lib.hid hl
      have HA := Lib.hid hA
      clear hl hA
      go_wp2_with fail
      go_roundw
      case rel => exact ⟨3, by decide, congrArg _ HLf.out, by go_num, hE, HA.out⟩
      case measure => simp [intOf]
    · have x0 := hA.cell (k := 3) (by decide)
      obtain ⟨d1l, d1h⟩ := HD.out 3
      have hl := HL3.out
      generalize d 3 = d1 at *
      generalize L 3 = L1 at *
      have HLf := Lib.hid hl
      have HA := Lib.hid hA
      clear hl hA
      go_wp2_with fail
      go_roundw
      case rel => exact ⟨4, by decide, congrArg _ HLf.out, by go_num, hE, HA.out⟩
      case measure => simp [intOf]
    · have z0 := hA.cell (k := 0) (by decide)
      have z1 := hA.cell (k := 1) (by decide)
      have z2 := hA.cell (k := 2) (by decide)
      have z3 := hA.cell (k := 3) (by decide)
      have z4 := hA.cell (k := 4) (by decide)
      have z5 := hA.cell (k := 5) (by decide)
      have z6 := hA.cell (k := 6) (by decide)
      have z7 := hA.cell (k := 7) (by decide)
      have z8 := hA.cell (k := 8) (by decide)
      have z9 := hA.cell (k := 9) (by decide)
      have hwf := HW.out
      have HA := Lib.hid hA
      rcases HCMP.out with ⟨hall, rfl⟩ | ⟨hall, rfl, hne⟩
      · have g0 := hall 0 (by decide)
        have g1 := hall 1 (by decide)
        have g2 := hall 2 (by decide)
        have g3 := hall 3 (by decide)
        have g4 := hall 4 (by decide)
        have g5 := hall 5 (by decide)
        have g6 := hall 6 (by decide)
        have g7 := hall 7 (by decide)
        have g8 := hall 8 (by decide)
        have g9 := hall 9 (by decide)
        clear hall hA
        go_wp2_with fail
        refine wp_region_after (by kernel_rfl) (by kernel_rfl) ?_
        repeat (go_big_quiet_step ((go_at_call 152; exact quiet_after (HOF.out _))))
        refine wpQuiet_nil ?_
        rintro _ ⟨xx, rfl⟩
        obtain ⟨wq, hq⟩ := xx
        try dsimp only
        go_wp2_with fail
        refine bodyPost_ret (v := .tuple #[.int .i64 z, .bool true]) (by simp [results, Tryz.results150, go_sem, *]) rfl ⟨rfl, hE.trans' hq⟩
      · have g0 := hall 0 (by decide)
        have g1 := hall 1 (by decide)
        have g2 := hall 2 (by decide)
        have g3 := hall 3 (by decide)
        clear hall hA
        go_wp2_with fail
        refine wp_region_after (by kernel_rfl) (by kernel_rfl) ?_
        repeat (go_big_quiet_step ((go_at_call 152; exact quiet_after (HOF.out _))))
        refine wpQuiet_nil ?_
        rintro _ ⟨xx, rfl⟩
        obtain ⟨wq, hq⟩ := xx
        try dsimp only
        go_wp2_with fail
        refine bodyPost_ret (v := .tuple #[.int .i64 0, .bool false]) (by simp [results, Tryz.results150, go_sem, *]) rfl ⟨rfl, hE.trans' hq⟩
theorem int_top (x : Int) (h1 : -730750818665451459101842416358141509827966271488 ≤ x) (h2 : x < 730750818665451459101842416358141509827966271488) (z : Int) (hz : z = wrap64 (x % 18446744073709551616))
    (h : ∀ i, 4 ≤ i → i < 10 → dg z i = dg x i) : I64 x := by
  have hz' : I64 z := by rw [hz]; unfold wrap64 I64; omega
  have hh := hi_dg z hz'
  have e4 := (h 4 (by decide) (by decide)).symm.trans (hh 4 (by decide) (by decide))
  have e5 := (h 5 (by decide) (by decide)).symm.trans (hh 5 (by decide) (by decide))
  have e6 := (h 6 (by decide) (by decide)).symm.trans (hh 6 (by decide) (by decide))
  have e7 := (h 7 (by decide) (by decide)).symm.trans (hh 7 (by decide) (by decide))
  have e8 := (h 8 (by decide) (by decide)).symm.trans (hh 8 (by decide) (by decide))
  have e9 := (h 9 (by decide) (by decide)).symm.trans (hh 9 (by decide) (by decide))
  rw [dg4] at e4
  rw [dg5] at e5
  rw [dg6] at e6
  rw [dg7] at e7
  rw [dg8] at e8
  rw [dg9] at e9
  have q5 : x / 1208925819614629174706176 = x / 18446744073709551616 / 65536 := by rw [Int.ediv_ediv_of_nonneg (by omega)]; rfl
  have q6 : x / 79228162514264337593543950336 = x / 18446744073709551616 / 65536 / 65536 := by rw [Int.ediv_ediv_of_nonneg (by omega), Int.ediv_ediv_of_nonneg (by omega)]; rfl
  have q7 : x / 5192296858534827628530496329220096 = x / 18446744073709551616 / 65536 / 65536 / 65536 := by rw [Int.ediv_ediv_of_nonneg (by omega), Int.ediv_ediv_of_nonneg (by omega), Int.ediv_ediv_of_nonneg (by omega)]; rfl
  have q8 : x / 340282366920938463463374607431768211456 = x / 18446744073709551616 / 65536 / 65536 / 65536 / 65536 := by rw [Int.ediv_ediv_of_nonneg (by omega), Int.ediv_ediv_of_nonneg (by omega), Int.ediv_ediv_of_nonneg (by omega), Int.ediv_ediv_of_nonneg (by omega)]; rfl
  have q9 : x / 22300745198530623141535718272648361505980416 = x / 18446744073709551616 / 65536 / 65536 / 65536 / 65536 / 65536 := by rw [Int.ediv_ediv_of_nonneg (by omega), Int.ediv_ediv_of_nonneg (by omega), Int.ediv_ediv_of_nonneg (by omega), Int.ediv_ediv_of_nonneg (by omega), Int.ediv_ediv_of_nonneg (by omega)]; rfl
  rw [q5] at e5
  rw [q6] at e6
  rw [q7] at e7
  rw [q8] at e8
  rw [q9] at e9
  have ht : -39614081257132168796771975168 ≤ x / 18446744073709551616 ∧ x / 18446744073709551616 < 39614081257132168796771975168 := by omega
  have hx := Int.emod_add_mul_ediv x 18446744073709551616
  have hm1 := Int.emod_nonneg x (show (18446744073709551616 : Int) ≠ 0 by decide)
  have hm2 := Int.emod_lt_of_pos x (show (0 : Int) < 18446744073709551616 by decide)
  generalize x / 18446744073709551616 = t at *
  generalize x % 18446744073709551616 = m at *
  by_cases hn : z < 0
  · simp only [hn, decide_true, cond_true] at e4 e5 e6 e7 e8 e9
    have : t = -1 := by omega
    unfold wrap64 at hz
    unfold I64
    omega
  · simp only [hn, decide_false, cond_false] at e4 e5 e6 e7 e8 e9
    have : t = 0 := by omega
    unfold wrap64 at hz
    unfold I64
    omega
theorem wrap_lo (x : Int) {j : Nat} (h : j < 4) : dg (wrap64 (x % 18446744073709551616)) j = dg x j := by
  have e : wrap64 (x % 18446744073709551616) + (65536 ^ 4 : Int) * ((x + 9223372036854775808) / 18446744073709551616) = x := by
    rw [show (65536 ^ 4 : Int) = 18446744073709551616 from rfl]; unfold wrap64; omega
  have := dg_add (wrap64 (x % 18446744073709551616)) ((x + 9223372036854775808) / 18446744073709551616) h
  rw [e] at this
  exact this.symm
/-- A long number as one of sixty-four bits, if it fits. -/
theorem LInt_c (x : Int) (h1 : -730750818665451459101842416358141509827966271488 ≤ x) (h2 : x < 730750818665451459101842416358141509827966271488) (w : World) :
    Calls Tryz.prog 150 #[longV x] w fun e w' => e = .returned (.tuple #[.int .i64 (fitN x), .bool (fitB x)]) ∧ Ext w w' := by
  have hz : I64 (wrap64 (x % 18446744073709551616)) := by unfold wrap64 I64; omega
  have heq : I64 x → wrap64 (x % 18446744073709551616) = x := fun h => by unfold I64 at h; unfold wrap64; omega
  have hb : ∀ ok : Bool, fitB x = ok → ((∀ j, j < 10 → dg (wrap64 (x % 18446744073709551616)) j = dg x j) ∧ ok = true) ∨ ((∀ j, j < 4 → dg (wrap64 (x % 18446744073709551616)) j = dg x j) ∧ ok = false ∧
      ((dg (wrap64 (x % 18446744073709551616)) 4 == dg x 4 && (dg (wrap64 (x % 18446744073709551616)) 5 == dg x 5 && (dg (wrap64 (x % 18446744073709551616)) 6 == dg x 6 && (dg (wrap64 (x % 18446744073709551616)) 7 == dg x 7 && (dg (wrap64 (x % 18446744073709551616)) 8 == dg x 8 && dg (wrap64 (x % 18446744073709551616)) 9 == dg x 9))))) = false)) := by
    intro ok hok
    cases ok with
    | true => left; exact ⟨fun j _ => by rw [heq (fitB_I hok)], rfl⟩
    | false =>
      right
      refine ⟨fun j hj => wrap_lo x hj, rfl, ?_⟩
      cases hall : (dg (wrap64 (x % 18446744073709551616)) 4 == dg x 4 && (dg (wrap64 (x % 18446744073709551616)) 5 == dg x 5 && (dg (wrap64 (x % 18446744073709551616)) 6 == dg x 6 && (dg (wrap64 (x % 18446744073709551616)) 7 == dg x 7 && (dg (wrap64 (x % 18446744073709551616)) 8 == dg x 8 && dg (wrap64 (x % 18446744073709551616)) 9 == dg x 9))))) with
      | false => rfl
      | true =>
        exfalso
        simp only [Bool.and_eq_true, beq_iff_eq] at hall
        obtain ⟨a4, a5, a6, a7, a8, a9⟩ := hall
        have hI := int_top x h1 h2 _ rfl (fun i h3 h4 => by
          have hc : i = 4 ∨ i = 5 ∨ i = 6 ∨ i = 7 ∨ i = 8 ∨ i = 9 := by omega
          rcases hc with rfl | rfl | rfl | rfl | rfl | rfl
          · exact a4
          · exact a5
          · exact a6
          · exact a7
          · exact a8
          · exact a9)
        rw [fitB_yes hI] at hok
        cases hok
  have := Int_core (dg x) (dg (wrap64 (x % 18446744073709551616))) (dg_bd x) (LL x) (fitB x) (Int.emod_one x) (or0 x) (or1 x) (or2 x) (or3 x) _ rfl (fun w' => OfInt_c _ hz w') (hb _ rfl) w
  refine this.mono ?_
  rintro e w' ⟨rfl, hE⟩
  refine ⟨?_, hE⟩
  unfold fitN
  cases hf : fitB x with
  | false => rfl
  | true =>
    show Ending.returned (.tuple #[.int .i64 (wrap64 (LL x 4)), .bool true]) = _
    have : wrap64 (LL x 4) = x := heq (fitB_I hf)
    rw [this]; rfl
set_option maxRecDepth 20000 in
set_option maxHeartbeats 2000000 in
theorem LAdd_c (x y : Int) (hx : I64 x) (hy : I64 y) (w : World) :
    Calls Tryz.prog 159 #[.int .i64 x, .int .i64 y] w fun e w' => e = .returned (.tuple #[.int .i64 (fitN (x + y)), .bool (fitB (x + y))]) ∧ Ext w w' := by
  have hb : -730750818665451459101842416358141509827966271488 ≤ x + y ∧ x + y < 730750818665451459101842416358141509827966271488 := by unfold I64 at hx hy; omega
  have HB := Lib.hid hb
  have HX := Lib.hid hx
  have HY := Lib.hid hy
  have hP : ∀ w' : World, Calls Tryz.prog 151 #[longV x, longV y] w' fun e w'' => e = .returned (longV (x + y)) ∧ Ext w' w'' := LPlus_c x y
  have hI : ∀ w' : World, Calls Tryz.prog 150 #[longV (x + y)] w' fun e w'' => e = .returned (.tuple #[.int .i64 (fitN (x + y)), .bool (fitB (x + y))]) ∧ Ext w' w'' := LInt_c _ hb.1 hb.2
  have HP := Lib.hid hP
  have HI := Lib.hid hI
  generalize fitN (x + y) = fn at *
  generalize fitB (x + y) = fb at *
  generalize x + y = s at *
  clear hb hx hy hP hI
  go_enter Tryz.func159, Tryz.ntmps159
  go_wp2_with fail
  refine Calls.mono (OfInt_c x HX.out _) ?_
  rintro e w1 ⟨rfl, h1⟩
  generalize longV x = vx at *
  go_wp2_with fail
  refine Calls.mono (OfInt_c y HY.out _) ?_
  rintro e w2 ⟨rfl, h2⟩
  generalize longV y = vy at *
  go_wp2_with fail
  refine Calls.mono (HP.out _) ?_
  rintro e w3 ⟨rfl, h3⟩
  generalize longV s = vs at *
  go_wp2_with fail
  refine Calls.mono (HI.out _) ?_
  rintro e w4 ⟨rfl, h4⟩
  go_wp2_with fail
  go_ret2
  exact ⟨rfl, ((h1.trans' h2).trans' h3).trans' h4⟩
end Go.Proofs.YtfhdjekpdifajaaGreat
