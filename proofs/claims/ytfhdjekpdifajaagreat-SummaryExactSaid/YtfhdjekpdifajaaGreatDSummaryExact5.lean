/- Part. No condition. -/
import Derived.Test.YtfhdjekpdifajaaGreatDSummaryExact4
import Derived.Test.YtfhdjekpdifajaaGreatDSummaryExact3
import Derived.Test.YtfhdjekpdifajaaGreatDSummaryExact1
import Derived.Test.YtfhdjekpdifajaaGreatDSummaryExact2
import Derived.Defers
import Derived.RangeFuncBox
namespace Go.Proofs.YtfhdjekpdifajaaGreat
set_option linter.unusedVariables false
open Go.RowKit
/-- Element m of a row whose first and last k have changed places. -/
def rvF (ps : List (Nat × Int)) (k m : Nat) : Nat × Int := if m < k ∨ ps.length ≤ m + k then ps.getD (ps.length - 1 - m) (0, 0) else ps.getD m (0, 0)
theorem rvF_zero (ps : List (Nat × Int)) {m : Nat} (h : m < ps.length) : rvF ps 0 m = ps.getD m (0, 0) := by
  unfold rvF; rw [if_neg (by omega)]
theorem rvF_end (ps : List (Nat × Int)) {k m : Nat} (h : m < ps.length) (hk : ps.length ≤ 2 * k + 1) : rvF ps k m = ps.reverse.getD m (0, 0) := by
  have e : ps.reverse.getD m (0, 0) = ps.getD (ps.length - 1 - m) (0, 0) := by
    rw [List.getD_eq_getElem?_getD, List.getD_eq_getElem?_getD, List.getElem?_reverse h]
  rw [e]
  unfold rvF
  by_cases hc : m < k ∨ ps.length ≤ m + k
  · rw [if_pos hc]
  · rw [if_neg hc]
    congr 1
    omega
def CellsF (cur : Array Value) (n : Nat) (f : Nat → Nat × Int) : Prop := ∀ m, m < n → cur[m * 2]? = some (.int .i64 ((f m).1 : Int)) ∧ cur[m * 2 + 1]? = some (.int .u64 (f m).2)
theorem cellsF_swap {cur : Array Value} {ps : List (Nat × Int)} {k j : Nat} (hc : CellsF cur ps.length (rvF ps k)) (hs : ps.length * 2 ≤ cur.size) (hkj : k < j) (hj : j + k + 1 = ps.length) :
    CellsF ((((cur.setIfInBounds (k * 2) (.int .i64 ((rvF ps k j).1 : Int))).setIfInBounds (k * 2 + 1) (.int .u64 (rvF ps k j).2)).setIfInBounds (j * 2) (.int .i64 ((rvF ps k k).1 : Int))).setIfInBounds (j * 2 + 1) (.int .u64 (rvF ps k k).2)) ps.length (rvF ps (k + 1)) := by
  intro m hm
  have e1 : rvF ps k j = ps.getD j (0, 0) := by unfold rvF; rw [if_neg (by omega)]
  have e2 : rvF ps k k = ps.getD k (0, 0) := by unfold rvF; rw [if_neg (by omega)]
  rw [e1, e2]
  obtain ⟨a1, a2⟩ := hc m hm
  by_cases hmk : m = k
  · subst hmk
    have e : rvF ps (m + 1) m = ps.getD j (0, 0) := by unfold rvF; rw [if_pos (by omega)]; congr 1; omega
    rw [e]
    constructor
    · rw [Array.getElem?_setIfInBounds_ne (by omega), Array.getElem?_setIfInBounds_ne (by omega), Array.getElem?_setIfInBounds_ne (by omega), Array.getElem?_setIfInBounds_self_of_lt (by omega)]
    · rw [Array.getElem?_setIfInBounds_ne (by omega), Array.getElem?_setIfInBounds_ne (by omega), Array.getElem?_setIfInBounds_self_of_lt (by rw [Array.size_setIfInBounds]; omega)]
  · by_cases hmj : m = j
    · subst hmj
      have e : rvF ps (k + 1) m = ps.getD k (0, 0) := by unfold rvF; rw [if_pos (by omega)]; congr 1; omega
      rw [e]
      constructor
      · rw [Array.getElem?_setIfInBounds_ne (by omega), Array.getElem?_setIfInBounds_self_of_lt (by simp only [Array.size_setIfInBounds]; omega)]
      · rw [Array.getElem?_setIfInBounds_self_of_lt (by simp only [Array.size_setIfInBounds]; omega)]
    · have e : rvF ps (k + 1) m = rvF ps k m := by
        unfold rvF
        by_cases hc : m < k ∨ ps.length ≤ m + k
        · rw [if_pos hc, if_pos (by omega)]
        · rw [if_neg hc, if_neg (by omega)]
      rw [e]
      constructor
      · rw [Array.getElem?_setIfInBounds_ne (by omega), Array.getElem?_setIfInBounds_ne (by omega), Array.getElem?_setIfInBounds_ne (by omega), Array.getElem?_setIfInBounds_ne (by omega)]; exact a1
      · rw [Array.getElem?_setIfInBounds_ne (by omega), Array.getElem?_setIfInBounds_ne (by omega), Array.getElem?_setIfInBounds_ne (by omega), Array.getElem?_setIfInBounds_ne (by omega)]; exact a2
theorem cellsF_take {cur : Array Value} {n : Nat} {f : Nat → Nat × Int} {ps : List (Nat × Int)} (hc : CellsF cur n f) (hl : ps.length = n) (hf : ∀ m, m < n → f m = ps.getD m (0, 0)) : cur.toList.take (n * 2) = pcV ps := by
  subst hl
  apply List.ext_getElem?
  intro i
  by_cases hi : i < ps.length * 2
  · rw [List.getElem?_take_of_lt hi, Array.getElem?_toList]
    obtain ⟨b1, b2⟩ := hc (i / 2) (by omega)
    obtain ⟨a1, a2⟩ := pcV_at (ps := ps) (k := i / 2) (by omega)
    rw [hf (i / 2) (by omega)] at b1 b2
    by_cases he : i % 2 = 0
    · rw [show i = i / 2 * 2 by omega, b1, a1]
    · rw [show i = i / 2 * 2 + 1 by omega, b2, a2]
  · rw [List.getElem?_eq_none (by rw [List.length_take]; omega), List.getElem?_eq_none (by rw [pcV_len]; omega)]
theorem cellsF_of {cur : Array Value} {ps : List (Nat × Int)} (h : cur.toList.take (ps.length * 2) = pcV ps) : CellsF cur ps.length (rvF ps 0) := by
  intro m hm
  obtain ⟨a1, a2⟩ := pcV_at hm
  rw [← h] at a1 a2
  rw [List.getElem?_take_of_lt (by omega)] at a1 a2
  simp only [Array.getElem?_toList] at a1 a2
  rw [rvF_zero _ hm]
  exact ⟨a1, a2⟩
/-- The world in which a row is being turned round. -/
def RvAt (w : World) (g : Nat) (ps : List (Nat × Int)) (cs k : Nat) (W : World) : Prop :=
  (∃ cur, W.heap[g]? = some (.cells cur 39 (0, 0)) ∧ cur.size = cs ∧ CellsF cur ps.length (rvF ps k)) ∧ Mod (fun b => b = g) w W
theorem rv_next {w W : World} {g : Nat} {ps : List (Nat × Int)} {cs k j : Nat} (h : RvAt w g ps cs k W) (hs : ps.length * 2 ≤ cs) (hkj : k < j) (hj : j + k + 1 = ps.length) {a c : Nat × Int} (ha : rvF ps k j = a) (hc : rvF ps k k = c) :
    RvAt w g ps cs (k + 1) ((((W.setCell ⟨g, k * 2, none⟩ (.int .i64 (a.1 : Int))).setCell ⟨g, k * 2 + 1, none⟩ (.int .u64 a.2)).setCell ⟨g, j * 2, none⟩ (.int .i64 (c.1 : Int))).setCell ⟨g, j * 2 + 1, none⟩ (.int .u64 c.2)).drew := by
  subst ha hc
  obtain ⟨⟨cur, h1, h2, h3⟩, hm⟩ := h
  have q := setCell_same (setCell_same (setCell_same (setCell_same h1 (k * 2) (.int .i64 ((rvF ps k j).1 : Int))) (k * 2 + 1) (.int .u64 (rvF ps k j).2)) (j * 2) (.int .i64 ((rvF ps k k).1 : Int))) (j * 2 + 1) (.int .u64 (rvF ps k k).2)
  refine ⟨⟨_, q, by simp only [Array.size_setIfInBounds]; exact h2, cellsF_swap h3 (by omega) hkj hj⟩, ?_⟩
  exact ((((hm.trans (mod_set _ _ _ _)).trans (mod_set _ _ _ _)).trans (mod_set _ _ _ _)).trans (mod_set _ _ _ _)).trans ((Ext.refl _).drewR.mod _)
def RevPost (w : World) (v : Value) (base : Nat) (ps : List (Nat × Int)) (e : Ending) (w' : World) : Prop :=
  e = .returned (.tuple #[]) ∧ w'.ownsRow base 39 2 v ps.length (pcV ps.reverse) ∧ Mod (fun k => v.ownBlock = some k) w w'
set_option maxRecDepth 20000 in
set_option maxHeartbeats 4000000 in
theorem Reverse_c (ps : List (Nat × Int)) (v : Value) (base : Nat) (w : World) (h : w.ownsRow base 39 2 v ps.length (pcV ps)) (hl : ps.length ≤ 1000000) :
    Calls Tryz.prog 215 #[v] w (RevPost w v base ps) := by
  rcases h.2 with ⟨rfl, h0⟩ | ⟨g, cap, cur, rfl, hb, hh, hnc, hcm, hcs, htk⟩
  · have e : ps = [] := List.length_eq_zero_iff.1 h0
    subst e
    have h' := h
    clear h h0
    go_enter Tryz.func215, Tryz.ntmps215
    go_wp2
    go_loopw [2, 3] (fun i j wr => i = .int .i64 0 ∧ j = .int .i64 (-1) ∧ wr = w) (fun _ _ _ => 0)
    case atStart => exact ⟨rfl, rfl, rfl⟩
    case round =>
      obtain ⟨rfl, rfl, rfl⟩ := hrel
      go_wp2
      go_end0
      exact ⟨rfl, h', Mod.refl _ _⟩
  · have hr0 : RvAt w g ps (cap * 2) 0 w := ⟨⟨cur, hh, hcs, cellsF_of htk⟩, Mod.refl _ _⟩
    have HR0 := Lib.hid hr0
    have hcap := hcm
    unfold maxLen at hcap
    clear h hr0 htk hh hcs
    generalize hn : ps.length = n at *
    have HN := Lib.hid hn
    clear hn
    go_enter Tryz.func215, Tryz.ntmps215
    go_wp2
    go_loopw [2, 3] (fun i j wr => ∃ (k : Nat) (z : Int), z + k + 1 = n ∧ 2 * k ≤ n ∧ i = .int .i64 k ∧ j = .int .i64 z ∧ RvAt w g ps (cap * 2) k wr) (fun i _ _ => n - (intOf i).toNat)
    case atStart => exact ⟨0, (n : Int) - 1, by omega, by omega, rfl, rfl, HR0.out⟩
    case round =>
      obtain ⟨k, z, hz, hk2, rfl, rfl, hR⟩ := hrel
      by_cases hlt : (k : Int) < z
      · obtain ⟨j, rfl⟩ : ∃ j : Nat, z = j := ⟨z.toNat, by omega⟩
        obtain ⟨cur', hh, hcs, hcf⟩ := hR.1
        have hgl : g < wr.heap.size := lt_of hh
        obtain ⟨k0, k1⟩ := hcf k (by rw [HN.out]; omega)
        obtain ⟨j0, j1⟩ := hcf j (by rw [HN.out]; omega)
        rw [← cell_of hh] at k0 k1 j0 j1
        have fz := fun o => frozen_of hh o
        have HH := Lib.hid hh
        have HR := Lib.hid hR
        clear hR hh hcs hcf
        generalize hvk : rvF ps k k = vk at *
        generalize hvj : rvF ps k j = vj at *
        have HV := Lib.hid (And.intro hvk hvj)
        clear hvk hvj
        obtain ⟨vk1, vk2⟩ := vk
        obtain ⟨vj1, vj2⟩ := vj
        dsimp only at k0 k1 j0 j1
        go_wp2_with fail
        have hC0 := af_drew wr
        refine pi_start (fun w' => ∃ x : After wr, w' = x.w) [13, 15] (by kernel_rfl) ?_
        refine pi_t 0 rfl (by kernel_rfl) (by kernel_rfl) (fun _ _ _ _ h => h) (fun K hK => ?_)
        go_big_quiet_op
        refine hK _ ?_
        clear hK K
        refine pi_t 1 rfl (by kernel_rfl) (by kernel_rfl) (fun _ _ _ _ h => h) (fun K hK => ?_)
        go_big_quiet_op
        refine hK _ ?_
        clear hK K
        refine pi_t 2 rfl (by kernel_rfl) (by kernel_rfl) (fun _ _ _ _ h => h) (fun K hK => ?_)
        go_big_quiet_op
        refine hK _ ?_
        clear hK K
        refine pi_t 3 rfl (by kernel_rfl) (by kernel_rfl) (fun _ _ _ _ h => h) (fun K hK => ?_)
        go_big_quiet_op
        refine hK _ ?_
        clear hK K
        refine pi_t 4 rfl (by kernel_rfl) (by kernel_rfl) (fun _ _ _ _ h => h) (fun K hK => ?_)
        go_big_quiet_op
        refine hK _ ?_
        clear hK K
        refine pi_t 5 rfl (by kernel_rfl) (by kernel_rfl) (fun _ _ _ _ h => h) (fun K hK => ?_)
        go_big_quiet_op
        refine hK _ ?_
        clear hK K
        refine pi_t 6 rfl (by kernel_rfl) (by kernel_rfl) (fun _ _ _ _ h => h) (fun K hK => ?_)
        go_big_quiet_op
        refine hK _ ?_
        clear hK K
        refine pi_t 8 rfl (by kernel_rfl) (by kernel_rfl) (fun _ _ _ _ h => h) (fun K hK => ?_)
        go_big_quiet_op
        refine hK _ ?_
        clear hK K
        refine pi_t 9 rfl (by kernel_rfl) (by kernel_rfl) (fun _ _ _ _ h => h) (fun K hK => ?_)
        go_big_quiet_op
        refine hK _ ?_
        clear hK K
        refine pi_t 10 rfl (by kernel_rfl) (by kernel_rfl) (fun _ _ _ _ h => h) (fun K hK => ?_)
        go_big_quiet_op
        refine hK _ ?_
        clear hK K
        refine pi_c 7 (by assumption) rfl (by kernel_rfl) (by kernel_rfl) (fun _ _ _ _ h => h) (fun K hK => ?_)
        go_big_quiet_op
        refine hK _ ?_
        clear hK K
        refine pi_c 11 (by assumption) rfl (by kernel_rfl) (by kernel_rfl) (fun _ _ _ _ h => h) (fun K hK => ?_)
        go_big_quiet_op
        refine hK _ ?_
        clear hK K
        refine pi_t 12 rfl (by kernel_rfl) (by kernel_rfl) (fun _ _ _ _ h => h) (fun K hK => ?_)
        go_big_quiet_op
        refine hK _ ?_
        clear hK K
        refine pi_l 13 rfl (by kernel_rfl) (fun K hK => ?_)
        go_wp2
        refine hK _ _ (by simp) ?_
        clear hK K
        refine pi_t 14 rfl (by kernel_rfl) (by kernel_rfl) (fun _ _ _ _ h => h) (fun K hK => ?_)
        go_big_quiet_op
        refine hK _ ?_
        clear hK K
        refine pi_l 15 rfl (by kernel_rfl) (fun K hK => ?_)
        go_wp2
        refine hK _ _ (by simp) ?_
        clear hK K
        refine pi_end (by kernel_rfl) ?_
        go_wp2_with fail
        go_roundw
        case rel =>
          have hN := rv_next (a := (vj1, vj2)) (c := (vk1, vk2)) HR.out (by rw [HN.out]; omega) (by omega) (by rw [HN.out]; omega) HV.out.2 HV.out.1
          exact ⟨k + 1, (j : Int) - 1, by omega, by omega, by go_num, by go_num, hN⟩
        case measure => simp [intOf]; omega
      · have hk3 : n ≤ 2 * k + 1 := by omega
        obtain ⟨⟨cur', h1, h2, h3⟩, hm⟩ := hR
        have hfin : wr.ownsRow base 39 2 (.slice (some ⟨g, 0, none⟩) n cap) n (pcV ps.reverse) :=
          ⟨by rw [pcV_len, List.length_reverse, HN.out], .inr ⟨g, cap, cur', rfl, hb, h1, hnc, hcm, h2, by rw [← HN.out]; exact cellsF_take h3 (List.length_reverse) (fun m hm => rvF_end ps hm (by rw [HN.out]; exact hk3))⟩⟩
        go_wp2
        go_end0
        exact ⟨rfl, by rw [HN.out]; exact hfin, hm.mono (fun k hk _ => by rw [hk]; rfl)⟩
end Go.Proofs.YtfhdjekpdifajaaGreat
namespace Go.Proofs.YtfhdjekpdifajaaGreat
set_option linter.unusedVariables false
open Go.RowKit
def inB (lo hi : Int) (u : Int) : Bool := decide (lo ≤ u) && decide (u ≤ hi)
/-- What the keys from lo to hi have of sixty updates. -/
def betK (C : Cfg) (us : List (Int × Int)) (k : Nat) (lo hi : Int) : Int := sumIf (inB lo hi) (stP C 0 (fus us 0 k))
theorem betK_bd (C : Cfg) (us : List (Int × Int)) {k : Nat} (hk : k ≤ 60) (lo hi : Int) : -65970697666560 ≤ betK C us k lo hi ∧ betK C us k lo hi ≤ 65970697666560 := by
  have := sumIf_bnd (inB lo hi) 1099511627776 (by decide) (stP C 0 (fus us 0 k)) (stP_bnd C 0 _)
  have hl := fus_len us 0 k
  rw [stP_len] at this
  unfold betK
  omega
theorem betK_zero (C : Cfg) (us : List (Int × Int)) (lo hi : Int) : betK C us 0 lo hi = 0 := by unfold betK; rw [fus_self]; rfl
theorem betK_succ (C : Cfg) (us : List (Int × Int)) {k : Nat} (hk : k < us.length) (lo hi : Int) :
    betK C us (k + 1) lo hi = betK C us k lo hi + (bif inB lo hi (cutK C 0 us[k].1) then cutD C.mode us[k].2 else 0) := by
  have hget : us.getD k (0, 0) = us[k] := by simp [hk]
  unfold betK
  rw [fus_snoc us (Nat.zero_le k) hk, stP_snoc, hget, sh_zero]
  exact sumIf_snoc _ _ _
set_option maxRecDepth 20000 in
set_option maxHeartbeats 4000000 in
theorem Between16_c (us : List (Int × Int)) (hus : UpsOk us) (v : Value) (C : Cfg) (hok : C.Ok) (lo hi : Int) (hlo : U64 lo) (hhi : U64 hi) (w : World) (hv : UpsAt w v us) (hul : us.length ≤ 140737488355328) :
    Calls Tryz.prog 82 #[.agg #[.int .i64 C.bits, .int .i64 C.rows, .int .i64 C.width, .int .i64 C.mode, .int .u64 C.seed], v, .int .u64 lo, .int .u64 hi] w
      fun e w' => e = .returned (.int .i64 (betK C us 60 lo hi)) ∧ Ext w w' := by
  obtain ⟨vp, vc, rfl⟩ := hv.sl
  have HV := Lib.hid hv
  clear hv
  go_enter Tryz.func82, Tryz.ntmps82
  go_wp2_with fail
  go_loopw [9, 10] (fun u7 u8 wr => ∃ k : Nat, k ≤ 60 ∧ k ≤ us.length ∧ u7 = .int .i64 (betK C us k lo hi) ∧ u8 = .int .i64 k ∧ Ext w wr ∧ CfgAt wr w.heap.size C) (fun _ u8 _ => 60 - (intOf u8).toNat)
  case atStart =>
    exact ⟨0, Nat.zero_le _, Nat.zero_le _, by rw [betK_zero], rfl, by (repeat' (first | exact Ext.refl _ | assumption | apply Ext.allocR | apply Ext.drewR | apply Ext.drewNR | (refine Ext.trans' ?_ (by assumption)))), CfgAt.box C _ rfl⟩
  case round =>
    obtain ⟨k, hk60, hkl, rfl, rfl, hE, hC⟩ := hrel
    have l1 := hC.lt
    obtain ⟨hsb1, hsb2⟩ := betK_bd C us hk60 lo hi
    by_cases hgo : k < us.length ∧ k < 60
    · obtain ⟨hg1, hg2⟩ := hgo
      obtain ⟨ug, off, rfl, hul0, d0, d1⟩ := (UpsAt.ext HV.out hE).one hg1
      have hu := hus _ (List.getElem_mem hg1)
      have hsn := betK_succ C us hg1 lo hi
      have c0 := hC.c0
      have c1 := hC.c1
      have c2 := hC.c2
      have c3 := hC.c3
      have c4 := hC.c4
      generalize us[k] = uu at *
      obtain ⟨uk, ud⟩ := uu
      generalize betK C us k lo hi = s at *
      have HSN := Lib.hid hsn
      have HC := Lib.hid hC
      clear hsn hC
      go_upto_region 5 with (fail)
      go_cut [11] (fun s11 wx => ∃ bu : Nat, s11 = .pointer (some ⟨bu, 0, none⟩) ∧ wx.heap[bu]? = some (.cells #[.int .u64 (cutK C 0 uk), .int .i64 (cutD C.mode ud)] 138 (0, 0)) ∧ Ext wr wx ∧ wr.heap.size ≤ bu)
      case first =>
        have hC0 := af_drew wr
        refine pi_start (fun w' => ∃ x : After wr, w' = x.w) [] (by kernel_rfl) ?_
        refine pi_c 0 (by assumption) rfl (by kernel_rfl) (by kernel_rfl) (fun _ _ _ _ h => h) (fun K hK => ?_)
        go_big_quiet_op
        refine hK _ ?_
        clear hK K
        refine pi_t 1 rfl (by kernel_rfl) (by kernel_rfl) (fun _ _ _ _ h => h) (fun K hK => ?_)
        go_big_quiet_op
        refine hK _ ?_
        clear hK K
        refine pi_t 2 rfl (by kernel_rfl) (by kernel_rfl) (fun _ _ _ _ h => h) (fun K hK => ?_)
        go_big_quiet_op
        refine hK _ ?_
        clear hK K
        refine pi_t 3 rfl (by kernel_rfl) (by kernel_rfl) (fun _ _ _ _ h => h) (fun K hK => ?_)
        go_big_quiet_op
        refine hK _ ?_
        clear hK K
        refine pi_c 4 (by assumption) rfl (by kernel_rfl) (by kernel_rfl) (fun _ _ _ _ h => h) (fun K hK => ?_)
        go_big_quiet_op
        refine hK _ ?_
        clear hK K
        refine pi_b 5 6 rfl rfl (by kernel_rfl) (fun K hK => ?_) (fun K hK => ?_)
        · go_wp2_with (go_at_call 81; refine (Cut15_c C hok uk ud hu.1 hu.2 _).mono ?_; rintro e w3 ⟨rfl, hx3⟩)
          have hx3' : Ext wr w3 := Ext.trans' (Below.drew (Ext.refl wr)) hx3
          have hs3 := hx3'.size
          refine hK _ _ (fun _ h => af_step h hx3) ?_
          clear hK K
          refine pi_l 6 rfl (by kernel_rfl) (fun K hK => ?_)
          go_wp2
          refine hK _ _ (fun _ h => af_step h (Ext.alloc' _ _)) ?_
          clear hK K
          refine pi_l 7 rfl (by kernel_rfl) (fun K hK => ?_)
          go_wp2
          refine hK _ _ (fun _ _ => ⟨⟨_, hx3'.allocR _⟩, rfl⟩) ?_
          clear hK K
          refine pi_end (by kernel_rfl) ?_
          go_wp2_with fail
          go_meet
          exact ⟨w3.heap.size, rfl, heap_at _ _ rfl, hx3'.allocR _, hs3⟩
        · go_wp2
          refine hK _ _ (fun _ h => af_step h (Ext.alloc' _ _)) ?_
          clear hK K
          refine pi_l 5 rfl (by kernel_rfl) (fun K hK => ?_)
          go_wp2_with (go_at_call 81; refine (Cut15_c C hok uk ud hu.1 hu.2 _).mono ?_; rintro e w3 ⟨rfl, hx3⟩)
          refine hK _ _ (fun _ h => af_step h hx3) ?_
          clear hK K
          have hs3 : (wr.alloc (.cells #[.int .u64 0, .int .i64 0] 138)).heap.size ≤ w3.heap.size := hx3.size
          rw [size_alloc] at hs3
          have hx3' : Ext wr w3 := Ext.trans' (Ext.alloc' wr _) (Ext.trans' (Below.drew (Ext.refl _)) hx3)
          have hbx : w3.heap[wr.heap.size]? = some (.cells #[.int .u64 0, .int .i64 0] 138 (0, 0)) := by
            rw [hx3.block _ (by show _ < (wr.alloc _).heap.size; rw [size_alloc]; exact Nat.lt_succ_self _)]
            exact heap_at wr _ rfl
          have p0 := (cell_of hbx 0).trans rfl
          have p1 := (cell_of hbx 1).trans rfl
          have f0 := frozen_of hbx 0
          have f1 := frozen_of hbx 1
          refine pi_l 7 rfl (by kernel_rfl) (fun K hK => ?_)
          go_wp2
          refine hK _ _ (fun _ _ => ⟨⟨_, (hx3'.setR (Nat.le_refl _) _).setR (Nat.le_refl _) _⟩, rfl⟩) ?_
          clear hK K
          refine pi_end (by kernel_rfl) ?_
          go_wp2_with fail
          go_meet
          exact ⟨wr.heap.size, rfl, set2 hbx _ _, (hx3'.setR (Nat.le_refl _) _).setR (Nat.le_refl _) _, Nat.le_refl _⟩
      case rest =>
        obtain ⟨bu, rfl, hbu, hxw, hbul⟩ := hcut
        have hdb := cutD_bd C.mode ud
        have b1 := (cell_of hbu 1).trans rfl
        have b0 := (cell_of hbu 0).trans rfl
        have hE' : Ext w wc := hE.trans' hxw
        have hC' := HC.out.ext hxw
        clear d0 d1 c0 c1 c2 c3 c4 hE hxw
        have hkk0 := (cutK_bd C hok 0 uk (Int.le_refl 0)).1
        generalize cutK C 0 uk = kk at *
        generalize cutD C.mode ud = dd at *
        by_cases h1 : lo ≤ kk
        · by_cases h2 : kk ≤ hi
          · have g1 : inB lo hi kk = true := by unfold inB; rw [decide_eq_true h1, decide_eq_true h2]; rfl
            have hs' := HSN.out
            rw [g1] at hs'
            have HS := Lib.hid hs'
            clear hs' HSN g1
            go_wp2_with fail
            go_roundw
            case rel => exact ⟨k + 1, by omega, by omega, by rw [HS.out]; rfl, by go_num, hE', hC'⟩
            case measure => simp [intOf]; omega
          · have g1 : inB lo hi kk = false := by unfold inB; rw [decide_eq_true h1, decide_eq_false h2]; rfl
            have hs' := HSN.out
            rw [g1] at hs'
            have HS := Lib.hid hs'
            clear hs' HSN g1
            go_wp2_with fail
            go_roundw
            case rel => exact ⟨k + 1, by omega, by omega, by rw [HS.out]; exact congrArg _ (Int.add_zero _).symm, by go_num, hE', hC'⟩
            case measure => simp [intOf]; omega
        · have g1 : inB lo hi kk = false := by unfold inB; rw [decide_eq_false h1]; rfl
          have hs' := HSN.out
          rw [g1] at hs'
          have HS := Lib.hid hs'
          clear hs' HSN g1
          go_wp2_with fail
          go_roundw
          case rel => exact ⟨k + 1, by omega, by omega, by rw [HS.out]; exact congrArg _ (Int.add_zero _).symm, by go_num, hE', hC'⟩
          case measure => simp [intOf]; omega
    · have hfe := fus_end us (i := 0) (j := 60) (k := k) (by omega) (by omega) (.inr ⟨hk60, hkl⟩) hgo
      have hfe' : betK C us k lo hi = betK C us 60 lo hi := by unfold betK; rw [hfe]
      rw [hfe']
      go_wp2_with fail
      all_goals
        go_ret
        exact ⟨rfl, hE⟩
end Go.Proofs.YtfhdjekpdifajaaGreat
namespace Go.Proofs.YtfhdjekpdifajaaGreat
set_option linter.unusedVariables false
open Go.RowKit
/-- The pieces of a span, from both sides, level by level. -/
def covL : Nat → Nat → Int → Int → List (Nat × Int)
  | 0, l, lo, _ => [(l, lo)]
  | f + 1, l, lo, hi =>
    if lo = hi then [(l, lo)]
    else (if lo % 2 = 1 then [(l, lo)] else []) ++
      ((if (if hi % 2 = 0 then hi - 1 else hi) < (if lo % 2 = 1 then lo + 1 else lo) then [] else covL f (l + 1) ((if lo % 2 = 1 then lo + 1 else lo) / 2) ((if hi % 2 = 0 then hi - 1 else hi) / 2)) ++
      (if hi % 2 = 0 then [(l, hi)] else []))
theorem pw (n : Nat) : (0 : Int) < 2 ^ n := Int.pow_pos (by decide)
theorem pw_succ (n : Nat) : (2 : Int) ^ (n + 1) = 2 * 2 ^ n := by rw [Int.pow_succ, Int.mul_comm]
theorem cov_lev : ∀ (f l : Nat) (lo hi : Int), ∀ p ∈ covL f l lo hi, l ≤ p.1 ∧ p.1 ≤ l + f
  | 0, l, lo, hi, p, hp => by
    simp only [covL, List.mem_singleton] at hp
    subst hp
    exact ⟨Nat.le_refl _, Nat.le_refl _⟩
  | f + 1, l, lo, hi, p, hp => by
    unfold covL at hp
    by_cases he : lo = hi
    · rw [if_pos he] at hp
      simp only [List.mem_singleton] at hp
      subst hp
      exact ⟨Nat.le_refl _, by simp⟩
    · rw [if_neg he] at hp
      simp only [List.mem_append] at hp
      rcases hp with hp | hp | hp
      · split at hp
        · simp only [List.mem_singleton] at hp; subst hp; exact ⟨Nat.le_refl _, by simp⟩
        · cases hp
      · by_cases hc : (if hi % 2 = 0 then hi - 1 else hi) < (if lo % 2 = 1 then lo + 1 else lo)
        · rw [if_pos hc] at hp; cases hp
        · rw [if_neg hc] at hp
          have := cov_lev f (l + 1) _ _ p hp
          omega
      · split at hp
        · simp only [List.mem_singleton] at hp; subst hp; exact ⟨Nat.le_refl _, by simp⟩
        · cases hp
theorem cov_len : ∀ (f l : Nat) (lo hi : Int), (covL f l lo hi).length ≤ 2 * f + 1
  | 0, _, _, _ => Nat.le_refl _
  | f + 1, l, lo, hi => by
    unfold covL
    split
    · simp
    · have := cov_len f (l + 1) ((if lo % 2 = 1 then lo + 1 else lo) / 2) ((if hi % 2 = 0 then hi - 1 else hi) / 2)
      simp only [List.length_append]
      split <;> split <;> split <;> simp_all <;> omega
theorem cov_bd : ∀ (f l : Nat) (lo hi : Int), 0 ≤ lo → lo ≤ hi → hi < 2 ^ f → ∀ p ∈ covL f l lo hi, 0 ≤ p.2 ∧ p.2 < 2 ^ (l + f - p.1)
  | 0, l, lo, hi, h0, h1, h2, p, hp => by
    have h2' : hi < 1 := h2
    simp only [covL, List.mem_singleton] at hp
    subst hp
    refine ⟨h0, ?_⟩
    show lo < 2 ^ (l + 0 - l)
    rw [Nat.add_zero, Nat.sub_self]
    show lo < 1
    omega
  | f + 1, l, lo, hi, h0, h1, h2, p, hp => by
    have hh := h2
    rw [pw_succ] at h2
    unfold covL at hp
    by_cases he : lo = hi
    · rw [if_pos he] at hp
      simp only [List.mem_singleton] at hp
      subst hp
      refine ⟨h0, ?_⟩
      show lo < 2 ^ (l + (f + 1) - l)
      rw [show l + (f + 1) - l = f + 1 by omega]; omega
    · rw [if_neg he] at hp
      simp only [List.mem_append] at hp
      rcases hp with hp | hp | hp
      · split at hp
        · simp only [List.mem_singleton] at hp; subst hp
          refine ⟨h0, ?_⟩
          show lo < 2 ^ (l + (f + 1) - l)
          rw [show l + (f + 1) - l = f + 1 by omega]; omega
        · cases hp
      · have h3 : 0 ≤ (if lo % 2 = 1 then lo + 1 else lo) := by split <;> omega
        have h4 : (if hi % 2 = 0 then hi - 1 else hi) ≤ hi := by split <;> omega
        generalize (if lo % 2 = 1 then lo + 1 else lo) = a at *
        generalize (if hi % 2 = 0 then hi - 1 else hi) = b at *
        by_cases hc : b < a
        · rw [if_pos hc] at hp; cases hp
        · rw [if_neg hc] at hp
          have := cov_bd f (l + 1) (a / 2) (b / 2) (by omega) (by omega) (by omega) p hp
          rw [show l + 1 + f = l + (f + 1) by omega] at this
          exact this
      · split at hp
        · simp only [List.mem_singleton] at hp; subst hp
          refine ⟨by omega, ?_⟩
          show hi < 2 ^ (l + (f + 1) - l)
          rw [show l + (f + 1) - l = f + 1 by omega]; omega
        · cases hp
theorem lsum_one (x : Int) : lsum [x] = x := by rw [lsum_cons, lsum_nil]; omega
/-- What the pieces have together is what the span has. -/
theorem cov_sum (ps : List (Int × Int)) : ∀ (f l : Nat) (lo hi : Int), 0 ≤ lo → lo ≤ hi → hi < 2 ^ f →
    lsum ((covL f l lo hi).map fun p => pcS ps p.1 p.2) = sumIf (fun u => decide (lo ≤ sh l u) && decide (sh l u ≤ hi)) ps
  | 0, l, lo, hi, h0, h1, h2 => by
    have : hi < 1 := h2
    show lsum [pcS ps l lo] = _
    rw [lsum_one]
    refine sumIf_ext ps fun u => ?_
    rw [Bool.eq_iff_iff]; simp only [Bool.and_eq_true, beq_iff_eq, decide_eq_true_eq]; omega
  | f + 1, l, lo, hi, h0, h1, h2 => by
    rw [pw_succ] at h2
    unfold covL
    by_cases he : lo = hi
    · rw [if_pos he]
      show lsum [pcS ps l lo] = _
      rw [lsum_one]
      refine sumIf_ext ps fun u => ?_
      rw [Bool.eq_iff_iff]; simp only [Bool.and_eq_true, beq_iff_eq, decide_eq_true_eq]; omega
    · rw [if_neg he, List.map_append, List.map_append, lsum_append, lsum_append]
      have ha : lsum ((if lo % 2 = 1 then [(l, lo)] else []).map fun p => pcS ps p.1 p.2) = sumIf (fun u => decide (lo ≤ sh l u) && decide (sh l u < (if lo % 2 = 1 then lo + 1 else lo))) ps := by
        by_cases h : lo % 2 = 1
        · rw [if_pos h, if_pos h]
          show lsum [pcS ps l lo] = _
          rw [lsum_one]
          refine sumIf_ext ps fun u => ?_
          rw [Bool.eq_iff_iff]; simp only [Bool.and_eq_true, beq_iff_eq, decide_eq_true_eq]; omega
        · rw [if_neg h, if_neg h]
          rw [sumIf_ext (q := fun _ => false) ps (fun u => by rw [Bool.eq_iff_iff]; simp only [Bool.and_eq_true, decide_eq_true_eq, Bool.false_eq_true, iff_false]; omega), sumIf_none]
          rfl
      have hb : lsum ((if hi % 2 = 0 then [(l, hi)] else []).map fun p => pcS ps p.1 p.2) = sumIf (fun u => decide ((if hi % 2 = 0 then hi - 1 else hi) < sh l u) && decide (sh l u ≤ hi)) ps := by
        by_cases h : hi % 2 = 0
        · rw [if_pos h, if_pos h]
          show lsum [pcS ps l hi] = _
          rw [lsum_one]
          refine sumIf_ext ps fun u => ?_
          rw [Bool.eq_iff_iff]; simp only [Bool.and_eq_true, beq_iff_eq, decide_eq_true_eq]; omega
        · rw [if_neg h, if_neg h]
          rw [sumIf_ext (q := fun _ => false) ps (fun u => by rw [Bool.eq_iff_iff]; simp only [Bool.and_eq_true, decide_eq_true_eq, Bool.false_eq_true, iff_false]; omega), sumIf_none]
          rfl
      have h3 : (if lo % 2 = 1 then lo + 1 else lo) % 2 = 0 ∧ lo ≤ (if lo % 2 = 1 then lo + 1 else lo) ∧ (if lo % 2 = 1 then lo + 1 else lo) ≤ hi := by split <;> omega
      have h4 : (if hi % 2 = 0 then hi - 1 else hi) % 2 = 1 ∧ (if hi % 2 = 0 then hi - 1 else hi) ≤ hi ∧ lo ≤ (if hi % 2 = 0 then hi - 1 else hi) := by split <;> omega
      have h5 : (if lo % 2 = 1 then lo + 1 else lo) ≤ (if hi % 2 = 0 then hi - 1 else hi) + 1 := by split <;> split <;> omega
      rw [ha, hb]
      generalize (if lo % 2 = 1 then lo + 1 else lo) = a at *
      generalize (if hi % 2 = 0 then hi - 1 else hi) = b at *
      have hm : lsum ((if b < a then [] else covL f (l + 1) (a / 2) (b / 2)).map fun p => pcS ps p.1 p.2) = sumIf (fun u => decide (a ≤ sh l u) && decide (sh l u ≤ b)) ps := by
        by_cases hc : b < a
        · rw [if_pos hc]
          rw [sumIf_ext (q := fun _ => false) ps (fun u => by rw [Bool.eq_iff_iff]; simp only [Bool.and_eq_true, decide_eq_true_eq, Bool.false_eq_true, iff_false]; omega), sumIf_none]
          rfl
        · rw [if_neg hc, cov_sum ps f (l + 1) (a / 2) (b / 2) (by omega) (by omega) (by omega)]
          refine sumIf_ext ps fun u => ?_
          rw [sh_succ, Bool.eq_iff_iff]; simp only [Bool.and_eq_true, decide_eq_true_eq]; omega
      rw [hm, sumIf_split (fun u => decide (lo ≤ sh l u) && decide (sh l u ≤ hi)) (fun u => decide (sh l u < a)) ps,
        sumIf_split (fun u => (decide (lo ≤ sh l u) && decide (sh l u ≤ hi)) && !decide (sh l u < a)) (fun u => decide (sh l u ≤ b)) ps]
      congr 1
      · refine sumIf_ext ps fun u => ?_
        rw [Bool.eq_iff_iff]; simp only [Bool.and_eq_true, decide_eq_true_eq]; omega
      · congr 1
        · refine sumIf_ext ps fun u => ?_
          rw [Bool.eq_iff_iff]; simp only [Bool.and_eq_true, Bool.not_eq_true', decide_eq_true_eq, decide_eq_false_iff_not]; omega
        · refine sumIf_ext ps fun u => ?_
          rw [Bool.eq_iff_iff]; simp only [Bool.and_eq_true, Bool.not_eq_true', decide_eq_true_eq, decide_eq_false_iff_not]; omega
/-- What the pieces of a span have of updates. -/
theorem cov_bet {C : Cfg} {B : Nat} {lo hi : Int} (h0 : 0 ≤ lo) (h1 : lo ≤ hi) (h2 : hi < 2 ^ B) (us : List (Int × Int)) :
    lsum ((covL B 0 lo hi).map fun p => pcS (stP C 0 (fus us 0 60)) p.1 p.2) = betK C us 60 lo hi := by
  rw [cov_sum _ B 0 lo hi h0 h1 h2]
  refine sumIf_ext _ fun u => ?_
  rw [sh_zero]; rfl
theorem cov_all (B : Nat) : ∀ (f l : Nat), covL f l 0 (2 ^ f - 1) = [(l + f, 0)]
  | 0, l => rfl
  | f + 1, l => by
    have hp := pw f
    have e : (2 : Int) ^ (f + 1) = 2 * 2 ^ f := pw_succ f
    unfold covL
    rw [e, if_neg (by omega), if_neg (by omega : ¬ ((0 : Int) % 2 = 1)), if_neg (by omega : ¬ ((0 : Int) % 2 = 1)), if_neg (by omega : ¬ ((2 * 2 ^ f - 1 : Int) % 2 = 0)), if_neg (by omega : ¬ ((2 * 2 ^ f - 1 : Int) % 2 = 0)), if_neg (by omega)]
    rw [show (0 : Int) / 2 = 0 by rfl, show (2 * 2 ^ f - 1 : Int) / 2 = 2 ^ f - 1 by omega, cov_all B f (l + 1)]
    rw [show l + 1 + f = l + (f + 1) by omega]
    rfl
theorem cov_self (f l : Nat) (i : Int) : covL f l i i = [(l, i)] := by
  cases f with
  | zero => rfl
  | succ f => unfold covL; rw [if_pos rfl]
end Go.Proofs.YtfhdjekpdifajaaGreat
namespace Go.Proofs.YtfhdjekpdifajaaGreat
set_option linter.unusedVariables false
open Go.RowKit
def CloPost (w W : World) (b6 : Nat) (pre suf : List (Nat × Int)) (e : Ending) (w' : World) : Prop :=
  e = .returned (.tuple #[]) ∧ ∃ v', w'.heap[b6]? = some (.cells #[v'] 165 (0, 0)) ∧ w'.ownsRow w.heap.size 39 2 v' (pre ++ suf.reverse).length (pcV (pre ++ suf.reverse)) ∧ Ext w w'
/-- What the row at b8 was is turned round. -/
theorem CovW.rev {w W w1 : World} {b6 b8 : Nat} {v6 v8 : Value} {pre suf : List (Nat × Int)} (h : CovW w W b6 b8 v6 v8 pre suf)
    (h1 : w1.ownsRow w.heap.size 39 2 v8 suf.length (pcV suf.reverse)) (hm : Mod (fun k => v8.ownBlock = some k) W w1) : CovW w w1 b6 b8 v6 v8 pre suf.reverse := by
  have k6 := (hm.block b6 (lt_of h.x6) (fun e => own_notB h.o8 h.x6 (by decide) e)).trans h.x6
  have k8 := (hm.block b8 (lt_of h.x8) (fun e => own_notB h.o8 h.x8 (by decide) e)).trans h.x8
  refine ⟨k6, k8, own_keepB h.o6 (fun k hk => hm.block k (own_lt h.o6 hk) (fun e => h.dj k hk e)), by rw [List.length_reverse]; exact h1, h.dj, h.g6, h.g8, h.ne, ?_⟩
  exact ⟨hm.os.trans h.ext.os, hm.tape.trans h.ext.tape, hm.output.trans h.ext.output, Nat.le_trans h.ext.size hm.size, fun k hk => (hm.block k (Nat.lt_of_lt_of_le hk h.ext.size) (fun e => by have := own_blk h.o8 e; omega)).trans (h.ext.block k hk)⟩
set_option maxRecDepth 20000 in
set_option maxHeartbeats 2000000 in
theorem CoverD_c (w W : World) (b6 b8 : Nat) (v6 v8 : Value) (pre suf : List (Nat × Int)) (u : FrameMode) (h : CovW w W b6 b8 v6 v8 pre suf) (hp : pre.length ≤ 100000) (hs : suf.length ≤ 100000) :
    CallsD Tryz.prog 214 #[.pointer (some ⟨b8, 0, none⟩), .pointer (some ⟨b6, 0, none⟩)] u W fun e u' w' => u' = u ∧ CloPost w W b6 pre suf e w' := by
  obtain ⟨i0, z0, hi, hz0, hz1, hz2, hzs⟩ := info_pc
  have c8 := (cell_of h.x8 0).trans rfl
  have l8 := lt_of h.x8
  have HH := Lib.hid h
  clear h
  go_enter_d Tryz.func214, Tryz.ntmps214
  go_wp2_with fail
  refine Calls.mono (Reverse_c suf v8 w.heap.size W HH.out.o8 (by omega)) ?_
  rintro e w1 ⟨rfl, ho, hm⟩
  have h1 := HH.out.rev ho hm
  clear c8 l8 ho hm
  have c6 := (cell_of h1.x6 0).trans rfl
  have c8 := (cell_of h1.x8 0).trans rfl
  have l6 := lt_of h1.x6
  have l8 := lt_of h1.x8
  have f6 := frozen_of h1.x6 0
  have H1 := Lib.hid h1
  clear h1
  go_wp2_with (at_builtin; refine wpList_apppz _ suf.reverse pre v6 w.heap.size 39 H1.out.o6 165 rfl _ _ rfl i0 z0 hi hz0 hz1 hz2 hzs Tryz.underlying165 rfl v8 rfl w.heap.size H1.out.o8 (by rw [List.length_reverse]; omega) H1.out.ext.size ?_)
  intro v' w2 hown hext hcells
  have k6 := hcells _ _ _ H1.out.x6 (by decide)
  have hE := hext w H1.out.ext (Nat.le_refl _)
  have HK := Lib.hid k6
  have c62 := (cell_of k6 0).trans rfl
  have l62 := lt_of k6
  have f62 := frozen_of k6 0
  obtain ⟨pv, cv, rfl⟩ := own_sl hown
  clear hext hcells k6
  go_wp2
  go_end0
  have hlen : (pre ++ suf.reverse).length = pre.length + suf.length := by simp
  refine ⟨rfl, _, by rw [setCell_same HK.out]; rfl, ?_, hE.setR (p := ⟨b6, 0, none⟩) H1.out.g6 _⟩
  rw [hlen]
  exact own_keepB hown (fun k hk => setCell_other _ _ (fun e => own_notB hown HK.out (by decide) (e ▸ hk)))
def CoverPost (w : World) (B : Nat) (lo hi : Int) (e : Ending) (w' : World) : Prop :=
  ((hi < lo ∨ 2 ^ B ≤ hi) ∧ e = .returned (.tuple #[.slice none 0 0, .bool false]) ∧ Ext w w') ∨
  ((lo ≤ hi ∧ hi < 2 ^ B) ∧ ∃ v, e = .returned (.tuple #[v, .bool true]) ∧ w'.ownsRow w.heap.size 39 2 v (covL B 0 lo hi).length (pcV (covL B 0 lo hi)) ∧ Ext w w')
theorem cov_step {B l : Nat} {a b : Int} (hl : l < B) (hne : a ≠ b) : covL (B - l) l a b = (if a % 2 = 1 then [(l, a)] else []) ++
    ((if (if b % 2 = 0 then b - 1 else b) < (if a % 2 = 1 then a + 1 else a) then [] else covL (B - (l + 1)) (l + 1) ((if a % 2 = 1 then a + 1 else a) / 2) ((if b % 2 = 0 then b - 1 else b) / 2)) ++ (if b % 2 = 0 then [(l, b)] else [])) := by
  rw [show B - l = (B - (l + 1)) + 1 by omega]
  conv => lhs; unfold covL
  rw [if_neg hne]
theorem rev_one (c : Prop) [Decidable c] (p : Nat × Int) : (if c then [p] else []).reverse = if c then [p] else [] := by split <;> rfl
set_option maxRecDepth 20000 in
set_option maxHeartbeats 4000000 in
theorem Cover_c (B : Nat) (hB1 : 1 ≤ B) (hB2 : B ≤ 59) (lo hi : Int) (hlo : U64 lo) (hhi : U64 hi) (w : World) :
    Calls Tryz.prog 186 #[.int .i64 B, .int .u64 lo, .int .u64 hi] w (CoverPost w B lo hi) := by
  have hmf : ∀ (fn : Fn) (first cap : Array Value) (w : World), (Instr.makeFunc fn first cap).run Tryz.prog w = .ok (.func fn first cap) w := fun _ _ _ _ => rfl
  obtain ⟨hlo0, hlo1⟩ := hlo
  obtain ⟨hhi0, hhi1⟩ := hhi
  have hpw := pow_bd B hB2
  by_cases h1 : hi < lo
  · go_enter_defers Tryz.func186, Tryz.ntmps186
    go_wp2
    exact ⟨.tuple #[.slice none 0 0, .bool false], by simp [results, Tryz.results186, go_sem], .inl ⟨.inl h1, rfl, Ext.alloc' _ _⟩⟩
  · by_cases h2 : 2 ^ B ≤ hi
    · go_enter_defers Tryz.func186, Tryz.ntmps186
      go_wp2
      exact ⟨.tuple #[.slice none 0 0, .bool false], by simp [results, Tryz.results186, go_sem], .inl ⟨.inr h2, rfl, Ext.alloc' _ _⟩⟩
    · have hcv : CovW w ((w.alloc (.cells #[.slice none 0 0] 165)).alloc (.cells #[.slice none 0 0] 165)) w.heap.size (w.heap.size + 1) (.slice none 0 0) (.slice none 0 0) [] [] :=
        ⟨by rw [heap_old _ _ (by rw [size_alloc]; omega)]; exact heap_at _ _ rfl, heap_at _ _ (size_alloc _ _).symm, ⟨rfl, .inl ⟨rfl, rfl⟩⟩, ⟨rfl, .inl ⟨rfl, rfl⟩⟩, (fun i hi => by simp [Value.ownBlock] at hi), Nat.le_refl _, by omega, by omega, (Ext.alloc' _ _).allocR _⟩
      have HCV := Lib.hid hcv
      have HF := Lib.hid (show (lo ≤ hi ∧ hi < 2 ^ B) from ⟨by omega, by omega⟩)
      obtain ⟨i0, z0, hi0, hz0, hz1, hz2, hzs⟩ := info_pc
      have door : ∀ (W : World) (v6 v8 : Value) (pre suf : List (Nat × Int)) (tm : Array Value), CovW w W w.heap.size (w.heap.size + 1) v6 v8 pre suf → pre.length ≤ 100 → suf.length ≤ 100 → covL B 0 lo hi = pre ++ suf.reverse → tm[6]? = some (.pointer (some ⟨w.heap.size, 0, none⟩)) → tm[7]? = some (.bool true) →
          bodyPostD Tryz.prog Tryz.f186 (CoverPost w B lo hi) .ret { tmps := tm, defers := [{ target := .fn (.func 214) #[.pointer (some ⟨w.heap.size + 1, 0, none⟩), .pointer (some ⟨w.heap.size, 0, none⟩)], args := #[] }] } W := by
        intro W v6 v8 pre suf tm h hp hs hcv t6 t7
        refine leaves_cons (f := 214) (args := #[.pointer (some ⟨w.heap.size + 1, 0, none⟩), .pointer (some ⟨w.heap.size, 0, none⟩)]) (by simp) (by simp [go_sem]) ?_
        refine (CoverD_c w W _ _ v6 v8 pre suf .returning h (by omega) (by omega)).mono ?_
        rintro e u' w'' ⟨rfl, rfl, v', hk, ho, hE⟩
        have hc := (cell_of hk 0).trans rfl
        exact ⟨.tuple #[v', .bool true], by simp [results, Tryz.results186, go_sem, t6, t7, hc], .inr ⟨HF.out, v', rfl, by rw [hcv]; exact ho, hE⟩⟩
      have HD := Lib.hid door
      clear door hcv
      go_enter_defers Tryz.func186, Tryz.ntmps186
      go_wp2_with fail
      go_loopw [1, 2, 9] (fun s1 s2 s9 wr => ∃ (a b : Int) (l : Nat) (pre suf : List (Nat × Int)) (v6 v8 : Value), s1 = .int .u64 a ∧ s2 = .int .u64 b ∧ s9 = .int .i64 l ∧ l ≤ B ∧ 0 ≤ a ∧ a ≤ b ∧ b < 2 ^ (B - l) ∧ pre.length ≤ l ∧ suf.length ≤ l ∧
        covL B 0 lo hi = pre ++ (covL (B - l) l a b ++ suf.reverse) ∧ CovW w wr w.heap.size (w.heap.size + 1) v6 v8 pre suf) (fun _ _ s9 _ => B - (intOf s9).toNat)
      case atStart => exact ⟨lo, hi, 0, [], [], _, _, rfl, rfl, rfl, Nat.zero_le _, hlo0, by omega, by rw [Nat.sub_zero]; omega, Nat.le_refl _, Nat.le_refl _, by simp, HCV.out⟩
      case round =>
        obtain ⟨a, b, l, pre, suf, v6, v8, rfl, rfl, rfl, hl, ha0, hab, hbb, hpl, hsl, hcov, hW⟩ := hrel
        have hpw2 := pow_bd (B - l) (by omega)
        have HC := Lib.hid hcov
        have c6 := (cell_of hW.x6 0).trans rfl
        have c8 := (cell_of hW.x8 0).trans rfl
        have l6 := lt_of hW.x6
        have l8 := lt_of hW.x8
        have f6 := frozen_of hW.x6 0
        have f8 := frozen_of hW.x8 0
        have hsz := hW.ext.size
        have HW := Lib.hid hW
        clear hcov hW
        by_cases he : a = b
        · subst he
          go_wp2_with (at_builtin; refine wpList_appp _ (l, a) pre v6 w.heap.size 39 39 HW.out.o6 165 rfl _ _ rfl i0 z0 hi0 hz0 hz1 hz2 hzs Tryz.underlying165 rfl rfl (by omega) HW.out.ext.size ?_)
          intro v' w' hw1 hw2 hw3
          have hW1 := HW.out.app hw1 hw2 hw3
          have hk0 := HW.out.app0 hw2
          obtain ⟨pv, cv, rfl⟩ := own_sl hw1
          have W1 := Lib.hid hW1
          have j6 := (cell_of hk0 0).trans rfl
          have j6l := lt_of hk0
          have j6f := frozen_of hk0 0
          have k6 := (cell_of hW1.x6 0).trans rfl
          have k6l := lt_of hW1.x6
          have k6f := frozen_of hW1.x6 0
          clear hw1 hw2 hw3 hW1 hk0
          go_wp2
          refine HD.out _ _ _ _ _ _ W1.out.set ?_ ?_ ?_ rfl rfl
          · rw [List.length_append, List.length_singleton]; omega
          · omega
          · rw [HC.out, cov_self, List.append_assoc]
        · have hl2 : l < B := by
            rcases Nat.lt_or_ge l B with h | h
            · exact h
            · rw [show B - l = 0 by omega] at hbb
              have : b < 1 := hbb
              omega
          have ha1 := and_1 a ha0 (by omega)
          have hb1 := and_1 b (by omega) (by omega)
          have hstep := cov_step hl2 he
          have h3 : (if a % 2 = 1 then a + 1 else a) % 2 = 0 ∧ a ≤ (if a % 2 = 1 then a + 1 else a) ∧ (if a % 2 = 1 then a + 1 else a) ≤ b := by split <;> omega
          have h4 : (if b % 2 = 0 then b - 1 else b) % 2 = 1 ∧ (if b % 2 = 0 then b - 1 else b) ≤ b ∧ a ≤ (if b % 2 = 0 then b - 1 else b) := by split <;> omega
          have h5 : (if a % 2 = 1 then a + 1 else a) ≤ (if b % 2 = 0 then b - 1 else b) + 1 := by split <;> split <;> omega
          have h6 : (if a % 2 = 1 then [(l, a)] else []).length ≤ 1 ∧ (if b % 2 = 0 then [(l, b)] else []).length ≤ 1 := by constructor <;> split <;> simp
          have h7 := rev_one (b % 2 = 0) (l, b)
          obtain ⟨a2, ha2⟩ : ∃ a2, (if a % 2 = 1 then a + 1 else a) = a2 := ⟨_, rfl⟩
          obtain ⟨b2, hb2⟩ : ∃ b2, (if b % 2 = 0 then b - 1 else b) = b2 := ⟨_, rfl⟩
          obtain ⟨L, hL⟩ : ∃ L, (if a % 2 = 1 then [(l, a)] else []) = L := ⟨_, rfl⟩
          obtain ⟨R, hR⟩ : ∃ R, (if b % 2 = 0 then [(l, b)] else []) = R := ⟨_, rfl⟩
          rw [ha2] at h3 h5
          rw [hb2] at h4 h5
          rw [hL, hR] at h6
          rw [hR] at h7
          rw [ha2, hb2, hL, hR] at hstep
          obtain ⟨h31, h32, h33⟩ := h3
          obtain ⟨h41, h42, h43⟩ := h4
          have HS := Lib.hid hstep
          have H6 := Lib.hid h6
          have H7 := Lib.hid h7
          have HA := Lib.hid ha2
          have HBB := Lib.hid hb2
          have HL := Lib.hid hL
          have HR := Lib.hid hR
          clear hstep h6 h7 ha2 hb2 hL hR
          go_upto_if 42 with (fail)
          go_cut [1] from 30 to 69 (fun s1 wx => ∃ v6' : Value, s1 = .int .u64 a2 ∧ CovW w wx w.heap.size (w.heap.size + 1) v6' v8 (pre ++ L) suf)
          case first =>
            have hA2 := HA.out
            have hL2 := HL.out
            by_cases ho : a % 2 = 1
            · rw [if_pos ho] at hA2 hL2
              subst hA2 hL2
              go_wp2_with (at_builtin; refine wpList_appp _ (l, a) pre v6 w.heap.size 39 39 HW.out.o6 165 rfl _ _ rfl i0 z0 hi0 hz0 hz1 hz2 hzs Tryz.underlying165 rfl rfl (by omega) HW.out.ext.size ?_)
              intro v' w' hw1 hw2 hw3
              have hW1 := HW.out.app hw1 hw2 hw3
              have hk0 := HW.out.app0 hw2
              obtain ⟨pv, cv, rfl⟩ := own_sl hw1
              have W1 := Lib.hid hW1
              have j6 := (cell_of hk0 0).trans rfl
              have j6l := lt_of hk0
              have j6f := frozen_of hk0 0
              clear hw1 hw2 hw3 hW1 hk0
              go_wp2
              go_meet
              exact ⟨_, rfl, W1.out⟩
            · rw [if_neg ho] at hA2 hL2
              subst hA2 hL2
              have ho2 : (a % 2 == 1) = false := by simp; omega
              go_wp2_with fail
              go_meet
              exact ⟨v6, rfl, by rw [List.append_nil]; exact HW.out⟩
          case rest =>
            obtain ⟨v6', rfl, hW2⟩ := hcut
            clear HW c6 c8 l6 l8 f6 f8 ha1
            have c8 := (cell_of hW2.x8 0).trans rfl
            have l8 := lt_of hW2.x8
            have f8 := frozen_of hW2.x8 0
            have HW2 := Lib.hid hW2
            clear hW2
            go_upto_if 53 with (fail)
            go_cut [2] from 30 to 69 (fun s2 wx => ∃ v8' : Value, s2 = .int .u64 b2 ∧ CovW w wx w.heap.size (w.heap.size + 1) v6' v8' (pre ++ L) (suf ++ R))
            case first =>
              have hB2 := HBB.out
              have hR2 := HR.out
              by_cases ho : b % 2 = 0
              · rw [if_pos ho] at hB2 hR2
                subst hB2 hR2
                go_wp2_with (at_builtin; refine wpList_appp _ (l, b) suf v8 w.heap.size 39 39 HW2.out.o8 165 rfl _ _ rfl i0 z0 hi0 hz0 hz1 hz2 hzs Tryz.underlying165 rfl rfl (by omega) HW2.out.ext.size ?_)
                intro v' w' hw1 hw2 hw3
                have hW1 := HW2.out.symm.app hw1 hw2 hw3
                have hk0 := HW2.out.symm.app0 hw2
                obtain ⟨pv, cv, rfl⟩ := own_sl hw1
                have W1 := Lib.hid hW1
                have j8 := (cell_of hk0 0).trans rfl
                have j8l := lt_of hk0
                have j8f := frozen_of hk0 0
                clear hw1 hw2 hw3 hW1 hk0
                go_wp2
                go_meet
                exact ⟨_, rfl, W1.out.symm⟩
              · rw [if_neg ho] at hB2 hR2
                subst hB2 hR2
                have ho2 : (b % 2 == 0) = false := by simp; omega
                go_wp2_with fail
                go_meet
                exact ⟨v8, rfl, by rw [List.append_nil]; exact HW2.out⟩
            case rest =>
              obtain ⟨v8', rfl, hW3⟩ := hcut
              clear HW2 c8 l8 f8 hb1
              have c6 := (cell_of hW3.x6 0).trans rfl
              have l6 := lt_of hW3.x6
              have f6 := frozen_of hW3.x6 0
              have HW3 := Lib.hid hW3
              clear hW3
              by_cases hlt : b2 < a2
              · obtain ⟨p6, n6, q6, hv6⟩ : ∃ p n c, v6' = .slice p n c := by obtain ⟨p, c, h⟩ := own_sl HW3.out.o6; exact ⟨p, _, c, h⟩
                subst hv6
                go_wp2_with fail
                refine HD.out _ _ _ _ _ _ HW3.out.set ?_ ?_ ?_ rfl rfl
                · rw [List.length_append]; have := H6.out.1; omega
                · rw [List.length_append]; have := H6.out.2; omega
                · rw [HC.out, HS.out, if_pos hlt, List.reverse_append, H7.out, List.nil_append, List.append_assoc, List.append_assoc]
              · go_wp2_with fail
                go_roundw
                case rel =>
                  refine ⟨a2 / 2, b2 / 2, l + 1, pre ++ L, suf ++ R, v6', v8', by go_num, by go_num, by go_num, by omega, by omega, by omega, ?_, ?_, ?_, ?_, HW3.out⟩
                  · have e : (2 : Int) ^ (B - l) = 2 * 2 ^ (B - (l + 1)) := by rw [show B - l = B - (l + 1) + 1 by omega]; exact pw_succ _
                    omega
                  · rw [List.length_append]; have := H6.out.1; omega
                  · rw [List.length_append]; have := H6.out.2; omega
                  · rw [HC.out, HS.out, if_neg hlt, List.reverse_append, H7.out]; simp only [List.append_assoc]
                case measure => simp [intOf]; omega
end Go.Proofs.YtfhdjekpdifajaaGreat
namespace Go.Proofs.YtfhdjekpdifajaaGreat
set_option linter.unusedVariables false
open Go.RowKit
/-- Where it lies: its block, its row of rows, its rows, and how many cells they could have. -/
structure Gr where
  g : Nat
  m : Nat
  r : Nat → Nat
  c : Nat → Nat
def Gr.foot (G : Gr) (R : Nat) (k : Nat) : Prop := k = G.g ∨ k = G.m ∨ ∃ r, r < R ∧ k = G.r r
def Gr.row (G : Gr) (W r : Nat) : Value := .slice (some ⟨G.r r, 0, none⟩) W (G.c r)
structure RGAt (w : World) (G : Gr) (R W : Nat) (l : List Int) : Prop where
  ex : ∃ cap, w.heap[G.g]? = some (.cells #[.slice (some ⟨G.m, 0, none⟩) R cap] 161 (0, 0)) ∧ R ≤ cap
  row : ∃ cur, w.heap[G.m]? = some (.cells cur 43 (0, 0)) ∧ ∀ r, r < R → cur[r]? = some (G.row W r)
  cells : ∀ r, r < R → ∃ cur, w.heap[G.r r]? = some (.cells cur 2 (0, 0)) ∧ ∀ k, k < W → cur[k]? = some (.int .i64 (l.getD (r * W + k) 0))
  capc : ∀ r, r < R → W ≤ G.c r
  sep : ∀ r q, r < R → q < R → r ≠ q → G.r r ≠ G.r q
  len : l.length = R * W
  r1 : 1 ≤ R
  r2 : R ≤ 8
  w1 : 1 ≤ W
  w2 : W ≤ 128
section
variable {w : World} {G : Gr} {R W : Nat} {l : List Int}
theorem RGAt.ltg (h : RGAt w G R W l) : G.g < w.heap.size := by obtain ⟨cap, h1, _⟩ := h.ex; exact lt_of h1
theorem RGAt.ltm (h : RGAt w G R W l) : G.m < w.heap.size := by obtain ⟨cur, h1, _⟩ := h.row; exact lt_of h1
theorem RGAt.ltr (h : RGAt w G R W l) {r : Nat} (hr : r < R) : G.r r < w.heap.size := by obtain ⟨cur, h1, _⟩ := h.cells r hr; exact lt_of h1
theorem RGAt.lt (h : RGAt w G R W l) {k : Nat} (hk : G.foot R k) : k < w.heap.size := by
  rcases hk with rfl | rfl | ⟨r, hr, rfl⟩
  · exact h.ltg
  · exact h.ltm
  · exact h.ltr hr
theorem RGAt.ngr (h : RGAt w G R W l) {r : Nat} (hr : r < R) : G.g ≠ G.r r := by
  obtain ⟨cap, h1, _⟩ := h.ex
  obtain ⟨cur, h2, _⟩ := h.cells r hr
  exact blk_ne h1 h2 (by decide)
theorem RGAt.nmr (h : RGAt w G R W l) {r : Nat} (hr : r < R) : G.m ≠ G.r r := by
  obtain ⟨c1, h1, _⟩ := h.row
  obtain ⟨cur, h2, _⟩ := h.cells r hr
  exact blk_ne h1 h2 (by decide)
theorem RGAt.keep {w' : World} (h : RGAt w G R W l) (hk : ∀ k, G.foot R k → w'.heap[k]? = w.heap[k]?) : RGAt w' G R W l :=
  ⟨by rw [hk _ (.inl rfl)]; exact h.ex, by rw [hk _ (.inr (.inl rfl))]; exact h.row, fun r hr => by rw [hk _ (.inr (.inr ⟨r, hr, rfl⟩))]; exact h.cells r hr, h.capc, h.sep, h.len, h.r1, h.r2, h.w1, h.w2⟩
theorem RGAt.ext {w' : World} (h : RGAt w G R W l) (he : Ext w w') : RGAt w' G R W l := h.keep fun k hk => he.block k (h.lt hk)
theorem RGAt.mod {S : Nat → Prop} {w' : World} (h : RGAt w G R W l) (he : Mod S w w') (hn : ∀ k, G.foot R k → ¬ S k) : RGAt w' G R W l := h.keep fun k hk => he.block k (h.lt hk) (hn k hk)
theorem RGAt.cr (h : RGAt w G R W l) {r k : Nat} (hr : r < R) (hk : k < W) : w.cell? ⟨G.r r, k, none⟩ = some (.int .i64 (l.getD (r * W + k) 0)) := by
  obtain ⟨cur, h1, h2⟩ := h.cells r hr
  rw [cell_of h1]; exact h2 k hk
/-- A row of its cells. -/
def rowL (l : List Int) (W r : Nat) : List Int := (List.range W).map fun k => l.getD (r * W + k) 0
theorem rowL_len (l : List Int) (W r : Nat) : (rowL l W r).length = W := by simp [rowL]
theorem rowL_get {l : List Int} {W r k : Nat} (hk : k < W) : (rowL l W r).getD k 0 = l.getD (r * W + k) 0 := by simp [rowL, hk]
theorem RGAt.ints (h : RGAt w G R W l) {r : Nat} (hr : r < R) : IntsAt w (.slice (some ⟨G.r r, 0, none⟩) W (G.c r)) (rowL l W r) :=
  .inr ⟨G.r r, 0, G.c r, by rw [rowL_len], h.ltr hr, fun k hk => by rw [rowL_len] at hk; rw [Nat.zero_add, rowL_get hk]; exact h.cr hr hk⟩
/-- One cell set. -/
theorem RGAt.set (h : RGAt w G R W l) {r k : Nat} (hr : r < R) (hk : k < W) (x : Int) : RGAt (w.setCell ⟨G.r r, k, none⟩ (.int .i64 x)) G R W (l.set (r * W + k) x) := by
  have hlt : r * W + k < l.length := by
    rw [h.len]
    calc r * W + k < r * W + W := by omega
      _ = (r + 1) * W := by rw [Nat.add_mul, Nat.one_mul]
      _ ≤ R * W := Nat.mul_le_mul_right W hr
  refine ⟨by rw [setCell_other _ _ (h.ngr hr)]; exact h.ex, by rw [setCell_other _ _ (h.nmr hr)]; exact h.row, fun q hq => ?_, h.capc, h.sep, by rw [List.length_set]; exact h.len, h.r1, h.r2, h.w1, h.w2⟩
  obtain ⟨cur, h1, h2⟩ := h.cells q hq
  by_cases e : q = r
  · subst e
    refine ⟨_, setCell_same h1 _ _, fun j hj => ?_⟩
    by_cases ej : j = k
    · subst ej
      have hsz : j < cur.size := by
        have := h2 j hj
        rw [Array.getElem?_eq_some_iff] at this
        exact this.1
      rw [Array.getElem?_setIfInBounds_self_of_lt hsz, List.getD_eq_getElem?_getD, List.getElem?_set_self hlt]
      rfl
    · rw [Array.getElem?_setIfInBounds_ne (fun e => ej e.symm), h2 j hj, List.getD_eq_getElem?_getD, List.getD_eq_getElem?_getD, List.getElem?_set_ne (by omega)]
  · refine ⟨cur, by rw [setCell_other _ _ (h.sep q r hq hr e)]; exact h1, fun j hj => ?_⟩
    rw [h2 j hj, List.getD_eq_getElem?_getD, List.getD_eq_getElem?_getD, List.getElem?_set_ne (at_ne hk hj (.inl fun e' => e e'.symm))]
end
/-- Rows that have been made. -/
structure GMade (w : World) (B0 : Nat) (G : Gr) (W k : Nat) (v : Value) (f : Nat → Nat → Int) : Prop where
  row : w.ownsRow B0 43 1 v ((List.range k).map (G.row W)).length ((List.range k).map (G.row W))
  cells : ∀ r, r < k → ∃ cur, w.heap[G.r r]? = some (.cells cur 2 (0, 0)) ∧ ∀ j, j < W → cur[j]? = some (.int .i64 (f r j))
  capc : ∀ r, r < k → W ≤ G.c r
  new : ∀ r, r < k → B0 ≤ G.r r
  sep : ∀ r q, r < k → q < k → r ≠ q → G.r r ≠ G.r q
theorem GMade.zero (w : World) (B0 : Nat) (G : Gr) (W : Nat) (f : Nat → Nat → Int) : GMade w B0 G W 0 (.slice none 0 0) f :=
  ⟨⟨rfl, .inl ⟨rfl, rfl⟩⟩, by intros; omega, by intros; omega, by intros; omega, by intros; omega⟩
theorem GMade.ext {w w' : World} {B0 W k : Nat} {G : Gr} {v : Value} {f : Nat → Nat → Int} (h : GMade w B0 G W k v f) (he : Ext w w') : GMade w' B0 G W k v f :=
  ⟨own_ext h.row he, fun r hr => by obtain ⟨cur, h1, h2⟩ := h.cells r hr; exact ⟨cur, he.keep h1, h2⟩, h.capc, h.new, h.sep⟩
theorem GMade.lt {w : World} {B0 W k : Nat} {G : Gr} {v : Value} {f : Nat → Nat → Int} (h : GMade w B0 G W k v f) {r : Nat} (hr : r < k) : G.r r < w.heap.size := by
  obtain ⟨cur, h1, _⟩ := h.cells r hr; exact lt_of h1
theorem GMade.setc {w : World} {B0 W k : Nat} {G : Gr} {v : Value} {f : Nat → Nat → Int} (h : GMade w B0 G W k v f) {b : Nat} (hb : b < B0) (o : Nat) (u : Value) : GMade (w.setCell ⟨b, o, none⟩ u) B0 G W k v f :=
  ⟨own_setc h.row hb o u, fun r hr => by obtain ⟨cur, h1, h2⟩ := h.cells r hr; exact ⟨cur, by rw [setCell_other _ _ (by have := h.new r hr; omega)]; exact h1, h2⟩, h.capc, h.new, h.sep⟩
/-- One more. -/
theorem GMade.next {w w' : World} {B0 W k N : Nat} {G : Gr} {v v' : Value} {f : Nat → Nat → Int} {z cap : Nat} {cur : Array Value} {o : Obj} (h : GMade w B0 G W k v f)
    (hz : w.heap[z]? = some (.cells cur 2 (0, 0))) (hf : ∀ j, j < W → cur[j]? = some (.int .i64 (f k j))) (hcap : W ≤ cap) (hN : ∀ r, r < k → G.r r < N) (hB : B0 ≤ N) (hzN : N ≤ z)
    (hown : w'.ownsRow B0 43 1 v' ((List.range k).map (G.row W) ++ [Value.slice (some ⟨z, 0, none⟩) W cap]).length ((List.range k).map (G.row W) ++ [Value.slice (some ⟨z, 0, none⟩) W cap])) (hg : (w.alloc o).grownBy w' v.ownBlock) :
    GMade w' B0 ⟨G.g, G.m, fun r => if r = k then z else G.r r, fun r => if r = k then cap else G.c r⟩ W (k + 1) v' f := by
  have hold : ∀ (j : Nat) (cu : Array Value), w.heap[j]? = some (Obj.cells cu 2 (0, 0)) → w'.heap[j]? = some (Obj.cells cu 2 (0, 0)) := fun j cu hj =>
    (grown_old hg (lt_of hj) (fun e => own_notB h.row hj (by decide) e.symm)).trans hj
  refine ⟨?_, fun r hr => ?_, fun r hr => ?_, fun r hr => ?_, fun r q hr hq hrq => ?_⟩
  · have e : (List.range (k + 1)).map (Gr.row ⟨G.g, G.m, fun r => if r = k then z else G.r r, fun r => if r = k then cap else G.c r⟩ W) = (List.range k).map (G.row W) ++ [Value.slice (some ⟨z, 0, none⟩) W cap] := by
      rw [List.range_succ, List.map_append]
      congr 1
      · apply List.map_congr_left
        intro i hi
        rw [List.mem_range] at hi
        simp only [Gr.row, if_neg (show ¬ i = k by omega)]
      · simp [Gr.row]
    rw [e]; exact hown
  · by_cases e : r = k
    · subst e
      refine ⟨cur, ?_, hf⟩
      simp only [if_pos]
      exact hold _ _ hz
    · obtain ⟨cu, h1, h2⟩ := h.cells r (by omega)
      refine ⟨cu, ?_, h2⟩
      simp only [if_neg e]
      exact hold _ _ h1
  · by_cases e : r = k
    · simp only [if_pos e]; exact hcap
    · simp only [if_neg e]; exact h.capc r (by omega)
  · by_cases e : r = k
    · simp only [if_pos e]; omega
    · simp only [if_neg e]; exact h.new r (by omega)
  · by_cases e : r = k
    · subst e
      simp only [if_pos, if_neg (show ¬ q = r by omega)]
      have := hN q (by omega)
      omega
    · by_cases e' : q = k
      · subst e'
        simp only [if_pos, if_neg e]
        have := hN r (by omega)
        omega
      · simp only [if_neg e, if_neg e']
        exact h.sep r q (by omega) (by omega) hrq
section
variable {P : Program}
end
end Go.Proofs.YtfhdjekpdifajaaGreat
namespace Go.Proofs.YtfhdjekpdifajaaGreat
set_option linter.unusedVariables false
open Go.RowKit
/-- P is told of the blocks F, which are there. -/
structure Own (F : Nat → Prop) (P : World → Prop) (w : World) : Prop where
  h : P w
  keep : ∀ w w' : World, P w → (∀ k, F k → w'.heap[k]? = w.heap[k]?) → P w'
  lt : ∀ k, F k → k < w.heap.size
theorem Own.mod {F S : Nat → Prop} {P : World → Prop} {w w' : World} (h : Own F P w) (hm : Mod S w w') (hn : ∀ k, F k → ¬ S k) : Own F P w' :=
  ⟨h.keep w w' h.h (fun k hk => hm.block k (h.lt k hk) (hn k hk)), h.keep, fun k hk => Nat.lt_of_lt_of_le (h.lt k hk) hm.size⟩
theorem Own.ext {F : Nat → Prop} {P : World → Prop} {w w' : World} (h : Own F P w) (he : Ext w w') : Own F P w' :=
  ⟨h.keep w w' h.h (fun k hk => he.block k (h.lt k hk)), h.keep, fun k hk => Nat.lt_of_lt_of_le (h.lt k hk) he.size⟩
/-- They have no block in common. -/
def Dj (F G : Nat → Prop) : Prop := ∀ k, F k → ¬ G k
theorem Dj.symm {F G : Nat → Prop} (h : Dj F G) : Dj G F := fun k hg hf => h k hf hg
/-- What came out of one of them, or is new. -/
theorem Own.grow {F G G' : Nat → Prop} {P : World → Prop} {w : World} (h : Own F P w) (hd : Dj F G) (hG : ∀ k, G' k → G k ∨ w.heap.size ≤ k) : Dj F G' := fun k hf hg => by
  rcases hG k hg with h1 | h1
  · exact hd k hf h1
  · have := h.lt k hf; omega
theorem Own.of {F : Nat → Prop} {P : World → Prop} {w : World} (h : P w) (keep : ∀ w w' : World, P w → (∀ k, F k → w'.heap[k]? = w.heap[k]?) → P w') (lt : ∀ k, F k → k < w.heap.size) : Own F P w := ⟨h, keep, lt⟩
end Go.Proofs.YtfhdjekpdifajaaGreat
namespace Go.Proofs.YtfhdjekpdifajaaGreat
set_option linter.unusedVariables false
open Go.RowKit
/-- A sketch of the references. -/
structure RSAt (w : World) (s : Nat) (G : Gr) (C : Cfg) (lv : Int) (R W : Nat) (l : List Int) : Prop where
  ex : w.heap[s]? = some (.cells #[.int .i64 C.bits, .int .i64 C.rows, .int .i64 C.width, .int .i64 C.mode, .int .u64 C.seed, .int .i64 lv, .pointer (some ⟨G.g, 0, none⟩)] 158 (0, 0))
  g : RGAt w G R W l
  ok : C.Ok
  lo : 0 ≤ lv
  hi : lv ≤ C.bits
  hr : C.rows = R
  hw : C.width = W
  fit : ∀ x ∈ l, I64 x
def rsF (s : Nat) (G : Gr) (R : Nat) (k : Nat) : Prop := k = s ∨ G.foot R k
section
variable {w : World} {s : Nat} {G : Gr} {C : Cfg} {lv : Int} {R W : Nat} {l : List Int}
theorem RSAt.lts (h : RSAt w s G C lv R W l) : s < w.heap.size := lt_of h.ex
theorem RSAt.keep {w' : World} (h : RSAt w s G C lv R W l) (hk : ∀ k, rsF s G R k → w'.heap[k]? = w.heap[k]?) : RSAt w' s G C lv R W l :=
  ⟨by rw [hk s (.inl rfl)]; exact h.ex, h.g.keep fun k hg => hk k (.inr hg), h.ok, h.lo, h.hi, h.hr, h.hw, h.fit⟩
theorem RSAt.lt (h : RSAt w s G C lv R W l) {k : Nat} (hk : rsF s G R k) : k < w.heap.size := by
  rcases hk with rfl | hk
  · exact h.lts
  · exact h.g.lt hk
theorem RSAt.ext {w' : World} (h : RSAt w s G C lv R W l) (he : Ext w w') : RSAt w' s G C lv R W l := h.keep fun k hk => he.block k (h.lt hk)
theorem RSAt.mod {S : Nat → Prop} {w' : World} (h : RSAt w s G C lv R W l) (he : Mod S w w') (hn : ∀ k, rsF s G R k → ¬ S k) : RSAt w' s G C lv R W l := h.keep fun k hk => he.block k (h.lt hk) (hn k hk)
theorem RSAt.own (h : RSAt w s G C lv R W l) : Own (rsF s G R) (fun w => RSAt w s G C lv R W l) w := ⟨h, fun w w' h hk => h.keep hk, fun k hk => h.lt hk⟩
end
/-- An array of the references. -/
structure RXAt (w : World) (a m : Nat) (C : Cfg) (lv : Int) (K : Nat) (l : List Int) : Prop where
  ex : ∃ cap, w.heap[a]? = some (.cells #[.int .i64 C.bits, .int .i64 C.rows, .int .i64 C.width, .int .i64 C.mode, .int .u64 C.seed, .int .i64 lv, .slice (some ⟨m, 0, none⟩) K cap] 155 (0, 0)) ∧ K ≤ cap
  cells : ∃ cur, w.heap[m]? = some (.cells cur 2 (0, 0)) ∧ ∀ k, k < K → cur[k]? = some (.int .i64 (l.getD k 0))
  len : l.length = K
  k1 : 1 ≤ K
  k2 : K ≤ 128
  fit : ∀ x ∈ l, I64 x
def rxF (a m : Nat) (k : Nat) : Prop := k = a ∨ k = m
section
variable {w : World} {a m : Nat} {C : Cfg} {lv : Int} {K : Nat} {l : List Int}
theorem RXAt.lta (h : RXAt w a m C lv K l) : a < w.heap.size := by obtain ⟨cap, h1, _⟩ := h.ex; exact lt_of h1
theorem RXAt.ltm (h : RXAt w a m C lv K l) : m < w.heap.size := by obtain ⟨cur, h1, _⟩ := h.cells; exact lt_of h1
theorem RXAt.ne (h : RXAt w a m C lv K l) : a ≠ m := by
  obtain ⟨cap, h1, _⟩ := h.ex
  obtain ⟨cur, h2, _⟩ := h.cells
  exact blk_ne h1 h2 (by decide)
theorem RXAt.lt (h : RXAt w a m C lv K l) {k : Nat} (hk : rxF a m k) : k < w.heap.size := by
  rcases hk with rfl | rfl
  · exact h.lta
  · exact h.ltm
theorem RXAt.keep {w' : World} (h : RXAt w a m C lv K l) (hk : ∀ k, rxF a m k → w'.heap[k]? = w.heap[k]?) : RXAt w' a m C lv K l :=
  ⟨by rw [hk a (.inl rfl)]; exact h.ex, by rw [hk m (.inr rfl)]; exact h.cells, h.len, h.k1, h.k2, h.fit⟩
theorem RXAt.ext {w' : World} (h : RXAt w a m C lv K l) (he : Ext w w') : RXAt w' a m C lv K l := h.keep fun k hk => he.block k (h.lt hk)
theorem RXAt.cell (h : RXAt w a m C lv K l) {k : Nat} (hk : k < K) : w.cell? ⟨m, k, none⟩ = some (.int .i64 (l.getD k 0)) := by
  obtain ⟨cur, h1, h2⟩ := h.cells; rw [cell_of h1]; exact h2 k hk
theorem RXAt.ints {cap : Nat} (h : RXAt w a m C lv K l) : IntsAt w (.slice (some ⟨m, 0, none⟩) K cap) l :=
  .inr ⟨m, 0, cap, by rw [h.len], h.ltm, fun k hk => by rw [h.len] at hk; rw [Nat.zero_add]; exact h.cell hk⟩
theorem RXAt.set (h : RXAt w a m C lv K l) {k : Nat} (hk : k < K) {x : Int} (hx : I64 x) : RXAt (w.setCell ⟨m, k, none⟩ (.int .i64 x)) a m C lv K (l.set k x) := by
  refine ⟨by rw [setCell_other _ _ h.ne]; exact h.ex, ?_, by rw [List.length_set]; exact h.len, h.k1, h.k2, fun y hy => ?_⟩
  · obtain ⟨cur, h1, h2⟩ := h.cells
    refine ⟨_, setCell_same h1 _ _, fun j hj => ?_⟩
    by_cases ej : j = k
    · subst ej
      have hsz : j < cur.size := by
        have := h2 j hj
        rw [Array.getElem?_eq_some_iff] at this
        exact this.1
      rw [Array.getElem?_setIfInBounds_self_of_lt hsz, List.getD_eq_getElem?_getD, List.getElem?_set_self (by rw [h.len]; exact hk)]
      rfl
    · rw [Array.getElem?_setIfInBounds_ne (fun e => ej e.symm), h2 j hj, List.getD_eq_getElem?_getD, List.getD_eq_getElem?_getD, List.getElem?_set_ne (fun e => ej e.symm)]
  · rcases List.mem_or_eq_of_mem_set hy with h1 | rfl
    · exact h.fit y h1
    · exact hx
end
/-- Where a level of the references lies. -/
structure RLev where
  p : Nat
  a : Nat
  G : Gr
def RLvAt (w : World) (L : RLev) (C : Cfg) (lv : Int) (l : List Int) : Prop :=
  C.Ok ∧ 0 ≤ lv ∧ lv ≤ C.bits ∧
    ((isX C lv = true ∧ w.heap[L.p]? = some (.cells #[.pointer (some ⟨L.a, 0, none⟩), .pointer none] 153 (0, 0)) ∧ RXAt w L.a L.G.m C lv (kN C lv) l) ∨
     (isX C lv = false ∧ w.heap[L.p]? = some (.cells #[.pointer none, .pointer (some ⟨L.a, 0, none⟩)] 153 (0, 0)) ∧ RSAt w L.a L.G C lv (rN C) (wN C) l))
def RLev.foot (C : Cfg) (lv : Int) (L : RLev) (k : Nat) : Prop := k = L.p ∨ (isX C lv = true ∧ rxF L.a L.G.m k) ∨ (isX C lv = false ∧ rsF L.a L.G (rN C) k)
section
variable {w : World} {L : RLev} {C : Cfg} {lv : Int} {l : List Int}
theorem RLvAt.fit (h : RLvAt w L C lv l) : ∀ x ∈ l, I64 x := by
  obtain ⟨_, _, _, ⟨_, _, h⟩ | ⟨_, _, h⟩⟩ := h
  · exact h.fit
  · exact h.fit
theorem RLvAt.len (h : RLvAt w L C lv l) : l.length = lvN C lv := by
  obtain ⟨_, _, _, ⟨hx, _, h⟩ | ⟨hx, _, h⟩⟩ := h
  · unfold lvN; rw [hx]; exact h.len
  · unfold lvN; rw [hx]; exact h.g.len
theorem RLvAt.x (h : RLvAt w L C lv l) (hx : isX C lv = true) : w.heap[L.p]? = some (.cells #[.pointer (some ⟨L.a, 0, none⟩), .pointer none] 153 (0, 0)) ∧ RXAt w L.a L.G.m C lv (kN C lv) l := by
  obtain ⟨_, _, _, ⟨_, h1, h2⟩ | ⟨hy, _⟩⟩ := h
  · exact ⟨h1, h2⟩
  · rw [hx] at hy; cases hy
theorem RLvAt.sk (h : RLvAt w L C lv l) (hx : isX C lv = false) : w.heap[L.p]? = some (.cells #[.pointer none, .pointer (some ⟨L.a, 0, none⟩)] 153 (0, 0)) ∧ RSAt w L.a L.G C lv (rN C) (wN C) l := by
  obtain ⟨_, _, _, ⟨hy, _⟩ | ⟨_, h1, h2⟩⟩ := h
  · rw [hx] at hy; cases hy
  · exact ⟨h1, h2⟩
theorem RLvAt.lt (h : RLvAt w L C lv l) {k : Nat} (hk : L.foot C lv k) : k < w.heap.size := by
  rcases hk with rfl | ⟨hx, hk⟩ | ⟨hx, hk⟩
  · obtain ⟨_, _, _, ⟨_, h1, _⟩ | ⟨_, h1, _⟩⟩ := h <;> exact lt_of h1
  · exact (h.x hx).2.lt hk
  · exact (h.sk hx).2.lt hk
theorem RLvAt.keep {w' : World} (h : RLvAt w L C lv l) (hk : ∀ k, L.foot C lv k → w'.heap[k]? = w.heap[k]?) : RLvAt w' L C lv l := by
  obtain ⟨h1, h2, h3, ⟨hx, h4, h5⟩ | ⟨hx, h4, h5⟩⟩ := h
  · exact ⟨h1, h2, h3, .inl ⟨hx, by rw [hk _ (.inl rfl)]; exact h4, h5.keep fun k hg => hk k (.inr (.inl ⟨hx, hg⟩))⟩⟩
  · exact ⟨h1, h2, h3, .inr ⟨hx, by rw [hk _ (.inl rfl)]; exact h4, h5.keep fun k hg => hk k (.inr (.inr ⟨hx, hg⟩))⟩⟩
theorem RLvAt.ext {w' : World} (h : RLvAt w L C lv l) (he : Ext w w') : RLvAt w' L C lv l := h.keep fun k hk => he.block k (h.lt hk)
theorem RLvAt.mod {S : Nat → Prop} {w' : World} (h : RLvAt w L C lv l) (he : Mod S w w') (hn : ∀ k, L.foot C lv k → ¬ S k) : RLvAt w' L C lv l := h.keep fun k hk => he.block k (h.lt hk) (hn k hk)
theorem RLvAt.own (h : RLvAt w L C lv l) : Own (L.foot C lv) (fun w => RLvAt w L C lv l) w := ⟨h, fun w w' h hk => h.keep hk, fun k hk => h.lt hk⟩
end
/-- A stack of the references. -/
structure RKAt (w : World) (s t : Nat) (C : Cfg) (B : Nat) (L : Nat → RLev) (ls : Nat → List Int) : Prop where
  ex : ∃ cap, w.heap[s]? = some (.cells #[.int .i64 C.bits, .int .i64 C.rows, .int .i64 C.width, .int .i64 C.mode, .int .u64 C.seed, .slice (some ⟨t, 0, none⟩) (B + 1) cap] 48 (0, 0)) ∧ B + 1 ≤ cap
  row : ∃ cur, w.heap[t]? = some (.cells cur 45 (0, 0)) ∧ ∀ n, n ≤ B → cur[n]? = some (.pointer (some ⟨(L n).p, 0, none⟩))
  lev : ∀ n, n ≤ B → RLvAt w (L n) C n (ls n)
  sep : ∀ m n, m ≤ B → n ≤ B → m ≠ n → Dj ((L m).foot C m) ((L n).foot C n)
  ok : C.Ok
  hB : C.bits = B
def rkF (s t : Nat) (C : Cfg) (B : Nat) (L : Nat → RLev) (k : Nat) : Prop := k = s ∨ k = t ∨ ∃ n, n ≤ B ∧ (L n).foot C n k
section
variable {w : World} {s t : Nat} {C : Cfg} {B : Nat} {L : Nat → RLev} {ls : Nat → List Int}
theorem RKAt.lts (h : RKAt w s t C B L ls) : s < w.heap.size := by obtain ⟨cap, h1, _⟩ := h.ex; exact lt_of h1
theorem RKAt.ltt (h : RKAt w s t C B L ls) : t < w.heap.size := by obtain ⟨cap, h1, _⟩ := h.row; exact lt_of h1
theorem RKAt.lt (h : RKAt w s t C B L ls) {k : Nat} (hk : rkF s t C B L k) : k < w.heap.size := by
  rcases hk with rfl | rfl | ⟨n, hn, hk⟩
  · exact h.lts
  · exact h.ltt
  · exact (h.lev n hn).lt hk
theorem RKAt.keep {w' : World} (h : RKAt w s t C B L ls) (hk : ∀ k, rkF s t C B L k → w'.heap[k]? = w.heap[k]?) : RKAt w' s t C B L ls :=
  ⟨by rw [hk s (.inl rfl)]; exact h.ex, by rw [hk t (.inr (.inl rfl))]; exact h.row, fun n hn => (h.lev n hn).keep fun k hg => hk k (.inr (.inr ⟨n, hn, hg⟩)), h.sep, h.ok, h.hB⟩
theorem RKAt.ext {w' : World} (h : RKAt w s t C B L ls) (he : Ext w w') : RKAt w' s t C B L ls := h.keep fun k hk => he.block k (h.lt hk)
theorem RKAt.own (h : RKAt w s t C B L ls) : Own (rkF s t C B L) (fun w => RKAt w s t C B L ls) w := ⟨h, fun w w' h hk => h.keep hk, fun k hk => h.lt hk⟩
theorem RKAt.cell (h : RKAt w s t C B L ls) {n : Nat} (hn : n ≤ B) : w.cell? ⟨t, n, none⟩ = some (.pointer (some ⟨(L n).p, 0, none⟩)) := by
  obtain ⟨cur, h1, h2⟩ := h.row; rw [cell_of h1]; exact h2 n hn
end
end Go.Proofs.YtfhdjekpdifajaaGreat
namespace Go.Proofs.YtfhdjekpdifajaaGreat
set_option linter.unusedVariables false
open Go.RowKit
def uu (a : Int) : Int := a % 18446744073709551616
end Go.Proofs.YtfhdjekpdifajaaGreat
namespace Go.Proofs.YtfhdjekpdifajaaGreat
set_option linter.unusedVariables false
open Go.RowKit
/-- The carry of a sum. -/
def cr (x y : Int) (i : Nat) : Int := (x % (65536 ^ i : Int) + y % (65536 ^ i : Int)) / (65536 ^ i : Int)
end Go.Proofs.YtfhdjekpdifajaaGreat
namespace Go.Proofs.YtfhdjekpdifajaaGreat
set_option linter.unusedVariables false
open Go.RowKit
theorem fillA_put (f : Nat → Int) (m : Nat) (v : Int) (hm : m < 10) : (fillA f 10 10).setIfInBounds m (.int .i64 v) = fillA (fun j => if j = m then v else f j) 10 10 := by
  apply Array.ext
  · simp [fillA]
  · intro i h1 h2
    have hi : i < 10 := by simpa [fillA] using h1
    by_cases he : m = i
    · subst he; simp [fillA]
    · have he' : ¬ i = m := fun h => he h.symm
      simp [fillA, hi, he, he']
/-- A box of ten digits. -/
def LongAt (w : World) (b : Nat) (a : Nat → Int) : Prop := w.heap[b]? = some (.cells (fillA a 10 10) 237 (0, 0))
theorem LongAt.cell {w : World} {b : Nat} {a : Nat → Int} (h : LongAt w b a) {k : Nat} (hk : k < 10) : w.cell? ⟨b, k, none⟩ = some (.int .i64 (a k)) := by
  rw [cell_of h, fillA_at a 10 10 k hk, if_pos hk]
theorem LongAt.keep {w w' : World} {b : Nat} {a : Nat → Int} (h : LongAt w b a) (he : w'.heap[b]? = w.heap[b]?) : LongAt w' b a := he.trans h
theorem LongAt.put {w : World} {b : Nat} {f : Nat → Int} (h : LongAt w b f) {m : Nat} (hm : m < 10) (v : Int) : LongAt (w.setCell ⟨b, m, none⟩ (.int .i64 v)) b (fun j => if j = m then v else f j) := by
  unfold LongAt at *
  rw [setCell_same h m, fillA_put f m v hm]
end Go.Proofs.YtfhdjekpdifajaaGreat
namespace Go.Proofs.YtfhdjekpdifajaaGreat
set_option linter.unusedVariables false
open Go.RowKit
set_option maxRecDepth 20000 in
set_option maxHeartbeats 4000000 in
@[go_sem] theorem eqLong (a0 a1 a2 a3 a4 a5 a6 a7 a8 a9 b0 b1 b2 b3 b4 b5 b6 b7 b8 b9 : Int) (w : World) : (Op.equalIn 10000 237 (.agg #[.int .i64 a0, .int .i64 a1, .int .i64 a2, .int .i64 a3, .int .i64 a4, .int .i64 a5, .int .i64 a6, .int .i64 a7, .int .i64 a8, .int .i64 a9]) (.agg #[.int .i64 b0, .int .i64 b1, .int .i64 b2, .int .i64 b3, .int .i64 b4, .int .i64 b5, .int .i64 b6, .int .i64 b7, .int .i64 b8, .int .i64 b9])).run Tryz.prog w = .ok (a0 == b0 && (a1 == b1 && (a2 == b2 && (a3 == b3 && (a4 == b4 && (a5 == b5 && (a6 == b6 && (a7 == b7 && (a8 == b8 && a9 == b9))))))))) w := by
  have u3 := Tryz.underlying3
  have a3' := Tryz.isAgg3
  have z3 := Tryz.sizeOf3
  rw [show (10000 : Nat) = 9999 + 1 from rfl, Op.equalIn]
  simp only [Sem.run_bind, run_underlying Tryz.underlying237, Result.andThen_ok]
  simp only [Std.Legacy.Range.forIn_eq_forIn_range', Std.Legacy.Range.size, Nat.sub_zero, Nat.add_sub_cancel, Nat.div_one, List.range'_succ, List.range'_zero, List.forIn_cons, List.forIn_nil]
  go_simp
  by_cases h0 : a0 = b0
  · by_cases h1 : a1 = b1
    · by_cases h2 : a2 = b2
      · by_cases h3 : a3 = b3
        · by_cases h4 : a4 = b4
          · by_cases h5 : a5 = b5
            · by_cases h6 : a6 = b6
              · by_cases h7 : a7 = b7
                · by_cases h8 : a8 = b8
                  · by_cases h9 : a9 = b9 <;> simp [h0, h1, h2, h3, h4, h5, h6, h7, h8, h9]
                  · simp [h0, h1, h2, h3, h4, h5, h6, h7, h8]
                · simp [h0, h1, h2, h3, h4, h5, h6, h7]
              · simp [h0, h1, h2, h3, h4, h5, h6]
            · simp [h0, h1, h2, h3, h4, h5]
          · simp [h0, h1, h2, h3, h4]
        · simp [h0, h1, h2, h3]
      · simp [h0, h1, h2]
    · simp [h0, h1]
  · simp [h0]
end Go.Proofs.YtfhdjekpdifajaaGreat
namespace Go.Proofs.YtfhdjekpdifajaaGreat
set_option linter.unusedVariables false
open Go.RowKit
theorem IntsAt.sl {w : World} {v : Value} {xs : List Int} (h : IntsAt w v xs) : ∃ p c, v = .slice p xs.length c := by
  rcases h with ⟨rfl, rfl⟩ | ⟨g, off, cap, rfl, _⟩
  · exact ⟨none, 0, rfl⟩
  · exact ⟨_, _, rfl⟩
theorem IntsAt.one {w : World} {p : Option Addr} {n c : Nat} {xs : List Int} (h : IntsAt w (.slice p n c) xs) {k : Nat} (hk : k < xs.length) :
    ∃ g off, p = some ⟨g, off, none⟩ ∧ g < w.heap.size ∧ w.cell? ⟨g, off + k, none⟩ = some (.int .i64 (xs.getD k 0)) := by
  rcases h with ⟨_, rfl⟩ | ⟨g, off, cap, hv, hg, hc⟩
  · simp at hk
  · cases hv
    exact ⟨g, off, rfl, hg, hc k hk⟩
end Go.Proofs.YtfhdjekpdifajaaGreat
namespace Go.Proofs.YtfhdjekpdifajaaGreat
set_option linter.unusedVariables false
open Go.RowKit
/-- Numbers that a slice may read. -/
def Src (W : World) (p : Option Addr) (l : List Int) : Prop := l = [] ∨ ∃ g off, p = some ⟨g, off, none⟩ ∧ g < W.heap.size ∧ ∀ k, k < l.length → W.cell? ⟨g, off + k, none⟩ = some (.int .i64 (l.getD k 0))
theorem Src.ext {W W' : World} {p : Option Addr} {l : List Int} (h : Src W p l) (he : Ext W W') : Src W' p l := by
  rcases h with h | ⟨g, off, h1, h2, h3⟩
  · exact .inl h
  · exact .inr ⟨g, off, h1, Nat.lt_of_lt_of_le h2 he.size, fun k hk => ((bcell he).1 _ _ h2).trans (h3 k hk)⟩
section
variable {P : Program}
end
end Go.Proofs.YtfhdjekpdifajaaGreat
namespace Go.Proofs.YtfhdjekpdifajaaGreat
set_option linter.unusedVariables false
open Go.RowKit
/-- A row of numbers in order, of the call's own. -/
structure SortAt (w W : World) (v : Value) (l s : List Int) : Prop where
  row : W.ownsRow w.heap.size 2 1 v s.length (ints s)
  sl : ∃ g cap, v = .slice (some ⟨g, 0, none⟩) s.length cap
  perm : s.Perm l
  ord : s.Pairwise (· ≤ ·)
theorem SortAt.ext {w W W' : World} {v : Value} {l s : List Int} (h : SortAt w W v l s) (he : Ext W W') : SortAt w W' v l s := ⟨own_ext h.row he, h.sl, h.perm, h.ord⟩
end Go.Proofs.YtfhdjekpdifajaaGreat
namespace Go.Proofs.YtfhdjekpdifajaaGreat
set_option linter.unusedVariables false
open Go.RowKit
theorem Mod.drewR {S : Nat → Prop} {a b : World} (h : Mod S a b) : Mod S a b.drew := h.trans (Ext.mod S (Below.drew (Ext.refl b)))
end Go.Proofs.YtfhdjekpdifajaaGreat
namespace Go.Proofs.YtfhdjekpdifajaaGreat
set_option linter.unusedVariables false
open Go.RowKit
theorem RGAt.cong {w : World} {G : Gr} {R W : Nat} {m m' : List Int} (h : RGAt w G R W m) (hl : m'.length = R * W) (he : ∀ r k, r < R → k < W → m'.getD (r * W + k) 0 = m.getD (r * W + k) 0) : RGAt w G R W m' :=
  ⟨h.ex, h.row, fun r hr => by obtain ⟨cur, h1, h2⟩ := h.cells r hr; exact ⟨cur, h1, fun k hk => by rw [h2 k hk, he r k hr hk]⟩, h.capc, h.sep, hl, h.r1, h.r2, h.w1, h.w2⟩
def Gr.put (G : Gr) (r z cap : Nat) : Gr := ⟨G.g, G.m, fun q => if q = r then z else G.r q, fun q => if q = r then cap else G.c q⟩
end Go.Proofs.YtfhdjekpdifajaaGreat
namespace Go.Proofs.YtfhdjekpdifajaaGreat
set_option linter.unusedVariables false
open Go.RowKit
def rp (L : Nat → RLev) (k : Nat) : List Value := (List.range k).map fun n => Value.pointer (some ⟨(L n).p, 0, none⟩)
theorem rp_len (L : Nat → RLev) (k : Nat) : (rp L k).length = k := by simp [rp]
theorem rp_succ (L : Nat → RLev) (k : Nat) : rp L (k + 1) = rp L k ++ [Value.pointer (some ⟨(L k).p, 0, none⟩)] := by unfold rp; rw [List.range_succ, List.map_append]; rfl
theorem rp_cong {L L' : Nat → RLev} {k : Nat} (h : ∀ n, n < k → L n = L' n) : rp L k = rp L' k := by
  unfold rp
  apply List.map_congr_left
  intro n hn
  rw [List.mem_range] at hn
  rw [h n hn]
theorem rp_get (L : Nat → RLev) {k n : Nat} (h : n < k) : (rp L k)[n]? = some (Value.pointer (some ⟨(L n).p, 0, none⟩)) := by unfold rp; rw [List.getElem?_map, List.getElem?_range h]; rfl
/-- A level's blocks are no row of levels, nor a stack. -/
theorem RLvAt.ty {w : World} {L : RLev} {C : Cfg} {lv : Int} {l : List Int} (h : RLvAt w L C lv l) {k : Nat} (hk : L.foot C lv k) {cur : Array Value} {T : TypeId} {f : Nat × Nat} (hb : w.heap[k]? = some (.cells cur T f)) : T ≠ 45 ∧ T ≠ 48 := by
  have key : ∀ (c2 : Array Value) (T2 : TypeId) (f2 : Nat × Nat), w.heap[k]? = some (.cells c2 T2 f2) → T2 ≠ 45 → T2 ≠ 48 → T ≠ 45 ∧ T ≠ 48 := fun c2 T2 f2 h2 n1 n2 => by
    rw [hb] at h2
    injection h2 with h2
    injection h2 with _ h2 _
    rw [h2]; exact ⟨n1, n2⟩
  rcases hk with rfl | ⟨hx, hk⟩ | ⟨hx, hk⟩
  · obtain ⟨_, _, _, ⟨_, h1, _⟩ | ⟨_, h1, _⟩⟩ := h <;> exact key _ _ _ h1 (by decide) (by decide)
  · obtain ⟨_, h2⟩ := h.x hx
    rcases hk with rfl | rfl
    · obtain ⟨cap, h3, _⟩ := h2.ex; exact key _ _ _ h3 (by decide) (by decide)
    · obtain ⟨cu, h3, _⟩ := h2.cells; exact key _ _ _ h3 (by decide) (by decide)
  · obtain ⟨_, h2⟩ := h.sk hx
    rcases hk with rfl | (rfl | rfl | ⟨r, hr, rfl⟩)
    · exact key _ _ _ h2.ex (by decide) (by decide)
    · obtain ⟨cap, h3, _⟩ := h2.g.ex; exact key _ _ _ h3 (by decide) (by decide)
    · obtain ⟨cap, h3, _⟩ := h2.g.row; exact key _ _ _ h3 (by decide) (by decide)
    · obtain ⟨cap, h3, _⟩ := h2.g.cells r hr; exact key _ _ _ h3 (by decide) (by decide)
/-- Some levels that have been made. -/
structure RMade (w : World) (B0 : Nat) (C : Cfg) (k : Nat) (L : Nat → RLev) (ls : Nat → List Int) (v : Value) : Prop where
  row : w.ownsRow B0 45 1 v (rp L k).length (rp L k)
  lev : ∀ n, n < k → RLvAt w (L n) C n (ls n)
  new : ∀ n, n < k → ∀ j, (L n).foot C n j → B0 ≤ j
  sep : ∀ m n, m < k → n < k → m ≠ n → Dj ((L m).foot C m) ((L n).foot C n)
theorem RMade.zero (w : World) (B0 : Nat) (C : Cfg) (L : Nat → RLev) (ls : Nat → List Int) : RMade w B0 C 0 L ls (.slice none 0 0) :=
  ⟨⟨rfl, .inl ⟨rfl, rfl⟩⟩, by intros; omega, by intros; omega, by intros; omega⟩
theorem RMade.ext {w w' : World} {B0 k : Nat} {C : Cfg} {L : Nat → RLev} {ls : Nat → List Int} {v : Value} (h : RMade w B0 C k L ls v) (he : Ext w w') : RMade w' B0 C k L ls v :=
  ⟨own_ext h.row he, fun n hn => (h.lev n hn).ext he, h.new, h.sep⟩
theorem RMade.setc {w : World} {B0 k : Nat} {C : Cfg} {L : Nat → RLev} {ls : Nat → List Int} {v : Value} (h : RMade w B0 C k L ls v) {b : Nat} (hb : b < B0) (o : Nat) (u : Value) : RMade (w.setCell ⟨b, o, none⟩ u) B0 C k L ls v :=
  ⟨own_setc h.row hb o u, fun n hn => (h.lev n hn).keep (fun j hj => setCell_other _ _ (by have := h.new n hn j hj; omega)), h.new, h.sep⟩
/-- One more. -/
theorem RMade.next {w0 w w' : World} {B0 k : Nat} {C : Cfg} {L : Nat → RLev} {ls : Nat → List Int} {v v' : Value} {M : RLev} {l : List Int} {o : Obj} (h : RMade w0 B0 C k L ls v) (he : Ext w0 w) (hB : B0 ≤ w0.heap.size) (hM : RLvAt w M C k l) (hN : ∀ j, M.foot C k j → w0.heap.size ≤ j) (hl : l = ls k)
    (hown : w'.ownsRow B0 45 1 v' (rp L k ++ [Value.pointer (some ⟨M.p, 0, none⟩)]).length (rp L k ++ [Value.pointer (some ⟨M.p, 0, none⟩)])) (hg : (w.alloc o).grownBy w' v.ownBlock) : RMade w' B0 C (k + 1) (fun n => if n = k then M else L n) ls v' := by
  subst hl
  have hw := h.ext he
  have hkeep : ∀ {n : Nat} {K : RLev} {l : List Int}, RLvAt w K C n l → RLvAt w' K C n l := fun {n K l} hK => hK.keep (fun j hj => grown_old hg (hK.lt hj) (fun e => by
    obtain ⟨cu, hc⟩ := own_type hw.row e.symm
    exact (hK.ty hj hc).1 rfl))
  refine ⟨?_, fun n hn => ?_, fun n hn j hj => ?_, fun m n hm hn hmn => ?_⟩
  · rw [rp_succ, if_pos rfl, rp_cong (L' := L) (fun i hi => if_neg (by omega))]
    exact hown
  · by_cases e : n = k
    · subst e; rw [if_pos rfl]; exact hkeep hM
    · rw [if_neg e]; exact hkeep (hw.lev n (by omega))
  · by_cases e : n = k
    · subst e; rw [if_pos rfl] at hj; exact Nat.le_trans hB (hN j hj)
    · rw [if_neg e] at hj; exact h.new n (by omega) j hj
  · by_cases e : m = k
    · subst e
      rw [if_pos rfl, if_neg (by omega)]
      intro j h1 h2
      have a := hN j h1
      have b := (h.lev n (by omega)).lt h2
      omega
    · rw [if_neg e]
      by_cases e' : n = k
      · subst e'
        rw [if_pos rfl]
        intro j h1 h2
        have a := hN j h2
        have b := (h.lev m (by omega)).lt h1
        omega
      · rw [if_neg e']; exact h.sep m n (by omega) (by omega) hmn
/-- All levels, and the stack's own block: a stack. -/
theorem RMade.stack {w : World} {s B0 B : Nat} {C : Cfg} {L : Nat → RLev} {ls : Nat → List Int} {v : Value} (h : RMade w B0 C (B + 1) L ls v) (hok : C.Ok) (hB : C.bits = B) (hs : w.heap[s]? = some (.cells #[.int .i64 C.bits, .int .i64 C.rows, .int .i64 C.width, .int .i64 C.mode, .int .u64 C.seed, v] 48 (0, 0))) :
    ∃ t, B0 ≤ t ∧ RKAt w s t C B L ls := by
  have hl := rp_len L (B + 1)
  rcases h.row.2 with ⟨_, h0⟩ | ⟨g, cap, cur, rfl, hbg, hg, hnc, hcm, hcs, htake⟩
  · rw [hl] at h0; omega
  · rw [hl] at hs hnc
    refine ⟨g, hbg, ⟨⟨cap, hs, hnc⟩, ⟨cur, hg, fun n hn => ?_⟩, fun n hn => h.lev n (by omega), fun m n hm hn => h.sep m n (by omega) (by omega), hok, hB⟩⟩
    have h1 := h.row.cells (g := g) rfl n _ (rp_get L (show n < B + 1 by omega))
    rw [show ((⟨g, 0, none⟩ : Addr).add n) = ⟨g, n, none⟩ by (simp [Addr.add]; intro e; exact e.symm), cell_of hg] at h1
    exact h1
def RKNewPost (w : World) (C : Cfg) (B : Nat) (ls : Nat → List Int) (e : Ending) (w' : World) : Prop :=
  ∃ (s t : Nat) (L : Nat → RLev), e = .returned (.pointer (some ⟨s, 0, none⟩)) ∧ RKAt w' s t C B L ls ∧ (∀ k, rkF s t C B L k → w.heap.size ≤ k) ∧ Ext w w'
theorem RMade.post {w wr : World} {s B0 B : Nat} {C : Cfg} {L : Nat → RLev} {ls : Nat → List Int} {v : Value} (h : RMade wr B0 C (B + 1) L ls v) (hok : C.Ok) (hB : C.bits = B) (hs : wr.heap[s]? = some (.cells #[.int .i64 C.bits, .int .i64 C.rows, .int .i64 C.width, .int .i64 C.mode, .int .u64 C.seed, v] 48 (0, 0))) (hsw : w.heap.size ≤ s) (hB0 : w.heap.size ≤ B0) (hE : Ext w wr) :
    RKNewPost w C B ls (.returned (.pointer (some ⟨s, 0, none⟩))) wr := by
  obtain ⟨t, ht, hK⟩ := h.stack hok hB hs
  refine ⟨s, t, L, rfl, hK, ?_, hE⟩
  rintro k (rfl | rfl | ⟨n, hn, hk⟩)
  · exact hsw
  · omega
  · exact Nat.le_trans hB0 (h.new n (by omega) k hk)
end Go.Proofs.YtfhdjekpdifajaaGreat
namespace Go.Proofs.YtfhdjekpdifajaaGreat
set_option linter.unusedVariables false
open Go.RowKit
/-- A stack in which some levels have been told of an update. -/
theorem RKAt.put {w w' : World} {s t : Nat} {C : Cfg} {B : Nat} {L : Nat → RLev} {ls : Nat → List Int} (h : RKAt w s t C B L ls) {n : Nat} (hn : n ≤ B) {l : List Int} (hm : Mod ((L n).foot C n) w w') (hl : RLvAt w' (L n) C n l) : RKAt w' s t C B L (fun m => if m = n then l else ls m) := by
  have ty : ∀ {k : Nat} {cur : Array Value} {T : TypeId} {f : Nat × Nat}, w.heap[k]? = some (.cells cur T f) → (T = 45 ∨ T = 48) → ¬ (L n).foot C n k := fun hb hT hf => by
    have := (h.lev n hn).ty hf hb
    rcases hT with rfl | rfl
    · exact this.1 rfl
    · exact this.2 rfl
  obtain ⟨cap, h1, h2⟩ := h.ex
  obtain ⟨cur, h3, h4⟩ := h.row
  refine ⟨⟨cap, hm.keep h1 (ty h1 (.inr rfl)), h2⟩, ⟨cur, hm.keep h3 (ty h3 (.inl rfl)), h4⟩, fun m hm' => ?_, h.sep, h.ok, h.hB⟩
  by_cases e : m = n
  · subst e; rw [if_pos rfl]; exact hl
  · rw [if_neg e]; exact (h.lev m hm').mod hm (fun k hk hf => h.sep m n hm' hn e k hk hf)
theorem RKAt.cong {w : World} {s t : Nat} {C : Cfg} {B : Nat} {L : Nat → RLev} {ls ls' : Nat → List Int} (h : RKAt w s t C B L ls) (he : ∀ n, n ≤ B → ls n = ls' n) : RKAt w s t C B L ls' :=
  ⟨h.ex, h.row, fun n hn => he n hn ▸ h.lev n hn, h.sep, h.ok, h.hB⟩
end Go.Proofs.YtfhdjekpdifajaaGreat
namespace Go.Proofs.YtfhdjekpdifajaaGreat
set_option linter.unusedVariables false
open Go.RowKit
attribute [local go_sem] Oper.semAt_some
/-- A slice of pieces that lies below a block. -/
def PcsAt (n₀ : Nat) (W : World) (v : Value) (ps : List (Nat × Int)) : Prop :=
  (v = .slice none 0 0 ∧ ps = []) ∨ ∃ g cap, v = .slice (some ⟨g, 0, none⟩) ps.length cap ∧ g < n₀ ∧ PCells W g 0 ps
theorem PcsAt.below {n₀ : Nat} {A B : World} {v : Value} {ps : List (Nat × Int)} (h : PcsAt n₀ A v ps) (hb : Below n₀ A B) : PcsAt n₀ B v ps := by
  rcases h with h | ⟨g, cap, h1, h2, h3⟩
  · exact .inl h
  · exact .inr ⟨g, cap, h1, h2, fun k hk => ⟨(hb.cell (p := ⟨g, _, none⟩) h2).trans (h3 k hk).1, (hb.cell (p := ⟨g, _, none⟩) h2).trans (h3 k hk).2⟩⟩
theorem PcsAt.of_own {w : World} {base n₀ : Nat} {e : TypeId} {v : Value} {ps : List (Nat × Int)} (h : w.ownsRow base e 2 v ps.length (pcV ps)) (hn : w.heap.size ≤ n₀) : PcsAt n₀ w v ps := by
  rcases h.2 with ⟨h1, h2⟩ | ⟨g, cap, cur, rfl, _, hh, hc, _, hs, ht⟩
  · exact .inl ⟨h1, List.length_eq_zero_iff.1 h2⟩
  · refine .inr ⟨g, cap, rfl, Nat.lt_of_lt_of_le (lt_of hh) hn, fun k hk => ?_⟩
    obtain ⟨a1, a2⟩ := pcV_at hk
    rw [← ht] at a1 a2
    rw [List.getElem?_take_of_lt (by omega)] at a1 a2
    simp only [Array.getElem?_toList] at a1 a2
    rw [cell_of hh, cell_of hh, Nat.zero_add]
    exact ⟨a1, a2⟩
def pcEnc (ps : List (Nat × Int)) (x : {p : Nat × Int // p ∈ ps}) : Array Value := #[.agg #[.int .i64 (x.1.1 : Int), .int .u64 x.1.2]]
theorem getD_in {ps : List (Nat × Int)} {k : Nat} (h : k < ps.length) : ps.getD k (0, 0) ∈ ps := by simp [h]
set_option maxRecDepth 100000 in
set_option maxHeartbeats 2000000 in
theorem values1_in (n l Bs n₀ g cap : Nat) (ps : List (Nat × Int)) (hg : g < n₀) (hl : ps.length ≤ 1000000) (J Jx : List {p : Nat × Int // p ∈ ps} → World → Prop)
    (W : World) (hW : n₀ ≤ W.heap.size) (hJ : AbidesFrom W.heap.size J)
    (hY : ∀ pre x W, J pre W → pre.length < ps.length → YieldAt Fence.wide (n - 1) Tryz.prog l (pcEnc ps x) W fun e W' =>
      (e = .returned (.bool true) ∧ J (pre ++ [x]) W' ∧ Below n₀ W W') ∨ (e = .returned (.bool false) ∧ Jx (pre ++ [x]) W'))
    (hBs : W.cell? ⟨Bs, 0, none⟩ = some (.slice (some ⟨g, 0, none⟩) ps.length cap)) (hc : PCells W g 0 ps) (h0 : J [] W) :
    CallsIn Fence.wide n Tryz.prog 216 #[.func (.yield l) #[] #[], .pointer (some ⟨Bs, 0, none⟩)] W fun e W' => (∃ v, e = .returned v) ∧
      ((∃ ys, ys.map (fun x : {p : Nat × Int // p ∈ ps} => x.1) = ps ∧ J ys W') ∨ (∃ pre, True ∧ Jx pre W')) := by
  refine callsIn_of_wp Tryz.func216 rfl trivial ?_ rfl
  simp only [Tryz.ntmps216, List.size_toArray, List.length_cons, List.length_nil, Nat.reduceAdd, Nat.reduceSub, Array.replicate_succ, Array.replicate_zero, List.push_toArray, List.append_toArray, List.nil_append, List.cons_append]
  gi_wp2
  generalize hn : ps.length = m at *
  have HN := Lib.hid hn
  clear hn
  gi_loopw [7] (fun i wr => ∃ (k : Nat) (pre : List {p : Nat × Int // p ∈ ps}), k ≤ m ∧ i = .int .i64 k ∧ pre.map (fun x : {p : Nat × Int // p ∈ ps} => x.1) = ps.take k ∧ J pre wr ∧ Below n₀ W wr)
    (fun i _ => m - (intOf i).toNat)
  case atStart => exact ⟨0, [], Nat.zero_le _, rfl, rfl, h0, Below.refl _ _⟩
  case round =>
    obtain ⟨k, pre, hk, rfl, hpre, hJs, hnx⟩ := hrel
    have hlen : pre.length = k := by
      have := congrArg List.length hpre
      rw [List.length_map, List.length_take, HN.out] at this
      omega
    by_cases hlt : k < m
    · have hkp : k < ps.length := by rw [HN.out]; exact hlt
      have hgw : g < wr.heap.size := by have := hnx.size; omega
      obtain ⟨d0, d1⟩ := hc k hkp
      rw [Nat.zero_add] at d0 d1
      have c0 := (hnx.cell (p := ⟨g, k * 2, none⟩) hg).trans d0
      have c1 := (hnx.cell (p := ⟨g, k * 2 + 1, none⟩) hg).trans d1
      have hmem := getD_in hkp
      have htk : ps.take (k + 1) = ps.take k ++ [ps.getD k (0, 0)] := by
        rw [List.take_succ_eq_append_getElem hkp]; simp [hkp]
      generalize ps.getD k (0, 0) = p at *
      obtain ⟨p1, p2⟩ := p
      dsimp only at c0 c1 d0 d1
      have hJn : J pre (wr.alloc (.cells #[.int .i64 (p1 : Int), .int .u64 p2] 39)) := hJ pre wr _ none hJs (World.grownBy_alloc wr _ none) (fun r e => by cases e)
      obtain ⟨fn, tmps, assign, body, hy, hR⟩ := hY pre ⟨(p1, p2), hmem⟩ _ hJn (by omega)
      have hbel : Below n₀ W (wr.alloc (.cells #[.int .i64 (p1 : Int), .int .u64 p2] 39)) := hnx.alloc (by have := hnx.size; omega) _
      dsimp only [pcEnc] at hy
      gi_wp2
      refine ⟨fun h => (by cases h), hR.mono ?_⟩
      rintro e W3 (⟨rfl, hJ3, hk3⟩ | ⟨rfl, hJx3⟩)
      · gi_wp2
        go_roundw
        case rel => exact ⟨k + 1, pre ++ [⟨(p1, p2), hmem⟩], by omega, by simp, by rw [List.map_append, hpre, htk]; rfl, hJ3, hbel.trans hk3⟩
        case measure => simp [intOf]; omega
      · gi_wp2
        refine bodyPost_ret (results_none rfl _ _ _) rfl ?_
        exact ⟨⟨_, rfl⟩, .inr ⟨_, trivial, hJx3⟩⟩
    · obtain rfl : k = m := by omega
      gi_wp2
      go_end0
      exact ⟨⟨_, rfl⟩, .inl ⟨pre, by rw [hpre, ← HN.out, List.take_length], hJs⟩⟩
set_option maxRecDepth 100000 in
set_option maxHeartbeats 1000000 in
theorem values1_nil (n l Bs : Nat) (J : List {p : Nat × Int // p ∈ ([] : List (Nat × Int))} → World → Prop) (W : World) (hBs : W.cell? ⟨Bs, 0, none⟩ = some (.slice none 0 0)) (h0 : J [] W) :
    CallsIn Fence.wide n Tryz.prog 216 #[.func (.yield l) #[] #[], .pointer (some ⟨Bs, 0, none⟩)] W fun e W' => (∃ v, e = .returned v) ∧ J [] W' := by
  refine callsIn_of_wp Tryz.func216 rfl trivial ?_ rfl
  simp only [Tryz.ntmps216, List.size_toArray, List.length_cons, List.length_nil, Nat.reduceAdd, Nat.reduceSub, Array.replicate_succ, Array.replicate_zero, List.push_toArray, List.append_toArray, List.nil_append, List.cons_append]
  gi_wp2
  gi_loopw [7] (fun i wr => i = .int .i64 0 ∧ J [] wr) (fun _ _ => 0)
  case atStart => exact ⟨rfl, h0⟩
  case round =>
    obtain ⟨rfl, hJs⟩ := hrel
    gi_wp2
    go_end0
    exact ⟨⟨_, rfl⟩, hJs⟩
theorem Values_c (p : Option Addr) (n c : Nat) (w : World) :
    Calls Tryz.prog 188 #[.slice p n c] w fun e w' => e = .returned (.func (.func 216) #[] #[.pointer (some ⟨w.heap.size, 0, none⟩)]) ∧
      w' = w.alloc (.cells #[.slice p n c] 165) := by
  have hmf : ∀ (fn : Fn) (first cap : Array Value) (w : World), (Instr.makeFunc fn first cap).run Tryz.prog w = .ok (.func fn first cap) w := fun _ _ _ _ => rfl
  go_enter Tryz.func188, Tryz.ntmps188
  go_wp2
  go_ret
  exact ⟨rfl, rfl⟩
theorem values_stops (n Bs n₀ : Nat) (sv : Value) (ps : List (Nat × Int)) (hl : ps.length ≤ 1000000) (w : World) (hBs : Bs < w.heap.size) (hn₀ : n₀ ≤ w.heap.size)
    (hc : w.cell? ⟨Bs, 0, none⟩ = some sv) (hI : PcsAt n₀ w sv ps) :
    SeqStopsK Fence.wide n Tryz.prog 216 #[.pointer (some ⟨Bs, 0, none⟩)] (pcEnc ps) (Below n₀) (fun ys => ys.map (fun x : {p : Nat × Int // p ∈ ps} => x.1) = ps) (fun _ => True) ps.length w := by
  intro l J Jx W hW hJ hJx hY h0
  have hc' := (hW.cell (p := ⟨Bs, 0, none⟩) hBs).trans hc
  have hsz := hW.size
  rcases hI.below (hW.mono hn₀) with ⟨rfl, hp⟩ | ⟨g, cap, rfl, hg, hcs⟩
  · subst hp
    exact (values1_nil n l Bs J W hc' h0).mono fun e W' ⟨he, hj⟩ => ⟨he, .inl ⟨[], rfl, hj⟩⟩
  · exact values1_in n l Bs n₀ g cap ps hg hl J Jx W (by omega) hJ hY hc' hcs h0
end Go.Proofs.YtfhdjekpdifajaaGreat
