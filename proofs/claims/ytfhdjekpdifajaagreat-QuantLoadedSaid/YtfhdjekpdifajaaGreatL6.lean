/- Part. No condition. -/
import Derived.Test.YtfhdjekpdifajaaGreatL4
import Derived.Test.YtfhdjekpdifajaaGreatL5
import Derived.Test.YtfhdjekpdifajaaGreatL3

/- slices.Reverse of pieces, walked. -/
namespace Go.Proofs.YtfhdjekpdifajaaGreat
set_option linter.unusedVariables false
open Go.RowKit
/-- Element m of a row whose first and last k have changed places. -/
def rvF (ps : List (Nat × Int)) (k m : Nat) : Nat × Int := if m < k ∨ ps.length ≤ m + k then ps.getD (ps.length - 1 - m) (0, 0) else ps.getD m (0, 0)
theorem rvF_zero (ps : List (Nat × Int)) {m : Nat} (h : m < ps.length) : rvF ps 0 m = ps.getD m (0, 0) := by
  unfold rvF; rw [if_neg (by omega)]
theorem rvF_end (ps : List (Nat × Int)) {k m : Nat} (h : m < ps.length) (hk : ps.length ≤ 2 * k + 1) : rvF ps k m = ps.reverse.getD m (0, 0) := by
  have e : ps.reverse.getD m (0, 0) = ps.getD (ps.length - 1 - m) (0, 0) := by
    rw [List.getD_eq_getElem?_getD, List.getD_eq_getElem?_getD, List.getElem?_reverse h]
  rw [e]
  unfold rvF
  by_cases hc : m < k ∨ ps.length ≤ m + k
  · rw [if_pos hc]
  · rw [if_neg hc]
    congr 1
    omega
def CellsF (cur : Array Value) (n : Nat) (f : Nat → Nat × Int) : Prop := ∀ m, m < n → cur[m * 2]? = some (.int .i64 ((f m).1 : Int)) ∧ cur[m * 2 + 1]? = some (.int .u64 (f m).2)
theorem cellsF_swap {cur : Array Value} {ps : List (Nat × Int)} {k j : Nat} (hc : CellsF cur ps.length (rvF ps k)) (hs : ps.length * 2 ≤ cur.size) (hkj : k < j) (hj : j + k + 1 = ps.length) :
    CellsF ((((cur.setIfInBounds (k * 2) (.int .i64 ((rvF ps k j).1 : Int))).setIfInBounds (k * 2 + 1) (.int .u64 (rvF ps k j).2)).setIfInBounds (j * 2) (.int .i64 ((rvF ps k k).1 : Int))).setIfInBounds (j * 2 + 1) (.int .u64 (rvF ps k k).2)) ps.length (rvF ps (k + 1)) := by
  intro m hm
  have e1 : rvF ps k j = ps.getD j (0, 0) := by unfold rvF; rw [if_neg (by omega)]
  have e2 : rvF ps k k = ps.getD k (0, 0) := by unfold rvF; rw [if_neg (by omega)]
  rw [e1, e2]
  obtain ⟨a1, a2⟩ := hc m hm
  by_cases hmk : m = k
  · subst hmk
    have e : rvF ps (m + 1) m = ps.getD j (0, 0) := by unfold rvF; rw [if_pos (by omega)]; congr 1; omega
    rw [e]
    constructor
    · rw [Array.getElem?_setIfInBounds_ne (by omega), Array.getElem?_setIfInBounds_ne (by omega), Array.getElem?_setIfInBounds_ne (by omega), Array.getElem?_setIfInBounds_self_of_lt (by omega)]
    · rw [Array.getElem?_setIfInBounds_ne (by omega), Array.getElem?_setIfInBounds_ne (by omega), Array.getElem?_setIfInBounds_self_of_lt (by rw [Array.size_setIfInBounds]; omega)]
  · by_cases hmj : m = j
    · subst hmj
      have e : rvF ps (k + 1) m = ps.getD k (0, 0) := by unfold rvF; rw [if_pos (by omega)]; congr 1; omega
      rw [e]
      constructor
      · rw [Array.getElem?_setIfInBounds_ne (by omega), Array.getElem?_setIfInBounds_self_of_lt (by simp only [Array.size_setIfInBounds]; omega)]
      · rw [Array.getElem?_setIfInBounds_self_of_lt (by simp only [Array.size_setIfInBounds]; omega)]
    · have e : rvF ps (k + 1) m = rvF ps k m := by
        unfold rvF
        by_cases hc : m < k ∨ ps.length ≤ m + k
        · rw [if_pos hc, if_pos (by omega)]
        · rw [if_neg hc, if_neg (by omega)]
      rw [e]
      constructor
      · rw [Array.getElem?_setIfInBounds_ne (by omega), Array.getElem?_setIfInBounds_ne (by omega), Array.getElem?_setIfInBounds_ne (by omega), Array.getElem?_setIfInBounds_ne (by omega)]; exact a1
      · rw [Array.getElem?_setIfInBounds_ne (by omega), Array.getElem?_setIfInBounds_ne (by omega), Array.getElem?_setIfInBounds_ne (by omega), Array.getElem?_setIfInBounds_ne (by omega)]; exact a2
theorem cellsF_take {cur : Array Value} {n : Nat} {f : Nat → Nat × Int} {ps : List (Nat × Int)} (hc : CellsF cur n f) (hl : ps.length = n) (hf : ∀ m, m < n → f m = ps.getD m (0, 0)) : cur.toList.take (n * 2) = pcV ps := by
  subst hl
  apply List.ext_getElem?
  intro i
  by_cases hi : i < ps.length * 2
  · rw [List.getElem?_take_of_lt hi, Array.getElem?_toList]
    obtain ⟨b1, b2⟩ := hc (i / 2) (by omega)
    obtain ⟨a1, a2⟩ := pcV_at (ps := ps) (k := i / 2) (by omega)
    rw [hf (i / 2) (by omega)] at b1 b2
    by_cases he : i % 2 = 0
    · rw [show i = i / 2 * 2 by omega, b1, a1]
    · rw [show i = i / 2 * 2 + 1 by omega, b2, a2]
  · rw [List.getElem?_eq_none (by rw [List.length_take]; omega), List.getElem?_eq_none (by rw [pcV_len]; omega)]
theorem cellsF_of {cur : Array Value} {ps : List (Nat × Int)} (h : cur.toList.take (ps.length * 2) = pcV ps) : CellsF cur ps.length (rvF ps 0) := by
  intro m hm
  obtain ⟨a1, a2⟩ := pcV_at hm
  rw [← h] at a1 a2
  rw [List.getElem?_take_of_lt (by omega)] at a1 a2
  simp only [Array.getElem?_toList] at a1 a2
  rw [rvF_zero _ hm]
  exact ⟨a1, a2⟩
/-- The world in which a row is being turned round. -/
def RvAt (w : World) (g : Nat) (ps : List (Nat × Int)) (cs k : Nat) (W : World) : Prop :=
  (∃ cur, W.heap[g]? = some (.cells cur 39 (0, 0)) ∧ cur.size = cs ∧ CellsF cur ps.length (rvF ps k)) ∧ Mod (fun b => b = g) w W
theorem rv_next {w W : World} {g : Nat} {ps : List (Nat × Int)} {cs k j : Nat} (h : RvAt w g ps cs k W) (hs : ps.length * 2 ≤ cs) (hkj : k < j) (hj : j + k + 1 = ps.length) {a c : Nat × Int} (ha : rvF ps k j = a) (hc : rvF ps k k = c) :
    RvAt w g ps cs (k + 1) ((((W.setCell ⟨g, k * 2, none⟩ (.int .i64 (a.1 : Int))).setCell ⟨g, k * 2 + 1, none⟩ (.int .u64 a.2)).setCell ⟨g, j * 2, none⟩ (.int .i64 (c.1 : Int))).setCell ⟨g, j * 2 + 1, none⟩ (.int .u64 c.2)).drew := by
  subst ha hc
  obtain ⟨⟨cur, h1, h2, h3⟩, hm⟩ := h
  have q := setCell_same (setCell_same (setCell_same (setCell_same h1 (k * 2) (.int .i64 ((rvF ps k j).1 : Int))) (k * 2 + 1) (.int .u64 (rvF ps k j).2)) (j * 2) (.int .i64 ((rvF ps k k).1 : Int))) (j * 2 + 1) (.int .u64 (rvF ps k k).2)
  refine ⟨⟨_, q, by simp only [Array.size_setIfInBounds]; exact h2, cellsF_swap h3 (by omega) hkj hj⟩, ?_⟩
  exact ((((hm.trans (mod_set _ _ _ _)).trans (mod_set _ _ _ _)).trans (mod_set _ _ _ _)).trans (mod_set _ _ _ _)).trans ((Ext.refl _).drewR.mod _)
def RevPost (w : World) (v : Value) (base : Nat) (ps : List (Nat × Int)) (e : Ending) (w' : World) : Prop :=
  e = .returned (.tuple #[]) ∧ w'.ownsRow base 39 2 v ps.length (pcV ps.reverse) ∧ Mod (fun k => v.ownBlock = some k) w w'
set_option maxRecDepth 20000 in
set_option maxHeartbeats 4000000 in
theorem Reverse_c (ps : List (Nat × Int)) (v : Value) (base : Nat) (w : World) (h : w.ownsRow base 39 2 v ps.length (pcV ps)) (hl : ps.length ≤ 1000000) :
    Calls Tryz.prog 215 #[v] w (RevPost w v base ps) := by
  rcases h.2 with ⟨rfl, h0⟩ | ⟨g, cap, cur, rfl, hb, hh, hnc, hcm, hcs, htk⟩
  · have e : ps = [] := List.length_eq_zero_iff.1 h0
    subst e
    have h' := h
    clear h h0
    go_enter Tryz.func215, Tryz.ntmps215
    go_wp2
    go_loopw [2, 3] (fun i j wr => i = .int .i64 0 ∧ j = .int .i64 (-1) ∧ wr = w) (fun _ _ _ => 0)
    case atStart => exact ⟨rfl, rfl, rfl⟩
    case round =>
      obtain ⟨rfl, rfl, rfl⟩ := hrel
      go_wp2
      go_end0
      exact ⟨rfl, h', Mod.refl _ _⟩
  · have hr0 : RvAt w g ps (cap * 2) 0 w := ⟨⟨cur, hh, hcs, cellsF_of htk⟩, Mod.refl _ _⟩
    have HR0 := Lib.hid hr0
    have hcap := hcm
    unfold maxLen at hcap
    clear h hr0 htk hh hcs
    generalize hn : ps.length = n at *
    have HN := Lib.hid hn
    clear hn
    go_enter Tryz.func215, Tryz.ntmps215
    go_wp2
    go_loopw [2, 3] (fun i j wr => ∃ (k : Nat) (z : Int), z + k + 1 = n ∧ 2 * k ≤ n ∧ i = .int .i64 k ∧ j = .int .i64 z ∧ RvAt w g ps (cap * 2) k wr) (fun i _ _ => n - (intOf i).toNat)
    case atStart => exact ⟨0, (n : Int) - 1, by omega, by omega, rfl, rfl, HR0.out⟩
    case round =>
      obtain ⟨k, z, hz, hk2, rfl, rfl, hR⟩ := hrel
      by_cases hlt : (k : Int) < z
      · obtain ⟨j, rfl⟩ : ∃ j : Nat, z = j := ⟨z.toNat, by omega⟩
        obtain ⟨cur', hh, hcs, hcf⟩ := hR.1
        have hgl : g < wr.heap.size := lt_of hh
        obtain ⟨k0, k1⟩ := hcf k (by rw [HN.out]; omega)
        obtain ⟨j0, j1⟩ := hcf j (by rw [HN.out]; omega)
        rw [← cell_of hh] at k0 k1 j0 j1
        have fz := fun o => frozen_of hh o
        have HH := Lib.hid hh
        have HR := Lib.hid hR
        clear hR hh hcs hcf
        generalize hvk : rvF ps k k = vk at *
        generalize hvj : rvF ps k j = vj at *
        have HV := Lib.hid (And.intro hvk hvj)
        clear hvk hvj
        obtain ⟨vk1, vk2⟩ := vk
        obtain ⟨vj1, vj2⟩ := vj
        dsimp only at k0 k1 j0 j1
        go_wp2_with fail
        have hC0 := af_drew wr
        refine pi_start (fun w' => ∃ x : After wr, w' = x.w) [13, 15] (by kernel_rfl) ?_
        refine pi_t 0 rfl (by kernel_rfl) (by kernel_rfl) (fun _ _ _ _ h => h) (fun K hK => ?_)
        go_big_quiet_op
        refine hK _ ?_
        clear hK K
        refine pi_t 1 rfl (by kernel_rfl) (by kernel_rfl) (fun _ _ _ _ h => h) (fun K hK => ?_)
        go_big_quiet_op
        refine hK _ ?_
        clear hK K
        refine pi_t 2 rfl (by kernel_rfl) (by kernel_rfl) (fun _ _ _ _ h => h) (fun K hK => ?_)
        go_big_quiet_op
        refine hK _ ?_
        clear hK K
        refine pi_t 3 rfl (by kernel_rfl) (by kernel_rfl) (fun _ _ _ _ h => h) (fun K hK => ?_)
        go_big_quiet_op
        refine hK _ ?_
        clear hK K
        refine pi_t 4 rfl (by kernel_rfl) (by kernel_rfl) (fun _ _ _ _ h => h) (fun K hK => ?_)
        go_big_quiet_op
        refine hK _ ?_
        clear hK K
        refine pi_t 5 rfl (by kernel_rfl) (by kernel_rfl) (fun _ _ _ _ h => h) (fun K hK => ?_)
        go_big_quiet_op
        refine hK _ ?_
        clear hK K
        refine pi_t 6 rfl (by kernel_rfl) (by kernel_rfl) (fun _ _ _ _ h => h) (fun K hK => ?_)
        go_big_quiet_op
        refine hK _ ?_
        clear hK K
        refine pi_t 8 rfl (by kernel_rfl) (by kernel_rfl) (fun _ _ _ _ h => h) (fun K hK => ?_)
        go_big_quiet_op
        refine hK _ ?_
        clear hK K
        refine pi_t 9 rfl (by kernel_rfl) (by kernel_rfl) (fun _ _ _ _ h => h) (fun K hK => ?_)
        go_big_quiet_op
        refine hK _ ?_
        clear hK K
        refine pi_t 10 rfl (by kernel_rfl) (by kernel_rfl) (fun _ _ _ _ h => h) (fun K hK => ?_)
        go_big_quiet_op
        refine hK _ ?_
        clear hK K
        refine pi_c 7 (by assumption) rfl (by kernel_rfl) (by kernel_rfl) (fun _ _ _ _ h => h) (fun K hK => ?_)
        go_big_quiet_op
        refine hK _ ?_
        clear hK K
        refine pi_c 11 (by assumption) rfl (by kernel_rfl) (by kernel_rfl) (fun _ _ _ _ h => h) (fun K hK => ?_)
        go_big_quiet_op
        refine hK _ ?_
        clear hK K
        refine pi_t 12 rfl (by kernel_rfl) (by kernel_rfl) (fun _ _ _ _ h => h) (fun K hK => ?_)
        go_big_quiet_op
        refine hK _ ?_
        clear hK K
        refine pi_l 13 rfl (by kernel_rfl) (fun K hK => ?_)
        go_wp2
        refine hK _ _ (by simp) ?_
        clear hK K
        refine pi_t 14 rfl (by kernel_rfl) (by kernel_rfl) (fun _ _ _ _ h => h) (fun K hK => ?_)
        go_big_quiet_op
        refine hK _ ?_
        clear hK K
        refine pi_l 15 rfl (by kernel_rfl) (fun K hK => ?_)
        go_wp2
        refine hK _ _ (by simp) ?_
        clear hK K
        refine pi_end (by kernel_rfl) ?_
        go_wp2_with fail
        go_roundw
        case rel =>
          have hN := rv_next (a := (vj1, vj2)) (c := (vk1, vk2)) HR.out (by rw [HN.out]; omega) (by omega) (by rw [HN.out]; omega) HV.out.2 HV.out.1
          exact ⟨k + 1, (j : Int) - 1, by omega, by omega, by go_num, by go_num, hN⟩
        case measure => simp [intOf]; omega
      · have hk3 : n ≤ 2 * k + 1 := by omega
        obtain ⟨⟨cur', h1, h2, h3⟩, hm⟩ := hR
        have hfin : wr.ownsRow base 39 2 (.slice (some ⟨g, 0, none⟩) n cap) n (pcV ps.reverse) :=
          ⟨by rw [pcV_len, List.length_reverse, HN.out], .inr ⟨g, cap, cur', rfl, hb, h1, hnc, hcm, h2, by rw [← HN.out]; exact cellsF_take h3 (List.length_reverse) (fun m hm => rvF_end ps hm (by rw [HN.out]; exact hk3))⟩⟩
        go_wp2
        go_end0
        exact ⟨rfl, by rw [HN.out]; exact hfin, hm.mono (fun k hk _ => by rw [hk]; rfl)⟩
end Go.Proofs.YtfhdjekpdifajaaGreat

/- Package stack: Copy, At. -/
namespace Go.Proofs.YtfhdjekpdifajaaGreat
set_option linter.unusedVariables false
open Go.RowKit
def KCopyPost (w : World) (C : Cfg) (B : Nat) (ls : Nat → List Int) (e : Ending) (w' : World) : Prop :=
  ∃ (s g : Nat) (L : Nat → Lev), e = .returned (.pointer (some ⟨s, 0, none⟩)) ∧ KAt w' s g C B L ls ∧ w.heap.size ≤ s ∧ w.heap.size ≤ g ∧ (∀ n, n ≤ B → w.heap.size ≤ (L n).s ∧ w.heap.size ≤ (L n).b ∧ w.heap.size ≤ (L n).c) ∧ Ext w w'
set_option maxRecDepth 20000 in
set_option maxHeartbeats 4000000 in
theorem KCopy_c (s g : Nat) (C : Cfg) (B : Nat) (L : Nat → Lev) (ls : Nat → List Int) (w : World) (h : KAt w s g C B L ls) :
    Calls Tryz.prog 20 #[.pointer (some ⟨s, 0, none⟩)] w (KCopyPost w C B ls) := by
  have hok := h.ok
  have hB := h.hB
  have hlt := h.lts
  obtain ⟨cap, hex, hcap⟩ := h.ex
  have c5 := (cell_of hex 5).trans rfl
  have hb2 : B ≤ 59 := by have := hok.b2; omega
  have HE := Lib.hid hex
  have HH := Lib.hid h
  have HB := Lib.hid hB
  clear h hex hB
  go_enter Tryz.func20, Tryz.ntmps20
  go_wp2
  go_loopw [3, 11] (fun u3 u11 wr => ∃ (k : Nat) (L' : Nat → Lev), k ≤ B + 1 ∧ u11 = .int .i64 k ∧ Ext w wr ∧ Made wr w.heap.size C k L' ls u3) (fun _ u11 _ => B + 1 - (intOf u11).toNat)
  case atStart =>
    refine ⟨0, fun _ => ⟨0, 0, 0⟩, Nat.zero_le _, rfl, Ext.refl _, ⟨⟨rfl, .inl ⟨rfl, rfl⟩⟩, ?_, ?_, ?_⟩⟩ <;> (intros; omega)
  case round =>
    obtain ⟨k, L', hk, rfl, hE, hM⟩ := hrel
    have hkr := HH.out.ext hE
    have hsz := hE.size
    have HM := Lib.hid hM
    clear hM
    by_cases hlt' : k < B + 1
    · have cn := hkr.cell (show k ≤ B by omega)
      have hL0 := hkr.lev k (by omega)
      have hltg := hkr.ltg
      clear hkr
      go_wp2_with fail
      refine (LCopy_c C k (L k) (ls k) _ hL0).mono ?_
      rintro e w2 ⟨M, rfl, hL, n1, n2, n3, hx2⟩
      have hown := own_ext HM.out.row hx2
      have hszz := hx2.size
      obtain ⟨T, hT⟩ : ∃ T, lvV C k M = .iface T (.pointer (some ⟨M.s, 0, none⟩)) := ⟨lvT C k, rfl⟩
      rw [hT]
      have HT := Lib.hid hT
      clear hT
      have hll := lvVs_len C L' k
      obtain ⟨i0, z0, hi0, hz0, hz1, hz2, hz3⟩ := info_lev
      go_wp2_with (at_builtin; refine wpList_appv w2 (.iface T (.pointer (some ⟨M.s, 0, none⟩))) rfl (lvVs C L' k) u3 w.heap.size 62 hown 147 rfl _ _ rfl i0 z0 hi0 hz0 hz1 hz2 hz3 Tryz.underlying147 rfl rfl ?a1 ?a2 ?_)
      case a1 => omega
      case a2 => omega
      intro v' w' hown' hgr
      have hmade := HM.out.ext hx2
      have hnext := hmade.next (N := wr.heap.size) (ls := ls) hL (fun n hn => HM.out.ltN n hn) (by omega) n1 n2 n3 rfl (by rw [HT.out, List.length_append, hll]; exact hown') hgr
      have hex : Ext w w' := ext_grown (hE.trans' hx2) hgr (fun i hi => own_blk hown hi)
      go_wp2
      go_roundw
      case rel => exact ⟨k + 1, _, by omega, by go_num, hex, hnext⟩
      case measure => simp [intOf]; omega
    · obtain rfl : k = B + 1 := by omega
      obtain ⟨p5, k5, c5, rfl⟩ := own_slice HM.out.row
      have hltr := hkr.lts
      obtain ⟨cap2, hex2, _⟩ := hkr.ex
      have d0 := (cell_of hex2 0).trans rfl
      have d1 := (cell_of hex2 1).trans rfl
      have d2 := (cell_of hex2 2).trans rfl
      have d3 := (cell_of hex2 3).trans rfl
      have d4 := (cell_of hex2 4).trans rfl
      clear hex2 hkr
      go_wp2
      go_ret
      obtain ⟨g', hg, hK⟩ := (HM.out.ext (Ext.alloc' wr (.cells #[.int .i64 C.bits, .int .i64 C.rows, .int .i64 C.width, .int .i64 C.mode, .int .u64 C.seed, .slice p5 k5 c5] 149))).stack hok HB.out (heap_at _ _ rfl)
      exact ⟨wr.heap.size, g', L', rfl, hK, hsz, hg, fun n hn => HM.out.new n (by omega), hE.allocR _⟩
set_option maxRecDepth 20000 in
theorem KAt_c (s g : Nat) (C : Cfg) (B : Nat) (L : Nat → Lev) (ls : Nat → List Int) (w : World) (h : KAt w s g C B L ls) (n : Nat) (hn : n ≤ B) :
    Calls Tryz.prog 84 #[.pointer (some ⟨s, 0, none⟩), .int .i64 n] w fun e w' => ∃ M : Lev, e = .returned (.tuple #[lvV C n M, .bool true]) ∧ LvAt w' M C n (ls n) ∧ w.heap.size ≤ M.s ∧ w.heap.size ≤ M.b ∧ w.heap.size ≤ M.c ∧ Ext w w' := by
  go_enter Tryz.func84, Tryz.ntmps84
  go_wp2_with fail
  refine (level_yes s g C B L ls w h n hn).mono ?_
  rintro e w1 ⟨rfl, rfl⟩
  go_wp2_with fail
  refine (LCopy_c C n (L n) (ls n) _ (h.lev n hn)).mono ?_
  rintro e w2 ⟨M, rfl, hL, n1, n2, n3, hx2⟩
  go_wp2
  go_ret2
  exact ⟨M, rfl, hL, n1, n2, n3, hx2⟩
set_option maxRecDepth 20000 in
theorem KAt_no (s g : Nat) (C : Cfg) (B : Nat) (L : Nat → Lev) (ls : Nat → List Int) (w : World) (h : KAt w s g C B L ls) (n : Int) (hn : n < 0 ∨ (B : Int) < n) :
    Calls Tryz.prog 84 #[.pointer (some ⟨s, 0, none⟩), .int .i64 n] w fun e w' => e = .returned (.tuple #[.nilIface, .bool false]) ∧ w = w' := by
  go_enter Tryz.func84, Tryz.ntmps84
  go_wp2_with fail
  refine (level_no s g C B L ls w h n hn).mono ?_
  rintro e w1 ⟨rfl, rfl⟩
  go_wp2
  go_ret2
  exact ⟨rfl, rfl⟩
end Go.Proofs.YtfhdjekpdifajaaGreat

/- Package stack: Update. -/
namespace Go.Proofs.YtfhdjekpdifajaaGreat
set_option linter.unusedVariables false
open Go.RowKit
attribute [local go_sem] Oper.semAt_some
def KUpdPost (w : World) (s g : Nat) (C : Cfg) (B : Nat) (L : Nat → Lev) (ls : Nat → List Int) (key d : Int) (e : Ending) (w' : World) : Prop :=
  e = .returned (.int .i64 (errK C B ls key d)) ∧ KAt w' s g C B L (bif decide (errK C B ls key d = 0) then updK C ls key d else ls) ∧ Mod (cellsOf B L) w w'
set_option maxRecDepth 100000 in
set_option maxHeartbeats 4000000 in
theorem KUpdate_c (s g : Nat) (C : Cfg) (B : Nat) (L : Nat → Lev) (ls : Nat → List Int) (key d : Int) (w : World) (h : KAt w s g C B L ls) (hd : I64 d) (hk : U64 key) :
    Calls Tryz.prog 26 #[.pointer (some ⟨s, 0, none⟩), .int .u64 key, .int .i64 d] w (KUpdPost w s g C B L ls key d) := by
  have hok := h.ok
  have hlt := h.lts
  have hltg := h.ltg
  obtain ⟨cap, hex, hcap⟩ := h.ex
  have c0 := (cell_of hex 0).trans rfl
  have c1 := (cell_of hex 1).trans rfl
  have c2 := (cell_of hex 2).trans rfl
  have c3 := (cell_of hex 3).trans rfl
  have c4 := (cell_of hex 4).trans rfl
  have hb2 : C.bits ≤ 59 := hok.b2
  have hb1 : 1 ≤ C.bits := hok.b1
  have HE := Lib.hid hex
  have HH := Lib.hid h
  clear h hex
  refine (callsIn_wide (n := 5)).1 ?_
  refine callsIn_of_wp_marks Tryz.func26 rfl trivial ?_ rfl
  simp only [Tryz.ntmps26, List.size_toArray, List.length_cons, List.length_nil, Nat.reduceAdd, Nat.reduceSub, Array.replicate_succ, Array.replicate_zero, List.push_toArray, List.append_toArray, List.nil_append, List.cons_append]
  gi_wp2_with fail
  refine ⟨trivial, (callsIn_wide.2 (Keys_c C hok 0 (Int.le_refl 0) (by omega) _)).mono ?_⟩
  rintro e w1 ⟨rfl, hx1⟩
  have hE1 : Ext w w1 := (Ext.alloc' w _).trans' hx1
  have h1 := HH.out.ext hE1
  have db := hx1.keep (heap_at w (.cells #[.int .i64 d] 2) rfl)
  have hls := h1.lts
  by_cases hkey : keys C 0 ≤ key
  · have e1 : errK C B ls key d = 2 := by unfold errK; rw [decide_eq_true hkey]; rfl
    have hge : decide (keys C 0 ≤ key) = true := decide_eq_true hkey
    gi_wp2
    exact ⟨_, results_tmp rfl _ _ _, by rw [e1]; rfl, by rw [e1]; exact h1, hE1.mod _⟩
  · have hge : decide (keys C 0 ≤ key) = false := decide_eq_false hkey
    gi_wp2_with fail
    refine ⟨trivial, (callsIn_wide.2 (Kat_c s key _)).mono ?_⟩
    rintro e w2 ⟨rfl, rfl⟩
    gi_wp2
    obtain ⟨W0, hW0⟩ : ∃ W0, ((w1.alloc (.cells #[.int .i64 0] 29)).alloc (.cells #[.pointer (some ⟨s, 0, none⟩)] 28)).alloc (.cells #[.int .u64 key] 22) = W0 := ⟨_, rfl⟩
    have hsz : W0.heap.size = w1.heap.size + 3 := by rw [← hW0]; simp
    have hEW : Ext w1 W0 := by rw [← hW0]; exact ((Ext.alloc' _ _).allocR _).allocR _
    have hb0 : W0.heap[w1.heap.size]? = some (.cells #[.int .i64 0] 29 (0, 0)) := by rw [← hW0, heap_old _ _ (by simp; omega), heap_old _ _ (by simp)]; exact heap_at _ _ rfl
    have hb1' : W0.heap[w1.heap.size + 1]? = some (.cells #[.pointer (some ⟨s, 0, none⟩)] 28 (0, 0)) := by rw [← hW0, heap_old _ _ (by simp)]; exact heap_at _ _ (size_alloc _ _).symm
    have hb2' : W0.heap[w1.heap.size + 2]? = some (.cells #[.int .u64 key] 22 (0, 0)) := by rw [← hW0]; exact heap_at _ _ (by simp)
    rw [hW0]
    have h2 := h1.ext hEW
    obtain ⟨cap2, hex2, hcap2⟩ := h2.ex
    have H2 := Lib.hid h2
    have hBd : B ≤ 59 := by have := hok.b2; have := h2.hB; omega
    refine wpIn_rangeFunc_ownF rfl (by decide) (gf := 147) (lb := #[.pointer (some ⟨w1.heap.size + 1, 0, none⟩), .pointer (some ⟨w1.heap.size + 1 + 1, 0, none⟩)]) rfl trivial (enters_of Tryz.func147 (by kernel_rfl) rfl)
      (kat1_stops 4 (w1.heap.size + 1) (w1.heap.size + 2) W0.heap.size s g cap2 (fun k => k = w1.heap.size) C L B key hk hBd (by omega) (by omega) h2.lts h2.ltg (by omega) (by omega) (by omega) (by have := h1.ltg; omega) W0 (Nat.le_refl _)
        ((cell_of hb1' 0).trans rfl) ((cell_of hb2' 0).trans rfl) ((cell_of hex2 5).trans rfl) (fun n hn => h2.cell hn)) KpS.t (fun W l o o' hl ho hc hw => KpS.b (Nat.le_refl _) W l o o' hl ho hc hw) (Below.refl _ _) (fun _ => rfl)
      (fun pre W => W.heap[w1.heap.size]? = some (.cells #[.int .i64 (errF C ls key d (vals pre))] 29 (0, 0)) ∧ Mod (fun k => k = w1.heap.size) W0 W)
      (fun _ _ _ => False)
      (OwnFrom.and (ownFrom_box (by omega) _) (ownFrom_mod (Nat.le_refl _)))
      (fun _ _ _ _ _ hs _ _ => hs)
      ⟨hb0, Mod.refl _ _⟩
      (fun x => { tmps := #[.pointer (some ⟨s, 0, none⟩), .int .u64 key, .int .i64 d, undef, undef, .pointer (some ⟨w.heap.size, 0, none⟩), .int .i64 0, .pointer (some ⟨w1.heap.size, 0, none⟩), lvV C x.1 (L x.1), .int .u64 (sh x.1 key), undef, undef, .int .u64 key, .pointer (some ⟨s, 0, none⟩), .pointer (some ⟨s, 0, none⟩), .pointer (some ⟨s, 0, none⟩), .agg #[.int .i64 C.bits, .int .i64 C.rows, .int .i64 C.width, .int .i64 C.mode, .int .u64 C.seed], .int .u64 (keys C 0), .bool false, .pointer (some ⟨s, 0, none⟩), .int .u64 key, .func (.func 147) #[] #[.pointer (some ⟨w1.heap.size + 1, 0, none⟩), .pointer (some ⟨w1.heap.size + 1 + 1, 0, none⟩)], lvV C x.1 (L x.1), .int .u64 (sh x.1 key), undef, undef, undef, undef, undef, undef, undef, undef, undef, undef, undef, undef, undef, undef, undef, undef, undef, undef, undef], defers := [] }) ?assign ?body ?done ?stop
    case assign =>
      intro l x W K hK
      dsimp only [lvEnc]
      gi_wp2
      exact hK
    case body =>
      rintro l pre x W ⟨hbad, hM0⟩ hlen
      have hM := mod_new hEW hM0 (Nat.le_refl _)
      have hxn := x.2
      have h3 := h1.keepN h1.low (fun k hk _ => hM.block k hk (fun h => h))
      have hLx := h3.lev x.1 x.2
      have hbc := (cell_of hbad 0).trans rfl
      have hdW := hM.keep db (fun h => h)
      have hdc := (cell_of hdW 0).trans rfl
      have hbl := lt_of hbad
      have hdl := lt_of hdW
      have hkx := sh_u64 hk x.1
      gi_wp2
      cases hx : isX C x.1 with
      | true =>
        have hA := (hLx.x hx).ext (Below.drew (Ext.refl W))
        have HX := Lib.hid hx
        rw [lvV_x hx]
        clear hx
        refine pi_startR (fun w' => ∃ x : After W, w' = x.w) [7] (by kernel_rfl) (fun ⟨_, _, hh⟩ => hh) (by kernel_rfl) ?_
        have hC0 := af_drew W
        refine pi_c 0 (by assumption) rfl (by kernel_rfl) (by kernel_rfl) (fun _ _ _ _ h => h) (fun K hK => ?_)
        go_big_quiet_op
        refine hK _ ?_
        clear hK K
        refine pi_t 1 rfl (by kernel_rfl) (by kernel_rfl) (fun _ _ _ _ h => h) (fun K hK => ?_)
        go_big_quiet_op
        refine hK _ ?_
        clear hK K
        refine pi_t 2 rfl (by kernel_rfl) (by kernel_rfl) (fun _ _ _ _ h => h) (fun K hK => ?_)
        go_big_quiet_op
        refine hK _ ?_
        clear hK K
        refine pi_c 3 (by assumption) rfl (by kernel_rfl) (by kernel_rfl) (fun _ _ _ _ h => h) (fun K hK => ?_)
        go_big_quiet_op
        refine hK _ ?_
        clear hK K
        refine pi_l 4 rfl (by kernel_rfl) (fun K hK => ?_)
        go_wp2_with fail
        refine (ECheck_c _ _ _ C _ _ _ (sh x.1 key) d _ hA hd hkx).mono ?_
        rintro e w3 ⟨rfl, hx3⟩
        have hb3 := hx3.keep (show W.drew.heap[w1.heap.size]? = _ from hbad)
        have hbc3 := (cell_of hb3 0).trans rfl
        have hbl3 := lt_of hb3
        have hbf3 := frozen_of hb3 0
        go_wp2
        refine hK _ _ (fun _ h => af_step h hx3) ?_
        clear hK K
        refine pi_l 5 rfl (by kernel_rfl) (fun K hK => ?_)
        go_wp2
        refine hK _ _ (fun _ h => af_step h (Ext.alloc' _ _)) ?_
        clear hK K
        refine pi_l 6 rfl (by kernel_rfl) (fun K hK => ?_)
        go_wp2_with fail
        refine (first_c w3.heap.size 2 (errF C ls key d (vals pre)) (errX C x.1 (ls x.1) (sh x.1 key) d) _ ((cell_of (heap_at w3 _ rfl) 0).trans rfl) ((cell_of (heap_at w3 _ rfl) 1).trans rfl)).mono ?_
        rintro e w4 ⟨rfl, rfl⟩
        go_wp2
        refine hK _ _ (fun _ h => h) ?_
        clear hK K
        refine pi_l 7 rfl (by kernel_rfl) (fun K hK => ?_)
        go_wp2
        refine hK _ _ (by simp) ?_
        clear hK K
        refine pi_end (by kernel_rfl) ?_
        obtain ⟨r1, r2, r3, r4⟩ := chk_round (v := .int .i64 (fst_ (errF C ls key d (vals pre)) (errX C x.1 (ls x.1) (sh x.1 key) d))) (o := .cells #[.int .i64 (errF C ls key d (vals pre)), .int .i64 (errX C x.1 (ls x.1) (sh x.1 key) d)] 29) hbad (Ext.trans' (Below.drew (Ext.refl W)) hx3) hM0
        exact ⟨r1, r2, by rw [vals_snoc, errF_snoc, lvE_x HX.out]; exact r3, r4⟩
      | false =>
        have hA := (hLx.sk hx).ext (Below.drew (Ext.refl W))
        have HX := Lib.hid hx
        rw [lvV_s hx]
        clear hx
        refine pi_startR (fun w' => ∃ x : After W, w' = x.w) [7] (by kernel_rfl) (fun ⟨_, _, hh⟩ => hh) (by kernel_rfl) ?_
        have hC0 := af_drew W
        refine pi_c 0 (by assumption) rfl (by kernel_rfl) (by kernel_rfl) (fun _ _ _ _ h => h) (fun K hK => ?_)
        go_big_quiet_op
        refine hK _ ?_
        clear hK K
        refine pi_t 1 rfl (by kernel_rfl) (by kernel_rfl) (fun _ _ _ _ h => h) (fun K hK => ?_)
        go_big_quiet_op
        refine hK _ ?_
        clear hK K
        refine pi_t 2 rfl (by kernel_rfl) (by kernel_rfl) (fun _ _ _ _ h => h) (fun K hK => ?_)
        go_big_quiet_op
        refine hK _ ?_
        clear hK K
        refine pi_c 3 (by assumption) rfl (by kernel_rfl) (by kernel_rfl) (fun _ _ _ _ h => h) (fun K hK => ?_)
        go_big_quiet_op
        refine hK _ ?_
        clear hK K
        refine pi_l 4 rfl (by kernel_rfl) (fun K hK => ?_)
        go_wp2_with fail
        refine (Check_c _ _ _ C _ _ _ _ (sh x.1 key) d _ hA hd hkx.1).mono ?_
        rintro e w3 ⟨rfl, hx3⟩
        have hb3 := hx3.keep (show W.drew.heap[w1.heap.size]? = _ from hbad)
        have hbc3 := (cell_of hb3 0).trans rfl
        have hbl3 := lt_of hb3
        have hbf3 := frozen_of hb3 0
        go_wp2
        refine hK _ _ (fun _ h => af_step h hx3) ?_
        clear hK K
        refine pi_l 5 rfl (by kernel_rfl) (fun K hK => ?_)
        go_wp2
        refine hK _ _ (fun _ h => af_step h (Ext.alloc' _ _)) ?_
        clear hK K
        refine pi_l 6 rfl (by kernel_rfl) (fun K hK => ?_)
        go_wp2_with fail
        refine (first_c w3.heap.size 2 (errF C ls key d (vals pre)) (errU C x.1 (rN C) (wN C) (ls x.1) (sh x.1 key) d) _ ((cell_of (heap_at w3 _ rfl) 0).trans rfl) ((cell_of (heap_at w3 _ rfl) 1).trans rfl)).mono ?_
        rintro e w4 ⟨rfl, rfl⟩
        go_wp2
        refine hK _ _ (fun _ h => h) ?_
        clear hK K
        refine pi_l 7 rfl (by kernel_rfl) (fun K hK => ?_)
        go_wp2
        refine hK _ _ (by simp) ?_
        clear hK K
        refine pi_end (by kernel_rfl) ?_
        obtain ⟨r1, r2, r3, r4⟩ := chk_round (v := .int .i64 (fst_ (errF C ls key d (vals pre)) (errU C x.1 (rN C) (wN C) (ls x.1) (sh x.1 key) d))) (o := .cells #[.int .i64 (errF C ls key d (vals pre)), .int .i64 (errU C x.1 (rN C) (wN C) (ls x.1) (sh x.1 key) d)] 29) hbad (Ext.trans' (Below.drew (Ext.refl W)) hx3) hM0
        exact ⟨r1, r2, by rw [vals_snoc, errF_snoc, lvE_s HX.out]; exact r3, r4⟩
    case done =>
      rintro D xs W hD hxs ⟨hbad, hM0⟩ hdef
      have hM := mod_new hEW hM0 (Nat.le_refl _)
      have hz : errF C ls key d (vals xs) = errs C ls key d (B + 1) := by unfold vals; rw [hxs, errF_range]
      rw [hz] at hbad
      have hek : errK C B ls key d = errs C ls key d (B + 1) := by unfold errK; rw [hge]; rfl
      have h3 := h1.keepN h1.low (fun k hk _ => hM.block k hk (fun h => h))
      have hbc := (cell_of hbad 0).trans rfl
      have hdW := hM.keep db (fun h => h)
      have hdc := (cell_of hdW 0).trans rfl
      have hbl := lt_of hbad
      have hdl := lt_of hdW
      have HZ := Lib.hid hek
      have HXS := Lib.hid hz
      clear hek hz hxs
      by_cases hzz : errs C ls key d (B + 1) = 0
      · gi_wp2_with fail
        refine ⟨trivial, (callsIn_wide.2 (Kat_c s key _)).mono ?_⟩
        rintro e w2 ⟨rfl, rfl⟩
        gi_wp2
        obtain ⟨W2, hW2⟩ : ∃ W2, (W.alloc (.cells #[.pointer (some ⟨s, 0, none⟩)] 28)).alloc (.cells #[.int .u64 key] 22) = W2 := ⟨_, rfl⟩
        have hsz2 : W2.heap.size = W.heap.size + 2 := by rw [← hW2]; simp
        have hEW2 : Ext W W2 := by rw [← hW2]; exact (Ext.alloc' _ _).allocR _
        have hb1' : W2.heap[W.heap.size]? = some (.cells #[.pointer (some ⟨s, 0, none⟩)] 28 (0, 0)) := by rw [← hW2, heap_old _ _ (by simp)]; exact heap_at _ _ rfl
        have hb2' : W2.heap[W.heap.size + 1]? = some (.cells #[.int .u64 key] 22 (0, 0)) := by rw [← hW2]; exact heap_at _ _ (size_alloc _ _).symm
        have hdef2 := hEW2.keep hdef
        have hd2 := hEW2.keep hdW
        rw [hW2]
        have h4 := h3.ext hEW2
        obtain ⟨cap4, hex4, hcap4⟩ := h4.ex
        have hall : ∀ n, n ≤ B → lvE C n (ls n) (sh n key) d = 0 := fun n hn => errs_zero.1 hzz n (by omega)
        have hlt3 : ∀ k, cellsOf B L k → k < W.heap.size := fun k hk => h3.ltc hk
        have hlt0 : ∀ k, cellsOf B L k → k < w.heap.size := fun k hk => HH.out.ltc hk
        have hWl := hM.size
        have hDl := lt_of hdef
        refine wpIn_rangeFunc_ownF rfl (by decide) (gf := 147) (lb := #[.pointer (some ⟨W.heap.size, 0, none⟩), .pointer (some ⟨W.heap.size + 1, 0, none⟩)]) rfl trivial (enters_of Tryz.func147 (by kernel_rfl) rfl)
          (kat1_stops 4 W.heap.size (W.heap.size + 1) W2.heap.size s g cap4 (cellsOf B L) C L B key hk hBd (by omega) (by omega) h4.lts h4.ltg (fun h => absurd (hlt3 _ h) (by omega)) (fun h => absurd (hlt3 _ h) (by omega)) h3.nots h3.notg W2 (Nat.le_refl _)
            ((cell_of hb1' 0).trans rfl) ((cell_of hb2' 0).trans rfl) ((cell_of hex4 5).trans rfl) (fun n hn => h4.cell hn)) KpS.t (fun W l o o' hl ho hc hw => KpS.b (Nat.le_refl _) W l o o' hl ho hc hw) (Below.refl _ _) (fun _ => rfl)
          (fun pre W' => W'.heap[D]? = some (.deferred (some [])) ∧ (∃ ls', KAt W' s g C B L ls' ∧ ((vals pre).Nodup → ∀ n, ls' n = partK C ls key d (vals pre) n)) ∧ Mod (cellsOf B L) W2 W')
          (fun _ _ _ => False)
          (OwnFrom.and (ownFrom_box (by omega) (fun _ => _)) (OwnFrom.and (fun pre W' W'' row hs hg hr => by obtain ⟨ls', h, hp⟩ := hs; exact ⟨ls', h.keepN h4.low (fun k hk hN => grown_low hg (fun r e => (hr r e).1) hk hN), hp⟩) (ownFrom_mod (Nat.le_refl _))))
          (fun _ _ _ _ _ hs _ _ => hs)
          ⟨hdef2, ⟨ls, h4, fun _ n => rfl⟩, Mod.refl _ _⟩
          (fun x => { tmps := #[.pointer (some ⟨s, 0, none⟩), .int .u64 key, .int .i64 d, undef, undef, .pointer (some ⟨w.heap.size, 0, none⟩), .int .i64 0, .pointer (some ⟨w1.heap.size, 0, none⟩), undef, undef, lvV C x.1 (L x.1), .int .u64 (sh x.1 key), .int .u64 key, .pointer (some ⟨s, 0, none⟩), .pointer (some ⟨s, 0, none⟩), .pointer (some ⟨s, 0, none⟩), .agg #[.int .i64 C.bits, .int .i64 C.rows, .int .i64 C.width, .int .i64 C.mode, .int .u64 C.seed], .int .u64 (keys C 0), .bool false, .pointer (some ⟨s, 0, none⟩), .int .u64 key, .func (.func 147) #[] #[.pointer (some ⟨w1.heap.size + 1, 0, none⟩), .pointer (some ⟨w1.heap.size + 1 + 1, 0, none⟩)], undef, undef, undef, undef, undef, undef, undef, undef, undef, .int .i64 0, .bool false, undef, .pointer (some ⟨s, 0, none⟩), .int .u64 key, .func (.func 147) #[] #[.pointer (some ⟨W.heap.size, 0, none⟩), .pointer (some ⟨W.heap.size + 1, 0, none⟩)], lvV C x.1 (L x.1), .int .u64 (sh x.1 key), undef, undef, undef, undef], defers := [] }) ?assign2 ?body2 ?done2 ?stop2
        case assign2 =>
          intro l x W K hK
          dsimp only [lvEnc]
          gi_wp2
          exact hK
        case body2 =>
          rintro l pre x V ⟨hD5, ⟨ls', h5, hp5⟩, hM5⟩ hlen
          have hd5 := hM5.keep hd2 (fun h => absurd (hlt0 _ h) (by omega))
          have hdc5 := (cell_of hd5 0).trans rfl
          have hdl5 := lt_of hd5
          have hkx := sh_u64 hk x.1
          have hLx := h5.lev x.1 x.2
          have fin := fun w3 hres => upd_round (w3 := w3) (x := x) h5 hp5 hM5 hD5 hall hres
          cases hx : isX C x.1 with
          | true =>
            have hA := hLx.x hx
            have HX := Lib.hid hx
            rw [lvV_x hx]
            clear hx
            refine wpIn_block ?_
            refine region_plainR (fun ⟨_, _, hh⟩ => hh) (by kernel_rfl) ?_
            go_wp2_with fail
            refine Calls.mono (EUpdate_c _ _ _ C _ _ _ (sh x.1 key) d _ hA hd hkx) ?_
            rintro e w3 ⟨rfl, hres⟩
            gi_wp2
            rw [← lvE_x HX.out, ← lvU_x HX.out] at hres
            exact fin w3 (hres.imp (fun ⟨a, b, c⟩ => ⟨a, .inl ⟨HX.out, b⟩, c⟩) (fun h => h))
          | false =>
            have hA := hLx.sk hx
            have HX := Lib.hid hx
            rw [lvV_s hx]
            clear hx
            refine wpIn_block ?_
            refine region_plainR (fun ⟨_, _, hh⟩ => hh) (by kernel_rfl) ?_
            go_wp2_with fail
            refine Calls.mono (Update_c _ _ _ C _ _ _ _ (sh x.1 key) d _ hA hd hkx.1) ?_
            rintro e w3 ⟨rfl, hres⟩
            gi_wp2
            rw [← lvE_s HX.out, ← lvU_s HX.out] at hres
            exact fin w3 (hres.imp (fun ⟨a, b, c⟩ => ⟨a, .inr ⟨HX.out, b⟩, c⟩) (fun h => h))
        case done2 =>
          rintro D2 ys V hD2 hys ⟨hD5, ⟨ls', h5, hp5⟩, hM5⟩ hdef5
          gi_wp2
          have hne : D ≠ D2 := by omega
          refine ⟨by simp, .inl ⟨_, _, rfl, run_takeDeferred hdef5, ⟨by simp, .inl ⟨_, _, rfl, run_takeDeferred ((World.putObj_heap_other hne).trans hD5), ?_⟩⟩⟩⟩
          have hq : Mod (cellsOf B L) w V := (((hE1.mod _).trans (hM.mono (fun _ h _ => h.elim))).trans (hEW2.mod _)).trans hM5
          have hwl := hE1.size
          refine ⟨_, results_tmp rfl _ _ _, by rw [HZ.out, hzz]; rfl, ?_, mod_putD (mod_putD hq (by omega)) (by omega)⟩
          rw [HZ.out, hzz]
          refine KAt.cong (ls := ls') ?_ (part_end hys hp5)
          exact h5.keepN HH.out.low (fun k _ hN => (World.putObj_heap_other (by omega)).trans (World.putObj_heap_other (by omega)))
        case stop2 =>
          rintro D2 c pre V hD2 _ hh _
          exact hh.elim
      · gi_wp2
        refine ⟨by simp, .inl ⟨_, _, rfl, run_takeDeferred hdef, ?_⟩⟩
        have hp : Mod (fun _ => False) w1 (W.putObj D (.deferred none)) := mod_putD hM (by omega)
        refine ⟨_, results_tmp rfl _ _ _, by rw [HZ.out]; rfl, ?_, (hE1.mod _).trans (hp.mono (fun _ h _ => h.elim))⟩
        rw [HZ.out, decide_eq_false hzz]
        exact h1.keepN h1.low (fun k hk _ => hp.block k hk (fun h => h))
    case stop =>
      rintro D c pre W hD _ hh _
      exact hh.elim
end Go.Proofs.YtfhdjekpdifajaaGreat

/- A config that may not be. -/
namespace Go.Proofs.YtfhdjekpdifajaaGreat
set_option linter.unusedVariables false
open Go.RowKit

set_option maxRecDepth 100000 in
set_option maxHeartbeats 2000000 in
theorem within_no01 (a b c d : Int) (s : Nat) (w : World)
    (f0 : decide (a < 1) = true)
    (hs : w.heap[s]? = some (.cells #[.int .i64 a, .int .i64 59, .int .i64 b, .int .i64 8, .int .i64 c, .int .i64 128, .int .i64 d, .int .i64 3] 229 (0, 0))) :
    Calls Tryz.prog 146 #[.slice (some ⟨s, 0, none⟩) 4 4] w fun e w' => e = .returned (.bool false) ∧ Ext w w' := by
  have hlt := lt_of hs
  have l1 : s < w.heap.size + 1 := by omega
  have l2 : s < w.heap.size + 1 + 1 := by omega
  have l3 : s < w.heap.size + 1 + 1 + 1 := by omega
  have k0 := cell_of hs 0
  have k1 := cell_of hs 1
  have k2 := cell_of hs 2
  have k3 := cell_of hs 3
  have k4 := cell_of hs 4
  have k5 := cell_of hs 5
  have k6 := cell_of hs 6
  have k7 := cell_of hs 7
  simp at k0 k1 k2 k3 k4 k5 k6 k7
  clear hs
  go_enter Tryz.func146, Tryz.ntmps146
  go_wp2
  refine wp_loop_rounds 1 ?_
  iterate 1 (rw [rounds_succ]; go_wp2)
  go_ret
  exact ⟨rfl, by (repeat' (first | exact Ext.refl _ | assumption | apply Ext.allocR | apply Ext.drewR | apply Ext.drewNR | (refine Ext.trans' ?_ (by assumption))))⟩
set_option maxRecDepth 100000 in
set_option maxHeartbeats 2000000 in
theorem within_no02 (a b c d : Int) (s : Nat) (w : World)
    (f0 : decide (a < 1) = false) (g0 : decide (59 < a) = true)
    (hs : w.heap[s]? = some (.cells #[.int .i64 a, .int .i64 59, .int .i64 b, .int .i64 8, .int .i64 c, .int .i64 128, .int .i64 d, .int .i64 3] 229 (0, 0))) :
    Calls Tryz.prog 146 #[.slice (some ⟨s, 0, none⟩) 4 4] w fun e w' => e = .returned (.bool false) ∧ Ext w w' := by
  have hlt := lt_of hs
  have l1 : s < w.heap.size + 1 := by omega
  have l2 : s < w.heap.size + 1 + 1 := by omega
  have l3 : s < w.heap.size + 1 + 1 + 1 := by omega
  have k0 := cell_of hs 0
  have k1 := cell_of hs 1
  have k2 := cell_of hs 2
  have k3 := cell_of hs 3
  have k4 := cell_of hs 4
  have k5 := cell_of hs 5
  have k6 := cell_of hs 6
  have k7 := cell_of hs 7
  simp at k0 k1 k2 k3 k4 k5 k6 k7
  clear hs
  go_enter Tryz.func146, Tryz.ntmps146
  go_wp2
  refine wp_loop_rounds 1 ?_
  iterate 1 (rw [rounds_succ]; go_wp2)
  go_ret
  exact ⟨rfl, by (repeat' (first | exact Ext.refl _ | assumption | apply Ext.allocR | apply Ext.drewR | apply Ext.drewNR | (refine Ext.trans' ?_ (by assumption))))⟩
set_option maxRecDepth 100000 in
set_option maxHeartbeats 2000000 in
theorem within_no11 (a b c d : Int) (s : Nat) (w : World)
    (f0 : decide (a < 1) = false) (g0 : decide (59 < a) = false) (f1 : decide (b < 1) = true)
    (hs : w.heap[s]? = some (.cells #[.int .i64 a, .int .i64 59, .int .i64 b, .int .i64 8, .int .i64 c, .int .i64 128, .int .i64 d, .int .i64 3] 229 (0, 0))) :
    Calls Tryz.prog 146 #[.slice (some ⟨s, 0, none⟩) 4 4] w fun e w' => e = .returned (.bool false) ∧ Ext w w' := by
  have hlt := lt_of hs
  have l1 : s < w.heap.size + 1 := by omega
  have l2 : s < w.heap.size + 1 + 1 := by omega
  have l3 : s < w.heap.size + 1 + 1 + 1 := by omega
  have k0 := cell_of hs 0
  have k1 := cell_of hs 1
  have k2 := cell_of hs 2
  have k3 := cell_of hs 3
  have k4 := cell_of hs 4
  have k5 := cell_of hs 5
  have k6 := cell_of hs 6
  have k7 := cell_of hs 7
  simp at k0 k1 k2 k3 k4 k5 k6 k7
  clear hs
  go_enter Tryz.func146, Tryz.ntmps146
  go_wp2
  refine wp_loop_rounds 2 ?_
  iterate 2 (rw [rounds_succ]; go_wp2)
  go_ret
  exact ⟨rfl, by (repeat' (first | exact Ext.refl _ | assumption | apply Ext.allocR | apply Ext.drewR | apply Ext.drewNR | (refine Ext.trans' ?_ (by assumption))))⟩
set_option maxRecDepth 100000 in
set_option maxHeartbeats 2000000 in
theorem within_no12 (a b c d : Int) (s : Nat) (w : World)
    (f0 : decide (a < 1) = false) (g0 : decide (59 < a) = false) (f1 : decide (b < 1) = false) (g1 : decide (8 < b) = true)
    (hs : w.heap[s]? = some (.cells #[.int .i64 a, .int .i64 59, .int .i64 b, .int .i64 8, .int .i64 c, .int .i64 128, .int .i64 d, .int .i64 3] 229 (0, 0))) :
    Calls Tryz.prog 146 #[.slice (some ⟨s, 0, none⟩) 4 4] w fun e w' => e = .returned (.bool false) ∧ Ext w w' := by
  have hlt := lt_of hs
  have l1 : s < w.heap.size + 1 := by omega
  have l2 : s < w.heap.size + 1 + 1 := by omega
  have l3 : s < w.heap.size + 1 + 1 + 1 := by omega
  have k0 := cell_of hs 0
  have k1 := cell_of hs 1
  have k2 := cell_of hs 2
  have k3 := cell_of hs 3
  have k4 := cell_of hs 4
  have k5 := cell_of hs 5
  have k6 := cell_of hs 6
  have k7 := cell_of hs 7
  simp at k0 k1 k2 k3 k4 k5 k6 k7
  clear hs
  go_enter Tryz.func146, Tryz.ntmps146
  go_wp2
  refine wp_loop_rounds 2 ?_
  iterate 2 (rw [rounds_succ]; go_wp2)
  go_ret
  exact ⟨rfl, by (repeat' (first | exact Ext.refl _ | assumption | apply Ext.allocR | apply Ext.drewR | apply Ext.drewNR | (refine Ext.trans' ?_ (by assumption))))⟩
set_option maxRecDepth 100000 in
set_option maxHeartbeats 2000000 in
theorem within_no21 (a b c d : Int) (s : Nat) (w : World)
    (f0 : decide (a < 1) = false) (g0 : decide (59 < a) = false) (f1 : decide (b < 1) = false) (g1 : decide (8 < b) = false) (f2 : decide (c < 1) = true)
    (hs : w.heap[s]? = some (.cells #[.int .i64 a, .int .i64 59, .int .i64 b, .int .i64 8, .int .i64 c, .int .i64 128, .int .i64 d, .int .i64 3] 229 (0, 0))) :
    Calls Tryz.prog 146 #[.slice (some ⟨s, 0, none⟩) 4 4] w fun e w' => e = .returned (.bool false) ∧ Ext w w' := by
  have hlt := lt_of hs
  have l1 : s < w.heap.size + 1 := by omega
  have l2 : s < w.heap.size + 1 + 1 := by omega
  have l3 : s < w.heap.size + 1 + 1 + 1 := by omega
  have k0 := cell_of hs 0
  have k1 := cell_of hs 1
  have k2 := cell_of hs 2
  have k3 := cell_of hs 3
  have k4 := cell_of hs 4
  have k5 := cell_of hs 5
  have k6 := cell_of hs 6
  have k7 := cell_of hs 7
  simp at k0 k1 k2 k3 k4 k5 k6 k7
  clear hs
  go_enter Tryz.func146, Tryz.ntmps146
  go_wp2
  refine wp_loop_rounds 3 ?_
  iterate 3 (rw [rounds_succ]; go_wp2)
  go_ret
  exact ⟨rfl, by (repeat' (first | exact Ext.refl _ | assumption | apply Ext.allocR | apply Ext.drewR | apply Ext.drewNR | (refine Ext.trans' ?_ (by assumption))))⟩
set_option maxRecDepth 100000 in
set_option maxHeartbeats 2000000 in
theorem within_no22 (a b c d : Int) (s : Nat) (w : World)
    (f0 : decide (a < 1) = false) (g0 : decide (59 < a) = false) (f1 : decide (b < 1) = false) (g1 : decide (8 < b) = false) (f2 : decide (c < 1) = false) (g2 : decide (128 < c) = true)
    (hs : w.heap[s]? = some (.cells #[.int .i64 a, .int .i64 59, .int .i64 b, .int .i64 8, .int .i64 c, .int .i64 128, .int .i64 d, .int .i64 3] 229 (0, 0))) :
    Calls Tryz.prog 146 #[.slice (some ⟨s, 0, none⟩) 4 4] w fun e w' => e = .returned (.bool false) ∧ Ext w w' := by
  have hlt := lt_of hs
  have l1 : s < w.heap.size + 1 := by omega
  have l2 : s < w.heap.size + 1 + 1 := by omega
  have l3 : s < w.heap.size + 1 + 1 + 1 := by omega
  have k0 := cell_of hs 0
  have k1 := cell_of hs 1
  have k2 := cell_of hs 2
  have k3 := cell_of hs 3
  have k4 := cell_of hs 4
  have k5 := cell_of hs 5
  have k6 := cell_of hs 6
  have k7 := cell_of hs 7
  simp at k0 k1 k2 k3 k4 k5 k6 k7
  clear hs
  go_enter Tryz.func146, Tryz.ntmps146
  go_wp2
  refine wp_loop_rounds 3 ?_
  iterate 3 (rw [rounds_succ]; go_wp2)
  go_ret
  exact ⟨rfl, by (repeat' (first | exact Ext.refl _ | assumption | apply Ext.allocR | apply Ext.drewR | apply Ext.drewNR | (refine Ext.trans' ?_ (by assumption))))⟩
set_option maxRecDepth 100000 in
set_option maxHeartbeats 2000000 in
theorem within_no31 (a b c d : Int) (s : Nat) (w : World)
    (f0 : decide (a < 1) = false) (g0 : decide (59 < a) = false) (f1 : decide (b < 1) = false) (g1 : decide (8 < b) = false) (f2 : decide (c < 1) = false) (g2 : decide (128 < c) = false) (f3 : decide (d < 1) = true)
    (hs : w.heap[s]? = some (.cells #[.int .i64 a, .int .i64 59, .int .i64 b, .int .i64 8, .int .i64 c, .int .i64 128, .int .i64 d, .int .i64 3] 229 (0, 0))) :
    Calls Tryz.prog 146 #[.slice (some ⟨s, 0, none⟩) 4 4] w fun e w' => e = .returned (.bool false) ∧ Ext w w' := by
  have hlt := lt_of hs
  have l1 : s < w.heap.size + 1 := by omega
  have l2 : s < w.heap.size + 1 + 1 := by omega
  have l3 : s < w.heap.size + 1 + 1 + 1 := by omega
  have k0 := cell_of hs 0
  have k1 := cell_of hs 1
  have k2 := cell_of hs 2
  have k3 := cell_of hs 3
  have k4 := cell_of hs 4
  have k5 := cell_of hs 5
  have k6 := cell_of hs 6
  have k7 := cell_of hs 7
  simp at k0 k1 k2 k3 k4 k5 k6 k7
  clear hs
  go_enter Tryz.func146, Tryz.ntmps146
  go_wp2
  refine wp_loop_rounds 4 ?_
  iterate 4 (rw [rounds_succ]; go_wp2)
  go_ret
  exact ⟨rfl, by (repeat' (first | exact Ext.refl _ | assumption | apply Ext.allocR | apply Ext.drewR | apply Ext.drewNR | (refine Ext.trans' ?_ (by assumption))))⟩
set_option maxRecDepth 100000 in
set_option maxHeartbeats 2000000 in
theorem within_no32 (a b c d : Int) (s : Nat) (w : World)
    (f0 : decide (a < 1) = false) (g0 : decide (59 < a) = false) (f1 : decide (b < 1) = false) (g1 : decide (8 < b) = false) (f2 : decide (c < 1) = false) (g2 : decide (128 < c) = false) (f3 : decide (d < 1) = false) (g3 : decide (3 < d) = true)
    (hs : w.heap[s]? = some (.cells #[.int .i64 a, .int .i64 59, .int .i64 b, .int .i64 8, .int .i64 c, .int .i64 128, .int .i64 d, .int .i64 3] 229 (0, 0))) :
    Calls Tryz.prog 146 #[.slice (some ⟨s, 0, none⟩) 4 4] w fun e w' => e = .returned (.bool false) ∧ Ext w w' := by
  have hlt := lt_of hs
  have l1 : s < w.heap.size + 1 := by omega
  have l2 : s < w.heap.size + 1 + 1 := by omega
  have l3 : s < w.heap.size + 1 + 1 + 1 := by omega
  have k0 := cell_of hs 0
  have k1 := cell_of hs 1
  have k2 := cell_of hs 2
  have k3 := cell_of hs 3
  have k4 := cell_of hs 4
  have k5 := cell_of hs 5
  have k6 := cell_of hs 6
  have k7 := cell_of hs 7
  simp at k0 k1 k2 k3 k4 k5 k6 k7
  clear hs
  go_enter Tryz.func146, Tryz.ntmps146
  go_wp2
  refine wp_loop_rounds 4 ?_
  iterate 4 (rw [rounds_succ]; go_wp2)
  go_ret
  exact ⟨rfl, by (repeat' (first | exact Ext.refl _ | assumption | apply Ext.allocR | apply Ext.drewR | apply Ext.drewNR | (refine Ext.trans' ?_ (by assumption))))⟩
def okB (c : Cfg) : Bool := decide (1 ≤ c.bits ∧ c.bits ≤ 59 ∧ 1 ≤ c.rows ∧ c.rows ≤ 8 ∧ 1 ≤ c.width ∧ c.width ≤ 128 ∧ 1 ≤ c.mode ∧ c.mode ≤ 3)
theorem okB_true {c : Cfg} (h : c.Ok) : okB c = true := by
  obtain ⟨b1, b2, r1, r2, w1, w2, m1, m2, s⟩ := h
  unfold okB; exact decide_eq_true ⟨b1, b2, r1, r2, w1, w2, m1, m2⟩
theorem okB_ok {c : Cfg} (h : okB c = true) (hs : U64 c.seed) : c.Ok := by
  have := of_decide_eq_true h
  exact ⟨this.1, this.2.1, this.2.2.1, this.2.2.2.1, this.2.2.2.2.1, this.2.2.2.2.2.1, this.2.2.2.2.2.2.1, this.2.2.2.2.2.2.2, hs⟩
theorem within_bad (c : Cfg) (h : okB c = false) (s : Nat) (w : World)
    (hs : w.heap[s]? = some (.cells #[.int .i64 c.bits, .int .i64 59, .int .i64 c.rows, .int .i64 8, .int .i64 c.width, .int .i64 128, .int .i64 c.mode, .int .i64 3] 229 (0, 0))) :
    Calls Tryz.prog 146 #[.slice (some ⟨s, 0, none⟩) 4 4] w fun e w' => e = .returned (.bool false) ∧ Ext w w' := by
  have h' := of_decide_eq_false h
  by_cases a1 : c.bits < 1
  · exact within_no01 _ _ _ _ s w (decide_eq_true a1) hs
  by_cases a2 : 59 < c.bits
  · exact within_no02 _ _ _ _ s w (decide_eq_false a1) (decide_eq_true a2) hs
  by_cases b1 : c.rows < 1
  · exact within_no11 _ _ _ _ s w (decide_eq_false a1) (decide_eq_false a2) (decide_eq_true b1) hs
  by_cases b2 : 8 < c.rows
  · exact within_no12 _ _ _ _ s w (decide_eq_false a1) (decide_eq_false a2) (decide_eq_false b1) (decide_eq_true b2) hs
  by_cases c1 : c.width < 1
  · exact within_no21 _ _ _ _ s w (decide_eq_false a1) (decide_eq_false a2) (decide_eq_false b1) (decide_eq_false b2) (decide_eq_true c1) hs
  by_cases c2 : 128 < c.width
  · exact within_no22 _ _ _ _ s w (decide_eq_false a1) (decide_eq_false a2) (decide_eq_false b1) (decide_eq_false b2) (decide_eq_false c1) (decide_eq_true c2) hs
  by_cases d1 : c.mode < 1
  · exact within_no31 _ _ _ _ s w (decide_eq_false a1) (decide_eq_false a2) (decide_eq_false b1) (decide_eq_false b2) (decide_eq_false c1) (decide_eq_false c2) (decide_eq_true d1) hs
  by_cases d2 : 3 < c.mode
  · exact within_no32 _ _ _ _ s w (decide_eq_false a1) (decide_eq_false a2) (decide_eq_false b1) (decide_eq_false b2) (decide_eq_false c1) (decide_eq_false c2) (decide_eq_false d1) (decide_eq_true d2) hs
  exact absurd ⟨by omega, by omega, by omega, by omega, by omega, by omega, by omega, by omega⟩ h'
set_option maxHeartbeats 1000000 in
theorem Right_no (c : Cfg) (h : okB c = false) (w : World) :
    Calls Tryz.prog 85 #[.agg #[.int .i64 c.bits, .int .i64 c.rows, .int .i64 c.width, .int .i64 c.mode, .int .u64 c.seed]] w fun e w' => e = .returned (.bool false) ∧ Ext w w' := by
  go_enter Tryz.func85, Tryz.ntmps85
  go_wp2_with (go_at_call 146; refine (within_bad c h _ _ ?hs).mono ?_)
  · skip
    exact heap_at _ _ (by simp only [size_alloc])
  rintro e w1 ⟨rfl, hb⟩
  go_wp2
  go_ret
  refine ⟨rfl, ?_⟩
  (repeat' (first | exact Ext.refl _ | assumption | apply Ext.allocR | apply Ext.drewR | apply Ext.drewNR | (refine Ext.trans' ?_ (by assumption))))
set_option maxRecDepth 20000 in
set_option maxHeartbeats 1000000 in
theorem KNew_no (C : Cfg) (h : okB C = false) (w : World) :
    Calls Tryz.prog 16 #[.agg #[.int .i64 C.bits, .int .i64 C.rows, .int .i64 C.width, .int .i64 C.mode, .int .u64 C.seed]] w fun e w' => e = .returned (.tuple #[.pointer none, .int .i64 1]) ∧ Ext w w' := by
  go_enter Tryz.func16, Tryz.ntmps16
  go_wp2_with fail
  refine (Right_no C h _).mono ?_
  rintro e w1 ⟨rfl, hb⟩
  go_wp2
  go_ret2
  refine ⟨rfl, ?_⟩
  (repeat' (first | exact Ext.refl _ | assumption | apply Ext.allocR | apply Ext.drewR | apply Ext.drewNR | (refine Ext.trans' ?_ (by assumption))))
end Go.Proofs.YtfhdjekpdifajaaGreat

/- Plain law: small updates made to a stack of noughts are never refused. -/
namespace Go.Proofs.YtfhdjekpdifajaaGreat
set_option linter.unusedVariables false
open Go.RowKit

theorem zs_bnd (n : Nat) : Bnd 0 (zs n) := by
  intro x hx
  simp only [zs, List.mem_replicate] at hx
  omega
theorem lvE_ok {C : Cfg} {lv : Int} {l : List Int} {key d B T : Int} (h : Bnd B l) (hB : 0 ≤ B) (hT : 0 ≤ T) (hd : -T ≤ d ∧ d ≤ T) (hs : B + T ≤ 4611686018427387904) (hk : key < keys C lv) (hm : C.mode = 2 → 0 ≤ d) : lvE C lv l key d = 0 := by
  cases hx : isX C lv with
  | false => rw [lvE_s hx]; exact upd_ok h hB hT hd hs hk hm
  | true =>
    rw [lvE_x hx, errX_sum hk (fun hh => by have := hm hh.1; omega)]
    have h2 := h.getD hB key.toNat
    rw [fitB_yes (by unfold I64; omega)]
    rfl
theorem lvU_bnd {C : Cfg} {lv : Int} {l : List Int} {key d B T : Int} (h : Bnd B l) (hB : 0 ≤ B) (hT : 0 ≤ T) (hd : -T ≤ d ∧ d ≤ T) : Bnd (B + T) (lvU C lv l key d) := by
  cases hx : isX C lv with
  | false => rw [lvU_s hx]; exact upd_bnd h hB hT hd
  | true =>
    rw [lvU_x hx]
    intro x hx
    unfold updX at hx
    rcases List.mem_or_eq_of_mem_set hx with h1 | rfl
    · have := h x h1; omega
    · have h2 := h.getD hB key.toNat; omega
theorem updK_bnd {C : Cfg} {ls : Nat → List Int} {key d B' T : Int} {n : Nat} (h : Bnd B' (ls n)) (hB : 0 ≤ B') (hT : 0 ≤ T) (hd : -T ≤ d ∧ d ≤ T) : Bnd (B' + T) (updK C ls key d n) := lvU_bnd h hB hT hd
theorem errK_ok {C : Cfg} (hok : C.Ok) {B : Nat} (hBb : C.bits = B) {ls : Nat → List Int} {key d B' T : Int} (h : ∀ n, n ≤ B → Bnd B' (ls n)) (hB : 0 ≤ B') (hT : 0 ≤ T) (hd : -T ≤ d ∧ d ≤ T) (hs : B' + T ≤ 4611686018427387904) (hk0 : 0 ≤ key) (hk : key < keys C 0) (hm : C.mode = 2 → 0 ≤ d) : errK C B ls key d = 0 :=
  errK_zero.2 ⟨hk, fun n hn => lvE_ok (h n hn) hB hT hd hs (sh_lt hok (by omega) hk0 hk) hm⟩
theorem feedK_bnd (C : Cfg) (us : List (Int × Int)) (n : Nat) : Bnd (us.length * 1099511627776) (feedK C us n) := by
  refine snoc_ind (P := fun us => Bnd (us.length * 1099511627776) (feedK C us n)) ?_ ?_ us
  · exact zs_bnd _
  · intro us u ih
    rw [feedK_snoc]
    have := updK_bnd (C := C) (ls := feedK C us) (key := cutK C 0 u.1) (d := cutD C.mode u.2) (n := n) ih (by omega) (show (0 : Int) ≤ 1099511627776 by decide) (by have := cutD_bd C.mode u.2; omega)
    have e : ((us ++ [u]).length : Int) * 1099511627776 = us.length * 1099511627776 + 1099511627776 := by
      rw [List.length_append, List.length_singleton]; push_cast; omega
    rw [e]
    exact this
theorem feedK_ok (C : Cfg) (hok : C.Ok) {B : Nat} (hBb : C.bits = B) (us : List (Int × Int)) (hl : us.length ≤ 1000) (u : Int × Int) : errK C B (feedK C us) (cutK C 0 u.1) (cutD C.mode u.2) = 0 := by
  have hk := cutK_bd C hok 0 u.1 (Int.le_refl 0)
  refine errK_ok hok hBb (fun n _ => feedK_bnd C us n) (by omega) (show (0 : Int) ≤ 1099511627776 by decide) (by have := cutD_bd C.mode u.2; omega) (by omega) hk.1 hk.2 (fun h => cutD_nn h)
end Go.Proofs.YtfhdjekpdifajaaGreat

/- gaugerlaw15.shown: what the law shows of one small stack. -/
namespace Go.Proofs.YtfhdjekpdifajaaGreat
set_option linter.unusedVariables false
open Go.RowKit

def K0 : Cfg := ⟨2, 2, 2, 1, 0⟩
theorem K0_ok : K0.Ok := by constructor <;> simp [K0, U64]
theorem K0_x1 : isX K0 1 = true := by decide
theorem K0_x2 : isX K0 2 = true := by decide
theorem K0_x0 : isX K0 0 = false := by decide
def K0a : Nat → List Int := updK K0 (fun n => zs (lvN K0 n)) 3 5
def K0b : Nat → List Int := updK K0 K0a 0 (-2)
theorem K0_e1 : errK K0 2 (fun n => zs (lvN K0 n)) 3 5 = 0 := errK_ok K0_ok rfl (B' := 0) (T := 5) (fun n _ => zs_bnd _) (by decide) (by decide) (by decide) (by decide) (by decide) (by decide) (by decide)
theorem K0_e2 : errK K0 2 K0a 0 (-2) = 0 := errK_ok K0_ok rfl (B' := 5) (T := 5) (fun n hn => updK_bnd (B' := 0) (T := 5) (zs_bnd _) (by decide) (by decide) (by decide)) (by decide) (by decide) (by decide) (by decide) (by decide) (by decide) (by decide)
theorem K0_e3 : errK K0 2 K0b 4 1 = 2 := by unfold errK; rfl
theorem K0_l1 : K0b 1 = [-2, 5] := by
  unfold K0b K0a updK
  rw [show ((1 : Nat) : Int) = 1 from rfl, lvU_x K0_x1, lvU_x K0_x1]
  rfl
theorem K0_l2 : K0b 2 = [3] := by
  unfold K0b K0a updK
  rw [show ((2 : Nat) : Int) = 2 from rfl, lvU_x K0_x2, lvU_x K0_x2]
  rfl
theorem K0_l0 : (K0b 0).length = 4 := by
  unfold K0b K0a updK
  rw [lvU_len, lvU_len]
  rfl
def KFresh (N B : Nat) (L : Nat → Lev) : Prop := ∀ n, n ≤ B → N ≤ (L n).s ∧ N ≤ (L n).b ∧ N ≤ (L n).c
theorem KFresh.ext {w a b : World} {B : Nat} {L : Nat → Lev} (h : KFresh w.heap.size B L) (hE : Ext w a) (hM : Mod (cellsOf B L) a b) : Ext w b :=
  Below.trans hE (hM.below (B := w.heap.size) hE.size (fun k hk => by obtain ⟨n, hn, rfl⟩ := hk; exact (h n hn).2.2))
theorem ints2 (w : World) (a b : Int) (t : TypeId) : IntsAt (w.alloc (.cells #[.int .i64 a, .int .i64 b] t)) (.slice (some ⟨w.heap.size, 0, none⟩) 2 2) [a, b] := by
  have h0 := (cell_of (heap_at w (.cells #[.int .i64 a, .int .i64 b] t) rfl) 0).trans rfl
  have h1 := (cell_of (heap_at w (.cells #[.int .i64 a, .int .i64 b] t) rfl) 1).trans rfl
  refine .inr ⟨w.heap.size, 0, 2, rfl, by rw [size_alloc]; omega, fun k hk => ?_⟩
  match k, hk with
  | 0, _ => exact h0
  | 1, _ => exact h1
set_option maxRecDepth 20000 in
set_option maxHeartbeats 4000000 in
theorem shownK_c (w : World) : Calls Tryz.prog 14 #[] w fun e w' => e = .returned (.bool true) ∧ Ext w w' := by
  go_enter Tryz.func14, Tryz.ntmps14
  go_wp2_with fail
  refine (KNew_c K0 K0_ok _).mono ?_
  rintro e w1 ⟨s, g, L, rfl, hK, hs, hg, hL, hx1⟩
  have hE1 : Ext w w1 := by (repeat' (first | exact Ext.refl _ | assumption | apply Ext.allocR | apply Ext.drewR | apply Ext.drewNR | (refine Ext.trans' ?_ (by assumption))))
  have hF : KFresh w.heap.size 2 L := hL
  replace hK : KAt w1 s g K0 2 L (fun n => zs (lvN K0 n)) := hK
  clear hx1 hL hg hs
  go_wp2_with fail
  refine (KNew_no ⟨0, 0, 0, 0, 0⟩ rfl _).mono ?_
  rintro e w2 ⟨rfl, hx2⟩
  have hE2 : Ext w w2 := by (repeat' (first | exact Ext.refl _ | assumption | apply Ext.allocR | apply Ext.drewR | apply Ext.drewNR | (refine Ext.trans' ?_ (by assumption))))
  have hK2 := hK.ext (w' := w2) (by (repeat' (first | exact Ext.refl _ | assumption | apply Ext.allocR | apply Ext.drewR | apply Ext.drewNR | (refine Ext.trans' ?_ (by assumption)))))
  clear hK hx2 hE1
  go_wp2_with fail
  refine Calls.mono (KUpdate_c s g K0 2 L _ 3 5 _ (hK2.ext ?hx) (by unfold I64; omega) (by unfold U64; omega)) ?_
  case hx => (repeat' (first | exact Ext.refl _ | assumption | apply Ext.allocR | apply Ext.drewR | apply Ext.drewNR | (refine Ext.trans' ?_ (by assumption))))
  rintro e w3 ⟨rfl, hK3, hM3⟩
  have hE3 : Ext w w3 := hF.ext (by (repeat' (first | exact Ext.refl _ | assumption | apply Ext.allocR | apply Ext.drewR | apply Ext.drewNR | (refine Ext.trans' ?_ (by assumption))))) hM3
  rw [K0_e1] at hK3 ⊢
  replace hK3 : KAt w3 s g K0 2 L K0a := hK3
  clear hM3 hE2 hK2
  go_wp2_with fail
  refine Calls.mono (KUpdate_c s g K0 2 L _ 0 (-2) _ (hK3.ext ?hx) (by unfold I64; omega) (by unfold U64; omega)) ?_
  case hx => (repeat' (first | exact Ext.refl _ | assumption | apply Ext.allocR | apply Ext.drewR | apply Ext.drewNR | (refine Ext.trans' ?_ (by assumption))))
  rintro e w4 ⟨rfl, hK4, hM4⟩
  have hE4 : Ext w w4 := hF.ext (by (repeat' (first | exact Ext.refl _ | assumption | apply Ext.allocR | apply Ext.drewR | apply Ext.drewNR | (refine Ext.trans' ?_ (by assumption))))) hM4
  rw [K0_e2] at hK4 ⊢
  replace hK4 : KAt w4 s g K0 2 L K0b := hK4
  clear hM4 hE3 hK3
  go_wp2_with fail
  refine Calls.mono (KUpdate_c s g K0 2 L _ 4 1 _ (hK4.ext ?hx) (by unfold I64; omega) (by unfold U64; omega)) ?_
  case hx => (repeat' (first | exact Ext.refl _ | assumption | apply Ext.allocR | apply Ext.drewR | apply Ext.drewNR | (refine Ext.trans' ?_ (by assumption))))
  rintro e w5 ⟨rfl, hK5, hM5⟩
  have hE5 : Ext w w5 := hF.ext (by (repeat' (first | exact Ext.refl _ | assumption | apply Ext.allocR | apply Ext.drewR | apply Ext.drewNR | (refine Ext.trans' ?_ (by assumption))))) hM5
  rw [K0_e3] at hK5 ⊢
  replace hK5 : KAt w5 s g K0 2 L K0b := hK5
  clear hM5 hE4 hK4
  go_wp2_with fail
  refine Calls.mono (KPoint_c s g K0 2 L _ _ (hK5.ext ?hx) 1 (by decide) 1 (by decide) (by decide)) ?_
  case hx => (repeat' (first | exact Ext.refl _ | assumption | apply Ext.allocR | apply Ext.drewR | apply Ext.drewNR | (refine Ext.trans' ?_ (by assumption))))
  rintro e w6 ⟨x, rfl, hp, hx6⟩
  obtain rfl : x = 5 := by
    rcases hp with ⟨_, h⟩ | ⟨h, _⟩
    · rw [K0_l1] at h; exact h
    · exact absurd h (by rw [show ((1 : Nat) : Int) = 1 from rfl, K0_x1]; decide)
  have hE6 : Ext w w6 := by (repeat' (first | exact Ext.refl _ | assumption | apply Ext.allocR | apply Ext.drewR | apply Ext.drewNR | (refine Ext.trans' ?_ (by assumption))))
  have hK6 := hK5.ext (w' := w6) (by (repeat' (first | exact Ext.refl _ | assumption | apply Ext.allocR | apply Ext.drewR | apply Ext.drewNR | (refine Ext.trans' ?_ (by assumption)))))
  clear hK5 hx6 hE5 hp
  go_wp2_with fail
  refine Calls.mono (KPoint_lv s g K0 2 L _ _ (hK6.ext ?hx) 3 (.inr (by decide)) 0) ?_
  case hx => (repeat' (first | exact Ext.refl _ | assumption | apply Ext.allocR | apply Ext.drewR | apply Ext.drewNR | (refine Ext.trans' ?_ (by assumption))))
  rintro e w7 ⟨rfl, hx7⟩
  have hE7 : Ext w w7 := by (repeat' (first | exact Ext.refl _ | assumption | apply Ext.allocR | apply Ext.drewR | apply Ext.drewNR | (refine Ext.trans' ?_ (by assumption))))
  have hK7 := hK6.ext (w' := w7) (by (repeat' (first | exact Ext.refl _ | assumption | apply Ext.allocR | apply Ext.drewR | apply Ext.drewNR | (refine Ext.trans' ?_ (by assumption)))))
  clear hK6 hx7 hE6
  go_wp2_with fail
  refine Calls.mono (KAt_c s g K0 2 L _ _ (hK7.ext ?hx) 1 (by decide)) ?_
  case hx => (repeat' (first | exact Ext.refl _ | assumption | apply Ext.allocR | apply Ext.drewR | apply Ext.drewNR | (refine Ext.trans' ?_ (by assumption))))
  rintro e w8 ⟨M, rfl, _, _, _, _, hx8⟩
  have hE8 : Ext w w8 := by (repeat' (first | exact Ext.refl _ | assumption | apply Ext.allocR | apply Ext.drewR | apply Ext.drewNR | (refine Ext.trans' ?_ (by assumption))))
  have hK8 := hK7.ext (w' := w8) (by (repeat' (first | exact Ext.refl _ | assumption | apply Ext.allocR | apply Ext.drewR | apply Ext.drewNR | (refine Ext.trans' ?_ (by assumption)))))
  clear hK7 hx8 hE7
  rw [show lvV K0 (1 : Nat) M = .iface 176 (.pointer (some ⟨M.s, 0, none⟩)) from lvV_x K0_x1 M]
  go_wp2_with fail
  refine Calls.mono (KTotal_c s g K0 2 L _ _ (hK8.ext ?hx)) ?_
  case hx => (repeat' (first | exact Ext.refl _ | assumption | apply Ext.allocR | apply Ext.drewR | apply Ext.drewNR | (refine Ext.trans' ?_ (by assumption))))
  rintro e w9 ⟨rfl, hx9⟩
  have hE9 : Ext w w9 := by (repeat' (first | exact Ext.refl _ | assumption | apply Ext.allocR | apply Ext.drewR | apply Ext.drewNR | (refine Ext.trans' ?_ (by assumption))))
  have hK9 := hK8.ext (w' := w9) (by (repeat' (first | exact Ext.refl _ | assumption | apply Ext.allocR | apply Ext.drewR | apply Ext.drewNR | (refine Ext.trans' ?_ (by assumption)))))
  clear hK8 hx9 hE8
  rw [K0_l2]
  go_wp2_with fail
  refine Calls.mono (KCells_c s g K0 2 L _ _ (hK9.ext ?hx) 0 (by decide)) ?_
  case hx => (repeat' (first | exact Ext.refl _ | assumption | apply Ext.allocR | apply Ext.drewR | apply Ext.drewNR | (refine Ext.trans' ?_ (by assumption))))
  rintro e w10 ⟨v, rfl, ho, hne, hx10⟩
  have hE10 : Ext w w10 := by (repeat' (first | exact Ext.refl _ | assumption | apply Ext.allocR | apply Ext.drewR | apply Ext.drewNR | (refine Ext.trans' ?_ (by assumption))))
  have hK10 := hK9.ext (w' := w10) (by (repeat' (first | exact Ext.refl _ | assumption | apply Ext.allocR | apply Ext.drewR | apply Ext.drewNR | (refine Ext.trans' ?_ (by assumption)))))
  obtain ⟨p0, q0, rfl⟩ := own_len ho
  rw [K0_l0]
  clear hK9 hx10 hE9 ho hne
  go_wp2_with fail
  refine Calls.mono (KCells_c s g K0 2 L _ _ (hK10.ext ?hx) 1 (by decide)) ?_
  case hx => (repeat' (first | exact Ext.refl _ | assumption | apply Ext.allocR | apply Ext.drewR | apply Ext.drewNR | (refine Ext.trans' ?_ (by assumption))))
  rintro e w11 ⟨v, rfl, ho, hne, hx11⟩
  have hE11 : Ext w w11 := by (repeat' (first | exact Ext.refl _ | assumption | apply Ext.allocR | apply Ext.drewR | apply Ext.drewNR | (refine Ext.trans' ?_ (by assumption))))
  have hv := IntsAt.of_row ho
  rw [K0_l1] at hv
  clear hK10 hx11 hE10 ho hne
  go_wp2_with fail
  refine Calls.mono (Same_c _ _ _ _ _ (hv.ext (Ext.alloc' _ _)) (ints2 w11 (-2) 5 _) (by decide) (by decide)) ?_
  rintro e w12 ⟨rfl, hx12⟩
  go_wp2
  go_ret
  exact ⟨rfl, by (repeat' (first | exact Ext.refl _ | assumption | apply Ext.allocR | apply Ext.drewR | apply Ext.drewNR | (refine Ext.trans' ?_ (by assumption))))⟩
end Go.Proofs.YtfhdjekpdifajaaGreat

/- gaugerref15.Cut: an update of a key that there is. -/
namespace Go.Proofs.YtfhdjekpdifajaaGreat
set_option linter.unusedVariables false
open Go.RowKit

set_option maxRecDepth 20000 in
set_option maxHeartbeats 2000000 in
theorem Cut15_c (c : Cfg) (hok : c.Ok) (key d : Int) (hk : U64 key) (hd : I64 d) (w : World) :
    Calls Tryz.prog 81 #[.agg #[.int .i64 c.bits, .int .i64 c.rows, .int .i64 c.width, .int .i64 c.mode, .int .u64 c.seed], .agg #[.int .u64 key, .int .i64 d]] w fun e w' => e = .returned (.agg #[.int .u64 (cutK c 0 key), .int .i64 (cutD c.mode d)]) ∧ Ext w w' := by
  obtain ⟨t1, t2⟩ := tmod_bd d
  obtain ⟨k1, k2⟩ := hk
  obtain ⟨kb1, kb2⟩ := keys_bd c hok 0 (Int.le_refl 0)
  obtain ⟨d1, d2⟩ := hd
  have kz : (keys c 0 == 0) = false := by simp; omega
  have kz2 : (keys c 0 = 0) = False := by simp; omega
  have hcd : cutD c.mode d = bif decide (c.mode = 2) then max (d.tmod 1099511627776) (-(d.tmod 1099511627776)) else d.tmod 1099511627776 := rfl
  have HCD := Lib.hid hcd
  have hck : cutK c 0 key = key % keys c 0 := rfl
  have HCK := Lib.hid hck
  clear hcd hck
  by_cases hm : c.mode = 2
  · have hmb : (c.mode == 2) = true := by simp [hm]
    have HM := Lib.hid hm
    clear hm
    by_cases hs0 : d.tmod 1099511627776 < 0
    · have hv : cutD c.mode d = -(d.tmod 1099511627776) := by rw [HCD.out, decide_eq_true HM.out]; show max _ _ = _; omega
      have HV := Lib.hid hv
      clear hv
      go_enter Tryz.func81, Tryz.ntmps81
      go_wp2
      refine wp_region_after_tail 7 (by kernel_rfl) (by kernel_rfl) ?_
      simp only [List.take_succ_cons, List.take_zero, List.drop_succ_cons, List.drop_zero]
      repeat (go_big_quiet_step ((go_at_call 79; exact quiet_after (KeysR_c c hok 0 (Int.le_refl 0) (by have := hok.b1; omega) _))))
      refine wpQuiet_nil ?_
      rintro _ ⟨xx, rfl⟩
      obtain ⟨w1, hb1⟩ := xx
      try dsimp only
      have hs := hb1.size
      simp only [size_alloc] at hs
      have hcell : w1.heap[w.heap.size + 1 + 1]? = some (.cells #[.int .u64 0, .int .i64 0] 138 (0, 0)) := by
        rw [hb1.block _ (by simp only [size_alloc]; omega)]
        exact heap_at _ _ (by simp only [size_alloc])
      have p0 := (cell_of hcell 0).trans rfl
      have p1 := (cell_of hcell 1).trans rfl
      have f0 := frozen_of hcell 0
      have f1 := frozen_of hcell 1
      have hE : Ext w w1 := by (repeat' (first | exact Ext.refl _ | assumption | apply Ext.allocR | apply Ext.drewR | apply Ext.drewNR | (refine Ext.trans' ?_ (by assumption))))
      clear hb1
      go_wp2
      have r0 := set2_0 hcell (.int .u64 (key % keys c 0))
      have r1 := set2_1 hcell (.int .u64 (key % keys c 0)) (.int .i64 (-(d.tmod 1099511627776)))
      refine bodyPost_ret (v := .agg #[.int .u64 (key % keys c 0), .int .i64 (-(d.tmod 1099511627776))]) (by simp [results, Tryz.results81, go_sem, r0, r1]) rfl ⟨by rw [HV.out, HCK.out], ?_⟩
      exact (hE.setR (by show w.heap.size ≤ w.heap.size + 1 + 1; omega) _).setR (by show w.heap.size ≤ w.heap.size + 1 + 1; omega) _
    · have hv : cutD c.mode d = d.tmod 1099511627776 := by rw [HCD.out, decide_eq_true HM.out]; show max _ _ = _; omega
      have HV := Lib.hid hv
      clear hv
      go_enter Tryz.func81, Tryz.ntmps81
      go_wp2
      refine wp_region_after_tail 7 (by kernel_rfl) (by kernel_rfl) ?_
      simp only [List.take_succ_cons, List.take_zero, List.drop_succ_cons, List.drop_zero]
      repeat (go_big_quiet_step ((go_at_call 79; exact quiet_after (KeysR_c c hok 0 (Int.le_refl 0) (by have := hok.b1; omega) _))))
      refine wpQuiet_nil ?_
      rintro _ ⟨xx, rfl⟩
      obtain ⟨w1, hb1⟩ := xx
      try dsimp only
      have hs := hb1.size
      simp only [size_alloc] at hs
      have hcell : w1.heap[w.heap.size + 1 + 1]? = some (.cells #[.int .u64 0, .int .i64 0] 138 (0, 0)) := by
        rw [hb1.block _ (by simp only [size_alloc]; omega)]
        exact heap_at _ _ (by simp only [size_alloc])
      have p0 := (cell_of hcell 0).trans rfl
      have p1 := (cell_of hcell 1).trans rfl
      have f0 := frozen_of hcell 0
      have f1 := frozen_of hcell 1
      have hE : Ext w w1 := by (repeat' (first | exact Ext.refl _ | assumption | apply Ext.allocR | apply Ext.drewR | apply Ext.drewNR | (refine Ext.trans' ?_ (by assumption))))
      clear hb1
      go_wp2
      have r0 := set2_0 hcell (.int .u64 (key % keys c 0))
      have r1 := set2_1 hcell (.int .u64 (key % keys c 0)) (.int .i64 (d.tmod 1099511627776))
      refine bodyPost_ret (v := .agg #[.int .u64 (key % keys c 0), .int .i64 (d.tmod 1099511627776)]) (by simp [results, Tryz.results81, go_sem, r0, r1]) rfl ⟨by rw [HV.out, HCK.out], ?_⟩
      exact (hE.setR (by show w.heap.size ≤ w.heap.size + 1 + 1; omega) _).setR (by show w.heap.size ≤ w.heap.size + 1 + 1; omega) _
  · have hmb : (c.mode == 2) = false := by simp [hm]
    have hv : cutD c.mode d = d.tmod 1099511627776 := by rw [HCD.out, decide_eq_false hm]; rfl
    have HV := Lib.hid hv
    clear hv hm
    go_enter Tryz.func81, Tryz.ntmps81
    go_wp2
    refine wp_region_after_tail 7 (by kernel_rfl) (by kernel_rfl) ?_
    simp only [List.take_succ_cons, List.take_zero, List.drop_succ_cons, List.drop_zero]
    repeat (go_big_quiet_step ((go_at_call 79; exact quiet_after (KeysR_c c hok 0 (Int.le_refl 0) (by have := hok.b1; omega) _))))
    refine wpQuiet_nil ?_
    rintro _ ⟨xx, rfl⟩
    obtain ⟨w1, hb1⟩ := xx
    try dsimp only
    have hs := hb1.size
    simp only [size_alloc] at hs
    have hcell : w1.heap[w.heap.size + 1 + 1]? = some (.cells #[.int .u64 0, .int .i64 0] 138 (0, 0)) := by
      rw [hb1.block _ (by simp only [size_alloc]; omega)]
      exact heap_at _ _ (by simp only [size_alloc])
    have p0 := (cell_of hcell 0).trans rfl
    have p1 := (cell_of hcell 1).trans rfl
    have f0 := frozen_of hcell 0
    have f1 := frozen_of hcell 1
    have hE : Ext w w1 := by (repeat' (first | exact Ext.refl _ | assumption | apply Ext.allocR | apply Ext.drewR | apply Ext.drewNR | (refine Ext.trans' ?_ (by assumption))))
    clear hb1
    go_wp2
    have r0 := set2_0 hcell (.int .u64 (key % keys c 0))
    have r1 := set2_1 hcell (.int .u64 (key % keys c 0)) (.int .i64 (d.tmod 1099511627776))
    refine bodyPost_ret (v := .agg #[.int .u64 (key % keys c 0), .int .i64 (d.tmod 1099511627776)]) (by simp [results, Tryz.results81, go_sem, r0, r1]) rfl ⟨by rw [HV.out, HCK.out], ?_⟩
    exact (hE.setR (by show w.heap.size ≤ w.heap.size + 1 + 1; omega) _).setR (by show w.heap.size ≤ w.heap.size + 1 + 1; omega) _
end Go.Proofs.YtfhdjekpdifajaaGreat

/- gaugerref15.Has, walked: what the keys of a piece have of updates. -/
namespace Go.Proofs.YtfhdjekpdifajaaGreat
set_option linter.unusedVariables false
open Go.RowKit

/-- What the keys of a piece have of sixty updates. -/
def hasK (C : Cfg) (us : List (Int × Int)) (k n : Nat) (j : Int) : Int := hasP j (stP C n (fus us 0 k))
theorem stP_len (C : Cfg) (n : Nat) (us : List (Int × Int)) : (stP C n us).length = us.length := by simp [stP]
theorem stP_bnd (C : Cfg) (n : Nat) (us : List (Int × Int)) : ∀ u ∈ stP C n us, -1099511627776 ≤ u.2 ∧ u.2 ≤ 1099511627776 := by
  intro u hu
  simp only [stP, List.mem_map] at hu
  obtain ⟨p, _, rfl⟩ := hu
  have := cutD_bd C.mode p.2
  show _ ≤ cutD C.mode p.2 ∧ _
  omega
theorem hasK_bd (C : Cfg) (us : List (Int × Int)) {k : Nat} (hk : k ≤ 60) (n : Nat) (j : Int) : -65970697666560 ≤ hasK C us k n j ∧ hasK C us k n j ≤ 65970697666560 := by
  have := sumIf_bnd (fun x => x == j) 1099511627776 (by decide) (stP C n (fus us 0 k)) (stP_bnd C n _)
  have hl := fus_len us 0 k
  rw [stP_len] at this
  unfold hasK hasP
  omega
theorem hasK_zero (C : Cfg) (us : List (Int × Int)) (n : Nat) (j : Int) : hasK C us 0 n j = 0 := by unfold hasK; rw [fus_self]; rfl
theorem hasK_succ (C : Cfg) (us : List (Int × Int)) {k : Nat} (hk : k < us.length) (n : Nat) (j : Int) :
    hasK C us (k + 1) n j = hasK C us k n j + (bif sh n (cutK C 0 us[k].1) == j then cutD C.mode us[k].2 else 0) := by
  have hget : us.getD k (0, 0) = us[k] := by simp [hk]
  unfold hasK
  rw [fus_snoc us (Nat.zero_le k) hk, stP_snoc, hget]
  exact sumIf_snoc _ _ _
end Go.Proofs.YtfhdjekpdifajaaGreat

/- Small things for the statements about stacks: gaugerref07.Exact, what an exact level has. -/
namespace Go.Proofs.YtfhdjekpdifajaaGreat
set_option linter.unusedVariables false
open Go.RowKit
set_option maxRecDepth 20000 in
set_option maxHeartbeats 2000000 in
theorem ExactR_c (C : Cfg) (h : C.Ok) (lv : Int) (h0 : 0 ≤ lv) (h1 : lv ≤ C.bits) (w : World) :
    Calls Tryz.prog 100 #[.agg #[.int .i64 C.bits, .int .i64 C.rows, .int .i64 C.width, .int .i64 C.mode, .int .u64 C.seed], .int .i64 lv] w fun e w' => e = .returned (.bool (isX C lv)) ∧ Ext w w' := by
  have hk := keys_bd C h lv h0
  have w1' := h.w1
  have w2' := h.w2
  have hI : isX C lv = decide (keys C lv ≤ C.width) := rfl
  go_enter Tryz.func100, Tryz.ntmps100
  go_wp2_with fail
  refine (KeysR_c C h lv h0 h1 _).mono ?_
  rintro e w1 ⟨rfl, hb⟩
  have hE : Ext w w1 := by (repeat' (first | exact Ext.refl _ | assumption | apply Ext.allocR | apply Ext.drewR | apply Ext.drewNR | (refine Ext.trans' ?_ (by assumption))))
  have hC := (CfgAt.box (w := w) C 24 rfl).ext hb
  have c2 := hC.c2
  have cl := hC.lt
  have HI := Lib.hid hI
  generalize keys C lv = N at *
  clear hb hI hC
  by_cases hx : N ≤ C.width
  · go_wp2
    go_ret
    exact ⟨by rw [HI.out, decide_eq_true hx]; rfl, hE⟩
  · go_wp2
    go_ret
    exact ⟨by rw [HI.out, decide_eq_false (by omega)]; rfl, hE⟩
/-- What a stack that was fed has in all. -/
theorem feed_total {C : Cfg} (hok : C.Ok) {B : Nat} (hB : C.bits = B) {us : List (Int × Int)} (hus : UpsOk us) : (feedK C (fus us 0 60) B).getD 0 0 = hasK C us 60 B 0 :=
  feedK_x hok (by omega) (fun u hu => hus u (List.mem_of_mem_take (List.mem_of_mem_drop hu))) (isX_top hok hB) 0
theorem fus_ok {us : List (Int × Int)} (hus : UpsOk us) (i j : Nat) : UpsOk (fus us i j) := fun u hu => hus u (List.mem_of_mem_take (List.mem_of_mem_drop hu))
theorem pt_x {C : Cfg} (hok : C.Ok) {n : Nat} (hn : (n : Int) ≤ C.bits) {us : List (Int × Int)} (hus : UpsOk us) (hx : isX C n = true) {j z : Int} (hj : 0 ≤ j) (h : lvPt C n (feedK C (fus us 0 60) n) j z) : z = hasK C us 60 n j := by
  rcases h with ⟨_, h⟩ | ⟨h, _⟩
  · rw [h, feedK_x hok hn (fus_ok hus 0 60) hx]
    unfold hasK
    rw [show ((j.toNat : Nat) : Int) = j by omega]
  · rw [hx] at h; cases h
end Go.Proofs.YtfhdjekpdifajaaGreat

/- Plain law: where no key has less than 0, no prefix is told less than it has. -/
namespace Go.Proofs.YtfhdjekpdifajaaGreat
set_option linter.unusedVariables false
open Go.RowKit

/-- Has no key of the first k updates less than 0? -/
def plK (C : Cfg) (us : List (Int × Int)) (k : Nat) : Bool := (us.take k).all fun u => decide (0 ≤ hasK C us 60 0 (cutK C 0 u.1))
theorem plK_zero (C : Cfg) (us : List (Int × Int)) : plK C us 0 = true := rfl
theorem plK_succ (C : Cfg) (us : List (Int × Int)) {k : Nat} (hk : k < us.length) : plK C us (k + 1) = (plK C us k && decide (0 ≤ hasK C us 60 0 (cutK C 0 us[k].1))) := by
  unfold plK
  rw [List.take_succ_eq_append_getElem hk, List.all_append]
  simp
theorem plK_end (C : Cfg) (us : List (Int × Int)) {k : Nat} (h60 : k ≤ 60) (hk : k ≤ us.length) (he : ¬ (k < us.length ∧ k < 60)) : plK C us k = plK C us 60 := by
  unfold plK
  by_cases h : k = 60
  · rw [h]
  · have : k = us.length := by omega
    rw [this, List.take_length, List.take_of_length_le (by omega)]
theorem sh_zero (key : Int) : sh 0 key = key := by unfold sh; simp
/-- What a level is told is what level 0 is told, of the keys there. -/
theorem sumIf_stP (C : Cfg) (n : Nat) (p : Int → Bool) : ∀ us : List (Int × Int), sumIf p (stP C n us) = sumIf (fun k => p (sh n k)) (stP C 0 us)
  | [] => rfl
  | u :: us => by
    have ih := sumIf_stP C n p us
    show sumIf p ((sh n (cutK C 0 u.1), cutD C.mode u.2) :: stP C n us) = sumIf (fun k => p (sh n k)) ((sh 0 (cutK C 0 u.1), cutD C.mode u.2) :: stP C 0 us)
    rw [sumIf_cons, sumIf_cons, ih, sh_zero]
theorem pl_nn {C : Cfg} {us : List (Int × Int)} (h : plK C us 60 = true) (n : Nat) (p : Int → Bool) : 0 ≤ sumIf p (stP C n (fus us 0 60)) := by
  rw [sumIf_stP]
  refine sumIf_nn _ _ _ (Nat.le_refl _) fun u hu => ?_
  simp only [stP, List.mem_map] at hu
  obtain ⟨v, hv, rfl⟩ := hu
  unfold plK at h
  rw [List.all_eq_true] at h
  have := h v (by unfold fus at hv; simpa using hv)
  have h2 := of_decide_eq_true this
  rw [show ((sh 0 (cutK C 0 v.1), cutD C.mode v.2) : Int × Int).1 = cutK C 0 v.1 from sh_zero _]
  exact h2
theorem cols_lenR {C : Cfg} (hok : C.Ok) (lv key : Int) {R W : Nat} (hr : C.rows = R) (hw : C.width = W) : (cols C lv key).length = R := (cols_meets C hok lv key hr hw).len
/-- No prefix is told less than it has. -/
theorem over_law {C : Cfg} (hok : C.Ok) {n : Nat} (hn : (n : Int) ≤ C.bits) {us : List (Int × Int)} (hus : UpsOk us) (hm : C.mode ≠ 3) (hp : plK C us 60 = true) {j z : Int} (hj : 0 ≤ j)
    (h : lvPt C n (feedK C (fus us 0 60) n) j z) : hasK C us 60 n j ≤ z := by
  cases hx : isX C n with
  | true => exact Int.le_of_eq (pt_x hok hn hus hx hj h).symm
  | false =>
    rcases h with ⟨h, _⟩ | ⟨_, h⟩
    · rw [hx] at h; cases h
    rw [if_neg hm, feedK_s hok hn (fus_ok hus 0 60) hx] at h
    have hr := rN_eq hok
    have hw := wN_eq hok
    have hR : 0 < rN C := by have := hok.r1; omega
    have hs : cutP C n (shU n (fus us 0 60)) = stP C n (fus us 0 60) := stP_cutP hok hn (fus_ok hus 0 60)
    unfold hasK
    by_cases h2 : C.mode = 2
    · obtain ⟨h1, _⟩ := kth0_spec h
      unfold readL at h1
      rw [cols_lenR hok n j hr hw] at h1
      simp only [List.mem_map, List.mem_range] at h1
      obtain ⟨r, hrr, rfl⟩ := h1
      have := cons_low C hok n (rN C) (wN C) hr hw h2 (shU n (fus us 0 60)) j r hrr
      rw [hs] at this
      exact this
    · rw [read_cell C hok n (rN C) (wN C) hr hw h2, hs] at h
      have e := least_of h
      obtain ⟨r, _, hr2⟩ := leastF_mem (fun r => othP C n j r (stP C n (fus us 0 60))) (rN C) hR
      have hnn : 0 ≤ othP C n j r (stP C n (fus us 0 60)) := pl_nn hp n _
      rw [e, hr2]
      omega
end Go.Proofs.YtfhdjekpdifajaaGreat

/- gaugerref16.Between, walked: what the keys of a span have of updates. -/
namespace Go.Proofs.YtfhdjekpdifajaaGreat
set_option linter.unusedVariables false
open Go.RowKit
def inB (lo hi : Int) (u : Int) : Bool := decide (lo ≤ u) && decide (u ≤ hi)
/-- What the keys from lo to hi have of sixty updates. -/
def betK (C : Cfg) (us : List (Int × Int)) (k : Nat) (lo hi : Int) : Int := sumIf (inB lo hi) (stP C 0 (fus us 0 k))
theorem betK_bd (C : Cfg) (us : List (Int × Int)) {k : Nat} (hk : k ≤ 60) (lo hi : Int) : -65970697666560 ≤ betK C us k lo hi ∧ betK C us k lo hi ≤ 65970697666560 := by
  have := sumIf_bnd (inB lo hi) 1099511627776 (by decide) (stP C 0 (fus us 0 k)) (stP_bnd C 0 _)
  have hl := fus_len us 0 k
  rw [stP_len] at this
  unfold betK
  omega
theorem betK_zero (C : Cfg) (us : List (Int × Int)) (lo hi : Int) : betK C us 0 lo hi = 0 := by unfold betK; rw [fus_self]; rfl
theorem betK_succ (C : Cfg) (us : List (Int × Int)) {k : Nat} (hk : k < us.length) (lo hi : Int) :
    betK C us (k + 1) lo hi = betK C us k lo hi + (bif inB lo hi (cutK C 0 us[k].1) then cutD C.mode us[k].2 else 0) := by
  have hget : us.getD k (0, 0) = us[k] := by simp [hk]
  unfold betK
  rw [fus_snoc us (Nat.zero_le k) hk, stP_snoc, hget, sh_zero]
  exact sumIf_snoc _ _ _
set_option maxRecDepth 20000 in
set_option maxHeartbeats 4000000 in
theorem Between16_c (us : List (Int × Int)) (hus : UpsOk us) (v : Value) (C : Cfg) (hok : C.Ok) (lo hi : Int) (hlo : U64 lo) (hhi : U64 hi) (w : World) (hv : UpsAt w v us) (hul : us.length ≤ 140737488355328) :
    Calls Tryz.prog 82 #[.agg #[.int .i64 C.bits, .int .i64 C.rows, .int .i64 C.width, .int .i64 C.mode, .int .u64 C.seed], v, .int .u64 lo, .int .u64 hi] w
      fun e w' => e = .returned (.int .i64 (betK C us 60 lo hi)) ∧ Ext w w' := by
  obtain ⟨vp, vc, rfl⟩ := hv.sl
  have HV := Lib.hid hv
  clear hv
  go_enter Tryz.func82, Tryz.ntmps82
  go_wp2_with fail
  go_loopw [9, 10] (fun u7 u8 wr => ∃ k : Nat, k ≤ 60 ∧ k ≤ us.length ∧ u7 = .int .i64 (betK C us k lo hi) ∧ u8 = .int .i64 k ∧ Ext w wr ∧ CfgAt wr w.heap.size C) (fun _ u8 _ => 60 - (intOf u8).toNat)
  case atStart =>
    exact ⟨0, Nat.zero_le _, Nat.zero_le _, by rw [betK_zero], rfl, by (repeat' (first | exact Ext.refl _ | assumption | apply Ext.allocR | apply Ext.drewR | apply Ext.drewNR | (refine Ext.trans' ?_ (by assumption)))), CfgAt.box C _ rfl⟩
  case round =>
    obtain ⟨k, hk60, hkl, rfl, rfl, hE, hC⟩ := hrel
    have l1 := hC.lt
    obtain ⟨hsb1, hsb2⟩ := betK_bd C us hk60 lo hi
    by_cases hgo : k < us.length ∧ k < 60
    · obtain ⟨hg1, hg2⟩ := hgo
      obtain ⟨ug, off, rfl, hul0, d0, d1⟩ := (UpsAt.ext HV.out hE).one hg1
      have hu := hus _ (List.getElem_mem hg1)
      have hsn := betK_succ C us hg1 lo hi
      have c0 := hC.c0
      have c1 := hC.c1
      have c2 := hC.c2
      have c3 := hC.c3
      have c4 := hC.c4
      generalize us[k] = uu at *
      obtain ⟨uk, ud⟩ := uu
      generalize betK C us k lo hi = s at *
      have HSN := Lib.hid hsn
      have HC := Lib.hid hC
      clear hsn hC
      go_upto_region 5 with (fail)
      go_cut [11] (fun s11 wx => ∃ bu : Nat, s11 = .pointer (some ⟨bu, 0, none⟩) ∧ wx.heap[bu]? = some (.cells #[.int .u64 (cutK C 0 uk), .int .i64 (cutD C.mode ud)] 138 (0, 0)) ∧ Ext wr wx ∧ wr.heap.size ≤ bu)
      case first =>
        have hC0 := af_drew wr
        refine pi_start (fun w' => ∃ x : After wr, w' = x.w) [] (by kernel_rfl) ?_
        refine pi_c 0 (by assumption) rfl (by kernel_rfl) (by kernel_rfl) (fun _ _ _ _ h => h) (fun K hK => ?_)
        go_big_quiet_op
        refine hK _ ?_
        clear hK K
        refine pi_t 1 rfl (by kernel_rfl) (by kernel_rfl) (fun _ _ _ _ h => h) (fun K hK => ?_)
        go_big_quiet_op
        refine hK _ ?_
        clear hK K
        refine pi_t 2 rfl (by kernel_rfl) (by kernel_rfl) (fun _ _ _ _ h => h) (fun K hK => ?_)
        go_big_quiet_op
        refine hK _ ?_
        clear hK K
        refine pi_t 3 rfl (by kernel_rfl) (by kernel_rfl) (fun _ _ _ _ h => h) (fun K hK => ?_)
        go_big_quiet_op
        refine hK _ ?_
        clear hK K
        refine pi_c 4 (by assumption) rfl (by kernel_rfl) (by kernel_rfl) (fun _ _ _ _ h => h) (fun K hK => ?_)
        go_big_quiet_op
        refine hK _ ?_
        clear hK K
        refine pi_b 5 6 rfl rfl (by kernel_rfl) (fun K hK => ?_) (fun K hK => ?_)
        · go_wp2_with (go_at_call 81; refine (Cut15_c C hok uk ud hu.1 hu.2 _).mono ?_; rintro e w3 ⟨rfl, hx3⟩)
          have hx3' : Ext wr w3 := Ext.trans' (Below.drew (Ext.refl wr)) hx3
          have hs3 := hx3'.size
          refine hK _ _ (fun _ h => af_step h hx3) ?_
          clear hK K
          refine pi_l 6 rfl (by kernel_rfl) (fun K hK => ?_)
          go_wp2
          refine hK _ _ (fun _ h => af_step h (Ext.alloc' _ _)) ?_
          clear hK K
          refine pi_l 7 rfl (by kernel_rfl) (fun K hK => ?_)
          go_wp2
          refine hK _ _ (fun _ _ => ⟨⟨_, hx3'.allocR _⟩, rfl⟩) ?_
          clear hK K
          refine pi_end (by kernel_rfl) ?_
          go_wp2_with fail
          go_meet
          exact ⟨w3.heap.size, rfl, heap_at _ _ rfl, hx3'.allocR _, hs3⟩
        · go_wp2
          refine hK _ _ (fun _ h => af_step h (Ext.alloc' _ _)) ?_
          clear hK K
          refine pi_l 5 rfl (by kernel_rfl) (fun K hK => ?_)
          go_wp2_with (go_at_call 81; refine (Cut15_c C hok uk ud hu.1 hu.2 _).mono ?_; rintro e w3 ⟨rfl, hx3⟩)
          refine hK _ _ (fun _ h => af_step h hx3) ?_
          clear hK K
          have hs3 : (wr.alloc (.cells #[.int .u64 0, .int .i64 0] 138)).heap.size ≤ w3.heap.size := hx3.size
          rw [size_alloc] at hs3
          have hx3' : Ext wr w3 := Ext.trans' (Ext.alloc' wr _) (Ext.trans' (Below.drew (Ext.refl _)) hx3)
          have hbx : w3.heap[wr.heap.size]? = some (.cells #[.int .u64 0, .int .i64 0] 138 (0, 0)) := by
            rw [hx3.block _ (by show _ < (wr.alloc _).heap.size; rw [size_alloc]; exact Nat.lt_succ_self _)]
            exact heap_at wr _ rfl
          have p0 := (cell_of hbx 0).trans rfl
          have p1 := (cell_of hbx 1).trans rfl
          have f0 := frozen_of hbx 0
          have f1 := frozen_of hbx 1
          refine pi_l 7 rfl (by kernel_rfl) (fun K hK => ?_)
          go_wp2
          refine hK _ _ (fun _ _ => ⟨⟨_, (hx3'.setR (Nat.le_refl _) _).setR (Nat.le_refl _) _⟩, rfl⟩) ?_
          clear hK K
          refine pi_end (by kernel_rfl) ?_
          go_wp2_with fail
          go_meet
          exact ⟨wr.heap.size, rfl, set2 hbx _ _, (hx3'.setR (Nat.le_refl _) _).setR (Nat.le_refl _) _, Nat.le_refl _⟩
      case rest =>
        obtain ⟨bu, rfl, hbu, hxw, hbul⟩ := hcut
        have hdb := cutD_bd C.mode ud
        have b1 := (cell_of hbu 1).trans rfl
        have b0 := (cell_of hbu 0).trans rfl
        have hE' : Ext w wc := hE.trans' hxw
        have hC' := HC.out.ext hxw
        clear d0 d1 c0 c1 c2 c3 c4 hE hxw
        have hkk0 := (cutK_bd C hok 0 uk (Int.le_refl 0)).1
        generalize cutK C 0 uk = kk at *
        generalize cutD C.mode ud = dd at *
        by_cases h1 : lo ≤ kk
        · by_cases h2 : kk ≤ hi
          · have g1 : inB lo hi kk = true := by unfold inB; rw [decide_eq_true h1, decide_eq_true h2]; rfl
            have hs' := HSN.out
            rw [g1] at hs'
            have HS := Lib.hid hs'
            clear hs' HSN g1
            go_wp2_with fail
            go_roundw
            case rel => exact ⟨k + 1, by omega, by omega, by rw [HS.out]; rfl, by go_num, hE', hC'⟩
            case measure => simp [intOf]; omega
          · have g1 : inB lo hi kk = false := by unfold inB; rw [decide_eq_true h1, decide_eq_false h2]; rfl
            have hs' := HSN.out
            rw [g1] at hs'
            have HS := Lib.hid hs'
            clear hs' HSN g1
            go_wp2_with fail
            go_roundw
            case rel => exact ⟨k + 1, by omega, by omega, by rw [HS.out]; exact congrArg _ (Int.add_zero _).symm, by go_num, hE', hC'⟩
            case measure => simp [intOf]; omega
        · have g1 : inB lo hi kk = false := by unfold inB; rw [decide_eq_false h1]; rfl
          have hs' := HSN.out
          rw [g1] at hs'
          have HS := Lib.hid hs'
          clear hs' HSN g1
          go_wp2_with fail
          go_roundw
          case rel => exact ⟨k + 1, by omega, by omega, by rw [HS.out]; exact congrArg _ (Int.add_zero _).symm, by go_num, hE', hC'⟩
          case measure => simp [intOf]; omega
    · have hfe := fus_end us (i := 0) (j := 60) (k := k) (by omega) (by omega) (.inr ⟨hk60, hkl⟩) hgo
      have hfe' : betK C us k lo hi = betK C us 60 lo hi := by unfold betK; rw [hfe]
      rw [hfe']
      go_wp2_with fail
      all_goals
        go_ret
        exact ⟨rfl, hE⟩
end Go.Proofs.YtfhdjekpdifajaaGreat

/- Plain law: the way down to a rank's key. -/
namespace Go.Proofs.YtfhdjekpdifajaaGreat
set_option linter.unusedVariables false
open Go.RowKit

/-- The way down from piece i of level n, k being asked. -/
def wayL (pt : Nat → Int → Int) : Nat → Int → Int → List (Nat × Int)
  | 0, _, _ => []
  | n + 1, i, k => if k ≤ pt n (2 * i) then (n, 2 * i) :: wayL pt n (2 * i) k else (n, 2 * i + 1) :: wayL pt n (2 * i + 1) (k - pt n (2 * i))
/-- The key at its end. -/
def wayI (pt : Nat → Int → Int) : Nat → Int → Int → Int
  | 0, i, _ => i
  | n + 1, i, k => if k ≤ pt n (2 * i) then wayI pt n (2 * i) k else wayI pt n (2 * i + 1) (k - pt n (2 * i))
/-- What is too much on the way. -/
def wayO (pt S : Nat → Int → Int) : Nat → Int → Int → Int
  | 0, _, _ => 0
  | n + 1, i, k => (pt n (2 * i) - S n (2 * i)) + if k ≤ pt n (2 * i) then wayO pt S n (2 * i) k else wayO pt S n (2 * i + 1) (k - pt n (2 * i))
theorem wayL_len (pt : Nat → Int → Int) : ∀ (n : Nat) (i k : Int), (wayL pt n i k).length = n
  | 0, _, _ => rfl
  | n + 1, i, k => by
    unfold wayL
    split <;> rw [List.length_cons, wayL_len]
theorem sh_succ (n : Nat) (u : Int) : sh (n + 1) u = sh n u / 2 := by
  unfold sh
  rw [Int.pow_succ, Int.ediv_ediv_of_nonneg (Int.le_of_lt (Int.pow_pos (by decide)))]
theorem wayI_sh (pt : Nat → Int → Int) : ∀ (n : Nat) (i k : Int), sh n (wayI pt n i k) = i
  | 0, i, k => sh_zero _
  | n + 1, i, k => by
    unfold wayI
    rw [sh_succ]
    split
    · rw [wayI_sh pt n]; omega
    · rw [wayI_sh pt n]; omega
theorem sh_mono {a b : Int} (h : a ≤ b) (n : Nat) : sh n a ≤ sh n b := Int.ediv_le_ediv (Int.pow_pos (by decide)) h
theorem lt_sh {a b : Int} {n : Nat} (h : sh n a < sh n b) : a < b := by
  rcases Int.lt_or_le a b with h' | h'
  · exact h'
  · have := sh_mono h' n; omega
/-- A greater rank never leads to a lesser key. -/
theorem wayI_mono (pt : Nat → Int → Int) : ∀ (n : Nat) (i k k' : Int), k ≤ k' → wayI pt n i k ≤ wayI pt n i k'
  | 0, _, _, _, _ => Int.le_refl _
  | n + 1, i, k, k', h => by
    unfold wayI
    by_cases h1 : k ≤ pt n (2 * i)
    · rw [if_pos h1]
      by_cases h2 : k' ≤ pt n (2 * i)
      · rw [if_pos h2]; exact wayI_mono pt n _ _ _ h
      · rw [if_neg h2]
        refine Int.le_of_lt (lt_sh (n := n) ?_)
        rw [wayI_sh, wayI_sh]; omega
    · rw [if_neg h1, if_neg (by omega)]
      exact wayI_mono pt n _ _ _ (by omega)
/-- What the keys of a piece have, that are not greater than x. -/
def upS (ps : List (Int × Int)) (n : Nat) (i x : Int) : Int := sumIf (fun u => sh n u == i && decide (u ≤ x)) ps
def loS (ps : List (Int × Int)) (n : Nat) (i x : Int) : Int := sumIf (fun u => sh n u == i && decide (u < x)) ps
def pcS (ps : List (Int × Int)) (n : Nat) (i : Int) : Int := sumIf (fun u => sh n u == i) ps
theorem sumIf_ext {p q : Int → Bool} (ps : List (Int × Int)) (h : ∀ u, p u = q u) : sumIf p ps = sumIf q ps := sumIf_congr fun u _ => h u.1
theorem beq_iff' {a b c d : Int} (h : a = b ↔ c = d) : (a == b) = (c == d) := by
  by_cases h1 : a = b
  · rw [beq_iff_eq.2 h1, beq_iff_eq.2 (h.1 h1)]
  · have h2 : ¬ c = d := fun e => h1 (h.2 e)
    rw [beq_eq_false_iff_ne.2 h1, beq_eq_false_iff_ne.2 h2]
theorem pcS_split (ps : List (Int × Int)) (n : Nat) (i : Int) : pcS ps (n + 1) i = pcS ps n (2 * i) + pcS ps n (2 * i + 1) := by
  unfold pcS
  rw [sumIf_split _ (fun u => sh n u == 2 * i) ps]
  congr 1
  · refine sumIf_ext ps fun u => ?_
    rw [sh_succ, Bool.eq_iff_iff]; simp only [Bool.and_eq_true, beq_iff_eq]; omega
  · refine sumIf_ext ps fun u => ?_
    rw [sh_succ, Bool.eq_iff_iff]; simp only [Bool.and_eq_true, beq_iff_eq, Bool.not_eq_true', beq_eq_false_iff_ne, ne_eq]; omega
theorem le_left {n : Nat} {i u x : Int} (hx : sh n x = i) (hu : u ≤ x) : sh n u ≤ i := by have := sh_mono hu n; omega
theorem upS_left (ps : List (Int × Int)) (n : Nat) {i x : Int} (hx : sh n x = 2 * i) : upS ps (n + 1) i x = upS ps n (2 * i) x := by
  refine sumIf_ext ps fun u => ?_
  have hm := fun h => le_left (u := u) hx h
  rw [sh_succ, Bool.eq_iff_iff]; simp only [Bool.and_eq_true, beq_iff_eq, decide_eq_true_eq]
  constructor
  · rintro ⟨a, b⟩; have := hm b; exact ⟨by omega, b⟩
  · rintro ⟨a, b⟩; exact ⟨by omega, b⟩
theorem loS_left (ps : List (Int × Int)) (n : Nat) {i x : Int} (hx : sh n x = 2 * i) : loS ps (n + 1) i x = loS ps n (2 * i) x := by
  refine sumIf_ext ps fun u => ?_
  have hm := fun h => le_left (u := u) hx (Int.le_of_lt h)
  rw [sh_succ, Bool.eq_iff_iff]; simp only [Bool.and_eq_true, beq_iff_eq, decide_eq_true_eq]
  constructor
  · rintro ⟨a, b⟩; have := hm b; exact ⟨by omega, b⟩
  · rintro ⟨a, b⟩; exact ⟨by omega, b⟩
theorem upS_right (ps : List (Int × Int)) (n : Nat) {i x : Int} (hx : sh n x = 2 * i + 1) : upS ps (n + 1) i x = pcS ps n (2 * i) + upS ps n (2 * i + 1) x := by
  unfold upS pcS
  rw [sumIf_split _ (fun u => sh n u == 2 * i) ps]
  congr 1
  · refine sumIf_ext ps fun u => ?_
    have hm : sh n u < sh n x → u ≤ x := fun h => Int.le_of_lt (lt_sh h)
    rw [sh_succ, Bool.eq_iff_iff]; simp only [Bool.and_eq_true, beq_iff_eq, decide_eq_true_eq]
    constructor
    · rintro ⟨_, b⟩; exact b
    · intro b; exact ⟨⟨by omega, hm (by omega)⟩, b⟩
  · refine sumIf_ext ps fun u => ?_
    rw [sh_succ, Bool.eq_iff_iff]; simp only [Bool.and_eq_true, beq_iff_eq, Bool.not_eq_true', beq_eq_false_iff_ne, ne_eq, decide_eq_true_eq]
    constructor
    · rintro ⟨⟨a, c⟩, b⟩; exact ⟨by omega, c⟩
    · rintro ⟨a, c⟩; exact ⟨⟨by omega, c⟩, by omega⟩
theorem loS_right (ps : List (Int × Int)) (n : Nat) {i x : Int} (hx : sh n x = 2 * i + 1) : loS ps (n + 1) i x = pcS ps n (2 * i) + loS ps n (2 * i + 1) x := by
  unfold loS pcS
  rw [sumIf_split _ (fun u => sh n u == 2 * i) ps]
  congr 1
  · refine sumIf_ext ps fun u => ?_
    have hm : sh n u < sh n x → u < x := fun h => lt_sh h
    rw [sh_succ, Bool.eq_iff_iff]; simp only [Bool.and_eq_true, beq_iff_eq, decide_eq_true_eq]
    constructor
    · rintro ⟨_, b⟩; exact b
    · intro b; exact ⟨⟨by omega, hm (by omega)⟩, b⟩
  · refine sumIf_ext ps fun u => ?_
    rw [sh_succ, Bool.eq_iff_iff]; simp only [Bool.and_eq_true, beq_iff_eq, Bool.not_eq_true', beq_eq_false_iff_ne, ne_eq, decide_eq_true_eq]
    constructor
    · rintro ⟨⟨a, c⟩, b⟩; exact ⟨by omega, c⟩
    · rintro ⟨a, c⟩; exact ⟨⟨by omega, c⟩, by omega⟩
theorem sumIf_none : ∀ ps : List (Int × Int), sumIf (fun _ => false) ps = 0
  | [] => rfl
  | u :: ps => by rw [sumIf_cons, sumIf_none ps]; rfl
/-- All keys below the answer have less than the rank. -/
theorem way_below {pt : Nat → Int → Int} {ps : List (Int × Int)} (hge : ∀ n i, 0 ≤ i → pcS ps n i ≤ pt n i) : ∀ (n : Nat) (i k : Int), 0 ≤ i → 1 ≤ k → loS ps n i (wayI pt n i k) < k
  | 0, i, k, h0, hk => by
    show loS ps 0 i i < k
    have : loS ps 0 i i = 0 := by
      unfold loS
      rw [sumIf_ext (q := fun _ => false) ps (fun u => by rw [sh_zero, Bool.eq_iff_iff]; simp only [Bool.and_eq_true, beq_iff_eq, decide_eq_true_eq, Bool.false_eq_true, iff_false]; omega)]
      exact sumIf_none ps
    omega
  | n + 1, i, k, h0, hk => by
    have hg := hge n (2 * i) (by omega)
    unfold wayI
    by_cases h1 : k ≤ pt n (2 * i)
    · rw [if_pos h1, loS_left ps n (wayI_sh pt n _ _)]
      exact way_below hge n _ _ (by omega) hk
    · rw [if_neg h1, loS_right ps n (wayI_sh pt n _ _)]
      have := way_below hge n (2 * i + 1) (k - pt n (2 * i)) (by omega) (by omega)
      omega
/-- The rank is not more than what all up to the answer have, and what is too much. -/
theorem way_upto {pt : Nat → Int → Int} {ps : List (Int × Int)} (hge : ∀ n i, 0 ≤ i → pcS ps n i ≤ pt n i) : ∀ (n : Nat) (i k e : Int), 0 ≤ i → 0 ≤ e → k ≤ pcS ps n i + e → k ≤ upS ps n i (wayI pt n i k) + e + wayO pt (pcS ps) n i k
  | 0, i, k, e, h0, he, hk => by
    show k ≤ upS ps 0 i i + e + 0
    have : upS ps 0 i i = pcS ps 0 i := by
      refine sumIf_ext ps fun u => ?_
      rw [sh_zero, Bool.eq_iff_iff]; simp only [Bool.and_eq_true, beq_iff_eq, decide_eq_true_eq]; omega
    omega
  | n + 1, i, k, e, h0, he, hk => by
    have hg := hge n (2 * i) (by omega)
    rw [pcS_split] at hk
    unfold wayI wayO
    by_cases h1 : k ≤ pt n (2 * i)
    · rw [if_pos h1, if_pos h1, upS_left ps n (wayI_sh pt n _ _)]
      have := way_upto hge n (2 * i) k (pt n (2 * i) - pcS ps n (2 * i)) (by omega) (by omega) (by omega)
      omega
    · rw [if_neg h1, if_neg h1, upS_right ps n (wayI_sh pt n _ _)]
      have := way_upto hge n (2 * i + 1) (k - pt n (2 * i)) e (by omega) he (by omega)
      omega
theorem wayO_nn {pt : Nat → Int → Int} {ps : List (Int × Int)} (hge : ∀ n i, 0 ≤ i → pcS ps n i ≤ pt n i) : ∀ (n : Nat) (i k : Int), 0 ≤ i → 0 ≤ wayO pt (pcS ps) n i k
  | 0, _, _, _ => Int.le_refl _
  | n + 1, i, k, h0 => by
    have hg := hge n (2 * i) (by omega)
    unfold wayO
    by_cases h1 : k ≤ pt n (2 * i)
    · rw [if_pos h1]; have := wayO_nn hge n (2 * i) k (by omega); omega
    · rw [if_neg h1]; have := wayO_nn hge n (2 * i + 1) (k - pt n (2 * i)) (by omega); omega
end Go.Proofs.YtfhdjekpdifajaaGreat
