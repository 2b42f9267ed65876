/- Part. No condition. -/
import Derived.Test.YtfhdjekpdifajaaDSpanSums2
import Derived.Test.YtfhdjekpdifajaaDSpanSums1
import Derived.Laws.CopyOwn
import Derived.RangeFuncNested
import Derived.RangeFuncBound
import Derived.RangeFuncCalls
import Derived.RangeFuncLeaves
import Derived.Shelf.Abstract
import Derived.Shelf.RegionOpen
import Derived.WalkKit
import Derived.OwnWalkIn
import Derived.TacticsInMore
import Derived.LoopNIn
import Derived.LoopIn
import Derived.RangeFuncFrom
namespace Go.Proofs.Ytfhdjekpdifajaa
set_option linter.unusedVariables false
open Go.RowKit
set_option maxRecDepth 20000 in
set_option maxHeartbeats 2000000 in
theorem RightR_c (c : Cfg) (h : c.Ok) (w : World) :
    Calls Try.prog 32 #[.agg #[.int .i64 c.bits, .int .i64 c.rows, .int .i64 c.width, .int .i64 c.mode, .int .u64 c.seed]] w fun e w' => e = .returned (.bool true) ∧ Ext w w' := by
  obtain ⟨b1, b2, r1, r2, w1, w2, m1, m2, s⟩ := h
  have g1 : decide (1 ≤ c.bits) = true := by simp; omega
  have g2 : decide (c.bits ≤ 59) = true := by simp; omega
  have g3 : decide (1 ≤ c.rows) = true := by simp; omega
  have g4 : decide (c.rows ≤ 8) = true := by simp; omega
  have g5 : decide (1 ≤ c.width) = true := by simp; omega
  have g6 : decide (c.width ≤ 128) = true := by simp; omega
  have hm : c.mode = 1 ∨ c.mode = 2 ∨ c.mode = 3 := by omega
  rcases hm with hm | hm | hm
  · have k1 : (c.mode == 1) = true := by simp [hm]
    have HM := Lib.hid hm
    clear hm m1 m2
    go_enter Try.func32, Try.ntmps32
    go_wp2
    go_ret
    exact ⟨rfl, by (repeat' (first | exact Ext.refl _ | assumption | apply Ext.allocR | apply Ext.drewR | apply Ext.drewNR | (refine Ext.trans' ?_ (by assumption))))⟩
  · have k1 : (c.mode == 1) = false := by simp [hm]
    have k2 : (c.mode == 2) = true := by simp [hm]
    have HM := Lib.hid hm
    clear hm m1 m2
    go_enter Try.func32, Try.ntmps32
    go_wp2
    go_ret
    exact ⟨rfl, by (repeat' (first | exact Ext.refl _ | assumption | apply Ext.allocR | apply Ext.drewR | apply Ext.drewNR | (refine Ext.trans' ?_ (by assumption))))⟩
  · have k1 : (c.mode == 1) = false := by simp [hm]
    have k2 : (c.mode == 2) = false := by simp [hm]
    have k3 : (c.mode == 3) = true := by simp [hm]
    have HM := Lib.hid hm
    clear hm m1 m2
    go_enter Try.func32, Try.ntmps32
    go_wp2
    go_ret
    exact ⟨rfl, by (repeat' (first | exact Ext.refl _ | assumption | apply Ext.allocR | apply Ext.drewR | apply Ext.drewNR | (refine Ext.trans' ?_ (by assumption))))⟩
set_option maxRecDepth 20000 in
set_option maxHeartbeats 2000000 in
theorem KeysR_c (c : Cfg) (h : c.Ok) (l : Int) (h0 : 0 ≤ l) (h1 : l ≤ c.bits) (w : World) :
    Calls Try.prog 15 #[.agg #[.int .i64 c.bits, .int .i64 c.rows, .int .i64 c.width, .int .i64 c.mode, .int .u64 c.seed], .int .i64 l] w fun e w' => e = .returned (.int .u64 (keys c l)) ∧ Ext w w' := by
  have hk := h
  obtain ⟨b1, b2, _, _, _, _, _, _, _⟩ := h
  have g1 : decide (l < 0) = false := by simp; omega
  have g2 : decide (c.bits < l) = false := by simp; omega
  go_enter Try.func15, Try.ntmps15
  go_wp2_with fail
  refine (RightR_c c hk _).mono ?_
  rintro e w1 ⟨rfl, hb⟩
  have d0 : w1.cell? ⟨w.heap.size, 0, none⟩ = some (.int .i64 c.bits) := by rw [(bcell hb).1 _ _ (by simp [go_sem])]; simp [go_sem]
  have hE : Ext w w1 := by (repeat' (first | exact Ext.refl _ | assumption | apply Ext.allocR | apply Ext.drewR | apply Ext.drewNR | (refine Ext.trans' ?_ (by assumption))))
  clear hb
  go_wp2
  go_loop [5, 6] (fun p u => ∃ (k : Nat) (q : Int), (k : Int) ≤ c.bits - l ∧ u = .int .i64 (l + k) ∧ p = .int .u64 q ∧ q = (2 : Int) ^ k) (fun _ u => (c.bits - intOf u).toNat)
  case atStart => exact ⟨0, 1, by omega, by simp, rfl, rfl⟩
  case round =>
    obtain ⟨k, q, hk1, rfl, rfl, hq⟩ := hrel
    have hpb := pow_bd k (by omega)
    rw [← hq] at hpb
    obtain ⟨p1, p2⟩ := hpb
    have HQ := Lib.hid hq
    clear hq
    by_cases hlt : l + (k : Int) < c.bits
    · go_wp2
      go_round
      case rel => exact ⟨k + 1, q * 2, by omega, by congr 1; omega, rfl, by rw [HQ.out, Int.pow_succ]⟩
      case measure => simp [intOf]; omega
    · go_wp2
      go_ret
      refine ⟨ret_int ?_, hE⟩
      rw [HQ.out]
      unfold keys
      rw [show (c.bits - l).toNat = k by omega]
theorem set2 {w : World} {b : Nat} {x y : Value} {t : TypeId} (h : w.heap[b]? = some (.cells #[x, y] t (0, 0))) (u v : Value) : ((w.setCell ⟨b, 0, none⟩ u).setCell ⟨b, 1, none⟩ v).heap[b]? = some (.cells #[u, v] t (0, 0)) := by
  rw [setCell_same (setCell_same h 0 u) 1 v]; rfl
theorem set2_0 {w : World} {b : Nat} {x y : Value} {t : TypeId} (h : w.heap[b]? = some (.cells #[x, y] t (0, 0))) (u : Value) : (w.setCell ⟨b, 0, none⟩ u).cell? ⟨b, 0, none⟩ = some u := (cell_of (setCell_same h 0 u) 0).trans rfl
theorem set2_1 {w : World} {b : Nat} {x y : Value} {t : TypeId} (h : w.heap[b]? = some (.cells #[x, y] t (0, 0))) (u v : Value) : ((w.setCell ⟨b, 0, none⟩ u).setCell ⟨b, 1, none⟩ v).cell? ⟨b, 1, none⟩ = some v := (cell_of (set2 h u v) 1).trans rfl
/-- An update, cut. -/
def cutK (c : Cfg) (l key : Int) : Int := key % keys c l
def cutD (m d : Int) : Int := bif decide (m = 2) then max (d.tmod 1099511627776) (-(d.tmod 1099511627776)) else d.tmod 1099511627776
theorem tmod_bd (d : Int) : -1099511627776 < d.tmod 1099511627776 ∧ d.tmod 1099511627776 < 1099511627776 := ⟨Int.lt_tmod_of_pos d (by decide), Int.tmod_lt_of_pos d (by decide)⟩
theorem cutD_bd (m d : Int) : -1099511627776 < cutD m d ∧ cutD m d < 1099511627776 := by
  have := tmod_bd d
  unfold cutD
  cases decide (m = 2)
  · exact this
  · show _ < max _ _ ∧ max _ _ < _
    omega
theorem cutK_bd (c : Cfg) (h : c.Ok) (l key : Int) (h0 : 0 ≤ l) : 0 ≤ cutK c l key ∧ cutK c l key < keys c l := by
  have := keys_bd c h l h0
  exact ⟨Int.emod_nonneg _ (by omega), Int.emod_lt_of_pos _ (by omega)⟩
end Go.Proofs.Ytfhdjekpdifajaa
namespace Go.Proofs.Ytfhdjekpdifajaa
set_option linter.unusedVariables false
open Go.RowKit
def mkC (x : Cfg) (nb nw : Int) : Cfg := ⟨1 + x.bits % 65536 % nb, 1 + x.rows % 4, 1 + x.width % 65536 % nw, 1 + x.mode % 65536 % 3, x.seed⟩
theorem mkC_ok (x : Cfg) (hs : U64 x.seed) {nb nw : Int} (h1 : 1 ≤ nb) (h2 : nb ≤ 20) (h3 : 1 ≤ nw) (h4 : nw ≤ 20) : (mkC x nb nw).Ok := by
  have a1 := Int.emod_nonneg (x.bits % 65536) (show nb ≠ 0 by omega)
  have a2 := Int.emod_lt_of_pos (x.bits % 65536) (show 0 < nb by omega)
  have a3 := Int.emod_nonneg (x.width % 65536) (show nw ≠ 0 by omega)
  have a4 := Int.emod_lt_of_pos (x.width % 65536) (show 0 < nw by omega)
  constructor <;> simp only [mkC] <;> first | exact hs | omega
theorem fin5 {Φ : World → Prop} {w W : World} {b : Nat} {x0 x1 x2 x3 x4 : Value} {t : TypeId} (h : W.heap[b]? = some (.cells #[x0, x1, x2, x3, x4] t (0, 0))) (hE : Ext w W) (hb : w.heap.size ≤ b) {u0 u1 u2 u3 u4 : Value}
    (k : ∀ Wf, Wf.heap[b]? = some (.cells #[u0, u1, u2, u3, u4] t (0, 0)) → Ext w Wf → (∀ j, j ≠ b → Wf.heap[j]? = W.heap[j]?) → Wf.heap.size = W.heap.size → Φ Wf) :
    Φ (((((W.setCell ⟨b, 0, none⟩ u0).setCell ⟨b, 1, none⟩ u1).setCell ⟨b, 2, none⟩ u2).setCell ⟨b, 3, none⟩ u3).setCell ⟨b, 4, none⟩ u4) := by
  refine k _ ?_ (((((hE.setR hb _).setR hb _).setR hb _).setR hb _).setR hb _) (fun j hj => ?_) (by simp only [size_setCell])
  · rw [setCell_same (setCell_same (setCell_same (setCell_same (setCell_same h 0 u0) 1 u1) 2 u2) 3 u3) 4 u4]; rfl
  · rw [setCell_other _ _ hj, setCell_other _ _ hj, setCell_other _ _ hj, setCell_other _ _ hj, setCell_other _ _ hj]
set_option maxRecDepth 20000 in
set_option maxHeartbeats 2000000 in
theorem Any_c (x : Cfg) (hx : x.Raw) (nb nw : Int) (h1 : 1 ≤ nb) (h2 : nb ≤ 20) (h3 : 1 ≤ nw) (h4 : nw ≤ 20) (w : World) :
    Calls Try.prog 14 #[.agg #[.int .i64 x.bits, .int .i64 x.rows, .int .i64 x.width, .int .i64 x.mode, .int .u64 x.seed], .int .i64 nb, .int .i64 nw] w fun e w' =>
      e = .returned (.agg #[.int .i64 (mkC x nb nw).bits, .int .i64 (mkC x nb nw).rows, .int .i64 (mkC x nb nw).width, .int .i64 (mkC x nb nw).mode, .int .u64 (mkC x nb nw).seed]) ∧ Ext w w' := by
  have hb := and16 x.bits
  have hr := and16 x.rows
  have hw := and16 x.width
  have hm := and16 x.mode
  have a1 := Int.emod_nonneg (x.bits % 65536) (show nb ≠ 0 by omega)
  have a2 := Int.emod_lt_of_pos (x.bits % 65536) (show 0 < nb by omega)
  have a3 := Int.emod_nonneg (x.width % 65536) (show nw ≠ 0 by omega)
  have a4 := Int.emod_lt_of_pos (x.width % 65536) (show 0 < nw by omega)
  have z1 : (nb == 0) = false := by simp; omega
  have z2 : (nw == 0) = false := by simp; omega
  go_enter Try.func14, Try.ntmps14
  go_wp2
  refine wp_region_after_tail 25 (by kernel_rfl) (by kernel_rfl) ?_
  simp only [List.take_succ_cons, List.take_zero, List.drop_succ_cons, List.drop_zero]
  repeat (go_big_quiet_step (fail))
  refine wpQuiet_nil ?_
  rintro _ ⟨xx, rfl⟩
  obtain ⟨w1, hb1⟩ := xx
  try dsimp only
  have hs := hb1.size
  simp only [size_alloc] at hs
  have hcell : w1.heap[w.heap.size + 1]? = some (.cells #[.int .i64 0, .int .i64 0, .int .i64 0, .int .i64 0, .int .u64 0] 24 (0, 0)) := by
    rw [hb1.block _ (by simp only [size_alloc]; omega)]
    exact heap_at _ _ (by simp only [size_alloc])
  have p0 := (cell_of hcell 0).trans rfl
  have p1 := (cell_of hcell 1).trans rfl
  have p2 := (cell_of hcell 2).trans rfl
  have p3 := (cell_of hcell 3).trans rfl
  have p4 := (cell_of hcell 4).trans rfl
  have f0 := frozen_of hcell 0
  have f1 := frozen_of hcell 1
  have f2 := frozen_of hcell 2
  have f3 := frozen_of hcell 3
  have f4 := frozen_of hcell 4
  have hE : Ext w w1 := by (repeat' (first | exact Ext.refl _ | assumption | apply Ext.allocR | apply Ext.drewR | apply Ext.drewNR | (refine Ext.trans' ?_ (by assumption))))
  clear hb1
  go_wp2
  refine fin5 (Φ := fun W' => bodyPost _ _ _ _ _ W') hcell hE (by omega) ?_
  intro Wf hf hE2 _ _
  have q0 := (cell_of hf 0).trans rfl
  have q1 := (cell_of hf 1).trans rfl
  have q2 := (cell_of hf 2).trans rfl
  have q3 := (cell_of hf 3).trans rfl
  have q4 := (cell_of hf 4).trans rfl
  exact bodyPost_ret (v := .agg #[.int .i64 (1 + x.bits % 65536 % nb), .int .i64 (1 + x.rows % 4), .int .i64 (1 + x.width % 65536 % nw), .int .i64 (1 + x.mode % 65536 % 3), .int .u64 x.seed]) (by simp [results, Try.results14, go_sem, q0, q1, q2, q3, q4]) rfl ⟨rfl, hE2⟩
end Go.Proofs.Ytfhdjekpdifajaa
namespace Go.Proofs.Ytfhdjekpdifajaa
set_option linter.unusedVariables false
open Go.RowKit
def Bnd (B : Int) (l : List Int) : Prop := ∀ x ∈ l, -B ≤ x ∧ x ≤ B
theorem Bnd.getD {B : Int} {l : List Int} (h : Bnd B l) (hB : 0 ≤ B) (k : Nat) : -B ≤ l.getD k 0 ∧ l.getD k 0 ≤ B := by
  rcases Nat.lt_or_ge k l.length with h' | h'
  · exact h _ (getD_mem h')
  · rw [show l.getD k 0 = 0 by simp [h']]; omega
theorem Bnd.readL {B : Int} {l : List Int} (h : Bnd B l) (hB : 0 ≤ B) (W : Nat) (cs : List Int) : Bnd B (readL W l cs) := by
  intro x hx
  simp only [Go.Proofs.Ytfhdjekpdifajaa.readL, List.mem_map, List.mem_range] at hx
  obtain ⟨j, _, rfl⟩ := hx
  exact h.getD hB _
theorem Bnd.minL {B : Int} {l : List Int} (h : Bnd B l) (hB : 0 ≤ B) : -B ≤ minL l ∧ Go.Proofs.Ytfhdjekpdifajaa.minL l ≤ B := by
  by_cases he : l = []
  · subst he; simp [Go.Proofs.Ytfhdjekpdifajaa.minL]; omega
  · exact h _ (minL_spec l he).1
theorem upd_bnd {C : Cfg} {lv : Int} {R W : Nat} {l : List Int} {key d B T : Int} (h : Bnd B l) (hB : 0 ≤ B) (hT : 0 ≤ T) (hd : -T ≤ d ∧ d ≤ T) : Bnd (B + T) (updL C lv R W l key d) := by
  intro x hx
  unfold updL at hx
  cases hm : decide (C.mode = 2) with
  | true =>
    rw [hm] at hx
    rcases putK_mem R hx with h1 | ⟨j, _, rfl⟩
    · have := h x h1; omega
    · have h2 := h.getD hB (at_ W (cols C lv key) j)
      have h3 := (h.readL hB W (cols C lv key)).minL hB
      omega
  | false =>
    rw [hm] at hx
    rcases putK_mem R hx with h1 | ⟨j, _, rfl⟩
    · have := h x h1; omega
    · have h2 := h.getD hB (at_ W (cols C lv key) j)
      omega
theorem upd_ok {C : Cfg} {lv : Int} {R W : Nat} {l : List Int} {key d B T : Int} (h : Bnd B l) (hB : 0 ≤ B) (hT : 0 ≤ T) (hd : -T ≤ d ∧ d ≤ T) (hs : B + T ≤ 4611686018427387904) (hk : key < keys C lv) (hm : C.mode = 2 → 0 ≤ d) : errU C lv R W l key d = 0 := by
  by_cases hmode : C.mode = 2
  · have hd0 := hm hmode
    have h3 := (h.readL hB W (cols C lv key)).minL hB
    rw [errU_con hk hmode (by omega), fitB_yes (by unfold I64; omega)]; rfl
  · rw [errU_sum hk hmode, allFit_iff.2]
    · rfl
    · intro k _
      have h2 := h.getD hB (at_ W (cols C lv key) k)
      unfold I64; omega
/-- Updates, cut, made one after the other. -/
def feed (C : Cfg) (lv : Int) (R W : Nat) (us : List (Int × Int)) (l : List Int) : List Int := us.foldl (fun l u => updL C lv R W l (cutK C lv u.1) (cutD C.mode u.2)) l
theorem feed_snoc (C : Cfg) (lv : Int) (R W : Nat) (us : List (Int × Int)) (u : Int × Int) (l : List Int) : feed C lv R W (us ++ [u]) l = updL C lv R W (feed C lv R W us l) (cutK C lv u.1) (cutD C.mode u.2) := by
  unfold feed; rw [List.foldl_append]; rfl
theorem cutD_nn {m d : Int} (h : m = 2) : 0 ≤ cutD m d := by
  unfold cutD; rw [decide_eq_true h]; show 0 ≤ max _ _; omega
/-- A slice of updates that can be read. -/
def UpsAt (w : World) (v : Value) (us : List (Int × Int)) : Prop :=
  ((∃ p, v = .slice p 0 0) ∧ us = []) ∨ ∃ g off cap, v = .slice (some ⟨g, off, none⟩) us.length cap ∧ g < w.heap.size ∧
    ∀ k, k < us.length → w.cell? ⟨g, off + k * 2, none⟩ = some (.int .u64 (us.getD k (0, 0)).1) ∧ w.cell? ⟨g, off + k * 2 + 1, none⟩ = some (.int .i64 (us.getD k (0, 0)).2)
def UpsOk (us : List (Int × Int)) : Prop := ∀ u ∈ us, U64 u.1 ∧ I64 u.2
end Go.Proofs.Ytfhdjekpdifajaa
namespace Go.Proofs.Ytfhdjekpdifajaa
/-- The updates from one on to another. -/
def fus (us : List (Int × Int)) (i j : Nat) : List (Int × Int) := (us.take j).drop i
theorem fus_len (us : List (Int × Int)) (i j : Nat) : (fus us i j).length ≤ j := by
  unfold fus; rw [List.length_drop, List.length_take]; omega
theorem fus_self (us : List (Int × Int)) (i : Nat) : fus us i i = [] := by
  unfold fus; rw [List.drop_eq_nil_iff]; rw [List.length_take]; omega
theorem fus_snoc (us : List (Int × Int)) {i k : Nat} (h : i ≤ k) (hk : k < us.length) : fus us i (k + 1) = fus us i k ++ [us.getD k (0, 0)] := by
  unfold fus
  rw [List.take_succ_eq_append_getElem hk, List.drop_append_of_le_length (by rw [List.length_take]; omega)]
  simp [hk]
theorem fus_end (us : List (Int × Int)) {i j k : Nat} (hi : i ≤ j) (hik : i ≤ k) (hk : k = i ∨ (k ≤ j ∧ k ≤ us.length)) (he : ¬ (k < us.length ∧ k < j)) : fus us i k = fus us i j := by
  rcases hk with rfl | ⟨h1, h2⟩
  · rw [fus_self]
    unfold fus
    symm
    rw [List.drop_eq_nil_iff, List.length_take]
    omega
  · unfold fus
    by_cases hkj : k = j
    · rw [hkj]
    · have : k = us.length := by omega
      subst this
      rw [List.take_length, List.take_of_length_le (by omega)]
end Go.Proofs.Ytfhdjekpdifajaa
namespace Go.Proofs.Ytfhdjekpdifajaa
set_option linter.unusedVariables false
/-- The sum of what keys have that meet p. -/
def sumIf (p : Int → Bool) (ps : List (Int × Int)) : Int := lsum (ps.map fun u => bif p u.1 then u.2 else 0)
theorem sumIf_nil (p : Int → Bool) : sumIf p [] = 0 := rfl
theorem sumIf_cons (p : Int → Bool) (u : Int × Int) (ps : List (Int × Int)) : sumIf p (u :: ps) = (bif p u.1 then u.2 else 0) + sumIf p ps := by
  unfold sumIf; rw [List.map_cons, lsum_cons]
theorem sumIf_snoc (p : Int → Bool) (u : Int × Int) (ps : List (Int × Int)) : sumIf p (ps ++ [u]) = sumIf p ps + (bif p u.1 then u.2 else 0) := by
  unfold sumIf; rw [List.map_append, lsum_append, List.map_cons, List.map_nil, lsum_cons, lsum_nil]; omega
theorem sumIf_split (p q : Int → Bool) (ps : List (Int × Int)) : sumIf p ps = sumIf (fun k => p k && q k) ps + sumIf (fun k => p k && !q k) ps := by
  induction ps with
  | nil => rfl
  | cons u ps ih =>
    simp only [sumIf_cons]
    rw [ih]
    cases p u.1 <;> cases q u.1 <;> simp <;> omega
theorem sumIf_congr {p q : Int → Bool} {ps : List (Int × Int)} (h : ∀ u ∈ ps, p u.1 = q u.1) : sumIf p ps = sumIf q ps := by
  induction ps with
  | nil => rfl
  | cons u ps ih =>
    rw [sumIf_cons, sumIf_cons, h u (by simp), ih (fun v hv => h v (by simp [hv]))]
/-- The updates as they are made. -/
def cutP (C : Cfg) (lv : Int) (us : List (Int × Int)) : List (Int × Int) := us.map fun u => (cutK C lv u.1, cutD C.mode u.2)
theorem cutP_snoc (C : Cfg) (lv : Int) (us : List (Int × Int)) (u : Int × Int) : cutP C lv (us ++ [u]) = cutP C lv us ++ [(cutK C lv u.1, cutD C.mode u.2)] := by simp [cutP]
def hasP (key : Int) (ps : List (Int × Int)) : Int := sumIf (fun k => k == key) ps
def sameCol (C : Cfg) (lv key : Int) (r : Nat) (k : Int) : Bool := (cols C lv k).getD r 0 == (cols C lv key).getD r 0
def othP (C : Cfg) (lv key : Int) (r : Nat) (ps : List (Int × Int)) : Int := sumIf (fun k => !(k == key) && sameCol C lv key r k) ps
theorem sumIf_bnd (p : Int → Bool) (B : Int) (_hB : 0 ≤ B) (ps : List (Int × Int)) (h : ∀ u ∈ ps, -B ≤ u.2 ∧ u.2 ≤ B) : -(ps.length * B) ≤ sumIf p ps ∧ sumIf p ps ≤ ps.length * B := by
  induction ps with
  | nil => simp [sumIf_nil]
  | cons u ps ih =>
    have h1 := h u (by simp)
    have h2 := ih (fun v hv => h v (by simp [hv]))
    rw [sumIf_cons, List.length_cons]
    push_cast
    rw [Int.add_mul]
    cases p u.1 <;> simp <;> omega
theorem at_ne {W r j : Nat} {a c : Nat} (ha : a < W) (hc : c < W) (h : r ≠ j ∨ a ≠ c) : r * W + a ≠ j * W + c := by
  intro he
  have hW : 0 < W := by omega
  have h1 : (r * W + a) / W = (j * W + c) / W := by rw [he]
  rw [Nat.add_comm, Nat.mul_comm r, Nat.add_mul_div_left _ _ hW, Nat.div_eq_of_lt ha, Nat.add_comm (j * W), Nat.mul_comm j, Nat.add_mul_div_left _ _ hW, Nat.div_eq_of_lt hc] at h1
  have h2 : r = j := by omega
  subst h2
  omega
theorem putK_get {R W : Nat} {cs : List Int} (hm : Meets R W cs) {f : Nat → Int} {l : List Int} (hl : l.length = R * W) {r a : Nat} (hr : r < R) (ha : a < W) :
    ∀ k, k ≤ R → (putK W cs f k l).getD (r * W + a) 0 = if r < k ∧ cs.getD r 0 = (a : Int) then f r else l.getD (r * W + a) 0 := by
  intro k
  induction k with
  | zero => intro _; rw [putK, if_neg (by omega)]
  | succ k ih =>
    intro hk
    have h0 := hm.lo k (by omega)
    have h1 := hm.hi k (by omega)
    rw [putK]
    by_cases he : k = r ∧ cs.getD k 0 = (a : Int)
    · obtain ⟨rfl, he⟩ := he
      rw [if_pos ⟨by omega, he⟩]
      have hat : at_ W cs k = k * W + a := by unfold at_; omega
      rw [hat]
      have hlen : k * W + a < (putK W cs f k l).length := by
        rw [putK_len, hl]
        calc k * W + a < k * W + W := by omega
          _ = (k + 1) * W := by rw [Nat.add_mul, Nat.one_mul]
          _ ≤ R * W := Nat.mul_le_mul_right W hr
      simp [hlen]
    · have hne : at_ W cs k ≠ r * W + a := by
        unfold at_
        refine at_ne (by omega) ha ?_
        by_cases hkr : k = r
        · right
          intro h
          exact he ⟨hkr, by omega⟩
        · exact .inl hkr
      have e : ((putK W cs f k l).set (at_ W cs k) (f k)).getD (r * W + a) 0 = (putK W cs f k l).getD (r * W + a) 0 := by
        simp [List.getElem?_set_ne hne]
      rw [e, ih (by omega)]
      by_cases hc : r < k ∧ cs.getD r 0 = (a : Int)
      · rw [if_pos hc, if_pos ⟨by omega, hc.2⟩]
      · rw [if_neg hc, if_neg]
        intro h
        by_cases hkr : k = r
        · subst hkr; exact he ⟨rfl, h.2⟩
        · exact hc ⟨by omega, h.2⟩
theorem snoc_ind {α : Type} {P : List α → Prop} (h0 : P []) (h1 : ∀ l x, P l → P (l ++ [x])) (l : List α) : P l := by
  have key : ∀ n (l : List α), l.length = n → P l := by
    intro n
    induction n with
    | zero => intro l hl; rw [List.length_eq_zero_iff.1 hl]; exact h0
    | succ n ih =>
      intro l hl
      have hne : l ≠ [] := by intro h; rw [h] at hl; cases hl
      rw [← List.dropLast_concat_getLast hne]
      exact h1 _ _ (ih _ (by rw [List.length_dropLast]; omega))
  exact key _ l rfl
theorem feed_len (C : Cfg) (lv : Int) (R W : Nat) (us : List (Int × Int)) (l : List Int) : (feed C lv R W us l).length = l.length := by
  unfold feed
  induction us generalizing l with
  | nil => rfl
  | cons u us ih =>
    rw [List.foldl_cons, ih]
    unfold updL
    cases decide (C.mode = 2) <;> exact putK_len _ _ _ _ _
/-- Each cell is the sum of what the keys have whose column it is. -/
theorem feed_cell (C : Cfg) (hok : C.Ok) (lv : Int) (R W : Nat) (hr : C.rows = R) (hw : C.width = W) (hm : C.mode ≠ 2) (us : List (Int × Int)) {r a : Nat} (hrr : r < R) (ha : a < W) :
    (feed C lv R W us (zs (R * W))).getD (r * W + a) 0 = sumIf (fun k => (cols C lv k).getD r 0 == (a : Int)) (cutP C lv us) := by
  refine snoc_ind (P := fun us => (feed C lv R W us (zs (R * W))).getD (r * W + a) 0 = sumIf (fun k => (cols C lv k).getD r 0 == (a : Int)) (cutP C lv us)) ?_ ?_ us
  ·
    show (zs (R * W)).getD _ 0 = 0
    unfold zs
    rw [List.getD_eq_getElem?_getD]
    rcases Nat.lt_or_ge (r * W + a) (R * W) with h | h
    · simp [h]
    · simp [h]
  · intro us u ih
    rw [feed_snoc, cutP_snoc, sumIf_snoc]
    unfold updL
    rw [decide_eq_false hm]
    have hme := cols_meets C hok lv (cutK C lv u.1) hr hw
    show (putK W _ _ R _).getD _ 0 = _
    rw [putK_get hme (by rw [feed_len, zs_len]) hrr ha R (Nat.le_refl _), ih]
    by_cases he : (cols C lv (cutK C lv u.1)).getD r 0 = (a : Int)
    · rw [if_pos ⟨hrr, he⟩]
      have hat : at_ W (cols C lv (cutK C lv u.1)) r = r * W + a := by unfold at_; omega
      rw [hat]
      show _ + _ = _
      rw [ih]
      have hb : ((cols C lv (cutK C lv u.1)).getD r 0 == (a : Int)) = true := by simpa using he
      simp only [hb]; rfl
    · rw [if_neg (fun h => he h.2)]
      have : ((cols C lv (cutK C lv u.1)).getD r 0 == (a : Int)) = false := by simpa using he
      simp only [this]; simp
/-- What is read in a key's columns: what it has, and what others have there. -/
theorem read_cell (C : Cfg) (hok : C.Ok) (lv : Int) (R W : Nat) (hr : C.rows = R) (hw : C.width = W) (hm : C.mode ≠ 2) (us : List (Int × Int)) (key : Int) :
    readL W (feed C lv R W us (zs (R * W))) (cols C lv key) = (List.range R).map fun r => hasP key (cutP C lv us) + othP C lv key r (cutP C lv us) := by
  have hme := cols_meets C hok lv key hr hw
  unfold readL
  rw [hme.len]
  apply List.map_congr_left
  intro r hrr
  rw [List.mem_range] at hrr
  have h0 := hme.lo r hrr
  have h1 := hme.hi r hrr
  have hat : at_ W (cols C lv key) r = r * W + ((cols C lv key).getD r 0).toNat := rfl
  rw [hat, feed_cell C hok lv R W hr hw hm us hrr (by omega)]
  have e : (((cols C lv key).getD r 0).toNat : Int) = (cols C lv key).getD r 0 := Int.toNat_of_nonneg h0
  rw [e]
  rw [sumIf_split _ (fun k => k == key)]
  unfold hasP othP
  congr 1
  · apply sumIf_congr
    intro x _
    cases hx : (x.1 == key) with
    | false => simp
    | true =>
      have : x.1 = key := by simpa using hx
      rw [this]; simp
  · apply sumIf_congr
    intro x _
    unfold sameCol
    exact Bool.and_comm _ _
/-- The least of numbers. -/
def leastF (f : Nat → Int) (k : Nat) : Int := (List.range k).foldl (fun m r => min m (f r)) (f 0)
theorem leastF_succ (f : Nat → Int) (k : Nat) : leastF f (k + 1) = min (leastF f k) (f k) := by
  unfold leastF; rw [List.range_succ, List.foldl_append]; rfl
theorem leastF_le (f : Nat → Int) (k : Nat) : leastF f k ≤ f 0 ∧ ∀ r, r < k → leastF f k ≤ f r := by
  induction k with
  | zero => exact ⟨Int.le_refl _, fun r h => by omega⟩
  | succ k ih =>
    rw [leastF_succ]
    refine ⟨by omega, fun r h => ?_⟩
    by_cases e : r = k
    · subst e; omega
    · have := ih.2 r (by omega); omega
theorem leastF_mem (f : Nat → Int) (k : Nat) (h : 0 < k) : ∃ r, r < k ∧ leastF f k = f r := by
  induction k with
  | zero => omega
  | succ k ih =>
    rw [leastF_succ]
    by_cases hk : 0 < k
    · obtain ⟨r, h1, h2⟩ := ih hk
      rcases Int.le_total (leastF f k) (f k) with h3 | h3
      · exact ⟨r, by omega, by omega⟩
      · exact ⟨k, by omega, by omega⟩
    · have : k = 0 := by omega
      subst this
      refine ⟨0, by omega, ?_⟩
      show min (f 0) (f 0) = f 0
      omega
end Go.Proofs.Ytfhdjekpdifajaa
namespace Go.Proofs.Ytfhdjekpdifajaa
set_option linter.unusedVariables false
open Go.RowKit
structure CfgAt (w : World) (b : Nat) (C : Cfg) : Prop where
  lt : b < w.heap.size
  c0 : w.cell? ⟨b, 0, none⟩ = some (.int .i64 C.bits)
  c1 : w.cell? ⟨b, 1, none⟩ = some (.int .i64 C.rows)
  c2 : w.cell? ⟨b, 2, none⟩ = some (.int .i64 C.width)
  c3 : w.cell? ⟨b, 3, none⟩ = some (.int .i64 C.mode)
  c4 : w.cell? ⟨b, 4, none⟩ = some (.int .u64 C.seed)
theorem CfgAt.of {w : World} {b : Nat} {C : Cfg} {t : TypeId} (h : w.heap[b]? = some (.cells #[.int .i64 C.bits, .int .i64 C.rows, .int .i64 C.width, .int .i64 C.mode, .int .u64 C.seed] t (0, 0))) : CfgAt w b C :=
  ⟨lt_of h, (cell_of h 0).trans rfl, (cell_of h 1).trans rfl, (cell_of h 2).trans rfl, (cell_of h 3).trans rfl, (cell_of h 4).trans rfl⟩
theorem CfgAt.box {w : World} (C : Cfg) (t : TypeId) {n : Nat} (h : n = w.heap.size) : CfgAt (w.alloc (.cells #[.int .i64 C.bits, .int .i64 C.rows, .int .i64 C.width, .int .i64 C.mode, .int .u64 C.seed] t)) n C := CfgAt.of (t := t) (heap_at _ _ h)
theorem CfgAt.ext {w w' : World} {b : Nat} {C : Cfg} (h : CfgAt w b C) (he : Ext w w') : CfgAt w' b C :=
  have k := (bcell he).1
  ⟨Nat.lt_of_lt_of_le h.lt he.size, (k _ _ h.lt).trans h.c0, (k _ _ h.lt).trans h.c1, (k _ _ h.lt).trans h.c2, (k _ _ h.lt).trans h.c3, (k _ _ h.lt).trans h.c4⟩
theorem CfgAt.mod {S : Nat → Prop} {w w' : World} {b : Nat} {C : Cfg} (h : CfgAt w b C) (he : Mod S w w') (hs : ¬ S b) : CfgAt w' b C :=
  have k := fun o => mcell he h.lt hs o
  ⟨Nat.lt_of_lt_of_le h.lt he.size, (k _).trans h.c0, (k _).trans h.c1, (k _).trans h.c2, (k _).trans h.c3, (k _).trans h.c4⟩
structure PlayAt (w : World) (b : Nat) (x : Cfg) (lv : Int) (v : Value) : Prop where
  c : CfgAt w b x
  c5 : w.cell? ⟨b, 5, none⟩ = some (.int .i64 lv)
  c6 : w.cell? ⟨b, 6, none⟩ = some v
theorem PlayAt.box {w : World} (x : Cfg) (lv : Int) (v : Value) (t : TypeId) {n : Nat} (h : n = w.heap.size) : PlayAt (w.alloc (.cells #[.int .i64 x.bits, .int .i64 x.rows, .int .i64 x.width, .int .i64 x.mode, .int .u64 x.seed, .int .i64 lv, v] t)) n x lv v :=
  have h := heap_at w (.cells #[.int .i64 x.bits, .int .i64 x.rows, .int .i64 x.width, .int .i64 x.mode, .int .u64 x.seed, .int .i64 lv, v] t) h
  ⟨⟨lt_of h, (cell_of h 0).trans rfl, (cell_of h 1).trans rfl, (cell_of h 2).trans rfl, (cell_of h 3).trans rfl, (cell_of h 4).trans rfl⟩, (cell_of h 5).trans rfl, (cell_of h 6).trans rfl⟩
theorem PlayAt.ext {w w' : World} {b : Nat} {x : Cfg} {lv : Int} {v : Value} (h : PlayAt w b x lv v) (he : Ext w w') : PlayAt w' b x lv v :=
  have k := (bcell he).1
  ⟨h.c.ext he, (k _ _ h.c.lt).trans h.c5, (k _ _ h.c.lt).trans h.c6⟩
theorem PlayAt.mod {S : Nat → Prop} {w w' : World} {b : Nat} {x : Cfg} {lv : Int} {v : Value} (h : PlayAt w b x lv v) (he : Mod S w w') (hs : ¬ S b) : PlayAt w' b x lv v :=
  have k := fun o => mcell he h.c.lt hs o
  ⟨h.c.mod he hs, (k _).trans h.c5, (k _).trans h.c6⟩
theorem UpsAt.ext {w w' : World} {v : Value} {us : List (Int × Int)} (h : UpsAt w v us) (he : Ext w w') : UpsAt w' v us :=
  h.imp id (fun ⟨g, off, cap, hv, hl, hc⟩ => ⟨g, off, cap, hv, Nat.lt_of_lt_of_le hl he.size, fun k hk => ⟨((bcell he).1 _ _ hl).trans (hc k hk).1, ((bcell he).1 _ _ hl).trans (hc k hk).2⟩⟩)
theorem UpsAt.sl {w : World} {v : Value} {us : List (Int × Int)} (h : UpsAt w v us) : ∃ p c, v = .slice p us.length c := by
  rcases h with ⟨⟨_, rfl⟩, rfl⟩ | ⟨g, off, cap, rfl, _⟩
  · exact ⟨_, _, rfl⟩
  · exact ⟨_, _, rfl⟩
/-- One update of a slice, with its cells. -/
theorem UpsAt.one {w : World} {p : Option Addr} {n c : Nat} {us : List (Int × Int)} (h : UpsAt w (.slice p n c) us) {k : Nat} (hk : k < us.length) :
    ∃ g off, p = some ⟨g, off, none⟩ ∧ g < w.heap.size ∧ w.cell? ⟨g, off + k * 2, none⟩ = some (.int .u64 us[k].1) ∧ w.cell? ⟨g, off + k * 2 + 1, none⟩ = some (.int .i64 us[k].2) := by
  obtain ⟨g, off, cap, hvv, hgl, hcell⟩ := h.resolve_left (fun h => by rw [h.2] at hk; simp at hk)
  obtain ⟨rfl, rfl⟩ : p = some ⟨g, off, none⟩ ∧ n = us.length := by
    have := Value.slice.inj hvv
    exact ⟨this.1, this.2.1⟩
  have := hcell k hk
  have hget : us.getD k (0, 0) = us[k] := by simp [hk]
  rw [hget] at this
  exact ⟨g, off, rfl, hgl, this.1, this.2⟩
end Go.Proofs.Ytfhdjekpdifajaa
namespace Go.Proofs.Ytfhdjekpdifajaa
set_option linter.unusedVariables false
open Go.RowKit
/-- Is a level exact? -/
def isX (C : Cfg) (lv : Int) : Bool := decide (keys C lv ≤ C.width)
def kN (C : Cfg) (lv : Int) : Nat := (keys C lv).toNat
theorem kN_eq {C : Cfg} (h : C.Ok) {lv : Int} (h0 : 0 ≤ lv) : keys C lv = (kN C lv : Int) := by
  have := (keys_bd C h lv h0).1
  unfold kN; omega
set_option maxRecDepth 20000 in
set_option maxHeartbeats 2000000 in
theorem Exact_c (C : Cfg) (h : C.Ok) (lv : Int) (h0 : 0 ≤ lv) (h1 : lv ≤ C.bits) (w : World) :
    Calls Try.prog 43 #[.agg #[.int .i64 C.bits, .int .i64 C.rows, .int .i64 C.width, .int .i64 C.mode, .int .u64 C.seed], .int .i64 lv] w fun e w' => e = .returned (.bool (isX C lv)) ∧ Ext w w' := by
  have hk := keys_bd C h lv h0
  have w1' := h.w1
  have w2' := h.w2
  have hI : isX C lv = decide (keys C lv ≤ C.width) := rfl
  go_enter Try.func43, Try.ntmps43
  go_wp2_with fail
  refine (Keys_c C h lv h0 h1 _).mono ?_
  rintro e w1 ⟨rfl, hb⟩
  have hE : Ext w w1 := by (repeat' (first | exact Ext.refl _ | assumption | apply Ext.allocR | apply Ext.drewR | apply Ext.drewNR | (refine Ext.trans' ?_ (by assumption))))
  have hC := (CfgAt.box (w := w) C 24 rfl).ext hb
  have c2 := hC.c2
  have cl := hC.lt
  have HI := Lib.hid hI
  generalize keys C lv = N at *
  clear hb hI hC
  by_cases hx : N ≤ C.width
  · go_wp2
    go_ret
    exact ⟨by rw [HI.out, decide_eq_true hx]; rfl, hE⟩
  · go_wp2
    go_ret
    exact ⟨by rw [HI.out, decide_eq_false (by omega)]; rfl, hE⟩
/-- An array. -/
structure EAt (w : World) (s b c : Nat) (C : Cfg) (lv : Int) (K : Nat) (l : List Int) : Prop where
  ex : w.heap[s]? = some (.cells #[.int .i64 C.bits, .int .i64 C.rows, .int .i64 C.width, .int .i64 C.mode, .int .u64 C.seed, .int .i64 lv, .pointer (some ⟨b, 0, none⟩)] 111 (0, 0))
  g : GAt w b c 1 K l
  ok : C.Ok
  lo : 0 ≤ lv
  hi : lv ≤ C.bits
  hk : keys C lv = K
  fit : ∀ x ∈ l, I64 x
theorem EAt.lts {w : World} {s b c : Nat} {C : Cfg} {lv : Int} {K : Nat} {l : List Int} (h : EAt w s b c C lv K l) : s < w.heap.size := lt_of h.ex
theorem EAt.keep {w w' : World} {s b c : Nat} {C : Cfg} {lv : Int} {K : Nat} {l : List Int} (h : EAt w s b c C lv K l) (hs : w'.heap[s]? = w.heap[s]?) (hb : w'.heap[b]? = w.heap[b]?) (hc : w'.heap[c]? = w.heap[c]?) : EAt w' s b c C lv K l :=
  ⟨by rw [hs]; exact h.ex, h.g.keep hb hc, h.ok, h.lo, h.hi, h.hk, h.fit⟩
theorem EAt.ext {w w' : World} {s b c : Nat} {C : Cfg} {lv : Int} {K : Nat} {l : List Int} (h : EAt w s b c C lv K l) (he : Ext w w') : EAt w' s b c C lv K l :=
  h.keep (he.block s h.lts) (he.block b h.g.ltb) (he.block c h.g.ltc)
theorem EAt.nes {w : World} {s b c : Nat} {C : Cfg} {lv : Int} {K : Nat} {l : List Int} (h : EAt w s b c C lv K l) : s ≠ c := by
  intro e
  obtain ⟨cap, h1, h2⟩ := h.g.ex
  obtain ⟨cur, h3, _⟩ := h2.ex
  have := h.ex
  rw [e, h3] at this
  simp at this
theorem EAt.mod {S : Nat → Prop} {w w' : World} {s b c : Nat} {C : Cfg} {lv : Int} {K : Nat} {l : List Int} (h : EAt w s b c C lv K l) (he : Mod S w w') (h1 : ¬ S s) (h2 : ¬ S b) (h3 : ¬ S c) : EAt w' s b c C lv K l :=
  h.keep (he.block s h.lts h1) (he.block b h.g.ltb h2) (he.block c h.g.ltc h3)
theorem EAt.len {w : World} {s b c : Nat} {C : Cfg} {lv : Int} {K : Nat} {l : List Int} (h : EAt w s b c C lv K l) : l.length = K := by
  rw [h.g.len, Nat.one_mul]
def ENewPost (w : World) (C : Cfg) (lv : Int) (N : Nat) (e : Ending) (w' : World) : Prop :=
  ∃ s b c, e = .returned (.tuple #[.pointer (some ⟨s, 0, none⟩), .int .i64 0]) ∧ EAt w' s b c C lv N (zs N) ∧ w.heap.size ≤ s ∧ w.heap.size ≤ b ∧ w.heap.size ≤ c ∧ Ext w w'
set_option maxRecDepth 20000 in
set_option maxHeartbeats 2000000 in
theorem ENew_c (C : Cfg) (h : C.Ok) (lv : Int) (h0 : 0 ≤ lv) (h1 : lv ≤ C.bits) (N : Nat) (hN : keys C lv = N) (hx : isX C lv = true) (w : World) :
    Calls Try.prog 44 #[.agg #[.int .i64 C.bits, .int .i64 C.rows, .int .i64 C.width, .int .i64 C.mode, .int .u64 C.seed], .int .i64 lv] w (ENewPost w C lv N) := by
  have hk := keys_bd C h lv h0
  have w2' := h.w2
  have hx' : keys C lv ≤ C.width := by simpa [isX] using hx
  have HX := Lib.hid hx
  have HN := Lib.hid hN
  rw [hN] at hk hx'
  clear hx hN
  go_enter Try.func44, Try.ntmps44
  go_wp2_with fail
  refine (Exact_c C h lv h0 h1 _).mono ?_
  rintro e w1 ⟨rfl, hb⟩
  rw [HX.out]
  have hE : Ext w w1 := by (repeat' (first | exact Ext.refl _ | assumption | apply Ext.allocR | apply Ext.drewR | apply Ext.drewNR | (refine Ext.trans' ?_ (by assumption))))
  have hC := (CfgAt.box (w := w) C 24 rfl).ext hb
  have d0 := hC.c0
  have d1 := hC.c1
  have d2 := hC.c2
  have d3 := hC.c3
  have d4 := hC.c4
  have cl := hC.lt
  clear hb hC
  go_wp2
  have hC0 := af_drew w1
  refine pi_start (fun w' => ∃ x : After w1, w' = x.w) [] (by kernel_rfl) ?_
  refine pi_t 1 rfl (by kernel_rfl) (by kernel_rfl) (fun _ _ _ _ h => h) (fun K hK => ?_)
  go_big_quiet_op
  refine hK _ ?_
  clear hK K
  refine pi_t 3 rfl (by kernel_rfl) (by kernel_rfl) (fun _ _ _ _ h => h) (fun K hK => ?_)
  go_big_quiet_op
  refine hK _ ?_
  clear hK K
  refine pi_c 0 (by assumption) rfl (by kernel_rfl) (by kernel_rfl) (fun _ _ _ _ h => h) (fun K hK => ?_)
  go_big_quiet_op
  refine hK _ ?_
  clear hK K
  refine pi_c 2 (by assumption) rfl (by kernel_rfl) (by kernel_rfl) (fun _ _ _ _ h => h) (fun K hK => ?_)
  go_big_quiet_op
  refine hK _ ?_
  clear hK K
  refine pi_l 4 rfl (by kernel_rfl) (fun K hK => ?_)
  go_wp2_with (go_at_call 29; refine (Keys_c C h lv h0 h1 _).mono ?_; rintro e w2 ⟨rfl, hx2⟩)
  refine hK _ _ (fun _ h => af_step h hx2) ?_
  clear hK K
  rw [HN.out]
  refine pi_t 5 rfl (by kernel_rfl) (by kernel_rfl) (fun _ _ _ _ h => h) (fun K hK => ?_)
  go_big_quiet_op
  refine hK _ ?_
  clear hK K
  refine pi_l 6 rfl (by kernel_rfl) (fun K hK => ?_)
  go_wp2_with (go_at_call 50; refine (GNew_c 1 N _ (by decide) (by decide) (by omega) (by omega)).mono ?_; rintro e w3 ⟨gb, gc, rfl, hG, hgb, hgc, hx3⟩)
  refine hK _ _ (fun _ h => af_step h hx3) ?_
  clear hK K
  refine pi_t 7 rfl (by kernel_rfl) (by kernel_rfl) (fun _ _ _ _ h => h) (fun K hK => ?_)
  go_big_quiet_op
  refine hK _ ?_
  clear hK K
  refine pi_l 8 rfl (by kernel_rfl) (fun K hK => ?_)
  go_wp2
  refine hK _ _ (fun _ h => af_step h (Ext.alloc' _ _)) ?_
  clear hK K
  refine pi_t 9 rfl (by kernel_rfl) (by kernel_rfl) (fun _ _ _ _ h => h) (fun K hK => ?_)
  go_big_quiet_op
  refine hK _ ?_
  clear hK K
  refine pi_t 10 rfl (by kernel_rfl) (by kernel_rfl) (fun _ _ _ _ h => h) (fun K hK => ?_)
  go_big_quiet_op
  refine hK _ ?_
  clear hK K
  refine pi_end (by kernel_rfl) ?_
  go_wp2
  go_ret2
  have hx2' : Ext w1 w2 := Ext.trans' (Below.drew (Ext.refl w1)) hx2
  have hs2 := hx2'.size
  have hs3 := hx3.size
  have hs1 := hE.size
  rw [Nat.one_mul] at hG
  refine ⟨w3.heap.size, gb, gc, rfl, ⟨?_, hG.keep (heap_old _ _ hG.ltb) (heap_old _ _ hG.ltc), h, h0, h1, HN.out, ?_⟩, by omega, by omega, by omega, by (repeat' (first | exact Ext.refl _ | assumption | apply Ext.allocR | apply Ext.drewR | apply Ext.drewNR | (refine Ext.trans' ?_ (by assumption))))⟩
  · rw [heap_at _ _ rfl]
  · intro x hx
    simp only [zs, List.mem_replicate] at hx
    rw [hx.2]
    unfold I64; omega
end Go.Proofs.Ytfhdjekpdifajaa
namespace Go.Proofs.Ytfhdjekpdifajaa
set_option linter.unusedVariables false
open Go.RowKit
/-- What Check tells of an array. -/
def errX (C : Cfg) (lv : Int) (l : List Int) (key d : Int) : Int :=
  bif decide (key < keys C lv) then (bif decide (C.mode = 2) && decide (d < 0) then 3 else bif fitB (l.getD key.toNat 0 + d) then 0 else 4) else 2
def updX (l : List Int) (key d : Int) : List Int := l.set key.toNat (l.getD key.toNat 0 + d)
theorem errX_key {C : Cfg} {lv : Int} {l : List Int} {key d : Int} (h : keys C lv ≤ key) : errX C lv l key d = 2 := by
  unfold errX; rw [decide_eq_false (by omega)]; rfl
theorem errX_neg {C : Cfg} {lv : Int} {l : List Int} {key d : Int} (h : key < keys C lv) (hm : C.mode = 2) (hd : d < 0) : errX C lv l key d = 3 := by
  unfold errX; rw [decide_eq_true h, decide_eq_true hm, decide_eq_true hd]; rfl
theorem errX_sum {C : Cfg} {lv : Int} {l : List Int} {key d : Int} (h : key < keys C lv) (hm : ¬ (C.mode = 2 ∧ d < 0)) : errX C lv l key d = bif fitB (l.getD key.toNat 0 + d) then 0 else 4 := by
  unfold errX
  rw [decide_eq_true h]
  have : (decide (C.mode = 2) && decide (d < 0)) = false := by
    rw [Bool.and_eq_false_iff, decide_eq_false_iff_not, decide_eq_false_iff_not]
    by_cases hc : C.mode = 2
    · exact .inr (fun h => hm ⟨hc, h⟩)
    · exact .inl hc
  rw [this]; rfl
theorem At_k {b c N : Nat} {l : List Int} {w : World} (h : GAt w b c 1 N l) {key : Int} (h0 : 0 ≤ key) (h1 : key < N) :
    Calls Try.prog 82 #[.pointer (some ⟨b, 0, none⟩), .int .i64 0, .int .i64 key] w fun e w' => e = .returned (.int .i64 (l.getD key.toNat 0)) ∧ w = w' := by
  obtain ⟨k, rfl⟩ := Int.eq_ofNat_of_zero_le h0
  have := At_c b c 1 N l w h 0 k (by decide) (by omega)
  rw [Nat.zero_mul, Nat.zero_add] at this
  exact this
theorem Put_k {b c N : Nat} {l : List Int} {w : World} (h : GAt w b c 1 N l) {key : Int} (h0 : 0 ≤ key) (h1 : key < N) (n : Int) :
    Calls Try.prog 83 #[.pointer (some ⟨b, 0, none⟩), .int .i64 0, .int .i64 key, .int .i64 n] w fun e w' => e = .returned (.bool true) ∧ w.setCell ⟨c, key.toNat, none⟩ (.int .i64 n) = w' := by
  obtain ⟨k, rfl⟩ := Int.eq_ofNat_of_zero_le h0
  have := Put_c b c 1 N l w h 0 k (by decide) (by omega) n
  rw [Nat.zero_mul, Nat.zero_add] at this
  exact this
set_option maxRecDepth 20000 in
set_option maxHeartbeats 2000000 in
theorem ECheck_c (s b c : Nat) (C : Cfg) (lv : Int) (N : Nat) (l : List Int) (key d : Int) (w : World) (h : EAt w s b c C lv N l) (hd : I64 d) (hk : U64 key) :
    Calls Try.prog 74 #[.pointer (some ⟨s, 0, none⟩), .int .u64 key, .int .i64 d] w fun e w' => e = .returned (.int .i64 (errX C lv l key d)) ∧ Ext w w' := by
  have c3 := (cell_of h.ex 3).trans rfl
  have c6 := (cell_of h.ex 6).trans rfl
  have hlt := h.lts
  have hg := h.g
  have hN := h.hk
  have w2' := h.g.w2
  have hy := getD_i64 h.fit key.toNat
  obtain ⟨hk0, hk1⟩ := hk
  have HG := Lib.hid hg
  have HN := Lib.hid hN
  have hd' := hd
  unfold I64 at hd
  by_cases hkey : N ≤ key
  · have he := errX_key (l := l) (d := d) (show keys C lv ≤ key by rw [hN]; exact hkey)
    have HE := Lib.hid he
    clear he h hg hN
    go_enter Try.func74, Try.ntmps74
    go_wp2_with fail
    refine (Width_c b c 1 N l _ HG.out).mono ?_
    rintro e w1 ⟨rfl, rfl⟩
    go_wp2
    go_ret
    exact ⟨by rw [HE.out]; rfl, Ext.refl _⟩
  · have hkl : key < keys C lv := by rw [hN]; omega
    by_cases hm : C.mode = 2 ∧ d < 0
    · obtain ⟨hm1, hm2⟩ := hm
      have he := errX_neg (l := l) hkl hm1 hm2
      have hmb : (C.mode == 2) = true := by simpa using hm1
      have HE := Lib.hid he
      clear he h hg hN hm1 hkl
      go_enter Try.func74, Try.ntmps74
      go_wp2_with fail
      refine (Width_c b c 1 N l _ HG.out).mono ?_
      rintro e w1 ⟨rfl, rfl⟩
      go_wp2
      go_ret
      exact ⟨by rw [HE.out]; rfl, Ext.refl _⟩
    · have he := errX_sum (l := l) hkl hm
      have HE := Lib.hid he
      have hmb : ((C.mode == 2) = false) ∨ ((C.mode == 2) = true ∧ ¬ d < 0) := by
        by_cases hc : C.mode = 2
        · exact .inr ⟨by simpa using hc, fun h => hm ⟨hc, h⟩⟩
        · exact .inl (by simpa using hc)
      obtain ⟨y, hyy⟩ : ∃ y, l.getD key.toNat 0 = y := ⟨_, rfl⟩
      rw [hyy] at hy
      have HY := Lib.hid hyy
      clear he h hg hN hm hkl hyy
      have hkN : key < N := by omega
      rcases hmb with hmb | ⟨hmb, hdn⟩
      all_goals
        by_cases hf : I64 (y + d)
        · have hfb := fitB_yes hf
          go_enter Try.func74, Try.ntmps74
          go_wp2_with fail
          refine (Width_c b c 1 N l _ HG.out).mono ?_
          rintro e w1 ⟨rfl, rfl⟩
          go_wp2_with fail
          refine (At_k HG.out hk0 hkN).mono ?_
          rintro e w1 ⟨rfl, rfl⟩
          rw [HY.out]
          go_wp2_with fail
          refine (Plus_c y d hy hd' _).mono ?_
          rintro e w1 ⟨rfl, hx1⟩
          rw [hfb]
          go_wp2
          go_ret
          exact ⟨by rw [HE.out, HY.out, hfb]; rfl, hx1⟩
        · have hfb := fitB_no hf
          go_enter Try.func74, Try.ntmps74
          go_wp2_with fail
          refine (Width_c b c 1 N l _ HG.out).mono ?_
          rintro e w1 ⟨rfl, rfl⟩
          go_wp2_with fail
          refine (At_k HG.out hk0 hkN).mono ?_
          rintro e w1 ⟨rfl, rfl⟩
          rw [HY.out]
          go_wp2_with fail
          refine (Plus_c y d hy hd' _).mono ?_
          rintro e w1 ⟨rfl, hx1⟩
          rw [hfb]
          go_wp2
          go_ret
          exact ⟨by rw [HE.out, HY.out, hfb]; rfl, hx1⟩
/-- What Update does to an array. -/
def EUpdPost (w : World) (s b c : Nat) (C : Cfg) (lv : Int) (N : Nat) (l : List Int) (key d : Int) (e : Ending) (w' : World) : Prop :=
  e = .returned (.int .i64 (errX C lv l key d)) ∧
    ((errX C lv l key d = 0 ∧ EAt w' s b c C lv N (updX l key d) ∧ Mod (fun k => k = c) w w') ∨ (errX C lv l key d ≠ 0 ∧ Ext w w'))
theorem errX_zero {C : Cfg} {lv : Int} {l : List Int} {key d : Int} (h : errX C lv l key d = 0) : key < keys C lv ∧ I64 (l.getD key.toNat 0 + d) := by
  rcases Int.lt_or_le key (keys C lv) with h' | h'
  · refine ⟨h', ?_⟩
    by_cases hm : C.mode = 2 ∧ d < 0
    · rw [errX_neg h' hm.1 hm.2] at h; cases h
    · rw [errX_sum h' hm] at h
      by_cases hf : I64 (l.getD key.toNat 0 + d)
      · exact hf
      · rw [fitB_no hf] at h; cases h
  · rw [errX_key h'] at h; cases h
theorem EAt.setl {w : World} {s b c : Nat} {C : Cfg} {lv : Int} {N : Nat} {l : List Int} (h : EAt w s b c C lv N l) {i : Nat} (hi : i < l.length) {n : Int} (hn : I64 n) : EAt (w.setCell ⟨c, i, none⟩ (.int .i64 n)) s b c C lv N (l.set i n) :=
  ⟨by rw [setCell_other _ _ h.nes]; exact h.ex, h.g.set hi n, h.ok, h.lo, h.hi, h.hk, fun x hx => by
    rcases List.mem_or_eq_of_mem_set hx with h1 | h1
    · exact h.fit x h1
    · rw [h1]; exact hn⟩
set_option maxRecDepth 20000 in
set_option maxHeartbeats 2000000 in
theorem EUpdate_c (s b c : Nat) (C : Cfg) (lv : Int) (N : Nat) (l : List Int) (key d : Int) (w : World) (h : EAt w s b c C lv N l) (hd : I64 d) (hk : U64 key) :
    Calls Try.prog 79 #[.pointer (some ⟨s, 0, none⟩), .int .u64 key, .int .i64 d] w (EUpdPost w s b c C lv N l key d) := by
  by_cases he0 : errX C lv l key d = 0
  · have hz := errX_zero he0
    have hN := h.hk
    have w2' := h.g.w2
    have hkN : key < N := by omega
    have hsum := hz.2
    have hlen := h.len
    have HE := Lib.hid he0
    obtain ⟨hk0, hk1⟩ := hk
    clear he0 hz
    go_enter Try.func79, Try.ntmps79
    go_wp2_with fail
    refine (ECheck_c s b c C lv N l key d _ h hd ⟨hk0, hk1⟩).mono ?_
    rintro e w1 ⟨rfl, hx1⟩
    rw [HE.out]
    have h' := h.ext hx1
    have c6 := (cell_of h'.ex 6).trans rfl
    have hlt := h'.lts
    have hG := h'.g.ext (Below.drew (Ext.refl w1))
    obtain ⟨y, hyy⟩ : ∃ y, l.getD key.toNat 0 = y := ⟨_, rfl⟩
    have HY := Lib.hid hyy
    have HS := Lib.hid hsum
    rw [hyy] at hsum
    unfold I64 at hsum hd
    clear hyy hN
    have HH := Lib.hid h'
    clear h h'
    go_wp2
    have hC0 := af_drew w1
    refine pi_start (fun w' => ∃ x : After w1, w' = x.w) [15] (by kernel_rfl) ?_
    refine pi_t 0 rfl (by kernel_rfl) (by kernel_rfl) (fun _ _ _ _ h => h) (fun K hK => ?_)
    go_big_quiet_op
    refine hK _ ?_
    clear hK K
    refine pi_t 1 rfl (by kernel_rfl) (by kernel_rfl) (fun _ _ _ _ h => h) (fun K hK => ?_)
    go_big_quiet_op
    refine hK _ ?_
    clear hK K
    refine pi_t 2 rfl (by kernel_rfl) (by kernel_rfl) (fun _ _ _ _ h => h) (fun K hK => ?_)
    go_big_quiet_op
    refine hK _ ?_
    clear hK K
    refine pi_t 4 rfl (by kernel_rfl) (by kernel_rfl) (fun _ _ _ _ h => h) (fun K hK => ?_)
    go_big_quiet_op
    refine hK _ ?_
    clear hK K
    refine pi_t 5 rfl (by kernel_rfl) (by kernel_rfl) (fun _ _ _ _ h => h) (fun K hK => ?_)
    go_big_quiet_op
    refine hK _ ?_
    clear hK K
    refine pi_t 6 rfl (by kernel_rfl) (by kernel_rfl) (fun _ _ _ _ h => h) (fun K hK => ?_)
    go_big_quiet_op
    refine hK _ ?_
    clear hK K
    refine pi_t 7 rfl (by kernel_rfl) (by kernel_rfl) (fun _ _ _ _ h => h) (fun K hK => ?_)
    go_big_quiet_op
    refine hK _ ?_
    clear hK K
    refine pi_t 8 rfl (by kernel_rfl) (by kernel_rfl) (fun _ _ _ _ h => h) (fun K hK => ?_)
    go_big_quiet_op
    refine hK _ ?_
    clear hK K
    refine pi_t 10 rfl (by kernel_rfl) (by kernel_rfl) (fun _ _ _ _ h => h) (fun K hK => ?_)
    go_big_quiet_op
    refine hK _ ?_
    clear hK K
    refine pi_t 11 rfl (by kernel_rfl) (by kernel_rfl) (fun _ _ _ _ h => h) (fun K hK => ?_)
    go_big_quiet_op
    refine hK _ ?_
    clear hK K
    refine pi_t 13 rfl (by kernel_rfl) (by kernel_rfl) (fun _ _ _ _ h => h) (fun K hK => ?_)
    go_big_quiet_op
    refine hK _ ?_
    clear hK K
    refine pi_c 3 (by assumption) rfl (by kernel_rfl) (by kernel_rfl) (fun _ _ _ _ h => h) (fun K hK => ?_)
    go_big_quiet_op
    refine hK _ ?_
    clear hK K
    refine pi_l 9 rfl (by kernel_rfl) (fun K hK => ?_)
    go_wp2
    refine hK _ _ (fun _ h => h) ?_
    clear hK K
    refine pi_l 12 rfl (by kernel_rfl) (fun K hK => ?_)
    go_wp2_with (go_at_call 82; refine (At_k hG hk0 hkN).mono ?_; rintro e w2 ⟨rfl, rfl⟩; rw [HY.out])
    refine hK _ _ (fun _ h => h) ?_
    clear hK K
    refine pi_t 14 rfl (by kernel_rfl) (by kernel_rfl) (fun _ _ _ _ h => h) (fun K hK => ?_)
    go_big_quiet_op
    refine hK _ ?_
    clear hK K
    refine pi_l 15 rfl (by kernel_rfl) (fun K hK => ?_)
    go_wp2_with (go_at_call 83; refine (Put_k hG hk0 hkN (y + d)).mono ?_; rintro e w2 ⟨rfl, rfl⟩)
    refine hK _ _ (by simp) ?_
    clear hK K
    refine pi_end (by kernel_rfl) ?_
    go_wp2
    go_ret
    refine ⟨by rw [HE.out]; rfl, .inl ⟨HE.out, ?_, ?_⟩⟩
    · have := (HH.out.ext (Below.drew (Ext.refl w1))).setl (i := key.toNat) (by rw [hlen]; omega) (n := y + d) (by unfold I64; omega)
      unfold updX
      rw [HY.out]
      exact this
    · exact (hx1.mod _).trans ((Ext.mod _ (Below.drew (Ext.refl w1))).trans (mod_set _ _ _ _))
  · have hb : (errX C lv l key d == 0) = false := by simpa using he0
    go_enter Try.func79, Try.ntmps79
    go_wp2_with fail
    refine (ECheck_c s b c C lv N l key d _ h hd hk).mono ?_
    rintro e w0 ⟨rfl, hx00⟩
    go_wp2
    go_ret
    exact ⟨rfl, .inr ⟨he0, hx00⟩⟩
set_option maxRecDepth 20000 in
theorem EPoint_c (s b c : Nat) (C : Cfg) (lv : Int) (N : Nat) (l : List Int) (key : Int) (w : World) (h : EAt w s b c C lv N l) (hk0 : 0 ≤ key) (hk1 : key < keys C lv) :
    Calls Try.prog 78 #[.pointer (some ⟨s, 0, none⟩), .int .u64 key] w fun e w' => e = .returned (.tuple #[.int .i64 (l.getD key.toNat 0), .int .i64 0]) ∧ w = w' := by
  have c6 := (cell_of h.ex 6).trans rfl
  have hlt := h.lts
  have hG := h.g
  have w2' := h.g.w2
  have hkN : key < N := by rw [← h.hk]; exact hk1
  have HG := Lib.hid hG
  clear h hG hk1
  go_enter Try.func78, Try.ntmps78
  go_wp2_with fail
  refine (Width_c b c 1 N l _ HG.out).mono ?_
  rintro e w1 ⟨rfl, rfl⟩
  go_wp2_with fail
  refine (At_k HG.out hk0 hkN).mono ?_
  rintro e w1 ⟨rfl, rfl⟩
  go_wp2
  go_ret2
  exact ⟨rfl, rfl⟩
end Go.Proofs.Ytfhdjekpdifajaa
namespace Go.Proofs.Ytfhdjekpdifajaa
set_option linter.unusedVariables false
open Go.RowKit
def rN (C : Cfg) : Nat := C.rows.toNat
def wN (C : Cfg) : Nat := C.width.toNat
theorem rN_eq {C : Cfg} (h : C.Ok) : C.rows = (rN C : Int) := by have := h.r1; unfold rN; omega
theorem wN_eq {C : Cfg} (h : C.Ok) : C.width = (wN C : Int) := by have := h.w1; unfold wN; omega
/-- How many cells a level has. -/
def lvN (C : Cfg) (lv : Int) : Nat := bif isX C lv then kN C lv else rN C * wN C
/-- Where a level lies: what it is, its grid, its cells. -/
structure Lev where
  s : Nat
  b : Nat
  c : Nat
def LvAt (w : World) (L : Lev) (C : Cfg) (lv : Int) (l : List Int) : Prop :=
  (isX C lv = true ∧ EAt w L.s L.b L.c C lv (kN C lv) l) ∨ (isX C lv = false ∧ SAt w L.s L.b L.c C lv (rN C) (wN C) l)
def lvT (C : Cfg) (lv : Int) : TypeId := bif isX C lv then 96 else 99
def lvV (C : Cfg) (lv : Int) (L : Lev) : Value := .iface (lvT C lv) (.pointer (some ⟨L.s, 0, none⟩))
theorem lvV_x {C : Cfg} {lv : Int} (h : isX C lv = true) (L : Lev) : lvV C lv L = .iface 96 (.pointer (some ⟨L.s, 0, none⟩)) := by unfold lvV lvT; rw [h]; rfl
theorem lvV_s {C : Cfg} {lv : Int} (h : isX C lv = false) (L : Lev) : lvV C lv L = .iface 99 (.pointer (some ⟨L.s, 0, none⟩)) := by unfold lvV lvT; rw [h]; rfl
theorem LvAt.x {w : World} {L : Lev} {C : Cfg} {lv : Int} {l : List Int} (h : LvAt w L C lv l) (hx : isX C lv = true) : EAt w L.s L.b L.c C lv (kN C lv) l := by
  rcases h with ⟨_, h⟩ | ⟨h, _⟩
  · exact h
  · rw [hx] at h; cases h
theorem LvAt.sk {w : World} {L : Lev} {C : Cfg} {lv : Int} {l : List Int} (h : LvAt w L C lv l) (hx : isX C lv = false) : SAt w L.s L.b L.c C lv (rN C) (wN C) l := by
  rcases h with ⟨h, _⟩ | ⟨_, h⟩
  · rw [hx] at h; cases h
  · exact h
theorem LvAt.lts {w : World} {L : Lev} {C : Cfg} {lv : Int} {l : List Int} (h : LvAt w L C lv l) : L.s < w.heap.size := by
  rcases h with ⟨_, h⟩ | ⟨_, h⟩ <;> exact h.lts
theorem LvAt.ltb {w : World} {L : Lev} {C : Cfg} {lv : Int} {l : List Int} (h : LvAt w L C lv l) : L.b < w.heap.size := by
  rcases h with ⟨_, h⟩ | ⟨_, h⟩ <;> exact h.g.ltb
theorem LvAt.ltc {w : World} {L : Lev} {C : Cfg} {lv : Int} {l : List Int} (h : LvAt w L C lv l) : L.c < w.heap.size := by
  rcases h with ⟨_, h⟩ | ⟨_, h⟩ <;> exact h.g.ltc
theorem LvAt.ok {w : World} {L : Lev} {C : Cfg} {lv : Int} {l : List Int} (h : LvAt w L C lv l) : C.Ok := by
  rcases h with ⟨_, h⟩ | ⟨_, h⟩ <;> exact h.ok
theorem LvAt.lo {w : World} {L : Lev} {C : Cfg} {lv : Int} {l : List Int} (h : LvAt w L C lv l) : 0 ≤ lv := by
  rcases h with ⟨_, h⟩ | ⟨_, h⟩ <;> exact h.lo
theorem LvAt.hi {w : World} {L : Lev} {C : Cfg} {lv : Int} {l : List Int} (h : LvAt w L C lv l) : lv ≤ C.bits := by
  rcases h with ⟨_, h⟩ | ⟨_, h⟩ <;> exact h.hi
theorem LvAt.fit {w : World} {L : Lev} {C : Cfg} {lv : Int} {l : List Int} (h : LvAt w L C lv l) : ∀ x ∈ l, I64 x := by
  rcases h with ⟨_, h⟩ | ⟨_, h⟩ <;> exact h.fit
theorem LvAt.len {w : World} {L : Lev} {C : Cfg} {lv : Int} {l : List Int} (h : LvAt w L C lv l) : l.length = lvN C lv := by
  unfold lvN
  rcases h with ⟨hx, h⟩ | ⟨hx, h⟩
  · rw [hx]; exact h.len
  · rw [hx]; exact h.g.len
theorem LvAt.keep {w w' : World} {L : Lev} {C : Cfg} {lv : Int} {l : List Int} (h : LvAt w L C lv l) (hs : w'.heap[L.s]? = w.heap[L.s]?) (hb : w'.heap[L.b]? = w.heap[L.b]?) (hc : w'.heap[L.c]? = w.heap[L.c]?) : LvAt w' L C lv l := by
  rcases h with ⟨hx, h⟩ | ⟨hx, h⟩
  · exact .inl ⟨hx, h.keep hs hb hc⟩
  · exact .inr ⟨hx, h.keep hs hb hc⟩
theorem LvAt.ext {w w' : World} {L : Lev} {C : Cfg} {lv : Int} {l : List Int} (h : LvAt w L C lv l) (he : Ext w w') : LvAt w' L C lv l :=
  h.keep (he.block _ h.lts) (he.block _ h.ltb) (he.block _ h.ltc)
/-- A block of cells is a block of int64. -/
theorem LvAt.isc {w : World} {L : Lev} {C : Cfg} {lv : Int} {l : List Int} (h : LvAt w L C lv l) : ∃ cur, w.heap[L.c]? = some (.cells cur 2 (0, 0)) := by
  rcases h with ⟨_, h⟩ | ⟨_, h⟩ <;> (obtain ⟨cap, _, h2⟩ := h.g.ex; obtain ⟨cur, h3, _⟩ := h2.ex; exact ⟨cur, h3⟩)
theorem LvAt.iss {w : World} {L : Lev} {C : Cfg} {lv : Int} {l : List Int} (h : LvAt w L C lv l) : ∃ cur t, w.heap[L.s]? = some (.cells cur t (0, 0)) ∧ t ≠ 2 := by
  rcases h with ⟨_, h⟩ | ⟨_, h⟩ <;> exact ⟨_, _, h.ex, by decide⟩
theorem LvAt.isb {w : World} {L : Lev} {C : Cfg} {lv : Int} {l : List Int} (h : LvAt w L C lv l) : ∃ cur t, w.heap[L.b]? = some (.cells cur t (0, 0)) ∧ t ≠ 2 := by
  rcases h with ⟨_, h⟩ | ⟨_, h⟩ <;> (obtain ⟨cap, h1, _⟩ := h.g.ex; exact ⟨_, _, h1, by decide⟩)
theorem blk_ne {w : World} {i j : Nat} {cur cur' : Array Value} {t t' : TypeId} {f f' : Nat × Nat} (h : w.heap[i]? = some (.cells cur t f)) (h' : w.heap[j]? = some (.cells cur' t' f')) (ht : t ≠ t') : i ≠ j := by
  intro e
  subst e
  rw [h] at h'
  injection h' with h'
  injection h' with _ h' _
  exact ht h'
/-- What another level's cells are changed to does not touch a level. -/
theorem LvAt.mod {S : Nat → Prop} {w w' : World} {L : Lev} {C : Cfg} {lv : Int} {l : List Int} (h : LvAt w L C lv l) (he : Mod S w w') (hS : ∀ k, S k → k < w.heap.size → ∃ cur, w.heap[k]? = some (.cells cur 2 (0, 0))) (hc : ¬ S L.c) : LvAt w' L C lv l := by
  refine h.keep (he.block _ h.lts fun hs => ?_) (he.block _ h.ltb fun hs => ?_) (he.block _ h.ltc hc)
  · obtain ⟨cur, t, h1, h2⟩ := h.iss
    obtain ⟨cur', h3⟩ := hS _ hs h.lts
    exact blk_ne h1 h3 h2 rfl
  · obtain ⟨cur, t, h1, h2⟩ := h.isb
    obtain ⟨cur', h3⟩ := hS _ hs h.ltb
    exact blk_ne h1 h3 h2 rfl
/-- Is a level an array, or a sketch? -/
@[go_sem] theorem ta_xx (p : Option Addr) (w : World) : (Instr.typeAssert (.iface 96 (.pointer p)) 73 96 true).run Try.prog w = .ok (.tuple #[.pointer p, .bool true]) w := by kernel_rfl
@[go_sem] theorem ta_xs (p : Option Addr) (w : World) : (Instr.typeAssert (.iface 96 (.pointer p)) 73 99 true).run Try.prog w = .ok (.tuple #[.pointer none, .bool false]) w := by kernel_rfl
@[go_sem] theorem ta_sx (p : Option Addr) (w : World) : (Instr.typeAssert (.iface 99 (.pointer p)) 73 96 true).run Try.prog w = .ok (.tuple #[.pointer none, .bool false]) w := by kernel_rfl
@[go_sem] theorem ta_ss (p : Option Addr) (w : World) : (Instr.typeAssert (.iface 99 (.pointer p)) 73 99 true).run Try.prog w = .ok (.tuple #[.pointer p, .bool true]) w := by kernel_rfl
@[go_sem] theorem ta_nx (w : World) : (Instr.typeAssert .nilIface 73 96 true).run Try.prog w = .ok (.tuple #[.pointer none, .bool false]) w := by kernel_rfl
@[go_sem] theorem ta_ns (w : World) : (Instr.typeAssert .nilIface 73 99 true).run Try.prog w = .ok (.tuple #[.pointer none, .bool false]) w := by kernel_rfl
@[go_sem] theorem tm_ss (p : Option Addr) (w : World) : (Instr.typeAssert (.iface 99 (.pointer p)) 73 99 false).run Try.prog w = .ok (.pointer p) w := by kernel_rfl
def LNewPost (w : World) (C : Cfg) (lv : Int) (e : Ending) (w' : World) : Prop :=
  ∃ L : Lev, e = .returned (.tuple #[lvV C lv L, .int .i64 0]) ∧ LvAt w' L C lv (zs (lvN C lv)) ∧ w.heap.size ≤ L.s ∧ w.heap.size ≤ L.b ∧ w.heap.size ≤ L.c ∧ Ext w w'
set_option maxRecDepth 20000 in
set_option maxHeartbeats 2000000 in
theorem LNew_c (C : Cfg) (h : C.Ok) (lv : Int) (h0 : 0 ≤ lv) (h1 : lv ≤ C.bits) (w : World) :
    Calls Try.prog 28 #[.agg #[.int .i64 C.bits, .int .i64 C.rows, .int .i64 C.width, .int .i64 C.mode, .int .u64 C.seed], .int .i64 lv] w (LNewPost w C lv) := by
  cases hx : isX C lv with
  | true =>
    have HX := Lib.hid hx
    clear hx
    go_enter Try.func28, Try.ntmps28
    go_wp2_with fail
    refine (Exact_c C h lv h0 h1 _).mono ?_
    rintro e w1 ⟨rfl, hb⟩
    rw [HX.out]
    have hE : Ext w w1 := by (repeat' (first | exact Ext.refl _ | assumption | apply Ext.allocR | apply Ext.drewR | apply Ext.drewNR | (refine Ext.trans' ?_ (by assumption))))
    have hC := (CfgAt.box (w := w) C 24 rfl).ext hb
    have d0 := hC.c0
    have d1 := hC.c1
    have d2 := hC.c2
    have d3 := hC.c3
    have d4 := hC.c4
    have cl := hC.lt
    have hs := hE.size
    clear hb hC
    go_wp2_with fail
    refine (ENew_c C h lv h0 h1 (kN C lv) (kN_eq h h0) HX.out _).mono ?_
    rintro e w2 ⟨s, b, c, rfl, hA, hs1, hb1, hc1, hx2⟩
    go_wp2
    go_ret2
    refine ⟨⟨s, b, c⟩, by rw [lvV_x HX.out]; rfl, .inl ⟨HX.out, ?_⟩, Nat.le_trans hs hs1, Nat.le_trans hs hb1, Nat.le_trans hs hc1, hE.trans' hx2⟩
    unfold lvN; rw [HX.out]; exact hA
  | false =>
    have HX := Lib.hid hx
    clear hx
    go_enter Try.func28, Try.ntmps28
    go_wp2_with fail
    refine (Exact_c C h lv h0 h1 _).mono ?_
    rintro e w1 ⟨rfl, hb⟩
    rw [HX.out]
    have hE : Ext w w1 := by (repeat' (first | exact Ext.refl _ | assumption | apply Ext.allocR | apply Ext.drewR | apply Ext.drewNR | (refine Ext.trans' ?_ (by assumption))))
    have hC := (CfgAt.box (w := w) C 24 rfl).ext hb
    have d0 := hC.c0
    have d1 := hC.c1
    have d2 := hC.c2
    have d3 := hC.c3
    have d4 := hC.c4
    have cl := hC.lt
    have hs := hE.size
    clear hb hC
    go_wp2_with fail
    refine (SNew_c C h lv h0 h1 (rN C) (wN C) (rN_eq h) (wN_eq h) _).mono ?_
    rintro e w2 ⟨s, b, c, rfl, hA, hs1, hb1, hc1, hx2⟩
    go_wp2
    go_ret2
    refine ⟨⟨s, b, c⟩, by rw [lvV_s HX.out]; rfl, .inr ⟨HX.out, ?_⟩, Nat.le_trans hs hs1, Nat.le_trans hs hb1, Nat.le_trans hs hc1, hE.trans' hx2⟩
    unfold lvN; rw [HX.out]; exact hA
end Go.Proofs.Ytfhdjekpdifajaa
namespace Go.Proofs.Ytfhdjekpdifajaa
set_option linter.unusedVariables false
open Go.RowKit
/-- A stack at s: its levels lie at L, and have the cells ls. -/
structure KAt (w : World) (s g : Nat) (C : Cfg) (B : Nat) (L : Nat → Lev) (ls : Nat → List Int) : Prop where
  ex : ∃ cap, w.heap[s]? = some (.cells #[.int .i64 C.bits, .int .i64 C.rows, .int .i64 C.width, .int .i64 C.mode, .int .u64 C.seed, .slice (some ⟨g, 0, none⟩) (B + 1) cap] 71 (0, 0)) ∧ B + 1 ≤ cap
  row : ∃ cur, w.heap[g]? = some (.cells cur 73 (0, 0)) ∧ ∀ n, n ≤ B → cur[n]? = some (lvV C n (L n))
  lev : ∀ n, n ≤ B → LvAt w (L n) C n (ls n)
  sep : ∀ m n, m ≤ B → n ≤ B → m ≠ n → (L m).c ≠ (L n).c
  ok : C.Ok
  hB : C.bits = B
/-- The blocks of its cells. -/
def cellsOf (B : Nat) (L : Nat → Lev) (k : Nat) : Prop := ∃ n, n ≤ B ∧ k = (L n).c
theorem KAt.lts {w : World} {s g : Nat} {C : Cfg} {B : Nat} {L : Nat → Lev} {ls : Nat → List Int} (h : KAt w s g C B L ls) : s < w.heap.size := by
  obtain ⟨cap, h1, _⟩ := h.ex; exact lt_of h1
theorem KAt.ltg {w : World} {s g : Nat} {C : Cfg} {B : Nat} {L : Nat → Lev} {ls : Nat → List Int} (h : KAt w s g C B L ls) : g < w.heap.size := by
  obtain ⟨cur, h1, _⟩ := h.row; exact lt_of h1
theorem KAt.cell {w : World} {s g : Nat} {C : Cfg} {B : Nat} {L : Nat → Lev} {ls : Nat → List Int} (h : KAt w s g C B L ls) {n : Nat} (hn : n ≤ B) : w.cell? ⟨g, n, none⟩ = some (lvV C n (L n)) := by
  obtain ⟨cur, h1, h2⟩ := h.row; rw [cell_of h1]; exact h2 n hn
theorem KAt.isc {w : World} {s g : Nat} {C : Cfg} {B : Nat} {L : Nat → Lev} {ls : Nat → List Int} (h : KAt w s g C B L ls) {k : Nat} (hk : cellsOf B L k) : ∃ cur, w.heap[k]? = some (.cells cur 2 (0, 0)) := by
  obtain ⟨n, hn, rfl⟩ := hk; exact (h.lev n hn).isc
theorem KAt.ltc {w : World} {s g : Nat} {C : Cfg} {B : Nat} {L : Nat → Lev} {ls : Nat → List Int} (h : KAt w s g C B L ls) {k : Nat} (hk : cellsOf B L k) : k < w.heap.size := by
  obtain ⟨n, hn, rfl⟩ := hk; exact (h.lev n hn).ltc
theorem KAt.nots {w : World} {s g : Nat} {C : Cfg} {B : Nat} {L : Nat → Lev} {ls : Nat → List Int} (h : KAt w s g C B L ls) : ¬ cellsOf B L s := by
  intro hk
  obtain ⟨cur, h1⟩ := h.isc hk
  obtain ⟨cap, h2, _⟩ := h.ex
  exact blk_ne h1 h2 (by decide) rfl
theorem KAt.notg {w : World} {s g : Nat} {C : Cfg} {B : Nat} {L : Nat → Lev} {ls : Nat → List Int} (h : KAt w s g C B L ls) : ¬ cellsOf B L g := by
  intro hk
  obtain ⟨cur, h1⟩ := h.isc hk
  obtain ⟨cur', h2, _⟩ := h.row
  exact blk_ne h1 h2 (by decide) rfl
theorem KAt.ext {w w' : World} {s g : Nat} {C : Cfg} {B : Nat} {L : Nat → Lev} {ls : Nat → List Int} (h : KAt w s g C B L ls) (he : Ext w w') : KAt w' s g C B L ls :=
  ⟨by rw [he.block s h.lts]; exact h.ex, by rw [he.block g h.ltg]; exact h.row, fun n hn => (h.lev n hn).ext he, h.sep, h.ok, h.hB⟩
/-- What other cells are changed to does not touch a stack. -/
theorem KAt.mod {S : Nat → Prop} {w w' : World} {s g : Nat} {C : Cfg} {B : Nat} {L : Nat → Lev} {ls : Nat → List Int} (h : KAt w s g C B L ls) (he : Mod S w w') (hS : ∀ k, S k → k < w.heap.size → ∃ cur, w.heap[k]? = some (.cells cur 2 (0, 0))) (hc : ∀ n, n ≤ B → ¬ S (L n).c) : KAt w' s g C B L ls := by
  refine ⟨?_, ?_, fun n hn => (h.lev n hn).mod he hS (hc n hn), h.sep, h.ok, h.hB⟩
  · rw [he.block s h.lts fun hs => ?_]
    · exact h.ex
    · obtain ⟨cur, h1⟩ := hS _ hs h.lts
      obtain ⟨cap, h2, _⟩ := h.ex
      exact blk_ne h1 h2 (by decide) rfl
  · rw [he.block g h.ltg fun hs => ?_]
    · exact h.row
    · obtain ⟨cur, h1⟩ := hS _ hs h.ltg
      obtain ⟨cur', h2, _⟩ := h.row
      exact blk_ne h1 h2 (by decide) rfl
theorem SKConfig_c (s g : Nat) (C : Cfg) (B : Nat) (L : Nat → Lev) (ls : Nat → List Int) (w : World) (h : KAt w s g C B L ls) :
    Calls Try.prog 19 #[.pointer (some ⟨s, 0, none⟩)] w fun e w' => e = .returned (.agg #[.int .i64 C.bits, .int .i64 C.rows, .int .i64 C.width, .int .i64 C.mode, .int .u64 C.seed]) ∧ Ext w w' := by
  have hlt := h.lts
  obtain ⟨cap, hex, _⟩ := h.ex
  have c0 := (cell_of hex 0).trans rfl
  have c1 := (cell_of hex 1).trans rfl
  have c2 := (cell_of hex 2).trans rfl
  have c3 := (cell_of hex 3).trans rfl
  have c4 := (cell_of hex 4).trans rfl
  clear h hex
  go_enter Try.func19, Try.ntmps19
  go_wp2
  exact bodyPost_ret (v := .agg #[.int .i64 C.bits, .int .i64 C.rows, .int .i64 C.width, .int .i64 C.mode, .int .u64 C.seed]) (by simp [results, Try.results19, go_sem]) rfl ⟨rfl, by (repeat' (first | exact Ext.refl _ | assumption | apply Ext.allocR | apply Ext.drewR | apply Ext.drewNR | (refine Ext.trans' ?_ (by assumption))))⟩
set_option maxRecDepth 20000 in
theorem level_yes (s g : Nat) (C : Cfg) (B : Nat) (L : Nat → Lev) (ls : Nat → List Int) (w : World) (h : KAt w s g C B L ls) (n : Nat) (hn : n ≤ B) :
    Calls Try.prog 35 #[.pointer (some ⟨s, 0, none⟩), .int .i64 n] w fun e w' => e = .returned (.tuple #[lvV C n (L n), .bool true]) ∧ w = w' := by
  have hlt := h.lts
  have hlg := h.ltg
  obtain ⟨cap, hex, hcap⟩ := h.ex
  have c5 := (cell_of hex 5).trans rfl
  have cn := h.cell hn
  have hbt := h.ok.b2
  have hB := h.hB
  generalize lvV C n (L n) = v at *
  clear h hex
  go_enter Try.func35, Try.ntmps35
  go_wp2
  go_ret2
  exact ⟨rfl, rfl⟩
/-- What Point tells of a level. -/
def lvPt (C : Cfg) (lv : Int) (l : List Int) (key x : Int) : Prop :=
  (isX C lv = true ∧ x = l.getD key.toNat 0) ∨ (isX C lv = false ∧ IsKth (readL (wN C) l (cols C lv key)) (if C.mode = 3 then (rN C - 1) / 2 else 0) x)
theorem lvPt_unique {C : Cfg} {lv : Int} {l : List Int} {key x y : Int} (h : lvPt C lv l key x) (h' : lvPt C lv l key y) : x = y := by
  rcases h with ⟨h1, h2⟩ | ⟨h1, h2⟩ <;> rcases h' with ⟨h3, h4⟩ | ⟨h3, h4⟩
  · rw [h2, h4]
  · rw [h1] at h3; cases h3
  · rw [h1] at h3; cases h3
  · exact kth_unique h2 h4
def KPointPost (w : World) (C : Cfg) (ls : Nat → List Int) (n : Nat) (key : Int) (e : Ending) (w' : World) : Prop :=
  ∃ x, e = .returned (.tuple #[.int .i64 x, .int .i64 0]) ∧ lvPt C n (ls n) key x ∧ Ext w w'
set_option maxRecDepth 20000 in
theorem KPoint_c (s g : Nat) (C : Cfg) (B : Nat) (L : Nat → Lev) (ls : Nat → List Int) (w : World) (h : KAt w s g C B L ls) (n : Nat) (hn : n ≤ B) (key : Int) (hk0 : 0 ≤ key) (hk1 : key < keys C n) :
    Calls Try.prog 21 #[.pointer (some ⟨s, 0, none⟩), .agg #[.int .i64 n, .int .u64 key]] w (KPointPost w C ls n key) := by
  cases hx : isX C n with
  | true =>
    have HX := Lib.hid hx
    clear hx
    go_enter Try.func21, Try.ntmps21
    go_wp2_with fail
    refine (level_yes s g C B L ls _ (h.ext (Ext.alloc' _ _)) n hn).mono ?_
    rintro e w1 ⟨rfl, rfl⟩
    have hA := ((h.ext (Ext.alloc' _ (.cells #[.int .i64 n, .int .u64 key] 41))).lev n hn).x HX.out
    rw [lvV_x HX.out]
    go_wp2_with fail
    refine (EPoint_c _ _ _ C _ _ _ key _ hA hk0 hk1).mono ?_
    rintro e w1 ⟨rfl, rfl⟩
    go_wp2
    go_ret2
    exact ⟨_, rfl, .inl ⟨HX.out, rfl⟩, Ext.alloc' _ _⟩
  | false =>
    have HX := Lib.hid hx
    clear hx
    go_enter Try.func21, Try.ntmps21
    go_wp2_with fail
    refine (level_yes s g C B L ls _ (h.ext (Ext.alloc' _ _)) n hn).mono ?_
    rintro e w1 ⟨rfl, rfl⟩
    have hA := ((h.ext (Ext.alloc' _ (.cells #[.int .i64 n, .int .u64 key] 41))).lev n hn).sk HX.out
    rw [lvV_s HX.out]
    go_wp2_with fail
    refine (Point_c _ _ _ C _ _ _ _ key _ hA hk0 hk1).mono ?_
    rintro e w1 ⟨x, rfl, hk, hx1⟩
    go_wp2
    go_ret2
    exact ⟨x, rfl, .inr ⟨HX.out, hk⟩, (Ext.alloc' _ _).trans' hx1⟩
end Go.Proofs.Ytfhdjekpdifajaa
namespace Go.Proofs.Ytfhdjekpdifajaa
set_option linter.unusedVariables false
open Go.RowKit
theorem CAt.copied {w : World} {c cap : Nat} {l m : List Int} {cur : Array Value} (hg : w.heap[c]? = some (.cells cur 2 (0, 0))) (hs : cur.size = cap) (hle : l.length ≤ cap) (hmx : cap ≤ maxLen) (hm : m.length = l.length) :
    CAt (w.setRow c (cur.toList.take 0 ++ (Go.Proofs.Ytfhdjekpdifajaa.ints m ++ cur.toList.drop (0 + (Go.Proofs.Ytfhdjekpdifajaa.ints m).length))).toArray) c cap m := by
  refine ⟨⟨_, setRow_heap w c _ _ _ _ hg, ?_, ?_⟩, by omega, hmx⟩
  · simp [Go.Proofs.Ytfhdjekpdifajaa.ints]; omega
  · simp [Go.Proofs.Ytfhdjekpdifajaa.ints]
theorem CAt.copied' {w : World} {c cap : Nat} {l m : List Int} {cur : Array Value} (hg : w.heap[c]? = some (.cells cur 2 (0, 0))) (hs : cur.size = cap) (hle : l.length ≤ cap) (hmx : cap ≤ maxLen) (hm : m.length = l.length) :
    CAt (w.setRow c (Go.Proofs.Ytfhdjekpdifajaa.ints m ++ cur.toList.drop (Go.Proofs.Ytfhdjekpdifajaa.ints m).length).toArray) c cap m := by
  have := CAt.copied (w := w) (l := l) (m := m) hg hs hle hmx hm
  simpa using this
theorem GAt.row {w wr : World} {b c R W : Nat} {l m : List Int} (h : GAt w b c R W l) (hE : Ext w wr) {cur : Array Value} {cap : Nat} (hb : w.heap[b]? = some (.cells #[.int .i64 R, .int .i64 W, .slice (some ⟨c, 0, none⟩) l.length cap] 118 (0, 0))) (hc : CAt w c cap l)
    (hg : wr.heap[c]? = some (.cells cur 2 (0, 0))) (hs : cur.size = cap) (hm : m.length = l.length) :
    GAt (wr.setRow c (ints m ++ cur.toList.drop (ints m).length).toArray) b c R W m :=
  ⟨⟨cap, by rw [setRow_other _ _ _ _ h.ne, hE.block b h.ltb, hm]; exact hb, CAt.copied' hg hs hc.le hc.mx hm⟩, h.r1, h.r2, h.w1, h.w2, by rw [hm]; exact h.len⟩
end Go.Proofs.Ytfhdjekpdifajaa
namespace Go.Proofs.Ytfhdjekpdifajaa
set_option linter.unusedVariables false
theorem IntsAt.mod {S : Nat → Prop} {w w' : World} {v : Value} {xs : List Int} (h : IntsAt w v xs) (hm : Mod S w w') (hne : ∀ g off n cap, v = .slice (some ⟨g, off, none⟩) n cap → ¬ S g) : IntsAt w' v xs := by
  rcases h with h | ⟨g, off, cap, h1, h2, h3⟩
  · exact .inl h
  · exact .inr ⟨g, off, cap, h1, Nat.lt_of_lt_of_le h2 hm.size, fun k hk => (mcell hm h2 (hne _ _ _ _ h1) _).trans (h3 k hk)⟩
theorem SAt.mod {S : Nat → Prop} {w w' : World} {s b c : Nat} {C : Cfg} {lv : Int} {R W : Nat} {l : List Int} (h : SAt w s b c C lv R W l) (hm : Mod S w w') (h1 : ¬ S s) (h2 : ¬ S b) (h3 : ¬ S c) : SAt w' s b c C lv R W l :=
  h.keep (hm.block s h.lts h1) (hm.block b h.g.ltb h2) (hm.block c h.g.ltc h3)
end Go.Proofs.Ytfhdjekpdifajaa
namespace Go.Proofs.Ytfhdjekpdifajaa
set_option linter.unusedVariables false
theorem kth0_spec {l : List Int} {x : Int} (h : IsKth l 0 x) : x ∈ l ∧ ∀ y ∈ l, x ≤ y := by
  have hx : x ∈ l := sameN_pos (by have := h.1; have := h.2; omega)
  have hm := kth0_min h
  have hs := minL_spec l (by intro e; rw [e] at hx; cases hx)
  rw [hm] at hs
  exact hs
theorem least_of {own : Int} {f : Nat → Int} {R : Nat} {n : Int} (h : IsKth ((List.range R).map fun r => own + f r) 0 n) : n = own + leastF f R := by
  obtain ⟨h1, h2⟩ := kth0_spec h
  simp only [List.mem_map, List.mem_range] at h1 h2
  obtain ⟨r, hr, rfl⟩ := h1
  obtain ⟨j, hj, hj'⟩ := leastF_mem f R (by omega)
  have a1 := (leastF_le f R).2 r hr
  have a2 := h2 (own + f j) ⟨j, hj, rfl⟩
  omega
theorem leastF_bd (f : Nat → Int) (B : Int) (hf : ∀ r, -B ≤ f r ∧ f r ≤ B) (k : Nat) : -B ≤ leastF f k ∧ leastF f k ≤ B := by
  induction k with
  | zero => exact hf 0
  | succ k ih =>
    rw [leastF_succ]
    have := hf k
    omega
end Go.Proofs.Ytfhdjekpdifajaa
namespace Go.Proofs.Ytfhdjekpdifajaa
set_option linter.unusedVariables false
theorem updL_len' (C : Cfg) (lv : Int) (R W : Nat) (l : List Int) (key d : Int) : (updL C lv R W l key d).length = l.length := by
  unfold updL
  cases decide (C.mode = 2) <;> exact putK_len _ _ _ _ _
end Go.Proofs.Ytfhdjekpdifajaa
namespace Go.Proofs.Ytfhdjekpdifajaa
set_option linter.unusedVariables false
open Go.RowKit
/-- What a key is at a level. -/
def sh (n : Nat) (key : Int) : Int := key / 2 ^ n
def lvE (C : Cfg) (lv : Int) (l : List Int) (key d : Int) : Int := bif isX C lv then errX C lv l key d else errU C lv (rN C) (wN C) l key d
def lvU (C : Cfg) (lv : Int) (l : List Int) (key d : Int) : List Int := bif isX C lv then updX l key d else updL C lv (rN C) (wN C) l key d
theorem lvE_x {C : Cfg} {lv : Int} (h : isX C lv = true) (l : List Int) (key d : Int) : lvE C lv l key d = errX C lv l key d := by unfold lvE; rw [h]; rfl
theorem lvE_s {C : Cfg} {lv : Int} (h : isX C lv = false) (l : List Int) (key d : Int) : lvE C lv l key d = errU C lv (rN C) (wN C) l key d := by unfold lvE; rw [h]; rfl
theorem lvU_x {C : Cfg} {lv : Int} (h : isX C lv = true) (l : List Int) (key d : Int) : lvU C lv l key d = updX l key d := by unfold lvU; rw [h]; rfl
theorem lvU_s {C : Cfg} {lv : Int} (h : isX C lv = false) (l : List Int) (key d : Int) : lvU C lv l key d = updL C lv (rN C) (wN C) l key d := by unfold lvU; rw [h]; rfl
def fst_ (a b : Int) : Int := bif decide (a = 0) then b else a
/-- What the first levels say of an update. -/
def errs (C : Cfg) (ls : Nat → List Int) (key d : Int) : Nat → Int
  | 0 => 0
  | n + 1 => fst_ (errs C ls key d n) (lvE C n (ls n) (sh n key) d)
def errK (C : Cfg) (B : Nat) (ls : Nat → List Int) (key d : Int) : Int := bif decide (keys C 0 ≤ key) then 2 else errs C ls key d (B + 1)
def updK (C : Cfg) (ls : Nat → List Int) (key d : Int) (n : Nat) : List Int := lvU C n (ls n) (sh n key) d
theorem errs_zero {C : Cfg} {ls : Nat → List Int} {key d : Int} {m : Nat} : errs C ls key d m = 0 ↔ ∀ n, n < m → lvE C n (ls n) (sh n key) d = 0 := by
  induction m with
  | zero => simp [errs]
  | succ m ih =>
    unfold errs fst_
    by_cases h : errs C ls key d m = 0
    · rw [decide_eq_true h]
      constructor
      · intro e n hn
        rcases Nat.lt_or_ge n m with h' | h'
        · exact ih.1 h n h'
        · obtain rfl : n = m := by omega
          exact e
      · intro e; exact e m (by omega)
    · rw [decide_eq_false h]
      constructor
      · intro e; exact absurd e h
      · intro e; exact absurd (ih.2 fun n hn => e n (by omega)) h
theorem errK_zero {C : Cfg} {B : Nat} {ls : Nat → List Int} {key d : Int} : errK C B ls key d = 0 ↔ key < keys C 0 ∧ ∀ n, n ≤ B → lvE C n (ls n) (sh n key) d = 0 := by
  unfold errK
  by_cases h : keys C 0 ≤ key
  · rw [decide_eq_true h]
    constructor
    · intro e; exact absurd (show (2 : Int) = 0 from e) (by decide)
    · rintro ⟨h1, _⟩; omega
  · rw [decide_eq_false h]
    constructor
    · intro e; exact ⟨by omega, fun n hn => errs_zero.1 e n (by omega)⟩
    · rintro ⟨_, e⟩; exact errs_zero.2 fun n hn => e n (by omega)
theorem sh_nn {key : Int} (h : 0 ≤ key) (n : Nat) : 0 ≤ sh n key := Int.ediv_nonneg h (Int.le_of_lt (Int.pow_pos (by decide)))
theorem sh_u64 {key : Int} (h : U64 key) (n : Nat) : U64 (sh n key) := by
  refine ⟨sh_nn h.1 n, ?_⟩
  have h2 := h.2
  refine Int.lt_of_le_of_lt ?_ h2
  exact Int.ediv_le_self _ h.1
theorem cutK_sh {C : Cfg} (hok : C.Ok) {n : Nat} (hn : (n : Int) ≤ C.bits) {key : Int} (h : 0 ≤ key) : cutK C n (key / 2 ^ n) = sh n (cutK C 0 key) := by
  have hb := hok.b1
  unfold cutK sh keys
  obtain ⟨B, hB⟩ : ∃ B : Nat, C.bits = B := ⟨C.bits.toNat, by omega⟩
  obtain ⟨m, rfl⟩ : ∃ m, B = n + m := ⟨B - n, by omega⟩
  obtain ⟨k, rfl⟩ : ∃ k : Nat, key = k := ⟨key.toNat, by omega⟩
  rw [hB, show (((n + m : Nat) : Int) - (n : Int)).toNat = m by omega, show (((n + m : Nat) : Int) - 0).toNat = n + m by omega]
  have : k / 2 ^ n % 2 ^ m = k % 2 ^ (n + m) / 2 ^ n := by
    rw [Nat.pow_add, Nat.mod_mul_right_div_self]
  exact_mod_cast this
/-- The same updates, told of what keys are at a level. -/
def shU (n : Nat) (us : List (Int × Int)) : List (Int × Int) := us.map fun u => (u.1 / 2 ^ n, u.2)
/-- The pairs that a level is told. -/
def stP (C : Cfg) (n : Nat) (us : List (Int × Int)) : List (Int × Int) := us.map fun u => (sh n (cutK C 0 u.1), cutD C.mode u.2)
theorem stP_cutP {C : Cfg} (hok : C.Ok) {n : Nat} (hn : (n : Int) ≤ C.bits) {us : List (Int × Int)} (hus : UpsOk us) : cutP C n (shU n us) = stP C n us := by
  unfold cutP shU stP
  rw [List.map_map]
  apply List.map_congr_left
  intro u hu
  show (cutK C n (u.1 / 2 ^ n), _) = _
  rw [cutK_sh hok hn (hus u hu).1.1]
theorem stP_snoc (C : Cfg) (n : Nat) (us : List (Int × Int)) (u : Int × Int) : stP C n (us ++ [u]) = stP C n us ++ [(sh n (cutK C 0 u.1), cutD C.mode u.2)] := by simp [stP]
/-- What a level has behind updates. -/
def feedK (C : Cfg) (us : List (Int × Int)) (n : Nat) : List Int := us.foldl (fun l u => lvU C n l (sh n (cutK C 0 u.1)) (cutD C.mode u.2)) (zs (lvN C n))
theorem feedK_nil (C : Cfg) (n : Nat) : feedK C [] n = zs (lvN C n) := rfl
theorem feedK_snoc (C : Cfg) (us : List (Int × Int)) (u : Int × Int) : feedK C (us ++ [u]) = updK C (feedK C us) (cutK C 0 u.1) (cutD C.mode u.2) := by
  funext n; unfold feedK updK; rw [List.foldl_append]; rfl
theorem lvU_len (C : Cfg) (lv : Int) (l : List Int) (key d : Int) : (lvU C lv l key d).length = l.length := by
  unfold lvU
  cases isX C lv
  · exact updL_len' _ _ _ _ _ _ _
  · show (updX l key d).length = _
    simp [updX]
theorem feedK_len (C : Cfg) (us : List (Int × Int)) (n : Nat) : (feedK C us n).length = lvN C n := by
  unfold feedK
  have : ∀ l : List Int, (us.foldl (fun l u => lvU C n l (sh n (cutK C 0 u.1)) (cutD C.mode u.2)) l).length = l.length := by
    induction us with
    | nil => intro l; rfl
    | cons u us ih => intro l; rw [List.foldl_cons, ih, lvU_len]
  rw [this, zs_len]
/-- A sketch's level is fed as a sketch is. -/
theorem feedK_s {C : Cfg} (hok : C.Ok) {n : Nat} (hn : (n : Int) ≤ C.bits) {us : List (Int × Int)} (hus : UpsOk us) (hx : isX C n = false) : feedK C us n = feed C n (rN C) (wN C) (shU n us) (zs (rN C * wN C)) := by
  unfold feedK feed shU
  rw [show lvN C n = rN C * wN C by unfold lvN; rw [hx]; rfl]
  have : ∀ l : List Int, us.foldl (fun l u => lvU C n l (sh n (cutK C 0 u.1)) (cutD C.mode u.2)) l = (us.map fun u => (u.1 / 2 ^ n, u.2)).foldl (fun l u => updL C n (rN C) (wN C) l (cutK C n u.1) (cutD C.mode u.2)) l := by
    induction us with
    | nil => intro l; rfl
    | cons u us ih =>
      intro l
      rw [List.foldl_cons, List.map_cons, List.foldl_cons, ih (fun v hv => hus v (by simp [hv]))]
      congr 1
      rw [lvU_s hx, cutK_sh hok hn (hus u (by simp)).1.1]
  exact this _
theorem updX_get {l : List Int} {key d : Int} (hk0 : 0 ≤ key) (hk : key < l.length) (j : Nat) : (updX l key d).getD j 0 = l.getD j 0 + bif key == (j : Int) then d else 0 := by
  unfold updX
  by_cases h : key = (j : Int)
  · subst h
    simp only [beq_self_eq_true, cond_true, Int.toNat_natCast]
    rw [List.getD_eq_getElem?_getD, List.getElem?_set_self (by omega)]
    rfl
  · have hb : (key == (j : Int)) = false := by simpa using h
    rw [hb, List.getD_eq_getElem?_getD, List.getElem?_set_ne (by omega), ← List.getD_eq_getElem?_getD]
    simp
theorem sh_lt {C : Cfg} (hok : C.Ok) {n : Nat} (hn : (n : Int) ≤ C.bits) {key : Int} (h0 : 0 ≤ key) (h : key < keys C 0) : sh n key < keys C n := by
  have hb := hok.b1
  unfold sh keys at *
  obtain ⟨B, hB⟩ : ∃ B : Nat, C.bits = B := ⟨C.bits.toNat, by omega⟩
  obtain ⟨m, rfl⟩ : ∃ m, B = n + m := ⟨B - n, by omega⟩
  rw [hB] at h ⊢
  rw [show (((n + m : Nat) : Int) - (n : Int)).toNat = m by omega]
  rw [show (((n + m : Nat) : Int) - 0).toNat = n + m by omega] at h
  apply Int.ediv_lt_of_lt_mul (Int.pow_pos (by decide))
  rw [← Int.pow_add, Nat.add_comm]; exact h
theorem kN_eq' {C : Cfg} (h : C.Ok) (n : Nat) : keys C n = (kN C n : Int) := kN_eq h (Int.natCast_nonneg n)
/-- An exact level tells what its keys have. -/
theorem feedK_x {C : Cfg} (hok : C.Ok) {n : Nat} (hn : (n : Int) ≤ C.bits) {us : List (Int × Int)} (hus : UpsOk us) (hx : isX C n = true) (j : Nat) : (feedK C us n).getD j 0 = hasP (j : Int) (stP C n us) := by
  refine snoc_ind (P := fun us => UpsOk us → (feedK C us n).getD j 0 = hasP (j : Int) (stP C n us)) ?_ ?_ us hus
  · intro _
    rw [feedK_nil]
    unfold zs hasP stP sumIf
    rw [List.getD_eq_getElem?_getD]
    rcases Nat.lt_or_ge j (lvN C n) with h | h <;> simp [h, lsum]
  · intro us u ih hus
    have hu := hus u (by simp)
    have ih' := ih (fun v hv => hus v (by simp [hv]))
    have hk := cutK_bd C hok 0 u.1 (Int.le_refl 0)
    have h1 := sh_lt hok hn hk.1 hk.2
    have hl : (feedK C us n).length = kN C n := by rw [feedK_len]; unfold lvN; rw [hx]; rfl
    rw [feedK_snoc, stP_snoc]
    unfold hasP at *
    rw [sumIf_snoc]
    unfold updK
    rw [lvU_x hx, updX_get (sh_nn hk.1 n) (by rw [hl, ← kN_eq' hok]; exact h1), ih']
end Go.Proofs.Ytfhdjekpdifajaa
namespace Go.Proofs.Ytfhdjekpdifajaa
set_option linter.unusedVariables false
open Go.RowKit
section
variable {P : Program} {ops : Array Oper} {md : Region.Mode} {Q : Exit → Act → World → Prop} {l n : Nat}
theorem rowsR {row : String} {args : Array Value} {w : World} {R : Value → World → Prop} (h : Rows P row args w R) : RowsIn (Fence.wide.inRound l) n P row args w R :=
  fun c cs _ => let ⟨v, w', r, s⟩ := h c cs; ⟨v, w', r, by rw [fenced_inRound]; exact stepsIn_wide.2 s⟩
theorem callsR {f : FuncId} {args : Array Value} {w : World} {R : Ending → World → Prop} (h : Calls P f args w R) : CallsIn (Fence.wide.inRound l) n P f args w R :=
  CallsIn.inRound l (callsIn_wide.2 h)
theorem operR {o : Oper} {a : Act} {w : World} {K : Act → World → Prop} (hd : ∀ c, o.op ≠ .defer c) (h : o.wp P a w K Q) : o.wpIn (Fence.wide.inRound l) n P a w K Q := by
  unfold Oper.wpIn
  refine ⟨fun _ _ => trivial, ?_⟩
  rw [show (Fence.wide.inRound l).round = some l from rfl, Oper.semAt_some l a.eval o hd]
  unfold Oper.wp at h
  generalize (execOp a.eval o).run P w = r at *
  cases r with
  | ok x w' =>
    cases x <;> simp only [Oper.upon, Oper.uponIn] at h ⊢ <;> first
      | exact h
      | exact ⟨fun hh => (by cases hh), callsR h⟩
      | exact ⟨fun hh => (by cases hh), rowsR h⟩
      | exact h.elim
  | halt x w' => cases x <;> simp only [Oper.upon, Oper.uponIn] at h ⊢ <;> exact h
def noDefer (l : List Oper) : Bool := l.all fun o => match o.op with | .defer _ => false | _ => true
theorem noDefer_spec {l : List Oper} (h : noDefer l = true) {i : Nat} {o : Oper} (ho : l.toArray[i]? = some o) : ∀ c, o.op ≠ .defer c := by
  intro c hc
  unfold noDefer at h
  rw [List.all_eq_true] at h
  have := h o (List.mem_of_getElem? (by simpa using ho))
  rw [hc] at this
  cases this
theorem listR (hq : ¬ LetsOut Q) : ∀ (ls : List Oper) (hd : noDefer ls = true) (a : Act) (w : World), wpList P ops Q ls a w → wpListIn (Fence.wide.inRound l) n P ops Q ls a w := by
  intro ls
  induction ls with
  | nil => intro _ _ _ h; exact h
  | cons o rest ih =>
    intro hd a w h
    have hd2 : noDefer rest = true := by
      unfold noDefer at hd ⊢
      rw [List.all_cons, Bool.and_eq_true] at hd
      exact hd.2
    have ho : ∀ c, o.op ≠ .defer c := noDefer_spec (l := o :: rest) hd (i := 0) (by simp)
    unfold wpList at h
    unfold wpListIn
    split
    · rename_i hw
      simp only [hw, if_true] at h
      exact operR ho (Oper.wp_mono (fun a w h => ih hd2 _ _ h) (h.resolve_right fun hh => hq hh.2))
    · rename_i hw
      simp only [hw] at h
      exact ⟨fun _ _ => trivial, ih hd2 _ _ h⟩
theorem region_plainR {id : Nat} {ls : List Oper} {a : Act} {w : World} (hq : ¬ LetsOut Q) (hd : noDefer ls = true) (h : wpList P ls.toArray Q ls a w) : (Code.region id ls.toArray false).wpIn (Fence.wide.inRound l) n P Q a w :=
  wpIn_region_lit (listR hq ls hd a w h)
theorem anyR {ls : List Oper} (hq : ¬ LetsOut Q) (hd : noDefer ls = true) : ∀ (f : Nat) (listed : Array Bool) (a : Act) (w : World), wpAny P md ls.toArray Q f listed a w → wpAnyIn (Fence.wide.inRound l) n P md ls.toArray Q f listed a w := by
  intro f
  induction f with
  | zero => intro _ _ _ h; exact h
  | succ f ih =>
    intro listed a w h
    refine ⟨h.1, fun i hi => ?_⟩
    have h2 := h.2 i hi
    unfold wpOp at h2
    unfold wpOpIn
    cases ho : ls.toArray[i]? with
    | none => simp only [ho] at h2; exact ih _ _ _ h2
    | some o =>
      simp only [ho] at h2 ⊢
      split
      · rename_i hw
        simp only [hw, if_true] at h2
        refine operR (noDefer_spec hd ho) ?_
        exact Oper.wp_mono (fun a w h => ih _ _ _ h) (h2.resolve_right fun hh => hq hh.2)
      · rename_i hw
        simp only [hw] at h2
        exact ⟨fun _ _ => trivial, ih _ _ _ h2⟩
theorem pi_startR {id : Nat} {ls : List Oper} {a : Act} {w : World} (C : World → Prop) (ex : List Nat) (hm : P.follows .mixedOrders = true) (hq : ¬ LetsOut Q) (hd : noDefer ls = true)
    (h : anyC P .any ls.toArray Q C ex ls.length (Array.replicate ls.length false) a w.drew) : (Code.region id ls.toArray true).wpIn (Fence.wide.inRound l) n P Q a w := by
  refine wpIn_region_any hm ?_
  have := anyR (l := l) (n := n) hq hd _ _ _ _ (any_of_anyC _ _ _ _ h)
  simpa using this
end
end Go.Proofs.Ytfhdjekpdifajaa
namespace Go.Proofs.Ytfhdjekpdifajaa
set_option linter.unusedVariables false
open Go.RowKit
attribute [local go_sem] Oper.semAt_some
theorem Kat_c (s : Nat) (key : Int) (w : World) :
    Calls Try.prog 30 #[.pointer (some ⟨s, 0, none⟩), .int .u64 key] w fun e w' => e = .returned (.func (.func 46) #[] #[.pointer (some ⟨w.heap.size, 0, none⟩), .pointer (some ⟨w.heap.size + 1, 0, none⟩)]) ∧
      w' = (w.alloc (.cells #[.pointer (some ⟨s, 0, none⟩)] 29)).alloc (.cells #[.int .u64 key] 22) := by
  have hmf : ∀ (fn : Fn) (first cap : Array Value) (w : World), (Instr.makeFunc fn first cap).run Try.prog w = .ok (.func fn first cap) w := fun _ _ _ _ => rfl
  go_enter Try.func30, Try.ntmps30
  go_wp2
  go_ret
  exact ⟨rfl, rfl⟩
/-- What a round that goes on keeps: whatever lay below n₀, but for the blocks of S. -/
def KpS (n₀ : Nat) (S : Nat → Prop) (W W' : World) : Prop := ∀ b, b < n₀ → ¬ S b → W'.heap[b]? = W.heap[b]?
theorem KpS.t {n₀ : Nat} {S : Nat → Prop} {A B C : World} (h : KpS n₀ S A B) (k : KpS n₀ S B C) : KpS n₀ S A C := fun b hb hs => (k b hb hs).trans (h b hb hs)
theorem KpS.b {n₀ : Nat} {S : Nat → Prop} {w : World} (hn : n₀ ≤ w.heap.size) (W : World) (l : Nat) (o o' : Obj) (hl : w.heap.size ≤ l) (h : W.heap[l]? = some o) (_ : o.isCells = false) (_ : o.isWalk = false) : KpS n₀ S W (W.putObj l o') := by
  intro b hb _
  exact World.putObj_heap_other (by omega)
theorem KpS.cell {n₀ : Nat} {S : Nat → Prop} {W W' : World} (h : KpS n₀ S W W') {b o : Nat} (hb : b < n₀) (hs : ¬ S b) : W'.cell? ⟨b, o, none⟩ = W.cell? ⟨b, o, none⟩ := by
  unfold World.cell?; rw [show (⟨b, o, none⟩ : Addr).block = b from rfl, h b hb hs]
def lvEnc (C : Cfg) (L : Nat → Lev) (B : Nat) (key : Int) (x : {n : Nat // n ≤ B}) : Array Value := #[lvV C x.1 (L x.1), .int .u64 (sh x.1 key)]
set_option maxRecDepth 100000 in
set_option maxHeartbeats 2000000 in
theorem kat1_in (n l Bs Bk n₀ s g cap : Nat) (S : Nat → Prop) (C : Cfg) (L : Nat → Lev) (B : Nat) (key : Int) (hkey : U64 key) (hB : B ≤ 59) (J Jx : List {n : Nat // n ≤ B} → World → Prop)
    (hbs : Bs < n₀) (hbk : Bk < n₀) (hs : s < n₀) (hg : g < n₀) (nbs : ¬ S Bs) (nbk : ¬ S Bk) (ns : ¬ S s) (ng : ¬ S g)
    (hY : ∀ pre x W, J pre W → pre.length < B + 1 → YieldAt Fence.wide (n - 1) Try.prog l (lvEnc C L B key x) W fun e W' =>
      (e = .returned (.bool true) ∧ J (pre ++ [x]) W' ∧ KpS n₀ S W W') ∨ (e = .returned (.bool false) ∧ Jx (pre ++ [x]) W'))
    (W : World) (hBs : W.cell? ⟨Bs, 0, none⟩ = some (.pointer (some ⟨s, 0, none⟩))) (hBk : W.cell? ⟨Bk, 0, none⟩ = some (.int .u64 key))
    (h5 : W.cell? ⟨s, 5, none⟩ = some (.slice (some ⟨g, 0, none⟩) (B + 1) cap)) (hc : ∀ n, n ≤ B → W.cell? ⟨g, n, none⟩ = some (lvV C n (L n))) (h0 : J [] W) :
    CallsIn Fence.wide n Try.prog 46 #[.func (.yield l) #[] #[], .pointer (some ⟨Bs, 0, none⟩), .pointer (some ⟨Bk, 0, none⟩)] W fun e W' => (∃ v, e = .returned v) ∧
      ((∃ ys, ys.map (fun x : {n : Nat // n ≤ B} => x.1) = List.range (B + 1) ∧ J ys W') ∨ (∃ pre, True ∧ Jx pre W')) := by
  refine callsIn_of_wp Try.func46 rfl trivial ?_ rfl
  simp only [Try.ntmps46, List.size_toArray, List.length_cons, List.length_nil, Nat.reduceAdd, Nat.reduceSub, Array.replicate_succ, Array.replicate_zero, List.push_toArray, List.append_toArray, List.nil_append, List.cons_append]
  gi_wp2
  gi_loopw [11] (fun i wr => ∃ (k : Nat) (pre : List {n : Nat // n ≤ B}), k ≤ B + 1 ∧ i = .int .i64 k ∧ pre.map (fun x : {n : Nat // n ≤ B} => x.1) = List.range k ∧ J pre wr ∧ KpS n₀ S W wr)
    (fun i _ => B + 1 - (intOf i).toNat)
  case atStart => exact ⟨0, [], Nat.zero_le _, rfl, rfl, h0, fun _ _ _ => rfl⟩
  case round =>
    obtain ⟨k, pre, hk, rfl, hpre, hJs, hnx⟩ := hrel
    have hlen : pre.length = k := by have := congrArg List.length hpre; simpa using this
    by_cases hlt : k < B + 1
    · have hcx := (hnx.cell (o := k) hg ng).trans (hc k (by omega))
      have hkx := (hnx.cell (o := 0) hbk nbk).trans hBk
      obtain ⟨fn, tmps, assign, body, hy, hR⟩ := hY pre ⟨k, by omega⟩ wr hJs (by omega)
      dsimp only [lvEnc, sh] at hy
      gi_wp2
      refine ⟨fun h => (by cases h), hR.mono ?_⟩
      rintro e W3 (⟨rfl, hJ3, hk3⟩ | ⟨rfl, hJx3⟩)
      · gi_wp2
        go_roundw
        case rel => exact ⟨k + 1, pre ++ [⟨k, by omega⟩], by omega, by simp, by rw [List.map_append, hpre, List.range_succ]; rfl, hJ3, hnx.t hk3⟩
        case measure => simp [intOf]; omega
      · gi_wp2
        refine bodyPost_ret (results_none rfl _ _ _) rfl ?_
        exact ⟨⟨_, rfl⟩, .inr ⟨_, trivial, hJx3⟩⟩
    · obtain rfl : k = B + 1 := by omega
      gi_wp2
      go_end0
      exact ⟨⟨_, rfl⟩, .inl ⟨pre, hpre, hJs⟩⟩
theorem kat1_stops (n Bs Bk n₀ s g cap : Nat) (S : Nat → Prop) (C : Cfg) (L : Nat → Lev) (B : Nat) (key : Int) (hkey : U64 key) (hB : B ≤ 59)
    (hbs : Bs < n₀) (hbk : Bk < n₀) (hs : s < n₀) (hg : g < n₀) (nbs : ¬ S Bs) (nbk : ¬ S Bk) (ns : ¬ S s) (ng : ¬ S g) (w : World) (hn : n₀ ≤ w.heap.size)
    (hBs : w.cell? ⟨Bs, 0, none⟩ = some (.pointer (some ⟨s, 0, none⟩))) (hBk : w.cell? ⟨Bk, 0, none⟩ = some (.int .u64 key))
    (h5 : w.cell? ⟨s, 5, none⟩ = some (.slice (some ⟨g, 0, none⟩) (B + 1) cap)) (hc : ∀ n, n ≤ B → w.cell? ⟨g, n, none⟩ = some (lvV C n (L n))) :
    SeqStopsK Fence.wide n Try.prog 46 #[.pointer (some ⟨Bs, 0, none⟩), .pointer (some ⟨Bk, 0, none⟩)] (lvEnc C L B key) (KpS n₀ S) (fun ys => ys.map (fun x : {n : Nat // n ≤ B} => x.1) = List.range (B + 1)) (fun _ => True) (B + 1) w := by
  intro l J Jx W hW hJ hJx hY h0
  refine kat1_in n l Bs Bk n₀ s g cap S C L B key hkey hB J Jx hbs hbk hs hg nbs nbk ns ng hY W ?_ ?_ ?_ (fun n hn' => ?_) h0
  · exact (hW.cell (p := ⟨Bs, 0, none⟩) (Nat.lt_of_lt_of_le hbs hn)).trans hBs
  · exact (hW.cell (p := ⟨Bk, 0, none⟩) (Nat.lt_of_lt_of_le hbk hn)).trans hBk
  · exact (hW.cell (p := ⟨s, 5, none⟩) (Nat.lt_of_lt_of_le hs hn)).trans h5
  · exact (hW.cell (p := ⟨g, n, none⟩) (Nat.lt_of_lt_of_le hg hn)).trans (hc n hn')
set_option maxRecDepth 20000 in
theorem first_c (g cap : Nat) (a b : Int) (w : World) (h0 : w.cell? ⟨g, 0, none⟩ = some (.int .i64 a)) (h1 : w.cell? ⟨g, 1, none⟩ = some (.int .i64 b)) :
    Calls Try.prog 31 #[.slice (some ⟨g, 0, none⟩) 2 cap] w fun e w' => e = .returned (.int .i64 (fst_ a b)) ∧ w = w' := by
  by_cases ha : a = 0
  · have e0 : fst_ a b = b := by unfold fst_; rw [decide_eq_true ha]; rfl
    rw [e0]
    subst ha
    by_cases hb : b = 0
    · subst hb
      go_enter Try.func31, Try.ntmps31
      go_wp2
      refine wp_loop_rounds 3 ?_
      iterate 3 (rw [rounds_succ]; go_wp2)
      go_ret
      exact ⟨rfl, rfl⟩
    · go_enter Try.func31, Try.ntmps31
      go_wp2
      refine wp_loop_rounds 2 ?_
      iterate 2 (rw [rounds_succ]; go_wp2)
      go_ret
      exact ⟨rfl, rfl⟩
  · have e0 : fst_ a b = a := by unfold fst_; rw [decide_eq_false ha]; rfl
    rw [e0]
    go_enter Try.func31, Try.ntmps31
    go_wp2
    refine wp_loop_rounds 1 ?_
    iterate 1 (rw [rounds_succ]; go_wp2)
    go_ret
    exact ⟨rfl, rfl⟩
end Go.Proofs.Ytfhdjekpdifajaa
namespace Go.Proofs.Ytfhdjekpdifajaa
set_option linter.unusedVariables false
open Go.RowKit
theorem keepsO_ext {w w' : World} (h : Ext w w') : KeepsOthers w w' :=
  ⟨h.size, fun k o hk _ => (h.block k (Array.getElem?_eq_some_iff.1 hk).1).trans hk⟩
theorem keepsO_mod {S : Nat → Prop} {w w' : World} (h : Mod S w w') (hS : ∀ k, S k → k < w.heap.size → ∃ cur t f, w.heap[k]? = some (.cells cur t f)) : KeepsOthers w w' :=
  ⟨h.size, fun k o hk ho => by
    have hlt := (Array.getElem?_eq_some_iff.1 hk).1
    refine (h.block k hlt fun hs => ?_).trans hk
    obtain ⟨cur, t, f, hc⟩ := hS k hs hlt
    rw [hk] at hc
    injection hc with hc
    subst hc
    cases ho⟩
theorem kps_mod {n₀ : Nat} {S : Nat → Prop} {w w' : World} (h : Mod S w w') (hn : n₀ ≤ w.heap.size) : KpS n₀ S w w' := fun b hb hs => h.block b (by omega) hs
theorem kps_ext {n₀ : Nat} {S : Nat → Prop} {w w' : World} (h : Ext w w') (hn : n₀ ≤ w.heap.size) : KpS n₀ S w w' := fun b hb _ => h.block b (by omega)
/-- What lies below a bound is carried by whatever grows from there. -/
theorem grown_low {W W' : World} {row : Option Nat} {B k : Nat} (hg : W.grownBy W' row) (hr : ∀ r, row = some r → B ≤ r) (hk : k < W.heap.size) (hB : k < B) : W'.heap[k]? = W.heap[k]? :=
  hg.block k hk (fun e => by have := hr k e.symm; omega)
theorem ownFrom_mod {β : Type} {S : Nat → Prop} {B : Nat} {w₀ : World} (hB : w₀.heap.size ≤ B) : OwnFrom B (fun (_ : β) W => Mod S w₀ W) :=
  fun _ _ _ _ hs hg hr => ⟨hg.os.trans hs.os, hg.tape.trans hs.tape, hg.output.trans hs.output, Nat.le_trans hs.size hg.size, fun k hk hn => (grown_low hg (fun r e => (hr r e).1) (Nat.lt_of_lt_of_le hk hs.size) (by omega)).trans (hs.block k hk hn)⟩
theorem ownFrom_box {β : Type} {B b : Nat} (hb : b < B) (f : β → Obj) : OwnFrom B (fun (s : β) W => W.heap[b]? = some (f s)) :=
  fun s W W' row hs hg hr => (grown_low hg (fun r e => (hr r e).1) (lt_of hs) hb).trans hs
/-- A stack's blocks lie below a bound. -/
structure KLow (N s g B : Nat) (L : Nat → Lev) : Prop where
  s : s < N
  g : g < N
  ls : ∀ n, n ≤ B → (L n).s < N
  lb : ∀ n, n ≤ B → (L n).b < N
  lc : ∀ n, n ≤ B → (L n).c < N
theorem KAt.low {w : World} {s g : Nat} {C : Cfg} {B : Nat} {L : Nat → Lev} {ls : Nat → List Int} (h : KAt w s g C B L ls) : KLow w.heap.size s g B L :=
  ⟨h.lts, h.ltg, fun n hn => (h.lev n hn).lts, fun n hn => (h.lev n hn).ltb, fun n hn => (h.lev n hn).ltc⟩
theorem KLow.mono {N M s g B : Nat} {L : Nat → Lev} (h : KLow N s g B L) (hM : N ≤ M) : KLow M s g B L :=
  ⟨Nat.lt_of_lt_of_le h.s hM, Nat.lt_of_lt_of_le h.g hM, fun n hn => Nat.lt_of_lt_of_le (h.ls n hn) hM, fun n hn => Nat.lt_of_lt_of_le (h.lb n hn) hM, fun n hn => Nat.lt_of_lt_of_le (h.lc n hn) hM⟩
theorem KAt.keepN {w w' : World} {N s g : Nat} {C : Cfg} {B : Nat} {L : Nat → Lev} {ls : Nat → List Int} (h : KAt w s g C B L ls) (hl : KLow N s g B L) (hk : ∀ k, k < w.heap.size → k < N → w'.heap[k]? = w.heap[k]?) : KAt w' s g C B L ls :=
  ⟨by rw [hk s h.lts hl.s]; exact h.ex, by rw [hk g h.ltg hl.g]; exact h.row, fun n hn => (h.lev n hn).keep (hk _ (h.lev n hn).lts (hl.ls n hn)) (hk _ (h.lev n hn).ltb (hl.lb n hn)) (hk _ (h.lev n hn).ltc (hl.lc n hn)), h.sep, h.ok, h.hB⟩
/-- One level is changed. -/
theorem KAt.put {w w' : World} {s g : Nat} {C : Cfg} {B : Nat} {L : Nat → Lev} {ls : Nat → List Int} (h : KAt w s g C B L ls) {n : Nat} (hn : n ≤ B) (hm : Mod (fun k => k = (L n).c) w w') {l : List Int} (hl : LvAt w' (L n) C n l) :
    KAt w' s g C B L (fun m => if m = n then l else ls m) := by
  have hcs : ∀ k, k = (L n).c → k < w.heap.size → ∃ cur, w.heap[k]? = some (.cells cur 2 (0, 0)) := by
    rintro k rfl _; exact (h.lev n hn).isc
  refine ⟨?_, ?_, fun m hm' => ?_, h.sep, h.ok, h.hB⟩
  · rw [hm.block s h.lts fun e => h.nots ⟨n, hn, e⟩]; exact h.ex
  · rw [hm.block g h.ltg fun e => h.notg ⟨n, hn, e⟩]; exact h.row
  · by_cases e : m = n
    · subst e; rw [if_pos rfl]; exact hl
    · rw [if_neg e]; exact (h.lev m hm').mod hm hcs (h.sep m n hm' hn e)
theorem KAt.mod1 {w w' : World} {s g : Nat} {C : Cfg} {B : Nat} {L : Nat → Lev} {ls : Nat → List Int} (h : KAt w s g C B L ls) {n : Nat} (hn : n ≤ B) (hm : Mod (fun k => k = (L n).c) w w') : Mod (cellsOf B L) w w' :=
  hm.mono fun k hk _ => ⟨n, hn, hk⟩
theorem KAt.cellsT {w : World} {s g : Nat} {C : Cfg} {B : Nat} {L : Nat → Lev} {ls : Nat → List Int} (h : KAt w s g C B L ls) (k : Nat) (hk : cellsOf B L k) (_ : k < w.heap.size) : ∃ cur t f, w.heap[k]? = some (.cells cur t f) := by
  obtain ⟨cur, hc⟩ := h.isc hk; exact ⟨_, _, _, hc⟩
theorem mod_new {w W0 W : World} {b : Nat} (he : Ext w W0) (hm : Mod (fun k => k = b) W0 W) (hb : w.heap.size ≤ b) : Mod (fun _ => False) w W :=
  ⟨hm.os.trans he.os, hm.tape.trans he.tape, hm.output.trans he.output, Nat.le_trans he.size hm.size, fun k hk _ => (hm.block k (Nat.lt_of_lt_of_le hk he.size) (by omega)).trans (he.block k hk)⟩
theorem mod_putD {S : Nat → Prop} {w W : World} {D : Nat} {o : Obj} (h : Mod S w W) (hD : w.heap.size ≤ D) : Mod S w (W.putObj D o) :=
  ⟨h.os, h.tape, h.output, Nat.le_trans h.size (by simp [World.putObj]), fun k hk hn => (World.putObj_heap_other (by omega)).trans (h.block k hk hn)⟩
/-- A round that has written one box. -/
theorem chk_round {W0 W w3 : World} {b : Nat} {t : TypeId} {u v : Value} {o : Obj} (hb : W.heap[b]? = some (.cells #[u] t (0, 0))) (hx : Ext W w3) (hM : Mod (fun k => k = b) W0 W) :
    KeepsOthers W ((w3.setCell ⟨b, 0, none⟩ v).alloc o) ∧ KpS W0.heap.size (fun k => k = b) W ((w3.setCell ⟨b, 0, none⟩ v).alloc o) ∧ ((w3.setCell ⟨b, 0, none⟩ v).alloc o).heap[b]? = some (.cells #[v] t (0, 0)) ∧ Mod (fun k => k = b) W0 ((w3.setCell ⟨b, 0, none⟩ v).alloc o) := by
  have h3 := hx.keep hb
  have hl := lt_of h3
  have hm : Mod (fun k => k = b) W ((w3.setCell ⟨b, 0, none⟩ v).alloc o) := ((hx.mod _).trans (mod_set _ _ _ _)).trans ((Ext.alloc' _ _).mod _)
  refine ⟨keepsO_mod hm ?_, kps_mod hm hM.size, ?_, hM.trans hm⟩
  · rintro k rfl _; exact ⟨_, _, _, hb⟩
  · rw [heap_old _ _ (by rw [size_setCell]; exact hl), setCell_same h3]; rfl
/-- The numbers of some levels. -/
def vals {B : Nat} (pre : List {n : Nat // n ≤ B}) : List Nat := pre.map fun x => x.1
theorem vals_snoc {B : Nat} (pre : List {n : Nat // n ≤ B}) (x : {n : Nat // n ≤ B}) : vals (pre ++ [x]) = vals pre ++ [x.1] := by unfold vals; rw [List.map_append]; rfl
/-- What the levels say that have been asked. -/
def errF (C : Cfg) (ls : Nat → List Int) (key d : Int) (pre : List Nat) : Int := pre.foldl (fun (b : Int) (n : Nat) => fst_ b (lvE C n (ls n) (sh n key) d)) 0
theorem errF_snoc (C : Cfg) (ls : Nat → List Int) (key d : Int) (pre : List Nat) (n : Nat) : errF C ls key d (pre ++ [n]) = fst_ (errF C ls key d pre) (lvE C n (ls n) (sh n key) d) := by
  unfold errF; rw [List.foldl_append]; rfl
theorem errF_range (C : Cfg) (ls : Nat → List Int) (key d : Int) (m : Nat) : errF C ls key d (List.range m) = errs C ls key d m := by
  induction m with
  | zero => rfl
  | succ m ih => rw [List.range_succ, errF_snoc, ih]; rfl
/-- The levels, when some have been told of an update. -/
def partK (C : Cfg) (ls : Nat → List Int) (key d : Int) (pre : List Nat) (n : Nat) : List Int := if n ∈ pre then updK C ls key d n else ls n
/-- A round that has told a level of an update. -/
theorem upd_round {W2 W w3 : World} {s g : Nat} {C : Cfg} {B : Nat} {L : Nat → Lev} {ls ls' : Nat → List Int} {key d : Int} {pre : List {n : Nat // n ≤ B}} {x : {n : Nat // n ≤ B}} {D : Nat}
    (h : KAt W s g C B L ls') (hp : (vals pre).Nodup → ∀ n, ls' n = partK C ls key d (vals pre) n) (hM : Mod (cellsOf B L) W2 W) (hD : W.heap[D]? = some (.deferred (some [])))
    (hall : ∀ n, n ≤ B → lvE C n (ls n) (sh n key) d = 0)
    (hres : (lvE C x.1 (ls' x.1) (sh x.1 key) d = 0 ∧ LvAt w3 (L x.1) C x.1 (lvU C x.1 (ls' x.1) (sh x.1 key) d) ∧ Mod (fun k => k = (L x.1).c) W w3) ∨ (lvE C x.1 (ls' x.1) (sh x.1 key) d ≠ 0 ∧ Ext W w3)) :
    KeepsOthers W w3 ∧ KpS W2.heap.size (cellsOf B L) W w3 ∧ w3.heap[D]? = some (.deferred (some [])) ∧ (∃ ls'', KAt w3 s g C B L ls'' ∧ ((vals (pre ++ [x])).Nodup → ∀ n, ls'' n = partK C ls key d (vals (pre ++ [x])) n)) ∧ Mod (cellsOf B L) W2 w3 := by
  have old : (vals (pre ++ [x])).Nodup → (vals pre).Nodup ∧ x.1 ∉ vals pre := by
    intro hn
    rw [vals_snoc, List.nodup_append] at hn
    exact ⟨hn.1, fun hx => hn.2.2 _ hx x.1 (by simp) rfl⟩
  rcases hres with ⟨he, hl, hm⟩ | ⟨he, hx⟩
  · have hmm := h.mod1 x.2 hm
    have hko := keepsO_mod hmm (fun k hk hlt => h.cellsT k hk hlt)
    refine ⟨hko, kps_mod hmm hM.size, hko.same _ _ hD rfl, ⟨_, h.put x.2 hm hl, fun hn n => ?_⟩, hM.trans hmm⟩
    obtain ⟨h1, h2⟩ := old hn
    by_cases e : n = x.1
    · subst e
      rw [if_pos rfl, hp h1]
      unfold partK
      rw [if_neg h2, if_pos (by rw [vals_snoc]; simp)]
      rfl
    · rw [if_neg e, hp h1]
      unfold partK
      rw [vals_snoc]
      simp only [List.mem_append, List.mem_singleton, e, or_false]
  · have hko := keepsO_ext hx
    refine ⟨hko, kps_ext hx hM.size, hko.same _ _ hD rfl, ⟨ls', h.ext hx, fun hn n => ?_⟩, hM.trans (hx.mod _)⟩
    obtain ⟨h1, h2⟩ := old hn
    exfalso
    apply he
    rw [hp h1]
    unfold partK
    rw [if_neg h2]
    exact hall _ x.2
theorem part_end {C : Cfg} {B : Nat} {ls ls' : Nat → List Int} {key d : Int} {xs : List {n : Nat // n ≤ B}} (hxs : xs.map (fun x => x.1) = List.range (B + 1)) (hp : (vals xs).Nodup → ∀ n, ls' n = partK C ls key d (vals xs) n) :
    ∀ n, n ≤ B → ls' n = updK C ls key d n := by
  have e : vals xs = List.range (B + 1) := hxs
  intro n hn
  rw [hp (by rw [e]; exact List.nodup_range), e]
  unfold partK
  rw [if_pos (by rw [List.mem_range]; omega)]
theorem KAt.cong {w : World} {s g : Nat} {C : Cfg} {B : Nat} {L : Nat → Lev} {ls ls' : Nat → List Int} (h : KAt w s g C B L ls) (he : ∀ n, n ≤ B → ls n = ls' n) : KAt w s g C B L ls' :=
  ⟨h.ex, h.row, fun n hn => he n hn ▸ h.lev n hn, h.sep, h.ok, h.hB⟩
end Go.Proofs.Ytfhdjekpdifajaa
