/- Part. No condition. -/
import Derived.Test.YtfhdjekpdifajaaGreatDWindowPlays2
import Derived.Test.YtfhdjekpdifajaaGreatDWindowPlays1
import Derived.Laws.CopyOwn
namespace Go.Proofs.YtfhdjekpdifajaaGreat
open Go.RowKit
set_option maxHeartbeats 1000000 in
theorem SCells_c (s b c : Nat) (C : Cfg) (lv : Int) (R W : Nat) (l : List Int) (w : World) (h : SAt w s b c C lv R W l) :
    Calls Tryz.prog 170 #[.pointer (some ⟨s, 0, none⟩)] w fun e w' => ∃ v, e = .returned v ∧ w'.ownsRow w.heap.size 2 1 v l.length (ints l) ∧ (v = .slice none 0 0 → False) ∧ Ext w w' := by
  have c0 := (cell_of h.ex 0).trans rfl
  go_enter Tryz.func170, Tryz.ntmps170
  go_wp2_with fail
  refine (GCells_c b c R W l _ h.g).mono ?_
  rintro e w1 ⟨v, rfl, h1, h2, h3⟩
  go_wp2
  go_ret
  exact ⟨v, rfl, h1, h2, h3⟩
theorem getD_ext {l m : List Int} (h : l.length = m.length) (hg : ∀ k, k < l.length → l.getD k 0 = m.getD k 0) : l = m := by
  apply List.ext_getElem h
  intro i h1 h2
  have := hg i h1
  simpa [h1, h2] using this
set_option maxRecDepth 20000 in
set_option maxHeartbeats 2000000 in
theorem Same_c (v1 v2 : Value) (l m : List Int) (w : World) (h1 : IntsAt w v1 l) (h2 : IntsAt w v2 m) (hl : l.length ≤ 1000000) (hm : m.length ≤ 1000000) :
    Calls Tryz.prog 47 #[v1, v2] w fun e w' => e = .returned (.bool (decide (l = m))) ∧ Ext w w' := by
  have hs1 : ∃ p c, v1 = .slice p l.length c := by
    rcases h1 with ⟨rfl, rfl⟩ | ⟨g, off, cap, rfl, _⟩
    · exact ⟨_, _, rfl⟩
    · exact ⟨_, _, rfl⟩
  have hs2 : ∃ p c, v2 = .slice p m.length c := by
    rcases h2 with ⟨rfl, rfl⟩ | ⟨g, off, cap, rfl, _⟩
    · exact ⟨_, _, rfl⟩
    · exact ⟨_, _, rfl⟩
  by_cases hlen : l.length = m.length
  · by_cases h0 : l.length = 0
    · have e1 : l = [] := List.length_eq_zero_iff.1 h0
      have e2 : m = [] := List.length_eq_zero_iff.1 (by omega)
      subst e1 e2
      obtain ⟨p1, c1, rfl⟩ := hs1
      obtain ⟨p2, c2, rfl⟩ := hs2
      clear h1 h2 hlen h0
      go_enter Tryz.func47, Tryz.ntmps47
      go_wp2
      refine wp_loop_rounds 1 ?_
      rw [rounds_succ]
      go_wp2
      go_ret
      exact ⟨rfl, Ext.refl _⟩
    · obtain ⟨g1, o1, cap1, rfl, hg1, hc1⟩ := h1.slice (by omega)
      obtain ⟨g2, o2, cap2, rfl, hg2, hc2⟩ := h2.slice (by omega)
      have HC1 := Lib.hid hc1
      have HC2 := Lib.hid hc2
      rw [← hlen] at hm ⊢
      have HL := Lib.hid hlen
      generalize hn : l.length = n at *
      have HN := Lib.hid hn
      clear hs1 hs2 h1 h2 hc1 hc2 hlen hn h0
      go_enter Tryz.func47, Tryz.ntmps47
      go_wp2
      go_loopw [5] (fun u wr => ∃ k : Nat, k ≤ n ∧ u = .int .i64 k ∧ Ext w wr ∧ ∀ j, j < k → l.getD j 0 = m.getD j 0) (fun u _ => n - (intOf u).toNat)
      case atStart => exact ⟨0, Nat.zero_le _, rfl, Ext.refl _, fun j hj => absurd hj (Nat.not_lt_zero _)⟩
      case round =>
        obtain ⟨k, hk, rfl, hx, hall⟩ := hrel
        have HA := Lib.hid hall
        clear hall
        by_cases hlt : k < n
        · have d1 := ((bcell hx).1 g1 (o1 + k) hg1).trans (HC1.out k hlt)
          have d2 := ((bcell hx).1 g2 (o2 + k) hg2).trans (HC2.out k (by rw [← HL.out]; exact hlt))
          obtain ⟨x, hx1⟩ : ∃ x, l.getD k 0 = x := ⟨_, rfl⟩
          obtain ⟨y, hy1⟩ : ∃ y, m.getD k 0 = y := ⟨_, rfl⟩
          rw [hx1] at d1
          rw [hy1] at d2
          have HX := Lib.hid hx1
          have HY := Lib.hid hy1
          clear hx1 hy1
          have l1 : g1 < wr.heap.size := Nat.lt_of_lt_of_le hg1 hx.size
          have l2 : g2 < wr.heap.size := Nat.lt_of_lt_of_le hg2 hx.size
          by_cases hxy : x = y
          · subst hxy
            go_wp2
            refine wp_region_after (by kernel_rfl) (by kernel_rfl) ?_
            repeat (go_big_quiet_step (fail))
            refine wpQuiet_nil ?_
            rintro _ ⟨xx, rfl⟩
            obtain ⟨w1, hb1⟩ := xx
            try dsimp only
            go_wp2
            go_roundw
            case rel =>
              refine ⟨k + 1, by omega, by go_num, hx.trans' hb1, fun j hj => ?_⟩
              rcases Nat.lt_or_eq_of_le (Nat.le_of_lt_succ hj) with h' | rfl
              · exact HA.out j h'
              · rw [HX.out, HY.out]
            case measure => simp [intOf]; omega
          · have hb : (x == y) = false := by simpa using hxy
            go_wp2
            refine wp_region_after (by kernel_rfl) (by kernel_rfl) ?_
            repeat (go_big_quiet_step (fail))
            refine wpQuiet_nil ?_
            rintro _ ⟨xx, rfl⟩
            obtain ⟨w1, hb1⟩ := xx
            try dsimp only
            go_wp2
            go_ret
            refine ⟨ret_bool ?_, hx.trans' hb1⟩
            symm
            exact decide_eq_false fun e => hxy (by rw [← HX.out, ← HY.out, e])
        · go_wp2
          go_ret
          refine ⟨ret_bool ?_, hx⟩
          symm
          exact decide_eq_true (getD_ext (by rw [HN.out, HL.out]) (fun j hj => HA.out j (by rw [HN.out] at hj; omega)))
  · obtain ⟨p1, c1, rfl⟩ := hs1
    obtain ⟨p2, c2, rfl⟩ := hs2
    have hne : l ≠ m := fun e => hlen (by rw [e])
    have HNE := Lib.hid hne
    have hb : ((l.length : Int) == (m.length : Int)) = false := by simp; omega
    have hb2 : (l.length == m.length) = false := by simp; omega
    clear h1 h2 hne
    generalize l.length = a at *
    generalize m.length = b at *
    go_enter Tryz.func47, Tryz.ntmps47
    go_wp2
    go_ret
    exact ⟨ret_bool (decide_eq_false HNE.out).symm, Ext.refl _⟩
theorem and16 (x : Int) : bits BinOp.and IntKind.i64 x 65535 = x % 65536 := by
  show IntKind.i64.wrap ((BitVec.ofInt 64 x &&& BitVec.ofInt 64 65535).toNat : Int) = _
  have e1 : (BitVec.ofInt 64 (65535 : Int)).toNat = 2 ^ 16 - 1 := by decide
  rw [BitVec.toNat_and, e1, Nat.and_two_pow_sub_one_eq_mod, BitVec.toNat_ofInt, IntKind.wrap_i64]
  have : (x % ((2 ^ 64 : Nat) : Int)).toNat % 2 ^ 16 < 65536 := Nat.mod_lt _ (by decide)
  omega
end Go.Proofs.YtfhdjekpdifajaaGreat
namespace Go.Proofs.YtfhdjekpdifajaaGreat
set_option linter.unusedVariables false
open Go.RowKit
set_option maxRecDepth 20000 in
set_option maxHeartbeats 2000000 in
theorem RightR_c (c : Cfg) (h : c.Ok) (w : World) :
    Calls Tryz.prog 142 #[.agg #[.int .i64 c.bits, .int .i64 c.rows, .int .i64 c.width, .int .i64 c.mode, .int .u64 c.seed]] w fun e w' => e = .returned (.bool true) ∧ Ext w w' := by
  obtain ⟨b1, b2, r1, r2, w1, w2, m1, m2, s⟩ := h
  have g1 : decide (1 ≤ c.bits) = true := by simp; omega
  have g2 : decide (c.bits ≤ 59) = true := by simp; omega
  have g3 : decide (1 ≤ c.rows) = true := by simp; omega
  have g4 : decide (c.rows ≤ 8) = true := by simp; omega
  have g5 : decide (1 ≤ c.width) = true := by simp; omega
  have g6 : decide (c.width ≤ 128) = true := by simp; omega
  have hm : c.mode = 1 ∨ c.mode = 2 ∨ c.mode = 3 := by omega
  rcases hm with hm | hm | hm
  · have k1 : (c.mode == 1) = true := by simp [hm]
    have HM := Lib.hid hm
    clear hm m1 m2
    go_enter Tryz.func142, Tryz.ntmps142
    go_wp2
    go_ret
    exact ⟨rfl, by (repeat' (first | exact Ext.refl _ | assumption | apply Ext.allocR | apply Ext.drewR | apply Ext.drewNR | (refine Ext.trans' ?_ (by assumption))))⟩
  · have k1 : (c.mode == 1) = false := by simp [hm]
    have k2 : (c.mode == 2) = true := by simp [hm]
    have HM := Lib.hid hm
    clear hm m1 m2
    go_enter Tryz.func142, Tryz.ntmps142
    go_wp2
    go_ret
    exact ⟨rfl, by (repeat' (first | exact Ext.refl _ | assumption | apply Ext.allocR | apply Ext.drewR | apply Ext.drewNR | (refine Ext.trans' ?_ (by assumption))))⟩
  · have k1 : (c.mode == 1) = false := by simp [hm]
    have k2 : (c.mode == 2) = false := by simp [hm]
    have k3 : (c.mode == 3) = true := by simp [hm]
    have HM := Lib.hid hm
    clear hm m1 m2
    go_enter Tryz.func142, Tryz.ntmps142
    go_wp2
    go_ret
    exact ⟨rfl, by (repeat' (first | exact Ext.refl _ | assumption | apply Ext.allocR | apply Ext.drewR | apply Ext.drewNR | (refine Ext.trans' ?_ (by assumption))))⟩
set_option maxRecDepth 20000 in
set_option maxHeartbeats 2000000 in
theorem KeysR_c (c : Cfg) (h : c.Ok) (l : Int) (h0 : 0 ≤ l) (h1 : l ≤ c.bits) (w : World) :
    Calls Tryz.prog 79 #[.agg #[.int .i64 c.bits, .int .i64 c.rows, .int .i64 c.width, .int .i64 c.mode, .int .u64 c.seed], .int .i64 l] w fun e w' => e = .returned (.int .u64 (keys c l)) ∧ Ext w w' := by
  have hk := h
  obtain ⟨b1, b2, _, _, _, _, _, _, _⟩ := h
  have g1 : decide (l < 0) = false := by simp; omega
  have g2 : decide (c.bits < l) = false := by simp; omega
  go_enter Tryz.func79, Tryz.ntmps79
  go_wp2_with fail
  refine (RightR_c c hk _).mono ?_
  rintro e w1 ⟨rfl, hb⟩
  have d0 : w1.cell? ⟨w.heap.size, 0, none⟩ = some (.int .i64 c.bits) := by rw [(bcell hb).1 _ _ (by simp [go_sem])]; simp [go_sem]
  have hE : Ext w w1 := by (repeat' (first | exact Ext.refl _ | assumption | apply Ext.allocR | apply Ext.drewR | apply Ext.drewNR | (refine Ext.trans' ?_ (by assumption))))
  clear hb
  go_wp2
  go_loop [5, 6] (fun p u => ∃ (k : Nat) (q : Int), (k : Int) ≤ c.bits - l ∧ u = .int .i64 (l + k) ∧ p = .int .u64 q ∧ q = (2 : Int) ^ k) (fun _ u => (c.bits - intOf u).toNat)
  case atStart => exact ⟨0, 1, by omega, by simp, rfl, rfl⟩
  case round =>
    obtain ⟨k, q, hk1, rfl, rfl, hq⟩ := hrel
    have hpb := pow_bd k (by omega)
    rw [← hq] at hpb
    obtain ⟨p1, p2⟩ := hpb
    have HQ := Lib.hid hq
    clear hq
    by_cases hlt : l + (k : Int) < c.bits
    · go_wp2
      go_round
      case rel => exact ⟨k + 1, q * 2, by omega, by congr 1; omega, rfl, by rw [HQ.out, Int.pow_succ]⟩
      case measure => simp [intOf]; omega
    · go_wp2
      go_ret
      refine ⟨ret_int ?_, hE⟩
      rw [HQ.out]
      unfold keys
      rw [show (c.bits - l).toNat = k by omega]
/-- An update, cut. -/
def cutK (c : Cfg) (l key : Int) : Int := key % keys c l
def cutD (m d : Int) : Int := bif decide (m = 2) then max (d.tmod 1099511627776) (-(d.tmod 1099511627776)) else d.tmod 1099511627776
theorem tmod_bd (d : Int) : -1099511627776 < d.tmod 1099511627776 ∧ d.tmod 1099511627776 < 1099511627776 := ⟨Int.lt_tmod_of_pos d (by decide), Int.tmod_lt_of_pos d (by decide)⟩
theorem cutD_bd (m d : Int) : -1099511627776 < cutD m d ∧ cutD m d < 1099511627776 := by
  have := tmod_bd d
  unfold cutD
  cases decide (m = 2)
  · exact this
  · show _ < max _ _ ∧ max _ _ < _
    omega
theorem cutK_bd (c : Cfg) (h : c.Ok) (l key : Int) (h0 : 0 ≤ l) : 0 ≤ cutK c l key ∧ cutK c l key < keys c l := by
  have := keys_bd c h l h0
  exact ⟨Int.emod_nonneg _ (by omega), Int.emod_lt_of_pos _ (by omega)⟩
end Go.Proofs.YtfhdjekpdifajaaGreat
namespace Go.Proofs.YtfhdjekpdifajaaGreat
set_option linter.unusedVariables false
open Go.RowKit
def mkC (x : Cfg) (nb nw : Int) : Cfg := ⟨1 + x.bits % 65536 % nb, 1 + x.rows % 4, 1 + x.width % 65536 % nw, 1 + x.mode % 65536 % 3, x.seed⟩
theorem mkC_ok (x : Cfg) (hs : U64 x.seed) {nb nw : Int} (h1 : 1 ≤ nb) (h2 : nb ≤ 20) (h3 : 1 ≤ nw) (h4 : nw ≤ 20) : (mkC x nb nw).Ok := by
  have a1 := Int.emod_nonneg (x.bits % 65536) (show nb ≠ 0 by omega)
  have a2 := Int.emod_lt_of_pos (x.bits % 65536) (show 0 < nb by omega)
  have a3 := Int.emod_nonneg (x.width % 65536) (show nw ≠ 0 by omega)
  have a4 := Int.emod_lt_of_pos (x.width % 65536) (show 0 < nw by omega)
  constructor <;> simp only [mkC] <;> first | exact hs | omega
theorem fin5 {Φ : World → Prop} {w W : World} {b : Nat} {x0 x1 x2 x3 x4 : Value} {t : TypeId} (h : W.heap[b]? = some (.cells #[x0, x1, x2, x3, x4] t (0, 0))) (hE : Ext w W) (hb : w.heap.size ≤ b) {u0 u1 u2 u3 u4 : Value}
    (k : ∀ Wf, Wf.heap[b]? = some (.cells #[u0, u1, u2, u3, u4] t (0, 0)) → Ext w Wf → (∀ j, j ≠ b → Wf.heap[j]? = W.heap[j]?) → Wf.heap.size = W.heap.size → Φ Wf) :
    Φ (((((W.setCell ⟨b, 0, none⟩ u0).setCell ⟨b, 1, none⟩ u1).setCell ⟨b, 2, none⟩ u2).setCell ⟨b, 3, none⟩ u3).setCell ⟨b, 4, none⟩ u4) := by
  refine k _ ?_ (((((hE.setR hb _).setR hb _).setR hb _).setR hb _).setR hb _) (fun j hj => ?_) (by simp only [size_setCell])
  · rw [setCell_same (setCell_same (setCell_same (setCell_same (setCell_same h 0 u0) 1 u1) 2 u2) 3 u3) 4 u4]; rfl
  · rw [setCell_other _ _ hj, setCell_other _ _ hj, setCell_other _ _ hj, setCell_other _ _ hj, setCell_other _ _ hj]
set_option maxRecDepth 20000 in
set_option maxHeartbeats 2000000 in
theorem Any_c (x : Cfg) (hx : x.Raw) (nb nw : Int) (h1 : 1 ≤ nb) (h2 : nb ≤ 20) (h3 : 1 ≤ nw) (h4 : nw ≤ 20) (w : World) :
    Calls Tryz.prog 15 #[.agg #[.int .i64 x.bits, .int .i64 x.rows, .int .i64 x.width, .int .i64 x.mode, .int .u64 x.seed], .int .i64 nb, .int .i64 nw] w fun e w' =>
      e = .returned (.agg #[.int .i64 (mkC x nb nw).bits, .int .i64 (mkC x nb nw).rows, .int .i64 (mkC x nb nw).width, .int .i64 (mkC x nb nw).mode, .int .u64 (mkC x nb nw).seed]) ∧ Ext w w' := by
  have hb := and16 x.bits
  have hr := and16 x.rows
  have hw := and16 x.width
  have hm := and16 x.mode
  have a1 := Int.emod_nonneg (x.bits % 65536) (show nb ≠ 0 by omega)
  have a2 := Int.emod_lt_of_pos (x.bits % 65536) (show 0 < nb by omega)
  have a3 := Int.emod_nonneg (x.width % 65536) (show nw ≠ 0 by omega)
  have a4 := Int.emod_lt_of_pos (x.width % 65536) (show 0 < nw by omega)
  have z1 : (nb == 0) = false := by simp; omega
  have z2 : (nw == 0) = false := by simp; omega
  go_enter Tryz.func15, Tryz.ntmps15
  go_wp2
  refine wp_region_after_tail 25 (by kernel_rfl) (by kernel_rfl) ?_
  simp only [List.take_succ_cons, List.take_zero, List.drop_succ_cons, List.drop_zero]
  repeat (go_big_quiet_step (fail))
  refine wpQuiet_nil ?_
  rintro _ ⟨xx, rfl⟩
  obtain ⟨w1, hb1⟩ := xx
  try dsimp only
  have hs := hb1.size
  simp only [size_alloc] at hs
  have hcell : w1.heap[w.heap.size + 1]? = some (.cells #[.int .i64 0, .int .i64 0, .int .i64 0, .int .i64 0, .int .u64 0] 24 (0, 0)) := by
    rw [hb1.block _ (by simp only [size_alloc]; omega)]
    exact heap_at _ _ (by simp only [size_alloc])
  have p0 := (cell_of hcell 0).trans rfl
  have p1 := (cell_of hcell 1).trans rfl
  have p2 := (cell_of hcell 2).trans rfl
  have p3 := (cell_of hcell 3).trans rfl
  have p4 := (cell_of hcell 4).trans rfl
  have f0 := frozen_of hcell 0
  have f1 := frozen_of hcell 1
  have f2 := frozen_of hcell 2
  have f3 := frozen_of hcell 3
  have f4 := frozen_of hcell 4
  have hE : Ext w w1 := by (repeat' (first | exact Ext.refl _ | assumption | apply Ext.allocR | apply Ext.drewR | apply Ext.drewNR | (refine Ext.trans' ?_ (by assumption))))
  clear hb1
  go_wp2
  refine fin5 (Φ := fun W' => bodyPost _ _ _ _ _ W') hcell hE (by omega) ?_
  intro Wf hf hE2 _ _
  have q0 := (cell_of hf 0).trans rfl
  have q1 := (cell_of hf 1).trans rfl
  have q2 := (cell_of hf 2).trans rfl
  have q3 := (cell_of hf 3).trans rfl
  have q4 := (cell_of hf 4).trans rfl
  exact bodyPost_ret (v := .agg #[.int .i64 (1 + x.bits % 65536 % nb), .int .i64 (1 + x.rows % 4), .int .i64 (1 + x.width % 65536 % nw), .int .i64 (1 + x.mode % 65536 % 3), .int .u64 x.seed]) (by simp [results, Tryz.results15, go_sem, q0, q1, q2, q3, q4]) rfl ⟨rfl, hE2⟩
end Go.Proofs.YtfhdjekpdifajaaGreat
namespace Go.Proofs.YtfhdjekpdifajaaGreat
set_option linter.unusedVariables false
open Go.RowKit
def Bnd (B : Int) (l : List Int) : Prop := ∀ x ∈ l, -B ≤ x ∧ x ≤ B
theorem Bnd.getD {B : Int} {l : List Int} (h : Bnd B l) (hB : 0 ≤ B) (k : Nat) : -B ≤ l.getD k 0 ∧ l.getD k 0 ≤ B := by
  rcases Nat.lt_or_ge k l.length with h' | h'
  · exact h _ (getD_mem h')
  · rw [show l.getD k 0 = 0 by simp [h']]; omega
theorem Bnd.readL {B : Int} {l : List Int} (h : Bnd B l) (hB : 0 ≤ B) (W : Nat) (cs : List Int) : Bnd B (readL W l cs) := by
  intro x hx
  simp only [Go.Proofs.YtfhdjekpdifajaaGreat.readL, List.mem_map, List.mem_range] at hx
  obtain ⟨j, _, rfl⟩ := hx
  exact h.getD hB _
theorem Bnd.minL {B : Int} {l : List Int} (h : Bnd B l) (hB : 0 ≤ B) : -B ≤ minL l ∧ Go.Proofs.YtfhdjekpdifajaaGreat.minL l ≤ B := by
  by_cases he : l = []
  · subst he; simp [Go.Proofs.YtfhdjekpdifajaaGreat.minL]; omega
  · exact h _ (minL_spec l he).1
theorem upd_bnd {C : Cfg} {lv : Int} {R W : Nat} {l : List Int} {key d B T : Int} (h : Bnd B l) (hB : 0 ≤ B) (hT : 0 ≤ T) (hd : -T ≤ d ∧ d ≤ T) : Bnd (B + T) (updL C lv R W l key d) := by
  intro x hx
  unfold updL at hx
  cases hm : decide (C.mode = 2) with
  | true =>
    rw [hm] at hx
    rcases putK_mem R hx with h1 | ⟨j, _, rfl⟩
    · have := h x h1; omega
    · have h2 := h.getD hB (at_ W (cols C lv key) j)
      have h3 := (h.readL hB W (cols C lv key)).minL hB
      omega
  | false =>
    rw [hm] at hx
    rcases putK_mem R hx with h1 | ⟨j, _, rfl⟩
    · have := h x h1; omega
    · have h2 := h.getD hB (at_ W (cols C lv key) j)
      omega
theorem upd_ok {C : Cfg} {lv : Int} {R W : Nat} {l : List Int} {key d B T : Int} (h : Bnd B l) (hB : 0 ≤ B) (hT : 0 ≤ T) (hd : -T ≤ d ∧ d ≤ T) (hs : B + T ≤ 4611686018427387904) (hk : key < keys C lv) (hm : C.mode = 2 → 0 ≤ d) : errU C lv R W l key d = 0 := by
  by_cases hmode : C.mode = 2
  · have hd0 := hm hmode
    have h3 := (h.readL hB W (cols C lv key)).minL hB
    rw [errU_con hk hmode (by omega), fitB_yes (by unfold I64; omega)]; rfl
  · rw [errU_sum hk hmode, allFit_iff.2]
    · rfl
    · intro k _
      have h2 := h.getD hB (at_ W (cols C lv key) k)
      unfold I64; omega
/-- Updates, cut, made one after the other. -/
def feed (C : Cfg) (lv : Int) (R W : Nat) (us : List (Int × Int)) (l : List Int) : List Int := us.foldl (fun l u => updL C lv R W l (cutK C lv u.1) (cutD C.mode u.2)) l
theorem feed_snoc (C : Cfg) (lv : Int) (R W : Nat) (us : List (Int × Int)) (u : Int × Int) (l : List Int) : feed C lv R W (us ++ [u]) l = updL C lv R W (feed C lv R W us l) (cutK C lv u.1) (cutD C.mode u.2) := by
  unfold feed; rw [List.foldl_append]; rfl
theorem cutD_nn {m d : Int} (h : m = 2) : 0 ≤ cutD m d := by
  unfold cutD; rw [decide_eq_true h]; show 0 ≤ max _ _; omega
/-- A slice of updates that can be read. -/
def UpsAt (w : World) (v : Value) (us : List (Int × Int)) : Prop :=
  ((∃ p, v = .slice p 0 0) ∧ us = []) ∨ ∃ g off cap, v = .slice (some ⟨g, off, none⟩) us.length cap ∧ g < w.heap.size ∧
    ∀ k, k < us.length → w.cell? ⟨g, off + k * 2, none⟩ = some (.int .u64 (us.getD k (0, 0)).1) ∧ w.cell? ⟨g, off + k * 2 + 1, none⟩ = some (.int .i64 (us.getD k (0, 0)).2)
def UpsOk (us : List (Int × Int)) : Prop := ∀ u ∈ us, U64 u.1 ∧ I64 u.2
end Go.Proofs.YtfhdjekpdifajaaGreat
namespace Go.Proofs.YtfhdjekpdifajaaGreat
set_option linter.unusedVariables false
/-- The sum of what keys have that meet p. -/
def sumIf (p : Int → Bool) (ps : List (Int × Int)) : Int := lsum (ps.map fun u => bif p u.1 then u.2 else 0)
theorem sumIf_snoc (p : Int → Bool) (u : Int × Int) (ps : List (Int × Int)) : sumIf p (ps ++ [u]) = sumIf p ps + (bif p u.1 then u.2 else 0) := by
  unfold sumIf; rw [List.map_append, lsum_append, List.map_cons, List.map_nil, lsum_cons, lsum_nil]; omega
/-- The updates as they are made. -/
def cutP (C : Cfg) (lv : Int) (us : List (Int × Int)) : List (Int × Int) := us.map fun u => (cutK C lv u.1, cutD C.mode u.2)
theorem cutP_snoc (C : Cfg) (lv : Int) (us : List (Int × Int)) (u : Int × Int) : cutP C lv (us ++ [u]) = cutP C lv us ++ [(cutK C lv u.1, cutD C.mode u.2)] := by simp [cutP]
def hasP (key : Int) (ps : List (Int × Int)) : Int := sumIf (fun k => k == key) ps
theorem at_ne {W r j : Nat} {a c : Nat} (ha : a < W) (hc : c < W) (h : r ≠ j ∨ a ≠ c) : r * W + a ≠ j * W + c := by
  intro he
  have hW : 0 < W := by omega
  have h1 : (r * W + a) / W = (j * W + c) / W := by rw [he]
  rw [Nat.add_comm, Nat.mul_comm r, Nat.add_mul_div_left _ _ hW, Nat.div_eq_of_lt ha, Nat.add_comm (j * W), Nat.mul_comm j, Nat.add_mul_div_left _ _ hW, Nat.div_eq_of_lt hc] at h1
  have h2 : r = j := by omega
  subst h2
  omega
theorem putK_get {R W : Nat} {cs : List Int} (hm : Meets R W cs) {f : Nat → Int} {l : List Int} (hl : l.length = R * W) {r a : Nat} (hr : r < R) (ha : a < W) :
    ∀ k, k ≤ R → (putK W cs f k l).getD (r * W + a) 0 = if r < k ∧ cs.getD r 0 = (a : Int) then f r else l.getD (r * W + a) 0 := by
  intro k
  induction k with
  | zero => intro _; rw [putK, if_neg (by omega)]
  | succ k ih =>
    intro hk
    have h0 := hm.lo k (by omega)
    have h1 := hm.hi k (by omega)
    rw [putK]
    by_cases he : k = r ∧ cs.getD k 0 = (a : Int)
    · obtain ⟨rfl, he⟩ := he
      rw [if_pos ⟨by omega, he⟩]
      have hat : at_ W cs k = k * W + a := by unfold at_; omega
      rw [hat]
      have hlen : k * W + a < (putK W cs f k l).length := by
        rw [putK_len, hl]
        calc k * W + a < k * W + W := by omega
          _ = (k + 1) * W := by rw [Nat.add_mul, Nat.one_mul]
          _ ≤ R * W := Nat.mul_le_mul_right W hr
      simp [hlen]
    · have hne : at_ W cs k ≠ r * W + a := by
        unfold at_
        refine at_ne (by omega) ha ?_
        by_cases hkr : k = r
        · right
          intro h
          exact he ⟨hkr, by omega⟩
        · exact .inl hkr
      have e : ((putK W cs f k l).set (at_ W cs k) (f k)).getD (r * W + a) 0 = (putK W cs f k l).getD (r * W + a) 0 := by
        simp [List.getElem?_set_ne hne]
      rw [e, ih (by omega)]
      by_cases hc : r < k ∧ cs.getD r 0 = (a : Int)
      · rw [if_pos hc, if_pos ⟨by omega, hc.2⟩]
      · rw [if_neg hc, if_neg]
        intro h
        by_cases hkr : k = r
        · subst hkr; exact he ⟨rfl, h.2⟩
        · exact hc ⟨by omega, h.2⟩
theorem snoc_ind {α : Type} {P : List α → Prop} (h0 : P []) (h1 : ∀ l x, P l → P (l ++ [x])) (l : List α) : P l := by
  have key : ∀ n (l : List α), l.length = n → P l := by
    intro n
    induction n with
    | zero => intro l hl; rw [List.length_eq_zero_iff.1 hl]; exact h0
    | succ n ih =>
      intro l hl
      have hne : l ≠ [] := by intro h; rw [h] at hl; cases hl
      rw [← List.dropLast_concat_getLast hne]
      exact h1 _ _ (ih _ (by rw [List.length_dropLast]; omega))
  exact key _ l rfl
theorem feed_len (C : Cfg) (lv : Int) (R W : Nat) (us : List (Int × Int)) (l : List Int) : (feed C lv R W us l).length = l.length := by
  unfold feed
  induction us generalizing l with
  | nil => rfl
  | cons u us ih =>
    rw [List.foldl_cons, ih]
    unfold updL
    cases decide (C.mode = 2) <;> exact putK_len _ _ _ _ _
/-- Each cell is the sum of what the keys have whose column it is. -/
theorem feed_cell (C : Cfg) (hok : C.Ok) (lv : Int) (R W : Nat) (hr : C.rows = R) (hw : C.width = W) (hm : C.mode ≠ 2) (us : List (Int × Int)) {r a : Nat} (hrr : r < R) (ha : a < W) :
    (feed C lv R W us (zs (R * W))).getD (r * W + a) 0 = sumIf (fun k => (cols C lv k).getD r 0 == (a : Int)) (cutP C lv us) := by
  refine snoc_ind (P := fun us => (feed C lv R W us (zs (R * W))).getD (r * W + a) 0 = sumIf (fun k => (cols C lv k).getD r 0 == (a : Int)) (cutP C lv us)) ?_ ?_ us
  ·
    show (zs (R * W)).getD _ 0 = 0
    unfold zs
    rw [List.getD_eq_getElem?_getD]
    rcases Nat.lt_or_ge (r * W + a) (R * W) with h | h
    · simp [h]
    · simp [h]
  · intro us u ih
    rw [feed_snoc, cutP_snoc, sumIf_snoc]
    unfold updL
    rw [decide_eq_false hm]
    have hme := cols_meets C hok lv (cutK C lv u.1) hr hw
    show (putK W _ _ R _).getD _ 0 = _
    rw [putK_get hme (by rw [feed_len, zs_len]) hrr ha R (Nat.le_refl _), ih]
    by_cases he : (cols C lv (cutK C lv u.1)).getD r 0 = (a : Int)
    · rw [if_pos ⟨hrr, he⟩]
      have hat : at_ W (cols C lv (cutK C lv u.1)) r = r * W + a := by unfold at_; omega
      rw [hat]
      show _ + _ = _
      rw [ih]
      have hb : ((cols C lv (cutK C lv u.1)).getD r 0 == (a : Int)) = true := by simpa using he
      simp only [hb]; rfl
    · rw [if_neg (fun h => he h.2)]
      have : ((cols C lv (cutK C lv u.1)).getD r 0 == (a : Int)) = false := by simpa using he
      simp only [this]; simp
/-- The least of numbers. -/
def leastF (f : Nat → Int) (k : Nat) : Int := (List.range k).foldl (fun m r => min m (f r)) (f 0)
theorem leastF_succ (f : Nat → Int) (k : Nat) : leastF f (k + 1) = min (leastF f k) (f k) := by
  unfold leastF; rw [List.range_succ, List.foldl_append]; rfl
theorem leastF_le (f : Nat → Int) (k : Nat) : leastF f k ≤ f 0 ∧ ∀ r, r < k → leastF f k ≤ f r := by
  induction k with
  | zero => exact ⟨Int.le_refl _, fun r h => by omega⟩
  | succ k ih =>
    rw [leastF_succ]
    refine ⟨by omega, fun r h => ?_⟩
    by_cases e : r = k
    · subst e; omega
    · have := ih.2 r (by omega); omega
theorem leastF_mem (f : Nat → Int) (k : Nat) (h : 0 < k) : ∃ r, r < k ∧ leastF f k = f r := by
  induction k with
  | zero => omega
  | succ k ih =>
    rw [leastF_succ]
    by_cases hk : 0 < k
    · obtain ⟨r, h1, h2⟩ := ih hk
      rcases Int.le_total (leastF f k) (f k) with h3 | h3
      · exact ⟨r, by omega, by omega⟩
      · exact ⟨k, by omega, by omega⟩
    · have : k = 0 := by omega
      subst this
      refine ⟨0, by omega, ?_⟩
      show min (f 0) (f 0) = f 0
      omega
end Go.Proofs.YtfhdjekpdifajaaGreat
namespace Go.Proofs.YtfhdjekpdifajaaGreat
set_option linter.unusedVariables false
open Go.RowKit
structure CfgAt (w : World) (b : Nat) (C : Cfg) : Prop where
  lt : b < w.heap.size
  c0 : w.cell? ⟨b, 0, none⟩ = some (.int .i64 C.bits)
  c1 : w.cell? ⟨b, 1, none⟩ = some (.int .i64 C.rows)
  c2 : w.cell? ⟨b, 2, none⟩ = some (.int .i64 C.width)
  c3 : w.cell? ⟨b, 3, none⟩ = some (.int .i64 C.mode)
  c4 : w.cell? ⟨b, 4, none⟩ = some (.int .u64 C.seed)
theorem CfgAt.of {w : World} {b : Nat} {C : Cfg} {t : TypeId} (h : w.heap[b]? = some (.cells #[.int .i64 C.bits, .int .i64 C.rows, .int .i64 C.width, .int .i64 C.mode, .int .u64 C.seed] t (0, 0))) : CfgAt w b C :=
  ⟨lt_of h, (cell_of h 0).trans rfl, (cell_of h 1).trans rfl, (cell_of h 2).trans rfl, (cell_of h 3).trans rfl, (cell_of h 4).trans rfl⟩
theorem CfgAt.box {w : World} (C : Cfg) (t : TypeId) {n : Nat} (h : n = w.heap.size) : CfgAt (w.alloc (.cells #[.int .i64 C.bits, .int .i64 C.rows, .int .i64 C.width, .int .i64 C.mode, .int .u64 C.seed] t)) n C := CfgAt.of (t := t) (heap_at _ _ h)
theorem CfgAt.ext {w w' : World} {b : Nat} {C : Cfg} (h : CfgAt w b C) (he : Ext w w') : CfgAt w' b C :=
  have k := (bcell he).1
  ⟨Nat.lt_of_lt_of_le h.lt he.size, (k _ _ h.lt).trans h.c0, (k _ _ h.lt).trans h.c1, (k _ _ h.lt).trans h.c2, (k _ _ h.lt).trans h.c3, (k _ _ h.lt).trans h.c4⟩
theorem CfgAt.mod {S : Nat → Prop} {w w' : World} {b : Nat} {C : Cfg} (h : CfgAt w b C) (he : Mod S w w') (hs : ¬ S b) : CfgAt w' b C :=
  have k := fun o => mcell he h.lt hs o
  ⟨Nat.lt_of_lt_of_le h.lt he.size, (k _).trans h.c0, (k _).trans h.c1, (k _).trans h.c2, (k _).trans h.c3, (k _).trans h.c4⟩
structure PlayAt (w : World) (b : Nat) (x : Cfg) (lv : Int) (v : Value) : Prop where
  c : CfgAt w b x
  c5 : w.cell? ⟨b, 5, none⟩ = some (.int .i64 lv)
  c6 : w.cell? ⟨b, 6, none⟩ = some v
theorem PlayAt.box {w : World} (x : Cfg) (lv : Int) (v : Value) (t : TypeId) {n : Nat} (h : n = w.heap.size) : PlayAt (w.alloc (.cells #[.int .i64 x.bits, .int .i64 x.rows, .int .i64 x.width, .int .i64 x.mode, .int .u64 x.seed, .int .i64 lv, v] t)) n x lv v :=
  have h := heap_at w (.cells #[.int .i64 x.bits, .int .i64 x.rows, .int .i64 x.width, .int .i64 x.mode, .int .u64 x.seed, .int .i64 lv, v] t) h
  ⟨⟨lt_of h, (cell_of h 0).trans rfl, (cell_of h 1).trans rfl, (cell_of h 2).trans rfl, (cell_of h 3).trans rfl, (cell_of h 4).trans rfl⟩, (cell_of h 5).trans rfl, (cell_of h 6).trans rfl⟩
theorem PlayAt.ext {w w' : World} {b : Nat} {x : Cfg} {lv : Int} {v : Value} (h : PlayAt w b x lv v) (he : Ext w w') : PlayAt w' b x lv v :=
  have k := (bcell he).1
  ⟨h.c.ext he, (k _ _ h.c.lt).trans h.c5, (k _ _ h.c.lt).trans h.c6⟩
theorem PlayAt.mod {S : Nat → Prop} {w w' : World} {b : Nat} {x : Cfg} {lv : Int} {v : Value} (h : PlayAt w b x lv v) (he : Mod S w w') (hs : ¬ S b) : PlayAt w' b x lv v :=
  have k := fun o => mcell he h.c.lt hs o
  ⟨h.c.mod he hs, (k _).trans h.c5, (k _).trans h.c6⟩
theorem UpsAt.ext {w w' : World} {v : Value} {us : List (Int × Int)} (h : UpsAt w v us) (he : Ext w w') : UpsAt w' v us :=
  h.imp id (fun ⟨g, off, cap, hv, hl, hc⟩ => ⟨g, off, cap, hv, Nat.lt_of_lt_of_le hl he.size, fun k hk => ⟨((bcell he).1 _ _ hl).trans (hc k hk).1, ((bcell he).1 _ _ hl).trans (hc k hk).2⟩⟩)
theorem UpsAt.sl {w : World} {v : Value} {us : List (Int × Int)} (h : UpsAt w v us) : ∃ p c, v = .slice p us.length c := by
  rcases h with ⟨⟨_, rfl⟩, rfl⟩ | ⟨g, off, cap, rfl, _⟩
  · exact ⟨_, _, rfl⟩
  · exact ⟨_, _, rfl⟩
/-- One update of a slice, with its cells. -/
theorem UpsAt.one {w : World} {p : Option Addr} {n c : Nat} {us : List (Int × Int)} (h : UpsAt w (.slice p n c) us) {k : Nat} (hk : k < us.length) :
    ∃ g off, p = some ⟨g, off, none⟩ ∧ g < w.heap.size ∧ w.cell? ⟨g, off + k * 2, none⟩ = some (.int .u64 us[k].1) ∧ w.cell? ⟨g, off + k * 2 + 1, none⟩ = some (.int .i64 us[k].2) := by
  obtain ⟨g, off, cap, hvv, hgl, hcell⟩ := h.resolve_left (fun h => by rw [h.2] at hk; simp at hk)
  obtain ⟨rfl, rfl⟩ : p = some ⟨g, off, none⟩ ∧ n = us.length := by
    have := Value.slice.inj hvv
    exact ⟨this.1, this.2.1⟩
  have := hcell k hk
  have hget : us.getD k (0, 0) = us[k] := by simp [hk]
  rw [hget] at this
  exact ⟨g, off, rfl, hgl, this.1, this.2⟩
end Go.Proofs.YtfhdjekpdifajaaGreat
namespace Go.Proofs.YtfhdjekpdifajaaGreat
set_option linter.unusedVariables false
open Go.RowKit
/-- Is a level exact? -/
def isX (C : Cfg) (lv : Int) : Bool := decide (keys C lv ≤ C.width)
def kN (C : Cfg) (lv : Int) : Nat := (keys C lv).toNat
theorem kN_eq {C : Cfg} (h : C.Ok) {lv : Int} (h0 : 0 ≤ lv) : keys C lv = (kN C lv : Int) := by
  have := (keys_bd C h lv h0).1
  unfold kN; omega
set_option maxRecDepth 20000 in
set_option maxHeartbeats 2000000 in
theorem Exact_c (C : Cfg) (h : C.Ok) (lv : Int) (h0 : 0 ≤ lv) (h1 : lv ≤ C.bits) (w : World) :
    Calls Tryz.prog 97 #[.agg #[.int .i64 C.bits, .int .i64 C.rows, .int .i64 C.width, .int .i64 C.mode, .int .u64 C.seed], .int .i64 lv] w fun e w' => e = .returned (.bool (isX C lv)) ∧ Ext w w' := by
  have hk := keys_bd C h lv h0
  have w1' := h.w1
  have w2' := h.w2
  have hI : isX C lv = decide (keys C lv ≤ C.width) := rfl
  go_enter Tryz.func97, Tryz.ntmps97
  go_wp2_with fail
  refine (Keys_c C h lv h0 h1 _).mono ?_
  rintro e w1 ⟨rfl, hb⟩
  have hE : Ext w w1 := by (repeat' (first | exact Ext.refl _ | assumption | apply Ext.allocR | apply Ext.drewR | apply Ext.drewNR | (refine Ext.trans' ?_ (by assumption))))
  have hC := (CfgAt.box (w := w) C 24 rfl).ext hb
  have c2 := hC.c2
  have cl := hC.lt
  have HI := Lib.hid hI
  generalize keys C lv = N at *
  clear hb hI hC
  by_cases hx : N ≤ C.width
  · go_wp2
    go_ret
    exact ⟨by rw [HI.out, decide_eq_true hx]; rfl, hE⟩
  · go_wp2
    go_ret
    exact ⟨by rw [HI.out, decide_eq_false (by omega)]; rfl, hE⟩
/-- An array. -/
structure EAt (w : World) (s b c : Nat) (C : Cfg) (lv : Int) (K : Nat) (l : List Int) : Prop where
  ex : w.heap[s]? = some (.cells #[.int .i64 C.bits, .int .i64 C.rows, .int .i64 C.width, .int .i64 C.mode, .int .u64 C.seed, .int .i64 lv, .pointer (some ⟨b, 0, none⟩)] 244 (0, 0))
  g : GAt w b c 1 K l
  ok : C.Ok
  lo : 0 ≤ lv
  hi : lv ≤ C.bits
  hk : keys C lv = K
  fit : ∀ x ∈ l, I64 x
theorem EAt.lts {w : World} {s b c : Nat} {C : Cfg} {lv : Int} {K : Nat} {l : List Int} (h : EAt w s b c C lv K l) : s < w.heap.size := lt_of h.ex
theorem EAt.keep {w w' : World} {s b c : Nat} {C : Cfg} {lv : Int} {K : Nat} {l : List Int} (h : EAt w s b c C lv K l) (hs : w'.heap[s]? = w.heap[s]?) (hb : w'.heap[b]? = w.heap[b]?) (hc : w'.heap[c]? = w.heap[c]?) : EAt w' s b c C lv K l :=
  ⟨by rw [hs]; exact h.ex, h.g.keep hb hc, h.ok, h.lo, h.hi, h.hk, h.fit⟩
theorem EAt.ext {w w' : World} {s b c : Nat} {C : Cfg} {lv : Int} {K : Nat} {l : List Int} (h : EAt w s b c C lv K l) (he : Ext w w') : EAt w' s b c C lv K l :=
  h.keep (he.block s h.lts) (he.block b h.g.ltb) (he.block c h.g.ltc)
theorem EAt.nes {w : World} {s b c : Nat} {C : Cfg} {lv : Int} {K : Nat} {l : List Int} (h : EAt w s b c C lv K l) : s ≠ c := by
  intro e
  obtain ⟨cap, h1, h2⟩ := h.g.ex
  obtain ⟨cur, h3, _⟩ := h2.ex
  have := h.ex
  rw [e, h3] at this
  simp at this
theorem EAt.mod {S : Nat → Prop} {w w' : World} {s b c : Nat} {C : Cfg} {lv : Int} {K : Nat} {l : List Int} (h : EAt w s b c C lv K l) (he : Mod S w w') (h1 : ¬ S s) (h2 : ¬ S b) (h3 : ¬ S c) : EAt w' s b c C lv K l :=
  h.keep (he.block s h.lts h1) (he.block b h.g.ltb h2) (he.block c h.g.ltc h3)
theorem EAt.len {w : World} {s b c : Nat} {C : Cfg} {lv : Int} {K : Nat} {l : List Int} (h : EAt w s b c C lv K l) : l.length = K := by
  rw [h.g.len, Nat.one_mul]
def ENewPost (w : World) (C : Cfg) (lv : Int) (N : Nat) (e : Ending) (w' : World) : Prop :=
  ∃ s b c, e = .returned (.tuple #[.pointer (some ⟨s, 0, none⟩), .int .i64 0]) ∧ EAt w' s b c C lv N (zs N) ∧ w.heap.size ≤ s ∧ w.heap.size ≤ b ∧ w.heap.size ≤ c ∧ Ext w w'
set_option maxRecDepth 20000 in
set_option maxHeartbeats 2000000 in
theorem ENew_c (C : Cfg) (h : C.Ok) (lv : Int) (h0 : 0 ≤ lv) (h1 : lv ≤ C.bits) (N : Nat) (hN : keys C lv = N) (hx : isX C lv = true) (w : World) :
    Calls Tryz.prog 98 #[.agg #[.int .i64 C.bits, .int .i64 C.rows, .int .i64 C.width, .int .i64 C.mode, .int .u64 C.seed], .int .i64 lv] w (ENewPost w C lv N) := by
  have hk := keys_bd C h lv h0
  have w2' := h.w2
  have hx' : keys C lv ≤ C.width := by simpa [isX] using hx
  have HX := Lib.hid hx
  have HN := Lib.hid hN
  rw [hN] at hk hx'
  clear hx hN
  go_enter Tryz.func98, Tryz.ntmps98
  go_wp2_with fail
  refine (Exact_c C h lv h0 h1 _).mono ?_
  rintro e w1 ⟨rfl, hb⟩
  rw [HX.out]
  have hE : Ext w w1 := by (repeat' (first | exact Ext.refl _ | assumption | apply Ext.allocR | apply Ext.drewR | apply Ext.drewNR | (refine Ext.trans' ?_ (by assumption))))
  have hC := (CfgAt.box (w := w) C 24 rfl).ext hb
  have d0 := hC.c0
  have d1 := hC.c1
  have d2 := hC.c2
  have d3 := hC.c3
  have d4 := hC.c4
  have cl := hC.lt
  clear hb hC
  go_wp2
  have hC0 := af_drew w1
  refine pi_start (fun w' => ∃ x : After w1, w' = x.w) [] (by kernel_rfl) ?_
  refine pi_t 1 rfl (by kernel_rfl) (by kernel_rfl) (fun _ _ _ _ h => h) (fun K hK => ?_)
  go_big_quiet_op
  refine hK _ ?_
  clear hK K
  refine pi_t 3 rfl (by kernel_rfl) (by kernel_rfl) (fun _ _ _ _ h => h) (fun K hK => ?_)
  go_big_quiet_op
  refine hK _ ?_
  clear hK K
  refine pi_c 0 (by assumption) rfl (by kernel_rfl) (by kernel_rfl) (fun _ _ _ _ h => h) (fun K hK => ?_)
  go_big_quiet_op
  refine hK _ ?_
  clear hK K
  refine pi_c 2 (by assumption) rfl (by kernel_rfl) (by kernel_rfl) (fun _ _ _ _ h => h) (fun K hK => ?_)
  go_big_quiet_op
  refine hK _ ?_
  clear hK K
  refine pi_l 4 rfl (by kernel_rfl) (fun K hK => ?_)
  go_wp2_with (go_at_call 88; refine (Keys_c C h lv h0 h1 _).mono ?_; rintro e w2 ⟨rfl, hx2⟩)
  refine hK _ _ (fun _ h => af_step h hx2) ?_
  clear hK K
  rw [HN.out]
  refine pi_t 5 rfl (by kernel_rfl) (by kernel_rfl) (fun _ _ _ _ h => h) (fun K hK => ?_)
  go_big_quiet_op
  refine hK _ ?_
  clear hK K
  refine pi_l 6 rfl (by kernel_rfl) (fun K hK => ?_)
  go_wp2_with (go_at_call 154; refine (GNew_c 1 N _ (by decide) (by decide) (by omega) (by omega)).mono ?_; rintro e w3 ⟨gb, gc, rfl, hG, hgb, hgc, hx3⟩)
  refine hK _ _ (fun _ h => af_step h hx3) ?_
  clear hK K
  refine pi_t 7 rfl (by kernel_rfl) (by kernel_rfl) (fun _ _ _ _ h => h) (fun K hK => ?_)
  go_big_quiet_op
  refine hK _ ?_
  clear hK K
  refine pi_l 8 rfl (by kernel_rfl) (fun K hK => ?_)
  go_wp2
  refine hK _ _ (fun _ h => af_step h (Ext.alloc' _ _)) ?_
  clear hK K
  refine pi_t 9 rfl (by kernel_rfl) (by kernel_rfl) (fun _ _ _ _ h => h) (fun K hK => ?_)
  go_big_quiet_op
  refine hK _ ?_
  clear hK K
  refine pi_t 10 rfl (by kernel_rfl) (by kernel_rfl) (fun _ _ _ _ h => h) (fun K hK => ?_)
  go_big_quiet_op
  refine hK _ ?_
  clear hK K
  refine pi_end (by kernel_rfl) ?_
  go_wp2
  go_ret2
  have hx2' : Ext w1 w2 := Ext.trans' (Below.drew (Ext.refl w1)) hx2
  have hs2 := hx2'.size
  have hs3 := hx3.size
  have hs1 := hE.size
  rw [Nat.one_mul] at hG
  refine ⟨w3.heap.size, gb, gc, rfl, ⟨?_, hG.keep (heap_old _ _ hG.ltb) (heap_old _ _ hG.ltc), h, h0, h1, HN.out, ?_⟩, by omega, by omega, by omega, by (repeat' (first | exact Ext.refl _ | assumption | apply Ext.allocR | apply Ext.drewR | apply Ext.drewNR | (refine Ext.trans' ?_ (by assumption))))⟩
  · rw [heap_at _ _ rfl]
  · intro x hx
    simp only [zs, List.mem_replicate] at hx
    rw [hx.2]
    unfold I64; omega
end Go.Proofs.YtfhdjekpdifajaaGreat
namespace Go.Proofs.YtfhdjekpdifajaaGreat
set_option linter.unusedVariables false
open Go.RowKit
theorem ECells_c (s b c : Nat) (C : Cfg) (lv : Int) (N : Nat) (l : List Int) (w : World) (h : EAt w s b c C lv N l) :
    Calls Tryz.prog 123 #[.pointer (some ⟨s, 0, none⟩)] w fun e w' => ∃ v, e = .returned v ∧ w'.ownsRow w.heap.size 2 1 v l.length (ints l) ∧ (v = .slice none 0 0 → False) ∧ Ext w w' := by
  have c6 := (cell_of h.ex 6).trans rfl
  have hlt := h.lts
  have hg := h.g
  clear h
  go_enter Tryz.func123, Tryz.ntmps123
  go_wp2_with fail
  refine (GCells_c b c 1 N l _ hg).mono ?_
  rintro e w1 ⟨v, rfl, h1, h2, h3⟩
  go_wp2
  go_ret
  exact ⟨v, rfl, h1, h2, h3⟩
/-- What Check tells of an array. -/
def errX (C : Cfg) (lv : Int) (l : List Int) (key d : Int) : Int :=
  bif decide (key < keys C lv) then (bif decide (C.mode = 2) && decide (d < 0) then 3 else bif fitB (l.getD key.toNat 0 + d) then 0 else 4) else 2
def updX (l : List Int) (key d : Int) : List Int := l.set key.toNat (l.getD key.toNat 0 + d)
theorem errX_key {C : Cfg} {lv : Int} {l : List Int} {key d : Int} (h : keys C lv ≤ key) : errX C lv l key d = 2 := by
  unfold errX; rw [decide_eq_false (by omega)]; rfl
theorem errX_neg {C : Cfg} {lv : Int} {l : List Int} {key d : Int} (h : key < keys C lv) (hm : C.mode = 2) (hd : d < 0) : errX C lv l key d = 3 := by
  unfold errX; rw [decide_eq_true h, decide_eq_true hm, decide_eq_true hd]; rfl
theorem errX_sum {C : Cfg} {lv : Int} {l : List Int} {key d : Int} (h : key < keys C lv) (hm : ¬ (C.mode = 2 ∧ d < 0)) : errX C lv l key d = bif fitB (l.getD key.toNat 0 + d) then 0 else 4 := by
  unfold errX
  rw [decide_eq_true h]
  have : (decide (C.mode = 2) && decide (d < 0)) = false := by
    rw [Bool.and_eq_false_iff, decide_eq_false_iff_not, decide_eq_false_iff_not]
    by_cases hc : C.mode = 2
    · exact .inr (fun h => hm ⟨hc, h⟩)
    · exact .inl hc
  rw [this]; rfl
theorem At_k {b c N : Nat} {l : List Int} {w : World} (h : GAt w b c 1 N l) {key : Int} (h0 : 0 ≤ key) (h1 : key < N) :
    Calls Tryz.prog 265 #[.pointer (some ⟨b, 0, none⟩), .int .i64 0, .int .i64 key] w fun e w' => e = .returned (.int .i64 (l.getD key.toNat 0)) ∧ w = w' := by
  obtain ⟨k, rfl⟩ := Int.eq_ofNat_of_zero_le h0
  have := At_c b c 1 N l w h 0 k (by decide) (by omega)
  rw [Nat.zero_mul, Nat.zero_add] at this
  exact this
theorem Put_k {b c N : Nat} {l : List Int} {w : World} (h : GAt w b c 1 N l) {key : Int} (h0 : 0 ≤ key) (h1 : key < N) (n : Int) :
    Calls Tryz.prog 257 #[.pointer (some ⟨b, 0, none⟩), .int .i64 0, .int .i64 key, .int .i64 n] w fun e w' => e = .returned (.bool true) ∧ w.setCell ⟨c, key.toNat, none⟩ (.int .i64 n) = w' := by
  obtain ⟨k, rfl⟩ := Int.eq_ofNat_of_zero_le h0
  have := Put_c b c 1 N l w h 0 k (by decide) (by omega) n
  rw [Nat.zero_mul, Nat.zero_add] at this
  exact this
set_option maxRecDepth 20000 in
set_option maxHeartbeats 2000000 in
theorem ECheck_c (s b c : Nat) (C : Cfg) (lv : Int) (N : Nat) (l : List Int) (key d : Int) (w : World) (h : EAt w s b c C lv N l) (hd : I64 d) (hk : U64 key) :
    Calls Tryz.prog 282 #[.pointer (some ⟨s, 0, none⟩), .int .u64 key, .int .i64 d] w fun e w' => e = .returned (.int .i64 (errX C lv l key d)) ∧ Ext w w' := by
  have c3 := (cell_of h.ex 3).trans rfl
  have c6 := (cell_of h.ex 6).trans rfl
  have hlt := h.lts
  have hg := h.g
  have hN := h.hk
  have w2' := h.g.w2
  have hy := getD_i64 h.fit key.toNat
  obtain ⟨hk0, hk1⟩ := hk
  have HG := Lib.hid hg
  have HN := Lib.hid hN
  have hd' := hd
  unfold I64 at hd
  by_cases hkey : N ≤ key
  · have he := errX_key (l := l) (d := d) (show keys C lv ≤ key by rw [hN]; exact hkey)
    have HE := Lib.hid he
    clear he h hg hN
    go_enter Tryz.func282, Tryz.ntmps282
    go_wp2_with fail
    refine (Width_c b c 1 N l _ HG.out).mono ?_
    rintro e w1 ⟨rfl, rfl⟩
    go_wp2
    go_ret
    exact ⟨by rw [HE.out]; rfl, Ext.refl _⟩
  · have hkl : key < keys C lv := by rw [hN]; omega
    by_cases hm : C.mode = 2 ∧ d < 0
    · obtain ⟨hm1, hm2⟩ := hm
      have he := errX_neg (l := l) hkl hm1 hm2
      have hmb : (C.mode == 2) = true := by simpa using hm1
      have HE := Lib.hid he
      clear he h hg hN hm1 hkl
      go_enter Tryz.func282, Tryz.ntmps282
      go_wp2_with fail
      refine (Width_c b c 1 N l _ HG.out).mono ?_
      rintro e w1 ⟨rfl, rfl⟩
      go_wp2
      go_ret
      exact ⟨by rw [HE.out]; rfl, Ext.refl _⟩
    · have he := errX_sum (l := l) hkl hm
      have HE := Lib.hid he
      have hmb : ((C.mode == 2) = false) ∨ ((C.mode == 2) = true ∧ ¬ d < 0) := by
        by_cases hc : C.mode = 2
        · exact .inr ⟨by simpa using hc, fun h => hm ⟨hc, h⟩⟩
        · exact .inl (by simpa using hc)
      obtain ⟨y, hyy⟩ : ∃ y, l.getD key.toNat 0 = y := ⟨_, rfl⟩
      rw [hyy] at hy
      have HY := Lib.hid hyy
      clear he h hg hN hm hkl hyy
      have hkN : key < N := by omega
      rcases hmb with hmb | ⟨hmb, hdn⟩
      all_goals
        by_cases hf : I64 (y + d)
        · have hfb := fitB_yes hf
          go_enter Tryz.func282, Tryz.ntmps282
          go_wp2_with fail
          refine (Width_c b c 1 N l _ HG.out).mono ?_
          rintro e w1 ⟨rfl, rfl⟩
          go_wp2_with fail
          refine (At_k HG.out hk0 hkN).mono ?_
          rintro e w1 ⟨rfl, rfl⟩
          rw [HY.out]
          go_wp2_with fail
          refine (Plus_c y d hy hd' _).mono ?_
          rintro e w1 ⟨rfl, hx1⟩
          rw [hfb]
          go_wp2
          go_ret
          exact ⟨by rw [HE.out, HY.out, hfb]; rfl, hx1⟩
        · have hfb := fitB_no hf
          go_enter Tryz.func282, Tryz.ntmps282
          go_wp2_with fail
          refine (Width_c b c 1 N l _ HG.out).mono ?_
          rintro e w1 ⟨rfl, rfl⟩
          go_wp2_with fail
          refine (At_k HG.out hk0 hkN).mono ?_
          rintro e w1 ⟨rfl, rfl⟩
          rw [HY.out]
          go_wp2_with fail
          refine (Plus_c y d hy hd' _).mono ?_
          rintro e w1 ⟨rfl, hx1⟩
          rw [hfb]
          go_wp2
          go_ret
          exact ⟨by rw [HE.out, HY.out, hfb]; rfl, hx1⟩
/-- What Update does to an array. -/
def EUpdPost (w : World) (s b c : Nat) (C : Cfg) (lv : Int) (N : Nat) (l : List Int) (key d : Int) (e : Ending) (w' : World) : Prop :=
  e = .returned (.int .i64 (errX C lv l key d)) ∧
    ((errX C lv l key d = 0 ∧ EAt w' s b c C lv N (updX l key d) ∧ Mod (fun k => k = c) w w') ∨ (errX C lv l key d ≠ 0 ∧ Ext w w'))
theorem errX_zero {C : Cfg} {lv : Int} {l : List Int} {key d : Int} (h : errX C lv l key d = 0) : key < keys C lv ∧ I64 (l.getD key.toNat 0 + d) := by
  rcases Int.lt_or_le key (keys C lv) with h' | h'
  · refine ⟨h', ?_⟩
    by_cases hm : C.mode = 2 ∧ d < 0
    · rw [errX_neg h' hm.1 hm.2] at h; cases h
    · rw [errX_sum h' hm] at h
      by_cases hf : I64 (l.getD key.toNat 0 + d)
      · exact hf
      · rw [fitB_no hf] at h; cases h
  · rw [errX_key h'] at h; cases h
theorem EAt.setl {w : World} {s b c : Nat} {C : Cfg} {lv : Int} {N : Nat} {l : List Int} (h : EAt w s b c C lv N l) {i : Nat} (hi : i < l.length) {n : Int} (hn : I64 n) : EAt (w.setCell ⟨c, i, none⟩ (.int .i64 n)) s b c C lv N (l.set i n) :=
  ⟨by rw [setCell_other _ _ h.nes]; exact h.ex, h.g.set hi n, h.ok, h.lo, h.hi, h.hk, fun x hx => by
    rcases List.mem_or_eq_of_mem_set hx with h1 | h1
    · exact h.fit x h1
    · rw [h1]; exact hn⟩
set_option maxRecDepth 20000 in
set_option maxHeartbeats 2000000 in
theorem EUpdate_c (s b c : Nat) (C : Cfg) (lv : Int) (N : Nat) (l : List Int) (key d : Int) (w : World) (h : EAt w s b c C lv N l) (hd : I64 d) (hk : U64 key) :
    Calls Tryz.prog 285 #[.pointer (some ⟨s, 0, none⟩), .int .u64 key, .int .i64 d] w (EUpdPost w s b c C lv N l key d) := by
  by_cases he0 : errX C lv l key d = 0
  · have hz := errX_zero he0
    have hN := h.hk
    have w2' := h.g.w2
    have hkN : key < N := by omega
    have hsum := hz.2
    have hlen := h.len
    have HE := Lib.hid he0
    obtain ⟨hk0, hk1⟩ := hk
    clear he0 hz
    go_enter Tryz.func285, Tryz.ntmps285
    go_wp2_with fail
    refine (ECheck_c s b c C lv N l key d _ h hd ⟨hk0, hk1⟩).mono ?_
    rintro e w1 ⟨rfl, hx1⟩
    rw [HE.out]
    have h' := h.ext hx1
    have c6 := (cell_of h'.ex 6).trans rfl
    have hlt := h'.lts
    have hG := h'.g.ext (Below.drew (Ext.refl w1))
    obtain ⟨y, hyy⟩ : ∃ y, l.getD key.toNat 0 = y := ⟨_, rfl⟩
    have HY := Lib.hid hyy
    have HS := Lib.hid hsum
    rw [hyy] at hsum
    unfold I64 at hsum hd
    clear hyy hN
    have HH := Lib.hid h'
    clear h h'
    go_wp2
    have hC0 := af_drew w1
    refine pi_start (fun w' => ∃ x : After w1, w' = x.w) [15] (by kernel_rfl) ?_
    refine pi_t 0 rfl (by kernel_rfl) (by kernel_rfl) (fun _ _ _ _ h => h) (fun K hK => ?_)
    go_big_quiet_op
    refine hK _ ?_
    clear hK K
    refine pi_t 1 rfl (by kernel_rfl) (by kernel_rfl) (fun _ _ _ _ h => h) (fun K hK => ?_)
    go_big_quiet_op
    refine hK _ ?_
    clear hK K
    refine pi_t 2 rfl (by kernel_rfl) (by kernel_rfl) (fun _ _ _ _ h => h) (fun K hK => ?_)
    go_big_quiet_op
    refine hK _ ?_
    clear hK K
    refine pi_t 4 rfl (by kernel_rfl) (by kernel_rfl) (fun _ _ _ _ h => h) (fun K hK => ?_)
    go_big_quiet_op
    refine hK _ ?_
    clear hK K
    refine pi_t 5 rfl (by kernel_rfl) (by kernel_rfl) (fun _ _ _ _ h => h) (fun K hK => ?_)
    go_big_quiet_op
    refine hK _ ?_
    clear hK K
    refine pi_t 6 rfl (by kernel_rfl) (by kernel_rfl) (fun _ _ _ _ h => h) (fun K hK => ?_)
    go_big_quiet_op
    refine hK _ ?_
    clear hK K
    refine pi_t 7 rfl (by kernel_rfl) (by kernel_rfl) (fun _ _ _ _ h => h) (fun K hK => ?_)
    go_big_quiet_op
    refine hK _ ?_
    clear hK K
    refine pi_t 8 rfl (by kernel_rfl) (by kernel_rfl) (fun _ _ _ _ h => h) (fun K hK => ?_)
    go_big_quiet_op
    refine hK _ ?_
    clear hK K
    refine pi_t 10 rfl (by kernel_rfl) (by kernel_rfl) (fun _ _ _ _ h => h) (fun K hK => ?_)
    go_big_quiet_op
    refine hK _ ?_
    clear hK K
    refine pi_t 11 rfl (by kernel_rfl) (by kernel_rfl) (fun _ _ _ _ h => h) (fun K hK => ?_)
    go_big_quiet_op
    refine hK _ ?_
    clear hK K
    refine pi_t 13 rfl (by kernel_rfl) (by kernel_rfl) (fun _ _ _ _ h => h) (fun K hK => ?_)
    go_big_quiet_op
    refine hK _ ?_
    clear hK K
    refine pi_c 3 (by assumption) rfl (by kernel_rfl) (by kernel_rfl) (fun _ _ _ _ h => h) (fun K hK => ?_)
    go_big_quiet_op
    refine hK _ ?_
    clear hK K
    refine pi_l 9 rfl (by kernel_rfl) (fun K hK => ?_)
    go_wp2
    refine hK _ _ (fun _ h => h) ?_
    clear hK K
    refine pi_l 12 rfl (by kernel_rfl) (fun K hK => ?_)
    go_wp2_with (go_at_call 265; refine (At_k hG hk0 hkN).mono ?_; rintro e w2 ⟨rfl, rfl⟩; rw [HY.out])
    refine hK _ _ (fun _ h => h) ?_
    clear hK K
    refine pi_t 14 rfl (by kernel_rfl) (by kernel_rfl) (fun _ _ _ _ h => h) (fun K hK => ?_)
    go_big_quiet_op
    refine hK _ ?_
    clear hK K
    refine pi_l 15 rfl (by kernel_rfl) (fun K hK => ?_)
    go_wp2_with (go_at_call 257; refine (Put_k hG hk0 hkN (y + d)).mono ?_; rintro e w2 ⟨rfl, rfl⟩)
    refine hK _ _ (by simp) ?_
    clear hK K
    refine pi_end (by kernel_rfl) ?_
    go_wp2
    go_ret
    refine ⟨by rw [HE.out]; rfl, .inl ⟨HE.out, ?_, ?_⟩⟩
    · have := (HH.out.ext (Below.drew (Ext.refl w1))).setl (i := key.toNat) (by rw [hlen]; omega) (n := y + d) (by unfold I64; omega)
      unfold updX
      rw [HY.out]
      exact this
    · exact (hx1.mod _).trans ((Ext.mod _ (Below.drew (Ext.refl w1))).trans (mod_set _ _ _ _))
  · have hb : (errX C lv l key d == 0) = false := by simpa using he0
    go_enter Tryz.func285, Tryz.ntmps285
    go_wp2_with fail
    refine (ECheck_c s b c C lv N l key d _ h hd hk).mono ?_
    rintro e w0 ⟨rfl, hx00⟩
    go_wp2
    go_ret
    exact ⟨rfl, .inr ⟨he0, hx00⟩⟩
set_option maxRecDepth 20000 in
theorem EPoint_c (s b c : Nat) (C : Cfg) (lv : Int) (N : Nat) (l : List Int) (key : Int) (w : World) (h : EAt w s b c C lv N l) (hk0 : 0 ≤ key) (hk1 : key < keys C lv) :
    Calls Tryz.prog 284 #[.pointer (some ⟨s, 0, none⟩), .int .u64 key] w fun e w' => e = .returned (.tuple #[.int .i64 (l.getD key.toNat 0), .int .i64 0]) ∧ w = w' := by
  have c6 := (cell_of h.ex 6).trans rfl
  have hlt := h.lts
  have hG := h.g
  have w2' := h.g.w2
  have hkN : key < N := by rw [← h.hk]; exact hk1
  have HG := Lib.hid hG
  clear h hG hk1
  go_enter Tryz.func284, Tryz.ntmps284
  go_wp2_with fail
  refine (Width_c b c 1 N l _ HG.out).mono ?_
  rintro e w1 ⟨rfl, rfl⟩
  go_wp2_with fail
  refine (At_k HG.out hk0 hkN).mono ?_
  rintro e w1 ⟨rfl, rfl⟩
  go_wp2
  go_ret2
  exact ⟨rfl, rfl⟩
set_option maxRecDepth 20000 in
set_option maxHeartbeats 2000000 in
theorem ECopy_c (s b c : Nat) (C : Cfg) (lv : Int) (N : Nat) (l : List Int) (w : World) (h : EAt w s b c C lv N l) :
    Calls Tryz.prog 117 #[.pointer (some ⟨s, 0, none⟩)] w fun e w' => ∃ s' b' c', e = .returned (.pointer (some ⟨s', 0, none⟩)) ∧ EAt w' s' b' c' C lv N l ∧ w.heap.size ≤ s' ∧ w.heap.size ≤ b' ∧ w.heap.size ≤ c' ∧ Ext w w' := by
  have c0 := (cell_of h.ex 0).trans rfl
  have c1 := (cell_of h.ex 1).trans rfl
  have c2 := (cell_of h.ex 2).trans rfl
  have c3 := (cell_of h.ex 3).trans rfl
  have c4 := (cell_of h.ex 4).trans rfl
  have c5 := (cell_of h.ex 5).trans rfl
  have c6 := (cell_of h.ex 6).trans rfl
  have hlt := h.lts
  have hG := h.g.ext (Below.drew (Ext.refl w))
  have HH := Lib.hid h
  clear h
  go_enter Tryz.func117, Tryz.ntmps117
  go_wp2
  have hC0 := af_drew w
  refine pi_start (fun w' => ∃ x : After w, w' = x.w) [] (by kernel_rfl) ?_
  refine pi_t 0 rfl (by kernel_rfl) (by kernel_rfl) (fun _ _ _ _ h => h) (fun K hK => ?_)
  go_big_quiet_op
  refine hK _ ?_
  clear hK K
  refine pi_t 1 rfl (by kernel_rfl) (by kernel_rfl) (fun _ _ _ _ h => h) (fun K hK => ?_)
  go_big_quiet_op
  refine hK _ ?_
  clear hK K
  refine pi_t 2 rfl (by kernel_rfl) (by kernel_rfl) (fun _ _ _ _ h => h) (fun K hK => ?_)
  go_big_quiet_op
  refine hK _ ?_
  clear hK K
  refine pi_t 4 rfl (by kernel_rfl) (by kernel_rfl) (fun _ _ _ _ h => h) (fun K hK => ?_)
  go_big_quiet_op
  refine hK _ ?_
  clear hK K
  refine pi_t 5 rfl (by kernel_rfl) (by kernel_rfl) (fun _ _ _ _ h => h) (fun K hK => ?_)
  go_big_quiet_op
  refine hK _ ?_
  clear hK K
  refine pi_t 6 rfl (by kernel_rfl) (by kernel_rfl) (fun _ _ _ _ h => h) (fun K hK => ?_)
  go_big_quiet_op
  refine hK _ ?_
  clear hK K
  refine pi_t 8 rfl (by kernel_rfl) (by kernel_rfl) (fun _ _ _ _ h => h) (fun K hK => ?_)
  go_big_quiet_op
  refine hK _ ?_
  clear hK K
  refine pi_t 9 rfl (by kernel_rfl) (by kernel_rfl) (fun _ _ _ _ h => h) (fun K hK => ?_)
  go_big_quiet_op
  refine hK _ ?_
  clear hK K
  refine pi_t 10 rfl (by kernel_rfl) (by kernel_rfl) (fun _ _ _ _ h => h) (fun K hK => ?_)
  go_big_quiet_op
  refine hK _ ?_
  clear hK K
  refine pi_c 3 (by assumption) rfl (by kernel_rfl) (by kernel_rfl) (fun _ _ _ _ h => h) (fun K hK => ?_)
  go_big_quiet_op
  refine hK _ ?_
  clear hK K
  refine pi_c 7 (by assumption) rfl (by kernel_rfl) (by kernel_rfl) (fun _ _ _ _ h => h) (fun K hK => ?_)
  go_big_quiet_op
  refine hK _ ?_
  clear hK K
  refine pi_c 11 (by assumption) rfl (by kernel_rfl) (by kernel_rfl) (fun _ _ _ _ h => h) (fun K hK => ?_)
  go_big_quiet_op
  refine hK _ ?_
  clear hK K
  refine pi_l 12 rfl (by kernel_rfl) (fun K hK => ?_)
  go_wp2_with (go_at_call 167; refine (GCopy_c b c 1 N l _ hG).mono ?_; rintro e w1 ⟨b', c', rfl, hg', hb', hc', hx1⟩)
  refine hK _ _ (fun _ h => af_step h hx1) ?_
  clear hK K
  refine pi_t 13 rfl (by kernel_rfl) (by kernel_rfl) (fun _ _ _ _ h => h) (fun K hK => ?_)
  go_big_quiet_op
  refine hK _ ?_
  clear hK K
  refine pi_l 14 rfl (by kernel_rfl) (fun K hK => ?_)
  go_wp2
  refine hK _ _ (fun _ h => af_step h (Ext.alloc' _ _)) ?_
  clear hK K
  refine pi_t 15 rfl (by kernel_rfl) (by kernel_rfl) (fun _ _ _ _ h => h) (fun K hK => ?_)
  go_big_quiet_op
  refine hK _ ?_
  clear hK K
  refine pi_end (by kernel_rfl) ?_
  go_wp2
  go_ret
  have hx1' : Ext w w1 := Ext.trans' (Below.drew (Ext.refl w)) hx1
  have hs1 := hx1'.size
  have H := HH.out
  refine ⟨w1.heap.size, b', c', rfl, ⟨heap_at _ _ rfl, hg'.keep (heap_old _ _ hg'.ltb) (heap_old _ _ hg'.ltc), H.ok, H.lo, H.hi, H.hk, H.fit⟩, hs1, hb', hc', by (repeat' (first | exact Ext.refl _ | assumption | apply Ext.allocR | apply Ext.drewR | apply Ext.drewNR | (refine Ext.trans' ?_ (by assumption))))⟩
set_option maxRecDepth 20000 in
set_option maxHeartbeats 2000000 in
theorem SCopy_c (s b c : Nat) (C : Cfg) (lv : Int) (R W : Nat) (l : List Int) (w : World) (h : SAt w s b c C lv R W l) :
    Calls Tryz.prog 118 #[.pointer (some ⟨s, 0, none⟩)] w fun e w' => ∃ s' b' c', e = .returned (.pointer (some ⟨s', 0, none⟩)) ∧ SAt w' s' b' c' C lv R W l ∧ w.heap.size ≤ s' ∧ w.heap.size ≤ b' ∧ w.heap.size ≤ c' ∧ Ext w w' := by
  have c0 := (cell_of h.ex 0).trans rfl
  have c1 := (cell_of h.ex 1).trans rfl
  have c2 := (cell_of h.ex 2).trans rfl
  have c3 := (cell_of h.ex 3).trans rfl
  have c4 := (cell_of h.ex 4).trans rfl
  have c5 := (cell_of h.ex 5).trans rfl
  have c6 := (cell_of h.ex 6).trans rfl
  have hlt := h.lts
  have hG := h.g.ext (Below.drew (Ext.refl w))
  have HH := Lib.hid h
  clear h
  go_enter Tryz.func118, Tryz.ntmps118
  go_wp2
  have hC0 := af_drew w
  refine pi_start (fun w' => ∃ x : After w, w' = x.w) [] (by kernel_rfl) ?_
  refine pi_t 0 rfl (by kernel_rfl) (by kernel_rfl) (fun _ _ _ _ h => h) (fun K hK => ?_)
  go_big_quiet_op
  refine hK _ ?_
  clear hK K
  refine pi_t 1 rfl (by kernel_rfl) (by kernel_rfl) (fun _ _ _ _ h => h) (fun K hK => ?_)
  go_big_quiet_op
  refine hK _ ?_
  clear hK K
  refine pi_t 2 rfl (by kernel_rfl) (by kernel_rfl) (fun _ _ _ _ h => h) (fun K hK => ?_)
  go_big_quiet_op
  refine hK _ ?_
  clear hK K
  refine pi_t 3 rfl (by kernel_rfl) (by kernel_rfl) (fun _ _ _ _ h => h) (fun K hK => ?_)
  go_big_quiet_op
  refine hK _ ?_
  clear hK K
  refine pi_t 7 rfl (by kernel_rfl) (by kernel_rfl) (fun _ _ _ _ h => h) (fun K hK => ?_)
  go_big_quiet_op
  refine hK _ ?_
  clear hK K
  refine pi_t 8 rfl (by kernel_rfl) (by kernel_rfl) (fun _ _ _ _ h => h) (fun K hK => ?_)
  go_big_quiet_op
  refine hK _ ?_
  clear hK K
  refine pi_t 9 rfl (by kernel_rfl) (by kernel_rfl) (fun _ _ _ _ h => h) (fun K hK => ?_)
  go_big_quiet_op
  refine hK _ ?_
  clear hK K
  refine pi_t 11 rfl (by kernel_rfl) (by kernel_rfl) (fun _ _ _ _ h => h) (fun K hK => ?_)
  go_big_quiet_op
  refine hK _ ?_
  clear hK K
  refine pi_t 12 rfl (by kernel_rfl) (by kernel_rfl) (fun _ _ _ _ h => h) (fun K hK => ?_)
  go_big_quiet_op
  refine hK _ ?_
  clear hK K
  refine pi_t 13 rfl (by kernel_rfl) (by kernel_rfl) (fun _ _ _ _ h => h) (fun K hK => ?_)
  go_big_quiet_op
  refine hK _ ?_
  clear hK K
  refine pi_c 4 (by assumption) rfl (by kernel_rfl) (by kernel_rfl) (fun _ _ _ _ h => h) (fun K hK => ?_)
  go_big_quiet_op
  refine hK _ ?_
  clear hK K
  refine pi_c 10 (by assumption) rfl (by kernel_rfl) (by kernel_rfl) (fun _ _ _ _ h => h) (fun K hK => ?_)
  go_big_quiet_op
  refine hK _ ?_
  clear hK K
  refine pi_c 14 (by assumption) rfl (by kernel_rfl) (by kernel_rfl) (fun _ _ _ _ h => h) (fun K hK => ?_)
  go_big_quiet_op
  refine hK _ ?_
  clear hK K
  refine pi_l 5 rfl (by kernel_rfl) (fun K hK => ?_)
  go_wp2_with (go_at_call 167; refine (GCopy_c b c R W l _ hG).mono ?_; rintro e w1 ⟨b', c', rfl, hg', hb', hc', hx1⟩)
  refine hK _ _ (fun _ h => af_step h hx1) ?_
  clear hK K
  refine pi_t 6 rfl (by kernel_rfl) (by kernel_rfl) (fun _ _ _ _ h => h) (fun K hK => ?_)
  go_big_quiet_op
  refine hK _ ?_
  clear hK K
  refine pi_t 15 rfl (by kernel_rfl) (by kernel_rfl) (fun _ _ _ _ h => h) (fun K hK => ?_)
  go_big_quiet_op
  refine hK _ ?_
  clear hK K
  refine pi_l 16 rfl (by kernel_rfl) (fun K hK => ?_)
  go_wp2
  refine hK _ _ (fun _ h => af_step h (Ext.alloc' _ _)) ?_
  clear hK K
  refine pi_t 17 rfl (by kernel_rfl) (by kernel_rfl) (fun _ _ _ _ h => h) (fun K hK => ?_)
  go_big_quiet_op
  refine hK _ ?_
  clear hK K
  refine pi_end (by kernel_rfl) ?_
  go_wp2
  go_ret
  have hx1' : Ext w w1 := Ext.trans' (Below.drew (Ext.refl w)) hx1
  have hs1 := hx1'.size
  have H := HH.out
  refine ⟨w1.heap.size, b', c', rfl, ⟨heap_at _ _ rfl, hg'.keep (heap_old _ _ hg'.ltb) (heap_old _ _ hg'.ltc), H.ok, H.lo, H.hi, H.hr, H.hw, H.fit⟩, hs1, hb', hc', by (repeat' (first | exact Ext.refl _ | assumption | apply Ext.allocR | apply Ext.drewR | apply Ext.drewNR | (refine Ext.trans' ?_ (by assumption))))⟩
end Go.Proofs.YtfhdjekpdifajaaGreat
namespace Go.Proofs.YtfhdjekpdifajaaGreat
set_option linter.unusedVariables false
open Go.RowKit
def rN (C : Cfg) : Nat := C.rows.toNat
def wN (C : Cfg) : Nat := C.width.toNat
theorem rN_eq {C : Cfg} (h : C.Ok) : C.rows = (rN C : Int) := by have := h.r1; unfold rN; omega
theorem wN_eq {C : Cfg} (h : C.Ok) : C.width = (wN C : Int) := by have := h.w1; unfold wN; omega
/-- How many cells a level has. -/
def lvN (C : Cfg) (lv : Int) : Nat := bif isX C lv then kN C lv else rN C * wN C
/-- Where a level lies: what it is, its grid, its cells. -/
structure Lev where
  s : Nat
  b : Nat
  c : Nat
def LvAt (w : World) (L : Lev) (C : Cfg) (lv : Int) (l : List Int) : Prop :=
  (isX C lv = true ∧ EAt w L.s L.b L.c C lv (kN C lv) l) ∨ (isX C lv = false ∧ SAt w L.s L.b L.c C lv (rN C) (wN C) l)
def lvT (C : Cfg) (lv : Int) : TypeId := bif isX C lv then 176 else 170
def lvV (C : Cfg) (lv : Int) (L : Lev) : Value := .iface (lvT C lv) (.pointer (some ⟨L.s, 0, none⟩))
theorem lvV_x {C : Cfg} {lv : Int} (h : isX C lv = true) (L : Lev) : lvV C lv L = .iface 176 (.pointer (some ⟨L.s, 0, none⟩)) := by unfold lvV lvT; rw [h]; rfl
theorem lvV_s {C : Cfg} {lv : Int} (h : isX C lv = false) (L : Lev) : lvV C lv L = .iface 170 (.pointer (some ⟨L.s, 0, none⟩)) := by unfold lvV lvT; rw [h]; rfl
theorem LvAt.x {w : World} {L : Lev} {C : Cfg} {lv : Int} {l : List Int} (h : LvAt w L C lv l) (hx : isX C lv = true) : EAt w L.s L.b L.c C lv (kN C lv) l := by
  rcases h with ⟨_, h⟩ | ⟨h, _⟩
  · exact h
  · rw [hx] at h; cases h
theorem LvAt.sk {w : World} {L : Lev} {C : Cfg} {lv : Int} {l : List Int} (h : LvAt w L C lv l) (hx : isX C lv = false) : SAt w L.s L.b L.c C lv (rN C) (wN C) l := by
  rcases h with ⟨h, _⟩ | ⟨_, h⟩
  · rw [hx] at h; cases h
  · exact h
theorem LvAt.lts {w : World} {L : Lev} {C : Cfg} {lv : Int} {l : List Int} (h : LvAt w L C lv l) : L.s < w.heap.size := by
  rcases h with ⟨_, h⟩ | ⟨_, h⟩ <;> exact h.lts
theorem LvAt.ltb {w : World} {L : Lev} {C : Cfg} {lv : Int} {l : List Int} (h : LvAt w L C lv l) : L.b < w.heap.size := by
  rcases h with ⟨_, h⟩ | ⟨_, h⟩ <;> exact h.g.ltb
theorem LvAt.ltc {w : World} {L : Lev} {C : Cfg} {lv : Int} {l : List Int} (h : LvAt w L C lv l) : L.c < w.heap.size := by
  rcases h with ⟨_, h⟩ | ⟨_, h⟩ <;> exact h.g.ltc
theorem LvAt.ok {w : World} {L : Lev} {C : Cfg} {lv : Int} {l : List Int} (h : LvAt w L C lv l) : C.Ok := by
  rcases h with ⟨_, h⟩ | ⟨_, h⟩ <;> exact h.ok
theorem LvAt.lo {w : World} {L : Lev} {C : Cfg} {lv : Int} {l : List Int} (h : LvAt w L C lv l) : 0 ≤ lv := by
  rcases h with ⟨_, h⟩ | ⟨_, h⟩ <;> exact h.lo
theorem LvAt.hi {w : World} {L : Lev} {C : Cfg} {lv : Int} {l : List Int} (h : LvAt w L C lv l) : lv ≤ C.bits := by
  rcases h with ⟨_, h⟩ | ⟨_, h⟩ <;> exact h.hi
theorem LvAt.fit {w : World} {L : Lev} {C : Cfg} {lv : Int} {l : List Int} (h : LvAt w L C lv l) : ∀ x ∈ l, I64 x := by
  rcases h with ⟨_, h⟩ | ⟨_, h⟩ <;> exact h.fit
theorem LvAt.len {w : World} {L : Lev} {C : Cfg} {lv : Int} {l : List Int} (h : LvAt w L C lv l) : l.length = lvN C lv := by
  unfold lvN
  rcases h with ⟨hx, h⟩ | ⟨hx, h⟩
  · rw [hx]; exact h.len
  · rw [hx]; exact h.g.len
theorem LvAt.keep {w w' : World} {L : Lev} {C : Cfg} {lv : Int} {l : List Int} (h : LvAt w L C lv l) (hs : w'.heap[L.s]? = w.heap[L.s]?) (hb : w'.heap[L.b]? = w.heap[L.b]?) (hc : w'.heap[L.c]? = w.heap[L.c]?) : LvAt w' L C lv l := by
  rcases h with ⟨hx, h⟩ | ⟨hx, h⟩
  · exact .inl ⟨hx, h.keep hs hb hc⟩
  · exact .inr ⟨hx, h.keep hs hb hc⟩
theorem LvAt.ext {w w' : World} {L : Lev} {C : Cfg} {lv : Int} {l : List Int} (h : LvAt w L C lv l) (he : Ext w w') : LvAt w' L C lv l :=
  h.keep (he.block _ h.lts) (he.block _ h.ltb) (he.block _ h.ltc)
/-- A block of cells is a block of int64. -/
theorem LvAt.isc {w : World} {L : Lev} {C : Cfg} {lv : Int} {l : List Int} (h : LvAt w L C lv l) : ∃ cur, w.heap[L.c]? = some (.cells cur 2 (0, 0)) := by
  rcases h with ⟨_, h⟩ | ⟨_, h⟩ <;> (obtain ⟨cap, _, h2⟩ := h.g.ex; obtain ⟨cur, h3, _⟩ := h2.ex; exact ⟨cur, h3⟩)
theorem LvAt.iss {w : World} {L : Lev} {C : Cfg} {lv : Int} {l : List Int} (h : LvAt w L C lv l) : ∃ cur t, w.heap[L.s]? = some (.cells cur t (0, 0)) ∧ t ≠ 2 := by
  rcases h with ⟨_, h⟩ | ⟨_, h⟩ <;> exact ⟨_, _, h.ex, by decide⟩
theorem LvAt.isb {w : World} {L : Lev} {C : Cfg} {lv : Int} {l : List Int} (h : LvAt w L C lv l) : ∃ cur t, w.heap[L.b]? = some (.cells cur t (0, 0)) ∧ t ≠ 2 := by
  rcases h with ⟨_, h⟩ | ⟨_, h⟩ <;> (obtain ⟨cap, h1, _⟩ := h.g.ex; exact ⟨_, _, h1, by decide⟩)
theorem blk_ne {w : World} {i j : Nat} {cur cur' : Array Value} {t t' : TypeId} {f f' : Nat × Nat} (h : w.heap[i]? = some (.cells cur t f)) (h' : w.heap[j]? = some (.cells cur' t' f')) (ht : t ≠ t') : i ≠ j := by
  intro e
  subst e
  rw [h] at h'
  injection h' with h'
  injection h' with _ h' _
  exact ht h'
/-- What another level's cells are changed to does not touch a level. -/
theorem LvAt.mod {S : Nat → Prop} {w w' : World} {L : Lev} {C : Cfg} {lv : Int} {l : List Int} (h : LvAt w L C lv l) (he : Mod S w w') (hS : ∀ k, S k → k < w.heap.size → ∃ cur, w.heap[k]? = some (.cells cur 2 (0, 0))) (hc : ¬ S L.c) : LvAt w' L C lv l := by
  refine h.keep (he.block _ h.lts fun hs => ?_) (he.block _ h.ltb fun hs => ?_) (he.block _ h.ltc hc)
  · obtain ⟨cur, t, h1, h2⟩ := h.iss
    obtain ⟨cur', h3⟩ := hS _ hs h.lts
    exact blk_ne h1 h3 h2 rfl
  · obtain ⟨cur, t, h1, h2⟩ := h.isb
    obtain ⟨cur', h3⟩ := hS _ hs h.ltb
    exact blk_ne h1 h3 h2 rfl
/-- Is a level an array, or a sketch? -/
@[go_sem] theorem ta_xx (p : Option Addr) (w : World) : (Instr.typeAssert (.iface 176 (.pointer p)) 62 176 true).run Tryz.prog w = .ok (.tuple #[.pointer p, .bool true]) w := by kernel_rfl
@[go_sem] theorem ta_xs (p : Option Addr) (w : World) : (Instr.typeAssert (.iface 176 (.pointer p)) 62 170 true).run Tryz.prog w = .ok (.tuple #[.pointer none, .bool false]) w := by kernel_rfl
@[go_sem] theorem ta_sx (p : Option Addr) (w : World) : (Instr.typeAssert (.iface 170 (.pointer p)) 62 176 true).run Tryz.prog w = .ok (.tuple #[.pointer none, .bool false]) w := by kernel_rfl
@[go_sem] theorem ta_ss (p : Option Addr) (w : World) : (Instr.typeAssert (.iface 170 (.pointer p)) 62 170 true).run Tryz.prog w = .ok (.tuple #[.pointer p, .bool true]) w := by kernel_rfl
@[go_sem] theorem ta_nx (w : World) : (Instr.typeAssert .nilIface 62 176 true).run Tryz.prog w = .ok (.tuple #[.pointer none, .bool false]) w := by kernel_rfl
@[go_sem] theorem ta_ns (w : World) : (Instr.typeAssert .nilIface 62 170 true).run Tryz.prog w = .ok (.tuple #[.pointer none, .bool false]) w := by kernel_rfl
@[go_sem] theorem tm_ss (p : Option Addr) (w : World) : (Instr.typeAssert (.iface 170 (.pointer p)) 62 170 false).run Tryz.prog w = .ok (.pointer p) w := by kernel_rfl
def LNewPost (w : World) (C : Cfg) (lv : Int) (e : Ending) (w' : World) : Prop :=
  ∃ L : Lev, e = .returned (.tuple #[lvV C lv L, .int .i64 0]) ∧ LvAt w' L C lv (zs (lvN C lv)) ∧ w.heap.size ≤ L.s ∧ w.heap.size ≤ L.b ∧ w.heap.size ≤ L.c ∧ Ext w w'
set_option maxRecDepth 20000 in
set_option maxHeartbeats 2000000 in
theorem LNew_c (C : Cfg) (h : C.Ok) (lv : Int) (h0 : 0 ≤ lv) (h1 : lv ≤ C.bits) (w : World) :
    Calls Tryz.prog 36 #[.agg #[.int .i64 C.bits, .int .i64 C.rows, .int .i64 C.width, .int .i64 C.mode, .int .u64 C.seed], .int .i64 lv] w (LNewPost w C lv) := by
  cases hx : isX C lv with
  | true =>
    have HX := Lib.hid hx
    clear hx
    go_enter Tryz.func36, Tryz.ntmps36
    go_wp2_with fail
    refine (Exact_c C h lv h0 h1 _).mono ?_
    rintro e w1 ⟨rfl, hb⟩
    rw [HX.out]
    have hE : Ext w w1 := by (repeat' (first | exact Ext.refl _ | assumption | apply Ext.allocR | apply Ext.drewR | apply Ext.drewNR | (refine Ext.trans' ?_ (by assumption))))
    have hC := (CfgAt.box (w := w) C 24 rfl).ext hb
    have d0 := hC.c0
    have d1 := hC.c1
    have d2 := hC.c2
    have d3 := hC.c3
    have d4 := hC.c4
    have cl := hC.lt
    have hs := hE.size
    clear hb hC
    go_wp2_with fail
    refine (ENew_c C h lv h0 h1 (kN C lv) (kN_eq h h0) HX.out _).mono ?_
    rintro e w2 ⟨s, b, c, rfl, hA, hs1, hb1, hc1, hx2⟩
    go_wp2
    go_ret2
    refine ⟨⟨s, b, c⟩, by rw [lvV_x HX.out]; rfl, .inl ⟨HX.out, ?_⟩, Nat.le_trans hs hs1, Nat.le_trans hs hb1, Nat.le_trans hs hc1, hE.trans' hx2⟩
    unfold lvN; rw [HX.out]; exact hA
  | false =>
    have HX := Lib.hid hx
    clear hx
    go_enter Tryz.func36, Tryz.ntmps36
    go_wp2_with fail
    refine (Exact_c C h lv h0 h1 _).mono ?_
    rintro e w1 ⟨rfl, hb⟩
    rw [HX.out]
    have hE : Ext w w1 := by (repeat' (first | exact Ext.refl _ | assumption | apply Ext.allocR | apply Ext.drewR | apply Ext.drewNR | (refine Ext.trans' ?_ (by assumption))))
    have hC := (CfgAt.box (w := w) C 24 rfl).ext hb
    have d0 := hC.c0
    have d1 := hC.c1
    have d2 := hC.c2
    have d3 := hC.c3
    have d4 := hC.c4
    have cl := hC.lt
    have hs := hE.size
    clear hb hC
    go_wp2_with fail
    refine (SNew_c C h lv h0 h1 (rN C) (wN C) (rN_eq h) (wN_eq h) _).mono ?_
    rintro e w2 ⟨s, b, c, rfl, hA, hs1, hb1, hc1, hx2⟩
    go_wp2
    go_ret2
    refine ⟨⟨s, b, c⟩, by rw [lvV_s HX.out]; rfl, .inr ⟨HX.out, ?_⟩, Nat.le_trans hs hs1, Nat.le_trans hs hb1, Nat.le_trans hs hc1, hE.trans' hx2⟩
    unfold lvN; rw [HX.out]; exact hA
def LCopyPost (w : World) (C : Cfg) (lv : Int) (l : List Int) (e : Ending) (w' : World) : Prop :=
  ∃ L' : Lev, e = .returned (lvV C lv L') ∧ LvAt w' L' C lv l ∧ w.heap.size ≤ L'.s ∧ w.heap.size ≤ L'.b ∧ w.heap.size ≤ L'.c ∧ Ext w w'
set_option maxRecDepth 20000 in
set_option maxHeartbeats 2000000 in
theorem LCopy_c (C : Cfg) (lv : Int) (L : Lev) (l : List Int) (w : World) (h : LvAt w L C lv l) :
    Calls Tryz.prog 44 #[lvV C lv L] w (LCopyPost w C lv l) := by
  cases hx : isX C lv with
  | true =>
    have hA := h.x hx
    have HX := Lib.hid hx
    rw [lvV_x hx]
    clear hx
    go_enter Tryz.func44, Tryz.ntmps44
    go_wp2_with fail
    refine (ECopy_c L.s L.b L.c C lv _ l _ hA).mono ?_
    rintro e w1 ⟨s', b', c', rfl, hA', h1, h2, h3, hx1⟩
    go_wp2
    go_ret
    exact ⟨⟨s', b', c'⟩, by rw [lvV_x HX.out]; rfl, .inl ⟨HX.out, hA'⟩, h1, h2, h3, hx1⟩
  | false =>
    have hA := h.sk hx
    have HX := Lib.hid hx
    rw [lvV_s hx]
    clear hx
    go_enter Tryz.func44, Tryz.ntmps44
    go_wp2_with fail
    refine (SCopy_c L.s L.b L.c C lv _ _ l _ hA).mono ?_
    rintro e w1 ⟨s', b', c', rfl, hA', h1, h2, h3, hx1⟩
    go_wp2
    go_ret
    exact ⟨⟨s', b', c'⟩, by rw [lvV_s HX.out]; rfl, .inr ⟨HX.out, hA'⟩, h1, h2, h3, hx1⟩
set_option maxRecDepth 20000 in
theorem AsSketch_x (s : Nat) (w : World) :
    Calls Tryz.prog 94 #[.iface 176 (.pointer (some ⟨s, 0, none⟩))] w fun e w' => e = .returned (.tuple #[.pointer none, .bool false]) ∧ w = w' := by
  go_enter Tryz.func94, Tryz.ntmps94
  go_wp2
  go_ret2
  exact ⟨rfl, rfl⟩
set_option maxRecDepth 20000 in
theorem AsSketch_s (s : Nat) (w : World) :
    Calls Tryz.prog 94 #[.iface 170 (.pointer (some ⟨s, 0, none⟩))] w fun e w' => e = .returned (.tuple #[.pointer (some ⟨s, 0, none⟩), .bool true]) ∧ w = w' := by
  go_enter Tryz.func94, Tryz.ntmps94
  go_wp2
  go_ret2
  exact ⟨rfl, rfl⟩
set_option maxRecDepth 20000 in
theorem MustSketch_s (s : Nat) (w : World) :
    Calls Tryz.prog 95 #[.iface 170 (.pointer (some ⟨s, 0, none⟩))] w fun e w' => e = .returned (.pointer (some ⟨s, 0, none⟩)) ∧ w = w' := by
  go_enter Tryz.func95, Tryz.ntmps95
  go_wp2
  go_ret
  exact ⟨rfl, rfl⟩
end Go.Proofs.YtfhdjekpdifajaaGreat
namespace Go.Proofs.YtfhdjekpdifajaaGreat
set_option linter.unusedVariables false
open Go.RowKit
section
variable {P : Program}
theorem ints_app (a b : List Int) : ints (a ++ b) = ints a ++ ints b := by simp [ints]
theorem wpList_appl (W : World) {ops : Array Oper} {rest : List Oper} {o : Oper} {a : Act} {Q : Exit → Act → World → Prop} (l xs : List Int) (v : Value) (base : Nat) (e : TypeId) (hown : W.ownsRow base e 1 v xs.length (ints xs)) (t : TypeId)
    (hgd : o.guard = none) (s y : Operand) (ho : o.op = .call { callee := .builtin .append, args := #[s, y], argTypes := #[t, t] })
    (hinfo : (P.info? e).map (fun i => (i.zero, i.size, i.bytes)) = some (some (.int .i64 0), 1, 8)) (ht : P.underlying t = some (.slice e))
    (hs : a.eval s = v) (g off m c : Nat) (hx : a.eval y = .slice (some ⟨g, off, none⟩) m c) (hm : m = l.length) (hc : ∀ k, k < m → W.cell? ⟨g, off + k, none⟩ = some (.int .i64 (l.getD k 0)))
    (hl : xs.length + m ≤ 1000000000000) (hbase : base ≤ W.heap.size)
    (h : ∀ v' w', w'.ownsRow base e 1 v' (xs ++ l).length (ints (xs ++ l)) → W.grownBy w' v.ownBlock → (v'.ownBlock = v.ownBlock ∨ v'.ownBlock = some W.heap.size) → wpList P ops Q rest (a.put o.dst v') w') :
    wpList P ops Q (o :: rest) a W := by
  obtain ⟨i0, hi, hz0, hz1, hz2⟩ := info_parts hinfo
  subst hm
  refine wpList_append_sep _ hgd s y t ho base e i0 (.int .i64 0) 1 8 ht hi hz0 hz1 hz2 rfl (by decide) v xs.length (ints xs) hs hown ⟨g, off, none⟩ l.length c (ints l) hx (by rw [ints_len]; omega) ?_ ?_ (by unfold maxLen; omega) (by omega) hbase ?_
  · intro j u hu
    have hj : j < l.length := by
      have := (List.getElem?_eq_some_iff.1 hu).1
      rwa [ints_len] at this
    rw [show (⟨g, off, none⟩ : Addr).add j = ⟨g, off + j, none⟩ by simp [Addr.add], hc j hj, ← hu]
    simp [ints, hj]
  · intro u hu
    simp only [ints, List.mem_map] at hu
    obtain ⟨x, _, rfl⟩ := hu
    rfl
  · intro v' w' h1 h2 h3
    refine h v' w' ?_ h2 h3
    rw [List.length_append, ints_app]
    exact h1
end
theorem own_blk {w : World} {base n size : Nat} {e : TypeId} {v : Value} {xs : List Value} (h : w.ownsRow base e size v n xs) {k : Nat} (hk : v.ownBlock = some k) : base ≤ k := by
  rcases h.2 with ⟨rfl, _⟩ | ⟨g, cap, cur, rfl, hg, _⟩
  · cases hk
  · cases hk; exact hg
theorem ext_grown0 {w wr w1 : World} {row : Option Nat} (he : Ext w wr) (h : wr.grownBy w1 row) (hr : ∀ k, row = some k → w.heap.size ≤ k) : Ext w w1 := he.grown h he.size hr
end Go.Proofs.YtfhdjekpdifajaaGreat
namespace Go.Proofs.YtfhdjekpdifajaaGreat
set_option linter.unusedVariables false
open Go.RowKit
def allI (l : List Int) : Prop := ∀ x ∈ l, I64 x
def JoinPost (w : World) (b c R W : Nat) (m : List Int) (e : Ending) (w' : World) : Prop :=
  (allI m ∧ e = .returned (.int .i64 0) ∧ GAt w' b c R W m ∧ Mod (fun k => k = c) w w') ∨ (¬ allI m ∧ e = .returned (.int .i64 4) ∧ Ext w w')
def plusL (l m : List Int) : List Int := (List.range l.length).map fun k => l.getD k 0 + m.getD k 0
def minusL (l m : List Int) : List Int := (List.range l.length).map fun k => l.getD k 0 - m.getD k 0
theorem plusL_len (l m : List Int) : (plusL l m).length = l.length := by simp [plusL]
theorem minusL_len (l m : List Int) : (minusL l m).length = l.length := by simp [minusL]
theorem map_all {f : Nat → Int} {n : Nat} (h : ∀ j, j < n → I64 (f j)) : allI ((List.range n).map f) := by
  intro x hx
  simp only [List.mem_map, List.mem_range] at hx
  obtain ⟨j, hj, rfl⟩ := hx
  exact h j hj
theorem map_not {f : Nat → Int} {n j : Nat} (hj : j < n) (h : ¬ I64 (f j)) : ¬ allI ((List.range n).map f) := by
  intro ha
  exact h (ha _ (by simp only [List.mem_map, List.mem_range]; exact ⟨j, hj, rfl⟩))
theorem ints_one {l : List Int} : ∀ v ∈ ints l, v.oneCell' = true := by
  intro v hv
  simp only [ints, List.mem_map] at hv
  obtain ⟨x, _, rfl⟩ := hv
  rfl
theorem CAt.copied {w : World} {c cap : Nat} {l m : List Int} {cur : Array Value} (hg : w.heap[c]? = some (.cells cur 2 (0, 0))) (hs : cur.size = cap) (hle : l.length ≤ cap) (hmx : cap ≤ maxLen) (hm : m.length = l.length) :
    CAt (w.setRow c (cur.toList.take 0 ++ (Go.Proofs.YtfhdjekpdifajaaGreat.ints m ++ cur.toList.drop (0 + (Go.Proofs.YtfhdjekpdifajaaGreat.ints m).length))).toArray) c cap m := by
  refine ⟨⟨_, setRow_heap w c _ _ _ _ hg, ?_, ?_⟩, by omega, hmx⟩
  · simp [Go.Proofs.YtfhdjekpdifajaaGreat.ints]; omega
  · simp [Go.Proofs.YtfhdjekpdifajaaGreat.ints]
theorem CAt.copied' {w : World} {c cap : Nat} {l m : List Int} {cur : Array Value} (hg : w.heap[c]? = some (.cells cur 2 (0, 0))) (hs : cur.size = cap) (hle : l.length ≤ cap) (hmx : cap ≤ maxLen) (hm : m.length = l.length) :
    CAt (w.setRow c (Go.Proofs.YtfhdjekpdifajaaGreat.ints m ++ cur.toList.drop (Go.Proofs.YtfhdjekpdifajaaGreat.ints m).length).toArray) c cap m := by
  have := CAt.copied (w := w) (l := l) (m := m) hg hs hle hmx hm
  simpa using this
theorem mod_row {w w' : World} {c : Nat} (h : Mod (fun k => k = c) w w') (cs : Array Value) : Mod (fun k => k = c) w (w'.setRow c cs) :=
  ⟨h.os, h.tape, h.output, by rw [size_setRow]; exact h.size, fun k hk hn => (setRow_other _ _ _ _ hn).trans (h.block k hk hn)⟩
theorem addr_plain (b off i : Nat) : (Addr.add ⟨b, off, none⟩ i) = ⟨b, off + i, none⟩ := by
  unfold Addr.add
  by_cases h : i = 0
  · subst h; simp
  · simp [h]
theorem GAt.row {w wr : World} {b c R W : Nat} {l m : List Int} (h : GAt w b c R W l) (hE : Ext w wr) {cur : Array Value} {cap : Nat} (hb : w.heap[b]? = some (.cells #[.int .i64 R, .int .i64 W, .slice (some ⟨c, 0, none⟩) l.length cap] 283 (0, 0))) (hc : CAt w c cap l)
    (hg : wr.heap[c]? = some (.cells cur 2 (0, 0))) (hs : cur.size = cap) (hm : m.length = l.length) :
    GAt (wr.setRow c (ints m ++ cur.toList.drop (ints m).length).toArray) b c R W m :=
  ⟨⟨cap, by rw [setRow_other _ _ _ _ h.ne, hE.block b h.ltb, hm]; exact hb, CAt.copied' hg hs hc.le hc.mx hm⟩, h.r1, h.r2, h.w1, h.w2, by rw [hm]; exact h.len⟩
theorem Plus_fit (a b : Int) (ha : I64 a) (hb : I64 b) (h : I64 (a + b)) (w : World) :
    Calls Tryz.prog 198 #[.int .i64 a, .int .i64 b] w fun e w' => e = .returned (.tuple #[.int .i64 (a + b), .bool true]) ∧ Ext w w' :=
  (Plus_c a b ha hb w).mono fun _ _ ⟨he, hx⟩ => ⟨by rw [he, fitN, fitB_yes h]; rfl, hx⟩
theorem Plus_no (a b : Int) (ha : I64 a) (hb : I64 b) (h : ¬ I64 (a + b)) (w : World) :
    Calls Tryz.prog 198 #[.int .i64 a, .int .i64 b] w fun e w' => e = .returned (.tuple #[.int .i64 0, .bool false]) ∧ Ext w w' :=
  (Plus_c a b ha hb w).mono fun _ _ ⟨he, hx⟩ => ⟨by rw [he, fitN, fitB_no h]; rfl, hx⟩
set_option maxRecDepth 20000 in
set_option maxHeartbeats 2000000 in
theorem allPlus_c (b c b2 c2 R W : Nat) (l l2 : List Int) (w : World) (h : GAt w b c R W l) (h2 : GAt w b2 c2 R W l2) (hI : allI l) (hI2 : allI l2) :
    Calls Tryz.prog 199 #[.agg #[.pointer (some ⟨b, 0, none⟩), .func (.func 198) #[] #[]], .pointer (some ⟨b2, 0, none⟩)] w (JoinPost w b c R W (plusL l l2)) := by
  obtain ⟨cap, hb, hc⟩ := h.ex
  obtain ⟨cap2, hb2, hc2⟩ := h2.ex
  have hl := h.len
  have hl2 := h2.len
  have hN1 : R * W ≤ 1024 := Nat.le_trans (Nat.mul_le_mul h.r2 h.w2) (by decide)
  have hN2 : 1 ≤ R * W := Nat.mul_pos h.r1 h.w1
  have hLL : plusL l l2 = (List.range l.length).map fun k => l.getD k 0 + l2.getD k 0 := rfl
  rw [hLL]
  have HB := Lib.hid hb
  rw [hl] at hb ⊢
  rw [hl2] at hb2
  generalize hNN : R * W = N at *
  obtain ⟨f, hf⟩ : ∃ f : Nat → Int, f = fun k => l.getD k 0 + l2.getD k 0 := ⟨_, rfl⟩
  rw [← hf]
  have HF := Lib.hid hf
  have HL := Lib.hid hl
  have HL2 := Lib.hid hl2
  have HNN := Lib.hid hNN
  have e0 := (cell_of hb 0).trans rfl
  have e1 := (cell_of hb 1).trans rfl
  have e2 := (cell_of hb 2).trans rfl
  have k0 := (cell_of hb2 0).trans rfl
  have k1 := (cell_of hb2 1).trans rfl
  have k2 := (cell_of hb2 2).trans rfl
  have ltb := h.ltb
  have ltc := h.ltc
  have ltb2 := h2.ltb
  have ltc2 := h2.ltc
  obtain ⟨ii, hi, hz0, hz1, hz2⟩ := info_parts info_i64
  have hmk := fun (x : World) => run_make_ints 43 2 ii Tryz.underlying43 hi hz0 hz1 hz2 N (by omega) f x
  have HH := Lib.hid h
  have HH2 := Lib.hid h2
  have HC := Lib.hid hc
  have HC2 := Lib.hid hc2
  clear hf hl hl2 hNN hb hb2 h h2 hc hc2 hLL hi hz0 hz1 hz2
  go_enter Tryz.func199, Tryz.ntmps199
  go_wp2_with fail
  refine wp_region_after (by kernel_rfl) (by kernel_rfl) ?_
  repeat (go_big_quiet_step (fail))
  refine wpQuiet_nil ?_
  rintro _ ⟨xx, rfl⟩
  obtain ⟨w1, hb1⟩ := xx
  try dsimp only
  have hj0 : w1.cell? ⟨w.heap.size, 0, none⟩ = some (.pointer (some ⟨b, 0, none⟩)) := by rw [(bcell hb1).1 _ _ (by rw [size_alloc]; omega)]; simp [go_sem]
  have hj1 : w1.cell? ⟨w.heap.size, 1, none⟩ = some (.func (.func 198) #[] #[]) := by rw [(bcell hb1).1 _ _ (by rw [size_alloc]; omega)]; simp [go_sem]
  have hbs := hb1.size
  rw [size_alloc] at hbs
  have hE : Ext w w1 := by (repeat' (first | exact Ext.refl _ | assumption | apply Ext.allocR | apply Ext.drewR | apply Ext.drewNR | (refine Ext.trans' ?_ (by assumption))))
  clear hb1
  have e2' := ((bcell hE).1 _ _ ltb).trans e2
  have k2' := ((bcell hE).1 _ _ ltb2).trans k2
  have lb1 : b < w1.heap.size := Nat.lt_of_lt_of_le ltb hE.size
  have lb2 : b2 < w1.heap.size := Nat.lt_of_lt_of_le ltb2 hE.size
  clear e0 e1 k0 k1 e2 k2
  go_wp2_with fail
  clear hmk
  go_loopw [48] (fun u48 wr => ∃ k : Nat, k ≤ N ∧ u48 = .int .i64 k ∧ (∀ j, j < k → I64 (f j)) ∧ Ext w1 wr ∧ w1.heap.size < wr.heap.size ∧ wr.heap[w1.heap.size]? = some (.cells (fillA f k N) 2 (0, 0))) (fun u48 _ => N - (intOf u48).toNat)
  case atStart => exact ⟨0, Nat.zero_le _, rfl, fun j hj => absurd hj (Nat.not_lt_zero j), Ext.alloc' _ _, by rw [size_alloc]; omega, heap_at _ _ rfl⟩
  case round =>
    obtain ⟨k, hk, rfl, hfit, hx, hsz, hg2⟩ := hrel
    have HFIT := Lib.hid hfit
    clear hfit
    have hEw : Ext w wr := hE.trans' hx
    have j0 := ((bcell hx).1 _ 0 (show w.heap.size < w1.heap.size by omega)).trans hj0
    have j1 := ((bcell hx).1 _ 1 (show w.heap.size < w1.heap.size by omega)).trans hj1
    have g2 := ((bcell hx).1 _ 2 (show b < w1.heap.size by omega)).trans e2'
    have m2 := ((bcell hx).1 _ 2 (show b2 < w1.heap.size by omega)).trans k2'
    have s0 : w.heap.size < wr.heap.size := by omega
    have s1 : b < wr.heap.size := by omega
    have s2 : b2 < wr.heap.size := by omega
    have s3 : c < wr.heap.size := by omega
    have s4 : c2 < wr.heap.size := by omega
    by_cases hlt : k < N
    · have x0 := ((bcell hEw).1 _ k ltc).trans (HC.out.cell (i := k) (by rw [HL.out]; exact hlt))
      have x1 := ((bcell hEw).1 _ k ltc2).trans (HC2.out.cell (i := k) (by rw [HL2.out]; exact hlt))
      have hfk : f k = l.getD k 0 + l2.getD k 0 := by rw [HF.out]
      have i0 := getD_i64 hI k
      have i1 := getD_i64 hI2 k
      generalize l.getD k 0 = a at *
      generalize l2.getD k 0 = a2 at *
      obtain ⟨v0, d0⟩ : ∃ v0, wr.cell? ⟨w1.heap.size, k, none⟩ = some v0 := ⟨_, (cell_of hg2 k).trans (fillA_at _ _ _ _ hlt)⟩
      have d1 := frozen_of hg2 k
      have HG := Lib.hid hg2
      clear hg2
      by_cases hf : I64 (a + a2)
      · have HFK := Lib.hid hfk
        have HFI := Lib.hid hf
        clear hfk hf
        go_wp2_with fail
        refine wp_region_after (by kernel_rfl) (by kernel_rfl) ?_
        repeat (go_big_quiet_step ((go_at_call 198; exact quiet_after (Plus_fit a a2 i0 i1 HFI.out _))))
        refine wpQuiet_nil ?_
        rintro _ ⟨xx, rfl⟩
        obtain ⟨w5, hb5⟩ := xx
        try dsimp only
        have d0' := ((bcell hb5).1 _ _ hsz).trans d0
        have d1' := ((bcell hb5).2 _ _ hsz).trans d1
        have hg5 := (hb5.block _ hsz).trans HG.out
        have HG5 := Lib.hid hg5
        have hx5 := hx.trans' hb5
        have hs5 := hb5.size
        clear hg5 d0 d1
        go_wp2_with fail
        go_roundw
        case rel =>
          refine ⟨k + 1, by omega, by go_num, fun j hj => ?_, hx5.setR (Nat.le_refl _) _, by rw [size_setCell]; omega, ?_⟩
          · by_cases hjk : j < k
            · exact HFIT.out j hjk
            · obtain rfl : j = k := by omega
              rw [HFK.out]; exact HFI.out
          · rw [setCell_same HG5.out, ← fillA_set, HFK.out]
        case measure => simp [intOf]; omega
      · have HFK := Lib.hid hfk
        have HFI := Lib.hid hf
        clear hfk hf
        go_wp2_with fail
        refine wp_region_after (by kernel_rfl) (by kernel_rfl) ?_
        repeat (go_big_quiet_step ((go_at_call 198; exact quiet_after (Plus_no a a2 i0 i1 HFI.out _))))
        refine wpQuiet_nil ?_
        rintro _ ⟨xx, rfl⟩
        obtain ⟨w5, hb5⟩ := xx
        try dsimp only
        go_wp2_with fail
        go_ret
        refine .inr ⟨?_, rfl, hEw.trans' hb5⟩
        exact map_not hlt (by rw [HFK.out]; exact HFI.out)
    · have HG := Lib.hid hg2
      clear hg2
      obtain rfl : k = N := by omega
      obtain ⟨cur, hcur, hcs, hct⟩ := (HC.out.keep (hEw.block c ltc)).ex
      have HCUR := Lib.hid hcur
      have HCS := Lib.hid hcs
      clear hcur hcs hct
      go_wp2_with (with_reducible refine wpList_copy_own rfl _ _ 43 43 rfl 2 Tryz.underlying43 (by kernel_rfl) c 0 _ _ ⟨w1.heap.size, 0, none⟩ _ _ rfl rfl cur 2 HCUR.out (ints ((List.range k).map f)) ?a1 ?a2 ?a3 ints_one ?_)
      case a1 => simp [ints]
      case a2 =>
        intro j v hj
        rw [addr_plain, Nat.zero_add, cell_of HG.out j, ← Array.getElem?_toList, fillA_done]
        exact hj
      case a3 =>
        have := HCS.out
        have := HC.out.le
        rw [HL.out] at this
        simp only [ints, List.length_map, List.length_range]
        omega
      go_ret
      refine .inl ⟨map_all HFIT.out, rfl, ?_, ?_⟩
      · exact HH.out.row hEw HB.out HC.out HCUR.out HCS.out (by rw [HL.out]; simp)
      · exact mod_row (hEw.mod _) _
theorem Minus_fit (a b : Int) (ha : I64 a) (hb : I64 b) (h : I64 (a - b)) (w : World) :
    Calls Tryz.prog 148 #[.int .i64 a, .int .i64 b] w fun e w' => e = .returned (.tuple #[.int .i64 (a - b), .bool true]) ∧ Ext w w' :=
  (Minus_c a b ha hb w).mono fun _ _ ⟨he, hx⟩ => ⟨by rw [he, fitN, fitB_yes h]; rfl, hx⟩
theorem Minus_no (a b : Int) (ha : I64 a) (hb : I64 b) (h : ¬ I64 (a - b)) (w : World) :
    Calls Tryz.prog 148 #[.int .i64 a, .int .i64 b] w fun e w' => e = .returned (.tuple #[.int .i64 0, .bool false]) ∧ Ext w w' :=
  (Minus_c a b ha hb w).mono fun _ _ ⟨he, hx⟩ => ⟨by rw [he, fitN, fitB_no h]; rfl, hx⟩
set_option maxRecDepth 20000 in
set_option maxHeartbeats 2000000 in
theorem allMinus_c (b c b2 c2 R W : Nat) (l l2 : List Int) (w : World) (h : GAt w b c R W l) (h2 : GAt w b2 c2 R W l2) (hI : allI l) (hI2 : allI l2) :
    Calls Tryz.prog 199 #[.agg #[.pointer (some ⟨b, 0, none⟩), .func (.func 148) #[] #[]], .pointer (some ⟨b2, 0, none⟩)] w (JoinPost w b c R W (minusL l l2)) := by
  obtain ⟨cap, hb, hc⟩ := h.ex
  obtain ⟨cap2, hb2, hc2⟩ := h2.ex
  have hl := h.len
  have hl2 := h2.len
  have hN1 : R * W ≤ 1024 := Nat.le_trans (Nat.mul_le_mul h.r2 h.w2) (by decide)
  have hN2 : 1 ≤ R * W := Nat.mul_pos h.r1 h.w1
  have hLL : minusL l l2 = (List.range l.length).map fun k => l.getD k 0 - l2.getD k 0 := rfl
  rw [hLL]
  have HB := Lib.hid hb
  rw [hl] at hb ⊢
  rw [hl2] at hb2
  generalize hNN : R * W = N at *
  obtain ⟨f, hf⟩ : ∃ f : Nat → Int, f = fun k => l.getD k 0 - l2.getD k 0 := ⟨_, rfl⟩
  rw [← hf]
  have HF := Lib.hid hf
  have HL := Lib.hid hl
  have HL2 := Lib.hid hl2
  have HNN := Lib.hid hNN
  have e0 := (cell_of hb 0).trans rfl
  have e1 := (cell_of hb 1).trans rfl
  have e2 := (cell_of hb 2).trans rfl
  have k0 := (cell_of hb2 0).trans rfl
  have k1 := (cell_of hb2 1).trans rfl
  have k2 := (cell_of hb2 2).trans rfl
  have ltb := h.ltb
  have ltc := h.ltc
  have ltb2 := h2.ltb
  have ltc2 := h2.ltc
  obtain ⟨ii, hi, hz0, hz1, hz2⟩ := info_parts info_i64
  have hmk := fun (x : World) => run_make_ints 43 2 ii Tryz.underlying43 hi hz0 hz1 hz2 N (by omega) f x
  have HH := Lib.hid h
  have HH2 := Lib.hid h2
  have HC := Lib.hid hc
  have HC2 := Lib.hid hc2
  clear hf hl hl2 hNN hb hb2 h h2 hc hc2 hLL hi hz0 hz1 hz2
  go_enter Tryz.func199, Tryz.ntmps199
  go_wp2_with fail
  refine wp_region_after (by kernel_rfl) (by kernel_rfl) ?_
  repeat (go_big_quiet_step (fail))
  refine wpQuiet_nil ?_
  rintro _ ⟨xx, rfl⟩
  obtain ⟨w1, hb1⟩ := xx
  try dsimp only
  have hj0 : w1.cell? ⟨w.heap.size, 0, none⟩ = some (.pointer (some ⟨b, 0, none⟩)) := by rw [(bcell hb1).1 _ _ (by rw [size_alloc]; omega)]; simp [go_sem]
  have hj1 : w1.cell? ⟨w.heap.size, 1, none⟩ = some (.func (.func 148) #[] #[]) := by rw [(bcell hb1).1 _ _ (by rw [size_alloc]; omega)]; simp [go_sem]
  have hbs := hb1.size
  rw [size_alloc] at hbs
  have hE : Ext w w1 := by (repeat' (first | exact Ext.refl _ | assumption | apply Ext.allocR | apply Ext.drewR | apply Ext.drewNR | (refine Ext.trans' ?_ (by assumption))))
  clear hb1
  have e2' := ((bcell hE).1 _ _ ltb).trans e2
  have k2' := ((bcell hE).1 _ _ ltb2).trans k2
  have lb1 : b < w1.heap.size := Nat.lt_of_lt_of_le ltb hE.size
  have lb2 : b2 < w1.heap.size := Nat.lt_of_lt_of_le ltb2 hE.size
  clear e0 e1 k0 k1 e2 k2
  go_wp2_with fail
  clear hmk
  go_loopw [48] (fun u48 wr => ∃ k : Nat, k ≤ N ∧ u48 = .int .i64 k ∧ (∀ j, j < k → I64 (f j)) ∧ Ext w1 wr ∧ w1.heap.size < wr.heap.size ∧ wr.heap[w1.heap.size]? = some (.cells (fillA f k N) 2 (0, 0))) (fun u48 _ => N - (intOf u48).toNat)
  case atStart => exact ⟨0, Nat.zero_le _, rfl, fun j hj => absurd hj (Nat.not_lt_zero j), Ext.alloc' _ _, by rw [size_alloc]; omega, heap_at _ _ rfl⟩
  case round =>
    obtain ⟨k, hk, rfl, hfit, hx, hsz, hg2⟩ := hrel
    have HFIT := Lib.hid hfit
    clear hfit
    have hEw : Ext w wr := hE.trans' hx
    have j0 := ((bcell hx).1 _ 0 (show w.heap.size < w1.heap.size by omega)).trans hj0
    have j1 := ((bcell hx).1 _ 1 (show w.heap.size < w1.heap.size by omega)).trans hj1
    have g2 := ((bcell hx).1 _ 2 (show b < w1.heap.size by omega)).trans e2'
    have m2 := ((bcell hx).1 _ 2 (show b2 < w1.heap.size by omega)).trans k2'
    have s0 : w.heap.size < wr.heap.size := by omega
    have s1 : b < wr.heap.size := by omega
    have s2 : b2 < wr.heap.size := by omega
    have s3 : c < wr.heap.size := by omega
    have s4 : c2 < wr.heap.size := by omega
    by_cases hlt : k < N
    · have x0 := ((bcell hEw).1 _ k ltc).trans (HC.out.cell (i := k) (by rw [HL.out]; exact hlt))
      have x1 := ((bcell hEw).1 _ k ltc2).trans (HC2.out.cell (i := k) (by rw [HL2.out]; exact hlt))
      have hfk : f k = l.getD k 0 - l2.getD k 0 := by rw [HF.out]
      have i0 := getD_i64 hI k
      have i1 := getD_i64 hI2 k
      generalize l.getD k 0 = a at *
      generalize l2.getD k 0 = a2 at *
      obtain ⟨v0, d0⟩ : ∃ v0, wr.cell? ⟨w1.heap.size, k, none⟩ = some v0 := ⟨_, (cell_of hg2 k).trans (fillA_at _ _ _ _ hlt)⟩
      have d1 := frozen_of hg2 k
      have HG := Lib.hid hg2
      clear hg2
      by_cases hf : I64 (a - a2)
      · have HFK := Lib.hid hfk
        have HFI := Lib.hid hf
        clear hfk hf
        go_wp2_with fail
        refine wp_region_after (by kernel_rfl) (by kernel_rfl) ?_
        repeat (go_big_quiet_step ((go_at_call 148; exact quiet_after (Minus_fit a a2 i0 i1 HFI.out _))))
        refine wpQuiet_nil ?_
        rintro _ ⟨xx, rfl⟩
        obtain ⟨w5, hb5⟩ := xx
        try dsimp only
        have d0' := ((bcell hb5).1 _ _ hsz).trans d0
        have d1' := ((bcell hb5).2 _ _ hsz).trans d1
        have hg5 := (hb5.block _ hsz).trans HG.out
        have HG5 := Lib.hid hg5
        have hx5 := hx.trans' hb5
        have hs5 := hb5.size
        clear hg5 d0 d1
        go_wp2_with fail
        go_roundw
        case rel =>
          refine ⟨k + 1, by omega, by go_num, fun j hj => ?_, hx5.setR (Nat.le_refl _) _, by rw [size_setCell]; omega, ?_⟩
          · by_cases hjk : j < k
            · exact HFIT.out j hjk
            · obtain rfl : j = k := by omega
              rw [HFK.out]; exact HFI.out
          · rw [setCell_same HG5.out, ← fillA_set, HFK.out]
        case measure => simp [intOf]; omega
      · have HFK := Lib.hid hfk
        have HFI := Lib.hid hf
        clear hfk hf
        go_wp2_with fail
        refine wp_region_after (by kernel_rfl) (by kernel_rfl) ?_
        repeat (go_big_quiet_step ((go_at_call 148; exact quiet_after (Minus_no a a2 i0 i1 HFI.out _))))
        refine wpQuiet_nil ?_
        rintro _ ⟨xx, rfl⟩
        obtain ⟨w5, hb5⟩ := xx
        try dsimp only
        go_wp2_with fail
        go_ret
        refine .inr ⟨?_, rfl, hEw.trans' hb5⟩
        exact map_not hlt (by rw [HFK.out]; exact HFI.out)
    · have HG := Lib.hid hg2
      clear hg2
      obtain rfl : k = N := by omega
      obtain ⟨cur, hcur, hcs, hct⟩ := (HC.out.keep (hEw.block c ltc)).ex
      have HCUR := Lib.hid hcur
      have HCS := Lib.hid hcs
      clear hcur hcs hct
      go_wp2_with (with_reducible refine wpList_copy_own rfl _ _ 43 43 rfl 2 Tryz.underlying43 (by kernel_rfl) c 0 _ _ ⟨w1.heap.size, 0, none⟩ _ _ rfl rfl cur 2 HCUR.out (ints ((List.range k).map f)) ?a1 ?a2 ?a3 ints_one ?_)
      case a1 => simp [ints]
      case a2 =>
        intro j v hj
        rw [addr_plain, Nat.zero_add, cell_of HG.out j, ← Array.getElem?_toList, fillA_done]
        exact hj
      case a3 =>
        have := HCS.out
        have := HC.out.le
        rw [HL.out] at this
        simp only [ints, List.length_map, List.length_range]
        omega
      go_ret
      refine .inl ⟨map_all HFIT.out, rfl, ?_, ?_⟩
      · exact HH.out.row hEw HB.out HC.out HCUR.out HCS.out (by rw [HL.out]; simp)
      · exact mod_row (hEw.mod _) _
end Go.Proofs.YtfhdjekpdifajaaGreat
namespace Go.Proofs.YtfhdjekpdifajaaGreat
set_option linter.unusedVariables false
theorem sumIf_append (p : Int → Bool) (a b : List (Int × Int)) : sumIf p (a ++ b) = sumIf p a + sumIf p b := by
  unfold sumIf; rw [List.map_append, lsum_append]
theorem cutP_append (C : Cfg) (lv : Int) (a b : List (Int × Int)) : cutP C lv (a ++ b) = cutP C lv a ++ cutP C lv b := by simp [cutP]
theorem list_ext_getD {a b : List Int} (hl : a.length = b.length) (h : ∀ i, i < a.length → a.getD i 0 = b.getD i 0) : a = b := by
  apply List.ext_getElem hl
  intro i h1 h2
  have := h i h1
  simpa [h1, h2] using this
theorem plusL_get {l m : List Int} {i : Nat} (h : i < l.length) : (plusL l m).getD i 0 = l.getD i 0 + m.getD i 0 := by simp [plusL, h]
theorem minusL_get {l m : List Int} {i : Nat} (h : i < l.length) : (minusL l m).getD i 0 = l.getD i 0 - m.getD i 0 := by simp [minusL, h]
theorem feed_plus (C : Cfg) (hok : C.Ok) (lv : Int) (R W : Nat) (hr : C.rows = R) (hw : C.width = W) (hm : C.mode ≠ 2) (us vs : List (Int × Int)) :
    plusL (feed C lv R W us (zs (R * W))) (feed C lv R W vs (zs (R * W))) = feed C lv R W (us ++ vs) (zs (R * W)) := by
  have hW : 0 < W := by have := hok.w1; omega
  apply list_ext_getD
  · rw [plusL_len, feed_len, feed_len]
  · intro i hi
    rw [plusL_len] at hi
    rw [plusL_get hi]
    rw [feed_len, zs_len] at hi
    have h1 : i / W < R := Nat.div_lt_of_lt_mul (by rw [Nat.mul_comm]; exact hi)
    have h2 : i % W < W := Nat.mod_lt _ hW
    have e : i = i / W * W + i % W := by have := Nat.div_add_mod i W; rw [Nat.mul_comm] at this; exact this.symm
    rw [e, feed_cell C hok lv R W hr hw hm us h1 h2, feed_cell C hok lv R W hr hw hm vs h1 h2, feed_cell C hok lv R W hr hw hm (us ++ vs) h1 h2, cutP_append, sumIf_append]
theorem minus_plus {a b : List Int} (h : a.length = b.length) : minusL (plusL a b) b = a := by
  apply list_ext_getD
  · rw [minusL_len, plusL_len]
  · intro i hi
    rw [minusL_len] at hi
    rw [minusL_get hi]
    rw [plusL_len] at hi
    rw [plusL_get hi]
    omega
theorem zs_fit (n : Nat) : allI (zs n) := by
  intro x hx
  simp only [zs, List.mem_replicate] at hx
  rw [hx.2]; unfold I64; omega
theorem IntsAt.mod {S : Nat → Prop} {w w' : World} {v : Value} {xs : List Int} (h : IntsAt w v xs) (hm : Mod S w w') (hne : ∀ g off n cap, v = .slice (some ⟨g, off, none⟩) n cap → ¬ S g) : IntsAt w' v xs := by
  rcases h with h | ⟨g, off, cap, h1, h2, h3⟩
  · exact .inl h
  · exact .inr ⟨g, off, cap, h1, Nat.lt_of_lt_of_le h2 hm.size, fun k hk => (mcell hm h2 (hne _ _ _ _ h1) _).trans (h3 k hk)⟩
theorem SAt.mod {S : Nat → Prop} {w w' : World} {s b c : Nat} {C : Cfg} {lv : Int} {R W : Nat} {l : List Int} (h : SAt w s b c C lv R W l) (hm : Mod S w w') (h1 : ¬ S s) (h2 : ¬ S b) (h3 : ¬ S c) : SAt w' s b c C lv R W l :=
  h.keep (hm.block s h.lts h1) (hm.block b h.g.ltb h2) (hm.block c h.g.ltc h3)
end Go.Proofs.YtfhdjekpdifajaaGreat
namespace Go.Proofs.YtfhdjekpdifajaaGreat
set_option linter.unusedVariables false
open Go.RowKit
theorem own_setc {w : World} {base n size : Nat} {e : TypeId} {v : Value} {xs : List Value} (h : w.ownsRow base e size v n xs) {b : Nat} (hb : b < base) (o : Nat) (u : Value) : (w.setCell ⟨b, o, none⟩ u).ownsRow base e size v n xs := by
  refine ⟨h.1, ?_⟩
  rcases h.2 with h' | ⟨g, cap, cur, hv, hg, hh, hr⟩
  · exact .inl h'
  · exact .inr ⟨g, cap, cur, hv, hg, (setCell_other _ _ (by omega)).trans hh, hr⟩
theorem own_sl {w : World} {base n size : Nat} {e : TypeId} {v : Value} {xs : List Value} (h : w.ownsRow base e size v n xs) : ∃ p c, v = .slice p n c := by
  rcases h.2 with ⟨rfl, rfl⟩ | ⟨g, cap, cur, rfl, _⟩
  · exact ⟨none, 0, rfl⟩
  · exact ⟨_, _, rfl⟩
theorem own_ext {w w' : World} {base n size : Nat} {e : TypeId} {v : Value} {xs : List Value} (h : w.ownsRow base e size v n xs) (hE : Ext w w') : w'.ownsRow base e size v n xs := by
  refine ⟨h.1, ?_⟩
  rcases h.2 with h' | ⟨g, cap, cur, hv, hg, hh, hr⟩
  · exact .inl h'
  · exact .inr ⟨g, cap, cur, hv, hg, hE.keep hh, hr⟩
/-- A world in which what W has is as it was, but for the blocks in S. -/
structure AftS (S : Nat → Prop) (W : World) where
  w : World
  h : Mod S W w
instance (S : Nat → Prop) (W : World) : Nonempty (AftS S W) := ⟨⟨W, Mod.refl _ W⟩⟩
@[go_sem] theorem AftS.cell {S : Nat → Prop} {W : World} (x : AftS S W) {b o : Nat} (h : b < W.heap.size) (hn : ¬ S b) : x.w.cell? ⟨b, o, none⟩ = W.cell? ⟨b, o, none⟩ := mcell x.h h hn o
theorem afs_drew (S : Nat → Prop) (W : World) : ∃ x : AftS S W, W.drew = x.w := ⟨⟨_, Ext.mod _ (Below.drew (Ext.refl W))⟩, rfl⟩
theorem afs_step {S : Nat → Prop} {W w w' : World} (h : ∃ x : AftS S W, w = x.w) (he : Ext w w') : ∃ x : AftS S W, w' = x.w := by
  obtain ⟨x, rfl⟩ := h
  exact ⟨⟨w', x.h.trans (he.mod _)⟩, rfl⟩
theorem mod_grown {S : Nat → Prop} {W w w' : World} {o : Obj} {row : Option Nat} (h : Mod S W w) (hg : (w.alloc o).grownBy w' row) (hr : ∀ i, row = some i → S i) : Mod S W w' := by
  refine ⟨hg.os.trans h.os, hg.tape.trans h.tape, hg.output.trans h.output, Nat.le_trans h.size (Nat.le_trans (by rw [size_alloc]; exact Nat.le_succ _) hg.size), fun k hk hn => ?_⟩
  exact (grown_old hg (Nat.lt_of_lt_of_le hk h.size) (fun e => hn (hr k e.symm))).trans (h.block k hk hn)
end Go.Proofs.YtfhdjekpdifajaaGreat
