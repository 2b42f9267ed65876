/- Small calls of the references and of sketch: Cells, Level, Config, Same, Right, Keys, Any, Cut. -/
import Derived.Test.YthancaehlijaoaaUpdate
namespace Go.Proofs.Ythancaehlijaoaa
open Go.RowKit

set_option maxHeartbeats 1000000 in
theorem SCells_c (s b c : Nat) (C : Cfg) (lv : Int) (R W : Nat) (l : List Int) (w : World) (h : SAt w s b c C lv R W l) :
    Calls Try.prog 22 #[.pointer (some ⟨s, 0, none⟩)] w fun e w' => ∃ v, e = .returned v ∧ w'.ownsRow w.heap.size 2 1 v l.length (ints l) ∧ (v = .slice none 0 0 → False) ∧ Ext w w' := by
  have c0 := (cell_of h.ex 0).trans rfl
  go_enter Try.func22, Try.ntmps22
  go_wp2_with fail
  refine (GCells_c b c R W l _ h.g).mono ?_
  rintro e w1 ⟨v, rfl, h1, h2, h3⟩
  go_wp2
  go_ret
  exact ⟨v, rfl, h1, h2, h3⟩
set_option maxHeartbeats 1000000 in
theorem SLevel_c (s b c : Nat) (C : Cfg) (lv : Int) (R W : Nat) (l : List Int) (w : World) (h : SAt w s b c C lv R W l) :
    Calls Try.prog 53 #[.pointer (some ⟨s, 0, none⟩)] w fun e w' => e = .returned (.int .i64 lv) ∧ w = w' := by
  have c6 := (cell_of h.ex 6).trans rfl
  go_enter Try.func53, Try.ntmps53
  go_wp2
  go_ret
  exact ⟨rfl, rfl⟩
set_option maxHeartbeats 1000000 in
theorem SConfig_c (s b c : Nat) (C : Cfg) (lv : Int) (R W : Nat) (l : List Int) (w : World) (h : SAt w s b c C lv R W l) :
    Calls Try.prog 52 #[.pointer (some ⟨s, 0, none⟩)] w fun e w' => e = .returned (.agg #[.int .i64 C.bits, .int .i64 C.rows, .int .i64 C.width, .int .i64 C.mode, .int .u64 C.seed]) ∧ Ext w w' := by
  have hlt := h.lts
  have c1 := (cell_of h.ex 1).trans rfl
  have c2 := (cell_of h.ex 2).trans rfl
  have c3 := (cell_of h.ex 3).trans rfl
  have c4 := (cell_of h.ex 4).trans rfl
  have c5 := (cell_of h.ex 5).trans rfl
  go_enter Try.func52, Try.ntmps52
  go_wp2
  exact bodyPost_ret (v := .agg #[.int .i64 C.bits, .int .i64 C.rows, .int .i64 C.width, .int .i64 C.mode, .int .u64 C.seed]) (by simp [results, Try.results52, go_sem]) rfl ⟨rfl, by (repeat' (first | exact Ext.refl _ | assumption | apply Ext.allocR | apply Ext.drewR | apply Ext.drewNR | (refine Ext.trans' ?_ (by assumption))))⟩
theorem getD_ext {l m : List Int} (h : l.length = m.length) (hg : ∀ k, k < l.length → l.getD k 0 = m.getD k 0) : l = m := by
  apply List.ext_getElem h
  intro i h1 h2
  have := hg i h1
  simpa [h1, h2] using this
set_option maxRecDepth 20000 in
set_option maxHeartbeats 2000000 in
theorem Same_c (v1 v2 : Value) (l m : List Int) (w : World) (h1 : IntsAt w v1 l) (h2 : IntsAt w v2 m) (hl : l.length ≤ 1000000) (hm : m.length ≤ 1000000) :
    Calls Try.prog 21 #[v1, v2] w fun e w' => e = .returned (.bool (decide (l = m))) ∧ Ext w w' := by
  have hs1 : ∃ p c, v1 = .slice p l.length c := by
    rcases h1 with ⟨rfl, rfl⟩ | ⟨g, off, cap, rfl, _⟩
    · exact ⟨_, _, rfl⟩
    · exact ⟨_, _, rfl⟩
  have hs2 : ∃ p c, v2 = .slice p m.length c := by
    rcases h2 with ⟨rfl, rfl⟩ | ⟨g, off, cap, rfl, _⟩
    · exact ⟨_, _, rfl⟩
    · exact ⟨_, _, rfl⟩
  by_cases hlen : l.length = m.length
  · by_cases h0 : l.length = 0
    · have e1 : l = [] := List.length_eq_zero_iff.1 h0
      have e2 : m = [] := List.length_eq_zero_iff.1 (by omega)
      subst e1 e2
      obtain ⟨p1, c1, rfl⟩ := hs1
      obtain ⟨p2, c2, rfl⟩ := hs2
      clear h1 h2 hlen h0
      go_enter Try.func21, Try.ntmps21
      go_wp2
      refine wp_loop_rounds 1 ?_
      rw [rounds_succ]
      go_wp2
      go_ret
      exact ⟨rfl, Ext.refl _⟩
    · obtain ⟨g1, o1, cap1, rfl, hg1, hc1⟩ := h1.slice (by omega)
      obtain ⟨g2, o2, cap2, rfl, hg2, hc2⟩ := h2.slice (by omega)
      have HC1 := Lib.hid hc1
      have HC2 := Lib.hid hc2
      rw [← hlen] at hm ⊢
      have HL := Lib.hid hlen
      generalize hn : l.length = n at *
      have HN := Lib.hid hn
      clear hs1 hs2 h1 h2 hc1 hc2 hlen hn h0
      go_enter Try.func21, Try.ntmps21
      go_wp2
      go_loopw [5] (fun u wr => ∃ k : Nat, k ≤ n ∧ u = .int .i64 k ∧ Ext w wr ∧ ∀ j, j < k → l.getD j 0 = m.getD j 0) (fun u _ => n - (intOf u).toNat)
      case atStart => exact ⟨0, Nat.zero_le _, rfl, Ext.refl _, fun j hj => absurd hj (Nat.not_lt_zero _)⟩
      case round =>
        obtain ⟨k, hk, rfl, hx, hall⟩ := hrel
        have HA := Lib.hid hall
        clear hall
        by_cases hlt : k < n
        · have d1 := ((bcell hx).1 g1 (o1 + k) hg1).trans (HC1.out k hlt)
          have d2 := ((bcell hx).1 g2 (o2 + k) hg2).trans (HC2.out k (by rw [← HL.out]; exact hlt))
          obtain ⟨x, hx1⟩ : ∃ x, l.getD k 0 = x := ⟨_, rfl⟩
          obtain ⟨y, hy1⟩ : ∃ y, m.getD k 0 = y := ⟨_, rfl⟩
          rw [hx1] at d1
          rw [hy1] at d2
          have HX := Lib.hid hx1
          have HY := Lib.hid hy1
          clear hx1 hy1
          have l1 : g1 < wr.heap.size := Nat.lt_of_lt_of_le hg1 hx.size
          have l2 : g2 < wr.heap.size := Nat.lt_of_lt_of_le hg2 hx.size
          by_cases hxy : x = y
          · subst hxy
            go_wp2
            refine wp_region_after (by kernel_rfl) (by kernel_rfl) ?_
            repeat (go_big_quiet_step (fail))
            refine wpQuiet_nil ?_
            rintro _ ⟨xx, rfl⟩
            obtain ⟨w1, hb1⟩ := xx
            try dsimp only
            go_wp2
            go_roundw
            case rel =>
              refine ⟨k + 1, by omega, by go_num, hx.trans' hb1, fun j hj => ?_⟩
              rcases Nat.lt_or_eq_of_le (Nat.le_of_lt_succ hj) with h' | rfl
              · exact HA.out j h'
              · rw [HX.out, HY.out]
            case measure => simp [intOf]; omega
          · have hb : (x == y) = false := by simpa using hxy
            go_wp2
            refine wp_region_after (by kernel_rfl) (by kernel_rfl) ?_
            repeat (go_big_quiet_step (fail))
            refine wpQuiet_nil ?_
            rintro _ ⟨xx, rfl⟩
            obtain ⟨w1, hb1⟩ := xx
            try dsimp only
            go_wp2
            go_ret
            refine ⟨ret_bool ?_, hx.trans' hb1⟩
            symm
            exact decide_eq_false fun e => hxy (by rw [← HX.out, ← HY.out, e])
        · go_wp2
          go_ret
          refine ⟨ret_bool ?_, hx⟩
          symm
          exact decide_eq_true (getD_ext (by rw [HN.out, HL.out]) (fun j hj => HA.out j (by rw [HN.out] at hj; omega)))
  · obtain ⟨p1, c1, rfl⟩ := hs1
    obtain ⟨p2, c2, rfl⟩ := hs2
    have hne : l ≠ m := fun e => hlen (by rw [e])
    have HNE := Lib.hid hne
    have hb : ((l.length : Int) == (m.length : Int)) = false := by simp; omega
    have hb2 : (l.length == m.length) = false := by simp; omega
    clear h1 h2 hne
    generalize l.length = a at *
    generalize m.length = b at *
    go_enter Try.func21, Try.ntmps21
    go_wp2
    go_ret
    exact ⟨ret_bool (decide_eq_false HNE.out).symm, Ext.refl _⟩
theorem and16 (x : Int) : bits BinOp.and IntKind.i64 x 65535 = x % 65536 := by
  show IntKind.i64.wrap ((BitVec.ofInt 64 x &&& BitVec.ofInt 64 65535).toNat : Int) = _
  have e1 : (BitVec.ofInt 64 (65535 : Int)).toNat = 2 ^ 16 - 1 := by decide
  rw [BitVec.toNat_and, e1, Nat.and_two_pow_sub_one_eq_mod, BitVec.toNat_ofInt, IntKind.wrap_i64]
  have : (x % ((2 ^ 64 : Nat) : Int)).toNat % 2 ^ 16 < 65536 := Nat.mod_lt _ (by decide)
  omega
end Go.Proofs.Ythancaehlijaoaa
