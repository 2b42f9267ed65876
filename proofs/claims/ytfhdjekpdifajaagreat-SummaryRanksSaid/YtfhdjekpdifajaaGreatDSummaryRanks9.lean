/- Part. No condition. -/
import Derived.Test.YtfhdjekpdifajaaGreatDSummaryRanks4
import Derived.Test.YtfhdjekpdifajaaGreatDSummaryRanks8
import Derived.Test.YtfhdjekpdifajaaGreatDSummaryRanks1
import Derived.Test.YtfhdjekpdifajaaGreatDSummaryRanks5
import Derived.Test.YtfhdjekpdifajaaGreatDSummaryRanks6
import Derived.Test.YtfhdjekpdifajaaGreatDSummaryRanks3
import Derived.Test.YtfhdjekpdifajaaGreatDSummaryRanks7
import Derived.Test.YtfhdjekpdifajaaGreatDSummaryRanks2
namespace Go.Proofs.YtfhdjekpdifajaaGreat
set_option linter.unusedVariables false
open Go.RowKit
/-- The way down, if every rest fits. -/
def wayF (pt : Nat → Int → Int) : Nat → Int → Int → Option (List (Nat × Int))
  | 0, _, _ => some []
  | n + 1, i, k => if k ≤ pt n (2 * i) then (wayF pt n (2 * i) k).map (fun l => (n, 2 * i) :: l) else if fitB (k - pt n (2 * i)) = true then (wayF pt n (2 * i + 1) (k - pt n (2 * i))).map (fun l => (n, 2 * i + 1) :: l) else none
def wayFP (pt : Nat → Int → Int) (B : Nat) (k : Int) : Option (List (Nat × Int)) := (wayF pt B 0 k).map (fun l => (B, 0) :: l)
theorem wayF_len (pt : Nat → Int → Int) : ∀ (n : Nat) (i k : Int) (l : List (Nat × Int)), wayF pt n i k = some l → l.length = n
  | 0, _, _, l, h => by cases h; rfl
  | n + 1, i, k, l, h => by
    unfold wayF at h
    split at h
    · obtain ⟨m, hm, rfl⟩ := Option.map_eq_some_iff.1 h
      rw [List.length_cons, wayF_len pt n _ _ m hm]
    · split at h
      · obtain ⟨m, hm, rfl⟩ := Option.map_eq_some_iff.1 h
        rw [List.length_cons, wayF_len pt n _ _ m hm]
      · cases h
theorem wayFP_len {pt : Nat → Int → Int} {B : Nat} {k : Int} {l : List (Nat × Int)} (h : wayFP pt B k = some l) : l.length = B + 1 := by
  obtain ⟨m, hm, rfl⟩ := Option.map_eq_some_iff.1 h
  rw [List.length_cons, wayF_len pt B _ _ m hm]
/-- How far the way has come. -/
def WayAtR (w : World) (B : Nat) (C : Cfg) (b : Nat) (pt : Nat → Int → Int) (k : Int) (t : Nat) (k' : Int) (wr : World) (n : Nat) (i : Int) (dn : List (Nat × Int)) : Prop :=
  t + n = B ∧ dn.length = t + 1 ∧ dn.getD t (0, 0) = (n, i) ∧ wayFP pt B k = (wayF pt n i k').map (fun l => dn ++ l) ∧ 0 ≤ i ∧ i < keys C n ∧ 1 ≤ k' ∧ I64 k' ∧
  (∃ cur, wr.heap[b]? = some (.cells cur 232 (0, 0)) ∧ cur.size = 120) ∧ PCells wr b 0 dn ∧ Ext w wr
theorem way_nextR {w wr w6 : World} {B : Nat} {C : Cfg} {b : Nat} {pt : Nat → Int → Int} {k : Int} {t : Nat} {k' : Int} {m : Nat} {i : Int} {dn : List (Nat × Int)} (hW : WayAtR w B C b pt k t k' wr (m + 1) i dn) (hE : Ext wr w6) (hB : C.bits = B) (hBd : B ≤ 59) (hbw : w.heap.size ≤ b) {j k2 : Int}
    (hj : (j = 2 * i ∧ k' ≤ pt m (2 * i) ∧ k2 = k') ∨ (j = 2 * i + 1 ∧ pt m (2 * i) < k' ∧ I64 (k' - pt m (2 * i)) ∧ k2 = k' - pt m (2 * i))) :
    WayAtR w B C b pt k (t + 1) k2 ((w6.setCell ⟨b, (t + 1) * 2, none⟩ (.int .i64 m)).setCell ⟨b, (t + 1) * 2 + 1, none⟩ (.int .u64 j)) m j (dn ++ [(m, j)]) := by
  obtain ⟨a1, a2, a3, a4, a5, a6, a7, a8, ⟨cur, a9, a10⟩, a11, a12⟩ := hW
  have hkh := keys_half (C := C) (m := m) (by omega)
  have hs := way_set (hE.keep a9) a10 (a11.ext (lt_of a9) hE) (by omega) m j
  rw [a2] at hs
  refine ⟨by omega, by rw [List.length_append, a2]; rfl, ?_, ?_, ?_, ?_, ?_, ?_, hs.1, hs.2, ((a12.trans' hE).setR (p := ⟨b, (t + 1) * 2, none⟩) hbw _).setR (p := ⟨b, (t + 1) * 2 + 1, none⟩) hbw _⟩
  · rw [← a2]; simp
  · rw [a4]
    conv => lhs; unfold wayF
    rcases hj with ⟨rfl, h1, rfl⟩ | ⟨rfl, h1, h2, rfl⟩
    · rw [if_pos h1, Option.map_map]
      congr 1
      funext l
      simp
    · rw [if_neg (by omega), if_pos (fitB_yes h2), Option.map_map]
      congr 1
      funext l
      simp
  · rcases hj with ⟨rfl, _, _⟩ | ⟨rfl, _, _⟩ <;> omega
  · rcases hj with ⟨rfl, _, _⟩ | ⟨rfl, _, _⟩ <;> omega
  · rcases hj with ⟨_, h1, rfl⟩ | ⟨_, h1, _, rfl⟩ <;> omega
  · rcases hj with ⟨_, h1, rfl⟩ | ⟨_, h1, h2, rfl⟩
    · exact a8
    · exact h2
def WayRPost (w : World) (B : Nat) (T : Int) (pt : Nat → Int → Int) (k : Int) (e : Ending) (w' : World) : Prop :=
  ((k < 1 ∨ T < k) ∧ e = .returned (.tuple #[.slice none 0 0, .int .i64 6]) ∧ Ext w w') ∨
  ((1 ≤ k ∧ k ≤ T) ∧ wayFP pt B k = none ∧ e = .returned (.tuple #[.slice none 0 0, .int .i64 4]) ∧ Ext w w') ∨
  ((1 ≤ k ∧ k ≤ T) ∧ ∃ ps v base, wayFP pt B k = some ps ∧ e = .returned (.tuple #[v, .int .i64 0]) ∧ w.heap.size ≤ base ∧ w'.ownsRow base 39 2 v ps.length (pcV ps) ∧ Ext w w')
set_option maxRecDepth 20000 in
set_option maxHeartbeats 8000000 in
theorem WayR_c (s g : Nat) (C : Cfg) (B : Nat) (L : Nat → Lev) (ls : Nat → List Int) (w : World) (h : KAt w s g C B L ls) (k : Int) (hk : I64 k) (pt : Nat → Int → Int) (hT : Uniq C B ls pt) (hPI : ∀ n i, I64 (pt n i)) :
    Calls Tryz.prog 91 #[.pointer (some ⟨s, 0, none⟩), .int .i64 k] w (WayRPost w B ((ls B).getD 0 0) pt k) := by
  have hok := h.ok
  have hB := h.hB
  have hBd : B ≤ 59 := by have := hok.b2; omega
  by_cases hk1 : k < 1
  · go_enter Tryz.func91, Tryz.ntmps91
    go_wp2
    go_step3
    go_wp2
    go_ret2
    exact .inl ⟨.inl hk1, rfl, Ext.refl _⟩
  have hTot := fun W' (he : Ext w W') => KTotal_c s g C B L ls W' (h.ext he)
  generalize hTT : (ls B).getD 0 0 = T at *
  by_cases hk2 : T < k
  · go_enter Tryz.func91, Tryz.ntmps91
    go_wp2
    go_step3
    go_wp2_with fail
    refine (hTot _ (by (repeat' (first | exact Ext.refl _ | assumption | apply Ext.allocR | apply Ext.drewR | apply Ext.drewNR | (refine Ext.trans' ?_ (by assumption)))))).mono ?_
    rintro e w1 ⟨rfl, hx1⟩
    go_wp2
    go_ret2
    exact .inl ⟨.inr hk2, rfl, by (repeat' (first | exact Ext.refl _ | assumption | apply Ext.allocR | apply Ext.drewR | apply Ext.drewNR | (refine Ext.trans' ?_ (by assumption))))⟩
  have HB := Lib.hid hB
  have HTT := Lib.hid hTT
  clear hB hTT
  go_enter Tryz.func91, Tryz.ntmps91
  go_wp2
  go_step3
  go_wp2_with fail
  refine (hTot _ (by (repeat' (first | exact Ext.refl _ | assumption | apply Ext.allocR | apply Ext.drewR | apply Ext.drewNR | (refine Ext.trans' ?_ (by assumption)))))).mono ?_
  rintro e w1 ⟨rfl, hx1⟩
  have hE1 : Ext w w1 := by (repeat' (first | exact Ext.refl _ | assumption | apply Ext.allocR | apply Ext.drewR | apply Ext.drewNR | (refine Ext.trans' ?_ (by assumption))))
  clear hx1 hTot
  go_wp2_with fail
  refine (SKConfig_c s g C B L ls _ (h.ext ?hx)).mono ?_
  case hx => exact hE1.trans' (by (repeat' (first | exact Ext.refl _ | assumption | apply Ext.allocR | apply Ext.drewR | apply Ext.drewNR | (refine Ext.trans' ?_ (by assumption)))))
  rintro e w2 ⟨rfl, hx2⟩
  have hE2 : Ext w w2 := hE1.trans' (by (repeat' (first | exact Ext.refl _ | assumption | apply Ext.allocR | apply Ext.drewR | apply Ext.drewNR | (refine Ext.trans' ?_ (by assumption)))))
  clear hx2 hE1
  go_upto_region 5 with (fail)
  obtain ⟨w3, hw3⟩ : ∃ w3, w2.alloc (.cells Tryz.zeroCells232 232) = w3 := ⟨_, rfl⟩
  have hx3 : Ext w2 w3 := by rw [← hw3]; exact Ext.alloc' _ _
  have hb3 : w3.heap[w2.heap.size]? = some (.cells Tryz.zeroCells232 232 (0, 0)) := by rw [← hw3]; exact heap_at _ _ rfl
  rw [hw3]
  clear hw3
  have hE3 := hE2.trans' hx3
  have hzs : Tryz.zeroCells232.size = 120 := by kernel_rfl
  have hz0 : Tryz.zeroCells232[0]? = some (.int .i64 0) := by kernel_rfl
  have hz1 : Tryz.zeroCells232[1]? = some (.int .u64 0) := by kernel_rfl
  generalize Tryz.zeroCells232 = zc at *
  have z0 := (cell_of hb3 0).trans hz0
  have z1 := (cell_of hb3 1).trans hz1
  have f0 := frozen_of hb3 0
  have f1 := frozen_of hb3 1
  have zl := lt_of hb3
  have hbE := hE2.size
  generalize hbb : w2.heap.size = b at *
  have hw0 := way_set hb3 hzs (dn := []) (fun k hk => by simp at hk) (by simp) B 0
  simp only [List.length_nil, Nat.zero_mul, Nat.zero_add, List.nil_append] at hw0
  have hW0 : WayAtR w B C b pt k 0 k ((w3.setCell ⟨b, 0, none⟩ (.int .i64 (B : Nat))).setCell ⟨b, 1, none⟩ (.int .u64 0)) B 0 [(B, 0)] :=
    ⟨by omega, rfl, rfl, rfl, Int.le_refl 0, by have := keys_bd C hok B (Int.natCast_nonneg B); omega, by omega, hk, hw0.1, hw0.2, (hE3.setR (p := ⟨b, 0, none⟩) hbE _).setR (p := ⟨b, 1, none⟩) hbE _⟩
  rw [← HB.out] at hW0
  have HW0 := Lib.hid hW0
  clear hz0 hz1 hw0 hW0
  go_wp2
  go_step3
  go_wp2
  have HT := Lib.hid hT
  have HPI := Lib.hid hPI
  clear hT hPI
  go_loopw [1, 8] (fun u1 u8 wr => ∃ (t : Nat) (k' : Int) (n : Nat) (i : Int) (dn : List (Nat × Int)), u1 = .int .i64 k' ∧ u8 = .int .i64 t ∧ WayAtR w B C b pt k t k' wr n i dn) (fun _ u8 _ => B - (intOf u8).toNat)
  case atStart => exact ⟨0, k, B, 0, [(B, 0)], rfl, rfl, HW0.out⟩
  case round =>
    clear HW0
    obtain ⟨t, k', n, i, dn, rfl, rfl, hW⟩ := hrel
    obtain ⟨w1', w2', w3', w4', w5', w6', w7', w8', w9', w10', w11'⟩ := hW
    obtain ⟨cur, hcb, hcs⟩ := w9'
    have hp := w10' t (by omega)
    rw [w3', Nat.zero_add] at hp
    obtain ⟨q0, q1⟩ := hp
    have ql := lt_of hcb
    cases n with
    | zero =>
      have hdl : wayFP pt B k = some dn := by rw [w4']; simp [wayF]
      have hcl := fun W' (he : Ext wr W') => CloneP_c b (60 - 0) dn W' (w10'.ext ql he) (Nat.lt_of_lt_of_le ql he.size) (by omega)
      rw [w2'] at hcl
      have HDL := Lib.hid hdl
      have HCL := Lib.hid hcl
      have hsl := fun W' => run_slice60 b t (by omega) W'
      clear hdl hcl
      go_wp2_with fail
      refine (HCL.out _ (Ext.refl _)).mono ?_
      rintro e w5 ⟨v5, rfl, ho5, hx5⟩
      clear hsl
      go_wp2
      go_ret2
      exact .inr (.inr ⟨⟨by omega, by omega⟩, dn, v5, wr.heap.size, HDL.out, rfl, w11'.size, by rw [w2']; exact ho5, w11'.trans' hx5⟩)
    | succ m =>
      have hnn : ((m + 1 : Nat) : Int) = (m : Int) + 1 := by omega
      have hmb : ((m + 1 : Nat) : Int) ≤ C.bits := by have := HB.out; omega
      have hHV : ∀ W', Calls Tryz.prog 145 #[.int .i64 C.bits, .agg #[.int .i64 ((m : Int) + 1), .int .u64 i]] W' fun e w' => e = .returned (.tuple #[.agg #[.int .i64 m, .int .u64 (2 * i)], .agg #[.int .i64 m, .int .u64 (2 * i + 1)], .bool true]) ∧ Ext W' w' := fun W' => by
        have := Halves_c C hok m hmb i w5' w6' W'
        rw [hnn] at this
        exact this
      go_wp2_with fail
      refine (hHV _).mono ?_
      rintro e w4 ⟨rfl, hx4⟩
      clear hHV
      go_upto_region 9 with (fail)
      have hr4 : Ext wr w4 := by (repeat' (first | exact Ext.refl _ | assumption | apply Ext.allocR | apply Ext.drewR | apply Ext.drewNR | (refine Ext.trans' ?_ (by assumption))))
      have hkh := keys_half (C := C) (m := m) hmb
      have hl5 := (heap_old (w4.alloc (.cells #[.int .i64 m, .int .u64 (2 * i)] 39)) (.cells #[.int .i64 m, .int .u64 (2 * i + 1)] 39) (n := w4.heap.size) (by rw [size_alloc]; omega)).trans (heap_at w4 (.cells #[.int .i64 m, .int .u64 (2 * i)] 39) rfl)
      have hr5 := heap_at (w4.alloc (.cells #[.int .i64 m, .int .u64 (2 * i)] 39)) (.cells #[.int .i64 m, .int .u64 (2 * i + 1)] 39) (n := w4.heap.size + 1) (by rw [size_alloc])
      have hx5 : Ext w4 ((w4.alloc (.cells #[.int .i64 m, .int .u64 (2 * i)] 39)).alloc (.cells #[.int .i64 m, .int .u64 (2 * i + 1)] 39)) := (Ext.alloc' _ _).allocR _
      generalize (w4.alloc (.cells #[.int .i64 m, .int .u64 (2 * i)] 39)).alloc (.cells #[.int .i64 m, .int .u64 (2 * i + 1)] 39) = w5 at *
      have hE5 : Ext wr w5 := hr4.trans' hx5
      have v0 := (cell_of hl5 0).trans rfl
      have v1 := (cell_of hl5 1).trans rfl
      have vl := lt_of hl5
      clear hx4 hx5 hr4 q0 q1 ql
      have hK5 := h.ext (w11'.trans' hE5)
      have ht59 : t < 59 := by omega
      go_wp2_with fail
      refine Calls.mono (KPoint_c s g C B L ls _ hK5 m (by omega) (2 * i) (by omega) (by omega)) ?_
      rintro e w6 ⟨x, rfl, hpt, hx6⟩
      have hxp := HT.out m (2 * i) x (by omega) (by omega) (by omega) hpt
      have hpi := HPI.out m (2 * i)
      have hw4 := w4'
      have hE6 := hE5.trans' hx6
      have hl6 := hx6.keep hl5
      have hr6 := hx6.keep hr5
      have hc6 := hE6.keep hcb
      have hW : WayAtR w B C b pt k t k' wr (m + 1) i dn := ⟨w1', w2', w3', w4', w5', w6', w7', w8', ⟨cur, hcb, hcs⟩, w10', w11'⟩
      subst hxp
      have hn1 := fun (W' : World) (hE' : Ext wr W') (j k2 : Int) hj => way_nextR (j := j) (k2 := k2) hW hE' HB.out hBd hbE hj
      have HN1 := Lib.hid hn1
      obtain ⟨o0, ho0⟩ : ∃ o0, cur[(t + 1) * 2]? = some o0 := ⟨_, Array.getElem?_eq_getElem (by omega)⟩
      obtain ⟨o1, ho1⟩ : ∃ o1, cur[(t + 1) * 2 + 1]? = some o1 := ⟨_, Array.getElem?_eq_getElem (by omega)⟩
      have u0 := (cell_of hc6 ((t + 1) * 2)).trans ho0
      have u1 := (cell_of hc6 ((t + 1) * 2 + 1)).trans ho1
      have g0 := frozen_of hc6 ((t + 1) * 2)
      have g1 := frozen_of hc6 ((t + 1) * 2 + 1)
      have gl := lt_of hc6
      have v0 := (cell_of hl6 0).trans rfl
      have v1 := (cell_of hl6 1).trans rfl
      have vl := lt_of hl6
      have y0 := (cell_of hr6 0).trans rfl
      have y1 := (cell_of hr6 1).trans rfl
      have yl := lt_of hr6
      have HW4 := Lib.hid hw4
      clear hw4 w4' hn1 hW hpt hK5 hl5 hr5 w10' hcb hx6
      generalize hP : pt m (2 * i) = P at *
      by_cases hle : k' ≤ P
      · go_wp2_with fail
        go_roundw
        case rel => exact ⟨t + 1, k', m, 2 * i, dn ++ [(m, 2 * i)], rfl, by go_num, HN1.out _ hE6 _ _ (.inl ⟨rfl, hle, rfl⟩)⟩
        case measure => simp [intOf]; omega
      · have hkI : I64 k' := w8'
        have hM := Minus_c k' P hkI hpi
        by_cases hI : I64 (k' - P)
        rotate_left
        · rw [fitB_no hI] at hM
          have hno : wayFP pt B k = none := by
            rw [HW4.out]
            conv => lhs; unfold wayF
            rw [if_neg (by omega), if_neg (by rw [hP, fitB_no hI]; decide)]
            rfl
          have HNO := Lib.hid hno
          have HM := Lib.hid hM
          clear hM hno hI
          go_wp2_with fail
          refine (HM.out _).mono ?_
          rintro e w7 ⟨rfl, hx7⟩
          have hE7 : Ext w6 w7 := by (repeat' (first | exact Ext.refl _ | assumption | apply Ext.allocR | apply Ext.drewR | apply Ext.drewNR | (refine Ext.trans' ?_ (by assumption))))
          go_wp2
          go_ret2
          exact .inr (.inl ⟨⟨by omega, by omega⟩, HNO.out, rfl, w11'.trans' (hE6.trans' hE7)⟩)
        rw [fitB_yes hI, fitN_yes hI] at hM
        have HII := Lib.hid hI
        clear hI
        have HM := Lib.hid hM
        clear hM
        go_wp2_with fail
        refine (HM.out _).mono ?_
        rintro e w7 ⟨rfl, hx7⟩
        have hE7 : Ext w6 w7 := by (repeat' (first | exact Ext.refl _ | assumption | apply Ext.allocR | apply Ext.drewR | apply Ext.drewNR | (refine Ext.trans' ?_ (by assumption))))
        have hc7 := hE7.keep hc6
        have hr7 := hE7.keep hr6
        clear hx7 u0 u1 g0 g1 gl v0 v1 vl y0 y1 yl
        have u0 := (cell_of hc7 ((t + 1) * 2)).trans ho0
        have u1 := (cell_of hc7 ((t + 1) * 2 + 1)).trans ho1
        have g0 := frozen_of hc7 ((t + 1) * 2)
        have g1 := frozen_of hc7 ((t + 1) * 2 + 1)
        have gl := lt_of hc7
        have y0 := (cell_of hr7 0).trans rfl
        have y1 := (cell_of hr7 1).trans rfl
        have yl := lt_of hr7
        go_wp2_with fail
        go_roundw
        case rel => exact ⟨t + 1, k' - P, m, 2 * i + 1, dn ++ [(m, 2 * i + 1)], rfl, by go_num, HN1.out _ (hE6.trans' hE7) _ _ (.inr ⟨rfl, by omega, HII.out, rfl⟩)⟩
        case measure => simp [intOf]; omega
end Go.Proofs.YtfhdjekpdifajaaGreat
namespace Go.Proofs.YtfhdjekpdifajaaGreat
set_option linter.unusedVariables false
open Go.RowKit
theorem RKTop_c (s t : Nat) (C : Cfg) (B : Nat) (L : Nat → RLev) (ls : Nat → List Int) (w : World) (h : RKAt w s t C B L ls) :
    Calls Tryz.prog 29 #[.pointer (some ⟨s, 0, none⟩)] w fun e w' => e = .returned (.int .i64 ((ls B).getD 0 0)) ∧ Ext w w' := by
  have hB := h.hB
  have hok := h.ok
  refine (RKTotal_c s t C B L ls w h).mono ?_
  rintro e w' ⟨x, r, rfl, hp, hE⟩
  rcases hp with ⟨hbad, _⟩ | ⟨_, (⟨_, rfl⟩ | ⟨hx, _⟩), _⟩
  · have := keys_bd C hok B (Int.natCast_nonneg B); omega
  · exact ⟨rfl, hE⟩
  · rw [isX_top hok hB] at hx; cases hx
set_option maxRecDepth 20000 in
set_option maxHeartbeats 8000000 in
theorem RWay_c (s t : Nat) (C : Cfg) (B : Nat) (L : Nat → RLev) (ls : Nat → List Int) (w : World) (h : RKAt w s t C B L ls) (k : Int) (hk : I64 k) (pt : Nat → Int → Int) (hU : Uniq C B ls pt) (hPI : ∀ n i, I64 (pt n i)) :
    Calls Tryz.prog 93 #[.pointer (some ⟨s, 0, none⟩), .int .i64 k] w (WayRPost w B ((ls B).getD 0 0) pt k) := by
  have hok := h.ok
  have hB := h.hB
  have hBd : B ≤ 59 := by have := hok.b2; omega
  by_cases hk1 : k < 1
  · go_enter Tryz.func93, Tryz.ntmps93
    go_wp2
    go_ret2
    exact .inl ⟨.inl hk1, rfl, Ext.refl _⟩
  have HTot := Lib.hid (RKTop_c s t C B L ls w h)
  generalize hTT : (ls B).getD 0 0 = T at *
  by_cases hk2 : T < k
  · clear hTT hB
    go_enter Tryz.func93, Tryz.ntmps93
    go_wp2_with fail
    refine HTot.out.mono ?_
    rintro e w1 ⟨rfl, hx1⟩
    go_wp2
    go_ret2
    exact .inl ⟨.inr hk2, rfl, hx1⟩
  have HB := Lib.hid hB
  have HH := Lib.hid h
  have HU := Lib.hid hU
  have HPI := Lib.hid hPI
  obtain ⟨i0, z0, hi0, hz0, hz1, hz2, hzs⟩ := info_pc
  obtain ⟨cap, hex, hcap⟩ := h.ex
  have HEX := Lib.hid hex
  clear hB h hU hPI hTT hex
  go_enter Tryz.func93, Tryz.ntmps93
  go_wp2_with fail
  refine HTot.out.mono ?_
  rintro e w1 ⟨rfl, hx1⟩
  have hex1 := hx1.keep HEX.out
  have c0 := (cell_of hex1 0).trans (show _ = some (Value.int .i64 B) by rw [← HB.out]; rfl)
  have hls := lt_of hex1
  have HX1 := Lib.hid hx1
  have ho0 : (w1.alloc (.cells #[.int .i64 B, .int .u64 0] 39)).ownsRow w.heap.size 39 2 (.slice (some ⟨w1.heap.size, 0, none⟩) 1 1) [((B : Nat), (0 : Int))].length (pcV [((B : Nat), (0 : Int))]) := ⟨rfl, .inr ⟨w1.heap.size, 1, #[.int .i64 B, .int .u64 0], rfl, HX1.out.size, heap_at _ _ rfl, Nat.le_refl _, by decide, rfl, rfl⟩⟩
  have HO0 := Lib.hid ho0
  have hE1 : Ext w (w1.alloc (.cells #[.int .i64 B, .int .u64 0] 39)) := HX1.out.allocR _
  have HE1 := Lib.hid hE1
  have hkb0 : (0 : Int) < keys C B := by have := keys_bd C hok B (Int.natCast_nonneg B); omega
  clear hx1 hex1 ho0 hE1 HTot
  go_wp2_with fail
  clear c0 hls
  go_loopw [1, 6, 7, 8] (fun u1 u6 u7 u8 wr => ∃ (k' : Int) (m : Nat) (i z : Int) (dn : List (Nat × Int)), u1 = .int .i64 k' ∧ u7 = .int .u64 i ∧ u8 = .int .i64 z ∧ z + 1 = m ∧ dn.length + m = B + 1 ∧ 1 ≤ dn.length ∧ wayFP pt B k = (wayF pt m i k').map (fun l => dn ++ l) ∧ 0 ≤ i ∧ i < keys C m ∧ I64 k' ∧ wr.ownsRow w.heap.size 39 2 u6 dn.length (pcV dn) ∧ Ext w wr) (fun _ _ _ u8 _ => (intOf u8 + 1).toNat)
  case atStart => exact ⟨k, B, 0, (B : Int) - 1, [(B, 0)], rfl, rfl, by first | rfl | go_num, by omega, by rw [List.length_singleton]; omega, Nat.le_refl _, rfl, Int.le_refl 0, hkb0, hk, HO0.out, HE1.out⟩
  case round =>
    clear HO0 HE1
    obtain ⟨k', m, i, z, dn, rfl, rfl, rfl, hz, hdl, hdl1, hway, hi0', hi1', hkI, hown, hE⟩ := hrel
    obtain ⟨pv, cv, rfl⟩ := own_sl hown
    have HO := Lib.hid hown
    have HW := Lib.hid hway
    have HE := Lib.hid hE
    have HDL := Lib.hid hdl
    clear hown hway
    cases m with
    | zero =>
      obtain rfl : z = -1 := by omega
      have hfin : wayFP pt B k = some dn := by rw [HW.out]; simp [wayF]
      have HF := Lib.hid hfin
      clear hfin hz hdl
      go_wp2
      go_ret2
      exact .inr (.inr ⟨⟨by omega, by omega⟩, dn, _, w.heap.size, HF.out, rfl, Nat.le_refl _, HO.out, HE.out⟩)
    | succ m =>
      obtain rfl : z = (m : Int) := by omega
      have hmb : ((m + 1 : Nat) : Int) ≤ C.bits := by have := HB.out; omega
      have hkh := keys_half (C := C) (m := m) hmb
      have hkk := keys_bd C hok m (Int.natCast_nonneg m)
      have hib : i < 576460752303423488 := by have := keys_bd C hok (m + 1 : Nat) (Int.natCast_nonneg _); omega
      have hcall := RKPoint_c s t C B L ls m (2 * i) (by unfold I64; omega) (by unfold U64; omega) wr (HH.out.ext hE)
      have hun := fun x (hx : lvPt C m (ls m) (2 * i) x) => HU.out m (2 * i) x (by omega) (by omega) (by omega) hx
      have hq2 : i * 2 = 2 * i := by omega
      rw [← hq2] at hcall
      have HCALL := Lib.hid hcall
      have HUN := Lib.hid hun
      have HKH := Lib.hid hkh
      have HQ2 := Lib.hid hq2
      have hz0' : (0 : Int) ≤ (m : Int) := by omega
      have HHZ := Lib.hid hz
      have hmB : m ≤ 58 := by have := HB.out; have := hok.b2; omega
      clear hcall hun hkh hq2 hkk hz hmb hdl
      go_wp2_with fail
      refine Calls.mono HCALL.out ?_
      rintro e w5 ⟨x, r, rfl, hp, hx5⟩
      have hxp : x = pt m (2 * i) := by
        rcases hp with ⟨hbad, _⟩ | ⟨n, hn, _, hpa⟩
        · have := HDL.out; omega
        · obtain rfl : m = n := by omega
          rw [HQ2.out] at hpa
          rcases hpa with ⟨hbad, _⟩ | ⟨_, hl, _⟩
          · have := HKH.out; omega
          · exact HUN.out x hl
      have hxI : I64 x := by rw [hxp]; exact HPI.out _ _
      have HXP := Lib.hid hxp
      have hE5 := HE.out.trans' hx5
      have ho5 := own_keepB HO.out (fun j hj => hx5.block j (own_lt HO.out hj))
      have HO5 := Lib.hid ho5
      have HE5 := Lib.hid hE5
      have hlen : dn.length ≤ 1000000000 := by have := HDL.out; omega
      clear hp hxp hx5 ho5 hE5 hE HCALL HUN
      by_cases hle : k' ≤ x
      · have hwn : wayFP pt B k = (wayF pt m (i * 2) k').map (fun l => (dn ++ [(m, i * 2)]) ++ l) := by
          rw [HW.out]
          conv => lhs; unfold wayF
          rw [← HXP.out, if_pos hle, Option.map_map, HQ2.out]
          congr 1
          funext l
          simp
        have HWN := Lib.hid hwn
        have hj1 : i * 2 < keys C m := by have := HKH.out; omega
        clear hwn
        go_wp2_with (at_builtin; refine wpList_appp w5 (m, i * 2) dn _ w.heap.size 39 39 HO5.out 165 rfl _ _ rfl i0 z0 hi0 hz0 hz1 hz2 hzs Tryz.underlying165 rfl rfl hlen HE5.out.size ?_)
        intro v' w6 hw1 hw2 hw3
        have hE6 : Ext w w6 := ext_grown HE5.out hw2 (fun j hj => own_blk HO5.out hj)
        obtain ⟨pv2, cv2, rfl⟩ := own_sl hw1
        have HW1 := Lib.hid hw1
        clear hw1 hw2 hw3
        go_wp2
        go_roundw
        case rel => exact ⟨k', m, i * 2, (m : Int) - 1, dn ++ [(m, i * 2)], rfl, rfl, by first | rfl | go_num, by omega, by rw [List.length_append, List.length_singleton]; have := HDL.out; omega, by rw [List.length_append, List.length_singleton]; omega, HWN.out, by omega, hj1, hkI, by rw [List.length_append]; exact HW1.out, hE6⟩
        case measure => simp [intOf] <;> omega
      · have hbig : -730750818665451459101842416358141509827966271488 ≤ k' + -x ∧ k' + -x < 730750818665451459101842416358141509827966271488 := by unfold I64 at hkI hxI; omega
        have HI := Lib.hid (fun W' => LInt_c (k' + -x) hbig.1 hbig.2 W')
        have HN1 := Lib.hid (fun W' => OfInt_c k' hkI W')
        have HN2 := Lib.hid (fun W' => OfInt_c x hxI W')
        have HKI := Lib.hid hkI
        clear hbig
        by_cases hf : I64 (k' + -x)
        · rw [fitB_yes hf, fitN_yes hf] at HI
          have hwn : wayFP pt B k = (wayF pt m (i * 2 + 1) (k' + -x)).map (fun l => (dn ++ [(m, i * 2 + 1)]) ++ l) := by
            rw [HW.out]
            conv => lhs; unfold wayF
            rw [← HXP.out, if_neg hle, if_pos (fitB_yes (by rw [Int.sub_eq_add_neg]; exact hf)), Option.map_map, HQ2.out, Int.sub_eq_add_neg]
            congr 1
            funext l
            simp
          have HWN := Lib.hid hwn
          have HFF := Lib.hid hf
          have hj1 : i * 2 + 1 < keys C m := by have := HKH.out; omega
          clear hwn hf
          go_wp2_with fail
          refine (HN1.out _).mono ?_
          rintro e wa ⟨rfl, hxa⟩
          go_wp2_with fail
          refine (HN2.out _).mono ?_
          rintro e wb ⟨rfl, hxb⟩
          go_wp2_with fail
          refine (LMinus_c x _).mono ?_
          rintro e wc ⟨rfl, hxc⟩
          go_wp2_with fail
          refine (LPlus_c k' (-x) _).mono ?_
          rintro e wd ⟨rfl, hxd⟩
          go_wp2_with fail
          refine (HI.out _).mono ?_
          rintro e wf ⟨rfl, hxf⟩
          have hE5f : Ext w5 wf := hxa.trans' (hxb.trans' (hxc.trans' (hxd.trans' hxf)))
          have ho6 := own_keepB HO5.out (fun j hj => hE5f.block j (own_lt HO5.out hj))
          have HO6 := Lib.hid ho6
          have HE6 := Lib.hid (HE5.out.trans' hE5f)
          generalize k' + -x = kn at *
          clear hxa hxb hxc hxd hxf ho6 hE5f
          go_wp2_with (at_builtin; refine wpList_appp wf (m, i * 2 + 1) dn _ w.heap.size 39 39 HO6.out 165 rfl _ _ rfl i0 z0 hi0 hz0 hz1 hz2 hzs Tryz.underlying165 rfl rfl hlen HE6.out.size ?_)
          intro v' w6 hw1 hw2 hw3
          have hE6 : Ext w w6 := ext_grown HE6.out hw2 (fun j hj => own_blk HO6.out hj)
          obtain ⟨pv2, cv2, rfl⟩ := own_sl hw1
          have HW1 := Lib.hid hw1
          clear hw1 hw2 hw3
          go_wp2
          go_roundw
          case rel => exact ⟨kn, m, i * 2 + 1, (m : Int) - 1, dn ++ [(m, i * 2 + 1)], rfl, rfl, by first | rfl | go_num, by omega, by rw [List.length_append, List.length_singleton]; have := HDL.out; omega, by rw [List.length_append, List.length_singleton]; omega, HWN.out, by omega, hj1, HFF.out, by rw [List.length_append]; exact HW1.out, hE6⟩
          case measure => simp [intOf] <;> omega
        · rw [fitB_no hf] at HI
          have hno : wayFP pt B k = none := by
            rw [HW.out]
            conv => lhs; unfold wayF
            rw [← HXP.out, if_neg hle, if_neg (by rw [fitB_no (by rw [Int.sub_eq_add_neg]; exact hf)]; decide)]
            rfl
          have HNO := Lib.hid hno
          clear hno hf
          go_wp2_with fail
          refine (HN1.out _).mono ?_
          rintro e wa ⟨rfl, hxa⟩
          go_wp2_with fail
          refine (HN2.out _).mono ?_
          rintro e wb ⟨rfl, hxb⟩
          go_wp2_with fail
          refine (LMinus_c x _).mono ?_
          rintro e wc ⟨rfl, hxc⟩
          go_wp2_with fail
          refine (LPlus_c k' (-x) _).mono ?_
          rintro e wd ⟨rfl, hxd⟩
          go_wp2_with fail
          refine (HI.out _).mono ?_
          rintro e wf ⟨rfl, hxf⟩
          have hE5f : Ext w5 wf := hxa.trans' (hxb.trans' (hxc.trans' (hxd.trans' hxf)))
          go_wp2
          go_ret2
          exact .inr (.inl ⟨⟨by omega, by omega⟩, HNO.out, rfl, HE5.out.trans' hE5f⟩)
end Go.Proofs.YtfhdjekpdifajaaGreat
namespace Go.Proofs.YtfhdjekpdifajaaGreat
set_option linter.unusedVariables false
open Go.RowKit
def quanR (pt : Nat → Int → Int) (B : Nat) (T k : Int) : Int × Int := if k < 1 ∨ T < k then (0, 6) else match wayFP pt B k with | none => (0, 4) | some ps => ((ps.getD B (0, 0)).2, 0)
set_option maxRecDepth 20000 in
set_option maxHeartbeats 4000000 in
theorem Quan_of (s : Nat) (B : Nat) (hBd : B ≤ 59) (pt : Nat → Int → Int) (T k : Int) (w : World) (h : ∀ W', Ext w W' → Calls Tryz.prog 91 #[.pointer (some ⟨s, 0, none⟩), .int .i64 k] W' (WayRPost W' B T pt k)) :
    Calls Tryz.prog 33 #[.pointer (some ⟨s, 0, none⟩), .int .i64 k] w fun e w' => e = .returned (.tuple #[.int .u64 (quanR pt B T k).1, .int .i64 (quanR pt B T k).2]) ∧ Ext w w' := by
  have HW := Lib.hid h
  clear h
  go_enter Tryz.func33, Tryz.ntmps33
  go_wp2_with fail
  refine (HW.out _ (by (repeat' (first | exact Ext.refl _ | assumption | apply Ext.allocR | apply Ext.drewR | apply Ext.drewNR | (refine Ext.trans' ?_ (by assumption)))))).mono ?_
  rintro e w1 (⟨hr, rfl, hx⟩ | ⟨hr, hn, rfl, hx⟩ | ⟨hr, ps, v, base, hsm, rfl, hbs, ho, hx⟩)
  · have HQ : Hid (quanR pt B T k = (0, 6)) := Lib.hid (by unfold quanR; rw [if_pos hr])
    clear hr
    go_wp2
    go_ret2
    exact ⟨by rw [HQ.out]; rfl, by (repeat' (first | exact Ext.refl _ | assumption | apply Ext.allocR | apply Ext.drewR | apply Ext.drewNR | (refine Ext.trans' ?_ (by assumption))))⟩
  · have HQ : Hid (quanR pt B T k = (0, 4)) := Lib.hid (by unfold quanR; rw [if_neg (by omega), hn])
    clear hr hn
    go_wp2
    go_ret2
    exact ⟨by rw [HQ.out]; rfl, by (repeat' (first | exact Ext.refl _ | assumption | apply Ext.allocR | apply Ext.drewR | apply Ext.drewNR | (refine Ext.trans' ?_ (by assumption))))⟩
  · have hlen := wayFP_len hsm
    have HQ : Hid (quanR pt B T k = ((ps.getD B (0, 0)).2, 0)) := Lib.hid (by unfold quanR; rw [if_neg (by omega), hsm])
    obtain ⟨g', cap, rfl, hgl, hpc⟩ := own_pieces ho (by omega)
    obtain ⟨_, q1⟩ := hpc B (by omega)
    rw [Nat.zero_add] at q1
    have hE : Ext w w1 := by (repeat' (first | exact Ext.refl _ | assumption | apply Ext.allocR | apply Ext.drewR | apply Ext.drewNR | (refine Ext.trans' ?_ (by assumption))))
    clear ho hpc hx hr hsm
    rw [hlen]
    clear hlen
    go_wp2
    go_ret2
    exact ⟨by rw [HQ.out]; rfl, hE⟩
set_option maxRecDepth 20000 in
set_option maxHeartbeats 4000000 in
theorem RQuan_of (s : Nat) (B : Nat) (hBd : B ≤ 59) (pt : Nat → Int → Int) (T k : Int) (w : World) (h : ∀ W', Ext w W' → Calls Tryz.prog 93 #[.pointer (some ⟨s, 0, none⟩), .int .i64 k] W' (WayRPost W' B T pt k)) :
    Calls Tryz.prog 34 #[.pointer (some ⟨s, 0, none⟩), .int .i64 k] w fun e w' => e = .returned (.tuple #[.int .u64 (quanR pt B T k).1, .int .i64 (quanR pt B T k).2]) ∧ Ext w w' := by
  have HW := Lib.hid h
  clear h
  go_enter Tryz.func34, Tryz.ntmps34
  go_wp2_with fail
  refine (HW.out _ (by (repeat' (first | exact Ext.refl _ | assumption | apply Ext.allocR | apply Ext.drewR | apply Ext.drewNR | (refine Ext.trans' ?_ (by assumption)))))).mono ?_
  rintro e w1 (⟨hr, rfl, hx⟩ | ⟨hr, hn, rfl, hx⟩ | ⟨hr, ps, v, base, hsm, rfl, hbs, ho, hx⟩)
  · have HQ : Hid (quanR pt B T k = (0, 6)) := Lib.hid (by unfold quanR; rw [if_pos hr])
    clear hr
    go_wp2
    go_ret2
    exact ⟨by rw [HQ.out]; rfl, by (repeat' (first | exact Ext.refl _ | assumption | apply Ext.allocR | apply Ext.drewR | apply Ext.drewNR | (refine Ext.trans' ?_ (by assumption))))⟩
  · have HQ : Hid (quanR pt B T k = (0, 4)) := Lib.hid (by unfold quanR; rw [if_neg (by omega), hn])
    clear hr hn
    go_wp2
    go_ret2
    exact ⟨by rw [HQ.out]; rfl, by (repeat' (first | exact Ext.refl _ | assumption | apply Ext.allocR | apply Ext.drewR | apply Ext.drewNR | (refine Ext.trans' ?_ (by assumption))))⟩
  · have hlen := wayFP_len hsm
    have HQ : Hid (quanR pt B T k = ((ps.getD B (0, 0)).2, 0)) := Lib.hid (by unfold quanR; rw [if_neg (by omega), hsm])
    obtain ⟨g', cap, rfl, hgl, hpc⟩ := own_pieces ho (by omega)
    obtain ⟨_, q1⟩ := hpc B (by omega)
    rw [Nat.zero_add] at q1
    have hE : Ext w w1 := by (repeat' (first | exact Ext.refl _ | assumption | apply Ext.allocR | apply Ext.drewR | apply Ext.drewNR | (refine Ext.trans' ?_ (by assumption))))
    clear ho hpc hx hr hsm
    rw [hlen]
    clear hlen
    go_wp2
    go_ret2
    exact ⟨by rw [HQ.out]; rfl, hE⟩
end Go.Proofs.YtfhdjekpdifajaaGreat
namespace Go.Proofs.YtfhdjekpdifajaaGreat
set_option linter.unusedVariables false
open Go.RowKit
/-- The pairs that a stack is told. -/
def psU (C : Cfg) (us : List (Int × Int)) : List (Int × Int) := stP C 0 (fus us 0 60)
open Classical in
/-- What a piece is told. -/
noncomputable def ptK (C : Cfg) (B : Nat) (us : List (Int × Int)) (n : Nat) (i : Int) : Int :=
  if h : n ≤ B ∧ 0 ≤ i ∧ i < keys C n ∧ ∃ x, lvPt C n (feedK C (fus us 0 60) n) i x then Classical.choose h.2.2.2 else pcS (psU C us) n i
theorem ptK_of {C : Cfg} {B : Nat} {us : List (Int × Int)} {n : Nat} {i x : Int} (hn : n ≤ B) (h0 : 0 ≤ i) (h1 : i < keys C n) (h : lvPt C n (feedK C (fus us 0 60) n) i x) : x = ptK C B us n i := by
  have hx : n ≤ B ∧ 0 ≤ i ∧ i < keys C n ∧ ∃ x, lvPt C n (feedK C (fus us 0 60) n) i x := ⟨hn, h0, h1, x, h⟩
  unfold ptK
  rw [dif_pos hx]
  exact lvPt_unique h (Classical.choose_spec hx.2.2.2)
theorem hasK_pc (C : Cfg) (us : List (Int × Int)) (n : Nat) (j : Int) : hasK C us 60 n j = pcS (psU C us) n j := by
  unfold hasK hasP pcS psU
  exact sumIf_stP C n _ _
/-- Of an exact level. -/
theorem ptK_x {C : Cfg} (hok : C.Ok) {B : Nat} (hB : C.bits = B) {us : List (Int × Int)} (hus : UpsOk us) {n : Nat} (hn : n ≤ B) {i : Int} (h0 : 0 ≤ i) (h1 : i < keys C n) (hx : isX C n = true) : ptK C B us n i = pcS (psU C us) n i := by
  have h : lvPt C n (feedK C (fus us 0 60) n) i ((feedK C (fus us 0 60) n).getD i.toNat 0) := .inl ⟨hx, rfl⟩
  rw [← ptK_of hn h0 h1 h, ← hasK_pc]
  exact pt_x hok (by omega) hus hx h0 h
end Go.Proofs.YtfhdjekpdifajaaGreat
namespace Go.Proofs.YtfhdjekpdifajaaGreat
set_option linter.unusedVariables false
open Go.RowKit
/-- A way, or none. -/
def PAt (w : World) (v : Value) (ps : List (Nat × Int)) : Prop := (v = .slice none 0 0 ∧ ps = []) ∨ (0 < ps.length ∧ ps.length ≤ 60 ∧ ∃ g c, v = .slice (some ⟨g, 0, none⟩) ps.length c ∧ g < w.heap.size ∧ PCells w g 0 ps)
theorem PAt.ext {w w' : World} {v : Value} {ps : List (Nat × Int)} (h : PAt w v ps) (he : Ext w w') : PAt w' v ps :=
  h.imp id (fun ⟨h0, h1, g, c, hv, hg, hp⟩ => ⟨h0, h1, g, c, hv, Nat.lt_of_lt_of_le hg he.size, hp.ext hg he⟩)
section
variable {N : Nat} {w w' : World} {C : Cfg} {B s r : Nat} {ls : Nat → List Int}
theorem KP_way (h : KP N w C B s r ls ls) (k : Int) (hk : I64 k) :
    Calls Tryz.prog 91 #[.pointer (some ⟨s, 0, none⟩), .int .i64 k] w (WayRPost w B ((ls B).getD 0 0) (ptU C ls) k) := by
  have hU := ptU_uniq h
  obtain ⟨g, L, t, L2, z, h1, h2, h3, h4, h5, h6, h7⟩ := h
  exact WayR_c s g C B L ls w h1 k hk (ptU C ls) hU (ptU_I C ls)
theorem KP_rway (h : KP N w C B s r ls ls) (k : Int) (hk : I64 k) :
    Calls Tryz.prog 93 #[.pointer (some ⟨r, 0, none⟩), .int .i64 k] w (WayRPost w B ((ls B).getD 0 0) (ptU C ls) k) := by
  have hU := ptU_uniq h
  obtain ⟨g, L, t, L2, z, h1, h2, h3, h4, h5, h6, h7⟩ := h
  exact RWay_c r t C B L2 ls w h4 k hk (ptU C ls) hU (ptU_I C ls)
theorem KP.b59 (h : KP N w C B s r ls ls) : B ≤ 59 := by
  have h1 := h.rok
  have := h1.1.b2
  have := h1.2
  omega
theorem KP_quan (h : KP N w C B s r ls ls) (k : Int) (hk : I64 k) :
    Calls Tryz.prog 33 #[.pointer (some ⟨s, 0, none⟩), .int .i64 k] w fun e w' => e = .returned (.tuple #[.int .u64 (quanR (ptU C ls) B ((ls B).getD 0 0) k).1, .int .i64 (quanR (ptU C ls) B ((ls B).getD 0 0) k).2]) ∧ Ext w w' :=
  Quan_of s B h.b59 (ptU C ls) _ k w (fun W' hE => KP_way (h.ext hE) k hk)
theorem KP_rquan (h : KP N w C B s r ls ls) (k : Int) (hk : I64 k) :
    Calls Tryz.prog 34 #[.pointer (some ⟨r, 0, none⟩), .int .i64 k] w fun e w' => e = .returned (.tuple #[.int .u64 (quanR (ptU C ls) B ((ls B).getD 0 0) k).1, .int .i64 (quanR (ptU C ls) B ((ls B).getD 0 0) k).2]) ∧ Ext w w' :=
  RQuan_of r B h.b59 (ptU C ls) _ k w (fun W' hE => KP_rway (h.ext hE) k hk)
end
end Go.Proofs.YtfhdjekpdifajaaGreat
namespace Go.Proofs.YtfhdjekpdifajaaGreat
set_option linter.unusedVariables false
open Go.RowKit
abbrev Opn := Int × Int × Int
def OpsAt (w : World) (v : Value) (os : List Opn) : Prop :=
  ((∃ p, v = .slice p 0 0) ∧ os = []) ∨ ∃ g off cap, v = .slice (some ⟨g, off, none⟩) os.length cap ∧ g < w.heap.size ∧
    ∀ k, k < os.length → w.cell? ⟨g, off + k * 3, none⟩ = some (.int .i64 (os.getD k (0, 0, 0)).1) ∧ w.cell? ⟨g, off + k * 3 + 1, none⟩ = some (.int .u64 (os.getD k (0, 0, 0)).2.1) ∧ w.cell? ⟨g, off + k * 3 + 2, none⟩ = some (.int .i64 (os.getD k (0, 0, 0)).2.2)
theorem OpsAt.ext {w w' : World} {v : Value} {os : List Opn} (h : OpsAt w v os) (he : Ext w w') : OpsAt w' v os := by
  rcases h with h | ⟨g, off, cap, h1, h2, h3⟩
  · exact .inl h
  · exact .inr ⟨g, off, cap, h1, Nat.lt_of_lt_of_le h2 he.size, fun k hk => ⟨((bcell he).1 _ _ h2).trans (h3 k hk).1, ((bcell he).1 _ _ h2).trans (h3 k hk).2.1, ((bcell he).1 _ _ h2).trans (h3 k hk).2.2⟩⟩
theorem OpsAt.sl {w : World} {v : Value} {os : List Opn} (h : OpsAt w v os) : ∃ p c, v = .slice p os.length c := by
  rcases h with ⟨⟨p, rfl⟩, rfl⟩ | ⟨g, off, cap, rfl, _⟩
  · exact ⟨p, 0, rfl⟩
  · exact ⟨_, cap, rfl⟩
theorem OpsAt.one {w : World} {p : Option Addr} {n c : Nat} {os : List Opn} (h : OpsAt w (.slice p n c) os) {k : Nat} (hk : k < os.length) :
    ∃ g off, p = some ⟨g, off, none⟩ ∧ g < w.heap.size ∧ w.cell? ⟨g, off + k * 3, none⟩ = some (.int .i64 os[k].1) ∧ w.cell? ⟨g, off + k * 3 + 1, none⟩ = some (.int .u64 os[k].2.1) ∧ w.cell? ⟨g, off + k * 3 + 2, none⟩ = some (.int .i64 os[k].2.2) := by
  rcases h with ⟨_, rfl⟩ | ⟨g, off, cap, h1, h2, h3⟩
  · exact absurd hk (Nat.not_lt_zero _)
  · have e := Value.slice.inj h1
    have hg : os.getD k (0, 0, 0) = os[k] := by simp [hk]
    have := h3 k hk
    rw [hg] at this
    exact ⟨g, off, e.1, h2, this⟩
end Go.Proofs.YtfhdjekpdifajaaGreat
namespace Go.Proofs.YtfhdjekpdifajaaGreat
set_option linter.unusedVariables false
open Go.RowKit
def MadePost (w : World) (C : Cfg) (e : Ending) (w' : World) : Prop :=
  ∃ (B s r N : Nat) (y : Nat → List Int), e = .returned (.tuple #[.pointer (some ⟨s, 0, none⟩), .pointer (some ⟨r, 0, none⟩)]) ∧ C.bits = B ∧ C.Ok ∧ KP N w' C B s r y y ∧ w.heap.size ≤ N ∧ Ext w w'
set_option maxRecDepth 20000 in
set_option maxHeartbeats 16000000 in
theorem Made_c (nb : Int) (hnb : nb = 5 ∨ nb = 6) (x : Cfg) (hx : x.Raw) (us : List (Int × Int)) (hus : UpsOk us) (v : Value) (w : World) (hv : UpsAt w v us) (hul : us.length ≤ 140737488355328) :
    Calls Tryz.prog 70 #[.agg #[.int .i64 x.bits, .int .i64 x.rows, .int .i64 x.width, .int .i64 x.mode, .int .u64 x.seed, v], .int .i64 nb] w (MadePost w (mkC x nb 9)) := by
  obtain ⟨vp, vc, rfl⟩ := hv.sl
  have HV := Lib.hid hv
  have hANY := fun W => Any_c x hx nb 9 (by omega) (by omega) (by decide) (by decide) W
  have hok := mkC_ok x hx.s (nb := nb) (nw := 9) (by omega) (by omega) (by decide) (by decide)
  have hT1 := heap_at w (.cells #[.int .i64 x.bits, .int .i64 x.rows, .int .i64 x.width, .int .i64 x.mode, .int .u64 x.seed, .slice vp us.length vc] 107) rfl
  have hE1 : Ext w (w.alloc (.cells #[.int .i64 x.bits, .int .i64 x.rows, .int .i64 x.width, .int .i64 x.mode, .int .u64 x.seed, .slice vp us.length vc] 107)) := Ext.alloc' _ _
  clear hv
  generalize mkC x nb 9 = C at *
  have HANY := Lib.hid hANY
  have HT1 := Lib.hid hT1
  have HE1 := Lib.hid hE1
  clear hANY hT1 hE1
  go_enter Tryz.func70, Tryz.ntmps70
  go_wp2_with fail
  refine Calls.mono (HANY.out _) ?_
  rintro e w2 ⟨rfl, hx2⟩
  have hE2 := HE1.out.trans' hx2
  have hT2 := hx2.keep HT1.out
  have hb1 := hok.b1
  have hb2 := hok.b2
  have HT2 := Lib.hid hT2
  clear hx2 hT2 HT1 HE1 HANY
  obtain ⟨B, hB⟩ : ∃ B : Nat, C.bits = B := ⟨C.bits.toNat, by omega⟩
  have hBt : C.bits.toNat = B := by omega
  have HBB := Lib.hid (And.intro hb1 (And.intro hb2 hB))
  have HKN := Lib.hid (fun W' => KNew_c C hok W')
  have HRN := Lib.hid (fun W' => RKNew_c C hok B hB W')
  have HBT := Lib.hid hBt
  clear hB hBt
  go_upto_region 2 with (fail)
  obtain ⟨w3, hw3⟩ : ∃ w3, w2.alloc (.cells #[.int .i64 C.bits, .int .i64 C.rows, .int .i64 C.width, .int .i64 C.mode, .int .u64 C.seed] 24) = w3 := ⟨_, rfl⟩
  have hQ : w3.heap[w2.heap.size]? = some (.cells #[.int .i64 C.bits, .int .i64 C.rows, .int .i64 C.width, .int .i64 C.mode, .int .u64 C.seed] 24 (0, 0)) := by rw [← hw3]; exact heap_at _ _ rfl
  have hE3 : Ext w w3 := by rw [← hw3]; exact hE2.allocR _
  have hE23 : Ext w2 w3 := by rw [← hw3]; exact Ext.alloc' _ _
  have hT3 := hE23.keep HT2.out
  have HT3 := Lib.hid hT3
  try rw [hw3]
  have HE3 := Lib.hid hE3
  have HQ := Lib.hid hQ
  have hC3 := CfgAt.of hQ
  clear hw3 hE2 HT2 hE23 hT3 hb1 hb2
  have c0 := hC3.c0
  have c1 := hC3.c1
  have c2 := hC3.c2
  have c3 := hC3.c3
  have c4 := hC3.c4
  have cl := hC3.lt
  clear hC3 hQ hE3
  go_wp2_with fail
  refine (HKN.out _).mono ?_
  rintro e w4 ⟨s, g, L, rfl, hK, s1, s2, hF, hx4⟩
  rw [HBT.out] at hK hF
  have HK := Lib.hid hK
  have HF := Lib.hid (show KFresh w3.heap.size B L from hF)
  have HS := Lib.hid (And.intro s1 s2)
  have HX4 := Lib.hid hx4
  have hC4 := CfgAt.of (hx4.keep HQ.out)
  clear c0 c1 c2 c3 c4 cl hK hF s1 s2 hx4
  have c0 := hC4.c0
  have c1 := hC4.c1
  have c2 := hC4.c2
  have c3 := hC4.c3
  have c4 := hC4.c4
  have cl := hC4.lt
  clear hC4
  go_wp2_with fail
  refine (HRN.out _).mono ?_
  rintro e w5 ⟨r, t, L2, rfl, hR, hRF, hx5⟩
  have hE35 := HX4.out.trans' hx5
  have hKP : KP w3.heap.size w5 C B s r (fun n => zs (lvN C n)) (fun n => zs (lvN C n)) := ⟨g, L, t, L2, w4.heap.size, HK.out.ext hx5, HK.out.low, HF.out, hR, hRF, HX4.out.size, hx5.size⟩
  have HKP := Lib.hid hKP
  clear c0 c1 c2 c3 c4 cl hR hRF hx5 hKP HK HF HS HX4 HKN HRN
  obtain ⟨N, hN⟩ : ∃ N, w3.heap.size = N := ⟨_, rfl⟩
  have hwN : w.heap.size ≤ N := by rw [← hN]; exact HE3.out.size
  rw [hN] at HKP
  have HBN : Hid (w.heap.size < N) := Lib.hid (by rw [← hN]; exact lt_of HT3.out)
  have HN := Lib.hid hN
  clear hN
  go_wp2_with fail
  go_loopw [10] (fun u wr => ∃ (k : Nat) (y : Nat → List Int), k ≤ 30 ∧ k ≤ us.length ∧ u = .int .i64 k ∧ Ext w3 wr ∧ KP N wr C B s r y y) (fun u _ => 30 - (intOf u).toNat)
  case atStart => exact ⟨0, _, Nat.zero_le _, Nat.zero_le _, rfl, hE35, HKP.out⟩
  case round =>
    clear hE35 HKP
    obtain ⟨k, y, hk30, hkl, rfl, hE, hS⟩ := hrel
    have HS := Lib.hid hS
    have hT := hE.keep HT3.out
    have b6 := (cell_of hT 5).trans rfl
    have bl := lt_of hT
    clear hS hT
    by_cases hgo : k < us.length ∧ k < 30
    · obtain ⟨hg1, hg2⟩ := hgo
      obtain ⟨ug, off, hvp, hul0, d1', d2'⟩ := HV.out.one hg1
      subst hvp
      have hEw := HE3.out.trans' hE
      have d1 := ((bcell hEw).1 _ _ hul0).trans d1'
      have d2 := ((bcell hEw).1 _ _ hul0).trans d2'
      have gl := Nat.lt_of_lt_of_le hul0 hEw.size
      have hugN : ug < N := Nat.lt_of_lt_of_le hul0 hwN
      have hu := hus _ (List.getElem_mem hg1)
      generalize us[k] = oo at *
      obtain ⟨uk, ud⟩ := oo
      obtain ⟨hukU, hudI⟩ := hu
      have HUK := Lib.hid hukU
      have HUD := Lib.hid hudI
      have HER := Lib.hid hE
      obtain ⟨S, hS⟩ : ∃ S : Nat → Prop, (fun k => N ≤ k) = S := ⟨_, rfl⟩
      have HSS := Lib.hid hS
      have ns1 : ¬ S ug := by rw [← hS]; show ¬ N ≤ ug; omega
      have ns2 : ¬ S w.heap.size := by rw [← hS]; show ¬ N ≤ w.heap.size; have := HBN.out; omega
      clear hS
      clear d1' d2' hukU hudI hEw hE
      go_wp2_with fail
      have hC0 := afs_drew S wr
      refine pi_start (fun w' => ∃ x : AftS S wr, w' = x.w) [] (by kernel_rfl) ?_
      refine pi_t 0 rfl (by kernel_rfl) (by kernel_rfl) (fun _ _ _ _ h => h) (fun K hK => ?_)
      go_big_quiet_op
      refine hK _ ?_
      clear hK K
      refine pi_t 1 rfl (by kernel_rfl) (by kernel_rfl) (fun _ _ _ _ h => h) (fun K hK => ?_)
      go_big_quiet_op
      refine hK _ ?_
      clear hK K
      refine pi_t 3 rfl (by kernel_rfl) (by kernel_rfl) (fun _ _ _ _ h => h) (fun K hK => ?_)
      go_big_quiet_op
      refine hK _ ?_
      clear hK K
      refine pi_t 7 rfl (by kernel_rfl) (by kernel_rfl) (fun _ _ _ _ h => h) (fun K hK => ?_)
      go_big_quiet_op
      refine hK _ ?_
      clear hK K
      refine pi_t 9 rfl (by kernel_rfl) (by kernel_rfl) (fun _ _ _ _ h => h) (fun K hK => ?_)
      go_big_quiet_op
      refine hK _ ?_
      clear hK K
      refine pi_c 2 (by assumption) rfl (by kernel_rfl) (by kernel_rfl) (fun _ _ _ _ h => h) (fun K hK => ?_)
      go_big_quiet_op
      refine hK _ ?_
      clear hK K
      refine pi_t 4 rfl (by kernel_rfl) (by kernel_rfl) (fun _ _ _ _ h => h) (fun K hK => ?_)
      go_big_quiet_op
      refine hK _ ?_
      clear hK K
      refine pi_t 5 rfl (by kernel_rfl) (by kernel_rfl) (fun _ _ _ _ h => h) (fun K hK => ?_)
      go_big_quiet_op
      refine hK _ ?_
      clear hK K
      refine pi_c 6 (by assumption) rfl (by kernel_rfl) (by kernel_rfl) (fun _ _ _ _ h => h) (fun K hK => ?_)
      go_big_quiet_op
      refine hK _ ?_
      clear hK K
      refine pi_c 8 (by assumption) rfl (by kernel_rfl) (by kernel_rfl) (fun _ _ _ _ h => h) (fun K hK => ?_)
      go_big_quiet_op
      refine hK _ ?_
      clear hK K
      refine pi_t 10 rfl (by kernel_rfl) (by kernel_rfl) (fun _ _ _ _ h => h) (fun K hK => ?_)
      go_big_quiet_op
      refine hK _ ?_
      clear hK K
      refine pi_t 11 rfl (by kernel_rfl) (by kernel_rfl) (fun _ _ _ _ h => h) (fun K hK => ?_)
      go_big_quiet_op
      refine hK _ ?_
      clear hK K
      refine pi_c 12 (by assumption) rfl (by kernel_rfl) (by kernel_rfl) (fun _ _ _ _ h => h) (fun K hK => ?_)
      go_big_quiet_op
      refine hK _ ?_
      clear hK K
      refine pi_l 13 rfl (by kernel_rfl) (fun K hK => ?_)
      go_wp2_with (go_at_call 26; refine Calls.mono (KP_upd (HS.out.ext (Below.drew (Ext.refl wr))) uk ud HUK.out HUD.out) ?_; rintro e w8 ⟨rfl, hQ8, hB8⟩)
      have hB8' : Below N wr w8 := Below.trans (below_of (Below.drew (Ext.refl wr)) (by have := HER.out.size; have := HN.out; omega)) hB8
      refine hK _ _ (fun _ _ => ⟨⟨w8, by rw [← HSS.out]; exact mod_below hB8'⟩, rfl⟩) ?_
      clear hK K
      have HQ8 := Lib.hid hQ8
      have HB8 := Lib.hid hB8'
      have e1' := cell_below hB8' hugN d1
      have e2' := cell_below hB8' hugN d2
      have b6' := cell_below hB8' HBN.out b6
      have gl8 := Nat.lt_of_lt_of_le gl hB8'.size
      have bl8 := Nat.lt_of_lt_of_le bl hB8'.size
      clear hQ8 hB8 hB8' d1 d2 b6
      refine pi_end (by kernel_rfl) ?_
      go_wp2_with fail
      have hC0 := afs_drew S w8
      refine pi_start (fun w' => ∃ x : AftS S w8, w' = x.w) [] (by kernel_rfl) ?_
      refine pi_t 0 rfl (by kernel_rfl) (by kernel_rfl) (fun _ _ _ _ h => h) (fun K hK => ?_)
      go_big_quiet_op
      refine hK _ ?_
      clear hK K
      refine pi_t 1 rfl (by kernel_rfl) (by kernel_rfl) (fun _ _ _ _ h => h) (fun K hK => ?_)
      go_big_quiet_op
      refine hK _ ?_
      clear hK K
      refine pi_t 3 rfl (by kernel_rfl) (by kernel_rfl) (fun _ _ _ _ h => h) (fun K hK => ?_)
      go_big_quiet_op
      refine hK _ ?_
      clear hK K
      refine pi_t 7 rfl (by kernel_rfl) (by kernel_rfl) (fun _ _ _ _ h => h) (fun K hK => ?_)
      go_big_quiet_op
      refine hK _ ?_
      clear hK K
      refine pi_t 9 rfl (by kernel_rfl) (by kernel_rfl) (fun _ _ _ _ h => h) (fun K hK => ?_)
      go_big_quiet_op
      refine hK _ ?_
      clear hK K
      refine pi_c 2 (by assumption) rfl (by kernel_rfl) (by kernel_rfl) (fun _ _ _ _ h => h) (fun K hK => ?_)
      go_big_quiet_op
      refine hK _ ?_
      clear hK K
      refine pi_t 4 rfl (by kernel_rfl) (by kernel_rfl) (fun _ _ _ _ h => h) (fun K hK => ?_)
      go_big_quiet_op
      refine hK _ ?_
      clear hK K
      refine pi_t 5 rfl (by kernel_rfl) (by kernel_rfl) (fun _ _ _ _ h => h) (fun K hK => ?_)
      go_big_quiet_op
      refine hK _ ?_
      clear hK K
      refine pi_c 6 (by assumption) rfl (by kernel_rfl) (by kernel_rfl) (fun _ _ _ _ h => h) (fun K hK => ?_)
      go_big_quiet_op
      refine hK _ ?_
      clear hK K
      refine pi_c 8 (by assumption) rfl (by kernel_rfl) (by kernel_rfl) (fun _ _ _ _ h => h) (fun K hK => ?_)
      go_big_quiet_op
      refine hK _ ?_
      clear hK K
      refine pi_t 10 rfl (by kernel_rfl) (by kernel_rfl) (fun _ _ _ _ h => h) (fun K hK => ?_)
      go_big_quiet_op
      refine hK _ ?_
      clear hK K
      refine pi_t 11 rfl (by kernel_rfl) (by kernel_rfl) (fun _ _ _ _ h => h) (fun K hK => ?_)
      go_big_quiet_op
      refine hK _ ?_
      clear hK K
      refine pi_c 12 (by assumption) rfl (by kernel_rfl) (by kernel_rfl) (fun _ _ _ _ h => h) (fun K hK => ?_)
      go_big_quiet_op
      refine hK _ ?_
      clear hK K
      refine pi_l 13 rfl (by kernel_rfl) (fun K hK => ?_)
      go_wp2_with (go_at_call 27; refine Calls.mono (KP_rupd (HQ8.out.ext (Below.drew (Ext.refl w8))) uk ud HUK.out HUD.out) ?_; rintro e w9 ⟨rfl, hQ9, hB9⟩)
      have hB89 : Below N w8 w9 := Below.trans (below_of (Below.drew (Ext.refl w8)) (by have := HER.out.size; have := HN.out; have := HB8.out.size; omega)) hB9
      refine hK _ _ (fun _ _ => ⟨⟨w9, by rw [← HSS.out]; exact mod_below hB89⟩, rfl⟩) ?_
      clear hK K
      have HQ9 := Lib.hid hQ9
      have hB9' : Below N wr w9 := Below.trans HB8.out hB89
      have hE9 : Ext w3 w9 := Below.trans HER.out (by rw [HN.out]; exact hB9')
      clear hQ9 hB9 hB9' hB89 e1' e2' b6'
      refine pi_end (by kernel_rfl) ?_
      go_wp2
      go_roundw
      case rel => exact ⟨k + 1, _, by omega, by omega, by go_num, hE9, HQ9.out⟩
      case measure => simp [intOf]; omega
    · have hge : ¬ k < us.length ∨ ¬ k < 30 := by omega
      clear hgo
      rename World => wo
      go_upto_region 7 with (fail)
      go_cut [37] (fun s74 wx => s74 = .bool false ∧ wx = wo)
      case first =>
        by_cases hgl : k < us.length
        · have hg6 : ¬ k < 30 := by omega
          go_wp2_with fail
          go_meet
          exact ⟨by first | rfl | exact congrArg Value.bool (decide_eq_false (by omega)), rfl⟩
        · first
            | (go_wp2_with fail
               go_meet
               exact ⟨rfl, rfl⟩)
            | (clear hge
               go_wp2_with fail
               go_meet
               exact ⟨by first | rfl | exact congrArg Value.bool (decide_eq_false (by omega)), rfl⟩)
      case rest =>
        obtain ⟨rfl, rfl⟩ := hcut
        clear hge b6 bl hkl hk30
        have HE := Lib.hid (HE3.out.trans' hE)
        have HFIN := Lib.hid (And.intro HBB.out.2.2 (And.intro hok HS.out))
        clear hE
        go_wp2
        go_ret2
        exact ⟨B, s, r, N, y, rfl, HFIN.out.1, HFIN.out.2.1, HFIN.out.2.2, hwN, HE.out⟩
end Go.Proofs.YtfhdjekpdifajaaGreat
namespace Go.Proofs.YtfhdjekpdifajaaGreat
set_option linter.unusedVariables false
open Go.RowKit
section
variable {P : Program}
/-- 's = append(s, ..)', the new ones in a block that was laid just now. -/
theorem wpList_appK (W : World) {ops : Array Oper} {rest : List Oper} {o : Oper} {a : Act} {Q : Exit → Act → World → Prop} (size by_ m : Nat) (hsz : 0 < size) (hby : by_ ≤ 64) (news : List Value) (hnl : news.length = m * size) (h1 : ∀ u ∈ news, u.oneCell' = true)
    (xs : List Value) (n : Nat) (v : Value) (base : Nat) (e e' : TypeId) (hown : W.ownsRow base e size v n xs) (t : TypeId)
    (hgd : o.guard = none) (s y : Operand) (ho : o.op = .call { callee := .builtin .append, args := #[s, y], argTypes := #[t, t] })
    (hinfo : ∃ i z, P.info? e = some i ∧ i.zero = some z ∧ i.size = size ∧ i.bytes = by_ ∧ z.cells.size = size) (ht : P.underlying t = some (.slice e))
    (cells : Array Value) (hcl : cells.toList = news)
    (hs : a.eval s = v) (hx : a.eval y = .slice (some ⟨W.heap.size, 0, none⟩) m m)
    (hl : n + m ≤ 1000000000) (hbase : base ≤ W.heap.size)
    (h : ∀ v' w', w'.ownsRow base e size v' (n + m) (xs ++ news) → (W.alloc (.cells cells e')).grownBy w' v.ownBlock → (v'.ownBlock = v.ownBlock ∨ v'.ownBlock = some (W.heap.size + 1)) → wpList P ops Q rest (a.put o.dst v') w') :
    wpList P ops Q (o :: rest) a (W.alloc (.cells cells e')) := by
  obtain ⟨i0, z, hi, hz0, hz1, hz2, hz3⟩ := hinfo
  refine wpList_append_sep _ hgd s y t ho base e i0 z size by_ ht hi hz0 hz1 hz2 hz3 hsz v n xs hs (hown.alloc _) ⟨W.heap.size, 0, none⟩ m m news hx hnl ?_ h1 (by unfold maxLen; omega) ?_ (by rw [size_alloc]; omega) ?_
  · intro j u hu
    rw [show (⟨W.heap.size, 0, none⟩ : Addr).add j = ⟨W.heap.size, j, none⟩ by (simp [Addr.add]; try omega), cell_of (heap_at W _ rfl) j, ← Array.getElem?_toList, hcl]
    exact hu
  · have h2 : (n + m) * by_ ≤ 1000000000 * 64 := Nat.mul_le_mul hl hby
    omega
  · intro v' w' h1 h2 h3
    rw [size_alloc] at h3
    exact h v' w' h1 h2 h3
end
theorem own_grownT {W W' : World} {bA bB nA nB sA sB : Nat} {eA eB : TypeId} {vA vB : Value} {xA xB : List Value} (hA : W.ownsRow bA eA sA vA nA xA) (hB : W.ownsRow bB eB sB vB nB xB) (hne : eA ≠ eB) (hg : W.grownBy W' vB.ownBlock) : W'.ownsRow bA eA sA vA nA xA :=
  own_keepB hA fun k hk => hg.block k (own_lt hA hk) fun e => by
    obtain ⟨c1, h1⟩ := own_type hA hk
    obtain ⟨c2, h2⟩ := own_type hB e.symm
    rw [h1] at h2
    cases h2
    exact hne rfl
/-- A row that was there before another one's base. -/
theorem own_grownL {W W' : World} {bA bB nA nB sA sB : Nat} {eA eB : TypeId} {vA vB : Value} {xA xB : List Value} (hA : W.ownsRow bA eA sA vA nA xA) (hB : W.ownsRow bB eB sB vB nB xB) (hlt : ∀ k, vA.ownBlock = some k → k < bB) (hg : W.grownBy W' vB.ownBlock) : W'.ownsRow bA eA sA vA nA xA :=
  own_keepB hA fun k hk => hg.block k (own_lt hA hk) fun e => by
    have h1 := hlt k hk
    rcases hB.2 with ⟨rfl, _⟩ | ⟨g, cap, cur, rfl, hb, _⟩
    · cases e
    · have : k = g := Option.some.inj e
      omega
theorem own_bmono {w : World} {base base' n size : Nat} {e : TypeId} {v : Value} {xs : List Value} (h : w.ownsRow base e size v n xs) (hb : base' ≤ base) : w.ownsRow base' e size v n xs := by
  obtain ⟨h1, h2⟩ := h
  refine ⟨h1, ?_⟩
  rcases h2 with h2 | ⟨g, cap, cur, h3, h4, h5⟩
  · exact .inl h2
  · exact .inr ⟨g, cap, cur, h3, Nat.le_trans hb h4, h5⟩
theorem own_geB {w : World} {base n size : Nat} {e : TypeId} {v : Value} {xs : List Value} (h : w.ownsRow base e size v n xs) {k : Nat} (hk : v.ownBlock = some k) : base ≤ k := by
  rcases h.2 with ⟨rfl, _⟩ | ⟨g, cap, cur, rfl, hb, _⟩
  · cases hk
  · have : g = k := Option.some.inj hk
    omega
/-- What is laid in one piece is a row. -/
theorem own_newK (w : World) (base : Nat) (hb : base ≤ w.heap.size) (e : TypeId) (size n : Nat) (cells : Array Value) (hn : n ≤ maxLen) (hc : cells.size = n * size) : (w.alloc (.cells cells e)).ownsRow base e size (.slice (some ⟨w.heap.size, 0, none⟩) n n) n cells.toList := by
  refine ⟨by rw [Array.length_toList]; exact hc, .inr ⟨w.heap.size, n, cells, rfl, hb, heap_at w _ rfl, Nat.le_refl _, hn, hc, ?_⟩⟩
  rw [← hc, ← Array.length_toList, List.take_length]
theorem own_row_cells {w : World} {base n size : Nat} {e : TypeId} {v : Value} {xs : List Value} (h : w.ownsRow base e size v n xs) (hn : 0 < n) : ∃ g cap, v = .slice (some ⟨g, 0, none⟩) n cap ∧ base ≤ g ∧ g < w.heap.size ∧ ∀ j, j < n * size → w.cell? ⟨g, j, none⟩ = xs[j]? := by
  rcases h.2 with ⟨_, h0⟩ | ⟨g, cap, cur, rfl, hb, hh, hc, hm, hs, ht⟩
  · omega
  · refine ⟨g, cap, rfl, hb, lt_of hh, fun j hj => ?_⟩
    rw [cell_of hh, ← ht, List.getElem?_take_of_lt hj, Array.getElem?_toList]
end Go.Proofs.YtfhdjekpdifajaaGreat
namespace Go.Proofs.YtfhdjekpdifajaaGreat
set_option linter.unusedVariables false
open Go.RowKit
def sF (s b c : Nat) (k : Nat) : Prop := k = s ∨ k = b ∨ k = c
theorem SAt.own {w : World} {s b c : Nat} {C : Cfg} {lv : Int} {R W : Nat} {l : List Int} (h : SAt w s b c C lv R W l) : Own (sF s b c) (fun w => SAt w s b c C lv R W l) w :=
  ⟨h, fun w w' h hk => h.keep (hk s (.inl rfl)) (hk b (.inr (.inl rfl))) (hk c (.inr (.inr rfl))), fun k hk => by
    rcases hk with rfl | rfl | rfl
    · exact h.lts
    · exact h.g.ltb
    · exact h.g.ltc⟩
/-- Two sketches, and two of the references. -/
def Q4 (N : Nat) (w : World) (C : Cfg) (lv : Int) (R W : Nat) (s o r q : Nat) (l m l' m' : List Int) : Prop :=
  ∃ b c b2 c2 G G2, Own4 N w (sF s b c) (sF o b2 c2) (rsF r G R) (rsF q G2 R) (fun w => SAt w s b c C lv R W l) (fun w => SAt w o b2 c2 C lv R W m) (fun w => RSAt w r G C lv R W l') (fun w => RSAt w q G2 C lv R W m')
section
variable {N : Nat} {w w' : World} {C : Cfg} {lv : Int} {R W : Nat} {s o r q : Nat} {l m l' m' : List Int}
theorem Q4.ext (h : Q4 N w C lv R W s o r q l m l' m') (he : Ext w w') : Q4 N w' C lv R W s o r q l m l' m' := by
  obtain ⟨b, c, b2, c2, G, G2, h⟩ := h
  exact ⟨b, c, b2, c2, G, G2, h.ext he⟩
/-- What a reference's sketch points to. -/
theorem Q4.grid (h : Q4 N w C lv R W s o r q l m l' m') : ∃ G : Gr, r < w.heap.size ∧ w.cell? ⟨r, 6, none⟩ = some (.pointer (some ⟨G.g, 0, none⟩)) ∧ RGAt w G R W l' := by
  obtain ⟨b, c, b2, c2, G, G2, h⟩ := h
  exact ⟨G, h.o3.h.lts, (cell_of h.o3.h.ex 6).trans rfl, h.o3.h.g⟩
end
end Go.Proofs.YtfhdjekpdifajaaGreat
namespace Go.Proofs.YtfhdjekpdifajaaGreat
set_option linter.unusedVariables false
open Go.RowKit
/-- The blocks of a stack. -/
def kF (s g B : Nat) (L : Nat → Lev) (k : Nat) : Prop := k = s ∨ k = g ∨ ∃ n, n ≤ B ∧ (k = (L n).s ∨ k = (L n).b ∨ k = (L n).c)
theorem KAt.keep {w w' : World} {s g : Nat} {C : Cfg} {B : Nat} {L : Nat → Lev} {ls : Nat → List Int} (h : KAt w s g C B L ls) (hk : ∀ k, kF s g B L k → w'.heap[k]? = w.heap[k]?) : KAt w' s g C B L ls :=
  ⟨by rw [hk s (.inl rfl)]; exact h.ex, by rw [hk g (.inr (.inl rfl))]; exact h.row, fun n hn => (h.lev n hn).keep (hk _ (.inr (.inr ⟨n, hn, .inl rfl⟩))) (hk _ (.inr (.inr ⟨n, hn, .inr (.inl rfl)⟩))) (hk _ (.inr (.inr ⟨n, hn, .inr (.inr rfl)⟩))), h.sep, h.ok, h.hB⟩
theorem KAt.own {w : World} {s g : Nat} {C : Cfg} {B : Nat} {L : Nat → Lev} {ls : Nat → List Int} (h : KAt w s g C B L ls) : Own (kF s g B L) (fun w => KAt w s g C B L ls) w :=
  ⟨h, fun w w' h hk => h.keep hk, fun k hk => by
    rcases hk with rfl | rfl | ⟨n, hn, rfl | rfl | rfl⟩
    · exact h.lts
    · exact h.ltg
    · exact (h.lev n hn).lts
    · exact (h.lev n hn).ltb
    · exact (h.lev n hn).ltc⟩
section
variable {N : Nat} {w w' : World} {F1 F2 F3 F4 : Nat → Prop} {P1 P2 P3 P4 : World → Prop} {C : Cfg} {B s r : Nat} {g t : Nat} {L : Nat → Lev} {M : Nat → RLev} {l l' : Nat → List Int}
end
end Go.Proofs.YtfhdjekpdifajaaGreat
namespace Go.Proofs.YtfhdjekpdifajaaGreat
set_option linter.unusedVariables false
open Go.RowKit
/-- A stack of the program and one of the references that have the same cells. -/
def S2 (N : Nat) (w : World) (C : Cfg) (B : Nat) (v1 v2 : Value) : Prop :=
  ∃ s g L r t M l, v1 = .pointer (some ⟨s, 0, none⟩) ∧ v2 = .pointer (some ⟨r, 0, none⟩) ∧ Own4 N w (kF s g B L) (fun _ => False) (rkF r t C B M) (fun _ => False) (fun w => KAt w s g C B L l) (fun _ => True) (fun w => RKAt w r t C B M l) (fun _ => True)
theorem S2.mk {N : Nat} {w : World} {C : Cfg} {B s g r t : Nat} {L : Nat → Lev} {M : Nat → RLev} {l : Nat → List Int} (h : Own4 N w (kF s g B L) (fun _ => False) (rkF r t C B M) (fun _ => False) (fun w => KAt w s g C B L l) (fun _ => True) (fun w => RKAt w r t C B M l) (fun _ => True)) : S2 N w C B (.pointer (some ⟨s, 0, none⟩)) (.pointer (some ⟨r, 0, none⟩)) := ⟨s, g, L, r, t, M, l, rfl, rfl, h⟩
end Go.Proofs.YtfhdjekpdifajaaGreat
namespace Go.Proofs.YtfhdjekpdifajaaGreat
set_option linter.unusedVariables false
open Go.RowKit
/-- A row of one's own. -/
def ZAt (w : World) (z K : Nat) (xs : List Int) : Prop := xs.length = K ∧ (∀ x ∈ xs, I64 x) ∧ ∃ cur, w.heap[z]? = some (.cells cur 2 (0, 0)) ∧ ∀ j, j < K → cur[j]? = some (.int .i64 (xs.getD j 0))
theorem ZAt.set {w : World} {z K i : Nat} {xs : List Int} {d : Int} (h : ZAt w z K xs) (hi : i < K) (hd : I64 d) : ZAt (w.setCell ⟨z, i, none⟩ (.int .i64 d)) z K (xs.set i d) := by
  obtain ⟨rfl, h2, cur, h3, h4⟩ := h
  refine ⟨List.length_set, fun y hy => ?_, _, setCell_same h3 i _, fun k hk => ?_⟩
  · rcases List.mem_or_eq_of_mem_set hy with h | rfl
    · exact h2 y h
    · exact hd
  · by_cases e : k = i
    · subst e
      have hsz : k < cur.size := by
        have := h4 k hk
        rw [Array.getElem?_eq_some_iff] at this
        exact this.1
      rw [Array.getElem?_setIfInBounds_self_of_lt hsz, List.getD_eq_getElem?_getD, List.getElem?_set_self hk]
      rfl
    · rw [Array.getElem?_setIfInBounds_ne (fun h => e h.symm), h4 k hk, List.getD_eq_getElem?_getD, List.getD_eq_getElem?_getD, List.getElem?_set_ne (fun h => e h.symm)]
theorem ZAt.ints {w : World} {z K zc : Nat} {xs : List Int} (h : ZAt w z K xs) : IntsAt w (.slice (some ⟨z, 0, none⟩) K zc) xs := by
  obtain ⟨rfl, h2, cur, h3, h4⟩ := h
  exact .inr ⟨z, 0, zc, rfl, lt_of h3, fun k hk => by rw [cell_of h3, Nat.zero_add]; exact h4 k hk⟩
theorem ZAt.lt {w : World} {z K : Nat} {xs : List Int} (h : ZAt w z K xs) : z < w.heap.size := by obtain ⟨_, _, cur, h3, _⟩ := h; exact lt_of h3
theorem ZAt.cell {w : World} {z K i : Nat} {xs : List Int} (h : ZAt w z K xs) (hi : i < K) : w.cell? ⟨z, i, none⟩ = some (.int .i64 (xs.getD i 0)) ∧ w.frozen? ⟨z, i, none⟩ = false := by
  obtain ⟨_, _, cur, h3, h4⟩ := h; exact ⟨(cell_of h3 i).trans (h4 i hi), frozen_of h3 i⟩
end Go.Proofs.YtfhdjekpdifajaaGreat
namespace Go.Proofs.YtfhdjekpdifajaaGreat
set_option linter.unusedVariables false
open Go.RowKit
def u64s (l : List Int) : List Value := l.map fun x => .int .u64 x
theorem u64s_len (l : List Int) : (u64s l).length = l.length := by unfold u64s; rw [List.length_map]
theorem u64s_append (a b : List Int) : u64s (a ++ b) = u64s a ++ u64s b := by unfold u64s; rw [List.map_append]
theorem info_u64 : ∃ i z, Tryz.prog.info? 22 = some i ∧ i.zero = some z ∧ i.size = 1 ∧ i.bytes = 8 ∧ z.cells.size = 1 := by
  have h : (Tryz.prog.info? 22).map (fun i => (i.zero, i.size, i.bytes)) = some (some (.int .u64 0), 1, 8) := by kernel_rfl
  match hi : Tryz.prog.info? 22, h with
  | some i, h =>
    simp only [Option.map_some, Option.some.injEq, Prod.mk.injEq] at h
    exact ⟨i, _, rfl, h.1, h.2.1, h.2.2, rfl⟩
/-- A slice of uint64s. -/
def UAt (w : World) (v : Value) (xs : List Int) : Prop :=
  (v = .slice none 0 0 ∧ xs = []) ∨ ∃ g off cap, v = .slice (some ⟨g, off, none⟩) xs.length cap ∧ g < w.heap.size ∧ ∀ k, k < xs.length → w.cell? ⟨g, off + k, none⟩ = some (.int .u64 (xs.getD k 0))
theorem UAt.ext {w w' : World} {v : Value} {xs : List Int} (h : UAt w v xs) (he : Ext w w') : UAt w' v xs := by
  rcases h with h | ⟨g, off, cap, h1, h2, h3⟩
  · exact .inl h
  · exact .inr ⟨g, off, cap, h1, Nat.lt_of_lt_of_le h2 he.size, fun k hk => ((bcell he).1 _ _ h2).trans (h3 k hk)⟩
theorem UAt.of_row {w : World} {base : Nat} {e : TypeId} {v : Value} {n : Nat} {xs : List Int} (h : w.ownsRow base e 1 v n (u64s xs)) : UAt w v xs := by
  have hn : n = xs.length := by have := h.1; rw [u64s_len] at this; omega
  subst hn
  by_cases h0 : 0 < xs.length
  · obtain ⟨g, cap, rfl, _, hg, hc⟩ := own_row_cells h h0
    refine .inr ⟨g, 0, cap, rfl, hg, fun k hk => ?_⟩
    rw [show (0 + k) = k by omega, hc k (by omega)]
    unfold u64s
    rw [List.getElem?_map, List.getElem?_eq_getElem hk]
    simp [List.getD, hk]
  · have hx : xs = [] := List.length_eq_zero_iff.1 (by omega)
    subst hx
    rcases h.2 with ⟨rfl, _⟩ | ⟨g, cap, cur, rfl, _, hh, _⟩
    · exact .inl ⟨rfl, rfl⟩
    · exact .inr ⟨g, 0, cap, rfl, lt_of hh, fun k hk => by simp at hk⟩
theorem UAt.sl {w : World} {v : Value} {xs : List Int} (h : UAt w v xs) : ∃ p c, v = .slice p xs.length c := by
  rcases h with ⟨rfl, rfl⟩ | ⟨g, off, cap, rfl, _⟩
  · exact ⟨none, 0, rfl⟩
  · exact ⟨_, _, rfl⟩
theorem UAt.one {w : World} {p : Option Addr} {n c : Nat} {xs : List Int} (h : UAt w (.slice p n c) xs) {k : Nat} (hk : k < n) : ∃ g off, p = some ⟨g, off, none⟩ ∧ g < w.heap.size ∧ w.cell? ⟨g, off + k, none⟩ = some (.int .u64 (xs.getD k 0)) := by
  rcases h with ⟨h1, _⟩ | ⟨g, off, cap, h1, h2, h3⟩
  · cases h1; omega
  · cases h1
    exact ⟨g, off, rfl, h2, h3 k hk⟩
theorem IntsAt.oneH {w : World} {p : Option Addr} {n c : Nat} {xs : List Int} (h : IntsAt w (.slice p n c) xs) {k : Nat} (hk : k < n) : ∃ g off, p = some ⟨g, off, none⟩ ∧ g < w.heap.size ∧ w.cell? ⟨g, off + k, none⟩ = some (.int .i64 (xs.getD k 0)) := by
  rcases h with ⟨h1, _⟩ | ⟨g, off, cap, h1, h2, h3⟩
  · cases h1; omega
  · cases h1
    exact ⟨g, off, rfl, h2, h3 k hk⟩
/-- One after the other, up to the first error. -/
def eachR {α : Type} (f : α → Int × Int) (l : List α) : List Int × Int := match l.find? (fun x => decide ((f x).2 ≠ 0)) with | none => (l.map fun x => (f x).1, 0) | some x => ([], (f x).2)
theorem eachR_ok {α : Type} {f : α → Int × Int} {l : List α} (h : ∀ x ∈ l, (f x).2 = 0) : eachR f l = (l.map fun x => (f x).1, 0) := by
  unfold eachR
  rw [List.find?_eq_none.2 (fun x hx => by simp [h x hx])]
theorem eachR_err {α : Type} {f : α → Int × Int} {pre suf : List α} {x : α} (h : ∀ y ∈ pre, (f y).2 = 0) (hx : (f x).2 ≠ 0) : eachR f (pre ++ x :: suf) = ([], (f x).2) := by
  unfold eachR
  have h1 : (pre ++ x :: suf).find? (fun x => decide ((f x).2 ≠ 0)) = some x := by
    rw [List.find?_append, List.find?_eq_none.2 (fun y hy => by simp [h y hy])]
    simp [hx]
  rw [h1]
theorem list_split {α : Type} {l : List α} {k : Nat} (h : k < l.length) : l = l.take k ++ l[k] :: l.drop (k + 1) := by
  rw [← List.drop_eq_getElem_cons h, List.take_append_drop]
theorem take_map_snoc {α : Type} {f : α → Int × Int} {l : List α} {k : Nat} (h : k < l.length) : (l.take (k + 1)).map (fun x => (f x).1) = (l.take k).map (fun x => (f x).1) ++ [(f l[k]).1] := by
  rw [List.take_add_one, List.getElem?_eq_getElem h, List.map_append]; rfl
def EachPost (w : World) (r : List Int × Int) (e : Ending) (w' : World) : Prop :=
  ∃ v, e = .returned (.tuple #[v, .int .i64 r.2]) ∧ w'.ownsRow w.heap.size 22 1 v r.1.length (u64s r.1) ∧ Ext w w'
set_option maxRecDepth 20000 in
set_option maxHeartbeats 4000000 in
theorem Ask1_c (s b : Nat) (f : Int → Int × Int) (k : Int) (w : World) (hb : w.cell? ⟨b, 0, none⟩ = some (.pointer (some ⟨s, 0, none⟩))) (hbl : b < w.heap.size)
    (hq : Calls Tryz.prog 33 #[.pointer (some ⟨s, 0, none⟩), .int .i64 k] w fun e w' => e = .returned (.tuple #[.int .u64 (f k).1, .int .i64 (f k).2]) ∧ Ext w w') :
    Calls Tryz.prog 130 #[.int .i64 k, .pointer (some ⟨b, 0, none⟩)] w fun e w' => e = .returned (.tuple #[.int .u64 (f k).1, .int .i64 (f k).2]) ∧ Ext w w' := by
  have HQ := Lib.hid hq
  clear hq
  go_enter Tryz.func130, Tryz.ntmps130
  go_wp2_with fail
  refine Calls.mono HQ.out ?_
  rintro e w1 ⟨rfl, hx1⟩
  go_wp2
  go_ret2
  exact ⟨rfl, hx1⟩
set_option maxRecDepth 20000 in
set_option maxHeartbeats 8000000 in
theorem Each1_c (b : Nat) (f : Int → Int × Int) (ks : List Int) (p : Option Addr) (cap : Nat) (w : World) (hks : IntsAt w (.slice p ks.length cap) ks) (hl : ks.length ≤ 100000)
    (hask : ∀ k ∈ ks, ∀ W', Ext w W' → Calls Tryz.prog 130 #[.int .i64 k, .pointer (some ⟨b, 0, none⟩)] W' fun e w' => e = .returned (.tuple #[.int .u64 (f k).1, .int .i64 (f k).2]) ∧ Ext W' w') :
    Calls Tryz.prog 129 #[.slice p ks.length cap, .func (.func 130) #[] #[.pointer (some ⟨b, 0, none⟩)]] w (EachPost w (eachR f ks)) := by
  have HK := Lib.hid hks
  have HA := Lib.hid hask
  clear hks hask
  generalize hn : ks.length = n at *
  have HN := Lib.hid hn
  clear hn
  go_enter Tryz.func129, Tryz.ntmps129
  go_wp2_with fail
  go_loopw [6, 13] (fun u6 u13 wr => ∃ k : Nat, k ≤ n ∧ u13 = .int .i64 k ∧ (∀ x ∈ ks.take k, (f x).2 = 0) ∧ wr.ownsRow w.heap.size 22 1 u6 k (u64s ((ks.take k).map fun x => (f x).1)) ∧ Ext w wr) (fun _ u13 _ => n - (intOf u13).toNat)
  case atStart => exact ⟨0, Nat.zero_le _, rfl, by simp, ⟨rfl, .inl ⟨rfl, rfl⟩⟩, Ext.refl _⟩
  case round =>
    obtain ⟨k, hk, rfl, hall, hown, hE⟩ := hrel
    obtain ⟨po, co, rfl⟩ := own_sl hown
    have HO := Lib.hid hown
    have HALL := Lib.hid hall
    clear hown hall
    by_cases hlt : k < n
    · have hkl : k < ks.length := by rw [HN.out]; exact hlt
      obtain ⟨g, off, rfl, hg, hc⟩ := (HK.out.ext hE).oneH hlt
      have hx : ks.getD k 0 = ks[k] := by simp [List.getD, hkl]
      rw [hx] at hc
      have hcall := HA.out ks[k] (List.getElem_mem hkl) wr hE
      have hsp := list_split hkl
      have hsn := take_map_snoc (f := f) hkl
      have HSP := Lib.hid hsp
      have HSN := Lib.hid hsn
      have hts : ks.take (k + 1) = ks.take k ++ [ks[k]] := by rw [List.take_add_one, List.getElem?_eq_getElem hkl]; rfl
      have HTS := Lib.hid hts
      have HCALL := Lib.hid hcall
      clear hcall hsp hsn hx hts
      generalize ks[k] = kk at *
      go_wp2_with fail
      refine Calls.mono HCALL.out ?_
      rintro e w2 ⟨rfl, hx2⟩
      have hE2 := hE.trans' hx2
      have HO2 := Lib.hid (own_ext HO.out hx2)
      clear hx2 hc hg
      by_cases he : (f kk).2 = 0
      · rw [he]
        have hs2 := hE2.size
        generalize hfv : (f kk).1 = y at *
        go_wp2_with (at_builtin; refine wpList_appK w2 1 8 1 (by decide) (by decide) [.int .u64 y] rfl (by simp [Value.oneCell']) _ k _ w.heap.size 22 _ HO2.out 110 rfl _ _ rfl info_u64 Tryz.underlying110 _ rfl (by rfl) (by rfl) ?a1 ?a2 ?_)
        case a1 => omega
        case a2 => exact hs2
        intro v' w3 g1 g2 _
        have hE3 : Ext w w3 := ext_grown hE2 g2 (fun j hj => own_geB HO2.out hj)
        obtain ⟨po3, co3, rfl⟩ := own_sl g1
        have G1 := Lib.hid g1
        clear g1 g2
        go_wp2
        go_roundw
        case rel => exact ⟨k + 1, by omega, by go_num, fun x hx => by
          rw [HTS.out] at hx
          rcases List.mem_append.1 hx with hx | hx
          · exact HALL.out x hx
          · rw [List.mem_singleton.1 hx]; exact he, by rw [HSN.out, u64s_append, List.map_take]; exact G1.out, hE3⟩
        case measure => simp [intOf]; omega
      · have hne : ((f kk).2 == 0) = false := beq_eq_false_iff_ne.2 he
        have hres : eachR f ks = ([], (f kk).2) := by
          rw [HSP.out]; exact eachR_err HALL.out he
        have HRES := Lib.hid hres
        clear hres
        generalize (f kk).2 = er at *
        go_wp2
        go_ret2
        refine ⟨.slice none 0 0, ?_, ?_, hE2⟩
        · rw [HRES.out]; rfl
        · rw [HRES.out]; exact ⟨rfl, .inl ⟨rfl, rfl⟩⟩
    · obtain rfl : k = n := by omega
      have htk : ks.take k = ks := List.take_of_length_le (by rw [HN.out]; exact Nat.le_refl _)
      have hres : eachR f ks = (ks.map fun x => (f x).1, 0) := eachR_ok (fun x hx => HALL.out x (by rw [htk]; exact hx))
      have ho := HO.out
      rw [htk] at ho
      have HO3 := Lib.hid ho
      have HRES := Lib.hid hres
      clear htk hres ho
      go_wp2
      go_ret2
      refine ⟨.slice po k co, ?_, ?_, hE⟩
      · rw [HRES.out]; rfl
      · rw [HRES.out]
        show World.ownsRow _ _ _ _ _ (ks.map _).length _
        rw [List.length_map, HN.out]
        exact HO3.out
end Go.Proofs.YtfhdjekpdifajaaGreat
namespace Go.Proofs.YtfhdjekpdifajaaGreat
set_option linter.unusedVariables false
open Go.RowKit
set_option maxRecDepth 20000 in
set_option maxHeartbeats 4000000 in
theorem Quantiles_c (s : Nat) (f : Int → Int × Int) (ks : List Int) (p : Option Addr) (cap : Nat) (w : World) (hks : IntsAt w (.slice p ks.length cap) ks) (hl : ks.length ≤ 100000)
    (hq : ∀ k ∈ ks, ∀ W', Ext w W' → Calls Tryz.prog 33 #[.pointer (some ⟨s, 0, none⟩), .int .i64 k] W' fun e w' => e = .returned (.tuple #[.int .u64 (f k).1, .int .i64 (f k).2]) ∧ Ext W' w') :
    Calls Tryz.prog 71 #[.pointer (some ⟨s, 0, none⟩), .slice p ks.length cap] w (EachPost w (eachR f ks)) := by
  have hx0 : Ext w (w.alloc (.cells #[.pointer (some ⟨s, 0, none⟩)] 28)) := Ext.alloc' _ _
  have hbx := heap_at w (.cells #[.pointer (some ⟨s, 0, none⟩)] 28) rfl
  have hE := Each1_c w.heap.size f ks p cap _ (hks.ext hx0) hl (fun k hk W' hE' => Ask1_c s w.heap.size f k W' ((cell_of (hE'.keep hbx) 0).trans rfl) (lt_of (hE'.keep hbx)) (hq k hk W' (hx0.trans' hE')))
  have HE := Lib.hid hE
  clear hE hq hks hbx
  generalize hn : ks.length = n at *
  go_enter Tryz.func71, Tryz.ntmps71
  go_wp2_with fail
  refine Calls.mono HE.out ?_
  rintro e w1 ⟨v, rfl, ho, hx1⟩
  have HX1 := Lib.hid (hx0.trans' hx1)
  have HO := Lib.hid (own_bmono ho hx0.size)
  clear ho hx1 hx0
  go_wp2
  go_ret2
  exact ⟨v, rfl, HO.out, HX1.out⟩
set_option maxRecDepth 20000 in
set_option maxHeartbeats 8000000 in
theorem RQuantiles_c (r : Nat) (f : Int → Int × Int) (ks : List Int) (p : Option Addr) (cap : Nat) (w : World) (hks : IntsAt w (.slice p ks.length cap) ks) (hl : ks.length ≤ 100000)
    (hask : ∀ k ∈ ks, ∀ W', Ext w W' → Calls Tryz.prog 34 #[.pointer (some ⟨r, 0, none⟩), .int .i64 k] W' fun e w' => e = .returned (.tuple #[.int .u64 (f k).1, .int .i64 (f k).2]) ∧ Ext W' w') :
    Calls Tryz.prog 72 #[.pointer (some ⟨r, 0, none⟩), .slice p ks.length cap] w (EachPost w (eachR f ks)) := by
  have HK := Lib.hid hks
  have HA := Lib.hid hask
  clear hks hask
  generalize hn : ks.length = n at *
  have HN := Lib.hid hn
  clear hn
  have h0 : (w.alloc (.cells #[] 22)).ownsRow w.heap.size 22 1 (.slice (some ⟨w.heap.size, 0, none⟩) 0 0) 0 (u64s []) := own_newK w w.heap.size (Nat.le_refl _) 22 1 0 #[] (by decide) rfl
  have H0 := Lib.hid h0
  clear h0
  go_enter Tryz.func72, Tryz.ntmps72
  go_wp2_with fail
  go_loopw [6, 7] (fun u6 u13 wr => ∃ k : Nat, k ≤ n ∧ u13 = .int .i64 k ∧ (∀ x ∈ ks.take k, (f x).2 = 0) ∧ wr.ownsRow w.heap.size 22 1 u6 k (u64s ((ks.take k).map fun x => (f x).1)) ∧ Ext w wr) (fun _ u13 _ => n - (intOf u13).toNat)
  case atStart => exact ⟨0, Nat.zero_le _, rfl, by simp, H0.out, Ext.alloc' _ _⟩
  case round =>
    clear H0
    obtain ⟨k, hk, rfl, hall, hown, hE⟩ := hrel
    obtain ⟨po, co, rfl⟩ := own_sl hown
    have HO := Lib.hid hown
    have HALL := Lib.hid hall
    clear hown hall
    by_cases hlt : k < n
    · have hkl : k < ks.length := by rw [HN.out]; exact hlt
      obtain ⟨g, off, rfl, hg, hc⟩ := (HK.out.ext hE).oneH hlt
      have hx : ks.getD k 0 = ks[k] := by simp [List.getD, hkl]
      rw [hx] at hc
      have hcall := HA.out ks[k] (List.getElem_mem hkl) wr hE
      have hsp := list_split hkl
      have hsn := take_map_snoc (f := f) hkl
      have HSP := Lib.hid hsp
      have HSN := Lib.hid hsn
      have hts : ks.take (k + 1) = ks.take k ++ [ks[k]] := by rw [List.take_add_one, List.getElem?_eq_getElem hkl]; rfl
      have HTS := Lib.hid hts
      have HCALL := Lib.hid hcall
      clear hcall hsp hsn hx hts
      generalize ks[k] = kk at *
      go_wp2_with fail
      refine Calls.mono HCALL.out ?_
      rintro e w2 ⟨rfl, hx2⟩
      have hE2 := hE.trans' hx2
      have HO2 := Lib.hid (own_ext HO.out hx2)
      clear hx2 hc hg
      by_cases he : (f kk).2 = 0
      · rw [he]
        have hs2 := hE2.size
        generalize hfv : (f kk).1 = y at *
        go_wp2_with (at_builtin; refine wpList_appK w2 1 8 1 (by decide) (by decide) [.int .u64 y] rfl (by simp [Value.oneCell']) _ k _ w.heap.size 22 _ HO2.out 110 rfl _ _ rfl info_u64 Tryz.underlying110 _ rfl (by rfl) (by rfl) ?a1 ?a2 ?_)
        case a1 => omega
        case a2 => exact hs2
        intro v' w3 g1 g2 _
        have hE3 : Ext w w3 := ext_grown hE2 g2 (fun j hj => own_geB HO2.out hj)
        obtain ⟨po3, co3, rfl⟩ := own_sl g1
        have G1 := Lib.hid g1
        clear g1 g2
        go_wp2
        go_roundw
        case rel => exact ⟨k + 1, by omega, by go_num, fun x hx => by
          rw [HTS.out] at hx
          rcases List.mem_append.1 hx with hx | hx
          · exact HALL.out x hx
          · rw [List.mem_singleton.1 hx]; exact he, by rw [HSN.out, u64s_append, List.map_take]; exact G1.out, hE3⟩
        case measure => simp [intOf]; omega
      · have hne : ((f kk).2 == 0) = false := beq_eq_false_iff_ne.2 he
        have hres : eachR f ks = ([], (f kk).2) := by
          rw [HSP.out]; exact eachR_err HALL.out he
        have HRES := Lib.hid hres
        clear hres
        generalize (f kk).2 = er at *
        go_wp2
        go_ret2
        refine ⟨.slice none 0 0, ?_, ?_, hE2⟩
        · rw [HRES.out]; rfl
        · rw [HRES.out]; exact ⟨rfl, .inl ⟨rfl, rfl⟩⟩
    · obtain rfl : k = n := by omega
      have htk : ks.take k = ks := List.take_of_length_le (by rw [HN.out]; exact Nat.le_refl _)
      have hres : eachR f ks = (ks.map fun x => (f x).1, 0) := eachR_ok (fun x hx => HALL.out x (by rw [htk]; exact hx))
      have ho := HO.out
      rw [htk] at ho
      have HO3 := Lib.hid ho
      have HRES := Lib.hid hres
      clear htk hres ho
      go_wp2
      go_ret2
      refine ⟨.slice po k co, ?_, ?_, hE⟩
      · rw [HRES.out]; rfl
      · rw [HRES.out]
        show World.ownsRow _ _ _ _ _ (ks.map _).length _
        rw [List.length_map, HN.out]
        exact HO3.out
set_option maxRecDepth 20000 in
set_option maxHeartbeats 4000000 in
/-- Two rows of keys that are alike. -/
theorem SameU_c (l : List Int) (p q : Option Addr) (c d : Nat) (w : World) (hp : UAt w (.slice p l.length c) l) (hq : UAt w (.slice q l.length d) l) (hl : l.length ≤ 100000) :
    Calls Tryz.prog 73 #[.slice p l.length c, .slice q l.length d] w fun e w' => e = .returned (.bool true) ∧ Ext w w' := by
  have HP := Lib.hid hp
  have HQ := Lib.hid hq
  clear hp hq
  generalize hn : l.length = n at *
  clear hn
  go_enter Tryz.func73, Tryz.ntmps73
  go_wp2_with fail
  go_loopw [5] (fun u5 wr => ∃ k : Nat, k ≤ n ∧ u5 = .int .i64 k ∧ Ext w wr) (fun u5 _ => n - (intOf u5).toNat)
  case atStart => exact ⟨0, Nat.zero_le _, rfl, Ext.refl _⟩
  case round =>
    obtain ⟨k, hk, rfl, hE⟩ := hrel
    by_cases hlt : k < n
    · obtain ⟨g, off, rfl, hg, hc⟩ := (HP.out.ext hE).one hlt
      obtain ⟨g2, off2, rfl, hg2, hc2⟩ := (HQ.out.ext hE).one hlt
      generalize l.getD k 0 = x at *
      go_wp2_with fail
      refine wp_region_after (by kernel_rfl) (by kernel_rfl) ?_
      repeat (go_big_quiet_step (fail))
      refine wpQuiet_nil ?_
      rintro _ ⟨xx, rfl⟩
      obtain ⟨w1, hb1⟩ := xx
      try dsimp only
      have hE1 := hE.trans' hb1
      clear hb1 hc hc2
      go_wp2
      go_roundw
      case rel => exact ⟨k + 1, by omega, by go_num, hE1⟩
      case measure => simp [intOf]; omega
    · obtain rfl : k = n := by omega
      go_wp2
      go_ret
      exact ⟨rfl, hE⟩
end Go.Proofs.YtfhdjekpdifajaaGreat
namespace Go.Proofs.YtfhdjekpdifajaaGreat
set_option linter.unusedVariables false
open Go.RowKit
def spV (l : List (Int × Int)) : List Value := l.flatMap fun p => [.int .u64 p.1, .int .u64 p.2]
theorem spV_append (a b : List (Int × Int)) : spV (a ++ b) = spV a ++ spV b := by unfold spV; rw [List.flatMap_append]
theorem spV_at {l : List (Int × Int)} : ∀ {k : Nat} (h : k < l.length), (spV l)[k * 2]? = some (.int .u64 l[k].1) ∧ (spV l)[k * 2 + 1]? = some (.int .u64 l[k].2) := by
  induction l with
  | nil => intro k h; simp at h
  | cons u l ih =>
    intro k h
    have e : spV (u :: l) = .int .u64 u.1 :: .int .u64 u.2 :: spV l := rfl
    rw [e]
    cases k with
    | zero => exact ⟨rfl, rfl⟩
    | succ k =>
      have := ih (k := k) (by simpa using h)
      rw [show (k + 1) * 2 = k * 2 + 1 + 1 by omega]
      simp only [List.getElem?_cons_succ, List.getElem_cons_succ]
      exact this
theorem info_2u : ∃ i z, Tryz.prog.info? 209 = some i ∧ i.zero = some z ∧ i.size = 2 ∧ i.bytes = 16 ∧ z.cells.size = 2 := by
  have h : (Tryz.prog.info? 209).map (fun i => (i.zero, i.size, i.bytes)) = some (some (.agg #[.int .u64 0, .int .u64 0]), 2, 16) := by kernel_rfl
  match hi : Tryz.prog.info? 209, h with
  | some i, h =>
    simp only [Option.map_some, Option.some.injEq, Prod.mk.injEq] at h
    exact ⟨i, _, rfl, h.1, h.2.1, h.2.2, rfl⟩
theorem info_i64e : ∃ i z, Tryz.prog.info? 2 = some i ∧ i.zero = some z ∧ i.size = 1 ∧ i.bytes = 8 ∧ z.cells.size = 1 := by
  have h : (Tryz.prog.info? 2).map (fun i => (i.zero, i.size, i.bytes)) = some (some (.int .i64 0), 1, 8) := by kernel_rfl
  match hi : Tryz.prog.info? 2, h with
  | some i, h =>
    simp only [Option.map_some, Option.some.injEq, Prod.mk.injEq] at h
    exact ⟨i, _, rfl, h.1, h.2.1, h.2.2, rfl⟩
def EachIPost (w : World) (r : List Int × Int) (e : Ending) (w' : World) : Prop :=
  ∃ v, e = .returned (.tuple #[v, .int .i64 r.2]) ∧ w'.ownsRow w.heap.size 2 1 v r.1.length (ints r.1) ∧ Ext w w'
set_option maxRecDepth 20000 in
set_option maxHeartbeats 4000000 in
theorem Ask2_c (s b : Nat) (f : Int × Int → Int × Int) (x y : Int) (w : World) (hb : w.cell? ⟨b, 0, none⟩ = some (.pointer (some ⟨s, 0, none⟩))) (hbl : b < w.heap.size)
    (hq : ∀ W', Ext w W' → Calls Tryz.prog 80 #[.pointer (some ⟨s, 0, none⟩), .int .u64 x, .int .u64 y] W' fun e w' => e = .returned (.tuple #[.int .i64 (f (x, y)).1, .int .i64 (f (x, y)).2]) ∧ Ext W' w') :
    Calls Tryz.prog 132 #[.agg #[.int .u64 x, .int .u64 y], .pointer (some ⟨b, 0, none⟩)] w fun e w' => e = .returned (.tuple #[.int .i64 (f (x, y)).1, .int .i64 (f (x, y)).2]) ∧ Ext w w' := by
  have hx0 : Ext w (w.alloc (.cells #[.int .u64 x, .int .u64 y] 209)) := Ext.alloc' _ _
  have HQ := Lib.hid (hq _ hx0)
  clear hq
  go_enter Tryz.func132, Tryz.ntmps132
  go_wp2_with fail
  refine Calls.mono HQ.out ?_
  rintro e w1 ⟨rfl, hx1⟩
  have hE := hx0.trans' hx1
  go_wp2
  go_ret2
  exact ⟨rfl, hE⟩
set_option maxRecDepth 20000 in
set_option maxHeartbeats 8000000 in
theorem EachS_c (b : Nat) (f : Int × Int → Int × Int) (ks : List (Int × Int)) (base : Nat) (p : Option Addr) (cap : Nat) (w : World) (hks : w.ownsRow base 209 2 (.slice p ks.length cap) ks.length (spV ks)) (hl : ks.length ≤ 100000)
    (hask : ∀ k ∈ ks, ∀ W', Ext w W' → Calls Tryz.prog 132 #[.agg #[.int .u64 k.1, .int .u64 k.2], .pointer (some ⟨b, 0, none⟩)] W' fun e w' => e = .returned (.tuple #[.int .i64 (f k).1, .int .i64 (f k).2]) ∧ Ext W' w') :
    Calls Tryz.prog 131 #[.slice p ks.length cap, .func (.func 132) #[] #[.pointer (some ⟨b, 0, none⟩)]] w (EachIPost w (eachR f ks)) := by
  have HK := Lib.hid hks
  have HA := Lib.hid hask
  clear hks hask
  generalize hn : ks.length = n at *
  have HN := Lib.hid hn
  clear hn
  go_enter Tryz.func131, Tryz.ntmps131
  go_wp2_with fail
  go_loopw [6, 13] (fun u6 u13 wr => ∃ k : Nat, k ≤ n ∧ u13 = .int .i64 k ∧ (∀ x ∈ ks.take k, (f x).2 = 0) ∧ wr.ownsRow w.heap.size 2 1 u6 k (ints ((ks.take k).map fun x => (f x).1)) ∧ Ext w wr) (fun _ u13 _ => n - (intOf u13).toNat)
  case atStart => exact ⟨0, Nat.zero_le _, rfl, by simp, ⟨rfl, .inl ⟨rfl, rfl⟩⟩, Ext.refl _⟩
  case round =>
    obtain ⟨k, hk, rfl, hall, hown, hE⟩ := hrel
    obtain ⟨po, co, rfl⟩ := own_sl hown
    have HO := Lib.hid hown
    have HALL := Lib.hid hall
    clear hown hall
    by_cases hlt : k < n
    · have hkl : k < ks.length := by rw [HN.out]; exact hlt
      obtain ⟨g, capk, hv, _, hg, hcell⟩ := own_row_cells (own_ext HK.out hE) (by omega)
      cases hv
      have hcs := spV_at hkl
      have c0 := (hcell (k * 2) (by omega)).trans hcs.1
      have c1 := (hcell (k * 2 + 1) (by omega)).trans hcs.2
      have hEa : Ext w (wr.alloc (.cells #[.int .u64 ks[k].1, .int .u64 ks[k].2] 209)) := hE.allocR _
      have hcall := HA.out ks[k] (List.getElem_mem hkl) _ hEa
      have hsp := list_split hkl
      have hsn := take_map_snoc (f := f) hkl
      have HSP := Lib.hid hsp
      have HSN := Lib.hid hsn
      have hts : ks.take (k + 1) = ks.take k ++ [ks[k]] := by rw [List.take_add_one, List.getElem?_eq_getElem hkl]; rfl
      have HTS := Lib.hid hts
      have HCALL := Lib.hid hcall
      have HOA := Lib.hid (HO.out.alloc (.cells #[.int .u64 ks[k].1, .int .u64 ks[k].2] 209))
      clear hcall hsp hsn hts hcs hcell HO
      generalize ks[k] = kk at *
      go_wp2_with fail
      refine Calls.mono HCALL.out ?_
      rintro e w2 ⟨rfl, hx2⟩
      have hE2 := hEa.trans' hx2
      have HO2 := Lib.hid (own_ext HOA.out hx2)
      clear hx2 c0 c1 hg
      by_cases he : (f kk).2 = 0
      · rw [he]
        have hs2 := hE2.size
        generalize hfv : (f kk).1 = y at *
        go_wp2_with (at_builtin; refine wpList_appK w2 1 8 1 (by decide) (by decide) [.int .i64 y] rfl (by simp [Value.oneCell']) _ k _ w.heap.size 2 _ HO2.out 43 rfl _ _ rfl info_i64e Tryz.underlying43 _ rfl (by rfl) (by rfl) ?a1 ?a2 ?_)
        case a1 => omega
        case a2 => exact hs2
        intro v' w3 g1 g2 _
        have hE3 : Ext w w3 := ext_grown hE2 g2 (fun j hj => own_geB HO2.out hj)
        obtain ⟨po3, co3, rfl⟩ := own_sl g1
        have G1 := Lib.hid g1
        clear g1 g2
        go_wp2
        go_roundw
        case rel => exact ⟨k + 1, by omega, by go_num, fun x hx => by
          rw [HTS.out] at hx
          rcases List.mem_append.1 hx with hx | hx
          · exact HALL.out x hx
          · rw [List.mem_singleton.1 hx]; exact he, by rw [HSN.out, ints_app, List.map_take]; exact G1.out, hE3⟩
        case measure => simp [intOf]; omega
      · have hne : ((f kk).2 == 0) = false := beq_eq_false_iff_ne.2 he
        have hres : eachR f ks = ([], (f kk).2) := by
          rw [HSP.out]; exact eachR_err HALL.out he
        have HRES := Lib.hid hres
        clear hres
        generalize (f kk).2 = er at *
        go_wp2
        go_ret2
        refine ⟨.slice none 0 0, ?_, ?_, hE2⟩
        · rw [HRES.out]; rfl
        · rw [HRES.out]; exact ⟨rfl, .inl ⟨rfl, rfl⟩⟩
    · obtain rfl : k = n := by omega
      have htk : ks.take k = ks := List.take_of_length_le (by rw [HN.out]; exact Nat.le_refl _)
      have hres : eachR f ks = (ks.map fun x => (f x).1, 0) := eachR_ok (fun x hx => HALL.out x (by rw [htk]; exact hx))
      have ho := HO.out
      rw [htk] at ho
      have HO3 := Lib.hid ho
      have HRES := Lib.hid hres
      clear htk hres ho
      go_wp2
      go_ret2
      refine ⟨.slice po k co, ?_, ?_, hE⟩
      · rw [HRES.out]; rfl
      · rw [HRES.out]
        show World.ownsRow _ _ _ _ _ (ks.map _).length _
        rw [List.length_map, HN.out]
        exact HO3.out
/-- Do the cuts rise? -/
def Rise (cuts : List Int) (k : Nat) : Prop := ∀ j, j + 1 < k → cuts.getD j 0 < cuts.getD (j + 1) 0
/-- Are the cuts keys, but for 0? -/
def Inner (K : Int) (cuts : List Int) : Prop := ∀ c ∈ cuts, 1 ≤ c ∧ c < K
def spansL (K : Int) : Int → List Int → List (Int × Int)
  | a, [] => [(a, K - 1)]
  | a, c :: r => (a, c - 1) :: spansL K c r
open Classical in
noncomputable def histR (f : Int × Int → Int × Int) (K : Int) (cuts : List Int) : List Int × Int :=
  if ¬ Rise cuts cuts.length then ([], 1) else if ¬ Inner K cuts then ([], 2) else eachR f (spansL K 0 cuts)
end Go.Proofs.YtfhdjekpdifajaaGreat
namespace Go.Proofs.YtfhdjekpdifajaaGreat
set_option linter.unusedVariables false
open Go.RowKit
theorem spans_step {K a c : Int} {r : List Int} {pre tot : List (Int × Int)} (h : tot = pre ++ spansL K a (c :: r)) : tot = (pre ++ [(a, c - 1)]) ++ spansL K c r := by
  rw [h, List.append_assoc]; rfl
theorem drop_getD {l : List Int} {k : Nat} (h : k < l.length) : l.drop k = l.getD k 0 :: l.drop (k + 1) := by
  rw [List.drop_eq_getElem_cons h]; simp [List.getD, h]
theorem hist_rise {f : Int × Int → Int × Int} {K : Int} {cuts : List Int} (h : ¬ Rise cuts cuts.length) : histR f K cuts = ([], 1) := by unfold histR; rw [if_pos h]
theorem hist_key {f : Int × Int → Int × Int} {K : Int} {cuts : List Int} (h : Rise cuts cuts.length) (h2 : ¬ Inner K cuts) : histR f K cuts = ([], 2) := by unfold histR; rw [if_neg (fun h3 => h3 h), if_pos h2]
theorem hist_ok {f : Int × Int → Int × Int} {K : Int} {cuts : List Int} (h : Rise cuts cuts.length) (h2 : Inner K cuts) : histR f K cuts = eachR f (spansL K 0 cuts) := by unfold histR; rw [if_neg (fun h3 => h3 h), if_neg (fun h3 => h3 h2)]
set_option maxRecDepth 20000 in
set_option maxHeartbeats 8000000 in
theorem Hist_c (s g : Nat) (C : Cfg) (B : Nat) (L : Nat → Lev) (ls : Nat → List Int) (w : World) (h : KAt w s g C B L ls) (f : Int × Int → Int × Int) (cuts : List Int) (p : Option Addr) (cap : Nat) (hcu : UAt w (.slice p cuts.length cap) cuts) (hU : ∀ c ∈ cuts, U64 c) (hl : cuts.length ≤ 90000)
    (hq : ∀ x y, U64 x → U64 y → ∀ W', Ext w W' → Calls Tryz.prog 80 #[.pointer (some ⟨s, 0, none⟩), .int .u64 x, .int .u64 y] W' fun e w' => e = .returned (.tuple #[.int .i64 (f (x, y)).1, .int .i64 (f (x, y)).2]) ∧ Ext W' w') :
    Calls Tryz.prog 74 #[.pointer (some ⟨s, 0, none⟩), .slice p cuts.length cap] w (EachIPost w (histR f (keys C 0) cuts)) := by
  have hkb := keys_bd C h.ok 0 (Int.le_refl 0)
  have hok := h.ok
  have hx0 : Ext w (w.alloc (.cells #[.pointer (some ⟨s, 0, none⟩)] 28)) := Ext.alloc' _ _
  have hbx := heap_at w (.cells #[.pointer (some ⟨s, 0, none⟩)] 28) rfl
  have c0 := (cell_of hbx 0).trans rfl
  have cl := lt_of hbx
  have HBX := Lib.hid hbx
  have HH := Lib.hid (h.ext hx0)
  have HC := Lib.hid (hcu.ext hx0)
  have HQ := Lib.hid hq
  have HUC := Lib.hid hU
  have HOK := Lib.hid hok
  have HX0 := Lib.hid hx0
  clear h hcu hq hU hbx hok hx0
  generalize hn : cuts.length = n at *
  have HN := Lib.hid hn
  clear hn
  go_enter Tryz.func74, Tryz.ntmps74
  go_wp2_with fail
  generalize w.alloc (.cells #[.pointer (some ⟨s, 0, none⟩)] 28) = W0 at *
  refine (SKConfig_c s g C B L ls _ HH.out).mono ?_
  rintro e w1 ⟨rfl, hx1⟩
  go_wp2_with fail
  refine (Keys_c C HOK.out 0 (Int.le_refl 0) (by have := HOK.out.b1; omega) _).mono ?_
  rintro e w2 ⟨rfl, hx2⟩
  have HE0 := Lib.hid (hx1.trans' hx2)
  have hE2 := HX0.out.trans' HE0.out
  have HBX2 := Lib.hid (HE0.out.keep HBX.out)
  have HC2 := Lib.hid (HC.out.ext HE0.out)
  clear c0 cl HBX HH HC hx1 hx2 HX0
  generalize keys C 0 = K at *
  go_wp2_with fail
  go_loopw [18] (fun u18 wr => ∃ k : Nat, k ≤ n ∧ u18 = .int .i64 k ∧ Rise cuts k ∧ w2 = wr) (fun u18 _ => n - (intOf u18).toNat)
  case atStart => exact ⟨0, Nat.zero_le _, rfl, fun j hj => by omega, rfl⟩
  case round =>
    obtain ⟨k, hk, rfl, hri, rfl⟩ := hrel
    have HRI := Lib.hid hri
    clear hri
    by_cases hlt : k < n
    · obtain ⟨gc, off, rfl, hg, hc⟩ := HC2.out.one hlt
      cases k with
      | zero =>
        rw [Nat.add_zero] at hc
        generalize cuts.getD 0 0 = x at hc
        go_wp2
        go_roundw
        case rel => exact ⟨1, by omega, rfl, fun j hj => by omega, by trivial⟩
        case measure => simp [intOf]; omega
      | succ q =>
        obtain ⟨gc2, off2, hp2, hg2, hc2⟩ := HC2.out.one (k := q) (by omega)
        cases hp2
        have hwp : IntKind.i64.wrap (q : Int) = (q : Int) := by rw [IntKind.wrap_i64]; omega
        by_cases hle : cuts.getD (q + 1) 0 ≤ cuts.getD q 0
        · have hres := hist_rise (f := f) (K := K) (cuts := cuts) (fun h => by have := h q (by have := HN.out; omega); omega)
          have HRES := Lib.hid hres
          clear hres
          generalize cuts.getD (q + 1) 0 = x at *
          generalize cuts.getD q 0 = y at *
          go_wp2
          go_ret2
          refine ⟨.slice none 0 0, ?_, ?_, hE2⟩
          · rw [HRES.out]; rfl
          · rw [HRES.out]; exact ⟨rfl, .inl ⟨rfl, rfl⟩⟩
        · have hri2 : Rise cuts (q + 1 + 1) := fun j hj => by
            by_cases e : j = q
            · subst e; omega
            · exact HRI.out j (by omega)
          have HRI2 := Lib.hid hri2
          clear hri2
          generalize cuts.getD (q + 1) 0 = x at *
          generalize cuts.getD q 0 = y at *
          go_wp2
          go_roundw
          case rel => exact ⟨q + 1 + 1, by omega, by go_num, HRI2.out, by trivial⟩
          case measure => simp [intOf]; omega
    · obtain rfl : n = k := by omega
      have hrise : Rise cuts cuts.length := by rw [HN.out]; exact HRI.out
      have HRISE := Lib.hid hrise
      clear hrise
      go_wp2_with fail
      go_loopw [9, 10, 37] (fun u9 u10 u37 wr => ∃ (k : Nat) (a : Int) (pre : List (Int × Int)), k ≤ n ∧ u37 = .int .i64 k ∧ u10 = .int .u64 a ∧ 0 ≤ a ∧ a < K ∧ (∀ c ∈ cuts.take k, 1 ≤ c ∧ c < K) ∧ pre.length = k ∧ spansL K 0 cuts = pre ++ spansL K a (cuts.drop k) ∧ (∀ x ∈ pre, U64 x.1 ∧ U64 x.2) ∧ wr.ownsRow w2.heap.size 209 2 u9 k (spV pre) ∧ Ext w2 wr) (fun _ _ u37 _ => n - (intOf u37).toNat)
      case atStart => exact ⟨0, 0, [], Nat.zero_le _, rfl, rfl, by omega, by omega, by simp, rfl, rfl, by simp, ⟨rfl, .inl ⟨rfl, rfl⟩⟩, Ext.refl _⟩
      case round =>
        obtain ⟨k, a, pre, hk, rfl, rfl, ha0, ha1, hin, hpl, hsp, hpu, hown, hE⟩ := hrel
        obtain ⟨po, co, rfl⟩ := own_sl hown
        have HO := Lib.hid hown
        have HIN := Lib.hid hin
        have HSP := Lib.hid hsp
        have HPL := Lib.hid hpl
        have HPU := Lib.hid hpu
        have hEw := hE2.trans' hE
        clear hown hin hsp hpl hpu
        by_cases hlt : k < n
        · have hkl : k < cuts.length := by rw [HN.out]; exact hlt
          obtain ⟨gc, off, hp2, hg, hc⟩ := (HC2.out.ext hE).one hlt
          subst hp2
          have hmem : cuts.getD k 0 ∈ cuts := by simp [List.getD, hkl]
          have hcu := HUC.out _ hmem
          have hts : cuts.take (k + 1) = cuts.take k ++ [cuts.getD k 0] := by rw [List.take_add_one, List.getElem?_eq_getElem hkl]; simp [List.getD, hkl]
          have hdr := drop_getD hkl
          have HTS := Lib.hid hts
          have HDR := Lib.hid hdr
          have HMEM := Lib.hid hmem
          clear hts hdr hmem
          generalize cuts.getD k 0 = c at *
          obtain ⟨hc0, hc1⟩ := hcu
          by_cases hz : c = 0
          · have hres := hist_key (f := f) (K := K) HRISE.out (fun h => by have := h c HMEM.out; omega)
            have HRES := Lib.hid hres
            clear hres
            subst hz
            go_wp2
            go_ret2
            refine ⟨.slice none 0 0, ?_, ?_, hEw⟩
            · rw [HRES.out]; rfl
            · rw [HRES.out]; exact ⟨rfl, .inl ⟨rfl, rfl⟩⟩
          · have hz0 : (c == 0) = false := beq_eq_false_iff_ne.2 hz
            by_cases hKc : K ≤ c
            · have hres := hist_key (f := f) (K := K) HRISE.out (fun h => by have := h c HMEM.out; omega)
              have HRES := Lib.hid hres
              clear hres
              go_wp2
              go_ret2
              refine ⟨.slice none 0 0, ?_, ?_, hEw⟩
              · rw [HRES.out]; rfl
              · rw [HRES.out]; exact ⟨rfl, .inl ⟨rfl, rfl⟩⟩
            · have hsz := hE.size
              have hwp : IntKind.u64.wrap (c - 1) = c - 1 := by rw [IntKind.wrap_u64]; omega
              go_wp2_with (at_builtin; refine wpList_appK wr 2 16 1 (by decide) (by decide) [.int .u64 a, .int .u64 (c - 1)] rfl (by simp [Value.oneCell']) _ k _ w2.heap.size 209 _ HO.out 208 rfl _ _ rfl info_2u Tryz.underlying208 _ rfl (by rfl) (by rfl) (by omega) hsz ?_)
              intro v' w3 g1 g2 _
              have hE3 : Ext w2 w3 := ext_grown hE g2 (fun j hj => own_geB HO.out hj)
              obtain ⟨po3, co3, rfl⟩ := own_sl g1
              have G1 := Lib.hid g1
              clear g1 g2 hc
              go_wp2
              go_roundw
              case rel =>
                refine ⟨k + 1, c, pre ++ [(a, c - 1)], by omega, by go_num, rfl, by omega, by omega, ?_, by rw [List.length_append, HPL.out]; rfl, spans_step (by rw [← HDR.out]; exact HSP.out), ?_, by rw [spV_append]; exact G1.out, hE3⟩
                · intro x hx
                  rw [HTS.out] at hx
                  rcases List.mem_append.1 hx with hx | hx
                  · exact HIN.out x hx
                  · rw [List.mem_singleton.1 hx]; omega
                · intro x hx
                  rcases List.mem_append.1 hx with hx | hx
                  · exact HPU.out x hx
                  · rw [List.mem_singleton.1 hx]; unfold U64; dsimp only; omega
              case measure => simp [intOf]; omega
        · obtain rfl : n = k := by omega
          have htk : cuts.take n = cuts := List.take_of_length_le (by rw [HN.out]; exact Nat.le_refl _)
          have hinn : Inner K cuts := fun c hc => HIN.out c (by rw [htk]; exact hc)
          have hres := hist_ok (f := f) HRISE.out hinn
          have hsp2 : spansL K 0 cuts = pre ++ [(a, K - 1)] := by
            rw [HSP.out, List.drop_of_length_le (by rw [HN.out]; exact Nat.le_refl _)]; rfl
          rw [hsp2] at hres
          have HRES := Lib.hid hres
          clear htk hinn hres hsp2
          have hsz := hE.size
          have hwp : IntKind.u64.wrap (K - 1) = K - 1 := by rw [IntKind.wrap_u64]; omega
          go_wp2_with (at_builtin; go_loud (refine wpList_appK wr 2 16 1 (by decide) (by decide) [.int .u64 a, .int .u64 (K - 1)] rfl (by simp [Value.oneCell']) _ n _ w2.heap.size 209 _ HO.out 208 rfl _ _ rfl info_2u Tryz.underlying208 _ rfl (by rfl) (by rfl) (by omega) hsz ?_))
          intro v' w3 g1 g2 _
          have hE3 : Ext w2 w3 := ext_grown hE g2 (fun j hj => own_geB HO.out hj)
          obtain ⟨po3, co3, rfl⟩ := own_sl g1
          have hb3 := hE3.keep HBX2.out
          have hpl2 : (pre ++ [(a, K - 1)]).length = n + 1 := by rw [List.length_append, HPL.out]; rfl
          have hE03 := hE2.trans' hE3
          have hea := EachS_c w.heap.size f (pre ++ [(a, K - 1)]) w2.heap.size po3 co3 w3 (by rw [hpl2, spV_append]; exact g1) (by omega) (fun x hx W' hE' => by
            have hxu : U64 x.1 ∧ U64 x.2 := by
              rcases List.mem_append.1 hx with hx | hx
              · exact HPU.out x hx
              · rw [List.mem_singleton.1 hx]; unfold U64; dsimp only; omega
            have hb4 := hE'.keep hb3
            exact Ask2_c s w.heap.size f x.1 x.2 W' ((cell_of hb4 0).trans rfl) (lt_of hb4) (fun W'' hE'' => HQ.out x.1 x.2 hxu.1 hxu.2 W'' ((hE03.trans' hE').trans' hE'')))
          rw [hpl2] at hea
          have HEA := Lib.hid hea
          clear g1 g2 hea hpl2 hb3
          go_wp2_with fail
          refine Calls.mono HEA.out ?_
          rintro e w4 ⟨v, rfl, ho, hx4⟩
          have hE4 := hE03.trans' hx4
          have HO4 := Lib.hid (own_bmono ho hE03.size)
          clear ho hx4
          go_wp2
          go_ret2
          refine ⟨v, ?_, ?_, hE4⟩
          · rw [HRES.out]; rfl
          · rw [HRES.out]; exact HO4.out
end Go.Proofs.YtfhdjekpdifajaaGreat
