/- QuantTells: the key of a rank, and the way to it, are what the document says, of raw updates. No condition: every input. -/
import Derived.Test.YteoblkcbemeamaaGreatL18
import Derived.Test.YteoblkcbemeamaaGreatL22
import Derived.Test.YteoblkcbemeamaaGreatL15
import Derived.Test.YteoblkcbemeamaaGreatL3
import Derived.Test.YteoblkcbemeamaaGreatL20
import Derived.Test.YteoblkcbemeamaaGreatL10

/- quant.Way of any stack: a rest may be too great. -/
namespace Go.Proofs.YteoblkcbemeamaaGreat
set_option linter.unusedVariables false
open Go.RowKit
/-- The way down, if every rest fits. -/
def wayF (pt : Nat → Int → Int) : Nat → Int → Int → Option (List (Nat × Int))
  | 0, _, _ => some []
  | n + 1, i, k => if k ≤ pt n (2 * i) then (wayF pt n (2 * i) k).map (fun l => (n, 2 * i) :: l) else if fitB (k - pt n (2 * i)) = true then (wayF pt n (2 * i + 1) (k - pt n (2 * i))).map (fun l => (n, 2 * i + 1) :: l) else none
def wayFP (pt : Nat → Int → Int) (B : Nat) (k : Int) : Option (List (Nat × Int)) := (wayF pt B 0 k).map (fun l => (B, 0) :: l)
theorem wayF_len (pt : Nat → Int → Int) : ∀ (n : Nat) (i k : Int) (l : List (Nat × Int)), wayF pt n i k = some l → l.length = n
  | 0, _, _, l, h => by cases h; rfl
  | n + 1, i, k, l, h => by
    unfold wayF at h
    split at h
    · obtain ⟨m, hm, rfl⟩ := Option.map_eq_some_iff.1 h
      rw [List.length_cons, wayF_len pt n _ _ m hm]
    · split at h
      · obtain ⟨m, hm, rfl⟩ := Option.map_eq_some_iff.1 h
        rw [List.length_cons, wayF_len pt n _ _ m hm]
      · cases h
theorem wayFP_len {pt : Nat → Int → Int} {B : Nat} {k : Int} {l : List (Nat × Int)} (h : wayFP pt B k = some l) : l.length = B + 1 := by
  obtain ⟨m, hm, rfl⟩ := Option.map_eq_some_iff.1 h
  rw [List.length_cons, wayF_len pt B _ _ m hm]
/-- How far the way has come. -/
def WayAtR (w : World) (B : Nat) (C : Cfg) (b : Nat) (pt : Nat → Int → Int) (k : Int) (t : Nat) (k' : Int) (wr : World) (n : Nat) (i : Int) (dn : List (Nat × Int)) : Prop :=
  t + n = B ∧ dn.length = t + 1 ∧ dn.getD t (0, 0) = (n, i) ∧ wayFP pt B k = (wayF pt n i k').map (fun l => dn ++ l) ∧ 0 ≤ i ∧ i < keys C n ∧ 1 ≤ k' ∧ I64 k' ∧
  (∃ cur, wr.heap[b]? = some (.cells cur 158 (0, 0)) ∧ cur.size = 120) ∧ PCells wr b 0 dn ∧ Ext w wr
theorem way_nextR {w wr w6 : World} {B : Nat} {C : Cfg} {b : Nat} {pt : Nat → Int → Int} {k : Int} {t : Nat} {k' : Int} {m : Nat} {i : Int} {dn : List (Nat × Int)} (hW : WayAtR w B C b pt k t k' wr (m + 1) i dn) (hE : Ext wr w6) (hB : C.bits = B) (hBd : B ≤ 59) (hbw : w.heap.size ≤ b) {j k2 : Int}
    (hj : (j = 2 * i ∧ k' ≤ pt m (2 * i) ∧ k2 = k') ∨ (j = 2 * i + 1 ∧ pt m (2 * i) < k' ∧ I64 (k' - pt m (2 * i)) ∧ k2 = k' - pt m (2 * i))) :
    WayAtR w B C b pt k (t + 1) k2 ((w6.setCell ⟨b, (t + 1) * 2, none⟩ (.int .i64 m)).setCell ⟨b, (t + 1) * 2 + 1, none⟩ (.int .u64 j)) m j (dn ++ [(m, j)]) := by
  obtain ⟨a1, a2, a3, a4, a5, a6, a7, a8, ⟨cur, a9, a10⟩, a11, a12⟩ := hW
  have hkh := keys_half (C := C) (m := m) (by omega)
  have hs := way_set (hE.keep a9) a10 (a11.ext (lt_of a9) hE) (by omega) m j
  rw [a2] at hs
  refine ⟨by omega, by rw [List.length_append, a2]; rfl, ?_, ?_, ?_, ?_, ?_, ?_, hs.1, hs.2, ((a12.trans' hE).setR (p := ⟨b, (t + 1) * 2, none⟩) hbw _).setR (p := ⟨b, (t + 1) * 2 + 1, none⟩) hbw _⟩
  · rw [← a2]; simp
  · rw [a4]
    conv => lhs; unfold wayF
    rcases hj with ⟨rfl, h1, rfl⟩ | ⟨rfl, h1, h2, rfl⟩
    · rw [if_pos h1, Option.map_map]
      congr 1
      funext l
      simp
    · rw [if_neg (by omega), if_pos (fitB_yes h2), Option.map_map]
      congr 1
      funext l
      simp
  · rcases hj with ⟨rfl, _, _⟩ | ⟨rfl, _, _⟩ <;> omega
  · rcases hj with ⟨rfl, _, _⟩ | ⟨rfl, _, _⟩ <;> omega
  · rcases hj with ⟨_, h1, rfl⟩ | ⟨_, h1, _, rfl⟩ <;> omega
  · rcases hj with ⟨_, h1, rfl⟩ | ⟨_, h1, h2, rfl⟩
    · exact a8
    · exact h2
def WayRPost (w : World) (B : Nat) (T : Int) (pt : Nat → Int → Int) (k : Int) (e : Ending) (w' : World) : Prop :=
  ((k < 1 ∨ T < k) ∧ e = .returned (.tuple #[.slice none 0 0, .int .i64 6]) ∧ Ext w w') ∨
  ((1 ≤ k ∧ k ≤ T) ∧ wayFP pt B k = none ∧ e = .returned (.tuple #[.slice none 0 0, .int .i64 4]) ∧ Ext w w') ∨
  ((1 ≤ k ∧ k ≤ T) ∧ ∃ ps v base, wayFP pt B k = some ps ∧ e = .returned (.tuple #[v, .int .i64 0]) ∧ w.heap.size ≤ base ∧ w'.ownsRow base 39 2 v ps.length (pcV ps) ∧ Ext w w')
set_option maxRecDepth 20000 in
set_option maxHeartbeats 8000000 in
theorem WayR_c (s g : Nat) (C : Cfg) (B : Nat) (L : Nat → Lev) (ls : Nat → List Int) (w : World) (h : KAt w s g C B L ls) (k : Int) (hk : I64 k) (pt : Nat → Int → Int) (hT : Uniq C B ls pt) (hPI : ∀ n i, I64 (pt n i)) :
    Calls Tryz.prog 42 #[.pointer (some ⟨s, 0, none⟩), .int .i64 k] w (WayRPost w B ((ls B).getD 0 0) pt k) := by
  have hok := h.ok
  have hB := h.hB
  have hBd : B ≤ 59 := by have := hok.b2; omega
  by_cases hk1 : k < 1
  · go_enter Tryz.func42, Tryz.ntmps42
    go_wp2
    go_step3
    go_wp2
    go_ret2
    exact .inl ⟨.inl hk1, rfl, Ext.refl _⟩
  have hTot := fun W' (he : Ext w W') => KTotal_c s g C B L ls W' (h.ext he)
  generalize hTT : (ls B).getD 0 0 = T at *
  by_cases hk2 : T < k
  · go_enter Tryz.func42, Tryz.ntmps42
    go_wp2
    go_step3
    go_wp2_with fail
    refine (hTot _ (by (repeat' (first | exact Ext.refl _ | assumption | apply Ext.allocR | apply Ext.drewR | apply Ext.drewNR | (refine Ext.trans' ?_ (by assumption)))))).mono ?_
    rintro e w1 ⟨rfl, hx1⟩
    go_wp2
    go_ret2
    exact .inl ⟨.inr hk2, rfl, by (repeat' (first | exact Ext.refl _ | assumption | apply Ext.allocR | apply Ext.drewR | apply Ext.drewNR | (refine Ext.trans' ?_ (by assumption))))⟩
  have HB := Lib.hid hB
  have HTT := Lib.hid hTT
  clear hB hTT
  go_enter Tryz.func42, Tryz.ntmps42
  go_wp2
  go_step3
  go_wp2_with fail
  refine (hTot _ (by (repeat' (first | exact Ext.refl _ | assumption | apply Ext.allocR | apply Ext.drewR | apply Ext.drewNR | (refine Ext.trans' ?_ (by assumption)))))).mono ?_
  rintro e w1 ⟨rfl, hx1⟩
  have hE1 : Ext w w1 := by (repeat' (first | exact Ext.refl _ | assumption | apply Ext.allocR | apply Ext.drewR | apply Ext.drewNR | (refine Ext.trans' ?_ (by assumption))))
  clear hx1 hTot
  go_wp2_with fail
  refine (SKConfig_c s g C B L ls _ (h.ext ?hx)).mono ?_
  case hx => exact hE1.trans' (by (repeat' (first | exact Ext.refl _ | assumption | apply Ext.allocR | apply Ext.drewR | apply Ext.drewNR | (refine Ext.trans' ?_ (by assumption)))))
  rintro e w2 ⟨rfl, hx2⟩
  have hE2 : Ext w w2 := hE1.trans' (by (repeat' (first | exact Ext.refl _ | assumption | apply Ext.allocR | apply Ext.drewR | apply Ext.drewNR | (refine Ext.trans' ?_ (by assumption)))))
  clear hx2 hE1
  go_upto_region 5 with (fail)
  obtain ⟨w3, hw3⟩ : ∃ w3, w2.alloc (.cells Tryz.zeroCells158 158) = w3 := ⟨_, rfl⟩
  have hx3 : Ext w2 w3 := by rw [← hw3]; exact Ext.alloc' _ _
  have hb3 : w3.heap[w2.heap.size]? = some (.cells Tryz.zeroCells158 158 (0, 0)) := by rw [← hw3]; exact heap_at _ _ rfl
  rw [hw3]
  clear hw3
  have hE3 := hE2.trans' hx3
  have hzs : Tryz.zeroCells158.size = 120 := by kernel_rfl
  have hz0 : Tryz.zeroCells158[0]? = some (.int .i64 0) := by kernel_rfl
  have hz1 : Tryz.zeroCells158[1]? = some (.int .u64 0) := by kernel_rfl
  generalize Tryz.zeroCells158 = zc at *
  have z0 := (cell_of hb3 0).trans hz0
  have z1 := (cell_of hb3 1).trans hz1
  have f0 := frozen_of hb3 0
  have f1 := frozen_of hb3 1
  have zl := lt_of hb3
  have hbE := hE2.size
  generalize hbb : w2.heap.size = b at *
  have hw0 := way_set hb3 hzs (dn := []) (fun k hk => by simp at hk) (by simp) B 0
  simp only [List.length_nil, Nat.zero_mul, Nat.zero_add, List.nil_append] at hw0
  have hW0 : WayAtR w B C b pt k 0 k ((w3.setCell ⟨b, 0, none⟩ (.int .i64 (B : Nat))).setCell ⟨b, 1, none⟩ (.int .u64 0)) B 0 [(B, 0)] :=
    ⟨by omega, rfl, rfl, rfl, Int.le_refl 0, by have := keys_bd C hok B (Int.natCast_nonneg B); omega, by omega, hk, hw0.1, hw0.2, (hE3.setR (p := ⟨b, 0, none⟩) hbE _).setR (p := ⟨b, 1, none⟩) hbE _⟩
  rw [← HB.out] at hW0
  have HW0 := Lib.hid hW0
  clear hz0 hz1 hw0 hW0
  go_wp2
  go_step3
  go_wp2
  have HT := Lib.hid hT
  have HPI := Lib.hid hPI
  clear hT hPI
  go_loopw [1, 8] (fun u1 u8 wr => ∃ (t : Nat) (k' : Int) (n : Nat) (i : Int) (dn : List (Nat × Int)), u1 = .int .i64 k' ∧ u8 = .int .i64 t ∧ WayAtR w B C b pt k t k' wr n i dn) (fun _ u8 _ => B - (intOf u8).toNat)
  case atStart => exact ⟨0, k, B, 0, [(B, 0)], rfl, rfl, HW0.out⟩
  case round =>
    clear HW0
    obtain ⟨t, k', n, i, dn, rfl, rfl, hW⟩ := hrel
    obtain ⟨w1', w2', w3', w4', w5', w6', w7', w8', w9', w10', w11'⟩ := hW
    obtain ⟨cur, hcb, hcs⟩ := w9'
    have hp := w10' t (by omega)
    rw [w3', Nat.zero_add] at hp
    obtain ⟨q0, q1⟩ := hp
    have ql := lt_of hcb
    cases n with
    | zero =>
      have hdl : wayFP pt B k = some dn := by rw [w4']; simp [wayF]
      have hcl := fun W' (he : Ext wr W') => CloneP_c b (60 - 0) dn W' (w10'.ext ql he) (Nat.lt_of_lt_of_le ql he.size) (by omega)
      rw [w2'] at hcl
      have HDL := Lib.hid hdl
      have HCL := Lib.hid hcl
      have hsl := fun W' => run_slice60 b t (by omega) W'
      clear hdl hcl
      go_wp2_with fail
      refine (HCL.out _ (Ext.refl _)).mono ?_
      rintro e w5 ⟨v5, rfl, ho5, hx5⟩
      clear hsl
      go_wp2
      go_ret2
      exact .inr (.inr ⟨⟨by omega, by omega⟩, dn, v5, wr.heap.size, HDL.out, rfl, w11'.size, by rw [w2']; exact ho5, w11'.trans' hx5⟩)
    | succ m =>
      have hnn : ((m + 1 : Nat) : Int) = (m : Int) + 1 := by omega
      have hmb : ((m + 1 : Nat) : Int) ≤ C.bits := by have := HB.out; omega
      have hHV : ∀ W', Calls Tryz.prog 94 #[.int .i64 C.bits, .agg #[.int .i64 ((m : Int) + 1), .int .u64 i]] W' fun e w' => e = .returned (.tuple #[.agg #[.int .i64 m, .int .u64 (2 * i)], .agg #[.int .i64 m, .int .u64 (2 * i + 1)], .bool true]) ∧ Ext W' w' := fun W' => by
        have := Halves_c C hok m hmb i w5' w6' W'
        rw [hnn] at this
        exact this
      go_wp2_with fail
      refine (hHV _).mono ?_
      rintro e w4 ⟨rfl, hx4⟩
      clear hHV
      go_upto_region 9 with (fail)
      have hr4 : Ext wr w4 := by (repeat' (first | exact Ext.refl _ | assumption | apply Ext.allocR | apply Ext.drewR | apply Ext.drewNR | (refine Ext.trans' ?_ (by assumption))))
      have hkh := keys_half (C := C) (m := m) hmb
      have hl5 := (heap_old (w4.alloc (.cells #[.int .i64 m, .int .u64 (2 * i)] 39)) (.cells #[.int .i64 m, .int .u64 (2 * i + 1)] 39) (n := w4.heap.size) (by rw [size_alloc]; omega)).trans (heap_at w4 (.cells #[.int .i64 m, .int .u64 (2 * i)] 39) rfl)
      have hr5 := heap_at (w4.alloc (.cells #[.int .i64 m, .int .u64 (2 * i)] 39)) (.cells #[.int .i64 m, .int .u64 (2 * i + 1)] 39) (n := w4.heap.size + 1) (by rw [size_alloc])
      have hx5 : Ext w4 ((w4.alloc (.cells #[.int .i64 m, .int .u64 (2 * i)] 39)).alloc (.cells #[.int .i64 m, .int .u64 (2 * i + 1)] 39)) := (Ext.alloc' _ _).allocR _
      generalize (w4.alloc (.cells #[.int .i64 m, .int .u64 (2 * i)] 39)).alloc (.cells #[.int .i64 m, .int .u64 (2 * i + 1)] 39) = w5 at *
      have hE5 : Ext wr w5 := hr4.trans' hx5
      have v0 := (cell_of hl5 0).trans rfl
      have v1 := (cell_of hl5 1).trans rfl
      have vl := lt_of hl5
      clear hx4 hx5 hr4 q0 q1 ql
      have hK5 := h.ext (w11'.trans' hE5)
      have ht59 : t < 59 := by omega
      go_wp2_with fail
      refine Calls.mono (KPoint_c s g C B L ls _ hK5 m (by omega) (2 * i) (by omega) (by omega)) ?_
      rintro e w6 ⟨x, rfl, hpt, hx6⟩
      have hxp := HT.out m (2 * i) x (by omega) (by omega) (by omega) hpt
      have hpi := HPI.out m (2 * i)
      have hw4 := w4'
      have hE6 := hE5.trans' hx6
      have hl6 := hx6.keep hl5
      have hr6 := hx6.keep hr5
      have hc6 := hE6.keep hcb
      have hW : WayAtR w B C b pt k t k' wr (m + 1) i dn := ⟨w1', w2', w3', w4', w5', w6', w7', w8', ⟨cur, hcb, hcs⟩, w10', w11'⟩
      subst hxp
      have hn1 := fun (W' : World) (hE' : Ext wr W') (j k2 : Int) hj => way_nextR (j := j) (k2 := k2) hW hE' HB.out hBd hbE hj
      have HN1 := Lib.hid hn1
      obtain ⟨o0, ho0⟩ : ∃ o0, cur[(t + 1) * 2]? = some o0 := ⟨_, Array.getElem?_eq_getElem (by omega)⟩
      obtain ⟨o1, ho1⟩ : ∃ o1, cur[(t + 1) * 2 + 1]? = some o1 := ⟨_, Array.getElem?_eq_getElem (by omega)⟩
      have u0 := (cell_of hc6 ((t + 1) * 2)).trans ho0
      have u1 := (cell_of hc6 ((t + 1) * 2 + 1)).trans ho1
      have g0 := frozen_of hc6 ((t + 1) * 2)
      have g1 := frozen_of hc6 ((t + 1) * 2 + 1)
      have gl := lt_of hc6
      have v0 := (cell_of hl6 0).trans rfl
      have v1 := (cell_of hl6 1).trans rfl
      have vl := lt_of hl6
      have y0 := (cell_of hr6 0).trans rfl
      have y1 := (cell_of hr6 1).trans rfl
      have yl := lt_of hr6
      have HW4 := Lib.hid hw4
      clear hw4 w4' hn1 hW hpt hK5 hl5 hr5 w10' hcb hx6
      generalize hP : pt m (2 * i) = P at *
      by_cases hle : k' ≤ P
      · go_wp2_with fail
        go_roundw
        case rel => exact ⟨t + 1, k', m, 2 * i, dn ++ [(m, 2 * i)], rfl, by go_num, HN1.out _ hE6 _ _ (.inl ⟨rfl, hle, rfl⟩)⟩
        case measure => simp [intOf]; omega
      · have hkI : I64 k' := w8'
        have hM := Minus_c k' P hkI hpi
        by_cases hI : I64 (k' - P)
        rotate_left
        · rw [fitB_no hI] at hM
          have hno : wayFP pt B k = none := by
            rw [HW4.out]
            conv => lhs; unfold wayF
            rw [if_neg (by omega), if_neg (by rw [hP, fitB_no hI]; decide)]
            rfl
          have HNO := Lib.hid hno
          have HM := Lib.hid hM
          clear hM hno hI
          go_wp2_with fail
          refine (HM.out _).mono ?_
          rintro e w7 ⟨rfl, hx7⟩
          have hE7 : Ext w6 w7 := by (repeat' (first | exact Ext.refl _ | assumption | apply Ext.allocR | apply Ext.drewR | apply Ext.drewNR | (refine Ext.trans' ?_ (by assumption))))
          go_wp2
          go_ret2
          exact .inr (.inl ⟨⟨by omega, by omega⟩, HNO.out, rfl, w11'.trans' (hE6.trans' hE7)⟩)
        rw [fitB_yes hI, fitN_yes hI] at hM
        have HII := Lib.hid hI
        clear hI
        have HM := Lib.hid hM
        clear hM
        go_wp2_with fail
        refine (HM.out _).mono ?_
        rintro e w7 ⟨rfl, hx7⟩
        have hE7 : Ext w6 w7 := by (repeat' (first | exact Ext.refl _ | assumption | apply Ext.allocR | apply Ext.drewR | apply Ext.drewNR | (refine Ext.trans' ?_ (by assumption))))
        have hc7 := hE7.keep hc6
        have hr7 := hE7.keep hr6
        clear hx7 u0 u1 g0 g1 gl v0 v1 vl y0 y1 yl
        have u0 := (cell_of hc7 ((t + 1) * 2)).trans ho0
        have u1 := (cell_of hc7 ((t + 1) * 2 + 1)).trans ho1
        have g0 := frozen_of hc7 ((t + 1) * 2)
        have g1 := frozen_of hc7 ((t + 1) * 2 + 1)
        have gl := lt_of hc7
        have y0 := (cell_of hr7 0).trans rfl
        have y1 := (cell_of hr7 1).trans rfl
        have yl := lt_of hr7
        go_wp2_with fail
        go_roundw
        case rel => exact ⟨t + 1, k' - P, m, 2 * i + 1, dn ++ [(m, 2 * i + 1)], rfl, by go_num, HN1.out _ (hE6.trans' hE7) _ _ (.inr ⟨rfl, by omega, HII.out, rfl⟩)⟩
        case measure => simp [intOf]; omega
end Go.Proofs.YteoblkcbemeamaaGreat

/- gaugerref17: Way, Quantile, walked. -/
namespace Go.Proofs.YteoblkcbemeamaaGreat
set_option linter.unusedVariables false
open Go.RowKit
theorem RKTop_c (s t : Nat) (C : Cfg) (B : Nat) (L : Nat → RLev) (ls : Nat → List Int) (w : World) (h : RKAt w s t C B L ls) :
    Calls Tryz.prog 29 #[.pointer (some ⟨s, 0, none⟩)] w fun e w' => e = .returned (.int .i64 ((ls B).getD 0 0)) ∧ Ext w w' := by
  have hB := h.hB
  have hok := h.ok
  refine (RKTotal_c s t C B L ls w h).mono ?_
  rintro e w' ⟨x, r, rfl, hp, hE⟩
  rcases hp with ⟨hbad, _⟩ | ⟨_, (⟨_, rfl⟩ | ⟨hx, _⟩), _⟩
  · have := keys_bd C hok B (Int.natCast_nonneg B); omega
  · exact ⟨rfl, hE⟩
  · rw [isX_top hok hB] at hx; cases hx
set_option maxRecDepth 20000 in
set_option maxHeartbeats 8000000 in
theorem RWay_c (s t : Nat) (C : Cfg) (B : Nat) (L : Nat → RLev) (ls : Nat → List Int) (w : World) (h : RKAt w s t C B L ls) (k : Int) (hk : I64 k) (pt : Nat → Int → Int) (hU : Uniq C B ls pt) (hPI : ∀ n i, I64 (pt n i)) :
    Calls Tryz.prog 43 #[.pointer (some ⟨s, 0, none⟩), .int .i64 k] w (WayRPost w B ((ls B).getD 0 0) pt k) := by
  have hok := h.ok
  have hB := h.hB
  have hBd : B ≤ 59 := by have := hok.b2; omega
  by_cases hk1 : k < 1
  · go_enter Tryz.func43, Tryz.ntmps43
    go_wp2
    go_ret2
    exact .inl ⟨.inl hk1, rfl, Ext.refl _⟩
  have HTot := Lib.hid (RKTop_c s t C B L ls w h)
  generalize hTT : (ls B).getD 0 0 = T at *
  by_cases hk2 : T < k
  · clear hTT hB
    go_enter Tryz.func43, Tryz.ntmps43
    go_wp2_with fail
    refine HTot.out.mono ?_
    rintro e w1 ⟨rfl, hx1⟩
    go_wp2
    go_ret2
    exact .inl ⟨.inr hk2, rfl, hx1⟩
  have HB := Lib.hid hB
  have HH := Lib.hid h
  have HU := Lib.hid hU
  have HPI := Lib.hid hPI
  obtain ⟨i0, z0, hi0, hz0, hz1, hz2, hzs⟩ := info_pc
  obtain ⟨cap, hex, hcap⟩ := h.ex
  have HEX := Lib.hid hex
  clear hB h hU hPI hTT hex
  go_enter Tryz.func43, Tryz.ntmps43
  go_wp2_with fail
  refine HTot.out.mono ?_
  rintro e w1 ⟨rfl, hx1⟩
  have hex1 := hx1.keep HEX.out
  have c0 := (cell_of hex1 0).trans (show _ = some (Value.int .i64 B) by rw [← HB.out]; rfl)
  have hls := lt_of hex1
  have HX1 := Lib.hid hx1
  have ho0 : (w1.alloc (.cells #[.int .i64 B, .int .u64 0] 39)).ownsRow w.heap.size 39 2 (.slice (some ⟨w1.heap.size, 0, none⟩) 1 1) [((B : Nat), (0 : Int))].length (pcV [((B : Nat), (0 : Int))]) := ⟨rfl, .inr ⟨w1.heap.size, 1, #[.int .i64 B, .int .u64 0], rfl, HX1.out.size, heap_at _ _ rfl, Nat.le_refl _, by decide, rfl, rfl⟩⟩
  have HO0 := Lib.hid ho0
  have hE1 : Ext w (w1.alloc (.cells #[.int .i64 B, .int .u64 0] 39)) := HX1.out.allocR _
  have HE1 := Lib.hid hE1
  have hkb0 : (0 : Int) < keys C B := by have := keys_bd C hok B (Int.natCast_nonneg B); omega
  clear hx1 hex1 ho0 hE1 HTot
  go_wp2_with fail
  clear c0 hls
  go_loopw [1, 6, 7, 8] (fun u1 u6 u7 u8 wr => ∃ (k' : Int) (m : Nat) (i z : Int) (dn : List (Nat × Int)), u1 = .int .i64 k' ∧ u7 = .int .u64 i ∧ u8 = .int .i64 z ∧ z + 1 = m ∧ dn.length + m = B + 1 ∧ 1 ≤ dn.length ∧ wayFP pt B k = (wayF pt m i k').map (fun l => dn ++ l) ∧ 0 ≤ i ∧ i < keys C m ∧ I64 k' ∧ wr.ownsRow w.heap.size 39 2 u6 dn.length (pcV dn) ∧ Ext w wr) (fun _ _ _ u8 _ => (intOf u8 + 1).toNat)
  case atStart => exact ⟨k, B, 0, (B : Int) - 1, [(B, 0)], rfl, rfl, by first | rfl | go_num, by omega, by rw [List.length_singleton]; omega, Nat.le_refl _, rfl, Int.le_refl 0, hkb0, hk, HO0.out, HE1.out⟩
  case round =>
    clear HO0 HE1
    obtain ⟨k', m, i, z, dn, rfl, rfl, rfl, hz, hdl, hdl1, hway, hi0', hi1', hkI, hown, hE⟩ := hrel
    obtain ⟨pv, cv, rfl⟩ := own_sl hown
    have HO := Lib.hid hown
    have HW := Lib.hid hway
    have HE := Lib.hid hE
    have HDL := Lib.hid hdl
    clear hown hway
    cases m with
    | zero =>
      obtain rfl : z = -1 := by omega
      have hfin : wayFP pt B k = some dn := by rw [HW.out]; simp [wayF]
      have HF := Lib.hid hfin
      clear hfin hz hdl
      go_wp2
      go_ret2
      exact .inr (.inr ⟨⟨by omega, by omega⟩, dn, _, w.heap.size, HF.out, rfl, Nat.le_refl _, HO.out, HE.out⟩)
    | succ m =>
      obtain rfl : z = (m : Int) := by omega
      have hmb : ((m + 1 : Nat) : Int) ≤ C.bits := by have := HB.out; omega
      have hkh := keys_half (C := C) (m := m) hmb
      have hkk := keys_bd C hok m (Int.natCast_nonneg m)
      have hib : i < 576460752303423488 := by have := keys_bd C hok (m + 1 : Nat) (Int.natCast_nonneg _); omega
      have hcall := RKPoint_c s t C B L ls m (2 * i) (by unfold I64; omega) (by unfold U64; omega) wr (HH.out.ext hE)
      have hun := fun x (hx : lvPt C m (ls m) (2 * i) x) => HU.out m (2 * i) x (by omega) (by omega) (by omega) hx
      have hq2 : i * 2 = 2 * i := by omega
      rw [← hq2] at hcall
      have HCALL := Lib.hid hcall
      have HUN := Lib.hid hun
      have HKH := Lib.hid hkh
      have HQ2 := Lib.hid hq2
      have hz0' : (0 : Int) ≤ (m : Int) := by omega
      have HHZ := Lib.hid hz
      have hmB : m ≤ 58 := by have := HB.out; have := hok.b2; omega
      clear hcall hun hkh hq2 hkk hz hmb hdl
      go_wp2_with fail
      refine Calls.mono HCALL.out ?_
      rintro e w5 ⟨x, r, rfl, hp, hx5⟩
      have hxp : x = pt m (2 * i) := by
        rcases hp with ⟨hbad, _⟩ | ⟨n, hn, _, hpa⟩
        · have := HDL.out; omega
        · obtain rfl : m = n := by omega
          rw [HQ2.out] at hpa
          rcases hpa with ⟨hbad, _⟩ | ⟨_, hl, _⟩
          · have := HKH.out; omega
          · exact HUN.out x hl
      have hxI : I64 x := by rw [hxp]; exact HPI.out _ _
      have HXP := Lib.hid hxp
      have hE5 := HE.out.trans' hx5
      have ho5 := own_keepB HO.out (fun j hj => hx5.block j (own_lt HO.out hj))
      have HO5 := Lib.hid ho5
      have HE5 := Lib.hid hE5
      have hlen : dn.length ≤ 1000000000 := by have := HDL.out; omega
      clear hp hxp hx5 ho5 hE5 hE HCALL HUN
      by_cases hle : k' ≤ x
      · have hwn : wayFP pt B k = (wayF pt m (i * 2) k').map (fun l => (dn ++ [(m, i * 2)]) ++ l) := by
          rw [HW.out]
          conv => lhs; unfold wayF
          rw [← HXP.out, if_pos hle, Option.map_map, HQ2.out]
          congr 1
          funext l
          simp
        have HWN := Lib.hid hwn
        have hj1 : i * 2 < keys C m := by have := HKH.out; omega
        clear hwn
        go_wp2_with (at_builtin; refine wpList_appp w5 (m, i * 2) dn _ w.heap.size 39 39 HO5.out 73 rfl _ _ rfl i0 z0 hi0 hz0 hz1 hz2 hzs Tryz.underlying73 rfl rfl hlen HE5.out.size ?_)
        intro v' w6 hw1 hw2 hw3
        have hE6 : Ext w w6 := ext_grown HE5.out hw2 (fun j hj => own_blk HO5.out hj)
        obtain ⟨pv2, cv2, rfl⟩ := own_sl hw1
        have HW1 := Lib.hid hw1
        clear hw1 hw2 hw3
        go_wp2
        go_roundw
        case rel => exact ⟨k', m, i * 2, (m : Int) - 1, dn ++ [(m, i * 2)], rfl, rfl, by first | rfl | go_num, by omega, by rw [List.length_append, List.length_singleton]; have := HDL.out; omega, by rw [List.length_append, List.length_singleton]; omega, HWN.out, by omega, hj1, hkI, by rw [List.length_append]; exact HW1.out, hE6⟩
        case measure => simp [intOf] <;> omega
      · have hbig : -730750818665451459101842416358141509827966271488 ≤ k' + -x ∧ k' + -x < 730750818665451459101842416358141509827966271488 := by unfold I64 at hkI hxI; omega
        have HI := Lib.hid (fun W' => LInt_c (k' + -x) hbig.1 hbig.2 W')
        have HN1 := Lib.hid (fun W' => OfInt_c k' hkI W')
        have HN2 := Lib.hid (fun W' => OfInt_c x hxI W')
        have HKI := Lib.hid hkI
        clear hbig
        by_cases hf : I64 (k' + -x)
        · rw [fitB_yes hf, fitN_yes hf] at HI
          have hwn : wayFP pt B k = (wayF pt m (i * 2 + 1) (k' + -x)).map (fun l => (dn ++ [(m, i * 2 + 1)]) ++ l) := by
            rw [HW.out]
            conv => lhs; unfold wayF
            rw [← HXP.out, if_neg hle, if_pos (fitB_yes (by rw [Int.sub_eq_add_neg]; exact hf)), Option.map_map, HQ2.out, Int.sub_eq_add_neg]
            congr 1
            funext l
            simp
          have HWN := Lib.hid hwn
          have HFF := Lib.hid hf
          have hj1 : i * 2 + 1 < keys C m := by have := HKH.out; omega
          clear hwn hf
          go_wp2_with fail
          refine (HN1.out _).mono ?_
          rintro e wa ⟨rfl, hxa⟩
          go_wp2_with fail
          refine (HN2.out _).mono ?_
          rintro e wb ⟨rfl, hxb⟩
          go_wp2_with fail
          refine (LMinus_c x _).mono ?_
          rintro e wc ⟨rfl, hxc⟩
          go_wp2_with fail
          refine (LPlus_c k' (-x) _).mono ?_
          rintro e wd ⟨rfl, hxd⟩
          go_wp2_with fail
          refine (HI.out _).mono ?_
          rintro e wf ⟨rfl, hxf⟩
          have hE5f : Ext w5 wf := hxa.trans' (hxb.trans' (hxc.trans' (hxd.trans' hxf)))
          have ho6 := own_keepB HO5.out (fun j hj => hE5f.block j (own_lt HO5.out hj))
          have HO6 := Lib.hid ho6
          have HE6 := Lib.hid (HE5.out.trans' hE5f)
          generalize k' + -x = kn at *
          clear hxa hxb hxc hxd hxf ho6 hE5f
          go_wp2_with (at_builtin; refine wpList_appp wf (m, i * 2 + 1) dn _ w.heap.size 39 39 HO6.out 73 rfl _ _ rfl i0 z0 hi0 hz0 hz1 hz2 hzs Tryz.underlying73 rfl rfl hlen HE6.out.size ?_)
          intro v' w6 hw1 hw2 hw3
          have hE6 : Ext w w6 := ext_grown HE6.out hw2 (fun j hj => own_blk HO6.out hj)
          obtain ⟨pv2, cv2, rfl⟩ := own_sl hw1
          have HW1 := Lib.hid hw1
          clear hw1 hw2 hw3
          go_wp2
          go_roundw
          case rel => exact ⟨kn, m, i * 2 + 1, (m : Int) - 1, dn ++ [(m, i * 2 + 1)], rfl, rfl, by first | rfl | go_num, by omega, by rw [List.length_append, List.length_singleton]; have := HDL.out; omega, by rw [List.length_append, List.length_singleton]; omega, HWN.out, by omega, hj1, HFF.out, by rw [List.length_append]; exact HW1.out, hE6⟩
          case measure => simp [intOf] <;> omega
        · rw [fitB_no hf] at HI
          have hno : wayFP pt B k = none := by
            rw [HW.out]
            conv => lhs; unfold wayF
            rw [← HXP.out, if_neg hle, if_neg (by rw [fitB_no (by rw [Int.sub_eq_add_neg]; exact hf)]; decide)]
            rfl
          have HNO := Lib.hid hno
          clear hno hf
          go_wp2_with fail
          refine (HN1.out _).mono ?_
          rintro e wa ⟨rfl, hxa⟩
          go_wp2_with fail
          refine (HN2.out _).mono ?_
          rintro e wb ⟨rfl, hxb⟩
          go_wp2_with fail
          refine (LMinus_c x _).mono ?_
          rintro e wc ⟨rfl, hxc⟩
          go_wp2_with fail
          refine (LPlus_c k' (-x) _).mono ?_
          rintro e wd ⟨rfl, hxd⟩
          go_wp2_with fail
          refine (HI.out _).mono ?_
          rintro e wf ⟨rfl, hxf⟩
          have hE5f : Ext w5 wf := hxa.trans' (hxb.trans' (hxc.trans' (hxd.trans' hxf)))
          go_wp2
          go_ret2
          exact .inr (.inl ⟨⟨by omega, by omega⟩, HNO.out, rfl, HE5.out.trans' hE5f⟩)
end Go.Proofs.YteoblkcbemeamaaGreat

/- gaugerref17.Quantile, and quant.Quantile of any stack. -/
namespace Go.Proofs.YteoblkcbemeamaaGreat
set_option linter.unusedVariables false
open Go.RowKit
def quanR (pt : Nat → Int → Int) (B : Nat) (T k : Int) : Int × Int := if k < 1 ∨ T < k then (0, 6) else match wayFP pt B k with | none => (0, 4) | some ps => ((ps.getD B (0, 0)).2, 0)
def wayRR (pt : Nat → Int → Int) (B : Nat) (T k : Int) : List (Nat × Int) × Int := if k < 1 ∨ T < k then ([], 6) else match wayFP pt B k with | none => ([], 4) | some ps => (ps, 0)
set_option maxRecDepth 20000 in
set_option maxHeartbeats 4000000 in
theorem Quan_of (s : Nat) (B : Nat) (hBd : B ≤ 59) (pt : Nat → Int → Int) (T k : Int) (w : World) (h : ∀ W', Ext w W' → Calls Tryz.prog 42 #[.pointer (some ⟨s, 0, none⟩), .int .i64 k] W' (WayRPost W' B T pt k)) :
    Calls Tryz.prog 40 #[.pointer (some ⟨s, 0, none⟩), .int .i64 k] w fun e w' => e = .returned (.tuple #[.int .u64 (quanR pt B T k).1, .int .i64 (quanR pt B T k).2]) ∧ Ext w w' := by
  have HW := Lib.hid h
  clear h
  go_enter Tryz.func40, Tryz.ntmps40
  go_wp2_with fail
  refine (HW.out _ (by (repeat' (first | exact Ext.refl _ | assumption | apply Ext.allocR | apply Ext.drewR | apply Ext.drewNR | (refine Ext.trans' ?_ (by assumption)))))).mono ?_
  rintro e w1 (⟨hr, rfl, hx⟩ | ⟨hr, hn, rfl, hx⟩ | ⟨hr, ps, v, base, hsm, rfl, hbs, ho, hx⟩)
  · have HQ : Hid (quanR pt B T k = (0, 6)) := Lib.hid (by unfold quanR; rw [if_pos hr])
    clear hr
    go_wp2
    go_ret2
    exact ⟨by rw [HQ.out]; rfl, by (repeat' (first | exact Ext.refl _ | assumption | apply Ext.allocR | apply Ext.drewR | apply Ext.drewNR | (refine Ext.trans' ?_ (by assumption))))⟩
  · have HQ : Hid (quanR pt B T k = (0, 4)) := Lib.hid (by unfold quanR; rw [if_neg (by omega), hn])
    clear hr hn
    go_wp2
    go_ret2
    exact ⟨by rw [HQ.out]; rfl, by (repeat' (first | exact Ext.refl _ | assumption | apply Ext.allocR | apply Ext.drewR | apply Ext.drewNR | (refine Ext.trans' ?_ (by assumption))))⟩
  · have hlen := wayFP_len hsm
    have HQ : Hid (quanR pt B T k = ((ps.getD B (0, 0)).2, 0)) := Lib.hid (by unfold quanR; rw [if_neg (by omega), hsm])
    obtain ⟨g', cap, rfl, hgl, hpc⟩ := own_pieces ho (by omega)
    obtain ⟨_, q1⟩ := hpc B (by omega)
    rw [Nat.zero_add] at q1
    have hE : Ext w w1 := by (repeat' (first | exact Ext.refl _ | assumption | apply Ext.allocR | apply Ext.drewR | apply Ext.drewNR | (refine Ext.trans' ?_ (by assumption))))
    clear ho hpc hx hr hsm
    rw [hlen]
    clear hlen
    go_wp2
    go_ret2
    exact ⟨by rw [HQ.out]; rfl, hE⟩
set_option maxRecDepth 20000 in
set_option maxHeartbeats 4000000 in
theorem RQuan_of (s : Nat) (B : Nat) (hBd : B ≤ 59) (pt : Nat → Int → Int) (T k : Int) (w : World) (h : ∀ W', Ext w W' → Calls Tryz.prog 43 #[.pointer (some ⟨s, 0, none⟩), .int .i64 k] W' (WayRPost W' B T pt k)) :
    Calls Tryz.prog 41 #[.pointer (some ⟨s, 0, none⟩), .int .i64 k] w fun e w' => e = .returned (.tuple #[.int .u64 (quanR pt B T k).1, .int .i64 (quanR pt B T k).2]) ∧ Ext w w' := by
  have HW := Lib.hid h
  clear h
  go_enter Tryz.func41, Tryz.ntmps41
  go_wp2_with fail
  refine (HW.out _ (by (repeat' (first | exact Ext.refl _ | assumption | apply Ext.allocR | apply Ext.drewR | apply Ext.drewNR | (refine Ext.trans' ?_ (by assumption)))))).mono ?_
  rintro e w1 (⟨hr, rfl, hx⟩ | ⟨hr, hn, rfl, hx⟩ | ⟨hr, ps, v, base, hsm, rfl, hbs, ho, hx⟩)
  · have HQ : Hid (quanR pt B T k = (0, 6)) := Lib.hid (by unfold quanR; rw [if_pos hr])
    clear hr
    go_wp2
    go_ret2
    exact ⟨by rw [HQ.out]; rfl, by (repeat' (first | exact Ext.refl _ | assumption | apply Ext.allocR | apply Ext.drewR | apply Ext.drewNR | (refine Ext.trans' ?_ (by assumption))))⟩
  · have HQ : Hid (quanR pt B T k = (0, 4)) := Lib.hid (by unfold quanR; rw [if_neg (by omega), hn])
    clear hr hn
    go_wp2
    go_ret2
    exact ⟨by rw [HQ.out]; rfl, by (repeat' (first | exact Ext.refl _ | assumption | apply Ext.allocR | apply Ext.drewR | apply Ext.drewNR | (refine Ext.trans' ?_ (by assumption))))⟩
  · have hlen := wayFP_len hsm
    have HQ : Hid (quanR pt B T k = ((ps.getD B (0, 0)).2, 0)) := Lib.hid (by unfold quanR; rw [if_neg (by omega), hsm])
    obtain ⟨g', cap, rfl, hgl, hpc⟩ := own_pieces ho (by omega)
    obtain ⟨_, q1⟩ := hpc B (by omega)
    rw [Nat.zero_add] at q1
    have hE : Ext w w1 := by (repeat' (first | exact Ext.refl _ | assumption | apply Ext.allocR | apply Ext.drewR | apply Ext.drewNR | (refine Ext.trans' ?_ (by assumption))))
    clear ho hpc hx hr hsm
    rw [hlen]
    clear hlen
    go_wp2
    go_ret2
    exact ⟨by rw [HQ.out]; rfl, hE⟩
end Go.Proofs.YteoblkcbemeamaaGreat

/- gaugerlaw17.QuantTells, walked. -/
namespace Go.Proofs.YteoblkcbemeamaaGreat
set_option linter.unusedVariables false
open Go.RowKit
theorem cell_below {N : Nat} {w w' : World} (h : Below N w w') {b o : Nat} {v : Value} (hb : b < N) (hc : w.cell? ⟨b, o, none⟩ = some v) : w'.cell? ⟨b, o, none⟩ = some v := (h.cell (p := ⟨b, o, none⟩) hb).trans hc
theorem mod_below {N : Nat} {w w' : World} (h : Below N w w') : Mod (fun k => N ≤ k) w w' := ⟨h.os, h.tape, h.output, h.size, fun k _ hn => h.block k (Nat.lt_of_not_le hn)⟩
/-- A way, or none. -/
def PAt (w : World) (v : Value) (ps : List (Nat × Int)) : Prop := (v = .slice none 0 0 ∧ ps = []) ∨ (0 < ps.length ∧ ps.length ≤ 60 ∧ ∃ g c, v = .slice (some ⟨g, 0, none⟩) ps.length c ∧ g < w.heap.size ∧ PCells w g 0 ps)
theorem PAt.ext {w w' : World} {v : Value} {ps : List (Nat × Int)} (h : PAt w v ps) (he : Ext w w') : PAt w' v ps :=
  h.imp id (fun ⟨h0, h1, g, c, hv, hg, hp⟩ => ⟨h0, h1, g, c, hv, Nat.lt_of_lt_of_le hg he.size, hp.ext hg he⟩)
theorem way_of {w w' : World} {B : Nat} (hB : B ≤ 59) {T k : Int} {pt : Nat → Int → Int} {e : Ending} (h : WayRPost w B T pt k e w') : ∃ v, e = .returned (.tuple #[v, .int .i64 (wayRR pt B T k).2]) ∧ PAt w' v (wayRR pt B T k).1 ∧ Ext w w' := by
  rcases h with ⟨hr, rfl, hx⟩ | ⟨hr, hn, rfl, hx⟩ | ⟨hr, ps, v, base, hsm, rfl, hbs, ho, hx⟩
  · have e : wayRR pt B T k = ([], 6) := by unfold wayRR; rw [if_pos hr]
    rw [e]; exact ⟨_, rfl, .inl ⟨rfl, rfl⟩, hx⟩
  · have e : wayRR pt B T k = ([], 4) := by unfold wayRR; rw [if_neg (by omega), hn]
    rw [e]; exact ⟨_, rfl, .inl ⟨rfl, rfl⟩, hx⟩
  · have e : wayRR pt B T k = (ps, 0) := by unfold wayRR; rw [if_neg (by omega), hsm]
    have hl := wayFP_len hsm
    obtain ⟨g', cap, rfl, hgl, hpc⟩ := own_pieces ho (by omega)
    rw [e]; exact ⟨_, rfl, .inr ⟨by show 0 < ps.length; omega, by show ps.length ≤ 60; omega, g', cap, rfl, hgl, hpc⟩, hx⟩
set_option maxRecDepth 20000 in
set_option maxHeartbeats 2000000 in
theorem SameNil (w : World) : Calls Tryz.prog 44 #[.slice none 0 0, .slice none 0 0] w fun e w' => e = .returned (.bool true) ∧ Ext w w' := by
  go_enter Tryz.func44, Tryz.ntmps44
  go_wp2_with fail
  refine wp_loop_rounds 1 ?_
  rw [rounds_succ]
  go_wp2
  go_ret
  exact ⟨rfl, by (repeat' (first | exact Ext.refl _ | assumption | apply Ext.allocR | apply Ext.drewR | apply Ext.drewNR | (refine Ext.trans' ?_ (by assumption))))⟩
theorem SameAny (w : World) (v1 v2 : Value) (ps : List (Nat × Int)) (h1 : PAt w v1 ps) (h2 : PAt w v2 ps) : Calls Tryz.prog 44 #[v1, v2] w fun e w' => e = .returned (.bool true) ∧ Ext w w' := by
  rcases h1 with ⟨rfl, rfl⟩ | ⟨h0, h60, g, c, rfl, hg, hp⟩
  · rcases h2 with ⟨rfl, _⟩ | ⟨h0, _⟩
    · exact SameNil w
    · exact absurd h0 (by decide)
  · rcases h2 with ⟨_, rfl⟩ | ⟨_, _, g2, c2, rfl, hg2, hp2⟩
    · exact absurd h0 (by decide)
    · exact SameP_yes ps g g2 c c2 w hp hp2 hg hg2 (by omega)
section
variable {N : Nat} {w w' : World} {C : Cfg} {B s r : Nat} {ls : Nat → List Int}
theorem KP_way (h : KP N w C B s r ls ls) (k : Int) (hk : I64 k) :
    Calls Tryz.prog 42 #[.pointer (some ⟨s, 0, none⟩), .int .i64 k] w (WayRPost w B ((ls B).getD 0 0) (ptU C ls) k) := by
  have hU := ptU_uniq h
  obtain ⟨g, L, t, L2, z, h1, h2, h3, h4, h5, h6, h7⟩ := h
  exact WayR_c s g C B L ls w h1 k hk (ptU C ls) hU (ptU_I C ls)
theorem KP_rway (h : KP N w C B s r ls ls) (k : Int) (hk : I64 k) :
    Calls Tryz.prog 43 #[.pointer (some ⟨r, 0, none⟩), .int .i64 k] w (WayRPost w B ((ls B).getD 0 0) (ptU C ls) k) := by
  have hU := ptU_uniq h
  obtain ⟨g, L, t, L2, z, h1, h2, h3, h4, h5, h6, h7⟩ := h
  exact RWay_c r t C B L2 ls w h4 k hk (ptU C ls) hU (ptU_I C ls)
theorem KP.b59 (h : KP N w C B s r ls ls) : B ≤ 59 := by
  have h1 := h.rok
  have := h1.1.b2
  have := h1.2
  omega
theorem KP_quan (h : KP N w C B s r ls ls) (k : Int) (hk : I64 k) :
    Calls Tryz.prog 40 #[.pointer (some ⟨s, 0, none⟩), .int .i64 k] w fun e w' => e = .returned (.tuple #[.int .u64 (quanR (ptU C ls) B ((ls B).getD 0 0) k).1, .int .i64 (quanR (ptU C ls) B ((ls B).getD 0 0) k).2]) ∧ Ext w w' :=
  Quan_of s B h.b59 (ptU C ls) _ k w (fun W' hE => KP_way (h.ext hE) k hk)
theorem KP_rquan (h : KP N w C B s r ls ls) (k : Int) (hk : I64 k) :
    Calls Tryz.prog 41 #[.pointer (some ⟨r, 0, none⟩), .int .i64 k] w fun e w' => e = .returned (.tuple #[.int .u64 (quanR (ptU C ls) B ((ls B).getD 0 0) k).1, .int .i64 (quanR (ptU C ls) B ((ls B).getD 0 0) k).2]) ∧ Ext w w' :=
  RQuan_of r B h.b59 (ptU C ls) _ k w (fun W' hE => KP_rway (h.ext hE) k hk)
end
set_option maxRecDepth 20000 in
set_option maxHeartbeats 16000000 in
theorem QTellsL_c (x : Cfg) (hx : x.Raw) (ka : Int) (hka : I64 ka) (us : List (Int × Int)) (hus : UpsOk us) (v : Value) (w : World) (hv : UpsAt w v us) (hul : us.length ≤ 140737488355328) :
    Calls Tryz.prog 5 #[.agg #[.int .i64 x.bits, .int .i64 x.rows, .int .i64 x.width, .int .i64 x.mode, .int .u64 x.seed, v], .int .i64 ka] w fun e w' => e = .returned (.bool true) ∧ Ext w w' := by
  obtain ⟨vp, vc, rfl⟩ := hv.sl
  have HV := Lib.hid hv
  have HKA := Lib.hid hka
  clear hv hka
  go_enter Tryz.func5, Tryz.ntmps5
  go_wp2_with fail
  refine (shown17_c _).mono ?_
  rintro e w1 ⟨rfl, hb1⟩
  have hE1 : Ext w w1 := by (repeat' (first | exact Ext.refl _ | assumption | apply Ext.allocR | apply Ext.drewR | apply Ext.drewNR | (refine Ext.trans' ?_ (by assumption))))
  have hT1 := hb1.keep (heap_at w (.cells #[.int .i64 x.bits, .int .i64 x.rows, .int .i64 x.width, .int .i64 x.mode, .int .u64 x.seed, .slice vp us.length vc] 69) rfl)
  clear hb1
  have d0 := (cell_of hT1 0).trans rfl
  have d1 := (cell_of hT1 1).trans rfl
  have d2 := (cell_of hT1 2).trans rfl
  have d3 := (cell_of hT1 3).trans rfl
  have d4 := (cell_of hT1 4).trans rfl
  have dl := lt_of hT1
  go_wp2_with fail
  refine Calls.mono (Any_c x hx 6 9 (by decide) (by decide) (by decide) (by decide) _) ?_
  rintro e w2 ⟨rfl, hx2⟩
  have hok := mkC_ok x hx.s (nb := 6) (nw := 9) (by decide) (by decide) (by decide) (by decide)
  have hE12 : Ext w1 w2 := by (repeat' (first | exact Ext.refl _ | assumption | apply Ext.allocR | apply Ext.drewR | apply Ext.drewNR | (refine Ext.trans' ?_ (by assumption))))
  have hE2 := hE1.trans' hE12
  have hT2 := hE12.keep hT1
  generalize mkC x 6 9 = C at *
  have hb1 := hok.b1
  have hb2 := hok.b2
  have HT2 := Lib.hid hT2
  clear hx2 d0 d1 d2 d3 d4 dl hT1 hE1 hE12 hT2
  obtain ⟨B, hB⟩ : ∃ B : Nat, C.bits = B := ⟨C.bits.toNat, by omega⟩
  have hBt : C.bits.toNat = B := by omega
  have HBB := Lib.hid (And.intro hb1 (And.intro hb2 hB))
  have HKN := Lib.hid (fun W' => KNew_c C hok W')
  have HRN := Lib.hid (fun W' => RKNew_c C hok B hB W')
  have HBT := Lib.hid hBt
  clear hB hBt
  go_upto_region 3 with (fail)
  obtain ⟨w3, hw3⟩ : ∃ w3, w2.alloc (.cells #[.int .i64 C.bits, .int .i64 C.rows, .int .i64 C.width, .int .i64 C.mode, .int .u64 C.seed] 24) = w3 := ⟨_, rfl⟩
  have hQ : w3.heap[w2.heap.size]? = some (.cells #[.int .i64 C.bits, .int .i64 C.rows, .int .i64 C.width, .int .i64 C.mode, .int .u64 C.seed] 24 (0, 0)) := by rw [← hw3]; exact heap_at _ _ rfl
  have hE3 : Ext w w3 := by rw [← hw3]; exact hE2.allocR _
  have hE23 : Ext w2 w3 := by rw [← hw3]; exact Ext.alloc' _ _
  have hT3 := hE23.keep HT2.out
  have HT3 := Lib.hid hT3
  try rw [hw3]
  have HE3 := Lib.hid hE3
  have HQ := Lib.hid hQ
  have hC3 := CfgAt.of hQ
  clear hw3 hE2 HT2 hE23 hT3 hb1 hb2
  have c0 := hC3.c0
  have c1 := hC3.c1
  have c2 := hC3.c2
  have c3 := hC3.c3
  have c4 := hC3.c4
  have cl := hC3.lt
  clear hC3 hQ hE3
  go_wp2_with fail
  refine (HKN.out _).mono ?_
  rintro e w4 ⟨s, g, L, rfl, hK, s1, s2, hF, hx4⟩
  rw [HBT.out] at hK hF
  have HK := Lib.hid hK
  have HF := Lib.hid (show KFresh w3.heap.size B L from hF)
  have HS := Lib.hid (And.intro s1 s2)
  have HX4 := Lib.hid hx4
  have hC4 := CfgAt.of (hx4.keep HQ.out)
  clear c0 c1 c2 c3 c4 cl hK hF s1 s2 hx4
  have c0 := hC4.c0
  have c1 := hC4.c1
  have c2 := hC4.c2
  have c3 := hC4.c3
  have c4 := hC4.c4
  have cl := hC4.lt
  clear hC4
  go_wp2_with fail
  refine (HRN.out _).mono ?_
  rintro e w5 ⟨r, t, L2, rfl, hR, hRF, hx5⟩
  have hE35 := HX4.out.trans' hx5
  have hKP : KP w3.heap.size w5 C B s r (fun n => zs (lvN C n)) (fun n => zs (lvN C n)) := ⟨g, L, t, L2, w4.heap.size, HK.out.ext hx5, HK.out.low, HF.out, hR, hRF, HX4.out.size, hx5.size⟩
  have HKP := Lib.hid hKP
  clear c0 c1 c2 c3 c4 cl hR hRF hx5 hKP HK HF HS HX4 HKN HRN
  obtain ⟨N, hN⟩ : ∃ N, w3.heap.size = N := ⟨_, rfl⟩
  have hwN : w.heap.size ≤ N := by rw [← hN]; exact HE3.out.size
  rw [hN] at HKP
  have HBN : Hid (w.heap.size < N) := Lib.hid (by rw [← hN]; exact lt_of HT3.out)
  have HN := Lib.hid hN
  clear hN
  go_wp2_with fail
  go_loopw [10] (fun u wr => ∃ (k : Nat) (y : Nat → List Int), k ≤ 40 ∧ k ≤ us.length ∧ u = .int .i64 k ∧ Ext w3 wr ∧ KP N wr C B s r y y) (fun u _ => 40 - (intOf u).toNat)
  case atStart => exact ⟨0, _, Nat.zero_le _, Nat.zero_le _, rfl, hE35, HKP.out⟩
  case round =>
    clear hE35 HKP
    obtain ⟨k, y, hk40, hkl, rfl, hE, hS⟩ := hrel
    have HS := Lib.hid hS
    have hT := hE.keep HT3.out
    have b6 := (cell_of hT 5).trans rfl
    have bl := lt_of hT
    clear hS hT
    by_cases hgo : k < us.length ∧ k < 40
    · obtain ⟨hg1, hg2⟩ := hgo
      obtain ⟨ug, off, hvp, hul0, d1', d2'⟩ := HV.out.one hg1
      subst hvp
      have hEw := HE3.out.trans' hE
      have d1 := ((bcell hEw).1 _ _ hul0).trans d1'
      have d2 := ((bcell hEw).1 _ _ hul0).trans d2'
      have gl := Nat.lt_of_lt_of_le hul0 hEw.size
      have hugN : ug < N := Nat.lt_of_lt_of_le hul0 hwN
      have hu := hus _ (List.getElem_mem hg1)
      generalize us[k] = oo at *
      obtain ⟨uk, ud⟩ := oo
      obtain ⟨hukU, hudI⟩ := hu
      have HUK := Lib.hid hukU
      have HUD := Lib.hid hudI
      have HER := Lib.hid hE
      obtain ⟨S, hS⟩ : ∃ S : Nat → Prop, (fun k => N ≤ k) = S := ⟨_, rfl⟩
      have HSS := Lib.hid hS
      have ns1 : ¬ S ug := by rw [← hS]; show ¬ N ≤ ug; omega
      have ns2 : ¬ S w.heap.size := by rw [← hS]; show ¬ N ≤ w.heap.size; have := HBN.out; omega
      clear hS
      clear d1' d2' hukU hudI hEw hE
      go_wp2_with fail
      have hC0 := afs_drew S wr
      refine pi_start (fun w' => ∃ x : AftS S wr, w' = x.w) [] (by kernel_rfl) ?_
      refine pi_t 0 rfl (by kernel_rfl) (by kernel_rfl) (fun _ _ _ _ h => h) (fun K hK => ?_)
      go_big_quiet_op
      refine hK _ ?_
      clear hK K
      refine pi_t 1 rfl (by kernel_rfl) (by kernel_rfl) (fun _ _ _ _ h => h) (fun K hK => ?_)
      go_big_quiet_op
      refine hK _ ?_
      clear hK K
      refine pi_t 3 rfl (by kernel_rfl) (by kernel_rfl) (fun _ _ _ _ h => h) (fun K hK => ?_)
      go_big_quiet_op
      refine hK _ ?_
      clear hK K
      refine pi_t 7 rfl (by kernel_rfl) (by kernel_rfl) (fun _ _ _ _ h => h) (fun K hK => ?_)
      go_big_quiet_op
      refine hK _ ?_
      clear hK K
      refine pi_t 9 rfl (by kernel_rfl) (by kernel_rfl) (fun _ _ _ _ h => h) (fun K hK => ?_)
      go_big_quiet_op
      refine hK _ ?_
      clear hK K
      refine pi_c 2 (by assumption) rfl (by kernel_rfl) (by kernel_rfl) (fun _ _ _ _ h => h) (fun K hK => ?_)
      go_big_quiet_op
      refine hK _ ?_
      clear hK K
      refine pi_t 4 rfl (by kernel_rfl) (by kernel_rfl) (fun _ _ _ _ h => h) (fun K hK => ?_)
      go_big_quiet_op
      refine hK _ ?_
      clear hK K
      refine pi_t 5 rfl (by kernel_rfl) (by kernel_rfl) (fun _ _ _ _ h => h) (fun K hK => ?_)
      go_big_quiet_op
      refine hK _ ?_
      clear hK K
      refine pi_c 6 (by assumption) rfl (by kernel_rfl) (by kernel_rfl) (fun _ _ _ _ h => h) (fun K hK => ?_)
      go_big_quiet_op
      refine hK _ ?_
      clear hK K
      refine pi_c 8 (by assumption) rfl (by kernel_rfl) (by kernel_rfl) (fun _ _ _ _ h => h) (fun K hK => ?_)
      go_big_quiet_op
      refine hK _ ?_
      clear hK K
      refine pi_t 10 rfl (by kernel_rfl) (by kernel_rfl) (fun _ _ _ _ h => h) (fun K hK => ?_)
      go_big_quiet_op
      refine hK _ ?_
      clear hK K
      refine pi_t 11 rfl (by kernel_rfl) (by kernel_rfl) (fun _ _ _ _ h => h) (fun K hK => ?_)
      go_big_quiet_op
      refine hK _ ?_
      clear hK K
      refine pi_c 12 (by assumption) rfl (by kernel_rfl) (by kernel_rfl) (fun _ _ _ _ h => h) (fun K hK => ?_)
      go_big_quiet_op
      refine hK _ ?_
      clear hK K
      refine pi_l 13 rfl (by kernel_rfl) (fun K hK => ?_)
      go_wp2_with (go_at_call 26; refine Calls.mono (KP_upd (HS.out.ext (Below.drew (Ext.refl wr))) uk ud HUK.out HUD.out) ?_; rintro e w8 ⟨rfl, hQ8, hB8⟩)
      have hB8' : Below N wr w8 := Below.trans (below_of (Below.drew (Ext.refl wr)) (by have := HER.out.size; have := HN.out; omega)) hB8
      refine hK _ _ (fun _ _ => ⟨⟨w8, by rw [← HSS.out]; exact mod_below hB8'⟩, rfl⟩) ?_
      clear hK K
      have HQ8 := Lib.hid hQ8
      have HB8 := Lib.hid hB8'
      have e1' := cell_below hB8' hugN d1
      have e2' := cell_below hB8' hugN d2
      have b6' := cell_below hB8' HBN.out b6
      have gl8 := Nat.lt_of_lt_of_le gl hB8'.size
      have bl8 := Nat.lt_of_lt_of_le bl hB8'.size
      clear hQ8 hB8 hB8' d1 d2 b6
      refine pi_end (by kernel_rfl) ?_
      go_wp2_with fail
      have hC0 := afs_drew S w8
      refine pi_start (fun w' => ∃ x : AftS S w8, w' = x.w) [] (by kernel_rfl) ?_
      refine pi_t 0 rfl (by kernel_rfl) (by kernel_rfl) (fun _ _ _ _ h => h) (fun K hK => ?_)
      go_big_quiet_op
      refine hK _ ?_
      clear hK K
      refine pi_t 1 rfl (by kernel_rfl) (by kernel_rfl) (fun _ _ _ _ h => h) (fun K hK => ?_)
      go_big_quiet_op
      refine hK _ ?_
      clear hK K
      refine pi_t 3 rfl (by kernel_rfl) (by kernel_rfl) (fun _ _ _ _ h => h) (fun K hK => ?_)
      go_big_quiet_op
      refine hK _ ?_
      clear hK K
      refine pi_t 7 rfl (by kernel_rfl) (by kernel_rfl) (fun _ _ _ _ h => h) (fun K hK => ?_)
      go_big_quiet_op
      refine hK _ ?_
      clear hK K
      refine pi_t 9 rfl (by kernel_rfl) (by kernel_rfl) (fun _ _ _ _ h => h) (fun K hK => ?_)
      go_big_quiet_op
      refine hK _ ?_
      clear hK K
      refine pi_c 2 (by assumption) rfl (by kernel_rfl) (by kernel_rfl) (fun _ _ _ _ h => h) (fun K hK => ?_)
      go_big_quiet_op
      refine hK _ ?_
      clear hK K
      refine pi_t 4 rfl (by kernel_rfl) (by kernel_rfl) (fun _ _ _ _ h => h) (fun K hK => ?_)
      go_big_quiet_op
      refine hK _ ?_
      clear hK K
      refine pi_t 5 rfl (by kernel_rfl) (by kernel_rfl) (fun _ _ _ _ h => h) (fun K hK => ?_)
      go_big_quiet_op
      refine hK _ ?_
      clear hK K
      refine pi_c 6 (by assumption) rfl (by kernel_rfl) (by kernel_rfl) (fun _ _ _ _ h => h) (fun K hK => ?_)
      go_big_quiet_op
      refine hK _ ?_
      clear hK K
      refine pi_c 8 (by assumption) rfl (by kernel_rfl) (by kernel_rfl) (fun _ _ _ _ h => h) (fun K hK => ?_)
      go_big_quiet_op
      refine hK _ ?_
      clear hK K
      refine pi_t 10 rfl (by kernel_rfl) (by kernel_rfl) (fun _ _ _ _ h => h) (fun K hK => ?_)
      go_big_quiet_op
      refine hK _ ?_
      clear hK K
      refine pi_t 11 rfl (by kernel_rfl) (by kernel_rfl) (fun _ _ _ _ h => h) (fun K hK => ?_)
      go_big_quiet_op
      refine hK _ ?_
      clear hK K
      refine pi_c 12 (by assumption) rfl (by kernel_rfl) (by kernel_rfl) (fun _ _ _ _ h => h) (fun K hK => ?_)
      go_big_quiet_op
      refine hK _ ?_
      clear hK K
      refine pi_l 13 rfl (by kernel_rfl) (fun K hK => ?_)
      go_wp2_with (go_at_call 27; refine Calls.mono (KP_rupd (HQ8.out.ext (Below.drew (Ext.refl w8))) uk ud HUK.out HUD.out) ?_; rintro e w9 ⟨rfl, hQ9, hB9⟩)
      have hB89 : Below N w8 w9 := Below.trans (below_of (Below.drew (Ext.refl w8)) (by have := HER.out.size; have := HN.out; have := HB8.out.size; omega)) hB9
      refine hK _ _ (fun _ _ => ⟨⟨w9, by rw [← HSS.out]; exact mod_below hB89⟩, rfl⟩) ?_
      clear hK K
      have HQ9 := Lib.hid hQ9
      have hB9' : Below N wr w9 := Below.trans HB8.out hB89
      have hE9 : Ext w3 w9 := Below.trans HER.out (by rw [HN.out]; exact hB9')
      clear hQ9 hB9 hB9' hB89 e1' e2' b6'
      refine pi_end (by kernel_rfl) ?_
      go_wp2
      go_roundw
      case rel => exact ⟨k + 1, _, by omega, by omega, by go_num, hE9, HQ9.out⟩
      case measure => simp [intOf]; omega
    · have hge : ¬ k < us.length ∨ ¬ k < 40 := by omega
      clear hgo
      rename World => wo
      go_upto_region 8 with (fail)
      go_cut [44] (fun s74 wx => s74 = .bool false ∧ wx = wo)
      case first =>
        by_cases hgl : k < us.length
        · have hg6 : ¬ k < 40 := by omega
          go_wp2_with fail
          go_meet
          exact ⟨by first | rfl | exact congrArg Value.bool (decide_eq_false (by omega)), rfl⟩
        · first
            | (go_wp2_with fail
               go_meet
               exact ⟨rfl, rfl⟩)
            | (clear hge
               go_wp2_with fail
               go_meet
               exact ⟨by first | rfl | exact congrArg Value.bool (decide_eq_false (by omega)), rfl⟩)
      case rest =>
        obtain ⟨rfl, rfl⟩ := hcut
        rename World => wo
        clear hge b6 bl hkl hk40
        have HE := Lib.hid hE
        have hB59 : B ≤ 59 := by have := HBB.out.2.1; have := HBB.out.2.2; omega
        have HPA := Lib.hid (fun W' (h : Ext wo W') => KP_quan (HS.out.ext h) ka HKA.out)
        have HRA := Lib.hid (fun W' (h : Ext wo W') => KP_rquan (HS.out.ext h) ka HKA.out)
        have HPB := Lib.hid (fun W' (h : Ext wo W') => (KP_way (HS.out.ext h) ka HKA.out).mono (fun e w' h => way_of hB59 h))
        have HRB := Lib.hid (fun W' (h : Ext wo W') => (KP_rway (HS.out.ext h) ka HKA.out).mono (fun e w' h => way_of hB59 h))
        generalize quanR (ptU C y) B ((y B).getD 0 0) ka = pr at *
        generalize wayRR (ptU C y) B ((y B).getD 0 0) ka = rr at *
        obtain ⟨qn, qe⟩ := pr
        obtain ⟨ps, pe⟩ := rr
        clear hE
        go_wp2_with fail
        refine Calls.mono (HPA.out _ (Ext.refl wo)) ?_
        rintro e wa ⟨rfl, hxa⟩
        have HXA := Lib.hid hxa
        clear hxa
        go_wp2_with fail
        refine Calls.mono (HRA.out _ HXA.out) ?_
        rintro e wb ⟨rfl, hxb⟩
        have HXB := Lib.hid (HXA.out.trans' hxb)
        clear hxb
        go_wp2_with fail
        refine Calls.mono (HPB.out _ HXB.out) ?_
        rintro e wc ⟨v1, rfl, hv1, hxc⟩
        have HXC := Lib.hid (HXB.out.trans' hxc)
        have HV1 := Lib.hid hv1
        clear hxc hv1
        go_wp2_with fail
        refine Calls.mono (HRB.out _ HXC.out) ?_
        rintro e wd ⟨v2, rfl, hv2, hxd⟩
        have HXD := Lib.hid (HXC.out.trans' hxd)
        have HV2 := Lib.hid hv2
        have HV1d := Lib.hid (HV1.out.ext hxd)
        clear hxd hv2
        go_wp2_with (go_at_call 44; refine Calls.mono (SameAny _ v1 v2 ps HV1d.out HV2.out) ?_; rintro e wg ⟨rfl, hxg⟩)
        have hEz := HE3.out.trans' (HE.out.trans' (HXD.out.trans' hxg))
        go_ret
        exact ⟨by first | rfl | simp, hEz⟩
end Go.Proofs.YteoblkcbemeamaaGreat

/- QuantTells: the key of a rank, and the way to it, are what the document says, of raw updates. No condition: every input. -/
namespace Go.Proofs.YteoblkcbemeamaaGreat
set_option linter.unusedVariables false
open Go.ChangeShapes Go.WideShapes Go.ChangeAt Go.RowKit

set_option maxRecDepth 100000 in
theorem quantTells_lifted (os : Os) (started : os.Started) (H : Type) (enc : TypeId × Value → H) :
    ReturnsInHanded {} Tryz.checked os 5 .any (Rows.quantTellsSpec.pre6 enc Tryz.prog Tryz.f5 Rows.quantTellsRow.domain false) (Rows.quantTellsSpec.post enc Tryz.prog Tryz.f5 false true false false) := by
  refine returnsInHanded_of_change_sized (C := Tryz.checked) own started (by kernel_rfl) Tryz.func5
    (ChangeSpec.witness6 (enc := enc) (C := Tryz.checked) false ⟨#[], #[.agg #[.int .i64 0, .int .i64 0, .int .i64 0, .int .i64 0, .int .u64 0, .slice none 0 0], .int .i64 0], []⟩ 8 (by kernel_rfl) (by kernel_rfl) (by kernel_rfl) (by kernel_rfl)) ?_
  intro W base args ds gs before hval0 hW hcnd hsz0 _
  have hval : ∀ (j : Nat) t v, Tryz.f5.params[j]? = some t → args[j]? = some v → Value.okWide Tryz.prog W .any base t v := hval0
  have hW' := hW
  obtain ⟨p, q, hA0, hV, rfl, hfz, hnd⟩ := hW
  have hA : DataW.TrodAll enc Tryz.prog W 0 (fun _ => true) true Tryz.f5.params.toList args.toList ds p := hA0
  have hsz : (DataW.weightsEach Tryz.prog (Tryz.f5.params.toList ++ Rows.quantTellsSpec.plain.varTypes Tryz.prog) (ds ++ gs)).all (· ≤ reachBytes) = true := hsz0
  rw [Tryz.params5] at hA hval hsz
  obtain ⟨v0, vs0, d0, ds0, p0, q0, hargs, rfl, rfl, h0, r0⟩ := trodAll_cons hA
  obtain ⟨v1, vs1, d1, ds1, p1, q1, rfl, rfl, rfl, h1, r1⟩ := trodAll_cons r0
  obtain ⟨rfl, rfl, rfl⟩ := trodAll_nil r1
  obtain rfl : args = #[v0, v1] := by cases args; simp_all
  obtain ⟨rfl, rfl⟩ := trodVars_none hV
  have k0 := h0
  have k1 := h1
  have lt0 : ∀ x ∈ p0, x.block < W.heap.size := by obtain ⟨m, hm⟩ := k0; exact DataW.trod_lt m _ _ _ hm
  have lt1 : ∀ x ∈ p1, x.block < W.heap.size := by obtain ⟨m, hm⟩ := k1; exact DataW.trod_lt m _ _ _ hm
  obtain ⟨x0, us0, u0, hx0, hus0, hat0, rfl, hr0⟩ := play17_of (hval 0 _ v0 rfl rfl) h0
  have hul0 := hr0 _ _ 0 hsz rfl rfl
  obtain ⟨n1, rfl, _, _, wf1⟩ := open_int Tryz.underlying2 (hval 1 _ v1 rfl rfl) h1
  have hn1 := wf_i64 wf1
  clear hA0 hval0
  refine (QTellsL_c x0 hx0 n1 hn1 us0 hus0 u0 W hat0 hul0).mono fun e W' ⟨he, bel⟩ => ?_
  subst he
  exact ⟨_, rfl, _, _, _, [], _, [], hW', trodAll_mk1 (shut_bool Tryz.underlying4 _), (trodAll_cons_mk (Below.trod laidOut (by kernel_rfl) (of_decide_eq_true (by kernel_rfl)) k0 bel lt0) (trodAll_cons_mk (Below.trod laidOut (by kernel_rfl) (of_decide_eq_true (by kernel_rfl)) k1 bel lt1) trodAll_mk0)), rfl, bel.frame _, fun h => by cases h⟩
end Go.Proofs.YteoblkcbemeamaaGreat
