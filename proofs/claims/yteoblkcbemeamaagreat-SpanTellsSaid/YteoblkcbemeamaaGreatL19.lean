/- Part. No condition. -/
import Derived.Test.YteoblkcbemeamaaGreatL18
import Derived.Test.YteoblkcbemeamaaGreatL14

/- Plain law: what the way to a rank's key tells. -/
namespace Go.Proofs.YteoblkcbemeamaaGreat
set_option linter.unusedVariables false
open Go.RowKit
/-- What is too much on the first pieces of a way. -/
def oS (pt S : Nat → Int → Int) : List (Nat × Int) → Nat → Int
  | _, 0 => 0
  | [], _ + 1 => 0
  | p :: l, j + 1 => (pt (p.1 - 1) (2 * p.2) - S (p.1 - 1) (2 * p.2)) + oS pt S l j
theorem oS_zero (pt S : Nat → Int → Int) (l : List (Nat × Int)) : oS pt S l 0 = 0 := by cases l <;> rfl
theorem oS_snoc (pt S : Nat → Int → Int) : ∀ (l : List (Nat × Int)) (j : Nat), j < l.length → oS pt S l (j + 1) = oS pt S l j + (pt ((l.getD j (0, 0)).1 - 1) (2 * (l.getD j (0, 0)).2) - S ((l.getD j (0, 0)).1 - 1) (2 * (l.getD j (0, 0)).2))
  | [], j, h => by simp at h
  | p :: l, 0, h => by
    show (_ + oS pt S l 0) = 0 + _
    rw [oS_zero]
    simp
  | p :: l, j + 1, h => by
    show _ + oS pt S l (j + 1) = (_ + oS pt S l j) + _
    rw [oS_snoc pt S l j (by simpa using h)]
    simp only [List.getD_cons_succ]
    omega
theorem oS_bd {pt S : Nat → Int → Int} (h1 : ∀ n i, -65970697666560 ≤ pt n i ∧ pt n i ≤ 65970697666560) (h2 : ∀ n i, -65970697666560 ≤ S n i ∧ S n i ≤ 65970697666560) : ∀ (l : List (Nat × Int)) (j : Nat), -131941395333120 * (j : Int) ≤ oS pt S l j ∧ oS pt S l j ≤ 131941395333120 * (j : Int)
  | l, 0 => by rw [oS_zero]; simp
  | [], j + 1 => by show _ ≤ (0 : Int) ∧ (0 : Int) ≤ _; omega
  | p :: l, j + 1 => by
    have := oS_bd h1 h2 l j
    have a := h1 (p.1 - 1) (2 * p.2)
    have b := h2 (p.1 - 1) (2 * p.2)
    show _ ≤ (_ - _) + oS pt S l j ∧ (_ - _) + oS pt S l j ≤ _
    omega
theorem oS_way (pt S : Nat → Int → Int) : ∀ (n : Nat) (i k : Int), oS pt S ((n, i) :: wayL pt n i k) n = wayO pt S n i k
  | 0, _, _ => rfl
  | n + 1, i, k => by
    rw [wayL_succ]
    show (pt (n + 1 - 1) (2 * i) - S (n + 1 - 1) (2 * i)) + oS pt S _ n = _
    unfold wayO
    rw [Nat.add_sub_cancel]
    split
    · rw [oS_way pt S n]
    · rw [oS_way pt S n]
theorem psU_in {C : Cfg} (hok : C.Ok) (us : List (Int × Int)) : ∀ u ∈ psU C us, 0 ≤ u.1 ∧ u.1 < keys C 0 := by
  intro u hu
  simp only [psU, stP, List.mem_map] at hu
  obtain ⟨p, _, rfl⟩ := hu
  rw [show ((sh 0 (cutK C 0 p.1), cutD C.mode p.2) : Int × Int).1 = cutK C 0 p.1 from sh_zero _]
  exact cutK_bd C hok 0 p.1 (Int.le_refl 0)
theorem sh_top {C : Cfg} {B : Nat} (hB : C.bits = B) {u : Int} (h0 : 0 ≤ u) (h1 : u < keys C 0) : sh B u = 0 := by
  have : keys C 0 = 2 ^ B := by unfold keys; rw [hB]; congr 1
  rw [this] at h1
  unfold sh
  exact Int.ediv_eq_zero_of_lt h0 h1
theorem bet_up {C : Cfg} (hok : C.Ok) {B : Nat} (hB : C.bits = B) (us : List (Int × Int)) (x : Int) : betK C us 60 0 x = upS (psU C us) B 0 x := by
  refine sumIf_congr fun u hu => ?_
  obtain ⟨a, b⟩ := psU_in hok us u hu
  have hs := sh_top hB a b
  unfold inB
  rw [hs, decide_eq_true a]
  rfl
theorem up_lo {C : Cfg} (hok : C.Ok) {B : Nat} (hB : C.bits = B) (us : List (Int × Int)) (x : Int) : upS (psU C us) B 0 x = loS (psU C us) B 0 x + pcS (psU C us) 0 x := by
  unfold upS loS pcS
  rw [sumIf_split _ (fun u => decide (u < x)) (psU C us)]
  congr 1
  · refine sumIf_congr fun u hu => ?_
    obtain ⟨a, b⟩ := psU_in hok us u hu
    rw [sh_top hB a b, Bool.eq_iff_iff]
    simp only [Bool.and_eq_true, beq_iff_eq, decide_eq_true_eq, true_and]
    omega
  · refine sumIf_congr fun u hu => ?_
    obtain ⟨a, b⟩ := psU_in hok us u hu
    rw [sh_top hB a b, sh_zero, Bool.eq_iff_iff]
    simp only [Bool.and_eq_true, beq_iff_eq, decide_eq_true_eq, Bool.not_eq_true', decide_eq_false_iff_not, true_and]
    omega
theorem wayI_key {C : Cfg} {B : Nat} (hB : C.bits = B) (pt : Nat → Int → Int) (k : Int) : 0 ≤ wayI pt B 0 k ∧ wayI pt B 0 k < keys C 0 := by
  have h1 := way_bd pt B 0 k B (Int.le_refl 0) (Nat.le_refl _)
  rw [way_last] at h1
  have h1' : wayI pt B 0 k < (0 + 1) * 2 ^ B := h1
  have hs := wayI_sh pt B 0 k
  have : keys C 0 = 2 ^ B := by unfold keys; rw [hB]; congr 1
  refine ⟨?_, by rw [this]; omega⟩
  unfold sh at hs
  have hp : (0 : Int) < 2 ^ B := Int.pow_pos (by decide)
  rcases Int.lt_or_le (wayI pt B 0 k) 0 with h | h
  · have := Int.ediv_neg_of_neg_of_pos h hp
    omega
  · exact h
/-- All keys below the answer have less than the rank; the rank is not more than what all up to it have, and what is too much. -/
theorem qb_law {C : Cfg} (hok : C.Ok) {B : Nat} (hB : C.bits = B) {us : List (Int × Int)} (hus : UpsOk us) (hm : C.mode ≠ 3) (hp : plK C us 60 = true) {A : Int} (h1 : 1 ≤ A) (h2 : A ≤ hasK C us 60 B 0) :
    betK C us 60 0 (wayI (ptK C B us) B 0 A) - hasK C us 60 0 (wayI (ptK C B us) B 0 A) < A ∧
    A ≤ betK C us 60 0 (wayI (ptK C B us) B 0 A) + oS (ptK C B us) (pcS (psU C us)) (wayP (ptK C B us) B A) B ∧
    0 ≤ oS (ptK C B us) (pcS (psU C us)) (wayP (ptK C B us) B A) B := by
  have hge := ptK_ge hok hB hus hm hp
  have a := way_below hge B 0 A (Int.le_refl 0) h1
  rw [hasK_pc] at h2
  have b := way_upto hge B 0 A 0 (Int.le_refl 0) (Int.le_refl 0) (by omega)
  have c := wayO_nn hge B 0 A (Int.le_refl 0)
  have d : oS (ptK C B us) (pcS (psU C us)) (wayP (ptK C B us) B A) B = wayO (ptK C B us) (pcS (psU C us)) B 0 A := oS_way _ _ _ _ _
  have e := up_lo hok hB us (wayI (ptK C B us) B 0 A)
  have f := bet_up hok hB us (wayI (ptK C B us) B 0 A)
  rw [d, hasK_pc, f]
  omega
end Go.Proofs.YteoblkcbemeamaaGreat

/- Plain law: what is told of a span. -/
namespace Go.Proofs.YteoblkcbemeamaaGreat
set_option linter.unusedVariables false
open Go.RowKit
theorem uniq_fed (C : Cfg) (B : Nat) (us : List (Int × Int)) : Uniq C B (feedK C (fus us 0 60)) (ptK C B us) := fun n i x hn h0 h1 h => ptK_of hn h0 h1 h
theorem ptK_I64 (C : Cfg) (B : Nat) (us : List (Int × Int)) (n : Nat) (i : Int) : I64 (ptK C B us n i) := by
  obtain ⟨h1, h2⟩ := ptK_bnd C B us n i
  unfold I64; omega
theorem lsum_mono {α : Type} {f g : α → Int} : ∀ {l : List α}, (∀ x ∈ l, f x ≤ g x) → lsum (l.map f) ≤ lsum (l.map g)
  | [], _ => Int.le_refl _
  | x :: l, h => by
    rw [List.map_cons, List.map_cons, lsum_cons, lsum_cons]
    have := lsum_mono (l := l) (fun y hy => h y (by simp [hy]))
    have := h x (by simp)
    omega
theorem cv_bd {C : Cfg} {B : Nat} (hB : B ≤ 59) (us : List (Int × Int)) (lo hi : Int) : -7850513022320640 ≤ lsum (cvV (ptK C B us) B lo hi) ∧ lsum (cvV (ptK C B us) B lo hi) ≤ 7850513022320640 := by
  have h := lsum_bd (l := cvV (ptK C B us) B lo hi) (B := 65970697666560) (by decide) (fun x hx => by
    unfold cvV at hx
    simp only [List.mem_map] at hx
    obtain ⟨p, _, rfl⟩ := hx
    exact ptK_bnd C B us _ _)
  have hl : (cvV (ptK C B us) B lo hi).length ≤ 2 * B + 1 := by unfold cvV; rw [List.length_map]; exact cov_len B 0 lo hi
  omega
theorem cv_I64 {C : Cfg} {B : Nat} (hB : B ≤ 59) (us : List (Int × Int)) (lo hi : Int) : I64 (lsum (cvV (ptK C B us) B lo hi)) := by
  obtain ⟨h1, h2⟩ := cv_bd (C := C) hB us lo hi
  unfold I64; omega
/-- No span is told less than it has. -/
theorem cv_ge {C : Cfg} (hok : C.Ok) {B : Nat} (hB : C.bits = B) {us : List (Int × Int)} (hus : UpsOk us) (hm : C.mode ≠ 3) (hp : plK C us 60 = true) {lo hi : Int} (h0 : 0 ≤ lo) (h1 : lo ≤ hi) (h2 : hi < 2 ^ B) :
    betK C us 60 lo hi ≤ lsum (cvV (ptK C B us) B lo hi) := by
  rw [← cov_bet h0 h1 h2 us]
  refine lsum_mono fun p hp' => ?_
  exact ptK_ge hok hB hus hm hp _ _ (cov_bd B 0 lo hi h0 h1 h2 p hp').1
/-- Where all levels are exact, a span is told what it has. -/
theorem cv_eq {C : Cfg} (hok : C.Ok) {B : Nat} (hB : C.bits = B) {us : List (Int × Int)} (hus : UpsOk us) (hx : ∀ n : Nat, n ≤ B → isX C n = true) {lo hi : Int} (h0 : 0 ≤ lo) (h1 : lo ≤ hi) (h2 : hi < 2 ^ B) :
    lsum (cvV (ptK C B us) B lo hi) = betK C us 60 lo hi := by
  rw [← cov_bet h0 h1 h2 us]
  unfold cvV
  congr 1
  refine List.map_congr_left fun p hp => ?_
  have hb := cov_bd B 0 lo hi h0 h1 h2 p hp
  have hl := cov_lev B 0 lo hi p hp
  have hk : p.2 < keys C p.1 := by
    unfold keys
    rw [hB, show ((B : Int) - (p.1 : Int)).toNat = 0 + B - p.1 by omega]
    exact hb.2
  exact ptK_x hok hB hus (by omega) hb.1 hk (hx p.1 (by omega))
theorem cv_all {C : Cfg} (hok : C.Ok) {B : Nat} (hB : C.bits = B) {us : List (Int × Int)} (hus : UpsOk us) : lsum (cvV (ptK C B us) B 0 (2 ^ B - 1)) = hasK C us 60 B 0 := by
  unfold cvV
  rw [cov_all B B 0]
  show lsum [ptK C B us (0 + B) 0] = _
  rw [lsum_one, Nat.zero_add, ptK_x hok hB hus (Nat.le_refl B) (Int.le_refl 0) (by rw [keys_top hB]; decide) (isX_top hok hB), hasK_pc]
theorem cv_self (C : Cfg) (B : Nat) (us : List (Int × Int)) (i : Int) : lsum (cvV (ptK C B us) B i i) = ptK C B us 0 i := by
  unfold cvV
  rw [cov_self]
  show lsum [ptK C B us 0 i] = _
  rw [lsum_one]
theorem range_ok {w w' : World} {B : Nat} {pt : Nat → Int → Int} {lo hi : Int} {e : Ending} (h : RangePost w B pt lo hi e w') (h1 : lo ≤ hi) (h2 : hi < 2 ^ B) (hI : I64 (lsum (cvV pt B lo hi))) :
    e = .returned (.tuple #[.int .i64 (lsum (cvV pt B lo hi)), .int .i64 0]) ∧ Ext w w' := by
  obtain ⟨h | h | h | h, hE⟩ := h
  · have := h.1; omega
  · have := h.1; omega
  · exact ⟨h.2.2, hE⟩
  · exact absurd hI h.2.1
theorem range_out {w w' : World} {B : Nat} {pt : Nat → Int → Int} {lo hi : Int} {e : Ending} (h : RangePost w B pt lo hi e w') (h1 : lo ≤ hi) (h2 : 2 ^ B ≤ hi) : e = .returned (.tuple #[.int .i64 0, .int .i64 2]) ∧ Ext w w' := by
  obtain ⟨h | h | h | h, hE⟩ := h
  · have := h.1; omega
  · exact ⟨h.2, hE⟩
  · have := h.1; omega
  · have := h.1; omega
end Go.Proofs.YteoblkcbemeamaaGreat

/- gaugerlaw16.shown: what the law shows of one small stack. -/
namespace Go.Proofs.YteoblkcbemeamaaGreat
set_option linter.unusedVariables false
open Go.RowKit
theorem K1_q (n : Nat) (i x : Int) (hn : n ≤ 3) (h0 : 0 ≤ i) (h1 : i < keys K1 n) (h : pcS [(1, 5), (6, 7)] n i = x) : ptK K1 3 us1 n i = x := by rw [K1_p hn h0 h1, h]
theorem K1_cv16 : cvV (ptK K1 3 us1) 3 1 6 = [5, 0, 0, 7] := by
  have e : covL 3 0 1 6 = [(0, 1), (1, 1), (1, 2), (0, 6)] := rfl
  unfold cvV
  rw [e]
  show [ptK K1 3 us1 0 1, ptK K1 3 us1 1 1, ptK K1 3 us1 1 2, ptK K1 3 us1 0 6] = _
  rw [K1_q 0 1 5 (by decide) (by decide) (by decide) (by decide), K1_q 1 1 0 (by decide) (by decide) (by decide) (by decide), K1_q 1 2 0 (by decide) (by decide) (by decide) (by decide), K1_q 0 6 7 (by decide) (by decide) (by decide) (by decide)]
theorem K1_cv05 : cvV (ptK K1 3 us1) 3 0 5 = [5, 0] := by
  have e : covL 3 0 0 5 = [(2, 0), (1, 2)] := rfl
  unfold cvV
  rw [e]
  show [ptK K1 3 us1 2 0, ptK K1 3 us1 1 2] = _
  rw [K1_q 2 0 5 (by decide) (by decide) (by decide) (by decide), K1_q 1 2 0 (by decide) (by decide) (by decide) (by decide)]
theorem ints4 (w : World) (a b c d : Int) (t : TypeId) : IntsAt (w.alloc (.cells #[.int .i64 a, .int .i64 b, .int .i64 c, .int .i64 d] t)) (.slice (some ⟨w.heap.size, 0, none⟩) 4 4) [a, b, c, d] := by
  have h := fun j => cell_of (heap_at w (.cells #[.int .i64 a, .int .i64 b, .int .i64 c, .int .i64 d] t) rfl) j
  refine .inr ⟨w.heap.size, 0, 4, rfl, by rw [size_alloc]; omega, fun k hk => ?_⟩
  match k, hk with
  | 0, _ => exact (h 0).trans rfl
  | 1, _ => exact (h 1).trans rfl
  | 2, _ => exact (h 2).trans rfl
  | 3, _ => exact (h 3).trans rfl
set_option maxRecDepth 20000 in
set_option maxHeartbeats 4000000 in
theorem shown16_c (w : World) : Calls Tryz.prog 32 #[] w fun e w' => e = .returned (.bool true) ∧ Ext w w' := by
  go_enter Tryz.func32, Tryz.ntmps32
  go_wp2_with fail
  refine (KNew_c K1 K1_ok _).mono ?_
  rintro e w1 ⟨s, g, L, rfl, hK, hs, hg, hL, hx1⟩
  have hE1 : Ext w w1 := by (repeat' (first | exact Ext.refl _ | assumption | apply Ext.allocR | apply Ext.drewR | apply Ext.drewNR | (refine Ext.trans' ?_ (by assumption))))
  have hF : KFresh w.heap.size 3 L := hL
  replace hK : KAt w1 s g K1 3 L (feedK K1 []) := hK
  clear hx1 hL hg hs
  go_wp2_with fail
  refine Calls.mono (KUpdate_c s g K1 3 L _ 1 5 _ (hK.ext ?hx) (by unfold I64; omega) (by unfold U64; omega)) ?_
  case hx => (repeat' (first | exact Ext.refl _ | assumption | apply Ext.allocR | apply Ext.drewR | apply Ext.drewNR | (refine Ext.trans' ?_ (by assumption))))
  rintro e w3 ⟨rfl, hK3, hM3⟩
  have hE3 : Ext w w3 := hF.ext (by (repeat' (first | exact Ext.refl _ | assumption | apply Ext.allocR | apply Ext.drewR | apply Ext.drewNR | (refine Ext.trans' ?_ (by assumption))))) hM3
  rw [K1_e1] at hK3 ⊢
  replace hK3 : KAt w3 s g K1 3 L (updK K1 (feedK K1 []) 1 5) := hK3
  rw [K1_s1] at hK3
  clear hM3 hE1 hK
  go_wp2_with fail
  refine Calls.mono (KUpdate_c s g K1 3 L _ 6 7 _ (hK3.ext ?hx) (by unfold I64; omega) (by unfold U64; omega)) ?_
  case hx => (repeat' (first | exact Ext.refl _ | assumption | apply Ext.allocR | apply Ext.drewR | apply Ext.drewNR | (refine Ext.trans' ?_ (by assumption))))
  rintro e w4 ⟨rfl, hK4, hM4⟩
  have hE4 : Ext w w4 := hF.ext (by (repeat' (first | exact Ext.refl _ | assumption | apply Ext.allocR | apply Ext.drewR | apply Ext.drewNR | (refine Ext.trans' ?_ (by assumption))))) hM4
  rw [K1_e2] at hK4 ⊢
  replace hK4 : KAt w4 s g K1 3 L (updK K1 (feedK K1 [(1, 5)]) 6 7) := hK4
  rw [K1_s2] at hK4
  clear hM4 hE3 hK3
  have hU : Uniq K1 3 (feedK K1 us1) (ptK K1 3 us1) := uniq_fed K1 3 us1
  have hR : ∀ W' lo hi, Ext w4 W' → U64 lo → U64 hi → Calls Tryz.prog 35 #[.pointer (some ⟨s, 0, none⟩), .int .u64 lo, .int .u64 hi] W' (RangePost W' 3 (ptK K1 3 us1) lo hi) := fun W' lo hi h h1 h2 => Range_c s g K1 3 L _ W' (hK4.ext h) _ hU (ptK_I64 K1 3 us1) lo hi h1 h2
  have hR2 : ∀ W' x, Ext w4 W' → U64 x → Calls Tryz.prog 37 #[.pointer (some ⟨s, 0, none⟩), .int .u64 x] W' (RangePost W' 3 (ptK K1 3 us1) 0 x) := fun W' x h h1 => Rank_c s g K1 3 L _ W' (hK4.ext h) _ hU (ptK_I64 K1 3 us1) x h1
  have hP : ∀ W' lo hi, Ext w4 W' → U64 lo → U64 hi → Calls Tryz.prog 33 #[.pointer (some ⟨s, 0, none⟩), .int .u64 lo, .int .u64 hi] W' (PartsPost W' 3 (ptK K1 3 us1) lo hi) := fun W' lo hi h h1 h2 => Parts_c s g K1 3 L _ W' (hK4.ext h) _ hU lo hi h1 h2
  clear hU hK4 hF
  go_wp2_with fail
  refine (hR _ 1 6 (by (repeat' (first | exact Ext.refl _ | assumption | apply Ext.allocR | apply Ext.drewR | apply Ext.drewNR | (refine Ext.trans' ?_ (by assumption))))) ⟨by decide, by decide⟩ ⟨by decide, by decide⟩).mono ?_
  rintro e w5 ⟨hp, hx5⟩
  rw [K1_cv16] at hp
  obtain ⟨_, _, rfl⟩ := (hp.resolve_left (fun h => by have := h.1; omega)).resolve_left (fun h => by have := h.1; omega) |>.resolve_right (fun h => h.2.1 ⟨by decide, by decide⟩)
  have hE5 : Ext w4 w5 := by (repeat' (first | exact Ext.refl _ | assumption | apply Ext.allocR | apply Ext.drewR | apply Ext.drewNR | (refine Ext.trans' ?_ (by assumption))))
  clear hx5 hp
  go_wp2_with fail
  refine (hR2 _ 5 (hE5.trans' (by (repeat' (first | exact Ext.refl _ | assumption | apply Ext.allocR | apply Ext.drewR | apply Ext.drewNR | (refine Ext.trans' ?_ (by assumption)))))) ⟨by decide, by decide⟩).mono ?_
  rintro e w6 ⟨hp, hx6⟩
  rw [K1_cv05] at hp
  obtain ⟨_, _, rfl⟩ := (hp.resolve_left (fun h => by have := h.1; omega)).resolve_left (fun h => by have := h.1; omega) |>.resolve_right (fun h => h.2.1 ⟨by decide, by decide⟩)
  have hE6 : Ext w4 w6 := hE5.trans' (by (repeat' (first | exact Ext.refl _ | assumption | apply Ext.allocR | apply Ext.drewR | apply Ext.drewNR | (refine Ext.trans' ?_ (by assumption)))))
  clear hx6 hp hE5
  go_wp2_with fail
  refine (hP _ 1 6 (hE6.trans' (by (repeat' (first | exact Ext.refl _ | assumption | apply Ext.allocR | apply Ext.drewR | apply Ext.drewNR | (refine Ext.trans' ?_ (by assumption)))))) ⟨by decide, by decide⟩ ⟨by decide, by decide⟩).mono ?_
  rintro e w7 hp
  obtain ⟨_, v, rfl, ho, hx7⟩ := (hp.resolve_left (fun h => by have := h.1; omega)).resolve_left (fun h => by have := h.1; omega)
  rw [K1_cv16] at ho
  have hv := IntsAt.of_row ho
  obtain ⟨pv, cv, rfl⟩ := own_sl ho
  have hE7 : Ext w4 w7 := hE6.trans' (by (repeat' (first | exact Ext.refl _ | assumption | apply Ext.allocR | apply Ext.drewR | apply Ext.drewNR | (refine Ext.trans' ?_ (by assumption)))))
  clear hx7 hp hE6 ho
  go_wp2_with fail
  refine (hR _ 2 1 (hE7.trans' (by (repeat' (first | exact Ext.refl _ | assumption | apply Ext.allocR | apply Ext.drewR | apply Ext.drewNR | (refine Ext.trans' ?_ (by assumption)))))) ⟨by decide, by decide⟩ ⟨by decide, by decide⟩).mono ?_
  rintro e w8 ⟨hp, hx8⟩
  obtain ⟨_, rfl⟩ := hp.resolve_right (fun h => by rcases h with h | h | h <;> (have := h.1; omega))
  have hE8 : Ext w4 w8 := hE7.trans' (by (repeat' (first | exact Ext.refl _ | assumption | apply Ext.allocR | apply Ext.drewR | apply Ext.drewNR | (refine Ext.trans' ?_ (by assumption)))))
  have hv8 : IntsAt w8 _ _ := hv.ext (by (repeat' (first | exact Ext.refl _ | assumption | apply Ext.allocR | apply Ext.drewR | apply Ext.drewNR | (refine Ext.trans' ?_ (by assumption)))))
  clear hx8 hp hE7 hv
  go_wp2_with fail
  refine (hR _ 2 8 (hE8.trans' (by (repeat' (first | exact Ext.refl _ | assumption | apply Ext.allocR | apply Ext.drewR | apply Ext.drewNR | (refine Ext.trans' ?_ (by assumption)))))) ⟨by decide, by decide⟩ ⟨by decide, by decide⟩).mono ?_
  rintro e w9 ⟨hp, hx9⟩
  obtain ⟨_, rfl⟩ := (hp.resolve_left (fun h => by have := h.1; omega)).resolve_right (fun h => by rcases h with h | h <;> (have := h.1; omega))
  have hE9 : Ext w4 w9 := hE8.trans' (by (repeat' (first | exact Ext.refl _ | assumption | apply Ext.allocR | apply Ext.drewR | apply Ext.drewNR | (refine Ext.trans' ?_ (by assumption)))))
  have hv9 : IntsAt w9 _ _ := hv8.ext (by (repeat' (first | exact Ext.refl _ | assumption | apply Ext.allocR | apply Ext.drewR | apply Ext.drewNR | (refine Ext.trans' ?_ (by assumption)))))
  clear hx9 hp hE8 hv8 hR hR2 hP
  rw [show lsum [5, 0, 0, 7] = 12 from rfl, show lsum [5, 0] = 5 from rfl]
  go_wp2_with fail
  refine Calls.mono (Same_c _ _ _ _ _ (hv9.ext (Ext.alloc' _ _)) (ints4 w9 5 0 0 7 _) (by decide) (by decide)) ?_
  rintro e w10 ⟨rfl, hx10⟩
  rw [decide_eq_true (rfl : ([5, 0, 0, 7] : List Int) = [5, 0, 0, 7])]
  go_wp2
  go_ret
  exact ⟨rfl, hE4.trans' (hE9.trans' (by (repeat' (first | exact Ext.refl _ | assumption | apply Ext.allocR | apply Ext.drewR | apply Ext.drewNR | (refine Ext.trans' ?_ (by assumption))))))⟩
end Go.Proofs.YteoblkcbemeamaaGreat
