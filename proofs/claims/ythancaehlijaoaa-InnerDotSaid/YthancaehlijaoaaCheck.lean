/- sketch.Check tells what Update would answer. -/
import Derived.Test.YthancaehlijaoaaSketch
namespace Go.Proofs.Ythancaehlijaoaa
open Go.RowKit

def minL : List Int → Int
  | [] => 0
  | [x] => x
  | x :: y :: l => min x (minL (y :: l))
theorem minL_spec : ∀ (l : List Int), l ≠ [] → minL l ∈ l ∧ ∀ y ∈ l, minL l ≤ y
  | [], h => absurd rfl h
  | [x], _ => by simp [minL]
  | x :: y :: l, _ => by
    obtain ⟨h1, h2⟩ := minL_spec (y :: l) (by simp)
    rw [minL]
    refine ⟨?_, fun z hz => ?_⟩
    · rcases Int.le_total x (minL (y :: l)) with h | h
      · rw [Int.min_eq_left h]; simp
      · rw [Int.min_eq_right h]; exact List.mem_cons_of_mem _ h1
    · rcases List.mem_cons.1 hz with rfl | hz
      · exact Int.min_le_left _ _
      · exact Int.le_trans (Int.min_le_right _ _) (h2 z hz)
theorem less_nil {x : Int} {l : List Int} (h : ∀ y ∈ l, x ≤ y) : (lessL x l).length = 0 := by
  unfold lessL
  rw [List.length_eq_zero_iff, List.filter_eq_nil_iff]
  intro y hy
  have := h y hy
  simp; omega
theorem kth0_min {l : List Int} {x : Int} (h : IsKth l 0 x) : minL l = x := by
  have hx : x ∈ l := sameN_pos (by have := h.1; have := h.2; omega)
  obtain ⟨h1, h2⟩ := minL_spec l (by intro e; rw [e] at hx; cases hx)
  exact kth_unique (k := 0) ⟨by rw [less_nil h2]; exact Nat.le_refl _, by have := same_mem h1; omega⟩ h
def allFit (W : Nat) (cs l : List Int) (d : Int) (R : Nat) : Bool := (List.range R).all fun k => fitB (l.getD (at_ W cs k) 0 + d)
theorem allFit_iff {W : Nat} {cs l : List Int} {d : Int} {R : Nat} : allFit W cs l d R = true ↔ fitsAll W cs l d R := by
  unfold allFit fitsAll
  rw [List.all_eq_true]
  constructor
  · intro h k hk
    exact of_decide_eq_true (p := -9223372036854775808 ≤ l.getD (at_ W cs k) 0 + d ∧ l.getD (at_ W cs k) 0 + d ≤ 9223372036854775807) (h k (List.mem_range.2 hk))
  · intro h k hk
    exact fitB_yes (h k (List.mem_range.1 hk))
/-- What an update answers. -/
def errU (C : Cfg) (lv : Int) (R W : Nat) (l : List Int) (key d : Int) : Int :=
  bif decide (key < keys C lv) then
    (bif decide (C.mode = 2) then (bif decide (d < 0) then 3 else bif fitB (minL (readL W l (cols C lv key)) + d) then 0 else 4)
     else bif allFit W (cols C lv key) l d R then 0 else 4)
  else 2
def CheckPost (w : World) (C : Cfg) (lv : Int) (R W : Nat) (l : List Int) (key d : Int) (e : Ending) (w' : World) : Prop :=
  e = .returned (.int .i64 (errU C lv R W l key d)) ∧ Ext w w'
theorem errU_key {C : Cfg} {lv : Int} {R W : Nat} {l : List Int} {key d : Int} (h : keys C lv ≤ key) : errU C lv R W l key d = 2 := by
  unfold errU; rw [decide_eq_false (by omega)]; rfl
theorem errU_sum {C : Cfg} {lv : Int} {R W : Nat} {l : List Int} {key d : Int} (h : key < keys C lv) (hm : C.mode ≠ 2) : errU C lv R W l key d = bif allFit W (cols C lv key) l d R then 0 else 4 := by
  unfold errU; rw [decide_eq_true h, decide_eq_false hm]; rfl
theorem errU_neg {C : Cfg} {lv : Int} {R W : Nat} {l : List Int} {key d : Int} (h : key < keys C lv) (hm : C.mode = 2) (hd : d < 0) : errU C lv R W l key d = 3 := by
  unfold errU; rw [decide_eq_true h, decide_eq_true hm, decide_eq_true hd]; rfl
theorem errU_con {C : Cfg} {lv : Int} {R W : Nat} {l : List Int} {key d : Int} (h : key < keys C lv) (hm : C.mode = 2) (hd : ¬ d < 0) : errU C lv R W l key d = bif fitB (minL (readL W l (cols C lv key)) + d) then 0 else 4 := by
  unfold errU; rw [decide_eq_true h, decide_eq_true hm, decide_eq_false hd]; rfl
set_option maxRecDepth 20000 in
set_option maxHeartbeats 2000000 in
theorem Check_sum (s b c : Nat) (C : Cfg) (lv : Int) (R W : Nat) (l : List Int) (key d : Int) (w : World) (h : SAt w s b c C lv R W l) (hd : I64 d) (hk0 : 0 ≤ key) (hk1 : key < keys C lv) (hmode : C.mode ≠ 2) :
    Calls Try.prog 47 #[.pointer (some ⟨s, 0, none⟩), .int .u64 key, .int .i64 d] w (CheckPost w C lv R W l key d) := by
  have hlt := h.lts
  have c0 := (cell_of h.ex 0).trans rfl
  have c1 := (cell_of h.ex 1).trans rfl
  have c2 := (cell_of h.ex 2).trans rfl
  have c3 := (cell_of h.ex 3).trans rfl
  have c4 := (cell_of h.ex 4).trans rfl
  have c5 := (cell_of h.ex 5).trans rfl
  have c6 := (cell_of h.ex 6).trans rfl
  have hnil := fun (x : World) (p : Option Addr) (n k : Nat) => Lib.run_eql_slice_nil (P := Try.prog) x 36 3 p n k 0 0 Try.underlying36
  have hm := cols_meets C h.ok lv key h.hr h.hw
  have hmb : (C.mode == 2) = false := by simp [hmode]
  have HE := Lib.hid (errU_sum (R := R) (W := W) (l := l) (d := d) hk1 hmode)
  go_enter Try.func47, Try.ntmps47
  go_wp2
  have hC0 := af_drew w
  refine pi_start (fun w' => ∃ x : After w, w' = x.w) [] (by kernel_rfl) ?_
  refine pi_t 0 rfl (by kernel_rfl) (by kernel_rfl) (fun _ _ _ _ h => h) (fun K hK => ?_)
  go_big_quiet_op
  refine hK _ ?_
  clear hK K
  refine pi_t 1 rfl (by kernel_rfl) (by kernel_rfl) (fun _ _ _ _ h => h) (fun K hK => ?_)
  go_big_quiet_op
  refine hK _ ?_
  clear hK K
  refine pi_t 2 rfl (by kernel_rfl) (by kernel_rfl) (fun _ _ _ _ h => h) (fun K hK => ?_)
  go_big_quiet_op
  refine hK _ ?_
  clear hK K
  refine pi_c 3 (by assumption) rfl (by kernel_rfl) (by kernel_rfl) (fun _ _ _ _ h => h) (fun K hK => ?_)
  go_big_quiet_op
  refine hK _ ?_
  clear hK K
  refine pi_t 4 rfl (by kernel_rfl) (by kernel_rfl) (fun _ _ _ _ h => h) (fun K hK => ?_)
  go_big_quiet_op
  refine hK _ ?_
  clear hK K
  refine pi_t 5 rfl (by kernel_rfl) (by kernel_rfl) (fun _ _ _ _ h => h) (fun K hK => ?_)
  go_big_quiet_op
  refine hK _ ?_
  clear hK K
  refine pi_t 6 rfl (by kernel_rfl) (by kernel_rfl) (fun _ _ _ _ h => h) (fun K hK => ?_)
  go_big_quiet_op
  refine hK _ ?_
  clear hK K
  refine pi_c 7 (by assumption) rfl (by kernel_rfl) (by kernel_rfl) (fun _ _ _ _ h => h) (fun K hK => ?_)
  go_big_quiet_op
  refine hK _ ?_
  clear hK K
  refine pi_t 8 rfl (by kernel_rfl) (by kernel_rfl) (fun _ _ _ _ h => h) (fun K hK => ?_)
  go_big_quiet_op
  refine hK _ ?_
  clear hK K
  refine pi_l 9 rfl (by kernel_rfl) (fun K hK => ?_)
  go_wp2_with (go_at_call 20; refine (Columns_c C h.ok lv key h.lo h.hi (by have := h.hi; have := h.ok.b2; omega) hk0 hk1 _).mono ?_; rintro e w1 ⟨v, rfl, ho, hx0⟩)
  refine hK _ _ (fun _ h => af_step h hx0) ?_
  clear hK K
  refine pi_t 10 rfl (by kernel_rfl) (by kernel_rfl) (fun _ _ _ _ h => h) (fun K hK => ?_)
  go_big_quiet_op
  refine hK _ ?_
  clear hK K
  refine pi_end (by kernel_rfl) ?_
  have hx : Ext w w1 := Ext.trans' (Below.drew (Ext.refl w)) hx0
  have hv := IntsAt.of_row ho
  have hne := own_ne ho (c := c) (by exact h.g.ltc)
  obtain ⟨vg, vo, vc, rfl, _⟩ := hv.slice (by rw [hm.len]; have := h.g.r1; omega)
  rw [hm.len] at hv hne ⊢
  clear ho hx0
  have HV := Lib.hid hv
  clear hv hne
  have hS := h.ext hx
  have c0' := (cell_of hS.ex 0).trans rfl
  clear c0 c1 c2 c3 c4 c5 c6
  go_wp2_with fail
  refine (Read_c b c R W l _ _ _ hS.g HV.out hm).mono ?_
  rintro e w2 ⟨v2, rfl, ho2, hx2⟩
  have hS2 := hS.ext hx2
  have c4' := (cell_of hS2.ex 4).trans rfl
  have r1 := h.g.r1
  have r2 := h.g.r2
  obtain ⟨g2, cap2, rfl, hg2, hca⟩ := CAt.of_row ho2 (by rw [hm.len]; omega)
  rw [readL_len, hm.len]
  have hlt2 := hca.lt
  have hle := hca.le
  rw [readL_len, hm.len] at hle
  have hmx := hca.mx
  unfold maxLen at hmx
  have hE2 : Ext w w2 := hx.trans' hx2
  clear ho2 c0'
  go_wp2
  go_loopw [61] (fun u wr => ∃ k : Nat, k ≤ R ∧ u = .int .i64 k ∧ Ext w2 wr ∧ ∀ j, j < k → fitB (l.getD (at_ W (cols C lv key) j) 0 + d) = true) (fun u _ => R - (intOf u).toNat)
  case atStart => exact ⟨0, Nat.zero_le _, rfl, Ext.refl _, fun j hj => absurd hj (Nat.not_lt_zero _)⟩
  case round =>
    obtain ⟨k, hk, rfl, hxr, hall⟩ := hrel
    have HALL := Lib.hid hall
    clear hall
    by_cases hlt3 : k < R
    · have d0 := ((bcell hxr).1 g2 k hlt2).trans (hca.cell (i := k) (by rw [readL_len, hm.len]; exact hlt3))
      rw [readL_get (by rw [hm.len]; exact hlt3)] at d0
      have hyI := getD_i64 h.fit (at_ W (cols C lv key) k)
      obtain ⟨y, hy⟩ : ∃ y, l.getD (at_ W (cols C lv key) k) 0 = y := ⟨_, rfl⟩
      rw [hy] at d0 hyI
      have HY := Lib.hid hy
      clear hy
      by_cases hfit : I64 (y + d)
      · have fb := fitB_yes hfit
        go_wp2_with fail
        refine (Plus_c y d hyI hd _).mono ?_
        rintro e w3 ⟨rfl, hb3⟩
        go_wp2
        go_roundw
        case rel =>
          refine ⟨k + 1, by omega, by go_num, hxr.trans' hb3, fun j hj => ?_⟩
          rcases Nat.lt_or_eq_of_le (Nat.le_of_lt_succ hj) with h' | rfl
          · exact HALL.out j h'
          · rw [HY.out]; exact fitB_yes hfit
        case measure => simp [intOf]; omega
      · have fb := fitB_no hfit
        go_wp2_with fail
        refine (Plus_c y d hyI hd _).mono ?_
        rintro e w3 ⟨rfl, hb3⟩
        go_wp2
        go_ret
        refine ⟨?_, hE2.trans' (hxr.trans' hb3)⟩
        rw [HE.out]
        cases hA : allFit W (cols C lv key) l d R with
        | false => rfl
        | true => exact absurd (by rw [← HY.out]; exact allFit_iff.1 hA k hlt3) hfit
    · go_wp2
      go_ret
      obtain rfl : k = R := by omega
      refine ⟨?_, hE2.trans' hxr⟩
      rw [HE.out, show allFit W (cols C lv key) l d k = true from List.all_eq_true.2 (fun j hj => HALL.out j (List.mem_range.1 hj))]
      rfl
end Go.Proofs.Ythancaehlijaoaa
