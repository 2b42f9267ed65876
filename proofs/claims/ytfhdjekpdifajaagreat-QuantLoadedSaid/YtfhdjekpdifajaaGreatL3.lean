/- Part. No condition. -/
import Derived.Test.YtfhdjekpdifajaaGreatL2
import Derived.Laws.CopyOwn

/- sketch.Check tells what Update would answer. -/
namespace Go.Proofs.YtfhdjekpdifajaaGreat
open Go.RowKit

def minL : List Int → Int
  | [] => 0
  | [x] => x
  | x :: y :: l => min x (minL (y :: l))
theorem minL_spec : ∀ (l : List Int), l ≠ [] → minL l ∈ l ∧ ∀ y ∈ l, minL l ≤ y
  | [], h => absurd rfl h
  | [x], _ => by simp [minL]
  | x :: y :: l, _ => by
    obtain ⟨h1, h2⟩ := minL_spec (y :: l) (by simp)
    rw [minL]
    refine ⟨?_, fun z hz => ?_⟩
    · rcases Int.le_total x (minL (y :: l)) with h | h
      · rw [Int.min_eq_left h]; simp
      · rw [Int.min_eq_right h]; exact List.mem_cons_of_mem _ h1
    · rcases List.mem_cons.1 hz with rfl | hz
      · exact Int.min_le_left _ _
      · exact Int.le_trans (Int.min_le_right _ _) (h2 z hz)
theorem less_nil {x : Int} {l : List Int} (h : ∀ y ∈ l, x ≤ y) : (lessL x l).length = 0 := by
  unfold lessL
  rw [List.length_eq_zero_iff, List.filter_eq_nil_iff]
  intro y hy
  have := h y hy
  simp; omega
theorem kth0_min {l : List Int} {x : Int} (h : IsKth l 0 x) : minL l = x := by
  have hx : x ∈ l := sameN_pos (by have := h.1; have := h.2; omega)
  obtain ⟨h1, h2⟩ := minL_spec l (by intro e; rw [e] at hx; cases hx)
  exact kth_unique (k := 0) ⟨by rw [less_nil h2]; exact Nat.le_refl _, by have := same_mem h1; omega⟩ h
def allFit (W : Nat) (cs l : List Int) (d : Int) (R : Nat) : Bool := (List.range R).all fun k => fitB (l.getD (at_ W cs k) 0 + d)
theorem allFit_iff {W : Nat} {cs l : List Int} {d : Int} {R : Nat} : allFit W cs l d R = true ↔ fitsAll W cs l d R := by
  unfold allFit fitsAll
  rw [List.all_eq_true]
  constructor
  · intro h k hk
    exact of_decide_eq_true (p := -9223372036854775808 ≤ l.getD (at_ W cs k) 0 + d ∧ l.getD (at_ W cs k) 0 + d ≤ 9223372036854775807) (h k (List.mem_range.2 hk))
  · intro h k hk
    exact fitB_yes (h k (List.mem_range.1 hk))
/-- What an update answers. -/
def errU (C : Cfg) (lv : Int) (R W : Nat) (l : List Int) (key d : Int) : Int :=
  bif decide (key < keys C lv) then
    (bif decide (C.mode = 2) then (bif decide (d < 0) then 3 else bif fitB (minL (readL W l (cols C lv key)) + d) then 0 else 4)
     else bif allFit W (cols C lv key) l d R then 0 else 4)
  else 2
def CheckPost (w : World) (C : Cfg) (lv : Int) (R W : Nat) (l : List Int) (key d : Int) (e : Ending) (w' : World) : Prop :=
  e = .returned (.int .i64 (errU C lv R W l key d)) ∧ Ext w w'
theorem errU_key {C : Cfg} {lv : Int} {R W : Nat} {l : List Int} {key d : Int} (h : keys C lv ≤ key) : errU C lv R W l key d = 2 := by
  unfold errU; rw [decide_eq_false (by omega)]; rfl
theorem errU_sum {C : Cfg} {lv : Int} {R W : Nat} {l : List Int} {key d : Int} (h : key < keys C lv) (hm : C.mode ≠ 2) : errU C lv R W l key d = bif allFit W (cols C lv key) l d R then 0 else 4 := by
  unfold errU; rw [decide_eq_true h, decide_eq_false hm]; rfl
theorem errU_neg {C : Cfg} {lv : Int} {R W : Nat} {l : List Int} {key d : Int} (h : key < keys C lv) (hm : C.mode = 2) (hd : d < 0) : errU C lv R W l key d = 3 := by
  unfold errU; rw [decide_eq_true h, decide_eq_true hm, decide_eq_true hd]; rfl
theorem errU_con {C : Cfg} {lv : Int} {R W : Nat} {l : List Int} {key d : Int} (h : key < keys C lv) (hm : C.mode = 2) (hd : ¬ d < 0) : errU C lv R W l key d = bif fitB (minL (readL W l (cols C lv key)) + d) then 0 else 4 := by
  unfold errU; rw [decide_eq_true h, decide_eq_true hm, decide_eq_false hd]; rfl
set_option maxRecDepth 20000 in
set_option maxHeartbeats 2000000 in
theorem Check_sum (s b c : Nat) (C : Cfg) (lv : Int) (R W : Nat) (l : List Int) (key d : Int) (w : World) (h : SAt w s b c C lv R W l) (hd : I64 d) (hk0 : 0 ≤ key) (hk1 : key < keys C lv) (hmode : C.mode ≠ 2) :
    Calls Tryz.prog 250 #[.pointer (some ⟨s, 0, none⟩), .int .u64 key, .int .i64 d] w (CheckPost w C lv R W l key d) := by
  have hlt := h.lts
  have c0 := (cell_of h.ex 0).trans rfl
  have c1 := (cell_of h.ex 1).trans rfl
  have c2 := (cell_of h.ex 2).trans rfl
  have c3 := (cell_of h.ex 3).trans rfl
  have c4 := (cell_of h.ex 4).trans rfl
  have c5 := (cell_of h.ex 5).trans rfl
  have c6 := (cell_of h.ex 6).trans rfl
  have hnil := fun (x : World) (p : Option Addr) (n k : Nat) => Lib.run_eql_slice_nil (P := Tryz.prog) x 250 3 p n k 0 0 Tryz.underlying250
  have hm := cols_meets C h.ok lv key h.hr h.hw
  have hmb : (C.mode == 2) = false := by simp [hmode]
  have HE := Lib.hid (errU_sum (R := R) (W := W) (l := l) (d := d) hk1 hmode)
  go_enter Tryz.func250, Tryz.ntmps250
  go_wp2
  have hC0 := af_drew w
  refine pi_start (fun w' => ∃ x : After w, w' = x.w) [] (by kernel_rfl) ?_
  refine pi_t 0 rfl (by kernel_rfl) (by kernel_rfl) (fun _ _ _ _ h => h) (fun K hK => ?_)
  go_big_quiet_op
  refine hK _ ?_
  clear hK K
  refine pi_t 1 rfl (by kernel_rfl) (by kernel_rfl) (fun _ _ _ _ h => h) (fun K hK => ?_)
  go_big_quiet_op
  refine hK _ ?_
  clear hK K
  refine pi_t 2 rfl (by kernel_rfl) (by kernel_rfl) (fun _ _ _ _ h => h) (fun K hK => ?_)
  go_big_quiet_op
  refine hK _ ?_
  clear hK K
  refine pi_c 3 (by assumption) rfl (by kernel_rfl) (by kernel_rfl) (fun _ _ _ _ h => h) (fun K hK => ?_)
  go_big_quiet_op
  refine hK _ ?_
  clear hK K
  refine pi_t 4 rfl (by kernel_rfl) (by kernel_rfl) (fun _ _ _ _ h => h) (fun K hK => ?_)
  go_big_quiet_op
  refine hK _ ?_
  clear hK K
  refine pi_t 5 rfl (by kernel_rfl) (by kernel_rfl) (fun _ _ _ _ h => h) (fun K hK => ?_)
  go_big_quiet_op
  refine hK _ ?_
  clear hK K
  refine pi_t 6 rfl (by kernel_rfl) (by kernel_rfl) (fun _ _ _ _ h => h) (fun K hK => ?_)
  go_big_quiet_op
  refine hK _ ?_
  clear hK K
  refine pi_c 7 (by assumption) rfl (by kernel_rfl) (by kernel_rfl) (fun _ _ _ _ h => h) (fun K hK => ?_)
  go_big_quiet_op
  refine hK _ ?_
  clear hK K
  refine pi_t 8 rfl (by kernel_rfl) (by kernel_rfl) (fun _ _ _ _ h => h) (fun K hK => ?_)
  go_big_quiet_op
  refine hK _ ?_
  clear hK K
  refine pi_l 9 rfl (by kernel_rfl) (fun K hK => ?_)
  go_wp2_with (go_at_call 254; refine (Columns_c C h.ok lv key h.lo h.hi (by have := h.hi; have := h.ok.b2; omega) hk0 hk1 _).mono ?_; rintro e w1 ⟨v, rfl, ho, hx0⟩)
  refine hK _ _ (fun _ h => af_step h hx0) ?_
  clear hK K
  refine pi_t 10 rfl (by kernel_rfl) (by kernel_rfl) (fun _ _ _ _ h => h) (fun K hK => ?_)
  go_big_quiet_op
  refine hK _ ?_
  clear hK K
  refine pi_end (by kernel_rfl) ?_
  have hx : Ext w w1 := Ext.trans' (Below.drew (Ext.refl w)) hx0
  have hv := IntsAt.of_row ho
  have hne := own_ne ho (c := c) (by exact h.g.ltc)
  obtain ⟨vg, vo, vc, rfl, _⟩ := hv.slice (by rw [hm.len]; have := h.g.r1; omega)
  rw [hm.len] at hv hne ⊢
  clear ho hx0
  have HV := Lib.hid hv
  clear hv hne
  have hS := h.ext hx
  have c0' := (cell_of hS.ex 0).trans rfl
  clear c0 c1 c2 c3 c4 c5 c6
  go_wp2_with fail
  refine (Read_c b c R W l _ _ _ hS.g HV.out hm).mono ?_
  rintro e w2 ⟨v2, rfl, ho2, hx2⟩
  have hS2 := hS.ext hx2
  have c4' := (cell_of hS2.ex 4).trans rfl
  have r1 := h.g.r1
  have r2 := h.g.r2
  obtain ⟨g2, cap2, rfl, hg2, hca⟩ := CAt.of_row ho2 (by rw [hm.len]; omega)
  rw [readL_len, hm.len]
  have hlt2 := hca.lt
  have hle := hca.le
  rw [readL_len, hm.len] at hle
  have hmx := hca.mx
  unfold maxLen at hmx
  have hE2 : Ext w w2 := hx.trans' hx2
  clear ho2 c0'
  go_wp2
  go_loopw [61] (fun u wr => ∃ k : Nat, k ≤ R ∧ u = .int .i64 k ∧ Ext w2 wr ∧ ∀ j, j < k → fitB (l.getD (at_ W (cols C lv key) j) 0 + d) = true) (fun u _ => R - (intOf u).toNat)
  case atStart => exact ⟨0, Nat.zero_le _, rfl, Ext.refl _, fun j hj => absurd hj (Nat.not_lt_zero _)⟩
  case round =>
    obtain ⟨k, hk, rfl, hxr, hall⟩ := hrel
    have HALL := Lib.hid hall
    clear hall
    by_cases hlt3 : k < R
    · have d0 := ((bcell hxr).1 g2 k hlt2).trans (hca.cell (i := k) (by rw [readL_len, hm.len]; exact hlt3))
      rw [readL_get (by rw [hm.len]; exact hlt3)] at d0
      have hyI := getD_i64 h.fit (at_ W (cols C lv key) k)
      obtain ⟨y, hy⟩ : ∃ y, l.getD (at_ W (cols C lv key) k) 0 = y := ⟨_, rfl⟩
      rw [hy] at d0 hyI
      have HY := Lib.hid hy
      clear hy
      by_cases hfit : I64 (y + d)
      · have fb := fitB_yes hfit
        go_wp2_with fail
        refine (Plus_c y d hyI hd _).mono ?_
        rintro e w3 ⟨rfl, hb3⟩
        go_wp2
        go_roundw
        case rel =>
          refine ⟨k + 1, by omega, by go_num, hxr.trans' hb3, fun j hj => ?_⟩
          rcases Nat.lt_or_eq_of_le (Nat.le_of_lt_succ hj) with h' | rfl
          · exact HALL.out j h'
          · rw [HY.out]; exact fitB_yes hfit
        case measure => simp [intOf]; omega
      · have fb := fitB_no hfit
        go_wp2_with fail
        refine (Plus_c y d hyI hd _).mono ?_
        rintro e w3 ⟨rfl, hb3⟩
        go_wp2
        go_ret
        refine ⟨?_, hE2.trans' (hxr.trans' hb3)⟩
        rw [HE.out]
        cases hA : allFit W (cols C lv key) l d R with
        | false => rfl
        | true => exact absurd (by rw [← HY.out]; exact allFit_iff.1 hA k hlt3) hfit
    · go_wp2
      go_ret
      obtain rfl : k = R := by omega
      refine ⟨?_, hE2.trans' hxr⟩
      rw [HE.out, show allFit W (cols C lv key) l d k = true from List.all_eq_true.2 (fun j hj => HALL.out j (List.mem_range.1 hj))]
      rfl
end Go.Proofs.YtfhdjekpdifajaaGreat

/- sketch.Check in the mode Conservative, and of keys that are not there; sketch.Update. -/
namespace Go.Proofs.YtfhdjekpdifajaaGreat
open Go.RowKit
set_option maxRecDepth 20000 in
set_option maxHeartbeats 2000000 in
theorem Check_no (s b c : Nat) (C : Cfg) (lv : Int) (R W : Nat) (l : List Int) (key d : Int) (w : World) (h : SAt w s b c C lv R W l) (hk1 : keys C lv ≤ key) :
    Calls Tryz.prog 250 #[.pointer (some ⟨s, 0, none⟩), .int .u64 key, .int .i64 d] w (CheckPost w C lv R W l key d) := by
  have hlt := h.lts
  have c0 := (cell_of h.ex 0).trans rfl
  have c1 := (cell_of h.ex 1).trans rfl
  have c2 := (cell_of h.ex 2).trans rfl
  have c3 := (cell_of h.ex 3).trans rfl
  have c4 := (cell_of h.ex 4).trans rfl
  have c5 := (cell_of h.ex 5).trans rfl
  have c6 := (cell_of h.ex 6).trans rfl
  have hnil := fun (x : World) (p : Option Addr) (n k : Nat) => Lib.run_eql_slice_nil (P := Tryz.prog) x 250 3 p n k 0 0 Tryz.underlying250
  have HE := Lib.hid (errU_key (R := R) (W := W) (l := l) (d := d) hk1)
  go_enter Tryz.func250, Tryz.ntmps250
  go_wp2
  have hC0 := af_drew w
  refine pi_start (fun w' => ∃ x : After w, w' = x.w) [] (by kernel_rfl) ?_
  refine pi_t 0 rfl (by kernel_rfl) (by kernel_rfl) (fun _ _ _ _ h => h) (fun K hK => ?_)
  go_big_quiet_op
  refine hK _ ?_
  clear hK K
  refine pi_t 1 rfl (by kernel_rfl) (by kernel_rfl) (fun _ _ _ _ h => h) (fun K hK => ?_)
  go_big_quiet_op
  refine hK _ ?_
  clear hK K
  refine pi_t 2 rfl (by kernel_rfl) (by kernel_rfl) (fun _ _ _ _ h => h) (fun K hK => ?_)
  go_big_quiet_op
  refine hK _ ?_
  clear hK K
  refine pi_c 3 (by assumption) rfl (by kernel_rfl) (by kernel_rfl) (fun _ _ _ _ h => h) (fun K hK => ?_)
  go_big_quiet_op
  refine hK _ ?_
  clear hK K
  refine pi_t 4 rfl (by kernel_rfl) (by kernel_rfl) (fun _ _ _ _ h => h) (fun K hK => ?_)
  go_big_quiet_op
  refine hK _ ?_
  clear hK K
  refine pi_t 5 rfl (by kernel_rfl) (by kernel_rfl) (fun _ _ _ _ h => h) (fun K hK => ?_)
  go_big_quiet_op
  refine hK _ ?_
  clear hK K
  refine pi_t 6 rfl (by kernel_rfl) (by kernel_rfl) (fun _ _ _ _ h => h) (fun K hK => ?_)
  go_big_quiet_op
  refine hK _ ?_
  clear hK K
  refine pi_c 7 (by assumption) rfl (by kernel_rfl) (by kernel_rfl) (fun _ _ _ _ h => h) (fun K hK => ?_)
  go_big_quiet_op
  refine hK _ ?_
  clear hK K
  refine pi_t 8 rfl (by kernel_rfl) (by kernel_rfl) (fun _ _ _ _ h => h) (fun K hK => ?_)
  go_big_quiet_op
  refine hK _ ?_
  clear hK K
  refine pi_l 9 rfl (by kernel_rfl) (fun K hK => ?_)
  go_wp2_with (go_at_call 254; refine (Columns_no C h.ok lv key h.lo h.hi hk1 _).mono ?_; rintro e w1 ⟨rfl, hx0⟩)
  refine hK _ _ (fun _ h => af_step h hx0) ?_
  clear hK K
  refine pi_t 10 rfl (by kernel_rfl) (by kernel_rfl) (fun _ _ _ _ h => h) (fun K hK => ?_)
  go_big_quiet_op
  refine hK _ ?_
  clear hK K
  refine pi_end (by kernel_rfl) ?_
  have hx : Ext w w1 := Ext.trans' (Below.drew (Ext.refl w)) hx0
  go_wp2
  go_ret
  exact ⟨by rw [HE.out]; rfl, hx⟩
set_option maxRecDepth 20000 in
set_option maxHeartbeats 2000000 in
theorem Check_con (s b c : Nat) (C : Cfg) (lv : Int) (R W : Nat) (l : List Int) (key d : Int) (w : World) (h : SAt w s b c C lv R W l) (hd : I64 d) (hk0 : 0 ≤ key) (hk1 : key < keys C lv) (hmode : C.mode = 2) :
    Calls Tryz.prog 250 #[.pointer (some ⟨s, 0, none⟩), .int .u64 key, .int .i64 d] w (CheckPost w C lv R W l key d) := by
  have hlt := h.lts
  have c0 := (cell_of h.ex 0).trans rfl
  have c1 := (cell_of h.ex 1).trans rfl
  have c2 := (cell_of h.ex 2).trans rfl
  have c3 := (cell_of h.ex 3).trans rfl
  have c4 := (cell_of h.ex 4).trans rfl
  have c5 := (cell_of h.ex 5).trans rfl
  have c6 := (cell_of h.ex 6).trans rfl
  have hnil := fun (x : World) (p : Option Addr) (n k : Nat) => Lib.run_eql_slice_nil (P := Tryz.prog) x 250 3 p n k 0 0 Tryz.underlying250
  have hm := cols_meets C h.ok lv key h.hr h.hw
  have hmb : (C.mode == 2) = true := by simp [hmode]
  by_cases hdn : d < 0
  · have HE := Lib.hid (errU_neg (R := R) (W := W) (l := l) hk1 hmode hdn)
    have hdb : decide (d < 0) = true := by simp [hdn]
    clear hmode
    go_enter Tryz.func250, Tryz.ntmps250
    go_wp2
    have hC0 := af_drew w
    refine pi_start (fun w' => ∃ x : After w, w' = x.w) [] (by kernel_rfl) ?_
    refine pi_t 0 rfl (by kernel_rfl) (by kernel_rfl) (fun _ _ _ _ h => h) (fun K hK => ?_)
    go_big_quiet_op
    refine hK _ ?_
    clear hK K
    refine pi_t 1 rfl (by kernel_rfl) (by kernel_rfl) (fun _ _ _ _ h => h) (fun K hK => ?_)
    go_big_quiet_op
    refine hK _ ?_
    clear hK K
    refine pi_t 2 rfl (by kernel_rfl) (by kernel_rfl) (fun _ _ _ _ h => h) (fun K hK => ?_)
    go_big_quiet_op
    refine hK _ ?_
    clear hK K
    refine pi_c 3 (by assumption) rfl (by kernel_rfl) (by kernel_rfl) (fun _ _ _ _ h => h) (fun K hK => ?_)
    go_big_quiet_op
    refine hK _ ?_
    clear hK K
    refine pi_t 4 rfl (by kernel_rfl) (by kernel_rfl) (fun _ _ _ _ h => h) (fun K hK => ?_)
    go_big_quiet_op
    refine hK _ ?_
    clear hK K
    refine pi_t 5 rfl (by kernel_rfl) (by kernel_rfl) (fun _ _ _ _ h => h) (fun K hK => ?_)
    go_big_quiet_op
    refine hK _ ?_
    clear hK K
    refine pi_t 6 rfl (by kernel_rfl) (by kernel_rfl) (fun _ _ _ _ h => h) (fun K hK => ?_)
    go_big_quiet_op
    refine hK _ ?_
    clear hK K
    refine pi_c 7 (by assumption) rfl (by kernel_rfl) (by kernel_rfl) (fun _ _ _ _ h => h) (fun K hK => ?_)
    go_big_quiet_op
    refine hK _ ?_
    clear hK K
    refine pi_t 8 rfl (by kernel_rfl) (by kernel_rfl) (fun _ _ _ _ h => h) (fun K hK => ?_)
    go_big_quiet_op
    refine hK _ ?_
    clear hK K
    refine pi_l 9 rfl (by kernel_rfl) (fun K hK => ?_)
    go_wp2_with (go_at_call 254; refine (Columns_c C h.ok lv key h.lo h.hi (by have := h.hi; have := h.ok.b2; omega) hk0 hk1 _).mono ?_; rintro e w1 ⟨v, rfl, ho, hx0⟩)
    refine hK _ _ (fun _ h => af_step h hx0) ?_
    clear hK K
    refine pi_t 10 rfl (by kernel_rfl) (by kernel_rfl) (fun _ _ _ _ h => h) (fun K hK => ?_)
    go_big_quiet_op
    refine hK _ ?_
    clear hK K
    refine pi_end (by kernel_rfl) ?_
    have hx : Ext w w1 := Ext.trans' (Below.drew (Ext.refl w)) hx0
    have hv := IntsAt.of_row ho
    have hne := own_ne ho (c := c) (by exact h.g.ltc)
    obtain ⟨vg, vo, vc, rfl, _⟩ := hv.slice (by rw [hm.len]; have := h.g.r1; omega)
    rw [hm.len] at hv hne ⊢
    clear ho hx0
    have HV := Lib.hid hv
    clear hv hne
    have hS := h.ext hx
    have c0' := (cell_of hS.ex 0).trans rfl
    clear c0 c1 c2 c3 c4 c5 c6
    go_wp2_with fail
    refine (Read_c b c R W l _ _ _ hS.g HV.out hm).mono ?_
    rintro e w2 ⟨v2, rfl, ho2, hx2⟩
    have hS2 := hS.ext hx2
    have c4' := (cell_of hS2.ex 4).trans rfl
    go_wp2
    go_ret
    exact ⟨by rw [HE.out]; rfl, hx.trans' hx2⟩
  · have HE := Lib.hid (errU_con (R := R) (W := W) (l := l) hk1 hmode hdn)
    have hdb : decide (d < 0) = false := by simp; omega
    clear hmode
    go_enter Tryz.func250, Tryz.ntmps250
    go_wp2
    have hC0 := af_drew w
    refine pi_start (fun w' => ∃ x : After w, w' = x.w) [] (by kernel_rfl) ?_
    refine pi_t 0 rfl (by kernel_rfl) (by kernel_rfl) (fun _ _ _ _ h => h) (fun K hK => ?_)
    go_big_quiet_op
    refine hK _ ?_
    clear hK K
    refine pi_t 1 rfl (by kernel_rfl) (by kernel_rfl) (fun _ _ _ _ h => h) (fun K hK => ?_)
    go_big_quiet_op
    refine hK _ ?_
    clear hK K
    refine pi_t 2 rfl (by kernel_rfl) (by kernel_rfl) (fun _ _ _ _ h => h) (fun K hK => ?_)
    go_big_quiet_op
    refine hK _ ?_
    clear hK K
    refine pi_c 3 (by assumption) rfl (by kernel_rfl) (by kernel_rfl) (fun _ _ _ _ h => h) (fun K hK => ?_)
    go_big_quiet_op
    refine hK _ ?_
    clear hK K
    refine pi_t 4 rfl (by kernel_rfl) (by kernel_rfl) (fun _ _ _ _ h => h) (fun K hK => ?_)
    go_big_quiet_op
    refine hK _ ?_
    clear hK K
    refine pi_t 5 rfl (by kernel_rfl) (by kernel_rfl) (fun _ _ _ _ h => h) (fun K hK => ?_)
    go_big_quiet_op
    refine hK _ ?_
    clear hK K
    refine pi_t 6 rfl (by kernel_rfl) (by kernel_rfl) (fun _ _ _ _ h => h) (fun K hK => ?_)
    go_big_quiet_op
    refine hK _ ?_
    clear hK K
    refine pi_c 7 (by assumption) rfl (by kernel_rfl) (by kernel_rfl) (fun _ _ _ _ h => h) (fun K hK => ?_)
    go_big_quiet_op
    refine hK _ ?_
    clear hK K
    refine pi_t 8 rfl (by kernel_rfl) (by kernel_rfl) (fun _ _ _ _ h => h) (fun K hK => ?_)
    go_big_quiet_op
    refine hK _ ?_
    clear hK K
    refine pi_l 9 rfl (by kernel_rfl) (fun K hK => ?_)
    go_wp2_with (go_at_call 254; refine (Columns_c C h.ok lv key h.lo h.hi (by have := h.hi; have := h.ok.b2; omega) hk0 hk1 _).mono ?_; rintro e w1 ⟨v, rfl, ho, hx0⟩)
    refine hK _ _ (fun _ h => af_step h hx0) ?_
    clear hK K
    refine pi_t 10 rfl (by kernel_rfl) (by kernel_rfl) (fun _ _ _ _ h => h) (fun K hK => ?_)
    go_big_quiet_op
    refine hK _ ?_
    clear hK K
    refine pi_end (by kernel_rfl) ?_
    have hx : Ext w w1 := Ext.trans' (Below.drew (Ext.refl w)) hx0
    have hv := IntsAt.of_row ho
    have hne := own_ne ho (c := c) (by exact h.g.ltc)
    obtain ⟨vg, vo, vc, rfl, _⟩ := hv.slice (by rw [hm.len]; have := h.g.r1; omega)
    rw [hm.len] at hv hne ⊢
    clear ho hx0
    have HV := Lib.hid hv
    clear hv hne
    have hS := h.ext hx
    have c0' := (cell_of hS.ex 0).trans rfl
    clear c0 c1 c2 c3 c4 c5 c6
    go_wp2_with fail
    refine (Read_c b c R W l _ _ _ hS.g HV.out hm).mono ?_
    rintro e w2 ⟨v2, rfl, ho2, hx2⟩
    have hS2 := hS.ext hx2
    have c4' := (cell_of hS2.ex 4).trans rfl
    have c0'' := (cell_of hS2.ex 0).trans rfl
    clear ho2
    go_wp2_with fail
    refine (Least_c b c R W l _ _ _ hS2.g (HV.out.ext hx2) hm).mono ?_
    rintro e w3 ⟨x, rfl, hk, hx3⟩
    have hmin := kth0_min hk
    have hxI : I64 x := by
      have hmem : x ∈ readL W l (cols C lv key) := sameN_pos (by have := hk.1; have := hk.2; omega)
      simp only [readL, List.mem_map, List.mem_range] at hmem
      obtain ⟨j, _, rfl⟩ := hmem
      exact getD_i64 h.fit _
    have HM := Lib.hid hmin
    have hE : Ext w w3 := (hx.trans' hx2).trans' hx3
    clear hmin hk c0' c4' c0''
    by_cases hfit : I64 (x + d)
    · have fb := fitB_yes hfit
      go_wp2
      refine wp_loop_rounds 2 ?_
      rw [rounds_succ]
      go_wp2_with fail
      refine (Plus_c x d hxI hd _).mono ?_
      rintro e w4 ⟨rfl, hb4⟩
      go_wp2
      rw [rounds_succ]
      go_wp2
      go_ret
      exact ⟨by rw [HE.out, HM.out, fb]; rfl, by (repeat' (first | exact Ext.refl _ | assumption | apply Ext.allocR | apply Ext.drewR | apply Ext.drewNR | (refine Ext.trans' ?_ (by assumption))))⟩
    · have fb := fitB_no hfit
      go_wp2
      refine wp_loop_rounds 2 ?_
      rw [rounds_succ]
      go_wp2_with fail
      refine (Plus_c x d hxI hd _).mono ?_
      rintro e w4 ⟨rfl, hb4⟩
      go_wp2
      go_ret
      exact ⟨by rw [HE.out, HM.out, fb]; rfl, by (repeat' (first | exact Ext.refl _ | assumption | apply Ext.allocR | apply Ext.drewR | apply Ext.drewNR | (refine Ext.trans' ?_ (by assumption))))⟩
theorem Check_c (s b c : Nat) (C : Cfg) (lv : Int) (R W : Nat) (l : List Int) (key d : Int) (w : World) (h : SAt w s b c C lv R W l) (hd : I64 d) (hk0 : 0 ≤ key) :
    Calls Tryz.prog 250 #[.pointer (some ⟨s, 0, none⟩), .int .u64 key, .int .i64 d] w (CheckPost w C lv R W l key d) := by
  by_cases hk : key < keys C lv
  · by_cases hm : C.mode = 2
    · exact Check_con s b c C lv R W l key d w h hd hk0 hk hm
    · exact Check_sum s b c C lv R W l key d w h hd hk0 hk hm
  · exact Check_no s b c C lv R W l key d w h (by omega)
end Go.Proofs.YtfhdjekpdifajaaGreat

/- sketch.Update changes what its columns name, or nothing. -/
namespace Go.Proofs.YtfhdjekpdifajaaGreat
open Go.RowKit

/-- The cells behind an update that was not refused. -/
def updL (C : Cfg) (lv : Int) (R W : Nat) (l : List Int) (key d : Int) : List Int :=
  bif decide (C.mode = 2) then putK W (cols C lv key) (fun k => max (l.getD (at_ W (cols C lv key) k) 0) (minL (readL W l (cols C lv key)) + d)) R l
  else putK W (cols C lv key) (fun k => l.getD (at_ W (cols C lv key) k) 0 + d) R l
theorem mem_set {l : List Int} {i : Nat} {v x : Int} (h : x ∈ l.set i v) : x ∈ l ∨ x = v := by
  rcases List.mem_or_eq_of_mem_set h with h | h
  · exact .inl h
  · exact .inr h
theorem putK_mem {W : Nat} {cs : List Int} {f : Nat → Int} {l : List Int} {x : Int} : ∀ k, x ∈ putK W cs f k l → x ∈ l ∨ ∃ j, j < k ∧ x = f j := by
  intro k
  induction k with
  | zero => intro h; exact .inl h
  | succ k ih =>
    intro h
    rw [putK] at h
    rcases mem_set h with h | h
    · rcases ih h with h | ⟨j, hj, h⟩
      · exact .inl h
      · exact .inr ⟨j, by omega, h⟩
    · exact .inr ⟨k, by omega, h⟩
def UpdPost (w : World) (s b c : Nat) (C : Cfg) (lv : Int) (R W : Nat) (l : List Int) (key d : Int) (e : Ending) (w' : World) : Prop :=
  e = .returned (.int .i64 (errU C lv R W l key d)) ∧
    ((errU C lv R W l key d = 0 ∧ SAt w' s b c C lv R W (updL C lv R W l key d) ∧ Mod (fun k => k = c) w w') ∨ (errU C lv R W l key d ≠ 0 ∧ Ext w w'))
theorem errU_zero_key {C : Cfg} {lv : Int} {R W : Nat} {l : List Int} {key d : Int} (h : errU C lv R W l key d = 0) : key < keys C lv := by
  rcases Int.lt_or_le key (keys C lv) with h' | h'
  · exact h'
  · rw [errU_key h'] at h; cases h
set_option maxRecDepth 20000 in
set_option maxHeartbeats 2000000 in
theorem Update_c (s b c : Nat) (C : Cfg) (lv : Int) (R W : Nat) (l : List Int) (key d : Int) (w : World) (h : SAt w s b c C lv R W l) (hd : I64 d) (hk0 : 0 ≤ key) :
    Calls Tryz.prog 253 #[.pointer (some ⟨s, 0, none⟩), .int .u64 key, .int .i64 d] w (UpdPost w s b c C lv R W l key d) := by
  by_cases he0 : errU C lv R W l key d = 0
  · have hk1 := errU_zero_key he0
    have HE := Lib.hid he0
    clear he0
    have hW := h
    go_enter Tryz.func253, Tryz.ntmps253
    go_wp2_with fail
    refine (Check_c s b c C lv R W l key d _ h hd hk0).mono ?_
    rintro e w0 ⟨rfl, hx00⟩
    rw [HE.out]
    have h := h.ext hx00
    have hlt := h.lts
    have c0 := (cell_of h.ex 0).trans rfl
    have c1 := (cell_of h.ex 1).trans rfl
    have c2 := (cell_of h.ex 2).trans rfl
    have c3 := (cell_of h.ex 3).trans rfl
    have c4 := (cell_of h.ex 4).trans rfl
    have c5 := (cell_of h.ex 5).trans rfl
    have c6 := (cell_of h.ex 6).trans rfl
    have hm := cols_meets C h.ok lv key h.hr h.hw
    go_wp2
    have hC0 := af_drew w0
    refine pi_start (fun w' => ∃ x : After w0, w' = x.w) [] (by kernel_rfl) ?_
    refine pi_t 0 rfl (by kernel_rfl) (by kernel_rfl) (fun _ _ _ _ h => h) (fun K hK => ?_)
    go_big_quiet_op
    refine hK _ ?_
    clear hK K
    refine pi_t 1 rfl (by kernel_rfl) (by kernel_rfl) (fun _ _ _ _ h => h) (fun K hK => ?_)
    go_big_quiet_op
    refine hK _ ?_
    clear hK K
    refine pi_t 2 rfl (by kernel_rfl) (by kernel_rfl) (fun _ _ _ _ h => h) (fun K hK => ?_)
    go_big_quiet_op
    refine hK _ ?_
    clear hK K
    refine pi_c 3 (by assumption) rfl (by kernel_rfl) (by kernel_rfl) (fun _ _ _ _ h => h) (fun K hK => ?_)
    go_big_quiet_op
    refine hK _ ?_
    clear hK K
    refine pi_t 4 rfl (by kernel_rfl) (by kernel_rfl) (fun _ _ _ _ h => h) (fun K hK => ?_)
    go_big_quiet_op
    refine hK _ ?_
    clear hK K
    refine pi_t 5 rfl (by kernel_rfl) (by kernel_rfl) (fun _ _ _ _ h => h) (fun K hK => ?_)
    go_big_quiet_op
    refine hK _ ?_
    clear hK K
    refine pi_t 6 rfl (by kernel_rfl) (by kernel_rfl) (fun _ _ _ _ h => h) (fun K hK => ?_)
    go_big_quiet_op
    refine hK _ ?_
    clear hK K
    refine pi_c 7 (by assumption) rfl (by kernel_rfl) (by kernel_rfl) (fun _ _ _ _ h => h) (fun K hK => ?_)
    go_big_quiet_op
    refine hK _ ?_
    clear hK K
    refine pi_t 8 rfl (by kernel_rfl) (by kernel_rfl) (fun _ _ _ _ h => h) (fun K hK => ?_)
    go_big_quiet_op
    refine hK _ ?_
    clear hK K
    refine pi_l 9 rfl (by kernel_rfl) (fun K hK => ?_)
    go_wp2_with (go_at_call 254; refine (Columns_c C h.ok lv key h.lo h.hi (by have := h.hi; have := h.ok.b2; omega) hk0 hk1 _).mono ?_; rintro e w1 ⟨v, rfl, ho, hx0⟩)
    refine hK _ _ (fun _ h => af_step h hx0) ?_
    clear hK K
    refine pi_t 10 rfl (by kernel_rfl) (by kernel_rfl) (fun _ _ _ _ h => h) (fun K hK => ?_)
    go_big_quiet_op
    refine hK _ ?_
    clear hK K
    refine pi_end (by kernel_rfl) ?_
    have hx : Ext w0 w1 := Ext.trans' (Below.drew (Ext.refl w0)) hx0
    have hv := IntsAt.of_row ho
    have hne := own_ne ho (c := c) (by exact h.g.ltc)
    obtain ⟨vg, vo, vc, rfl, _⟩ := hv.slice (by rw [hm.len]; have := h.g.r1; omega)
    rw [hm.len] at hv hne ⊢
    clear ho hx0
    have HV := Lib.hid hv
    have HN := Lib.hid hne
    clear hv hne
    have hS := h.ext hx
    have c0' := (cell_of hS.ex 0).trans rfl
    have c4' := (cell_of hS.ex 4).trans rfl
    have hE : Ext w w1 := hx00.trans' hx
    clear c0 c1 c2 c3 c4 c5 c6
    by_cases hmode : C.mode = 2
    · have hmb : (C.mode == 2) = true := by simp [hmode]
      have HM := Lib.hid hmode
      clear hmode
      go_wp2_with fail
      refine (Raise_c b c R W l _ _ d _ hS.g h.fit hd HV.out hm HN.out).mono ?_
      intro e w2 hr
      have hz := HE.out
      rcases hr with ⟨hdn, _⟩ | ⟨x, hk, hdn, ⟨hf, rfl, hG, hM2⟩ | ⟨hf, _⟩⟩
      · rw [errU_neg hk1 HM.out hdn] at hz; cases hz
      · have hmin := kth0_min hk
        go_wp2
        go_ret
        refine ⟨by rw [HE.out]; rfl, .inl ⟨HE.out, ?_, (hE.mod _).trans hM2⟩⟩
        have e1 : updL C lv R W l key d = putK W (cols C lv key) (fun k => max (l.getD (at_ W (cols C lv key) k) 0) (x + d)) R l := by
          unfold updL; rw [decide_eq_true HM.out, hmin]; rfl
        rw [e1]
        refine ⟨by rw [hM2.block s hS.lts hS.nes]; exact hS.ex, hG, h.ok, h.lo, h.hi, h.hr, h.hw, fun z hz => ?_⟩
        rcases putK_mem R hz with h1 | ⟨j, _, rfl⟩
        · exact h.fit z h1
        · have := getD_i64 h.fit (at_ W (cols C lv key) j)
          unfold I64 at *; omega
      · rw [errU_con hk1 HM.out (by omega), kth0_min hk, fitB_no hf] at hz; cases hz
    · have hmb : (C.mode == 2) = false := by simp [hmode]
      have HM := Lib.hid hmode
      clear hmode
      go_wp2_with fail
      refine (Change_c b c R W l _ _ d _ hS.g h.fit hd HV.out hm HN.out).mono ?_
      intro e w2 hr
      have hz := HE.out
      rcases hr with ⟨hf, rfl, hG, hM2⟩ | ⟨hf, _⟩
      · go_wp2
        go_ret
        refine ⟨by rw [HE.out]; rfl, .inl ⟨HE.out, ?_, (hE.mod _).trans hM2⟩⟩
        have e1 : updL C lv R W l key d = putK W (cols C lv key) (fun k => l.getD (at_ W (cols C lv key) k) 0 + d) R l := by
          unfold updL; rw [decide_eq_false HM.out]; rfl
        rw [e1]
        refine ⟨by rw [hM2.block s hS.lts hS.nes]; exact hS.ex, hG, h.ok, h.lo, h.hi, h.hr, h.hw, fun z hz => ?_⟩
        rcases putK_mem R hz with h1 | ⟨j, hj, rfl⟩
        · exact h.fit z h1
        · exact hf j hj
      · rw [errU_sum hk1 HM.out, show allFit W (cols C lv key) l d R = false from Bool.eq_false_iff.2 (fun hA => hf (allFit_iff.1 hA))] at hz; cases hz
  · have hb : (errU C lv R W l key d == 0) = false := by simpa using he0
    go_enter Tryz.func253, Tryz.ntmps253
    go_wp2_with fail
    refine (Check_c s b c C lv R W l key d _ h hd hk0).mono ?_
    rintro e w0 ⟨rfl, hx00⟩
    go_wp2
    go_ret
    exact ⟨rfl, .inr ⟨he0, hx00⟩⟩
end Go.Proofs.YtfhdjekpdifajaaGreat

/- Small calls of the references and of sketch: Cells, Level, Config, Same, Right, Keys, Any, Cut. -/
namespace Go.Proofs.YtfhdjekpdifajaaGreat
open Go.RowKit

set_option maxHeartbeats 1000000 in
theorem SCells_c (s b c : Nat) (C : Cfg) (lv : Int) (R W : Nat) (l : List Int) (w : World) (h : SAt w s b c C lv R W l) :
    Calls Tryz.prog 170 #[.pointer (some ⟨s, 0, none⟩)] w fun e w' => ∃ v, e = .returned v ∧ w'.ownsRow w.heap.size 2 1 v l.length (ints l) ∧ (v = .slice none 0 0 → False) ∧ Ext w w' := by
  have c0 := (cell_of h.ex 0).trans rfl
  go_enter Tryz.func170, Tryz.ntmps170
  go_wp2_with fail
  refine (GCells_c b c R W l _ h.g).mono ?_
  rintro e w1 ⟨v, rfl, h1, h2, h3⟩
  go_wp2
  go_ret
  exact ⟨v, rfl, h1, h2, h3⟩
set_option maxHeartbeats 1000000 in
theorem SLevel_c (s b c : Nat) (C : Cfg) (lv : Int) (R W : Nat) (l : List Int) (w : World) (h : SAt w s b c C lv R W l) :
    Calls Tryz.prog 169 #[.pointer (some ⟨s, 0, none⟩)] w fun e w' => e = .returned (.int .i64 lv) ∧ w = w' := by
  have c6 := (cell_of h.ex 6).trans rfl
  go_enter Tryz.func169, Tryz.ntmps169
  go_wp2
  go_ret
  exact ⟨rfl, rfl⟩
set_option maxHeartbeats 1000000 in
theorem SConfig_c (s b c : Nat) (C : Cfg) (lv : Int) (R W : Nat) (l : List Int) (w : World) (h : SAt w s b c C lv R W l) :
    Calls Tryz.prog 168 #[.pointer (some ⟨s, 0, none⟩)] w fun e w' => e = .returned (.agg #[.int .i64 C.bits, .int .i64 C.rows, .int .i64 C.width, .int .i64 C.mode, .int .u64 C.seed]) ∧ Ext w w' := by
  have hlt := h.lts
  have c1 := (cell_of h.ex 1).trans rfl
  have c2 := (cell_of h.ex 2).trans rfl
  have c3 := (cell_of h.ex 3).trans rfl
  have c4 := (cell_of h.ex 4).trans rfl
  have c5 := (cell_of h.ex 5).trans rfl
  go_enter Tryz.func168, Tryz.ntmps168
  go_wp2
  exact bodyPost_ret (v := .agg #[.int .i64 C.bits, .int .i64 C.rows, .int .i64 C.width, .int .i64 C.mode, .int .u64 C.seed]) (by simp [results, Tryz.results168, go_sem]) rfl ⟨rfl, by (repeat' (first | exact Ext.refl _ | assumption | apply Ext.allocR | apply Ext.drewR | apply Ext.drewNR | (refine Ext.trans' ?_ (by assumption))))⟩
theorem getD_ext {l m : List Int} (h : l.length = m.length) (hg : ∀ k, k < l.length → l.getD k 0 = m.getD k 0) : l = m := by
  apply List.ext_getElem h
  intro i h1 h2
  have := hg i h1
  simpa [h1, h2] using this
set_option maxRecDepth 20000 in
set_option maxHeartbeats 2000000 in
theorem Same_c (v1 v2 : Value) (l m : List Int) (w : World) (h1 : IntsAt w v1 l) (h2 : IntsAt w v2 m) (hl : l.length ≤ 1000000) (hm : m.length ≤ 1000000) :
    Calls Tryz.prog 47 #[v1, v2] w fun e w' => e = .returned (.bool (decide (l = m))) ∧ Ext w w' := by
  have hs1 : ∃ p c, v1 = .slice p l.length c := by
    rcases h1 with ⟨rfl, rfl⟩ | ⟨g, off, cap, rfl, _⟩
    · exact ⟨_, _, rfl⟩
    · exact ⟨_, _, rfl⟩
  have hs2 : ∃ p c, v2 = .slice p m.length c := by
    rcases h2 with ⟨rfl, rfl⟩ | ⟨g, off, cap, rfl, _⟩
    · exact ⟨_, _, rfl⟩
    · exact ⟨_, _, rfl⟩
  by_cases hlen : l.length = m.length
  · by_cases h0 : l.length = 0
    · have e1 : l = [] := List.length_eq_zero_iff.1 h0
      have e2 : m = [] := List.length_eq_zero_iff.1 (by omega)
      subst e1 e2
      obtain ⟨p1, c1, rfl⟩ := hs1
      obtain ⟨p2, c2, rfl⟩ := hs2
      clear h1 h2 hlen h0
      go_enter Tryz.func47, Tryz.ntmps47
      go_wp2
      refine wp_loop_rounds 1 ?_
      rw [rounds_succ]
      go_wp2
      go_ret
      exact ⟨rfl, Ext.refl _⟩
    · obtain ⟨g1, o1, cap1, rfl, hg1, hc1⟩ := h1.slice (by omega)
      obtain ⟨g2, o2, cap2, rfl, hg2, hc2⟩ := h2.slice (by omega)
      have HC1 := Lib.hid hc1
      have HC2 := Lib.hid hc2
      rw [← hlen] at hm ⊢
      have HL := Lib.hid hlen
      generalize hn : l.length = n at *
      have HN := Lib.hid hn
      clear hs1 hs2 h1 h2 hc1 hc2 hlen hn h0
      go_enter Tryz.func47, Tryz.ntmps47
      go_wp2
      go_loopw [5] (fun u wr => ∃ k : Nat, k ≤ n ∧ u = .int .i64 k ∧ Ext w wr ∧ ∀ j, j < k → l.getD j 0 = m.getD j 0) (fun u _ => n - (intOf u).toNat)
      case atStart => exact ⟨0, Nat.zero_le _, rfl, Ext.refl _, fun j hj => absurd hj (Nat.not_lt_zero _)⟩
      case round =>
        obtain ⟨k, hk, rfl, hx, hall⟩ := hrel
        have HA := Lib.hid hall
        clear hall
        by_cases hlt : k < n
        · have d1 := ((bcell hx).1 g1 (o1 + k) hg1).trans (HC1.out k hlt)
          have d2 := ((bcell hx).1 g2 (o2 + k) hg2).trans (HC2.out k (by rw [← HL.out]; exact hlt))
          obtain ⟨x, hx1⟩ : ∃ x, l.getD k 0 = x := ⟨_, rfl⟩
          obtain ⟨y, hy1⟩ : ∃ y, m.getD k 0 = y := ⟨_, rfl⟩
          rw [hx1] at d1
          rw [hy1] at d2
          have HX := Lib.hid hx1
          have HY := Lib.hid hy1
          clear hx1 hy1
          have l1 : g1 < wr.heap.size := Nat.lt_of_lt_of_le hg1 hx.size
          have l2 : g2 < wr.heap.size := Nat.lt_of_lt_of_le hg2 hx.size
          by_cases hxy : x = y
          · subst hxy
            go_wp2
            refine wp_region_after (by kernel_rfl) (by kernel_rfl) ?_
            repeat (go_big_quiet_step (fail))
            refine wpQuiet_nil ?_
            rintro _ ⟨xx, rfl⟩
            obtain ⟨w1, hb1⟩ := xx
            try dsimp only
            go_wp2
            go_roundw
            case rel =>
              refine ⟨k + 1, by omega, by go_num, hx.trans' hb1, fun j hj => ?_⟩
              rcases Nat.lt_or_eq_of_le (Nat.le_of_lt_succ hj) with h' | rfl
              · exact HA.out j h'
              · rw [HX.out, HY.out]
            case measure => simp [intOf]; omega
          · have hb : (x == y) = false := by simpa using hxy
            go_wp2
            refine wp_region_after (by kernel_rfl) (by kernel_rfl) ?_
            repeat (go_big_quiet_step (fail))
            refine wpQuiet_nil ?_
            rintro _ ⟨xx, rfl⟩
            obtain ⟨w1, hb1⟩ := xx
            try dsimp only
            go_wp2
            go_ret
            refine ⟨ret_bool ?_, hx.trans' hb1⟩
            symm
            exact decide_eq_false fun e => hxy (by rw [← HX.out, ← HY.out, e])
        · go_wp2
          go_ret
          refine ⟨ret_bool ?_, hx⟩
          symm
          exact decide_eq_true (getD_ext (by rw [HN.out, HL.out]) (fun j hj => HA.out j (by rw [HN.out] at hj; omega)))
  · obtain ⟨p1, c1, rfl⟩ := hs1
    obtain ⟨p2, c2, rfl⟩ := hs2
    have hne : l ≠ m := fun e => hlen (by rw [e])
    have HNE := Lib.hid hne
    have hb : ((l.length : Int) == (m.length : Int)) = false := by simp; omega
    have hb2 : (l.length == m.length) = false := by simp; omega
    clear h1 h2 hne
    generalize l.length = a at *
    generalize m.length = b at *
    go_enter Tryz.func47, Tryz.ntmps47
    go_wp2
    go_ret
    exact ⟨ret_bool (decide_eq_false HNE.out).symm, Ext.refl _⟩
theorem and16 (x : Int) : bits BinOp.and IntKind.i64 x 65535 = x % 65536 := by
  show IntKind.i64.wrap ((BitVec.ofInt 64 x &&& BitVec.ofInt 64 65535).toNat : Int) = _
  have e1 : (BitVec.ofInt 64 (65535 : Int)).toNat = 2 ^ 16 - 1 := by decide
  rw [BitVec.toNat_and, e1, Nat.and_two_pow_sub_one_eq_mod, BitVec.toNat_ofInt, IntKind.wrap_i64]
  have : (x % ((2 ^ 64 : Nat) : Int)).toNat % 2 ^ 16 < 65536 := Nat.mod_lt _ (by decide)
  omega
end Go.Proofs.YtfhdjekpdifajaaGreat

/- The references' Right, Keys, Any, Cut. -/
namespace Go.Proofs.YtfhdjekpdifajaaGreat
set_option linter.unusedVariables false
open Go.RowKit

set_option maxRecDepth 20000 in
set_option maxHeartbeats 2000000 in
theorem RightR_c (c : Cfg) (h : c.Ok) (w : World) :
    Calls Tryz.prog 142 #[.agg #[.int .i64 c.bits, .int .i64 c.rows, .int .i64 c.width, .int .i64 c.mode, .int .u64 c.seed]] w fun e w' => e = .returned (.bool true) ∧ Ext w w' := by
  obtain ⟨b1, b2, r1, r2, w1, w2, m1, m2, s⟩ := h
  have g1 : decide (1 ≤ c.bits) = true := by simp; omega
  have g2 : decide (c.bits ≤ 59) = true := by simp; omega
  have g3 : decide (1 ≤ c.rows) = true := by simp; omega
  have g4 : decide (c.rows ≤ 8) = true := by simp; omega
  have g5 : decide (1 ≤ c.width) = true := by simp; omega
  have g6 : decide (c.width ≤ 128) = true := by simp; omega
  have hm : c.mode = 1 ∨ c.mode = 2 ∨ c.mode = 3 := by omega
  rcases hm with hm | hm | hm
  · have k1 : (c.mode == 1) = true := by simp [hm]
    have HM := Lib.hid hm
    clear hm m1 m2
    go_enter Tryz.func142, Tryz.ntmps142
    go_wp2
    go_ret
    exact ⟨rfl, by (repeat' (first | exact Ext.refl _ | assumption | apply Ext.allocR | apply Ext.drewR | apply Ext.drewNR | (refine Ext.trans' ?_ (by assumption))))⟩
  · have k1 : (c.mode == 1) = false := by simp [hm]
    have k2 : (c.mode == 2) = true := by simp [hm]
    have HM := Lib.hid hm
    clear hm m1 m2
    go_enter Tryz.func142, Tryz.ntmps142
    go_wp2
    go_ret
    exact ⟨rfl, by (repeat' (first | exact Ext.refl _ | assumption | apply Ext.allocR | apply Ext.drewR | apply Ext.drewNR | (refine Ext.trans' ?_ (by assumption))))⟩
  · have k1 : (c.mode == 1) = false := by simp [hm]
    have k2 : (c.mode == 2) = false := by simp [hm]
    have k3 : (c.mode == 3) = true := by simp [hm]
    have HM := Lib.hid hm
    clear hm m1 m2
    go_enter Tryz.func142, Tryz.ntmps142
    go_wp2
    go_ret
    exact ⟨rfl, by (repeat' (first | exact Ext.refl _ | assumption | apply Ext.allocR | apply Ext.drewR | apply Ext.drewNR | (refine Ext.trans' ?_ (by assumption))))⟩
theorem keys_step (c : Cfg) (l : Int) (k : Nat) (h : (k : Int) < c.bits - l) : (2 : Int) ^ k * 2 = (2 : Int) ^ (k + 1) := by rw [Int.pow_succ]
set_option maxRecDepth 20000 in
set_option maxHeartbeats 2000000 in
theorem KeysR_c (c : Cfg) (h : c.Ok) (l : Int) (h0 : 0 ≤ l) (h1 : l ≤ c.bits) (w : World) :
    Calls Tryz.prog 79 #[.agg #[.int .i64 c.bits, .int .i64 c.rows, .int .i64 c.width, .int .i64 c.mode, .int .u64 c.seed], .int .i64 l] w fun e w' => e = .returned (.int .u64 (keys c l)) ∧ Ext w w' := by
  have hk := h
  obtain ⟨b1, b2, _, _, _, _, _, _, _⟩ := h
  have g1 : decide (l < 0) = false := by simp; omega
  have g2 : decide (c.bits < l) = false := by simp; omega
  go_enter Tryz.func79, Tryz.ntmps79
  go_wp2_with fail
  refine (RightR_c c hk _).mono ?_
  rintro e w1 ⟨rfl, hb⟩
  have d0 : w1.cell? ⟨w.heap.size, 0, none⟩ = some (.int .i64 c.bits) := by rw [(bcell hb).1 _ _ (by simp [go_sem])]; simp [go_sem]
  have hE : Ext w w1 := by (repeat' (first | exact Ext.refl _ | assumption | apply Ext.allocR | apply Ext.drewR | apply Ext.drewNR | (refine Ext.trans' ?_ (by assumption))))
  clear hb
  go_wp2
  go_loop [5, 6] (fun p u => ∃ (k : Nat) (q : Int), (k : Int) ≤ c.bits - l ∧ u = .int .i64 (l + k) ∧ p = .int .u64 q ∧ q = (2 : Int) ^ k) (fun _ u => (c.bits - intOf u).toNat)
  case atStart => exact ⟨0, 1, by omega, by simp, rfl, rfl⟩
  case round =>
    obtain ⟨k, q, hk1, rfl, rfl, hq⟩ := hrel
    have hpb := pow_bd k (by omega)
    rw [← hq] at hpb
    obtain ⟨p1, p2⟩ := hpb
    have HQ := Lib.hid hq
    clear hq
    by_cases hlt : l + (k : Int) < c.bits
    · go_wp2
      go_round
      case rel => exact ⟨k + 1, q * 2, by omega, by congr 1; omega, rfl, by rw [HQ.out, Int.pow_succ]⟩
      case measure => simp [intOf]; omega
    · go_wp2
      go_ret
      refine ⟨ret_int ?_, hE⟩
      rw [HQ.out]
      unfold keys
      rw [show (c.bits - l).toNat = k by omega]
theorem set2 {w : World} {b : Nat} {x y : Value} {t : TypeId} (h : w.heap[b]? = some (.cells #[x, y] t (0, 0))) (u v : Value) : ((w.setCell ⟨b, 0, none⟩ u).setCell ⟨b, 1, none⟩ v).heap[b]? = some (.cells #[u, v] t (0, 0)) := by
  rw [setCell_same (setCell_same h 0 u) 1 v]; rfl
theorem set2_0 {w : World} {b : Nat} {x y : Value} {t : TypeId} (h : w.heap[b]? = some (.cells #[x, y] t (0, 0))) (u : Value) : (w.setCell ⟨b, 0, none⟩ u).cell? ⟨b, 0, none⟩ = some u := (cell_of (setCell_same h 0 u) 0).trans rfl
theorem set2_1 {w : World} {b : Nat} {x y : Value} {t : TypeId} (h : w.heap[b]? = some (.cells #[x, y] t (0, 0))) (u v : Value) : ((w.setCell ⟨b, 0, none⟩ u).setCell ⟨b, 1, none⟩ v).cell? ⟨b, 1, none⟩ = some v := (cell_of (set2 h u v) 1).trans rfl
/-- An update, cut. -/
def cutK (c : Cfg) (l key : Int) : Int := key % keys c l
def cutD (m d : Int) : Int := bif decide (m = 2) then max (d.tmod 1099511627776) (-(d.tmod 1099511627776)) else d.tmod 1099511627776
theorem tmod_bd (d : Int) : -1099511627776 < d.tmod 1099511627776 ∧ d.tmod 1099511627776 < 1099511627776 := ⟨Int.lt_tmod_of_pos d (by decide), Int.tmod_lt_of_pos d (by decide)⟩
theorem cutD_bd (m d : Int) : -1099511627776 < cutD m d ∧ cutD m d < 1099511627776 := by
  have := tmod_bd d
  unfold cutD
  cases decide (m = 2)
  · exact this
  · show _ < max _ _ ∧ max _ _ < _
    omega
theorem cutK_bd (c : Cfg) (h : c.Ok) (l key : Int) (h0 : 0 ≤ l) : 0 ≤ cutK c l key ∧ cutK c l key < keys c l := by
  have := keys_bd c h l h0
  exact ⟨Int.emod_nonneg _ (by omega), Int.emod_lt_of_pos _ (by omega)⟩
end Go.Proofs.YtfhdjekpdifajaaGreat

/- The reference's Any makes a right config of anything; the law's cut. -/
namespace Go.Proofs.YtfhdjekpdifajaaGreat
set_option linter.unusedVariables false
open Go.RowKit

def mkC (x : Cfg) (nb nw : Int) : Cfg := ⟨1 + x.bits % 65536 % nb, 1 + x.rows % 4, 1 + x.width % 65536 % nw, 1 + x.mode % 65536 % 3, x.seed⟩
theorem mkC_ok (x : Cfg) (hs : U64 x.seed) {nb nw : Int} (h1 : 1 ≤ nb) (h2 : nb ≤ 20) (h3 : 1 ≤ nw) (h4 : nw ≤ 20) : (mkC x nb nw).Ok := by
  have a1 := Int.emod_nonneg (x.bits % 65536) (show nb ≠ 0 by omega)
  have a2 := Int.emod_lt_of_pos (x.bits % 65536) (show 0 < nb by omega)
  have a3 := Int.emod_nonneg (x.width % 65536) (show nw ≠ 0 by omega)
  have a4 := Int.emod_lt_of_pos (x.width % 65536) (show 0 < nw by omega)
  constructor <;> simp only [mkC] <;> first | exact hs | omega
theorem fin5 {Φ : World → Prop} {w W : World} {b : Nat} {x0 x1 x2 x3 x4 : Value} {t : TypeId} (h : W.heap[b]? = some (.cells #[x0, x1, x2, x3, x4] t (0, 0))) (hE : Ext w W) (hb : w.heap.size ≤ b) {u0 u1 u2 u3 u4 : Value}
    (k : ∀ Wf, Wf.heap[b]? = some (.cells #[u0, u1, u2, u3, u4] t (0, 0)) → Ext w Wf → (∀ j, j ≠ b → Wf.heap[j]? = W.heap[j]?) → Wf.heap.size = W.heap.size → Φ Wf) :
    Φ (((((W.setCell ⟨b, 0, none⟩ u0).setCell ⟨b, 1, none⟩ u1).setCell ⟨b, 2, none⟩ u2).setCell ⟨b, 3, none⟩ u3).setCell ⟨b, 4, none⟩ u4) := by
  refine k _ ?_ (((((hE.setR hb _).setR hb _).setR hb _).setR hb _).setR hb _) (fun j hj => ?_) (by simp only [size_setCell])
  · rw [setCell_same (setCell_same (setCell_same (setCell_same (setCell_same h 0 u0) 1 u1) 2 u2) 3 u3) 4 u4]; rfl
  · rw [setCell_other _ _ hj, setCell_other _ _ hj, setCell_other _ _ hj, setCell_other _ _ hj, setCell_other _ _ hj]
theorem fin2 {Φ : World → Prop} {w W : World} {b : Nat} {x0 x1 : Value} {t : TypeId} (h : W.heap[b]? = some (.cells #[x0, x1] t (0, 0))) (hE : Ext w W) (hb : w.heap.size ≤ b) {u0 u1 : Value}
    (k : ∀ Wf, Wf.heap[b]? = some (.cells #[u0, u1] t (0, 0)) → Ext w Wf → (∀ j, j ≠ b → Wf.heap[j]? = W.heap[j]?) → Wf.heap.size = W.heap.size → Φ Wf) :
    Φ ((W.setCell ⟨b, 0, none⟩ u0).setCell ⟨b, 1, none⟩ u1) := by
  refine k _ (set2 h u0 u1) ((hE.setR hb _).setR hb _) (fun j hj => ?_) (by simp only [size_setCell])
  rw [setCell_other _ _ hj, setCell_other _ _ hj]
set_option maxRecDepth 20000 in
set_option maxHeartbeats 2000000 in
theorem Any_c (x : Cfg) (hx : x.Raw) (nb nw : Int) (h1 : 1 ≤ nb) (h2 : nb ≤ 20) (h3 : 1 ≤ nw) (h4 : nw ≤ 20) (w : World) :
    Calls Tryz.prog 15 #[.agg #[.int .i64 x.bits, .int .i64 x.rows, .int .i64 x.width, .int .i64 x.mode, .int .u64 x.seed], .int .i64 nb, .int .i64 nw] w fun e w' =>
      e = .returned (.agg #[.int .i64 (mkC x nb nw).bits, .int .i64 (mkC x nb nw).rows, .int .i64 (mkC x nb nw).width, .int .i64 (mkC x nb nw).mode, .int .u64 (mkC x nb nw).seed]) ∧ Ext w w' := by
  have hb := and16 x.bits
  have hr := and16 x.rows
  have hw := and16 x.width
  have hm := and16 x.mode
  have a1 := Int.emod_nonneg (x.bits % 65536) (show nb ≠ 0 by omega)
  have a2 := Int.emod_lt_of_pos (x.bits % 65536) (show 0 < nb by omega)
  have a3 := Int.emod_nonneg (x.width % 65536) (show nw ≠ 0 by omega)
  have a4 := Int.emod_lt_of_pos (x.width % 65536) (show 0 < nw by omega)
  have z1 : (nb == 0) = false := by simp; omega
  have z2 : (nw == 0) = false := by simp; omega
  go_enter Tryz.func15, Tryz.ntmps15
  go_wp2
  refine wp_region_after_tail 25 (by kernel_rfl) (by kernel_rfl) ?_
  simp only [List.take_succ_cons, List.take_zero, List.drop_succ_cons, List.drop_zero]
  repeat (go_big_quiet_step (fail))
  refine wpQuiet_nil ?_
  rintro _ ⟨xx, rfl⟩
  obtain ⟨w1, hb1⟩ := xx
  try dsimp only
  have hs := hb1.size
  simp only [size_alloc] at hs
  have hcell : w1.heap[w.heap.size + 1]? = some (.cells #[.int .i64 0, .int .i64 0, .int .i64 0, .int .i64 0, .int .u64 0] 24 (0, 0)) := by
    rw [hb1.block _ (by simp only [size_alloc]; omega)]
    exact heap_at _ _ (by simp only [size_alloc])
  have p0 := (cell_of hcell 0).trans rfl
  have p1 := (cell_of hcell 1).trans rfl
  have p2 := (cell_of hcell 2).trans rfl
  have p3 := (cell_of hcell 3).trans rfl
  have p4 := (cell_of hcell 4).trans rfl
  have f0 := frozen_of hcell 0
  have f1 := frozen_of hcell 1
  have f2 := frozen_of hcell 2
  have f3 := frozen_of hcell 3
  have f4 := frozen_of hcell 4
  have hE : Ext w w1 := by (repeat' (first | exact Ext.refl _ | assumption | apply Ext.allocR | apply Ext.drewR | apply Ext.drewNR | (refine Ext.trans' ?_ (by assumption))))
  clear hb1
  go_wp2
  refine fin5 (Φ := fun W' => bodyPost _ _ _ _ _ W') hcell hE (by omega) ?_
  intro Wf hf hE2 _ _
  have q0 := (cell_of hf 0).trans rfl
  have q1 := (cell_of hf 1).trans rfl
  have q2 := (cell_of hf 2).trans rfl
  have q3 := (cell_of hf 3).trans rfl
  have q4 := (cell_of hf 4).trans rfl
  exact bodyPost_ret (v := .agg #[.int .i64 (1 + x.bits % 65536 % nb), .int .i64 (1 + x.rows % 4), .int .i64 (1 + x.width % 65536 % nw), .int .i64 (1 + x.mode % 65536 % 3), .int .u64 x.seed]) (by simp [results, Tryz.results15, go_sem, q0, q1, q2, q3, q4]) rfl ⟨rfl, hE2⟩
end Go.Proofs.YtfhdjekpdifajaaGreat

/- Plain law: small updates made to a sketch of noughts are never refused. -/
namespace Go.Proofs.YtfhdjekpdifajaaGreat
set_option linter.unusedVariables false
open Go.RowKit

def Bnd (B : Int) (l : List Int) : Prop := ∀ x ∈ l, -B ≤ x ∧ x ≤ B
theorem Bnd.getD {B : Int} {l : List Int} (h : Bnd B l) (hB : 0 ≤ B) (k : Nat) : -B ≤ l.getD k 0 ∧ l.getD k 0 ≤ B := by
  rcases Nat.lt_or_ge k l.length with h' | h'
  · exact h _ (getD_mem h')
  · rw [show l.getD k 0 = 0 by simp [h']]; omega
theorem Bnd.readL {B : Int} {l : List Int} (h : Bnd B l) (hB : 0 ≤ B) (W : Nat) (cs : List Int) : Bnd B (readL W l cs) := by
  intro x hx
  simp only [Go.Proofs.YtfhdjekpdifajaaGreat.readL, List.mem_map, List.mem_range] at hx
  obtain ⟨j, _, rfl⟩ := hx
  exact h.getD hB _
theorem Bnd.minL {B : Int} {l : List Int} (h : Bnd B l) (hB : 0 ≤ B) : -B ≤ minL l ∧ Go.Proofs.YtfhdjekpdifajaaGreat.minL l ≤ B := by
  by_cases he : l = []
  · subst he; simp [Go.Proofs.YtfhdjekpdifajaaGreat.minL]; omega
  · exact h _ (minL_spec l he).1
theorem upd_bnd {C : Cfg} {lv : Int} {R W : Nat} {l : List Int} {key d B T : Int} (h : Bnd B l) (hB : 0 ≤ B) (hT : 0 ≤ T) (hd : -T ≤ d ∧ d ≤ T) : Bnd (B + T) (updL C lv R W l key d) := by
  intro x hx
  unfold updL at hx
  cases hm : decide (C.mode = 2) with
  | true =>
    rw [hm] at hx
    rcases putK_mem R hx with h1 | ⟨j, _, rfl⟩
    · have := h x h1; omega
    · have h2 := h.getD hB (at_ W (cols C lv key) j)
      have h3 := (h.readL hB W (cols C lv key)).minL hB
      omega
  | false =>
    rw [hm] at hx
    rcases putK_mem R hx with h1 | ⟨j, _, rfl⟩
    · have := h x h1; omega
    · have h2 := h.getD hB (at_ W (cols C lv key) j)
      omega
theorem upd_ok {C : Cfg} {lv : Int} {R W : Nat} {l : List Int} {key d B T : Int} (h : Bnd B l) (hB : 0 ≤ B) (hT : 0 ≤ T) (hd : -T ≤ d ∧ d ≤ T) (hs : B + T ≤ 4611686018427387904) (hk : key < keys C lv) (hm : C.mode = 2 → 0 ≤ d) : errU C lv R W l key d = 0 := by
  by_cases hmode : C.mode = 2
  · have hd0 := hm hmode
    have h3 := (h.readL hB W (cols C lv key)).minL hB
    rw [errU_con hk hmode (by omega), fitB_yes (by unfold I64; omega)]; rfl
  · rw [errU_sum hk hmode, allFit_iff.2]
    · rfl
    · intro k _
      have h2 := h.getD hB (at_ W (cols C lv key) k)
      unfold I64; omega
/-- Updates, cut, made one after the other. -/
def feed (C : Cfg) (lv : Int) (R W : Nat) (us : List (Int × Int)) (l : List Int) : List Int := us.foldl (fun l u => updL C lv R W l (cutK C lv u.1) (cutD C.mode u.2)) l
theorem feed_snoc (C : Cfg) (lv : Int) (R W : Nat) (us : List (Int × Int)) (u : Int × Int) (l : List Int) : feed C lv R W (us ++ [u]) l = updL C lv R W (feed C lv R W us l) (cutK C lv u.1) (cutD C.mode u.2) := by
  unfold feed; rw [List.foldl_append]; rfl
theorem feed_bnd (C : Cfg) (lv : Int) (R W : Nat) (us : List (Int × Int)) : Bnd (us.length * 1099511627776) (feed C lv R W us (zs (R * W))) := by
  have key : ∀ (us : List (Int × Int)) (l : List Int) (B : Int), 0 ≤ B → Bnd B l → Bnd (B + us.length * 1099511627776) (feed C lv R W us l) := by
    intro us
    induction us with
    | nil => intro l B _ h; simpa [feed] using h
    | cons u us ih =>
      intro l B hB h
      have h1 := upd_bnd (C := C) (lv := lv) (R := R) (W := W) (key := cutK C lv u.1) h hB (show (0 : Int) ≤ 1099511627776 by decide) (d := cutD C.mode u.2) (by have := cutD_bd C.mode u.2; omega)
      have h2 := ih _ (B + 1099511627776) (by omega) h1
      have e : B + ((u :: us).length : Int) * 1099511627776 = B + 1099511627776 + us.length * 1099511627776 := by
        rw [List.length_cons]; push_cast; omega
      rw [e]
      exact h2
  have h0 : Bnd 0 (zs (R * W)) := by
    intro x hx
    simp only [zs, List.mem_replicate] at hx
    omega
  have := key us _ 0 (Int.le_refl _) h0
  rwa [Int.zero_add] at this
theorem cutD_nn {m d : Int} (h : m = 2) : 0 ≤ cutD m d := by
  unfold cutD; rw [decide_eq_true h]; show 0 ≤ max _ _; omega
theorem feed_ok (C : Cfg) (hok : C.Ok) (lv : Int) (hlv : 0 ≤ lv) (R W : Nat) (us : List (Int × Int)) (hl : us.length ≤ 1000) (u : Int × Int) :
    errU C lv R W (feed C lv R W us (zs (R * W))) (cutK C lv u.1) (cutD C.mode u.2) = 0 := by
  refine upd_ok (feed_bnd C lv R W us) (by omega) (show (0 : Int) ≤ 1099511627776 by decide) (by have := cutD_bd C.mode u.2; omega) (by omega) (cutK_bd C hok lv u.1 hlv).2 (fun h => cutD_nn h)
/-- A slice of updates that can be read. -/
def UpsAt (w : World) (v : Value) (us : List (Int × Int)) : Prop :=
  ((∃ p, v = .slice p 0 0) ∧ us = []) ∨ ∃ g off cap, v = .slice (some ⟨g, off, none⟩) us.length cap ∧ g < w.heap.size ∧
    ∀ k, k < us.length → w.cell? ⟨g, off + k * 2, none⟩ = some (.int .u64 (us.getD k (0, 0)).1) ∧ w.cell? ⟨g, off + k * 2 + 1, none⟩ = some (.int .i64 (us.getD k (0, 0)).2)
def UpsOk (us : List (Int × Int)) : Prop := ∀ u ∈ us, U64 u.1 ∧ I64 u.2
end Go.Proofs.YtfhdjekpdifajaaGreat

/- Plain laws on the updates from one on to another. -/
namespace Go.Proofs.YtfhdjekpdifajaaGreat

/-- The updates from one on to another. -/
def fus (us : List (Int × Int)) (i j : Nat) : List (Int × Int) := (us.take j).drop i
theorem fus_len (us : List (Int × Int)) (i j : Nat) : (fus us i j).length ≤ j := by
  unfold fus; rw [List.length_drop, List.length_take]; omega
theorem fus_self (us : List (Int × Int)) (i : Nat) : fus us i i = [] := by
  unfold fus; rw [List.drop_eq_nil_iff]; rw [List.length_take]; omega
theorem fus_snoc (us : List (Int × Int)) {i k : Nat} (h : i ≤ k) (hk : k < us.length) : fus us i (k + 1) = fus us i k ++ [us.getD k (0, 0)] := by
  unfold fus
  rw [List.take_succ_eq_append_getElem hk, List.drop_append_of_le_length (by rw [List.length_take]; omega)]
  simp [hk]
theorem fus_end (us : List (Int × Int)) {i j k : Nat} (hi : i ≤ j) (hik : i ≤ k) (hk : k = i ∨ (k ≤ j ∧ k ≤ us.length)) (he : ¬ (k < us.length ∧ k < j)) : fus us i k = fus us i j := by
  rcases hk with rfl | ⟨h1, h2⟩
  · rw [fus_self]
    unfold fus
    symm
    rw [List.drop_eq_nil_iff, List.length_take]
    omega
  · unfold fus
    by_cases hkj : k = j
    · rw [hkj]
    · have : k = us.length := by omega
      subst this
      rw [List.take_length, List.take_of_length_le (by omega)]
end Go.Proofs.YtfhdjekpdifajaaGreat

/- Plain laws on sums over updates: what a key has, what others have in its columns. -/
namespace Go.Proofs.YtfhdjekpdifajaaGreat
set_option linter.unusedVariables false

/-- The sum of what keys have that meet p. -/
def sumIf (p : Int → Bool) (ps : List (Int × Int)) : Int := lsum (ps.map fun u => bif p u.1 then u.2 else 0)
theorem sumIf_nil (p : Int → Bool) : sumIf p [] = 0 := rfl
theorem sumIf_cons (p : Int → Bool) (u : Int × Int) (ps : List (Int × Int)) : sumIf p (u :: ps) = (bif p u.1 then u.2 else 0) + sumIf p ps := by
  unfold sumIf; rw [List.map_cons, lsum_cons]
theorem sumIf_snoc (p : Int → Bool) (u : Int × Int) (ps : List (Int × Int)) : sumIf p (ps ++ [u]) = sumIf p ps + (bif p u.1 then u.2 else 0) := by
  unfold sumIf; rw [List.map_append, lsum_append, List.map_cons, List.map_nil, lsum_cons, lsum_nil]; omega
theorem sumIf_split (p q : Int → Bool) (ps : List (Int × Int)) : sumIf p ps = sumIf (fun k => p k && q k) ps + sumIf (fun k => p k && !q k) ps := by
  induction ps with
  | nil => rfl
  | cons u ps ih =>
    simp only [sumIf_cons]
    rw [ih]
    cases p u.1 <;> cases q u.1 <;> simp <;> omega
theorem sumIf_congr {p q : Int → Bool} {ps : List (Int × Int)} (h : ∀ u ∈ ps, p u.1 = q u.1) : sumIf p ps = sumIf q ps := by
  induction ps with
  | nil => rfl
  | cons u ps ih =>
    rw [sumIf_cons, sumIf_cons, h u (by simp), ih (fun v hv => h v (by simp [hv]))]
theorem sumIf_filter (p q : Int → Bool) (ps : List (Int × Int)) : sumIf p (ps.filter fun u => q u.1) = sumIf (fun k => p k && q k) ps := by
  induction ps with
  | nil => rfl
  | cons u ps ih =>
    rw [List.filter_cons]
    cases h : q u.1
    · simp only [Bool.false_eq_true, if_false]
      rw [sumIf_cons, ih, h, Bool.and_false]; simp
    · simp only [if_true]
      rw [sumIf_cons, sumIf_cons, ih, h, Bool.and_true]
def notK (v k : Int) : Bool := !(k == v)
theorem sumIf_nn (p : Int → Bool) : ∀ (n : Nat) (ps : List (Int × Int)), ps.length ≤ n → (∀ u ∈ ps, 0 ≤ sumIf (fun k => k == u.1) ps) → 0 ≤ sumIf p ps := by
  intro n
  induction n with
  | zero =>
    intro ps hl _
    obtain rfl : ps = [] := List.length_eq_zero_iff.1 (by omega)
    exact Int.le_refl _
  | succ n ih =>
    intro ps hl h
    cases ps with
    | nil => exact Int.le_refl _
    | cons v ps =>
      have hv := h v (by simp)
      have hlen : ((v :: ps).filter fun u => notK v.1 u.1).length ≤ n := by
        rw [List.filter_cons]
        have e0 : notK v.1 v.1 = false := by simp [notK]
        simp only [e0, Bool.false_eq_true, if_false]
        have := List.length_filter_le (fun u : Int × Int => notK v.1 u.1) ps
        simp only [List.length_cons] at hl
        omega
      have hrest := ih _ hlen (fun u hu => by
        rw [List.mem_filter] at hu
        rw [sumIf_filter (fun k => k == u.1) (notK v.1)]
        have e : sumIf (fun k => k == u.1 && notK v.1 k) (v :: ps) = sumIf (fun k => k == u.1) (v :: ps) := by
          apply sumIf_congr
          intro x _
          cases hx : (x.1 == u.1) with
          | false => rfl
          | true =>
            have : x.1 = u.1 := by simpa using hx
            rw [this, hu.2]; rfl
        rw [e]; exact h u hu.1)
      rw [sumIf_filter p (notK v.1)] at hrest
      rw [sumIf_split p (fun k => k == v.1)]
      replace hrest : 0 ≤ sumIf (fun k => p k && !(k == v.1)) (v :: ps) := hrest
      have e : sumIf (fun k => p k && (k == v.1)) (v :: ps) = bif p v.1 then sumIf (fun k => k == v.1) (v :: ps) else 0 := by
        cases hp : p v.1 with
        | true =>
          show _ = sumIf (fun k => k == v.1) (v :: ps)
          apply sumIf_congr
          intro x _
          cases hx : (x.1 == v.1) with
          | false => simp
          | true =>
            have : x.1 = v.1 := by simpa using hx
            rw [this, hp]; rfl
        | false =>
          show _ = (0 : Int)
          have : sumIf (fun k => p k && (k == v.1)) (v :: ps) = sumIf (fun _ => false) (v :: ps) := by
            apply sumIf_congr
            intro x _
            cases hx : (x.1 == v.1) with
            | false => simp
            | true =>
              have : x.1 = v.1 := by simpa using hx
              rw [this, hp]; rfl
          rw [this]
          clear this hrest hv h hlen hl ih
          induction (v :: ps) with
          | nil => rfl
          | cons a l ih => rw [sumIf_cons, ih]; rfl
      rw [e]
      cases p v.1 <;> simp <;> omega

/-- The updates as they are made. -/
def cutP (C : Cfg) (lv : Int) (us : List (Int × Int)) : List (Int × Int) := us.map fun u => (cutK C lv u.1, cutD C.mode u.2)
theorem cutP_len (C : Cfg) (lv : Int) (us : List (Int × Int)) : (cutP C lv us).length = us.length := by simp [cutP]
theorem cutP_snoc (C : Cfg) (lv : Int) (us : List (Int × Int)) (u : Int × Int) : cutP C lv (us ++ [u]) = cutP C lv us ++ [(cutK C lv u.1, cutD C.mode u.2)] := by simp [cutP]
def hasP (key : Int) (ps : List (Int × Int)) : Int := sumIf (fun k => k == key) ps
def sameCol (C : Cfg) (lv key : Int) (r : Nat) (k : Int) : Bool := (cols C lv k).getD r 0 == (cols C lv key).getD r 0
def othP (C : Cfg) (lv key : Int) (r : Nat) (ps : List (Int × Int)) : Int := sumIf (fun k => !(k == key) && sameCol C lv key r k) ps
theorem oth_nn {C : Cfg} {lv key : Int} {r : Nat} {ps : List (Int × Int)} (h : ∀ u ∈ ps, 0 ≤ hasP u.1 ps) : 0 ≤ othP C lv key r ps := sumIf_nn _ _ ps (Nat.le_refl _) h
theorem sumIf_bnd (p : Int → Bool) (B : Int) (_hB : 0 ≤ B) (ps : List (Int × Int)) (h : ∀ u ∈ ps, -B ≤ u.2 ∧ u.2 ≤ B) : -(ps.length * B) ≤ sumIf p ps ∧ sumIf p ps ≤ ps.length * B := by
  induction ps with
  | nil => simp [sumIf_nil]
  | cons u ps ih =>
    have h1 := h u (by simp)
    have h2 := ih (fun v hv => h v (by simp [hv]))
    rw [sumIf_cons, List.length_cons]
    push_cast
    rw [Int.add_mul]
    cases p u.1 <;> simp <;> omega
theorem cutP_bnd (C : Cfg) (lv : Int) (us : List (Int × Int)) : ∀ u ∈ cutP C lv us, -1099511627776 ≤ u.2 ∧ u.2 ≤ 1099511627776 := by
  intro u hu
  simp only [cutP, List.mem_map] at hu
  obtain ⟨v, _, rfl⟩ := hu
  have := cutD_bd C.mode v.2
  simp only; omega

theorem at_ne {W r j : Nat} {a c : Nat} (ha : a < W) (hc : c < W) (h : r ≠ j ∨ a ≠ c) : r * W + a ≠ j * W + c := by
  intro he
  have hW : 0 < W := by omega
  have h1 : (r * W + a) / W = (j * W + c) / W := by rw [he]
  rw [Nat.add_comm, Nat.mul_comm r, Nat.add_mul_div_left _ _ hW, Nat.div_eq_of_lt ha, Nat.add_comm (j * W), Nat.mul_comm j, Nat.add_mul_div_left _ _ hW, Nat.div_eq_of_lt hc] at h1
  have h2 : r = j := by omega
  subst h2
  omega
theorem putK_get {R W : Nat} {cs : List Int} (hm : Meets R W cs) {f : Nat → Int} {l : List Int} (hl : l.length = R * W) {r a : Nat} (hr : r < R) (ha : a < W) :
    ∀ k, k ≤ R → (putK W cs f k l).getD (r * W + a) 0 = if r < k ∧ cs.getD r 0 = (a : Int) then f r else l.getD (r * W + a) 0 := by
  intro k
  induction k with
  | zero => intro _; rw [putK, if_neg (by omega)]
  | succ k ih =>
    intro hk
    have h0 := hm.lo k (by omega)
    have h1 := hm.hi k (by omega)
    rw [putK]
    by_cases he : k = r ∧ cs.getD k 0 = (a : Int)
    · obtain ⟨rfl, he⟩ := he
      rw [if_pos ⟨by omega, he⟩]
      have hat : at_ W cs k = k * W + a := by unfold at_; omega
      rw [hat]
      have hlen : k * W + a < (putK W cs f k l).length := by
        rw [putK_len, hl]
        calc k * W + a < k * W + W := by omega
          _ = (k + 1) * W := by rw [Nat.add_mul, Nat.one_mul]
          _ ≤ R * W := Nat.mul_le_mul_right W hr
      simp [hlen]
    · have hne : at_ W cs k ≠ r * W + a := by
        unfold at_
        refine at_ne (by omega) ha ?_
        by_cases hkr : k = r
        · right
          intro h
          exact he ⟨hkr, by omega⟩
        · exact .inl hkr
      have e : ((putK W cs f k l).set (at_ W cs k) (f k)).getD (r * W + a) 0 = (putK W cs f k l).getD (r * W + a) 0 := by
        simp [List.getElem?_set_ne hne]
      rw [e, ih (by omega)]
      by_cases hc : r < k ∧ cs.getD r 0 = (a : Int)
      · rw [if_pos hc, if_pos ⟨by omega, hc.2⟩]
      · rw [if_neg hc, if_neg]
        intro h
        by_cases hkr : k = r
        · subst hkr; exact he ⟨rfl, h.2⟩
        · exact hc ⟨by omega, h.2⟩
theorem snoc_ind {α : Type} {P : List α → Prop} (h0 : P []) (h1 : ∀ l x, P l → P (l ++ [x])) (l : List α) : P l := by
  have key : ∀ n (l : List α), l.length = n → P l := by
    intro n
    induction n with
    | zero => intro l hl; rw [List.length_eq_zero_iff.1 hl]; exact h0
    | succ n ih =>
      intro l hl
      have hne : l ≠ [] := by intro h; rw [h] at hl; cases hl
      rw [← List.dropLast_concat_getLast hne]
      exact h1 _ _ (ih _ (by rw [List.length_dropLast]; omega))
  exact key _ l rfl
theorem feed_len (C : Cfg) (lv : Int) (R W : Nat) (us : List (Int × Int)) (l : List Int) : (feed C lv R W us l).length = l.length := by
  unfold feed
  induction us generalizing l with
  | nil => rfl
  | cons u us ih =>
    rw [List.foldl_cons, ih]
    unfold updL
    cases decide (C.mode = 2) <;> exact putK_len _ _ _ _ _
/-- Each cell is the sum of what the keys have whose column it is. -/
theorem feed_cell (C : Cfg) (hok : C.Ok) (lv : Int) (R W : Nat) (hr : C.rows = R) (hw : C.width = W) (hm : C.mode ≠ 2) (us : List (Int × Int)) {r a : Nat} (hrr : r < R) (ha : a < W) :
    (feed C lv R W us (zs (R * W))).getD (r * W + a) 0 = sumIf (fun k => (cols C lv k).getD r 0 == (a : Int)) (cutP C lv us) := by
  refine snoc_ind (P := fun us => (feed C lv R W us (zs (R * W))).getD (r * W + a) 0 = sumIf (fun k => (cols C lv k).getD r 0 == (a : Int)) (cutP C lv us)) ?_ ?_ us
  ·
    show (zs (R * W)).getD _ 0 = 0
    unfold zs
    rw [List.getD_eq_getElem?_getD]
    rcases Nat.lt_or_ge (r * W + a) (R * W) with h | h
    · simp [h]
    · simp [h]
  · intro us u ih
    rw [feed_snoc, cutP_snoc, sumIf_snoc]
    unfold updL
    rw [decide_eq_false hm]
    have hme := cols_meets C hok lv (cutK C lv u.1) hr hw
    show (putK W _ _ R _).getD _ 0 = _
    rw [putK_get hme (by rw [feed_len, zs_len]) hrr ha R (Nat.le_refl _), ih]
    by_cases he : (cols C lv (cutK C lv u.1)).getD r 0 = (a : Int)
    · rw [if_pos ⟨hrr, he⟩]
      have hat : at_ W (cols C lv (cutK C lv u.1)) r = r * W + a := by unfold at_; omega
      rw [hat]
      show _ + _ = _
      rw [ih]
      have hb : ((cols C lv (cutK C lv u.1)).getD r 0 == (a : Int)) = true := by simpa using he
      simp only [hb]; rfl
    · rw [if_neg (fun h => he h.2)]
      have : ((cols C lv (cutK C lv u.1)).getD r 0 == (a : Int)) = false := by simpa using he
      simp only [this]; simp
/-- What is read in a key's columns: what it has, and what others have there. -/
theorem read_cell (C : Cfg) (hok : C.Ok) (lv : Int) (R W : Nat) (hr : C.rows = R) (hw : C.width = W) (hm : C.mode ≠ 2) (us : List (Int × Int)) (key : Int) :
    readL W (feed C lv R W us (zs (R * W))) (cols C lv key) = (List.range R).map fun r => hasP key (cutP C lv us) + othP C lv key r (cutP C lv us) := by
  have hme := cols_meets C hok lv key hr hw
  unfold readL
  rw [hme.len]
  apply List.map_congr_left
  intro r hrr
  rw [List.mem_range] at hrr
  have h0 := hme.lo r hrr
  have h1 := hme.hi r hrr
  have hat : at_ W (cols C lv key) r = r * W + ((cols C lv key).getD r 0).toNat := rfl
  rw [hat, feed_cell C hok lv R W hr hw hm us hrr (by omega)]
  have e : (((cols C lv key).getD r 0).toNat : Int) = (cols C lv key).getD r 0 := Int.toNat_of_nonneg h0
  rw [e]
  rw [sumIf_split _ (fun k => k == key)]
  unfold hasP othP
  congr 1
  · apply sumIf_congr
    intro x _
    cases hx : (x.1 == key) with
    | false => simp
    | true =>
      have : x.1 = key := by simpa using hx
      rw [this]; simp
  · apply sumIf_congr
    intro x _
    unfold sameCol
    exact Bool.and_comm _ _
/-- The least of numbers. -/
def leastF (f : Nat → Int) (k : Nat) : Int := (List.range k).foldl (fun m r => min m (f r)) (f 0)
theorem leastF_succ (f : Nat → Int) (k : Nat) : leastF f (k + 1) = min (leastF f k) (f k) := by
  unfold leastF; rw [List.range_succ, List.foldl_append]; rfl
theorem leastF_le (f : Nat → Int) (k : Nat) : leastF f k ≤ f 0 ∧ ∀ r, r < k → leastF f k ≤ f r := by
  induction k with
  | zero => exact ⟨Int.le_refl _, fun r h => by omega⟩
  | succ k ih =>
    rw [leastF_succ]
    refine ⟨by omega, fun r h => ?_⟩
    by_cases e : r = k
    · subst e; omega
    · have := ih.2 r (by omega); omega
theorem leastF_mem (f : Nat → Int) (k : Nat) (h : 0 < k) : ∃ r, r < k ∧ leastF f k = f r := by
  induction k with
  | zero => omega
  | succ k ih =>
    rw [leastF_succ]
    by_cases hk : 0 < k
    · obtain ⟨r, h1, h2⟩ := ih hk
      rcases Int.le_total (leastF f k) (f k) with h3 | h3
      · exact ⟨r, by omega, by omega⟩
      · exact ⟨k, by omega, by omega⟩
    · have : k = 0 := by omega
      subst this
      refine ⟨0, by omega, ?_⟩
      show min (f 0) (f 0) = f 0
      omega
end Go.Proofs.YtfhdjekpdifajaaGreat

/- gaugerlaw10.fed makes a sketch and feeds it: it never refuses. -/
namespace Go.Proofs.YtfhdjekpdifajaaGreat
set_option linter.unusedVariables false
open Go.RowKit

/-- The config, level, rows and columns that a play stands for. -/
def fcfg (x : Cfg) (m : Int) : Cfg := { mkC x 8 9 with mode := m }
def flv (x : Cfg) (lv : Int) : Int := lv % 65536 % ((mkC x 8 9).bits + 1)
def fR (x : Cfg) : Nat := (mkC x 8 9).rows.toNat
def fW (x : Cfg) : Nat := (mkC x 8 9).width.toNat
theorem fcfg_ok (x : Cfg) (hs : U64 x.seed) {m : Int} (h1 : 1 ≤ m) (h2 : m ≤ 3) : (fcfg x m).Ok := by
  have h := mkC_ok x hs (nb := 8) (nw := 9) (by decide) (by decide) (by decide) (by decide)
  exact ⟨h.b1, h.b2, h.r1, h.r2, h.w1, h.w2, h1, h2, h.s⟩
theorem flv_bd (x : Cfg) (lv : Int) (m : Int) : 0 ≤ flv x lv ∧ flv x lv ≤ (fcfg x m).bits := by
  unfold flv fcfg mkC
  simp only
  have a1 := Int.emod_nonneg (x.bits % 65536) (show (8 : Int) ≠ 0 by decide)
  have b1 := Int.emod_nonneg (lv % 65536) (show (1 + x.bits % 65536 % 8 + 1) ≠ 0 by omega)
  have b2 := Int.emod_lt_of_pos (lv % 65536) (show 0 < (1 + x.bits % 65536 % 8 + 1) by omega)
  omega
theorem fR_eq (x : Cfg) (hs : U64 x.seed) (m : Int) : (fcfg x m).rows = fR x := by
  have h := mkC_ok x hs (nb := 8) (nw := 9) (by decide) (by decide) (by decide) (by decide)
  have := h.r1
  show (mkC x 8 9).rows = ((mkC x 8 9).rows.toNat : Int)
  omega
theorem fW_eq (x : Cfg) (hs : U64 x.seed) (m : Int) : (fcfg x m).width = fW x := by
  have h := mkC_ok x hs (nb := 8) (nw := 9) (by decide) (by decide) (by decide) (by decide)
  have := h.w1
  show (mkC x 8 9).width = ((mkC x 8 9).width.toNat : Int)
  omega
def FedPost (w : World) (x : Cfg) (m lv : Int) (us : List (Int × Int)) (i j : Nat) (e : Ending) (w' : World) : Prop :=
  ∃ s b c, e = .returned (.tuple #[.pointer (some ⟨s, 0, none⟩), .agg #[.int .i64 (fcfg x m).bits, .int .i64 (fcfg x m).rows, .int .i64 (fcfg x m).width, .int .i64 (fcfg x m).mode, .int .u64 (fcfg x m).seed], .int .i64 (flv x lv)]) ∧
    SAt w' s b c (fcfg x m) (flv x lv) (fR x) (fW x) (feed (fcfg x m) (flv x lv) (fR x) (fW x) (fus us i j) (zs (fR x * fW x))) ∧ w.heap.size ≤ s ∧ w.heap.size ≤ b ∧ w.heap.size ≤ c ∧ Ext w w'
end Go.Proofs.YtfhdjekpdifajaaGreat

/- gaugerlaw10.shown: what the law shows of one small sketch. -/
namespace Go.Proofs.YtfhdjekpdifajaaGreat
open Go.RowKit

set_option maxHeartbeats 1000000 in
theorem Keys_no (c : Cfg) (h : c.Ok) (l : Int) (h0 : 0 ≤ l) (h1 : c.bits < l) (w : World) :
    Calls Tryz.prog 88 #[.agg #[.int .i64 c.bits, .int .i64 c.rows, .int .i64 c.width, .int .i64 c.mode, .int .u64 c.seed], .int .i64 l] w fun e w' => e = .returned (.int .u64 0) ∧ Ext w w' := by
  have hk := h
  obtain ⟨b1, b2, r1, r2, w1, w2, m1, m2, s⟩ := h
  have g1 : decide (l < 0) = false := by simp; omega
  have g2 : decide (c.bits < l) = true := by simp; omega
  go_enter Tryz.func88, Tryz.ntmps88
  go_wp2_with fail
  refine (Right_c c hk _).mono ?_
  rintro e w1 ⟨rfl, hb⟩
  have hc := bcell hb
  go_wp2
  go_ret
  refine ⟨rfl, ?_⟩
  (repeat' (first | exact Ext.refl _ | assumption | apply Ext.allocR | apply Ext.drewR | apply Ext.drewNR | (refine Ext.trans' ?_ (by assumption))))
set_option maxHeartbeats 1000000 in
theorem SNew_no (C : Cfg) (h : C.Ok) (lv : Int) (h0 : 0 ≤ lv) (h1 : C.bits < lv) (w : World) :
    Calls Tryz.prog 99 #[.agg #[.int .i64 C.bits, .int .i64 C.rows, .int .i64 C.width, .int .i64 C.mode, .int .u64 C.seed], .int .i64 lv] w fun e w' => e = .returned (.tuple #[.pointer none, .int .i64 1]) ∧ Ext w w' := by
  go_enter Tryz.func99, Tryz.ntmps99
  go_wp2_with fail
  refine (Keys_no C h lv h0 h1 _).mono ?_
  rintro e w1 ⟨rfl, hb⟩
  go_wp2
  go_ret2
  refine ⟨rfl, ?_⟩
  (repeat' (first | exact Ext.refl _ | assumption | apply Ext.allocR | apply Ext.drewR | apply Ext.drewNR | (refine Ext.trans' ?_ (by assumption))))
def C0 : Cfg := ⟨3, 2, 1, 1, 0⟩
theorem C0_ok : C0.Ok := by constructor <;> simp [C0, U64]
theorem C0_cols (k : Int) : cols C0 0 k = [0, 0] := by
  have h0 := col_bd C0 (by simp [C0]) 0 k (0 : Nat)
  have h1 := col_bd C0 (by simp [C0]) 0 k (1 : Nat)
  have e0 : col C0 0 k (0 : Nat) = 0 := by have : C0.width = 1 := rfl; omega
  have e1 : col C0 0 k (1 : Nat) = 0 := by have : C0.width = 1 := rfl; omega
  show (List.range 2).map _ = _
  rw [show List.range 2 = [0, 1] from rfl]
  simp only [List.map_cons, List.map_nil]
  rw [e0, e1]
theorem C0_keys : keys C0 0 = 8 := by simp [keys, C0]
theorem C0_e1 : errU C0 0 2 1 [0, 0] 0 5 = 0 := by unfold errU; rw [C0_cols, C0_keys]; rfl
theorem C0_u1 : updL C0 0 2 1 [0, 0] 0 5 = [5, 5] := by unfold updL; rw [C0_cols]; rfl
theorem C0_e2 : errU C0 0 2 1 [5, 5] 1 2 = 0 := by unfold errU; rw [C0_cols, C0_keys]; rfl
theorem C0_u2 : updL C0 0 2 1 [5, 5] 1 2 = [7, 7] := by unfold updL; rw [C0_cols]; rfl
theorem C0_e3 : errU C0 0 2 1 [7, 7] 8 2 = 2 := by unfold errU; rw [C0_keys]; rfl
theorem C0_p {x : Int} (h : IsKth (readL 1 [7, 7] (cols C0 0 0)) (if C0.mode = 3 then (2 - 1) / 2 else 0) x) : x = 7 := by
  rw [C0_cols] at h
  have h' : IsKth [7, 7] 0 x := h
  have := h'.2
  have := h'.1
  have hm : x ∈ [7, 7] := sameN_pos (by omega)
  simpa using hm
end Go.Proofs.YtfhdjekpdifajaaGreat

/- grid.Plus, grid.Minus: two grids, cell by cell; nothing is changed if one cell does not fit. -/
namespace Go.Proofs.YtfhdjekpdifajaaGreat
set_option linter.unusedVariables false
open Go.RowKit

def allI (l : List Int) : Prop := ∀ x ∈ l, I64 x
def JoinPost (w : World) (b c R W : Nat) (m : List Int) (e : Ending) (w' : World) : Prop :=
  (allI m ∧ e = .returned (.int .i64 0) ∧ GAt w' b c R W m ∧ Mod (fun k => k = c) w w') ∨ (¬ allI m ∧ e = .returned (.int .i64 4) ∧ Ext w w')
def plusL (l m : List Int) : List Int := (List.range l.length).map fun k => l.getD k 0 + m.getD k 0
def minusL (l m : List Int) : List Int := (List.range l.length).map fun k => l.getD k 0 - m.getD k 0
theorem plusL_len (l m : List Int) : (plusL l m).length = l.length := by simp [plusL]
theorem minusL_len (l m : List Int) : (minusL l m).length = l.length := by simp [minusL]
theorem map_all {f : Nat → Int} {n : Nat} (h : ∀ j, j < n → I64 (f j)) : allI ((List.range n).map f) := by
  intro x hx
  simp only [List.mem_map, List.mem_range] at hx
  obtain ⟨j, hj, rfl⟩ := hx
  exact h j hj
theorem map_not {f : Nat → Int} {n j : Nat} (hj : j < n) (h : ¬ I64 (f j)) : ¬ allI ((List.range n).map f) := by
  intro ha
  exact h (ha _ (by simp only [List.mem_map, List.mem_range]; exact ⟨j, hj, rfl⟩))
theorem ints_one {l : List Int} : ∀ v ∈ ints l, v.oneCell' = true := by
  intro v hv
  simp only [ints, List.mem_map] at hv
  obtain ⟨x, _, rfl⟩ := hv
  rfl
theorem CAt.copied {w : World} {c cap : Nat} {l m : List Int} {cur : Array Value} (hg : w.heap[c]? = some (.cells cur 2 (0, 0))) (hs : cur.size = cap) (hle : l.length ≤ cap) (hmx : cap ≤ maxLen) (hm : m.length = l.length) :
    CAt (w.setRow c (cur.toList.take 0 ++ (Go.Proofs.YtfhdjekpdifajaaGreat.ints m ++ cur.toList.drop (0 + (Go.Proofs.YtfhdjekpdifajaaGreat.ints m).length))).toArray) c cap m := by
  refine ⟨⟨_, setRow_heap w c _ _ _ _ hg, ?_, ?_⟩, by omega, hmx⟩
  · simp [Go.Proofs.YtfhdjekpdifajaaGreat.ints]; omega
  · simp [Go.Proofs.YtfhdjekpdifajaaGreat.ints]
theorem CAt.copied' {w : World} {c cap : Nat} {l m : List Int} {cur : Array Value} (hg : w.heap[c]? = some (.cells cur 2 (0, 0))) (hs : cur.size = cap) (hle : l.length ≤ cap) (hmx : cap ≤ maxLen) (hm : m.length = l.length) :
    CAt (w.setRow c (Go.Proofs.YtfhdjekpdifajaaGreat.ints m ++ cur.toList.drop (Go.Proofs.YtfhdjekpdifajaaGreat.ints m).length).toArray) c cap m := by
  have := CAt.copied (w := w) (l := l) (m := m) hg hs hle hmx hm
  simpa using this
theorem mod_row {w w' : World} {c : Nat} (h : Mod (fun k => k = c) w w') (cs : Array Value) : Mod (fun k => k = c) w (w'.setRow c cs) :=
  ⟨h.os, h.tape, h.output, by rw [size_setRow]; exact h.size, fun k hk hn => (setRow_other _ _ _ _ hn).trans (h.block k hk hn)⟩
theorem addr_plain (b off i : Nat) : (Addr.add ⟨b, off, none⟩ i) = ⟨b, off + i, none⟩ := by
  unfold Addr.add
  by_cases h : i = 0
  · subst h; simp
  · simp [h]
theorem GAt.row {w wr : World} {b c R W : Nat} {l m : List Int} (h : GAt w b c R W l) (hE : Ext w wr) {cur : Array Value} {cap : Nat} (hb : w.heap[b]? = some (.cells #[.int .i64 R, .int .i64 W, .slice (some ⟨c, 0, none⟩) l.length cap] 283 (0, 0))) (hc : CAt w c cap l)
    (hg : wr.heap[c]? = some (.cells cur 2 (0, 0))) (hs : cur.size = cap) (hm : m.length = l.length) :
    GAt (wr.setRow c (ints m ++ cur.toList.drop (ints m).length).toArray) b c R W m :=
  ⟨⟨cap, by rw [setRow_other _ _ _ _ h.ne, hE.block b h.ltb, hm]; exact hb, CAt.copied' hg hs hc.le hc.mx hm⟩, h.r1, h.r2, h.w1, h.w2, by rw [hm]; exact h.len⟩
theorem Plus_fit (a b : Int) (ha : I64 a) (hb : I64 b) (h : I64 (a + b)) (w : World) :
    Calls Tryz.prog 198 #[.int .i64 a, .int .i64 b] w fun e w' => e = .returned (.tuple #[.int .i64 (a + b), .bool true]) ∧ Ext w w' :=
  (Plus_c a b ha hb w).mono fun _ _ ⟨he, hx⟩ => ⟨by rw [he, fitN, fitB_yes h]; rfl, hx⟩
theorem Plus_no (a b : Int) (ha : I64 a) (hb : I64 b) (h : ¬ I64 (a + b)) (w : World) :
    Calls Tryz.prog 198 #[.int .i64 a, .int .i64 b] w fun e w' => e = .returned (.tuple #[.int .i64 0, .bool false]) ∧ Ext w w' :=
  (Plus_c a b ha hb w).mono fun _ _ ⟨he, hx⟩ => ⟨by rw [he, fitN, fitB_no h]; rfl, hx⟩
set_option maxRecDepth 20000 in
set_option maxHeartbeats 2000000 in
theorem allPlus_c (b c b2 c2 R W : Nat) (l l2 : List Int) (w : World) (h : GAt w b c R W l) (h2 : GAt w b2 c2 R W l2) (hI : allI l) (hI2 : allI l2) :
    Calls Tryz.prog 199 #[.agg #[.pointer (some ⟨b, 0, none⟩), .func (.func 198) #[] #[]], .pointer (some ⟨b2, 0, none⟩)] w (JoinPost w b c R W (plusL l l2)) := by
  obtain ⟨cap, hb, hc⟩ := h.ex
  obtain ⟨cap2, hb2, hc2⟩ := h2.ex
  have hl := h.len
  have hl2 := h2.len
  have hN1 : R * W ≤ 1024 := Nat.le_trans (Nat.mul_le_mul h.r2 h.w2) (by decide)
  have hN2 : 1 ≤ R * W := Nat.mul_pos h.r1 h.w1
  have hLL : plusL l l2 = (List.range l.length).map fun k => l.getD k 0 + l2.getD k 0 := rfl
  rw [hLL]
  have HB := Lib.hid hb
  rw [hl] at hb ⊢
  rw [hl2] at hb2
  generalize hNN : R * W = N at *
  obtain ⟨f, hf⟩ : ∃ f : Nat → Int, f = fun k => l.getD k 0 + l2.getD k 0 := ⟨_, rfl⟩
  rw [← hf]
  have HF := Lib.hid hf
  have HL := Lib.hid hl
  have HL2 := Lib.hid hl2
  have HNN := Lib.hid hNN
  have e0 := (cell_of hb 0).trans rfl
  have e1 := (cell_of hb 1).trans rfl
  have e2 := (cell_of hb 2).trans rfl
  have k0 := (cell_of hb2 0).trans rfl
  have k1 := (cell_of hb2 1).trans rfl
  have k2 := (cell_of hb2 2).trans rfl
  have ltb := h.ltb
  have ltc := h.ltc
  have ltb2 := h2.ltb
  have ltc2 := h2.ltc
  obtain ⟨ii, hi, hz0, hz1, hz2⟩ := info_parts info_i64
  have hmk := fun (x : World) => run_make_ints 43 2 ii Tryz.underlying43 hi hz0 hz1 hz2 N (by omega) f x
  have HH := Lib.hid h
  have HH2 := Lib.hid h2
  have HC := Lib.hid hc
  have HC2 := Lib.hid hc2
  clear hf hl hl2 hNN hb hb2 h h2 hc hc2 hLL hi hz0 hz1 hz2
  go_enter Tryz.func199, Tryz.ntmps199
  go_wp2_with fail
  refine wp_region_after (by kernel_rfl) (by kernel_rfl) ?_
  repeat (go_big_quiet_step (fail))
  refine wpQuiet_nil ?_
  rintro _ ⟨xx, rfl⟩
  obtain ⟨w1, hb1⟩ := xx
  try dsimp only
  have hj0 : w1.cell? ⟨w.heap.size, 0, none⟩ = some (.pointer (some ⟨b, 0, none⟩)) := by rw [(bcell hb1).1 _ _ (by rw [size_alloc]; omega)]; simp [go_sem]
  have hj1 : w1.cell? ⟨w.heap.size, 1, none⟩ = some (.func (.func 198) #[] #[]) := by rw [(bcell hb1).1 _ _ (by rw [size_alloc]; omega)]; simp [go_sem]
  have hbs := hb1.size
  rw [size_alloc] at hbs
  have hE : Ext w w1 := by (repeat' (first | exact Ext.refl _ | assumption | apply Ext.allocR | apply Ext.drewR | apply Ext.drewNR | (refine Ext.trans' ?_ (by assumption))))
  clear hb1
  have e2' := ((bcell hE).1 _ _ ltb).trans e2
  have k2' := ((bcell hE).1 _ _ ltb2).trans k2
  have lb1 : b < w1.heap.size := Nat.lt_of_lt_of_le ltb hE.size
  have lb2 : b2 < w1.heap.size := Nat.lt_of_lt_of_le ltb2 hE.size
  clear e0 e1 k0 k1 e2 k2
  go_wp2_with fail
  clear hmk
  go_loopw [48] (fun u48 wr => ∃ k : Nat, k ≤ N ∧ u48 = .int .i64 k ∧ (∀ j, j < k → I64 (f j)) ∧ Ext w1 wr ∧ w1.heap.size < wr.heap.size ∧ wr.heap[w1.heap.size]? = some (.cells (fillA f k N) 2 (0, 0))) (fun u48 _ => N - (intOf u48).toNat)
  case atStart => exact ⟨0, Nat.zero_le _, rfl, fun j hj => absurd hj (Nat.not_lt_zero j), Ext.alloc' _ _, by rw [size_alloc]; omega, heap_at _ _ rfl⟩
  case round =>
    obtain ⟨k, hk, rfl, hfit, hx, hsz, hg2⟩ := hrel
    have HFIT := Lib.hid hfit
    clear hfit
    have hEw : Ext w wr := hE.trans' hx
    have j0 := ((bcell hx).1 _ 0 (show w.heap.size < w1.heap.size by omega)).trans hj0
    have j1 := ((bcell hx).1 _ 1 (show w.heap.size < w1.heap.size by omega)).trans hj1
    have g2 := ((bcell hx).1 _ 2 (show b < w1.heap.size by omega)).trans e2'
    have m2 := ((bcell hx).1 _ 2 (show b2 < w1.heap.size by omega)).trans k2'
    have s0 : w.heap.size < wr.heap.size := by omega
    have s1 : b < wr.heap.size := by omega
    have s2 : b2 < wr.heap.size := by omega
    have s3 : c < wr.heap.size := by omega
    have s4 : c2 < wr.heap.size := by omega
    by_cases hlt : k < N
    · have x0 := ((bcell hEw).1 _ k ltc).trans (HC.out.cell (i := k) (by rw [HL.out]; exact hlt))
      have x1 := ((bcell hEw).1 _ k ltc2).trans (HC2.out.cell (i := k) (by rw [HL2.out]; exact hlt))
      have hfk : f k = l.getD k 0 + l2.getD k 0 := by rw [HF.out]
      have i0 := getD_i64 hI k
      have i1 := getD_i64 hI2 k
      generalize l.getD k 0 = a at *
      generalize l2.getD k 0 = a2 at *
      obtain ⟨v0, d0⟩ : ∃ v0, wr.cell? ⟨w1.heap.size, k, none⟩ = some v0 := ⟨_, (cell_of hg2 k).trans (fillA_at _ _ _ _ hlt)⟩
      have d1 := frozen_of hg2 k
      have HG := Lib.hid hg2
      clear hg2
      by_cases hf : I64 (a + a2)
      · have HFK := Lib.hid hfk
        have HFI := Lib.hid hf
        clear hfk hf
        go_wp2_with fail
        refine wp_region_after (by kernel_rfl) (by kernel_rfl) ?_
        repeat (go_big_quiet_step ((go_at_call 198; exact quiet_after (Plus_fit a a2 i0 i1 HFI.out _))))
        refine wpQuiet_nil ?_
        rintro _ ⟨xx, rfl⟩
        obtain ⟨w5, hb5⟩ := xx
        try dsimp only
        have d0' := ((bcell hb5).1 _ _ hsz).trans d0
        have d1' := ((bcell hb5).2 _ _ hsz).trans d1
        have hg5 := (hb5.block _ hsz).trans HG.out
        have HG5 := Lib.hid hg5
        have hx5 := hx.trans' hb5
        have hs5 := hb5.size
        clear hg5 d0 d1
        go_wp2_with fail
        go_roundw
        case rel =>
          refine ⟨k + 1, by omega, by go_num, fun j hj => ?_, hx5.setR (Nat.le_refl _) _, by rw [size_setCell]; omega, ?_⟩
          · by_cases hjk : j < k
            · exact HFIT.out j hjk
            · obtain rfl : j = k := by omega
              rw [HFK.out]; exact HFI.out
          · rw [setCell_same HG5.out, ← fillA_set, HFK.out]
        case measure => simp [intOf]; omega
      · have HFK := Lib.hid hfk
        have HFI := Lib.hid hf
        clear hfk hf
        go_wp2_with fail
        refine wp_region_after (by kernel_rfl) (by kernel_rfl) ?_
        repeat (go_big_quiet_step ((go_at_call 198; exact quiet_after (Plus_no a a2 i0 i1 HFI.out _))))
        refine wpQuiet_nil ?_
        rintro _ ⟨xx, rfl⟩
        obtain ⟨w5, hb5⟩ := xx
        try dsimp only
        go_wp2_with fail
        go_ret
        refine .inr ⟨?_, rfl, hEw.trans' hb5⟩
        exact map_not hlt (by rw [HFK.out]; exact HFI.out)
    · have HG := Lib.hid hg2
      clear hg2
      obtain rfl : k = N := by omega
      obtain ⟨cur, hcur, hcs, hct⟩ := (HC.out.keep (hEw.block c ltc)).ex
      have HCUR := Lib.hid hcur
      have HCS := Lib.hid hcs
      clear hcur hcs hct
      go_wp2_with (with_reducible refine wpList_copy_own rfl _ _ 43 43 rfl 2 Tryz.underlying43 (by kernel_rfl) c 0 _ _ ⟨w1.heap.size, 0, none⟩ _ _ rfl rfl cur 2 HCUR.out (ints ((List.range k).map f)) ?a1 ?a2 ?a3 ints_one ?_)
      case a1 => simp [ints]
      case a2 =>
        intro j v hj
        rw [addr_plain, Nat.zero_add, cell_of HG.out j, ← Array.getElem?_toList, fillA_done]
        exact hj
      case a3 =>
        have := HCS.out
        have := HC.out.le
        rw [HL.out] at this
        simp only [ints, List.length_map, List.length_range]
        omega
      go_ret
      refine .inl ⟨map_all HFIT.out, rfl, ?_, ?_⟩
      · exact HH.out.row hEw HB.out HC.out HCUR.out HCS.out (by rw [HL.out]; simp)
      · exact mod_row (hEw.mod _) _
theorem Minus_fit (a b : Int) (ha : I64 a) (hb : I64 b) (h : I64 (a - b)) (w : World) :
    Calls Tryz.prog 148 #[.int .i64 a, .int .i64 b] w fun e w' => e = .returned (.tuple #[.int .i64 (a - b), .bool true]) ∧ Ext w w' :=
  (Minus_c a b ha hb w).mono fun _ _ ⟨he, hx⟩ => ⟨by rw [he, fitN, fitB_yes h]; rfl, hx⟩
theorem Minus_no (a b : Int) (ha : I64 a) (hb : I64 b) (h : ¬ I64 (a - b)) (w : World) :
    Calls Tryz.prog 148 #[.int .i64 a, .int .i64 b] w fun e w' => e = .returned (.tuple #[.int .i64 0, .bool false]) ∧ Ext w w' :=
  (Minus_c a b ha hb w).mono fun _ _ ⟨he, hx⟩ => ⟨by rw [he, fitN, fitB_no h]; rfl, hx⟩
set_option maxRecDepth 20000 in
set_option maxHeartbeats 2000000 in
theorem allMinus_c (b c b2 c2 R W : Nat) (l l2 : List Int) (w : World) (h : GAt w b c R W l) (h2 : GAt w b2 c2 R W l2) (hI : allI l) (hI2 : allI l2) :
    Calls Tryz.prog 199 #[.agg #[.pointer (some ⟨b, 0, none⟩), .func (.func 148) #[] #[]], .pointer (some ⟨b2, 0, none⟩)] w (JoinPost w b c R W (minusL l l2)) := by
  obtain ⟨cap, hb, hc⟩ := h.ex
  obtain ⟨cap2, hb2, hc2⟩ := h2.ex
  have hl := h.len
  have hl2 := h2.len
  have hN1 : R * W ≤ 1024 := Nat.le_trans (Nat.mul_le_mul h.r2 h.w2) (by decide)
  have hN2 : 1 ≤ R * W := Nat.mul_pos h.r1 h.w1
  have hLL : minusL l l2 = (List.range l.length).map fun k => l.getD k 0 - l2.getD k 0 := rfl
  rw [hLL]
  have HB := Lib.hid hb
  rw [hl] at hb ⊢
  rw [hl2] at hb2
  generalize hNN : R * W = N at *
  obtain ⟨f, hf⟩ : ∃ f : Nat → Int, f = fun k => l.getD k 0 - l2.getD k 0 := ⟨_, rfl⟩
  rw [← hf]
  have HF := Lib.hid hf
  have HL := Lib.hid hl
  have HL2 := Lib.hid hl2
  have HNN := Lib.hid hNN
  have e0 := (cell_of hb 0).trans rfl
  have e1 := (cell_of hb 1).trans rfl
  have e2 := (cell_of hb 2).trans rfl
  have k0 := (cell_of hb2 0).trans rfl
  have k1 := (cell_of hb2 1).trans rfl
  have k2 := (cell_of hb2 2).trans rfl
  have ltb := h.ltb
  have ltc := h.ltc
  have ltb2 := h2.ltb
  have ltc2 := h2.ltc
  obtain ⟨ii, hi, hz0, hz1, hz2⟩ := info_parts info_i64
  have hmk := fun (x : World) => run_make_ints 43 2 ii Tryz.underlying43 hi hz0 hz1 hz2 N (by omega) f x
  have HH := Lib.hid h
  have HH2 := Lib.hid h2
  have HC := Lib.hid hc
  have HC2 := Lib.hid hc2
  clear hf hl hl2 hNN hb hb2 h h2 hc hc2 hLL hi hz0 hz1 hz2
  go_enter Tryz.func199, Tryz.ntmps199
  go_wp2_with fail
  refine wp_region_after (by kernel_rfl) (by kernel_rfl) ?_
  repeat (go_big_quiet_step (fail))
  refine wpQuiet_nil ?_
  rintro _ ⟨xx, rfl⟩
  obtain ⟨w1, hb1⟩ := xx
  try dsimp only
  have hj0 : w1.cell? ⟨w.heap.size, 0, none⟩ = some (.pointer (some ⟨b, 0, none⟩)) := by rw [(bcell hb1).1 _ _ (by rw [size_alloc]; omega)]; simp [go_sem]
  have hj1 : w1.cell? ⟨w.heap.size, 1, none⟩ = some (.func (.func 148) #[] #[]) := by rw [(bcell hb1).1 _ _ (by rw [size_alloc]; omega)]; simp [go_sem]
  have hbs := hb1.size
  rw [size_alloc] at hbs
  have hE : Ext w w1 := by (repeat' (first | exact Ext.refl _ | assumption | apply Ext.allocR | apply Ext.drewR | apply Ext.drewNR | (refine Ext.trans' ?_ (by assumption))))
  clear hb1
  have e2' := ((bcell hE).1 _ _ ltb).trans e2
  have k2' := ((bcell hE).1 _ _ ltb2).trans k2
  have lb1 : b < w1.heap.size := Nat.lt_of_lt_of_le ltb hE.size
  have lb2 : b2 < w1.heap.size := Nat.lt_of_lt_of_le ltb2 hE.size
  clear e0 e1 k0 k1 e2 k2
  go_wp2_with fail
  clear hmk
  go_loopw [48] (fun u48 wr => ∃ k : Nat, k ≤ N ∧ u48 = .int .i64 k ∧ (∀ j, j < k → I64 (f j)) ∧ Ext w1 wr ∧ w1.heap.size < wr.heap.size ∧ wr.heap[w1.heap.size]? = some (.cells (fillA f k N) 2 (0, 0))) (fun u48 _ => N - (intOf u48).toNat)
  case atStart => exact ⟨0, Nat.zero_le _, rfl, fun j hj => absurd hj (Nat.not_lt_zero j), Ext.alloc' _ _, by rw [size_alloc]; omega, heap_at _ _ rfl⟩
  case round =>
    obtain ⟨k, hk, rfl, hfit, hx, hsz, hg2⟩ := hrel
    have HFIT := Lib.hid hfit
    clear hfit
    have hEw : Ext w wr := hE.trans' hx
    have j0 := ((bcell hx).1 _ 0 (show w.heap.size < w1.heap.size by omega)).trans hj0
    have j1 := ((bcell hx).1 _ 1 (show w.heap.size < w1.heap.size by omega)).trans hj1
    have g2 := ((bcell hx).1 _ 2 (show b < w1.heap.size by omega)).trans e2'
    have m2 := ((bcell hx).1 _ 2 (show b2 < w1.heap.size by omega)).trans k2'
    have s0 : w.heap.size < wr.heap.size := by omega
    have s1 : b < wr.heap.size := by omega
    have s2 : b2 < wr.heap.size := by omega
    have s3 : c < wr.heap.size := by omega
    have s4 : c2 < wr.heap.size := by omega
    by_cases hlt : k < N
    · have x0 := ((bcell hEw).1 _ k ltc).trans (HC.out.cell (i := k) (by rw [HL.out]; exact hlt))
      have x1 := ((bcell hEw).1 _ k ltc2).trans (HC2.out.cell (i := k) (by rw [HL2.out]; exact hlt))
      have hfk : f k = l.getD k 0 - l2.getD k 0 := by rw [HF.out]
      have i0 := getD_i64 hI k
      have i1 := getD_i64 hI2 k
      generalize l.getD k 0 = a at *
      generalize l2.getD k 0 = a2 at *
      obtain ⟨v0, d0⟩ : ∃ v0, wr.cell? ⟨w1.heap.size, k, none⟩ = some v0 := ⟨_, (cell_of hg2 k).trans (fillA_at _ _ _ _ hlt)⟩
      have d1 := frozen_of hg2 k
      have HG := Lib.hid hg2
      clear hg2
      by_cases hf : I64 (a - a2)
      · have HFK := Lib.hid hfk
        have HFI := Lib.hid hf
        clear hfk hf
        go_wp2_with fail
        refine wp_region_after (by kernel_rfl) (by kernel_rfl) ?_
        repeat (go_big_quiet_step ((go_at_call 148; exact quiet_after (Minus_fit a a2 i0 i1 HFI.out _))))
        refine wpQuiet_nil ?_
        rintro _ ⟨xx, rfl⟩
        obtain ⟨w5, hb5⟩ := xx
        try dsimp only
        have d0' := ((bcell hb5).1 _ _ hsz).trans d0
        have d1' := ((bcell hb5).2 _ _ hsz).trans d1
        have hg5 := (hb5.block _ hsz).trans HG.out
        have HG5 := Lib.hid hg5
        have hx5 := hx.trans' hb5
        have hs5 := hb5.size
        clear hg5 d0 d1
        go_wp2_with fail
        go_roundw
        case rel =>
          refine ⟨k + 1, by omega, by go_num, fun j hj => ?_, hx5.setR (Nat.le_refl _) _, by rw [size_setCell]; omega, ?_⟩
          · by_cases hjk : j < k
            · exact HFIT.out j hjk
            · obtain rfl : j = k := by omega
              rw [HFK.out]; exact HFI.out
          · rw [setCell_same HG5.out, ← fillA_set, HFK.out]
        case measure => simp [intOf]; omega
      · have HFK := Lib.hid hfk
        have HFI := Lib.hid hf
        clear hfk hf
        go_wp2_with fail
        refine wp_region_after (by kernel_rfl) (by kernel_rfl) ?_
        repeat (go_big_quiet_step ((go_at_call 148; exact quiet_after (Minus_no a a2 i0 i1 HFI.out _))))
        refine wpQuiet_nil ?_
        rintro _ ⟨xx, rfl⟩
        obtain ⟨w5, hb5⟩ := xx
        try dsimp only
        go_wp2_with fail
        go_ret
        refine .inr ⟨?_, rfl, hEw.trans' hb5⟩
        exact map_not hlt (by rw [HFK.out]; exact HFI.out)
    · have HG := Lib.hid hg2
      clear hg2
      obtain rfl : k = N := by omega
      obtain ⟨cur, hcur, hcs, hct⟩ := (HC.out.keep (hEw.block c ltc)).ex
      have HCUR := Lib.hid hcur
      have HCS := Lib.hid hcs
      clear hcur hcs hct
      go_wp2_with (with_reducible refine wpList_copy_own rfl _ _ 43 43 rfl 2 Tryz.underlying43 (by kernel_rfl) c 0 _ _ ⟨w1.heap.size, 0, none⟩ _ _ rfl rfl cur 2 HCUR.out (ints ((List.range k).map f)) ?a1 ?a2 ?a3 ints_one ?_)
      case a1 => simp [ints]
      case a2 =>
        intro j v hj
        rw [addr_plain, Nat.zero_add, cell_of HG.out j, ← Array.getElem?_toList, fillA_done]
        exact hj
      case a3 =>
        have := HCS.out
        have := HC.out.le
        rw [HL.out] at this
        simp only [ints, List.length_map, List.length_range]
        omega
      go_ret
      refine .inl ⟨map_all HFIT.out, rfl, ?_, ?_⟩
      · exact HH.out.row hEw HB.out HC.out HCUR.out HCS.out (by rw [HL.out]; simp)
      · exact mod_row (hEw.mod _) _
end Go.Proofs.YtfhdjekpdifajaaGreat

/- Plain laws: sums of cells are the cells of all updates. -/
namespace Go.Proofs.YtfhdjekpdifajaaGreat
set_option linter.unusedVariables false

theorem sumIf_append (p : Int → Bool) (a b : List (Int × Int)) : sumIf p (a ++ b) = sumIf p a + sumIf p b := by
  unfold sumIf; rw [List.map_append, lsum_append]
theorem cutP_append (C : Cfg) (lv : Int) (a b : List (Int × Int)) : cutP C lv (a ++ b) = cutP C lv a ++ cutP C lv b := by simp [cutP]
theorem list_ext_getD {a b : List Int} (hl : a.length = b.length) (h : ∀ i, i < a.length → a.getD i 0 = b.getD i 0) : a = b := by
  apply List.ext_getElem hl
  intro i h1 h2
  have := h i h1
  simpa [h1, h2] using this
theorem plusL_get {l m : List Int} {i : Nat} (h : i < l.length) : (plusL l m).getD i 0 = l.getD i 0 + m.getD i 0 := by simp [plusL, h]
theorem minusL_get {l m : List Int} {i : Nat} (h : i < l.length) : (minusL l m).getD i 0 = l.getD i 0 - m.getD i 0 := by simp [minusL, h]
theorem feed_plus (C : Cfg) (hok : C.Ok) (lv : Int) (R W : Nat) (hr : C.rows = R) (hw : C.width = W) (hm : C.mode ≠ 2) (us vs : List (Int × Int)) :
    plusL (feed C lv R W us (zs (R * W))) (feed C lv R W vs (zs (R * W))) = feed C lv R W (us ++ vs) (zs (R * W)) := by
  have hW : 0 < W := by have := hok.w1; omega
  apply list_ext_getD
  · rw [plusL_len, feed_len, feed_len]
  · intro i hi
    rw [plusL_len] at hi
    rw [plusL_get hi]
    rw [feed_len, zs_len] at hi
    have h1 : i / W < R := Nat.div_lt_of_lt_mul (by rw [Nat.mul_comm]; exact hi)
    have h2 : i % W < W := Nat.mod_lt _ hW
    have e : i = i / W * W + i % W := by have := Nat.div_add_mod i W; rw [Nat.mul_comm] at this; exact this.symm
    rw [e, feed_cell C hok lv R W hr hw hm us h1 h2, feed_cell C hok lv R W hr hw hm vs h1 h2, feed_cell C hok lv R W hr hw hm (us ++ vs) h1 h2, cutP_append, sumIf_append]
theorem minus_plus {a b : List Int} (h : a.length = b.length) : minusL (plusL a b) b = a := by
  apply list_ext_getD
  · rw [minusL_len, plusL_len]
  · intro i hi
    rw [minusL_len] at hi
    rw [minusL_get hi]
    rw [plusL_len] at hi
    rw [plusL_get hi]
    omega
theorem minus_self (a : List Int) : minusL a a = zs a.length := by
  apply list_ext_getD
  · rw [minusL_len, zs_len]
  · intro i hi
    rw [minusL_len] at hi
    rw [minusL_get hi]
    simp [zs, hi]
theorem feed_fit (C : Cfg) (lv : Int) (R W : Nat) (us : List (Int × Int)) (hl : us.length ≤ 1000) : allI (feed C lv R W us (zs (R * W))) := by
  intro x hx
  have := feed_bnd C lv R W us x hx
  unfold I64
  constructor <;> omega
theorem fus_cat (us : List (Int × Int)) {k : Nat} (hk : k ≤ 60) : fus us 0 k ++ fus us k 60 = fus us 0 60 := by
  unfold fus
  rw [List.drop_zero, List.drop_zero]
  have : us.take k = (us.take 60).take k := by rw [List.take_take, Nat.min_eq_left hk]
  rw [this, List.take_append_drop]
theorem zs_fit (n : Nat) : allI (zs n) := by
  intro x hx
  simp only [zs, List.mem_replicate] at hx
  rw [hx.2]; unfold I64; omega
theorem IntsAt.mod {S : Nat → Prop} {w w' : World} {v : Value} {xs : List Int} (h : IntsAt w v xs) (hm : Mod S w w') (hne : ∀ g off n cap, v = .slice (some ⟨g, off, none⟩) n cap → ¬ S g) : IntsAt w' v xs := by
  rcases h with h | ⟨g, off, cap, h1, h2, h3⟩
  · exact .inl h
  · exact .inr ⟨g, off, cap, h1, Nat.lt_of_lt_of_le h2 hm.size, fun k hk => (mcell hm h2 (hne _ _ _ _ h1) _).trans (h3 k hk)⟩
theorem SAt.mod {S : Nat → Prop} {w w' : World} {s b c : Nat} {C : Cfg} {lv : Int} {R W : Nat} {l : List Int} (h : SAt w s b c C lv R W l) (hm : Mod S w w') (h1 : ¬ S s) (h2 : ¬ S b) (h3 : ¬ S c) : SAt w' s b c C lv R W l :=
  h.keep (hm.block s h.lts h1) (hm.block b h.g.ltb h2) (hm.block c h.g.ltc h3)
end Go.Proofs.YtfhdjekpdifajaaGreat

/- Rows of the call's own; worlds in which some blocks may have turned. -/
namespace Go.Proofs.YtfhdjekpdifajaaGreat
set_option linter.unusedVariables false
open Go.RowKit

theorem own_setc {w : World} {base n size : Nat} {e : TypeId} {v : Value} {xs : List Value} (h : w.ownsRow base e size v n xs) {b : Nat} (hb : b < base) (o : Nat) (u : Value) : (w.setCell ⟨b, o, none⟩ u).ownsRow base e size v n xs := by
  refine ⟨h.1, ?_⟩
  rcases h.2 with h' | ⟨g, cap, cur, hv, hg, hh, hr⟩
  · exact .inl h'
  · exact .inr ⟨g, cap, cur, hv, hg, (setCell_other _ _ (by omega)).trans hh, hr⟩
theorem own_sl {w : World} {base n size : Nat} {e : TypeId} {v : Value} {xs : List Value} (h : w.ownsRow base e size v n xs) : ∃ p c, v = .slice p n c := by
  rcases h.2 with ⟨rfl, rfl⟩ | ⟨g, cap, cur, rfl, _⟩
  · exact ⟨none, 0, rfl⟩
  · exact ⟨_, _, rfl⟩
theorem own_ext {w w' : World} {base n size : Nat} {e : TypeId} {v : Value} {xs : List Value} (h : w.ownsRow base e size v n xs) (hE : Ext w w') : w'.ownsRow base e size v n xs := by
  refine ⟨h.1, ?_⟩
  rcases h.2 with h' | ⟨g, cap, cur, hv, hg, hh, hr⟩
  · exact .inl h'
  · exact .inr ⟨g, cap, cur, hv, hg, hE.keep hh, hr⟩
/-- A world in which what W has is as it was, but for the blocks in S. -/
structure AftS (S : Nat → Prop) (W : World) where
  w : World
  h : Mod S W w
instance (S : Nat → Prop) (W : World) : Nonempty (AftS S W) := ⟨⟨W, Mod.refl _ W⟩⟩
@[go_sem] theorem AftS.cell {S : Nat → Prop} {W : World} (x : AftS S W) {b o : Nat} (h : b < W.heap.size) (hn : ¬ S b) : x.w.cell? ⟨b, o, none⟩ = W.cell? ⟨b, o, none⟩ := mcell x.h h hn o
theorem afs_drew (S : Nat → Prop) (W : World) : ∃ x : AftS S W, W.drew = x.w := ⟨⟨_, Ext.mod _ (Below.drew (Ext.refl W))⟩, rfl⟩
theorem afs_step {S : Nat → Prop} {W w w' : World} (h : ∃ x : AftS S W, w = x.w) (he : Ext w w') : ∃ x : AftS S W, w' = x.w := by
  obtain ⟨x, rfl⟩ := h
  exact ⟨⟨w', x.h.trans (he.mod _)⟩, rfl⟩
theorem mod_grown {S : Nat → Prop} {W w w' : World} {o : Obj} {row : Option Nat} (h : Mod S W w) (hg : (w.alloc o).grownBy w' row) (hr : ∀ i, row = some i → S i) : Mod S W w' := by
  refine ⟨hg.os.trans h.os, hg.tape.trans h.tape, hg.output.trans h.output, Nat.le_trans h.size (Nat.le_trans (by rw [size_alloc]; exact Nat.le_succ _) hg.size), fun k hk hn => ?_⟩
  exact (grown_old hg (Nat.lt_of_lt_of_le hk h.size) (fun e => hn (hr k e.symm))).trans (h.block k hk hn)
theorem afs_grown {S : Nat → Prop} {W w w' : World} {o : Obj} {row : Option Nat} (h : ∃ x : AftS S W, w = x.w) (hg : (w.alloc o).grownBy w' row) (hr : ∀ i, row = some i → S i) : ∃ x : AftS S W, w' = x.w := by
  obtain ⟨x, rfl⟩ := h
  exact ⟨⟨w', mod_grown x.h hg hr⟩, rfl⟩
theorem info_upd : ∃ i z, Tryz.prog.info? 138 = some i ∧ i.zero = some z ∧ i.size = 2 ∧ i.bytes = 16 ∧ z.cells.size = 2 := by
  have h : (Tryz.prog.info? 138).map (fun i => (i.zero, i.size, i.bytes)) = some (some (.agg #[.int .u64 0, .int .i64 0]), 2, 16) := by kernel_rfl
  match hi : Tryz.prog.info? 138, h with
  | some i, h =>
    simp only [Option.map_some, Option.some.injEq, Prod.mk.injEq] at h
    exact ⟨i, _, rfl, h.1, h.2.1, h.2.2, rfl⟩
end Go.Proofs.YtfhdjekpdifajaaGreat
