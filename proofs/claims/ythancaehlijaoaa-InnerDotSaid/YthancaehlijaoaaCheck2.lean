/- sketch.Check in the mode Conservative, and of keys that are not there; sketch.Update. -/
import Derived.Test.YthancaehlijaoaaCheck
namespace Go.Proofs.Ythancaehlijaoaa
open Go.RowKit
set_option maxRecDepth 20000 in
set_option maxHeartbeats 2000000 in
theorem Check_no (s b c : Nat) (C : Cfg) (lv : Int) (R W : Nat) (l : List Int) (key d : Int) (w : World) (h : SAt w s b c C lv R W l) (hk1 : keys C lv ≤ key) :
    Calls Try.prog 47 #[.pointer (some ⟨s, 0, none⟩), .int .u64 key, .int .i64 d] w (CheckPost w C lv R W l key d) := by
  have hlt := h.lts
  have c0 := (cell_of h.ex 0).trans rfl
  have c1 := (cell_of h.ex 1).trans rfl
  have c2 := (cell_of h.ex 2).trans rfl
  have c3 := (cell_of h.ex 3).trans rfl
  have c4 := (cell_of h.ex 4).trans rfl
  have c5 := (cell_of h.ex 5).trans rfl
  have c6 := (cell_of h.ex 6).trans rfl
  have hnil := fun (x : World) (p : Option Addr) (n k : Nat) => Lib.run_eql_slice_nil (P := Try.prog) x 36 3 p n k 0 0 Try.underlying36
  have HE := Lib.hid (errU_key (R := R) (W := W) (l := l) (d := d) hk1)
  go_enter Try.func47, Try.ntmps47
  go_wp2
  have hC0 := af_drew w
  refine pi_start (fun w' => ∃ x : After w, w' = x.w) [] (by kernel_rfl) ?_
  refine pi_t 0 rfl (by kernel_rfl) (by kernel_rfl) (fun _ _ _ _ h => h) (fun K hK => ?_)
  go_big_quiet_op
  refine hK _ ?_
  clear hK K
  refine pi_t 1 rfl (by kernel_rfl) (by kernel_rfl) (fun _ _ _ _ h => h) (fun K hK => ?_)
  go_big_quiet_op
  refine hK _ ?_
  clear hK K
  refine pi_t 2 rfl (by kernel_rfl) (by kernel_rfl) (fun _ _ _ _ h => h) (fun K hK => ?_)
  go_big_quiet_op
  refine hK _ ?_
  clear hK K
  refine pi_c 3 (by assumption) rfl (by kernel_rfl) (by kernel_rfl) (fun _ _ _ _ h => h) (fun K hK => ?_)
  go_big_quiet_op
  refine hK _ ?_
  clear hK K
  refine pi_t 4 rfl (by kernel_rfl) (by kernel_rfl) (fun _ _ _ _ h => h) (fun K hK => ?_)
  go_big_quiet_op
  refine hK _ ?_
  clear hK K
  refine pi_t 5 rfl (by kernel_rfl) (by kernel_rfl) (fun _ _ _ _ h => h) (fun K hK => ?_)
  go_big_quiet_op
  refine hK _ ?_
  clear hK K
  refine pi_t 6 rfl (by kernel_rfl) (by kernel_rfl) (fun _ _ _ _ h => h) (fun K hK => ?_)
  go_big_quiet_op
  refine hK _ ?_
  clear hK K
  refine pi_c 7 (by assumption) rfl (by kernel_rfl) (by kernel_rfl) (fun _ _ _ _ h => h) (fun K hK => ?_)
  go_big_quiet_op
  refine hK _ ?_
  clear hK K
  refine pi_t 8 rfl (by kernel_rfl) (by kernel_rfl) (fun _ _ _ _ h => h) (fun K hK => ?_)
  go_big_quiet_op
  refine hK _ ?_
  clear hK K
  refine pi_l 9 rfl (by kernel_rfl) (fun K hK => ?_)
  go_wp2_with (go_at_call 20; refine (Columns_no C h.ok lv key h.lo h.hi hk1 _).mono ?_; rintro e w1 ⟨rfl, hx0⟩)
  refine hK _ _ (fun _ h => af_step h hx0) ?_
  clear hK K
  refine pi_t 10 rfl (by kernel_rfl) (by kernel_rfl) (fun _ _ _ _ h => h) (fun K hK => ?_)
  go_big_quiet_op
  refine hK _ ?_
  clear hK K
  refine pi_end (by kernel_rfl) ?_
  have hx : Ext w w1 := Ext.trans' (Below.drew (Ext.refl w)) hx0
  go_wp2
  go_ret
  exact ⟨by rw [HE.out]; rfl, hx⟩
set_option maxRecDepth 20000 in
set_option maxHeartbeats 2000000 in
theorem Check_con (s b c : Nat) (C : Cfg) (lv : Int) (R W : Nat) (l : List Int) (key d : Int) (w : World) (h : SAt w s b c C lv R W l) (hd : I64 d) (hk0 : 0 ≤ key) (hk1 : key < keys C lv) (hmode : C.mode = 2) :
    Calls Try.prog 47 #[.pointer (some ⟨s, 0, none⟩), .int .u64 key, .int .i64 d] w (CheckPost w C lv R W l key d) := by
  have hlt := h.lts
  have c0 := (cell_of h.ex 0).trans rfl
  have c1 := (cell_of h.ex 1).trans rfl
  have c2 := (cell_of h.ex 2).trans rfl
  have c3 := (cell_of h.ex 3).trans rfl
  have c4 := (cell_of h.ex 4).trans rfl
  have c5 := (cell_of h.ex 5).trans rfl
  have c6 := (cell_of h.ex 6).trans rfl
  have hnil := fun (x : World) (p : Option Addr) (n k : Nat) => Lib.run_eql_slice_nil (P := Try.prog) x 36 3 p n k 0 0 Try.underlying36
  have hm := cols_meets C h.ok lv key h.hr h.hw
  have hmb : (C.mode == 2) = true := by simp [hmode]
  by_cases hdn : d < 0
  · have HE := Lib.hid (errU_neg (R := R) (W := W) (l := l) hk1 hmode hdn)
    have hdb : decide (d < 0) = true := by simp [hdn]
    clear hmode
    go_enter Try.func47, Try.ntmps47
    go_wp2
    have hC0 := af_drew w
    refine pi_start (fun w' => ∃ x : After w, w' = x.w) [] (by kernel_rfl) ?_
    refine pi_t 0 rfl (by kernel_rfl) (by kernel_rfl) (fun _ _ _ _ h => h) (fun K hK => ?_)
    go_big_quiet_op
    refine hK _ ?_
    clear hK K
    refine pi_t 1 rfl (by kernel_rfl) (by kernel_rfl) (fun _ _ _ _ h => h) (fun K hK => ?_)
    go_big_quiet_op
    refine hK _ ?_
    clear hK K
    refine pi_t 2 rfl (by kernel_rfl) (by kernel_rfl) (fun _ _ _ _ h => h) (fun K hK => ?_)
    go_big_quiet_op
    refine hK _ ?_
    clear hK K
    refine pi_c 3 (by assumption) rfl (by kernel_rfl) (by kernel_rfl) (fun _ _ _ _ h => h) (fun K hK => ?_)
    go_big_quiet_op
    refine hK _ ?_
    clear hK K
    refine pi_t 4 rfl (by kernel_rfl) (by kernel_rfl) (fun _ _ _ _ h => h) (fun K hK => ?_)
    go_big_quiet_op
    refine hK _ ?_
    clear hK K
    refine pi_t 5 rfl (by kernel_rfl) (by kernel_rfl) (fun _ _ _ _ h => h) (fun K hK => ?_)
    go_big_quiet_op
    refine hK _ ?_
    clear hK K
    refine pi_t 6 rfl (by kernel_rfl) (by kernel_rfl) (fun _ _ _ _ h => h) (fun K hK => ?_)
    go_big_quiet_op
    refine hK _ ?_
    clear hK K
    refine pi_c 7 (by assumption) rfl (by kernel_rfl) (by kernel_rfl) (fun _ _ _ _ h => h) (fun K hK => ?_)
    go_big_quiet_op
    refine hK _ ?_
    clear hK K
    refine pi_t 8 rfl (by kernel_rfl) (by kernel_rfl) (fun _ _ _ _ h => h) (fun K hK => ?_)
    go_big_quiet_op
    refine hK _ ?_
    clear hK K
    refine pi_l 9 rfl (by kernel_rfl) (fun K hK => ?_)
    go_wp2_with (go_at_call 20; refine (Columns_c C h.ok lv key h.lo h.hi (by have := h.hi; have := h.ok.b2; omega) hk0 hk1 _).mono ?_; rintro e w1 ⟨v, rfl, ho, hx0⟩)
    refine hK _ _ (fun _ h => af_step h hx0) ?_
    clear hK K
    refine pi_t 10 rfl (by kernel_rfl) (by kernel_rfl) (fun _ _ _ _ h => h) (fun K hK => ?_)
    go_big_quiet_op
    refine hK _ ?_
    clear hK K
    refine pi_end (by kernel_rfl) ?_
    have hx : Ext w w1 := Ext.trans' (Below.drew (Ext.refl w)) hx0
    have hv := IntsAt.of_row ho
    have hne := own_ne ho (c := c) (by exact h.g.ltc)
    obtain ⟨vg, vo, vc, rfl, _⟩ := hv.slice (by rw [hm.len]; have := h.g.r1; omega)
    rw [hm.len] at hv hne ⊢
    clear ho hx0
    have HV := Lib.hid hv
    clear hv hne
    have hS := h.ext hx
    have c0' := (cell_of hS.ex 0).trans rfl
    clear c0 c1 c2 c3 c4 c5 c6
    go_wp2_with fail
    refine (Read_c b c R W l _ _ _ hS.g HV.out hm).mono ?_
    rintro e w2 ⟨v2, rfl, ho2, hx2⟩
    have hS2 := hS.ext hx2
    have c4' := (cell_of hS2.ex 4).trans rfl
    go_wp2
    go_ret
    exact ⟨by rw [HE.out]; rfl, hx.trans' hx2⟩
  · have HE := Lib.hid (errU_con (R := R) (W := W) (l := l) hk1 hmode hdn)
    have hdb : decide (d < 0) = false := by simp; omega
    clear hmode
    go_enter Try.func47, Try.ntmps47
    go_wp2
    have hC0 := af_drew w
    refine pi_start (fun w' => ∃ x : After w, w' = x.w) [] (by kernel_rfl) ?_
    refine pi_t 0 rfl (by kernel_rfl) (by kernel_rfl) (fun _ _ _ _ h => h) (fun K hK => ?_)
    go_big_quiet_op
    refine hK _ ?_
    clear hK K
    refine pi_t 1 rfl (by kernel_rfl) (by kernel_rfl) (fun _ _ _ _ h => h) (fun K hK => ?_)
    go_big_quiet_op
    refine hK _ ?_
    clear hK K
    refine pi_t 2 rfl (by kernel_rfl) (by kernel_rfl) (fun _ _ _ _ h => h) (fun K hK => ?_)
    go_big_quiet_op
    refine hK _ ?_
    clear hK K
    refine pi_c 3 (by assumption) rfl (by kernel_rfl) (by kernel_rfl) (fun _ _ _ _ h => h) (fun K hK => ?_)
    go_big_quiet_op
    refine hK _ ?_
    clear hK K
    refine pi_t 4 rfl (by kernel_rfl) (by kernel_rfl) (fun _ _ _ _ h => h) (fun K hK => ?_)
    go_big_quiet_op
    refine hK _ ?_
    clear hK K
    refine pi_t 5 rfl (by kernel_rfl) (by kernel_rfl) (fun _ _ _ _ h => h) (fun K hK => ?_)
    go_big_quiet_op
    refine hK _ ?_
    clear hK K
    refine pi_t 6 rfl (by kernel_rfl) (by kernel_rfl) (fun _ _ _ _ h => h) (fun K hK => ?_)
    go_big_quiet_op
    refine hK _ ?_
    clear hK K
    refine pi_c 7 (by assumption) rfl (by kernel_rfl) (by kernel_rfl) (fun _ _ _ _ h => h) (fun K hK => ?_)
    go_big_quiet_op
    refine hK _ ?_
    clear hK K
    refine pi_t 8 rfl (by kernel_rfl) (by kernel_rfl) (fun _ _ _ _ h => h) (fun K hK => ?_)
    go_big_quiet_op
    refine hK _ ?_
    clear hK K
    refine pi_l 9 rfl (by kernel_rfl) (fun K hK => ?_)
    go_wp2_with (go_at_call 20; refine (Columns_c C h.ok lv key h.lo h.hi (by have := h.hi; have := h.ok.b2; omega) hk0 hk1 _).mono ?_; rintro e w1 ⟨v, rfl, ho, hx0⟩)
    refine hK _ _ (fun _ h => af_step h hx0) ?_
    clear hK K
    refine pi_t 10 rfl (by kernel_rfl) (by kernel_rfl) (fun _ _ _ _ h => h) (fun K hK => ?_)
    go_big_quiet_op
    refine hK _ ?_
    clear hK K
    refine pi_end (by kernel_rfl) ?_
    have hx : Ext w w1 := Ext.trans' (Below.drew (Ext.refl w)) hx0
    have hv := IntsAt.of_row ho
    have hne := own_ne ho (c := c) (by exact h.g.ltc)
    obtain ⟨vg, vo, vc, rfl, _⟩ := hv.slice (by rw [hm.len]; have := h.g.r1; omega)
    rw [hm.len] at hv hne ⊢
    clear ho hx0
    have HV := Lib.hid hv
    clear hv hne
    have hS := h.ext hx
    have c0' := (cell_of hS.ex 0).trans rfl
    clear c0 c1 c2 c3 c4 c5 c6
    go_wp2_with fail
    refine (Read_c b c R W l _ _ _ hS.g HV.out hm).mono ?_
    rintro e w2 ⟨v2, rfl, ho2, hx2⟩
    have hS2 := hS.ext hx2
    have c4' := (cell_of hS2.ex 4).trans rfl
    have c0'' := (cell_of hS2.ex 0).trans rfl
    clear ho2
    go_wp2_with fail
    refine (Least_c b c R W l _ _ _ hS2.g (HV.out.ext hx2) hm).mono ?_
    rintro e w3 ⟨x, rfl, hk, hx3⟩
    have hmin := kth0_min hk
    have hxI : I64 x := by
      have hmem : x ∈ readL W l (cols C lv key) := sameN_pos (by have := hk.1; have := hk.2; omega)
      simp only [readL, List.mem_map, List.mem_range] at hmem
      obtain ⟨j, _, rfl⟩ := hmem
      exact getD_i64 h.fit _
    have HM := Lib.hid hmin
    have hE : Ext w w3 := (hx.trans' hx2).trans' hx3
    clear hmin hk c0' c4' c0''
    by_cases hfit : I64 (x + d)
    · have fb := fitB_yes hfit
      go_wp2
      refine wp_loop_rounds 2 ?_
      rw [rounds_succ]
      go_wp2_with fail
      refine (Plus_c x d hxI hd _).mono ?_
      rintro e w4 ⟨rfl, hb4⟩
      go_wp2
      rw [rounds_succ]
      go_wp2
      go_ret
      exact ⟨by rw [HE.out, HM.out, fb]; rfl, by (repeat' (first | exact Ext.refl _ | assumption | apply Ext.allocR | apply Ext.drewR | apply Ext.drewNR | (refine Ext.trans' ?_ (by assumption))))⟩
    · have fb := fitB_no hfit
      go_wp2
      refine wp_loop_rounds 2 ?_
      rw [rounds_succ]
      go_wp2_with fail
      refine (Plus_c x d hxI hd _).mono ?_
      rintro e w4 ⟨rfl, hb4⟩
      go_wp2
      go_ret
      exact ⟨by rw [HE.out, HM.out, fb]; rfl, by (repeat' (first | exact Ext.refl _ | assumption | apply Ext.allocR | apply Ext.drewR | apply Ext.drewNR | (refine Ext.trans' ?_ (by assumption))))⟩
theorem Check_c (s b c : Nat) (C : Cfg) (lv : Int) (R W : Nat) (l : List Int) (key d : Int) (w : World) (h : SAt w s b c C lv R W l) (hd : I64 d) (hk0 : 0 ≤ key) :
    Calls Try.prog 47 #[.pointer (some ⟨s, 0, none⟩), .int .u64 key, .int .i64 d] w (CheckPost w C lv R W l key d) := by
  by_cases hk : key < keys C lv
  · by_cases hm : C.mode = 2
    · exact Check_con s b c C lv R W l key d w h hd hk0 hk hm
    · exact Check_sum s b c C lv R W l key d w h hd hk0 hk hm
  · exact Check_no s b c C lv R W l key d w h (by omega)
end Go.Proofs.Ythancaehlijaoaa
