/- sketch.Update changes what its columns name, or nothing. -/
import Derived.Test.YthancaehlijaoaaCheck2
namespace Go.Proofs.Ythancaehlijaoaa
open Go.RowKit

/-- The cells behind an update that was not refused. -/
def updL (C : Cfg) (lv : Int) (R W : Nat) (l : List Int) (key d : Int) : List Int :=
  bif decide (C.mode = 2) then putK W (cols C lv key) (fun k => max (l.getD (at_ W (cols C lv key) k) 0) (minL (readL W l (cols C lv key)) + d)) R l
  else putK W (cols C lv key) (fun k => l.getD (at_ W (cols C lv key) k) 0 + d) R l
theorem mem_set {l : List Int} {i : Nat} {v x : Int} (h : x ∈ l.set i v) : x ∈ l ∨ x = v := by
  rcases List.mem_or_eq_of_mem_set h with h | h
  · exact .inl h
  · exact .inr h
theorem putK_mem {W : Nat} {cs : List Int} {f : Nat → Int} {l : List Int} {x : Int} : ∀ k, x ∈ putK W cs f k l → x ∈ l ∨ ∃ j, j < k ∧ x = f j := by
  intro k
  induction k with
  | zero => intro h; exact .inl h
  | succ k ih =>
    intro h
    rw [putK] at h
    rcases mem_set h with h | h
    · rcases ih h with h | ⟨j, hj, h⟩
      · exact .inl h
      · exact .inr ⟨j, by omega, h⟩
    · exact .inr ⟨k, by omega, h⟩
def UpdPost (w : World) (s b c : Nat) (C : Cfg) (lv : Int) (R W : Nat) (l : List Int) (key d : Int) (e : Ending) (w' : World) : Prop :=
  e = .returned (.int .i64 (errU C lv R W l key d)) ∧
    ((errU C lv R W l key d = 0 ∧ SAt w' s b c C lv R W (updL C lv R W l key d) ∧ Mod (fun k => k = c) w w') ∨ (errU C lv R W l key d ≠ 0 ∧ Ext w w'))
theorem errU_zero_key {C : Cfg} {lv : Int} {R W : Nat} {l : List Int} {key d : Int} (h : errU C lv R W l key d = 0) : key < keys C lv := by
  rcases Int.lt_or_le key (keys C lv) with h' | h'
  · exact h'
  · rw [errU_key h'] at h; cases h
set_option maxRecDepth 20000 in
set_option maxHeartbeats 2000000 in
theorem Update_c (s b c : Nat) (C : Cfg) (lv : Int) (R W : Nat) (l : List Int) (key d : Int) (w : World) (h : SAt w s b c C lv R W l) (hd : I64 d) (hk0 : 0 ≤ key) :
    Calls Try.prog 35 #[.pointer (some ⟨s, 0, none⟩), .int .u64 key, .int .i64 d] w (UpdPost w s b c C lv R W l key d) := by
  by_cases he0 : errU C lv R W l key d = 0
  · have hk1 := errU_zero_key he0
    have HE := Lib.hid he0
    clear he0
    have hW := h
    go_enter Try.func35, Try.ntmps35
    go_wp2_with fail
    refine (Check_c s b c C lv R W l key d _ h hd hk0).mono ?_
    rintro e w0 ⟨rfl, hx00⟩
    rw [HE.out]
    have h := h.ext hx00
    have hlt := h.lts
    have c0 := (cell_of h.ex 0).trans rfl
    have c1 := (cell_of h.ex 1).trans rfl
    have c2 := (cell_of h.ex 2).trans rfl
    have c3 := (cell_of h.ex 3).trans rfl
    have c4 := (cell_of h.ex 4).trans rfl
    have c5 := (cell_of h.ex 5).trans rfl
    have c6 := (cell_of h.ex 6).trans rfl
    have hm := cols_meets C h.ok lv key h.hr h.hw
    go_wp2
    have hC0 := af_drew w0
    refine pi_start (fun w' => ∃ x : After w0, w' = x.w) [] (by kernel_rfl) ?_
    refine pi_t 0 rfl (by kernel_rfl) (by kernel_rfl) (fun _ _ _ _ h => h) (fun K hK => ?_)
    go_big_quiet_op
    refine hK _ ?_
    clear hK K
    refine pi_t 1 rfl (by kernel_rfl) (by kernel_rfl) (fun _ _ _ _ h => h) (fun K hK => ?_)
    go_big_quiet_op
    refine hK _ ?_
    clear hK K
    refine pi_t 2 rfl (by kernel_rfl) (by kernel_rfl) (fun _ _ _ _ h => h) (fun K hK => ?_)
    go_big_quiet_op
    refine hK _ ?_
    clear hK K
    refine pi_c 3 (by assumption) rfl (by kernel_rfl) (by kernel_rfl) (fun _ _ _ _ h => h) (fun K hK => ?_)
    go_big_quiet_op
    refine hK _ ?_
    clear hK K
    refine pi_t 4 rfl (by kernel_rfl) (by kernel_rfl) (fun _ _ _ _ h => h) (fun K hK => ?_)
    go_big_quiet_op
    refine hK _ ?_
    clear hK K
    refine pi_t 5 rfl (by kernel_rfl) (by kernel_rfl) (fun _ _ _ _ h => h) (fun K hK => ?_)
    go_big_quiet_op
    refine hK _ ?_
    clear hK K
    refine pi_t 6 rfl (by kernel_rfl) (by kernel_rfl) (fun _ _ _ _ h => h) (fun K hK => ?_)
    go_big_quiet_op
    refine hK _ ?_
    clear hK K
    refine pi_c 7 (by assumption) rfl (by kernel_rfl) (by kernel_rfl) (fun _ _ _ _ h => h) (fun K hK => ?_)
    go_big_quiet_op
    refine hK _ ?_
    clear hK K
    refine pi_t 8 rfl (by kernel_rfl) (by kernel_rfl) (fun _ _ _ _ h => h) (fun K hK => ?_)
    go_big_quiet_op
    refine hK _ ?_
    clear hK K
    refine pi_l 9 rfl (by kernel_rfl) (fun K hK => ?_)
    go_wp2_with (go_at_call 20; refine (Columns_c C h.ok lv key h.lo h.hi (by have := h.hi; have := h.ok.b2; omega) hk0 hk1 _).mono ?_; rintro e w1 ⟨v, rfl, ho, hx0⟩)
    refine hK _ _ (fun _ h => af_step h hx0) ?_
    clear hK K
    refine pi_t 10 rfl (by kernel_rfl) (by kernel_rfl) (fun _ _ _ _ h => h) (fun K hK => ?_)
    go_big_quiet_op
    refine hK _ ?_
    clear hK K
    refine pi_end (by kernel_rfl) ?_
    have hx : Ext w0 w1 := Ext.trans' (Below.drew (Ext.refl w0)) hx0
    have hv := IntsAt.of_row ho
    have hne := own_ne ho (c := c) (by exact h.g.ltc)
    obtain ⟨vg, vo, vc, rfl, _⟩ := hv.slice (by rw [hm.len]; have := h.g.r1; omega)
    rw [hm.len] at hv hne ⊢
    clear ho hx0
    have HV := Lib.hid hv
    have HN := Lib.hid hne
    clear hv hne
    have hS := h.ext hx
    have c0' := (cell_of hS.ex 0).trans rfl
    have c4' := (cell_of hS.ex 4).trans rfl
    have hE : Ext w w1 := hx00.trans' hx
    clear c0 c1 c2 c3 c4 c5 c6
    by_cases hmode : C.mode = 2
    · have hmb : (C.mode == 2) = true := by simp [hmode]
      have HM := Lib.hid hmode
      clear hmode
      go_wp2_with fail
      refine (Raise_c b c R W l _ _ d _ hS.g h.fit hd HV.out hm HN.out).mono ?_
      intro e w2 hr
      have hz := HE.out
      rcases hr with ⟨hdn, _⟩ | ⟨x, hk, hdn, ⟨hf, rfl, hG, hM2⟩ | ⟨hf, _⟩⟩
      · rw [errU_neg hk1 HM.out hdn] at hz; cases hz
      · have hmin := kth0_min hk
        go_wp2
        go_ret
        refine ⟨by rw [HE.out]; rfl, .inl ⟨HE.out, ?_, (hE.mod _).trans hM2⟩⟩
        have e1 : updL C lv R W l key d = putK W (cols C lv key) (fun k => max (l.getD (at_ W (cols C lv key) k) 0) (x + d)) R l := by
          unfold updL; rw [decide_eq_true HM.out, hmin]; rfl
        rw [e1]
        refine ⟨by rw [hM2.block s hS.lts hS.nes]; exact hS.ex, hG, h.ok, h.lo, h.hi, h.hr, h.hw, fun z hz => ?_⟩
        rcases putK_mem R hz with h1 | ⟨j, _, rfl⟩
        · exact h.fit z h1
        · have := getD_i64 h.fit (at_ W (cols C lv key) j)
          unfold I64 at *; omega
      · rw [errU_con hk1 HM.out (by omega), kth0_min hk, fitB_no hf] at hz; cases hz
    · have hmb : (C.mode == 2) = false := by simp [hmode]
      have HM := Lib.hid hmode
      clear hmode
      go_wp2_with fail
      refine (Change_c b c R W l _ _ d _ hS.g h.fit hd HV.out hm HN.out).mono ?_
      intro e w2 hr
      have hz := HE.out
      rcases hr with ⟨hf, rfl, hG, hM2⟩ | ⟨hf, _⟩
      · go_wp2
        go_ret
        refine ⟨by rw [HE.out]; rfl, .inl ⟨HE.out, ?_, (hE.mod _).trans hM2⟩⟩
        have e1 : updL C lv R W l key d = putK W (cols C lv key) (fun k => l.getD (at_ W (cols C lv key) k) 0 + d) R l := by
          unfold updL; rw [decide_eq_false HM.out]; rfl
        rw [e1]
        refine ⟨by rw [hM2.block s hS.lts hS.nes]; exact hS.ex, hG, h.ok, h.lo, h.hi, h.hr, h.hw, fun z hz => ?_⟩
        rcases putK_mem R hz with h1 | ⟨j, hj, rfl⟩
        · exact h.fit z h1
        · exact hf j hj
      · rw [errU_sum hk1 HM.out, show allFit W (cols C lv key) l d R = false from Bool.eq_false_iff.2 (fun hA => hf (allFit_iff.1 hA))] at hz; cases hz
  · have hb : (errU C lv R W l key d == 0) = false := by simpa using he0
    go_enter Try.func35, Try.ntmps35
    go_wp2_with fail
    refine (Check_c s b c C lv R W l key d _ h hd hk0).mono ?_
    rintro e w0 ⟨rfl, hx00⟩
    go_wp2
    go_ret
    exact ⟨rfl, .inr ⟨he0, hx00⟩⟩
end Go.Proofs.Ythancaehlijaoaa
