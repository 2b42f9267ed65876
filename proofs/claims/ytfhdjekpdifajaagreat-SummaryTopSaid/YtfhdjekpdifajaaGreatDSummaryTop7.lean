/- Part. No condition. -/
import Derived.Test.YtfhdjekpdifajaaGreatDSummaryTop6
import Derived.Test.YtfhdjekpdifajaaGreatDSummaryTop2
import Derived.Test.YtfhdjekpdifajaaGreatDSummaryTop1
import Derived.Test.YtfhdjekpdifajaaGreatDSummaryTop3
import Derived.Test.YtfhdjekpdifajaaGreatDSummaryTop4
import Derived.Test.YtfhdjekpdifajaaGreatDSummaryTop5
namespace Go.Proofs.YtfhdjekpdifajaaGreat
set_option linter.unusedVariables false
open Go.RowKit
def RRaisePost (w : World) (G : Gr) (R W : Nat) (cs l : List Int) (d : Int) (e : Ending) (w' : World) : Prop :=
  (d < 0 ∧ e = .returned (.int .i64 3) ∧ Ext w w') ∨
  (0 ≤ d ∧ ((I64 (minL (readL W l cs) + d) ∧ e = .returned (.int .i64 0) ∧ RGAt w' G R W (putK W cs (fun k => max (l.getD (at_ W cs k) 0) (minL (readL W l cs) + d)) R l) ∧ Mod (G.foot R) w w') ∨
    (¬ I64 (minL (readL W l cs) + d) ∧ e = .returned (.int .i64 4) ∧ Ext w w')))
set_option maxRecDepth 20000 in
set_option maxHeartbeats 8000000 in
theorem RRaise_c (G : Gr) (R W : Nat) (l cs : List Int) (v : Value) (d : Int) (w : World) (h : RGAt w G R W l) (hI : ∀ x ∈ l, I64 x) (hd : I64 d) (hv : IntsAt w v cs) (hm : Meets R W cs)
    (hne : ∀ g off n cap, v = .slice (some ⟨g, off, none⟩) n cap → ¬ G.foot R g) :
    Calls Tryz.prog 160 #[.pointer (some ⟨G.g, 0, none⟩), v, .int .i64 d] w (RRaisePost w G R W cs l d) := by
  have r1 := h.r1
  have r2 := h.r2
  have hml := hm.len
  obtain ⟨vg, vo, vc, rfl, hg, hc⟩ := hv.slice (by rw [hm.len]; omega)
  have hgc := hne _ _ _ _ rfl
  rw [hml] at hc hv ⊢
  have hmI : I64 (minL (readL W l cs)) := by
    have hne' : readL W l cs ≠ [] := by
      intro e
      have := readL_len W l cs
      rw [e, hml] at this
      simp at this; omega
    have := (minL_spec _ hne').1
    simp only [readL, List.mem_map] at this
    obtain ⟨j, _, hj⟩ := this
    rw [← show l.getD (at_ W cs j) 0 = minL (readL W l cs) from hj]
    exact getD_i64 hI _
  have HC := Lib.hid hc
  have HV := Lib.hid hv
  have HH := Lib.hid h
  have HM := Lib.hid hm
  have HD := Lib.hid hd
  have HGC := Lib.hid hgc
  have HMI := Lib.hid hmI
  have HLE := Lib.hid (show ∀ w' : World, Ext w w' → Calls Tryz.prog 158 #[.pointer (some ⟨G.g, 0, none⟩), .slice (some ⟨vg, vo, none⟩) R vc] w' fun e w'' => e = .returned (.tuple #[.int .i64 (minL (readL W l cs)), .int .i64 0]) ∧ Ext w' w'' from
    fun w' hw => RLeast_c G R W l cs _ w' (h.ext hw) (hv.ext hw) hm)
  unfold RRaisePost
  generalize minL (readL W l cs) = mn at *
  clear hc hv h hm hml hI hne hd hgc hmI
  go_enter Tryz.func160, Tryz.ntmps160
  go_wp2_with fail
  refine Calls.mono (HLE.out _ (Ext.refl _)) ?_
  rintro e w1 ⟨rfl, hx1⟩
  clear HLE
  by_cases hdn : d < 0
  · go_wp2
    go_ret
    exact .inl ⟨hdn, rfl, hx1⟩
  · have hd0 : 0 ≤ d := by omega
    have hdb : decide (d < 0) = false := by simp; omega
    clear hdn
    go_wp2_with fail
    refine Calls.mono (LAdd_c mn d HMI.out HD.out _) ?_
    rintro e w2 ⟨rfl, hx2⟩
    have hE2 : Ext w w2 := hx1.trans' hx2
    by_cases hfit : I64 (mn + d)
    · have fb := fitB_yes hfit
      have fn := fitN_yes hfit
      rw [fb, fn]
      have HFIT := Lib.hid hfit
      have HN : Hid (∀ j, j < R → (putK W cs (fun k => max (l.getD (at_ W cs k) 0) (mn + d)) j l).getD (at_ W cs j) 0 = l.getD (at_ W cs j) 0) := Lib.hid fun j hj => putK_far HM.out l hj j (Nat.le_refl _)
      obtain ⟨f, hf⟩ : ∃ f : Nat → Int, f = fun k => max (l.getD (at_ W cs k) 0) (mn + d) := ⟨_, rfl⟩
      have HFK := Lib.hid (show ∀ k, f k = max (l.getD (at_ W cs k) 0) (mn + d) from fun k => by rw [hf])
      rw [← hf] at HN
      have HFD := Lib.hid hf
      obtain ⟨n, hn⟩ : ∃ n, mn + d = n := ⟨_, rfl⟩
      have HNN := Lib.hid hn
      rw [hn]
      rw [hn] at HFK
      clear fb fn hx1 hx2 hf hfit hn
      go_wp2_with fail
      go_loopw [11] (fun u wr => ∃ j : Nat, j ≤ R ∧ u = .int .i64 j ∧ RGAt wr G R W (putK W cs f j l) ∧ Mod (G.foot R) w wr) (fun u _ => R - (intOf u).toNat)
      case atStart => exact ⟨0, Nat.zero_le _, rfl, HH.out.ext hE2, hE2.mod _⟩
      case round =>
        obtain ⟨j, hj, rfl, hr, hM⟩ := hrel
        have hsM := hM.size
        by_cases hlt : j < R
        · obtain ⟨cap2, cg, hcap2⟩ := hr.cg
          have lg := hr.ltg
          have cm := hr.cm hlt
          have lm := hr.ltm
          have dd := (mcell hM hg HGC.out _).trans (HC.out j hlt)
          have ld : vg < wr.heap.size := Nat.lt_of_lt_of_le hg hsM
          have l1 := HM.out.lo j hlt
          have l2 := HM.out.hi j hlt
          have hat : at_ W cs j = j * W + (cs.getD j 0).toNat := rfl
          have hput : putK W cs f (j + 1) l = (putK W cs f j l).set (at_ W cs j) (f j) := rfl
          have hfar := HN.out j hlt
          have hfk := HFK.out j
          rw [← hfar, hat] at hfk
          rw [hat] at hput
          clear hat hfar
          generalize cs.getD j 0 = y at *
          obtain ⟨y, rfl⟩ := Int.eq_ofNat_of_zero_le l1
          have hy2 : y < W := by omega
          have cr := hr.cr hlt hy2
          have lr := hr.ltr hlt
          have fr := hr.fr hlt y
          have HPUT := Lib.hid (show putK W cs f (j + 1) l = (putK W cs f j l).set (j * W + y) (f j) from hput)
          have hfk' : f j = max ((putK W cs f j l).getD (j * W + y) 0) n := hfk
          have HF := Lib.hid hfk'
          have HR := Lib.hid hr
          clear hput hr l1 l2 hfk hfk'
          generalize f j = x at *
          generalize (putK W cs f j l).getD (j * W + y) 0 = x0 at *
          by_cases hlx : x0 < n
          · have hmx : x = n := by rw [HF.out]; omega
            have hb : decide (x0 < n) = true := by simp [hlx]
            have hb2 : (n < x0) = False := by simp; omega
            have HMX := Lib.hid hmx
            clear hmx
            go_wp2_with fail
            have hC0 := af_drew wr
            refine pi_start (fun w' => ∃ z : After wr, w' = z.w) [27] (by kernel_rfl) ?_
            refine pi_t 0 rfl (by kernel_rfl) (by kernel_rfl) (fun _ _ _ _ h => h) (fun K hK => ?_)
            go_big_quiet_op
            refine hK _ ?_
            clear hK K
            refine pi_t 1 rfl (by kernel_rfl) (by kernel_rfl) (fun _ _ _ _ h => h) (fun K hK => ?_)
            go_big_quiet_op
            refine hK _ ?_
            clear hK K
            refine pi_t 2 rfl (by kernel_rfl) (by kernel_rfl) (fun _ _ _ _ h => h) (fun K hK => ?_)
            go_big_quiet_op
            refine hK _ ?_
            clear hK K
            refine pi_t 4 rfl (by kernel_rfl) (by kernel_rfl) (fun _ _ _ _ h => h) (fun K hK => ?_)
            go_big_quiet_op
            refine hK _ ?_
            clear hK K
            refine pi_t 7 rfl (by kernel_rfl) (by kernel_rfl) (fun _ _ _ _ h => h) (fun K hK => ?_)
            go_big_quiet_op
            refine hK _ ?_
            clear hK K
            refine pi_t 8 rfl (by kernel_rfl) (by kernel_rfl) (fun _ _ _ _ h => h) (fun K hK => ?_)
            go_big_quiet_op
            refine hK _ ?_
            clear hK K
            refine pi_t 9 rfl (by kernel_rfl) (by kernel_rfl) (fun _ _ _ _ h => h) (fun K hK => ?_)
            go_big_quiet_op
            refine hK _ ?_
            clear hK K
            refine pi_t 11 rfl (by kernel_rfl) (by kernel_rfl) (fun _ _ _ _ h => h) (fun K hK => ?_)
            go_big_quiet_op
            refine hK _ ?_
            clear hK K
            refine pi_t 12 rfl (by kernel_rfl) (by kernel_rfl) (fun _ _ _ _ h => h) (fun K hK => ?_)
            go_big_quiet_op
            refine hK _ ?_
            clear hK K
            refine pi_t 13 rfl (by kernel_rfl) (by kernel_rfl) (fun _ _ _ _ h => h) (fun K hK => ?_)
            go_big_quiet_op
            refine hK _ ?_
            clear hK K
            refine pi_t 15 rfl (by kernel_rfl) (by kernel_rfl) (fun _ _ _ _ h => h) (fun K hK => ?_)
            go_big_quiet_op
            refine hK _ ?_
            clear hK K
            refine pi_t 18 rfl (by kernel_rfl) (by kernel_rfl) (fun _ _ _ _ h => h) (fun K hK => ?_)
            go_big_quiet_op
            refine hK _ ?_
            clear hK K
            refine pi_t 19 rfl (by kernel_rfl) (by kernel_rfl) (fun _ _ _ _ h => h) (fun K hK => ?_)
            go_big_quiet_op
            refine hK _ ?_
            clear hK K
            refine pi_t 20 rfl (by kernel_rfl) (by kernel_rfl) (fun _ _ _ _ h => h) (fun K hK => ?_)
            go_big_quiet_op
            refine hK _ ?_
            clear hK K
            refine pi_t 24 rfl (by kernel_rfl) (by kernel_rfl) (fun _ _ _ _ h => h) (fun K hK => ?_)
            go_big_quiet_op
            refine hK _ ?_
            clear hK K
            refine pi_c 3 (by assumption) rfl (by kernel_rfl) (by kernel_rfl) (fun _ _ _ _ h => h) (fun K hK => ?_)
            go_big_quiet_op
            refine hK _ ?_
            clear hK K
            refine pi_t 5 rfl (by kernel_rfl) (by kernel_rfl) (fun _ _ _ _ h => h) (fun K hK => ?_)
            go_big_quiet_op
            refine hK _ ?_
            clear hK K
            refine pi_c 6 (by assumption) rfl (by kernel_rfl) (by kernel_rfl) (fun _ _ _ _ h => h) (fun K hK => ?_)
            go_big_quiet_op
            refine hK _ ?_
            clear hK K
            refine pi_c 10 (by assumption) rfl (by kernel_rfl) (by kernel_rfl) (fun _ _ _ _ h => h) (fun K hK => ?_)
            go_big_quiet_op
            refine hK _ ?_
            clear hK K
            refine pi_c 14 (by assumption) rfl (by kernel_rfl) (by kernel_rfl) (fun _ _ _ _ h => h) (fun K hK => ?_)
            go_big_quiet_op
            refine hK _ ?_
            clear hK K
            refine pi_t 16 rfl (by kernel_rfl) (by kernel_rfl) (fun _ _ _ _ h => h) (fun K hK => ?_)
            go_big_quiet_op
            refine hK _ ?_
            clear hK K
            refine pi_c 17 (by assumption) rfl (by kernel_rfl) (by kernel_rfl) (fun _ _ _ _ h => h) (fun K hK => ?_)
            go_big_quiet_op
            refine hK _ ?_
            clear hK K
            refine pi_c 21 (by assumption) rfl (by kernel_rfl) (by kernel_rfl) (fun _ _ _ _ h => h) (fun K hK => ?_)
            go_big_quiet_op
            refine hK _ ?_
            clear hK K
            refine pi_t 22 rfl (by kernel_rfl) (by kernel_rfl) (fun _ _ _ _ h => h) (fun K hK => ?_)
            go_big_quiet_op
            refine hK _ ?_
            clear hK K
            refine pi_c 23 (by assumption) rfl (by kernel_rfl) (by kernel_rfl) (fun _ _ _ _ h => h) (fun K hK => ?_)
            go_big_quiet_op
            refine hK _ ?_
            clear hK K
            refine pi_t 25 rfl (by kernel_rfl) (by kernel_rfl) (fun _ _ _ _ h => h) (fun K hK => ?_)
            go_big_quiet_op
            refine hK _ ?_
            clear hK K
            refine pi_t 26 rfl (by kernel_rfl) (by kernel_rfl) (fun _ _ _ _ h => h) (fun K hK => ?_)
            go_big_quiet_op
            refine hK _ ?_
            clear hK K
            refine pi_l 27 rfl (by kernel_rfl) (fun K hK => ?_)
            go_wp2
            refine hK _ _ (by simp) ?_
            clear hK K
            refine pi_end (by kernel_rfl) ?_
            go_wp2_with fail
            go_roundw
            case rel =>
              refine ⟨j + 1, by omega, by go_num, ?_, (hM.trans (mod_rset hlt y _)).drewR⟩
              rw [HPUT.out, HMX.out]
              exact (HR.out.set hlt hy2 n).keep (fun _ _ => rfl)
            case measure => simp [intOf]; omega
          · have hmx : x = x0 := by rw [HF.out]; omega
            have hb : decide (x0 < n) = false := by simp; omega
            have hb2 : (x0 < n) = False := by simp; omega
            have hb3 : n ≤ x0 := by omega
            have HMX := Lib.hid hmx
            clear hmx hlx
            go_wp2_with fail
            have hC0 := af_drew wr
            refine pi_start (fun w' => ∃ z : After wr, w' = z.w) [27] (by kernel_rfl) ?_
            refine pi_t 0 rfl (by kernel_rfl) (by kernel_rfl) (fun _ _ _ _ h => h) (fun K hK => ?_)
            go_big_quiet_op
            refine hK _ ?_
            clear hK K
            refine pi_t 1 rfl (by kernel_rfl) (by kernel_rfl) (fun _ _ _ _ h => h) (fun K hK => ?_)
            go_big_quiet_op
            refine hK _ ?_
            clear hK K
            refine pi_t 2 rfl (by kernel_rfl) (by kernel_rfl) (fun _ _ _ _ h => h) (fun K hK => ?_)
            go_big_quiet_op
            refine hK _ ?_
            clear hK K
            refine pi_t 4 rfl (by kernel_rfl) (by kernel_rfl) (fun _ _ _ _ h => h) (fun K hK => ?_)
            go_big_quiet_op
            refine hK _ ?_
            clear hK K
            refine pi_t 7 rfl (by kernel_rfl) (by kernel_rfl) (fun _ _ _ _ h => h) (fun K hK => ?_)
            go_big_quiet_op
            refine hK _ ?_
            clear hK K
            refine pi_t 8 rfl (by kernel_rfl) (by kernel_rfl) (fun _ _ _ _ h => h) (fun K hK => ?_)
            go_big_quiet_op
            refine hK _ ?_
            clear hK K
            refine pi_t 9 rfl (by kernel_rfl) (by kernel_rfl) (fun _ _ _ _ h => h) (fun K hK => ?_)
            go_big_quiet_op
            refine hK _ ?_
            clear hK K
            refine pi_t 11 rfl (by kernel_rfl) (by kernel_rfl) (fun _ _ _ _ h => h) (fun K hK => ?_)
            go_big_quiet_op
            refine hK _ ?_
            clear hK K
            refine pi_t 12 rfl (by kernel_rfl) (by kernel_rfl) (fun _ _ _ _ h => h) (fun K hK => ?_)
            go_big_quiet_op
            refine hK _ ?_
            clear hK K
            refine pi_t 13 rfl (by kernel_rfl) (by kernel_rfl) (fun _ _ _ _ h => h) (fun K hK => ?_)
            go_big_quiet_op
            refine hK _ ?_
            clear hK K
            refine pi_t 15 rfl (by kernel_rfl) (by kernel_rfl) (fun _ _ _ _ h => h) (fun K hK => ?_)
            go_big_quiet_op
            refine hK _ ?_
            clear hK K
            refine pi_t 18 rfl (by kernel_rfl) (by kernel_rfl) (fun _ _ _ _ h => h) (fun K hK => ?_)
            go_big_quiet_op
            refine hK _ ?_
            clear hK K
            refine pi_t 19 rfl (by kernel_rfl) (by kernel_rfl) (fun _ _ _ _ h => h) (fun K hK => ?_)
            go_big_quiet_op
            refine hK _ ?_
            clear hK K
            refine pi_t 20 rfl (by kernel_rfl) (by kernel_rfl) (fun _ _ _ _ h => h) (fun K hK => ?_)
            go_big_quiet_op
            refine hK _ ?_
            clear hK K
            refine pi_t 24 rfl (by kernel_rfl) (by kernel_rfl) (fun _ _ _ _ h => h) (fun K hK => ?_)
            go_big_quiet_op
            refine hK _ ?_
            clear hK K
            refine pi_c 3 (by assumption) rfl (by kernel_rfl) (by kernel_rfl) (fun _ _ _ _ h => h) (fun K hK => ?_)
            go_big_quiet_op
            refine hK _ ?_
            clear hK K
            refine pi_t 5 rfl (by kernel_rfl) (by kernel_rfl) (fun _ _ _ _ h => h) (fun K hK => ?_)
            go_big_quiet_op
            refine hK _ ?_
            clear hK K
            refine pi_c 6 (by assumption) rfl (by kernel_rfl) (by kernel_rfl) (fun _ _ _ _ h => h) (fun K hK => ?_)
            go_big_quiet_op
            refine hK _ ?_
            clear hK K
            refine pi_c 10 (by assumption) rfl (by kernel_rfl) (by kernel_rfl) (fun _ _ _ _ h => h) (fun K hK => ?_)
            go_big_quiet_op
            refine hK _ ?_
            clear hK K
            refine pi_c 14 (by assumption) rfl (by kernel_rfl) (by kernel_rfl) (fun _ _ _ _ h => h) (fun K hK => ?_)
            go_big_quiet_op
            refine hK _ ?_
            clear hK K
            refine pi_t 16 rfl (by kernel_rfl) (by kernel_rfl) (fun _ _ _ _ h => h) (fun K hK => ?_)
            go_big_quiet_op
            refine hK _ ?_
            clear hK K
            refine pi_c 17 (by assumption) rfl (by kernel_rfl) (by kernel_rfl) (fun _ _ _ _ h => h) (fun K hK => ?_)
            go_big_quiet_op
            refine hK _ ?_
            clear hK K
            refine pi_c 21 (by assumption) rfl (by kernel_rfl) (by kernel_rfl) (fun _ _ _ _ h => h) (fun K hK => ?_)
            go_big_quiet_op
            refine hK _ ?_
            clear hK K
            refine pi_t 22 rfl (by kernel_rfl) (by kernel_rfl) (fun _ _ _ _ h => h) (fun K hK => ?_)
            go_big_quiet_op
            refine hK _ ?_
            clear hK K
            refine pi_c 23 (by assumption) rfl (by kernel_rfl) (by kernel_rfl) (fun _ _ _ _ h => h) (fun K hK => ?_)
            go_big_quiet_op
            refine hK _ ?_
            clear hK K
            refine pi_t 25 rfl (by kernel_rfl) (by kernel_rfl) (fun _ _ _ _ h => h) (fun K hK => ?_)
            go_big_quiet_op
            refine hK _ ?_
            clear hK K
            refine pi_t 26 rfl (by kernel_rfl) (by kernel_rfl) (fun _ _ _ _ h => h) (fun K hK => ?_)
            go_big_quiet_op
            refine hK _ ?_
            clear hK K
            refine pi_l 27 rfl (by kernel_rfl) (fun K hK => ?_)
            go_wp2
            refine hK _ _ (by simp) ?_
            clear hK K
            refine pi_end (by kernel_rfl) ?_
            go_wp2_with fail
            go_roundw
            case rel =>
              refine ⟨j + 1, by omega, by go_num, ?_, (hM.trans (mod_rset hlt y _)).drewR⟩
              rw [HPUT.out, HMX.out]
              exact (HR.out.set hlt hy2 x0).keep (fun _ _ => rfl)
            case measure => simp [intOf]; omega
        · obtain rfl : j = R := by omega
          go_wp2
          go_ret
          rw [HFD.out] at hr
          exact .inr ⟨hd0, .inl ⟨HFIT.out, rfl, hr, hM⟩⟩
    · have fb := fitB_no hfit
      rw [fb]
      clear fb
      go_wp2
      go_ret
      exact .inr ⟨hd0, .inr ⟨hfit, rfl, hE2⟩⟩
end Go.Proofs.YtfhdjekpdifajaaGreat
namespace Go.Proofs.YtfhdjekpdifajaaGreat
set_option linter.unusedVariables false
open Go.RowKit
theorem times_odd {o x y A B : Int} (hy : y % 2 = 1) (h : (o + x * y) % 18446744073709551616 = (A * B) % 18446744073709551616) :
    ((o + x) % 18446744073709551616 + (x + x) % 18446744073709551616 * (y / 2)) % 18446744073709551616 = (A * B) % 18446744073709551616 := by
  rw [← h, Int.add_emod, Int.emod_emod_of_dvd _ (Int.dvd_refl _), Int.mul_emod, Int.emod_emod_of_dvd _ (Int.dvd_refl _), ← Int.mul_emod, ← Int.add_emod]
  congr 1
  have : y = 2 * (y / 2) + 1 := by omega
  generalize y / 2 = q at *
  subst this
  rw [Int.mul_add, Int.mul_one, ← Int.mul_assoc, Int.mul_comm x 2, Int.add_assoc, Int.add_comm x, show x + x = 2 * x by omega]
theorem times_even {o x y A B : Int} (hy : y % 2 = 0) (h : (o + x * y) % 18446744073709551616 = (A * B) % 18446744073709551616) :
    (o + (x + x) % 18446744073709551616 * (y / 2)) % 18446744073709551616 = (A * B) % 18446744073709551616 := by
  rw [← h, Int.add_emod, Int.mul_emod, Int.emod_emod_of_dvd _ (Int.dvd_refl _), ← Int.mul_emod, ← Int.add_emod]
  congr 1
  have : y = 2 * (y / 2) := by omega
  generalize y / 2 = q at *
  subst this
  rw [← Int.mul_assoc, Int.mul_comm x 2, show x + x = 2 * x by omega]
set_option maxRecDepth 20000 in
set_option maxHeartbeats 2000000 in
theorem times_c (A B : Int) (hA : U64 A) (hB : U64 B) (w : World) :
    Calls Tryz.prog 228 #[.int .u64 A, .int .u64 B] w fun e w' => e = .returned (.int .u64 (wu (A * B))) ∧ Ext w w' := by
  have hAB : wu (A * B) = (A * B) % 18446744073709551616 := by unfold wu; rw [IntKind.wrap_u64]
  have HAB := Lib.hid hAB
  clear hAB
  go_enter Tryz.func228, Tryz.ntmps228
  go_wp2
  go_loop [5, 0, 1] (fun p u v => ∃ (o x y : Int), p = .int .u64 o ∧ u = .int .u64 x ∧ v = .int .u64 y ∧ U64 o ∧ U64 x ∧ U64 y ∧ (o + x * y) % 18446744073709551616 = (A * B) % 18446744073709551616) (fun _ _ v => (intOf v).toNat)
  case atStart => exact ⟨0, A, B, rfl, rfl, rfl, by unfold U64; omega, hA, hB, by rw [Int.zero_add]⟩
  case round =>
    obtain ⟨o, x, y, rfl, rfl, rfl, ho, hx, hy, hI⟩ := hrel
    have HI := Lib.hid hI
    clear hI
    obtain ⟨o0, o1⟩ := ho
    obtain ⟨x0, x1⟩ := hx
    obtain ⟨y0, y1⟩ := hy
    by_cases hgo : 0 < y
    · rcases (by omega : y % 2 = 0 ∨ y % 2 = 1) with hp | hp
      · have hpt : y.tmod 2 = 0 := by rw [Int.tmod_eq_emod_of_nonneg y0]; exact hp
        go_wp2
        go_round
        case rel =>
          refine ⟨o, _, _, rfl, rfl, rfl, ⟨o0, o1⟩, wu_u _, ?_, ?_⟩
          · unfold U64; omega
          · have := times_even hp HI.out
            simpa only [IntKind.wrap_u64] using this
        case measure => simp [intOf]; omega
      · have hpt : y.tmod 2 = 1 := by rw [Int.tmod_eq_emod_of_nonneg y0]; exact hp
        go_wp2
        go_round
        case rel =>
          refine ⟨_, _, _, rfl, rfl, rfl, wu_u _, wu_u _, ?_, ?_⟩
          · unfold U64; omega
          · have := times_odd hp HI.out
            simpa only [IntKind.wrap_u64] using this
        case measure => simp [intOf]; omega
    · go_wp2
      go_ret
      have : y = 0 := by omega
      subst this
      have h2 := HI.out
      rw [Int.mul_zero, Int.add_zero, Int.emod_eq_of_lt o0 (by omega)] at h2
      exact ⟨by rw [HAB.out, ← h2]; rfl, Ext.refl _⟩
end Go.Proofs.YtfhdjekpdifajaaGreat
namespace Go.Proofs.YtfhdjekpdifajaaGreat
set_option linter.unusedVariables false
open Go.RowKit
theorem or_swap (x y : Int) : bits BinOp.or IntKind.u64 x y = bits BinOp.or IntKind.u64 y x := by
  show IntKind.u64.wrap ((BitVec.ofInt 64 x ||| BitVec.ofInt 64 y).toNat : Int) = IntKind.u64.wrap ((BitVec.ofInt 64 y ||| BitVec.ofInt 64 x).toNat : Int)
  rw [BitVec.or_comm]
theorem bit_and {Z : Nat} (hZ : Z < 18446744073709551616) (i : Nat) : bits BinOp.and IntKind.u64 ((Z : Int) / 2 ^ i) 1 = ((Z.testBit i).toNat : Nat) := by
  have e : (Z : Int) / 2 ^ i = ((Z / 2 ^ i : Nat) : Int) := by push_cast; rfl
  have h : Z / 2 ^ i ≤ Z := Nat.div_le_self _ _
  rw [e, Nat.toNat_testBit]
  generalize Z / 2 ^ i = q at *
  rw [and_1 _ (by omega) (by omega)]
  omega
theorem xor_bit (a b : Bool) : bits BinOp.xor IntKind.u64 ((a.toNat : Nat) : Int) ((b.toNat : Nat) : Int) = (((a ^^ b).toNat : Nat) : Int) := by
  cases a <;> cases b <;> decide
theorem or_bit {O i : Nat} (hO : O < 2 ^ i) (hi : i < 64) (t : Bool) : bits BinOp.or IntKind.u64 (O : Int) (IntKind.u64.wrap (((t.toNat : Nat) : Int) * 2 ^ i)) = ((O + 2 ^ i * t.toNat : Nat) : Int) := by
  have hp : 2 ^ i < 2 ^ 64 := Nat.pow_lt_pow_right (by decide) hi
  have h64 : (2 : Nat) ^ 64 = 18446744073709551616 := by decide
  have e : ((t.toNat : Nat) : Int) * 2 ^ i = ((2 ^ i * t.toNat : Nat) : Int) := by push_cast; rw [Int.mul_comm]
  have hb : 2 ^ i * t.toNat ≤ 2 ^ i := by cases t <;> simp
  rw [e, IntWalk.u64_in _ (by omega), or_swap, or_add _ _ i (by omega) (by omega) (by omega) ?_ (by omega) (by exact_mod_cast hO)]
  · push_cast; omega
  · exact ⟨((t.toNat : Nat) : Int), by push_cast; rfl⟩
theorem shake_step {Z b i : Nat} (hZ : Z < 18446744073709551616) (hi : i < 64) {O : Nat} (hO : (Z ^^^ (Z >>> b)) % 2 ^ i = O) :
    bits BinOp.or IntKind.u64 (O : Int) (IntKind.u64.wrap (bits BinOp.xor IntKind.u64 (bits BinOp.and IntKind.u64 ((Z : Int) / 2 ^ i) 1) (bits BinOp.and IntKind.u64 ((Z : Int) / 2 ^ (i + b)) 1) * 2 ^ i)) = (((Z ^^^ (Z >>> b)) % 2 ^ (i + 1) : Nat) : Int) := by
  rw [bit_and hZ, bit_and hZ, xor_bit, or_bit (by rw [← hO]; exact Nat.mod_lt _ (Nat.two_pow_pos i)) hi, Nat.mod_pow_succ, ← Nat.toNat_testBit, hO, Nat.testBit_xor, Nat.testBit_shiftRight, Nat.add_comm b i]
theorem shake_top {Z b i : Nat} (hZ : Z < 18446744073709551616) (hi : i < 64) (hb : 64 ≤ i + b) {O : Nat} (hO : (Z ^^^ (Z >>> b)) % 2 ^ i = O) :
    bits BinOp.or IntKind.u64 (O : Int) (IntKind.u64.wrap (bits BinOp.and IntKind.u64 ((Z : Int) / 2 ^ i) 1 * 2 ^ i)) = (((Z ^^^ (Z >>> b)) % 2 ^ (i + 1) : Nat) : Int) := by
  have h2 : Z.testBit (b + i) = false := Nat.testBit_lt_two_pow (Nat.lt_of_lt_of_le (show Z < 2 ^ 64 from hZ) (Nat.pow_le_pow_right (by decide) (by omega)))
  rw [bit_and hZ, or_bit (by rw [← hO]; exact Nat.mod_lt _ (Nat.two_pow_pos i)) hi, Nat.mod_pow_succ, ← Nat.toNat_testBit, hO, Nat.testBit_xor, Nat.testBit_shiftRight, h2, Bool.xor_false]
theorem xsh_nat {Z : Nat} (hZ : Z < 18446744073709551616) (b : Nat) : xsh (Z : Int) ((2 : Int) ^ b) = ((Z ^^^ (Z >>> b) : Nat) : Int) := by
  have e : (Z : Int) / 2 ^ b = ((Z / 2 ^ b : Nat) : Int) := by push_cast; rfl
  have h : Z / 2 ^ b ≤ Z := Nat.div_le_self _ _
  unfold xsh
  rw [e]
  show IntKind.u64.wrap ((BitVec.ofInt 64 (Z : Int) ^^^ BitVec.ofInt 64 ((Z / 2 ^ b : Nat) : Int)).toNat : Int) = _
  rw [BitVec.toNat_xor, BitVec.ofInt_natCast, BitVec.ofInt_natCast, BitVec.toNat_ofNat, BitVec.toNat_ofNat, Nat.mod_eq_of_lt (a := Z) hZ, Nat.mod_eq_of_lt (a := Z / 2 ^ b) (by omega), Nat.shiftRight_eq_div_pow]
  have : Z ^^^ (Z / 2 ^ b) < 2 ^ 64 := Nat.xor_lt_two_pow hZ (by omega)
  exact IntWalk.u64_in _ (by omega)
end Go.Proofs.YtfhdjekpdifajaaGreat
namespace Go.Proofs.YtfhdjekpdifajaaGreat
set_option linter.unusedVariables false
open Go.RowKit
set_option maxRecDepth 20000 in
set_option maxHeartbeats 4000000 in
theorem shaken_c (Z b : Nat) (hZ : Z < 18446744073709551616) (hb : 0 < b) (hb2 : b < 64) (w : World) :
    Calls Tryz.prog 232 #[.int .u64 Z, .int .i64 b] w fun e w' => e = .returned (.int .u64 ((Z ^^^ (Z >>> b) : Nat) : Int)) ∧ Ext w w' := by
  go_enter Tryz.func232, Tryz.ntmps232
  go_wp2
  go_loop [5, 6] (fun p u => ∃ (i : Nat), i ≤ 64 ∧ p = .int .u64 (((Z ^^^ (Z >>> b)) % 2 ^ i : Nat) : Int) ∧ u = .int .i64 i) (fun _ u => 64 - (intOf u).toNat)
  case atStart => exact ⟨0, by omega, by simp [Nat.mod_one], rfl⟩
  case round =>
    obtain ⟨i, hi, rfl, rfl⟩ := hrel
    obtain ⟨O, hO⟩ : ∃ O : Nat, (Z ^^^ (Z >>> b)) % 2 ^ i = O := ⟨_, rfl⟩
    rw [hO]
    have HO := Lib.hid hO
    clear hO
    by_cases hgo : i < 64
    · by_cases hgb : i + b < 64
      · have hgb' : ((i : Int) + b) < 64 := by omega
        go_wp2
        go_round
        case rel => exact ⟨i + 1, by omega, by rw [shake_step hZ hgo HO.out], by push_cast; rfl⟩
        case measure => simp [intOf]; omega
      · have hgb' : 64 ≤ (i : Int) + b := by omega
        have hgb2 : decide ((i : Int) + b < 64) = false := by simp; omega
        go_wp2
        go_round
        case rel => exact ⟨i + 1, by omega, by rw [shake_top hZ hgo (by omega) HO.out], by push_cast; rfl⟩
        case measure => simp [intOf]; omega
    · go_wp2
      go_ret
      obtain rfl : i = 64 := by omega
      have h2 := HO.out
      have h3 : Z >>> b ≤ Z := by rw [Nat.shiftRight_eq_div_pow]; exact Nat.div_le_self _ _
      have h4 : Z ^^^ (Z >>> b) < 2 ^ 64 := Nat.xor_lt_two_pow hZ (by omega)
      rw [Nat.mod_eq_of_lt h4] at h2
      exact ⟨by rw [h2]; rfl, Ext.refl _⟩
end Go.Proofs.YtfhdjekpdifajaaGreat
namespace Go.Proofs.YtfhdjekpdifajaaGreat
set_option linter.unusedVariables false
open Go.RowKit
theorem shaken_z (z : Int) (hz : U64 z) (b : Nat) (d : Int) (hd : (2 : Int) ^ b = d) (hb : 0 < b) (hb2 : b < 64) (w : World) :
    Calls Tryz.prog 232 #[.int .u64 z, .int .i64 (b : Int)] w fun e w' => e = .returned (.int .u64 (xsh z d)) ∧ Ext w w' := by
  obtain ⟨Z, rfl⟩ := Int.eq_ofNat_of_zero_le hz.1
  have hZ : Z < 18446744073709551616 := by have := hz.2; omega
  rw [← hd, xsh_nat hZ]
  exact shaken_c Z b hZ hb hb2 w
set_option maxRecDepth 20000 in
set_option maxHeartbeats 2000000 in
theorem MixR_c (z : Int) (h : U64 z) (w : World) :
    Calls Tryz.prog 227 #[.int .u64 z] w fun e w' => e = .returned (.int .u64 (mix z)) ∧ Ext w w' := by
  go_enter Tryz.func227, Tryz.ntmps227
  go_wp2_with fail
  refine Calls.mono (shaken_z z h 30 1073741824 (by decide) (by decide) (by decide) _) ?_
  rintro e w1 ⟨rfl, hx1⟩
  go_wp2_with fail
  refine Calls.mono (times_c _ C1 (xsh_u _ _) (by unfold U64 C1; omega) _) ?_
  rintro e w2 ⟨rfl, hx2⟩
  go_wp2_with fail
  refine Calls.mono (shaken_z _ (wu_u _) 27 134217728 (by decide) (by decide) (by decide) _) ?_
  rintro e w3 ⟨rfl, hx3⟩
  go_wp2_with fail
  refine Calls.mono (times_c _ C2 (xsh_u _ _) (by unfold U64 C2; omega) _) ?_
  rintro e w4 ⟨rfl, hx4⟩
  go_wp2_with fail
  refine Calls.mono (shaken_z _ (wu_u _) 31 2147483648 (by decide) (by decide) (by decide) _) ?_
  rintro e w5 ⟨rfl, hx5⟩
  go_wp2
  go_ret
  exact ⟨rfl, hx1.trans' (hx2.trans' (hx3.trans' (hx4.trans' hx5)))⟩
set_option maxRecDepth 20000 in
set_option maxHeartbeats 2000000 in
theorem DrawR_c (s i : Int) (hs : U64 s) (hi : 0 ≤ i) (hi' : i < 10000) (w : World) :
    Calls Tryz.prog 218 #[.int .u64 s, .int .u64 i] w fun e w' => e = .returned (.int .u64 (drw s i)) ∧ Ext w w' := by
  have e1 : drw s i = mix (wu (s + wu ((i + 1) * GD))) := by
    unfold drw; rw [show wu (i + 1) = i + 1 from IntWalk.u64_in _ (by omega)]
  have HE := Lib.hid e1
  clear e1
  go_enter Tryz.func218, Tryz.ntmps218
  go_wp2_with fail
  refine Calls.mono (times_c (i + 1) GD (by unfold U64; omega) (by unfold U64 GD; omega) _) ?_
  rintro e w1 ⟨rfl, hx1⟩
  go_wp2_with fail
  refine Calls.mono (MixR_c _ (wu_u _) _) ?_
  rintro e w2 ⟨rfl, hx2⟩
  go_wp2
  go_ret
  exact ⟨by rw [HE.out]; rfl, hx1.trans' hx2⟩
set_option maxRecDepth 20000 in
set_option maxHeartbeats 2000000 in
theorem PairR_c (s l r : Int) (hs : U64 s) (hl : 0 ≤ l) (hl' : l ≤ 59) (hr : 0 ≤ r) (hr' : r < 8) (w : World) :
    Calls Tryz.prog 192 #[.int .u64 s, .int .i64 l, .int .i64 r] w fun e w' => e = .returned (.tuple #[.int .u64 (prA s l r), .int .u64 (prB s l r)]) ∧ Ext w w' := by
  have g1 : decide (l < 0) = false := by simp; omega
  have g2 : decide (59 < l) = false := by simp; omega
  have g3 : decide (r < 0) = false := by simp; omega
  have g4 : decide (7 < r) = false := by simp; omega
  have e1 : prA s l r = 1 + drw s (16 * l + 2 * r) % 2305843009213693950 := by unfold prA; rw [show 2 * (l * 8 + r) = 16 * l + 2 * r by omega]
  have e2 : prB s l r = drw s (16 * l + 2 * r + 1) % 2305843009213693951 := by unfold prB; rw [show 2 * (l * 8 + r) = 16 * l + 2 * r by omega]
  have H1 := Lib.hid e1
  have H2 := Lib.hid e2
  have b1 := drw_u s (16 * l + 2 * r)
  have b2 := drw_u s (16 * l + 2 * r + 1)
  obtain ⟨b11, b12⟩ := b1
  obtain ⟨b21, b22⟩ := b2
  clear e1 e2
  go_enter Tryz.func192, Tryz.ntmps192
  go_wp2_with fail
  refine Calls.mono (DrawR_c _ _ hs (by omega) (by omega) _) ?_
  rintro e w1 ⟨rfl, hb1⟩
  go_wp2_with fail
  refine Calls.mono (DrawR_c _ _ hs (by omega) (by omega) _) ?_
  rintro e w2 ⟨rfl, hb2⟩
  go_wp2
  go_ret2
  exact ⟨by rw [H1.out, H2.out]; rfl, hb1.trans' hb2⟩
end Go.Proofs.YtfhdjekpdifajaaGreat
namespace Go.Proofs.YtfhdjekpdifajaaGreat
set_option linter.unusedVariables false
open Go.RowKit
theorem fmul_mod (a b : Int) : fmul a b = (fold a * fold b) % 2305843009213693951 := by
  unfold fmul fadd fold
  generalize a % 2305843009213693951 * (b % 2305843009213693951) = n
  omega
theorem fmul_swap (a b : Int) : fmul a b = fmul b a := by rw [fmul_mod, fmul_mod, Int.mul_comm]
theorem mulp_odd {o x y A B : Int} (hy : y % 2 = 1) (h : (o + x * y) % 2305843009213693951 = (A * B) % 2305843009213693951) :
    ((o + x) % 2305843009213693951 + (x + x) % 2305843009213693951 * (y / 2)) % 2305843009213693951 = (A * B) % 2305843009213693951 := by
  rw [← h, Int.add_emod, Int.emod_emod_of_dvd _ (Int.dvd_refl _), Int.mul_emod, Int.emod_emod_of_dvd _ (Int.dvd_refl _), ← Int.mul_emod, ← Int.add_emod]
  congr 1
  have : y = 2 * (y / 2) + 1 := by omega
  generalize y / 2 = q at *
  subst this
  rw [Int.mul_add, Int.mul_one, ← Int.mul_assoc, Int.mul_comm x 2, Int.add_assoc, Int.add_comm x, show x + x = 2 * x by omega]
theorem mulp_even {o x y A B : Int} (hy : y % 2 = 0) (h : (o + x * y) % 2305843009213693951 = (A * B) % 2305843009213693951) :
    (o + (x + x) % 2305843009213693951 * (y / 2)) % 2305843009213693951 = (A * B) % 2305843009213693951 := by
  rw [← h, Int.add_emod, Int.mul_emod, Int.emod_emod_of_dvd _ (Int.dvd_refl _), ← Int.mul_emod, ← Int.add_emod]
  congr 1
  have : y = 2 * (y / 2) := by omega
  generalize y / 2 = q at *
  subst this
  rw [← Int.mul_assoc, Int.mul_comm x 2, show x + x = 2 * x by omega]
set_option maxRecDepth 20000 in
set_option maxHeartbeats 2000000 in
theorem MulR_c (a b : Int) (ha : U64 a) (hb : U64 b) (w : World) :
    Calls Tryz.prog 230 #[.int .u64 a, .int .u64 b] w fun e w' => e = .returned (.int .u64 (fmul a b)) ∧ Ext w w' := by
  obtain ⟨a0, a1⟩ := ha
  obtain ⟨b0, b1⟩ := hb
  have HF := Lib.hid (fmul_mod a b)
  have hfa := fold_bd a
  have hfb := fold_bd b
  have HA := Lib.hid (show fold a = a % 2305843009213693951 from rfl)
  have HB := Lib.hid (show fold b = b % 2305843009213693951 from rfl)
  go_enter Tryz.func230, Tryz.ntmps230
  go_wp2
  rw [← HA.out, ← HB.out]
  generalize fold a = A at *
  generalize fold b = B at *
  go_loop [7, 5, 6] (fun p u v => ∃ (o x y : Int), p = .int .u64 o ∧ u = .int .u64 x ∧ v = .int .u64 y ∧ (0 ≤ o ∧ o < 2305843009213693951) ∧ (0 ≤ x ∧ x < 2305843009213693951) ∧ U64 y ∧ (o + x * y) % 2305843009213693951 = (A * B) % 2305843009213693951) (fun _ _ v => (intOf v).toNat)
  case atStart => exact ⟨0, A, B, rfl, rfl, rfl, by omega, hfa, by unfold U64; omega, by rw [Int.zero_add]⟩
  case round =>
    obtain ⟨o, x, y, rfl, rfl, rfl, ho, hx, hy, hI⟩ := hrel
    have HI := Lib.hid hI
    clear hI
    obtain ⟨o0, o1⟩ := ho
    obtain ⟨x0, x1⟩ := hx
    obtain ⟨y0, y1⟩ := hy
    by_cases hgo : 0 < y
    · rcases (by omega : y % 2 = 0 ∨ y % 2 = 1) with hp | hp
      · have hpt : y.tmod 2 = 0 := by rw [Int.tmod_eq_emod_of_nonneg y0]; exact hp
        go_wp2
        go_round
        case rel => exact ⟨o, _, _, rfl, rfl, rfl, ⟨o0, o1⟩, by omega, by unfold U64; omega, mulp_even hp HI.out⟩
        case measure => simp [intOf]; omega
      · have hpt : y.tmod 2 = 1 := by rw [Int.tmod_eq_emod_of_nonneg y0]; exact hp
        go_wp2
        go_round
        case rel => exact ⟨_, _, _, rfl, rfl, rfl, by omega, by omega, by unfold U64; omega, mulp_odd hp HI.out⟩
        case measure => simp [intOf]; omega
    · go_wp2
      go_ret
      have : y = 0 := by omega
      subst this
      have h2 := HI.out
      rw [Int.mul_zero, Int.add_zero, Int.emod_eq_of_lt o0 (by omega)] at h2
      exact ⟨by rw [HF.out, ← h2]; rfl, Ext.refl _⟩
set_option maxRecDepth 20000 in
set_option maxHeartbeats 2000000 in
theorem AddR_c (a b : Int) (ha : U64 a) (hb : U64 b) (w : World) :
    Calls Tryz.prog 229 #[.int .u64 a, .int .u64 b] w fun e w' => e = .returned (.int .u64 (fadd a b)) ∧ Ext w w' := by
  obtain ⟨a0, a1⟩ := ha
  obtain ⟨b0, b1⟩ := hb
  go_enter Tryz.func229, Tryz.ntmps229
  go_wp2
  go_ret
  exact ⟨rfl, Ext.refl _⟩
set_option maxRecDepth 20000 in
set_option maxHeartbeats 2000000 in
theorem LineR_c (a b x : Int) (ha : U64 a) (hb : U64 b) (hx : U64 x) (w : World) :
    Calls Tryz.prog 219 #[.int .u64 a, .int .u64 b, .int .u64 x] w fun e w' => e = .returned (.int .u64 (lineAt a b x)) ∧ Ext w w' := by
  go_enter Tryz.func219, Tryz.ntmps219
  go_wp2_with fail
  refine Calls.mono (MulR_c x a hx ha _) ?_
  rintro e w1 ⟨rfl, h1⟩
  go_wp2_with fail
  refine Calls.mono (AddR_c _ b (fmul_u _ _) hb _) ?_
  rintro e w2 ⟨rfl, h2⟩
  go_wp2
  go_ret
  exact ⟨by unfold lineAt; rw [fmul_swap a x]; rfl, h1.trans' h2⟩
set_option maxRecDepth 20000 in
set_option maxHeartbeats 2000000 in
theorem BucketR_c (a b x wd : Int) (ha : U64 a) (hb : U64 b) (hx : U64 x) (h1 : 1 ≤ wd) (h2 : wd ≤ 1000000) (w : World) :
    Calls Tryz.prog 193 #[.int .u64 a, .int .u64 b, .int .u64 x, .int .i64 wd] w fun e w' => e = .returned (.int .i64 (bkt a b x wd)) ∧ Ext w w' := by
  have g : decide (wd < 1) = false := by simp; omega
  have hu : U64 (lineAt a b x) := fadd_u _ _
  obtain ⟨u1, u2⟩ := hu
  have hb1 := bkt_bd a b x wd h1
  unfold bkt at hb1
  go_enter Tryz.func193, Tryz.ntmps193
  go_wp2_with fail
  refine Calls.mono (LineR_c _ _ _ ha hb hx _) ?_
  rintro e w1 ⟨rfl, hb⟩
  go_wp2
  go_ret
  exact ⟨rfl, hb⟩
end Go.Proofs.YtfhdjekpdifajaaGreat
namespace Go.Proofs.YtfhdjekpdifajaaGreat
set_option linter.unusedVariables false
open Go.RowKit
theorem cols_take {c : Cfg} {l key : Int} {k : Nat} (hk : k < c.rows.toNat) : (cols c l key).take (k + 1) = (cols c l key).take k ++ [col c l key k] := by
  unfold cols
  rw [← List.map_take, ← List.map_take, List.take_range, List.take_range, Nat.min_eq_left (by omega), Nat.min_eq_left (by omega), List.range_succ, List.map_append]
  rfl
set_option maxRecDepth 20000 in
set_option maxHeartbeats 4000000 in
theorem ColumnsR_c (c : Cfg) (h : c.Ok) (l key : Int) (h0 : 0 ≤ l) (h1 : l ≤ c.bits) (hk0 : 0 ≤ key) (hk1 : key < keys c l) (w : World) :
    Calls Tryz.prog 156 #[.agg #[.int .i64 c.bits, .int .i64 c.rows, .int .i64 c.width, .int .i64 c.mode, .int .u64 c.seed], .int .i64 l, .int .u64 key] w fun e w' =>
      ∃ v, e = .returned v ∧ w'.ownsRow w.heap.size 3 1 v c.rows.toNat (ints (cols c l key)) ∧ Ext w w' := by
  have hkb := keys_bd c h l h0
  have hg : decide (keys c l ≤ key) = false := by simp; omega
  have hl59 : l ≤ 59 := by have := h.b2; omega
  have hw1 := h.w1
  have hw2 := h.w2
  have hr1 := h.r1
  have hr2 := h.r2
  have hsd := h.s
  obtain ⟨R, hR⟩ : ∃ R : Nat, c.rows = R := ⟨c.rows.toNat, by omega⟩
  have hRt : c.rows.toNat = R := by omega
  have hR8 : R ≤ 8 := by omega
  have HR := Lib.hid hR
  have HRT := Lib.hid hRt
  have HKU := Lib.hid (show U64 key by unfold U64; omega)
  rw [hRt]
  clear hRt hR
  go_enter Tryz.func156, Tryz.ntmps156
  go_wp2_with fail
  refine Calls.mono (KeysR_c c h l h0 h1 _) ?_
  rintro e w1 ⟨rfl, hb1⟩
  have hbx : w1.heap[w.heap.size]? = some (.cells #[.int .i64 c.bits, .int .i64 c.rows, .int .i64 c.width, .int .i64 c.mode, .int .u64 c.seed] 24 (0, 0)) := by
    rw [hb1.block _ (by simp only [size_alloc]; omega), heap_old _ _ (by rw [size_alloc]; omega)]
    exact heap_at _ _ rfl
  have hrw : w1.heap[w.heap.size + 1]? = some (.cells #[] 3 (0, 0)) := by
    rw [hb1.block _ (by simp only [size_alloc]; omega)]
    exact heap_at _ _ (by rw [size_alloc])
  have hE1 : Ext w w1 := by (repeat' (first | exact Ext.refl _ | assumption | apply Ext.allocR | apply Ext.drewR | apply Ext.drewNR | (refine Ext.trans' ?_ (by assumption))))
  have hl1 := lt_of hrw
  have hown : w1.ownsRow (w.heap.size + 1) 3 1 (.slice (some ⟨w.heap.size + 1, 0, none⟩) 0 0) ((cols c l key).take 0).length (ints ((cols c l key).take 0)) :=
    ⟨rfl, .inr ⟨w.heap.size + 1, 0, #[], rfl, Nat.le_refl _, hrw, Nat.le_refl _, Nat.zero_le _, rfl, rfl⟩⟩
  clear hb1 hrw
  go_wp2
  go_loopw [7, 8] (fun p u wr => ∃ k : Nat, k ≤ R ∧ u = .int .i64 k ∧ wr.ownsRow (w.heap.size + 1) 3 1 p ((cols c l key).take k).length (ints ((cols c l key).take k)) ∧ wr.heap[w.heap.size]? = some (.cells #[.int .i64 c.bits, .int .i64 c.rows, .int .i64 c.width, .int .i64 c.mode, .int .u64 c.seed] 24 (0, 0)) ∧ Ext w wr) (fun _ u _ => R - (intOf u).toNat)
  case atStart => exact ⟨0, Nat.zero_le _, rfl, hown, hbx, hE1⟩
  case round =>
    clear hown hbx hE1
    obtain ⟨k, hk, rfl, hown, hbx, hE⟩ := hrel
    have c1 := (cell_of hbx 1).trans rfl
    have c2 := (cell_of hbx 2).trans rfl
    have c4 := (cell_of hbx 4).trans rfl
    have cl := lt_of hbx
    by_cases hlt : k < R
    · have hd : decide ((k : Int) < c.rows) = true := by have := HR.out; simp; omega
      have hts := cols_take (c := c) (l := l) (key := key) (k := k) (by rw [HRT.out]; exact hlt)
      have hcd : col c l key k = bkt (prA c.seed l k) (prB c.seed l k) key c.width := rfl
      have HTS := Lib.hid hts
      have HCD := Lib.hid hcd
      have hlen : ((cols c l key).take k).length ≤ 8 := by rw [List.length_take, cols_len, HRT.out]; omega
      have HLEN := Lib.hid hlen
      clear hts hcd hlen
      generalize (cols c l key).take k = pre at *
      go_wp2_with fail
      refine Calls.mono (PairR_c c.seed l k hsd h0 hl59 (by omega) (by omega) _) ?_
      rintro e w2 ⟨rfl, hx2⟩
      have hbx2 := hx2.keep hbx
      have hown2 := own_ext hown hx2
      have hE2 := hE.trans' hx2
      have d2 := (cell_of hbx2 2).trans rfl
      have dl := lt_of hbx2
      clear c1 c2 c4 cl hbx hown hE hx2
      go_wp2_with fail
      refine Calls.mono (BucketR_c _ _ key c.width (prA_u _ _ _) (prB_u _ _ _) HKU.out hw1 (by omega) _) ?_
      rw [← HCD.out]
      rintro e w3 ⟨rfl, hx3⟩
      have hbx3 := hx3.keep hbx2
      have hown3 := own_ext hown2 hx3
      have hE3 := hE2.trans' hx3
      have hl3 := lt_of hbx3
      clear d2 dl hbx2 hown2 hE2 hx3
      go_wp2_with (at_builtin; refine wpList_app1 w3 (col c l key k) pre _ (w.heap.size + 1) 3 hown3 250 rfl _ _ rfl info_int Tryz.underlying250 rfl rfl ?a1 ?a2 ?_)
      case a1 => have := HLEN.out; omega
      case a2 => omega
      intro v' w4 g1 g2 g3
      have hbx4 := grown_old g2 (j := w.heap.size) (by omega) (own_ge hown3 (by omega))
      rw [hbx3] at hbx4
      have hE4 : Ext w w4 := ext_grown hE3 g2 (fun k hk => by have := own_blk hown3 hk; omega)
      obtain ⟨p', n', c', rfl⟩ := own_slice g1
      rw [← HTS.out] at g1
      have HPL := Lib.hid (show ((cols c l key).take (k + 1)).length = pre.length + 1 by rw [HTS.out, List.length_append]; rfl)
      clear hbx3 hown3 hE3 g2 g3
      go_wp2
      go_roundw
      case rel => exact ⟨k + 1, by omega, by go_num, by rw [HPL.out]; exact g1, hbx4, hE4⟩
      case measure => simp [intOf]; omega
    · have hd : decide ((k : Int) < c.rows) = false := by have := HR.out; simp; omega
      obtain rfl : k = R := by omega
      have htk : (cols c l key).take k = cols c l key := List.take_of_length_le (by rw [cols_len, HRT.out]; omega)
      rw [htk, cols_len, HRT.out] at hown
      go_wp2
      go_ret
      exact ⟨_, rfl, ⟨hown.1, hown.2.imp id (fun ⟨g, cap, cur, a, b, c⟩ => ⟨g, cap, cur, a, by omega, c⟩)⟩, hE⟩
end Go.Proofs.YtfhdjekpdifajaaGreat
namespace Go.Proofs.YtfhdjekpdifajaaGreat
set_option linter.unusedVariables false
open Go.RowKit
def RSNewPost (w : World) (C : Cfg) (lv : Int) (R W : Nat) (l : List Int) (e : Ending) (w' : World) : Prop :=
  ∃ s G, e = .returned (.pointer (some ⟨s, 0, none⟩)) ∧ RSAt w' s G C lv R W l ∧ (∀ k, rsF s G R k → w.heap.size ≤ k) ∧ Ext w w'
set_option maxRecDepth 20000 in
set_option maxHeartbeats 4000000 in
theorem RSNew_c (C : Cfg) (hok : C.Ok) (lv : Int) (h0 : 0 ≤ lv) (h1 : lv ≤ C.bits) (R W : Nat) (hr : C.rows = R) (hw : C.width = W) (w : World) :
    Calls Tryz.prog 102 #[.agg #[.int .i64 C.bits, .int .i64 C.rows, .int .i64 C.width, .int .i64 C.mode, .int .u64 C.seed], .int .i64 lv] w (RSNewPost w C lv R W (zs (R * W))) := by
  have r1 := hok.r1
  have r2 := hok.r2
  have w1' := hok.w1
  have w2' := hok.w2
  obtain ⟨W0, hW0⟩ : ∃ W0, w.alloc (.cells #[.int .i64 C.bits, .int .i64 C.rows, .int .i64 C.width, .int .i64 C.mode, .int .u64 C.seed] 24) = W0 := ⟨_, rfl⟩
  have hC : CfgAt W0 w.heap.size C := by rw [← hW0]; exact CfgAt.box C _ rfl
  have hE : Ext w W0 := by rw [← hW0]; exact Ext.alloc' _ _
  have c0 := hC.c0
  have c1 := hC.c1
  have c2 := hC.c2
  have c3 := hC.c3
  have c4 := hC.c4
  have cl := hC.lt
  have hsz := hE.size
  have HR := Lib.hid hr
  have HW := Lib.hid hw
  clear hC hr hw
  go_enter Tryz.func102, Tryz.ntmps102
  go_wp2_with fail
  try rw [hW0]
  clear hW0
  have hC0 := af_drew W0
  refine pi_start (fun w' => ∃ z : After W0, w' = z.w) [] (by kernel_rfl) ?_
  refine pi_t 1 rfl (by kernel_rfl) (by kernel_rfl) (fun _ _ _ _ h => h) (fun K hK => ?_)
  go_big_quiet_op
  refine hK _ ?_
  clear hK K
  refine pi_t 2 rfl (by kernel_rfl) (by kernel_rfl) (fun _ _ _ _ h => h) (fun K hK => ?_)
  go_big_quiet_op
  refine hK _ ?_
  clear hK K
  refine pi_t 4 rfl (by kernel_rfl) (by kernel_rfl) (fun _ _ _ _ h => h) (fun K hK => ?_)
  go_big_quiet_op
  refine hK _ ?_
  clear hK K
  refine pi_c 0 (by assumption) rfl (by kernel_rfl) (by kernel_rfl) (fun _ _ _ _ h => h) (fun K hK => ?_)
  go_big_quiet_op
  refine hK _ ?_
  clear hK K
  refine pi_c 3 (by assumption) rfl (by kernel_rfl) (by kernel_rfl) (fun _ _ _ _ h => h) (fun K hK => ?_)
  go_big_quiet_op
  refine hK _ ?_
  clear hK K
  refine pi_c 5 (by assumption) rfl (by kernel_rfl) (by kernel_rfl) (fun _ _ _ _ h => h) (fun K hK => ?_)
  go_big_quiet_op
  refine hK _ ?_
  clear hK K
  rw [HR.out, HW.out]
  refine pi_l 6 rfl (by kernel_rfl) (fun K hK => ?_)
  go_wp2_with (go_at_call 155; refine Calls.mono (RGNew_c R W (by have := HR.out; omega) (by have := HR.out; omega) (by have := HW.out; omega) (by have := HW.out; omega) _) ?_; rintro e w1 ⟨G, rfl, hG, hF, hx1⟩)
  refine hK _ _ (fun _ h => af_step h hx1) ?_
  clear hK K
  have hE1 : Ext W0 w1 := Ext.trans' (Below.drew (Ext.refl W0)) hx1
  have HG := Lib.hid hG
  have HF := Lib.hid hF
  have hz1 := hE1.size
  clear hG hF
  refine pi_t 7 rfl (by kernel_rfl) (by kernel_rfl) (fun _ _ _ _ h => h) (fun K hK => ?_)
  go_big_quiet_op
  refine hK _ ?_
  clear hK K
  refine pi_l 8 rfl (by kernel_rfl) (fun K hK => ?_)
  go_wp2
  refine hK _ _ (fun _ h => af_step h (Ext.alloc' _ _)) ?_
  clear hK K
  refine pi_t 9 rfl (by kernel_rfl) (by kernel_rfl) (fun _ _ _ _ h => h) (fun K hK => ?_)
  go_big_quiet_op
  refine hK _ ?_
  clear hK K
  refine pi_end (by kernel_rfl) ?_
  go_wp2
  go_ret
  refine ⟨w1.heap.size, G, rfl, ⟨?_, HG.out.ext (Ext.alloc' _ _), hok, h0, h1, HR.out, HW.out, zs_fit _⟩, ?_, (hE.trans' hE1).allocR _⟩
  · first | exact heap_at _ _ rfl | (rw [HR.out, HW.out]; exact heap_at _ _ rfl)
  · rintro k (rfl | hk)
    · exact Nat.le_trans hsz hz1
    · exact Nat.le_trans hsz (HF.out k hk)
def RSUpdPost (w : World) (s : Nat) (G : Gr) (C : Cfg) (lv : Int) (R W : Nat) (l : List Int) (key d : Int) (e : Ending) (w' : World) : Prop :=
  e = .returned (.int .i64 (errU C lv R W l key d)) ∧ ((errU C lv R W l key d = 0 ∧ RSAt w' s G C lv R W (updL C lv R W l key d) ∧ Mod (G.foot R) w w') ∨ (errU C lv R W l key d ≠ 0 ∧ Ext w w'))
theorem fits_all {W : Nat} {cs l : List Int} {d : Int} {R : Nat} : fitsAll W cs l d R ↔ allFit W cs l d R = true := allFit_iff.symm
set_option maxRecDepth 20000 in
set_option maxHeartbeats 8000000 in
theorem RSUpdate_c (s : Nat) (G : Gr) (C : Cfg) (lv : Int) (R W : Nat) (l : List Int) (key d : Int) (w : World) (h : RSAt w s G C lv R W l) (hk : U64 key) (hd : I64 d) :
    Calls Tryz.prog 108 #[.pointer (some ⟨s, 0, none⟩), .int .u64 key, .int .i64 d] w (RSUpdPost w s G C lv R W l key d) := by
  obtain ⟨hk0, hk1⟩ := hk
  have hok := h.ok
  have hlo := h.lo
  have hhi := h.hi
  have hkb := keys_bd C hok lv hlo
  have hm := cols_meets C hok lv key h.hr h.hw
  have HM := Lib.hid hm
  have HH := Lib.hid h
  have HD := Lib.hid hd
  have ls := h.lts
  have hex := h.ex
  have c0 := (cell_of hex 0).trans rfl
  have c1 := (cell_of hex 1).trans rfl
  have c2 := (cell_of hex 2).trans rfl
  have c3 := (cell_of hex 3).trans rfl
  have c4 := (cell_of hex 4).trans rfl
  have c5 := (cell_of hex 5).trans rfl
  have hRt : C.rows.toNat = R := by rw [h.hr]; rfl
  have HRT := Lib.hid hRt
  clear hex h hm hd hRt
  by_cases hge : keys C lv ≤ key
  · have he : errU C lv R W l key d = 2 := errU_key hge
    unfold RSUpdPost
    rw [he]
    have hge' : decide (keys C lv ≤ key) = true := decide_eq_true hge
    clear he
    go_enter Tryz.func108, Tryz.ntmps108
    go_wp2_with fail
    have hC0 := af_drew w
    refine pi_start (fun w' => ∃ z : After w, w' = z.w) [] (by kernel_rfl) ?_
    refine pi_t 0 rfl (by kernel_rfl) (by kernel_rfl) (fun _ _ _ _ h => h) (fun K hK => ?_)
    go_big_quiet_op
    refine hK _ ?_
    clear hK K
    refine pi_t 1 rfl (by kernel_rfl) (by kernel_rfl) (fun _ _ _ _ h => h) (fun K hK => ?_)
    go_big_quiet_op
    refine hK _ ?_
    clear hK K
    refine pi_t 2 rfl (by kernel_rfl) (by kernel_rfl) (fun _ _ _ _ h => h) (fun K hK => ?_)
    go_big_quiet_op
    refine hK _ ?_
    clear hK K
    refine pi_t 3 rfl (by kernel_rfl) (by kernel_rfl) (fun _ _ _ _ h => h) (fun K hK => ?_)
    go_big_quiet_op
    refine hK _ ?_
    clear hK K
    refine pi_t 5 rfl (by kernel_rfl) (by kernel_rfl) (fun _ _ _ _ h => h) (fun K hK => ?_)
    go_big_quiet_op
    refine hK _ ?_
    clear hK K
    refine pi_t 6 rfl (by kernel_rfl) (by kernel_rfl) (fun _ _ _ _ h => h) (fun K hK => ?_)
    go_big_quiet_op
    refine hK _ ?_
    clear hK K
    refine pi_t 7 rfl (by kernel_rfl) (by kernel_rfl) (fun _ _ _ _ h => h) (fun K hK => ?_)
    go_big_quiet_op
    refine hK _ ?_
    clear hK K
    refine pi_c 4 (by assumption) rfl (by kernel_rfl) (by kernel_rfl) (fun _ _ _ _ h => h) (fun K hK => ?_)
    go_big_quiet_op
    refine hK _ ?_
    clear hK K
    refine pi_c 8 (by assumption) rfl (by kernel_rfl) (by kernel_rfl) (fun _ _ _ _ h => h) (fun K hK => ?_)
    go_big_quiet_op
    refine hK _ ?_
    clear hK K
    refine pi_l 9 rfl (by kernel_rfl) (fun K hK => ?_)
    go_wp2_with (go_at_call 79; refine (KeysR_c C hok lv hlo hhi _).mono ?_; rintro e w1 ⟨rfl, hx1⟩)
    refine hK _ _ (fun _ h => af_step h hx1) ?_
    clear hK K
    have hE1 : Ext w w1 := Ext.trans' (Below.drew (Ext.refl w)) hx1
    refine pi_t 10 rfl (by kernel_rfl) (by kernel_rfl) (fun _ _ _ _ h => h) (fun K hK => ?_)
    go_big_quiet_op
    refine hK _ ?_
    clear hK K
    refine pi_end (by kernel_rfl) ?_
    go_wp2
    go_ret
    exact ⟨rfl, by first | exact .inr ⟨by decide, hE1⟩ | exact hE1⟩
  · have hlt : key < keys C lv := by omega
    have hge' : decide (keys C lv ≤ key) = false := decide_eq_false hge
    have HES := Lib.hid (fun hm => errU_sum (R := R) (W := W) (l := l) (d := d) hlt hm)
    have HEN := Lib.hid (fun hm hd => errU_neg (R := R) (W := W) (l := l) (d := d) hlt hm hd)
    have HEC := Lib.hid (fun hm hd => errU_con (R := R) (W := W) (l := l) (d := d) hlt hm hd)
    have HUS : Hid (C.mode ≠ 2 → updL C lv R W l key d = putK W (cols C lv key) (fun k => l.getD (at_ W (cols C lv key) k) 0 + d) R l) := Lib.hid (fun hm => by unfold updL; rw [decide_eq_false hm]; rfl)
    have HUC : Hid (C.mode = 2 → updL C lv R W l key d = putK W (cols C lv key) (fun k => max (l.getD (at_ W (cols C lv key) k) 0) (minL (readL W l (cols C lv key)) + d)) R l) := Lib.hid (fun hm => by unfold updL; rw [decide_eq_true hm]; rfl)
    have HCOL := Lib.hid (fun W' => ColumnsR_c C hok lv key hlo hhi hk0 hlt W')
    unfold RSUpdPost
    generalize errU C lv R W l key d = er at *
    generalize updL C lv R W l key d = ul at *
    clear hge
    go_enter Tryz.func108, Tryz.ntmps108
    go_wp2_with fail
    have hC0 := af_drew w
    refine pi_start (fun w' => ∃ z : After w, w' = z.w) [] (by kernel_rfl) ?_
    refine pi_t 0 rfl (by kernel_rfl) (by kernel_rfl) (fun _ _ _ _ h => h) (fun K hK => ?_)
    go_big_quiet_op
    refine hK _ ?_
    clear hK K
    refine pi_t 1 rfl (by kernel_rfl) (by kernel_rfl) (fun _ _ _ _ h => h) (fun K hK => ?_)
    go_big_quiet_op
    refine hK _ ?_
    clear hK K
    refine pi_t 2 rfl (by kernel_rfl) (by kernel_rfl) (fun _ _ _ _ h => h) (fun K hK => ?_)
    go_big_quiet_op
    refine hK _ ?_
    clear hK K
    refine pi_t 3 rfl (by kernel_rfl) (by kernel_rfl) (fun _ _ _ _ h => h) (fun K hK => ?_)
    go_big_quiet_op
    refine hK _ ?_
    clear hK K
    refine pi_t 5 rfl (by kernel_rfl) (by kernel_rfl) (fun _ _ _ _ h => h) (fun K hK => ?_)
    go_big_quiet_op
    refine hK _ ?_
    clear hK K
    refine pi_t 6 rfl (by kernel_rfl) (by kernel_rfl) (fun _ _ _ _ h => h) (fun K hK => ?_)
    go_big_quiet_op
    refine hK _ ?_
    clear hK K
    refine pi_t 7 rfl (by kernel_rfl) (by kernel_rfl) (fun _ _ _ _ h => h) (fun K hK => ?_)
    go_big_quiet_op
    refine hK _ ?_
    clear hK K
    refine pi_c 4 (by assumption) rfl (by kernel_rfl) (by kernel_rfl) (fun _ _ _ _ h => h) (fun K hK => ?_)
    go_big_quiet_op
    refine hK _ ?_
    clear hK K
    refine pi_c 8 (by assumption) rfl (by kernel_rfl) (by kernel_rfl) (fun _ _ _ _ h => h) (fun K hK => ?_)
    go_big_quiet_op
    refine hK _ ?_
    clear hK K
    refine pi_l 9 rfl (by kernel_rfl) (fun K hK => ?_)
    go_wp2_with (go_at_call 79; refine (KeysR_c C hok lv hlo hhi _).mono ?_; rintro e w1 ⟨rfl, hx1⟩)
    refine hK _ _ (fun _ h => af_step h hx1) ?_
    clear hK K
    have hE1 : Ext w w1 := Ext.trans' (Below.drew (Ext.refl w)) hx1
    refine pi_t 10 rfl (by kernel_rfl) (by kernel_rfl) (fun _ _ _ _ h => h) (fun K hK => ?_)
    go_big_quiet_op
    refine hK _ ?_
    clear hK K
    refine pi_end (by kernel_rfl) ?_
    have hex1 := (HH.out.ext hE1).ex
    have ls1 := (HH.out.ext hE1).lts
    clear c0 c1 c2 c3 c4 c5 ls
    have c0 := (cell_of hex1 0).trans rfl
    have c1 := (cell_of hex1 1).trans rfl
    have c2 := (cell_of hex1 2).trans rfl
    have c3 := (cell_of hex1 3).trans rfl
    have c4 := (cell_of hex1 4).trans rfl
    have c5 := (cell_of hex1 5).trans rfl
    clear hex1 hx1
    go_wp2_with fail
    have hC0 := af_drew w1
    refine pi_start (fun w' => ∃ z : After w1, w' = z.w) [] (by kernel_rfl) ?_
    refine pi_t 0 rfl (by kernel_rfl) (by kernel_rfl) (fun _ _ _ _ h => h) (fun K hK => ?_)
    go_big_quiet_op
    refine hK _ ?_
    clear hK K
    refine pi_t 1 rfl (by kernel_rfl) (by kernel_rfl) (fun _ _ _ _ h => h) (fun K hK => ?_)
    go_big_quiet_op
    refine hK _ ?_
    clear hK K
    refine pi_t 2 rfl (by kernel_rfl) (by kernel_rfl) (fun _ _ _ _ h => h) (fun K hK => ?_)
    go_big_quiet_op
    refine hK _ ?_
    clear hK K
    refine pi_t 4 rfl (by kernel_rfl) (by kernel_rfl) (fun _ _ _ _ h => h) (fun K hK => ?_)
    go_big_quiet_op
    refine hK _ ?_
    clear hK K
    refine pi_t 5 rfl (by kernel_rfl) (by kernel_rfl) (fun _ _ _ _ h => h) (fun K hK => ?_)
    go_big_quiet_op
    refine hK _ ?_
    clear hK K
    refine pi_t 6 rfl (by kernel_rfl) (by kernel_rfl) (fun _ _ _ _ h => h) (fun K hK => ?_)
    go_big_quiet_op
    refine hK _ ?_
    clear hK K
    refine pi_t 8 rfl (by kernel_rfl) (by kernel_rfl) (fun _ _ _ _ h => h) (fun K hK => ?_)
    go_big_quiet_op
    refine hK _ ?_
    clear hK K
    refine pi_c 3 (by assumption) rfl (by kernel_rfl) (by kernel_rfl) (fun _ _ _ _ h => h) (fun K hK => ?_)
    go_big_quiet_op
    refine hK _ ?_
    clear hK K
    refine pi_c 7 (by assumption) rfl (by kernel_rfl) (by kernel_rfl) (fun _ _ _ _ h => h) (fun K hK => ?_)
    go_big_quiet_op
    refine hK _ ?_
    clear hK K
    refine pi_l 9 rfl (by kernel_rfl) (fun K hK => ?_)
    go_wp2_with (go_at_call 156; refine Calls.mono (HCOL.out _) ?_; rintro e w2 ⟨cv, rfl, ho, hx2⟩)
    refine hK _ _ (fun _ h => af_step h hx2) ?_
    clear hK K
    have hE2 : Ext w w2 := hE1.trans' (Ext.trans' (Below.drew (Ext.refl w1)) hx2)
    refine pi_t 10 rfl (by kernel_rfl) (by kernel_rfl) (fun _ _ _ _ h => h) (fun K hK => ?_)
    go_big_quiet_op
    refine hK _ ?_
    clear hK K
    refine pi_end (by kernel_rfl) ?_
    rw [HRT.out] at ho
    have HV := Lib.hid (IntsAt.of_row ho)
    have hne : ∀ g off n cap, cv = .slice (some ⟨g, off, none⟩) n cap → ¬ G.foot R g := fun g off n cap hv hf => by
      have h1 := own_blk ho (k := g) (by rw [hv]; rfl)
      have h2 := HH.out.g.lt hf
      have h3 := hE1.size
      have h4 : w1.heap.size ≤ g := h1
      omega
    have HNE := Lib.hid hne
    have HS2 := Lib.hid (HH.out.ext hE2)
    have hex2 := HS2.out.ex
    have ls2 := HS2.out.lts
    clear c0 c1 c2 c3 c4 c5 ls1 ho hne hx2 hE1
    have c3 := (cell_of hex2 3).trans rfl
    have c6 := (cell_of hex2 6).trans rfl
    clear hex2
    by_cases hmd : C.mode = 2
    · have hul := HUC.out hmd
      have HUL := Lib.hid hul
      have hmb : (C.mode == 2) = true := by simpa using hmd
      have HEN2 := Lib.hid (fun hd => HEN.out hmd hd)
      have HEC2 := Lib.hid (fun hd => HEC.out hmd hd)
      clear hul hmd HES HUS
      go_wp2_with fail
      refine Calls.mono (RRaise_c G R W l (cols C lv key) cv d _ HS2.out.g HS2.out.fit HD.out HV.out HM.out HNE.out) ?_
      rintro e w3 (⟨hdn, rfl, hx3⟩ | ⟨hdn, (⟨hf, rfl, hg3, hm3⟩ | ⟨hf, rfl, hx3⟩)⟩)
      · have her : er = 3 := HEN2.out hdn
        subst her
        go_wp2
        go_ret
        exact ⟨rfl, by first | exact .inr ⟨by decide, hE2.trans' hx3⟩ | exact hE2.trans' hx3⟩
      · have her : er = 0 := by rw [HEC2.out (by omega), fitB_yes hf]; rfl
        subst her
        have HG3 := Lib.hid hg3
        have HF := Lib.hid hf
        clear hg3 hf
        go_wp2
        go_ret
        have hfit : ∀ x ∈ ul, I64 x := by
          rw [HUL.out]
          intro x hx
          rcases putK_mem R hx with hx | ⟨j, hj, rfl⟩
          · exact HS2.out.fit x hx
          · have h1 := getD_i64 HS2.out.fit (at_ W (cols C lv key) j)
            have h2 := HF.out
            unfold I64 at *
            omega
        have hS3 : RSAt w3 s G C lv R W ul := HS2.out.putg (by rw [HUL.out]; exact HG3.out) hm3 hfit
        exact ⟨rfl, by first | exact .inl ⟨rfl, hS3, (hE2.mod _).trans hm3⟩ | exact ⟨hS3, (hE2.mod _).trans hm3⟩⟩
      · have her : er = 4 := by rw [HEC2.out (by omega), fitB_no hf]; rfl
        subst her
        clear hf
        go_wp2
        go_ret
        exact ⟨rfl, by first | exact .inr ⟨by decide, hE2.trans' hx3⟩ | exact hE2.trans' hx3⟩
    · have hul := HUS.out hmd
      have HUL := Lib.hid hul
      have hmb : (C.mode == 2) = false := by simpa using hmd
      have HES2 := Lib.hid (HES.out hmd)
      clear hul hmd HEN HEC HUC
      go_wp2_with fail
      refine Calls.mono (RChange_c G R W l (cols C lv key) cv d _ HS2.out.g HS2.out.fit HD.out HV.out HM.out HNE.out) ?_
      rintro e w3 (⟨hf, rfl, hg3, hm3⟩ | ⟨hf, rfl, hx3⟩)
      · have her : er = 0 := by rw [HES2.out, fits_all.1 hf]; rfl
        subst her
        have HG3 := Lib.hid hg3
        have HF := Lib.hid hf
        clear hg3 hf
        go_wp2
        go_ret
        have hfit : ∀ x ∈ ul, I64 x := by
          rw [HUL.out]
          intro x hx
          rcases putK_mem R hx with hx | ⟨j, hj, rfl⟩
          · exact HS2.out.fit x hx
          · exact HF.out j hj
        have hS3 : RSAt w3 s G C lv R W ul := HS2.out.putg (by rw [HUL.out]; exact HG3.out) hm3 hfit
        exact ⟨rfl, by first | exact .inl ⟨rfl, hS3, (hE2.mod _).trans hm3⟩ | exact ⟨hS3, (hE2.mod _).trans hm3⟩⟩
      · have her : er = 4 := by rw [HES2.out, show allFit W (cols C lv key) l d R = false from Bool.eq_false_iff.2 (fun hA => hf (allFit_iff.1 hA))]; rfl
        subst her
        clear hf
        go_wp2
        go_ret
        exact ⟨rfl, by first | exact .inr ⟨by decide, hE2.trans' hx3⟩ | exact hE2.trans' hx3⟩
theorem min_kth0 {l : List Int} (h : l ≠ []) : IsKth l 0 (minL l) := by
  obtain ⟨h1, h2⟩ := minL_spec l h
  exact ⟨by rw [less_nil h2]; exact Nat.le_refl _, by have := same_mem h1; omega⟩
/-- What Point tells of a key of any kind. -/
def ptS (C : Cfg) (lv : Int) (R W : Nat) (l : List Int) (key : Int) (x r : Int) : Prop :=
  (keys C lv ≤ key ∧ x = 0 ∧ r = 2) ∨ (key < keys C lv ∧ IsKth (readL W l (cols C lv key)) (if C.mode = 3 then (R - 1) / 2 else 0) x ∧ r = 0)
set_option maxRecDepth 20000 in
set_option maxHeartbeats 8000000 in
theorem RSPoint_c (s : Nat) (G : Gr) (C : Cfg) (lv : Int) (R W : Nat) (l : List Int) (key : Int) (w : World) (h : RSAt w s G C lv R W l) (hk : U64 key) :
    Calls Tryz.prog 104 #[.pointer (some ⟨s, 0, none⟩), .int .u64 key] w fun e w' => ∃ x r, e = .returned (.tuple #[.int .i64 x, .int .i64 r]) ∧ ptS C lv R W l key x r ∧ Ext w w' := by
  obtain ⟨hk0, hk1⟩ := hk
  have hok := h.ok
  have hlo := h.lo
  have hhi := h.hi
  have hkb := keys_bd C hok lv hlo
  have hm := cols_meets C hok lv key h.hr h.hw
  have HM := Lib.hid hm
  have HH := Lib.hid h
  have ls := h.lts
  have hex := h.ex
  have c0 := (cell_of hex 0).trans rfl
  have c1 := (cell_of hex 1).trans rfl
  have c2 := (cell_of hex 2).trans rfl
  have c3 := (cell_of hex 3).trans rfl
  have c4 := (cell_of hex 4).trans rfl
  have c5 := (cell_of hex 5).trans rfl
  have hRt : C.rows.toNat = R := by rw [h.hr]; rfl
  have HRT := Lib.hid hRt
  clear hex h hm hRt
  by_cases hge : keys C lv ≤ key
  · have hge' : decide (keys C lv ≤ key) = true := decide_eq_true hge
    go_enter Tryz.func104, Tryz.ntmps104
    go_wp2_with fail
    have hC0 := af_drew w
    refine pi_start (fun w' => ∃ z : After w, w' = z.w) [] (by kernel_rfl) ?_
    refine pi_t 0 rfl (by kernel_rfl) (by kernel_rfl) (fun _ _ _ _ h => h) (fun K hK => ?_)
    go_big_quiet_op
    refine hK _ ?_
    clear hK K
    refine pi_t 1 rfl (by kernel_rfl) (by kernel_rfl) (fun _ _ _ _ h => h) (fun K hK => ?_)
    go_big_quiet_op
    refine hK _ ?_
    clear hK K
    refine pi_t 2 rfl (by kernel_rfl) (by kernel_rfl) (fun _ _ _ _ h => h) (fun K hK => ?_)
    go_big_quiet_op
    refine hK _ ?_
    clear hK K
    refine pi_t 3 rfl (by kernel_rfl) (by kernel_rfl) (fun _ _ _ _ h => h) (fun K hK => ?_)
    go_big_quiet_op
    refine hK _ ?_
    clear hK K
    refine pi_t 5 rfl (by kernel_rfl) (by kernel_rfl) (fun _ _ _ _ h => h) (fun K hK => ?_)
    go_big_quiet_op
    refine hK _ ?_
    clear hK K
    refine pi_t 6 rfl (by kernel_rfl) (by kernel_rfl) (fun _ _ _ _ h => h) (fun K hK => ?_)
    go_big_quiet_op
    refine hK _ ?_
    clear hK K
    refine pi_t 7 rfl (by kernel_rfl) (by kernel_rfl) (fun _ _ _ _ h => h) (fun K hK => ?_)
    go_big_quiet_op
    refine hK _ ?_
    clear hK K
    refine pi_c 4 (by assumption) rfl (by kernel_rfl) (by kernel_rfl) (fun _ _ _ _ h => h) (fun K hK => ?_)
    go_big_quiet_op
    refine hK _ ?_
    clear hK K
    refine pi_c 8 (by assumption) rfl (by kernel_rfl) (by kernel_rfl) (fun _ _ _ _ h => h) (fun K hK => ?_)
    go_big_quiet_op
    refine hK _ ?_
    clear hK K
    refine pi_l 9 rfl (by kernel_rfl) (fun K hK => ?_)
    go_wp2_with (go_at_call 79; refine (KeysR_c C hok lv hlo hhi _).mono ?_; rintro e w1 ⟨rfl, hx1⟩)
    refine hK _ _ (fun _ h => af_step h hx1) ?_
    clear hK K
    have hE1 : Ext w w1 := Ext.trans' (Below.drew (Ext.refl w)) hx1
    refine pi_t 10 rfl (by kernel_rfl) (by kernel_rfl) (fun _ _ _ _ h => h) (fun K hK => ?_)
    go_big_quiet_op
    refine hK _ ?_
    clear hK K
    refine pi_end (by kernel_rfl) ?_
    go_wp2
    go_ret2
    exact ⟨0, 2, rfl, .inl ⟨hge, rfl, rfl⟩, hE1⟩
  · have hlt : key < keys C lv := by omega
    have hge' : decide (keys C lv ≤ key) = false := decide_eq_false hge
    have HCOL := Lib.hid (fun W' => ColumnsR_c C hok lv key hlo hhi hk0 hlt W')
    have HLT := Lib.hid hlt
    clear hge
    go_enter Tryz.func104, Tryz.ntmps104
    go_wp2_with fail
    have hC0 := af_drew w
    refine pi_start (fun w' => ∃ z : After w, w' = z.w) [] (by kernel_rfl) ?_
    refine pi_t 0 rfl (by kernel_rfl) (by kernel_rfl) (fun _ _ _ _ h => h) (fun K hK => ?_)
    go_big_quiet_op
    refine hK _ ?_
    clear hK K
    refine pi_t 1 rfl (by kernel_rfl) (by kernel_rfl) (fun _ _ _ _ h => h) (fun K hK => ?_)
    go_big_quiet_op
    refine hK _ ?_
    clear hK K
    refine pi_t 2 rfl (by kernel_rfl) (by kernel_rfl) (fun _ _ _ _ h => h) (fun K hK => ?_)
    go_big_quiet_op
    refine hK _ ?_
    clear hK K
    refine pi_t 3 rfl (by kernel_rfl) (by kernel_rfl) (fun _ _ _ _ h => h) (fun K hK => ?_)
    go_big_quiet_op
    refine hK _ ?_
    clear hK K
    refine pi_t 5 rfl (by kernel_rfl) (by kernel_rfl) (fun _ _ _ _ h => h) (fun K hK => ?_)
    go_big_quiet_op
    refine hK _ ?_
    clear hK K
    refine pi_t 6 rfl (by kernel_rfl) (by kernel_rfl) (fun _ _ _ _ h => h) (fun K hK => ?_)
    go_big_quiet_op
    refine hK _ ?_
    clear hK K
    refine pi_t 7 rfl (by kernel_rfl) (by kernel_rfl) (fun _ _ _ _ h => h) (fun K hK => ?_)
    go_big_quiet_op
    refine hK _ ?_
    clear hK K
    refine pi_c 4 (by assumption) rfl (by kernel_rfl) (by kernel_rfl) (fun _ _ _ _ h => h) (fun K hK => ?_)
    go_big_quiet_op
    refine hK _ ?_
    clear hK K
    refine pi_c 8 (by assumption) rfl (by kernel_rfl) (by kernel_rfl) (fun _ _ _ _ h => h) (fun K hK => ?_)
    go_big_quiet_op
    refine hK _ ?_
    clear hK K
    refine pi_l 9 rfl (by kernel_rfl) (fun K hK => ?_)
    go_wp2_with (go_at_call 79; refine (KeysR_c C hok lv hlo hhi _).mono ?_; rintro e w1 ⟨rfl, hx1⟩)
    refine hK _ _ (fun _ h => af_step h hx1) ?_
    clear hK K
    have hE1 : Ext w w1 := Ext.trans' (Below.drew (Ext.refl w)) hx1
    refine pi_t 10 rfl (by kernel_rfl) (by kernel_rfl) (fun _ _ _ _ h => h) (fun K hK => ?_)
    go_big_quiet_op
    refine hK _ ?_
    clear hK K
    refine pi_end (by kernel_rfl) ?_
    have hex1 := (HH.out.ext hE1).ex
    have ls1 := (HH.out.ext hE1).lts
    clear c0 c1 c2 c3 c4 c5 ls
    have c0 := (cell_of hex1 0).trans rfl
    have c1 := (cell_of hex1 1).trans rfl
    have c2 := (cell_of hex1 2).trans rfl
    have c3 := (cell_of hex1 3).trans rfl
    have c4 := (cell_of hex1 4).trans rfl
    have c5 := (cell_of hex1 5).trans rfl
    clear hex1 hx1
    go_wp2_with fail
    have hC0 := af_drew w1
    refine pi_start (fun w' => ∃ z : After w1, w' = z.w) [] (by kernel_rfl) ?_
    refine pi_t 0 rfl (by kernel_rfl) (by kernel_rfl) (fun _ _ _ _ h => h) (fun K hK => ?_)
    go_big_quiet_op
    refine hK _ ?_
    clear hK K
    refine pi_t 1 rfl (by kernel_rfl) (by kernel_rfl) (fun _ _ _ _ h => h) (fun K hK => ?_)
    go_big_quiet_op
    refine hK _ ?_
    clear hK K
    refine pi_t 2 rfl (by kernel_rfl) (by kernel_rfl) (fun _ _ _ _ h => h) (fun K hK => ?_)
    go_big_quiet_op
    refine hK _ ?_
    clear hK K
    refine pi_t 4 rfl (by kernel_rfl) (by kernel_rfl) (fun _ _ _ _ h => h) (fun K hK => ?_)
    go_big_quiet_op
    refine hK _ ?_
    clear hK K
    refine pi_t 5 rfl (by kernel_rfl) (by kernel_rfl) (fun _ _ _ _ h => h) (fun K hK => ?_)
    go_big_quiet_op
    refine hK _ ?_
    clear hK K
    refine pi_t 6 rfl (by kernel_rfl) (by kernel_rfl) (fun _ _ _ _ h => h) (fun K hK => ?_)
    go_big_quiet_op
    refine hK _ ?_
    clear hK K
    refine pi_t 8 rfl (by kernel_rfl) (by kernel_rfl) (fun _ _ _ _ h => h) (fun K hK => ?_)
    go_big_quiet_op
    refine hK _ ?_
    clear hK K
    refine pi_c 3 (by assumption) rfl (by kernel_rfl) (by kernel_rfl) (fun _ _ _ _ h => h) (fun K hK => ?_)
    go_big_quiet_op
    refine hK _ ?_
    clear hK K
    refine pi_c 7 (by assumption) rfl (by kernel_rfl) (by kernel_rfl) (fun _ _ _ _ h => h) (fun K hK => ?_)
    go_big_quiet_op
    refine hK _ ?_
    clear hK K
    refine pi_l 9 rfl (by kernel_rfl) (fun K hK => ?_)
    go_wp2_with (go_at_call 156; refine Calls.mono (HCOL.out _) ?_; rintro e w2 ⟨cv, rfl, ho, hx2⟩)
    refine hK _ _ (fun _ h => af_step h hx2) ?_
    clear hK K
    have hE2 : Ext w w2 := hE1.trans' (Ext.trans' (Below.drew (Ext.refl w1)) hx2)
    refine pi_t 10 rfl (by kernel_rfl) (by kernel_rfl) (fun _ _ _ _ h => h) (fun K hK => ?_)
    go_big_quiet_op
    refine hK _ ?_
    clear hK K
    refine pi_end (by kernel_rfl) ?_
    rw [HRT.out] at ho
    have HV := Lib.hid (IntsAt.of_row ho)
    have HS2 := Lib.hid (HH.out.ext hE2)
    have hex2 := HS2.out.ex
    have ls2 := HS2.out.lts
    clear c0 c1 c2 c3 c4 c5 ls1 ho hx2 hE1
    have c3 := (cell_of hex2 3).trans rfl
    have c6 := (cell_of hex2 6).trans rfl
    clear hex2
    by_cases hmd : C.mode = 3
    · have hmb : (C.mode == 3) = true := by simpa using hmd
      have HMD := Lib.hid hmd
      clear hmd
      go_wp2_with fail
      refine Calls.mono (RMiddle_c G R W l (cols C lv key) cv _ HS2.out.g HV.out HM.out) ?_
      rintro e w3 ⟨x, rfl, hkth, hx3⟩
      have HKTH := Lib.hid hkth
      clear hkth
      go_wp2
      go_ret2
      exact ⟨x, 0, rfl, .inr ⟨HLT.out, by rw [if_pos HMD.out]; exact HKTH.out, rfl⟩, hE2.trans' hx3⟩
    · have hmb : (C.mode == 3) = false := by simpa using hmd
      have HMD := Lib.hid hmd
      have hR0 : 1 ≤ R := by have := HS2.out.g.r1; omega
      clear hmd
      go_wp2_with fail
      refine Calls.mono (RLeast_c G R W l (cols C lv key) cv _ HS2.out.g HV.out HM.out) ?_
      rintro e w3 ⟨rfl, hx3⟩
      go_wp2
      go_ret2
      refine ⟨_, 0, rfl, .inr ⟨HLT.out, ?_, rfl⟩, hE2.trans' hx3⟩
      rw [if_neg HMD.out]
      exact min_kth0 (by intro e; have := readL_len W l (cols C lv key); rw [e, HM.out.len] at this; simp at this; omega)
end Go.Proofs.YtfhdjekpdifajaaGreat
namespace Go.Proofs.YtfhdjekpdifajaaGreat
set_option linter.unusedVariables false
open Go.RowKit
theorem RGAt.cong {w : World} {G : Gr} {R W : Nat} {m m' : List Int} (h : RGAt w G R W m) (hl : m'.length = R * W) (he : ∀ r k, r < R → k < W → m'.getD (r * W + k) 0 = m.getD (r * W + k) 0) : RGAt w G R W m' :=
  ⟨h.ex, h.row, fun r hr => by obtain ⟨cur, h1, h2⟩ := h.cells r hr; exact ⟨cur, h1, fun k hk => by rw [h2 k hk, he r k hr hk]⟩, h.capc, h.sep, hl, h.r1, h.r2, h.w1, h.w2⟩
def Gr.put (G : Gr) (r z cap : Nat) : Gr := ⟨G.g, G.m, fun q => if q = r then z else G.r q, fun q => if q = r then cap else G.c q⟩
theorem Gr.put_foot {G : Gr} {r z cap R k : Nat} (h : (G.put r z cap).foot R k) : G.foot R k ∨ k = z := by
  rcases h with h | h | ⟨q, hq, h⟩
  · exact .inl (.inl h)
  · exact .inl (.inr (.inl h))
  · by_cases e : q = r
    · have : (G.put r z cap).r q = z := if_pos e
      rw [this] at h; exact .inr h
    · have : (G.put r z cap).r q = G.r q := if_neg e
      rw [this] at h; exact .inl (.inr (.inr ⟨q, hq, h⟩))
/-- Another row is laid in. -/
theorem RGAt.putRow {w : World} {G : Gr} {R W : Nat} {m m' : List Int} (h : RGAt w G R W m) {r z cap : Nat} {cur : Array Value} {f : Nat → Int} (hr : r < R) (hz : w.heap[z]? = some (.cells cur 2 (0, 0))) (hf : ∀ k, k < W → cur[k]? = some (.int .i64 (f k))) (hcap : W ≤ cap) (hn : ∀ q, q < R → G.r q ≠ z)
    (hl : m'.length = R * W) (he : ∀ q k, q < R → k < W → m'.getD (q * W + k) 0 = if q = r then f k else m.getD (q * W + k) 0) : RGAt (w.setCell ⟨G.m, r, none⟩ (.slice (some ⟨z, 0, none⟩) W cap)) (G.put r z cap) R W m' := by
  obtain ⟨cur0, h1, h2⟩ := h.row
  obtain ⟨cp, h3, h4⟩ := h.ex
  have hrs : r < cur0.size := by have := h2 r hr; rw [Array.getElem?_eq_some_iff] at this; exact this.1
  have hzm : z ≠ G.m := blk_ne hz h1 (by decide)
  refine ⟨⟨cp, (setCell_other _ _ h.ngm).trans h3, h4⟩, ⟨_, setCell_same h1 _ _, fun q hq => ?_⟩, fun q hq => ?_, fun q hq => ?_, fun q p hq hp hqp => ?_, hl, h.r1, h.r2, h.w1, h.w2⟩
  · by_cases e : q = r
    · subst e
      rw [Array.getElem?_setIfInBounds_self_of_lt hrs]
      show some _ = some (Value.slice (some ⟨if q = q then z else G.r q, 0, none⟩) W (if q = q then cap else G.c q))
      rw [if_pos rfl, if_pos rfl]
    · rw [Array.getElem?_setIfInBounds_ne (fun e' => e e'.symm), h2 q hq]
      show some (Value.slice (some ⟨G.r q, 0, none⟩) W (G.c q)) = some (Value.slice (some ⟨if q = r then z else G.r q, 0, none⟩) W (if q = r then cap else G.c q))
      rw [if_neg e, if_neg e]
  · by_cases e : q = r
    · refine ⟨cur, ?_, fun k hk => ?_⟩
      · have : (G.put r z cap).r q = z := if_pos e
        rw [this, setCell_other _ _ hzm]; exact hz
      · rw [hf k hk, he q k hq hk, if_pos e]
    · obtain ⟨cu, a1, a2⟩ := h.cells q hq
      refine ⟨cu, ?_, fun k hk => ?_⟩
      · have : (G.put r z cap).r q = G.r q := if_neg e
        rw [this, setCell_other _ _ (fun e' => h.nmr hq e'.symm)]; exact a1
      · rw [a2 k hk, he q k hq hk, if_neg e]
  · by_cases e : q = r
    · have : (G.put r z cap).c q = cap := if_pos e
      rw [this]; exact hcap
    · have : (G.put r z cap).c q = G.c q := if_neg e
      rw [this]; exact h.capc q hq
  · by_cases e : q = r
    · have e1 : (G.put r z cap).r q = z := if_pos e
      have e2 : (G.put r z cap).r p = G.r p := if_neg (fun e' => hqp (e.trans e'.symm))
      rw [e1, e2]; exact fun e' => hn p hp e'.symm
    · have e1 : (G.put r z cap).r q = G.r q := if_neg e
      rw [e1]
      by_cases e' : p = r
      · have e2 : (G.put r z cap).r p = z := if_pos e'
        rw [e2]; exact hn q hq
      · have e2 : (G.put r z cap).r p = G.r p := if_neg e'
        rw [e2]; exact h.sep q p hq hp hqp
/-- The first rows of one, noughts behind. -/
def mixR (l : List Int) (R W k : Nat) : List Int := (List.range (R * W)).map fun i => if i / W < k then l.getD i 0 else 0
theorem mixR_len (l : List Int) (R W k : Nat) : (mixR l R W k).length = R * W := by simp [mixR]
theorem row_lt {R W r k : Nat} (hr : r < R) (hk : k < W) : r * W + k < R * W := by
  calc r * W + k < r * W + W := by omega
    _ = (r + 1) * W := by rw [Nat.add_mul, Nat.one_mul]
    _ ≤ R * W := Nat.mul_le_mul_right W hr
theorem mixR_get {l : List Int} {R W n r k : Nat} (hr : r < R) (hk : k < W) : (mixR l R W n).getD (r * W + k) 0 = if r < n then l.getD (r * W + k) 0 else 0 := by
  have h1 := row_lt hr hk
  have h2 : (r * W + k) / W = r := by rw [Nat.mul_comm, Nat.mul_add_div (by omega), Nat.div_eq_of_lt hk, Nat.add_zero]
  unfold mixR
  rw [List.getD_eq_getElem?_getD, List.getElem?_map, List.getElem?_range h1]
  simp only [Option.map_some, Option.getD_some, h2]
set_option maxRecDepth 20000 in
set_option maxHeartbeats 8000000 in
theorem RSCopy_c (s : Nat) (G : Gr) (C : Cfg) (lv : Int) (R W : Nat) (l : List Int) (w : World) (h : RSAt w s G C lv R W l) :
    Calls Tryz.prog 106 #[.pointer (some ⟨s, 0, none⟩)] w (RSNewPost w C lv R W l) := by
  have hok := h.ok
  have hlo := h.lo
  have hhi := h.hi
  have r1 := h.g.r1
  have r2 := h.g.r2
  have w1' := h.g.w1
  have w2' := h.g.w2
  have HH := Lib.hid h
  have ls := h.lts
  have hex := h.ex
  have c0 := (cell_of hex 0).trans rfl
  have c1 := (cell_of hex 1).trans rfl
  have c2 := (cell_of hex 2).trans rfl
  have c3 := (cell_of hex 3).trans rfl
  have c4 := (cell_of hex 4).trans rfl
  have c5 := (cell_of hex 5).trans rfl
  have HN := Lib.hid (fun W' => RSNew_c C hok lv hlo hhi R W h.hr h.hw W')
  have HLEN := Lib.hid h.g.len
  clear hex h
  go_enter Tryz.func106, Tryz.ntmps106
  go_wp2_with fail
  have hC0 := af_drew w
  refine pi_start (fun w' => ∃ z : After w, w' = z.w) [] (by kernel_rfl) ?_
  refine pi_t 0 rfl (by kernel_rfl) (by kernel_rfl) (fun _ _ _ _ h => h) (fun K hK => ?_)
  go_big_quiet_op
  refine hK _ ?_
  clear hK K
  refine pi_t 1 rfl (by kernel_rfl) (by kernel_rfl) (fun _ _ _ _ h => h) (fun K hK => ?_)
  go_big_quiet_op
  refine hK _ ?_
  clear hK K
  refine pi_t 2 rfl (by kernel_rfl) (by kernel_rfl) (fun _ _ _ _ h => h) (fun K hK => ?_)
  go_big_quiet_op
  refine hK _ ?_
  clear hK K
  refine pi_t 4 rfl (by kernel_rfl) (by kernel_rfl) (fun _ _ _ _ h => h) (fun K hK => ?_)
  go_big_quiet_op
  refine hK _ ?_
  clear hK K
  refine pi_t 5 rfl (by kernel_rfl) (by kernel_rfl) (fun _ _ _ _ h => h) (fun K hK => ?_)
  go_big_quiet_op
  refine hK _ ?_
  clear hK K
  refine pi_t 6 rfl (by kernel_rfl) (by kernel_rfl) (fun _ _ _ _ h => h) (fun K hK => ?_)
  go_big_quiet_op
  refine hK _ ?_
  clear hK K
  refine pi_c 3 (by assumption) rfl (by kernel_rfl) (by kernel_rfl) (fun _ _ _ _ h => h) (fun K hK => ?_)
  go_big_quiet_op
  refine hK _ ?_
  clear hK K
  refine pi_c 7 (by assumption) rfl (by kernel_rfl) (by kernel_rfl) (fun _ _ _ _ h => h) (fun K hK => ?_)
  go_big_quiet_op
  refine hK _ ?_
  clear hK K
  refine pi_l 8 rfl (by kernel_rfl) (fun K hK => ?_)
  go_wp2_with (go_at_call 102; refine Calls.mono (HN.out _) ?_; rintro e w1 ⟨s1, G1, rfl, hS1, hF1, hx1⟩)
  refine hK _ _ (fun _ h => af_step h hx1) ?_
  clear hK K
  have hE1 : Ext w w1 := Ext.trans' (Below.drew (Ext.refl w)) hx1
  have hF1' : ∀ k, rsF s1 G1 R k → w.heap.size ≤ k := hF1
  have HS1 := Lib.hid hS1
  have HF1 := Lib.hid hF1'
  have hs1 : w.heap.size ≤ s1 := hF1' s1 (.inl rfl)
  clear hx1 hS1 hF1 hF1' c0 c1 c2 c3 c4 c5 HN
  refine pi_t 9 rfl (by kernel_rfl) (by kernel_rfl) (fun _ _ _ _ h => h) (fun K hK => ?_)
  go_big_quiet_op
  refine hK _ ?_
  clear hK K
  refine pi_end (by kernel_rfl) ?_
  go_wp2_with fail
  go_loopw [4] (fun u4 wr => ∃ (k : Nat) (G' : Gr), k ≤ R ∧ u4 = .int .i64 k ∧ G'.g = G1.g ∧ RGAt wr G' R W (mixR l R W k) ∧ (∀ j, G'.foot R j → w.heap.size ≤ j) ∧ wr.heap[s1]? = some (.cells #[.int .i64 C.bits, .int .i64 C.rows, .int .i64 C.width, .int .i64 C.mode, .int .u64 C.seed, .int .i64 lv, .pointer (some ⟨G1.g, 0, none⟩)] 158 (0, 0)) ∧ Ext w wr) (fun u4 _ => R - (intOf u4).toNat)
  case atStart =>
    refine ⟨0, G1, Nat.zero_le _, rfl, rfl, HS1.out.g.cong (mixR_len _ _ _ _) (fun r k hr hk => ?_), fun j hj => HF1.out j (.inr hj), HS1.out.ex, hE1⟩
    rw [mixR_get hr hk, if_neg (Nat.not_lt_zero _), zs_get0]
  case round =>
    obtain ⟨k, G', hk, rfl, hgg, hG, hF, hbx, hE⟩ := hrel
    have hr := HH.out.ext hE
    obtain ⟨cap2, cg, hcap2⟩ := hr.g.cg
    have lg := hr.g.ltg
    have c6 := (cell_of hr.ex 6).trans rfl
    have lsr := hr.lts
    by_cases hlt : k < R
    · obtain ⟨cap3, cg', hcap3⟩ := hG.cg
      have lg' := hG.ltg
      rw [hgg] at cg' lg'
      have b6 := (cell_of hbx 6).trans rfl
      have bl := lt_of hbx
      have cm := hr.g.cm hlt
      have lm := hr.g.ltm
      have cm' := hG.cm hlt
      have fm' := hG.fm k
      have lm' := hG.ltm
      have hcell : ∀ W' : World, Ext wr W' → ∀ j, j < W → W'.cell? ⟨G.r k, 0 + j, none⟩ = some (.int .i64 ((rowL l W k).getD j 0)) := fun W' hW j hj => by
        rw [(bcell hW).1 _ _ (hr.g.ltr hlt), Nat.zero_add, rowL_get hj]; exact hr.g.cr hlt hj
      have HC := Lib.hid hcell
      have HG := Lib.hid hG
      have HF := Lib.hid hF
      have HBX := Lib.hid hbx
      have HGG := Lib.hid hgg
      have hrl := rowL_len l W k
      have HRL := Lib.hid hrl
      have hkz : (k : Int) < (R : Int) := by omega
      have hszE := hE.size
      clear hcell hG hF hbx hgg hrl hr
      go_wp2_with fail
      have hC0 := af_drew wr
      refine pi_start (fun w' => ∃ z : After wr, w' = z.w) [21] (by kernel_rfl) ?_
      refine pi_t 0 rfl (by kernel_rfl) (by kernel_rfl) (fun _ _ _ _ h => h) (fun K hK => ?_)
      go_big_quiet_op
      refine hK _ ?_
      clear hK K
      refine pi_t 1 rfl (by kernel_rfl) (by kernel_rfl) (fun _ _ _ _ h => h) (fun K hK => ?_)
      go_big_quiet_op
      refine hK _ ?_
      clear hK K
      refine pi_t 2 rfl (by kernel_rfl) (by kernel_rfl) (fun _ _ _ _ h => h) (fun K hK => ?_)
      go_big_quiet_op
      refine hK _ ?_
      clear hK K
      refine pi_t 7 rfl (by kernel_rfl) (by kernel_rfl) (fun _ _ _ _ h => h) (fun K hK => ?_)
      go_big_quiet_op
      refine hK _ ?_
      clear hK K
      refine pi_t 9 rfl (by kernel_rfl) (by kernel_rfl) (fun _ _ _ _ h => h) (fun K hK => ?_)
      go_big_quiet_op
      refine hK _ ?_
      clear hK K
      refine pi_t 10 rfl (by kernel_rfl) (by kernel_rfl) (fun _ _ _ _ h => h) (fun K hK => ?_)
      go_big_quiet_op
      refine hK _ ?_
      clear hK K
      refine pi_t 11 rfl (by kernel_rfl) (by kernel_rfl) (fun _ _ _ _ h => h) (fun K hK => ?_)
      go_big_quiet_op
      refine hK _ ?_
      clear hK K
      refine pi_t 16 rfl (by kernel_rfl) (by kernel_rfl) (fun _ _ _ _ h => h) (fun K hK => ?_)
      go_big_quiet_op
      refine hK _ ?_
      clear hK K
      refine pi_c 3 (by assumption) rfl (by kernel_rfl) (by kernel_rfl) (fun _ _ _ _ h => h) (fun K hK => ?_)
      go_big_quiet_op
      refine hK _ ?_
      clear hK K
      refine pi_t 4 rfl (by kernel_rfl) (by kernel_rfl) (fun _ _ _ _ h => h) (fun K hK => ?_)
      go_big_quiet_op
      refine hK _ ?_
      clear hK K
      refine pi_t 5 rfl (by kernel_rfl) (by kernel_rfl) (fun _ _ _ _ h => h) (fun K hK => ?_)
      go_big_quiet_op
      refine hK _ ?_
      clear hK K
      refine pi_c 6 (by assumption) rfl (by kernel_rfl) (by kernel_rfl) (fun _ _ _ _ h => h) (fun K hK => ?_)
      go_big_quiet_op
      refine hK _ ?_
      clear hK K
      refine pi_c 12 (by assumption) rfl (by kernel_rfl) (by kernel_rfl) (fun _ _ _ _ h => h) (fun K hK => ?_)
      go_big_quiet_op
      refine hK _ ?_
      clear hK K
      refine pi_t 13 rfl (by kernel_rfl) (by kernel_rfl) (fun _ _ _ _ h => h) (fun K hK => ?_)
      go_big_quiet_op
      refine hK _ ?_
      clear hK K
      refine pi_t 14 rfl (by kernel_rfl) (by kernel_rfl) (fun _ _ _ _ h => h) (fun K hK => ?_)
      go_big_quiet_op
      refine hK _ ?_
      clear hK K
      refine pi_c 15 (by assumption) rfl (by kernel_rfl) (by kernel_rfl) (fun _ _ _ _ h => h) (fun K hK => ?_)
      go_big_quiet_op
      refine hK _ ?_
      clear hK K
      refine pi_t 17 rfl (by kernel_rfl) (by kernel_rfl) (fun _ _ _ _ h => h) (fun K hK => ?_)
      go_big_quiet_op
      refine hK _ ?_
      clear hK K
      refine pi_c 18 (by assumption) rfl (by kernel_rfl) (by kernel_rfl) (fun _ _ _ _ h => h) (fun K hK => ?_)
      go_big_quiet_op
      refine hK _ ?_
      clear hK K
      refine pi_l 8 rfl (by kernel_rfl) (fun K hK => ?_)
      go_wp2
      refine hK _ _ (fun _ h => af_step h (Ext.alloc' _ _)) ?_
      clear hK K
      have hEa : Ext wr (wr.alloc (.cells #[] 2)).drew := ((Ext.refl wr).allocR _).drewR
      have hra : (wr.alloc (.cells #[] 2)).drew.ownsRow wr.heap.size 2 1 (.slice (some ⟨wr.heap.size, 0, none⟩) 0 0) ([] : List Int).length (ints []) := own_drew (own_empty wr 2)
      generalize (wr.alloc (.cells #[] 2)).drew = WA at *
      refine pi_l 19 rfl (by kernel_rfl) (fun K hK => ?_)
      go_wp2_with (at_builtin; refine wpList_appl WA (rowL l W k) [] _ wr.heap.size 2 hra 43 rfl _ _ rfl info_i64 Tryz.underlying43 (by rfl) (G.r k) 0 W (G.c k) (by rfl) HRL.out.symm (HC.out WA hEa) ?a1 ?a2 ?_)
      case a1 => show 0 + W ≤ _; omega
      case a2 => exact hEa.size
      intro v' wt g1 g2 g3
      have hEt : Ext wr wt := ext_grown0 hEa g2 (fun i hi => own_blk hra hi)
      obtain ⟨z, zc, cur, rfl, hzc, hz, hzh, hzcur⟩ := own_row1 g1 (by show 0 < (rowL l W k).length; rw [HRL.out]; omega)
      rw [HRL.out] at hzc hzcur ⊢
      have HZ := Lib.hid (And.intro hzc (And.intro hz (And.intro hzh hzcur)))
      clear g1 g2 g3 hra hzc hz hzh hzcur
      go_wp2
      refine hK _ _ (fun _ _ => ⟨⟨wt, hEt⟩, rfl⟩) ?_
      clear hK K
      have lmt : G'.m < wt.heap.size := Nat.lt_of_lt_of_le lm' hEt.size
      have fmt := ((bcell hEt).2 _ k lm').trans fm'
      have cmt := ((bcell hEt).1 _ k lm').trans cm'
      refine pi_t 20 rfl (by kernel_rfl) (by kernel_rfl) (fun _ _ _ _ h => h) (fun K hK => ?_)
      go_big_quiet_op
      refine hK _ ?_
      clear hK K
      refine pi_l 21 rfl (by kernel_rfl) (fun K hK => ?_)
      go_wp2
      refine hK _ _ (by simp) ?_
      clear hK K
      refine pi_end (by kernel_rfl) ?_
      go_wp2_with fail
      obtain ⟨q1, q2, q3, q4⟩ := HZ.out
      have hGt := HG.out.ext hEt
      have hnz : ∀ q, q < R → G'.r q ≠ z := fun q hq e => by have := HG.out.ltr hq; omega
      have hnew := hGt.putRow (m' := mixR l R W (k + 1)) hlt q3 q4 q1 hnz (mixR_len _ _ _ _) (fun q j hq hj => by
        rw [mixR_get hq hj, mixR_get hq hj]
        by_cases e : q = k
        · subst e; rw [if_pos (Nat.lt_succ_self _), if_pos rfl, rowL_get hj]
        · rw [if_neg e]
          by_cases e2 : q < k
          · rw [if_pos e2, if_pos (by omega)]
          · rw [if_neg e2, if_neg (by omega)])
      have hms : G'.m ≠ s1 := by
        obtain ⟨cu, a1, _⟩ := HG.out.row
        exact blk_ne a1 HBX.out (by decide)
      have hbf := (setCell_other (w := wt) k (Value.slice (some ⟨z, 0, none⟩) W zc) hms.symm).trans (hEt.keep HBX.out)
      have hEf : Ext w (wt.setCell ⟨G'.m, k, none⟩ (.slice (some ⟨z, 0, none⟩) W zc)) := (hE.trans' hEt).setR (p := ⟨G'.m, k, none⟩) (HF.out _ (.inr (.inl rfl))) _
      have hff : ∀ j, (G'.put k z zc).foot R j → w.heap.size ≤ j := fun j hj => by
        rcases Gr.put_foot hj with h1 | h1
        · exact HF.out j h1
        · omega
      have HNEW := Lib.hid (And.intro hnew (And.intro hff (And.intro hbf hEf)))
      clear hnew hbf hEf hff hms hGt hnz q1 q2 q3 q4
      go_roundw
      case rel => exact ⟨k + 1, G'.put k z zc, by omega, by go_num, HGG.out, HNEW.out.1, HNEW.out.2.1, HNEW.out.2.2.1, HNEW.out.2.2.2⟩
      case measure => simp [intOf]; omega
    · obtain rfl : k = R := by omega
      have hfin : RSAt wr s1 G' C lv k W l := by
        refine ⟨by rw [hgg]; exact hbx, hG.cong HLEN.out (fun r j hr' hj => by rw [mixR_get hr' hj, if_pos hr']), hok, hlo, hhi, HH.out.hr, HH.out.hw, HH.out.fit⟩
      have HFIN := Lib.hid (And.intro hfin hF)
      clear hfin hG hF hbx hr hgg
      go_wp2
      go_ret
      refine ⟨s1, G', rfl, HFIN.out.1, ?_, hE⟩
      rintro j (rfl | hj)
      · exact hs1
      · exact HFIN.out.2 j hj
end Go.Proofs.YtfhdjekpdifajaaGreat
namespace Go.Proofs.YtfhdjekpdifajaaGreat
set_option linter.unusedVariables false
open Go.RowKit
def RLNewPost (w : World) (C : Cfg) (lv : Int) (l : List Int) (e : Ending) (w' : World) : Prop :=
  ∃ L : RLev, e = .returned (.pointer (some ⟨L.p, 0, none⟩)) ∧ RLvAt w' L C lv l ∧ (∀ k, L.foot C lv k → w.heap.size ≤ k) ∧ Ext w w'
theorem RLNew_x {w w1 w' : World} {C : Cfg} {lv : Int} {a m p : Nat} {l : List Int} (hok : C.Ok) (h0 : 0 ≤ lv) (h1 : lv ≤ C.bits) (hx : isX C lv = true) (hA : RXAt w1 a m C lv (kN C lv) l) (ha : w.heap.size ≤ a) (hm : w.heap.size ≤ m) (hp : w.heap.size ≤ p) (hE : Ext w w') (hE1 : Ext w1 w')
    (hb : w'.heap[p]? = some (.cells #[.pointer (some ⟨a, 0, none⟩), .pointer none] 153 (0, 0))) : RLNewPost w C lv l (.returned (.pointer (some ⟨p, 0, none⟩))) w' := by
  refine ⟨⟨p, a, ⟨0, m, fun _ => 0, fun _ => 0⟩⟩, rfl, ⟨hok, h0, h1, .inl ⟨hx, hb, hA.ext hE1⟩⟩, ?_, hE⟩
  rintro k (rfl | ⟨_, (rfl | rfl)⟩ | ⟨hy, _⟩)
  · exact hp
  · exact ha
  · exact hm
  · rw [hx] at hy; cases hy
theorem RLNew_s {w w1 w' : World} {C : Cfg} {lv : Int} {a p : Nat} {G : Gr} {l : List Int} (hok : C.Ok) (h0 : 0 ≤ lv) (h1 : lv ≤ C.bits) (hx : isX C lv = false) (hA : RSAt w1 a G C lv (rN C) (wN C) l) (ha : ∀ k, rsF a G (rN C) k → w.heap.size ≤ k) (hp : w.heap.size ≤ p) (hE : Ext w w') (hE1 : Ext w1 w')
    (hb : w'.heap[p]? = some (.cells #[.pointer none, .pointer (some ⟨a, 0, none⟩)] 153 (0, 0))) : RLNewPost w C lv l (.returned (.pointer (some ⟨p, 0, none⟩))) w' := by
  refine ⟨⟨p, a, G⟩, rfl, ⟨hok, h0, h1, .inr ⟨hx, hb, hA.ext hE1⟩⟩, ?_, hE⟩
  rintro k (rfl | ⟨hy, _⟩ | ⟨_, hk⟩)
  · exact hp
  · rw [hx] at hy; cases hy
  · exact ha k hk
set_option maxRecDepth 20000 in
set_option maxHeartbeats 4000000 in
theorem RLNew_c (C : Cfg) (hok : C.Ok) (lv : Int) (h0 : 0 ≤ lv) (h1 : lv ≤ C.bits) (w : World) :
    Calls Tryz.prog 37 #[.agg #[.int .i64 C.bits, .int .i64 C.rows, .int .i64 C.width, .int .i64 C.mode, .int .u64 C.seed], .int .i64 lv] w (RLNewPost w C lv (zs (lvN C lv))) := by
  have hEX := fun W' => ExactR_c C hok lv h0 h1 W'
  obtain ⟨W0, hW0⟩ : ∃ W0, w.alloc (.cells #[.int .i64 C.bits, .int .i64 C.rows, .int .i64 C.width, .int .i64 C.mode, .int .u64 C.seed] 24) = W0 := ⟨_, rfl⟩
  have hCb : W0.heap[w.heap.size]? = some (.cells #[.int .i64 C.bits, .int .i64 C.rows, .int .i64 C.width, .int .i64 C.mode, .int .u64 C.seed] 24 (0, 0)) := by rw [← hW0]; exact heap_at _ _ rfl
  have hE : Ext w W0 := by rw [← hW0]; exact Ext.alloc' _ _
  have hC := CfgAt.of hCb
  have c0 := hC.c0
  have c1 := hC.c1
  have c2 := hC.c2
  have c3 := hC.c3
  have c4 := hC.c4
  have cl := hC.lt
  cases hx : isX C lv with
  | true =>
    have hlN : lvN C lv = kN C lv := by unfold lvN; rw [hx]; rfl
    rw [hx] at hEX
    rw [hlN]
    have hkn := kN_eq hok h0
    have hkb := keys_bd C hok lv h0
    have hkx : keys C lv ≤ 128 := by
      have h3 := hok.w2
      unfold isX at hx
      have := of_decide_eq_true hx
      omega
    have HX := Lib.hid hx
    have HEX := Lib.hid hEX
    have HCB := Lib.hid hCb
    have HKN := Lib.hid hkn
    clear hx hEX hC hlN hCb hkn
    go_enter Tryz.func37, Tryz.ntmps37
    go_wp2_with fail
    try rw [hW0]
    clear hW0
    refine Calls.mono (HEX.out _) ?_
    rintro e w1 ⟨rfl, hx1⟩
    have hC1 := CfgAt.of (hx1.keep HCB.out)
    have hE1 := hE.trans' hx1
    clear c0 c1 c2 c3 c4 cl hx1
    have c0 := hC1.c0
    have c1 := hC1.c1
    have c2 := hC1.c2
    have c3 := hC1.c3
    have c4 := hC1.c4
    have cl := hC1.lt
    clear hC1
    go_wp2_with fail
    have hC0 := af_drew w1
    refine pi_start (fun w' => ∃ z : After w1, w' = z.w) [] (by kernel_rfl) ?_
    refine pi_t 1 rfl (by kernel_rfl) (by kernel_rfl) (fun _ _ _ _ h => h) (fun K hK => ?_)
    go_big_quiet_op
    refine hK _ ?_
    clear hK K
    refine pi_t 3 rfl (by kernel_rfl) (by kernel_rfl) (fun _ _ _ _ h => h) (fun K hK => ?_)
    go_big_quiet_op
    refine hK _ ?_
    clear hK K
    refine pi_c 0 (by assumption) rfl (by kernel_rfl) (by kernel_rfl) (fun _ _ _ _ h => h) (fun K hK => ?_)
    go_big_quiet_op
    refine hK _ ?_
    clear hK K
    refine pi_c 2 (by assumption) rfl (by kernel_rfl) (by kernel_rfl) (fun _ _ _ _ h => h) (fun K hK => ?_)
    go_big_quiet_op
    refine hK _ ?_
    clear hK K
    refine pi_l 4 rfl (by kernel_rfl) (fun K hK => ?_)
    go_wp2_with (go_at_call 79; refine (KeysR_c C hok lv h0 h1 _).mono ?_; rintro e w2 ⟨rfl, hx2⟩)
    refine hK _ _ (fun _ h => af_step h hx2) ?_
    clear hK K
    have hE2 : Ext w1 w2 := Ext.trans' (Below.drew (Ext.refl w1)) hx2
    rw [HKN.out]
    refine pi_l 5 rfl (by kernel_rfl) (fun K hK => ?_)
    go_wp2_with (go_at_call 101; refine Calls.mono (RXNew_c C lv (kN C lv) (by have := HKN.out; omega) (by have := HKN.out; omega) _) ?_; rintro e w3 ⟨a, m, rfl, hA, ha, hm, hx3⟩)
    refine hK _ _ (fun _ h => af_step h hx3) ?_
    clear hK K
    have hE3 : Ext w1 w3 := hE2.trans' hx3
    have HA := Lib.hid hA
    have hz := hE1.size
    have hz2 := hE2.size
    clear hA
    refine pi_t 6 rfl (by kernel_rfl) (by kernel_rfl) (fun _ _ _ _ h => h) (fun K hK => ?_)
    go_big_quiet_op
    refine hK _ ?_
    clear hK K
    refine pi_l 7 rfl (by kernel_rfl) (fun K hK => ?_)
    go_wp2
    refine hK _ _ (fun _ h => af_step h (Ext.alloc' _ _)) ?_
    clear hK K
    refine pi_t 8 rfl (by kernel_rfl) (by kernel_rfl) (fun _ _ _ _ h => h) (fun K hK => ?_)
    go_big_quiet_op
    refine hK _ ?_
    clear hK K
    refine pi_end (by kernel_rfl) ?_
    have hz3 := hE3.size
    go_wp2
    go_ret
    exact RLNew_x hok h0 h1 HX.out HA.out (by omega) (by omega) (by omega) ((hE1.trans' hE3).allocR _) (Ext.alloc' _ _) (heap_at _ _ rfl)
  | false =>
    have hlN : lvN C lv = rN C * wN C := by unfold lvN; rw [hx]; rfl
    rw [hx] at hEX
    rw [hlN]
    have HX := Lib.hid hx
    have HEX := Lib.hid hEX
    have HCB := Lib.hid hCb
    have HS := Lib.hid (fun W' => RSNew_c C hok lv h0 h1 (rN C) (wN C) (rN_eq hok) (wN_eq hok) W')
    clear hx hEX hC hlN hCb
    go_enter Tryz.func37, Tryz.ntmps37
    go_wp2_with fail
    try rw [hW0]
    clear hW0
    refine Calls.mono (HEX.out _) ?_
    rintro e w1 ⟨rfl, hx1⟩
    have hC1 := CfgAt.of (hx1.keep HCB.out)
    have hE1 := hE.trans' hx1
    clear c0 c1 c2 c3 c4 cl hx1
    have c0 := hC1.c0
    have c1 := hC1.c1
    have c2 := hC1.c2
    have c3 := hC1.c3
    have c4 := hC1.c4
    have cl := hC1.lt
    clear hC1
    go_wp2_with fail
    refine Calls.mono (HS.out _) ?_
    rintro e w2 ⟨a, G, rfl, hA, hF, hx2⟩
    have HA := Lib.hid hA
    have HF := Lib.hid (show ∀ k, rsF a G (rN C) k → w1.heap.size ≤ k from hF)
    have hE2 := hE1.trans' hx2
    have hz := hE1.size
    have hz2 := hE2.size
    clear hA hF
    go_wp2
    go_ret
    exact RLNew_s hok h0 h1 HX.out HA.out (fun k hk => Nat.le_trans hz (HF.out k hk)) hz2 (hE2.allocR _) (Ext.alloc' _ _) (heap_at _ _ rfl)
set_option maxRecDepth 20000 in
set_option maxHeartbeats 4000000 in
theorem RLCopy_c (L : RLev) (C : Cfg) (lv : Int) (l : List Int) (w : World) (h : RLvAt w L C lv l) :
    Calls Tryz.prog 39 #[.pointer (some ⟨L.p, 0, none⟩)] w (RLNewPost w C lv l) := by
  have hok := h.1
  have h0 := h.2.1
  have h1 := h.2.2.1
  cases hx : isX C lv with
  | true =>
    obtain ⟨hb, hA⟩ := h.x hx
    have p0 := (cell_of hb 0).trans rfl
    have pl := lt_of hb
    have HA := Lib.hid hA
    have HX := Lib.hid hx
    clear hx hb hA h
    go_enter Tryz.func39, Tryz.ntmps39
    go_wp2_with fail
    refine Calls.mono (RXCopy_c _ _ C lv _ l _ HA.out) ?_
    rintro e w1 ⟨a, m, rfl, hA1, ha, hm, hx1⟩
    have HA1 := Lib.hid hA1
    have hz := hx1.size
    clear hA1
    go_wp2
    go_ret
    exact RLNew_x hok h0 h1 HX.out HA1.out ha hm hz (hx1.allocR _) (Ext.alloc' _ _) (heap_at _ _ rfl)
  | false =>
    obtain ⟨hb, hA⟩ := h.sk hx
    have p0 := (cell_of hb 0).trans rfl
    have p1 := (cell_of hb 1).trans rfl
    have pl := lt_of hb
    have HA := Lib.hid hA
    have HX := Lib.hid hx
    clear hx hb hA h
    go_enter Tryz.func39, Tryz.ntmps39
    go_wp2_with fail
    refine Calls.mono (RSCopy_c _ _ C lv _ _ l _ HA.out) ?_
    rintro e w1 ⟨a, G, rfl, hA1, hF, hx1⟩
    have HA1 := Lib.hid hA1
    have HF := Lib.hid (show ∀ k, rsF a G (rN C) k → w.heap.size ≤ k from hF)
    have hz := hx1.size
    clear hA1 hF
    go_wp2
    go_ret
    exact RLNew_s hok h0 h1 HX.out HA1.out HF.out hz (hx1.allocR _) (Ext.alloc' _ _) (heap_at _ _ rfl)
def RLUpdPost (w : World) (L : RLev) (C : Cfg) (lv : Int) (l : List Int) (key d : Int) (e : Ending) (w' : World) : Prop :=
  e = .returned (.int .i64 (lvE C lv l key d)) ∧ ((lvE C lv l key d = 0 ∧ RLvAt w' L C lv (lvU C lv l key d) ∧ Mod (L.foot C lv) w w') ∨ (lvE C lv l key d ≠ 0 ∧ Ext w w'))
set_option maxRecDepth 20000 in
set_option maxHeartbeats 4000000 in
theorem RLUpdate_c (L : RLev) (C : Cfg) (lv : Int) (l : List Int) (key d : Int) (w : World) (h : RLvAt w L C lv l) (hk : U64 key) (hd : I64 d) :
    Calls Tryz.prog 40 #[.pointer (some ⟨L.p, 0, none⟩), .int .u64 key, .int .i64 d] w (RLUpdPost w L C lv l key d) := by
  have hok := h.1
  have h0 := h.2.1
  have h1 := h.2.2.1
  cases hx : isX C lv with
  | true =>
    obtain ⟨hb, hA⟩ := h.x hx
    have p0 := (cell_of hb 0).trans rfl
    have pl := lt_of hb
    have HU := Lib.hid (RXUpdate_c _ _ C lv _ l key d w hA (kN_eq hok h0) hd hk)
    have HB := Lib.hid hb
    have HA := Lib.hid hA
    have HX := Lib.hid hx
    unfold RLUpdPost
    rw [lvE_x hx, lvU_x hx]
    clear hx hb hA h
    go_enter Tryz.func40, Tryz.ntmps40
    go_wp2_with fail
    refine Calls.mono HU.out ?_
    rintro e w1 ⟨rfl, hres⟩
    have HRES := Lib.hid hres
    clear hres HU
    go_wp2
    go_ret
    rcases HRES.out with ⟨e0, hA1, hM⟩ | ⟨e0, hE⟩
    · refine ⟨rfl, .inl ⟨e0, ⟨hok, h0, h1, .inl ⟨HX.out, ?_, hA1⟩⟩, hM.wider (fun k hk => .inr (.inl ⟨HX.out, .inr hk⟩))⟩⟩
      exact hM.keep HB.out (fun e => by obtain ⟨cu, q1, _⟩ := HA.out.cells; exact blk_ne HB.out q1 (by decide) e)
    · exact ⟨rfl, .inr ⟨e0, hE⟩⟩
  | false =>
    obtain ⟨hb, hA⟩ := h.sk hx
    have p0 := (cell_of hb 0).trans rfl
    have p1 := (cell_of hb 1).trans rfl
    have pl := lt_of hb
    have HU := Lib.hid (RSUpdate_c _ _ C lv _ _ l key d w hA hk hd)
    have HB := Lib.hid hb
    have HA := Lib.hid hA
    have HX := Lib.hid hx
    unfold RLUpdPost
    rw [lvE_s hx, lvU_s hx]
    clear hx hb hA h
    go_enter Tryz.func40, Tryz.ntmps40
    go_wp2_with fail
    refine Calls.mono HU.out ?_
    rintro e w1 ⟨rfl, hres⟩
    have HRES := Lib.hid hres
    clear hres HU
    go_wp2
    go_ret
    rcases HRES.out with ⟨e0, hA1, hM⟩ | ⟨e0, hE⟩
    · refine ⟨rfl, .inl ⟨e0, ⟨hok, h0, h1, .inr ⟨HX.out, ?_, hA1⟩⟩, hM.wider (fun k hk => .inr (.inr ⟨HX.out, .inr hk⟩))⟩⟩
      refine hM.keep HB.out (fun e => ?_)
      rcases e with e | e | ⟨r, hr, e⟩
      · obtain ⟨cp, q1, _⟩ := HA.out.g.ex; exact blk_ne HB.out q1 (by decide) e
      · obtain ⟨cp, q1, _⟩ := HA.out.g.row; exact blk_ne HB.out q1 (by decide) e
      · obtain ⟨cp, q1, _⟩ := HA.out.g.cells r hr; exact blk_ne HB.out q1 (by decide) e
    · exact ⟨rfl, .inr ⟨e0, hE⟩⟩
/-- What Point tells of a key of any kind, of a level. -/
def ptA (C : Cfg) (lv : Int) (l : List Int) (key x r : Int) : Prop :=
  (keys C lv ≤ key ∧ x = 0 ∧ r = 2) ∨ (key < keys C lv ∧ lvPt C lv l key x ∧ r = 0)
theorem kth_in {l : List Int} {k : Nat} {x : Int} (h : IsKth l k x) : x ∈ l := by
  obtain ⟨h1, h2⟩ := h
  have : 0 < sameN x l := by omega
  unfold sameN at this
  obtain ⟨y, hy⟩ := List.exists_mem_of_length_pos this
  simp only [List.mem_filter] at hy
  obtain ⟨hy1, hy2⟩ := hy
  have : y = x := by simpa using hy2
  rw [← this]; exact hy1
theorem ptA_I {C : Cfg} {lv : Int} {l : List Int} {key x r : Int} (h : ptA C lv l key x r) (hfit : ∀ y ∈ l, I64 y) : I64 x := by
  rcases h with ⟨_, rfl, _⟩ | ⟨_, (⟨_, rfl⟩ | ⟨_, hk⟩), _⟩
  · unfold I64; omega
  · exact getD_i64 hfit _
  · have hm := kth_in hk
    unfold readL at hm
    rw [List.mem_map] at hm
    obtain ⟨j, _, rfl⟩ := hm
    exact getD_i64 hfit _
set_option maxRecDepth 20000 in
set_option maxHeartbeats 4000000 in
theorem RLPoint_c (L : RLev) (C : Cfg) (lv : Int) (l : List Int) (key : Int) (w : World) (h : RLvAt w L C lv l) (hk : U64 key) :
    Calls Tryz.prog 38 #[.pointer (some ⟨L.p, 0, none⟩), .int .u64 key] w fun e w' => ∃ x r, e = .returned (.tuple #[.int .i64 x, .int .i64 r]) ∧ ptA C lv l key x r ∧ Ext w w' := by
  have hok := h.1
  have h0 := h.2.1
  have h1 := h.2.2.1
  cases hx : isX C lv with
  | true =>
    obtain ⟨hb, hA⟩ := h.x hx
    have p0 := (cell_of hb 0).trans rfl
    have pl := lt_of hb
    have hkn := kN_eq hok h0
    have hU : ∃ x r, Calls Tryz.prog 103 #[.pointer (some ⟨L.a, 0, none⟩), .int .u64 key] w (fun e w' => e = .returned (.tuple #[.int .i64 x, .int .i64 r]) ∧ w = w') ∧ ptA C lv l key x r := by
      have h2 := RXPoint_c _ _ C lv _ l key w hA hk
      unfold ptX at h2
      by_cases hge : ((kN C lv : Nat) : Int) ≤ key
      · rw [if_pos hge] at h2
        exact ⟨0, 2, h2, .inl ⟨by omega, rfl, rfl⟩⟩
      · rw [if_neg hge] at h2
        exact ⟨_, 0, h2, .inr ⟨by omega, .inl ⟨hx, rfl⟩, rfl⟩⟩
    obtain ⟨x, r, hU, hp⟩ := hU
    have HU := Lib.hid hU
    have HP := Lib.hid hp
    clear hx hb hA h hU hp hkn
    go_enter Tryz.func38, Tryz.ntmps38
    go_wp2_with fail
    refine Calls.mono HU.out ?_
    rintro e w1 ⟨rfl, rfl⟩
    go_wp2
    go_ret2
    exact ⟨x, r, rfl, HP.out, Ext.refl _⟩
  | false =>
    obtain ⟨hb, hA⟩ := h.sk hx
    have p0 := (cell_of hb 0).trans rfl
    have p1 := (cell_of hb 1).trans rfl
    have pl := lt_of hb
    have HU := Lib.hid (RSPoint_c _ _ C lv _ _ l key w hA hk)
    have HX := Lib.hid hx
    clear hx hb hA h
    go_enter Tryz.func38, Tryz.ntmps38
    go_wp2_with fail
    refine Calls.mono HU.out ?_
    rintro e w1 ⟨x, r, rfl, hp, hx1⟩
    have HP := Lib.hid hp
    clear hp HU
    go_wp2
    go_ret2
    refine ⟨x, r, rfl, ?_, hx1⟩
    rcases HP.out with ⟨a, b, c⟩ | ⟨a, b, c⟩
    · exact .inl ⟨a, b, c⟩
    · exact .inr ⟨a, .inr ⟨HX.out, b⟩, c⟩
end Go.Proofs.YtfhdjekpdifajaaGreat
