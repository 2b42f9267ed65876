/- Part. No condition. -/
import Derived.Test.YtfhdjekpdifajaaGreatDMergePlays3
import Derived.Test.YtfhdjekpdifajaaGreatDMergePlays5
import Derived.Test.YtfhdjekpdifajaaGreatDMergePlays7
import Derived.Test.YtfhdjekpdifajaaGreatDMergePlays6
import Derived.Test.YtfhdjekpdifajaaGreatDMergePlays4
namespace Go.Proofs.YtfhdjekpdifajaaGreat
set_option linter.unusedVariables false
open Go.RowKit
def RSNewPost (w : World) (C : Cfg) (lv : Int) (R W : Nat) (l : List Int) (e : Ending) (w' : World) : Prop :=
  ∃ s G, e = .returned (.pointer (some ⟨s, 0, none⟩)) ∧ RSAt w' s G C lv R W l ∧ (∀ k, rsF s G R k → w.heap.size ≤ k) ∧ Ext w w'
set_option maxRecDepth 20000 in
set_option maxHeartbeats 4000000 in
theorem RSNew_c (C : Cfg) (hok : C.Ok) (lv : Int) (h0 : 0 ≤ lv) (h1 : lv ≤ C.bits) (R W : Nat) (hr : C.rows = R) (hw : C.width = W) (w : World) :
    Calls Tryz.prog 102 #[.agg #[.int .i64 C.bits, .int .i64 C.rows, .int .i64 C.width, .int .i64 C.mode, .int .u64 C.seed], .int .i64 lv] w (RSNewPost w C lv R W (zs (R * W))) := by
  have r1 := hok.r1
  have r2 := hok.r2
  have w1' := hok.w1
  have w2' := hok.w2
  obtain ⟨W0, hW0⟩ : ∃ W0, w.alloc (.cells #[.int .i64 C.bits, .int .i64 C.rows, .int .i64 C.width, .int .i64 C.mode, .int .u64 C.seed] 24) = W0 := ⟨_, rfl⟩
  have hC : CfgAt W0 w.heap.size C := by rw [← hW0]; exact CfgAt.box C _ rfl
  have hE : Ext w W0 := by rw [← hW0]; exact Ext.alloc' _ _
  have c0 := hC.c0
  have c1 := hC.c1
  have c2 := hC.c2
  have c3 := hC.c3
  have c4 := hC.c4
  have cl := hC.lt
  have hsz := hE.size
  have HR := Lib.hid hr
  have HW := Lib.hid hw
  clear hC hr hw
  go_enter Tryz.func102, Tryz.ntmps102
  go_wp2_with fail
  try rw [hW0]
  clear hW0
  have hC0 := af_drew W0
  refine pi_start (fun w' => ∃ z : After W0, w' = z.w) [] (by kernel_rfl) ?_
  refine pi_t 1 rfl (by kernel_rfl) (by kernel_rfl) (fun _ _ _ _ h => h) (fun K hK => ?_)
  go_big_quiet_op
  refine hK _ ?_
  clear hK K
  refine pi_t 2 rfl (by kernel_rfl) (by kernel_rfl) (fun _ _ _ _ h => h) (fun K hK => ?_)
  go_big_quiet_op
  refine hK _ ?_
  clear hK K
  refine pi_t 4 rfl (by kernel_rfl) (by kernel_rfl) (fun _ _ _ _ h => h) (fun K hK => ?_)
  go_big_quiet_op
  refine hK _ ?_
  clear hK K
  refine pi_c 0 (by assumption) rfl (by kernel_rfl) (by kernel_rfl) (fun _ _ _ _ h => h) (fun K hK => ?_)
  go_big_quiet_op
  refine hK _ ?_
  clear hK K
  refine pi_c 3 (by assumption) rfl (by kernel_rfl) (by kernel_rfl) (fun _ _ _ _ h => h) (fun K hK => ?_)
  go_big_quiet_op
  refine hK _ ?_
  clear hK K
  refine pi_c 5 (by assumption) rfl (by kernel_rfl) (by kernel_rfl) (fun _ _ _ _ h => h) (fun K hK => ?_)
  go_big_quiet_op
  refine hK _ ?_
  clear hK K
  rw [HR.out, HW.out]
  refine pi_l 6 rfl (by kernel_rfl) (fun K hK => ?_)
  go_wp2_with (go_at_call 155; refine Calls.mono (RGNew_c R W (by have := HR.out; omega) (by have := HR.out; omega) (by have := HW.out; omega) (by have := HW.out; omega) _) ?_; rintro e w1 ⟨G, rfl, hG, hF, hx1⟩)
  refine hK _ _ (fun _ h => af_step h hx1) ?_
  clear hK K
  have hE1 : Ext W0 w1 := Ext.trans' (Below.drew (Ext.refl W0)) hx1
  have HG := Lib.hid hG
  have HF := Lib.hid hF
  have hz1 := hE1.size
  clear hG hF
  refine pi_t 7 rfl (by kernel_rfl) (by kernel_rfl) (fun _ _ _ _ h => h) (fun K hK => ?_)
  go_big_quiet_op
  refine hK _ ?_
  clear hK K
  refine pi_l 8 rfl (by kernel_rfl) (fun K hK => ?_)
  go_wp2
  refine hK _ _ (fun _ h => af_step h (Ext.alloc' _ _)) ?_
  clear hK K
  refine pi_t 9 rfl (by kernel_rfl) (by kernel_rfl) (fun _ _ _ _ h => h) (fun K hK => ?_)
  go_big_quiet_op
  refine hK _ ?_
  clear hK K
  refine pi_end (by kernel_rfl) ?_
  go_wp2
  go_ret
  refine ⟨w1.heap.size, G, rfl, ⟨?_, HG.out.ext (Ext.alloc' _ _), hok, h0, h1, HR.out, HW.out, zs_fit _⟩, ?_, (hE.trans' hE1).allocR _⟩
  · first | exact heap_at _ _ rfl | (rw [HR.out, HW.out]; exact heap_at _ _ rfl)
  · rintro k (rfl | hk)
    · exact Nat.le_trans hsz hz1
    · exact Nat.le_trans hsz (HF.out k hk)
def RSUpdPost (w : World) (s : Nat) (G : Gr) (C : Cfg) (lv : Int) (R W : Nat) (l : List Int) (key d : Int) (e : Ending) (w' : World) : Prop :=
  e = .returned (.int .i64 (errU C lv R W l key d)) ∧ ((errU C lv R W l key d = 0 ∧ RSAt w' s G C lv R W (updL C lv R W l key d) ∧ Mod (G.foot R) w w') ∨ (errU C lv R W l key d ≠ 0 ∧ Ext w w'))
theorem fits_all {W : Nat} {cs l : List Int} {d : Int} {R : Nat} : fitsAll W cs l d R ↔ allFit W cs l d R = true := allFit_iff.symm
set_option maxRecDepth 20000 in
set_option maxHeartbeats 8000000 in
theorem RSUpdate_c (s : Nat) (G : Gr) (C : Cfg) (lv : Int) (R W : Nat) (l : List Int) (key d : Int) (w : World) (h : RSAt w s G C lv R W l) (hk : U64 key) (hd : I64 d) :
    Calls Tryz.prog 108 #[.pointer (some ⟨s, 0, none⟩), .int .u64 key, .int .i64 d] w (RSUpdPost w s G C lv R W l key d) := by
  obtain ⟨hk0, hk1⟩ := hk
  have hok := h.ok
  have hlo := h.lo
  have hhi := h.hi
  have hkb := keys_bd C hok lv hlo
  have hm := cols_meets C hok lv key h.hr h.hw
  have HM := Lib.hid hm
  have HH := Lib.hid h
  have HD := Lib.hid hd
  have ls := h.lts
  have hex := h.ex
  have c0 := (cell_of hex 0).trans rfl
  have c1 := (cell_of hex 1).trans rfl
  have c2 := (cell_of hex 2).trans rfl
  have c3 := (cell_of hex 3).trans rfl
  have c4 := (cell_of hex 4).trans rfl
  have c5 := (cell_of hex 5).trans rfl
  have hRt : C.rows.toNat = R := by rw [h.hr]; rfl
  have HRT := Lib.hid hRt
  clear hex h hm hd hRt
  by_cases hge : keys C lv ≤ key
  · have he : errU C lv R W l key d = 2 := errU_key hge
    unfold RSUpdPost
    rw [he]
    have hge' : decide (keys C lv ≤ key) = true := decide_eq_true hge
    clear he
    go_enter Tryz.func108, Tryz.ntmps108
    go_wp2_with fail
    have hC0 := af_drew w
    refine pi_start (fun w' => ∃ z : After w, w' = z.w) [] (by kernel_rfl) ?_
    refine pi_t 0 rfl (by kernel_rfl) (by kernel_rfl) (fun _ _ _ _ h => h) (fun K hK => ?_)
    go_big_quiet_op
    refine hK _ ?_
    clear hK K
    refine pi_t 1 rfl (by kernel_rfl) (by kernel_rfl) (fun _ _ _ _ h => h) (fun K hK => ?_)
    go_big_quiet_op
    refine hK _ ?_
    clear hK K
    refine pi_t 2 rfl (by kernel_rfl) (by kernel_rfl) (fun _ _ _ _ h => h) (fun K hK => ?_)
    go_big_quiet_op
    refine hK _ ?_
    clear hK K
    refine pi_t 3 rfl (by kernel_rfl) (by kernel_rfl) (fun _ _ _ _ h => h) (fun K hK => ?_)
    go_big_quiet_op
    refine hK _ ?_
    clear hK K
    refine pi_t 5 rfl (by kernel_rfl) (by kernel_rfl) (fun _ _ _ _ h => h) (fun K hK => ?_)
    go_big_quiet_op
    refine hK _ ?_
    clear hK K
    refine pi_t 6 rfl (by kernel_rfl) (by kernel_rfl) (fun _ _ _ _ h => h) (fun K hK => ?_)
    go_big_quiet_op
    refine hK _ ?_
    clear hK K
    refine pi_t 7 rfl (by kernel_rfl) (by kernel_rfl) (fun _ _ _ _ h => h) (fun K hK => ?_)
    go_big_quiet_op
    refine hK _ ?_
    clear hK K
    refine pi_c 4 (by assumption) rfl (by kernel_rfl) (by kernel_rfl) (fun _ _ _ _ h => h) (fun K hK => ?_)
    go_big_quiet_op
    refine hK _ ?_
    clear hK K
    refine pi_c 8 (by assumption) rfl (by kernel_rfl) (by kernel_rfl) (fun _ _ _ _ h => h) (fun K hK => ?_)
    go_big_quiet_op
    refine hK _ ?_
    clear hK K
    refine pi_l 9 rfl (by kernel_rfl) (fun K hK => ?_)
    go_wp2_with (go_at_call 79; refine (KeysR_c C hok lv hlo hhi _).mono ?_; rintro e w1 ⟨rfl, hx1⟩)
    refine hK _ _ (fun _ h => af_step h hx1) ?_
    clear hK K
    have hE1 : Ext w w1 := Ext.trans' (Below.drew (Ext.refl w)) hx1
    refine pi_t 10 rfl (by kernel_rfl) (by kernel_rfl) (fun _ _ _ _ h => h) (fun K hK => ?_)
    go_big_quiet_op
    refine hK _ ?_
    clear hK K
    refine pi_end (by kernel_rfl) ?_
    go_wp2
    go_ret
    exact ⟨rfl, by first | exact .inr ⟨by decide, hE1⟩ | exact hE1⟩
  · have hlt : key < keys C lv := by omega
    have hge' : decide (keys C lv ≤ key) = false := decide_eq_false hge
    have HES := Lib.hid (fun hm => errU_sum (R := R) (W := W) (l := l) (d := d) hlt hm)
    have HEN := Lib.hid (fun hm hd => errU_neg (R := R) (W := W) (l := l) (d := d) hlt hm hd)
    have HEC := Lib.hid (fun hm hd => errU_con (R := R) (W := W) (l := l) (d := d) hlt hm hd)
    have HUS : Hid (C.mode ≠ 2 → updL C lv R W l key d = putK W (cols C lv key) (fun k => l.getD (at_ W (cols C lv key) k) 0 + d) R l) := Lib.hid (fun hm => by unfold updL; rw [decide_eq_false hm]; rfl)
    have HUC : Hid (C.mode = 2 → updL C lv R W l key d = putK W (cols C lv key) (fun k => max (l.getD (at_ W (cols C lv key) k) 0) (minL (readL W l (cols C lv key)) + d)) R l) := Lib.hid (fun hm => by unfold updL; rw [decide_eq_true hm]; rfl)
    have HCOL := Lib.hid (fun W' => ColumnsR_c C hok lv key hlo hhi hk0 hlt W')
    unfold RSUpdPost
    generalize errU C lv R W l key d = er at *
    generalize updL C lv R W l key d = ul at *
    clear hge
    go_enter Tryz.func108, Tryz.ntmps108
    go_wp2_with fail
    have hC0 := af_drew w
    refine pi_start (fun w' => ∃ z : After w, w' = z.w) [] (by kernel_rfl) ?_
    refine pi_t 0 rfl (by kernel_rfl) (by kernel_rfl) (fun _ _ _ _ h => h) (fun K hK => ?_)
    go_big_quiet_op
    refine hK _ ?_
    clear hK K
    refine pi_t 1 rfl (by kernel_rfl) (by kernel_rfl) (fun _ _ _ _ h => h) (fun K hK => ?_)
    go_big_quiet_op
    refine hK _ ?_
    clear hK K
    refine pi_t 2 rfl (by kernel_rfl) (by kernel_rfl) (fun _ _ _ _ h => h) (fun K hK => ?_)
    go_big_quiet_op
    refine hK _ ?_
    clear hK K
    refine pi_t 3 rfl (by kernel_rfl) (by kernel_rfl) (fun _ _ _ _ h => h) (fun K hK => ?_)
    go_big_quiet_op
    refine hK _ ?_
    clear hK K
    refine pi_t 5 rfl (by kernel_rfl) (by kernel_rfl) (fun _ _ _ _ h => h) (fun K hK => ?_)
    go_big_quiet_op
    refine hK _ ?_
    clear hK K
    refine pi_t 6 rfl (by kernel_rfl) (by kernel_rfl) (fun _ _ _ _ h => h) (fun K hK => ?_)
    go_big_quiet_op
    refine hK _ ?_
    clear hK K
    refine pi_t 7 rfl (by kernel_rfl) (by kernel_rfl) (fun _ _ _ _ h => h) (fun K hK => ?_)
    go_big_quiet_op
    refine hK _ ?_
    clear hK K
    refine pi_c 4 (by assumption) rfl (by kernel_rfl) (by kernel_rfl) (fun _ _ _ _ h => h) (fun K hK => ?_)
    go_big_quiet_op
    refine hK _ ?_
    clear hK K
    refine pi_c 8 (by assumption) rfl (by kernel_rfl) (by kernel_rfl) (fun _ _ _ _ h => h) (fun K hK => ?_)
    go_big_quiet_op
    refine hK _ ?_
    clear hK K
    refine pi_l 9 rfl (by kernel_rfl) (fun K hK => ?_)
    go_wp2_with (go_at_call 79; refine (KeysR_c C hok lv hlo hhi _).mono ?_; rintro e w1 ⟨rfl, hx1⟩)
    refine hK _ _ (fun _ h => af_step h hx1) ?_
    clear hK K
    have hE1 : Ext w w1 := Ext.trans' (Below.drew (Ext.refl w)) hx1
    refine pi_t 10 rfl (by kernel_rfl) (by kernel_rfl) (fun _ _ _ _ h => h) (fun K hK => ?_)
    go_big_quiet_op
    refine hK _ ?_
    clear hK K
    refine pi_end (by kernel_rfl) ?_
    have hex1 := (HH.out.ext hE1).ex
    have ls1 := (HH.out.ext hE1).lts
    clear c0 c1 c2 c3 c4 c5 ls
    have c0 := (cell_of hex1 0).trans rfl
    have c1 := (cell_of hex1 1).trans rfl
    have c2 := (cell_of hex1 2).trans rfl
    have c3 := (cell_of hex1 3).trans rfl
    have c4 := (cell_of hex1 4).trans rfl
    have c5 := (cell_of hex1 5).trans rfl
    clear hex1 hx1
    go_wp2_with fail
    have hC0 := af_drew w1
    refine pi_start (fun w' => ∃ z : After w1, w' = z.w) [] (by kernel_rfl) ?_
    refine pi_t 0 rfl (by kernel_rfl) (by kernel_rfl) (fun _ _ _ _ h => h) (fun K hK => ?_)
    go_big_quiet_op
    refine hK _ ?_
    clear hK K
    refine pi_t 1 rfl (by kernel_rfl) (by kernel_rfl) (fun _ _ _ _ h => h) (fun K hK => ?_)
    go_big_quiet_op
    refine hK _ ?_
    clear hK K
    refine pi_t 2 rfl (by kernel_rfl) (by kernel_rfl) (fun _ _ _ _ h => h) (fun K hK => ?_)
    go_big_quiet_op
    refine hK _ ?_
    clear hK K
    refine pi_t 4 rfl (by kernel_rfl) (by kernel_rfl) (fun _ _ _ _ h => h) (fun K hK => ?_)
    go_big_quiet_op
    refine hK _ ?_
    clear hK K
    refine pi_t 5 rfl (by kernel_rfl) (by kernel_rfl) (fun _ _ _ _ h => h) (fun K hK => ?_)
    go_big_quiet_op
    refine hK _ ?_
    clear hK K
    refine pi_t 6 rfl (by kernel_rfl) (by kernel_rfl) (fun _ _ _ _ h => h) (fun K hK => ?_)
    go_big_quiet_op
    refine hK _ ?_
    clear hK K
    refine pi_t 8 rfl (by kernel_rfl) (by kernel_rfl) (fun _ _ _ _ h => h) (fun K hK => ?_)
    go_big_quiet_op
    refine hK _ ?_
    clear hK K
    refine pi_c 3 (by assumption) rfl (by kernel_rfl) (by kernel_rfl) (fun _ _ _ _ h => h) (fun K hK => ?_)
    go_big_quiet_op
    refine hK _ ?_
    clear hK K
    refine pi_c 7 (by assumption) rfl (by kernel_rfl) (by kernel_rfl) (fun _ _ _ _ h => h) (fun K hK => ?_)
    go_big_quiet_op
    refine hK _ ?_
    clear hK K
    refine pi_l 9 rfl (by kernel_rfl) (fun K hK => ?_)
    go_wp2_with (go_at_call 156; refine Calls.mono (HCOL.out _) ?_; rintro e w2 ⟨cv, rfl, ho, hx2⟩)
    refine hK _ _ (fun _ h => af_step h hx2) ?_
    clear hK K
    have hE2 : Ext w w2 := hE1.trans' (Ext.trans' (Below.drew (Ext.refl w1)) hx2)
    refine pi_t 10 rfl (by kernel_rfl) (by kernel_rfl) (fun _ _ _ _ h => h) (fun K hK => ?_)
    go_big_quiet_op
    refine hK _ ?_
    clear hK K
    refine pi_end (by kernel_rfl) ?_
    rw [HRT.out] at ho
    have HV := Lib.hid (IntsAt.of_row ho)
    have hne : ∀ g off n cap, cv = .slice (some ⟨g, off, none⟩) n cap → ¬ G.foot R g := fun g off n cap hv hf => by
      have h1 := own_blk ho (k := g) (by rw [hv]; rfl)
      have h2 := HH.out.g.lt hf
      have h3 := hE1.size
      have h4 : w1.heap.size ≤ g := h1
      omega
    have HNE := Lib.hid hne
    have HS2 := Lib.hid (HH.out.ext hE2)
    have hex2 := HS2.out.ex
    have ls2 := HS2.out.lts
    clear c0 c1 c2 c3 c4 c5 ls1 ho hne hx2 hE1
    have c3 := (cell_of hex2 3).trans rfl
    have c6 := (cell_of hex2 6).trans rfl
    clear hex2
    by_cases hmd : C.mode = 2
    · have hul := HUC.out hmd
      have HUL := Lib.hid hul
      have hmb : (C.mode == 2) = true := by simpa using hmd
      have HEN2 := Lib.hid (fun hd => HEN.out hmd hd)
      have HEC2 := Lib.hid (fun hd => HEC.out hmd hd)
      clear hul hmd HES HUS
      go_wp2_with fail
      refine Calls.mono (RRaise_c G R W l (cols C lv key) cv d _ HS2.out.g HS2.out.fit HD.out HV.out HM.out HNE.out) ?_
      rintro e w3 (⟨hdn, rfl, hx3⟩ | ⟨hdn, (⟨hf, rfl, hg3, hm3⟩ | ⟨hf, rfl, hx3⟩)⟩)
      · have her : er = 3 := HEN2.out hdn
        subst her
        go_wp2
        go_ret
        exact ⟨rfl, by first | exact .inr ⟨by decide, hE2.trans' hx3⟩ | exact hE2.trans' hx3⟩
      · have her : er = 0 := by rw [HEC2.out (by omega), fitB_yes hf]; rfl
        subst her
        have HG3 := Lib.hid hg3
        have HF := Lib.hid hf
        clear hg3 hf
        go_wp2
        go_ret
        have hfit : ∀ x ∈ ul, I64 x := by
          rw [HUL.out]
          intro x hx
          rcases putK_mem R hx with hx | ⟨j, hj, rfl⟩
          · exact HS2.out.fit x hx
          · have h1 := getD_i64 HS2.out.fit (at_ W (cols C lv key) j)
            have h2 := HF.out
            unfold I64 at *
            omega
        have hS3 : RSAt w3 s G C lv R W ul := HS2.out.putg (by rw [HUL.out]; exact HG3.out) hm3 hfit
        exact ⟨rfl, by first | exact .inl ⟨rfl, hS3, (hE2.mod _).trans hm3⟩ | exact ⟨hS3, (hE2.mod _).trans hm3⟩⟩
      · have her : er = 4 := by rw [HEC2.out (by omega), fitB_no hf]; rfl
        subst her
        clear hf
        go_wp2
        go_ret
        exact ⟨rfl, by first | exact .inr ⟨by decide, hE2.trans' hx3⟩ | exact hE2.trans' hx3⟩
    · have hul := HUS.out hmd
      have HUL := Lib.hid hul
      have hmb : (C.mode == 2) = false := by simpa using hmd
      have HES2 := Lib.hid (HES.out hmd)
      clear hul hmd HEN HEC HUC
      go_wp2_with fail
      refine Calls.mono (RChange_c G R W l (cols C lv key) cv d _ HS2.out.g HS2.out.fit HD.out HV.out HM.out HNE.out) ?_
      rintro e w3 (⟨hf, rfl, hg3, hm3⟩ | ⟨hf, rfl, hx3⟩)
      · have her : er = 0 := by rw [HES2.out, fits_all.1 hf]; rfl
        subst her
        have HG3 := Lib.hid hg3
        have HF := Lib.hid hf
        clear hg3 hf
        go_wp2
        go_ret
        have hfit : ∀ x ∈ ul, I64 x := by
          rw [HUL.out]
          intro x hx
          rcases putK_mem R hx with hx | ⟨j, hj, rfl⟩
          · exact HS2.out.fit x hx
          · exact HF.out j hj
        have hS3 : RSAt w3 s G C lv R W ul := HS2.out.putg (by rw [HUL.out]; exact HG3.out) hm3 hfit
        exact ⟨rfl, by first | exact .inl ⟨rfl, hS3, (hE2.mod _).trans hm3⟩ | exact ⟨hS3, (hE2.mod _).trans hm3⟩⟩
      · have her : er = 4 := by rw [HES2.out, show allFit W (cols C lv key) l d R = false from Bool.eq_false_iff.2 (fun hA => hf (allFit_iff.1 hA))]; rfl
        subst her
        clear hf
        go_wp2
        go_ret
        exact ⟨rfl, by first | exact .inr ⟨by decide, hE2.trans' hx3⟩ | exact hE2.trans' hx3⟩
end Go.Proofs.YtfhdjekpdifajaaGreat
namespace Go.Proofs.YtfhdjekpdifajaaGreat
set_option linter.unusedVariables false
open Go.RowKit
theorem RGAt.cong {w : World} {G : Gr} {R W : Nat} {m m' : List Int} (h : RGAt w G R W m) (hl : m'.length = R * W) (he : ∀ r k, r < R → k < W → m'.getD (r * W + k) 0 = m.getD (r * W + k) 0) : RGAt w G R W m' :=
  ⟨h.ex, h.row, fun r hr => by obtain ⟨cur, h1, h2⟩ := h.cells r hr; exact ⟨cur, h1, fun k hk => by rw [h2 k hk, he r k hr hk]⟩, h.capc, h.sep, hl, h.r1, h.r2, h.w1, h.w2⟩
def Gr.put (G : Gr) (r z cap : Nat) : Gr := ⟨G.g, G.m, fun q => if q = r then z else G.r q, fun q => if q = r then cap else G.c q⟩
theorem Gr.put_foot {G : Gr} {r z cap R k : Nat} (h : (G.put r z cap).foot R k) : G.foot R k ∨ k = z := by
  rcases h with h | h | ⟨q, hq, h⟩
  · exact .inl (.inl h)
  · exact .inl (.inr (.inl h))
  · by_cases e : q = r
    · have : (G.put r z cap).r q = z := if_pos e
      rw [this] at h; exact .inr h
    · have : (G.put r z cap).r q = G.r q := if_neg e
      rw [this] at h; exact .inl (.inr (.inr ⟨q, hq, h⟩))
/-- Another row is laid in. -/
theorem RGAt.putRow {w : World} {G : Gr} {R W : Nat} {m m' : List Int} (h : RGAt w G R W m) {r z cap : Nat} {cur : Array Value} {f : Nat → Int} (hr : r < R) (hz : w.heap[z]? = some (.cells cur 2 (0, 0))) (hf : ∀ k, k < W → cur[k]? = some (.int .i64 (f k))) (hcap : W ≤ cap) (hn : ∀ q, q < R → G.r q ≠ z)
    (hl : m'.length = R * W) (he : ∀ q k, q < R → k < W → m'.getD (q * W + k) 0 = if q = r then f k else m.getD (q * W + k) 0) : RGAt (w.setCell ⟨G.m, r, none⟩ (.slice (some ⟨z, 0, none⟩) W cap)) (G.put r z cap) R W m' := by
  obtain ⟨cur0, h1, h2⟩ := h.row
  obtain ⟨cp, h3, h4⟩ := h.ex
  have hrs : r < cur0.size := by have := h2 r hr; rw [Array.getElem?_eq_some_iff] at this; exact this.1
  have hzm : z ≠ G.m := blk_ne hz h1 (by decide)
  refine ⟨⟨cp, (setCell_other _ _ h.ngm).trans h3, h4⟩, ⟨_, setCell_same h1 _ _, fun q hq => ?_⟩, fun q hq => ?_, fun q hq => ?_, fun q p hq hp hqp => ?_, hl, h.r1, h.r2, h.w1, h.w2⟩
  · by_cases e : q = r
    · subst e
      rw [Array.getElem?_setIfInBounds_self_of_lt hrs]
      show some _ = some (Value.slice (some ⟨if q = q then z else G.r q, 0, none⟩) W (if q = q then cap else G.c q))
      rw [if_pos rfl, if_pos rfl]
    · rw [Array.getElem?_setIfInBounds_ne (fun e' => e e'.symm), h2 q hq]
      show some (Value.slice (some ⟨G.r q, 0, none⟩) W (G.c q)) = some (Value.slice (some ⟨if q = r then z else G.r q, 0, none⟩) W (if q = r then cap else G.c q))
      rw [if_neg e, if_neg e]
  · by_cases e : q = r
    · refine ⟨cur, ?_, fun k hk => ?_⟩
      · have : (G.put r z cap).r q = z := if_pos e
        rw [this, setCell_other _ _ hzm]; exact hz
      · rw [hf k hk, he q k hq hk, if_pos e]
    · obtain ⟨cu, a1, a2⟩ := h.cells q hq
      refine ⟨cu, ?_, fun k hk => ?_⟩
      · have : (G.put r z cap).r q = G.r q := if_neg e
        rw [this, setCell_other _ _ (fun e' => h.nmr hq e'.symm)]; exact a1
      · rw [a2 k hk, he q k hq hk, if_neg e]
  · by_cases e : q = r
    · have : (G.put r z cap).c q = cap := if_pos e
      rw [this]; exact hcap
    · have : (G.put r z cap).c q = G.c q := if_neg e
      rw [this]; exact h.capc q hq
  · by_cases e : q = r
    · have e1 : (G.put r z cap).r q = z := if_pos e
      have e2 : (G.put r z cap).r p = G.r p := if_neg (fun e' => hqp (e.trans e'.symm))
      rw [e1, e2]; exact fun e' => hn p hp e'.symm
    · have e1 : (G.put r z cap).r q = G.r q := if_neg e
      rw [e1]
      by_cases e' : p = r
      · have e2 : (G.put r z cap).r p = z := if_pos e'
        rw [e2]; exact hn q hq
      · have e2 : (G.put r z cap).r p = G.r p := if_neg e'
        rw [e2]; exact h.sep q p hq hp hqp
/-- The first rows of one, noughts behind. -/
def mixR (l : List Int) (R W k : Nat) : List Int := (List.range (R * W)).map fun i => if i / W < k then l.getD i 0 else 0
theorem mixR_len (l : List Int) (R W k : Nat) : (mixR l R W k).length = R * W := by simp [mixR]
theorem row_lt {R W r k : Nat} (hr : r < R) (hk : k < W) : r * W + k < R * W := by
  calc r * W + k < r * W + W := by omega
    _ = (r + 1) * W := by rw [Nat.add_mul, Nat.one_mul]
    _ ≤ R * W := Nat.mul_le_mul_right W hr
theorem mixR_get {l : List Int} {R W n r k : Nat} (hr : r < R) (hk : k < W) : (mixR l R W n).getD (r * W + k) 0 = if r < n then l.getD (r * W + k) 0 else 0 := by
  have h1 := row_lt hr hk
  have h2 : (r * W + k) / W = r := by rw [Nat.mul_comm, Nat.mul_add_div (by omega), Nat.div_eq_of_lt hk, Nat.add_zero]
  unfold mixR
  rw [List.getD_eq_getElem?_getD, List.getElem?_map, List.getElem?_range h1]
  simp only [Option.map_some, Option.getD_some, h2]
set_option maxRecDepth 20000 in
set_option maxHeartbeats 8000000 in
theorem RSCopy_c (s : Nat) (G : Gr) (C : Cfg) (lv : Int) (R W : Nat) (l : List Int) (w : World) (h : RSAt w s G C lv R W l) :
    Calls Tryz.prog 106 #[.pointer (some ⟨s, 0, none⟩)] w (RSNewPost w C lv R W l) := by
  have hok := h.ok
  have hlo := h.lo
  have hhi := h.hi
  have r1 := h.g.r1
  have r2 := h.g.r2
  have w1' := h.g.w1
  have w2' := h.g.w2
  have HH := Lib.hid h
  have ls := h.lts
  have hex := h.ex
  have c0 := (cell_of hex 0).trans rfl
  have c1 := (cell_of hex 1).trans rfl
  have c2 := (cell_of hex 2).trans rfl
  have c3 := (cell_of hex 3).trans rfl
  have c4 := (cell_of hex 4).trans rfl
  have c5 := (cell_of hex 5).trans rfl
  have HN := Lib.hid (fun W' => RSNew_c C hok lv hlo hhi R W h.hr h.hw W')
  have HLEN := Lib.hid h.g.len
  clear hex h
  go_enter Tryz.func106, Tryz.ntmps106
  go_wp2_with fail
  have hC0 := af_drew w
  refine pi_start (fun w' => ∃ z : After w, w' = z.w) [] (by kernel_rfl) ?_
  refine pi_t 0 rfl (by kernel_rfl) (by kernel_rfl) (fun _ _ _ _ h => h) (fun K hK => ?_)
  go_big_quiet_op
  refine hK _ ?_
  clear hK K
  refine pi_t 1 rfl (by kernel_rfl) (by kernel_rfl) (fun _ _ _ _ h => h) (fun K hK => ?_)
  go_big_quiet_op
  refine hK _ ?_
  clear hK K
  refine pi_t 2 rfl (by kernel_rfl) (by kernel_rfl) (fun _ _ _ _ h => h) (fun K hK => ?_)
  go_big_quiet_op
  refine hK _ ?_
  clear hK K
  refine pi_t 4 rfl (by kernel_rfl) (by kernel_rfl) (fun _ _ _ _ h => h) (fun K hK => ?_)
  go_big_quiet_op
  refine hK _ ?_
  clear hK K
  refine pi_t 5 rfl (by kernel_rfl) (by kernel_rfl) (fun _ _ _ _ h => h) (fun K hK => ?_)
  go_big_quiet_op
  refine hK _ ?_
  clear hK K
  refine pi_t 6 rfl (by kernel_rfl) (by kernel_rfl) (fun _ _ _ _ h => h) (fun K hK => ?_)
  go_big_quiet_op
  refine hK _ ?_
  clear hK K
  refine pi_c 3 (by assumption) rfl (by kernel_rfl) (by kernel_rfl) (fun _ _ _ _ h => h) (fun K hK => ?_)
  go_big_quiet_op
  refine hK _ ?_
  clear hK K
  refine pi_c 7 (by assumption) rfl (by kernel_rfl) (by kernel_rfl) (fun _ _ _ _ h => h) (fun K hK => ?_)
  go_big_quiet_op
  refine hK _ ?_
  clear hK K
  refine pi_l 8 rfl (by kernel_rfl) (fun K hK => ?_)
  go_wp2_with (go_at_call 102; refine Calls.mono (HN.out _) ?_; rintro e w1 ⟨s1, G1, rfl, hS1, hF1, hx1⟩)
  refine hK _ _ (fun _ h => af_step h hx1) ?_
  clear hK K
  have hE1 : Ext w w1 := Ext.trans' (Below.drew (Ext.refl w)) hx1
  have hF1' : ∀ k, rsF s1 G1 R k → w.heap.size ≤ k := hF1
  have HS1 := Lib.hid hS1
  have HF1 := Lib.hid hF1'
  have hs1 : w.heap.size ≤ s1 := hF1' s1 (.inl rfl)
  clear hx1 hS1 hF1 hF1' c0 c1 c2 c3 c4 c5 HN
  refine pi_t 9 rfl (by kernel_rfl) (by kernel_rfl) (fun _ _ _ _ h => h) (fun K hK => ?_)
  go_big_quiet_op
  refine hK _ ?_
  clear hK K
  refine pi_end (by kernel_rfl) ?_
  go_wp2_with fail
  go_loopw [4] (fun u4 wr => ∃ (k : Nat) (G' : Gr), k ≤ R ∧ u4 = .int .i64 k ∧ G'.g = G1.g ∧ RGAt wr G' R W (mixR l R W k) ∧ (∀ j, G'.foot R j → w.heap.size ≤ j) ∧ wr.heap[s1]? = some (.cells #[.int .i64 C.bits, .int .i64 C.rows, .int .i64 C.width, .int .i64 C.mode, .int .u64 C.seed, .int .i64 lv, .pointer (some ⟨G1.g, 0, none⟩)] 158 (0, 0)) ∧ Ext w wr) (fun u4 _ => R - (intOf u4).toNat)
  case atStart =>
    refine ⟨0, G1, Nat.zero_le _, rfl, rfl, HS1.out.g.cong (mixR_len _ _ _ _) (fun r k hr hk => ?_), fun j hj => HF1.out j (.inr hj), HS1.out.ex, hE1⟩
    rw [mixR_get hr hk, if_neg (Nat.not_lt_zero _), zs_get0]
  case round =>
    obtain ⟨k, G', hk, rfl, hgg, hG, hF, hbx, hE⟩ := hrel
    have hr := HH.out.ext hE
    obtain ⟨cap2, cg, hcap2⟩ := hr.g.cg
    have lg := hr.g.ltg
    have c6 := (cell_of hr.ex 6).trans rfl
    have lsr := hr.lts
    by_cases hlt : k < R
    · obtain ⟨cap3, cg', hcap3⟩ := hG.cg
      have lg' := hG.ltg
      rw [hgg] at cg' lg'
      have b6 := (cell_of hbx 6).trans rfl
      have bl := lt_of hbx
      have cm := hr.g.cm hlt
      have lm := hr.g.ltm
      have cm' := hG.cm hlt
      have fm' := hG.fm k
      have lm' := hG.ltm
      have hcell : ∀ W' : World, Ext wr W' → ∀ j, j < W → W'.cell? ⟨G.r k, 0 + j, none⟩ = some (.int .i64 ((rowL l W k).getD j 0)) := fun W' hW j hj => by
        rw [(bcell hW).1 _ _ (hr.g.ltr hlt), Nat.zero_add, rowL_get hj]; exact hr.g.cr hlt hj
      have HC := Lib.hid hcell
      have HG := Lib.hid hG
      have HF := Lib.hid hF
      have HBX := Lib.hid hbx
      have HGG := Lib.hid hgg
      have hrl := rowL_len l W k
      have HRL := Lib.hid hrl
      have hkz : (k : Int) < (R : Int) := by omega
      have hszE := hE.size
      clear hcell hG hF hbx hgg hrl hr
      go_wp2_with fail
      have hC0 := af_drew wr
      refine pi_start (fun w' => ∃ z : After wr, w' = z.w) [21] (by kernel_rfl) ?_
      refine pi_t 0 rfl (by kernel_rfl) (by kernel_rfl) (fun _ _ _ _ h => h) (fun K hK => ?_)
      go_big_quiet_op
      refine hK _ ?_
      clear hK K
      refine pi_t 1 rfl (by kernel_rfl) (by kernel_rfl) (fun _ _ _ _ h => h) (fun K hK => ?_)
      go_big_quiet_op
      refine hK _ ?_
      clear hK K
      refine pi_t 2 rfl (by kernel_rfl) (by kernel_rfl) (fun _ _ _ _ h => h) (fun K hK => ?_)
      go_big_quiet_op
      refine hK _ ?_
      clear hK K
      refine pi_t 7 rfl (by kernel_rfl) (by kernel_rfl) (fun _ _ _ _ h => h) (fun K hK => ?_)
      go_big_quiet_op
      refine hK _ ?_
      clear hK K
      refine pi_t 9 rfl (by kernel_rfl) (by kernel_rfl) (fun _ _ _ _ h => h) (fun K hK => ?_)
      go_big_quiet_op
      refine hK _ ?_
      clear hK K
      refine pi_t 10 rfl (by kernel_rfl) (by kernel_rfl) (fun _ _ _ _ h => h) (fun K hK => ?_)
      go_big_quiet_op
      refine hK _ ?_
      clear hK K
      refine pi_t 11 rfl (by kernel_rfl) (by kernel_rfl) (fun _ _ _ _ h => h) (fun K hK => ?_)
      go_big_quiet_op
      refine hK _ ?_
      clear hK K
      refine pi_t 16 rfl (by kernel_rfl) (by kernel_rfl) (fun _ _ _ _ h => h) (fun K hK => ?_)
      go_big_quiet_op
      refine hK _ ?_
      clear hK K
      refine pi_c 3 (by assumption) rfl (by kernel_rfl) (by kernel_rfl) (fun _ _ _ _ h => h) (fun K hK => ?_)
      go_big_quiet_op
      refine hK _ ?_
      clear hK K
      refine pi_t 4 rfl (by kernel_rfl) (by kernel_rfl) (fun _ _ _ _ h => h) (fun K hK => ?_)
      go_big_quiet_op
      refine hK _ ?_
      clear hK K
      refine pi_t 5 rfl (by kernel_rfl) (by kernel_rfl) (fun _ _ _ _ h => h) (fun K hK => ?_)
      go_big_quiet_op
      refine hK _ ?_
      clear hK K
      refine pi_c 6 (by assumption) rfl (by kernel_rfl) (by kernel_rfl) (fun _ _ _ _ h => h) (fun K hK => ?_)
      go_big_quiet_op
      refine hK _ ?_
      clear hK K
      refine pi_c 12 (by assumption) rfl (by kernel_rfl) (by kernel_rfl) (fun _ _ _ _ h => h) (fun K hK => ?_)
      go_big_quiet_op
      refine hK _ ?_
      clear hK K
      refine pi_t 13 rfl (by kernel_rfl) (by kernel_rfl) (fun _ _ _ _ h => h) (fun K hK => ?_)
      go_big_quiet_op
      refine hK _ ?_
      clear hK K
      refine pi_t 14 rfl (by kernel_rfl) (by kernel_rfl) (fun _ _ _ _ h => h) (fun K hK => ?_)
      go_big_quiet_op
      refine hK _ ?_
      clear hK K
      refine pi_c 15 (by assumption) rfl (by kernel_rfl) (by kernel_rfl) (fun _ _ _ _ h => h) (fun K hK => ?_)
      go_big_quiet_op
      refine hK _ ?_
      clear hK K
      refine pi_t 17 rfl (by kernel_rfl) (by kernel_rfl) (fun _ _ _ _ h => h) (fun K hK => ?_)
      go_big_quiet_op
      refine hK _ ?_
      clear hK K
      refine pi_c 18 (by assumption) rfl (by kernel_rfl) (by kernel_rfl) (fun _ _ _ _ h => h) (fun K hK => ?_)
      go_big_quiet_op
      refine hK _ ?_
      clear hK K
      refine pi_l 8 rfl (by kernel_rfl) (fun K hK => ?_)
      go_wp2
      refine hK _ _ (fun _ h => af_step h (Ext.alloc' _ _)) ?_
      clear hK K
      have hEa : Ext wr (wr.alloc (.cells #[] 2)).drew := ((Ext.refl wr).allocR _).drewR
      have hra : (wr.alloc (.cells #[] 2)).drew.ownsRow wr.heap.size 2 1 (.slice (some ⟨wr.heap.size, 0, none⟩) 0 0) ([] : List Int).length (ints []) := own_drew (own_empty wr 2)
      generalize (wr.alloc (.cells #[] 2)).drew = WA at *
      refine pi_l 19 rfl (by kernel_rfl) (fun K hK => ?_)
      go_wp2_with (at_builtin; refine wpList_appl WA (rowL l W k) [] _ wr.heap.size 2 hra 43 rfl _ _ rfl info_i64 Tryz.underlying43 (by rfl) (G.r k) 0 W (G.c k) (by rfl) HRL.out.symm (HC.out WA hEa) ?a1 ?a2 ?_)
      case a1 => show 0 + W ≤ _; omega
      case a2 => exact hEa.size
      intro v' wt g1 g2 g3
      have hEt : Ext wr wt := ext_grown0 hEa g2 (fun i hi => own_blk hra hi)
      obtain ⟨z, zc, cur, rfl, hzc, hz, hzh, hzcur⟩ := own_row1 g1 (by show 0 < (rowL l W k).length; rw [HRL.out]; omega)
      rw [HRL.out] at hzc hzcur ⊢
      have HZ := Lib.hid (And.intro hzc (And.intro hz (And.intro hzh hzcur)))
      clear g1 g2 g3 hra hzc hz hzh hzcur
      go_wp2
      refine hK _ _ (fun _ _ => ⟨⟨wt, hEt⟩, rfl⟩) ?_
      clear hK K
      have lmt : G'.m < wt.heap.size := Nat.lt_of_lt_of_le lm' hEt.size
      have fmt := ((bcell hEt).2 _ k lm').trans fm'
      have cmt := ((bcell hEt).1 _ k lm').trans cm'
      refine pi_t 20 rfl (by kernel_rfl) (by kernel_rfl) (fun _ _ _ _ h => h) (fun K hK => ?_)
      go_big_quiet_op
      refine hK _ ?_
      clear hK K
      refine pi_l 21 rfl (by kernel_rfl) (fun K hK => ?_)
      go_wp2
      refine hK _ _ (by simp) ?_
      clear hK K
      refine pi_end (by kernel_rfl) ?_
      go_wp2_with fail
      obtain ⟨q1, q2, q3, q4⟩ := HZ.out
      have hGt := HG.out.ext hEt
      have hnz : ∀ q, q < R → G'.r q ≠ z := fun q hq e => by have := HG.out.ltr hq; omega
      have hnew := hGt.putRow (m' := mixR l R W (k + 1)) hlt q3 q4 q1 hnz (mixR_len _ _ _ _) (fun q j hq hj => by
        rw [mixR_get hq hj, mixR_get hq hj]
        by_cases e : q = k
        · subst e; rw [if_pos (Nat.lt_succ_self _), if_pos rfl, rowL_get hj]
        · rw [if_neg e]
          by_cases e2 : q < k
          · rw [if_pos e2, if_pos (by omega)]
          · rw [if_neg e2, if_neg (by omega)])
      have hms : G'.m ≠ s1 := by
        obtain ⟨cu, a1, _⟩ := HG.out.row
        exact blk_ne a1 HBX.out (by decide)
      have hbf := (setCell_other (w := wt) k (Value.slice (some ⟨z, 0, none⟩) W zc) hms.symm).trans (hEt.keep HBX.out)
      have hEf : Ext w (wt.setCell ⟨G'.m, k, none⟩ (.slice (some ⟨z, 0, none⟩) W zc)) := (hE.trans' hEt).setR (p := ⟨G'.m, k, none⟩) (HF.out _ (.inr (.inl rfl))) _
      have hff : ∀ j, (G'.put k z zc).foot R j → w.heap.size ≤ j := fun j hj => by
        rcases Gr.put_foot hj with h1 | h1
        · exact HF.out j h1
        · omega
      have HNEW := Lib.hid (And.intro hnew (And.intro hff (And.intro hbf hEf)))
      clear hnew hbf hEf hff hms hGt hnz q1 q2 q3 q4
      go_roundw
      case rel => exact ⟨k + 1, G'.put k z zc, by omega, by go_num, HGG.out, HNEW.out.1, HNEW.out.2.1, HNEW.out.2.2.1, HNEW.out.2.2.2⟩
      case measure => simp [intOf]; omega
    · obtain rfl : k = R := by omega
      have hfin : RSAt wr s1 G' C lv k W l := by
        refine ⟨by rw [hgg]; exact hbx, hG.cong HLEN.out (fun r j hr' hj => by rw [mixR_get hr' hj, if_pos hr']), hok, hlo, hhi, HH.out.hr, HH.out.hw, HH.out.fit⟩
      have HFIN := Lib.hid (And.intro hfin hF)
      clear hfin hG hF hbx hr hgg
      go_wp2
      go_ret
      refine ⟨s1, G', rfl, HFIN.out.1, ?_, hE⟩
      rintro j (rfl | hj)
      · exact hs1
      · exact HFIN.out.2 j hj
end Go.Proofs.YtfhdjekpdifajaaGreat
namespace Go.Proofs.YtfhdjekpdifajaaGreat
set_option linter.unusedVariables false
open Go.RowKit
def RGJoinPost (w : World) (G : Gr) (R W : Nat) (ms : List Int) (e : Ending) (w' : World) : Prop :=
  (allI ms ∧ e = .returned (.int .i64 0) ∧ ∃ G' : Gr, G'.g = G.g ∧ RGAt w' G' R W ms ∧ (∀ k, G'.foot R k → k = G.g ∨ w.heap.size ≤ k) ∧ Mod (fun k => k = G.g) w w') ∨ (¬ allI ms ∧ e = .returned (.int .i64 4) ∧ Ext w w')
theorem long_cells {w : World} {b : Nat} {x : Int} (h : LongAt w b (dg x)) : ∀ i, i < 10 → w.cell? ⟨b, i, none⟩ = some (.int .i64 (dg x i)) := by
  intro i hi
  unfold LongAt at h
  rw [cell_of h, fillA_at _ _ _ _ hi, if_pos hi]
theorem long_mk {w : World} {b : Nat} {x : Int} (h : w.heap[b]? = some (.cells #[.int .i64 (dg x 0), .int .i64 (dg x 1), .int .i64 (dg x 2), .int .i64 (dg x 3), .int .i64 (dg x 4), .int .i64 (dg x 5), .int .i64 (dg x 6), .int .i64 (dg x 7), .int .i64 (dg x 8), .int .i64 (dg x 9)] 237 (0, 0))) : LongAt w b (dg x) := by
  unfold LongAt; rw [fill10]; exact h
theorem sum_in {x y : Int} (hx : I64 x) (hy : I64 y) : (-730750818665451459101842416358141509827966271488 ≤ x + y ∧ x + y < 730750818665451459101842416358141509827966271488) ∧ (-730750818665451459101842416358141509827966271488 ≤ x + -y ∧ x + -y < 730750818665451459101842416358141509827966271488) := by unfold I64 at hx hy; omega
/-- The sums of a row. -/
def rowF (f : Nat → Nat → Int) (r j : Nat) : List Int := (List.range j).map (f r)
theorem rowF_len (f : Nat → Nat → Int) (r j : Nat) : (rowF f r j).length = j := by simp [rowF]
theorem rowF_succ (f : Nat → Nat → Int) (r j : Nat) : rowF f r (j + 1) = rowF f r j ++ [f r j] := by unfold rowF; rw [List.range_succ, List.map_append]; rfl
theorem rowF_get {f : Nat → Nat → Int} {r j k : Nat} (h : k < j) : (rowF f r j).getD k 0 = f r k := by simp [rowF, h]
theorem all_rows {R W : Nat} {ms : List Int} {f : Nat → Nat → Int} (hl : ms.length = R * W) (hf : ∀ r k, r < R → k < W → f r k = ms.getD (r * W + k) 0) (h : ∀ r, r < R → ∀ k, k < W → I64 (f r k)) : allI ms := by
  intro x hx
  obtain ⟨i, hi, rfl⟩ := List.getElem_of_mem hx
  have hW : 0 < W := by
    rcases Nat.eq_zero_or_pos W with h0 | h0
    · rw [hl, h0, Nat.mul_zero] at hi; omega
    · exact h0
  have h1 : i / W < R := by rw [Nat.div_lt_iff_lt_mul hW]; omega
  have h2 : i % W < W := Nat.mod_lt _ hW
  have h3 : i / W * W + i % W = i := by rw [Nat.mul_comm]; exact Nat.div_add_mod i W
  have h4 := h _ h1 _ h2
  rw [hf _ _ h1 h2, h3] at h4
  have e : ms.getD i 0 = ms[i] := by simp [hi]
  rw [e] at h4
  exact h4
theorem not_all {R W r k : Nat} {ms : List Int} {f : Nat → Nat → Int} (hl : ms.length = R * W) (hf : ∀ r k, r < R → k < W → f r k = ms.getD (r * W + k) 0) (hr : r < R) (hk : k < W) (h : ¬ I64 (f r k)) : ¬ allI ms := by
  intro ha
  have h1 := row_lt hr hk
  rw [hf _ _ hr hk] at h
  exact h (ha _ (getD_mem (by rw [hl]; exact h1)))
set_option maxRecDepth 20000 in
set_option maxHeartbeats 16000000 in
theorem RGJoinPlus_c (G G2 : Gr) (R W : Nat) (l l2 : List Int) (w : World) (h : RGAt w G R W l) (h2 : RGAt w G2 R W l2) (hI : allI l) (hI2 : allI l2) :
    Calls Tryz.prog 165 #[.pointer (some ⟨G.g, 0, none⟩), .pointer (some ⟨G2.g, 0, none⟩), .int .i64 1] w (RGJoinPost w G R W (plusL l l2)) := by
  have r1 := h.r1
  have r2 := h.r2
  have w1' := h.w1
  have w2' := h.w2
  have HH := Lib.hid h
  have HH2 := Lib.hid h2
  have HIA := Lib.hid hI
  have HIB := Lib.hid hI2
  have hml : (plusL l l2).length = R * W := by rw [plusL_len]; exact h.len
  obtain ⟨f, hf⟩ : ∃ f : Nat → Nat → Int, f = fun r k => (plusL l l2).getD (r * W + k) 0 := ⟨_, rfl⟩
  have hfe : ∀ r k, r < R → k < W → f r k = (plusL l l2).getD (r * W + k) 0 := fun r k _ _ => by rw [hf]
  have hfs : ∀ r k, r < R → k < W → f r k = l.getD (r * W + k) 0 + l2.getD (r * W + k) 0 := fun r k hr hk => by rw [hf]; exact plusL_get (by rw [h.len]; exact row_lt hr hk)
  have HML := Lib.hid hml
  have HFE := Lib.hid hfe
  have HFS := Lib.hid hfs
  clear hml hf hfe hfs h h2 hI hI2
  generalize plusL l l2 = ms at *
  go_enter Tryz.func165, Tryz.ntmps165
  go_wp2_with fail
  go_loopw [7, 8] (fun u7 u8 wr => ∃ (k : Nat) (G' : Gr), k ≤ R ∧ u8 = .int .i64 k ∧ GMade wr w.heap.size G' W k u7 f ∧ Ext w wr ∧ ∀ r, r < k → ∀ j, j < W → I64 (f r j)) (fun _ u8 _ => R - (intOf u8).toNat)
  case atStart => exact ⟨0, G, Nat.zero_le _, rfl, GMade.zero w _ G W f, Ext.refl _, fun r hr => absurd hr (Nat.not_lt_zero _)⟩
  case round =>
    obtain ⟨k, G', hk, rfl, hM, hE, hall⟩ := hrel
    have HM := Lib.hid hM
    have HALL := Lib.hid hall
    have hr := HH.out.ext hE
    obtain ⟨cap, cg, hcap⟩ := hr.cg
    have lg := hr.ltg
    clear hM hall
    by_cases hlt : k < R
    · have hkz : (k : Int) < (R : Int) := by omega
      rename World => wo
      clear hr
      go_upto_region 6 with (fail)
      have hE0 : Ext wo (wo.alloc (.cells #[] 2)) := Ext.alloc' _ _
      have hro : (wo.alloc (.cells #[] 2)).ownsRow wo.heap.size 2 1 (.slice (some ⟨wo.heap.size, 0, none⟩) 0 0) 0 [] := own_empty wo _
      have HRO := Lib.hid hro
      clear cg lg hcap hro
      go_wp2_with fail
      go_loopw [9, 10] (fun u9 u10 wr => ∃ j : Nat, j ≤ W ∧ u10 = .int .i64 j ∧ wr.ownsRow wo.heap.size 2 1 u9 (rowF f k j).length (ints (rowF f k j)) ∧ Ext wo wr ∧ ∀ c, c < j → I64 (f k c)) (fun _ u10 _ => W - (intOf u10).toNat)
      case atStart => exact ⟨0, Nat.zero_le _, rfl, HRO.out, hE0, fun c hc => absurd hc (Nat.not_lt_zero _)⟩
      case round =>
        clear hE0 HRO
        obtain ⟨j, hj, rfl, hown, hEo, hrow⟩ := hrel
        have HOWN := Lib.hid hown
        have HROW := Lib.hid hrow
        have hEw := hE.trans' hEo
        have hr1 := HH.out.ext hEw
        obtain ⟨cap1, cg1, hcap1⟩ := hr1.cg
        have lg1 := hr1.ltg
        have cm1 := hr1.cm hlt
        have lm1 := hr1.ltm
        clear hown hrow
        by_cases hjt : j < W
        · have hjz : (j : Int) < (W : Int) := by omega
          have cr1 := hr1.cr hlt hjt
          have lr1 := hr1.ltr hlt
          have hr2 := HH2.out.ext hEw
          obtain ⟨cap2, cg2, hcap2⟩ := hr2.cg
          have lg2 := hr2.ltg
          have cm2 := hr2.cm hlt
          have lm2 := hr2.ltm
          have cr2 := hr2.cr hlt hjt
          have lr2 := hr2.ltr hlt
          have hix : I64 (l.getD (k * W + j) 0) := getD_i64 HIA.out _
          have hiy : I64 (l2.getD (k * W + j) 0) := getD_i64 HIB.out _
          have hfv := HFS.out k j hlt hjt
          have hc1 := hr1.capc k hlt
          have hc2 := hr2.capc k hlt
          generalize l.getD (k * W + j) 0 = x at *
          generalize l2.getD (k * W + j) 0 = y at *
          have hin := sum_in hix hiy
          have HIN := Lib.hid hin
          have HIX := Lib.hid hix
          have HIY := Lib.hid hiy
          have HFV := Lib.hid hfv
          have HEW := Lib.hid hEw
          have HRR := Lib.hid (And.intro cg1 (And.intro cm1 cr1))
          have hLT := Lib.hid (And.intro lg1 (And.intro lm1 lr1))
          clear hr1 hr2 hin hix hiy hfv hEw
          rename World => wi
          go_wp2_with fail
          refine Calls.mono (OfInt_c y HIY.out _) ?_
          rintro e w1 ⟨rfl, hx1⟩
          unfold longV longA
          go_upto_region 10 with (fail)
          have hb1 : (w1.alloc (.cells #[.int .i64 (dg y 0), .int .i64 (dg y 1), .int .i64 (dg y 2), .int .i64 (dg y 3), .int .i64 (dg y 4), .int .i64 (dg y 5), .int .i64 (dg y 6), .int .i64 (dg y 7), .int .i64 (dg y 8), .int .i64 (dg y 9)] 237)).heap[w1.heap.size]? = some (.cells #[.int .i64 (dg y 0), .int .i64 (dg y 1), .int .i64 (dg y 2), .int .i64 (dg y 3), .int .i64 (dg y 4), .int .i64 (dg y 5), .int .i64 (dg y 6), .int .i64 (dg y 7), .int .i64 (dg y 8), .int .i64 (dg y 9)] 237 (0, 0)) := heap_at _ _ rfl
          have hx2 : Ext wi (w1.alloc (.cells #[.int .i64 (dg y 0), .int .i64 (dg y 1), .int .i64 (dg y 2), .int .i64 (dg y 3), .int .i64 (dg y 4), .int .i64 (dg y 5), .int .i64 (dg y 6), .int .i64 (dg y 7), .int .i64 (dg y 8), .int .i64 (dg y 9)] 237)) := hx1.allocR _
          have hbz := hx1.size
          generalize w1.alloc (.cells #[.int .i64 (dg y 0), .int .i64 (dg y 1), .int .i64 (dg y 2), .int .i64 (dg y 3), .int .i64 (dg y 4), .int .i64 (dg y 5), .int .i64 (dg y 6), .int .i64 (dg y 7), .int .i64 (dg y 8), .int .i64 (dg y 9)] 237) = w2 at *
          generalize w1.heap.size = bx at *
          have HX2 := Lib.hid hx2
          clear hx1 hx2 cg1 cm1 cr1 cg2 cm2 cr2 lg1 lm1 lr1 lg2 lm2 lr2
          go_upto_if 48 with (fail)
          go_cut [] (fun wx => LongAt wx bx (dg (y)) ∧ Ext wi wx)
          case first =>
            go_wp2_with fail
            go_meet
            exact ⟨long_mk hb1, HX2.out⟩
          case rest =>
            obtain ⟨hL, hx4⟩ := hcut
            rename World => w4
            have hLc := long_cells hL
            have x0 := hLc 0 (by decide)
            have x1 := hLc 1 (by decide)
            have x2 := hLc 2 (by decide)
            have x3 := hLc 3 (by decide)
            have x4 := hLc 4 (by decide)
            have x5 := hLc 5 (by decide)
            have x6 := hLc 6 (by decide)
            have x7 := hLc 7 (by decide)
            have x8 := hLc 8 (by decide)
            have x9 := hLc 9 (by decide)
            have lx : bx < w4.heap.size := by unfold LongAt at hL; exact lt_of hL
            have cg1 := ((bcell hx4).1 _ _ hLT.out.1).trans HRR.out.1
            have cm1 := ((bcell hx4).1 _ _ hLT.out.2.1).trans HRR.out.2.1
            have cr1 := ((bcell hx4).1 _ _ hLT.out.2.2).trans HRR.out.2.2
            have lg1 := Nat.lt_of_lt_of_le hLT.out.1 hx4.size
            have lm1 := Nat.lt_of_lt_of_le hLT.out.2.1 hx4.size
            have lr1 := Nat.lt_of_lt_of_le hLT.out.2.2 hx4.size
            have hP : ∀ w' : World, Calls Tryz.prog 151 #[longV x, .agg #[.int .i64 (dg (y) 0), .int .i64 (dg (y) 1), .int .i64 (dg (y) 2), .int .i64 (dg (y) 3), .int .i64 (dg (y) 4), .int .i64 (dg (y) 5), .int .i64 (dg (y) 6), .int .i64 (dg (y) 7), .int .i64 (dg (y) 8), .int .i64 (dg (y) 9)]] w' fun e w'' => e = .returned (longV (x + y)) ∧ Ext w' w'' := fun w' => LPlus_c x (y) w'
            have HP := Lib.hid hP
            have hIn : ∀ w' : World, Calls Tryz.prog 150 #[longV (x + y)] w' fun e w'' => e = .returned (.tuple #[.int .i64 (fitN (x + y)), .bool (fitB (x + y))]) ∧ Ext w' w'' := fun w' => LInt_c _ (by have := HIN.out; first | exact this.1.1 | exact this.2.1) (by have := HIN.out; first | exact this.1.2 | exact this.2.2) w'
            have HINT := Lib.hid hIn
            have hOf : ∀ w' : World, Calls Tryz.prog 152 #[.int .i64 x] w' fun e w'' => e = .returned (longV x) ∧ Ext w' w'' := fun w' => OfInt_c x HIX.out w'
            have HOF := Lib.hid hOf
            have hfv : f k j = x + y := by have := HFV.out; omega
            have HFV2 := Lib.hid hfv
            clear hL hLc hP hIn hOf hfv
            generalize dg (y) = dd at *
            generalize longV x = vx at *
            generalize longV (x + y) = vs at *
            go_wp2_with fail
            refine wp_region_after (by kernel_rfl) (by kernel_rfl) ?_
            repeat (go_big_quiet_step ((first | (go_at_call 152; exact quiet_after (HOF.out _)) | (go_at_call 151; exact quiet_after (HP.out _)) | (go_at_call 150; exact quiet_after (HINT.out _)))))
            refine wpQuiet_nil ?_
            rintro _ ⟨xx, rfl⟩
            obtain ⟨w5, hb5⟩ := xx
            try dsimp only
            have hE5 := hx4.trans' hb5
            have HOWN5 := Lib.hid (own_ext HOWN.out hE5)
            have hEo5 := hEo.trans' hE5
            clear x0 x1 x2 x3 x4 x5 x6 x7 x8 x9 lx cg1 cm1 cr1 lg1 lm1 lr1 HP HINT HOF
            by_cases hfit : I64 (f k j)
            · have hfb : fitB (x + y) = true := by rw [← HFV2.out]; exact fitB_yes hfit
              have hfn : fitN (x + y) = f k j := by rw [← HFV2.out]; exact fitN_yes hfit
              rw [hfb, hfn]
              have HFIT := Lib.hid hfit
              have hrs := rowF_succ f k j
              have HRS := Lib.hid hrs
              have hrl := rowF_len f k j
              have HRL := Lib.hid hrl
              have hsz5 := hEo5.size
              clear hfb hfn hfit hrs hrl
              generalize hv : f k j = v at *
              have HV := Lib.hid hv
              clear hv
              go_wp2_with (at_builtin; refine wpList_app1 w5 v (rowF f k j) u9 wo.heap.size 2 HOWN5.out 43 rfl _ _ rfl info_i64 Tryz.underlying43 (by rfl) (by rfl) ?a1 ?a2 ?_)
              case a1 => rw [HRL.out]; omega
              case a2 => exact hsz5
              intro v' w6 g1 g2 _
              have hE6 : Ext wo w6 := ext_grown hEo5 g2 (fun i hi => own_blk HOWN5.out hi)
              have G1 := Lib.hid g1
              clear g1 g2
              go_wp2
              go_roundw
              case rel =>
                refine ⟨j + 1, by omega, by go_num, by rw [HRS.out, List.length_append]; exact G1.out, hE6, fun c hc => ?_⟩
                by_cases e : c = j
                · rw [e, HV.out]; exact HFIT.out
                · exact HROW.out c (by omega)
              case measure => simp [intOf]; omega
            · have hfb : fitB (x + y) = false := by rw [← HFV2.out]; exact fitB_no hfit
              have hno := not_all HML.out HFE.out hlt hjt hfit
              have HNO := Lib.hid hno
              have hEf := hE.trans' hEo5
              rw [hfb]
              clear hfb hfit hno
              go_wp2
              go_ret
              exact .inr ⟨HNO.out, rfl, hEf⟩
        · obtain rfl : j = W := by omega
          have hrl := rowF_len f k j
          obtain ⟨z, zc, cur, rfl, hzc, hz, hzh, hzcur⟩ := own_row1 HOWN.out (by rw [hrl]; omega)
          rw [hrl] at hzc hzcur ⊢
          obtain ⟨i0, z0, hi0, hz0, hz1, hz2, hz3⟩ := info_row
          have HMX := Lib.hid (HM.out.ext hEo)
          have HC := Lib.hid (And.intro hzc (And.intro hz (And.intro hzh hzcur)))
          have hszo := hE.size
          have hszr := hEo.size
          clear HOWN hrl hzc hz hzh hzcur hr1
          go_wp2_with (at_builtin; refine wpList_appB wr 24 (by decide) (.slice (some ⟨z, 0, none⟩) j zc) rfl ((List.range k).map (G'.row j)) u7 w.heap.size 43 HMX.out.row 159 rfl _ _ rfl i0 z0 hi0 hz0 hz1 hz2 hz3 Tryz.underlying159 (by rfl) (by rfl) ?b1 ?b2 ?_)
          case b1 => rw [List.length_map, List.length_range]; omega
          case b2 => omega
          intro v' w' g1 g2
          obtain ⟨q1, q2, q3, q4⟩ := HC.out
          have hnext := HMX.out.next q3 (fun i hi => by rw [q4 i hi, rowF_get hi]) q1 (fun r hr => HM.out.lt hr) (by omega) q2 (by rw [List.length_append, List.length_map, List.length_range]; exact g1) g2
          have hEf : Ext w w' := ext_grown (hE.trans' hEo) g2 (fun i hi => own_blk HMX.out.row hi)
          have HN := Lib.hid hnext
          clear hnext g1 g2
          go_wp2
          go_roundw
          case rel =>
            refine ⟨k + 1, _, by omega, by go_num, HN.out, hEf, fun r hr c hc => ?_⟩
            by_cases e : r = k
            · rw [e]; exact HROW.out c hc
            · exact HALL.out r (by omega) c hc
          case measure => simp [intOf]; omega
    · obtain rfl : k = R := by omega
      obtain ⟨pv, nv, cv, rfl⟩ := own_slice HM.out.row
      obtain ⟨cap3, hex, hcap3⟩ := hr.ex
      have fz := frozen_of hex 0
      have HEX := Lib.hid hex
      have hall := all_rows HML.out HFE.out (fun r hr j hj => HALL.out r hr j hj)
      have HA := Lib.hid hall
      have hgl := HH.out.ltg
      clear hr hex hall
      go_wp2
      go_ret
      have hb := (setCell_same HEX.out 0 (.slice pv nv cv)).trans rfl
      obtain ⟨m, hm, hG⟩ := (HM.out.setc hgl 0 (.slice pv nv cv)).grid (g := G.g) hb HML.out HFE.out r1 r2 w1' w2'
      refine .inl ⟨HA.out, rfl, ⟨G.g, m, G'.r, G'.c⟩, rfl, hG, ?_, (hE.mod _).trans (mod_set _ _ _ _)⟩
      rintro i (rfl | rfl | ⟨r, hr, rfl⟩)
      · exact .inl rfl
      · exact .inr hm
      · exact .inr (HM.out.new r hr)
set_option maxRecDepth 20000 in
set_option maxHeartbeats 16000000 in
theorem RGJoinMinus_c (G G2 : Gr) (R W : Nat) (l l2 : List Int) (w : World) (h : RGAt w G R W l) (h2 : RGAt w G2 R W l2) (hI : allI l) (hI2 : allI l2) :
    Calls Tryz.prog 165 #[.pointer (some ⟨G.g, 0, none⟩), .pointer (some ⟨G2.g, 0, none⟩), .int .i64 (-1)] w (RGJoinPost w G R W (minusL l l2)) := by
  have r1 := h.r1
  have r2 := h.r2
  have w1' := h.w1
  have w2' := h.w2
  have HH := Lib.hid h
  have HH2 := Lib.hid h2
  have HIA := Lib.hid hI
  have HIB := Lib.hid hI2
  have hml : (minusL l l2).length = R * W := by rw [minusL_len]; exact h.len
  obtain ⟨f, hf⟩ : ∃ f : Nat → Nat → Int, f = fun r k => (minusL l l2).getD (r * W + k) 0 := ⟨_, rfl⟩
  have hfe : ∀ r k, r < R → k < W → f r k = (minusL l l2).getD (r * W + k) 0 := fun r k _ _ => by rw [hf]
  have hfs : ∀ r k, r < R → k < W → f r k = l.getD (r * W + k) 0 - l2.getD (r * W + k) 0 := fun r k hr hk => by rw [hf]; exact minusL_get (by rw [h.len]; exact row_lt hr hk)
  have HML := Lib.hid hml
  have HFE := Lib.hid hfe
  have HFS := Lib.hid hfs
  clear hml hf hfe hfs h h2 hI hI2
  generalize minusL l l2 = ms at *
  go_enter Tryz.func165, Tryz.ntmps165
  go_wp2_with fail
  go_loopw [7, 8] (fun u7 u8 wr => ∃ (k : Nat) (G' : Gr), k ≤ R ∧ u8 = .int .i64 k ∧ GMade wr w.heap.size G' W k u7 f ∧ Ext w wr ∧ ∀ r, r < k → ∀ j, j < W → I64 (f r j)) (fun _ u8 _ => R - (intOf u8).toNat)
  case atStart => exact ⟨0, G, Nat.zero_le _, rfl, GMade.zero w _ G W f, Ext.refl _, fun r hr => absurd hr (Nat.not_lt_zero _)⟩
  case round =>
    obtain ⟨k, G', hk, rfl, hM, hE, hall⟩ := hrel
    have HM := Lib.hid hM
    have HALL := Lib.hid hall
    have hr := HH.out.ext hE
    obtain ⟨cap, cg, hcap⟩ := hr.cg
    have lg := hr.ltg
    clear hM hall
    by_cases hlt : k < R
    · have hkz : (k : Int) < (R : Int) := by omega
      rename World => wo
      clear hr
      go_upto_region 6 with (fail)
      have hE0 : Ext wo (wo.alloc (.cells #[] 2)) := Ext.alloc' _ _
      have hro : (wo.alloc (.cells #[] 2)).ownsRow wo.heap.size 2 1 (.slice (some ⟨wo.heap.size, 0, none⟩) 0 0) 0 [] := own_empty wo _
      have HRO := Lib.hid hro
      clear cg lg hcap hro
      go_wp2_with fail
      go_loopw [9, 10] (fun u9 u10 wr => ∃ j : Nat, j ≤ W ∧ u10 = .int .i64 j ∧ wr.ownsRow wo.heap.size 2 1 u9 (rowF f k j).length (ints (rowF f k j)) ∧ Ext wo wr ∧ ∀ c, c < j → I64 (f k c)) (fun _ u10 _ => W - (intOf u10).toNat)
      case atStart => exact ⟨0, Nat.zero_le _, rfl, HRO.out, hE0, fun c hc => absurd hc (Nat.not_lt_zero _)⟩
      case round =>
        clear hE0 HRO
        obtain ⟨j, hj, rfl, hown, hEo, hrow⟩ := hrel
        have HOWN := Lib.hid hown
        have HROW := Lib.hid hrow
        have hEw := hE.trans' hEo
        have hr1 := HH.out.ext hEw
        obtain ⟨cap1, cg1, hcap1⟩ := hr1.cg
        have lg1 := hr1.ltg
        have cm1 := hr1.cm hlt
        have lm1 := hr1.ltm
        clear hown hrow
        by_cases hjt : j < W
        · have hjz : (j : Int) < (W : Int) := by omega
          have cr1 := hr1.cr hlt hjt
          have lr1 := hr1.ltr hlt
          have hr2 := HH2.out.ext hEw
          obtain ⟨cap2, cg2, hcap2⟩ := hr2.cg
          have lg2 := hr2.ltg
          have cm2 := hr2.cm hlt
          have lm2 := hr2.ltm
          have cr2 := hr2.cr hlt hjt
          have lr2 := hr2.ltr hlt
          have hix : I64 (l.getD (k * W + j) 0) := getD_i64 HIA.out _
          have hiy : I64 (l2.getD (k * W + j) 0) := getD_i64 HIB.out _
          have hfv := HFS.out k j hlt hjt
          have hc1 := hr1.capc k hlt
          have hc2 := hr2.capc k hlt
          generalize l.getD (k * W + j) 0 = x at *
          generalize l2.getD (k * W + j) 0 = y at *
          have hin := sum_in hix hiy
          have HIN := Lib.hid hin
          have HIX := Lib.hid hix
          have HIY := Lib.hid hiy
          have HFV := Lib.hid hfv
          have HEW := Lib.hid hEw
          have HRR := Lib.hid (And.intro cg1 (And.intro cm1 cr1))
          have hLT := Lib.hid (And.intro lg1 (And.intro lm1 lr1))
          clear hr1 hr2 hin hix hiy hfv hEw
          rename World => wi
          go_wp2_with fail
          refine Calls.mono (OfInt_c y HIY.out _) ?_
          rintro e w1 ⟨rfl, hx1⟩
          unfold longV longA
          go_upto_region 10 with (fail)
          have hb1 : (w1.alloc (.cells #[.int .i64 (dg y 0), .int .i64 (dg y 1), .int .i64 (dg y 2), .int .i64 (dg y 3), .int .i64 (dg y 4), .int .i64 (dg y 5), .int .i64 (dg y 6), .int .i64 (dg y 7), .int .i64 (dg y 8), .int .i64 (dg y 9)] 237)).heap[w1.heap.size]? = some (.cells #[.int .i64 (dg y 0), .int .i64 (dg y 1), .int .i64 (dg y 2), .int .i64 (dg y 3), .int .i64 (dg y 4), .int .i64 (dg y 5), .int .i64 (dg y 6), .int .i64 (dg y 7), .int .i64 (dg y 8), .int .i64 (dg y 9)] 237 (0, 0)) := heap_at _ _ rfl
          have hx2 : Ext wi (w1.alloc (.cells #[.int .i64 (dg y 0), .int .i64 (dg y 1), .int .i64 (dg y 2), .int .i64 (dg y 3), .int .i64 (dg y 4), .int .i64 (dg y 5), .int .i64 (dg y 6), .int .i64 (dg y 7), .int .i64 (dg y 8), .int .i64 (dg y 9)] 237)) := hx1.allocR _
          have hbz := hx1.size
          generalize w1.alloc (.cells #[.int .i64 (dg y 0), .int .i64 (dg y 1), .int .i64 (dg y 2), .int .i64 (dg y 3), .int .i64 (dg y 4), .int .i64 (dg y 5), .int .i64 (dg y 6), .int .i64 (dg y 7), .int .i64 (dg y 8), .int .i64 (dg y 9)] 237) = w2 at *
          generalize w1.heap.size = bx at *
          have HX2 := Lib.hid hx2
          clear hx1 hx2 cg1 cm1 cr1 cg2 cm2 cr2 lg1 lm1 lr1 lg2 lm2 lr2
          have x0 := (cell_of hb1 0).trans rfl
          have x1 := (cell_of hb1 1).trans rfl
          have x2 := (cell_of hb1 2).trans rfl
          have x3 := (cell_of hb1 3).trans rfl
          have x4 := (cell_of hb1 4).trans rfl
          have x5 := (cell_of hb1 5).trans rfl
          have x6 := (cell_of hb1 6).trans rfl
          have x7 := (cell_of hb1 7).trans rfl
          have x8 := (cell_of hb1 8).trans rfl
          have x9 := (cell_of hb1 9).trans rfl
          have lx := lt_of hb1
          go_upto_if 48 with (fail)
          go_cut [] (fun wx => LongAt wx bx (dg (-y)) ∧ Ext wi wx)
          case first =>
            have HB1 := Lib.hid hb1
            clear hb1
            have hMn : ∀ w' : World, Calls Tryz.prog 153 #[.agg #[.int .i64 (dg y 0), .int .i64 (dg y 1), .int .i64 (dg y 2), .int .i64 (dg y 3), .int .i64 (dg y 4), .int .i64 (dg y 5), .int .i64 (dg y 6), .int .i64 (dg y 7), .int .i64 (dg y 8), .int .i64 (dg y 9)]] w' fun e w'' => e = .returned (longV (-y)) ∧ Ext w' w'' := fun w' => LMinus_c y w'
            have HMN := Lib.hid hMn
            clear hMn
            go_wp2_with fail
            refine Calls.mono (HMN.out _) ?_
            rintro e w3 ⟨rfl, hx3⟩
            have hb3 := hx3.keep HB1.out
            have hE3 := HX2.out.trans' hx3
            clear x0 x1 x2 x3 x4 x5 x6 x7 x8 x9 lx
            have z0 := (cell_of hb3 0).trans rfl
            have f0 := frozen_of hb3 0
            have z1 := (cell_of hb3 1).trans rfl
            have f1 := frozen_of hb3 1
            have z2 := (cell_of hb3 2).trans rfl
            have f2 := frozen_of hb3 2
            have z3 := (cell_of hb3 3).trans rfl
            have f3 := frozen_of hb3 3
            have z4 := (cell_of hb3 4).trans rfl
            have f4 := frozen_of hb3 4
            have z5 := (cell_of hb3 5).trans rfl
            have f5 := frozen_of hb3 5
            have z6 := (cell_of hb3 6).trans rfl
            have f6 := frozen_of hb3 6
            have z7 := (cell_of hb3 7).trans rfl
            have f7 := frozen_of hb3 7
            have z8 := (cell_of hb3 8).trans rfl
            have f8 := frozen_of hb3 8
            have z9 := (cell_of hb3 9).trans rfl
            have f9 := frozen_of hb3 9
            have lz := lt_of hb3
            have HB3 := Lib.hid hb3
            clear hb3
            unfold longV longA
            go_wp2_with fail
            refine fin10 (Φ := fun W' => Met _ _ W') HB3.out hE3 hbz (fun W' hW hEW => ?_)
            go_meet
            exact ⟨long_mk hW, hEW⟩
          case rest =>
            obtain ⟨hL, hx4⟩ := hcut
            rename World => w4
            have hLc := long_cells hL
            have x0 := hLc 0 (by decide)
            have x1 := hLc 1 (by decide)
            have x2 := hLc 2 (by decide)
            have x3 := hLc 3 (by decide)
            have x4 := hLc 4 (by decide)
            have x5 := hLc 5 (by decide)
            have x6 := hLc 6 (by decide)
            have x7 := hLc 7 (by decide)
            have x8 := hLc 8 (by decide)
            have x9 := hLc 9 (by decide)
            have lx : bx < w4.heap.size := by unfold LongAt at hL; exact lt_of hL
            have cg1 := ((bcell hx4).1 _ _ hLT.out.1).trans HRR.out.1
            have cm1 := ((bcell hx4).1 _ _ hLT.out.2.1).trans HRR.out.2.1
            have cr1 := ((bcell hx4).1 _ _ hLT.out.2.2).trans HRR.out.2.2
            have lg1 := Nat.lt_of_lt_of_le hLT.out.1 hx4.size
            have lm1 := Nat.lt_of_lt_of_le hLT.out.2.1 hx4.size
            have lr1 := Nat.lt_of_lt_of_le hLT.out.2.2 hx4.size
            have hP : ∀ w' : World, Calls Tryz.prog 151 #[longV x, .agg #[.int .i64 (dg (-y) 0), .int .i64 (dg (-y) 1), .int .i64 (dg (-y) 2), .int .i64 (dg (-y) 3), .int .i64 (dg (-y) 4), .int .i64 (dg (-y) 5), .int .i64 (dg (-y) 6), .int .i64 (dg (-y) 7), .int .i64 (dg (-y) 8), .int .i64 (dg (-y) 9)]] w' fun e w'' => e = .returned (longV (x + -y)) ∧ Ext w' w'' := fun w' => LPlus_c x (-y) w'
            have HP := Lib.hid hP
            have hIn : ∀ w' : World, Calls Tryz.prog 150 #[longV (x + -y)] w' fun e w'' => e = .returned (.tuple #[.int .i64 (fitN (x + -y)), .bool (fitB (x + -y))]) ∧ Ext w' w'' := fun w' => LInt_c _ (by have := HIN.out; first | exact this.1.1 | exact this.2.1) (by have := HIN.out; first | exact this.1.2 | exact this.2.2) w'
            have HINT := Lib.hid hIn
            have hOf : ∀ w' : World, Calls Tryz.prog 152 #[.int .i64 x] w' fun e w'' => e = .returned (longV x) ∧ Ext w' w'' := fun w' => OfInt_c x HIX.out w'
            have HOF := Lib.hid hOf
            have hfv : f k j = x + -y := by have := HFV.out; omega
            have HFV2 := Lib.hid hfv
            clear hL hLc hP hIn hOf hfv
            generalize dg (-y) = dd at *
            generalize longV x = vx at *
            generalize longV (x + -y) = vs at *
            go_wp2_with fail
            refine wp_region_after (by kernel_rfl) (by kernel_rfl) ?_
            repeat (go_big_quiet_step ((first | (go_at_call 152; exact quiet_after (HOF.out _)) | (go_at_call 151; exact quiet_after (HP.out _)) | (go_at_call 150; exact quiet_after (HINT.out _)))))
            refine wpQuiet_nil ?_
            rintro _ ⟨xx, rfl⟩
            obtain ⟨w5, hb5⟩ := xx
            try dsimp only
            have hE5 := hx4.trans' hb5
            have HOWN5 := Lib.hid (own_ext HOWN.out hE5)
            have hEo5 := hEo.trans' hE5
            clear x0 x1 x2 x3 x4 x5 x6 x7 x8 x9 lx cg1 cm1 cr1 lg1 lm1 lr1 HP HINT HOF
            by_cases hfit : I64 (f k j)
            · have hfb : fitB (x + -y) = true := by rw [← HFV2.out]; exact fitB_yes hfit
              have hfn : fitN (x + -y) = f k j := by rw [← HFV2.out]; exact fitN_yes hfit
              rw [hfb, hfn]
              have HFIT := Lib.hid hfit
              have hrs := rowF_succ f k j
              have HRS := Lib.hid hrs
              have hrl := rowF_len f k j
              have HRL := Lib.hid hrl
              have hsz5 := hEo5.size
              clear hfb hfn hfit hrs hrl
              generalize hv : f k j = v at *
              have HV := Lib.hid hv
              clear hv
              go_wp2_with (at_builtin; refine wpList_app1 w5 v (rowF f k j) u9 wo.heap.size 2 HOWN5.out 43 rfl _ _ rfl info_i64 Tryz.underlying43 (by rfl) (by rfl) ?a1 ?a2 ?_)
              case a1 => rw [HRL.out]; omega
              case a2 => exact hsz5
              intro v' w6 g1 g2 _
              have hE6 : Ext wo w6 := ext_grown hEo5 g2 (fun i hi => own_blk HOWN5.out hi)
              have G1 := Lib.hid g1
              clear g1 g2
              go_wp2
              go_roundw
              case rel =>
                refine ⟨j + 1, by omega, by go_num, by rw [HRS.out, List.length_append]; exact G1.out, hE6, fun c hc => ?_⟩
                by_cases e : c = j
                · rw [e, HV.out]; exact HFIT.out
                · exact HROW.out c (by omega)
              case measure => simp [intOf]; omega
            · have hfb : fitB (x + -y) = false := by rw [← HFV2.out]; exact fitB_no hfit
              have hno := not_all HML.out HFE.out hlt hjt hfit
              have HNO := Lib.hid hno
              have hEf := hE.trans' hEo5
              rw [hfb]
              clear hfb hfit hno
              go_wp2
              go_ret
              exact .inr ⟨HNO.out, rfl, hEf⟩
        · obtain rfl : j = W := by omega
          have hrl := rowF_len f k j
          obtain ⟨z, zc, cur, rfl, hzc, hz, hzh, hzcur⟩ := own_row1 HOWN.out (by rw [hrl]; omega)
          rw [hrl] at hzc hzcur ⊢
          obtain ⟨i0, z0, hi0, hz0, hz1, hz2, hz3⟩ := info_row
          have HMX := Lib.hid (HM.out.ext hEo)
          have HC := Lib.hid (And.intro hzc (And.intro hz (And.intro hzh hzcur)))
          have hszo := hE.size
          have hszr := hEo.size
          clear HOWN hrl hzc hz hzh hzcur hr1
          go_wp2_with (at_builtin; refine wpList_appB wr 24 (by decide) (.slice (some ⟨z, 0, none⟩) j zc) rfl ((List.range k).map (G'.row j)) u7 w.heap.size 43 HMX.out.row 159 rfl _ _ rfl i0 z0 hi0 hz0 hz1 hz2 hz3 Tryz.underlying159 (by rfl) (by rfl) ?b1 ?b2 ?_)
          case b1 => rw [List.length_map, List.length_range]; omega
          case b2 => omega
          intro v' w' g1 g2
          obtain ⟨q1, q2, q3, q4⟩ := HC.out
          have hnext := HMX.out.next q3 (fun i hi => by rw [q4 i hi, rowF_get hi]) q1 (fun r hr => HM.out.lt hr) (by omega) q2 (by rw [List.length_append, List.length_map, List.length_range]; exact g1) g2
          have hEf : Ext w w' := ext_grown (hE.trans' hEo) g2 (fun i hi => own_blk HMX.out.row hi)
          have HN := Lib.hid hnext
          clear hnext g1 g2
          go_wp2
          go_roundw
          case rel =>
            refine ⟨k + 1, _, by omega, by go_num, HN.out, hEf, fun r hr c hc => ?_⟩
            by_cases e : r = k
            · rw [e]; exact HROW.out c hc
            · exact HALL.out r (by omega) c hc
          case measure => simp [intOf]; omega
    · obtain rfl : k = R := by omega
      obtain ⟨pv, nv, cv, rfl⟩ := own_slice HM.out.row
      obtain ⟨cap3, hex, hcap3⟩ := hr.ex
      have fz := frozen_of hex 0
      have HEX := Lib.hid hex
      have hall := all_rows HML.out HFE.out (fun r hr j hj => HALL.out r hr j hj)
      have HA := Lib.hid hall
      have hgl := HH.out.ltg
      clear hr hex hall
      go_wp2
      go_ret
      have hb := (setCell_same HEX.out 0 (.slice pv nv cv)).trans rfl
      obtain ⟨m, hm, hG⟩ := (HM.out.setc hgl 0 (.slice pv nv cv)).grid (g := G.g) hb HML.out HFE.out r1 r2 w1' w2'
      refine .inl ⟨HA.out, rfl, ⟨G.g, m, G'.r, G'.c⟩, rfl, hG, ?_, (hE.mod _).trans (mod_set _ _ _ _)⟩
      rintro i (rfl | rfl | ⟨r, hr, rfl⟩)
      · exact .inl rfl
      · exact .inr hm
      · exact .inr (HM.out.new r hr)
end Go.Proofs.YtfhdjekpdifajaaGreat
namespace Go.Proofs.YtfhdjekpdifajaaGreat
set_option linter.unusedVariables false
open Go.RowKit
def RSJoinPost (w : World) (s : Nat) (G : Gr) (C : Cfg) (lv : Int) (R W : Nat) (ms : List Int) (e : Ending) (w' : World) : Prop :=
  (allI ms ∧ e = .returned (.int .i64 0) ∧ ∃ G' : Gr, RSAt w' s G' C lv R W ms ∧ (∀ k, rsF s G' R k → rsF s G R k ∨ w.heap.size ≤ k) ∧ Mod (rsF s G R) w w') ∨ (¬ allI ms ∧ e = .returned (.int .i64 4) ∧ Ext w w')
set_option maxRecDepth 20000 in
set_option maxHeartbeats 8000000 in
theorem RSJoinPlus_c (s s2 : Nat) (G G2 : Gr) (C : Cfg) (lv : Int) (R W : Nat) (l l2 : List Int) (w : World) (h : RSAt w s G C lv R W l) (h2 : RSAt w s2 G2 C lv R W l2) (hmd : "Plus" = "Minus" → C.mode ≠ 2) :
    Calls Tryz.prog 114 #[.pointer (some ⟨s, 0, none⟩), .pointer (some ⟨s2, 0, none⟩), .int .i64 1] w (RSJoinPost w s G C lv R W (plusL l l2)) := by
  have HH := Lib.hid h
  have HH2 := Lib.hid h2
  have ls := h.lts
  have hex := h.ex
  have c0 := (cell_of hex 0).trans rfl
  have c1 := (cell_of hex 1).trans rfl
  have c2 := (cell_of hex 2).trans rfl
  have c3 := (cell_of hex 3).trans rfl
  have c4 := (cell_of hex 4).trans rfl
  have c5 := (cell_of hex 5).trans rfl
  have ls2 := h2.lts
  have hex2 := h2.ex
  have d0 := (cell_of hex2 0).trans rfl
  have d1 := (cell_of hex2 1).trans rfl
  have d2 := (cell_of hex2 2).trans rfl
  have d3 := (cell_of hex2 3).trans rfl
  have d4 := (cell_of hex2 4).trans rfl
  have d5 := (cell_of hex2 5).trans rfl
  clear hex hex2 h h2 hmd
  go_enter Tryz.func114, Tryz.ntmps114
  go_wp2_with fail
  have hC0 := af_drew w
  refine pi_start (fun w' => ∃ z : After w, w' = z.w) [] (by kernel_rfl) ?_
  refine pi_t 0 rfl (by kernel_rfl) (by kernel_rfl) (fun _ _ _ _ h => h) (fun K hK => ?_)
  go_big_quiet_op
  refine hK _ ?_
  clear hK K
  refine pi_t 1 rfl (by kernel_rfl) (by kernel_rfl) (fun _ _ _ _ h => h) (fun K hK => ?_)
  go_big_quiet_op
  refine hK _ ?_
  clear hK K
  refine pi_t 2 rfl (by kernel_rfl) (by kernel_rfl) (fun _ _ _ _ h => h) (fun K hK => ?_)
  go_big_quiet_op
  refine hK _ ?_
  clear hK K
  refine pi_t 4 rfl (by kernel_rfl) (by kernel_rfl) (fun _ _ _ _ h => h) (fun K hK => ?_)
  go_big_quiet_op
  refine hK _ ?_
  clear hK K
  refine pi_t 5 rfl (by kernel_rfl) (by kernel_rfl) (fun _ _ _ _ h => h) (fun K hK => ?_)
  go_big_quiet_op
  refine hK _ ?_
  clear hK K
  refine pi_t 6 rfl (by kernel_rfl) (by kernel_rfl) (fun _ _ _ _ h => h) (fun K hK => ?_)
  go_big_quiet_op
  refine hK _ ?_
  clear hK K
  refine pi_c 3 (by assumption) rfl (by kernel_rfl) (by kernel_rfl) (fun _ _ _ _ h => h) (fun K hK => ?_)
  go_big_quiet_op
  refine hK _ ?_
  clear hK K
  refine pi_c 7 (by assumption) rfl (by kernel_rfl) (by kernel_rfl) (fun _ _ _ _ h => h) (fun K hK => ?_)
  go_big_quiet_op
  refine hK _ ?_
  clear hK K
  refine pi_t 8 rfl (by kernel_rfl) (by kernel_rfl) (fun _ _ _ _ h => h) (fun K hK => ?_)
  go_big_quiet_op
  refine hK _ ?_
  clear hK K
  refine pi_t 9 rfl (by kernel_rfl) (by kernel_rfl) (fun _ _ _ _ h => h) (fun K hK => ?_)
  go_big_quiet_op
  refine hK _ ?_
  clear hK K
  refine pi_t 10 rfl (by kernel_rfl) (by kernel_rfl) (fun _ _ _ _ h => h) (fun K hK => ?_)
  go_big_quiet_op
  refine hK _ ?_
  clear hK K
  refine pi_t 11 rfl (by kernel_rfl) (by kernel_rfl) (fun _ _ _ _ h => h) (fun K hK => ?_)
  go_big_quiet_op
  refine hK _ ?_
  clear hK K
  refine pi_t 12 rfl (by kernel_rfl) (by kernel_rfl) (fun _ _ _ _ h => h) (fun K hK => ?_)
  go_big_quiet_op
  refine hK _ ?_
  clear hK K
  refine pi_t 14 rfl (by kernel_rfl) (by kernel_rfl) (fun _ _ _ _ h => h) (fun K hK => ?_)
  go_big_quiet_op
  refine hK _ ?_
  clear hK K
  refine pi_t 15 rfl (by kernel_rfl) (by kernel_rfl) (fun _ _ _ _ h => h) (fun K hK => ?_)
  go_big_quiet_op
  refine hK _ ?_
  clear hK K
  refine pi_t 16 rfl (by kernel_rfl) (by kernel_rfl) (fun _ _ _ _ h => h) (fun K hK => ?_)
  go_big_quiet_op
  refine hK _ ?_
  clear hK K
  refine pi_c 13 (by assumption) rfl (by kernel_rfl) (by kernel_rfl) (fun _ _ _ _ h => h) (fun K hK => ?_)
  go_big_quiet_op
  refine hK _ ?_
  clear hK K
  refine pi_c 17 (by assumption) rfl (by kernel_rfl) (by kernel_rfl) (fun _ _ _ _ h => h) (fun K hK => ?_)
  go_big_quiet_op
  refine hK _ ?_
  clear hK K
  refine pi_t 18 rfl (by kernel_rfl) (by kernel_rfl) (fun _ _ _ _ h => h) (fun K hK => ?_)
  go_big_quiet_op
  refine hK _ ?_
  clear hK K
  refine pi_t 19 rfl (by kernel_rfl) (by kernel_rfl) (fun _ _ _ _ h => h) (fun K hK => ?_)
  go_big_quiet_op
  refine hK _ ?_
  clear hK K
  refine pi_end (by kernel_rfl) ?_
  have hE1 : Ext w w.drew := Below.drew (Ext.refl w)
  have HG := Lib.hid (fun W' (hW : Ext w W') => RGJoinPlus_c G G2 R W l l2 W' (HH.out.g.ext hW) (HH2.out.g.ext hW) HH.out.fit HH2.out.fit)
  have hex1 := HH.out.ex
  have hex2 := HH2.out.ex
  have c6 := (cell_of hex1 6).trans rfl
  have d6 := (cell_of hex2 6).trans rfl
  clear hex1 hex2
  go_wp2_with fail
  have hC0 : ∃ z : After w, w.drew.drew = z.w := ⟨⟨_, (Ext.refl w).drewR.drewR⟩, rfl⟩
  refine pi_start (fun w' => ∃ z : After w, w' = z.w) [9] (by kernel_rfl) ?_
  refine pi_t 0 rfl (by kernel_rfl) (by kernel_rfl) (fun _ _ _ _ h => h) (fun K hK => ?_)
  go_big_quiet_op
  refine hK _ ?_
  clear hK K
  refine pi_t 1 rfl (by kernel_rfl) (by kernel_rfl) (fun _ _ _ _ h => h) (fun K hK => ?_)
  go_big_quiet_op
  refine hK _ ?_
  clear hK K
  refine pi_t 2 rfl (by kernel_rfl) (by kernel_rfl) (fun _ _ _ _ h => h) (fun K hK => ?_)
  go_big_quiet_op
  refine hK _ ?_
  clear hK K
  refine pi_t 4 rfl (by kernel_rfl) (by kernel_rfl) (fun _ _ _ _ h => h) (fun K hK => ?_)
  go_big_quiet_op
  refine hK _ ?_
  clear hK K
  refine pi_t 5 rfl (by kernel_rfl) (by kernel_rfl) (fun _ _ _ _ h => h) (fun K hK => ?_)
  go_big_quiet_op
  refine hK _ ?_
  clear hK K
  refine pi_t 6 rfl (by kernel_rfl) (by kernel_rfl) (fun _ _ _ _ h => h) (fun K hK => ?_)
  go_big_quiet_op
  refine hK _ ?_
  clear hK K
  refine pi_t 8 rfl (by kernel_rfl) (by kernel_rfl) (fun _ _ _ _ h => h) (fun K hK => ?_)
  go_big_quiet_op
  refine hK _ ?_
  clear hK K
  refine pi_c 3 (by assumption) rfl (by kernel_rfl) (by kernel_rfl) (fun _ _ _ _ h => h) (fun K hK => ?_)
  go_big_quiet_op
  refine hK _ ?_
  clear hK K
  refine pi_c 7 (by assumption) rfl (by kernel_rfl) (by kernel_rfl) (fun _ _ _ _ h => h) (fun K hK => ?_)
  go_big_quiet_op
  refine hK _ ?_
  clear hK K
  refine pi_l 9 rfl (by kernel_rfl) (fun K hK => ?_)
  go_wp2_with (go_at_call 165; refine Calls.mono (HG.out _ (Ext.refl w).drewR.drewR) ?_; rintro e w1 (⟨ha, rfl, G', hg', hG', hF', hM'⟩ | ⟨ha, rfl, hx'⟩))
  · refine hK _ _ (by simp) ?_
    clear hK K
    have HA := Lib.hid ha
    have HGG := Lib.hid hg'
    have HG' := Lib.hid hG'
    have HF' := Lib.hid hF'
    have hM2 : Mod (fun k => k = G.g) w w1 := ((Ext.refl w).drewR.drewR.mod _).trans hM'
    clear ha hg' hG' hF' hM'
    refine pi_t 10 rfl (by kernel_rfl) (by kernel_rfl) (fun _ _ _ _ h => h) (fun K hK => ?_)
    go_big_quiet_op
    refine hK _ ?_
    clear hK K
    refine pi_end (by kernel_rfl) ?_
    go_wp2
    go_ret
    refine .inl ⟨HA.out, rfl, G', ⟨?_, HG'.out, HH.out.ok, HH.out.lo, HH.out.hi, HH.out.hr, HH.out.hw, HA.out⟩, ?_, hM2.wider (fun k hk => .inr (.inl hk))⟩
    · rw [HGG.out, hM2.block s ls (fun e => HH.out.ns (.inl e))]; exact HH.out.ex
    · rintro k (rfl | hk)
      · exact .inl (.inl rfl)
      · rcases HF'.out k hk with h1 | h1
        · exact .inl (.inr (.inl h1))
        · exact .inr h1
  · refine hK _ _ (by simp) ?_
    clear hK K
    have HA := Lib.hid ha
    have hE2 : Ext w w1 := (Ext.refl w).drewR.drewR.trans' hx'
    clear ha hx'
    refine pi_t 10 rfl (by kernel_rfl) (by kernel_rfl) (fun _ _ _ _ h => h) (fun K hK => ?_)
    go_big_quiet_op
    refine hK _ ?_
    clear hK K
    refine pi_end (by kernel_rfl) ?_
    go_wp2
    go_ret
    exact .inr ⟨HA.out, rfl, hE2⟩
set_option maxRecDepth 20000 in
set_option maxHeartbeats 8000000 in
theorem RSJoinMinus_c (s s2 : Nat) (G G2 : Gr) (C : Cfg) (lv : Int) (R W : Nat) (l l2 : List Int) (w : World) (h : RSAt w s G C lv R W l) (h2 : RSAt w s2 G2 C lv R W l2) (hmd : "Minus" = "Minus" → C.mode ≠ 2) :
    Calls Tryz.prog 114 #[.pointer (some ⟨s, 0, none⟩), .pointer (some ⟨s2, 0, none⟩), .int .i64 (-1)] w (RSJoinPost w s G C lv R W (minusL l l2)) := by
  have HH := Lib.hid h
  have HH2 := Lib.hid h2
  have ls := h.lts
  have hex := h.ex
  have c0 := (cell_of hex 0).trans rfl
  have c1 := (cell_of hex 1).trans rfl
  have c2 := (cell_of hex 2).trans rfl
  have c3 := (cell_of hex 3).trans rfl
  have c4 := (cell_of hex 4).trans rfl
  have c5 := (cell_of hex 5).trans rfl
  have ls2 := h2.lts
  have hex2 := h2.ex
  have d0 := (cell_of hex2 0).trans rfl
  have d1 := (cell_of hex2 1).trans rfl
  have d2 := (cell_of hex2 2).trans rfl
  have d3 := (cell_of hex2 3).trans rfl
  have d4 := (cell_of hex2 4).trans rfl
  have d5 := (cell_of hex2 5).trans rfl
  have hmm : (C.mode == 2) = false := by have := hmd rfl; simpa using this
  clear hex hex2 h h2 hmd
  go_enter Tryz.func114, Tryz.ntmps114
  go_wp2_with fail
  have hC0 := af_drew w
  refine pi_start (fun w' => ∃ z : After w, w' = z.w) [] (by kernel_rfl) ?_
  refine pi_t 0 rfl (by kernel_rfl) (by kernel_rfl) (fun _ _ _ _ h => h) (fun K hK => ?_)
  go_big_quiet_op
  refine hK _ ?_
  clear hK K
  refine pi_t 1 rfl (by kernel_rfl) (by kernel_rfl) (fun _ _ _ _ h => h) (fun K hK => ?_)
  go_big_quiet_op
  refine hK _ ?_
  clear hK K
  refine pi_t 2 rfl (by kernel_rfl) (by kernel_rfl) (fun _ _ _ _ h => h) (fun K hK => ?_)
  go_big_quiet_op
  refine hK _ ?_
  clear hK K
  refine pi_t 4 rfl (by kernel_rfl) (by kernel_rfl) (fun _ _ _ _ h => h) (fun K hK => ?_)
  go_big_quiet_op
  refine hK _ ?_
  clear hK K
  refine pi_t 5 rfl (by kernel_rfl) (by kernel_rfl) (fun _ _ _ _ h => h) (fun K hK => ?_)
  go_big_quiet_op
  refine hK _ ?_
  clear hK K
  refine pi_t 6 rfl (by kernel_rfl) (by kernel_rfl) (fun _ _ _ _ h => h) (fun K hK => ?_)
  go_big_quiet_op
  refine hK _ ?_
  clear hK K
  refine pi_c 3 (by assumption) rfl (by kernel_rfl) (by kernel_rfl) (fun _ _ _ _ h => h) (fun K hK => ?_)
  go_big_quiet_op
  refine hK _ ?_
  clear hK K
  refine pi_c 7 (by assumption) rfl (by kernel_rfl) (by kernel_rfl) (fun _ _ _ _ h => h) (fun K hK => ?_)
  go_big_quiet_op
  refine hK _ ?_
  clear hK K
  refine pi_t 8 rfl (by kernel_rfl) (by kernel_rfl) (fun _ _ _ _ h => h) (fun K hK => ?_)
  go_big_quiet_op
  refine hK _ ?_
  clear hK K
  refine pi_t 9 rfl (by kernel_rfl) (by kernel_rfl) (fun _ _ _ _ h => h) (fun K hK => ?_)
  go_big_quiet_op
  refine hK _ ?_
  clear hK K
  refine pi_t 10 rfl (by kernel_rfl) (by kernel_rfl) (fun _ _ _ _ h => h) (fun K hK => ?_)
  go_big_quiet_op
  refine hK _ ?_
  clear hK K
  refine pi_t 11 rfl (by kernel_rfl) (by kernel_rfl) (fun _ _ _ _ h => h) (fun K hK => ?_)
  go_big_quiet_op
  refine hK _ ?_
  clear hK K
  refine pi_t 12 rfl (by kernel_rfl) (by kernel_rfl) (fun _ _ _ _ h => h) (fun K hK => ?_)
  go_big_quiet_op
  refine hK _ ?_
  clear hK K
  refine pi_t 14 rfl (by kernel_rfl) (by kernel_rfl) (fun _ _ _ _ h => h) (fun K hK => ?_)
  go_big_quiet_op
  refine hK _ ?_
  clear hK K
  refine pi_t 15 rfl (by kernel_rfl) (by kernel_rfl) (fun _ _ _ _ h => h) (fun K hK => ?_)
  go_big_quiet_op
  refine hK _ ?_
  clear hK K
  refine pi_t 16 rfl (by kernel_rfl) (by kernel_rfl) (fun _ _ _ _ h => h) (fun K hK => ?_)
  go_big_quiet_op
  refine hK _ ?_
  clear hK K
  refine pi_c 13 (by assumption) rfl (by kernel_rfl) (by kernel_rfl) (fun _ _ _ _ h => h) (fun K hK => ?_)
  go_big_quiet_op
  refine hK _ ?_
  clear hK K
  refine pi_c 17 (by assumption) rfl (by kernel_rfl) (by kernel_rfl) (fun _ _ _ _ h => h) (fun K hK => ?_)
  go_big_quiet_op
  refine hK _ ?_
  clear hK K
  refine pi_t 18 rfl (by kernel_rfl) (by kernel_rfl) (fun _ _ _ _ h => h) (fun K hK => ?_)
  go_big_quiet_op
  refine hK _ ?_
  clear hK K
  refine pi_t 19 rfl (by kernel_rfl) (by kernel_rfl) (fun _ _ _ _ h => h) (fun K hK => ?_)
  go_big_quiet_op
  refine hK _ ?_
  clear hK K
  refine pi_end (by kernel_rfl) ?_
  have hE1 : Ext w w.drew := Below.drew (Ext.refl w)
  have HG := Lib.hid (fun W' (hW : Ext w W') => RGJoinMinus_c G G2 R W l l2 W' (HH.out.g.ext hW) (HH2.out.g.ext hW) HH.out.fit HH2.out.fit)
  have hex1 := HH.out.ex
  have hex2 := HH2.out.ex
  have c6 := (cell_of hex1 6).trans rfl
  have d6 := (cell_of hex2 6).trans rfl
  clear hex1 hex2
  go_wp2_with fail
  have hC0 : ∃ z : After w, w.drew.drew = z.w := ⟨⟨_, (Ext.refl w).drewR.drewR⟩, rfl⟩
  refine pi_start (fun w' => ∃ z : After w, w' = z.w) [9] (by kernel_rfl) ?_
  refine pi_t 0 rfl (by kernel_rfl) (by kernel_rfl) (fun _ _ _ _ h => h) (fun K hK => ?_)
  go_big_quiet_op
  refine hK _ ?_
  clear hK K
  refine pi_t 1 rfl (by kernel_rfl) (by kernel_rfl) (fun _ _ _ _ h => h) (fun K hK => ?_)
  go_big_quiet_op
  refine hK _ ?_
  clear hK K
  refine pi_t 2 rfl (by kernel_rfl) (by kernel_rfl) (fun _ _ _ _ h => h) (fun K hK => ?_)
  go_big_quiet_op
  refine hK _ ?_
  clear hK K
  refine pi_t 4 rfl (by kernel_rfl) (by kernel_rfl) (fun _ _ _ _ h => h) (fun K hK => ?_)
  go_big_quiet_op
  refine hK _ ?_
  clear hK K
  refine pi_t 5 rfl (by kernel_rfl) (by kernel_rfl) (fun _ _ _ _ h => h) (fun K hK => ?_)
  go_big_quiet_op
  refine hK _ ?_
  clear hK K
  refine pi_t 6 rfl (by kernel_rfl) (by kernel_rfl) (fun _ _ _ _ h => h) (fun K hK => ?_)
  go_big_quiet_op
  refine hK _ ?_
  clear hK K
  refine pi_t 8 rfl (by kernel_rfl) (by kernel_rfl) (fun _ _ _ _ h => h) (fun K hK => ?_)
  go_big_quiet_op
  refine hK _ ?_
  clear hK K
  refine pi_c 3 (by assumption) rfl (by kernel_rfl) (by kernel_rfl) (fun _ _ _ _ h => h) (fun K hK => ?_)
  go_big_quiet_op
  refine hK _ ?_
  clear hK K
  refine pi_c 7 (by assumption) rfl (by kernel_rfl) (by kernel_rfl) (fun _ _ _ _ h => h) (fun K hK => ?_)
  go_big_quiet_op
  refine hK _ ?_
  clear hK K
  refine pi_l 9 rfl (by kernel_rfl) (fun K hK => ?_)
  go_wp2_with (go_at_call 165; refine Calls.mono (HG.out _ (Ext.refl w).drewR.drewR) ?_; rintro e w1 (⟨ha, rfl, G', hg', hG', hF', hM'⟩ | ⟨ha, rfl, hx'⟩))
  · refine hK _ _ (by simp) ?_
    clear hK K
    have HA := Lib.hid ha
    have HGG := Lib.hid hg'
    have HG' := Lib.hid hG'
    have HF' := Lib.hid hF'
    have hM2 : Mod (fun k => k = G.g) w w1 := ((Ext.refl w).drewR.drewR.mod _).trans hM'
    clear ha hg' hG' hF' hM'
    refine pi_t 10 rfl (by kernel_rfl) (by kernel_rfl) (fun _ _ _ _ h => h) (fun K hK => ?_)
    go_big_quiet_op
    refine hK _ ?_
    clear hK K
    refine pi_end (by kernel_rfl) ?_
    go_wp2
    go_ret
    refine .inl ⟨HA.out, rfl, G', ⟨?_, HG'.out, HH.out.ok, HH.out.lo, HH.out.hi, HH.out.hr, HH.out.hw, HA.out⟩, ?_, hM2.wider (fun k hk => .inr (.inl hk))⟩
    · rw [HGG.out, hM2.block s ls (fun e => HH.out.ns (.inl e))]; exact HH.out.ex
    · rintro k (rfl | hk)
      · exact .inl (.inl rfl)
      · rcases HF'.out k hk with h1 | h1
        · exact .inl (.inr (.inl h1))
        · exact .inr h1
  · refine hK _ _ (by simp) ?_
    clear hK K
    have HA := Lib.hid ha
    have hE2 : Ext w w1 := (Ext.refl w).drewR.drewR.trans' hx'
    clear ha hx'
    refine pi_t 10 rfl (by kernel_rfl) (by kernel_rfl) (fun _ _ _ _ h => h) (fun K hK => ?_)
    go_big_quiet_op
    refine hK _ ?_
    clear hK K
    refine pi_end (by kernel_rfl) ?_
    go_wp2
    go_ret
    exact .inr ⟨HA.out, rfl, hE2⟩
set_option maxRecDepth 20000 in
set_option maxHeartbeats 8000000 in
/-- In the mode Conservative nothing is taken away. -/
theorem RSJoin_mode (s s2 : Nat) (G G2 : Gr) (C : Cfg) (lv : Int) (R W : Nat) (l l2 : List Int) (w : World) (h : RSAt w s G C lv R W l) (h2 : RSAt w s2 G2 C lv R W l2) (hmd : C.mode = 2) :
    Calls Tryz.prog 114 #[.pointer (some ⟨s, 0, none⟩), .pointer (some ⟨s2, 0, none⟩), .int .i64 (-1)] w fun e w' => e = .returned (.int .i64 3) ∧ Ext w w' := by
  have ls := h.lts
  have hex := h.ex
  have c0 := (cell_of hex 0).trans rfl
  have c1 := (cell_of hex 1).trans rfl
  have c2 := (cell_of hex 2).trans rfl
  have c3 := (cell_of hex 3).trans rfl
  have c4 := (cell_of hex 4).trans rfl
  have c5 := (cell_of hex 5).trans rfl
  have ls2 := h2.lts
  have hex2 := h2.ex
  have d0 := (cell_of hex2 0).trans rfl
  have d1 := (cell_of hex2 1).trans rfl
  have d2 := (cell_of hex2 2).trans rfl
  have d3 := (cell_of hex2 3).trans rfl
  have d4 := (cell_of hex2 4).trans rfl
  have d5 := (cell_of hex2 5).trans rfl
  have hmm : (C.mode == 2) = true := by simpa using hmd
  clear hex hex2 h h2 hmd
  go_enter Tryz.func114, Tryz.ntmps114
  go_wp2_with fail
  have hC0 := af_drew w
  refine pi_start (fun w' => ∃ z : After w, w' = z.w) [] (by kernel_rfl) ?_
  refine pi_t 0 rfl (by kernel_rfl) (by kernel_rfl) (fun _ _ _ _ h => h) (fun K hK => ?_)
  go_big_quiet_op
  refine hK _ ?_
  clear hK K
  refine pi_t 1 rfl (by kernel_rfl) (by kernel_rfl) (fun _ _ _ _ h => h) (fun K hK => ?_)
  go_big_quiet_op
  refine hK _ ?_
  clear hK K
  refine pi_t 2 rfl (by kernel_rfl) (by kernel_rfl) (fun _ _ _ _ h => h) (fun K hK => ?_)
  go_big_quiet_op
  refine hK _ ?_
  clear hK K
  refine pi_t 4 rfl (by kernel_rfl) (by kernel_rfl) (fun _ _ _ _ h => h) (fun K hK => ?_)
  go_big_quiet_op
  refine hK _ ?_
  clear hK K
  refine pi_t 5 rfl (by kernel_rfl) (by kernel_rfl) (fun _ _ _ _ h => h) (fun K hK => ?_)
  go_big_quiet_op
  refine hK _ ?_
  clear hK K
  refine pi_t 6 rfl (by kernel_rfl) (by kernel_rfl) (fun _ _ _ _ h => h) (fun K hK => ?_)
  go_big_quiet_op
  refine hK _ ?_
  clear hK K
  refine pi_c 3 (by assumption) rfl (by kernel_rfl) (by kernel_rfl) (fun _ _ _ _ h => h) (fun K hK => ?_)
  go_big_quiet_op
  refine hK _ ?_
  clear hK K
  refine pi_c 7 (by assumption) rfl (by kernel_rfl) (by kernel_rfl) (fun _ _ _ _ h => h) (fun K hK => ?_)
  go_big_quiet_op
  refine hK _ ?_
  clear hK K
  refine pi_t 8 rfl (by kernel_rfl) (by kernel_rfl) (fun _ _ _ _ h => h) (fun K hK => ?_)
  go_big_quiet_op
  refine hK _ ?_
  clear hK K
  refine pi_t 9 rfl (by kernel_rfl) (by kernel_rfl) (fun _ _ _ _ h => h) (fun K hK => ?_)
  go_big_quiet_op
  refine hK _ ?_
  clear hK K
  refine pi_t 10 rfl (by kernel_rfl) (by kernel_rfl) (fun _ _ _ _ h => h) (fun K hK => ?_)
  go_big_quiet_op
  refine hK _ ?_
  clear hK K
  refine pi_t 11 rfl (by kernel_rfl) (by kernel_rfl) (fun _ _ _ _ h => h) (fun K hK => ?_)
  go_big_quiet_op
  refine hK _ ?_
  clear hK K
  refine pi_t 12 rfl (by kernel_rfl) (by kernel_rfl) (fun _ _ _ _ h => h) (fun K hK => ?_)
  go_big_quiet_op
  refine hK _ ?_
  clear hK K
  refine pi_t 14 rfl (by kernel_rfl) (by kernel_rfl) (fun _ _ _ _ h => h) (fun K hK => ?_)
  go_big_quiet_op
  refine hK _ ?_
  clear hK K
  refine pi_t 15 rfl (by kernel_rfl) (by kernel_rfl) (fun _ _ _ _ h => h) (fun K hK => ?_)
  go_big_quiet_op
  refine hK _ ?_
  clear hK K
  refine pi_t 16 rfl (by kernel_rfl) (by kernel_rfl) (fun _ _ _ _ h => h) (fun K hK => ?_)
  go_big_quiet_op
  refine hK _ ?_
  clear hK K
  refine pi_c 13 (by assumption) rfl (by kernel_rfl) (by kernel_rfl) (fun _ _ _ _ h => h) (fun K hK => ?_)
  go_big_quiet_op
  refine hK _ ?_
  clear hK K
  refine pi_c 17 (by assumption) rfl (by kernel_rfl) (by kernel_rfl) (fun _ _ _ _ h => h) (fun K hK => ?_)
  go_big_quiet_op
  refine hK _ ?_
  clear hK K
  refine pi_t 18 rfl (by kernel_rfl) (by kernel_rfl) (fun _ _ _ _ h => h) (fun K hK => ?_)
  go_big_quiet_op
  refine hK _ ?_
  clear hK K
  refine pi_t 19 rfl (by kernel_rfl) (by kernel_rfl) (fun _ _ _ _ h => h) (fun K hK => ?_)
  go_big_quiet_op
  refine hK _ ?_
  clear hK K
  refine pi_end (by kernel_rfl) ?_
  have hE1 : Ext w w.drew := Below.drew (Ext.refl w)
  go_wp2
  go_ret
  exact ⟨rfl, hE1⟩
end Go.Proofs.YtfhdjekpdifajaaGreat
namespace Go.Proofs.YtfhdjekpdifajaaGreat
set_option linter.unusedVariables false
open Go.RowKit
def RLNewPost (w : World) (C : Cfg) (lv : Int) (l : List Int) (e : Ending) (w' : World) : Prop :=
  ∃ L : RLev, e = .returned (.pointer (some ⟨L.p, 0, none⟩)) ∧ RLvAt w' L C lv l ∧ (∀ k, L.foot C lv k → w.heap.size ≤ k) ∧ Ext w w'
theorem RLNew_x {w w1 w' : World} {C : Cfg} {lv : Int} {a m p : Nat} {l : List Int} (hok : C.Ok) (h0 : 0 ≤ lv) (h1 : lv ≤ C.bits) (hx : isX C lv = true) (hA : RXAt w1 a m C lv (kN C lv) l) (ha : w.heap.size ≤ a) (hm : w.heap.size ≤ m) (hp : w.heap.size ≤ p) (hE : Ext w w') (hE1 : Ext w1 w')
    (hb : w'.heap[p]? = some (.cells #[.pointer (some ⟨a, 0, none⟩), .pointer none] 153 (0, 0))) : RLNewPost w C lv l (.returned (.pointer (some ⟨p, 0, none⟩))) w' := by
  refine ⟨⟨p, a, ⟨0, m, fun _ => 0, fun _ => 0⟩⟩, rfl, ⟨hok, h0, h1, .inl ⟨hx, hb, hA.ext hE1⟩⟩, ?_, hE⟩
  rintro k (rfl | ⟨_, (rfl | rfl)⟩ | ⟨hy, _⟩)
  · exact hp
  · exact ha
  · exact hm
  · rw [hx] at hy; cases hy
theorem RLNew_s {w w1 w' : World} {C : Cfg} {lv : Int} {a p : Nat} {G : Gr} {l : List Int} (hok : C.Ok) (h0 : 0 ≤ lv) (h1 : lv ≤ C.bits) (hx : isX C lv = false) (hA : RSAt w1 a G C lv (rN C) (wN C) l) (ha : ∀ k, rsF a G (rN C) k → w.heap.size ≤ k) (hp : w.heap.size ≤ p) (hE : Ext w w') (hE1 : Ext w1 w')
    (hb : w'.heap[p]? = some (.cells #[.pointer none, .pointer (some ⟨a, 0, none⟩)] 153 (0, 0))) : RLNewPost w C lv l (.returned (.pointer (some ⟨p, 0, none⟩))) w' := by
  refine ⟨⟨p, a, G⟩, rfl, ⟨hok, h0, h1, .inr ⟨hx, hb, hA.ext hE1⟩⟩, ?_, hE⟩
  rintro k (rfl | ⟨hy, _⟩ | ⟨_, hk⟩)
  · exact hp
  · rw [hx] at hy; cases hy
  · exact ha k hk
set_option maxRecDepth 20000 in
set_option maxHeartbeats 4000000 in
theorem RLNew_c (C : Cfg) (hok : C.Ok) (lv : Int) (h0 : 0 ≤ lv) (h1 : lv ≤ C.bits) (w : World) :
    Calls Tryz.prog 37 #[.agg #[.int .i64 C.bits, .int .i64 C.rows, .int .i64 C.width, .int .i64 C.mode, .int .u64 C.seed], .int .i64 lv] w (RLNewPost w C lv (zs (lvN C lv))) := by
  have hEX := fun W' => ExactR_c C hok lv h0 h1 W'
  obtain ⟨W0, hW0⟩ : ∃ W0, w.alloc (.cells #[.int .i64 C.bits, .int .i64 C.rows, .int .i64 C.width, .int .i64 C.mode, .int .u64 C.seed] 24) = W0 := ⟨_, rfl⟩
  have hCb : W0.heap[w.heap.size]? = some (.cells #[.int .i64 C.bits, .int .i64 C.rows, .int .i64 C.width, .int .i64 C.mode, .int .u64 C.seed] 24 (0, 0)) := by rw [← hW0]; exact heap_at _ _ rfl
  have hE : Ext w W0 := by rw [← hW0]; exact Ext.alloc' _ _
  have hC := CfgAt.of hCb
  have c0 := hC.c0
  have c1 := hC.c1
  have c2 := hC.c2
  have c3 := hC.c3
  have c4 := hC.c4
  have cl := hC.lt
  cases hx : isX C lv with
  | true =>
    have hlN : lvN C lv = kN C lv := by unfold lvN; rw [hx]; rfl
    rw [hx] at hEX
    rw [hlN]
    have hkn := kN_eq hok h0
    have hkb := keys_bd C hok lv h0
    have hkx : keys C lv ≤ 128 := by
      have h3 := hok.w2
      unfold isX at hx
      have := of_decide_eq_true hx
      omega
    have HX := Lib.hid hx
    have HEX := Lib.hid hEX
    have HCB := Lib.hid hCb
    have HKN := Lib.hid hkn
    clear hx hEX hC hlN hCb hkn
    go_enter Tryz.func37, Tryz.ntmps37
    go_wp2_with fail
    try rw [hW0]
    clear hW0
    refine Calls.mono (HEX.out _) ?_
    rintro e w1 ⟨rfl, hx1⟩
    have hC1 := CfgAt.of (hx1.keep HCB.out)
    have hE1 := hE.trans' hx1
    clear c0 c1 c2 c3 c4 cl hx1
    have c0 := hC1.c0
    have c1 := hC1.c1
    have c2 := hC1.c2
    have c3 := hC1.c3
    have c4 := hC1.c4
    have cl := hC1.lt
    clear hC1
    go_wp2_with fail
    have hC0 := af_drew w1
    refine pi_start (fun w' => ∃ z : After w1, w' = z.w) [] (by kernel_rfl) ?_
    refine pi_t 1 rfl (by kernel_rfl) (by kernel_rfl) (fun _ _ _ _ h => h) (fun K hK => ?_)
    go_big_quiet_op
    refine hK _ ?_
    clear hK K
    refine pi_t 3 rfl (by kernel_rfl) (by kernel_rfl) (fun _ _ _ _ h => h) (fun K hK => ?_)
    go_big_quiet_op
    refine hK _ ?_
    clear hK K
    refine pi_c 0 (by assumption) rfl (by kernel_rfl) (by kernel_rfl) (fun _ _ _ _ h => h) (fun K hK => ?_)
    go_big_quiet_op
    refine hK _ ?_
    clear hK K
    refine pi_c 2 (by assumption) rfl (by kernel_rfl) (by kernel_rfl) (fun _ _ _ _ h => h) (fun K hK => ?_)
    go_big_quiet_op
    refine hK _ ?_
    clear hK K
    refine pi_l 4 rfl (by kernel_rfl) (fun K hK => ?_)
    go_wp2_with (go_at_call 79; refine (KeysR_c C hok lv h0 h1 _).mono ?_; rintro e w2 ⟨rfl, hx2⟩)
    refine hK _ _ (fun _ h => af_step h hx2) ?_
    clear hK K
    have hE2 : Ext w1 w2 := Ext.trans' (Below.drew (Ext.refl w1)) hx2
    rw [HKN.out]
    refine pi_l 5 rfl (by kernel_rfl) (fun K hK => ?_)
    go_wp2_with (go_at_call 101; refine Calls.mono (RXNew_c C lv (kN C lv) (by have := HKN.out; omega) (by have := HKN.out; omega) _) ?_; rintro e w3 ⟨a, m, rfl, hA, ha, hm, hx3⟩)
    refine hK _ _ (fun _ h => af_step h hx3) ?_
    clear hK K
    have hE3 : Ext w1 w3 := hE2.trans' hx3
    have HA := Lib.hid hA
    have hz := hE1.size
    have hz2 := hE2.size
    clear hA
    refine pi_t 6 rfl (by kernel_rfl) (by kernel_rfl) (fun _ _ _ _ h => h) (fun K hK => ?_)
    go_big_quiet_op
    refine hK _ ?_
    clear hK K
    refine pi_l 7 rfl (by kernel_rfl) (fun K hK => ?_)
    go_wp2
    refine hK _ _ (fun _ h => af_step h (Ext.alloc' _ _)) ?_
    clear hK K
    refine pi_t 8 rfl (by kernel_rfl) (by kernel_rfl) (fun _ _ _ _ h => h) (fun K hK => ?_)
    go_big_quiet_op
    refine hK _ ?_
    clear hK K
    refine pi_end (by kernel_rfl) ?_
    have hz3 := hE3.size
    go_wp2
    go_ret
    exact RLNew_x hok h0 h1 HX.out HA.out (by omega) (by omega) (by omega) ((hE1.trans' hE3).allocR _) (Ext.alloc' _ _) (heap_at _ _ rfl)
  | false =>
    have hlN : lvN C lv = rN C * wN C := by unfold lvN; rw [hx]; rfl
    rw [hx] at hEX
    rw [hlN]
    have HX := Lib.hid hx
    have HEX := Lib.hid hEX
    have HCB := Lib.hid hCb
    have HS := Lib.hid (fun W' => RSNew_c C hok lv h0 h1 (rN C) (wN C) (rN_eq hok) (wN_eq hok) W')
    clear hx hEX hC hlN hCb
    go_enter Tryz.func37, Tryz.ntmps37
    go_wp2_with fail
    try rw [hW0]
    clear hW0
    refine Calls.mono (HEX.out _) ?_
    rintro e w1 ⟨rfl, hx1⟩
    have hC1 := CfgAt.of (hx1.keep HCB.out)
    have hE1 := hE.trans' hx1
    clear c0 c1 c2 c3 c4 cl hx1
    have c0 := hC1.c0
    have c1 := hC1.c1
    have c2 := hC1.c2
    have c3 := hC1.c3
    have c4 := hC1.c4
    have cl := hC1.lt
    clear hC1
    go_wp2_with fail
    refine Calls.mono (HS.out _) ?_
    rintro e w2 ⟨a, G, rfl, hA, hF, hx2⟩
    have HA := Lib.hid hA
    have HF := Lib.hid (show ∀ k, rsF a G (rN C) k → w1.heap.size ≤ k from hF)
    have hE2 := hE1.trans' hx2
    have hz := hE1.size
    have hz2 := hE2.size
    clear hA hF
    go_wp2
    go_ret
    exact RLNew_s hok h0 h1 HX.out HA.out (fun k hk => Nat.le_trans hz (HF.out k hk)) hz2 (hE2.allocR _) (Ext.alloc' _ _) (heap_at _ _ rfl)
set_option maxRecDepth 20000 in
set_option maxHeartbeats 4000000 in
theorem RLCopy_c (L : RLev) (C : Cfg) (lv : Int) (l : List Int) (w : World) (h : RLvAt w L C lv l) :
    Calls Tryz.prog 39 #[.pointer (some ⟨L.p, 0, none⟩)] w (RLNewPost w C lv l) := by
  have hok := h.1
  have h0 := h.2.1
  have h1 := h.2.2.1
  cases hx : isX C lv with
  | true =>
    obtain ⟨hb, hA⟩ := h.x hx
    have p0 := (cell_of hb 0).trans rfl
    have pl := lt_of hb
    have HA := Lib.hid hA
    have HX := Lib.hid hx
    clear hx hb hA h
    go_enter Tryz.func39, Tryz.ntmps39
    go_wp2_with fail
    refine Calls.mono (RXCopy_c _ _ C lv _ l _ HA.out) ?_
    rintro e w1 ⟨a, m, rfl, hA1, ha, hm, hx1⟩
    have HA1 := Lib.hid hA1
    have hz := hx1.size
    clear hA1
    go_wp2
    go_ret
    exact RLNew_x hok h0 h1 HX.out HA1.out ha hm hz (hx1.allocR _) (Ext.alloc' _ _) (heap_at _ _ rfl)
  | false =>
    obtain ⟨hb, hA⟩ := h.sk hx
    have p0 := (cell_of hb 0).trans rfl
    have p1 := (cell_of hb 1).trans rfl
    have pl := lt_of hb
    have HA := Lib.hid hA
    have HX := Lib.hid hx
    clear hx hb hA h
    go_enter Tryz.func39, Tryz.ntmps39
    go_wp2_with fail
    refine Calls.mono (RSCopy_c _ _ C lv _ _ l _ HA.out) ?_
    rintro e w1 ⟨a, G, rfl, hA1, hF, hx1⟩
    have HA1 := Lib.hid hA1
    have HF := Lib.hid (show ∀ k, rsF a G (rN C) k → w.heap.size ≤ k from hF)
    have hz := hx1.size
    clear hA1 hF
    go_wp2
    go_ret
    exact RLNew_s hok h0 h1 HX.out HA1.out HF.out hz (hx1.allocR _) (Ext.alloc' _ _) (heap_at _ _ rfl)
def RLUpdPost (w : World) (L : RLev) (C : Cfg) (lv : Int) (l : List Int) (key d : Int) (e : Ending) (w' : World) : Prop :=
  e = .returned (.int .i64 (lvE C lv l key d)) ∧ ((lvE C lv l key d = 0 ∧ RLvAt w' L C lv (lvU C lv l key d) ∧ Mod (L.foot C lv) w w') ∨ (lvE C lv l key d ≠ 0 ∧ Ext w w'))
set_option maxRecDepth 20000 in
set_option maxHeartbeats 4000000 in
theorem RLUpdate_c (L : RLev) (C : Cfg) (lv : Int) (l : List Int) (key d : Int) (w : World) (h : RLvAt w L C lv l) (hk : U64 key) (hd : I64 d) :
    Calls Tryz.prog 40 #[.pointer (some ⟨L.p, 0, none⟩), .int .u64 key, .int .i64 d] w (RLUpdPost w L C lv l key d) := by
  have hok := h.1
  have h0 := h.2.1
  have h1 := h.2.2.1
  cases hx : isX C lv with
  | true =>
    obtain ⟨hb, hA⟩ := h.x hx
    have p0 := (cell_of hb 0).trans rfl
    have pl := lt_of hb
    have HU := Lib.hid (RXUpdate_c _ _ C lv _ l key d w hA (kN_eq hok h0) hd hk)
    have HB := Lib.hid hb
    have HA := Lib.hid hA
    have HX := Lib.hid hx
    unfold RLUpdPost
    rw [lvE_x hx, lvU_x hx]
    clear hx hb hA h
    go_enter Tryz.func40, Tryz.ntmps40
    go_wp2_with fail
    refine Calls.mono HU.out ?_
    rintro e w1 ⟨rfl, hres⟩
    have HRES := Lib.hid hres
    clear hres HU
    go_wp2
    go_ret
    rcases HRES.out with ⟨e0, hA1, hM⟩ | ⟨e0, hE⟩
    · refine ⟨rfl, .inl ⟨e0, ⟨hok, h0, h1, .inl ⟨HX.out, ?_, hA1⟩⟩, hM.wider (fun k hk => .inr (.inl ⟨HX.out, .inr hk⟩))⟩⟩
      exact hM.keep HB.out (fun e => by obtain ⟨cu, q1, _⟩ := HA.out.cells; exact blk_ne HB.out q1 (by decide) e)
    · exact ⟨rfl, .inr ⟨e0, hE⟩⟩
  | false =>
    obtain ⟨hb, hA⟩ := h.sk hx
    have p0 := (cell_of hb 0).trans rfl
    have p1 := (cell_of hb 1).trans rfl
    have pl := lt_of hb
    have HU := Lib.hid (RSUpdate_c _ _ C lv _ _ l key d w hA hk hd)
    have HB := Lib.hid hb
    have HA := Lib.hid hA
    have HX := Lib.hid hx
    unfold RLUpdPost
    rw [lvE_s hx, lvU_s hx]
    clear hx hb hA h
    go_enter Tryz.func40, Tryz.ntmps40
    go_wp2_with fail
    refine Calls.mono HU.out ?_
    rintro e w1 ⟨rfl, hres⟩
    have HRES := Lib.hid hres
    clear hres HU
    go_wp2
    go_ret
    rcases HRES.out with ⟨e0, hA1, hM⟩ | ⟨e0, hE⟩
    · refine ⟨rfl, .inl ⟨e0, ⟨hok, h0, h1, .inr ⟨HX.out, ?_, hA1⟩⟩, hM.wider (fun k hk => .inr (.inr ⟨HX.out, .inr hk⟩))⟩⟩
      refine hM.keep HB.out (fun e => ?_)
      rcases e with e | e | ⟨r, hr, e⟩
      · obtain ⟨cp, q1, _⟩ := HA.out.g.ex; exact blk_ne HB.out q1 (by decide) e
      · obtain ⟨cp, q1, _⟩ := HA.out.g.row; exact blk_ne HB.out q1 (by decide) e
      · obtain ⟨cp, q1, _⟩ := HA.out.g.cells r hr; exact blk_ne HB.out q1 (by decide) e
    · exact ⟨rfl, .inr ⟨e0, hE⟩⟩
set_option maxRecDepth 20000 in
set_option maxHeartbeats 4000000 in
theorem RLCells_c (L : RLev) (C : Cfg) (lv : Int) (l : List Int) (w : World) (h : RLvAt w L C lv l) :
    Calls Tryz.prog 24 #[.pointer (some ⟨L.p, 0, none⟩)] w fun e w' => ∃ v, e = .returned v ∧ w'.ownsRow w.heap.size 2 1 v l.length (ints l) ∧ Ext w w' := by
  cases hx : isX C lv with
  | true =>
    obtain ⟨hb, hA⟩ := h.x hx
    have p0 := (cell_of hb 0).trans rfl
    have pl := lt_of hb
    obtain ⟨cap, hex, hcap⟩ := hA.ex
    have a6 := (cell_of hex 6).trans rfl
    have al := lt_of hex
    have lm := hA.ltm
    have k2 := hA.k2
    have hcell : ∀ W : World, Ext w W → ∀ k, k < kN C lv → W.cell? ⟨L.G.m, 0 + k, none⟩ = some (.int .i64 (l.getD k 0)) := fun W hW k hk => by rw [(bcell hW).1 _ _ lm, Nat.zero_add]; exact hA.cell hk
    have HC := Lib.hid hcell
    have HL := Lib.hid hA.len
    clear hx hb hA h hcell hex
    go_enter Tryz.func24, Tryz.ntmps24
    have hE1 : Ext w (w.alloc (.cells #[] 2)) := Ext.alloc' _ _
    have hown : (w.alloc (.cells #[] 2)).ownsRow w.heap.size 2 1 (.slice (some ⟨w.heap.size, 0, none⟩) 0 0) ([] : List Int).length (ints []) := own_empty w 2
    go_wp2_with (at_builtin; refine wpList_appl (w.alloc (.cells #[] 2)) l [] _ w.heap.size 2 hown 43 rfl _ _ rfl info_i64 Tryz.underlying43 (by rfl) L.G.m 0 (kN C lv) cap (by rfl) HL.out.symm (HC.out _ hE1) ?a1 ?a2 ?_)
    case a1 => show 0 + kN C lv ≤ _; omega
    case a2 => exact hE1.size
    intro v' w' g1 g2 g3
    have hE2 : Ext w w' := ext_grown0 hE1 g2 (fun i hi => own_blk hown hi)
    have G1 := Lib.hid g1
    obtain ⟨pv, cv, rfl⟩ := own_sl g1
    clear g1 g2 g3 hown
    go_wp2
    go_ret
    exact ⟨_, rfl, G1.out, hE2⟩
  | false =>
    obtain ⟨hb, hA⟩ := h.sk hx
    have p0 := (cell_of hb 0).trans rfl
    have p1 := (cell_of hb 1).trans rfl
    have pl := lt_of hb
    have a6 := (cell_of hA.ex 6).trans rfl
    have al := hA.lts
    have HU := Lib.hid (RGCells_c _ _ _ l w hA.g)
    clear hx hb hA h
    go_enter Tryz.func24, Tryz.ntmps24
    go_wp2_with fail
    refine Calls.mono HU.out ?_
    rintro e w1 ⟨v, rfl, ho, hx1⟩
    have HO := Lib.hid ho
    obtain ⟨pv, cv, rfl⟩ := own_sl ho
    clear ho HU
    go_wp2
    go_ret
    exact ⟨_, rfl, HO.out, hx1⟩
end Go.Proofs.YtfhdjekpdifajaaGreat
