/- gaugerlaw15.StackOrder, walked. -/
import Derived.Test.YtpnbgoahjoabkaaAStackSums7

/- gaugerlaw15.StackOrder, walked. -/
namespace Go.Proofs.Ytpnbgoahjoabkaa
set_option linter.unusedVariables false
open Go.RowKit
theorem kcfg_mode' (x : Cfg) (nb : Int) {m : Int} (h : 0 < m) : (kcfg x nb m).mode = m := (kcfg_pos x nb h).2.2.2.2.symm
theorem slice_len0 {p : Option Addr} {n c : Nat} (h : n = 0) : Value.slice p n c = .slice p ([] : List (Int × Int)).length c := by rw [h]; rfl
theorem lvN_le {C : Cfg} (h : C.Ok) (k : Nat) : lvN C k ≤ 1000000 := by
  have w1 := h.w1
  have w2 := h.w2
  have r1 := h.r1
  have r2 := h.r2
  unfold lvN
  cases hx : isX C k with
  | true =>
    have : keys C k ≤ C.width := of_decide_eq_true hx
    show kN C k ≤ _
    unfold kN
    omega
  | false =>
    show rN C * wN C ≤ _
    have a1 : rN C ≤ 8 := by unfold rN; omega
    have a2 : wN C ≤ 1024 := by unfold wN; omega
    exact Nat.le_trans (Nat.mul_le_mul a1 a2) (by decide)
def medK (m : Bool) : Int := bif m then 3 else 1
set_option maxRecDepth 20000 in
set_option maxHeartbeats 8000000 in
theorem OrderK_c (x : Cfg) (hx : x.Raw) (at_ : Int) (hat : I64 at_) (med : Bool) (us : List (Int × Int)) (hus : UpsOk us) (v : Value) (w : World) (hv : UpsAt w v us) (hcap : SlCap v) (hul : us.length ≤ 140737488355328) :
    Calls Try.prog 8 #[.agg #[.int .i64 x.bits, .int .i64 x.rows, .int .i64 x.width, .int .i64 x.mode, .int .u64 x.seed, v], .int .i64 at_, .bool med] w fun e w' => e = .returned (.bool true) ∧ Ext w w' := by
  obtain ⟨vp, vc, rfl⟩ := hv.sl
  have hvc : us.length ≤ vc := hcap _ _ _ rfl
  have HV := Lib.hid hv
  clear hv hcap
  go_enter Try.func8, Try.ntmps8
  go_wp2_with fail
  refine (shownK_c _).mono ?_
  rintro e w1 ⟨rfl, hb1⟩
  have hE1 : Ext w w1 := by (repeat' (first | exact Ext.refl _ | assumption | apply Ext.allocR | apply Ext.drewR | apply Ext.drewNR | (refine Ext.trans' ?_ (by assumption))))
  have hP1 := hb1.keep (heap_at w (.cells #[.int .i64 x.bits, .int .i64 x.rows, .int .i64 x.width, .int .i64 x.mode, .int .u64 x.seed, .slice vp us.length vc] 64) rfl)
  have p0 := (cell_of hP1 0).trans rfl
  have p1 := (cell_of hP1 1).trans rfl
  have p2 := (cell_of hP1 2).trans rfl
  have p3 := (cell_of hP1 3).trans rfl
  have p4 := (cell_of hP1 4).trans rfl
  have p5 := (cell_of hP1 5).trans rfl
  have pl := lt_of hP1
  clear hb1
  go_upto_if 17 with (fail)
  go_cut [8] (fun s8 wx => s8 = .int .i64 (medK med) ∧ wx = w1)
  case first =>
    cases med
    · go_wp2_with fail
      go_meet
      exact ⟨rfl, rfl⟩
    · go_wp2_with fail
      go_meet
      exact ⟨rfl, rfl⟩
  case rest =>
   obtain ⟨rfl, rfl⟩ := hcut
   have hm12 : medK med = 1 ∨ medK med = 3 := by cases med <;> simp [medK]
   generalize medK med = m at *
   have hm0 : 0 < m := by omega
   have hm3 : m ≤ 3 := by omega
   go_wp2_with fail
   refine Calls.mono (fed15_c x hx 10 (by decide) (by decide) m (by omega) hm3 us hus _ 0 60 (by decide) (by decide) _ (HV.out.ext hE1) hul) ?_
   rintro e w2 ⟨s, g, L, rfl, hK, hs, hg, hF, hx2⟩
   have hok := kcfg_ok x hx.s (nb := 10) (m := m) (by decide) (by decide) hm3
   have hmd := kcfg_mode' x 10 hm0
   generalize hCC : kcfg x 10 m = C at *
   have HCC := Lib.hid hCC
   have hmn : C.mode ≠ 2 := by omega
   have hb1 := hok.b1
   have hb2 := hok.b2
   obtain ⟨B, hB⟩ : ∃ B : Nat, C.bits = B := ⟨C.bits.toNat, by omega⟩
   have hBt : C.bits.toNat = B := by omega
   rw [hBt] at hK
   have hE2 : Ext w w2 := by (repeat' (first | exact Ext.refl _ | assumption | apply Ext.allocR | apply Ext.drewR | apply Ext.drewNR | (refine Ext.trans' ?_ (by assumption))))
   have hP2 := hx2.keep hP1
   have HB := Lib.hid hB
   have HBT := Lib.hid hBt
   have HU2 := Lib.hid (HV.out.ext hE2)
   clear p0 p1 p2 p3 p4 p5 pl hP1 hx2 hE1 hs hg hF hB hBt hmd hm12 hCC
   go_upto_region 6 with (fail)
   obtain ⟨w3, hw3⟩ : ∃ w3, w2.alloc (.cells #[.int .i64 C.bits, .int .i64 C.rows, .int .i64 C.width, .int .i64 C.mode, .int .u64 C.seed] 24) = w3 := ⟨_, rfl⟩
   have hx3 : Ext w2 w3 := by rw [← hw3]; exact Ext.alloc' _ _
   have hC3 : CfgAt w3 w2.heap.size C := by rw [← hw3]; exact CfgAt.box C _ rfl
   rw [hw3]
   clear hw3
   have hE3 := hE2.trans' hx3
   have hP3 := hx3.keep hP2
   have hK3 := hK.ext hx3
   have HU3 := Lib.hid (HU2.out.ext hx3)
   have p0 := (cell_of hP3 0).trans rfl
   have p1 := (cell_of hP3 1).trans rfl
   have p2 := (cell_of hP3 2).trans rfl
   have p3 := (cell_of hP3 3).trans rfl
   have p4 := (cell_of hP3 4).trans rfl
   have p5 := (cell_of hP3 5).trans rfl
   have pl := lt_of hP3
   clear hK hP2 hE2 hx3 HU2
   obtain ⟨n, hn60, hnl, hnd⟩ : ∃ n : Nat, n ≤ 60 ∧ n ≤ us.length ∧ ((us.length ≤ 60 ∧ n = us.length) ∨ (60 < us.length ∧ n = 60)) := by
    by_cases h : us.length ≤ 60
    · exact ⟨us.length, h, Nat.le_refl _, .inl ⟨h, rfl⟩⟩
    · exact ⟨60, Nat.le_refl _, by omega, .inr ⟨by omega, rfl⟩⟩
   go_cut [11] (fun s11 wx => s11 = .int .i64 n ∧ w3 = wx)
   case first =>
     rcases hnd with ⟨h, rfl⟩ | ⟨h, rfl⟩
     · go_wp2
       go_meet
       exact ⟨by congr 1 <;> omega, rfl⟩
     · go_wp2
       go_meet
       exact ⟨by congr 1 <;> omega, rfl⟩
   case rest =>
    obtain ⟨rfl, rfl⟩ := hcut
    have k0 := Int.emod_nonneg (at_ % 65536) (show (n : Int) + 1 ≠ 0 by omega)
    have k1 := Int.emod_lt_of_pos (at_ % 65536) (show 0 < (n : Int) + 1 by omega)
    obtain ⟨a, ha⟩ : ∃ a : Nat, at_ % 65536 % ((n : Int) + 1) = a := ⟨_, (Int.toNat_of_nonneg k0).symm⟩
    have han : a ≤ n := by omega
    have HA := Lib.hid ha
    clear ha k0 k1
    have hla := and16 at_
    go_upto_region 7 with (fail)
    go_cut [1] (fun s1 wx => s1 = .int .i64 a ∧ w3 = wx)
    case first =>
      go_wp2
      go_meet
      exact ⟨by rw [HA.out], rfl⟩
    case rest =>
     obtain ⟨rfl, rfl⟩ := hcut
     clear hla
     have hrl : rotU us a = (us.drop a).take (n - a) ++ us.take a := by
       unfold rotU
       rw [List.drop_take]
       congr 1
       rcases hnd with ⟨h, rfl⟩ | ⟨h, rfl⟩
       · rw [List.take_of_length_le (by rw [List.length_drop]; omega), List.take_of_length_le (by rw [List.length_drop]; omega)]
       · rfl
     go_upto_region 8 with (fail)
     go_cut [12] (fun s12 wx => ∃ (yb : Nat) (v' : Value), s12 = .pointer (some ⟨yb, 0, none⟩) ∧ wx.heap[yb]? = some (.cells #[.int .i64 x.bits, .int .i64 x.rows, .int .i64 x.width, .int .i64 x.mode, .int .u64 x.seed, v'] 64 (0, 0)) ∧ UpsAt wx v' (rotU us a) ∧ Ext w3 wx)
     case first =>
       have HRL := Lib.hid hrl
       clear hrl hmn hb1 hb2
       obtain ⟨i0, z0, hi0, hz0, hz1, hz2, hzs⟩ := info_upd
       have hug0 := HU3.out
       by_cases hl0 : 0 < us.length
       · obtain ⟨ug, uo, rfl, hug, hucs⟩ := HU3.out.place hl0
         have HUC := Lib.hid hucs
         clear hucs hug0
         by_cases hav : a = vc
         · subst hav
           have hna : n - a = 0 := by omega
           have hrl2 : rotU us a = us.take a := by rw [HRL.out, hna]; rfl
           clear HRL
           have HRL := Lib.hid hrl2
           clear hrl2
           have hC0 := af_drew w3
           refine pi_start (fun w' => ∃ x : After w3, w' = x.w) [16] (by kernel_rfl) ?_
           refine pi_t 0 rfl (by kernel_rfl) (by kernel_rfl) (fun _ _ _ _ h => h) (fun K hK => ?_)
           go_big_quiet_op
           refine hK _ ?_
           clear hK K
           refine pi_c 1 (by assumption) rfl (by kernel_rfl) (by kernel_rfl) (fun _ _ _ _ h => h) (fun K hK => ?_)
           go_big_quiet_op
           refine hK _ ?_
           clear hK K
           refine pi_t 3 rfl (by kernel_rfl) (by kernel_rfl) (fun _ _ _ _ h => h) (fun K hK => ?_)
           go_big_quiet_op
           refine hK _ ?_
           clear hK K
           refine pi_c 4 (by assumption) rfl (by kernel_rfl) (by kernel_rfl) (fun _ _ _ _ h => h) (fun K hK => ?_)
           go_big_quiet_op
           refine hK _ ?_
           clear hK K
           refine pi_t 5 rfl (by kernel_rfl) (by kernel_rfl) (fun _ _ _ _ h => h) (fun K hK => ?_)
           go_big_quiet_op
           refine hK _ ?_
           clear hK K
           refine pi_t 6 rfl (by kernel_rfl) (by kernel_rfl) (fun _ _ _ _ h => h) (fun K hK => ?_)
           go_big_quiet_op
           refine hK _ ?_
           clear hK K
           refine pi_t 7 rfl (by kernel_rfl) (by kernel_rfl) (fun _ _ _ _ h => h) (fun K hK => ?_)
           go_big_quiet_op
           refine hK _ ?_
           clear hK K
           refine pi_t 9 rfl (by kernel_rfl) (by kernel_rfl) (fun _ _ _ _ h => h) (fun K hK => ?_)
           go_big_quiet_op
           refine hK _ ?_
           clear hK K
           refine pi_c 10 (by assumption) rfl (by kernel_rfl) (by kernel_rfl) (fun _ _ _ _ h => h) (fun K hK => ?_)
           go_big_quiet_op
           refine hK _ ?_
           clear hK K
           refine pi_t 11 rfl (by kernel_rfl) (by kernel_rfl) (fun _ _ _ _ h => h) (fun K hK => ?_)
           go_big_quiet_op
           refine hK _ ?_
           clear hK K
           refine pi_t 12 rfl (by kernel_rfl) (by kernel_rfl) (fun _ _ _ _ h => h) (fun K hK => ?_)
           go_big_quiet_op
           refine hK _ ?_
           clear hK K
           have hY1 : ∃ p c, Value.slice (some ⟨ug, uo, none⟩) (n - a) 0 = .slice p ((us.drop a).take (n - a)).length c ∧ ((us.drop a).take (n - a) = [] ∨ ∃ g off, p = some ⟨g, off, none⟩ ∧ g < w3.heap.size ∧ UCells w3 g off ((us.drop a).take (n - a))) := ⟨_, _, by rw [hna]; rfl, .inl (by rw [hna]; rfl)⟩
           have hY2 : ∃ p c, Value.slice (some ⟨ug, uo, none⟩) a a = .slice p (us.take a).length c ∧ (us.take a = [] ∨ ∃ g off, p = some ⟨g, off, none⟩ ∧ g < w3.heap.size ∧ UCells w3 g off (us.take a)) := ⟨_, _, by rw [List.length_take, Nat.min_eq_left (by omega)], .inr ⟨_, _, rfl, hug, HUC.out.take a⟩⟩
           have HL1 := Lib.hid (show ((us.drop a).take (n - a)).length ≤ 60 by rw [List.length_take]; omega)
           have HL2 := Lib.hid (show (us.take a).length ≤ 60 by rw [List.length_take]; omega)
           generalize (us.drop a).take (n - a) = l1 at *
           generalize us.take a = l2 at *
           have HY1 := Lib.hid hY1
           have HY2 := Lib.hid hY2
           clear hY1 hY2
--GEN2
           refine pi_b 2 15 rfl rfl (by kernel_rfl) (fun K hK => ?_) (fun K hK => ?_)
           ·
             go_wp2
             refine hK _ _ (fun _ h => af_step h (Ext.alloc' _ _)) ?_
             clear hK K
             have hE1 : Ext w3 ((w3).alloc (Obj.cells #[] 38)) := (Ext.refl w3).allocR _
             have ho1 : World.ownsRow ((w3).alloc (Obj.cells #[] 38)) w3.heap.size 38 2 (.slice (some ⟨w3.heap.size, 0, none⟩) 0 0) ([] : List (Int × Int)).length (updV []) := ⟨rfl, .inr ⟨w3.heap.size, 0, #[], rfl, by omega, heap_at (w3) _ rfl, Nat.le_refl _, Nat.zero_le _, rfl, rfl⟩⟩
             refine pi_b 8 15 rfl rfl (by kernel_rfl) (fun K hK => ?_) (fun K hK => ?_)
             ·
               go_wp2
               refine hK _ _ (fun _ h => h) ?_
               clear hK K
               refine pi_b 13 15 rfl rfl (by kernel_rfl) (fun K hK => ?_) (fun K hK => ?_)
               ·
                 obtain ⟨p3, c3, hp3, hq3⟩ := HY2.out
                 go_wp2_with (at_builtin; refine wpList_appz (((w3).alloc (Obj.cells #[] 38)).drew) l2 [] _ w3.heap.size 38 ho1 25 rfl _ _ rfl i0 z0 hi0 hz0 hz1 hz2 hzs Try.underlying25 rfl ⟨p3, c3, hp3, hq3.imp id fun ⟨g, off, e1, hgl, hu⟩ => ⟨g, off, e1, hu.ext hgl (Ext.drewR hE1)⟩⟩ ?b1 (Ext.drewR hE1).size ?_)
                 first | (case b1 => have h1 := HL1.out; have h2 := HL2.out; (first | omega | (simp only [List.length_nil]; omega))) | skip
                 intro v3 W3 ho3 hg3 hk3
                 have hE3 : Ext w3 W3 := hg3 w3 (Ext.drewR hE1) (Nat.le_refl _)
                 clear hg3 hk3
                 go_wp2
                 refine hK _ _ (fun _ _ => ⟨⟨_, hE3⟩, rfl⟩) ?_
                 clear hK K
                 obtain ⟨pf, cf, hvf⟩ := own_sl ho3
                 subst hvf
                 have hC3 : ∃ x : After w3, W3 = x.w := ⟨⟨_, hE3⟩, rfl⟩
                 refine pi_t 14 rfl (by kernel_rfl) (by kernel_rfl) (fun _ _ _ _ h => h) (fun K hK => ?_)
                 go_big_quiet_op
                 refine hK _ ?_
                 clear hK K
                 refine pi_l 15 rfl (by kernel_rfl) (fun K hK => ?_)
                 go_wp2
                 refine hK _ _ (fun _ h => af_step h (Ext.alloc' _ _)) ?_
                 clear hK K
                 have hE4 : Ext w3 ((W3).alloc (Obj.cells #[.int .i64 0, .int .i64 0, .int .i64 0, .int .i64 0, .int .u64 0, .slice none 0 0] 64)) := hE3.allocR _
                 have hy4 : ((W3).alloc (Obj.cells #[.int .i64 0, .int .i64 0, .int .i64 0, .int .i64 0, .int .u64 0, .slice none 0 0] 64)).heap[W3.heap.size]? = some (Obj.cells #[.int .i64 0, .int .i64 0, .int .i64 0, .int .i64 0, .int .u64 0, .slice none 0 0] 64 (0, 0)) := heap_at (W3) _ rfl
                 have ho4 := ho3.alloc (Obj.cells #[.int .i64 0, .int .i64 0, .int .i64 0, .int .i64 0, .int .u64 0, .slice none 0 0] 64)
                 have hyb : w3.heap.size ≤ W3.heap.size := by first | omega | (have := hE3; have := this.size; omega)
                 generalize (W3).alloc (Obj.cells #[.int .i64 0, .int .i64 0, .int .i64 0, .int .i64 0, .int .u64 0, .slice none 0 0] 64) = Wz at *
                 generalize W3.heap.size = yb at *
                 have f0 := frozen_of hy4 0
                 have f1 := frozen_of hy4 1
                 have f2 := frozen_of hy4 2
                 have f3 := frozen_of hy4 3
                 have f4 := frozen_of hy4 4
                 have f5 := frozen_of hy4 5
                 have z0 := (cell_of hy4 0).trans rfl
                 have z1 := (cell_of hy4 1).trans rfl
                 have z2 := (cell_of hy4 2).trans rfl
                 have z3 := (cell_of hy4 3).trans rfl
                 have z4 := (cell_of hy4 4).trans rfl
                 have z5 := (cell_of hy4 5).trans rfl
                 have zl := lt_of hy4
                 refine pi_l 16 rfl (by kernel_rfl) (fun K hK => ?_)
                 go_wp2
                 refine hK _ _ (by simp) ?_
                 clear hK K
                 refine pi_end (by kernel_rfl) ?_
                 go_wp2_with fail
                 refine fin6 (Φ := fun W' => Met _ _ W') (w := w3) (W := Wz) hy4 hE4 hyb ?_
                 intro Wf hf hEf hof
                 go_meet
                 refine ⟨_, _, rfl, hf, ?_, hEf⟩
                 rw [HRL.out]
                 have hr := own_off ho4 hy4 (by decide) hof
                 exact UpsAt.of_row hr
               ·
                 go_wp2
                 refine hK _ _ (fun _ h => af_step h (Ext.alloc' _ _)) ?_
                 clear hK K
                 have hE6 : Ext w3 (((w3).alloc (Obj.cells #[] 38)).alloc (Obj.cells #[.int .i64 0, .int .i64 0, .int .i64 0, .int .i64 0, .int .u64 0, .slice none 0 0] 64)) := hE1.allocR _
                 have hy6 : (((w3).alloc (Obj.cells #[] 38)).alloc (Obj.cells #[.int .i64 0, .int .i64 0, .int .i64 0, .int .i64 0, .int .u64 0, .slice none 0 0] 64)).heap[w3.heap.size + 1]? = some (Obj.cells #[.int .i64 0, .int .i64 0, .int .i64 0, .int .i64 0, .int .u64 0, .slice none 0 0] 64 (0, 0)) := heap_at ((w3).alloc (Obj.cells #[] 38)) _ (by rw [size_alloc])
                 have ho6 := ho1.alloc (Obj.cells #[.int .i64 0, .int .i64 0, .int .i64 0, .int .i64 0, .int .u64 0, .slice none 0 0] 64)
                 refine pi_l 13 rfl (by kernel_rfl) (fun K hK => ?_)
                 obtain ⟨p7, c7, hp7, hq7⟩ := HY2.out
                 go_wp2_with (at_builtin; refine wpList_appz ((((w3).alloc (Obj.cells #[] 38)).alloc (Obj.cells #[.int .i64 0, .int .i64 0, .int .i64 0, .int .i64 0, .int .u64 0, .slice none 0 0] 64)).drew) l2 [] _ w3.heap.size 38 ho6 25 rfl _ _ rfl i0 z0 hi0 hz0 hz1 hz2 hzs Try.underlying25 rfl ⟨p7, c7, hp7, hq7.imp id fun ⟨g, off, e1, hgl, hu⟩ => ⟨g, off, e1, hu.ext hgl (Ext.drewR hE6)⟩⟩ ?b1 (Ext.drewR hE6).size ?_)
                 first | (case b1 => have h1 := HL1.out; have h2 := HL2.out; (first | omega | (simp only [List.length_nil]; omega))) | skip
                 intro v7 W7 ho7 hg7 hk7
                 have hE7 : Ext w3 W7 := hg7 w3 (Ext.drewR hE6) (Nat.le_refl _)
                 have hy7 := hk7 _ _ _ hy6 (by decide)
                 clear hg7 hk7
                 go_wp2
                 refine hK _ _ (fun _ _ => ⟨⟨_, hE7⟩, rfl⟩) ?_
                 clear hK K
                 obtain ⟨pf, cf, hvf⟩ := own_sl ho7
                 subst hvf
                 have hC7 : ∃ x : After w3, W7 = x.w := ⟨⟨_, hE7⟩, rfl⟩
                 refine pi_t 14 rfl (by kernel_rfl) (by kernel_rfl) (fun _ _ _ _ h => h) (fun K hK => ?_)
                 go_big_quiet_op
                 refine hK _ ?_
                 clear hK K
                 have hyb : w3.heap.size ≤ w3.heap.size + 1 := by first | omega | (have := hE0; have := this.size; omega)
                 generalize w3.heap.size + 1 = yb at *
                 have f0 := frozen_of hy7 0
                 have f1 := frozen_of hy7 1
                 have f2 := frozen_of hy7 2
                 have f3 := frozen_of hy7 3
                 have f4 := frozen_of hy7 4
                 have f5 := frozen_of hy7 5
                 have z0 := (cell_of hy7 0).trans rfl
                 have z1 := (cell_of hy7 1).trans rfl
                 have z2 := (cell_of hy7 2).trans rfl
                 have z3 := (cell_of hy7 3).trans rfl
                 have z4 := (cell_of hy7 4).trans rfl
                 have z5 := (cell_of hy7 5).trans rfl
                 have zl := lt_of hy7
                 refine pi_l 16 rfl (by kernel_rfl) (fun K hK => ?_)
                 go_wp2
                 refine hK _ _ (by simp) ?_
                 clear hK K
                 refine pi_end (by kernel_rfl) ?_
                 go_wp2_with fail
                 refine fin6 (Φ := fun W' => Met _ _ W') (w := w3) (W := W7) hy7 hE7 hyb ?_
                 intro Wf hf hEf hof
                 go_meet
                 refine ⟨_, _, rfl, hf, ?_, hEf⟩
                 rw [HRL.out]
                 have hr := own_off ho7 hy7 (by decide) hof
                 exact UpsAt.of_row hr
             ·
               go_wp2
               refine hK _ _ (fun _ h => af_step h (Ext.alloc' _ _)) ?_
               clear hK K
               have hE9 : Ext w3 (((w3).alloc (Obj.cells #[] 38)).alloc (Obj.cells #[.int .i64 0, .int .i64 0, .int .i64 0, .int .i64 0, .int .u64 0, .slice none 0 0] 64)) := hE1.allocR _
               have hy9 : (((w3).alloc (Obj.cells #[] 38)).alloc (Obj.cells #[.int .i64 0, .int .i64 0, .int .i64 0, .int .i64 0, .int .u64 0, .slice none 0 0] 64)).heap[w3.heap.size + 1]? = some (Obj.cells #[.int .i64 0, .int .i64 0, .int .i64 0, .int .i64 0, .int .u64 0, .slice none 0 0] 64 (0, 0)) := heap_at ((w3).alloc (Obj.cells #[] 38)) _ (by rw [size_alloc])
               have ho9 := ho1.alloc (Obj.cells #[.int .i64 0, .int .i64 0, .int .i64 0, .int .i64 0, .int .u64 0, .slice none 0 0] 64)
               refine pi_l 8 rfl (by kernel_rfl) (fun K hK => ?_)
               go_wp2
               refine hK _ _ (fun _ h => h) ?_
               clear hK K
               refine pi_l 13 rfl (by kernel_rfl) (fun K hK => ?_)
               obtain ⟨p11, c11, hp11, hq11⟩ := HY2.out
               go_wp2_with (at_builtin; refine wpList_appz ((((w3).alloc (Obj.cells #[] 38)).alloc (Obj.cells #[.int .i64 0, .int .i64 0, .int .i64 0, .int .i64 0, .int .u64 0, .slice none 0 0] 64)).drew) l2 [] _ w3.heap.size 38 ho9 25 rfl _ _ rfl i0 z0 hi0 hz0 hz1 hz2 hzs Try.underlying25 rfl ⟨p11, c11, hp11, hq11.imp id fun ⟨g, off, e1, hgl, hu⟩ => ⟨g, off, e1, hu.ext hgl (Ext.drewR hE9)⟩⟩ ?b1 (Ext.drewR hE9).size ?_)
               first | (case b1 => have h1 := HL1.out; have h2 := HL2.out; (first | omega | (simp only [List.length_nil]; omega))) | skip
               intro v11 W11 ho11 hg11 hk11
               have hE11 : Ext w3 W11 := hg11 w3 (Ext.drewR hE9) (Nat.le_refl _)
               have hy11 := hk11 _ _ _ hy9 (by decide)
               clear hg11 hk11
               go_wp2
               refine hK _ _ (fun _ _ => ⟨⟨_, hE11⟩, rfl⟩) ?_
               clear hK K
               obtain ⟨pf, cf, hvf⟩ := own_sl ho11
               subst hvf
               have hC11 : ∃ x : After w3, W11 = x.w := ⟨⟨_, hE11⟩, rfl⟩
               refine pi_t 14 rfl (by kernel_rfl) (by kernel_rfl) (fun _ _ _ _ h => h) (fun K hK => ?_)
               go_big_quiet_op
               refine hK _ ?_
               clear hK K
               have hyb : w3.heap.size ≤ w3.heap.size + 1 := by first | omega | (have := hE0; have := this.size; omega)
               generalize w3.heap.size + 1 = yb at *
               have f0 := frozen_of hy11 0
               have f1 := frozen_of hy11 1
               have f2 := frozen_of hy11 2
               have f3 := frozen_of hy11 3
               have f4 := frozen_of hy11 4
               have f5 := frozen_of hy11 5
               have z0 := (cell_of hy11 0).trans rfl
               have z1 := (cell_of hy11 1).trans rfl
               have z2 := (cell_of hy11 2).trans rfl
               have z3 := (cell_of hy11 3).trans rfl
               have z4 := (cell_of hy11 4).trans rfl
               have z5 := (cell_of hy11 5).trans rfl
               have zl := lt_of hy11
               refine pi_l 16 rfl (by kernel_rfl) (fun K hK => ?_)
               go_wp2
               refine hK _ _ (by simp) ?_
               clear hK K
               refine pi_end (by kernel_rfl) ?_
               go_wp2_with fail
               refine fin6 (Φ := fun W' => Met _ _ W') (w := w3) (W := W11) hy11 hE11 hyb ?_
               intro Wf hf hEf hof
               go_meet
               refine ⟨_, _, rfl, hf, ?_, hEf⟩
               rw [HRL.out]
               have hr := own_off ho11 hy11 (by decide) hof
               exact UpsAt.of_row hr
           ·
             go_wp2
             refine hK _ _ (fun _ h => af_step h (Ext.alloc' _ _)) ?_
             clear hK K
             have hE13 : Ext w3 ((w3).alloc (Obj.cells #[.int .i64 0, .int .i64 0, .int .i64 0, .int .i64 0, .int .u64 0, .slice none 0 0] 64)) := (Ext.refl w3).allocR _
             have hy13 : ((w3).alloc (Obj.cells #[.int .i64 0, .int .i64 0, .int .i64 0, .int .i64 0, .int .u64 0, .slice none 0 0] 64)).heap[w3.heap.size]? = some (Obj.cells #[.int .i64 0, .int .i64 0, .int .i64 0, .int .i64 0, .int .u64 0, .slice none 0 0] 64 (0, 0)) := heap_at (w3) _ rfl
             refine pi_l 2 rfl (by kernel_rfl) (fun K hK => ?_)
             go_wp2
             refine hK _ _ (fun _ h => af_step h (Ext.alloc' _ _)) ?_
             clear hK K
             have hE14 : Ext w3 (((w3).alloc (Obj.cells #[.int .i64 0, .int .i64 0, .int .i64 0, .int .i64 0, .int .u64 0, .slice none 0 0] 64)).alloc (Obj.cells #[] 38)) := hE13.allocR _
             have ho14 : World.ownsRow (((w3).alloc (Obj.cells #[.int .i64 0, .int .i64 0, .int .i64 0, .int .i64 0, .int .u64 0, .slice none 0 0] 64)).alloc (Obj.cells #[] 38)) w3.heap.size 38 2 (.slice (some ⟨w3.heap.size + 1, 0, none⟩) 0 0) ([] : List (Int × Int)).length (updV []) := ⟨rfl, .inr ⟨w3.heap.size + 1, 0, #[], rfl, by omega, heap_at ((w3).alloc (Obj.cells #[.int .i64 0, .int .i64 0, .int .i64 0, .int .i64 0, .int .u64 0, .slice none 0 0] 64)) _ (by rw [size_alloc]), Nat.le_refl _, Nat.zero_le _, rfl, rfl⟩⟩
             have hy14 : (((w3).alloc (Obj.cells #[.int .i64 0, .int .i64 0, .int .i64 0, .int .i64 0, .int .u64 0, .slice none 0 0] 64)).alloc (Obj.cells #[] 38)).heap[w3.heap.size]? = some (Obj.cells #[.int .i64 0, .int .i64 0, .int .i64 0, .int .i64 0, .int .u64 0, .slice none 0 0] 64 (0, 0)) := (heap_old ((w3).alloc (Obj.cells #[.int .i64 0, .int .i64 0, .int .i64 0, .int .i64 0, .int .u64 0, .slice none 0 0] 64)) _ (lt_of hy13)).trans hy13
             refine pi_l 8 rfl (by kernel_rfl) (fun K hK => ?_)
             go_wp2
             refine hK _ _ (fun _ h => h) ?_
             clear hK K
             refine pi_l 13 rfl (by kernel_rfl) (fun K hK => ?_)
             obtain ⟨p16, c16, hp16, hq16⟩ := HY2.out
             go_wp2_with (at_builtin; refine wpList_appz ((((w3).alloc (Obj.cells #[.int .i64 0, .int .i64 0, .int .i64 0, .int .i64 0, .int .u64 0, .slice none 0 0] 64)).alloc (Obj.cells #[] 38)).drew) l2 [] _ w3.heap.size 38 ho14 25 rfl _ _ rfl i0 z0 hi0 hz0 hz1 hz2 hzs Try.underlying25 rfl ⟨p16, c16, hp16, hq16.imp id fun ⟨g, off, e1, hgl, hu⟩ => ⟨g, off, e1, hu.ext hgl (Ext.drewR hE14)⟩⟩ ?b1 (Ext.drewR hE14).size ?_)
             first | (case b1 => have h1 := HL1.out; have h2 := HL2.out; (first | omega | (simp only [List.length_nil]; omega))) | skip
             intro v16 W16 ho16 hg16 hk16
             have hE16 : Ext w3 W16 := hg16 w3 (Ext.drewR hE14) (Nat.le_refl _)
             have hy16 := hk16 _ _ _ hy14 (by decide)
             clear hg16 hk16
             go_wp2
             refine hK _ _ (fun _ _ => ⟨⟨_, hE16⟩, rfl⟩) ?_
             clear hK K
             obtain ⟨pf, cf, hvf⟩ := own_sl ho16
             subst hvf
             have hC16 : ∃ x : After w3, W16 = x.w := ⟨⟨_, hE16⟩, rfl⟩
             refine pi_t 14 rfl (by kernel_rfl) (by kernel_rfl) (fun _ _ _ _ h => h) (fun K hK => ?_)
             go_big_quiet_op
             refine hK _ ?_
             clear hK K
             have hyb : w3.heap.size ≤ w3.heap.size := by first | omega | (have := hE0; have := this.size; omega)
             have f0 := frozen_of hy16 0
             have f1 := frozen_of hy16 1
             have f2 := frozen_of hy16 2
             have f3 := frozen_of hy16 3
             have f4 := frozen_of hy16 4
             have f5 := frozen_of hy16 5
             have z0 := (cell_of hy16 0).trans rfl
             have z1 := (cell_of hy16 1).trans rfl
             have z2 := (cell_of hy16 2).trans rfl
             have z3 := (cell_of hy16 3).trans rfl
             have z4 := (cell_of hy16 4).trans rfl
             have z5 := (cell_of hy16 5).trans rfl
             have zl := lt_of hy16
             refine pi_l 16 rfl (by kernel_rfl) (fun K hK => ?_)
             go_wp2
             refine hK _ _ (by simp) ?_
             clear hK K
             refine pi_end (by kernel_rfl) ?_
             go_wp2_with fail
             refine fin6 (Φ := fun W' => Met _ _ W') (w := w3) (W := W16) hy16 hE16 hyb ?_
             intro Wf hf hEf hof
             go_meet
             refine ⟨_, _, rfl, hf, ?_, hEf⟩
             rw [HRL.out]
             have hr := own_off ho16 hy16 (by decide) hof
             exact UpsAt.of_row hr
--NEG2
         have hav2 : a < vc := by omega
         have hC0 := af_drew w3
         refine pi_start (fun w' => ∃ x : After w3, w' = x.w) [16] (by kernel_rfl) ?_
         refine pi_t 0 rfl (by kernel_rfl) (by kernel_rfl) (fun _ _ _ _ h => h) (fun K hK => ?_)
         go_big_quiet_op
         refine hK _ ?_
         clear hK K
         refine pi_c 1 (by assumption) rfl (by kernel_rfl) (by kernel_rfl) (fun _ _ _ _ h => h) (fun K hK => ?_)
         go_big_quiet_op
         refine hK _ ?_
         clear hK K
         refine pi_t 3 rfl (by kernel_rfl) (by kernel_rfl) (fun _ _ _ _ h => h) (fun K hK => ?_)
         go_big_quiet_op
         refine hK _ ?_
         clear hK K
         refine pi_c 4 (by assumption) rfl (by kernel_rfl) (by kernel_rfl) (fun _ _ _ _ h => h) (fun K hK => ?_)
         go_big_quiet_op
         refine hK _ ?_
         clear hK K
         refine pi_t 5 rfl (by kernel_rfl) (by kernel_rfl) (fun _ _ _ _ h => h) (fun K hK => ?_)
         go_big_quiet_op
         refine hK _ ?_
         clear hK K
         refine pi_t 6 rfl (by kernel_rfl) (by kernel_rfl) (fun _ _ _ _ h => h) (fun K hK => ?_)
         go_big_quiet_op
         refine hK _ ?_
         clear hK K
         refine pi_t 7 rfl (by kernel_rfl) (by kernel_rfl) (fun _ _ _ _ h => h) (fun K hK => ?_)
         go_big_quiet_op
         refine hK _ ?_
         clear hK K
         refine pi_t 9 rfl (by kernel_rfl) (by kernel_rfl) (fun _ _ _ _ h => h) (fun K hK => ?_)
         go_big_quiet_op
         refine hK _ ?_
         clear hK K
         refine pi_c 10 (by assumption) rfl (by kernel_rfl) (by kernel_rfl) (fun _ _ _ _ h => h) (fun K hK => ?_)
         go_big_quiet_op
         refine hK _ ?_
         clear hK K
         refine pi_t 11 rfl (by kernel_rfl) (by kernel_rfl) (fun _ _ _ _ h => h) (fun K hK => ?_)
         go_big_quiet_op
         refine hK _ ?_
         clear hK K
         refine pi_t 12 rfl (by kernel_rfl) (by kernel_rfl) (fun _ _ _ _ h => h) (fun K hK => ?_)
         go_big_quiet_op
         refine hK _ ?_
         clear hK K
         have hY1 : ∃ p c, Value.slice (some ⟨ug, uo + a * 2, none⟩) (n - a) (vc - a) = .slice p ((us.drop a).take (n - a)).length c ∧ ((us.drop a).take (n - a) = [] ∨ ∃ g off, p = some ⟨g, off, none⟩ ∧ g < w3.heap.size ∧ UCells w3 g off ((us.drop a).take (n - a))) := ⟨_, _, by rw [List.length_take, List.length_drop, Nat.min_eq_left (by omega)], .inr ⟨_, _, rfl, hug, (HUC.out.drop a).take (n - a)⟩⟩
         have hY2 : ∃ p c, Value.slice (some ⟨ug, uo, none⟩) a vc = .slice p (us.take a).length c ∧ (us.take a = [] ∨ ∃ g off, p = some ⟨g, off, none⟩ ∧ g < w3.heap.size ∧ UCells w3 g off (us.take a)) := ⟨_, _, by rw [List.length_take, Nat.min_eq_left (by omega)], .inr ⟨_, _, rfl, hug, HUC.out.take a⟩⟩
         have HL1 := Lib.hid (show ((us.drop a).take (n - a)).length ≤ 60 by rw [List.length_take]; omega)
         have HL2 := Lib.hid (show (us.take a).length ≤ 60 by rw [List.length_take]; omega)
         generalize (us.drop a).take (n - a) = l1 at *
         generalize us.take a = l2 at *
         have HY1 := Lib.hid hY1
         have HY2 := Lib.hid hY2
         clear hY1 hY2
--GEN1
         refine pi_b 2 15 rfl rfl (by kernel_rfl) (fun K hK => ?_) (fun K hK => ?_)
         ·
           go_wp2
           refine hK _ _ (fun _ h => af_step h (Ext.alloc' _ _)) ?_
           clear hK K
           have hE1 : Ext w3 ((w3).alloc (Obj.cells #[] 38)) := (Ext.refl w3).allocR _
           have ho1 : World.ownsRow ((w3).alloc (Obj.cells #[] 38)) w3.heap.size 38 2 (.slice (some ⟨w3.heap.size, 0, none⟩) 0 0) ([] : List (Int × Int)).length (updV []) := ⟨rfl, .inr ⟨w3.heap.size, 0, #[], rfl, by omega, heap_at (w3) _ rfl, Nat.le_refl _, Nat.zero_le _, rfl, rfl⟩⟩
           refine pi_b 8 15 rfl rfl (by kernel_rfl) (fun K hK => ?_) (fun K hK => ?_)
           ·
             obtain ⟨p2, c2, hp2, hq2⟩ := HY1.out
             go_wp2_with (at_builtin; refine wpList_appz (((w3).alloc (Obj.cells #[] 38)).drew) l1 [] _ w3.heap.size 38 ho1 25 rfl _ _ rfl i0 z0 hi0 hz0 hz1 hz2 hzs Try.underlying25 rfl ⟨p2, c2, hp2, hq2.imp id fun ⟨g, off, e1, hgl, hu⟩ => ⟨g, off, e1, hu.ext hgl (Ext.drewR hE1)⟩⟩ ?b1 (Ext.drewR hE1).size ?_)
             first | (case b1 => have h1 := HL1.out; have h2 := HL2.out; (first | omega | (simp only [List.length_nil]; omega))) | skip
             intro v2 W2 ho2 hg2 hk2
             have hE2 : Ext w3 W2 := hg2 w3 (Ext.drewR hE1) (Nat.le_refl _)
             clear hg2 hk2
             go_wp2
             refine hK _ _ (fun _ _ => ⟨⟨_, hE2⟩, rfl⟩) ?_
             clear hK K
             refine pi_b 13 15 rfl rfl (by kernel_rfl) (fun K hK => ?_) (fun K hK => ?_)
             ·
               obtain ⟨p3, c3, hp3, hq3⟩ := HY2.out
               go_wp2_with (at_builtin; refine wpList_appz (W2) l2 l1 _ w3.heap.size 38 ho2 25 rfl _ _ rfl i0 z0 hi0 hz0 hz1 hz2 hzs Try.underlying25 rfl ⟨p3, c3, hp3, hq3.imp id fun ⟨g, off, e1, hgl, hu⟩ => ⟨g, off, e1, hu.ext hgl hE2⟩⟩ ?b1 hE2.size ?_)
               first | (case b1 => have h1 := HL1.out; have h2 := HL2.out; (first | omega | (simp only [List.length_nil]; omega))) | skip
               intro v3 W3 ho3 hg3 hk3
               have hE3 : Ext w3 W3 := hg3 w3 hE2 (Nat.le_refl _)
               clear hg3 hk3
               go_wp2
               refine hK _ _ (fun _ _ => ⟨⟨_, hE3⟩, rfl⟩) ?_
               clear hK K
               obtain ⟨pf, cf, hvf⟩ := own_sl ho3
               subst hvf
               have hC3 : ∃ x : After w3, W3 = x.w := ⟨⟨_, hE3⟩, rfl⟩
               refine pi_t 14 rfl (by kernel_rfl) (by kernel_rfl) (fun _ _ _ _ h => h) (fun K hK => ?_)
               go_big_quiet_op
               refine hK _ ?_
               clear hK K
               refine pi_l 15 rfl (by kernel_rfl) (fun K hK => ?_)
               go_wp2
               refine hK _ _ (fun _ h => af_step h (Ext.alloc' _ _)) ?_
               clear hK K
               have hE4 : Ext w3 ((W3).alloc (Obj.cells #[.int .i64 0, .int .i64 0, .int .i64 0, .int .i64 0, .int .u64 0, .slice none 0 0] 64)) := hE3.allocR _
               have hy4 : ((W3).alloc (Obj.cells #[.int .i64 0, .int .i64 0, .int .i64 0, .int .i64 0, .int .u64 0, .slice none 0 0] 64)).heap[W3.heap.size]? = some (Obj.cells #[.int .i64 0, .int .i64 0, .int .i64 0, .int .i64 0, .int .u64 0, .slice none 0 0] 64 (0, 0)) := heap_at (W3) _ rfl
               have ho4 := ho3.alloc (Obj.cells #[.int .i64 0, .int .i64 0, .int .i64 0, .int .i64 0, .int .u64 0, .slice none 0 0] 64)
               have hyb : w3.heap.size ≤ W3.heap.size := by first | omega | (have := hE3; have := this.size; omega)
               generalize (W3).alloc (Obj.cells #[.int .i64 0, .int .i64 0, .int .i64 0, .int .i64 0, .int .u64 0, .slice none 0 0] 64) = Wz at *
               generalize W3.heap.size = yb at *
               have f0 := frozen_of hy4 0
               have f1 := frozen_of hy4 1
               have f2 := frozen_of hy4 2
               have f3 := frozen_of hy4 3
               have f4 := frozen_of hy4 4
               have f5 := frozen_of hy4 5
               have z0 := (cell_of hy4 0).trans rfl
               have z1 := (cell_of hy4 1).trans rfl
               have z2 := (cell_of hy4 2).trans rfl
               have z3 := (cell_of hy4 3).trans rfl
               have z4 := (cell_of hy4 4).trans rfl
               have z5 := (cell_of hy4 5).trans rfl
               have zl := lt_of hy4
               refine pi_l 16 rfl (by kernel_rfl) (fun K hK => ?_)
               go_wp2
               refine hK _ _ (by simp) ?_
               clear hK K
               refine pi_end (by kernel_rfl) ?_
               go_wp2_with fail
               refine fin6 (Φ := fun W' => Met _ _ W') (w := w3) (W := Wz) hy4 hE4 hyb ?_
               intro Wf hf hEf hof
               go_meet
               refine ⟨_, _, rfl, hf, ?_, hEf⟩
               rw [HRL.out]
               have hr := own_off ho4 hy4 (by decide) hof
               exact UpsAt.of_row hr
             ·
               go_wp2
               refine hK _ _ (fun _ h => af_step h (Ext.alloc' _ _)) ?_
               clear hK K
               have hE6 : Ext w3 ((W2).alloc (Obj.cells #[.int .i64 0, .int .i64 0, .int .i64 0, .int .i64 0, .int .u64 0, .slice none 0 0] 64)) := hE2.allocR _
               have hy6 : ((W2).alloc (Obj.cells #[.int .i64 0, .int .i64 0, .int .i64 0, .int .i64 0, .int .u64 0, .slice none 0 0] 64)).heap[W2.heap.size]? = some (Obj.cells #[.int .i64 0, .int .i64 0, .int .i64 0, .int .i64 0, .int .u64 0, .slice none 0 0] 64 (0, 0)) := heap_at (W2) _ rfl
               have ho6 := ho2.alloc (Obj.cells #[.int .i64 0, .int .i64 0, .int .i64 0, .int .i64 0, .int .u64 0, .slice none 0 0] 64)
               refine pi_l 13 rfl (by kernel_rfl) (fun K hK => ?_)
               obtain ⟨p7, c7, hp7, hq7⟩ := HY2.out
               go_wp2_with (at_builtin; refine wpList_appz ((W2).alloc (Obj.cells #[.int .i64 0, .int .i64 0, .int .i64 0, .int .i64 0, .int .u64 0, .slice none 0 0] 64)) l2 l1 _ w3.heap.size 38 ho6 25 rfl _ _ rfl i0 z0 hi0 hz0 hz1 hz2 hzs Try.underlying25 rfl ⟨p7, c7, hp7, hq7.imp id fun ⟨g, off, e1, hgl, hu⟩ => ⟨g, off, e1, hu.ext hgl hE6⟩⟩ ?b1 hE6.size ?_)
               first | (case b1 => have h1 := HL1.out; have h2 := HL2.out; (first | omega | (simp only [List.length_nil]; omega))) | skip
               intro v7 W7 ho7 hg7 hk7
               have hE7 : Ext w3 W7 := hg7 w3 hE6 (Nat.le_refl _)
               have hy7 := hk7 _ _ _ hy6 (by decide)
               clear hg7 hk7
               go_wp2
               refine hK _ _ (fun _ _ => ⟨⟨_, hE7⟩, rfl⟩) ?_
               clear hK K
               obtain ⟨pf, cf, hvf⟩ := own_sl ho7
               subst hvf
               have hC7 : ∃ x : After w3, W7 = x.w := ⟨⟨_, hE7⟩, rfl⟩
               refine pi_t 14 rfl (by kernel_rfl) (by kernel_rfl) (fun _ _ _ _ h => h) (fun K hK => ?_)
               go_big_quiet_op
               refine hK _ ?_
               clear hK K
               have hyb : w3.heap.size ≤ W2.heap.size := by first | omega | (have := hE2; have := this.size; omega)
               generalize W2.heap.size = yb at *
               have f0 := frozen_of hy7 0
               have f1 := frozen_of hy7 1
               have f2 := frozen_of hy7 2
               have f3 := frozen_of hy7 3
               have f4 := frozen_of hy7 4
               have f5 := frozen_of hy7 5
               have z0 := (cell_of hy7 0).trans rfl
               have z1 := (cell_of hy7 1).trans rfl
               have z2 := (cell_of hy7 2).trans rfl
               have z3 := (cell_of hy7 3).trans rfl
               have z4 := (cell_of hy7 4).trans rfl
               have z5 := (cell_of hy7 5).trans rfl
               have zl := lt_of hy7
               refine pi_l 16 rfl (by kernel_rfl) (fun K hK => ?_)
               go_wp2
               refine hK _ _ (by simp) ?_
               clear hK K
               refine pi_end (by kernel_rfl) ?_
               go_wp2_with fail
               refine fin6 (Φ := fun W' => Met _ _ W') (w := w3) (W := W7) hy7 hE7 hyb ?_
               intro Wf hf hEf hof
               go_meet
               refine ⟨_, _, rfl, hf, ?_, hEf⟩
               rw [HRL.out]
               have hr := own_off ho7 hy7 (by decide) hof
               exact UpsAt.of_row hr
           ·
             go_wp2
             refine hK _ _ (fun _ h => af_step h (Ext.alloc' _ _)) ?_
             clear hK K
             have hE9 : Ext w3 (((w3).alloc (Obj.cells #[] 38)).alloc (Obj.cells #[.int .i64 0, .int .i64 0, .int .i64 0, .int .i64 0, .int .u64 0, .slice none 0 0] 64)) := hE1.allocR _
             have hy9 : (((w3).alloc (Obj.cells #[] 38)).alloc (Obj.cells #[.int .i64 0, .int .i64 0, .int .i64 0, .int .i64 0, .int .u64 0, .slice none 0 0] 64)).heap[w3.heap.size + 1]? = some (Obj.cells #[.int .i64 0, .int .i64 0, .int .i64 0, .int .i64 0, .int .u64 0, .slice none 0 0] 64 (0, 0)) := heap_at ((w3).alloc (Obj.cells #[] 38)) _ (by rw [size_alloc])
             have ho9 := ho1.alloc (Obj.cells #[.int .i64 0, .int .i64 0, .int .i64 0, .int .i64 0, .int .u64 0, .slice none 0 0] 64)
             refine pi_l 8 rfl (by kernel_rfl) (fun K hK => ?_)
             obtain ⟨p10, c10, hp10, hq10⟩ := HY1.out
             go_wp2_with (at_builtin; refine wpList_appz ((((w3).alloc (Obj.cells #[] 38)).alloc (Obj.cells #[.int .i64 0, .int .i64 0, .int .i64 0, .int .i64 0, .int .u64 0, .slice none 0 0] 64)).drew) l1 [] _ w3.heap.size 38 ho9 25 rfl _ _ rfl i0 z0 hi0 hz0 hz1 hz2 hzs Try.underlying25 rfl ⟨p10, c10, hp10, hq10.imp id fun ⟨g, off, e1, hgl, hu⟩ => ⟨g, off, e1, hu.ext hgl (Ext.drewR hE9)⟩⟩ ?b1 (Ext.drewR hE9).size ?_)
             first | (case b1 => have h1 := HL1.out; have h2 := HL2.out; (first | omega | (simp only [List.length_nil]; omega))) | skip
             intro v10 W10 ho10 hg10 hk10
             have hE10 : Ext w3 W10 := hg10 w3 (Ext.drewR hE9) (Nat.le_refl _)
             have hy10 := hk10 _ _ _ hy9 (by decide)
             clear hg10 hk10
             go_wp2
             refine hK _ _ (fun _ _ => ⟨⟨_, hE10⟩, rfl⟩) ?_
             clear hK K
             refine pi_l 13 rfl (by kernel_rfl) (fun K hK => ?_)
             obtain ⟨p11, c11, hp11, hq11⟩ := HY2.out
             go_wp2_with (at_builtin; refine wpList_appz (W10) l2 l1 _ w3.heap.size 38 ho10 25 rfl _ _ rfl i0 z0 hi0 hz0 hz1 hz2 hzs Try.underlying25 rfl ⟨p11, c11, hp11, hq11.imp id fun ⟨g, off, e1, hgl, hu⟩ => ⟨g, off, e1, hu.ext hgl hE10⟩⟩ ?b1 hE10.size ?_)
             first | (case b1 => have h1 := HL1.out; have h2 := HL2.out; (first | omega | (simp only [List.length_nil]; omega))) | skip
             intro v11 W11 ho11 hg11 hk11
             have hE11 : Ext w3 W11 := hg11 w3 hE10 (Nat.le_refl _)
             have hy11 := hk11 _ _ _ hy10 (by decide)
             clear hg11 hk11
             go_wp2
             refine hK _ _ (fun _ _ => ⟨⟨_, hE11⟩, rfl⟩) ?_
             clear hK K
             obtain ⟨pf, cf, hvf⟩ := own_sl ho11
             subst hvf
             have hC11 : ∃ x : After w3, W11 = x.w := ⟨⟨_, hE11⟩, rfl⟩
             refine pi_t 14 rfl (by kernel_rfl) (by kernel_rfl) (fun _ _ _ _ h => h) (fun K hK => ?_)
             go_big_quiet_op
             refine hK _ ?_
             clear hK K
             have hyb : w3.heap.size ≤ w3.heap.size + 1 := by first | omega | (have := hE0; have := this.size; omega)
             generalize w3.heap.size + 1 = yb at *
             have f0 := frozen_of hy11 0
             have f1 := frozen_of hy11 1
             have f2 := frozen_of hy11 2
             have f3 := frozen_of hy11 3
             have f4 := frozen_of hy11 4
             have f5 := frozen_of hy11 5
             have z0 := (cell_of hy11 0).trans rfl
             have z1 := (cell_of hy11 1).trans rfl
             have z2 := (cell_of hy11 2).trans rfl
             have z3 := (cell_of hy11 3).trans rfl
             have z4 := (cell_of hy11 4).trans rfl
             have z5 := (cell_of hy11 5).trans rfl
             have zl := lt_of hy11
             refine pi_l 16 rfl (by kernel_rfl) (fun K hK => ?_)
             go_wp2
             refine hK _ _ (by simp) ?_
             clear hK K
             refine pi_end (by kernel_rfl) ?_
             go_wp2_with fail
             refine fin6 (Φ := fun W' => Met _ _ W') (w := w3) (W := W11) hy11 hE11 hyb ?_
             intro Wf hf hEf hof
             go_meet
             refine ⟨_, _, rfl, hf, ?_, hEf⟩
             rw [HRL.out]
             have hr := own_off ho11 hy11 (by decide) hof
             exact UpsAt.of_row hr
         ·
           go_wp2
           refine hK _ _ (fun _ h => af_step h (Ext.alloc' _ _)) ?_
           clear hK K
           have hE13 : Ext w3 ((w3).alloc (Obj.cells #[.int .i64 0, .int .i64 0, .int .i64 0, .int .i64 0, .int .u64 0, .slice none 0 0] 64)) := (Ext.refl w3).allocR _
           have hy13 : ((w3).alloc (Obj.cells #[.int .i64 0, .int .i64 0, .int .i64 0, .int .i64 0, .int .u64 0, .slice none 0 0] 64)).heap[w3.heap.size]? = some (Obj.cells #[.int .i64 0, .int .i64 0, .int .i64 0, .int .i64 0, .int .u64 0, .slice none 0 0] 64 (0, 0)) := heap_at (w3) _ rfl
           refine pi_l 2 rfl (by kernel_rfl) (fun K hK => ?_)
           go_wp2
           refine hK _ _ (fun _ h => af_step h (Ext.alloc' _ _)) ?_
           clear hK K
           have hE14 : Ext w3 (((w3).alloc (Obj.cells #[.int .i64 0, .int .i64 0, .int .i64 0, .int .i64 0, .int .u64 0, .slice none 0 0] 64)).alloc (Obj.cells #[] 38)) := hE13.allocR _
           have ho14 : World.ownsRow (((w3).alloc (Obj.cells #[.int .i64 0, .int .i64 0, .int .i64 0, .int .i64 0, .int .u64 0, .slice none 0 0] 64)).alloc (Obj.cells #[] 38)) w3.heap.size 38 2 (.slice (some ⟨w3.heap.size + 1, 0, none⟩) 0 0) ([] : List (Int × Int)).length (updV []) := ⟨rfl, .inr ⟨w3.heap.size + 1, 0, #[], rfl, by omega, heap_at ((w3).alloc (Obj.cells #[.int .i64 0, .int .i64 0, .int .i64 0, .int .i64 0, .int .u64 0, .slice none 0 0] 64)) _ (by rw [size_alloc]), Nat.le_refl _, Nat.zero_le _, rfl, rfl⟩⟩
           have hy14 : (((w3).alloc (Obj.cells #[.int .i64 0, .int .i64 0, .int .i64 0, .int .i64 0, .int .u64 0, .slice none 0 0] 64)).alloc (Obj.cells #[] 38)).heap[w3.heap.size]? = some (Obj.cells #[.int .i64 0, .int .i64 0, .int .i64 0, .int .i64 0, .int .u64 0, .slice none 0 0] 64 (0, 0)) := (heap_old ((w3).alloc (Obj.cells #[.int .i64 0, .int .i64 0, .int .i64 0, .int .i64 0, .int .u64 0, .slice none 0 0] 64)) _ (lt_of hy13)).trans hy13
           refine pi_l 8 rfl (by kernel_rfl) (fun K hK => ?_)
           obtain ⟨p15, c15, hp15, hq15⟩ := HY1.out
           go_wp2_with (at_builtin; refine wpList_appz ((((w3).alloc (Obj.cells #[.int .i64 0, .int .i64 0, .int .i64 0, .int .i64 0, .int .u64 0, .slice none 0 0] 64)).alloc (Obj.cells #[] 38)).drew) l1 [] _ w3.heap.size 38 ho14 25 rfl _ _ rfl i0 z0 hi0 hz0 hz1 hz2 hzs Try.underlying25 rfl ⟨p15, c15, hp15, hq15.imp id fun ⟨g, off, e1, hgl, hu⟩ => ⟨g, off, e1, hu.ext hgl (Ext.drewR hE14)⟩⟩ ?b1 (Ext.drewR hE14).size ?_)
           first | (case b1 => have h1 := HL1.out; have h2 := HL2.out; (first | omega | (simp only [List.length_nil]; omega))) | skip
           intro v15 W15 ho15 hg15 hk15
           have hE15 : Ext w3 W15 := hg15 w3 (Ext.drewR hE14) (Nat.le_refl _)
           have hy15 := hk15 _ _ _ hy14 (by decide)
           clear hg15 hk15
           go_wp2
           refine hK _ _ (fun _ _ => ⟨⟨_, hE15⟩, rfl⟩) ?_
           clear hK K
           refine pi_l 13 rfl (by kernel_rfl) (fun K hK => ?_)
           obtain ⟨p16, c16, hp16, hq16⟩ := HY2.out
           go_wp2_with (at_builtin; refine wpList_appz (W15) l2 l1 _ w3.heap.size 38 ho15 25 rfl _ _ rfl i0 z0 hi0 hz0 hz1 hz2 hzs Try.underlying25 rfl ⟨p16, c16, hp16, hq16.imp id fun ⟨g, off, e1, hgl, hu⟩ => ⟨g, off, e1, hu.ext hgl hE15⟩⟩ ?b1 hE15.size ?_)
           first | (case b1 => have h1 := HL1.out; have h2 := HL2.out; (first | omega | (simp only [List.length_nil]; omega))) | skip
           intro v16 W16 ho16 hg16 hk16
           have hE16 : Ext w3 W16 := hg16 w3 hE15 (Nat.le_refl _)
           have hy16 := hk16 _ _ _ hy15 (by decide)
           clear hg16 hk16
           go_wp2
           refine hK _ _ (fun _ _ => ⟨⟨_, hE16⟩, rfl⟩) ?_
           clear hK K
           obtain ⟨pf, cf, hvf⟩ := own_sl ho16
           subst hvf
           have hC16 : ∃ x : After w3, W16 = x.w := ⟨⟨_, hE16⟩, rfl⟩
           refine pi_t 14 rfl (by kernel_rfl) (by kernel_rfl) (fun _ _ _ _ h => h) (fun K hK => ?_)
           go_big_quiet_op
           refine hK _ ?_
           clear hK K
           have hyb : w3.heap.size ≤ w3.heap.size := by first | omega | (have := hE0; have := this.size; omega)
           have f0 := frozen_of hy16 0
           have f1 := frozen_of hy16 1
           have f2 := frozen_of hy16 2
           have f3 := frozen_of hy16 3
           have f4 := frozen_of hy16 4
           have f5 := frozen_of hy16 5
           have z0 := (cell_of hy16 0).trans rfl
           have z1 := (cell_of hy16 1).trans rfl
           have z2 := (cell_of hy16 2).trans rfl
           have z3 := (cell_of hy16 3).trans rfl
           have z4 := (cell_of hy16 4).trans rfl
           have z5 := (cell_of hy16 5).trans rfl
           have zl := lt_of hy16
           refine pi_l 16 rfl (by kernel_rfl) (fun K hK => ?_)
           go_wp2
           refine hK _ _ (by simp) ?_
           clear hK K
           refine pi_end (by kernel_rfl) ?_
           go_wp2_with fail
           refine fin6 (Φ := fun W' => Met _ _ W') (w := w3) (W := W16) hy16 hE16 hyb ?_
           intro Wf hf hEf hof
           go_meet
           refine ⟨_, _, rfl, hf, ?_, hEf⟩
           rw [HRL.out]
           have hr := own_off ho16 hy16 (by decide) hof
           exact UpsAt.of_row hr
--NEG1
       · have hus0 : us = [] := List.length_eq_zero_iff.1 (by omega)
         have hn0 : n = 0 := by omega
         have ha0 : a = 0 := by omega
         have hr0 : rotU us a = [] := by unfold rotU; rw [hus0]; simp
         clear hus0
         have HRL := Lib.hid hr0
         clear hr0
         rcases vp with _ | ⟨vg, vo, vs⟩
         · have hv0 : vc = 0 := by
             rcases HU3.out with ⟨⟨p, hp⟩, _⟩ | ⟨g, off, cap, hp, _⟩
             · exact (Value.slice.inj hp).2.2
             · cases (Value.slice.inj hp).1
           subst hv0
           have hC0 := af_drew w3
           refine pi_start (fun w' => ∃ x : After w3, w' = x.w) [16] (by kernel_rfl) ?_
           refine pi_t 0 rfl (by kernel_rfl) (by kernel_rfl) (fun _ _ _ _ h => h) (fun K hK => ?_)
           go_big_quiet_op
           refine hK _ ?_
           clear hK K
           refine pi_c 1 (by assumption) rfl (by kernel_rfl) (by kernel_rfl) (fun _ _ _ _ h => h) (fun K hK => ?_)
           go_big_quiet_op
           refine hK _ ?_
           clear hK K
           refine pi_t 3 rfl (by kernel_rfl) (by kernel_rfl) (fun _ _ _ _ h => h) (fun K hK => ?_)
           go_big_quiet_op
           refine hK _ ?_
           clear hK K
           refine pi_c 4 (by assumption) rfl (by kernel_rfl) (by kernel_rfl) (fun _ _ _ _ h => h) (fun K hK => ?_)
           go_big_quiet_op
           refine hK _ ?_
           clear hK K
           refine pi_t 5 rfl (by kernel_rfl) (by kernel_rfl) (fun _ _ _ _ h => h) (fun K hK => ?_)
           go_big_quiet_op
           refine hK _ ?_
           clear hK K
           refine pi_t 6 rfl (by kernel_rfl) (by kernel_rfl) (fun _ _ _ _ h => h) (fun K hK => ?_)
           go_big_quiet_op
           refine hK _ ?_
           clear hK K
           refine pi_t 7 rfl (by kernel_rfl) (by kernel_rfl) (fun _ _ _ _ h => h) (fun K hK => ?_)
           go_big_quiet_op
           refine hK _ ?_
           clear hK K
           refine pi_t 9 rfl (by kernel_rfl) (by kernel_rfl) (fun _ _ _ _ h => h) (fun K hK => ?_)
           go_big_quiet_op
           refine hK _ ?_
           clear hK K
           refine pi_c 10 (by assumption) rfl (by kernel_rfl) (by kernel_rfl) (fun _ _ _ _ h => h) (fun K hK => ?_)
           go_big_quiet_op
           refine hK _ ?_
           clear hK K
           refine pi_t 11 rfl (by kernel_rfl) (by kernel_rfl) (fun _ _ _ _ h => h) (fun K hK => ?_)
           go_big_quiet_op
           refine hK _ ?_
           clear hK K
           refine pi_t 12 rfl (by kernel_rfl) (by kernel_rfl) (fun _ _ _ _ h => h) (fun K hK => ?_)
           go_big_quiet_op
           refine hK _ ?_
           clear hK K
--GEN3
           refine pi_b 2 15 rfl rfl (by kernel_rfl) (fun K hK => ?_) (fun K hK => ?_)
           ·
             go_wp2
             refine hK _ _ (fun _ h => af_step h (Ext.alloc' _ _)) ?_
             clear hK K
             have hE1 : Ext w3 ((w3).alloc (Obj.cells #[] 38)) := (Ext.refl w3).allocR _
             have ho1 : World.ownsRow ((w3).alloc (Obj.cells #[] 38)) w3.heap.size 38 2 (.slice (some ⟨w3.heap.size, 0, none⟩) 0 0) ([] : List (Int × Int)).length (updV []) := ⟨rfl, .inr ⟨w3.heap.size, 0, #[], rfl, by omega, heap_at (w3) _ rfl, Nat.le_refl _, Nat.zero_le _, rfl, rfl⟩⟩
             refine pi_b 8 15 rfl rfl (by kernel_rfl) (fun K hK => ?_) (fun K hK => ?_)
             ·
               go_wp2
               refine hK _ _ (fun _ h => h) ?_
               clear hK K
               refine pi_b 13 15 rfl rfl (by kernel_rfl) (fun K hK => ?_) (fun K hK => ?_)
               ·
                 go_wp2
                 refine hK _ _ (fun _ h => h) ?_
                 clear hK K
                 refine pi_t 14 rfl (by kernel_rfl) (by kernel_rfl) (fun _ _ _ _ h => h) (fun K hK => ?_)
                 go_big_quiet_op
                 refine hK _ ?_
                 clear hK K
                 refine pi_l 15 rfl (by kernel_rfl) (fun K hK => ?_)
                 go_wp2
                 refine hK _ _ (fun _ h => af_step h (Ext.alloc' _ _)) ?_
                 clear hK K
                 have hE4 : Ext w3 (((w3).alloc (Obj.cells #[] 38)).alloc (Obj.cells #[.int .i64 0, .int .i64 0, .int .i64 0, .int .i64 0, .int .u64 0, .slice none 0 0] 64)) := hE1.allocR _
                 have hy4 : (((w3).alloc (Obj.cells #[] 38)).alloc (Obj.cells #[.int .i64 0, .int .i64 0, .int .i64 0, .int .i64 0, .int .u64 0, .slice none 0 0] 64)).heap[w3.heap.size + 1]? = some (Obj.cells #[.int .i64 0, .int .i64 0, .int .i64 0, .int .i64 0, .int .u64 0, .slice none 0 0] 64 (0, 0)) := heap_at ((w3).alloc (Obj.cells #[] 38)) _ (by rw [size_alloc])
                 have ho4 := ho1.alloc (Obj.cells #[.int .i64 0, .int .i64 0, .int .i64 0, .int .i64 0, .int .u64 0, .slice none 0 0] 64)
                 have hyb : w3.heap.size ≤ w3.heap.size + 1 := by first | omega | (have := hE0; have := this.size; omega)
                 generalize ((w3).alloc (Obj.cells #[] 38)).alloc (Obj.cells #[.int .i64 0, .int .i64 0, .int .i64 0, .int .i64 0, .int .u64 0, .slice none 0 0] 64) = Wz at *
                 generalize w3.heap.size + 1 = yb at *
                 have f0 := frozen_of hy4 0
                 have f1 := frozen_of hy4 1
                 have f2 := frozen_of hy4 2
                 have f3 := frozen_of hy4 3
                 have f4 := frozen_of hy4 4
                 have f5 := frozen_of hy4 5
                 have z0 := (cell_of hy4 0).trans rfl
                 have z1 := (cell_of hy4 1).trans rfl
                 have z2 := (cell_of hy4 2).trans rfl
                 have z3 := (cell_of hy4 3).trans rfl
                 have z4 := (cell_of hy4 4).trans rfl
                 have z5 := (cell_of hy4 5).trans rfl
                 have zl := lt_of hy4
                 refine pi_l 16 rfl (by kernel_rfl) (fun K hK => ?_)
                 go_wp2
                 refine hK _ _ (by simp) ?_
                 clear hK K
                 refine pi_end (by kernel_rfl) ?_
                 go_wp2_with fail
                 refine fin6 (Φ := fun W' => Met _ _ W'.drew) (w := w3) (W := Wz) hy4 hE4 hyb ?_
                 intro Wf hf hEf hof
                 go_meet
                 refine ⟨_, _, rfl, hf, ?_, Ext.drewR hEf⟩
                 rw [HRL.out]
                 have hr := own_off ho4 hy4 (by decide) hof
                 exact UpsAt.of_row (w := Wf.drew) hr
               ·
                 go_wp2
                 refine hK _ _ (fun _ h => af_step h (Ext.alloc' _ _)) ?_
                 clear hK K
                 have hE6 : Ext w3 (((w3).alloc (Obj.cells #[] 38)).alloc (Obj.cells #[.int .i64 0, .int .i64 0, .int .i64 0, .int .i64 0, .int .u64 0, .slice none 0 0] 64)) := hE1.allocR _
                 have hy6 : (((w3).alloc (Obj.cells #[] 38)).alloc (Obj.cells #[.int .i64 0, .int .i64 0, .int .i64 0, .int .i64 0, .int .u64 0, .slice none 0 0] 64)).heap[w3.heap.size + 1]? = some (Obj.cells #[.int .i64 0, .int .i64 0, .int .i64 0, .int .i64 0, .int .u64 0, .slice none 0 0] 64 (0, 0)) := heap_at ((w3).alloc (Obj.cells #[] 38)) _ (by rw [size_alloc])
                 have ho6 := ho1.alloc (Obj.cells #[.int .i64 0, .int .i64 0, .int .i64 0, .int .i64 0, .int .u64 0, .slice none 0 0] 64)
                 refine pi_l 13 rfl (by kernel_rfl) (fun K hK => ?_)
                 go_wp2
                 refine hK _ _ (fun _ h => h) ?_
                 clear hK K
                 refine pi_t 14 rfl (by kernel_rfl) (by kernel_rfl) (fun _ _ _ _ h => h) (fun K hK => ?_)
                 go_big_quiet_op
                 refine hK _ ?_
                 clear hK K
                 have hyb : w3.heap.size ≤ w3.heap.size + 1 := by first | omega | (have := hE0; have := this.size; omega)
                 generalize ((w3).alloc (Obj.cells #[] 38)).alloc (Obj.cells #[.int .i64 0, .int .i64 0, .int .i64 0, .int .i64 0, .int .u64 0, .slice none 0 0] 64) = Wz at *
                 generalize w3.heap.size + 1 = yb at *
                 have f0 := frozen_of hy6 0
                 have f1 := frozen_of hy6 1
                 have f2 := frozen_of hy6 2
                 have f3 := frozen_of hy6 3
                 have f4 := frozen_of hy6 4
                 have f5 := frozen_of hy6 5
                 have z0 := (cell_of hy6 0).trans rfl
                 have z1 := (cell_of hy6 1).trans rfl
                 have z2 := (cell_of hy6 2).trans rfl
                 have z3 := (cell_of hy6 3).trans rfl
                 have z4 := (cell_of hy6 4).trans rfl
                 have z5 := (cell_of hy6 5).trans rfl
                 have zl := lt_of hy6
                 refine pi_l 16 rfl (by kernel_rfl) (fun K hK => ?_)
                 go_wp2
                 refine hK _ _ (by simp) ?_
                 clear hK K
                 refine pi_end (by kernel_rfl) ?_
                 go_wp2_with fail
                 refine fin6 (Φ := fun W' => Met _ _ W'.drew) (w := w3) (W := Wz) hy6 hE6 hyb ?_
                 intro Wf hf hEf hof
                 go_meet
                 refine ⟨_, _, rfl, hf, ?_, Ext.drewR hEf⟩
                 rw [HRL.out]
                 have hr := own_off ho6 hy6 (by decide) hof
                 exact UpsAt.of_row (w := Wf.drew) hr
             ·
               go_wp2
               refine hK _ _ (fun _ h => af_step h (Ext.alloc' _ _)) ?_
               clear hK K
               have hE9 : Ext w3 (((w3).alloc (Obj.cells #[] 38)).alloc (Obj.cells #[.int .i64 0, .int .i64 0, .int .i64 0, .int .i64 0, .int .u64 0, .slice none 0 0] 64)) := hE1.allocR _
               have hy9 : (((w3).alloc (Obj.cells #[] 38)).alloc (Obj.cells #[.int .i64 0, .int .i64 0, .int .i64 0, .int .i64 0, .int .u64 0, .slice none 0 0] 64)).heap[w3.heap.size + 1]? = some (Obj.cells #[.int .i64 0, .int .i64 0, .int .i64 0, .int .i64 0, .int .u64 0, .slice none 0 0] 64 (0, 0)) := heap_at ((w3).alloc (Obj.cells #[] 38)) _ (by rw [size_alloc])
               have ho9 := ho1.alloc (Obj.cells #[.int .i64 0, .int .i64 0, .int .i64 0, .int .i64 0, .int .u64 0, .slice none 0 0] 64)
               refine pi_l 8 rfl (by kernel_rfl) (fun K hK => ?_)
               go_wp2
               refine hK _ _ (fun _ h => h) ?_
               clear hK K
               refine pi_l 13 rfl (by kernel_rfl) (fun K hK => ?_)
               go_wp2
               refine hK _ _ (fun _ h => h) ?_
               clear hK K
               refine pi_t 14 rfl (by kernel_rfl) (by kernel_rfl) (fun _ _ _ _ h => h) (fun K hK => ?_)
               go_big_quiet_op
               refine hK _ ?_
               clear hK K
               have hyb : w3.heap.size ≤ w3.heap.size + 1 := by first | omega | (have := hE0; have := this.size; omega)
               generalize ((w3).alloc (Obj.cells #[] 38)).alloc (Obj.cells #[.int .i64 0, .int .i64 0, .int .i64 0, .int .i64 0, .int .u64 0, .slice none 0 0] 64) = Wz at *
               generalize w3.heap.size + 1 = yb at *
               have f0 := frozen_of hy9 0
               have f1 := frozen_of hy9 1
               have f2 := frozen_of hy9 2
               have f3 := frozen_of hy9 3
               have f4 := frozen_of hy9 4
               have f5 := frozen_of hy9 5
               have z0 := (cell_of hy9 0).trans rfl
               have z1 := (cell_of hy9 1).trans rfl
               have z2 := (cell_of hy9 2).trans rfl
               have z3 := (cell_of hy9 3).trans rfl
               have z4 := (cell_of hy9 4).trans rfl
               have z5 := (cell_of hy9 5).trans rfl
               have zl := lt_of hy9
               refine pi_l 16 rfl (by kernel_rfl) (fun K hK => ?_)
               go_wp2
               refine hK _ _ (by simp) ?_
               clear hK K
               refine pi_end (by kernel_rfl) ?_
               go_wp2_with fail
               refine fin6 (Φ := fun W' => Met _ _ W'.drew) (w := w3) (W := Wz) hy9 hE9 hyb ?_
               intro Wf hf hEf hof
               go_meet
               refine ⟨_, _, rfl, hf, ?_, Ext.drewR hEf⟩
               rw [HRL.out]
               have hr := own_off ho9 hy9 (by decide) hof
               exact UpsAt.of_row (w := Wf.drew) hr
           ·
             go_wp2
             refine hK _ _ (fun _ h => af_step h (Ext.alloc' _ _)) ?_
             clear hK K
             have hE13 : Ext w3 ((w3).alloc (Obj.cells #[.int .i64 0, .int .i64 0, .int .i64 0, .int .i64 0, .int .u64 0, .slice none 0 0] 64)) := (Ext.refl w3).allocR _
             have hy13 : ((w3).alloc (Obj.cells #[.int .i64 0, .int .i64 0, .int .i64 0, .int .i64 0, .int .u64 0, .slice none 0 0] 64)).heap[w3.heap.size]? = some (Obj.cells #[.int .i64 0, .int .i64 0, .int .i64 0, .int .i64 0, .int .u64 0, .slice none 0 0] 64 (0, 0)) := heap_at (w3) _ rfl
             refine pi_l 2 rfl (by kernel_rfl) (fun K hK => ?_)
             go_wp2
             refine hK _ _ (fun _ h => af_step h (Ext.alloc' _ _)) ?_
             clear hK K
             have hE14 : Ext w3 (((w3).alloc (Obj.cells #[.int .i64 0, .int .i64 0, .int .i64 0, .int .i64 0, .int .u64 0, .slice none 0 0] 64)).alloc (Obj.cells #[] 38)) := hE13.allocR _
             have ho14 : World.ownsRow (((w3).alloc (Obj.cells #[.int .i64 0, .int .i64 0, .int .i64 0, .int .i64 0, .int .u64 0, .slice none 0 0] 64)).alloc (Obj.cells #[] 38)) w3.heap.size 38 2 (.slice (some ⟨w3.heap.size + 1, 0, none⟩) 0 0) ([] : List (Int × Int)).length (updV []) := ⟨rfl, .inr ⟨w3.heap.size + 1, 0, #[], rfl, by omega, heap_at ((w3).alloc (Obj.cells #[.int .i64 0, .int .i64 0, .int .i64 0, .int .i64 0, .int .u64 0, .slice none 0 0] 64)) _ (by rw [size_alloc]), Nat.le_refl _, Nat.zero_le _, rfl, rfl⟩⟩
             have hy14 : (((w3).alloc (Obj.cells #[.int .i64 0, .int .i64 0, .int .i64 0, .int .i64 0, .int .u64 0, .slice none 0 0] 64)).alloc (Obj.cells #[] 38)).heap[w3.heap.size]? = some (Obj.cells #[.int .i64 0, .int .i64 0, .int .i64 0, .int .i64 0, .int .u64 0, .slice none 0 0] 64 (0, 0)) := (heap_old ((w3).alloc (Obj.cells #[.int .i64 0, .int .i64 0, .int .i64 0, .int .i64 0, .int .u64 0, .slice none 0 0] 64)) _ (lt_of hy13)).trans hy13
             refine pi_l 8 rfl (by kernel_rfl) (fun K hK => ?_)
             go_wp2
             refine hK _ _ (fun _ h => h) ?_
             clear hK K
             refine pi_l 13 rfl (by kernel_rfl) (fun K hK => ?_)
             go_wp2
             refine hK _ _ (fun _ h => h) ?_
             clear hK K
             refine pi_t 14 rfl (by kernel_rfl) (by kernel_rfl) (fun _ _ _ _ h => h) (fun K hK => ?_)
             go_big_quiet_op
             refine hK _ ?_
             clear hK K
             have hyb : w3.heap.size ≤ w3.heap.size := by first | omega | (have := hE0; have := this.size; omega)
             generalize ((w3).alloc (Obj.cells #[.int .i64 0, .int .i64 0, .int .i64 0, .int .i64 0, .int .u64 0, .slice none 0 0] 64)).alloc (Obj.cells #[] 38) = Wz at *
             have f0 := frozen_of hy14 0
             have f1 := frozen_of hy14 1
             have f2 := frozen_of hy14 2
             have f3 := frozen_of hy14 3
             have f4 := frozen_of hy14 4
             have f5 := frozen_of hy14 5
             have z0 := (cell_of hy14 0).trans rfl
             have z1 := (cell_of hy14 1).trans rfl
             have z2 := (cell_of hy14 2).trans rfl
             have z3 := (cell_of hy14 3).trans rfl
             have z4 := (cell_of hy14 4).trans rfl
             have z5 := (cell_of hy14 5).trans rfl
             have zl := lt_of hy14
             refine pi_l 16 rfl (by kernel_rfl) (fun K hK => ?_)
             go_wp2
             refine hK _ _ (by simp) ?_
             clear hK K
             refine pi_end (by kernel_rfl) ?_
             go_wp2_with fail
             refine fin6 (Φ := fun W' => Met _ _ W'.drew) (w := w3) (W := Wz) hy14 hE14 hyb ?_
             intro Wf hf hEf hof
             go_meet
             refine ⟨_, _, rfl, hf, ?_, Ext.drewR hEf⟩
             rw [HRL.out]
             have hr := own_off ho14 hy14 (by decide) hof
             exact UpsAt.of_row (w := Wf.drew) hr
--NEG3
         by_cases hav : a = vc
         · subst hav
           have hC0 := af_drew w3
           refine pi_start (fun w' => ∃ x : After w3, w' = x.w) [16] (by kernel_rfl) ?_
           refine pi_t 0 rfl (by kernel_rfl) (by kernel_rfl) (fun _ _ _ _ h => h) (fun K hK => ?_)
           go_big_quiet_op
           refine hK _ ?_
           clear hK K
           refine pi_c 1 (by assumption) rfl (by kernel_rfl) (by kernel_rfl) (fun _ _ _ _ h => h) (fun K hK => ?_)
           go_big_quiet_op
           refine hK _ ?_
           clear hK K
           refine pi_t 3 rfl (by kernel_rfl) (by kernel_rfl) (fun _ _ _ _ h => h) (fun K hK => ?_)
           go_big_quiet_op
           refine hK _ ?_
           clear hK K
           refine pi_c 4 (by assumption) rfl (by kernel_rfl) (by kernel_rfl) (fun _ _ _ _ h => h) (fun K hK => ?_)
           go_big_quiet_op
           refine hK _ ?_
           clear hK K
           refine pi_t 5 rfl (by kernel_rfl) (by kernel_rfl) (fun _ _ _ _ h => h) (fun K hK => ?_)
           go_big_quiet_op
           refine hK _ ?_
           clear hK K
           refine pi_t 6 rfl (by kernel_rfl) (by kernel_rfl) (fun _ _ _ _ h => h) (fun K hK => ?_)
           go_big_quiet_op
           refine hK _ ?_
           clear hK K
           refine pi_t 7 rfl (by kernel_rfl) (by kernel_rfl) (fun _ _ _ _ h => h) (fun K hK => ?_)
           go_big_quiet_op
           refine hK _ ?_
           clear hK K
           refine pi_t 9 rfl (by kernel_rfl) (by kernel_rfl) (fun _ _ _ _ h => h) (fun K hK => ?_)
           go_big_quiet_op
           refine hK _ ?_
           clear hK K
           refine pi_c 10 (by assumption) rfl (by kernel_rfl) (by kernel_rfl) (fun _ _ _ _ h => h) (fun K hK => ?_)
           go_big_quiet_op
           refine hK _ ?_
           clear hK K
           refine pi_t 11 rfl (by kernel_rfl) (by kernel_rfl) (fun _ _ _ _ h => h) (fun K hK => ?_)
           go_big_quiet_op
           refine hK _ ?_
           clear hK K
           refine pi_t 12 rfl (by kernel_rfl) (by kernel_rfl) (fun _ _ _ _ h => h) (fun K hK => ?_)
           go_big_quiet_op
           refine hK _ ?_
           clear hK K
--GEN4
           refine pi_b 2 15 rfl rfl (by kernel_rfl) (fun K hK => ?_) (fun K hK => ?_)
           ·
             go_wp2
             refine hK _ _ (fun _ h => af_step h (Ext.alloc' _ _)) ?_
             clear hK K
             have hE1 : Ext w3 ((w3).alloc (Obj.cells #[] 38)) := (Ext.refl w3).allocR _
             have ho1 : World.ownsRow ((w3).alloc (Obj.cells #[] 38)) w3.heap.size 38 2 (.slice (some ⟨w3.heap.size, 0, none⟩) 0 0) ([] : List (Int × Int)).length (updV []) := ⟨rfl, .inr ⟨w3.heap.size, 0, #[], rfl, by omega, heap_at (w3) _ rfl, Nat.le_refl _, Nat.zero_le _, rfl, rfl⟩⟩
             refine pi_b 8 15 rfl rfl (by kernel_rfl) (fun K hK => ?_) (fun K hK => ?_)
             ·
               go_wp2
               refine hK _ _ (fun _ h => h) ?_
               clear hK K
               refine pi_b 13 15 rfl rfl (by kernel_rfl) (fun K hK => ?_) (fun K hK => ?_)
               ·
                 go_wp2
                 refine hK _ _ (fun _ h => h) ?_
                 clear hK K
                 refine pi_t 14 rfl (by kernel_rfl) (by kernel_rfl) (fun _ _ _ _ h => h) (fun K hK => ?_)
                 go_big_quiet_op
                 refine hK _ ?_
                 clear hK K
                 refine pi_l 15 rfl (by kernel_rfl) (fun K hK => ?_)
                 go_wp2
                 refine hK _ _ (fun _ h => af_step h (Ext.alloc' _ _)) ?_
                 clear hK K
                 have hE4 : Ext w3 (((w3).alloc (Obj.cells #[] 38)).alloc (Obj.cells #[.int .i64 0, .int .i64 0, .int .i64 0, .int .i64 0, .int .u64 0, .slice none 0 0] 64)) := hE1.allocR _
                 have hy4 : (((w3).alloc (Obj.cells #[] 38)).alloc (Obj.cells #[.int .i64 0, .int .i64 0, .int .i64 0, .int .i64 0, .int .u64 0, .slice none 0 0] 64)).heap[w3.heap.size + 1]? = some (Obj.cells #[.int .i64 0, .int .i64 0, .int .i64 0, .int .i64 0, .int .u64 0, .slice none 0 0] 64 (0, 0)) := heap_at ((w3).alloc (Obj.cells #[] 38)) _ (by rw [size_alloc])
                 have ho4 := ho1.alloc (Obj.cells #[.int .i64 0, .int .i64 0, .int .i64 0, .int .i64 0, .int .u64 0, .slice none 0 0] 64)
                 have hyb : w3.heap.size ≤ w3.heap.size + 1 := by first | omega | (have := hE0; have := this.size; omega)
                 generalize ((w3).alloc (Obj.cells #[] 38)).alloc (Obj.cells #[.int .i64 0, .int .i64 0, .int .i64 0, .int .i64 0, .int .u64 0, .slice none 0 0] 64) = Wz at *
                 generalize w3.heap.size + 1 = yb at *
                 have f0 := frozen_of hy4 0
                 have f1 := frozen_of hy4 1
                 have f2 := frozen_of hy4 2
                 have f3 := frozen_of hy4 3
                 have f4 := frozen_of hy4 4
                 have f5 := frozen_of hy4 5
                 have z0 := (cell_of hy4 0).trans rfl
                 have z1 := (cell_of hy4 1).trans rfl
                 have z2 := (cell_of hy4 2).trans rfl
                 have z3 := (cell_of hy4 3).trans rfl
                 have z4 := (cell_of hy4 4).trans rfl
                 have z5 := (cell_of hy4 5).trans rfl
                 have zl := lt_of hy4
                 refine pi_l 16 rfl (by kernel_rfl) (fun K hK => ?_)
                 go_wp2
                 refine hK _ _ (by simp) ?_
                 clear hK K
                 refine pi_end (by kernel_rfl) ?_
                 go_wp2_with fail
                 refine fin6 (Φ := fun W' => Met _ _ W'.drew) (w := w3) (W := Wz) hy4 hE4 hyb ?_
                 intro Wf hf hEf hof
                 go_meet
                 refine ⟨_, _, rfl, hf, ?_, Ext.drewR hEf⟩
                 rw [HRL.out]
                 have hr := own_off ho4 hy4 (by decide) hof
                 exact UpsAt.of_row (w := Wf.drew) hr
               ·
                 go_wp2
                 refine hK _ _ (fun _ h => af_step h (Ext.alloc' _ _)) ?_
                 clear hK K
                 have hE6 : Ext w3 (((w3).alloc (Obj.cells #[] 38)).alloc (Obj.cells #[.int .i64 0, .int .i64 0, .int .i64 0, .int .i64 0, .int .u64 0, .slice none 0 0] 64)) := hE1.allocR _
                 have hy6 : (((w3).alloc (Obj.cells #[] 38)).alloc (Obj.cells #[.int .i64 0, .int .i64 0, .int .i64 0, .int .i64 0, .int .u64 0, .slice none 0 0] 64)).heap[w3.heap.size + 1]? = some (Obj.cells #[.int .i64 0, .int .i64 0, .int .i64 0, .int .i64 0, .int .u64 0, .slice none 0 0] 64 (0, 0)) := heap_at ((w3).alloc (Obj.cells #[] 38)) _ (by rw [size_alloc])
                 have ho6 := ho1.alloc (Obj.cells #[.int .i64 0, .int .i64 0, .int .i64 0, .int .i64 0, .int .u64 0, .slice none 0 0] 64)
                 refine pi_l 13 rfl (by kernel_rfl) (fun K hK => ?_)
                 go_wp2
                 refine hK _ _ (fun _ h => h) ?_
                 clear hK K
                 refine pi_t 14 rfl (by kernel_rfl) (by kernel_rfl) (fun _ _ _ _ h => h) (fun K hK => ?_)
                 go_big_quiet_op
                 refine hK _ ?_
                 clear hK K
                 have hyb : w3.heap.size ≤ w3.heap.size + 1 := by first | omega | (have := hE0; have := this.size; omega)
                 generalize ((w3).alloc (Obj.cells #[] 38)).alloc (Obj.cells #[.int .i64 0, .int .i64 0, .int .i64 0, .int .i64 0, .int .u64 0, .slice none 0 0] 64) = Wz at *
                 generalize w3.heap.size + 1 = yb at *
                 have f0 := frozen_of hy6 0
                 have f1 := frozen_of hy6 1
                 have f2 := frozen_of hy6 2
                 have f3 := frozen_of hy6 3
                 have f4 := frozen_of hy6 4
                 have f5 := frozen_of hy6 5
                 have z0 := (cell_of hy6 0).trans rfl
                 have z1 := (cell_of hy6 1).trans rfl
                 have z2 := (cell_of hy6 2).trans rfl
                 have z3 := (cell_of hy6 3).trans rfl
                 have z4 := (cell_of hy6 4).trans rfl
                 have z5 := (cell_of hy6 5).trans rfl
                 have zl := lt_of hy6
                 refine pi_l 16 rfl (by kernel_rfl) (fun K hK => ?_)
                 go_wp2
                 refine hK _ _ (by simp) ?_
                 clear hK K
                 refine pi_end (by kernel_rfl) ?_
                 go_wp2_with fail
                 refine fin6 (Φ := fun W' => Met _ _ W'.drew) (w := w3) (W := Wz) hy6 hE6 hyb ?_
                 intro Wf hf hEf hof
                 go_meet
                 refine ⟨_, _, rfl, hf, ?_, Ext.drewR hEf⟩
                 rw [HRL.out]
                 have hr := own_off ho6 hy6 (by decide) hof
                 exact UpsAt.of_row (w := Wf.drew) hr
             ·
               go_wp2
               refine hK _ _ (fun _ h => af_step h (Ext.alloc' _ _)) ?_
               clear hK K
               have hE9 : Ext w3 (((w3).alloc (Obj.cells #[] 38)).alloc (Obj.cells #[.int .i64 0, .int .i64 0, .int .i64 0, .int .i64 0, .int .u64 0, .slice none 0 0] 64)) := hE1.allocR _
               have hy9 : (((w3).alloc (Obj.cells #[] 38)).alloc (Obj.cells #[.int .i64 0, .int .i64 0, .int .i64 0, .int .i64 0, .int .u64 0, .slice none 0 0] 64)).heap[w3.heap.size + 1]? = some (Obj.cells #[.int .i64 0, .int .i64 0, .int .i64 0, .int .i64 0, .int .u64 0, .slice none 0 0] 64 (0, 0)) := heap_at ((w3).alloc (Obj.cells #[] 38)) _ (by rw [size_alloc])
               have ho9 := ho1.alloc (Obj.cells #[.int .i64 0, .int .i64 0, .int .i64 0, .int .i64 0, .int .u64 0, .slice none 0 0] 64)
               refine pi_l 8 rfl (by kernel_rfl) (fun K hK => ?_)
               go_wp2
               refine hK _ _ (fun _ h => h) ?_
               clear hK K
               refine pi_l 13 rfl (by kernel_rfl) (fun K hK => ?_)
               go_wp2
               refine hK _ _ (fun _ h => h) ?_
               clear hK K
               refine pi_t 14 rfl (by kernel_rfl) (by kernel_rfl) (fun _ _ _ _ h => h) (fun K hK => ?_)
               go_big_quiet_op
               refine hK _ ?_
               clear hK K
               have hyb : w3.heap.size ≤ w3.heap.size + 1 := by first | omega | (have := hE0; have := this.size; omega)
               generalize ((w3).alloc (Obj.cells #[] 38)).alloc (Obj.cells #[.int .i64 0, .int .i64 0, .int .i64 0, .int .i64 0, .int .u64 0, .slice none 0 0] 64) = Wz at *
               generalize w3.heap.size + 1 = yb at *
               have f0 := frozen_of hy9 0
               have f1 := frozen_of hy9 1
               have f2 := frozen_of hy9 2
               have f3 := frozen_of hy9 3
               have f4 := frozen_of hy9 4
               have f5 := frozen_of hy9 5
               have z0 := (cell_of hy9 0).trans rfl
               have z1 := (cell_of hy9 1).trans rfl
               have z2 := (cell_of hy9 2).trans rfl
               have z3 := (cell_of hy9 3).trans rfl
               have z4 := (cell_of hy9 4).trans rfl
               have z5 := (cell_of hy9 5).trans rfl
               have zl := lt_of hy9
               refine pi_l 16 rfl (by kernel_rfl) (fun K hK => ?_)
               go_wp2
               refine hK _ _ (by simp) ?_
               clear hK K
               refine pi_end (by kernel_rfl) ?_
               go_wp2_with fail
               refine fin6 (Φ := fun W' => Met _ _ W'.drew) (w := w3) (W := Wz) hy9 hE9 hyb ?_
               intro Wf hf hEf hof
               go_meet
               refine ⟨_, _, rfl, hf, ?_, Ext.drewR hEf⟩
               rw [HRL.out]
               have hr := own_off ho9 hy9 (by decide) hof
               exact UpsAt.of_row (w := Wf.drew) hr
           ·
             go_wp2
             refine hK _ _ (fun _ h => af_step h (Ext.alloc' _ _)) ?_
             clear hK K
             have hE13 : Ext w3 ((w3).alloc (Obj.cells #[.int .i64 0, .int .i64 0, .int .i64 0, .int .i64 0, .int .u64 0, .slice none 0 0] 64)) := (Ext.refl w3).allocR _
             have hy13 : ((w3).alloc (Obj.cells #[.int .i64 0, .int .i64 0, .int .i64 0, .int .i64 0, .int .u64 0, .slice none 0 0] 64)).heap[w3.heap.size]? = some (Obj.cells #[.int .i64 0, .int .i64 0, .int .i64 0, .int .i64 0, .int .u64 0, .slice none 0 0] 64 (0, 0)) := heap_at (w3) _ rfl
             refine pi_l 2 rfl (by kernel_rfl) (fun K hK => ?_)
             go_wp2
             refine hK _ _ (fun _ h => af_step h (Ext.alloc' _ _)) ?_
             clear hK K
             have hE14 : Ext w3 (((w3).alloc (Obj.cells #[.int .i64 0, .int .i64 0, .int .i64 0, .int .i64 0, .int .u64 0, .slice none 0 0] 64)).alloc (Obj.cells #[] 38)) := hE13.allocR _
             have ho14 : World.ownsRow (((w3).alloc (Obj.cells #[.int .i64 0, .int .i64 0, .int .i64 0, .int .i64 0, .int .u64 0, .slice none 0 0] 64)).alloc (Obj.cells #[] 38)) w3.heap.size 38 2 (.slice (some ⟨w3.heap.size + 1, 0, none⟩) 0 0) ([] : List (Int × Int)).length (updV []) := ⟨rfl, .inr ⟨w3.heap.size + 1, 0, #[], rfl, by omega, heap_at ((w3).alloc (Obj.cells #[.int .i64 0, .int .i64 0, .int .i64 0, .int .i64 0, .int .u64 0, .slice none 0 0] 64)) _ (by rw [size_alloc]), Nat.le_refl _, Nat.zero_le _, rfl, rfl⟩⟩
             have hy14 : (((w3).alloc (Obj.cells #[.int .i64 0, .int .i64 0, .int .i64 0, .int .i64 0, .int .u64 0, .slice none 0 0] 64)).alloc (Obj.cells #[] 38)).heap[w3.heap.size]? = some (Obj.cells #[.int .i64 0, .int .i64 0, .int .i64 0, .int .i64 0, .int .u64 0, .slice none 0 0] 64 (0, 0)) := (heap_old ((w3).alloc (Obj.cells #[.int .i64 0, .int .i64 0, .int .i64 0, .int .i64 0, .int .u64 0, .slice none 0 0] 64)) _ (lt_of hy13)).trans hy13
             refine pi_l 8 rfl (by kernel_rfl) (fun K hK => ?_)
             go_wp2
             refine hK _ _ (fun _ h => h) ?_
             clear hK K
             refine pi_l 13 rfl (by kernel_rfl) (fun K hK => ?_)
             go_wp2
             refine hK _ _ (fun _ h => h) ?_
             clear hK K
             refine pi_t 14 rfl (by kernel_rfl) (by kernel_rfl) (fun _ _ _ _ h => h) (fun K hK => ?_)
             go_big_quiet_op
             refine hK _ ?_
             clear hK K
             have hyb : w3.heap.size ≤ w3.heap.size := by first | omega | (have := hE0; have := this.size; omega)
             generalize ((w3).alloc (Obj.cells #[.int .i64 0, .int .i64 0, .int .i64 0, .int .i64 0, .int .u64 0, .slice none 0 0] 64)).alloc (Obj.cells #[] 38) = Wz at *
             have f0 := frozen_of hy14 0
             have f1 := frozen_of hy14 1
             have f2 := frozen_of hy14 2
             have f3 := frozen_of hy14 3
             have f4 := frozen_of hy14 4
             have f5 := frozen_of hy14 5
             have z0 := (cell_of hy14 0).trans rfl
             have z1 := (cell_of hy14 1).trans rfl
             have z2 := (cell_of hy14 2).trans rfl
             have z3 := (cell_of hy14 3).trans rfl
             have z4 := (cell_of hy14 4).trans rfl
             have z5 := (cell_of hy14 5).trans rfl
             have zl := lt_of hy14
             refine pi_l 16 rfl (by kernel_rfl) (fun K hK => ?_)
             go_wp2
             refine hK _ _ (by simp) ?_
             clear hK K
             refine pi_end (by kernel_rfl) ?_
             go_wp2_with fail
             refine fin6 (Φ := fun W' => Met _ _ W'.drew) (w := w3) (W := Wz) hy14 hE14 hyb ?_
             intro Wf hf hEf hof
             go_meet
             refine ⟨_, _, rfl, hf, ?_, Ext.drewR hEf⟩
             rw [HRL.out]
             have hr := own_off ho14 hy14 (by decide) hof
             exact UpsAt.of_row (w := Wf.drew) hr
--NEG4
         have hav2 : a < vc := by omega
         have hC0 := af_drew w3
         refine pi_start (fun w' => ∃ x : After w3, w' = x.w) [16] (by kernel_rfl) ?_
         refine pi_t 0 rfl (by kernel_rfl) (by kernel_rfl) (fun _ _ _ _ h => h) (fun K hK => ?_)
         go_big_quiet_op
         refine hK _ ?_
         clear hK K
         refine pi_c 1 (by assumption) rfl (by kernel_rfl) (by kernel_rfl) (fun _ _ _ _ h => h) (fun K hK => ?_)
         go_big_quiet_op
         refine hK _ ?_
         clear hK K
         refine pi_t 3 rfl (by kernel_rfl) (by kernel_rfl) (fun _ _ _ _ h => h) (fun K hK => ?_)
         go_big_quiet_op
         refine hK _ ?_
         clear hK K
         refine pi_c 4 (by assumption) rfl (by kernel_rfl) (by kernel_rfl) (fun _ _ _ _ h => h) (fun K hK => ?_)
         go_big_quiet_op
         refine hK _ ?_
         clear hK K
         refine pi_t 5 rfl (by kernel_rfl) (by kernel_rfl) (fun _ _ _ _ h => h) (fun K hK => ?_)
         go_big_quiet_op
         refine hK _ ?_
         clear hK K
         refine pi_t 6 rfl (by kernel_rfl) (by kernel_rfl) (fun _ _ _ _ h => h) (fun K hK => ?_)
         go_big_quiet_op
         refine hK _ ?_
         clear hK K
         refine pi_t 7 rfl (by kernel_rfl) (by kernel_rfl) (fun _ _ _ _ h => h) (fun K hK => ?_)
         go_big_quiet_op
         refine hK _ ?_
         clear hK K
         refine pi_t 9 rfl (by kernel_rfl) (by kernel_rfl) (fun _ _ _ _ h => h) (fun K hK => ?_)
         go_big_quiet_op
         refine hK _ ?_
         clear hK K
         refine pi_c 10 (by assumption) rfl (by kernel_rfl) (by kernel_rfl) (fun _ _ _ _ h => h) (fun K hK => ?_)
         go_big_quiet_op
         refine hK _ ?_
         clear hK K
         refine pi_t 11 rfl (by kernel_rfl) (by kernel_rfl) (fun _ _ _ _ h => h) (fun K hK => ?_)
         go_big_quiet_op
         refine hK _ ?_
         clear hK K
         refine pi_t 12 rfl (by kernel_rfl) (by kernel_rfl) (fun _ _ _ _ h => h) (fun K hK => ?_)
         go_big_quiet_op
         refine hK _ ?_
         clear hK K
--GEN5
         refine pi_b 2 15 rfl rfl (by kernel_rfl) (fun K hK => ?_) (fun K hK => ?_)
         ·
           go_wp2
           refine hK _ _ (fun _ h => af_step h (Ext.alloc' _ _)) ?_
           clear hK K
           have hE1 : Ext w3 ((w3).alloc (Obj.cells #[] 38)) := (Ext.refl w3).allocR _
           have ho1 : World.ownsRow ((w3).alloc (Obj.cells #[] 38)) w3.heap.size 38 2 (.slice (some ⟨w3.heap.size, 0, none⟩) 0 0) ([] : List (Int × Int)).length (updV []) := ⟨rfl, .inr ⟨w3.heap.size, 0, #[], rfl, by omega, heap_at (w3) _ rfl, Nat.le_refl _, Nat.zero_le _, rfl, rfl⟩⟩
           refine pi_b 8 15 rfl rfl (by kernel_rfl) (fun K hK => ?_) (fun K hK => ?_)
           ·
             go_wp2
             refine hK _ _ (fun _ h => h) ?_
             clear hK K
             refine pi_b 13 15 rfl rfl (by kernel_rfl) (fun K hK => ?_) (fun K hK => ?_)
             ·
               go_wp2
               refine hK _ _ (fun _ h => h) ?_
               clear hK K
               refine pi_t 14 rfl (by kernel_rfl) (by kernel_rfl) (fun _ _ _ _ h => h) (fun K hK => ?_)
               go_big_quiet_op
               refine hK _ ?_
               clear hK K
               refine pi_l 15 rfl (by kernel_rfl) (fun K hK => ?_)
               go_wp2
               refine hK _ _ (fun _ h => af_step h (Ext.alloc' _ _)) ?_
               clear hK K
               have hE4 : Ext w3 (((w3).alloc (Obj.cells #[] 38)).alloc (Obj.cells #[.int .i64 0, .int .i64 0, .int .i64 0, .int .i64 0, .int .u64 0, .slice none 0 0] 64)) := hE1.allocR _
               have hy4 : (((w3).alloc (Obj.cells #[] 38)).alloc (Obj.cells #[.int .i64 0, .int .i64 0, .int .i64 0, .int .i64 0, .int .u64 0, .slice none 0 0] 64)).heap[w3.heap.size + 1]? = some (Obj.cells #[.int .i64 0, .int .i64 0, .int .i64 0, .int .i64 0, .int .u64 0, .slice none 0 0] 64 (0, 0)) := heap_at ((w3).alloc (Obj.cells #[] 38)) _ (by rw [size_alloc])
               have ho4 := ho1.alloc (Obj.cells #[.int .i64 0, .int .i64 0, .int .i64 0, .int .i64 0, .int .u64 0, .slice none 0 0] 64)
               have hyb : w3.heap.size ≤ w3.heap.size + 1 := by first | omega | (have := hE0; have := this.size; omega)
               generalize ((w3).alloc (Obj.cells #[] 38)).alloc (Obj.cells #[.int .i64 0, .int .i64 0, .int .i64 0, .int .i64 0, .int .u64 0, .slice none 0 0] 64) = Wz at *
               generalize w3.heap.size + 1 = yb at *
               have f0 := frozen_of hy4 0
               have f1 := frozen_of hy4 1
               have f2 := frozen_of hy4 2
               have f3 := frozen_of hy4 3
               have f4 := frozen_of hy4 4
               have f5 := frozen_of hy4 5
               have z0 := (cell_of hy4 0).trans rfl
               have z1 := (cell_of hy4 1).trans rfl
               have z2 := (cell_of hy4 2).trans rfl
               have z3 := (cell_of hy4 3).trans rfl
               have z4 := (cell_of hy4 4).trans rfl
               have z5 := (cell_of hy4 5).trans rfl
               have zl := lt_of hy4
               refine pi_l 16 rfl (by kernel_rfl) (fun K hK => ?_)
               go_wp2
               refine hK _ _ (by simp) ?_
               clear hK K
               refine pi_end (by kernel_rfl) ?_
               go_wp2_with fail
               refine fin6 (Φ := fun W' => Met _ _ W'.drew) (w := w3) (W := Wz) hy4 hE4 hyb ?_
               intro Wf hf hEf hof
               go_meet
               refine ⟨_, _, rfl, hf, ?_, Ext.drewR hEf⟩
               rw [HRL.out]
               have hr := own_off ho4 hy4 (by decide) hof
               exact UpsAt.of_row (w := Wf.drew) hr
             ·
               go_wp2
               refine hK _ _ (fun _ h => af_step h (Ext.alloc' _ _)) ?_
               clear hK K
               have hE6 : Ext w3 (((w3).alloc (Obj.cells #[] 38)).alloc (Obj.cells #[.int .i64 0, .int .i64 0, .int .i64 0, .int .i64 0, .int .u64 0, .slice none 0 0] 64)) := hE1.allocR _
               have hy6 : (((w3).alloc (Obj.cells #[] 38)).alloc (Obj.cells #[.int .i64 0, .int .i64 0, .int .i64 0, .int .i64 0, .int .u64 0, .slice none 0 0] 64)).heap[w3.heap.size + 1]? = some (Obj.cells #[.int .i64 0, .int .i64 0, .int .i64 0, .int .i64 0, .int .u64 0, .slice none 0 0] 64 (0, 0)) := heap_at ((w3).alloc (Obj.cells #[] 38)) _ (by rw [size_alloc])
               have ho6 := ho1.alloc (Obj.cells #[.int .i64 0, .int .i64 0, .int .i64 0, .int .i64 0, .int .u64 0, .slice none 0 0] 64)
               refine pi_l 13 rfl (by kernel_rfl) (fun K hK => ?_)
               go_wp2
               refine hK _ _ (fun _ h => h) ?_
               clear hK K
               refine pi_t 14 rfl (by kernel_rfl) (by kernel_rfl) (fun _ _ _ _ h => h) (fun K hK => ?_)
               go_big_quiet_op
               refine hK _ ?_
               clear hK K
               have hyb : w3.heap.size ≤ w3.heap.size + 1 := by first | omega | (have := hE0; have := this.size; omega)
               generalize ((w3).alloc (Obj.cells #[] 38)).alloc (Obj.cells #[.int .i64 0, .int .i64 0, .int .i64 0, .int .i64 0, .int .u64 0, .slice none 0 0] 64) = Wz at *
               generalize w3.heap.size + 1 = yb at *
               have f0 := frozen_of hy6 0
               have f1 := frozen_of hy6 1
               have f2 := frozen_of hy6 2
               have f3 := frozen_of hy6 3
               have f4 := frozen_of hy6 4
               have f5 := frozen_of hy6 5
               have z0 := (cell_of hy6 0).trans rfl
               have z1 := (cell_of hy6 1).trans rfl
               have z2 := (cell_of hy6 2).trans rfl
               have z3 := (cell_of hy6 3).trans rfl
               have z4 := (cell_of hy6 4).trans rfl
               have z5 := (cell_of hy6 5).trans rfl
               have zl := lt_of hy6
               refine pi_l 16 rfl (by kernel_rfl) (fun K hK => ?_)
               go_wp2
               refine hK _ _ (by simp) ?_
               clear hK K
               refine pi_end (by kernel_rfl) ?_
               go_wp2_with fail
               refine fin6 (Φ := fun W' => Met _ _ W'.drew) (w := w3) (W := Wz) hy6 hE6 hyb ?_
               intro Wf hf hEf hof
               go_meet
               refine ⟨_, _, rfl, hf, ?_, Ext.drewR hEf⟩
               rw [HRL.out]
               have hr := own_off ho6 hy6 (by decide) hof
               exact UpsAt.of_row (w := Wf.drew) hr
           ·
             go_wp2
             refine hK _ _ (fun _ h => af_step h (Ext.alloc' _ _)) ?_
             clear hK K
             have hE9 : Ext w3 (((w3).alloc (Obj.cells #[] 38)).alloc (Obj.cells #[.int .i64 0, .int .i64 0, .int .i64 0, .int .i64 0, .int .u64 0, .slice none 0 0] 64)) := hE1.allocR _
             have hy9 : (((w3).alloc (Obj.cells #[] 38)).alloc (Obj.cells #[.int .i64 0, .int .i64 0, .int .i64 0, .int .i64 0, .int .u64 0, .slice none 0 0] 64)).heap[w3.heap.size + 1]? = some (Obj.cells #[.int .i64 0, .int .i64 0, .int .i64 0, .int .i64 0, .int .u64 0, .slice none 0 0] 64 (0, 0)) := heap_at ((w3).alloc (Obj.cells #[] 38)) _ (by rw [size_alloc])
             have ho9 := ho1.alloc (Obj.cells #[.int .i64 0, .int .i64 0, .int .i64 0, .int .i64 0, .int .u64 0, .slice none 0 0] 64)
             refine pi_l 8 rfl (by kernel_rfl) (fun K hK => ?_)
             go_wp2
             refine hK _ _ (fun _ h => h) ?_
             clear hK K
             refine pi_l 13 rfl (by kernel_rfl) (fun K hK => ?_)
             go_wp2
             refine hK _ _ (fun _ h => h) ?_
             clear hK K
             refine pi_t 14 rfl (by kernel_rfl) (by kernel_rfl) (fun _ _ _ _ h => h) (fun K hK => ?_)
             go_big_quiet_op
             refine hK _ ?_
             clear hK K
             have hyb : w3.heap.size ≤ w3.heap.size + 1 := by first | omega | (have := hE0; have := this.size; omega)
             generalize ((w3).alloc (Obj.cells #[] 38)).alloc (Obj.cells #[.int .i64 0, .int .i64 0, .int .i64 0, .int .i64 0, .int .u64 0, .slice none 0 0] 64) = Wz at *
             generalize w3.heap.size + 1 = yb at *
             have f0 := frozen_of hy9 0
             have f1 := frozen_of hy9 1
             have f2 := frozen_of hy9 2
             have f3 := frozen_of hy9 3
             have f4 := frozen_of hy9 4
             have f5 := frozen_of hy9 5
             have z0 := (cell_of hy9 0).trans rfl
             have z1 := (cell_of hy9 1).trans rfl
             have z2 := (cell_of hy9 2).trans rfl
             have z3 := (cell_of hy9 3).trans rfl
             have z4 := (cell_of hy9 4).trans rfl
             have z5 := (cell_of hy9 5).trans rfl
             have zl := lt_of hy9
             refine pi_l 16 rfl (by kernel_rfl) (fun K hK => ?_)
             go_wp2
             refine hK _ _ (by simp) ?_
             clear hK K
             refine pi_end (by kernel_rfl) ?_
             go_wp2_with fail
             refine fin6 (Φ := fun W' => Met _ _ W'.drew) (w := w3) (W := Wz) hy9 hE9 hyb ?_
             intro Wf hf hEf hof
             go_meet
             refine ⟨_, _, rfl, hf, ?_, Ext.drewR hEf⟩
             rw [HRL.out]
             have hr := own_off ho9 hy9 (by decide) hof
             exact UpsAt.of_row (w := Wf.drew) hr
         ·
           go_wp2
           refine hK _ _ (fun _ h => af_step h (Ext.alloc' _ _)) ?_
           clear hK K
           have hE13 : Ext w3 ((w3).alloc (Obj.cells #[.int .i64 0, .int .i64 0, .int .i64 0, .int .i64 0, .int .u64 0, .slice none 0 0] 64)) := (Ext.refl w3).allocR _
           have hy13 : ((w3).alloc (Obj.cells #[.int .i64 0, .int .i64 0, .int .i64 0, .int .i64 0, .int .u64 0, .slice none 0 0] 64)).heap[w3.heap.size]? = some (Obj.cells #[.int .i64 0, .int .i64 0, .int .i64 0, .int .i64 0, .int .u64 0, .slice none 0 0] 64 (0, 0)) := heap_at (w3) _ rfl
           refine pi_l 2 rfl (by kernel_rfl) (fun K hK => ?_)
           go_wp2
           refine hK _ _ (fun _ h => af_step h (Ext.alloc' _ _)) ?_
           clear hK K
           have hE14 : Ext w3 (((w3).alloc (Obj.cells #[.int .i64 0, .int .i64 0, .int .i64 0, .int .i64 0, .int .u64 0, .slice none 0 0] 64)).alloc (Obj.cells #[] 38)) := hE13.allocR _
           have ho14 : World.ownsRow (((w3).alloc (Obj.cells #[.int .i64 0, .int .i64 0, .int .i64 0, .int .i64 0, .int .u64 0, .slice none 0 0] 64)).alloc (Obj.cells #[] 38)) w3.heap.size 38 2 (.slice (some ⟨w3.heap.size + 1, 0, none⟩) 0 0) ([] : List (Int × Int)).length (updV []) := ⟨rfl, .inr ⟨w3.heap.size + 1, 0, #[], rfl, by omega, heap_at ((w3).alloc (Obj.cells #[.int .i64 0, .int .i64 0, .int .i64 0, .int .i64 0, .int .u64 0, .slice none 0 0] 64)) _ (by rw [size_alloc]), Nat.le_refl _, Nat.zero_le _, rfl, rfl⟩⟩
           have hy14 : (((w3).alloc (Obj.cells #[.int .i64 0, .int .i64 0, .int .i64 0, .int .i64 0, .int .u64 0, .slice none 0 0] 64)).alloc (Obj.cells #[] 38)).heap[w3.heap.size]? = some (Obj.cells #[.int .i64 0, .int .i64 0, .int .i64 0, .int .i64 0, .int .u64 0, .slice none 0 0] 64 (0, 0)) := (heap_old ((w3).alloc (Obj.cells #[.int .i64 0, .int .i64 0, .int .i64 0, .int .i64 0, .int .u64 0, .slice none 0 0] 64)) _ (lt_of hy13)).trans hy13
           refine pi_l 8 rfl (by kernel_rfl) (fun K hK => ?_)
           go_wp2
           refine hK _ _ (fun _ h => h) ?_
           clear hK K
           refine pi_l 13 rfl (by kernel_rfl) (fun K hK => ?_)
           go_wp2
           refine hK _ _ (fun _ h => h) ?_
           clear hK K
           refine pi_t 14 rfl (by kernel_rfl) (by kernel_rfl) (fun _ _ _ _ h => h) (fun K hK => ?_)
           go_big_quiet_op
           refine hK _ ?_
           clear hK K
           have hyb : w3.heap.size ≤ w3.heap.size := by first | omega | (have := hE0; have := this.size; omega)
           generalize ((w3).alloc (Obj.cells #[.int .i64 0, .int .i64 0, .int .i64 0, .int .i64 0, .int .u64 0, .slice none 0 0] 64)).alloc (Obj.cells #[] 38) = Wz at *
           have f0 := frozen_of hy14 0
           have f1 := frozen_of hy14 1
           have f2 := frozen_of hy14 2
           have f3 := frozen_of hy14 3
           have f4 := frozen_of hy14 4
           have f5 := frozen_of hy14 5
           have z0 := (cell_of hy14 0).trans rfl
           have z1 := (cell_of hy14 1).trans rfl
           have z2 := (cell_of hy14 2).trans rfl
           have z3 := (cell_of hy14 3).trans rfl
           have z4 := (cell_of hy14 4).trans rfl
           have z5 := (cell_of hy14 5).trans rfl
           have zl := lt_of hy14
           refine pi_l 16 rfl (by kernel_rfl) (fun K hK => ?_)
           go_wp2
           refine hK _ _ (by simp) ?_
           clear hK K
           refine pi_end (by kernel_rfl) ?_
           go_wp2_with fail
           refine fin6 (Φ := fun W' => Met _ _ W'.drew) (w := w3) (W := Wz) hy14 hE14 hyb ?_
           intro Wf hf hEf hof
           go_meet
           refine ⟨_, _, rfl, hf, ?_, Ext.drewR hEf⟩
           rw [HRL.out]
           have hr := own_off ho14 hy14 (by decide) hof
           exact UpsAt.of_row (w := Wf.drew) hr
--NEG5
     case rest =>
      obtain ⟨yb, v', rfl, hY, hUY, hxy⟩ := hcut
      obtain ⟨yp, yc, rfl⟩ := hUY.sl
      have hry := rotU_ok hus a
      have hlen := rotU_len (us := us) (a := a) (by omega)
      have hrf : ∀ k : Nat, k ≤ B → feedK C (fus (rotU us a) 0 60) k = feedK C (fus us 0 60) k := fun k hk => rot_feed hok (by have := HB.out; omega) hus hmn (by omega)
      have HRF := Lib.hid hrf
      have hEy := hE3.trans' hxy
      have hK4 := hK3.ext hxy
      have hC4 := hC3.ext hxy
      have p0 := (cell_of hY 0).trans rfl
      have p1 := (cell_of hY 1).trans rfl
      have p2 := (cell_of hY 2).trans rfl
      have p3 := (cell_of hY 3).trans rfl
      have p4 := (cell_of hY 4).trans rfl
      have p5 := (cell_of hY 5).trans rfl
      have pl := lt_of hY
      have HUY := Lib.hid hUY
      clear hrf hrl hxy hUY hE3 hK3 hC3 HU3 hP3 hY
      generalize rotU us a = ry at *
      go_wp2_with fail
      refine Calls.mono (fed15_c x hx 10 (by decide) (by decide) m (by omega) hm3 ry hry _ 0 60 (by decide) (by decide) _ HUY.out (by omega)) ?_
      rintro e w5 ⟨s2, g2, L2, rfl, hT, hs2, hg2, hF2, hx5⟩
      rw [HCC.out, HBT.out] at hT
      rw [HCC.out]
      have hE5 := hEy.trans' hx5
      have hK5 := hK4.ext hx5
      have hC5 := hC4.ext hx5
      clear p0 p1 p2 p3 p4 p5 pl hs2 hg2 hF2 hx5 hK4 hC4 hEy HUY
      go_wp2
      obtain ⟨w6, hw6⟩ : ∃ w6, w5.alloc (.cells #[.int .i64 C.bits, .int .i64 C.rows, .int .i64 C.width, .int .i64 C.mode, .int .u64 C.seed] 24) = w6 := ⟨_, rfl⟩
      have hx6 : Ext w5 w6 := by rw [← hw6]; exact Ext.alloc' _ _
      have hK6 := hK5.ext hx6
      have hT6 := hT.ext hx6
      have hC6 := hC5.ext hx6
      have hE6 := hE5.trans' hx6
      rw [hw6]
      clear hw6 hx6 hK5 hT hC5 hE5
      have hBd : B ≤ 59 := by have := HB.out; omega
      go_loopw [15] (fun u15 wr => ∃ k : Nat, k ≤ B + 1 ∧ u15 = .int .i64 k ∧ Ext w6 wr) (fun u15 _ => B + 1 - (intOf u15).toNat)
      case atStart => exact ⟨0, Nat.zero_le _, rfl, Ext.refl _⟩
      case round =>
        obtain ⟨k, hk, rfl, hEr⟩ := hrel
        have hCr := hC6.ext hEr
        have c0 := hCr.c0
        rw [HB.out] at c0
        have cl := hCr.lt
        have HK := Lib.hid (hK6.ext hEr)
        have HT := Lib.hid (hT6.ext hEr)
        clear hCr
        by_cases hgo : k ≤ B
        · go_wp2_with fail
          refine (KCells_c s g C B L _ _ (HK.out.ext ?hx) k hgo).mono ?_
          case hx => (repeat' (first | exact Ext.refl _ | assumption | apply Ext.allocR | apply Ext.drewR | apply Ext.drewNR | (refine Ext.trans' ?_ (by assumption))))
          rintro e w7 ⟨v7, rfl, hv7, _, hx7⟩
          have hE7 : Ext wr w7 := by (repeat' (first | exact Ext.refl _ | assumption | apply Ext.allocR | apply Ext.drewR | apply Ext.drewNR | (refine Ext.trans' ?_ (by assumption))))
          clear hx7
          go_wp2_with fail
          refine (KCells_c s2 g2 C B L2 _ _ (HT.out.ext ?hx) k hgo).mono ?_
          case hx => (repeat' (first | exact Ext.refl _ | assumption | apply Ext.allocR | apply Ext.drewR | apply Ext.drewNR | (refine Ext.trans' ?_ (by assumption))))
          rintro e w8 ⟨v8, rfl, hv8, _, hx8⟩
          have i7 := (IntsAt.of_row hv7).ext hx8
          have i8 := IntsAt.of_row hv8
          rw [HRF.out k hgo] at i8
          have hE8 : Ext wr w8 := hE7.trans' (by (repeat' (first | exact Ext.refl _ | assumption | apply Ext.allocR | apply Ext.drewR | apply Ext.drewNR | (refine Ext.trans' ?_ (by assumption)))))
          have hll : (feedK C (fus us 0 60) k).length ≤ 1000000 := by rw [feedK_len]; exact lvN_le hok k
          clear hx8 hv7 hv8
          go_wp2_with fail
          refine (Same_c _ _ _ _ _ (i7.ext ?hx) (i8.ext ?hy) hll hll).mono ?_
          case hx => (repeat' (first | exact Ext.refl _ | assumption | apply Ext.allocR | apply Ext.drewR | apply Ext.drewNR | (refine Ext.trans' ?_ (by assumption))))
          case hy => (repeat' (first | exact Ext.refl _ | assumption | apply Ext.allocR | apply Ext.drewR | apply Ext.drewNR | (refine Ext.trans' ?_ (by assumption))))
          rintro e w9 ⟨rfl, hx9⟩
          rw [decide_eq_true rfl]
          have hE9 : Ext wr w9 := hE8.trans' (by (repeat' (first | exact Ext.refl _ | assumption | apply Ext.allocR | apply Ext.drewR | apply Ext.drewNR | (refine Ext.trans' ?_ (by assumption)))))
          clear hx9 hE8 hE7 i7 i8
          go_wp2
          go_roundw
          case rel => exact ⟨k + 1, by omega, by go_num, hEr.trans' hE9⟩
          case measure => simp [intOf]; omega
        · have hTT1 := fun W' (h : Ext wr W') => KTotal_c s g C B L _ W' (HK.out.ext h)
          have hTT2 := fun W' (h : Ext wr W') => KTotal_c s2 g2 C B L2 _ W' (HT.out.ext h)
          have hT1 : ∀ W', Ext wr W' → Calls Try.prog 54 #[.pointer (some ⟨s, 0, none⟩)] W' fun e w' => e = .returned (.int .i64 ((feedK C (fus us 0 60) B).getD 0 0)) ∧ Ext W' w' := hTT1
          have hT2 : ∀ W', Ext wr W' → Calls Try.prog 54 #[.pointer (some ⟨s2, 0, none⟩)] W' fun e w' => e = .returned (.int .i64 ((feedK C (fus us 0 60) B).getD 0 0)) ∧ Ext W' w' := fun W' h => by
            have := hTT2 W' h
            rw [HRF.out B (Nat.le_refl _)] at this
            exact this
          clear hTT1 hTT2
          generalize (feedK C (fus us 0 60) B).getD 0 0 = tt at *
          go_wp2_with fail
          refine (hT1 _ (by (repeat' (first | exact Ext.refl _ | assumption | apply Ext.allocR | apply Ext.drewR | apply Ext.drewNR | (refine Ext.trans' ?_ (by assumption)))))).mono ?_
          rintro e w7 ⟨rfl, hx7⟩
          have hE7 : Ext wr w7 := by (repeat' (first | exact Ext.refl _ | assumption | apply Ext.allocR | apply Ext.drewR | apply Ext.drewNR | (refine Ext.trans' ?_ (by assumption))))
          clear hx7
          go_wp2_with fail
          refine (hT2 _ (hE7.trans' (by (repeat' (first | exact Ext.refl _ | assumption | apply Ext.allocR | apply Ext.drewR | apply Ext.drewNR | (refine Ext.trans' ?_ (by assumption))))))).mono ?_
          rintro e w8 ⟨rfl, hx8⟩
          go_wp2
          go_ret
          exact ⟨rfl, hE6.trans' (hEr.trans' (hE7.trans' (by (repeat' (first | exact Ext.refl _ | assumption | apply Ext.allocR | apply Ext.drewR | apply Ext.drewNR | (refine Ext.trans' ?_ (by assumption)))))))⟩
end Go.Proofs.Ytpnbgoahjoabkaa
