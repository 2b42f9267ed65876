/- Plain law: where no key has less than 0, no prefix is told less than it has. -/
import Derived.Test.YtpnbgoahjoabkaaAStackOver6
import Derived.ProofKit
import Derived.OpenShut
import Derived.ChangeOld
import Derived.Below
import Derived.SizedLaws
import Derived.Deep.Slices
import Derived.Deep.Fields

/- Plain law: where no key has less than 0, no prefix is told less than it has. -/
namespace Go.Proofs.Ytpnbgoahjoabkaa
set_option linter.unusedVariables false
open Go.RowKit

/-- Has no key of the first k updates less than 0? -/
def plK (C : Cfg) (us : List (Int × Int)) (k : Nat) : Bool := (us.take k).all fun u => decide (0 ≤ hasK C us 60 0 (cutK C 0 u.1))
theorem plK_zero (C : Cfg) (us : List (Int × Int)) : plK C us 0 = true := rfl
theorem plK_succ (C : Cfg) (us : List (Int × Int)) {k : Nat} (hk : k < us.length) : plK C us (k + 1) = (plK C us k && decide (0 ≤ hasK C us 60 0 (cutK C 0 us[k].1))) := by
  unfold plK
  rw [List.take_succ_eq_append_getElem hk, List.all_append]
  simp
theorem plK_end (C : Cfg) (us : List (Int × Int)) {k : Nat} (h60 : k ≤ 60) (hk : k ≤ us.length) (he : ¬ (k < us.length ∧ k < 60)) : plK C us k = plK C us 60 := by
  unfold plK
  by_cases h : k = 60
  · rw [h]
  · have : k = us.length := by omega
    rw [this, List.take_length, List.take_of_length_le (by omega)]
theorem sh_zero (key : Int) : sh 0 key = key := by unfold sh; simp
/-- What a level is told is what level 0 is told, of the keys there. -/
theorem sumIf_stP (C : Cfg) (n : Nat) (p : Int → Bool) : ∀ us : List (Int × Int), sumIf p (stP C n us) = sumIf (fun k => p (sh n k)) (stP C 0 us)
  | [] => rfl
  | u :: us => by
    have ih := sumIf_stP C n p us
    show sumIf p ((sh n (cutK C 0 u.1), cutD C.mode u.2) :: stP C n us) = sumIf (fun k => p (sh n k)) ((sh 0 (cutK C 0 u.1), cutD C.mode u.2) :: stP C 0 us)
    rw [sumIf_cons, sumIf_cons, ih, sh_zero]
theorem pl_nn {C : Cfg} {us : List (Int × Int)} (h : plK C us 60 = true) (n : Nat) (p : Int → Bool) : 0 ≤ sumIf p (stP C n (fus us 0 60)) := by
  rw [sumIf_stP]
  refine sumIf_nn _ _ _ (Nat.le_refl _) fun u hu => ?_
  simp only [stP, List.mem_map] at hu
  obtain ⟨v, hv, rfl⟩ := hu
  unfold plK at h
  rw [List.all_eq_true] at h
  have := h v (by unfold fus at hv; simpa using hv)
  have h2 := of_decide_eq_true this
  rw [show ((sh 0 (cutK C 0 v.1), cutD C.mode v.2) : Int × Int).1 = cutK C 0 v.1 from sh_zero _]
  exact h2
theorem cols_lenR {C : Cfg} (hok : C.Ok) (lv key : Int) {R W : Nat} (hr : C.rows = R) (hw : C.width = W) : (cols C lv key).length = R := (cols_meets C hok lv key hr hw).len
/-- No prefix is told less than it has. -/
theorem over_law {C : Cfg} (hok : C.Ok) {n : Nat} (hn : (n : Int) ≤ C.bits) {us : List (Int × Int)} (hus : UpsOk us) (hm : C.mode ≠ 3) (hp : plK C us 60 = true) {j z : Int} (hj : 0 ≤ j)
    (h : lvPt C n (feedK C (fus us 0 60) n) j z) : hasK C us 60 n j ≤ z := by
  cases hx : isX C n with
  | true => exact Int.le_of_eq (pt_x hok hn hus hx hj h).symm
  | false =>
    rcases h with ⟨h, _⟩ | ⟨_, h⟩
    · rw [hx] at h; cases h
    rw [if_neg hm, feedK_s hok hn (fus_ok hus 0 60) hx] at h
    have hr := rN_eq hok
    have hw := wN_eq hok
    have hR : 0 < rN C := by have := hok.r1; omega
    have hs : cutP C n (shU n (fus us 0 60)) = stP C n (fus us 0 60) := stP_cutP hok hn (fus_ok hus 0 60)
    unfold hasK
    by_cases h2 : C.mode = 2
    · obtain ⟨h1, _⟩ := kth0_spec h
      unfold readL at h1
      rw [cols_lenR hok n j hr hw] at h1
      simp only [List.mem_map, List.mem_range] at h1
      obtain ⟨r, hrr, rfl⟩ := h1
      have := cons_low C hok n (rN C) (wN C) hr hw h2 (shU n (fus us 0 60)) j r hrr
      rw [hs] at this
      exact this
    · rw [read_cell C hok n (rN C) (wN C) hr hw h2, hs] at h
      have e := least_of h
      obtain ⟨r, _, hr2⟩ := leastF_mem (fun r => othP C n j r (stP C n (fus us 0 60))) (rN C) hR
      have hnn : 0 ≤ othP C n j r (stP C n (fus us 0 60)) := pl_nn hp n _
      rw [e, hr2]
      omega
end Go.Proofs.Ytpnbgoahjoabkaa

/- gaugerref15.Plain, walked: has no key less than 0? -/
namespace Go.Proofs.Ytpnbgoahjoabkaa
set_option linter.unusedVariables false
open Go.RowKit
theorem Has15_zero (us : List (Int × Int)) (hus : UpsOk us) (v : Value) (C : Cfg) (hok : C.Ok) (j : Int) (hj : U64 j) (w : World) (hv : UpsAt w v us) (hul : us.length ≤ 140737488355328) :
    Calls Try.prog 55 #[.agg #[.int .i64 C.bits, .int .i64 C.rows, .int .i64 C.width, .int .i64 C.mode, .int .u64 C.seed], v, .agg #[.int .i64 0, .int .u64 j]] w
      fun e w' => e = .returned (.int .i64 (hasK C us 60 0 j)) ∧ Ext w w' := Has15_c us hus v C hok 0 (by decide) j hj w hv hul
@[go_sem] theorem fld_key (k d : Int) (w : World) : (Instr.field 38 (.agg #[.int .u64 k, .int .i64 d]) 0).run Try.prog w = .ok (.int .u64 k) w := by kernel_rfl
set_option maxRecDepth 20000 in
set_option maxHeartbeats 4000000 in
theorem Plain15_c (us : List (Int × Int)) (hus : UpsOk us) (v : Value) (C : Cfg) (hok : C.Ok) (w : World) (hv : UpsAt w v us) (hul : us.length ≤ 140737488355328) :
    Calls Try.prog 57 #[.agg #[.int .i64 C.bits, .int .i64 C.rows, .int .i64 C.width, .int .i64 C.mode, .int .u64 C.seed], v] w
      fun e w' => e = .returned (.bool (plK C us 60)) ∧ Ext w w' := by
  obtain ⟨vp, vc, rfl⟩ := hv.sl
  have HV := Lib.hid hv
  clear hv
  go_enter Try.func57, Try.ntmps57
  go_wp2_with fail
  go_loopw [5] (fun u5 wr => ∃ k : Nat, k ≤ 60 ∧ k ≤ us.length ∧ u5 = .int .i64 k ∧ plK C us k = true ∧ Ext w wr ∧ CfgAt wr w.heap.size C) (fun u5 _ => 60 - (intOf u5).toNat)
  case atStart =>
    exact ⟨0, Nat.zero_le _, Nat.zero_le _, rfl, plK_zero C us, by (repeat' (first | exact Ext.refl _ | assumption | apply Ext.allocR | apply Ext.drewR | apply Ext.drewNR | (refine Ext.trans' ?_ (by assumption)))), CfgAt.box C _ rfl⟩
  case round =>
    obtain ⟨k, hk60, hkl, rfl, hp, hE, hC⟩ := hrel
    have l1 := hC.lt
    by_cases hgo : k < us.length ∧ k < 60
    · obtain ⟨hg1, hg2⟩ := hgo
      have hvw := UpsAt.ext HV.out hE
      obtain ⟨ug, off, rfl, hul0, d0, d1⟩ := hvw.one hg1
      have hu := hus _ (List.getElem_mem hg1)
      have hps := plK_succ C us hg1
      have hend : ∀ b, plK C us (k + 1) = false → plK C us 60 = b → b = false := by
        intro b h1 h2
        rw [← h2]
        unfold plK at *
        rw [List.all_eq_false] at *
        obtain ⟨u, hu, hn⟩ := h1
        exact ⟨u, List.mem_of_mem_take (i := k + 1) (by rw [List.take_take, Nat.min_eq_left (by omega)]; exact hu), hn⟩
      rw [hp, Bool.true_and] at hps
      have c0 := hC.c0
      have c1 := hC.c1
      have c2 := hC.c2
      have c3 := hC.c3
      have c4 := hC.c4
      generalize us[k] = uu at *
      obtain ⟨uk, ud⟩ := uu
      have hkb := cutK_bd C hok 0 uk (Int.le_refl 0)
      have hkp := keys_bd C hok 0 (Int.le_refl 0)
      have hkU : U64 (cutK C 0 uk) := by unfold U64; omega
      obtain ⟨hsb1, hsb2⟩ := hasK_bd C us (Nat.le_refl 60) 0 (cutK C 0 uk)
      have hCut : ∀ W', Calls Try.prog 50 #[.agg #[.int .i64 C.bits, .int .i64 C.rows, .int .i64 C.width, .int .i64 C.mode, .int .u64 C.seed], .agg #[.int .u64 uk, .int .i64 ud]] W' fun e w' => e = .returned (.agg #[.int .u64 (cutK C 0 uk), .int .i64 (cutD C.mode ud)]) ∧ Ext W' w' := fun W' => Cut15_c C hok uk ud hu.1 hu.2 W'
      have hHas : ∀ W', Ext wr W' → Calls Try.prog 55 #[.agg #[.int .i64 C.bits, .int .i64 C.rows, .int .i64 C.width, .int .i64 C.mode, .int .u64 C.seed], .slice (some ⟨ug, off, none⟩) us.length vc, .agg #[.int .i64 0, .int .u64 (cutK C 0 uk)]] W' fun e w' => e = .returned (.int .i64 (hasK C us 60 0 (cutK C 0 uk))) ∧ Ext W' w' := fun W' h => Has15_zero us hus _ C hok _ hkU _ (hvw.ext h) hul
      generalize hasK C us 60 0 (cutK C 0 uk) = hh at *
      generalize cutK C 0 uk = kk at *
      generalize cutD C.mode ud = dd at *
      have HC := Lib.hid hC
      have HPS := Lib.hid hps
      have HEND := Lib.hid hend
      clear hC hps hend hp hvw hkb hkp
      by_cases hneg : hh < 0
      · have g1 : decide (hh < 0) = true := decide_eq_true hneg
        go_wp2_with fail
        refine wp_region_after (by kernel_rfl) (by kernel_rfl) ?_
        repeat (go_big_quiet_step ((first | (go_at_call 50; with_reducible exact quiet_after (hCut _)) | (go_at_call 55; with_reducible exact quiet_after (hHas _ (After.h _))))))
        refine wpQuiet_nil ?_
        rintro _ ⟨xx, rfl⟩
        obtain ⟨w7, hb7⟩ := xx
        try dsimp only
        go_wp2
        go_ret
        exact ⟨by rw [HEND.out _ (by rw [HPS.out]; exact decide_eq_false (by omega)) rfl]; rfl, hE.trans' (by (repeat' (first | exact Ext.refl _ | assumption | apply Ext.allocR | apply Ext.drewR | apply Ext.drewNR | (refine Ext.trans' ?_ (by assumption)))))⟩
      · have g1 : decide (hh < 0) = false := decide_eq_false hneg
        go_wp2_with fail
        refine wp_region_after (by kernel_rfl) (by kernel_rfl) ?_
        repeat (go_big_quiet_step ((first | (go_at_call 50; with_reducible exact quiet_after (hCut _)) | (go_at_call 55; with_reducible exact quiet_after (hHas _ (After.h _))))))
        refine wpQuiet_nil ?_
        rintro _ ⟨xx, rfl⟩
        obtain ⟨w7, hb7⟩ := xx
        try dsimp only
        go_wp2
        go_roundw
        case rel => exact ⟨k + 1, by omega, by omega, by go_num, by rw [HPS.out]; exact decide_eq_true (by omega), hE.trans' (by (repeat' (first | exact Ext.refl _ | assumption | apply Ext.allocR | apply Ext.drewR | apply Ext.drewNR | (refine Ext.trans' ?_ (by assumption))))), HC.out.ext (by (repeat' (first | exact Ext.refl _ | assumption | apply Ext.allocR | apply Ext.drewR | apply Ext.drewNR | (refine Ext.trans' ?_ (by assumption)))))⟩
        case measure => simp [intOf]; omega
    · have hfe := plK_end C us hk60 hkl hgo
      rw [hp] at hfe
      have HFE := Lib.hid hfe
      clear hfe hp
      by_cases hg1 : k < us.length
      · have hg2 : ¬ k < 60 := fun h => hgo ⟨hg1, h⟩
        go_wp2_with fail
        go_ret
        exact ⟨by rw [← HFE.out]; rfl, hE⟩
      · go_wp2_with fail
        go_ret
        exact ⟨by rw [← HFE.out]; rfl, hE⟩
end Go.Proofs.Ytpnbgoahjoabkaa

/- gaugerlaw15.StackOver, walked. -/
namespace Go.Proofs.Ytpnbgoahjoabkaa
set_option linter.unusedVariables false
open Go.RowKit
theorem and1i (x : Int) : bits BinOp.and IntKind.i64 x 1 = x % 2 := by
  show IntKind.i64.wrap ((BitVec.ofInt 64 x &&& BitVec.ofInt 64 1).toNat : Int) = _
  have e1 : (BitVec.ofInt 64 (1 : Int)).toNat = 2 ^ 1 - 1 := by decide
  rw [BitVec.toNat_and, e1, Nat.and_two_pow_sub_one_eq_mod, BitVec.toNat_ofInt, IntKind.wrap_i64]
  have : (x % ((2 ^ 64 : Nat) : Int)).toNat % 2 ^ 1 < 2 := Nat.mod_lt _ (by decide)
  omega
theorem kcfg_mode (x : Cfg) (nb : Int) {m : Int} (h : 0 < m) : (kcfg x nb m).mode = m := (kcfg_pos x nb h).2.2.2.2.symm
set_option maxRecDepth 20000 in
set_option maxHeartbeats 8000000 in
theorem OverL_c (x : Cfg) (hx : x.Raw) (lv : Int) (hlv : I64 lv) (key : Int) (hkey : U64 key) (us : List (Int × Int)) (hus : UpsOk us) (v : Value) (w : World) (hv : UpsAt w v us) (hul : us.length ≤ 140737488355328) :
    Calls Try.prog 7 #[.agg #[.int .i64 x.bits, .int .i64 x.rows, .int .i64 x.width, .int .i64 x.mode, .int .u64 x.seed, v], .int .i64 lv, .int .u64 key] w fun e w' => e = .returned (.bool true) ∧ Ext w w' := by
  obtain ⟨vp, vc, rfl⟩ := hv.sl
  have HV := Lib.hid hv
  clear hv
  have ha1 := and1i x.mode
  go_enter Try.func7, Try.ntmps7
  go_wp2_with fail
  refine (shownK_c _).mono ?_
  rintro e w1 ⟨rfl, hb1⟩
  have hE1 : Ext w w1 := by (repeat' (first | exact Ext.refl _ | assumption | apply Ext.allocR | apply Ext.drewR | apply Ext.drewNR | (refine Ext.trans' ?_ (by assumption))))
  have hP1 := hb1.keep (heap_at w (.cells #[.int .i64 x.bits, .int .i64 x.rows, .int .i64 x.width, .int .i64 x.mode, .int .u64 x.seed, .slice vp us.length vc] 64) rfl)
  have p0 := (cell_of hP1 0).trans rfl
  have p1 := (cell_of hP1 1).trans rfl
  have p2 := (cell_of hP1 2).trans rfl
  have p3 := (cell_of hP1 3).trans rfl
  have p4 := (cell_of hP1 4).trans rfl
  have p5 := (cell_of hP1 5).trans rfl
  have pl := lt_of hP1
  clear hb1
  obtain ⟨m, hm⟩ : ∃ m : Int, m = if x.mode % 2 = 1 then 2 else 1 := ⟨_, rfl⟩
  go_upto_if 19 with (fail)
  go_cut [8] (fun s8 wx => s8 = .int .i64 m ∧ wx = w1)
  case first =>
    by_cases hmm : x.mode % 2 = 1
    · rw [if_pos hmm] at hm
      subst hm
      go_wp2_with fail
      go_meet
      exact ⟨rfl, rfl⟩
    · rw [if_neg hmm] at hm
      subst hm
      go_wp2_with fail
      go_meet
      exact ⟨rfl, rfl⟩
  case rest =>
   obtain ⟨rfl, rfl⟩ := hcut
   have hm12 : m = 1 ∨ m = 2 := by rw [hm]; split <;> simp
   clear ha1 hm
   have hm0 : 0 < m := by omega
   have hm3 : m ≤ 3 := by omega
   go_wp2_with fail
   refine Calls.mono (fed15_c x hx 10 (by decide) (by decide) m (by omega) hm3 us hus _ 0 60 (by decide) (by decide) _ (HV.out.ext hE1) hul) ?_
   rintro e w2 ⟨s, g, L, rfl, hK, hs, hg, hF, hx2⟩
   have hok := kcfg_ok x hx.s (nb := 10) (m := m) (by decide) (by decide) hm3
   have hmd := kcfg_mode x 10 hm0
   generalize kcfg x 10 m = C at *
   have hmn : C.mode ≠ 3 := by omega
   have hb1 := hok.b1
   have hb2 := hok.b2
   obtain ⟨B, hB⟩ : ∃ B : Nat, C.bits = B := ⟨C.bits.toNat, by omega⟩
   have hBt : C.bits.toNat = B := by omega
   rw [hBt] at hK
   have hE2 : Ext w w2 := by (repeat' (first | exact Ext.refl _ | assumption | apply Ext.allocR | apply Ext.drewR | apply Ext.drewNR | (refine Ext.trans' ?_ (by assumption))))
   have hP2 := hx2.keep hP1
   have HB := Lib.hid hB
   have HU2 := Lib.hid (HV.out.ext hE2)
   clear p0 p1 p2 p3 p4 p5 pl hP1 hx2 hE1 hs hg hF hB hBt hmd hm12 hm0 hm3
   go_upto_region 8 with (fail)
   obtain ⟨w3, hw3⟩ : ∃ w3, w2.alloc (.cells #[.int .i64 C.bits, .int .i64 C.rows, .int .i64 C.width, .int .i64 C.mode, .int .u64 C.seed] 24) = w3 := ⟨_, rfl⟩
   have hx3 : Ext w2 w3 := by rw [← hw3]; exact Ext.alloc' _ _
   have hC3 : CfgAt w3 w2.heap.size C := by rw [← hw3]; exact CfgAt.box C _ rfl
   rw [hw3]
   clear hw3
   have hE3 := hE2.trans' hx3
   have hP3 := hx3.keep hP2
   have hK3 := hK.ext hx3
   have HU3 := Lib.hid (HU2.out.ext hx3)
   have c0 := hC3.c0
   have c1 := hC3.c1
   have c2 := hC3.c2
   have c3 := hC3.c3
   have c4 := hC3.c4
   have cl := hC3.lt
   have p5 := (cell_of hP3 5).trans rfl
   have pl := lt_of hP3
   clear hK hP2 hE2 hx3 HU2
   go_wp2_with fail
   refine (Plain15_c us hus _ C hok _ HU3.out hul).mono ?_
   rintro e wq ⟨rfl, hxq⟩
   have hEq := hE3.trans' hxq
   cases hpl : plK C us 60 with
   | false =>
     clear hpl
     go_wp2_with fail
     go_ret
     exact ⟨rfl, hEq⟩
   | true =>
    have hPq := hxq.keep hP3
    have hKq := hK3.ext hxq
    have hCq := hC3.ext hxq
    have HUq := Lib.hid (HU3.out.ext hxq)
    clear c0 c1 c2 c3 c4 cl p5 pl hC3 hK3 hP3 hE3 HU3 hxq
    have c0 := hCq.c0
    have c1 := hCq.c1
    have c2 := hCq.c2
    have c3 := hCq.c3
    have c4 := hCq.c4
    have cl := hCq.lt
    have k0 := Int.emod_nonneg (lv % 65536) (show (B : Int) + 1 ≠ 0 by omega)
    have k1 := Int.emod_lt_of_pos (lv % 65536) (show 0 < (B : Int) + 1 by omega)
    obtain ⟨n, hn⟩ : ∃ n : Nat, lv % 65536 % ((B : Int) + 1) = n := ⟨_, (Int.toNat_of_nonneg k0).symm⟩
    have hnB : n ≤ B := by omega
    have HN := Lib.hid hn
    have HPL := Lib.hid hpl
    clear hn k0 k1 hpl
    have hla := and16 lv
    have hkp := keys_bd C hok 0 (Int.le_refl 0)
    have hkm0 := Int.emod_nonneg key (show keys C 0 ≠ 0 by omega)
    have hkm1 := Int.emod_lt_of_pos key (show 0 < keys C 0 by omega)
    have hkz : (keys C 0 == 0) = false := by simp; omega
    go_upto_region 10 with (fail)
    go_cut [1] (fun s1 wx => s1 = .int .i64 n ∧ wx = wq)
    case first =>
      go_wp2
      go_meet
      exact ⟨by rw [HB.out, HN.out], rfl⟩
    case rest =>
      obtain ⟨rfl, rfl⟩ := hcut
      go_wp2_with fail
      refine (KeysR_c C hok 0 (Int.le_refl 0) (by omega) _).mono ?_
      rintro e w4 ⟨rfl, hx4⟩
      have hE4 := hEq.trans' hx4
      have hP4 := hx4.keep hPq
      have hK4 := hKq.ext hx4
      have hC4 := hCq.ext hx4
      have HU4 := Lib.hid (HUq.out.ext hx4)
      have p5 := (cell_of hP4 5).trans rfl
      have pl := lt_of hP4
      clear c0 c1 c2 c3 c4 cl hCq hKq hPq hEq HUq hla
      have c0 := hC4.c0
      have c1 := hC4.c1
      have c2 := hC4.c2
      have c3 := hC4.c3
      have c4 := hC4.c4
      have cl := hC4.lt
      have hnn : n ≤ 59 := by have := HB.out; omega
      have hnb : (n : Int) ≤ C.bits := by have := HB.out; omega
      have hm0 : 0 ≤ key.tmod (keys C 0) := Int.tmod_nonneg _ hkey.1
      have hm1 : key.tmod (keys C 0) < keys C 0 := Int.tmod_lt_of_pos _ (by omega)
      have hj0 : 0 ≤ key.tmod (keys C 0) / 2 ^ n := sh_nn hm0 n
      have hj1 : key.tmod (keys C 0) / 2 ^ n < keys C n := sh_lt hok hnb hm0 hm1
      have hkn := keys_bd C hok n (Int.natCast_nonneg n)
      clear hkm0 hkm1 hm0 hm1
      by_cases hl0 : 0 < us.length
      all_goals
        go_upto_if 57 with (fail)
        generalize key.tmod (keys C 0) / 2 ^ n = jx at *
        obtain ⟨w5, hw5⟩ : ∃ w5, w4.alloc (.cells #[.int .i64 n, .int .u64 jx] 77) = w5 := ⟨_, rfl⟩
        have hx5 : Ext w4 w5 := by rw [← hw5]; exact Ext.alloc' _ _
        have hPc : w5.heap[w4.heap.size]? = some (.cells #[.int .i64 n, .int .u64 jx] 77 (0, 0)) := by rw [← hw5]; exact heap_at _ _ rfl
        rw [hw5]
        clear hw5
        have pcl := lt_of hPc
        go_cut [] (fun wx => ∃ j2 : Int, 0 ≤ j2 ∧ j2 < keys C n ∧ wx.heap[w4.heap.size]? = some (.cells #[.int .i64 n, .int .u64 j2] 77 (0, 0)) ∧ Ext w4 wx)
        case first =>
          have hP5 := hx5.keep hP4
          have hU5 := HU4.out.ext hx5
          have hC5 := hC4.ext hx5
          clear c0 c1 c2 c3 c4 cl p5 pl hP4 HU4 hC4 hK4
          have c0 := hC5.c0
          have c1 := hC5.c1
          have c2 := hC5.c2
          have c3 := hC5.c3
          have c4 := hC5.c4
          have cl := hC5.lt
          have p5 := (cell_of hP5 5).trans rfl
          have pl := lt_of hP5
          by_cases hl : 0 < us.length ∧ key % 2 = 0
          · obtain ⟨hl1, hl2⟩ := hl
            first
            | exact absurd hl1 hl0
            | (
                have g2 : (key.tmod 2 == 0) = true := by rw [Int.tmod_eq_emod_of_nonneg hkey.1]; simpa using hl2
                obtain ⟨ug, off, rfl, hul0, d0, d1⟩ := hU5.one hl1
                have hu := hus _ (List.getElem_mem hl1)
                generalize us[0] = uu at *
                obtain ⟨uk, ud⟩ := uu
                have hkb := cutK_bd C hok 0 uk (Int.le_refl 0)
                have q0 := sh_nn hkb.1 n
                have q1 := sh_lt hok hnb hkb.1 hkb.2
                have hCut : ∀ W', Calls Try.prog 50 #[.agg #[.int .i64 C.bits, .int .i64 C.rows, .int .i64 C.width, .int .i64 C.mode, .int .u64 C.seed], .agg #[.int .u64 uk, .int .i64 ud]] W' fun e w' => e = .returned (.agg #[.int .u64 (cutK C 0 uk), .int .i64 (cutD C.mode ud)]) ∧ Ext W' w' := fun W' => Cut15_c C hok uk ud hu.1 hu.2 W'
                unfold sh at q0 q1
                generalize cutK C 0 uk = kk at *
                generalize cutD C.mode ud = dd at *
                have f1 := frozen_of hPc 1
                have e1 := (cell_of hPc 1).trans rfl
                simp only [Nat.zero_mul, Nat.add_zero, Nat.zero_add] at d0 d1
                try rw [g2]
                go_wp2_with fail
                refine wp_region_after_tail 11 (by kernel_rfl) (by kernel_rfl) ?_
                simp only [List.take_succ_cons, List.take_zero, List.drop_succ_cons, List.drop_zero]
                repeat (go_big_quiet_step ((go_at_call 50; with_reducible exact quiet_after (hCut _))))
                refine wpQuiet_nil ?_
                rintro _ ⟨xx, rfl⟩
                obtain ⟨w6, hb6⟩ := xx
                try dsimp only
                have e6 := hb6.keep hPc
                have f6 := frozen_of e6 1
                have e1' := (cell_of e6 1).trans rfl
                have l6 := lt_of e6
                go_wp2
                go_meet
                refine ⟨kk / 2 ^ n, q0, q1, by rw [setCell_same e6]; rfl, (hx5.trans' (by (repeat' (first | exact Ext.refl _ | assumption | apply Ext.allocR | apply Ext.drewR | apply Ext.drewNR | (refine Ext.trans' ?_ (by assumption)))))).setR (p := ⟨w4.heap.size, 1, none⟩) (Nat.le_refl _) _⟩)
          · by_cases hkk : key % 2 = 0
            · have hl3 : ¬ 0 < us.length := fun h => hl ⟨h, hkk⟩
              go_wp2_with fail
              all_goals
                go_meet
                exact ⟨jx, hj0, hj1, hPc, hx5⟩
            · have g2 : (key.tmod 2 == 0) = false := by rw [Int.tmod_eq_emod_of_nonneg hkey.1]; simpa using hkk
              try rw [g2]
              go_wp2_with fail
              all_goals
                go_meet
                exact ⟨jx, hj0, hj1, hPc, hx5⟩
        case rest =>
          obtain ⟨j2, hj20, hj21, hPc', hxc⟩ := hcut
          have hjU : U64 j2 := by unfold U64; omega
          have q0 := (cell_of hPc' 0).trans rfl
          have q1 := (cell_of hPc' 1).trans rfl
          have ql := lt_of hPc'
          clear hx5 hPc pcl c0 c1 c2 c3 c4 cl p5 pl hj0 hj1
          go_wp2_with fail
          refine Calls.mono (KPoint_c s g C B L _ _ (hK4.ext hxc) n hnB j2 hj20 hj21) ?_
          rintro e w6 ⟨z, rfl, hpt, hx6⟩
          have hx46 := hxc.trans' hx6
          have hE6 := hE4.trans' hx46
          have hU6 := HU4.out.ext hx46
          have hC6 := hC4.ext hx46
          have hP6 := hx46.keep hP4
          have hPc6 := hx6.keep hPc'
          clear q0 q1 ql hPc' hP4 hC4 hK4 HU4 hx6 hxc
          have c0 := hC6.c0
          have c1 := hC6.c1
          have c2 := hC6.c2
          have c3 := hC6.c3
          have c4 := hC6.c4
          have cl := hC6.lt
          have p5 := (cell_of hP6 5).trans rfl
          have pl := lt_of hP6
          have q0 := (cell_of hPc6 0).trans rfl
          have q1 := (cell_of hPc6 1).trans rfl
          have ql := lt_of hPc6
          have hov := over_law hok hnb hus hmn HPL.out hj20 hpt
          have hdv : decide (hasK C us 60 n j2 ≤ z) = true := decide_eq_true hov
          have hH := fun W' (h : Ext w6 W') => Has15_c us hus _ C hok n (by omega) j2 hjU _ (hU6.ext h) hul
          have HH := Lib.hid hH
          clear hpt hH hU6 hPc6 hP6 hC6 hx46 hx4
          generalize hasK C us 60 n j2 = hh at *
          go_wp2_with fail
          refine (HH.out _ (Ext.refl _)).mono ?_
          rintro e w7 ⟨rfl, hx7⟩
          go_wp2
          go_ret
          exact ⟨rfl, hE6.trans' hx7⟩
end Go.Proofs.Ytpnbgoahjoabkaa

/- What the arguments of the statements read as: a config, updates, a play. No condition. -/
namespace Go.Proofs.Ytpnbgoahjoabkaa
set_option linter.unusedVariables false
open Go.ChangeShapes Go.WideShapes Go.ChangeAt Go.RowKit Go.Deep

theorem wf_u64 {x : Int} (h : (Lit.int IntKind.u64 x).wf = true) : U64 x := by
  have := bounds_u64 h
  exact ⟨this.1, by omega⟩
theorem wf_i64 {x : Int} (h : (Lit.int IntKind.i64 x).wf = true) : I64 x := by
  have := bounds_i64 h
  exact ⟨this.1, by omega⟩
section
variable {H : Type} {enc : TypeId × Value → H} {w : World} {base : Nat} {spare : Nat → Bool} {held : Bool}
set_option maxRecDepth 100000 in
/-- Five cells that read as a config. -/
theorem cfg_of {n : Nat} {cs : List Value} {y : DataW H × List MemPlace} (h : DataW.trod enc Try.prog w base spare held n 24 cs = some y) :
    ∃ C : Cfg, C.Raw ∧ cs = [.int .i64 C.bits, .int .i64 C.rows, .int .i64 C.width, .int .i64 C.mode, .int .u64 C.seed] := by
  obtain ⟨xs, n, _, _, hl, hx, hg⟩ := DataW.trod_struct Try.underlying24 h
  have hl' : cs.length = 5 := hl.trans (by kernel_rfl)
  match cs, hl' with
  | [c0, c1, c2, c3, c4], _ =>
    have hx' : xs.length = 5 := hx.trans (by kernel_rfl)
    match xs, hx' with
    | [x0, x1, x2, x3, x4], _ =>
      have e0 : DataW.trod enc Try.prog w base spare held n 3 [c0] = some x0 := hg 0 _ rfl
      have e1 : DataW.trod enc Try.prog w base spare held n 3 [c1] = some x1 := hg 1 _ rfl
      have e2 : DataW.trod enc Try.prog w base spare held n 3 [c2] = some x2 := hg 2 _ rfl
      have e3 : DataW.trod enc Try.prog w base spare held n 3 [c3] = some x3 := hg 3 _ rfl
      have e4 : DataW.trod enc Try.prog w base spare held n 22 [c4] = some x4 := hg 4 _ rfl
      obtain ⟨a0, h0, _, w0⟩ := DataW.trod_int Try.underlying3 e0
      obtain ⟨a1, h1, _, w1⟩ := DataW.trod_int Try.underlying3 e1
      obtain ⟨a2, h2, _, w2⟩ := DataW.trod_int Try.underlying3 e2
      obtain ⟨a3, h3, _, w3⟩ := DataW.trod_int Try.underlying3 e3
      obtain ⟨a4, h4, _, w4⟩ := DataW.trod_int Try.underlying22 e4
      simp only [List.cons.injEq, and_true] at h0 h1 h2 h3 h4
      exact ⟨⟨a0, a1, a2, a3, a4⟩, ⟨wf_i64 w0, wf_i64 w1, wf_i64 w2, wf_i64 w3, wf_u64 w4⟩, by rw [h0, h1, h2, h3, h4]⟩
set_option maxRecDepth 100000 in
/-- Two cells that read as an update. -/
theorem upd_of {n : Nat} {cs : List Value} {y : DataW H × List MemPlace} (h : DataW.trod enc Try.prog w base spare held n 38 cs = some y) :
    ∃ u : Int × Int, (U64 u.1 ∧ I64 u.2) ∧ cs = [.int .u64 u.1, .int .i64 u.2] := by
  obtain ⟨xs, n, _, _, hl, hx, hg⟩ := DataW.trod_struct Try.underlying38 h
  have hl' : cs.length = 2 := hl.trans (by kernel_rfl)
  match cs, hl' with
  | [c0, c1], _ =>
    have hx' : xs.length = 2 := hx.trans (by kernel_rfl)
    match xs, hx' with
    | [x0, x1], _ =>
      have e0 : DataW.trod enc Try.prog w base spare held n 22 [c0] = some x0 := hg 0 _ rfl
      have e1 : DataW.trod enc Try.prog w base spare held n 2 [c1] = some x1 := hg 1 _ rfl
      obtain ⟨a0, h0, _, w0⟩ := DataW.trod_int Try.underlying22 e0
      obtain ⟨a1, h1, _, w1⟩ := DataW.trod_int Try.underlying2 e1
      simp only [List.cons.injEq, and_true] at h0 h1
      exact ⟨(a0, a1), ⟨wf_u64 w0, wf_i64 w1⟩, by rw [h0, h1]⟩
theorem add_plain0 (b off i : Nat) : (Addr.add ⟨b, off, none⟩ i) = ⟨b, off + i, none⟩ := by
  unfold Addr.add
  by_cases h : i = 0
  · subst h; simp
  · simp [h]
theorem choose_list {α : Type} (P : Nat → α → Prop) : ∀ n, (∀ i, i < n → ∃ x, P i x) → ∃ l : List α, l.length = n ∧ ∀ i (h : i < l.length), P i l[i] := by
  intro n
  induction n with
  | zero => intro _; exact ⟨[], rfl, fun i h => by simp at h⟩
  | succ n ih =>
    intro h
    obtain ⟨l, hl, hP⟩ := ih (fun i hi => h i (by omega))
    obtain ⟨x, hx⟩ := h n (by omega)
    refine ⟨l ++ [x], by simp [hl], fun i hi => ?_⟩
    by_cases e : i < l.length
    · rw [List.getElem_append_left e]; exact hP i e
    · have : i = n := by simp at hi; omega
      subst this
      rw [List.getElem_append_right (by omega)]
      simp [hl, hx]
/-- A cell that reads as a slice of updates. -/
theorem ups_of {n : Nat} {v : Value} {y : DataW H × List MemPlace} (h : DataW.trod enc Try.prog w 0 (fun _ => true) held n 25 [v] = some y) :
    ∃ us : List (Int × Int), UpsOk us ∧ UpsAt w v us ∧ (us = [] ∨ ∃ el sp : List (DataW H), y.1 = .slice el sp ∧ el.length = us.length) := by
  rcases open_slice Try.underlying25 h with ⟨hcs, _⟩ | ⟨a, len, cap, m, n', D, Pl, hcs, _, hlc, hcm, hm, hx, hi⟩
  · simp only [List.cons.injEq, and_true] at hcs
    subst hcs
    exact ⟨[], (by intro u hu; cases hu), .inl ⟨⟨_, rfl⟩, rfl⟩, .inl rfl⟩
  · simp only [List.cons.injEq, and_true] at hcs
    subst hcs
    simp only [if_true] at hm
    rw [hm] at hi hx
    clear hm
    have hC : Try.prog.cellsOf 38 = 2 := by kernel_rfl
    rw [hC] at hi
    have key : ∀ i, i < len → ∃ u : Int × Int, (U64 u.1 ∧ I64 u.2) ∧ w.cell? (a.add (i * 2)) = some (.int .u64 u.1) ∧ w.cell? (a.add (i * 2 + 1)) = some (.int .i64 u.2) := by
      intro i hil
      obtain ⟨cs', hc, ht⟩ := hi i (by omega)
      obtain ⟨u, hu, rfl⟩ := upd_of ht
      obtain ⟨_, _, hat⟩ := World.cells?_some hc
      refine ⟨u, hu, ?_, ?_⟩
      · have := hat 0 (by omega); rw [add_add, Nat.add_zero] at this; exact this
      · have := hat 1 (by omega); rw [add_add] at this; exact this
    obtain ⟨us, hul, hus⟩ := choose_list _ len key
    by_cases h0 : cap = 0
    · have hl0 : len = 0 := by omega
      subst hl0 h0
      obtain rfl : us = [] := List.length_eq_zero_iff.1 hul
      exact ⟨[], (by intro u hu; cases hu), .inl ⟨⟨_, rfl⟩, rfl⟩, .inl rfl⟩
    · obtain ⟨cs', hc, ht⟩ := hi 0 (by omega)
      obtain ⟨u, _, rfl⟩ := upd_of ht
      obtain ⟨_, _, hat⟩ := World.cells?_some hc
      have h1 := hat 0 (by omega)
      obtain ⟨b, off, spot⟩ := a
      have hspot : spot = none := by simpa [Addr.add] using World.cell?_spot h1
      subst hspot
      have hb : b < w.heap.size := by
        rcases Nat.lt_or_ge b w.heap.size with h' | h'
        · exact h'
        · simp [World.cell?, Addr.add, Array.getElem?_eq_none h'] at h1
      refine ⟨us, ?_, .inr ⟨b, off, cap, by rw [hul], hb, fun k hk => ?_⟩, .inr ⟨_, _, by rw [hx], by simp [hul]⟩⟩
      · intro u hu
        obtain ⟨i, hi', rfl⟩ := List.getElem_of_mem hu
        exact (hus i hi').1
      · have := (hus k hk).2
        have hg : us.getD k (0, 0) = us[k] := by simp [hk]
        rw [hg]
        rw [add_plain0, add_plain0] at this
        simpa only [Nat.add_assoc] using this
theorem reach_of {ts : List TypeId} {ds : List (DataW H)} {j : Nat} {t : TypeId} {d : DataW H} (hsz : (DataW.weightsEach Try.prog ts ds).all (· ≤ reachBytes) = true) (ht : ts[j]? = some t) (hd : ds[j]? = some d) {n : Nat} (hn : n ∈ d.weights Try.prog t) : n ≤ reachBytes := by
  have := List.all_eq_true.1 hsz _ (DataW.weights_mem_each ht hd n hn)
  simpa using this
end
end Go.Proofs.Ytpnbgoahjoabkaa

/- What a play of the later laws reads as. No condition. -/
namespace Go.Proofs.Ytpnbgoahjoabkaa
set_option linter.unusedVariables false
open Go.ChangeShapes Go.WideShapes Go.ChangeAt Go.RowKit Go.Deep

theorem own : ownKnob Try.prog.godebug = none := by kernel_rfl
theorem laidOut : laidOutB Try.prog = true := by kernel_rfl
section
variable {H : Type} {enc : TypeId × Value → H} {w : World} {held : Bool}
set_option maxRecDepth 100000 in
theorem cfgarg_of {r : Reach} {b0 : Nat} {v : Value} {d : DataW H} {p : List MemPlace} (hv : Value.okWide Try.prog w r b0 24 v) (h : DataW.Trod enc Try.prog w 0 (fun _ => true) held 24 v d p) :
    ∃ (x : Cfg), x.Raw ∧ v = .agg #[.int .i64 x.bits, .int .i64 x.rows, .int .i64 x.width, .int .i64 x.mode, .int .u64 x.seed] := by
  obtain ⟨cs, rfl, hsz⟩ := okWide_struct Try.underlying24 hv
  obtain ⟨fuel, hf⟩ := h
  obtain ⟨l⟩ := cs
  obtain ⟨x, hxr, hc⟩ := cfg_of hf
  have hc' : l = _ := hc
  subst hc'
  exact ⟨x, hxr, rfl⟩
set_option maxRecDepth 100000 in
theorem updarg_of {r : Reach} {b0 : Nat} {v : Value} {d : DataW H} {p : List MemPlace} (hv : Value.okWide Try.prog w r b0 38 v) (h : DataW.Trod enc Try.prog w 0 (fun _ => true) held 38 v d p) :
    ∃ (n m : Int), U64 n ∧ I64 m ∧ v = .agg #[.int .u64 n, .int .i64 m] := by
  obtain ⟨cs, rfl, hsz⟩ := okWide_struct Try.underlying38 hv
  obtain ⟨fuel, hf⟩ := h
  obtain ⟨l⟩ := cs
  obtain ⟨u, hu, hc⟩ := upd_of hf
  have hc' : l = _ := hc
  subst hc'
  exact ⟨u.1, u.2, hu.1, hu.2, rfl⟩
set_option maxRecDepth 100000 in
theorem play15_of {r : Reach} {b0 : Nat} {v : Value} {d : DataW H} {p : List MemPlace} (hv : Value.okWide Try.prog w r b0 64 v) (h : DataW.Trod enc Try.prog w 0 (fun _ => true) held 64 v d p) :
    ∃ (x : Cfg) (us : List (Int × Int)) (u : Value), x.Raw ∧ UpsOk us ∧ UpsAt w u us ∧ v = .agg #[.int .i64 x.bits, .int .i64 x.rows, .int .i64 x.width, .int .i64 x.mode, .int .u64 x.seed, u] ∧
      ∀ (ts : List TypeId) (ds : List (DataW H)) (j : Nat), (DataW.weightsEach Try.prog ts ds).all (· ≤ reachBytes) = true → ts[j]? = some 64 → ds[j]? = some d → us.length ≤ 140737488355328 := by
  obtain ⟨cs, rfl, hsz⟩ := okWide_struct Try.underlying64 hv
  obtain ⟨fuel, hf⟩ := h
  obtain ⟨l⟩ := cs
  obtain ⟨xs, n, _, hd, hl, hx, hg⟩ := DataW.trod_struct Try.underlying64 hf
  have hl' : l.length = 6 := hsz.trans (by kernel_rfl)
  match l, hl' with
  | [c0, c1, c2, c3, c4, c6], _ =>
    have hx' : xs.length = 2 := hx.trans (by kernel_rfl)
    match xs, hx' with
    | [x0, x2], _ =>
      have e0 : DataW.trod enc Try.prog w 0 (fun _ => true) held n 24 [c0, c1, c2, c3, c4] = some x0 := hg 0 _ rfl
      have e2 : DataW.trod enc Try.prog w 0 (fun _ => true) held n 25 [c6] = some x2 := hg 1 _ rfl
      obtain ⟨x, hxr, hc⟩ := cfg_of e0
      obtain ⟨us, hu, hat, hlen⟩ := ups_of e2
      simp only [List.cons.injEq, and_true] at hc
      obtain ⟨rfl, rfl, rfl, rfl, rfl⟩ := hc
      simp only [Prod.mk.injEq] at hd
      refine ⟨x, us, c6, hxr, hu, hat, rfl, fun ts ds j hs ht hj => ?_⟩
      rcases hlen with rfl | ⟨el, sp, hx2, hel⟩
      · simp
      · have hb : Try.prog.bytesOf 38 = 16 := by kernel_rfl
        have := reach_of hs ht hj (n := (el.length + sp.length) * Try.prog.bytesOf 38) (by
          rw [hd.1]
          simp [DataW.weights, DataW.weightsEach, hx2, Try.underlying64, Try.underlying25])
        rw [hb] at this
        simp only [reachBytes] at this
        omega
set_option maxRecDepth 100000 in
theorem play16_of {r : Reach} {b0 : Nat} {v : Value} {d : DataW H} {p : List MemPlace} (hv : Value.okWide Try.prog w r b0 97 v) (h : DataW.Trod enc Try.prog w 0 (fun _ => true) held 97 v d p) :
    ∃ (x : Cfg) (us : List (Int × Int)) (u : Value), x.Raw ∧ UpsOk us ∧ UpsAt w u us ∧ v = .agg #[.int .i64 x.bits, .int .i64 x.rows, .int .i64 x.width, .int .i64 x.mode, .int .u64 x.seed, u] ∧
      ∀ (ts : List TypeId) (ds : List (DataW H)) (j : Nat), (DataW.weightsEach Try.prog ts ds).all (· ≤ reachBytes) = true → ts[j]? = some 97 → ds[j]? = some d → us.length ≤ 140737488355328 := by
  obtain ⟨cs, rfl, hsz⟩ := okWide_struct Try.underlying97 hv
  obtain ⟨fuel, hf⟩ := h
  obtain ⟨l⟩ := cs
  obtain ⟨xs, n, _, hd, hl, hx, hg⟩ := DataW.trod_struct Try.underlying97 hf
  have hl' : l.length = 6 := hsz.trans (by kernel_rfl)
  match l, hl' with
  | [c0, c1, c2, c3, c4, c6], _ =>
    have hx' : xs.length = 2 := hx.trans (by kernel_rfl)
    match xs, hx' with
    | [x0, x2], _ =>
      have e0 : DataW.trod enc Try.prog w 0 (fun _ => true) held n 24 [c0, c1, c2, c3, c4] = some x0 := hg 0 _ rfl
      have e2 : DataW.trod enc Try.prog w 0 (fun _ => true) held n 25 [c6] = some x2 := hg 1 _ rfl
      obtain ⟨x, hxr, hc⟩ := cfg_of e0
      obtain ⟨us, hu, hat, hlen⟩ := ups_of e2
      simp only [List.cons.injEq, and_true] at hc
      obtain ⟨rfl, rfl, rfl, rfl, rfl⟩ := hc
      simp only [Prod.mk.injEq] at hd
      refine ⟨x, us, c6, hxr, hu, hat, rfl, fun ts ds j hs ht hj => ?_⟩
      rcases hlen with rfl | ⟨el, sp, hx2, hel⟩
      · simp
      · have hb : Try.prog.bytesOf 38 = 16 := by kernel_rfl
        have := reach_of hs ht hj (n := (el.length + sp.length) * Try.prog.bytesOf 38) (by
          rw [hd.1]
          simp [DataW.weights, DataW.weightsEach, hx2, Try.underlying97, Try.underlying25])
        rw [hb] at this
        simp only [reachBytes] at this
        omega
set_option maxRecDepth 100000 in
theorem play17_of {r : Reach} {b0 : Nat} {v : Value} {d : DataW H} {p : List MemPlace} (hv : Value.okWide Try.prog w r b0 109 v) (h : DataW.Trod enc Try.prog w 0 (fun _ => true) held 109 v d p) :
    ∃ (x : Cfg) (us : List (Int × Int)) (u : Value), x.Raw ∧ UpsOk us ∧ UpsAt w u us ∧ v = .agg #[.int .i64 x.bits, .int .i64 x.rows, .int .i64 x.width, .int .i64 x.mode, .int .u64 x.seed, u] ∧
      ∀ (ts : List TypeId) (ds : List (DataW H)) (j : Nat), (DataW.weightsEach Try.prog ts ds).all (· ≤ reachBytes) = true → ts[j]? = some 109 → ds[j]? = some d → us.length ≤ 140737488355328 := by
  obtain ⟨cs, rfl, hsz⟩ := okWide_struct Try.underlying109 hv
  obtain ⟨fuel, hf⟩ := h
  obtain ⟨l⟩ := cs
  obtain ⟨xs, n, _, hd, hl, hx, hg⟩ := DataW.trod_struct Try.underlying109 hf
  have hl' : l.length = 6 := hsz.trans (by kernel_rfl)
  match l, hl' with
  | [c0, c1, c2, c3, c4, c6], _ =>
    have hx' : xs.length = 2 := hx.trans (by kernel_rfl)
    match xs, hx' with
    | [x0, x2], _ =>
      have e0 : DataW.trod enc Try.prog w 0 (fun _ => true) held n 24 [c0, c1, c2, c3, c4] = some x0 := hg 0 _ rfl
      have e2 : DataW.trod enc Try.prog w 0 (fun _ => true) held n 25 [c6] = some x2 := hg 1 _ rfl
      obtain ⟨x, hxr, hc⟩ := cfg_of e0
      obtain ⟨us, hu, hat, hlen⟩ := ups_of e2
      simp only [List.cons.injEq, and_true] at hc
      obtain ⟨rfl, rfl, rfl, rfl, rfl⟩ := hc
      simp only [Prod.mk.injEq] at hd
      refine ⟨x, us, c6, hxr, hu, hat, rfl, fun ts ds j hs ht hj => ?_⟩
      rcases hlen with rfl | ⟨el, sp, hx2, hel⟩
      · simp
      · have hb : Try.prog.bytesOf 38 = 16 := by kernel_rfl
        have := reach_of hs ht hj (n := (el.length + sp.length) * Try.prog.bytesOf 38) (by
          rw [hd.1]
          simp [DataW.weights, DataW.weightsEach, hx2, Try.underlying109, Try.underlying25])
        rw [hb] at this
        simp only [reachBytes] at this
        omega
set_option maxRecDepth 100000 in
theorem play13_of {r : Reach} {b0 : Nat} {v : Value} {d : DataW H} {p : List MemPlace} (hv : Value.okWide Try.prog w r b0 118 v) (h : DataW.Trod enc Try.prog w 0 (fun _ => true) held 118 v d p) :
    ∃ (x : Cfg) (lv : Int) (us : List (Int × Int)) (u : Value), x.Raw ∧ I64 lv ∧ UpsOk us ∧ UpsAt w u us ∧ v = .agg #[.int .i64 x.bits, .int .i64 x.rows, .int .i64 x.width, .int .i64 x.mode, .int .u64 x.seed, .int .i64 lv, u] ∧
      ∀ (ts : List TypeId) (ds : List (DataW H)) (j : Nat), (DataW.weightsEach Try.prog ts ds).all (· ≤ reachBytes) = true → ts[j]? = some 118 → ds[j]? = some d → us.length ≤ 140737488355328 := by
  obtain ⟨cs, rfl, hsz⟩ := okWide_struct Try.underlying118 hv
  obtain ⟨fuel, hf⟩ := h
  obtain ⟨l⟩ := cs
  obtain ⟨xs, n, _, hd, hl, hx, hg⟩ := DataW.trod_struct Try.underlying118 hf
  have hl' : l.length = 7 := hsz.trans (by kernel_rfl)
  match l, hl' with
  | [c0, c1, c2, c3, c4, c5, c6], _ =>
    have hx' : xs.length = 3 := hx.trans (by kernel_rfl)
    match xs, hx' with
    | [x0, x1, x2], _ =>
      have e0 : DataW.trod enc Try.prog w 0 (fun _ => true) held n 24 [c0, c1, c2, c3, c4] = some x0 := hg 0 _ rfl
      have e1 : DataW.trod enc Try.prog w 0 (fun _ => true) held n 3 [c5] = some x1 := hg 1 _ rfl
      have e2 : DataW.trod enc Try.prog w 0 (fun _ => true) held n 25 [c6] = some x2 := hg 2 _ rfl
      obtain ⟨x, hxr, hc⟩ := cfg_of e0
      obtain ⟨lv, h1, _, w1⟩ := DataW.trod_int Try.underlying3 e1
      obtain ⟨us, hu, hat, hlen⟩ := ups_of e2
      simp only [List.cons.injEq, and_true] at hc h1
      obtain ⟨rfl, rfl, rfl, rfl, rfl⟩ := hc
      subst h1
      simp only [Prod.mk.injEq] at hd
      refine ⟨x, lv, us, c6, hxr, wf_i64 w1, hu, hat, rfl, fun ts ds j hs ht hj => ?_⟩
      rcases hlen with rfl | ⟨el, sp, hx2, hel⟩
      · simp
      · have hb : Try.prog.bytesOf 38 = 16 := by kernel_rfl
        have := reach_of hs ht hj (n := (el.length + sp.length) * Try.prog.bytesOf 38) (by
          rw [hd.1]
          simp [DataW.weights, DataW.weightsEach, hx2, Try.underlying118, Try.underlying25])
        rw [hb] at this
        simp only [reachBytes] at this
        omega
end
end Go.Proofs.Ytpnbgoahjoabkaa

/- StackOver: where no key has less than 0, no prefix is told less than it has, in the modes Linear and Conservative. No condition: every input. -/
namespace Go.Proofs.Ytpnbgoahjoabkaa
set_option linter.unusedVariables false
open Go.ChangeShapes Go.WideShapes Go.ChangeAt Go.RowKit

set_option maxRecDepth 100000 in
theorem stackOver_lifted (os : Os) (started : os.Started) (H : Type) (enc : TypeId × Value → H) :
    ReturnsInHanded {} Try.checked os 7 .any (Rows.stackOverSpec.pre6 enc Try.prog Try.f7 Rows.stackOverRow.domain false) (Rows.stackOverSpec.post enc Try.prog Try.f7 false true false false) := by
  refine returnsInHanded_of_change_sized (C := Try.checked) own started (by kernel_rfl) Try.func7
    (ChangeSpec.witness6 (enc := enc) (C := Try.checked) false ⟨#[], #[.agg #[.int .i64 0, .int .i64 0, .int .i64 0, .int .i64 0, .int .u64 0, .slice none 0 0], .int .i64 0, .int .u64 0], []⟩ 8 (by kernel_rfl) (by kernel_rfl) (by kernel_rfl) (by kernel_rfl)) ?_
  intro W base args ds gs before hval0 hW hcnd hsz0 _
  have hval : ∀ (j : Nat) t v, Try.f7.params[j]? = some t → args[j]? = some v → Value.okWide Try.prog W .any base t v := hval0
  have hW' := hW
  obtain ⟨p, q, hA0, hV, rfl, hfz, hnd⟩ := hW
  have hA : DataW.TrodAll enc Try.prog W 0 (fun _ => true) true Try.f7.params.toList args.toList ds p := hA0
  have hsz : (DataW.weightsEach Try.prog (Try.f7.params.toList ++ Rows.stackOverSpec.plain.varTypes Try.prog) (ds ++ gs)).all (· ≤ reachBytes) = true := hsz0
  rw [Try.params7] at hA hval hsz
  obtain ⟨v0, vs0, d0, ds0, p0, q0, hargs, rfl, rfl, h0, r0⟩ := trodAll_cons hA
  obtain ⟨v1, vs1, d1, ds1, p1, q1, rfl, rfl, rfl, h1, r1⟩ := trodAll_cons r0
  obtain ⟨v2, vs2, d2, ds2, p2, q2, rfl, rfl, rfl, h2, r2⟩ := trodAll_cons r1
  obtain ⟨rfl, rfl, rfl⟩ := trodAll_nil r2
  obtain rfl : args = #[v0, v1, v2] := by cases args; simp_all
  obtain ⟨rfl, rfl⟩ := trodVars_none hV
  have k0 := h0
  have k1 := h1
  have k2 := h2
  have lt0 : ∀ x ∈ p0, x.block < W.heap.size := by obtain ⟨m, hm⟩ := k0; exact DataW.trod_lt m _ _ _ hm
  have lt1 : ∀ x ∈ p1, x.block < W.heap.size := by obtain ⟨m, hm⟩ := k1; exact DataW.trod_lt m _ _ _ hm
  have lt2 : ∀ x ∈ p2, x.block < W.heap.size := by obtain ⟨m, hm⟩ := k2; exact DataW.trod_lt m _ _ _ hm
  obtain ⟨x0, us0, u0, hx0, hus0, hat0, rfl, hr0⟩ := play15_of (hval 0 _ v0 rfl rfl) h0
  have hul0 := hr0 _ _ 0 hsz rfl rfl
  obtain ⟨n1, rfl, _, _, wf1⟩ := open_int Try.underlying3 (hval 1 _ v1 rfl rfl) h1
  have hn1 := wf_i64 wf1
  obtain ⟨n2, rfl, _, _, wf2⟩ := open_int Try.underlying22 (hval 2 _ v2 rfl rfl) h2
  have hn2 := wf_u64 wf2
  clear hA0 hval0
  refine (OverL_c x0 hx0 n1 hn1 n2 hn2 us0 hus0 u0 W hat0 hul0).mono fun e W' ⟨he, bel⟩ => ?_
  subst he
  exact ⟨_, rfl, _, _, _, [], _, [], hW', trodAll_mk1 (shut_bool Try.underlying4 _), (trodAll_cons_mk (Below.trod laidOut (by kernel_rfl) (of_decide_eq_true (by kernel_rfl)) k0 bel lt0) (trodAll_cons_mk (Below.trod laidOut (by kernel_rfl) (of_decide_eq_true (by kernel_rfl)) k1 bel lt1) (trodAll_cons_mk (Below.trod laidOut (by kernel_rfl) (of_decide_eq_true (by kernel_rfl)) k2 bel lt2) trodAll_mk0))), rfl, bel.frame _, fun h => by cases h⟩
end Go.Proofs.Ytpnbgoahjoabkaa
