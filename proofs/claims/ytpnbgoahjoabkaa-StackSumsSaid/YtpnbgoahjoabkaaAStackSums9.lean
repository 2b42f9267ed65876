/- A row of numbers of the call's own, one of them set. -/
import Derived.Test.YtpnbgoahjoabkaaAStackSums8
import Derived.Laws.OwnMore
import Derived.ProofKit
import Derived.OpenShut
import Derived.ChangeOld
import Derived.Below
import Derived.SizedLaws
import Derived.Deep.Slices
import Derived.Deep.Fields

/- A row of numbers of the call's own, one of them set. -/
namespace Go.Proofs.Ytpnbgoahjoabkaa
set_option linter.unusedVariables false
open Go.RowKit
theorem own_keep1 {w w' : World} {base g : Nat} {e : TypeId} {n cap : Nat} {xs : List Value} (h : w.ownsRow base e 1 (.slice (some ⟨g, 0, none⟩) n cap) n xs) (hg : w'.heap[g]? = w.heap[g]?) : w'.ownsRow base e 1 (.slice (some ⟨g, 0, none⟩) n cap) n xs := by
  refine ⟨h.1, h.2.imp id ?_⟩
  rintro ⟨g', cap', cur, h', hb, hh, r⟩
  refine ⟨g', cap', cur, h', hb, ?_, r⟩
  obtain rfl : g = g' := by simpa using (Value.slice.inj h').1
  rw [hg]; exact hh
theorem own_put1 {w : World} {base g : Nat} {e : TypeId} {n cap : Nat} {l : List Int} (h : w.ownsRow base e 1 (.slice (some ⟨g, 0, none⟩) n cap) n (ints l)) (j : Nat) (x : Int) : (w.setCell ⟨g, j, none⟩ (.int .i64 x)).ownsRow base e 1 (.slice (some ⟨g, 0, none⟩) n cap) n (ints (l.set j x)) := by
  have := (h.stored j (.int .i64 x)).1
  unfold ints at *
  rw [List.map_set]; exact this
theorem mod_put1 {w w' : World} {g j : Nat} (h : Mod (fun i => i = g) w w') (u : Value) : Mod (fun i => i = g) w (w'.setCell ⟨g, j, none⟩ u) :=
  ⟨h.os, h.tape, h.output, by rw [size_setCell]; exact h.size, fun k hk hn => (setCell_other _ _ hn).trans (h.block k hk hn)⟩
theorem own_cell1 {w : World} {base g : Nat} {e : TypeId} {n cap : Nat} {l : List Int} (h : w.ownsRow base e 1 (.slice (some ⟨g, 0, none⟩) n cap) n (ints l)) {j : Nat} (hj : j < l.length) : w.cell? ⟨g, j, none⟩ = some (.int .i64 (l.getD j 0)) ∧ w.frozen? ⟨g, j, none⟩ = false := by
  obtain ⟨g', cap', cur, hv', _, hgh, _⟩ := h.2.resolve_left (fun h => by cases h.1)
  obtain rfl : g = g' := by simpa using (Value.slice.inj hv').1
  refine ⟨?_, frozen_of hgh j⟩
  obtain ⟨g2, o2, c2, hv2, _, hk⟩ := (IntsAt.of_row h).slice (by omega)
  have h1 := (Value.slice.inj hv2).1
  simp at h1
  obtain ⟨rfl, rfl⟩ := h1
  have := hk j hj
  rwa [Nat.zero_add] at this
end Go.Proofs.Ytpnbgoahjoabkaa

/- gaugerlaw15.StackSums, walked. -/
namespace Go.Proofs.Ytpnbgoahjoabkaa
set_option linter.unusedVariables false
open Go.RowKit
/-- One more update, at an exact level. -/
theorem sums_x {C : Cfg} {n : Nat} {us : List (Int × Int)} {uk ud : Int} {A : Nat} (hX : isX C n = true) (hA : sh n (cutK C 0 uk) = (A : Int)) : feedK C (us ++ [(uk, ud)]) n = (feedK C us n).set A ((feedK C us n).getD A 0 + cutD C.mode ud) := by
  rw [feedK_snoc]
  unfold updK
  rw [lvU_x hX, hA]
  rfl
/-- One more update, at a level that is a sketch. -/
theorem sums_s {C : Cfg} {n : Nat} {us : List (Int × Int)} {uk ud : Int} (hX : isX C n = false) (hm : C.mode ≠ 2) :
    feedK C (us ++ [(uk, ud)]) n = putK (wN C) (cols C n (sh n (cutK C 0 uk))) (fun j => (feedK C us n).getD (at_ (wN C) (cols C n (sh n (cutK C 0 uk))) j) 0 + cutD C.mode ud) (rN C) (feedK C us n) := by
  rw [feedK_snoc]
  unfold updK
  rw [lvU_s hX]
  unfold updL
  rw [decide_eq_false hm]
  rfl
set_option maxRecDepth 20000 in
set_option maxHeartbeats 16000000 in
theorem SumsK_c (x : Cfg) (hx : x.Raw) (lv : Int) (hlv : I64 lv) (med : Bool) (us : List (Int × Int)) (hus : UpsOk us) (v : Value) (w : World) (hv : UpsAt w v us) (hul : us.length ≤ 140737488355328) :
    Calls Try.prog 5 #[.agg #[.int .i64 x.bits, .int .i64 x.rows, .int .i64 x.width, .int .i64 x.mode, .int .u64 x.seed, v], .int .i64 lv, .bool med] w fun e w' => e = .returned (.bool true) ∧ Ext w w' := by
  obtain ⟨vp, vc, rfl⟩ := hv.sl
  have HV := Lib.hid hv
  obtain ⟨ii, hi, hz0, hz1, hz2⟩ := info_parts info_i64
  have HMK := Lib.hid (fun (N : Nat) (hN : N ≤ 1000000) (x : World) => run_make_ints 55 2 ii Try.underlying55 hi hz0 hz1 hz2 N hN (fun _ => 0) x)
  clear hv hi hz0 hz1 hz2
  go_enter Try.func5, Try.ntmps5
  go_wp2_with fail
  refine (shownK_c _).mono ?_
  rintro e w1 ⟨rfl, hb1⟩
  have hE1 : Ext w w1 := by (repeat' (first | exact Ext.refl _ | assumption | apply Ext.allocR | apply Ext.drewR | apply Ext.drewNR | (refine Ext.trans' ?_ (by assumption))))
  have hP1 := hb1.keep (heap_at w (.cells #[.int .i64 x.bits, .int .i64 x.rows, .int .i64 x.width, .int .i64 x.mode, .int .u64 x.seed, .slice vp us.length vc] 64) rfl)
  have p0 := (cell_of hP1 0).trans rfl
  have p1 := (cell_of hP1 1).trans rfl
  have p2 := (cell_of hP1 2).trans rfl
  have p3 := (cell_of hP1 3).trans rfl
  have p4 := (cell_of hP1 4).trans rfl
  have p5 := (cell_of hP1 5).trans rfl
  have pl := lt_of hP1
  clear hb1
  go_upto_if 20 with (fail)
  go_cut [8] (fun s8 wx => s8 = .int .i64 (medK med) ∧ wx = w1)
  case first =>
    cases med
    · go_wp2_with fail
      go_meet
      exact ⟨rfl, rfl⟩
    · go_wp2_with fail
      go_meet
      exact ⟨rfl, rfl⟩
  case rest =>
   obtain ⟨rfl, rfl⟩ := hcut
   have hm12 : medK med = 1 ∨ medK med = 3 := by cases med <;> simp [medK]
   generalize medK med = m at *
   have hm0 : 0 < m := by omega
   have hm3 : m ≤ 3 := by omega
   go_wp2_with fail
   refine Calls.mono (fed15_c x hx 10 (by decide) (by decide) m (by omega) hm3 us hus _ 0 60 (by decide) (by decide) _ (HV.out.ext hE1) hul) ?_
   rintro e w2 ⟨s, g0, L, rfl, hK, hs, hg0, hF, hx2⟩
   have hok := kcfg_ok x hx.s (nb := 10) (m := m) (by decide) (by decide) hm3
   have hmd := kcfg_mode' x 10 hm0
   generalize kcfg x 10 m = C at *
   have hmn : C.mode ≠ 2 := by omega
   have hb1 := hok.b1
   have hb2 := hok.b2
   obtain ⟨B, hB⟩ : ∃ B : Nat, C.bits = B := ⟨C.bits.toNat, by omega⟩
   have hBt : C.bits.toNat = B := by omega
   have hBd : B ≤ 59 := by omega
   rw [hBt] at hK
   have hE2 : Ext w w2 := by (repeat' (first | exact Ext.refl _ | assumption | apply Ext.allocR | apply Ext.drewR | apply Ext.drewNR | (refine Ext.trans' ?_ (by assumption))))
   have hP2 := hx2.keep hP1
   have HB := Lib.hid hB
   clear p0 p1 p2 p3 p4 p5 pl hP1 hx2 hE1 hs hg0 hF hB hBt hmd hm12
   go_upto_region 8 with (fail)
   obtain ⟨w3, hw3⟩ : ∃ w3, w2.alloc (.cells #[.int .i64 C.bits, .int .i64 C.rows, .int .i64 C.width, .int .i64 C.mode, .int .u64 C.seed] 24) = w3 := ⟨_, rfl⟩
   have hx3 : Ext w2 w3 := by rw [← hw3]; exact Ext.alloc' _ _
   have hC3 : CfgAt w3 w2.heap.size C := by rw [← hw3]; exact CfgAt.box C _ rfl
   have hs3 := hC3.lt
   rw [hw3]
   clear hw3
   have hE3 := hE2.trans' hx3
   have hP3 := hx3.keep hP2
   have hK3 := hK.ext hx3
   clear hK hP2 hE2 hx3
   have k0 := Int.emod_nonneg (lv % 65536) (show (B : Int) + 1 ≠ 0 by omega)
   have k1 := Int.emod_lt_of_pos (lv % 65536) (show 0 < (B : Int) + 1 by omega)
   obtain ⟨n, hn⟩ : ∃ n : Nat, lv % 65536 % ((B : Int) + 1) = n := ⟨_, (Int.toNat_of_nonneg k0).symm⟩
   have hnB : n ≤ B := by omega
   have HN := Lib.hid hn
   clear hn k0 k1
   have hla := and16 lv
   have c0 := hC3.c0
   go_cut [1] (fun s1 wx => s1 = .int .i64 n ∧ w3 = wx)
   case first =>
     go_wp2
     go_meet
     exact ⟨by rw [HB.out, HN.out], rfl⟩
   case rest =>
    obtain ⟨rfl, rfl⟩ := hcut
    have c1 := hC3.c1
    have c2 := hC3.c2
    have c3 := hC3.c3
    have c4 := hC3.c4
    have cl := hC3.lt
    have hnb : (n : Int) ≤ C.bits := by have := HB.out; omega
    have hr1 := hok.r1
    have hr2 := hok.r2
    have hw1 := hok.w1
    have hw2 := hok.w2
    have hp1 : 0 ≤ C.rows * C.width := Int.mul_nonneg (by omega) (by omega)
    have hp2 : C.rows * C.width ≤ 1024 := Int.le_trans (Int.mul_le_mul hr2 hw2 (by omega) (by decide)) (by decide)
    have hkn := keys_bd C hok n (Int.natCast_nonneg n)
    have hNs : isX C n = false → (lvN C n : Int) = C.rows * C.width := fun h => by
      unfold lvN; rw [h, rN_eq hok, wN_eq hok]; simp
    have hNx : isX C n = true → (lvN C n : Int) = keys C n := fun h => by
      unfold lvN; rw [h]; exact (kN_eq' hok n).symm
    have HNS := Lib.hid hNs
    have HNX := Lib.hid hNx
    clear hla hNs hNx hr1 hr2 hw1 hw2
    have hNl := lvN_le hok n
    go_wp2_with fail
    refine (Exact_c C hok n (Int.natCast_nonneg n) hnb _).mono ?_
    rintro e w4 ⟨rfl, hx4⟩
    have hE4 : Ext w3 w4 := by (repeat' (first | exact Ext.refl _ | assumption | apply Ext.allocR | apply Ext.drewR | apply Ext.drewNR | (refine Ext.trans' ?_ (by assumption))))
    clear hx4
    have hC4 := hC3.ext hE4
    clear c0 c1 c2 c3 c4 cl
    have c0 := hC4.c0
    have c1 := hC4.c1
    have c2 := hC4.c2
    have c3 := hC4.c3
    have c4 := hC4.c4
    have cl := hC4.lt
    go_upto_if 42 with (fail)
    go_cut [11] (fun s11 wx => s11 = .int .i64 (lvN C n : Int) ∧ Ext w4 wx)
    case first =>
      cases hX : isX C n with
      | true =>
        have HX := Lib.hid hX
        have hl := HNX.out hX
        have hle : keys C n ≤ 1000000 := by omega
        have HL := Lib.hid hl
        clear hX hl
        go_wp2_with fail
        refine (KeysR_c C hok n (Int.natCast_nonneg n) hnb _).mono ?_
        rintro e w5 ⟨rfl, hx5⟩
        go_wp2
        go_meet
        exact ⟨by rw [HL.out], by (repeat' (first | exact Ext.refl _ | assumption | apply Ext.allocR | apply Ext.drewR | apply Ext.drewNR | (refine Ext.trans' ?_ (by assumption))))⟩
      | false =>
        have hl := HNS.out hX
        have HL := Lib.hid hl
        clear hX hl
        go_wp2_with fail
        go_meet
        exact ⟨by rw [HL.out], Ext.refl _⟩
    case rest =>
     obtain ⟨rfl, hx5⟩ := hcut
     rename World => w5
     have hE5 := hE4.trans' hx5
     have hmk := HMK.out (lvN C n) hNl
     have hk0 : feedK C (fus us 0 0) n = zs (lvN C n) := by rw [fus_self]; rfl
     clear c0 c1 c2 c3 c4 cl hC4 hx5 hp1 hp2 hE4
     generalize hNN : lvN C n = N at *
     have HNN := Lib.hid hNN
     have HK0 := Lib.hid hk0
     clear hk0 hNN
     go_upto_region 13 with (fail)
     clear hmk
     obtain ⟨w6, hw6⟩ : ∃ w6, w5.alloc (.cells (fillA (fun _ => 0) 0 N) 2) = w6 := ⟨_, rfl⟩
     have hx6 : Ext w5 w6 := by rw [← hw6]; exact Ext.alloc' _ _
     have hrow0 : w6.ownsRow w5.heap.size 2 1 (.slice (some ⟨w5.heap.size, 0, none⟩) N N) N (ints (zs N)) := by
       rw [← hw6]
       exact ownsRow_of (heap_at _ _ rfl) (Nat.le_refl _) (Nat.le_refl _) (by unfold maxLen; omega) (by rw [fillA_size]) (by rw [fill0]; exact List.take_of_length_le (by rw [ints_len, zs_len]; exact Nat.le_refl _))
     rw [hw6]
     clear hw6
     have hE6 := hE5.trans' hx6
     have hgl : w5.heap.size < w6.heap.size := by obtain ⟨g', _, _, hv', _, hgh, _⟩ := hrow0.2.resolve_left (fun h => by cases h.1); cases hv'; exact lt_of hgh
     have hs5 := hE5.size
     have hK6 := hK3.ext hE6
     have hC6 := hC3.ext hE6
     have hP6 := hE6.keep hP3
     have hE06 := hE3.trans' hE6
     rw [← HK0.out] at hrow0
     have hUw := hE3.size
     have HPW := Lib.hid hP6
     have HCW := Lib.hid hC6
     have HKW := Lib.hid hK6
     have hgC : w2.heap.size ≠ w5.heap.size := by omega
     have hgP : w.heap.size ≠ w5.heap.size := by have := lt_of hP3; omega
     have hLg : ∀ j, j ≤ B → (L j).c ≠ w5.heap.size := fun j hj he => by have := (hK3.lev j hj).ltc; omega
     have hgt : ∃ cur, w6.heap[w5.heap.size]? = some (.cells cur 2 (0, 0)) := own_type hrow0 rfl
     clear hK3 hC3 hP3 hx6 hE5 hP6 hC6 hK6 HK0 hE6
     have hM0 : Mod (fun i => i = w5.heap.size) w6 w6 := Mod.refl _ _
     generalize hg : w5.heap.size = g at *
     go_wp2
     go_loopw [13] (fun u13 wr => ∃ k : Nat, k ≤ 60 ∧ k ≤ us.length ∧ u13 = .int .i64 k ∧ wr.ownsRow g 2 1 (.slice (some ⟨g, 0, none⟩) N N) N (ints (feedK C (fus us 0 k) n)) ∧ Mod (fun i => i = g) w6 wr) (fun u13 _ => 60 - (intOf u13).toNat)
     case atStart => exact ⟨0, Nat.zero_le _, Nat.zero_le _, rfl, hrow0, hM0⟩
     case round =>
      clear hM0 hrow0
      obtain ⟨k, hk60, hkl, rfl, hrow, hM⟩ := hrel
      have hMs := hM.size
      have hCr := HCW.out.mod hM hgC
      have hPr := hM.keep HPW.out hgP
      have p5 := (cell_of hPr 5).trans rfl
      have pl := lt_of hPr
      have c0 := hCr.c0
      have c1 := hCr.c1
      have c2 := hCr.c2
      have c3 := hCr.c3
      have c4 := hCr.c4
      have cl := hCr.lt
      have hgr : g < wr.heap.size := by omega
      by_cases hgo : k < us.length ∧ k < 60
      · obtain ⟨hg1, hg2⟩ := hgo
        obtain ⟨ug, off, rfl, hul0, d0', d1'⟩ := HV.out.one hg1
        have d0 := (mcell hM (b := ug) (by have := hE06.size; omega) (by have := hE3.size; omega) (off + k * 2)).trans (((bcell hE06).1 _ _ hul0).trans d0')
        have d1 := (mcell hM (b := ug) (by have := hE06.size; omega) (by have := hE3.size; omega) (off + k * 2 + 1)).trans (((bcell hE06).1 _ _ hul0).trans d1')
        have hgl2 : ug < wr.heap.size := by have := hE06.size; omega
        have hf := fus_snoc us (Nat.zero_le k) hg1
        have hu := hus _ (List.getElem_mem hg1)
        have hget : us.getD k (0, 0) = us[k] := by simp [hg1]
        rw [hget] at hf
        generalize us[k] = uu at *
        obtain ⟨uk, ud⟩ := uu
        have HF := Lib.hid hf
        have hbd := feedK_bnd C (fus us 0 k) n
        have hfl := fus_len us 0 k
        have HCR := Lib.hid hCr
        have HBD := Lib.hid hbd
        clear hf hget d0' d1' hCr hPr hbd
        go_upto_region 16 with (fail)
        go_cut [14] (fun s14 wx => ∃ bu : Nat, s14 = .pointer (some ⟨bu, 0, none⟩) ∧ wx.heap[bu]? = some (.cells #[.int .u64 (cutK C 0 uk), .int .i64 (cutD C.mode ud)] 38 (0, 0)) ∧ Ext wr wx ∧ wr.heap.size ≤ bu)
        case first =>
          have hC0 := af_drew wr
          refine pi_start (fun w' => ∃ x : After wr, w' = x.w) [] (by kernel_rfl) ?_
          refine pi_c 0 (by assumption) rfl (by kernel_rfl) (by kernel_rfl) (fun _ _ _ _ h => h) (fun K hK => ?_)
          go_big_quiet_op
          refine hK _ ?_
          clear hK K
          refine pi_t 1 rfl (by kernel_rfl) (by kernel_rfl) (fun _ _ _ _ h => h) (fun K hK => ?_)
          go_big_quiet_op
          refine hK _ ?_
          clear hK K
          refine pi_c 2 (by assumption) rfl (by kernel_rfl) (by kernel_rfl) (fun _ _ _ _ h => h) (fun K hK => ?_)
          go_big_quiet_op
          refine hK _ ?_
          clear hK K
          refine pi_t 3 rfl (by kernel_rfl) (by kernel_rfl) (fun _ _ _ _ h => h) (fun K hK => ?_)
          go_big_quiet_op
          refine hK _ ?_
          clear hK K
          refine pi_t 4 rfl (by kernel_rfl) (by kernel_rfl) (fun _ _ _ _ h => h) (fun K hK => ?_)
          go_big_quiet_op
          refine hK _ ?_
          clear hK K
          refine pi_c 5 (by assumption) rfl (by kernel_rfl) (by kernel_rfl) (fun _ _ _ _ h => h) (fun K hK => ?_)
          go_big_quiet_op
          refine hK _ ?_
          clear hK K
          refine pi_b 6 7 rfl rfl (by kernel_rfl) (fun K hK => ?_) (fun K hK => ?_)
          · go_wp2_with (go_at_call 50; refine (Cut15_c C hok uk ud hu.1 hu.2 _).mono ?_; rintro e w3 ⟨rfl, hx3⟩)
            have hx3' : Ext wr w3 := Ext.trans' (Below.drew (Ext.refl wr)) hx3
            have hs3 := hx3'.size
            refine hK _ _ (fun _ h => af_step h hx3) ?_
            clear hK K
            refine pi_l 7 rfl (by kernel_rfl) (fun K hK => ?_)
            go_wp2
            refine hK _ _ (fun _ h => af_step h (Ext.alloc' _ _)) ?_
            clear hK K
            refine pi_l 8 rfl (by kernel_rfl) (fun K hK => ?_)
            go_wp2
            refine hK _ _ (fun _ _ => ⟨⟨_, hx3'.allocR _⟩, rfl⟩) ?_
            clear hK K
            refine pi_end (by kernel_rfl) ?_
            go_wp2_with fail
            go_meet
            exact ⟨w3.heap.size, rfl, heap_at _ _ rfl, hx3'.allocR _, hs3⟩
          · go_wp2
            refine hK _ _ (fun _ h => af_step h (Ext.alloc' _ _)) ?_
            clear hK K
            refine pi_l 6 rfl (by kernel_rfl) (fun K hK => ?_)
            go_wp2_with (go_at_call 50; refine (Cut15_c C hok uk ud hu.1 hu.2 _).mono ?_; rintro e w3 ⟨rfl, hx3⟩)
            refine hK _ _ (fun _ h => af_step h hx3) ?_
            clear hK K
            have hs3 : (wr.alloc (.cells #[.int .u64 0, .int .i64 0] 38)).heap.size ≤ w3.heap.size := hx3.size
            rw [size_alloc] at hs3
            have hx3' : Ext wr w3 := Ext.trans' (Ext.alloc' wr _) (Ext.trans' (Below.drew (Ext.refl _)) hx3)
            have hbx : w3.heap[wr.heap.size]? = some (.cells #[.int .u64 0, .int .i64 0] 38 (0, 0)) := by
              rw [hx3.block _ (by show _ < (wr.alloc _).heap.size; rw [size_alloc]; exact Nat.lt_succ_self _)]
              exact heap_at wr _ rfl
            have p0 := (cell_of hbx 0).trans rfl
            have p1 := (cell_of hbx 1).trans rfl
            have f0 := frozen_of hbx 0
            have f1 := frozen_of hbx 1
            refine pi_l 8 rfl (by kernel_rfl) (fun K hK => ?_)
            go_wp2
            refine hK _ _ (fun _ _ => ⟨⟨_, (hx3'.setR (Nat.le_refl _) _).setR (Nat.le_refl _) _⟩, rfl⟩) ?_
            clear hK K
            refine pi_end (by kernel_rfl) ?_
            go_wp2_with fail
            go_meet
            exact ⟨wr.heap.size, rfl, set2 hbx _ _, (hx3'.setR (Nat.le_refl _) _).setR (Nat.le_refl _) _, Nat.le_refl _⟩
        case rest =>
          obtain ⟨bu, rfl, hbu, hxw, hbul⟩ := hcut
          have hkb := cutK_bd C hok 0 uk (Int.le_refl 0)
          have hdb := cutD_bd C.mode ud
          have hsn := sh_nn hkb.1 n
          have hsl := sh_lt hok hnb hkb.1 hkb.2
          obtain ⟨A, hA⟩ : ∃ A : Nat, sh n (cutK C 0 uk) = (A : Int) := ⟨(sh n (cutK C 0 uk)).toNat, (Int.toNat_of_nonneg hsn).symm⟩
          have hAd : cutK C 0 uk / 2 ^ n = (A : Int) := hA
          have hkx : isX C n = true → feedK C (fus us 0 (k + 1)) n = (feedK C (fus us 0 k) n).set A ((feedK C (fus us 0 k) n).getD A 0 + cutD C.mode ud) := fun h => by rw [HF.out]; exact sums_x h hA
          have hks : isX C n = false → feedK C (fus us 0 (k + 1)) n = putK (wN C) (cols C n A) (fun j => (feedK C (fus us 0 k) n).getD (at_ (wN C) (cols C n A) j) 0 + cutD C.mode ud) (rN C) (feedK C (fus us 0 k) n) := fun h => by rw [HF.out, ← hA]; exact sums_s h hmn
          have hrowx := own_keep1 hrow (hxw.block _ hgr)
          have hMx : Mod (fun i => i = g) w6 wc := hM.trans (hxw.mod _)
          have hLl : (feedK C (fus us 0 k) n).length = N := by have := hrow.1; simpa [ints] using this
          have hbd' : ∀ a, -65970697666560 ≤ (feedK C (fus us 0 k) n).getD a 0 ∧ (feedK C (fus us 0 k) n).getD a 0 ≤ 65970697666560 := by
            intro a
            have := HBD.out.getD (by omega) a
            have h60 : ((fus us 0 k).length : Int) ≤ 60 := by omega
            constructor <;> omega
          rw [hA] at hsl
          have hCw := HCR.out.ext hxw
          have e0 := hCw.c0
          have e1 := hCw.c1
          have e2 := hCw.c2
          have e3 := hCw.c3
          have e4 := hCw.c4
          have el := hCw.lt
          have b0 := (cell_of hbu 0).trans rfl
          have b1 := (cell_of hbu 1).trans rfl
          have hbl := lt_of hbu
          have hgw : g < wc.heap.size := by have := hxw.size; omega
          have hbg : bu ≠ g := by omega
          have HKX := Lib.hid hkx
          have HKS := Lib.hid hks
          clear hkx hks HBD hrow hM c0 c1 c2 c3 c4 cl d0 d1 p5 pl hA hsn
          generalize feedK C (fus us 0 k) n = Lk at *
          generalize cutK C 0 uk = kk at *
          generalize cutD C.mode ud = dd at *
          go_wp2_with fail
          refine (Exact_c C hok n (Int.natCast_nonneg n) hnb _).mono ?_
          rintro e w7 ⟨rfl, hx7⟩
          have hE7 : Ext wc w7 := by (repeat' (first | exact Ext.refl _ | assumption | apply Ext.allocR | apply Ext.drewR | apply Ext.drewNR | (refine Ext.trans' ?_ (by assumption))))
          clear hx7
          have hrow7 := own_keep1 hrowx (hE7.block _ hgw)
          have hM7 : Mod (fun i => i = g) w6 w7 := hMx.trans (hE7.mod _)
          have hC7 := hCw.ext hE7
          have hb7 := hE7.keep hbu
          have hs7 := hE7.size
          clear e0 e1 e2 e3 e4 el b0 b1 hbu hrowx hMx hCw hE7 hAd hkb
          have b1 := (cell_of hb7 1).trans rfl
          have hbl7 : bu < w7.heap.size := by omega
          have hgl7 : g < w7.heap.size := by omega
          cases hX : isX C n with
          | true =>
            have hnx := HNX.out hX
            have hAN : A < N := by omega
            have g2 : decide ((N : Int) ≤ (A : Int)) = false := decide_eq_false (by omega)
            obtain ⟨pw, pf⟩ := own_cell1 hrow7 (j := A) (by rw [hLl]; exact hAN)
            obtain ⟨hy1, hy2⟩ := hbd' A
            have hkx := HKX.out hX
            have HKX := Lib.hid hkx
            clear hkx hX HKS hnx hsl
            generalize hyy : Lk.getD A 0 = y at *
            clear hyy
            go_wp2_with fail
            refine wp_region_after_tail 10 (by kernel_rfl) (by kernel_rfl) ?_
            simp only [List.take_succ_cons, List.take_zero, List.drop_succ_cons, List.drop_zero]
            repeat (go_big_quiet_step (fail))
            refine wpQuiet_nil ?_
            rintro _ ⟨xx, rfl⟩
            obtain ⟨w8, hb8⟩ := xx
            try dsimp only
            have pw8 := ((bcell hb8).1 _ _ hgl7).trans pw
            have pf8 := ((bcell hb8).2 _ _ hgl7).trans pf
            have hgl8 : g < w8.heap.size := by have := hb8.size; omega
            go_wp2
            go_roundw
            case rel => exact ⟨k + 1, by omega, by omega, by go_num, by rw [HKX.out]; exact own_put1 (own_keep1 hrow7 (hb8.block g hgl7)) _ _, mod_put1 (hM7.trans (hb8.mod _)) _⟩
            case measure => simp [intOf]; omega
          | false =>
            have hNW : N = rN C * wN C := by rw [← HNN.out]; unfold lvN; rw [hX]; rfl
            have hks := HKS.out hX
            have hcs := cols_meets C hok n (A : Int) (rN_eq hok) (wN_eq hok)
            have hcl : C.rows.toNat = rN C := rfl
            have HR := Lib.hid (rN_eq hok)
            have HW := Lib.hid (wN_eq hok)
            have hR8 : rN C ≤ 8 := by have := hok.r2; unfold rN; omega
            have hW128 : wN C ≤ 128 := by have := hok.w2; unfold wN; omega
            have HKS := Lib.hid hks
            have HNW := Lib.hid hNW
            have hN1024 : N ≤ 1024 := by rw [hNW]; exact Nat.le_trans (Nat.mul_le_mul hR8 hW128) (by decide)
            have e0 := hC7.c0
            have e1 := hC7.c1
            have e2 := hC7.c2
            have e3 := hC7.c3
            have e4 := hC7.c4
            have el := hC7.lt
            clear hks hNW HKX
            go_wp2_with fail
            refine Calls.mono (Columns_c C hok n (A : Int) (Int.natCast_nonneg n) hnb (by omega) (Int.natCast_nonneg A) hsl _) ?_
            rintro e w8 ⟨v8, rfl, ho8, hx8⟩
            have hE8 : Ext w7 w8 := by (repeat' (first | exact Ext.refl _ | assumption | apply Ext.allocR | apply Ext.drewR | apply Ext.drewNR | (refine Ext.trans' ?_ (by assumption))))
            have hne := own_ne ho8 (c := g) (by omega)
            have hv8 := IntsAt.of_row ho8
            rw [hcl] at *
            generalize rN C = R at *
            generalize wN C = W at *
            obtain ⟨vg, vo, vcap, rfl, hvl, hvc⟩ := hv8.slice (by rw [hcs.len]; have := hok.r1; have := HR.out; omega)
            rw [hcs.len] at hvc
            have hs8 := hE8.size
            have hrow8 := own_keep1 hrow7 (hE8.block g hgl7)
            have hM8 := hM7.trans (hE8.mod (fun i => i = g))
            have hb8 := hE8.keep hb7
            have hC8 := hC7.ext hE8
            have hvg : vg ≠ g := hne _ _ _ _ rfl
            have hvc' : ∀ k, k < R → w8.cell? ⟨vg, vo + k, none⟩ = some (.int .i64 ((cols C n (A : Int)).getD k 0)) := hvc
            rw [hcs.len]
            generalize cols C n (A : Int) = cs at *
            have CS := Lib.hid hvc'
            have B8 := Lib.hid hb8
            have C8 := Lib.hid hC8
            have hM80 : Mod (fun i => i = g) w8 w8 := Mod.refl _ _
            have hR0 : w8.ownsRow g 2 1 (.slice (some ⟨g, 0, none⟩) N N) N (ints (putK W cs (fun j => Lk.getD (at_ W cs j) 0 + dd) 0 Lk)) := hrow8
            clear hvc hvc' hv8 ho8 hne b1 hb7 hb8 hC7 hC8 hrow7 hrow8 e0 e1 e2 e3 e4 el hx8 hE8 hM7
            go_wp2_with fail
            go_loopw [17] (fun u17 wv => ∃ r : Nat, r ≤ R ∧ u17 = .int .i64 r ∧ wv.ownsRow g 2 1 (.slice (some ⟨g, 0, none⟩) N N) N (ints (putK W cs (fun j => Lk.getD (at_ W cs j) 0 + dd) r Lk)) ∧ Mod (fun i => i = g) w8 wv) (fun u17 _ => R - (intOf u17).toNat)
            case atStart => exact ⟨0, Nat.zero_le _, rfl, hR0, hM80⟩
            case round =>
              clear hR0 hM80
              rename World => wv
              obtain ⟨r, hr, rfl, hrow, hM⟩ := hrel
              have hMs := hM.size
              have hCv := C8.out.mod hM hgC
              have c1 := hCv.c1.trans (show _ = some (Value.int .i64 (R : Int)) by rw [← HR.out])
              have c2 := hCv.c2.trans (show _ = some (Value.int .i64 (W : Int)) by rw [← HW.out])
              have cl := hCv.lt
              have l2' : bu < wv.heap.size := by omega
              have l3' : g < wv.heap.size := by omega
              have l4' : vg < wv.heap.size := by omega
              clear hCv
              by_cases hgo : r < R
              · have d1 := (mcell hM (b := bu) (by omega) hbg 1).trans ((cell_of B8.out 1).trans rfl)
                have pc := (mcell hM (b := vg) (by omega) hvg (vo + r)).trans (CS.out r hgo)
                have a0 := hcs.lo r hgo
                have a1 := hcs.hi r hgo
                have ha := hcs.at_lt hgo
                rw [← HNW.out] at ha
                have hAt : (r : Int) * (W : Int) + cs.getD r 0 = ((at_ W cs r : Nat) : Int) := by
                  unfold at_
                  rw [Int.natCast_add, Int.natCast_mul, Int.toNat_of_nonneg a0]
                have hrw0 : (r : Int) * (W : Int) = ((r * W : Nat) : Int) := by simp
                have hrw3 : r * W ≤ N := HNW.out ▸ Nat.mul_le_mul_right W (by omega)
                have hrw1 : 0 ≤ (r : Int) * (W : Int) := by rw [hrw0]; omega
                have hrw2 : (r : Int) * (W : Int) ≤ 1024 := by rw [hrw0]; omega
                have hsm1 : 0 ≤ (r : Int) * (W : Int) + cs.getD r 0 := by rw [hAt]; omega
                have hsm2 : (r : Int) * (W : Int) + cs.getD r 0 ≤ 1024 := by rw [hAt]; omega
                have g1 : decide (((at_ W cs r : Nat) : Int) < 0) = false := by simp
                have g2 : decide (N ≤ at_ W cs r) = false := by simp; omega
                have hfar := putK_far (f := fun j => Lk.getD (at_ W cs j) 0 + dd) hcs Lk hgo r (Nat.le_refl r)
                obtain ⟨pw, pf⟩ := own_cell1 hrow (j := at_ W cs r) (by rw [putK_len, hLl]; exact ha)
                rw [hfar] at pw
                obtain ⟨hb1', hb2'⟩ := hbd' (at_ W cs r)
                have hput : (putK W cs (fun j => Lk.getD (at_ W cs j) 0 + dd) r Lk).set (at_ W cs r) (Lk.getD (at_ W cs r) 0 + dd) = putK W cs (fun j => Lk.getD (at_ W cs j) 0 + dd) (r + 1) Lk := rfl
                have HPUT := Lib.hid hput
                clear hput hfar hrw0
                generalize hyy : Lk.getD (at_ W cs r) 0 = y at *
                generalize hAA : at_ W cs r = A' at *
                generalize hcc : cs.getD r 0 = cr at *
                have HAt := Lib.hid hAt
                clear hAt hyy hAA hcc
                go_wp2_with fail
                refine wp_region_after (by kernel_rfl) (by kernel_rfl) ?_
                repeat (go_big_quiet_step (fail))
                refine wpQuiet_nil ?_
                rintro _ ⟨xx, rfl⟩
                obtain ⟨w9, hb9⟩ := xx
                try dsimp only
                rw [HAt.out]
                have d1' := ((bcell hb9).1 _ _ l2').trans d1
                have pw' := ((bcell hb9).1 _ _ l3').trans pw
                have pf' := ((bcell hb9).2 _ _ l3').trans pf
                have hs9 := hb9.size
                have l2'' : bu < w9.heap.size := by omega
                have l3'' : g < w9.heap.size := by omega
                go_wp2_with fail
                refine wp_region_after_tail 10 (by kernel_rfl) (by kernel_rfl) ?_
                simp only [List.take_succ_cons, List.take_zero, List.drop_succ_cons, List.drop_zero]
                repeat (go_big_quiet_step (fail))
                refine wpQuiet_nil ?_
                rintro _ ⟨xx, rfl⟩
                obtain ⟨w10, hb10⟩ := xx
                try dsimp only
                have pw10 := ((bcell hb10).1 _ _ l3'').trans pw'
                have pf10 := ((bcell hb10).2 _ _ l3'').trans pf'
                have hb10' : Ext wv w10 := Ext.trans' hb9 hb10
                go_wp2
                go_roundw
                case rel => exact ⟨r + 1, by omega, by go_num, by rw [← HPUT.out]; exact own_put1 (own_keep1 hrow (hb10'.block g l3')) _ _, mod_put1 (hM.trans (hb10'.mod _)) _⟩
                case measure => simp [intOf]; omega
              · go_wp2_with fail
                have hrR : r = R := by omega
                rw [hrR] at hrow
                go_roundw
                case rel =>
                  have hMf := hM8.trans hM
                  have hRf := hrow
                  rw [← HKS.out] at hRf
                  exact ⟨k + 1, hg2, hg1, by go_num, hRf, hMf⟩
                case measure => simp [intOf]; omega
      · have hfe := fus_end us (i := 0) (j := 60) (k := k) (by omega) (by omega) (.inr ⟨hk60, hkl⟩) hgo
        have hlen : (feedK C (fus us 0 k) n).length = N := by have := hrow.1; simpa [ints] using this
        have hEw : Ext w wr := Below.trans hE06 (hM.below (B := w.heap.size) (by omega) (fun i hi => by have := hE3.size; omega))
        have hKr : KAt wr s g0 C B L (feedK C (fus us 0 60)) := HKW.out.mod hM (fun i hi _ => by subst hi; exact hgt) (fun j hj => hLg j hj)
        have hj7 := IntsAt.of_row hrow
        rw [hfe] at hj7
        have hll : (feedK C (fus us 0 60) n).length ≤ 1000000 := by rw [feedK_len]; exact lvN_le hok n
        have HKR := Lib.hid hKr
        have HJ7 := Lib.hid hj7
        clear hfe hKr hj7 hrow p5 c0 c1 c2 c3 c4 cl hCr
        have p5 := (cell_of hPr 5).trans rfl
        clear hPr hM
        by_cases hg1 : k < us.length
        all_goals
          go_wp2_with fail
          refine (KCells_c s g0 C B L _ _ (HKR.out.ext ?hx) n hnB).mono ?_
          case hx => (repeat' (first | exact Ext.refl _ | assumption | apply Ext.allocR | apply Ext.drewR | apply Ext.drewNR | (refine Ext.trans' ?_ (by assumption))))
          rintro e wa ⟨va, rfl, hva, _, hxa⟩
          have hEa : Ext wr wa := by (repeat' (first | exact Ext.refl _ | assumption | apply Ext.allocR | apply Ext.drewR | apply Ext.drewNR | (refine Ext.trans' ?_ (by assumption))))
          have ia := IntsAt.of_row hva
          have ja := HJ7.out.ext hEa
          clear hxa hva
          go_wp2_with fail
          refine (Same_c _ _ _ _ _ (ia.ext ?hx) (ja.ext ?hy) hll hll).mono ?_
          case hx => (repeat' (first | exact Ext.refl _ | assumption | apply Ext.allocR | apply Ext.drewR | apply Ext.drewNR | (refine Ext.trans' ?_ (by assumption))))
          case hy => (repeat' (first | exact Ext.refl _ | assumption | apply Ext.allocR | apply Ext.drewR | apply Ext.drewNR | (refine Ext.trans' ?_ (by assumption))))
          rintro e wb ⟨rfl, hxb⟩
          rw [decide_eq_true rfl]
          go_wp2
          go_ret
          exact ⟨rfl, hEw.trans' (hEa.trans' (by (repeat' (first | exact Ext.refl _ | assumption | apply Ext.allocR | apply Ext.drewR | apply Ext.drewNR | (refine Ext.trans' ?_ (by assumption))))))⟩
end Go.Proofs.Ytpnbgoahjoabkaa

/- What the arguments of the statements read as: a config, updates, a play. No condition. -/
namespace Go.Proofs.Ytpnbgoahjoabkaa
set_option linter.unusedVariables false
open Go.ChangeShapes Go.WideShapes Go.ChangeAt Go.RowKit Go.Deep

theorem wf_u64 {x : Int} (h : (Lit.int IntKind.u64 x).wf = true) : U64 x := by
  have := bounds_u64 h
  exact ⟨this.1, by omega⟩
theorem wf_i64 {x : Int} (h : (Lit.int IntKind.i64 x).wf = true) : I64 x := by
  have := bounds_i64 h
  exact ⟨this.1, by omega⟩
section
variable {H : Type} {enc : TypeId × Value → H} {w : World} {base : Nat} {spare : Nat → Bool} {held : Bool}
set_option maxRecDepth 100000 in
/-- Five cells that read as a config. -/
theorem cfg_of {n : Nat} {cs : List Value} {y : DataW H × List MemPlace} (h : DataW.trod enc Try.prog w base spare held n 24 cs = some y) :
    ∃ C : Cfg, C.Raw ∧ cs = [.int .i64 C.bits, .int .i64 C.rows, .int .i64 C.width, .int .i64 C.mode, .int .u64 C.seed] := by
  obtain ⟨xs, n, _, _, hl, hx, hg⟩ := DataW.trod_struct Try.underlying24 h
  have hl' : cs.length = 5 := hl.trans (by kernel_rfl)
  match cs, hl' with
  | [c0, c1, c2, c3, c4], _ =>
    have hx' : xs.length = 5 := hx.trans (by kernel_rfl)
    match xs, hx' with
    | [x0, x1, x2, x3, x4], _ =>
      have e0 : DataW.trod enc Try.prog w base spare held n 3 [c0] = some x0 := hg 0 _ rfl
      have e1 : DataW.trod enc Try.prog w base spare held n 3 [c1] = some x1 := hg 1 _ rfl
      have e2 : DataW.trod enc Try.prog w base spare held n 3 [c2] = some x2 := hg 2 _ rfl
      have e3 : DataW.trod enc Try.prog w base spare held n 3 [c3] = some x3 := hg 3 _ rfl
      have e4 : DataW.trod enc Try.prog w base spare held n 22 [c4] = some x4 := hg 4 _ rfl
      obtain ⟨a0, h0, _, w0⟩ := DataW.trod_int Try.underlying3 e0
      obtain ⟨a1, h1, _, w1⟩ := DataW.trod_int Try.underlying3 e1
      obtain ⟨a2, h2, _, w2⟩ := DataW.trod_int Try.underlying3 e2
      obtain ⟨a3, h3, _, w3⟩ := DataW.trod_int Try.underlying3 e3
      obtain ⟨a4, h4, _, w4⟩ := DataW.trod_int Try.underlying22 e4
      simp only [List.cons.injEq, and_true] at h0 h1 h2 h3 h4
      exact ⟨⟨a0, a1, a2, a3, a4⟩, ⟨wf_i64 w0, wf_i64 w1, wf_i64 w2, wf_i64 w3, wf_u64 w4⟩, by rw [h0, h1, h2, h3, h4]⟩
set_option maxRecDepth 100000 in
/-- Two cells that read as an update. -/
theorem upd_of {n : Nat} {cs : List Value} {y : DataW H × List MemPlace} (h : DataW.trod enc Try.prog w base spare held n 38 cs = some y) :
    ∃ u : Int × Int, (U64 u.1 ∧ I64 u.2) ∧ cs = [.int .u64 u.1, .int .i64 u.2] := by
  obtain ⟨xs, n, _, _, hl, hx, hg⟩ := DataW.trod_struct Try.underlying38 h
  have hl' : cs.length = 2 := hl.trans (by kernel_rfl)
  match cs, hl' with
  | [c0, c1], _ =>
    have hx' : xs.length = 2 := hx.trans (by kernel_rfl)
    match xs, hx' with
    | [x0, x1], _ =>
      have e0 : DataW.trod enc Try.prog w base spare held n 22 [c0] = some x0 := hg 0 _ rfl
      have e1 : DataW.trod enc Try.prog w base spare held n 2 [c1] = some x1 := hg 1 _ rfl
      obtain ⟨a0, h0, _, w0⟩ := DataW.trod_int Try.underlying22 e0
      obtain ⟨a1, h1, _, w1⟩ := DataW.trod_int Try.underlying2 e1
      simp only [List.cons.injEq, and_true] at h0 h1
      exact ⟨(a0, a1), ⟨wf_u64 w0, wf_i64 w1⟩, by rw [h0, h1]⟩
theorem add_plain0 (b off i : Nat) : (Addr.add ⟨b, off, none⟩ i) = ⟨b, off + i, none⟩ := by
  unfold Addr.add
  by_cases h : i = 0
  · subst h; simp
  · simp [h]
theorem choose_list {α : Type} (P : Nat → α → Prop) : ∀ n, (∀ i, i < n → ∃ x, P i x) → ∃ l : List α, l.length = n ∧ ∀ i (h : i < l.length), P i l[i] := by
  intro n
  induction n with
  | zero => intro _; exact ⟨[], rfl, fun i h => by simp at h⟩
  | succ n ih =>
    intro h
    obtain ⟨l, hl, hP⟩ := ih (fun i hi => h i (by omega))
    obtain ⟨x, hx⟩ := h n (by omega)
    refine ⟨l ++ [x], by simp [hl], fun i hi => ?_⟩
    by_cases e : i < l.length
    · rw [List.getElem_append_left e]; exact hP i e
    · have : i = n := by simp at hi; omega
      subst this
      rw [List.getElem_append_right (by omega)]
      simp [hl, hx]
/-- A cell that reads as a slice of updates. -/
theorem ups_of {n : Nat} {v : Value} {y : DataW H × List MemPlace} (h : DataW.trod enc Try.prog w 0 (fun _ => true) held n 25 [v] = some y) :
    ∃ us : List (Int × Int), UpsOk us ∧ UpsAt w v us ∧ (us = [] ∨ ∃ el sp : List (DataW H), y.1 = .slice el sp ∧ el.length = us.length) := by
  rcases open_slice Try.underlying25 h with ⟨hcs, _⟩ | ⟨a, len, cap, m, n', D, Pl, hcs, _, hlc, hcm, hm, hx, hi⟩
  · simp only [List.cons.injEq, and_true] at hcs
    subst hcs
    exact ⟨[], (by intro u hu; cases hu), .inl ⟨⟨_, rfl⟩, rfl⟩, .inl rfl⟩
  · simp only [List.cons.injEq, and_true] at hcs
    subst hcs
    simp only [if_true] at hm
    rw [hm] at hi hx
    clear hm
    have hC : Try.prog.cellsOf 38 = 2 := by kernel_rfl
    rw [hC] at hi
    have key : ∀ i, i < len → ∃ u : Int × Int, (U64 u.1 ∧ I64 u.2) ∧ w.cell? (a.add (i * 2)) = some (.int .u64 u.1) ∧ w.cell? (a.add (i * 2 + 1)) = some (.int .i64 u.2) := by
      intro i hil
      obtain ⟨cs', hc, ht⟩ := hi i (by omega)
      obtain ⟨u, hu, rfl⟩ := upd_of ht
      obtain ⟨_, _, hat⟩ := World.cells?_some hc
      refine ⟨u, hu, ?_, ?_⟩
      · have := hat 0 (by omega); rw [add_add, Nat.add_zero] at this; exact this
      · have := hat 1 (by omega); rw [add_add] at this; exact this
    obtain ⟨us, hul, hus⟩ := choose_list _ len key
    by_cases h0 : cap = 0
    · have hl0 : len = 0 := by omega
      subst hl0 h0
      obtain rfl : us = [] := List.length_eq_zero_iff.1 hul
      exact ⟨[], (by intro u hu; cases hu), .inl ⟨⟨_, rfl⟩, rfl⟩, .inl rfl⟩
    · obtain ⟨cs', hc, ht⟩ := hi 0 (by omega)
      obtain ⟨u, _, rfl⟩ := upd_of ht
      obtain ⟨_, _, hat⟩ := World.cells?_some hc
      have h1 := hat 0 (by omega)
      obtain ⟨b, off, spot⟩ := a
      have hspot : spot = none := by simpa [Addr.add] using World.cell?_spot h1
      subst hspot
      have hb : b < w.heap.size := by
        rcases Nat.lt_or_ge b w.heap.size with h' | h'
        · exact h'
        · simp [World.cell?, Addr.add, Array.getElem?_eq_none h'] at h1
      refine ⟨us, ?_, .inr ⟨b, off, cap, by rw [hul], hb, fun k hk => ?_⟩, .inr ⟨_, _, by rw [hx], by simp [hul]⟩⟩
      · intro u hu
        obtain ⟨i, hi', rfl⟩ := List.getElem_of_mem hu
        exact (hus i hi').1
      · have := (hus k hk).2
        have hg : us.getD k (0, 0) = us[k] := by simp [hk]
        rw [hg]
        rw [add_plain0, add_plain0] at this
        simpa only [Nat.add_assoc] using this
theorem reach_of {ts : List TypeId} {ds : List (DataW H)} {j : Nat} {t : TypeId} {d : DataW H} (hsz : (DataW.weightsEach Try.prog ts ds).all (· ≤ reachBytes) = true) (ht : ts[j]? = some t) (hd : ds[j]? = some d) {n : Nat} (hn : n ∈ d.weights Try.prog t) : n ≤ reachBytes := by
  have := List.all_eq_true.1 hsz _ (DataW.weights_mem_each ht hd n hn)
  simpa using this
end
end Go.Proofs.Ytpnbgoahjoabkaa

/- What a play of the later laws reads as. No condition. -/
namespace Go.Proofs.Ytpnbgoahjoabkaa
set_option linter.unusedVariables false
open Go.ChangeShapes Go.WideShapes Go.ChangeAt Go.RowKit Go.Deep

theorem own : ownKnob Try.prog.godebug = none := by kernel_rfl
theorem laidOut : laidOutB Try.prog = true := by kernel_rfl
section
variable {H : Type} {enc : TypeId × Value → H} {w : World} {held : Bool}
set_option maxRecDepth 100000 in
theorem cfgarg_of {r : Reach} {b0 : Nat} {v : Value} {d : DataW H} {p : List MemPlace} (hv : Value.okWide Try.prog w r b0 24 v) (h : DataW.Trod enc Try.prog w 0 (fun _ => true) held 24 v d p) :
    ∃ (x : Cfg), x.Raw ∧ v = .agg #[.int .i64 x.bits, .int .i64 x.rows, .int .i64 x.width, .int .i64 x.mode, .int .u64 x.seed] := by
  obtain ⟨cs, rfl, hsz⟩ := okWide_struct Try.underlying24 hv
  obtain ⟨fuel, hf⟩ := h
  obtain ⟨l⟩ := cs
  obtain ⟨x, hxr, hc⟩ := cfg_of hf
  have hc' : l = _ := hc
  subst hc'
  exact ⟨x, hxr, rfl⟩
set_option maxRecDepth 100000 in
theorem updarg_of {r : Reach} {b0 : Nat} {v : Value} {d : DataW H} {p : List MemPlace} (hv : Value.okWide Try.prog w r b0 38 v) (h : DataW.Trod enc Try.prog w 0 (fun _ => true) held 38 v d p) :
    ∃ (n m : Int), U64 n ∧ I64 m ∧ v = .agg #[.int .u64 n, .int .i64 m] := by
  obtain ⟨cs, rfl, hsz⟩ := okWide_struct Try.underlying38 hv
  obtain ⟨fuel, hf⟩ := h
  obtain ⟨l⟩ := cs
  obtain ⟨u, hu, hc⟩ := upd_of hf
  have hc' : l = _ := hc
  subst hc'
  exact ⟨u.1, u.2, hu.1, hu.2, rfl⟩
set_option maxRecDepth 100000 in
theorem play15_of {r : Reach} {b0 : Nat} {v : Value} {d : DataW H} {p : List MemPlace} (hv : Value.okWide Try.prog w r b0 64 v) (h : DataW.Trod enc Try.prog w 0 (fun _ => true) held 64 v d p) :
    ∃ (x : Cfg) (us : List (Int × Int)) (u : Value), x.Raw ∧ UpsOk us ∧ UpsAt w u us ∧ v = .agg #[.int .i64 x.bits, .int .i64 x.rows, .int .i64 x.width, .int .i64 x.mode, .int .u64 x.seed, u] ∧
      ∀ (ts : List TypeId) (ds : List (DataW H)) (j : Nat), (DataW.weightsEach Try.prog ts ds).all (· ≤ reachBytes) = true → ts[j]? = some 64 → ds[j]? = some d → us.length ≤ 140737488355328 := by
  obtain ⟨cs, rfl, hsz⟩ := okWide_struct Try.underlying64 hv
  obtain ⟨fuel, hf⟩ := h
  obtain ⟨l⟩ := cs
  obtain ⟨xs, n, _, hd, hl, hx, hg⟩ := DataW.trod_struct Try.underlying64 hf
  have hl' : l.length = 6 := hsz.trans (by kernel_rfl)
  match l, hl' with
  | [c0, c1, c2, c3, c4, c6], _ =>
    have hx' : xs.length = 2 := hx.trans (by kernel_rfl)
    match xs, hx' with
    | [x0, x2], _ =>
      have e0 : DataW.trod enc Try.prog w 0 (fun _ => true) held n 24 [c0, c1, c2, c3, c4] = some x0 := hg 0 _ rfl
      have e2 : DataW.trod enc Try.prog w 0 (fun _ => true) held n 25 [c6] = some x2 := hg 1 _ rfl
      obtain ⟨x, hxr, hc⟩ := cfg_of e0
      obtain ⟨us, hu, hat, hlen⟩ := ups_of e2
      simp only [List.cons.injEq, and_true] at hc
      obtain ⟨rfl, rfl, rfl, rfl, rfl⟩ := hc
      simp only [Prod.mk.injEq] at hd
      refine ⟨x, us, c6, hxr, hu, hat, rfl, fun ts ds j hs ht hj => ?_⟩
      rcases hlen with rfl | ⟨el, sp, hx2, hel⟩
      · simp
      · have hb : Try.prog.bytesOf 38 = 16 := by kernel_rfl
        have := reach_of hs ht hj (n := (el.length + sp.length) * Try.prog.bytesOf 38) (by
          rw [hd.1]
          simp [DataW.weights, DataW.weightsEach, hx2, Try.underlying64, Try.underlying25])
        rw [hb] at this
        simp only [reachBytes] at this
        omega
set_option maxRecDepth 100000 in
theorem cap_of {n : Nat} {v : Value} {y : DataW H × List MemPlace} (h : DataW.trod enc Try.prog w 0 (fun _ => true) held n 25 [v] = some y) : ∀ p n c, v = .slice p n c → n ≤ c := by
  rcases open_slice Try.underlying25 h with ⟨hcs, _⟩ | ⟨a, len, cap, m, n', D, Pl, hcs, _, hlc, _⟩
  · simp only [List.cons.injEq, and_true] at hcs
    rintro p n c rfl
    cases hcs
    exact Nat.le_refl _
  · simp only [List.cons.injEq, and_true] at hcs
    rintro p n c rfl
    cases hcs
    exact hlc
set_option maxRecDepth 100000 in
theorem cap15_of {r : Reach} {b0 : Nat} {v : Value} {d : DataW H} {p : List MemPlace} (hv : Value.okWide Try.prog w r b0 64 v) (h : DataW.Trod enc Try.prog w 0 (fun _ => true) held 64 v d p) :
    ∀ a0 a1 a2 a3 a4 u, v = .agg #[a0, a1, a2, a3, a4, u] → ∀ p n c, u = .slice p n c → n ≤ c := by
  obtain ⟨cs, rfl, hsz⟩ := okWide_struct Try.underlying64 hv
  obtain ⟨fuel, hf⟩ := h
  obtain ⟨l⟩ := cs
  obtain ⟨xs, n, _, hd, hl, hx, hg⟩ := DataW.trod_struct Try.underlying64 hf
  have hl' : l.length = 6 := hsz.trans (by kernel_rfl)
  match l, hl' with
  | [c0, c1, c2, c3, c4, c6], _ =>
    have hx' : xs.length = 2 := hx.trans (by kernel_rfl)
    match xs, hx' with
    | [x0, x2], _ =>
      have e2 : DataW.trod enc Try.prog w 0 (fun _ => true) held n 25 [c6] = some x2 := hg 1 _ rfl
      intro a0 a1 a2 a3 a4 u he
      have he' := Value.agg.inj he
      simp only [Array.mk.injEq, List.cons.injEq, and_true] at he'
      rw [← he'.2.2.2.2.2]
      exact cap_of e2
set_option maxRecDepth 100000 in
theorem play16_of {r : Reach} {b0 : Nat} {v : Value} {d : DataW H} {p : List MemPlace} (hv : Value.okWide Try.prog w r b0 97 v) (h : DataW.Trod enc Try.prog w 0 (fun _ => true) held 97 v d p) :
    ∃ (x : Cfg) (us : List (Int × Int)) (u : Value), x.Raw ∧ UpsOk us ∧ UpsAt w u us ∧ v = .agg #[.int .i64 x.bits, .int .i64 x.rows, .int .i64 x.width, .int .i64 x.mode, .int .u64 x.seed, u] ∧
      ∀ (ts : List TypeId) (ds : List (DataW H)) (j : Nat), (DataW.weightsEach Try.prog ts ds).all (· ≤ reachBytes) = true → ts[j]? = some 97 → ds[j]? = some d → us.length ≤ 140737488355328 := by
  obtain ⟨cs, rfl, hsz⟩ := okWide_struct Try.underlying97 hv
  obtain ⟨fuel, hf⟩ := h
  obtain ⟨l⟩ := cs
  obtain ⟨xs, n, _, hd, hl, hx, hg⟩ := DataW.trod_struct Try.underlying97 hf
  have hl' : l.length = 6 := hsz.trans (by kernel_rfl)
  match l, hl' with
  | [c0, c1, c2, c3, c4, c6], _ =>
    have hx' : xs.length = 2 := hx.trans (by kernel_rfl)
    match xs, hx' with
    | [x0, x2], _ =>
      have e0 : DataW.trod enc Try.prog w 0 (fun _ => true) held n 24 [c0, c1, c2, c3, c4] = some x0 := hg 0 _ rfl
      have e2 : DataW.trod enc Try.prog w 0 (fun _ => true) held n 25 [c6] = some x2 := hg 1 _ rfl
      obtain ⟨x, hxr, hc⟩ := cfg_of e0
      obtain ⟨us, hu, hat, hlen⟩ := ups_of e2
      simp only [List.cons.injEq, and_true] at hc
      obtain ⟨rfl, rfl, rfl, rfl, rfl⟩ := hc
      simp only [Prod.mk.injEq] at hd
      refine ⟨x, us, c6, hxr, hu, hat, rfl, fun ts ds j hs ht hj => ?_⟩
      rcases hlen with rfl | ⟨el, sp, hx2, hel⟩
      · simp
      · have hb : Try.prog.bytesOf 38 = 16 := by kernel_rfl
        have := reach_of hs ht hj (n := (el.length + sp.length) * Try.prog.bytesOf 38) (by
          rw [hd.1]
          simp [DataW.weights, DataW.weightsEach, hx2, Try.underlying97, Try.underlying25])
        rw [hb] at this
        simp only [reachBytes] at this
        omega
set_option maxRecDepth 100000 in
theorem play17_of {r : Reach} {b0 : Nat} {v : Value} {d : DataW H} {p : List MemPlace} (hv : Value.okWide Try.prog w r b0 109 v) (h : DataW.Trod enc Try.prog w 0 (fun _ => true) held 109 v d p) :
    ∃ (x : Cfg) (us : List (Int × Int)) (u : Value), x.Raw ∧ UpsOk us ∧ UpsAt w u us ∧ v = .agg #[.int .i64 x.bits, .int .i64 x.rows, .int .i64 x.width, .int .i64 x.mode, .int .u64 x.seed, u] ∧
      ∀ (ts : List TypeId) (ds : List (DataW H)) (j : Nat), (DataW.weightsEach Try.prog ts ds).all (· ≤ reachBytes) = true → ts[j]? = some 109 → ds[j]? = some d → us.length ≤ 140737488355328 := by
  obtain ⟨cs, rfl, hsz⟩ := okWide_struct Try.underlying109 hv
  obtain ⟨fuel, hf⟩ := h
  obtain ⟨l⟩ := cs
  obtain ⟨xs, n, _, hd, hl, hx, hg⟩ := DataW.trod_struct Try.underlying109 hf
  have hl' : l.length = 6 := hsz.trans (by kernel_rfl)
  match l, hl' with
  | [c0, c1, c2, c3, c4, c6], _ =>
    have hx' : xs.length = 2 := hx.trans (by kernel_rfl)
    match xs, hx' with
    | [x0, x2], _ =>
      have e0 : DataW.trod enc Try.prog w 0 (fun _ => true) held n 24 [c0, c1, c2, c3, c4] = some x0 := hg 0 _ rfl
      have e2 : DataW.trod enc Try.prog w 0 (fun _ => true) held n 25 [c6] = some x2 := hg 1 _ rfl
      obtain ⟨x, hxr, hc⟩ := cfg_of e0
      obtain ⟨us, hu, hat, hlen⟩ := ups_of e2
      simp only [List.cons.injEq, and_true] at hc
      obtain ⟨rfl, rfl, rfl, rfl, rfl⟩ := hc
      simp only [Prod.mk.injEq] at hd
      refine ⟨x, us, c6, hxr, hu, hat, rfl, fun ts ds j hs ht hj => ?_⟩
      rcases hlen with rfl | ⟨el, sp, hx2, hel⟩
      · simp
      · have hb : Try.prog.bytesOf 38 = 16 := by kernel_rfl
        have := reach_of hs ht hj (n := (el.length + sp.length) * Try.prog.bytesOf 38) (by
          rw [hd.1]
          simp [DataW.weights, DataW.weightsEach, hx2, Try.underlying109, Try.underlying25])
        rw [hb] at this
        simp only [reachBytes] at this
        omega
set_option maxRecDepth 100000 in
theorem play13_of {r : Reach} {b0 : Nat} {v : Value} {d : DataW H} {p : List MemPlace} (hv : Value.okWide Try.prog w r b0 118 v) (h : DataW.Trod enc Try.prog w 0 (fun _ => true) held 118 v d p) :
    ∃ (x : Cfg) (lv : Int) (us : List (Int × Int)) (u : Value), x.Raw ∧ I64 lv ∧ UpsOk us ∧ UpsAt w u us ∧ v = .agg #[.int .i64 x.bits, .int .i64 x.rows, .int .i64 x.width, .int .i64 x.mode, .int .u64 x.seed, .int .i64 lv, u] ∧
      ∀ (ts : List TypeId) (ds : List (DataW H)) (j : Nat), (DataW.weightsEach Try.prog ts ds).all (· ≤ reachBytes) = true → ts[j]? = some 118 → ds[j]? = some d → us.length ≤ 140737488355328 := by
  obtain ⟨cs, rfl, hsz⟩ := okWide_struct Try.underlying118 hv
  obtain ⟨fuel, hf⟩ := h
  obtain ⟨l⟩ := cs
  obtain ⟨xs, n, _, hd, hl, hx, hg⟩ := DataW.trod_struct Try.underlying118 hf
  have hl' : l.length = 7 := hsz.trans (by kernel_rfl)
  match l, hl' with
  | [c0, c1, c2, c3, c4, c5, c6], _ =>
    have hx' : xs.length = 3 := hx.trans (by kernel_rfl)
    match xs, hx' with
    | [x0, x1, x2], _ =>
      have e0 : DataW.trod enc Try.prog w 0 (fun _ => true) held n 24 [c0, c1, c2, c3, c4] = some x0 := hg 0 _ rfl
      have e1 : DataW.trod enc Try.prog w 0 (fun _ => true) held n 3 [c5] = some x1 := hg 1 _ rfl
      have e2 : DataW.trod enc Try.prog w 0 (fun _ => true) held n 25 [c6] = some x2 := hg 2 _ rfl
      obtain ⟨x, hxr, hc⟩ := cfg_of e0
      obtain ⟨lv, h1, _, w1⟩ := DataW.trod_int Try.underlying3 e1
      obtain ⟨us, hu, hat, hlen⟩ := ups_of e2
      simp only [List.cons.injEq, and_true] at hc h1
      obtain ⟨rfl, rfl, rfl, rfl, rfl⟩ := hc
      subst h1
      simp only [Prod.mk.injEq] at hd
      refine ⟨x, lv, us, c6, hxr, wf_i64 w1, hu, hat, rfl, fun ts ds j hs ht hj => ?_⟩
      rcases hlen with rfl | ⟨el, sp, hx2, hel⟩
      · simp
      · have hb : Try.prog.bytesOf 38 = 16 := by kernel_rfl
        have := reach_of hs ht hj (n := (el.length + sp.length) * Try.prog.bytesOf 38) (by
          rw [hd.1]
          simp [DataW.weights, DataW.weightsEach, hx2, Try.underlying118, Try.underlying25])
        rw [hb] at this
        simp only [reachBytes] at this
        omega
end
end Go.Proofs.Ytpnbgoahjoabkaa

/- StackSums: in the modes Linear and Median each cell of each level is the sum of what all keys have whose column it is there; of an exact level the sum of what its keys have. No condition: every input. -/
namespace Go.Proofs.Ytpnbgoahjoabkaa
set_option linter.unusedVariables false
open Go.ChangeShapes Go.WideShapes Go.ChangeAt Go.RowKit

set_option maxRecDepth 100000 in
theorem stackSums_lifted (os : Os) (started : os.Started) (H : Type) (enc : TypeId × Value → H) :
    ReturnsInHanded {} Try.checked os 5 .any (Rows.stackSumsSpec.pre6 enc Try.prog Try.f5 Rows.stackSumsRow.domain false) (Rows.stackSumsSpec.post enc Try.prog Try.f5 false true false false) := by
  refine returnsInHanded_of_change_sized (C := Try.checked) own started (by kernel_rfl) Try.func5
    (ChangeSpec.witness6 (enc := enc) (C := Try.checked) false ⟨#[], #[.agg #[.int .i64 0, .int .i64 0, .int .i64 0, .int .i64 0, .int .u64 0, .slice none 0 0], .int .i64 0, .bool false], []⟩ 8 (by kernel_rfl) (by kernel_rfl) (by kernel_rfl) (by kernel_rfl)) ?_
  intro W base args ds gs before hval0 hW hcnd hsz0 _
  have hval : ∀ (j : Nat) t v, Try.f5.params[j]? = some t → args[j]? = some v → Value.okWide Try.prog W .any base t v := hval0
  have hW' := hW
  obtain ⟨p, q, hA0, hV, rfl, hfz, hnd⟩ := hW
  have hA : DataW.TrodAll enc Try.prog W 0 (fun _ => true) true Try.f5.params.toList args.toList ds p := hA0
  have hsz : (DataW.weightsEach Try.prog (Try.f5.params.toList ++ Rows.stackSumsSpec.plain.varTypes Try.prog) (ds ++ gs)).all (· ≤ reachBytes) = true := hsz0
  rw [Try.params5] at hA hval hsz
  obtain ⟨v0, vs0, d0, ds0, p0, q0, hargs, rfl, rfl, h0, r0⟩ := trodAll_cons hA
  obtain ⟨v1, vs1, d1, ds1, p1, q1, rfl, rfl, rfl, h1, r1⟩ := trodAll_cons r0
  obtain ⟨v2, vs2, d2, ds2, p2, q2, rfl, rfl, rfl, h2, r2⟩ := trodAll_cons r1
  obtain ⟨rfl, rfl, rfl⟩ := trodAll_nil r2
  obtain rfl : args = #[v0, v1, v2] := by cases args; simp_all
  obtain ⟨rfl, rfl⟩ := trodVars_none hV
  have k0 := h0
  have k1 := h1
  have k2 := h2
  have lt0 : ∀ x ∈ p0, x.block < W.heap.size := by obtain ⟨m, hm⟩ := k0; exact DataW.trod_lt m _ _ _ hm
  have lt1 : ∀ x ∈ p1, x.block < W.heap.size := by obtain ⟨m, hm⟩ := k1; exact DataW.trod_lt m _ _ _ hm
  have lt2 : ∀ x ∈ p2, x.block < W.heap.size := by obtain ⟨m, hm⟩ := k2; exact DataW.trod_lt m _ _ _ hm
  obtain ⟨x0, us0, u0, hx0, hus0, hat0, rfl, hr0⟩ := play15_of (hval 0 _ v0 rfl rfl) h0
  have hul0 := hr0 _ _ 0 hsz rfl rfl
  obtain ⟨n1, rfl, _, _, wf1⟩ := open_int Try.underlying3 (hval 1 _ v1 rfl rfl) h1
  have hn1 := wf_i64 wf1
  obtain ⟨b2, rfl, _, _⟩ := open_bool Try.underlying4 (hval 2 _ v2 rfl rfl) h2
  clear hA0 hval0
  refine (SumsK_c x0 hx0 n1 hn1 b2 us0 hus0 u0 W hat0 hul0).mono fun e W' ⟨he, bel⟩ => ?_
  subst he
  exact ⟨_, rfl, _, _, _, [], _, [], hW', trodAll_mk1 (shut_bool Try.underlying4 _), (trodAll_cons_mk (Below.trod laidOut (by kernel_rfl) (of_decide_eq_true (by kernel_rfl)) k0 bel lt0) (trodAll_cons_mk (Below.trod laidOut (by kernel_rfl) (of_decide_eq_true (by kernel_rfl)) k1 bel lt1) (trodAll_cons_mk (Below.trod laidOut (by kernel_rfl) (of_decide_eq_true (by kernel_rfl)) k2 bel lt2) trodAll_mk0))), rfl, bel.frame _, fun h => by cases h⟩
end Go.Proofs.Ytpnbgoahjoabkaa
