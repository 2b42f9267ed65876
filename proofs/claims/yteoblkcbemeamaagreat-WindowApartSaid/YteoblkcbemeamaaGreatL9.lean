/- Part. No condition. -/
import Derived.Test.YteoblkcbemeamaaGreatL8
import Derived.Test.YteoblkcbemeamaaGreatL2
import Derived.Laws.CopyOwn
import Derived.Laws.MakeOwn

/- gaugerlaw20.alike, shown. -/
namespace Go.Proofs.YteoblkcbemeamaaGreat
set_option linter.unusedVariables false
open Go.RowKit
def K1 : Cfg := ⟨2, 1, 4, 1, 0⟩
theorem K1_ok : K1.Ok := by constructor <;> simp [K1, U64]
theorem K1_x (n : Nat) : isX K1 n = true := by
  have : keys K1 n ≤ 4 := by
    unfold keys
    have h : (2 : Nat) ^ ((2 : Int) - (n : Int)).toNat ≤ 2 ^ 2 := Nat.pow_le_pow_right (by decide) (by omega)
    show (2 : Int) ^ ((2 : Int) - (n : Int)).toNat ≤ 4
    exact_mod_cast h
  unfold isX
  exact decide_eq_true this
def K1z : Nat → List Int := fun n => zs (lvN K1 n)
def K1a : Nat → List Int := updK K1 K1z 1 5
def K1b : Nat → List Int := updK K1 K1z 1 2
def K1c : Nat → List Int := updK K1 K1b 3 4
theorem K1a_bnd (n : Nat) : Bnd 5 (K1a n) := updK_bnd (B' := 0) (T := 5) (zs_bnd _) (by decide) (by decide) (by decide)
theorem K1b_bnd (n : Nat) : Bnd 4 (K1b n) := updK_bnd (B' := 0) (T := 4) (zs_bnd _) (by decide) (by decide) (by decide)
theorem K1c_bnd (n : Nat) : Bnd 8 (K1c n) := updK_bnd (B' := 4) (T := 4) (K1b_bnd n) (by decide) (by decide) (by decide)
theorem K1_e1 : errK K1 2 K1z 1 5 = 0 := errK_ok K1_ok rfl (B' := 0) (T := 5) (fun n _ => zs_bnd _) (by decide) (by decide) (by decide) (by decide) (by decide) (by decide) (by decide)
theorem K1_e2 : errK K1 2 K1z 1 2 = 0 := errK_ok K1_ok rfl (B' := 0) (T := 4) (fun n _ => zs_bnd _) (by decide) (by decide) (by decide) (by decide) (by decide) (by decide) (by decide)
theorem K1_e3 : errK K1 2 K1b 3 4 = 0 := errK_ok K1_ok rfl (B' := 4) (T := 4) (fun n _ => K1b_bnd n) (by decide) (by decide) (by decide) (by decide) (by decide) (by decide) (by decide)
theorem K1a_0 : K1a 0 = [0, 5, 0, 0] := by
  unfold K1a updK
  rw [lvU_x (K1_x 0)]
  rfl
theorem K1c_0 : K1c 0 = [0, 2, 0, 4] := by
  unfold K1c K1b updK
  rw [lvU_x (K1_x 0), lvU_x (K1_x 0)]
  rfl
def K1s : Nat → List Int := fun n => plusL (K1a n) (K1c n)
theorem K1s_0 : K1s 0 = [0, 7, 0, 4] := by unfold K1s; rw [K1a_0, K1c_0]; rfl
theorem K1s_all : ∀ n, n ≤ 2 → allI (K1s n) := fun n _ => (plusL_bnd (K1a_bnd n) (K1c_bnd n) (by decide)).allI (by decide)
theorem K1_len (n : Nat) : (K1a n).length = (K1c n).length := by
  unfold K1a K1c K1b updK
  rw [lvU_len, lvU_len, lvU_len]
theorem K1_minus (n : Nat) : minusL (K1s n) (K1c n) = K1a n := minus_plus (K1_len n)
theorem K1a_all : ∀ n, n ≤ 2 → allI (K1a n) := fun n _ => (K1a_bnd n).allI (by decide)
theorem K1_in : lvInn K1 0 (K1a 0) (K1c 0) = some 10 := by
  unfold lvInn
  rw [show isX K1 0 = true from K1_x 0, K1a_0, K1c_0]
  decide
theorem V10 : innV (some 10) = .tuple #[.agg #[.int .i64 0, .int .u64 10], .int .i64 0] := rfl
theorem Of10 (w : World) : Calls Tryz.prog 103 #[.int .i64 10] w fun e w' => e = .returned (.agg #[.int .i64 0, .int .u64 10]) ∧ Ext w w' := Of_c 10 (by unfold I64; omega) w
theorem ints4 {w : World} {a b c d : Int} {t : TypeId} {n : Nat} {W : World} (h : W.heap[n]? = some (.cells #[.int .i64 a, .int .i64 b, .int .i64 c, .int .i64 d] t (0, 0))) : IntsAt W (.slice (some ⟨n, 0, none⟩) 4 4) [a, b, c, d] := by
  have h0 := (cell_of h 0).trans rfl
  have h1 := (cell_of h 1).trans rfl
  have h2 := (cell_of h 2).trans rfl
  have h3 := (cell_of h 3).trans rfl
  refine .inr ⟨n, 0, 4, rfl, lt_of h, fun k hk => ?_⟩
  match k, hk with
  | 0, _ => exact h0
  | 1, _ => exact h1
  | 2, _ => exact h2
  | 3, _ => exact h3
theorem kj_ok {w w' : World} {s g B : Nat} {C : Cfg} {L : Nat → Lev} {ms : Nat → List Int} {e : Ending} (h : KJoinPost w s g C B L ms e w') (ha : ∀ n, n ≤ B → allI (ms n)) : e = .returned (.int .i64 0) ∧ KAt w' s g C B L ms ∧ Mod (cellsOf B L) w w' := by
  rcases h with ⟨_, h1, h2, h3⟩ | ⟨hn, _⟩
  · exact ⟨h1, h2, h3⟩
  · exact absurd ha hn
set_option maxRecDepth 20000 in
set_option maxHeartbeats 8000000 in
theorem shown20_c (w : World) : Calls Tryz.prog 73 #[] w fun e w' => e = .returned (.bool true) ∧ Ext w w' := by
  go_enter Tryz.func73, Tryz.ntmps73
  go_wp2_with fail
  have hCb : CfgAt (w.alloc (.cells #[.int .i64 2, .int .i64 1, .int .i64 4, .int .i64 1, .int .u64 0] 24)) w.heap.size K1 := CfgAt.box K1 _ rfl
  have hE0 : Ext w (w.alloc (.cells #[.int .i64 2, .int .i64 1, .int .i64 4, .int .i64 1, .int .u64 0] 24)) := Ext.alloc' _ _
  generalize w.alloc (.cells #[.int .i64 2, .int .i64 1, .int .i64 4, .int .i64 1, .int .u64 0] 24) = w0 at *
  refine (KNew_c K1 K1_ok _).mono ?_
  rintro e w1 ⟨s, g, L, rfl, hK, hs, hg, hL, hx1⟩
  have hF : KFresh w0.heap.size 2 L := hL
  replace hK : KAt w1 s g K1 2 L K1z := hK
  have hC1 := hCb.ext hx1
  have d0 : w1.cell? ⟨w.heap.size, 0, none⟩ = some (.int .i64 2) := hC1.c0
  have d1 : w1.cell? ⟨w.heap.size, 1, none⟩ = some (.int .i64 1) := hC1.c1
  have d2 : w1.cell? ⟨w.heap.size, 2, none⟩ = some (.int .i64 4) := hC1.c2
  have d3 : w1.cell? ⟨w.heap.size, 3, none⟩ = some (.int .i64 1) := hC1.c3
  have d4 : w1.cell? ⟨w.heap.size, 4, none⟩ = some (.int .u64 0) := hC1.c4
  have dl := hC1.lt
  have hE1 := hE0.trans' hx1
  have hs0 := hE0.size
  have hs1 := hx1.size
  have HK := Lib.hid hK
  clear hx1 hC1 hCb hK hL
  go_wp2_with fail
  refine (KNew_c K1 K1_ok _).mono ?_
  rintro e w2 ⟨s2, g2, L2, rfl, hK2, hs2, hg2, hL2, hx2⟩
  have hF2 : KFresh w1.heap.size 2 L2 := hL2
  replace hK2 : KAt w2 s2 g2 K1 2 L2 K1z := hK2
  have hE2 := hE1.trans' hx2
  have hss2 := hx2.size
  have HF := Lib.hid hF
  have HF2 := Lib.hid hF2
  have hdj : ∀ n, n ≤ 2 → ¬ cellsOf 2 L2 (L n).c := fun n hn ⟨m, hm, he⟩ => by have := (HF2.out m hm).2.2; have := (HK.out.lev n hn).ltc; omega
  have hdj2 : ∀ n, n ≤ 2 → ¬ cellsOf 2 L (L2 n).c := fun n hn ⟨m, hm, he⟩ => by have := (HF2.out n hn).2.2; have := (HK.out.lev m hm).ltc; omega
  have HD := Lib.hid hdj
  have HD2 := Lib.hid hdj2
  have HS := Lib.hid (HK.out.ext hx2)
  have HS2 := Lib.hid hK2
  have hFF : ∀ i, cellsOf 2 L i → w.heap.size ≤ i := fun i ⟨n, hn, hi⟩ => by have := (HF.out n hn).2.2; omega
  have hFF2 : ∀ i, cellsOf 2 L2 i → w.heap.size ≤ i := fun i ⟨n, hn, hi⟩ => by have := (HF2.out n hn).2.2; omega
  have HFF := Lib.hid hFF
  have HFF2 := Lib.hid hFF2
  clear hx2 d0 d1 d2 d3 d4 dl hK2 hL2 hdj hdj2 hF hF2 hE0 hE1 hFF hFF2 HK
  go_wp2_with fail
  refine Calls.mono (KUpdate_c s g K1 2 L _ 1 5 _ HS.out (by unfold I64; omega) (by unfold U64; omega)) ?_
  rintro e w3 ⟨rfl, hK3, hM3⟩
  rw [K1_e1] at hK3 ⊢
  replace hK3 : KAt w3 s g K1 2 L K1a := hK3
  have HS3 := Lib.hid hK3
  have HT3 := Lib.hid (HS2.out.mod hM3 (fun i hi _ => HS.out.isc hi) (fun n hn => HD2.out n hn))
  have hE3 : Ext w w3 := Below.trans hE2 (hM3.below hE2.size HFF.out)
  clear hK3 hM3 HS HS2 hE2
  go_wp2_with fail
  refine Calls.mono (KUpdate_c s2 g2 K1 2 L2 _ 1 2 _ HT3.out (by unfold I64; omega) (by unfold U64; omega)) ?_
  rintro e w4 ⟨rfl, hK4, hM4⟩
  rw [K1_e2] at hK4 ⊢
  replace hK4 : KAt w4 s2 g2 K1 2 L2 K1b := hK4
  have HT4 := Lib.hid hK4
  have HS4 := Lib.hid (HS3.out.mod hM4 (fun i hi _ => HT3.out.isc hi) (fun n hn => HD.out n hn))
  have hE4 : Ext w w4 := Below.trans hE3 (hM4.below hE3.size HFF2.out)
  clear hK4 hM4 HS3 HT3 hE3
  go_wp2_with fail
  refine Calls.mono (KUpdate_c s2 g2 K1 2 L2 _ 3 4 _ HT4.out (by unfold I64; omega) (by unfold U64; omega)) ?_
  rintro e w5 ⟨rfl, hK5, hM5⟩
  rw [K1_e3] at hK5 ⊢
  replace hK5 : KAt w5 s2 g2 K1 2 L2 K1c := hK5
  have HT5 := Lib.hid hK5
  have HS5 := Lib.hid (HS4.out.mod hM5 (fun i hi _ => HT4.out.isc hi) (fun n hn => HD.out n hn))
  have hE5 : Ext w w5 := Below.trans hE4 (hM5.below hE4.size HFF2.out)
  clear hK5 hM5 HS4 HT4 hE4
  go_wp2_with fail
  refine Calls.mono (KInner_c s g s2 g2 K1 2 L L2 K1a K1c _ HS5.out HT5.out 0 10 0 (fun M M2 W h h2 => by have := LInner_c K1 0 M M2 _ _ W h h2 rfl; rw [K1_in, V10] at this; exact this)) ?_
  rintro e w6 ⟨rfl, hx6⟩
  have HS6 := Lib.hid (HS5.out.ext hx6)
  have HT6 := Lib.hid (HT5.out.ext hx6)
  have hE6 := hE5.trans' hx6
  clear hx6 HS5 HT5 hE5
  go_upto_region 10 with (fail)
  have hnb := heap_at w6 (.cells #[.int .i64 0, .int .u64 10] 95) rfl
  have hxA : Ext w6 (w6.alloc (.cells #[.int .i64 0, .int .u64 10] 95)) := Ext.alloc' _ _
  have hs6 := hE6.size
  generalize w6.alloc (.cells #[.int .i64 0, .int .u64 10] 95) = w7 at *
  have HS7 := Lib.hid (HS6.out.ext hxA)
  have HT7 := Lib.hid (HT6.out.ext hxA)
  have hE7 := hE6.trans' hxA
  have hnl : ∀ i, cellsOf 2 L i → i ≠ w6.heap.size := fun i hi e => by have := HS6.out.ltc hi; omega
  have HNL := Lib.hid hnl
  have HNB := Lib.hid hnb
  clear hxA HS6 HT6 hE6 hnl hnb
  go_wp2_with fail
  refine Calls.mono (KMerge_c s g s2 g2 K1 2 L L2 K1a K1c _ HS7.out HT7.out (fun h => absurd h (by decide))) ?_
  intro e w8 hj8
  obtain ⟨rfl, hK8, hM8⟩ := kj_ok hj8 K1s_all
  replace hK8 : KAt w8 s g K1 2 L K1s := hK8
  have HS8 := Lib.hid hK8
  have HT8 := Lib.hid (HT7.out.mod hM8 (fun i hi _ => HS7.out.isc hi) (fun n hn => HD2.out n hn))
  have hE8 : Ext w w8 := Below.trans hE7 (hM8.below hE7.size HFF.out)
  have HNB8 := Lib.hid (hM8.keep HNB.out (fun h => HNL.out _ h rfl))
  clear hj8 hK8 hM8 HS7 HT7 hE7 HNB
  go_wp2_with fail
  refine Calls.mono (KCells_c s g K1 2 L K1s _ HS8.out 0 (by decide)) ?_
  rintro e w9 ⟨v, rfl, ho, _, hx9⟩
  have hv9 := IntsAt.of_row ho
  rw [K1s_0] at hv9 ho
  obtain ⟨p9, q9, rfl⟩ := own_sl ho
  have hob : ∀ k, (Value.slice p9 4 q9).ownBlock = some k → w8.heap.size ≤ k := fun k hk => own_blk ho hk
  have HS9 := Lib.hid (HS8.out.ext hx9)
  have HT9 := Lib.hid (HT8.out.ext hx9)
  have HNB9 := Lib.hid (hx9.keep HNB8.out)
  have hE9 := hE8.trans' hx9
  have hnv : ∀ i, cellsOf 2 L i → i < w8.heap.size := fun i hi => HS8.out.ltc hi
  have HNV := Lib.hid hnv
  have HV9 := Lib.hid hv9
  have HOB := Lib.hid hob
  clear ho hx9 HS8 HT8 HNB8 hv9 hnv hob
  go_wp2_with fail
  refine Calls.mono (KSubtract_c s g s2 g2 K1 2 L L2 K1s K1c _ HS9.out HT9.out (fun _ => by decide)) ?_
  intro e w10 hj10
  obtain ⟨rfl, hK10, hM10⟩ := kj_ok hj10 (fun n hn => by rw [K1_minus]; exact K1a_all n hn)
  have HS10 := Lib.hid (hK10.cong (ls' := K1a) (fun n _ => K1_minus n))
  have hE10 : Ext w w10 := Below.trans hE9 (hM10.below hE9.size HFF.out)
  have hnb10 := hM10.keep HNB9.out (fun h => HNL.out _ h rfl)
  have hv10 : IntsAt w10 (.slice p9 4 q9) [0, 7, 0, 4] := HV9.out.mod hM10 (fun g' off n' cap' he hc => by
    have h1 := HNV.out _ hc
    have h2 : p9 = some ⟨g', off, none⟩ := (Value.slice.inj he).1
    have h3 := HOB.out g' (by rw [h2]; rfl)
    omega)
  have HV10 := Lib.hid hv10
  have n0 := (cell_of hnb10 0).trans rfl
  have n1 := (cell_of hnb10 1).trans rfl
  have nl := lt_of hnb10
  clear hj10 hK10 hM10 HS9 HT9 hE9 hv10 hnb10
  go_wp2_with fail
  have hC0 := af_drew w10
  refine pi_start (fun w' => ∃ x : After w10, w' = x.w) [] (by kernel_rfl) ?_
  refine pi_t 0 rfl (by kernel_rfl) (by kernel_rfl) (fun _ _ _ _ h => h) (fun K hK => ?_)
  go_big_quiet_op
  refine hK _ ?_
  clear hK K
  refine pi_t 1 rfl (by kernel_rfl) (by kernel_rfl) (fun _ _ _ _ h => h) (fun K hK => ?_)
  go_big_quiet_op
  refine hK _ ?_
  clear hK K
  refine pi_t 2 rfl (by kernel_rfl) (by kernel_rfl) (fun _ _ _ _ h => h) (fun K hK => ?_)
  go_big_quiet_op
  refine hK _ ?_
  clear hK K
  refine pi_t 3 rfl (by kernel_rfl) (by kernel_rfl) (fun _ _ _ _ h => h) (fun K hK => ?_)
  go_big_quiet_op
  refine hK _ ?_
  clear hK K
  refine pi_t 4 rfl (by kernel_rfl) (by kernel_rfl) (fun _ _ _ _ h => h) (fun K hK => ?_)
  go_big_quiet_op
  refine hK _ ?_
  clear hK K
  refine pi_t 5 rfl (by kernel_rfl) (by kernel_rfl) (fun _ _ _ _ h => h) (fun K hK => ?_)
  go_big_quiet_op
  refine hK _ ?_
  clear hK K
  refine pi_t 6 rfl (by kernel_rfl) (by kernel_rfl) (fun _ _ _ _ h => h) (fun K hK => ?_)
  go_big_quiet_op
  refine hK _ ?_
  clear hK K
  refine pi_t 7 rfl (by kernel_rfl) (by kernel_rfl) (fun _ _ _ _ h => h) (fun K hK => ?_)
  go_big_quiet_op
  refine hK _ ?_
  clear hK K
  refine pi_t 8 rfl (by kernel_rfl) (by kernel_rfl) (fun _ _ _ _ h => h) (fun K hK => ?_)
  go_big_quiet_op
  refine hK _ ?_
  clear hK K
  refine pi_t 9 rfl (by kernel_rfl) (by kernel_rfl) (fun _ _ _ _ h => h) (fun K hK => ?_)
  go_big_quiet_op
  refine hK _ ?_
  clear hK K
  refine pi_t 10 rfl (by kernel_rfl) (by kernel_rfl) (fun _ _ _ _ h => h) (fun K hK => ?_)
  go_big_quiet_op
  refine hK _ ?_
  clear hK K
  refine pi_t 11 rfl (by kernel_rfl) (by kernel_rfl) (fun _ _ _ _ h => h) (fun K hK => ?_)
  go_big_quiet_op
  refine hK _ ?_
  clear hK K
  refine pi_t 12 rfl (by kernel_rfl) (by kernel_rfl) (fun _ _ _ _ h => h) (fun K hK => ?_)
  go_big_quiet_op
  refine hK _ ?_
  clear hK K
  refine pi_t 13 rfl (by kernel_rfl) (by kernel_rfl) (fun _ _ _ _ h => h) (fun K hK => ?_)
  go_big_quiet_op
  refine hK _ ?_
  clear hK K
  refine pi_t 14 rfl (by kernel_rfl) (by kernel_rfl) (fun _ _ _ _ h => h) (fun K hK => ?_)
  go_big_quiet_op
  refine hK _ ?_
  clear hK K
  refine pi_t 15 rfl (by kernel_rfl) (by kernel_rfl) (fun _ _ _ _ h => h) (fun K hK => ?_)
  go_big_quiet_op
  refine hK _ ?_
  clear hK K
  refine pi_t 16 rfl (by kernel_rfl) (by kernel_rfl) (fun _ _ _ _ h => h) (fun K hK => ?_)
  go_big_quiet_op
  refine hK _ ?_
  clear hK K
  refine pi_t 17 rfl (by kernel_rfl) (by kernel_rfl) (fun _ _ _ _ h => h) (fun K hK => ?_)
  go_big_quiet_op
  refine hK _ ?_
  clear hK K
  refine pi_t 18 rfl (by kernel_rfl) (by kernel_rfl) (fun _ _ _ _ h => h) (fun K hK => ?_)
  go_big_quiet_op
  refine hK _ ?_
  clear hK K
  refine pi_t 19 rfl (by kernel_rfl) (by kernel_rfl) (fun _ _ _ _ h => h) (fun K hK => ?_)
  go_big_quiet_op
  refine hK _ ?_
  clear hK K
  refine pi_t 20 rfl (by kernel_rfl) (by kernel_rfl) (fun _ _ _ _ h => h) (fun K hK => ?_)
  go_big_quiet_op
  refine hK _ ?_
  clear hK K
  refine pi_t 21 rfl (by kernel_rfl) (by kernel_rfl) (fun _ _ _ _ h => h) (fun K hK => ?_)
  go_big_quiet_op
  refine hK _ ?_
  clear hK K
  refine pi_t 22 rfl (by kernel_rfl) (by kernel_rfl) (fun _ _ _ _ h => h) (fun K hK => ?_)
  go_big_quiet_op
  refine hK _ ?_
  clear hK K
  refine pi_c 23 (by assumption) rfl (by kernel_rfl) (by kernel_rfl) (fun _ _ _ _ h => h) (fun K hK => ?_)
  go_big_quiet_op
  refine hK _ ?_
  clear hK K
  refine pi_l 24 rfl (by kernel_rfl) (fun K hK => ?_)
  go_wp2_with fail
  refine (Of10 _).mono ?_
  rintro e wa ⟨rfl, hxa⟩
  have hEa : Ext w10 wa := Ext.trans' (Below.drew (Ext.refl w10)) hxa
  go_wp2
  refine hK _ _ (fun _ h => af_step h hxa) ?_
  clear hK K n0 n1 nl
  refine pi_t 25 rfl (by kernel_rfl) (by kernel_rfl) (fun _ _ _ _ h => h) (fun K hK => ?_)
  go_big_quiet_op
  refine hK _ ?_
  clear hK K
  refine pi_t 26 rfl (by kernel_rfl) (by kernel_rfl) (fun _ _ _ _ h => h) (fun K hK => ?_)
  go_big_quiet_op
  refine hK _ ?_
  clear hK K
  refine pi_t 27 rfl (by kernel_rfl) (by kernel_rfl) (fun _ _ _ _ h => h) (fun K hK => ?_)
  go_big_quiet_op
  refine hK _ ?_
  clear hK K
  refine pi_t 28 rfl (by kernel_rfl) (by kernel_rfl) (fun _ _ _ _ h => h) (fun K hK => ?_)
  go_big_quiet_op
  refine hK _ ?_
  clear hK K
  refine pi_l 29 rfl (by kernel_rfl) (fun K hK => ?_)
  go_wp2
  refine hK _ _ (fun _ h => af_step h (Ext.alloc' _ _)) ?_
  clear hK K
  have hbb := heap_at wa (.cells #[.int .i64 0, .int .i64 7, .int .i64 0, .int .i64 4] 2) rfl
  have hxb : Ext wa (wa.alloc (.cells #[.int .i64 0, .int .i64 7, .int .i64 0, .int .i64 4] 2)) := Ext.alloc' _ _
  generalize wa.alloc (.cells #[.int .i64 0, .int .i64 7, .int .i64 0, .int .i64 4] 2) = wb at *
  have hEb := hEa.trans' hxb
  refine pi_l 30 rfl (by kernel_rfl) (fun K hK => ?_)
  go_wp2_with fail
  refine Calls.mono (Same_c _ _ [0, 7, 0, 4] [0, 7, 0, 4] _ (HV10.out.ext hEb) (ints4 (w := w) hbb) (by decide) (by decide)) ?_
  rintro e wc ⟨rfl, hxc⟩
  have hEc := hEb.trans' hxc
  go_wp2
  refine hK _ _ (fun _ h => af_step h hxc) ?_
  clear hK K hbb hxb
  have hSc := HS10.out.ext hEc
  have HSC := Lib.hid hSc
  clear hSc
  refine pi_t 31 rfl (by kernel_rfl) (by kernel_rfl) (fun _ _ _ _ h => h) (fun K hK => ?_)
  go_big_quiet_op
  refine hK _ ?_
  clear hK K
  refine pi_t 32 rfl (by kernel_rfl) (by kernel_rfl) (fun _ _ _ _ h => h) (fun K hK => ?_)
  go_big_quiet_op
  refine hK _ ?_
  clear hK K
  refine pi_t 33 rfl (by kernel_rfl) (by kernel_rfl) (fun _ _ _ _ h => h) (fun K hK => ?_)
  go_big_quiet_op
  refine hK _ ?_
  clear hK K
  refine pi_b 34 35 rfl rfl (by kernel_rfl) (fun K hK => ?_) (fun K hK => ?_)
  · go_wp2_with fail
    refine Calls.mono (KCells_c s g K1 2 L K1a _ HSC.out 0 (by decide)) ?_
    rintro e wd ⟨v, rfl, ho, _, hxd⟩
    have hv := IntsAt.of_row ho
    rw [K1a_0] at hv ho
    obtain ⟨p1, q1, rfl⟩ := own_sl ho
    have HV := Lib.hid hv
    clear ho hv
    have hEd := hEc.trans' hxd
    go_wp2
    refine hK _ _ (fun _ h => af_step h hxd) ?_
    clear hK K
    refine pi_l 35 rfl (by kernel_rfl) (fun K hK => ?_)
    go_wp2
    refine hK _ _ (fun _ h => af_step h (Ext.alloc' _ _)) ?_
    clear hK K
    have hbb := heap_at wd (.cells #[.int .i64 0, .int .i64 5, .int .i64 0, .int .i64 0] 2) rfl
    have hxe : Ext wd (wd.alloc (.cells #[.int .i64 0, .int .i64 5, .int .i64 0, .int .i64 0] 2)) := Ext.alloc' _ _
    generalize wd.alloc (.cells #[.int .i64 0, .int .i64 5, .int .i64 0, .int .i64 0] 2) = we at *
    have hEe := hEd.trans' hxe
    refine pi_l 36 rfl (by kernel_rfl) (fun K hK => ?_)
    go_wp2_with fail
    refine Calls.mono (Same_c _ _ [0, 5, 0, 0] [0, 5, 0, 0] _ (HV.out.ext hxe) (ints4 (w := w) hbb) (by decide) (by decide)) ?_
    rintro e wf ⟨rfl, hxf⟩
    have hEf := hEe.trans' hxf
    go_wp2
    refine hK _ _ (fun _ h => af_step h hxf) ?_
    clear hK K
    refine pi_t 37 rfl (by kernel_rfl) (by kernel_rfl) (fun _ _ _ _ h => h) (fun K hK => ?_)
    go_big_quiet_op
    refine hK _ ?_
    clear hK K
    refine pi_t 38 rfl (by kernel_rfl) (by kernel_rfl) (fun _ _ _ _ h => h) (fun K hK => ?_)
    go_big_quiet_op
    refine hK _ ?_
    clear hK K
    refine pi_t 39 rfl (by kernel_rfl) (by kernel_rfl) (fun _ _ _ _ h => h) (fun K hK => ?_)
    go_big_quiet_op
    refine hK _ ?_
    clear hK K
    refine pi_l 40 rfl (by kernel_rfl) (fun K hK => ?_)
    go_wp2_with fail
    refine Calls.mono (KMerge_nil2 s _) ?_
    rintro e wg ⟨rfl, hxg⟩
    go_wp2
    refine hK _ _ (fun _ h => af_step h hxg) ?_
    clear hK K
    refine pi_t 41 rfl (by kernel_rfl) (by kernel_rfl) (fun _ _ _ _ h => h) (fun K hK => ?_)
    go_big_quiet_op
    refine hK _ ?_
    clear hK K
    refine pi_t 42 rfl (by kernel_rfl) (by kernel_rfl) (fun _ _ _ _ h => h) (fun K hK => ?_)
    go_big_quiet_op
    refine hK _ ?_
    clear hK K
    refine pi_t 43 rfl (by kernel_rfl) (by kernel_rfl) (fun _ _ _ _ h => h) (fun K hK => ?_)
    go_big_quiet_op
    refine hK _ ?_
    clear hK K
    refine pi_end (by kernel_rfl) ?_
    go_wp2
    go_ret
    exact ⟨by first | rfl | simp, hE10.trans' (hEf.trans' hxg)⟩
  · go_wp2
    refine hK _ _ (fun _ h => af_step h (Ext.alloc' _ _)) ?_
    clear hK K
    have hbb := heap_at wc (.cells #[.int .i64 0, .int .i64 5, .int .i64 0, .int .i64 0] 2) rfl
    have hxe : Ext wc (wc.alloc (.cells #[.int .i64 0, .int .i64 5, .int .i64 0, .int .i64 0] 2)) := Ext.alloc' _ _
    generalize wc.alloc (.cells #[.int .i64 0, .int .i64 5, .int .i64 0, .int .i64 0] 2) = we at *
    have hEe := hEc.trans' hxe
    refine pi_l 34 rfl (by kernel_rfl) (fun K hK => ?_)
    go_wp2_with fail
    refine Calls.mono (KCells_c s g K1 2 L K1a _ (HSC.out.ext hxe) 0 (by decide)) ?_
    rintro e wd ⟨v, rfl, ho, _, hxd⟩
    have hv := IntsAt.of_row ho
    rw [K1a_0] at hv ho
    obtain ⟨p1, q1, rfl⟩ := own_sl ho
    have HV := Lib.hid hv
    clear ho hv
    have hEd := hEe.trans' hxd
    go_wp2
    refine hK _ _ (fun _ h => af_step h hxd) ?_
    clear hK K
    refine pi_l 36 rfl (by kernel_rfl) (fun K hK => ?_)
    go_wp2_with fail
    refine Calls.mono (Same_c _ _ [0, 5, 0, 0] [0, 5, 0, 0] _ HV.out ((ints4 (w := w) hbb).ext hxd) (by decide) (by decide)) ?_
    rintro e wf ⟨rfl, hxf⟩
    have hEf := hEd.trans' hxf
    go_wp2
    refine hK _ _ (fun _ h => af_step h hxf) ?_
    clear hK K
    refine pi_t 37 rfl (by kernel_rfl) (by kernel_rfl) (fun _ _ _ _ h => h) (fun K hK => ?_)
    go_big_quiet_op
    refine hK _ ?_
    clear hK K
    refine pi_t 38 rfl (by kernel_rfl) (by kernel_rfl) (fun _ _ _ _ h => h) (fun K hK => ?_)
    go_big_quiet_op
    refine hK _ ?_
    clear hK K
    refine pi_t 39 rfl (by kernel_rfl) (by kernel_rfl) (fun _ _ _ _ h => h) (fun K hK => ?_)
    go_big_quiet_op
    refine hK _ ?_
    clear hK K
    refine pi_l 40 rfl (by kernel_rfl) (fun K hK => ?_)
    go_wp2_with fail
    refine Calls.mono (KMerge_nil2 s _) ?_
    rintro e wg ⟨rfl, hxg⟩
    go_wp2
    refine hK _ _ (fun _ h => af_step h hxg) ?_
    clear hK K
    refine pi_t 41 rfl (by kernel_rfl) (by kernel_rfl) (fun _ _ _ _ h => h) (fun K hK => ?_)
    go_big_quiet_op
    refine hK _ ?_
    clear hK K
    refine pi_t 42 rfl (by kernel_rfl) (by kernel_rfl) (fun _ _ _ _ h => h) (fun K hK => ?_)
    go_big_quiet_op
    refine hK _ ?_
    clear hK K
    refine pi_t 43 rfl (by kernel_rfl) (by kernel_rfl) (fun _ _ _ _ h => h) (fun K hK => ?_)
    go_big_quiet_op
    refine hK _ ?_
    clear hK K
    refine pi_end (by kernel_rfl) ?_
    go_wp2
    go_ret
    exact ⟨by first | rfl | simp, hE10.trans' (hEf.trans' hxg)⟩
end Go.Proofs.YteoblkcbemeamaaGreat

/- Package window: a window in memory; Sum, Buckets, without, Check. -/
namespace Go.Proofs.YteoblkcbemeamaaGreat
set_option linter.unusedVariables false
open Go.RowKit
/-- A stack: where it lies, and what it has. -/
structure Bk where
  s : Nat
  g : Nat
  L : Nat → Lev
  ls : Nat → List Int
def Bk.At (k : Bk) (w : World) (C : Cfg) (B : Nat) : Prop := KAt w k.s k.g C B k.L k.ls
structure WAt (w : World) (N p b : Nat) (C : Cfg) (B n : Nat) (sm : Bk) (bk : Nat → Bk) : Prop where
  st : ∃ cap, w.heap[p]? = some (.cells #[.pointer (some ⟨sm.s, 0, none⟩), .slice (some ⟨b, 0, none⟩) n cap] 199 (0, 0)) ∧ cap = n
  row : ∃ cur, w.heap[b]? = some (.cells cur 28 (0, 0)) ∧ ∀ i, i < n → cur[i]? = some (.pointer (some ⟨(bk i).s, 0, none⟩))
  sum : sm.At w C B
  bks : ∀ i, i < n → (bk i).At w C B
  sepS : ∀ i, i < n → ∀ m, m ≤ B → ¬ cellsOf B (bk i).L (sm.L m).c
  sepB : ∀ i j, i < n → j < n → i ≠ j → ∀ m, m ≤ B → ¬ cellsOf B (bk i).L ((bk j).L m).c
  n1 : 1 ≤ n
  n2 : n ≤ 16
  md : C.mode = 1
  loP : N ≤ p
  loB : N ≤ b
  loC : ∀ i, i < n → ∀ m, m ≤ B → N ≤ ((bk i).L m).c
section
variable {w w' : World} {N p b : Nat} {C : Cfg} {B n : Nat} {sm : Bk} {bk : Nat → Bk}
theorem WAt.ltp (h : WAt w N p b C B n sm bk) : p < w.heap.size := by obtain ⟨_, h1, _⟩ := h.st; exact lt_of h1
theorem WAt.ltb (h : WAt w N p b C B n sm bk) : b < w.heap.size := by obtain ⟨_, h1, _⟩ := h.row; exact lt_of h1
theorem WAt.ext (h : WAt w N p b C B n sm bk) (he : Ext w w') : WAt w' N p b C B n sm bk := by
  refine ⟨?_, ?_, KAt.ext h.sum he, fun i hi => KAt.ext (h.bks i hi) he, h.sepS, h.sepB, h.n1, h.n2, h.md, h.loP, h.loB, h.loC⟩
  · obtain ⟨cap, h1, h2⟩ := h.st; exact ⟨cap, he.keep h1, h2⟩
  · obtain ⟨cur, h1, h2⟩ := h.row; exact ⟨cur, he.keep h1, h2⟩
end
set_option maxRecDepth 20000 in
set_option maxHeartbeats 4000000 in
theorem WSum_c {N p b : Nat} {C : Cfg} {B n : Nat} {sm : Bk} {bk : Nat → Bk} {w : World} (h : WAt w N p b C B n sm bk) :
    Calls Tryz.prog 60 #[.pointer (some ⟨p, 0, none⟩)] w (KCopyPost w C B sm.ls) := by
  obtain ⟨cap, hst, hcap⟩ := h.st
  have p0 := (cell_of hst 0).trans rfl
  have pl := lt_of hst
  have HC := Lib.hid (KCopy_c sm.s sm.g C B sm.L sm.ls w h.sum)
  clear hst h
  go_enter Tryz.func60, Tryz.ntmps60
  go_wp2_with fail
  refine Calls.mono HC.out ?_
  rintro e w1 ⟨s, g, L, rfl, h1, h2, h3, h4, h5⟩
  go_wp2
  go_ret
  exact ⟨s, g, L, rfl, h1, h2, h3, h4, h5⟩
set_option maxRecDepth 20000 in
theorem WBuckets_c {N p b : Nat} {C : Cfg} {B n : Nat} {sm : Bk} {bk : Nat → Bk} {w : World} (h : WAt w N p b C B n sm bk) :
    Calls Tryz.prog 61 #[.pointer (some ⟨p, 0, none⟩)] w fun e w' => e = .returned (.int .i64 n) ∧ w = w' := by
  obtain ⟨cap, hst, hcap⟩ := h.st
  have p1 := (cell_of hst 1).trans rfl
  have pl := lt_of hst
  clear hst h
  go_enter Tryz.func61, Tryz.ntmps61
  go_wp2
  go_ret
  exact ⟨rfl, rfl⟩
/-- What is left of the sum without the first bucket. -/
def WoPost (w : World) (C : Cfg) (B : Nat) (ms : Nat → List Int) (e : Ending) (w' : World) : Prop :=
  ∃ s : Nat, Ext w w' ∧ (((∀ k, k ≤ B → allI (ms k)) ∧ e = .returned (.tuple #[.pointer (some ⟨s, 0, none⟩), .int .i64 0]) ∧ ∃ g L, KAt w' s g C B L ms ∧ KFresh w.heap.size B L) ∨ ((¬ ∀ k, k ≤ B → allI (ms k)) ∧ e = .returned (.tuple #[.pointer (some ⟨s, 0, none⟩), .int .i64 4])))
set_option maxRecDepth 20000 in
set_option maxHeartbeats 4000000 in
theorem WWithout_c {N p b : Nat} {C : Cfg} {B n : Nat} {sm : Bk} {bk : Nat → Bk} {w : World} (h : WAt w N p b C B n sm bk) :
    Calls Tryz.prog 133 #[.pointer (some ⟨p, 0, none⟩)] w (WoPost w C B (fun k => minusL (sm.ls k) ((bk 0).ls k))) := by
  have HW := Lib.hid h
  obtain ⟨cap, hst, hcap⟩ := h.st
  have hn : 0 < n := h.n1
  have hmd : C.mode ≠ 2 := by rw [h.md]; decide
  have p0 := (cell_of hst 0).trans rfl
  have pl := lt_of hst
  have HC := Lib.hid (KCopy_c sm.s sm.g C B sm.L sm.ls w h.sum)
  clear hst h
  go_enter Tryz.func133, Tryz.ntmps133
  go_wp2_with fail
  refine Calls.mono HC.out ?_
  rintro e w1 ⟨s, g, L, rfl, hK, h2, h3, hF, hx⟩
  have hW1 := HW.out.ext hx
  obtain ⟨cap1, hst1, hcap1⟩ := hW1.st
  obtain ⟨cur, hb1, hcur⟩ := hW1.row
  have q1 := (cell_of hst1 1).trans rfl
  have ql := lt_of hst1
  have b0 := (cell_of hb1 0).trans (hcur 0 hn)
  have bl := lt_of hb1
  have HK := Lib.hid hK
  have HB := Lib.hid (hW1.bks 0 hn)
  have hFF : KFresh w.heap.size B L := hF
  have HX := Lib.hid hx
  have HFF := Lib.hid hFF
  have hnz : (0 : Int) < (n : Int) := by omega
  clear p0 pl hW1 hst1 hb1 hcur hK hF hx hFF
  go_wp2_with fail
  refine Calls.mono (KSubtract_c s g (bk 0).s (bk 0).g C B L (bk 0).L _ _ _ HK.out HB.out (fun _ => hmd)) ?_
  rintro e w2 (⟨ha, rfl, hK2, hM⟩ | ⟨ha, rfl, hx2⟩)
  · have hE : Ext w w2 := Below.trans HX.out (hM.below HX.out.size (fun k ⟨m, hm, he⟩ => by have := (HFF.out m hm).2.2; omega))
    go_wp2
    go_ret2
    exact ⟨s, hE, .inl ⟨ha, rfl, g, L, hK2, HFF.out⟩⟩
  · go_wp2
    go_ret2
    exact ⟨s, HX.out.trans' hx2, .inr ⟨ha, rfl⟩⟩
theorem w_fit (B : Nat) (ms : Nat → List Int) : (∀ k, k ≤ B → allI (ms k)) ∨ ¬ ∀ k, k ≤ B → allI (ms k) := Classical.em _
/-- What Check answers. -/
noncomputable def chkE (B : Nat) (ms : Nat → List Int) : Int := by
  classical exact if ∀ k, k ≤ B → allI (ms k) then 0 else 4
theorem chkE_yes {B : Nat} {ms : Nat → List Int} (h : ∀ k, k ≤ B → allI (ms k)) : chkE B ms = 0 := by unfold chkE; exact if_pos h
theorem chkE_no {B : Nat} {ms : Nat → List Int} (h : ¬ ∀ k, k ≤ B → allI (ms k)) : chkE B ms = 4 := by unfold chkE; exact if_neg h
set_option maxRecDepth 20000 in
theorem WCheck_c {N p b : Nat} {C : Cfg} {B n : Nat} {sm : Bk} {bk : Nat → Bk} {w : World} (h : WAt w N p b C B n sm bk) :
    Calls Tryz.prog 67 #[.pointer (some ⟨p, 0, none⟩)] w fun e w' => e = .returned (.int .i64 (chkE B (fun k => minusL (sm.ls k) ((bk 0).ls k)))) ∧ Ext w w' := by
  have HC := Lib.hid (WWithout_c h)
  clear h
  go_enter Tryz.func67, Tryz.ntmps67
  go_wp2_with fail
  refine Calls.mono HC.out ?_
  rintro e w1 ⟨s, hE, (⟨ha, rfl, _⟩ | ⟨ha, rfl⟩)⟩
  · have hc := Lib.hid (chkE_yes ha)
    clear ha
    go_wp2
    go_ret
    exact ⟨by rw [hc.out]; rfl, hE⟩
  · have hc := Lib.hid (chkE_no ha)
    clear ha
    go_wp2
    go_ret
    exact ⟨by rw [hc.out]; rfl, hE⟩
end Go.Proofs.YteoblkcbemeamaaGreat

/- Package window: Update. -/
namespace Go.Proofs.YteoblkcbemeamaaGreat
set_option linter.unusedVariables false
open Go.RowKit
theorem LvAt.offW {w : World} {L : Lev} {C : Cfg} {lv : Int} {l : List Int} (h : LvAt w L C lv l) {q : Nat} {cur : Array Value} {T : TypeId} {f : Nat × Nat} (hq : w.heap[q]? = some (.cells cur T f)) (hT : T = 199 ∨ T = 28) : L.s ≠ q ∧ L.b ≠ q ∧ L.c ≠ q := by
  rcases h with ⟨_, h⟩ | ⟨_, h⟩ <;> (obtain ⟨cap, h1, h2⟩ := h.g.ex; obtain ⟨cur2, h3, _⟩ := h2.ex; rcases hT with rfl | rfl <;> exact ⟨blk_ne h.ex hq (by decide), blk_ne h1 hq (by decide), blk_ne h3 hq (by decide)⟩)
theorem Mod.mono' {S T : Nat → Prop} {w w' : World} (h : Mod S w w') (hs : ∀ k, S k → T k) : Mod T w w' := ⟨h.os, h.tape, h.output, h.size, fun k hk hn => h.block k hk (fun hk2 => hn (hs k hk2))⟩
/-- What is written to a window's own blocks leaves a stack. -/
theorem KAt.setW {w : World} {s g : Nat} {C : Cfg} {B : Nat} {L : Nat → Lev} {ls : Nat → List Int} (h : KAt w s g C B L ls) {q : Nat} {cur : Array Value} {T : TypeId} {f : Nat × Nat} (hq : w.heap[q]? = some (.cells cur T f)) (hT : T = 199 ∨ T = 28) {w' : World} (hk : ∀ k, k < w.heap.size → k ≠ q → w'.heap[k]? = w.heap[k]?) : KAt w' s g C B L ls := by
  obtain ⟨cap, h1, h2⟩ := h.ex
  obtain ⟨cur2, h3, h4⟩ := h.row
  have n1 : s ≠ q := by rcases hT with rfl | rfl <;> exact blk_ne h1 hq (by decide)
  have n2 : g ≠ q := by rcases hT with rfl | rfl <;> exact blk_ne h3 hq (by decide)
  refine ⟨⟨cap, (hk s h.lts n1).trans h1, h2⟩, ⟨cur2, (hk g h.ltg n2).trans h3, h4⟩, fun n hn => ?_, h.sep, h.ok, h.hB⟩
  obtain ⟨a1, a2, a3⟩ := (h.lev n hn).offW hq hT
  exact (h.lev n hn).keep (hk _ (h.lev n hn).lts a1) (hk _ (h.lev n hn).ltb a2) (hk _ (h.lev n hn).ltc a3)
/-- What a window's own changes may touch. -/
def WFoot (p b B n : Nat) (bk : Nat → Bk) (k : Nat) : Prop := k = p ∨ k = b ∨ ∃ i, i < n ∧ cellsOf B (bk i).L k
def Bk.upd (k : Bk) (C : Cfg) (key d : Int) : Bk := ⟨k.s, k.g, k.L, updK C k.ls key d⟩
def setB (bk : Nat → Bk) (i : Nat) (x : Bk) : Nat → Bk := fun j => if j = i then x else bk j
theorem setB_same (bk : Nat → Bk) (i : Nat) (x : Bk) : setB bk i x i = x := if_pos rfl
theorem setB_ne (bk : Nat → Bk) {i j : Nat} (x : Bk) (h : j ≠ i) : setB bk i x j = bk j := if_neg h
section
variable {w w' : World} {N p b : Nat} {C : Cfg} {B n : Nat} {sm : Bk} {bk : Nat → Bk}
/-- One bucket is changed. -/
theorem WAt.mod1 {x : Bk} {m : Nat} (h : WAt w N p b C B n sm bk) (hm : m < n) (hM : Mod (cellsOf B (bk m).L) w w') (hx : x.At w' C B) (hxs : x.s = (bk m).s) (hxL : x.L = (bk m).L) : WAt w' N p b C B n sm (setB bk m x) := by
  have hL : ∀ i, (setB bk m x i).L = (bk i).L := fun i => by
    by_cases h2 : i = m
    · rw [h2, setB_same, hxL]
    · rw [setB_ne _ _ h2]
  have hS : ∀ i, (setB bk m x i).s = (bk i).s := fun i => by
    by_cases h2 : i = m
    · rw [h2, setB_same, hxs]
    · rw [setB_ne _ _ h2]
  refine ⟨?_, ?_, ?_, fun i hi => ?_, fun i hi k hk => ?_, fun i j hi hj hij k hk => ?_, h.n1, h.n2, h.md, h.loP, h.loB, fun i hi k hk => ?_⟩
  · obtain ⟨cap, h1, h2⟩ := h.st; exact ⟨cap, KAt.blk (h.bks m hm) hM h1 (by decide), h2⟩
  · obtain ⟨cur, h1, h2⟩ := h.row; exact ⟨cur, KAt.blk (h.bks m hm) hM h1 (by decide), fun i hi => by rw [hS]; exact h2 i hi⟩
  · exact KAt.mod h.sum hM (fun k hk _ => KAt.isc (h.bks m hm) hk) (fun k hk => h.sepS m hm k hk)
  · by_cases h2 : i = m
    · rw [h2, setB_same]; exact hx
    · rw [setB_ne _ _ h2]; exact KAt.mod (h.bks i hi) hM (fun k hk _ => KAt.isc (h.bks m hm) hk) (fun k hk => h.sepB m i hm hi (fun e => h2 e.symm) k hk)
  · rw [hL]; exact h.sepS i hi k hk
  · rw [hL, hL]; exact h.sepB i j hi hj hij k hk
  · rw [hL]; exact h.loC i hi k hk
/-- Another stack becomes the sum. -/
theorem WAt.newSum (h : WAt w N p b C B n sm bk) (y : Bk) (hy : y.At w C B) (hys : ∀ i, i < n → ∀ m, m ≤ B → ¬ cellsOf B (bk i).L (y.L m).c) : WAt (w.setCell ⟨p, 0, none⟩ (.pointer (some ⟨y.s, 0, none⟩))) N p b C B n y bk := by
  obtain ⟨cap, h1, h2⟩ := h.st
  obtain ⟨cur, h3, h4⟩ := h.row
  have ho : ∀ k, k < w.heap.size → k ≠ p → (w.setCell ⟨p, 0, none⟩ (.pointer (some ⟨y.s, 0, none⟩))).heap[k]? = w.heap[k]? := fun k _ hk => setCell_other _ _ hk
  have hbp : b ≠ p := blk_ne h3 h1 (by decide)
  exact ⟨⟨cap, setCell_same h1 0 _, h2⟩, ⟨cur, (ho b h.ltb hbp).trans h3, h4⟩, KAt.setW hy h1 (.inl rfl) ho, fun i hi => KAt.setW (h.bks i hi) h1 (.inl rfl) ho, hys, h.sepB, h.n1, h.n2, h.md, h.loP, h.loB, h.loC⟩
end
/-- What Update answers. -/
def wErr (C : Cfg) (B n : Nat) (sm : Bk) (bk : Nat → Bk) (key d : Int) : Int := if errK C B sm.ls key d = 0 then errK C B (bk (n - 1)).ls key d else errK C B sm.ls key d
def WUpdPost (w : World) (N p b : Nat) (C : Cfg) (B n : Nat) (sm : Bk) (bk : Nat → Bk) (key d : Int) (e : Ending) (w' : World) : Prop :=
  e = .returned (.int .i64 (wErr C B n sm bk key d)) ∧ Mod (WFoot p b B n bk) w w' ∧
    ((wErr C B n sm bk key d = 0 ∧ ∃ s g L, KFresh w.heap.size B L ∧ WAt w' N p b C B n ⟨s, g, L, updK C sm.ls key d⟩ (setB bk (n - 1) ((bk (n - 1)).upd C key d))) ∨ (wErr C B n sm bk key d ≠ 0 ∧ WAt w' N p b C B n sm bk))
set_option maxRecDepth 20000 in
set_option maxHeartbeats 8000000 in
theorem WUpdate_c {N p b : Nat} {C : Cfg} {B n : Nat} {sm : Bk} {bk : Nat → Bk} {w : World} (h : WAt w N p b C B n sm bk) (key d : Int) (hk : U64 key) (hd : I64 d) :
    Calls Tryz.prog 65 #[.pointer (some ⟨p, 0, none⟩), .int .u64 key, .int .i64 d] w (WUpdPost w N p b C B n sm bk key d) := by
  have HW := Lib.hid h
  obtain ⟨cap, hst, hcap⟩ := h.st
  have hn := h.n1
  have hn2 := h.n2
  have p0 := (cell_of hst 0).trans rfl
  have pl := lt_of hst
  have HC := Lib.hid (KCopy_c sm.s sm.g C B sm.L sm.ls w h.sum)
  have HKU := Lib.hid hk
  have HDI := Lib.hid hd
  clear hst h hk hd
  go_enter Tryz.func65, Tryz.ntmps65
  go_wp2_with fail
  refine Calls.mono HC.out ?_
  rintro e w1 ⟨s, g, L, rfl, hK, h2, h3, hF, hx⟩
  have HX := Lib.hid hx
  have hFF : KFresh w.heap.size B L := hF
  have HFF := Lib.hid hFF
  have HK := Lib.hid hK
  clear p0 pl hK hF hFF hx
  go_wp2_with fail
  refine Calls.mono (KUpdate_c s g C B L _ key d _ HK.out HDI.out HKU.out) ?_
  rintro e w2 ⟨rfl, hK2, hM⟩
  have hE2 : Ext w w2 := Below.trans HX.out (hM.below HX.out.size (fun k ⟨m, hm, he⟩ => by have := (HFF.out m hm).2.2; omega))
  have HE2 := Lib.hid hE2
  by_cases h0 : errK C B sm.ls key d = 0
  · rw [h0] at hK2 ⊢
    replace hK2 : KAt w2 s g C B L (updK C sm.ls key d) := hK2
    have HK2 := Lib.hid hK2
    have hW2 := HW.out.ext hE2
    obtain ⟨cap2, hst2, hcap2⟩ := hW2.st
    obtain ⟨cur, hb2, hcur⟩ := hW2.row
    have q1 := (cell_of hst2 1).trans rfl
    have ql := lt_of hst2
    have hnn : ((n - 1 : Nat) : Int) = (n : Int) - 1 := by omega
    obtain ⟨m, rfl⟩ : ∃ m, n = m + 1 := ⟨n - 1, by omega⟩
    have b0 := (cell_of hb2 m).trans (hcur m (Nat.lt_succ_self m))
    have bl := lt_of hb2
    have hm15 : m ≤ 15 := by omega
    have HB := Lib.hid (hW2.bks m (Nat.lt_succ_self m))
    have HW2 := Lib.hid hW2
    have HST2 := Lib.hid hst2
    have HB2 := Lib.hid hb2
    have HCUR := Lib.hid hcur
    have HUP := Lib.hid (fun W (hE : Ext w2 W) => KUpdate_c (bk m).s (bk m).g C B (bk m).L (bk m).ls key d W (HB.out.ext hE) HDI.out HKU.out)
    have H0 := Lib.hid h0
    obtain ⟨S, hSS⟩ : ∃ S : Nat → Prop, ∀ k, S k ↔ cellsOf B (bk m).L k := ⟨_, fun _ => Iff.rfl⟩
    have n1 : ¬ S p := fun hs => by obtain ⟨c2, h2⟩ := HB.out.isc ((hSS p).1 hs); exact blk_ne hst2 h2 (by decide) rfl
    have n2 : ¬ S b := fun hs => by obtain ⟨c2, h2⟩ := HB.out.isc ((hSS b).1 hs); exact blk_ne hb2 h2 (by decide) rfl
    have HSS := Lib.hid hSS
    clear hK2 hM hW2 hst2 hb2 hcur hE2 hnn hn hn2 h0 hSS
    go_wp2_with fail
    have hC0 := afs_drew S w2
    refine pi_start (fun w' => ∃ x : AftS S w2, w' = x.w) [] (by kernel_rfl) ?_
    refine pi_t 0 rfl (by kernel_rfl) (by kernel_rfl) (fun _ _ _ _ h => h) (fun K hK => ?_)
    go_big_quiet_op
    refine hK _ ?_
    clear hK K
    refine pi_t 1 rfl (by kernel_rfl) (by kernel_rfl) (fun _ _ _ _ h => h) (fun K hK => ?_)
    go_big_quiet_op
    refine hK _ ?_
    clear hK K
    refine pi_t 2 rfl (by kernel_rfl) (by kernel_rfl) (fun _ _ _ _ h => h) (fun K hK => ?_)
    go_big_quiet_op
    refine hK _ ?_
    clear hK K
    refine pi_t 4 rfl (by kernel_rfl) (by kernel_rfl) (fun _ _ _ _ h => h) (fun K hK => ?_)
    go_big_quiet_op
    refine hK _ ?_
    clear hK K
    refine pi_t 5 rfl (by kernel_rfl) (by kernel_rfl) (fun _ _ _ _ h => h) (fun K hK => ?_)
    go_big_quiet_op
    refine hK _ ?_
    clear hK K
    refine pi_t 6 rfl (by kernel_rfl) (by kernel_rfl) (fun _ _ _ _ h => h) (fun K hK => ?_)
    go_big_quiet_op
    refine hK _ ?_
    clear hK K
    refine pi_t 12 rfl (by kernel_rfl) (by kernel_rfl) (fun _ _ _ _ h => h) (fun K hK => ?_)
    go_big_quiet_op
    refine hK _ ?_
    clear hK K
    refine pi_t 13 rfl (by kernel_rfl) (by kernel_rfl) (fun _ _ _ _ h => h) (fun K hK => ?_)
    go_big_quiet_op
    refine hK _ ?_
    clear hK K
    refine pi_c 3 (by assumption) rfl (by kernel_rfl) (by kernel_rfl) (fun _ _ _ _ h => h) (fun K hK => ?_)
    go_big_quiet_op
    refine hK _ ?_
    clear hK K
    refine pi_c 7 (by assumption) rfl (by kernel_rfl) (by kernel_rfl) (fun _ _ _ _ h => h) (fun K hK => ?_)
    go_big_quiet_op
    refine hK _ ?_
    clear hK K
    refine pi_t 8 rfl (by kernel_rfl) (by kernel_rfl) (fun _ _ _ _ h => h) (fun K hK => ?_)
    go_big_quiet_op
    refine hK _ ?_
    clear hK K
    refine pi_t 9 rfl (by kernel_rfl) (by kernel_rfl) (fun _ _ _ _ h => h) (fun K hK => ?_)
    go_big_quiet_op
    refine hK _ ?_
    clear hK K
    refine pi_t 10 rfl (by kernel_rfl) (by kernel_rfl) (fun _ _ _ _ h => h) (fun K hK => ?_)
    go_big_quiet_op
    refine hK _ ?_
    clear hK K
    refine pi_c 11 (by assumption) rfl (by kernel_rfl) (by kernel_rfl) (fun _ _ _ _ h => h) (fun K hK => ?_)
    go_big_quiet_op
    refine hK _ ?_
    clear hK K
    refine pi_l 14 rfl (by kernel_rfl) (fun K hK => ?_)
    go_wp2_with (go_at_call 26; refine Calls.mono (HUP.out _ (Below.drew (Ext.refl w2))) ?_; rintro e w3 ⟨rfl, hKb, hMb⟩)
    have hM3 : Mod S w2 w3 := (((show Ext w2 w2.drew from Below.drew (Ext.refl w2)).mod _).trans hMb).mono' (fun k hk => (HSS.out k).2 hk)
    refine hK _ _ (fun _ _ => ⟨⟨w3, hM3⟩, rfl⟩) ?_
    clear hK K
    refine pi_t 15 rfl (by kernel_rfl) (by kernel_rfl) (fun _ _ _ _ h => h) (fun K hK => ?_)
    go_big_quiet_op
    refine hK _ ?_
    clear hK K
    refine pi_end (by kernel_rfl) ?_
    have hpb : p ≠ b := blk_ne HST2.out HB2.out (by decide)
    have hMw : Mod (cellsOf B (bk m).L) w2 w3 := hM3.mono' (fun k hk => (HSS.out k).1 hk)
    have hfo : Mod (WFoot p b B (m + 1) bk) w w3 := (HE2.out.mod _).trans (hMw.mono' (fun k hk => .inr (.inr ⟨m, Nat.lt_succ_self m, hk⟩)))
    have hwe : wErr C B (m + 1) sm bk key d = errK C B (bk m).ls key d := if_pos H0.out
    have hp3 : p < w3.heap.size := Nat.lt_of_lt_of_le ql hMw.size
    have hf3 := frozen_of (KAt.blk HB.out hMw HST2.out (by decide)) 0
    have hc3 := (cell_of (KAt.blk HB.out hMw HST2.out (by decide)) 0).trans rfl
    by_cases hb0 : errK C B (bk m).ls key d = 0
    · rw [hb0] at hKb ⊢
      have hKb' : Bk.At ((bk m).upd C key d) w3 C B := hKb
      have hW3 := HW2.out.mod1 (Nat.lt_succ_self m) hMw hKb' rfl rfl
      have hKs : Bk.At ⟨s, g, L, updK C sm.ls key d⟩ w3 C B := KAt.mod HK2.out hMw (fun k hk _ => KAt.isc HB.out hk) (fun k hk hc => by
        obtain ⟨j, hj, he⟩ := hc
        have h1 := (HFF.out k hk).2.2
        have h2 := ((KAt.lev (HW.out.bks m (Nat.lt_succ_self m))) j hj).ltc
        have he' : (L k).c = ((bk m).L j).c := he
        omega)
      have hWf := hW3.newSum _ hKs (fun i hi k hk hc => by
        obtain ⟨j, hj, he⟩ := hc
        have h1 := (HFF.out k hk).2.2
        by_cases him : i = m
        · subst him
          rw [setB_same] at he
          have h2 := ((KAt.lev (HW.out.bks i hi)) j hj).ltc
          have he' : (L k).c = ((bk i).L j).c := he
          omega
        · rw [setB_ne _ _ him] at he
          have h2 := ((KAt.lev (HW.out.bks i hi)) j hj).ltc
          have he' : (L k).c = ((bk i).L j).c := he
          omega)
      have hMf : Mod (WFoot p b B (m + 1) bk) w (w3.setCell ⟨p, 0, none⟩ (.pointer (some ⟨s, 0, none⟩))) := hfo.trans ((mod_set _ _ _ _).mono' (fun k hk => .inl hk))
      have HWF := Lib.hid hWf
      have HMF := Lib.hid hMf
      have HWE := Lib.hid (hwe.trans hb0)
      clear hKb hMb hM3 hMw hfo hW3 hKs hWf hMf hwe hb0 hKb' b0 q1 bl ql n1 n2
      go_wp2
      go_ret
      refine ⟨by rw [HWE.out]; rfl, HMF.out, .inl ⟨HWE.out, s, g, L, HFF.out, ?_⟩⟩
      exact HWF.out
    · have hKb' : Bk.At (bk m) w3 C B := by
        have := hKb
        rw [decide_eq_false hb0] at this
        exact this
      have hW3 := HW2.out.mod1 (x := bk m) (Nat.lt_succ_self m) hMw hKb' rfl rfl
      have hss : setB bk m (bk m) = bk := by
        funext i
        by_cases him : i = m
        · rw [him, setB_same]
        · rw [setB_ne _ _ him]
      rw [hss] at hW3
      have HWF := Lib.hid hW3
      have HMF := Lib.hid hfo
      have HWE := Lib.hid hwe
      have hb0' : (errK C B (bk m).ls key d == 0) = false := by simpa using hb0
      have HB0 := Lib.hid hb0
      clear hKb hMb hM3 hMw hfo hW3 hwe hKb' b0 q1 bl ql n1 n2
      go_wp2
      go_ret
      exact ⟨by rw [HWE.out]; rfl, HMF.out, .inr ⟨by rw [HWE.out]; exact HB0.out, HWF.out⟩⟩
  · have hwe : wErr C B n sm bk key d = errK C B sm.ls key d := if_neg h0
    have HWE := Lib.hid hwe
    have HWF := Lib.hid (HW.out.ext hE2)
    have HMF := Lib.hid (hE2.mod (WFoot p b B n bk))
    have hb0' : (errK C B sm.ls key d == 0) = false := by simpa using h0
    have HB0 := Lib.hid h0
    clear hK2 hM hE2 hwe
    go_wp2
    go_ret
    exact ⟨by rw [HWE.out]; rfl, HMF.out, .inr ⟨by rw [HWE.out]; exact HB0.out, HWF.out⟩⟩
end Go.Proofs.YteoblkcbemeamaaGreat

/- Package window: Tick. -/
namespace Go.Proofs.YteoblkcbemeamaaGreat
set_option linter.unusedVariables false
open Go.RowKit
/-- The buckets behind a tick. -/
def shiftB (n : Nat) (bk : Nat → Bk) (x : Bk) : Nat → Bk := fun i => if i + 1 = n then x else bk (i + 1)
theorem shiftB_last {n : Nat} {bk : Nat → Bk} {x : Bk} {i : Nat} (h : i + 1 = n) : shiftB n bk x i = x := if_pos h
theorem shiftB_less {n : Nat} {bk : Nat → Bk} {x : Bk} {i : Nat} (h : i + 1 ≠ n) : shiftB n bk x i = bk (i + 1) := if_neg h
section
variable {w w' : World} {N p b : Nat} {C : Cfg} {B n : Nat} {sm : Bk} {bk : Nat → Bk}
theorem WAt.shift (h : WAt w N p b C B n sm bk) (x : Bk) (hx : x.At w C B) (s1 : ∀ m, m ≤ B → ¬ cellsOf B x.L (sm.L m).c) (s2 : ∀ j, j < n → ∀ m, m ≤ B → ¬ cellsOf B x.L ((bk j).L m).c) (s3 : ∀ j, j < n → ∀ m, m ≤ B → ¬ cellsOf B (bk j).L (x.L m).c) (hN : ∀ m, m ≤ B → N ≤ (x.L m).c)
    (hw : ∀ k, k < w.heap.size → k ≠ b → w'.heap[k]? = w.heap[k]?) (hb : ∃ cur, w'.heap[b]? = some (.cells cur 28 (0, 0)) ∧ ∀ i, i < n → cur[i]? = some (.pointer (some ⟨(shiftB n bk x i).s, 0, none⟩))) : WAt w' N p b C B n sm (shiftB n bk x) := by
  obtain ⟨cap, h1, h2⟩ := h.st
  obtain ⟨cur, h3, h4⟩ := h.row
  have hpb : p ≠ b := blk_ne h1 h3 (by decide)
  refine ⟨⟨cap, (hw p h.ltp hpb).trans h1, h2⟩, hb, KAt.setW h.sum h3 (.inr rfl) hw, fun i hi => ?_, fun i hi k hk => ?_, fun i j hi hj hij k hk => ?_, h.n1, h.n2, h.md, h.loP, h.loB, fun i hi k hk => ?_⟩
  · by_cases hl : i + 1 = n
    · rw [shiftB_last hl]; exact KAt.setW hx h3 (.inr rfl) hw
    · rw [shiftB_less hl]; exact KAt.setW (h.bks _ (by omega)) h3 (.inr rfl) hw
  · by_cases hl : i + 1 = n
    · rw [shiftB_last hl]; exact s1 k hk
    · rw [shiftB_less hl]; exact h.sepS _ (by omega) k hk
  · by_cases hl : i + 1 = n
    · rw [shiftB_last hl]
      by_cases hl2 : j + 1 = n
      · omega
      · rw [shiftB_less hl2]; exact s2 _ (by omega) k hk
    · rw [shiftB_less hl]
      by_cases hl2 : j + 1 = n
      · rw [shiftB_last hl2]; exact s3 _ (by omega) k hk
      · rw [shiftB_less hl2]; exact h.sepB _ _ (by omega) (by omega) (by omega) k hk
  · by_cases hl : i + 1 = n
    · rw [shiftB_last hl]; exact hN k hk
    · rw [shiftB_less hl]; exact h.loC _ (by omega) k hk
end
theorem mod_setRow (w : World) (b : Nat) (cs : Array Value) : Mod (fun k => k = b) w (w.setRow b cs) := ⟨rfl, rfl, rfl, by simp [World.setRow], fun k hk hn => setRow_other w b k cs (by first | exact hn | exact fun e => hn e.symm)⟩
def WTickPost (w : World) (N p b : Nat) (C : Cfg) (B n : Nat) (sm : Bk) (bk : Nat → Bk) (e : Ending) (w' : World) : Prop :=
  e = .returned (.int .i64 (chkE B (fun k => minusL (sm.ls k) ((bk 0).ls k)))) ∧ Mod (WFoot p b B n bk) w w' ∧
    (((∀ k, k ≤ B → allI (minusL (sm.ls k) ((bk 0).ls k))) ∧ ∃ s g L s2 g2 L2, KFresh w.heap.size B L ∧ KFresh w.heap.size B L2 ∧ WAt w' N p b C B n ⟨s, g, L, fun k => minusL (sm.ls k) ((bk 0).ls k)⟩ (shiftB n bk ⟨s2, g2, L2, fun k => zs (lvN C k)⟩)) ∨ ((¬ ∀ k, k ≤ B → allI (minusL (sm.ls k) ((bk 0).ls k))) ∧ WAt w' N p b C B n sm bk))
set_option maxRecDepth 20000 in
set_option maxHeartbeats 8000000 in
theorem WTick_c {N p b : Nat} {C : Cfg} {B n : Nat} {sm : Bk} {bk : Nat → Bk} {w : World} (h : WAt w N p b C B n sm bk) (hok : C.Ok) :
    Calls Tryz.prog 64 #[.pointer (some ⟨p, 0, none⟩)] w (WTickPost w N p b C B n sm bk) := by
  have HW := Lib.hid h
  have HOK := Lib.hid hok
  have HC := Lib.hid (WWithout_c h)
  have hn := h.n1
  have hn2 := h.n2
  have hNp := h.loP
  have pl := h.ltp
  clear h hok
  go_enter Tryz.func64, Tryz.ntmps64
  go_wp2_with fail
  refine Calls.mono HC.out ?_
  rintro e w1 ⟨s, hE, (⟨ha, rfl, g, L, hK, hF⟩ | ⟨ha, rfl⟩)⟩
  · have hW1 := HW.out.ext hE
    have HF := Lib.hid hF
    have hys : ∀ i, i < n → ∀ m, m ≤ B → ¬ cellsOf B (bk i).L (L m).c := fun i hi m hm ⟨j, hj, he⟩ => by
      have h1 := (HF.out m hm).2.2
      have h2 := ((KAt.lev (HW.out.bks i hi)) j hj).ltc
      have he' : (L m).c = ((bk i).L j).c := he
      omega
    have hW2 := hW1.newSum ⟨s, g, L, fun k => minusL (sm.ls k) ((bk 0).ls k)⟩ hK hys
    obtain ⟨cap1, hst1, _⟩ := hW1.st
    have q0 := (cell_of hst1 0).trans rfl
    have f0 := frozen_of hst1 0
    have ql := lt_of hst1
    have hc := Lib.hid (chkE_yes ha)
    have HA := Lib.hid ha
    have HE := Lib.hid hE
    have HYS := Lib.hid hys
    clear ha hK hF hW1 hst1 hE hys
    go_upto_region 5 with (fail)
    obtain ⟨w2, hw2⟩ : ∃ w2, w1.setCell ⟨p, 0, none⟩ (.pointer (some ⟨s, 0, none⟩)) = w2 := ⟨_, rfl⟩
    have hM2 : Mod (fun k => k = p) w1 w2 := by rw [← hw2]; exact mod_set _ _ _ _
    have hW2' : WAt w2 N p b C B n ⟨s, g, L, fun k => minusL (sm.ls k) ((bk 0).ls k)⟩ bk := by rw [← hw2]; exact hW2
    rw [hw2]
    clear hw2 hW2 q0 f0 ql
    have HM2 := Lib.hid hM2
    have HW2 := Lib.hid hW2'
    clear hM2 hW2'
    go_wp2_with fail
    refine Calls.mono (SKConfig_c s g C B L _ _ HW2.out.sum) ?_
    rintro e w3 ⟨rfl, hx3⟩
    have HX3 := Lib.hid hx3
    clear hx3
    go_wp2_with fail
    refine Calls.mono (KNew_c C HOK.out _) ?_
    rintro e w4 ⟨s2, g2, L2, rfl, hK4, _, _, hF4, hx4⟩
    have hBt : C.bits.toNat = B := by have := KAt.hB HW.out.sum; omega
    rw [hBt] at hK4 hF4
    have hW4 := HW2.out.ext (HX3.out.trans' hx4)
    obtain ⟨cap, hst4, hcap⟩ := hW4.st
    rw [hcap] at hst4
    obtain ⟨cur, hb4, hcur⟩ := hW4.row
    have q1 := (cell_of hst4 1).trans rfl
    have ql := lt_of hst4
    have hpb : p ≠ b := blk_ne hst4 hb4 (by decide)
    have hlb := lt_of hb4
    obtain ⟨S, hSS⟩ : ∃ S : Nat → Prop, ∀ k, S k ↔ k = b := ⟨_, fun _ => Iff.rfl⟩
    have n1 : ¬ S p := fun hs => hpb ((hSS p).1 hs)
    have HSS := Lib.hid hSS
    have HW4 := Lib.hid hW4
    have HB4 := Lib.hid hb4
    have HST4 := Lib.hid hst4
    have HCUR := Lib.hid hcur
    have HX4 := Lib.hid hx4
    have HK4 := Lib.hid hK4
    have HF4 := Lib.hid hF4
    have hsz : (Tryz.prog.info? 28).map (·.size) = some 1 := by kernel_rfl
    have HSZ := Lib.hid hsz
    obtain ⟨m, rfl⟩ : ∃ m, n = m + 1 := ⟨n - 1, by omega⟩
    clear hK4 hF4 hW4 hst4 hb4 hcur hx4 hSS hsz hNp hlb
    have hm15 : m ≤ 15 := by omega
    go_upto_region 6 with (fail)
    go_cut [] (fun wx => ∃ cur5, wx.heap[b]? = some (.cells cur5 28 (0, 0)) ∧ m < cur5.size ∧ (∀ i, i < m → cur5[i]? = some (.pointer (some ⟨(bk (i + 1)).s, 0, none⟩))) ∧ Mod (fun k => k = b) w4 wx)
    case first =>
      have hC0 := afs_drew S w4
      have hd4 : w4.drew.heap[b]? = some (.cells cur 28 (0, 0)) := HB4.out
      have hcs : m < cur.size := by
        have := HCUR.out m (Nat.lt_succ_self m)
        exact (Array.getElem?_eq_some_iff.1 this).1
      obtain ⟨cs, hcsd⟩ : ∃ cs : List Value, cs = (List.range m).map fun i => Value.pointer (some ⟨(bk (i + 1)).s, 0, none⟩) := ⟨_, rfl⟩
      have hcl : cs.length = m := by rw [hcsd]; simp
      have hcg : ∀ j v, cs[j]? = some v → j < m ∧ v = .pointer (some ⟨(bk (j + 1)).s, 0, none⟩) := by
        intro j v hv
        rw [hcsd] at hv
        rcases Nat.lt_or_ge j m with hj | hj
        · simp [hj] at hv; exact ⟨hj, hv.symm⟩
        · simp [hj] at hv
      have HCG := Lib.hid hcg
      have HD4 := Lib.hid hd4
      have HCSD := Lib.hid hcsd
      have HCS := Lib.hid hcs
      have HCL := Lib.hid hcl
      clear hcg hd4 hcsd hcs hcl
      by_cases hm0 : m = 0
      · subst hm0
        refine pi_start (fun w' => ∃ x : AftS S w4, w' = x.w) [] (by kernel_rfl) ?_
        refine pi_t 0 rfl (by kernel_rfl) (by kernel_rfl) (fun _ _ _ _ h => h) (fun K hK => ?_)
        go_big_quiet_op
        refine hK _ ?_
        clear hK K
        refine pi_t 1 rfl (by kernel_rfl) (by kernel_rfl) (fun _ _ _ _ h => h) (fun K hK => ?_)
        go_big_quiet_op
        refine hK _ ?_
        clear hK K
        refine pi_t 2 rfl (by kernel_rfl) (by kernel_rfl) (fun _ _ _ _ h => h) (fun K hK => ?_)
        go_big_quiet_op
        refine hK _ ?_
        clear hK K
        refine pi_t 4 rfl (by kernel_rfl) (by kernel_rfl) (fun _ _ _ _ h => h) (fun K hK => ?_)
        go_big_quiet_op
        refine hK _ ?_
        clear hK K
        refine pi_t 5 rfl (by kernel_rfl) (by kernel_rfl) (fun _ _ _ _ h => h) (fun K hK => ?_)
        go_big_quiet_op
        refine hK _ ?_
        clear hK K
        refine pi_t 6 rfl (by kernel_rfl) (by kernel_rfl) (fun _ _ _ _ h => h) (fun K hK => ?_)
        go_big_quiet_op
        refine hK _ ?_
        clear hK K
        refine pi_c 3 (by assumption) rfl (by kernel_rfl) (by kernel_rfl) (fun _ _ _ _ h => h) (fun K hK => ?_)
        go_big_quiet_op
        refine hK _ ?_
        clear hK K
        refine pi_c 7 (by assumption) rfl (by kernel_rfl) (by kernel_rfl) (fun _ _ _ _ h => h) (fun K hK => ?_)
        go_big_quiet_op
        refine hK _ ?_
        clear hK K
        refine pi_t 8 rfl (by kernel_rfl) (by kernel_rfl) (fun _ _ _ _ h => h) (fun K hK => ?_)
        go_big_quiet_op
        refine hK _ ?_
        clear hK K
        refine pi_l 9 rfl (by kernel_rfl) (fun K hK => ?_)
        refine wpList_copy_nothing rfl _ _ _ _ rfl 28 Tryz.underlying197 HSZ.out _ _ _ _ _ _ rfl rfl (by decide) ?_
        go_wp2
        refine hK _ _ (fun _ h => h) ?_
        clear hK K
        refine pi_end (by kernel_rfl) ?_
        go_wp2_with fail
        go_meet
        exact ⟨cur, HB4.out, HCS.out, fun i hi => absurd hi (by omega), (show Ext w4 w4.drew from Below.drew (Ext.refl w4)).mod _⟩
      · have hm1 : (1 : Int) < (m : Int) + 1 := by omega
        refine pi_start (fun w' => ∃ x : AftS S w4, w' = x.w) [] (by kernel_rfl) ?_
        refine pi_t 0 rfl (by kernel_rfl) (by kernel_rfl) (fun _ _ _ _ h => h) (fun K hK => ?_)
        go_big_quiet_op
        refine hK _ ?_
        clear hK K
        refine pi_t 1 rfl (by kernel_rfl) (by kernel_rfl) (fun _ _ _ _ h => h) (fun K hK => ?_)
        go_big_quiet_op
        refine hK _ ?_
        clear hK K
        refine pi_t 2 rfl (by kernel_rfl) (by kernel_rfl) (fun _ _ _ _ h => h) (fun K hK => ?_)
        go_big_quiet_op
        refine hK _ ?_
        clear hK K
        refine pi_t 4 rfl (by kernel_rfl) (by kernel_rfl) (fun _ _ _ _ h => h) (fun K hK => ?_)
        go_big_quiet_op
        refine hK _ ?_
        clear hK K
        refine pi_t 5 rfl (by kernel_rfl) (by kernel_rfl) (fun _ _ _ _ h => h) (fun K hK => ?_)
        go_big_quiet_op
        refine hK _ ?_
        clear hK K
        refine pi_t 6 rfl (by kernel_rfl) (by kernel_rfl) (fun _ _ _ _ h => h) (fun K hK => ?_)
        go_big_quiet_op
        refine hK _ ?_
        clear hK K
        refine pi_c 3 (by assumption) rfl (by kernel_rfl) (by kernel_rfl) (fun _ _ _ _ h => h) (fun K hK => ?_)
        go_big_quiet_op
        refine hK _ ?_
        clear hK K
        refine pi_c 7 (by assumption) rfl (by kernel_rfl) (by kernel_rfl) (fun _ _ _ _ h => h) (fun K hK => ?_)
        go_big_quiet_op
        refine hK _ ?_
        clear hK K
        refine pi_t 8 rfl (by kernel_rfl) (by kernel_rfl) (fun _ _ _ _ h => h) (fun K hK => ?_)
        go_big_quiet_op
        refine hK _ ?_
        clear hK K
        refine pi_l 9 rfl (by kernel_rfl) (fun K hK => ?_)
        refine wpList_copy_own rfl _ _ _ _ rfl 28 Tryz.underlying197 HSZ.out b 0 (m + 1) (m + 1) ⟨b, 1, none⟩ m m rfl rfl cur 28 HD4.out cs ?a1 ?a2 ?a3 ?a4 ?_
        case a1 => rw [HCL.out]; exact (Nat.min_eq_left (Nat.le_succ m)).symm
        case a2 =>
          intro j v hv
          obtain ⟨hj, rfl⟩ := HCG.out j v hv
          rw [show ((⟨b, 1, none⟩ : Addr).add j) = ⟨b, 1 + j, none⟩ by (unfold Addr.add; split <;> simp_all), cell_of HD4.out, Nat.add_comm 1 j]
          exact HCUR.out (j + 1) (by omega)
        case a3 => rw [HCL.out]; have := HCS.out; omega
        case a4 =>
          intro v hv
          rw [HCSD.out] at hv
          simp only [List.mem_map] at hv
          obtain ⟨i, _, rfl⟩ := hv
          rfl
        obtain ⟨w5, hw5⟩ : ∃ w5, w4.drew.setRow b (cur.toList.take 0 ++ (cs ++ cur.toList.drop (0 + cs.length))).toArray = w5 := ⟨_, rfl⟩
        have hM5 : Mod (fun k => k = b) w4 w5 := by rw [← hw5]; exact ((show Ext w4 w4.drew from Below.drew (Ext.refl w4)).mod _).trans (mod_setRow _ _ _)
        have hb5 : w5.heap[b]? = some (.cells (cs ++ cur.toList.drop m).toArray 28 (0, 0)) := by
          rw [← hw5]
          have h1 := setRow_heap w4.drew b cur (cur.toList.take 0 ++ (cs ++ cur.toList.drop (0 + cs.length))).toArray 28 (0, 0) HD4.out
          rw [h1, HCL.out, Nat.zero_add, List.take_zero, List.nil_append]
        rw [hw5]
        clear hw5
        have hMS : Mod S w4 w5 := hM5.mono' (fun k hk => (HSS.out k).2 hk)
        have HM5 := Lib.hid hM5
        have HB5 := Lib.hid hb5
        clear hM5 hb5
        go_wp2
        refine hK _ _ (fun _ _ => ⟨⟨w5, hMS⟩, rfl⟩) ?_
        clear hK K
        refine pi_end (by kernel_rfl) ?_
        go_wp2_with fail
        go_meet
        refine ⟨_, HB5.out, ?_, fun i hi => ?_, HM5.out⟩
        · have := HCS.out
          simp [HCL.out]; omega
        · have hget : cs[i]? = some (.pointer (some ⟨(bk (i + 1)).s, 0, none⟩)) := by rw [HCSD.out]; simp [hi]
          rw [List.getElem?_toArray, List.getElem?_append_left (by rw [HCL.out]; exact hi)]
          exact hget
    case rest =>
      obtain ⟨cur5, hb5, hm5, hcur5, hM5⟩ := hcut
      rename World => w5
      have hst5 := (hM5.block p (lt_of HST4.out) hpb).trans HST4.out
      have q1 := (cell_of hst5 1).trans rfl
      have ql := lt_of hst5
      have f5 := frozen_of hb5 m
      have c5 := (cell_of hb5 m).trans (Array.getElem?_eq_getElem hm5)
      have bl := lt_of hb5
      have hmm : (m : Int) + 1 - 1 = (m : Int) := by omega
      have HB5 := Lib.hid hb5
      have HM5 := Lib.hid hM5
      have HCUR5 := Lib.hid hcur5
      have HST5 := Lib.hid hst5
      clear hst5 hb5 hM5 hcur5
      go_wp2_with fail
      have hC0 := af_drew w5
      refine pi_start (fun w' => ∃ x : After w5, w' = x.w) [12] (by kernel_rfl) ?_
      refine pi_t 0 rfl (by kernel_rfl) (by kernel_rfl) (fun _ _ _ _ h => h) (fun K hK => ?_)
      go_big_quiet_op
      refine hK _ ?_
      clear hK K
      refine pi_t 1 rfl (by kernel_rfl) (by kernel_rfl) (fun _ _ _ _ h => h) (fun K hK => ?_)
      go_big_quiet_op
      refine hK _ ?_
      clear hK K
      refine pi_t 2 rfl (by kernel_rfl) (by kernel_rfl) (fun _ _ _ _ h => h) (fun K hK => ?_)
      go_big_quiet_op
      refine hK _ ?_
      clear hK K
      refine pi_t 4 rfl (by kernel_rfl) (by kernel_rfl) (fun _ _ _ _ h => h) (fun K hK => ?_)
      go_big_quiet_op
      refine hK _ ?_
      clear hK K
      refine pi_t 5 rfl (by kernel_rfl) (by kernel_rfl) (fun _ _ _ _ h => h) (fun K hK => ?_)
      go_big_quiet_op
      refine hK _ ?_
      clear hK K
      refine pi_t 6 rfl (by kernel_rfl) (by kernel_rfl) (fun _ _ _ _ h => h) (fun K hK => ?_)
      go_big_quiet_op
      refine hK _ ?_
      clear hK K
      refine pi_t 10 rfl (by kernel_rfl) (by kernel_rfl) (fun _ _ _ _ h => h) (fun K hK => ?_)
      go_big_quiet_op
      refine hK _ ?_
      clear hK K
      refine pi_c 3 (by assumption) rfl (by kernel_rfl) (by kernel_rfl) (fun _ _ _ _ h => h) (fun K hK => ?_)
      go_big_quiet_op
      refine hK _ ?_
      clear hK K
      refine pi_c 7 (by assumption) rfl (by kernel_rfl) (by kernel_rfl) (fun _ _ _ _ h => h) (fun K hK => ?_)
      go_big_quiet_op
      refine hK _ ?_
      clear hK K
      refine pi_t 8 rfl (by kernel_rfl) (by kernel_rfl) (fun _ _ _ _ h => h) (fun K hK => ?_)
      go_big_quiet_op
      refine hK _ ?_
      clear hK K
      refine pi_t 9 rfl (by kernel_rfl) (by kernel_rfl) (fun _ _ _ _ h => h) (fun K hK => ?_)
      go_big_quiet_op
      refine hK _ ?_
      clear hK K
      refine pi_t 11 rfl (by kernel_rfl) (by kernel_rfl) (fun _ _ _ _ h => h) (fun K hK => ?_)
      go_big_quiet_op
      refine hK _ ?_
      clear hK K
      refine pi_l 12 rfl (by kernel_rfl) (fun K hK => ?_)
      go_wp2
      refine hK _ _ (by simp) ?_
      clear hK K
      refine pi_end (by kernel_rfl) ?_
      go_wp2
      go_ret
      have z1 := HE.out.size
      have z2 := HM2.out.size
      have z3 := HX3.out.size
      have hL2 : ∀ k, k ≤ B → w3.heap.size ≤ (L2 k).c := fun k hk => (HF4.out k hk).2.2
      have hbw : ∀ j, j < m + 1 → ∀ k, k ≤ B → ((bk j).L k).c < w2.heap.size := fun j hj k hk => ((KAt.lev (HW2.out.bks j hj)) k hk).ltc
      have hfin : ∀ k, k < w4.heap.size → k ≠ b → (w5.setCell ⟨b, m, none⟩ (.pointer (some ⟨s2, 0, none⟩))).drew.heap[k]? = w4.heap[k]? := fun k hk hkb => (setCell_other _ _ hkb).trans (HM5.out.block k hk hkb)
      have hX4' : Bk.At ⟨s2, g2, L2, fun k => zs (lvN C k)⟩ w4 C B := HK4.out
      have hcell : (w5.setCell ⟨b, m, none⟩ (.pointer (some ⟨s2, 0, none⟩))).drew.heap[b]? = some (.cells (cur5.setIfInBounds m (.pointer (some ⟨s2, 0, none⟩))) 28 (0, 0)) := setCell_same HB5.out m _
      refine ⟨by rw [hc.out]; rfl, ?_, .inl ⟨HA.out, s, g, L, s2, g2, L2, HF.out, fun k hk => ?_, ?_⟩⟩
      · exact ((((HE.out.mod _).trans (HM2.out.mono' (fun k hk => .inl hk))).trans ((HX3.out.trans' HX4.out).mod _)).trans (HM5.out.mono' (fun k hk => .inr (.inl hk)))).trans (((mod_set w5 b m _).mono' (fun k hk => .inr (.inl hk))).trans ((show Ext _ (World.drew _) from Below.drew (Ext.refl _)).mod _))
      · have := HF4.out k hk
        omega
      · refine HW4.out.shift ⟨s2, g2, L2, fun k => zs (lvN C k)⟩ hX4' (fun k hk hcl => ?_) (fun j hj k hk hcl => ?_) (fun j hj k hk hcl => ?_) (fun k hk => ?_) hfin ⟨_, hcell, fun i hi => ?_⟩
        · obtain ⟨q, hq, he⟩ := hcl
          have h1 := hL2 q hq
          have h2 := ((KAt.lev HW2.out.sum) k hk).ltc
          have he' : (L k).c = (L2 q).c := he
          have h2' : (L k).c < w2.heap.size := h2
          omega
        · obtain ⟨q, hq, he⟩ := hcl
          have h1 := hL2 q hq
          have h2 := hbw j hj k hk
          have he' : ((bk j).L k).c = (L2 q).c := he
          omega
        · obtain ⟨q, hq, he⟩ := hcl
          have h1 := hL2 k hk
          have h2 := hbw j hj q hq
          have he' : (L2 k).c = ((bk j).L q).c := he
          omega
        · have h1 := hL2 k hk
          have h2 := HW.out.loP
          show N ≤ (L2 k).c
          omega
        · by_cases hl : i = m
          · subst hl
            rw [shiftB_last rfl, Array.getElem?_setIfInBounds_self_of_lt hm5]
          · rw [shiftB_less (by omega), Array.getElem?_setIfInBounds_ne (by omega)]
            exact HCUR5.out i (by omega)
  · have hc := Lib.hid (chkE_no ha)
    have HA := Lib.hid ha
    have HWF := Lib.hid (HW.out.ext hE)
    have HMF := Lib.hid (hE.mod (WFoot p b B n bk))
    clear ha hE
    go_wp2
    go_ret
    exact ⟨by rw [hc.out]; rfl, HMF.out, .inr ⟨HA.out, HWF.out⟩⟩
end Go.Proofs.YteoblkcbemeamaaGreat

/- Package window: New, of a right config, Linear. -/
namespace Go.Proofs.YteoblkcbemeamaaGreat
set_option linter.unusedVariables false
open Go.RowKit
/-- A row of pointers, of which k are there. -/
def ptrA (f : Nat → Value) (k n : Nat) : Array Value := Array.ofFn fun i : Fin n => if i.val < k then f i.val else .pointer none
theorem ptrA_size (f : Nat → Value) (k n : Nat) : (ptrA f k n).size = n := by simp [ptrA]
theorem ptrA_at (f : Nat → Value) (k n i : Nat) (h : i < n) : (ptrA f k n)[i]? = some (if i < k then f i else .pointer none) := by simp [ptrA, h]
theorem ptrA_set (f g : Nat → Value) (k n : Nat) (hg : ∀ i, i < k → g i = f i) : (ptrA f k n).setIfInBounds k (g k) = ptrA g (k + 1) n := by
  apply Array.ext
  · simp [ptrA]
  · intro i h1 h2
    have hn : i < n := by simpa [ptrA] using h2
    by_cases he : i = k
    · subst he; simp [ptrA]
    · rw [Array.getElem_setIfInBounds_ne (by simpa [ptrA] using hn) (fun e => he e.symm)]
      by_cases hl : i < k
      · have h3 : i < k + 1 := by omega
        simp [ptrA, hl, h3, hg i hl]
      · have h3 : ¬ i < k + 1 := by omega
        simp [ptrA, hl, h3]
theorem run_make_ptrs {P : Program} (t e : TypeId) (i : TypeInfo) (ht : P.underlying t = some (.slice e)) (hi : P.info? e = some i) (hz : i.zero = some (.pointer none)) (hs : i.size = 1) (hb : i.bytes = 8)
    (n : Nat) (hn : n ≤ 1000000) (f : Nat → Value) (w : World) :
    (Instr.makeSlice t (.int .i64 (n : Int)) (.int .i64 (n : Int))).run P w = .ok (.slice (some ⟨w.heap.size, 0, none⟩) n n) (w.alloc (.cells (ptrA f 0 n) e)) := by
  have h := run_make w t e i (.pointer none) ht hi hz .i64 .i64 n n (by omega) (by omega) (by rw [hb]; omega) (by omega)
  simp only [Int.toNat_natCast] at h
  rw [h, hs]
  congr 3
  apply Array.ext
  · rw [size_madeCells, ptrA_size]; omega
  · intro j h1 h2
    rw [ptrA_size] at h2
    simp [madeCells, ptrA, Value.cells, Nat.mod_one]
theorem info_ptr : ∃ i, Tryz.prog.info? 28 = some i ∧ i.zero = some (.pointer none) ∧ i.size = 1 ∧ i.bytes = 8 := by
  have h : (Tryz.prog.info? 28).map (fun i => (i.zero, i.size, i.bytes)) = some (some (.pointer none), 1, 8) := by kernel_rfl
  match hi : Tryz.prog.info? 28, h with
  | some i, h =>
    simp only [Option.map_some, Option.some.injEq, Prod.mk.injEq] at h
    exact ⟨i, rfl, h.1, h.2.1, h.2.2⟩
def zB (C : Cfg) (k : Bk) : Prop := k.ls = fun (n : Nat) => zs (lvN C n)
def WNewPost (w : World) (C : Cfg) (B n : Nat) (e : Ending) (w' : World) : Prop :=
  ∃ p b sm bk, e = .returned (.tuple #[.pointer (some ⟨p, 0, none⟩), .int .i64 0]) ∧ WAt w' w.heap.size p b C B n sm bk ∧ zB C sm ∧ (∀ i, i < n → zB C (bk i)) ∧ Ext w w'
set_option maxRecDepth 20000 in
set_option maxHeartbeats 8000000 in
theorem WNew_c (C : Cfg) (hok : C.Ok) (hm : C.mode = 1) (B : Nat) (hB : C.bits = B) (n : Nat) (h1 : 1 ≤ n) (h2 : n ≤ 16) (w : World) :
    Calls Tryz.prog 59 #[.agg #[.int .i64 C.bits, .int .i64 C.rows, .int .i64 C.width, .int .i64 C.mode, .int .u64 C.seed], .int .i64 n] w (WNewPost w C B n) := by
  obtain ⟨ii, hi, hz0, hz1, hz2⟩ := info_ptr
  have hmk := fun (x : World) => run_make_ptrs 197 28 ii Tryz.underlying197 hi hz0 hz1 hz2 n (by omega) (fun _ => .pointer none) x
  have HOK := Lib.hid hok
  have HBT := Lib.hid (show C.bits.toNat = B by omega)
  have HMD := Lib.hid hm
  have hn1 : ((n : Int) < 1) = False := by simp; omega
  have hn16 : ((16 : Int) < (n : Int)) = False := by simp; omega
  have hmne : (C.mode != 1) = false := by simp [hm]
  have hmne2 : (C.mode == 1) = true := by simp [hm]
  clear hB hi hz0 hz1 hz2 hm
  go_enter Tryz.func59, Tryz.ntmps59
  go_wp2_with fail
  refine Calls.mono (Right_c C HOK.out _) ?_
  rintro e w1 ⟨rfl, hb1⟩
  have hE1 : Ext w w1 := by (repeat' (first | exact Ext.refl _ | assumption | apply Ext.allocR | apply Ext.drewR | apply Ext.drewNR | (refine Ext.trans' ?_ (by assumption))))
  have hQ := hb1.keep (heap_at w (.cells #[.int .i64 C.bits, .int .i64 C.rows, .int .i64 C.width, .int .i64 C.mode, .int .u64 C.seed] 24) rfl)
  have p0 := (cell_of hQ 0).trans rfl
  have p1 := (cell_of hQ 1).trans rfl
  have p2 := (cell_of hQ 2).trans rfl
  have p3 := (cell_of hQ 3).trans rfl
  have p4 := (cell_of hQ 4).trans rfl
  have pl := lt_of hQ
  clear hb1
  go_upto_region 5 with (fail)
  clear hmne hmne2
  go_wp2_with fail
  refine Calls.mono (KNew_c C HOK.out _) ?_
  rintro e w2 ⟨s, g, L, rfl, hK, _, _, hF, hx2⟩
  rw [HBT.out] at hK hF
  have hQ2 := hx2.keep hQ
  have hE2 := hE1.trans' hx2
  have hF' : KFresh w1.heap.size B L := hF
  have HF := Lib.hid hF'
  have HK := Lib.hid hK
  have hz12 := hx2.size
  clear p0 p1 p2 p3 p4 pl hQ hx2 hK hF hF'
  go_upto_region 7 with (fail)
  have hw3 : Ext w2 ((w2.alloc (.cells (ptrA (fun x => Value.pointer none) 0 n) 28)).alloc (.cells #[.pointer (some ⟨s, 0, none⟩), .slice (some ⟨w2.heap.size, 0, none⟩) n n] 199)) := (Ext.alloc' _ _).trans' (Ext.alloc' _ _)
  have HQ2 := Lib.hid hQ2
  have HE2 := Lib.hid hE2
  clear hmk hn1 hn16 hQ2 hE2
  go_wp2_with fail
  go_loopw [37] (fun u37 wr => ∃ (k : Nat) (bk : Nat → Bk), k ≤ n ∧ u37 = .int .i64 k ∧ Ext w2 wr ∧ wr.heap[w2.heap.size + 1]? = some (.cells #[.pointer (some ⟨s, 0, none⟩), .slice (some ⟨w2.heap.size, 0, none⟩) n n] 199 (0, 0)) ∧ wr.heap[w2.heap.size]? = some (.cells (ptrA (fun i => .pointer (some ⟨(bk i).s, 0, none⟩)) k n) 28 (0, 0)) ∧ (∀ i, i < k → (bk i).At wr C B ∧ zB C (bk i) ∧ KFresh w2.heap.size B (bk i).L) ∧ (∀ i j, i < k → j < k → i ≠ j → ∀ m, m ≤ B → ¬ cellsOf B (bk i).L ((bk j).L m).c)) (fun u37 _ => n - (intOf u37).toNat)
  case atStart =>
    refine ⟨0, fun _ => ⟨0, 0, L, fun _ => []⟩, Nat.zero_le _, rfl, hw3, heap_at _ _ (by rw [size_alloc]), ?_, fun i hi => absurd hi (Nat.not_lt_zero i), fun i j hi => absurd hi (Nat.not_lt_zero i)⟩
    rw [heap_old _ _ (by rw [size_alloc]; omega)]
    have := heap_at w2 (.cells (ptrA (fun x => Value.pointer none) 0 n) 28) rfl
    rw [this]
    congr 2
  case round =>
    obtain ⟨k, bk, hkn, rfl, hE, hst, hrow, hbk, hsep⟩ := hrel
    by_cases hlt : k < n
    · have hQr := (HE2.out.trans' hE) |> fun _ => hE.keep HQ2.out
      have p0 := (cell_of hQr 0).trans rfl
      have p1 := (cell_of hQr 1).trans rfl
      have p2 := (cell_of hQr 2).trans rfl
      have p3 := (cell_of hQr 3).trans rfl
      have p4 := (cell_of hQr 4).trans rfl
      have pl := lt_of hQr
      have q1 := (cell_of hst 1).trans rfl
      have ql := lt_of hst
      have hb := lt_of hrow
      have hkz : (k : Int) < (n : Int) := by omega
      have HST := Lib.hid hst
      have HROW := Lib.hid hrow
      have HBK := Lib.hid hbk
      have HSEP := Lib.hid hsep
      clear hQr hst hrow hbk hsep
      go_wp2_with fail
      have hC0 := af_drew wr
      refine pi_start (fun w' => ∃ x : After wr, w' = x.w) [11] (by kernel_rfl) ?_
      refine pi_t 0 rfl (by kernel_rfl) (by kernel_rfl) (fun _ _ _ _ h => h) (fun K hK => ?_)
      go_big_quiet_op
      refine hK _ ?_
      clear hK K
      refine pi_t 1 rfl (by kernel_rfl) (by kernel_rfl) (fun _ _ _ _ h => h) (fun K hK => ?_)
      go_big_quiet_op
      refine hK _ ?_
      clear hK K
      refine pi_t 2 rfl (by kernel_rfl) (by kernel_rfl) (fun _ _ _ _ h => h) (fun K hK => ?_)
      go_big_quiet_op
      refine hK _ ?_
      clear hK K
      refine pi_t 4 rfl (by kernel_rfl) (by kernel_rfl) (fun _ _ _ _ h => h) (fun K hK => ?_)
      go_big_quiet_op
      refine hK _ ?_
      clear hK K
      refine pi_c 3 (by assumption) rfl (by kernel_rfl) (by kernel_rfl) (fun _ _ _ _ h => h) (fun K hK => ?_)
      go_big_quiet_op
      refine hK _ ?_
      clear hK K
      refine pi_c 5 (by assumption) rfl (by kernel_rfl) (by kernel_rfl) (fun _ _ _ _ h => h) (fun K hK => ?_)
      go_big_quiet_op
      refine hK _ ?_
      clear hK K
      refine pi_l 6 rfl (by kernel_rfl) (fun K hK => ?_)
      go_wp2_with (go_at_call 16; refine Calls.mono (KNew_c C HOK.out _) ?_; rintro e wt ⟨s2, g2, L2, rfl, hK2, _, _, hF2, hxt⟩)
      have hEt : Ext wr wt := Ext.trans' (Below.drew (Ext.refl wr)) hxt
      refine hK _ _ (fun _ h => ⟨⟨wt, hEt⟩, rfl⟩) ?_
      clear hK K
      rw [HBT.out] at hK2 hF2
      have HK2 := Lib.hid hK2
      have hF2' : KFresh wr.heap.size B L2 := hF2
      have HF2 := Lib.hid hF2'
      have hrt := hEt.keep HROW.out
      have f1 := frozen_of hrt k
      have c1 := (cell_of hrt k).trans (ptrA_at _ k n k hlt)
      have lt1 := lt_of hrt
      have HRT := Lib.hid hrt
      clear hK2 hF2 hF2' hrt
      refine pi_t 7 rfl (by kernel_rfl) (by kernel_rfl) (fun _ _ _ _ h => h) (fun K hK => ?_)
      go_big_quiet_op
      refine hK _ ?_
      clear hK K
      refine pi_t 8 rfl (by kernel_rfl) (by kernel_rfl) (fun _ _ _ _ h => h) (fun K hK => ?_)
      go_big_quiet_op
      refine hK _ ?_
      clear hK K
      refine pi_t 9 rfl (by kernel_rfl) (by kernel_rfl) (fun _ _ _ _ h => h) (fun K hK => ?_)
      go_big_quiet_op
      refine hK _ ?_
      clear hK K
      refine pi_t 10 rfl (by kernel_rfl) (by kernel_rfl) (fun _ _ _ _ h => h) (fun K hK => ?_)
      go_big_quiet_op
      refine hK _ ?_
      clear hK K
      refine pi_l 11 rfl (by kernel_rfl) (fun K hK => ?_)
      go_wp2
      refine hK _ _ (by simp) ?_
      clear hK K
      refine pi_end (by kernel_rfl) ?_
      go_wp2_with fail
      have hsz := hE.size
      have hszt := hEt.size
      have ho : ∀ q, q < wt.heap.size → q ≠ w2.heap.size → (wt.setCell ⟨w2.heap.size, k, none⟩ (.pointer (some ⟨s2, 0, none⟩))).heap[q]? = wt.heap[q]? := fun q _ hq => setCell_other _ _ hq
      have hfin : Ext w2 (wt.setCell ⟨w2.heap.size, k, none⟩ (.pointer (some ⟨s2, 0, none⟩))) := ((hE.trans' hEt).setR (p := ⟨w2.heap.size, k, none⟩) (Nat.le_refl _) _)
      have hK2' : Bk.At ⟨s2, g2, L2, fun n => zs (lvN C n)⟩ (wt.setCell ⟨w2.heap.size, k, none⟩ (.pointer (some ⟨s2, 0, none⟩))) C B := KAt.setW HK2.out HRT.out (.inr rfl) ho
      have hrowf : (wt.setCell ⟨w2.heap.size, k, none⟩ (.pointer (some ⟨s2, 0, none⟩))).heap[w2.heap.size]? = some (.cells ((ptrA (fun i => .pointer (some ⟨(bk i).s, 0, none⟩)) k n).setIfInBounds k (.pointer (some ⟨s2, 0, none⟩))) 28 (0, 0)) := setCell_same HRT.out k _
      have hstf : (wt.setCell ⟨w2.heap.size, k, none⟩ (.pointer (some ⟨s2, 0, none⟩))).heap[w2.heap.size + 1]? = some (.cells #[.pointer (some ⟨s, 0, none⟩), .slice (some ⟨w2.heap.size, 0, none⟩) n n] 199 (0, 0)) := (setCell_other _ _ (by omega)).trans (hEt.keep HST.out)
      go_roundw
      case rel =>
        refine ⟨k + 1, setB bk k ⟨s2, g2, L2, fun n => zs (lvN C n)⟩, by omega, by go_num, hfin, hstf, ?_, fun i hi => ?_, fun i j hi hj hij m hm => ?_⟩
        · rw [hrowf]
          have := ptrA_set (fun i => .pointer (some ⟨(bk i).s, 0, none⟩)) (fun i => .pointer (some ⟨(setB bk k ⟨s2, g2, L2, fun n => zs (lvN C n)⟩ i).s, 0, none⟩)) k n (fun i hi => by show Value.pointer _ = _; rw [setB_ne _ _ (by omega)])
          rw [← this]
          rw [setB_same]
        · by_cases he : i = k
          · subst he
            rw [setB_same]
            exact ⟨hK2', rfl, fun m hm => ⟨Nat.le_trans hsz (HF2.out m hm).1, Nat.le_trans hsz (HF2.out m hm).2.1, Nat.le_trans hsz (HF2.out m hm).2.2⟩⟩
          · rw [setB_ne _ _ he]
            obtain ⟨a1, a2, a3⟩ := HBK.out i (by omega)
            exact ⟨KAt.setW (KAt.ext a1 hEt) HRT.out (.inr rfl) ho, a2, a3⟩
        · by_cases he : i = k
          · by_cases he2 : j = k
            · omega
            · rw [he, setB_same, setB_ne _ _ he2]
              rintro ⟨q, hq, e⟩
              have a1 := ((KAt.lev (HBK.out j (by omega)).1) m hm).ltc
              have a2 := (HF2.out q hq).2.2
              have e' : ((bk j).L m).c = (L2 q).c := e
              omega
          · rw [setB_ne _ _ he]
            by_cases he2 : j = k
            · rw [he2, setB_same]
              rintro ⟨q, hq, e⟩
              have a1 := ((KAt.lev (HBK.out i (by omega)).1) q hq).ltc
              have a2 := (HF2.out m hm).2.2
              have e' : (L2 m).c = ((bk i).L q).c := e
              omega
            · rw [setB_ne _ _ he2]
              exact HSEP.out i j (by omega) (by omega) hij m hm
      case measure => simp [intOf]; omega
    · have hke : k = n := by omega
      subst hke
      have hz2 := HE2.out.size
      have hsum : Bk.At ⟨s, g, L, fun n => zs (lvN C n)⟩ wr C B := KAt.ext HK.out hE
      have hWin : WAt wr w.heap.size (w2.heap.size + 1) w2.heap.size C B k ⟨s, g, L, fun n => zs (lvN C n)⟩ bk := by
        refine ⟨⟨k, hst, rfl⟩, ⟨_, hrow, fun i hi => by rw [ptrA_at _ _ _ _ hi, if_pos hi]⟩, hsum, fun i hi => (hbk i hi).1, fun i hi m hm => ?_, hsep, h1, h2, HMD.out, by omega, hz2, fun i hi m hm => ?_⟩
        · rintro ⟨q, hq, e⟩
          have a1 := ((hbk i hi).2.2 q hq).2.2
          have a2 := ((KAt.lev HK.out) m hm).ltc
          have e' : (L m).c = ((bk i).L q).c := e
          omega
        · have a1 := ((hbk i hi).2.2 m hm).2.2
          omega
      have HWN := Lib.hid hWin
      have HZ := Lib.hid (fun i (hi : i < k) => (hbk i hi).2.1)
      have hfin := HE2.out.trans' hE
      clear hst hrow hbk hsep hsum hWin
      go_wp2_with fail
      go_ret2
      exact ⟨_, _, _, bk, rfl, HWN.out, rfl, HZ.out, hfin⟩
end Go.Proofs.YteoblkcbemeamaaGreat

/- Package window: New, refused. -/
namespace Go.Proofs.YteoblkcbemeamaaGreat
set_option linter.unusedVariables false
open Go.RowKit
set_option maxRecDepth 20000 in
theorem WNew_arg (C : Cfg) (hok : C.Ok) (n : Int) (hn : n < 1 ∨ 16 < n) (w : World) :
    Calls Tryz.prog 59 #[.agg #[.int .i64 C.bits, .int .i64 C.rows, .int .i64 C.width, .int .i64 C.mode, .int .u64 C.seed], .int .i64 n] w fun e w' => e = .returned (.tuple #[.pointer none, .int .i64 1]) ∧ Ext w w' := by
  have HOK := Lib.hid hok
  rcases hn with hn | hn
  · have hn1 : decide (n < 1) = true := decide_eq_true hn
    go_enter Tryz.func59, Tryz.ntmps59
    go_wp2_with fail
    refine Calls.mono (Right_c C HOK.out _) ?_
    rintro e w1 ⟨rfl, hb1⟩
    have hE1 : Ext w w1 := by (repeat' (first | exact Ext.refl _ | assumption | apply Ext.allocR | apply Ext.drewR | apply Ext.drewNR | (refine Ext.trans' ?_ (by assumption))))
    clear hb1
    go_wp2
    go_ret2
    exact ⟨rfl, hE1⟩
  · have hn1 : decide (n < 1) = false := decide_eq_false (by omega)
    have hn0 : ¬ n < 1 := by omega
    have hn2 : decide (16 < n) = true := decide_eq_true hn
    go_enter Tryz.func59, Tryz.ntmps59
    go_wp2_with fail
    refine Calls.mono (Right_c C HOK.out _) ?_
    rintro e w1 ⟨rfl, hb1⟩
    have hE1 : Ext w w1 := by (repeat' (first | exact Ext.refl _ | assumption | apply Ext.allocR | apply Ext.drewR | apply Ext.drewNR | (refine Ext.trans' ?_ (by assumption))))
    clear hb1
    go_wp2
    go_ret2
    exact ⟨rfl, hE1⟩
set_option maxRecDepth 20000 in
theorem WNew_mode (C : Cfg) (hok : C.Ok) (hm : C.mode ≠ 1) (n : Int) (h1 : 1 ≤ n) (h2 : n ≤ 16) (w : World) :
    Calls Tryz.prog 59 #[.agg #[.int .i64 C.bits, .int .i64 C.rows, .int .i64 C.width, .int .i64 C.mode, .int .u64 C.seed], .int .i64 n] w fun e w' => e = .returned (.tuple #[.pointer none, .int .i64 3]) ∧ Ext w w' := by
  have HOK := Lib.hid hok
  have hn1 : (n < 1) = False := by simp; omega
  have hn16 : (16 < n) = False := by simp; omega
  have hmne : (C.mode != 1) = true := by simp [hm]
  have hmeq : (C.mode == 1) = false := by simp [hm]
  clear hm
  go_enter Tryz.func59, Tryz.ntmps59
  go_wp2_with fail
  refine Calls.mono (Right_c C HOK.out _) ?_
  rintro e w1 ⟨rfl, hb1⟩
  have hE1 : Ext w w1 := by (repeat' (first | exact Ext.refl _ | assumption | apply Ext.allocR | apply Ext.drewR | apply Ext.drewNR | (refine Ext.trans' ?_ (by assumption))))
  have hQ := hb1.keep (heap_at w (.cells #[.int .i64 C.bits, .int .i64 C.rows, .int .i64 C.width, .int .i64 C.mode, .int .u64 C.seed] 24) rfl)
  have p3 := (cell_of hQ 3).trans rfl
  have pl := lt_of hQ
  clear hb1 hQ
  go_wp2
  go_ret2
  exact ⟨rfl, hE1⟩
end Go.Proofs.YteoblkcbemeamaaGreat

/- Plain laws of a window: its sum was fed what its buckets were fed, one behind the other. -/
namespace Go.Proofs.YteoblkcbemeamaaGreat
set_option linter.unusedVariables false
open Go.RowKit
/-- Without the oldest bucket. -/
theorem win_tick {C : Cfg} (hok : C.Ok) (hm : C.mode ≠ 2) {n : Nat} (hn : (n : Int) ≤ C.bits) (a : List (Int × Int)) (us : List (List (Int × Int))) (ha : UpsOk a) (hu : UpsOk us.flatten) :
    minusL (feedK C (a :: us).flatten n) (feedK C a n) = feedK C us.flatten n := by
  rw [List.flatten_cons, ← feedK_plus hok hn (.inr hm) ha hu, plusL_comm (by rw [feedK_len, feedK_len])]
  exact minus_plus (by rw [feedK_len, feedK_len])
theorem win_upd (C : Cfg) (us : List (List (Int × Int))) (a : List (Int × Int)) (u : Int × Int) : updK C (feedK C (us ++ [a]).flatten) (cutK C 0 u.1) (cutD C.mode u.2) = feedK C (us ++ [a ++ [u]]).flatten := by
  have e : (us ++ [a ++ [u]]).flatten = (us ++ [a]).flatten ++ [u] := by simp
  rw [e, feedK_snoc]
theorem win_new (C : Cfg) (us : List (List (Int × Int))) : (us ++ [[]]).flatten = us.flatten := by simp
end Go.Proofs.YteoblkcbemeamaaGreat

/- A window by what its buckets were fed. -/
namespace Go.Proofs.YteoblkcbemeamaaGreat
set_option linter.unusedVariables false
open Go.RowKit
/-- A window at p, whose buckets were fed US (the oldest first). -/
def WS (w : World) (N p : Nat) (C : Cfg) (B n : Nat) (US : List (List (Int × Int))) : Prop :=
  ∃ b sm bk, WAt w N p b C B n sm bk ∧ US.length = n ∧ (∀ k, k ≤ B → sm.ls k = feedK C US.flatten k) ∧ ∀ i, i < n → ∀ k, k ≤ B → (bk i).ls k = feedK C (US.getD i []) k
theorem WS.ext {w w' : World} {N p : Nat} {C : Cfg} {B n : Nat} {US : List (List (Int × Int))} (h : WS w N p C B n US) (he : Ext w w') : WS w' N p C B n US := by
  obtain ⟨b, sm, bk, h1, h2, h3, h4⟩ := h
  exact ⟨b, sm, bk, h1.ext he, h2, h3, h4⟩
theorem WAt.foot {w : World} {N p b : Nat} {C : Cfg} {B n : Nat} {sm : Bk} {bk : Nat → Bk} (h : WAt w N p b C B n sm bk) {k : Nat} (hk : WFoot p b B n bk k) : N ≤ k := by
  rcases hk with rfl | rfl | ⟨i, hi, m, hm, rfl⟩
  · exact h.loP
  · exact h.loB
  · exact h.loC i hi m hm
theorem WAt.bnd {w w' : World} {N p b : Nat} {C : Cfg} {B n : Nat} {sm : Bk} {bk : Nat → Bk} (h : WAt w N p b C B n sm bk) (hN : N ≤ w.heap.size) (hm : Mod (WFoot p b B n bk) w w') : Below N w w' := hm.below (B := N) hN (fun k hk => h.foot hk)
theorem WS_new (C : Cfg) (hok : C.Ok) (hm : C.mode = 1) (B : Nat) (hB : C.bits = B) (n : Nat) (h1 : 1 ≤ n) (h2 : n ≤ 16) (w : World) :
    Calls Tryz.prog 59 #[.agg #[.int .i64 C.bits, .int .i64 C.rows, .int .i64 C.width, .int .i64 C.mode, .int .u64 C.seed], .int .i64 n] w fun e w' =>
      ∃ p, e = .returned (.tuple #[.pointer (some ⟨p, 0, none⟩), .int .i64 0]) ∧ WS w' w.heap.size p C B n (List.replicate n []) ∧ Ext w w' := by
  refine (WNew_c C hok hm B hB n h1 h2 w).mono ?_
  rintro e w' ⟨p, b, sm, bk, rfl, hW, hs, hb, hE⟩
  refine ⟨p, rfl, ⟨b, sm, bk, hW, by simp, fun k _ => ?_, fun i hi k _ => ?_⟩, hE⟩
  · rw [hs]; simp [feedK_nil]
  · rw [hb i hi]
    have : (List.replicate n ([] : List (Int × Int))).getD i [] = [] := by simp [hi]
    rw [this]; exact (feedK_nil C k).symm
theorem WS_sum {w : World} {N p : Nat} {C : Cfg} {B n : Nat} {US : List (List (Int × Int))} (h : WS w N p C B n US) :
    Calls Tryz.prog 60 #[.pointer (some ⟨p, 0, none⟩)] w (KCopyPost w C B (feedK C US.flatten)) := by
  obtain ⟨b, sm, bk, h1, h2, h3, h4⟩ := h
  refine (WSum_c h1).mono ?_
  rintro e w' ⟨s, g, L, rfl, hK, h5⟩
  exact ⟨s, g, L, rfl, hK.cong h3, h5⟩
theorem updK_cong {C : Cfg} {ls ls' : Nat → List Int} {key d : Int} {k : Nat} (h : ls k = ls' k) : updK C ls key d k = updK C ls' key d k := by unfold updK; rw [h]
theorem WS_upd {w : World} {N p : Nat} {C : Cfg} {B n : Nat} {vs : List (List (Int × Int))} {a : List (Int × Int)} (h : WS w N p C B n (vs ++ [a])) (hok : C.Ok) (hB : C.bits = B) (ht : (vs ++ [a]).flatten.length ≤ 1000) (u : Int × Int) (hk : U64 (cutK C 0 u.1)) (hd : I64 (cutD C.mode u.2)) :
    Calls Tryz.prog 65 #[.pointer (some ⟨p, 0, none⟩), .int .u64 (cutK C 0 u.1), .int .i64 (cutD C.mode u.2)] w fun e w' => e = .returned (.int .i64 0) ∧ Below N w w' ∧ WS w' N p C B n (vs ++ [a ++ [u]]) := by
  obtain ⟨b, sm, bk, h1, h2, h3, h4⟩ := h
  have hn : n = vs.length + 1 := by rw [← h2]; simp
  have hal : a.length ≤ 1000 := by have : (vs ++ [a]).flatten.length = vs.flatten.length + a.length := by simp
                                   omega
  have hkk := cutK_bd C hok 0 u.1 (Int.le_refl 0)
  have hdd := cutD_bd C.mode u.2
  have hla : ∀ k, k ≤ B → (bk (n - 1)).ls k = feedK C a k := fun k hk => by
    rw [h4 (n - 1) (by omega) k hk]
    have : (vs ++ [a]).getD (n - 1) [] = a := by rw [hn]; simp
    rw [this]
  have e1 : errK C B sm.ls (cutK C 0 u.1) (cutD C.mode u.2) = 0 := errK_ok hok hB (B' := (vs ++ [a]).flatten.length * 1099511627776) (T := 1099511627776) (fun k hk => by rw [h3 k hk]; exact feedK_bnd C _ k) (by omega) (by decide) (by omega) (by omega) hkk.1 hkk.2 (fun h => cutD_nn h)
  have e2 : errK C B (bk (n - 1)).ls (cutK C 0 u.1) (cutD C.mode u.2) = 0 := errK_ok hok hB (B' := a.length * 1099511627776) (T := 1099511627776) (fun k hk => by rw [hla k hk]; exact feedK_bnd C _ k) (by omega) (by decide) (by omega) (by omega) hkk.1 hkk.2 (fun h => cutD_nn h)
  have hw : wErr C B n sm bk (cutK C 0 u.1) (cutD C.mode u.2) = 0 := by unfold wErr; rw [if_pos e1]; exact e2
  refine (WUpdate_c h1 _ _ hk hd).mono ?_
  rintro e w' ⟨rfl, hM, (⟨_, s, g, L, _, hW⟩ | ⟨hne, _⟩)⟩
  · rw [hw]
    refine ⟨rfl, h1.bnd (Nat.le_trans h1.loP (Nat.le_of_lt h1.ltp)) hM, ⟨b, _, _, hW, by rw [← h2]; simp, fun k hk => ?_, fun i hi k hk => ?_⟩⟩
    · rw [← win_upd]
      exact updK_cong (h3 k hk)
    · by_cases hl : i = n - 1
      · rw [hl, setB_same]
        have : (vs ++ [a ++ [u]]).getD (n - 1) [] = a ++ [u] := by rw [hn]; simp
        rw [this, feedK_snoc]
        exact updK_cong (hla k hk)
      · rw [setB_ne _ _ hl, h4 i hi k hk]
        have h5 : i < vs.length := by omega
        have e3 : (vs ++ [a ++ [u]]).getD i [] = (vs ++ [a]).getD i [] := by
          simp [List.getD_eq_getElem?_getD, List.getElem?_append_left h5]
        rw [e3]
  · exact absurd hw hne
theorem WS_less {w : World} {N p b : Nat} {C : Cfg} {B n : Nat} {a : List (Int × Int)} {vs : List (List (Int × Int))} {sm : Bk} {bk : Nat → Bk} (hok : C.Ok) (hm : C.mode = 1) (hB : C.bits = B) (ha : UpsOk a) (hv : UpsOk vs.flatten) (h3 : ∀ k, k ≤ B → sm.ls k = feedK C (a :: vs).flatten k) (h0 : ∀ k, k ≤ B → (bk 0).ls k = feedK C a k) :
    ∀ k, k ≤ B → minusL (sm.ls k) ((bk 0).ls k) = feedK C vs.flatten k := fun k hk => by
  rw [h3 k hk, h0 k hk]
  exact win_tick hok (by rw [hm]; decide) (by omega) a vs ha hv
theorem WS_tick {w : World} {N p : Nat} {C : Cfg} {B n : Nat} {a : List (Int × Int)} {vs : List (List (Int × Int))} (h : WS w N p C B n (a :: vs)) (hok : C.Ok) (hB : C.bits = B) (ha : UpsOk a) (hv : UpsOk vs.flatten) (ht : vs.flatten.length ≤ 1000) :
    Calls Tryz.prog 64 #[.pointer (some ⟨p, 0, none⟩)] w fun e w' => e = .returned (.int .i64 0) ∧ Below N w w' ∧ WS w' N p C B n (vs ++ [[]]) := by
  obtain ⟨b, sm, bk, h1, h2, h3, h4⟩ := h
  have hn : n = vs.length + 1 := by rw [← h2]; simp
  have hmi := WS_less (w := w) (N := N) (p := p) (b := b) (n := n) hok h1.md hB ha hv h3 (fun k hk => h4 0 (by omega) k hk)
  have hall : ∀ k, k ≤ B → allI (minusL (sm.ls k) ((bk 0).ls k)) := fun k hk => by rw [hmi k hk]; exact (feedK_bnd C _ k).allI (by omega)
  refine (WTick_c h1 hok).mono ?_
  rintro e w' ⟨rfl, hM, (⟨_, s, g, L, s2, g2, L2, _, _, hW⟩ | ⟨hne, _⟩)⟩
  · rw [chkE_yes hall]
    refine ⟨rfl, h1.bnd (Nat.le_trans h1.loP (Nat.le_of_lt h1.ltp)) hM, ⟨b, _, _, hW, by rw [hn]; simp, fun k hk => ?_, fun i hi k hk => ?_⟩⟩
    · rw [win_new C vs]; exact hmi k hk
    · by_cases hl : i + 1 = n
      · rw [shiftB_last hl]
        have : (vs ++ [[]]).getD i [] = [] := by
          have : i = vs.length := by omega
          rw [this]; simp
        rw [this]; exact (feedK_nil C k).symm
      · rw [shiftB_less hl, h4 (i + 1) (by omega) k hk]
        have h5 : i < vs.length := by omega
        have e3 : (vs ++ [[]]).getD i [] = (a :: vs).getD (i + 1) [] := by
          simp [List.getD_eq_getElem?_getD, List.getElem?_append_left h5]
        rw [e3]
  · exact absurd hall hne
theorem WS_check {w : World} {N p : Nat} {C : Cfg} {B n : Nat} {a : List (Int × Int)} {vs : List (List (Int × Int))} (h : WS w N p C B n (a :: vs)) (hok : C.Ok) (hB : C.bits = B) (ha : UpsOk a) (hv : UpsOk vs.flatten) (ht : vs.flatten.length ≤ 1000) :
    Calls Tryz.prog 67 #[.pointer (some ⟨p, 0, none⟩)] w fun e w' => e = .returned (.int .i64 0) ∧ Ext w w' := by
  obtain ⟨b, sm, bk, h1, h2, h3, h4⟩ := h
  have hn : n = vs.length + 1 := by rw [← h2]; simp
  have hmi := WS_less (w := w) (N := N) (p := p) (b := b) (n := n) hok h1.md hB ha hv h3 (fun k hk => h4 0 (by omega) k hk)
  have hall : ∀ k, k ≤ B → allI (minusL (sm.ls k) ((bk 0).ls k)) := fun k hk => by rw [hmi k hk]; exact (feedK_bnd C _ k).allI (by omega)
  refine (WCheck_c h1).mono ?_
  rintro e w' ⟨rfl, hE⟩
  rw [chkE_yes hall]
  exact ⟨rfl, hE⟩
/-- The same, with a bound above all that a change may touch. -/
def WSM (w : World) (N M p : Nat) (C : Cfg) (B n : Nat) (US : List (List (Int × Int))) : Prop :=
  ∃ b sm bk, WAt w N p b C B n sm bk ∧ US.length = n ∧ (∀ k, k ≤ B → sm.ls k = feedK C US.flatten k) ∧ (∀ i, i < n → ∀ k, k ≤ B → (bk i).ls k = feedK C (US.getD i []) k) ∧ ∀ k, WFoot p b B n bk k → k < M
theorem WSM.ws {w : World} {N M p : Nat} {C : Cfg} {B n : Nat} {US : List (List (Int × Int))} (h : WSM w N M p C B n US) : WS w N p C B n US := by
  obtain ⟨b, sm, bk, h1, h2, h3, h4, _⟩ := h
  exact ⟨b, sm, bk, h1, h2, h3, h4⟩
theorem WS.wsm {w : World} {N p : Nat} {C : Cfg} {B n : Nat} {US : List (List (Int × Int))} (h : WS w N p C B n US) : WSM w N w.heap.size p C B n US := by
  obtain ⟨b, sm, bk, h1, h2, h3, h4⟩ := h
  refine ⟨b, sm, bk, h1, h2, h3, h4, fun k hk => ?_⟩
  rcases hk with rfl | rfl | ⟨i, hi, m, hm, rfl⟩
  · exact h1.ltp
  · exact h1.ltb
  · exact ((KAt.lev (h1.bks i hi)) m hm).ltc
theorem WSM.ext {w w' : World} {N M p : Nat} {C : Cfg} {B n : Nat} {US : List (List (Int × Int))} (h : WSM w N M p C B n US) (he : Ext w w') : WSM w' N M p C B n US := by
  obtain ⟨b, sm, bk, h1, h2, h3, h4, h5⟩ := h
  exact ⟨b, sm, bk, h1.ext he, h2, h3, h4, h5⟩
theorem WSM_tick {w : World} {N M p : Nat} {C : Cfg} {B n : Nat} {a : List (Int × Int)} {vs : List (List (Int × Int))} (h : WSM w N M p C B n (a :: vs)) (hok : C.Ok) (hB : C.bits = B) (ha : UpsOk a) (hv : UpsOk vs.flatten) (ht : vs.flatten.length ≤ 1000) :
    Calls Tryz.prog 64 #[.pointer (some ⟨p, 0, none⟩)] w fun e w' => e = .returned (.int .i64 0) ∧ (∃ S, Mod S w w' ∧ ∀ k, S k → N ≤ k ∧ k < M) ∧ WS w' N p C B n (vs ++ [[]]) := by
  obtain ⟨b, sm, bk, h1, h2, h3, h4, h5⟩ := h
  have hn : n = vs.length + 1 := by rw [← h2]; simp
  have hmi := WS_less (w := w) (N := N) (p := p) (b := b) (n := n) hok h1.md hB ha hv h3 (fun k hk => h4 0 (by omega) k hk)
  have hall : ∀ k, k ≤ B → allI (minusL (sm.ls k) ((bk 0).ls k)) := fun k hk => by rw [hmi k hk]; exact (feedK_bnd C _ k).allI (by omega)
  refine (WTick_c h1 hok).mono ?_
  rintro e w' ⟨rfl, hM, (⟨_, s, g, L, s2, g2, L2, _, _, hW⟩ | ⟨hne, _⟩)⟩
  · rw [chkE_yes hall]
    refine ⟨rfl, ⟨_, hM, fun k hk => ⟨h1.foot hk, h5 k hk⟩⟩, ⟨b, _, _, hW, by rw [hn]; simp, fun k hk => ?_, fun i hi k hk => ?_⟩⟩
    · rw [win_new C vs]; exact hmi k hk
    · by_cases hl : i + 1 = n
      · rw [shiftB_last hl]
        have : (vs ++ [[]]).getD i [] = [] := by
          have : i = vs.length := by omega
          rw [this]; simp
        rw [this]; exact (feedK_nil C k).symm
      · rw [shiftB_less hl, h4 (i + 1) (by omega) k hk]
        have h6 : i < vs.length := by omega
        have e3 : (vs ++ [[]]).getD i [] = (a :: vs).getD (i + 1) [] := by
          simp [List.getD_eq_getElem?_getD, List.getElem?_append_left h6]
        rw [e3]
  · exact absurd hall hne
/-- A stack that lies above M is kept. -/
theorem KAt.above {S : Nat → Prop} {w w' : World} {M s g : Nat} {C : Cfg} {B : Nat} {L : Nat → Lev} {ls : Nat → List Int} (h : KAt w s g C B L ls) (hM : Mod S w w') (hS : ∀ k, S k → k < M) (hs : M ≤ s) (hg : M ≤ g) (hF : KFresh M B L) : KAt w' s g C B L ls := by
  have hk : ∀ k, k < w.heap.size → M ≤ k → w'.heap[k]? = w.heap[k]? := fun k h1 h2 => hM.block k h1 (fun h3 => by have := hS k h3; omega)
  refine ⟨?_, ?_, fun n hn => (h.lev n hn).keep (hk _ (h.lev n hn).lts (hF n hn).1) (hk _ (h.lev n hn).ltb (hF n hn).2.1) (hk _ (h.lev n hn).ltc (hF n hn).2.2), h.sep, h.ok, h.hB⟩
  · rw [hk s h.lts hs]; exact h.ex
  · rw [hk g h.ltg hg]; exact h.row
end Go.Proofs.YteoblkcbemeamaaGreat

/- gaugerlaw24.shown. -/
namespace Go.Proofs.YteoblkcbemeamaaGreat
set_option linter.unusedVariables false
open Go.RowKit
def U1 : Int × Int := (1, 5)
def U2 : Int × Int := (2, 7)
theorem upsOk_of (l : List (Int × Int)) (h : ∀ u ∈ l, U64 u.1 ∧ I64 u.2) : UpsOk l := h
theorem u12_ok : UpsOk [U1] ∧ UpsOk [U2] ∧ UpsOk [U1, U2] := by
  refine ⟨?_, ?_, ?_⟩ <;> (intro u hu; simp [U1, U2] at hu; rcases hu with rfl | rfl <;> exact ⟨by unfold U64; omega, by unfold I64; omega⟩)
theorem K1_tot (us : List (Int × Int)) (hus : UpsOk us) : (feedK K1 us 2).getD 0 0 = hasP (0 : Int) (stP K1 2 us) := feedK_x K1_ok (n := 2) (by decide) hus (K1_x 2) 0
theorem K1_t12 : (feedK K1 [U1, U2] 2).getD 0 0 = 12 := by rw [K1_tot _ u12_ok.2.2]; decide
theorem K1_t7 : (feedK K1 [U2] 2).getD 0 0 = 7 := by rw [K1_tot _ u12_ok.2.1]; decide
theorem below_less {B B' : Nat} {a b : World} (h : Below B a b) (hB : B' ≤ B) : Below B' a b := ⟨h.os, h.tape, h.output, h.size, fun k hk => h.block k (by omega)⟩
theorem WS_buckets {w : World} {N p : Nat} {C : Cfg} {B n : Nat} {US : List (List (Int × Int))} (h : WS w N p C B n US) : Calls Tryz.prog 61 #[.pointer (some ⟨p, 0, none⟩)] w fun e w' => e = .returned (.int .i64 n) ∧ w = w' := by
  obtain ⟨b, sm, bk, h1, _⟩ := h
  exact WBuckets_c h1
set_option maxRecDepth 20000 in
set_option maxHeartbeats 4000000 in
theorem shown24_c (w : World) : Calls Tryz.prog 57 #[] w fun e w' => e = .returned (.bool true) ∧ Ext w w' := by
  have c1 : cutK K1 0 U1.1 = 1 := by decide
  have c2 : cutD K1.mode U1.2 = 5 := by decide
  have c3 : cutK K1 0 U2.1 = 2 := by decide
  have c4 : cutD K1.mode U2.2 = 7 := by decide
  have HC := Lib.hid (And.intro c1 (And.intro c2 (And.intro c3 c4)))
  clear c1 c2 c3 c4
  go_enter Tryz.func57, Tryz.ntmps57
  go_wp2_with fail
  have hCb : CfgAt (w.alloc (.cells #[.int .i64 2, .int .i64 1, .int .i64 4, .int .i64 1, .int .u64 0] 24)) w.heap.size K1 := CfgAt.box K1 _ rfl
  have hE0 : Ext w (w.alloc (.cells #[.int .i64 2, .int .i64 1, .int .i64 4, .int .i64 1, .int .u64 0] 24)) := Ext.alloc' _ _
  generalize w.alloc (.cells #[.int .i64 2, .int .i64 1, .int .i64 4, .int .i64 1, .int .u64 0] 24) = w0 at *
  refine (WS_new K1 K1_ok rfl 2 rfl 2 (by decide) (by decide) _).mono ?_
  rintro e w1 ⟨p, rfl, hS, hx1⟩
  have hC1 := hCb.ext hx1
  have d0 : w1.cell? ⟨w.heap.size, 0, none⟩ = some (.int .i64 2) := hC1.c0
  have d1 : w1.cell? ⟨w.heap.size, 1, none⟩ = some (.int .i64 1) := hC1.c1
  have d2 : w1.cell? ⟨w.heap.size, 2, none⟩ = some (.int .i64 4) := hC1.c2
  have d3 : w1.cell? ⟨w.heap.size, 3, none⟩ = some (.int .i64 1) := hC1.c3
  have d4 : w1.cell? ⟨w.heap.size, 4, none⟩ = some (.int .u64 0) := hC1.c4
  have dl := hC1.lt
  have HS := Lib.hid hS
  have hN := hE0.size
  have hE1 := hE0.trans' hx1
  clear hx1 hC1 hCb hS hE0
  go_wp2_with fail
  refine (WNew_arg K1 K1_ok 0 (.inl (by decide)) _).mono ?_
  rintro e w2 ⟨rfl, hx2⟩
  have HS2 : Hid (WS w2 w0.heap.size p K1 2 2 ([[]] ++ [[]])) := Lib.hid (HS.out.ext hx2)
  have hE2 := hE1.trans' hx2
  have hu := WS_upd HS2.out K1_ok rfl (by decide) U1 (by rw [HC.out.1]; unfold U64; omega) (by rw [HC.out.2.1]; unfold I64; omega)
  rw [HC.out.1, HC.out.2.1] at hu
  have HU := Lib.hid hu
  clear d0 d1 d2 d3 d4 dl hx2 hE1 HS hu
  go_wp2_with fail
  refine Calls.mono HU.out ?_
  rintro e w3 ⟨rfl, hB3, hS3⟩
  have hE3 : Ext w w3 := Below.trans hE2 (below_less hB3 hN)
  have HT := Lib.hid (WS_tick (a := []) (vs := [[U1]]) hS3 K1_ok rfl (fun u hu => by cases hu) u12_ok.1 (by decide))
  clear hB3 hS3 hE2 HU HS2
  go_wp2_with fail
  refine Calls.mono HT.out ?_
  rintro e w4 ⟨rfl, hB4, hS4⟩
  have hE4 : Ext w w4 := Below.trans hE3 (below_less hB4 hN)
  have hu := WS_upd (vs := [[U1]]) (a := []) hS4 K1_ok rfl (by decide) U2 (by rw [HC.out.2.2.1]; unfold U64; omega) (by rw [HC.out.2.2.2]; unfold I64; omega)
  rw [HC.out.2.2.1, HC.out.2.2.2] at hu
  have HU := Lib.hid hu
  clear hB4 hS4 hE3 HT hu
  go_wp2_with fail
  refine Calls.mono HU.out ?_
  rintro e w5 ⟨rfl, hB5, hS5⟩
  have hE5 : Ext w w5 := Below.trans hE4 (below_less hB5 hN)
  have HS5 : Hid (WS w5 w0.heap.size p K1 2 2 ([U1] :: [[U2]])) := Lib.hid hS5
  clear hB5 hS5 hE4 HU
  go_wp2_with fail
  refine Calls.mono (WS_sum HS5.out) ?_
  rintro e w6 ⟨s, g, L, rfl, hK, hs, hg, hF, hx6⟩
  have HK := Lib.hid hK
  have HF : Hid (KFresh w5.heap.size 2 L) := Lib.hid hF
  have HM6 := Lib.hid (HS5.out.wsm.ext hx6)
  have hE6 := hE5.trans' hx6
  clear hK hF hx6 HS5 hE5
  go_wp2_with fail
  refine Calls.mono (WS_check (a := [U1]) (vs := [[U2]]) HM6.out.ws K1_ok rfl u12_ok.1 u12_ok.2.1 (by decide)) ?_
  rintro e w7 ⟨rfl, hx7⟩
  have HM7 := Lib.hid (HM6.out.ext hx7)
  have HK7 := Lib.hid (HK.out.ext hx7)
  have hE7 := hE6.trans' hx7
  clear hx7 HM6 HK hE6
  go_wp2_with fail
  refine Calls.mono (WSM_tick (a := [U1]) (vs := [[U2]]) HM7.out K1_ok rfl u12_ok.1 u12_ok.2.1 (by decide)) ?_
  rintro e w8 ⟨rfl, ⟨S, hM8, hSS⟩, hS8⟩
  have HK8 := Lib.hid (HK7.out.above hM8 (fun k hk => (hSS k hk).2) hs hg HF.out)
  have HS8 := Lib.hid hS8
  have hE8 : Ext w w8 := Below.trans hE7 (hM8.below hE7.size (fun k hk => Nat.le_trans hN (hSS k hk).1))
  clear hM8 hSS hS8 HM7 HK7 hE7 HF
  go_wp2_with fail
  refine Calls.mono (WS_sum HS8.out) ?_
  rintro e w9 ⟨s2, g2, L2, rfl, hK2, _, _, _, hx9⟩
  have HK9 := Lib.hid (HK8.out.ext hx9)
  have HS9 := Lib.hid (HS8.out.ext hx9)
  have HK2 := Lib.hid hK2
  have hE9 := hE8.trans' hx9
  clear hK2 hx9 HS8 HK8 hE8
  go_wp2_with fail
  refine Calls.mono (KTotal_c _ _ _ _ _ _ _ HK9.out) ?_
  rintro e w10 ⟨rfl, hx10⟩
  have e1 : (feedK K1 ([U1] :: [[U2]]).flatten 2).getD 0 0 = 12 := K1_t12
  rw [e1]
  have HK10 := Lib.hid (HK2.out.ext hx10)
  have HS10 := Lib.hid (HS9.out.ext hx10)
  have hE10 := hE9.trans' hx10
  clear hx10 HK9 HK2 HS9 hE9 e1
  go_wp2_with fail
  refine Calls.mono (KTotal_c _ _ _ _ _ _ _ HK10.out) ?_
  rintro e w11 ⟨rfl, hx11⟩
  have e2 : (feedK K1 ([[U2]] ++ [[]]).flatten 2).getD 0 0 = 7 := K1_t7
  rw [e2]
  have HS11 := Lib.hid (HS10.out.ext hx11)
  have hE11 := hE10.trans' hx11
  clear hx11 HK10 HS10 hE10 e2
  go_wp2_with fail
  refine Calls.mono (WS_buckets HS11.out) ?_
  rintro e w12 ⟨rfl, rfl⟩
  go_wp2
  go_ret
  exact ⟨rfl, hE11⟩
end Go.Proofs.YteoblkcbemeamaaGreat
