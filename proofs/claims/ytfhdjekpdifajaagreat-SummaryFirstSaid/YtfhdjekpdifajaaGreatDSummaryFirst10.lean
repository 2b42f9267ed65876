/- Part. No condition. -/
import Derived.Test.YtfhdjekpdifajaaGreatDSummaryFirst5
import Derived.Test.YtfhdjekpdifajaaGreatDSummaryFirst9
import Derived.Test.YtfhdjekpdifajaaGreatDSummaryFirst3
import Derived.ProofKit
import Derived.OpenShut
import Derived.ChangeOld
import Derived.Below
import Derived.SizedLaws
import Derived.Deep.Slices
import Derived.Deep.Fields
namespace Go.Proofs.YtfhdjekpdifajaaGreat
set_option linter.unusedVariables false
open Go.RowKit
theorem and40 (x : Int) : bits BinOp.and IntKind.i64 x 1099511627775 = x % 1099511627776 := by
  show IntKind.i64.wrap ((BitVec.ofInt 64 x &&& BitVec.ofInt 64 1099511627775).toNat : Int) = _
  have e1 : (BitVec.ofInt 64 (1099511627775 : Int)).toNat = 2 ^ 40 - 1 := by decide
  rw [BitVec.toNat_and, e1, Nat.and_two_pow_sub_one_eq_mod, BitVec.toNat_ofInt, IntKind.wrap_i64]
  have : (x % ((2 ^ 64 : Nat) : Int)).toNat % 2 ^ 40 < 1099511627776 := Nat.mod_lt _ (by decide)
  omega
theorem keep_take {D : List Fd} {i : Nat} (h : i < D.length) : (keepD (D.take (i + 1))).length = (keepD (D.take i)).length + (if D[i].1 = 0 then 1 else 0) := by
  rw [List.take_add_one, List.getElem?_eq_getElem h, keepD_append, List.length_append]
  congr 1
  unfold keepD
  by_cases h0 : D[i].1 = 0
  · simp [h0]
  · simp [h0]
theorem mem_take {D : List Fd} {i : Nat} (h : i < D.length) (f : Fd) : f ∈ D.take (i + 1) ↔ f ∈ D.take i ∨ D[i] = f := by
  rw [List.take_add_one, List.getElem?_eq_getElem h, List.mem_append]
  constructor
  · rintro (h | h)
    · exact .inl h
    · simp at h; exact .inr h.symm
  · rintro (h | h)
    · exact .inl h
    · simp [h]
theorem fd_ne {x y : Fd} (h : x ≠ y) : ((x.1 : Int) ≠ (y.1 : Int)) ∨ ((x.1 : Int) = (y.1 : Int) ∧ x.2.1 ≠ y.2.1) ∨ ((x.1 : Int) = (y.1 : Int) ∧ x.2.1 = y.2.1 ∧ x.2.2 ≠ y.2.2) := by
  obtain ⟨a, b, c⟩ := x
  obtain ⟨a', b', c'⟩ := y
  by_cases h1 : a = a'
  · by_cases h2 : b = b'
    · by_cases h3 : c = c'
      · subst h1 h2 h3; exact absurd rfl h
      · exact .inr (.inr ⟨by dsimp only; omega, h2, h3⟩)
    · exact .inr (.inl ⟨by dsimp only; omega, h2⟩)
  · exact .inl (by dsimp only; omega)
/-- Of two that follow each other the first has more, or as much and the lesser number. -/
theorem srt_step {l S : List Fd} (ha : l.Pairwise AscR) (hS : SrtOf (keepD l) S) {i : Nat} (h : i + 1 < S.length) : S[i + 1].2.2 < S[i].2.2 ∨ (S[i + 1].2.2 = S[i].2.2 ∧ S[i].2.1 < S[i + 1].2.1) := by
  have h1 := hS.sorted i (i + 1) (by omega) h
  rw [ltC_iff, decide_eq_false_iff_not] at h1
  have hnd : S.Nodup := hS.perm.nodup_iff.2 (keep_nodup ha)
  have hne : S[i] ≠ S[i + 1] := fun e => by have := (List.getElem_inj hnd).1 e; omega
  have z1 : S[i].1 = 0 := keep_zero _ (hS.perm.mem_iff.1 (List.getElem_mem _))
  have z2 : S[i + 1].1 = 0 := keep_zero _ (hS.perm.mem_iff.1 (List.getElem_mem _))
  by_cases h2 : S[i + 1].2.2 = S[i].2.2
  · right
    refine ⟨h2, ?_⟩
    rcases Int.lt_trichotomy S[i].2.1 S[i + 1].2.1 with h3 | h3 | h3
    · exact h3
    · exact absurd (Prod.ext (z1.trans z2.symm) (Prod.ext h3 h2.symm)) hne
    · exact absurd (.inr ⟨h2.symm, h3⟩) h1
  · left
    rcases Int.lt_trichotomy S[i + 1].2.2 S[i].2.2 with h3 | h3 | h3
    · exact h3
    · exact absurd h3 h2
    · exact absurd (.inl h3) h1
set_option maxRecDepth 20000 in
set_option maxHeartbeats 32000000 in
theorem FirstL_c (x : Cfg) (hx : x.Raw) (us : List (Int × Int)) (hus : UpsOk us) (v : Value) (na nb ll : Int) (w : World) (hv : UpsAt w v us) (hul : us.length ≤ 140737488355328) :
    Calls Tryz.prog 13 #[.agg #[.int .i64 x.bits, .int .i64 x.rows, .int .i64 x.width, .int .i64 x.mode, .int .u64 x.seed, v], .agg #[.int .i64 na, .int .i64 nb], .int .i64 ll] w fun e w' => e = .returned (.bool true) ∧ Ext w w' := by
  obtain ⟨vp, vc, rfl⟩ := hv.sl
  have HV := Lib.hid hv
  clear hv
  have h40 := and40 ll
  have h16a := and16 na
  have h16b := and16 nb
  obtain ⟨lm, hlm⟩ : ∃ u, ll % 1099511627776 = u := ⟨_, rfl⟩
  obtain ⟨a0, ha0⟩ : ∃ u, (na % 65536).tmod 20 = u := ⟨_, rfl⟩
  obtain ⟨b0, hb0⟩ : ∃ u, (nb % 65536).tmod 20 = u := ⟨_, rfl⟩
  have hab : 0 ≤ a0 ∧ a0 < 20 := by
    rw [← ha0, Int.tmod_eq_emod_of_nonneg (by omega)]; omega
  have hbb : 0 ≤ b0 ∧ b0 < 20 := by
    rw [← hb0, Int.tmod_eq_emod_of_nonneg (by omega)]; omega
  have hlb : 0 ≤ lm ∧ lm < 1099511627776 := by omega
  rw [hlm] at h40
  obtain ⟨hab0, hab1⟩ := hab
  obtain ⟨hbb0, hbb1⟩ := hbb
  obtain ⟨hlb0, hlb1⟩ := hlb
  clear hlm
  go_enter Tryz.func13, Tryz.ntmps13
  go_wp2_with fail
  refine (shown19_c _).mono ?_
  rintro e w1 ⟨rfl, hb1⟩
  have hE1 : Ext w w1 := by (repeat' (first | exact Ext.refl _ | assumption | apply Ext.allocR | apply Ext.drewR | apply Ext.drewNR | (refine Ext.trans' ?_ (by assumption))))
  have hT1 := hb1.keep (show ((w.alloc (.cells #[.int .i64 x.bits, .int .i64 x.rows, .int .i64 x.width, .int .i64 x.mode, .int .u64 x.seed, .slice vp us.length vc] 107)).alloc (.cells #[.int .i64 na, .int .i64 nb] 141)).heap[w.heap.size]? = some (.cells #[.int .i64 x.bits, .int .i64 x.rows, .int .i64 x.width, .int .i64 x.mode, .int .u64 x.seed, .slice vp us.length vc] 107 (0, 0)) by
    rw [heap_old _ _ (by rw [size_alloc]; omega)]; exact heap_at _ _ rfl)
  have hN1 := hb1.keep (heap_at (w.alloc (.cells #[.int .i64 x.bits, .int .i64 x.rows, .int .i64 x.width, .int .i64 x.mode, .int .u64 x.seed, .slice vp us.length vc] 107)) (.cells #[.int .i64 na, .int .i64 nb] 141) rfl)
  clear hb1
  have d0 := (cell_of hT1 0).trans rfl
  have d1 := (cell_of hT1 1).trans rfl
  have d2 := (cell_of hT1 2).trans rfl
  have d3 := (cell_of hT1 3).trans rfl
  have d4 := (cell_of hT1 4).trans rfl
  have d5 := (cell_of hT1 5).trans rfl
  have dl := lt_of hT1
  have HN1 := Lib.hid hN1
  clear hN1
  go_wp2_with fail
  refine Calls.mono (fed19_c x hx 8 (by decide) (by decide) us hus _ _ (HV.out.ext hE1) hul) ?_
  have hok := mkC_ok x hx.s (nb := 8) (nw := 9) (by decide) (by decide) (by decide) (by decide)
  rintro e w2 ⟨s, g, L, rfl, hKA, _, _, _, hx2⟩
  generalize mkC x 8 9 = C at *
  have hE2 := hE1.trans' hx2
  obtain ⟨B, hB⟩ : ∃ B : Nat, C.bits = B := ⟨C.bits.toNat, by have := hok.b1; omega⟩
  have hBt : C.bits.toNat = B := by omega
  rw [hBt] at hKA
  have hU := uniq_fed C B us
  have hN2 := hx2.keep HN1.out
  have HKA := Lib.hid hKA
  have HU := Lib.hid hU
  have e0 := (cell_of hN2 0).trans rfl
  have e1 := (cell_of hN2 1).trans rfl
  have el := lt_of hN2
  rw [size_alloc] at e0 e1 el
  have hS4 := sorts_all 4096 (by decide)
  have hlen := heavyP_len (ptK C B us) (1 + lm) 400 B
  have herr := heavyP_err (ptK C B us) (1 + lm) 400 B
  have hasc := heavyP_asc (ptK C B us) (1 + lm) 400 B
  have hkl := keep_len (heavyP (ptK C B us) (1 + lm) 400 B).1
  have hHV := fun W' (h : Ext w2 W') => Heavy_c s g C B L _ W' (hKA.ext h) (ptK C B us) hU (1 + lm) 400
  have hTP := fun n W' (h : Ext w2 W') => Top_c 4096 hS4 s g C B L _ W' (hKA.ext h) (ptK C B us) hU n (1 + lm) 400 (by omega)
  unfold HeavyPost at hHV
  generalize heavyP (ptK C B us) (1 + lm) 400 B = H at *
  obtain ⟨D, er⟩ := H
  dsimp only at hlen herr hasc hkl hHV
  have HHV := Lib.hid hHV
  have HTP := Lib.hid hTP
  have HASC := Lib.hid hasc
  have HERR := Lib.hid herr
  clear hKA hU d0 d1 d2 d3 d4 d5 dl hT1 hx2 hE1 hB hBt hok hN2 hS4 hHV hTP hasc herr hkl HN1
  obtain ⟨wq, hwq⟩ : ∃ W, w2.alloc (.cells #[.int .i64 C.bits, .int .i64 C.rows, .int .i64 C.width, .int .i64 C.mode, .int .u64 C.seed] 24) = W := ⟨_, rfl⟩
  have hEq : Ext w2 wq := by rw [← hwq]; exact Ext.alloc' _ _
  have e0q := ((bcell hEq).1 _ _ el).trans e0
  have e1q := ((bcell hEq).1 _ _ el).trans e1
  have elq := Nat.lt_of_lt_of_le el hEq.size
  go_upto_region 3 with (fail)
  try rw [hwq]
  clear hwq e0 e1 el
  go_wp2_with fail
  refine Calls.mono (HHV.out _ hEq) ?_
  rintro e w3 ⟨vd, rfl, hod, hx3⟩
  generalize hld : D.length = ld at *
  have HLD := Lib.hid hld
  obtain ⟨pd, kd, rfl⟩ := own_sl hod
  have hE3 := hEq.trans' hx3
  have HOD := Lib.hid hod
  clear hod hx3 e0q e1q elq hld HHV
  go_wp2_with fail
  refine Calls.mono (HTP.out a0 _ hE3) ?_
  rintro e w4 ⟨v1, S, rfl, hS, ho1, hx4⟩
  obtain ⟨T1, hT1⟩ : ∃ T, S.take (max a0 0).toNat = T := ⟨_, rfl⟩
  rw [hT1] at ho1
  obtain ⟨m1, hm1⟩ : ∃ m, T1.length = m := ⟨_, rfl⟩
  rw [hm1] at ho1
  obtain ⟨p1, k1, rfl⟩ := own_sl ho1
  have hE4 := hE3.trans' hx4
  have HT1 := Lib.hid (And.intro hT1 hm1)
  have HS := Lib.hid hS
  have HO1 := Lib.hid ho1
  have HX4 := Lib.hid hx4
  clear hT1 hm1 hS ho1 hx4
  go_wp2_with fail
  refine Calls.mono (HTP.out (a0 + b0) _ hE4) ?_
  rintro e w5 ⟨v2, S2, rfl, hS2, ho2, hx5⟩
  obtain rfl : S = S2 := srt_unique HS.out hS2 keep_zero
  obtain ⟨T2, hT2⟩ : ∃ T, S.take (max (a0 + b0) 0).toNat = T := ⟨_, rfl⟩
  rw [hT2] at ho2
  obtain ⟨m2, hm2⟩ : ∃ m, T2.length = m := ⟨_, rfl⟩
  rw [hm2] at ho2
  obtain ⟨p2, k2, rfl⟩ := own_sl ho2
  have hE5 := hE4.trans' hx5
  have HT2 := Lib.hid (And.intro hT2 hm2)
  have HO2 := Lib.hid ho2
  have HX5 := Lib.hid hx5
  clear hT2 hm2 hS2 ho2 hx5
  go_wp2_with fail
  refine Calls.mono (HTP.out (-1) _ hE5) ?_
  rintro e w6 ⟨v3, S3, rfl, hS3, ho3, hx6⟩
  rw [show (max (-1 : Int) 0).toNat = 0 from rfl, List.take_zero] at ho3
  obtain ⟨p3, k3, rfl⟩ := own_sl (n := 0) ho3
  have hEF := hE2.trans' (hE5.trans' hx6)
  have HOD6 := Lib.hid (own_ext HOD.out (HX4.out.trans' (HX5.out.trans' hx6)))
  have HO16 := Lib.hid (own_ext HO1.out (HX5.out.trans' hx6))
  have HO26 := Lib.hid (own_ext HO2.out hx6)
  obtain ⟨hT1, hm1⟩ := HT1.out
  obtain ⟨hT2, hm2⟩ := HT2.out
  obtain ⟨ns, hns⟩ : ∃ n, S.length = n := ⟨_, rfl⟩
  have hm1' : m1 = min a0.toNat ns := by rw [← hm1, ← hT1, List.length_take, ← hns]; congr 1; omega
  have hm2' : m2 = min (a0 + b0).toNat ns := by rw [← hm2, ← hT2, List.length_take, ← hns]; congr 1; omega
  have hSk : (keepD D).length = ns := by rw [← hns]; exact HS.out.perm.length_eq.symm
  have hg1 : ∀ i (h1 : i < T1.length) (h2 : i < S.length), T1[i] = S[i] := fun i h1 h2 => by subst hT1; exact List.getElem_take
  have hg2 : ∀ i (h1 : i < T2.length) (h2 : i < S.length), T2[i] = S[i] := fun i h1 h2 => by subst hT2; exact List.getElem_take
  have HG1 := Lib.hid hg1
  have HG2 := Lib.hid hg2
  have HM1 := Lib.hid hm1
  have HM2 := Lib.hid hm2
  have HNS := Lib.hid hns
  have HSK := Lib.hid hSk
  have HM1' := Lib.hid hm1'
  have HM2' := Lib.hid hm2'
  clear hS3 ho3 hx6 HTP HOD HO1 HO2 HX4 HX5 hE3 hE4 hE5 hEq hE2 hT1 hT2 HT1 HT2 hm1 hm2 hns hSk hm1' hm2' hg1 hg2
  by_cases he : er = 0
  · subst he
    clear HERR
    go_wp2_with fail
    go_loopw [20, 21] (fun u20 u21 wr => ∃ (i q : Nat), i ≤ ld ∧ u21 = .int .i64 i ∧ u20 = .int .i64 q ∧ (keepD (D.take i)).length = q ∧ Ext w6 wr) (fun _ u21 _ => ld - (intOf u21).toNat)
    case atStart => exact ⟨0, 0, Nat.zero_le _, rfl, rfl, rfl, Ext.refl _⟩
    case round =>
      obtain ⟨i, q, hi, rfl, rfl, hq, hE⟩ := hrel
      have HQ := Lib.hid hq
      clear hq
      by_cases hlt : i < ld
      · have hiD : i < D.length := by rw [HLD.out]; exact hlt
        obtain ⟨gl, rfl, hgl, c0, c1, c2⟩ := fd_cells (own_ext HOD6.out hE) hiD
        have hkt := keep_take hiD
        rw [HQ.out] at hkt
        by_cases hL : D[i].1 = 0
        · rw [if_pos hL] at hkt
          rw [hL] at c0
          have HKT := Lib.hid hkt
          clear hkt hL
          generalize D[i] = f at *
          clear hiD
          have hqb : q ≤ ld := by
            have h1 := HQ.out
            have h2 := keep_len (D.take i)
            have h3 := List.length_take_le i D
            omega
          go_wp2
          go_roundw
          case rel => exact ⟨i + 1, q + 1, by omega, by go_num, by go_num, HKT.out, hE⟩
          case measure => simp [intOf] <;> omega
        · rw [if_neg hL, Nat.add_zero] at hkt
          have hL2 : ((D[i].1 : Int) == 0) = false := beq_eq_false_iff_ne.2 (by omega)
          have HKT := Lib.hid hkt
          clear hkt hL
          generalize D[i] = f at *
          clear hiD
          generalize (f.1 : Int) = fl at *
          go_wp2
          go_roundw
          case rel => exact ⟨i + 1, q, by omega, by go_num, rfl, HKT.out, hE⟩
          case measure => simp [intOf] <;> omega
      · obtain rfl : i = ld := by omega
        have hqn : q = ns := by
          have h1 := HQ.out
          rw [List.take_of_length_le (by rw [HLD.out]; exact Nat.le_refl _), HSK.out] at h1
          exact h1.symm
        subst hqn
        have hmin1 : min a0 (q : Int) = m1 := by have := HM1'.out; omega
        have hmin2 : min (a0 + b0) (q : Int) = m2 := by have := HM2'.out; omega
        have hm2q : m2 ≤ q := by have := HM2'.out; omega
        have hqi : q ≤ 4096 := by
          have h1 := HSK.out
          have h2 := keep_len D
          have h3 := HLD.out
          omega
        have HE6 := Lib.hid hE
        rename World => wz
        clear hE HQ
        go_wp2_with fail
        go_loopw [22] (fun u22 wr => ∃ i : Nat, i ≤ m2 ∧ u22 = .int .i64 i ∧ Ext wz wr) (fun u22 _ => m2 - (intOf u22).toNat)
        case atStart => exact ⟨0, Nat.zero_le _, rfl, Ext.refl _⟩
        case round =>
          obtain ⟨j, hj, rfl, hE⟩ := hrel
          have HE := Lib.hid (HE6.out.trans' hE)
          have HEZ := Lib.hid hE
          clear hE
          by_cases hlt : j < m2
          · have hjS : j < S.length := by rw [HNS.out]; omega
            have hj2 : j < T2.length := by rw [HM2.out]; exact hlt
            have hfz : S[j].1 = 0 := keep_zero _ (HS.out.perm.mem_iff.1 (List.getElem_mem hjS))
            have hfD : S[j] ∈ D := by
              have h1 := HS.out.perm.mem_iff.1 (List.getElem_mem hjS)
              exact (List.mem_filter.1 h1).1
            obtain ⟨g2, rfl, hg2, t0, t1, t2⟩ := fd_cells (own_ext HO26.out HE.out) hj2
            rw [HG2.out j hj2 hjS] at t0 t1 t2
            obtain ⟨f, hf⟩ : ∃ f, S[j] = f := ⟨_, rfl⟩
            rw [hf] at t0 t1 t2 hfz hfD
            rw [hfz] at t0
            have HF := Lib.hid hf
            have HFZ := Lib.hid hfz
            have HFD := Lib.hid hfD
            have T0 := Lib.hid (And.intro t0 (And.intro t1 t2))
            clear hf hfz hfD t0 t1 t2
            rename World => wo
            go_wp2_with fail
            go_loopw [23, 24] (fun u23 u24 wi => ∃ k : Nat, k ≤ i ∧ u24 = .int .i64 k ∧ u23 = .bool (decide (f ∈ D.take k)) ∧ Ext wo wi) (fun _ u24 _ => i - (intOf u24).toNat)
            case atStart => exact ⟨0, Nat.zero_le _, rfl, by simp, Ext.refl _⟩
            case round =>
              obtain ⟨k, hk, rfl, rfl, hEk⟩ := hrel
              obtain ⟨t0', t1', t2'⟩ := T0.out
              have t0 := ((bcell hEk).1 _ _ hg2).trans t0'
              have t1 := ((bcell hEk).1 _ _ hg2).trans t1'
              have t2 := ((bcell hEk).1 _ _ hg2).trans t2'
              have hg2' := Nat.lt_of_lt_of_le hg2 hEk.size
              clear t0' t1' t2'
              by_cases hlk : k < i
              · as_aux_lemma =>
                  have hkD : k < D.length := by rw [HLD.out]; exact hlk
                  obtain ⟨gl, rfl, hgl, c0, c1, c2⟩ := fd_cells (own_ext HOD6.out (HE.out.trans' hEk)) hkD
                  have hmt := mem_take hkD f
                  by_cases hin : f ∈ D.take k
                  · have hn : decide (f ∈ D.take (k + 1)) = true := decide_eq_true (hmt.2 (.inl hin))
                    rw [decide_eq_true hin]
                    have HN := Lib.hid hn
                    clear hn hin hmt
                    generalize D[k] = d at *
                    clear hkD
                    go_wp2_with fail
                    refine wp_region_after (by kernel_rfl) (by kernel_rfl) ?_
                    repeat (go_big_quiet_step (fail))
                    refine wpQuiet_nil ?_
                    rintro _ ⟨xx, rfl⟩
                    obtain ⟨w8, hb8⟩ := xx
                    try dsimp only
                    have hE8 := hEk.trans' hb8
                    clear hb8 c0 c1 c2 t0 t1 t2
                    go_wp2
                    go_roundw
                    case rel => exact ⟨k + 1, by omega, by go_num, by rw [HN.out], hE8⟩
                    case measure => simp [intOf] <;> omega
                  · by_cases heq : D[k] = f
                    · have hn : decide (f ∈ D.take (k + 1)) = true := decide_eq_true (hmt.2 (.inr heq))
                      rw [heq, HFZ.out] at c0
                      rw [heq] at c1 c2
                      rw [decide_eq_false hin]
                      have HN := Lib.hid hn
                      clear hn hin hmt hkD heq
                      generalize f.2.1 = f1 at *
                      generalize f.2.2 = f2 at *
                      go_wp2_with fail
                      refine wp_region_after (by kernel_rfl) (by kernel_rfl) ?_
                      repeat (go_big_quiet_step (fail))
                      refine wpQuiet_nil ?_
                      rintro _ ⟨xx, rfl⟩
                      obtain ⟨w8, hb8⟩ := xx
                      try dsimp only
                      have hE8 := hEk.trans' hb8
                      clear hb8 c0 c1 c2 t0 t1 t2
                      go_wp2
                      go_roundw
                      case rel => exact ⟨k + 1, by omega, by go_num, by rw [HN.out], hE8⟩
                      case measure => simp [intOf] <;> omega
                    · have hn : decide (f ∈ D.take (k + 1)) = false := decide_eq_false (fun h => (hmt.1 h).elim hin heq)
                      have hne := fd_ne heq
                      rw [HFZ.out] at hne
                      rw [decide_eq_false hin]
                      have HN := Lib.hid hn
                      clear hn hin hmt heq
                      generalize D[k] = d at *
                      clear hkD
                      obtain ⟨dn, d1, d2⟩ := d
                      dsimp only at c0 c1 c2 hne
                      generalize (dn : Int) = d0 at *
                      generalize f.2.1 = f1 at *
                      generalize f.2.2 = f2 at *
                      rcases hne with h1 | ⟨h1, h2⟩ | ⟨h1, h2, h3⟩
                      · have q1 : (d0 = ((0 : Nat) : Int)) = False := eq_false h1
                        have q2 : (d0 = 0) = False := eq_false h1
                        clear h1
                        go_wp2_with fail
                        refine wp_region_after (by kernel_rfl) (by kernel_rfl) ?_
                        repeat (go_big_quiet_step (fail))
                        refine wpQuiet_nil ?_
                        rintro _ ⟨xx, rfl⟩
                        obtain ⟨w8, hb8⟩ := xx
                        try dsimp only
                        have hE8 := hEk.trans' hb8
                        clear hb8 c0 c1 c2 t0 t1 t2
                        go_wp2
                        go_roundw
                        case rel => exact ⟨k + 1, by omega, by go_num, by rw [HN.out], hE8⟩
                        case measure => simp [intOf] <;> omega
                      · subst h1
                        have q1 : (d1 = f1) = False := eq_false h2
                        clear h2
                        go_wp2_with fail
                        refine wp_region_after (by kernel_rfl) (by kernel_rfl) ?_
                        repeat (go_big_quiet_step (fail))
                        refine wpQuiet_nil ?_
                        rintro _ ⟨xx, rfl⟩
                        obtain ⟨w8, hb8⟩ := xx
                        try dsimp only
                        have hE8 := hEk.trans' hb8
                        clear hb8 c0 c1 c2 t0 t1 t2
                        go_wp2
                        go_roundw
                        case rel => exact ⟨k + 1, by omega, by go_num, by rw [HN.out], hE8⟩
                        case measure => simp [intOf] <;> omega
                      · subst h1
                        subst h2
                        have q1 : (d2 = f2) = False := eq_false h3
                        clear h3
                        go_wp2_with fail
                        refine wp_region_after (by kernel_rfl) (by kernel_rfl) ?_
                        repeat (go_big_quiet_step (fail))
                        refine wpQuiet_nil ?_
                        rintro _ ⟨xx, rfl⟩
                        obtain ⟨w8, hb8⟩ := xx
                        try dsimp only
                        have hE8 := hEk.trans' hb8
                        clear hb8 c0 c1 c2 t0 t1 t2
                        go_wp2
                        go_roundw
                        case rel => exact ⟨k + 1, by omega, by go_num, by rw [HN.out], hE8⟩
                        case measure => simp [intOf] <;> omega
              · as_aux_lemma =>
                  obtain rfl : k = i := by omega
                  have hall : decide (f ∈ D.take k) = true := decide_eq_true (by rw [List.take_of_length_le (by rw [HLD.out]; exact Nat.le_refl _)]; exact HFD.out)
                  rw [hall]
                  clear hall hlk
                  have HEW := Lib.hid (HE.out.trans' hEk)
                  by_cases hj1 : j < m1
                  · have hjT1 : j < T1.length := by rw [HM1.out]; exact hj1
                    obtain ⟨g1, rfl, hg1', u0, u1, u2⟩ := fd_cells (own_ext HO16.out HEW.out) hjT1
                    rw [HG1.out j hjT1 hjS, HF.out] at u0 u1 u2
                    rw [HFZ.out] at u0
                    by_cases h0 : j = 0
                    · subst h0
                      simp only [Nat.zero_mul, Nat.zero_add, show ((0 : Nat) : Int) = 0 from rfl] at t0 t1 t2 u0 u1 u2 ⊢
                      have hlt0 : (0 : Int) < m2 := by omega
                      have hj10 : (0 : Int) < m1 := by omega
                      clear HF hjS hj2 hjT1
                      generalize f.2.1 = f1 at *
                      generalize f.2.2 = f2 at *
                      go_wp2_with fail
                      refine wp_region_after (by kernel_rfl) (by kernel_rfl) ?_
                      dsimp only [List.append]
                      repeat (go_big_quiet_step (fail))
                      refine wpQuiet_nil ?_
                      rintro _ ⟨xx, rfl⟩
                      obtain ⟨w9, hb9⟩ := xx
                      try dsimp only
                      have hE9 := (HEZ.out.trans' hEk).trans' hb9
                      clear hb9 t0 t1 t2 u0 u1 u2
                      go_wp2
                      go_roundw
                      case rel => exact ⟨1, by omega, rfl, hE9⟩
                      case measure => simp [intOf] <;> omega
                    · obtain ⟨p, hp⟩ : ∃ p, p + 1 = j := ⟨j - 1, by omega⟩
                      have hpS : p < S.length := by omega
                      have hp2 : p < T2.length := by omega
                      obtain ⟨g2b, hpp, _, s0, s1, s2⟩ := fd_cells (own_ext HO26.out HEW.out) hp2
                      cases hpp
                      rw [HG2.out p hp2 hpS] at s0 s1 s2
                      have hst := srt_step HASC.out HS.out (i := p) (by omega)
                      rw [show S[p + 1]'(by omega) = f by simp only [hp]; exact HF.out] at hst
                      generalize S[p] = pr at *
                      have hsub : (j : Int) - 1 = p := by omega
                      have hwp : IntKind.i64.wrap (p : Int) = p := by rw [IntKind.wrap_i64]; omega
                      have hpos : 0 < j := by omega
                      have hpm : p < m2 := by omega
                      have hjm : j < m2 := by omega
                      clear HF h0 hpS hp2 hjS hj2 hlt hjT1
                      generalize f.2.1 = f1 at *
                      generalize f.2.2 = f2 at *
                      obtain ⟨r0, r1, r2⟩ := pr
                      dsimp only at s0 s1 s2 hst
                      generalize (r0 : Int) = rz at *
                      rcases hst with h | ⟨h, h'⟩
                      · have q1 : decide (r2 < f2) = false := decide_eq_false (by omega)
                        have q2 : (r2 == f2) = false := beq_eq_false_iff_ne.2 (by omega)
                        clear h hp
                        go_wp2_with fail
                        refine wp_region_after (by kernel_rfl) (by kernel_rfl) ?_
                        dsimp only [List.append]
                        repeat (go_big_quiet_step (fail))
                        refine wpQuiet_nil ?_
                        rintro _ ⟨xx, rfl⟩
                        obtain ⟨w9, hb9⟩ := xx
                        try dsimp only
                        have hE9 := (HEZ.out.trans' hEk).trans' hb9
                        clear hb9 t0 t1 t2 s0 s1 s2 u0 u1 u2
                        go_wp2
                        go_roundw
                        case rel => exact ⟨j + 1, by omega, by go_num, hE9⟩
                        case measure => simp [intOf] <;> omega
                      · subst h
                        have q1 : decide (f2 < f2) = false := decide_eq_false (by omega)
                        have q3 : decide (f1 ≤ r1) = false := decide_eq_false (by omega)
                        clear h' hp
                        go_wp2_with fail
                        refine wp_region_after (by kernel_rfl) (by kernel_rfl) ?_
                        dsimp only [List.append]
                        repeat (go_big_quiet_step (fail))
                        refine wpQuiet_nil ?_
                        rintro _ ⟨xx, rfl⟩
                        obtain ⟨w9, hb9⟩ := xx
                        try dsimp only
                        have hE9 := (HEZ.out.trans' hEk).trans' hb9
                        clear hb9 t0 t1 t2 s0 s1 s2 u0 u1 u2
                        go_wp2
                        go_roundw
                        case rel => exact ⟨j + 1, by omega, by go_num, hE9⟩
                        case measure => simp [intOf] <;> omega
                  · have hj1' : m1 ≤ j := by omega
                    have hj1n : (j < m1) = False := eq_false (by omega)
                    have hj1d : decide ((j : Int) < (m1 : Int)) = false := decide_eq_false (by omega)
                    clear hj1
                    by_cases h0 : j = 0
                    · subst h0
                      simp only [Nat.zero_mul, Nat.zero_add, show ((0 : Nat) : Int) = 0 from rfl] at t0 t1 t2 ⊢
                      have hlt0 : (0 : Int) < m2 := by omega
                      have hz1 : decide ((0 : Int) < (m1 : Int)) = false := decide_eq_false (by omega)
                      have hz2 : (0 < m1) = False := eq_false (by omega)
                      clear hj1d hj1n hj1'
                      clear HF hjS hj2
                      generalize f.2.1 = f1 at *
                      generalize f.2.2 = f2 at *
                      go_wp2_with fail
                      refine wp_region_after (by kernel_rfl) (by kernel_rfl) ?_
                      dsimp only [List.append]
                      repeat (go_big_quiet_step (fail))
                      refine wpQuiet_nil ?_
                      rintro _ ⟨xx, rfl⟩
                      obtain ⟨w9, hb9⟩ := xx
                      try dsimp only
                      have hE9 := (HEZ.out.trans' hEk).trans' hb9
                      clear hb9 t0 t1 t2
                      go_wp2
                      go_roundw
                      case rel => exact ⟨1, by omega, rfl, hE9⟩
                      case measure => simp [intOf] <;> omega
                    · obtain ⟨p, hp⟩ : ∃ p, p + 1 = j := ⟨j - 1, by omega⟩
                      have hpS : p < S.length := by omega
                      have hp2 : p < T2.length := by omega
                      obtain ⟨g2b, hpp, _, s0, s1, s2⟩ := fd_cells (own_ext HO26.out HEW.out) hp2
                      cases hpp
                      rw [HG2.out p hp2 hpS] at s0 s1 s2
                      have hst := srt_step HASC.out HS.out (i := p) (by omega)
                      rw [show S[p + 1]'(by omega) = f by simp only [hp]; exact HF.out] at hst
                      generalize S[p] = pr at *
                      have hsub : (j : Int) - 1 = p := by omega
                      have hwp : IntKind.i64.wrap (p : Int) = p := by rw [IntKind.wrap_i64]; omega
                      have hpos : 0 < j := by omega
                      have hpm : p < m2 := by omega
                      have hjm : j < m2 := by omega
                      clear HF h0 hpS hp2 hjS hj2 hlt
                      generalize f.2.1 = f1 at *
                      generalize f.2.2 = f2 at *
                      obtain ⟨r0, r1, r2⟩ := pr
                      dsimp only at s0 s1 s2 hst
                      generalize (r0 : Int) = rz at *
                      rcases hst with h | ⟨h, h'⟩
                      · have q1 : decide (r2 < f2) = false := decide_eq_false (by omega)
                        have q2 : (r2 == f2) = false := beq_eq_false_iff_ne.2 (by omega)
                        clear h hp
                        go_wp2_with fail
                        refine wp_region_after (by kernel_rfl) (by kernel_rfl) ?_
                        dsimp only [List.append]
                        repeat (go_big_quiet_step (fail))
                        refine wpQuiet_nil ?_
                        rintro _ ⟨xx, rfl⟩
                        obtain ⟨w9, hb9⟩ := xx
                        try dsimp only
                        have hE9 := (HEZ.out.trans' hEk).trans' hb9
                        clear hb9 t0 t1 t2 s0 s1 s2
                        go_wp2
                        go_roundw
                        case rel => exact ⟨j + 1, by omega, by go_num, hE9⟩
                        case measure => simp [intOf] <;> omega
                      · subst h
                        have q1 : decide (f2 < f2) = false := decide_eq_false (by omega)
                        have q3 : decide (f1 ≤ r1) = false := decide_eq_false (by omega)
                        clear h' hp
                        go_wp2_with fail
                        refine wp_region_after (by kernel_rfl) (by kernel_rfl) ?_
                        dsimp only [List.append]
                        repeat (go_big_quiet_step (fail))
                        refine wpQuiet_nil ?_
                        rintro _ ⟨xx, rfl⟩
                        obtain ⟨w9, hb9⟩ := xx
                        try dsimp only
                        have hE9 := (HEZ.out.trans' hEk).trans' hb9
                        clear hb9 t0 t1 t2 s0 s1 s2
                        go_wp2
                        go_roundw
                        case rel => exact ⟨j + 1, by omega, by go_num, hE9⟩
                        case measure => simp [intOf] <;> omega
          · obtain rfl : j = m2 := by omega
            go_wp2
            go_ret
            exact ⟨rfl, hEF.trans' HE.out⟩
  · have h0 : D = [] := (HERR.out).resolve_left he
    subst h0
    have hns0 : ns = 0 := by have := HSK.out; simpa [keepD] using this.symm
    have hm10 : m1 = 0 := by have := HM1'.out; omega
    have hm20 : m2 = 0 := by have := HM2'.out; omega
    subst hm10 hm20
    have hne : (er != 0) = true := by simpa using he
    go_wp2
    go_ret
    exact ⟨rfl, hEF⟩
end Go.Proofs.YtfhdjekpdifajaaGreat
namespace Go.Proofs.YtfhdjekpdifajaaGreat
set_option linter.unusedVariables false
open Go.ChangeShapes Go.WideShapes Go.ChangeAt Go.RowKit Go.Deep
theorem wf_u64 {x : Int} (h : (Lit.int IntKind.u64 x).wf = true) : U64 x := by
  have := bounds_u64 h
  exact ⟨this.1, by omega⟩
theorem wf_i64 {x : Int} (h : (Lit.int IntKind.i64 x).wf = true) : I64 x := by
  have := bounds_i64 h
  exact ⟨this.1, by omega⟩
section
variable {H : Type} {enc : TypeId × Value → H} {w : World} {base : Nat} {spare : Nat → Bool} {held : Bool}
set_option maxRecDepth 100000 in
/-- Five cells that read as a config. -/
theorem cfg_of {n : Nat} {cs : List Value} {y : DataW H × List MemPlace} (h : DataW.trod enc Tryz.prog w base spare held n 24 cs = some y) :
    ∃ C : Cfg, C.Raw ∧ cs = [.int .i64 C.bits, .int .i64 C.rows, .int .i64 C.width, .int .i64 C.mode, .int .u64 C.seed] := by
  obtain ⟨xs, n, _, _, hl, hx, hg⟩ := DataW.trod_struct Tryz.underlying24 h
  have hl' : cs.length = 5 := hl.trans (by kernel_rfl)
  match cs, hl' with
  | [c0, c1, c2, c3, c4], _ =>
    have hx' : xs.length = 5 := hx.trans (by kernel_rfl)
    match xs, hx' with
    | [x0, x1, x2, x3, x4], _ =>
      have e0 : DataW.trod enc Tryz.prog w base spare held n 3 [c0] = some x0 := hg 0 _ rfl
      have e1 : DataW.trod enc Tryz.prog w base spare held n 3 [c1] = some x1 := hg 1 _ rfl
      have e2 : DataW.trod enc Tryz.prog w base spare held n 3 [c2] = some x2 := hg 2 _ rfl
      have e3 : DataW.trod enc Tryz.prog w base spare held n 3 [c3] = some x3 := hg 3 _ rfl
      have e4 : DataW.trod enc Tryz.prog w base spare held n 22 [c4] = some x4 := hg 4 _ rfl
      obtain ⟨a0, h0, _, w0⟩ := DataW.trod_int Tryz.underlying3 e0
      obtain ⟨a1, h1, _, w1⟩ := DataW.trod_int Tryz.underlying3 e1
      obtain ⟨a2, h2, _, w2⟩ := DataW.trod_int Tryz.underlying3 e2
      obtain ⟨a3, h3, _, w3⟩ := DataW.trod_int Tryz.underlying3 e3
      obtain ⟨a4, h4, _, w4⟩ := DataW.trod_int Tryz.underlying22 e4
      simp only [List.cons.injEq, and_true] at h0 h1 h2 h3 h4
      exact ⟨⟨a0, a1, a2, a3, a4⟩, ⟨wf_i64 w0, wf_i64 w1, wf_i64 w2, wf_i64 w3, wf_u64 w4⟩, by rw [h0, h1, h2, h3, h4]⟩
set_option maxRecDepth 100000 in
/-- Two cells that read as an update. -/
theorem upd_of {n : Nat} {cs : List Value} {y : DataW H × List MemPlace} (h : DataW.trod enc Tryz.prog w base spare held n 138 cs = some y) :
    ∃ u : Int × Int, (U64 u.1 ∧ I64 u.2) ∧ cs = [.int .u64 u.1, .int .i64 u.2] := by
  obtain ⟨xs, n, _, _, hl, hx, hg⟩ := DataW.trod_struct Tryz.underlying138 h
  have hl' : cs.length = 2 := hl.trans (by kernel_rfl)
  match cs, hl' with
  | [c0, c1], _ =>
    have hx' : xs.length = 2 := hx.trans (by kernel_rfl)
    match xs, hx' with
    | [x0, x1], _ =>
      have e0 : DataW.trod enc Tryz.prog w base spare held n 22 [c0] = some x0 := hg 0 _ rfl
      have e1 : DataW.trod enc Tryz.prog w base spare held n 2 [c1] = some x1 := hg 1 _ rfl
      obtain ⟨a0, h0, _, w0⟩ := DataW.trod_int Tryz.underlying22 e0
      obtain ⟨a1, h1, _, w1⟩ := DataW.trod_int Tryz.underlying2 e1
      simp only [List.cons.injEq, and_true] at h0 h1
      exact ⟨(a0, a1), ⟨wf_u64 w0, wf_i64 w1⟩, by rw [h0, h1]⟩
theorem add_plain0 (b off i : Nat) : (Addr.add ⟨b, off, none⟩ i) = ⟨b, off + i, none⟩ := by
  unfold Addr.add
  by_cases h : i = 0
  · subst h; simp
  · simp [h]
theorem choose_list {α : Type} (P : Nat → α → Prop) : ∀ n, (∀ i, i < n → ∃ x, P i x) → ∃ l : List α, l.length = n ∧ ∀ i (h : i < l.length), P i l[i] := by
  intro n
  induction n with
  | zero => intro _; exact ⟨[], rfl, fun i h => by simp at h⟩
  | succ n ih =>
    intro h
    obtain ⟨l, hl, hP⟩ := ih (fun i hi => h i (by omega))
    obtain ⟨x, hx⟩ := h n (by omega)
    refine ⟨l ++ [x], by simp [hl], fun i hi => ?_⟩
    by_cases e : i < l.length
    · rw [List.getElem_append_left e]; exact hP i e
    · have : i = n := by simp at hi; omega
      subst this
      rw [List.getElem_append_right (by omega)]
      simp [hl, hx]
/-- A cell that reads as a slice of updates. -/
theorem ups_of {n : Nat} {v : Value} {y : DataW H × List MemPlace} (h : DataW.trod enc Tryz.prog w 0 (fun _ => true) held n 105 [v] = some y) :
    ∃ us : List (Int × Int), UpsOk us ∧ UpsAt w v us ∧ (us = [] ∨ ∃ el sp : List (DataW H), y.1 = .slice el sp ∧ el.length = us.length) := by
  rcases open_slice Tryz.underlying105 h with ⟨hcs, _⟩ | ⟨a, len, cap, m, n', D, Pl, hcs, _, hlc, hcm, hm, hx, hi⟩
  · simp only [List.cons.injEq, and_true] at hcs
    subst hcs
    exact ⟨[], (by intro u hu; cases hu), .inl ⟨⟨_, rfl⟩, rfl⟩, .inl rfl⟩
  · simp only [List.cons.injEq, and_true] at hcs
    subst hcs
    simp only [if_true] at hm
    rw [hm] at hi hx
    clear hm
    have hC : Tryz.prog.cellsOf 138 = 2 := by kernel_rfl
    rw [hC] at hi
    have key : ∀ i, i < len → ∃ u : Int × Int, (U64 u.1 ∧ I64 u.2) ∧ w.cell? (a.add (i * 2)) = some (.int .u64 u.1) ∧ w.cell? (a.add (i * 2 + 1)) = some (.int .i64 u.2) := by
      intro i hil
      obtain ⟨cs', hc, ht⟩ := hi i (by omega)
      obtain ⟨u, hu, rfl⟩ := upd_of ht
      obtain ⟨_, _, hat⟩ := World.cells?_some hc
      refine ⟨u, hu, ?_, ?_⟩
      · have := hat 0 (by omega); rw [add_add, Nat.add_zero] at this; exact this
      · have := hat 1 (by omega); rw [add_add] at this; exact this
    obtain ⟨us, hul, hus⟩ := choose_list _ len key
    by_cases h0 : cap = 0
    · have hl0 : len = 0 := by omega
      subst hl0 h0
      obtain rfl : us = [] := List.length_eq_zero_iff.1 hul
      exact ⟨[], (by intro u hu; cases hu), .inl ⟨⟨_, rfl⟩, rfl⟩, .inl rfl⟩
    · obtain ⟨cs', hc, ht⟩ := hi 0 (by omega)
      obtain ⟨u, _, rfl⟩ := upd_of ht
      obtain ⟨_, _, hat⟩ := World.cells?_some hc
      have h1 := hat 0 (by omega)
      obtain ⟨b, off, spot⟩ := a
      have hspot : spot = none := by simpa [Addr.add] using World.cell?_spot h1
      subst hspot
      have hb : b < w.heap.size := by
        rcases Nat.lt_or_ge b w.heap.size with h' | h'
        · exact h'
        · simp [World.cell?, Addr.add, Array.getElem?_eq_none h'] at h1
      refine ⟨us, ?_, .inr ⟨b, off, cap, by rw [hul], hb, fun k hk => ?_⟩, .inr ⟨_, _, by rw [hx], by simp [hul]⟩⟩
      · intro u hu
        obtain ⟨i, hi', rfl⟩ := List.getElem_of_mem hu
        exact (hus i hi').1
      · have := (hus k hk).2
        have hg : us.getD k (0, 0) = us[k] := by simp [hk]
        rw [hg]
        rw [add_plain0, add_plain0] at this
        simpa only [Nat.add_assoc] using this
theorem reach_of {ts : List TypeId} {ds : List (DataW H)} {j : Nat} {t : TypeId} {d : DataW H} (hsz : (DataW.weightsEach Tryz.prog ts ds).all (· ≤ reachBytes) = true) (ht : ts[j]? = some t) (hd : ds[j]? = some d) {n : Nat} (hn : n ∈ d.weights Tryz.prog t) : n ≤ reachBytes := by
  have := List.all_eq_true.1 hsz _ (DataW.weights_mem_each ht hd n hn)
  simpa using this
end
end Go.Proofs.YtfhdjekpdifajaaGreat
namespace Go.Proofs.YtfhdjekpdifajaaGreat
set_option linter.unusedVariables false
open Go.ChangeShapes Go.WideShapes Go.ChangeAt Go.RowKit Go.Deep
theorem own : ownKnob Tryz.prog.godebug = none := by kernel_rfl
theorem laidOut : laidOutB Tryz.prog = true := by kernel_rfl
section
variable {H : Type} {enc : TypeId × Value → H} {w : World} {held : Bool}
end
end Go.Proofs.YtfhdjekpdifajaaGreat
namespace Go.Proofs.YtfhdjekpdifajaaGreat
set_option linter.unusedVariables false
open Go.ChangeShapes Go.WideShapes Go.ChangeAt Go.RowKit Go.Deep
section
variable {H : Type} {enc : TypeId × Value → H} {w : World} {held : Bool}
set_option maxRecDepth 100000 in
theorem pairarg_of {r : Reach} {b0 : Nat} {v : Value} {d : DataW H} {p : List MemPlace} (hv : Value.okWide Tryz.prog w r b0 141 v) (h : DataW.Trod enc Tryz.prog w 0 (fun _ => true) held 141 v d p) :
    ∃ (a b : Int), I64 a ∧ I64 b ∧ v = .agg #[.int .i64 a, .int .i64 b] := by
  have hv' : ∃ cs, v = .agg cs ∧ cs.size = 2 := by
    simp only [Value.okWide, Tryz.underlying141] at hv
    obtain ⟨cs, h1, h2, _⟩ := hv
    exact ⟨cs, h1, h2.trans (by kernel_rfl)⟩
  obtain ⟨cs, rfl, hsz⟩ := hv'
  obtain ⟨fuel, hf⟩ := h
  obtain ⟨l⟩ := cs
  obtain ⟨xs, m, _, _, _, hl, hel⟩ := DataW.trod_array Tryz.underlying141 hf
  match l, hsz with
  | [c0, c1], _ =>
    match xs, hl with
    | [x0, x1], _ =>
      have hC : Tryz.prog.cellsOf 3 = 1 := by kernel_rfl
      have e0 : DataW.trod enc Tryz.prog w 0 (fun _ => true) held m 3 [c0] = some x0 := by have := hel 0 (by decide); rw [hC] at this; exact this
      have e1 : DataW.trod enc Tryz.prog w 0 (fun _ => true) held m 3 [c1] = some x1 := by have := hel 1 (by decide); rw [hC] at this; exact this
      obtain ⟨a0, h0, _, w0⟩ := DataW.trod_int Tryz.underlying3 e0
      obtain ⟨a1, h1, _, w1⟩ := DataW.trod_int Tryz.underlying3 e1
      simp only [List.cons.injEq, and_true] at h0 h1
      subst h0 h1
      exact ⟨a0, a1, wf_i64 w0, wf_i64 w1, rfl⟩
end
end Go.Proofs.YtfhdjekpdifajaaGreat
namespace Go.Proofs.YtfhdjekpdifajaaGreat
set_option linter.unusedVariables false
open Go.ChangeShapes Go.WideShapes Go.ChangeAt Go.RowKit Go.Deep
section
variable {H : Type} {enc : TypeId × Value → H} {w : World} {held : Bool}
set_option maxRecDepth 100000 in
theorem play19_of {r : Reach} {b0 : Nat} {v : Value} {d : DataW H} {p : List MemPlace} (hv : Value.okWide Tryz.prog w r b0 107 v) (h : DataW.Trod enc Tryz.prog w 0 (fun _ => true) held 107 v d p) :
    ∃ (x : Cfg) (us : List (Int × Int)) (u : Value), x.Raw ∧ UpsOk us ∧ UpsAt w u us ∧ v = .agg #[.int .i64 x.bits, .int .i64 x.rows, .int .i64 x.width, .int .i64 x.mode, .int .u64 x.seed, u] ∧
      ∀ (ts : List TypeId) (ds : List (DataW H)) (j : Nat), (DataW.weightsEach Tryz.prog ts ds).all (· ≤ reachBytes) = true → ts[j]? = some 107 → ds[j]? = some d → us.length ≤ 140737488355328 := by
  obtain ⟨cs, rfl, hsz⟩ := okWide_struct Tryz.underlying107 hv
  obtain ⟨fuel, hf⟩ := h
  obtain ⟨l⟩ := cs
  obtain ⟨xs, n, _, hd, hl, hx, hg⟩ := DataW.trod_struct Tryz.underlying107 hf
  have hl' : l.length = 6 := hsz.trans (by kernel_rfl)
  match l, hl' with
  | [c0, c1, c2, c3, c4, c6], _ =>
    have hx' : xs.length = 2 := hx.trans (by kernel_rfl)
    match xs, hx' with
    | [x0, x2], _ =>
      have e0 : DataW.trod enc Tryz.prog w 0 (fun _ => true) held n 24 [c0, c1, c2, c3, c4] = some x0 := hg 0 _ rfl
      have e2 : DataW.trod enc Tryz.prog w 0 (fun _ => true) held n 105 [c6] = some x2 := hg 1 _ rfl
      obtain ⟨x, hxr, hc⟩ := cfg_of e0
      obtain ⟨us, hu, hat, hlen⟩ := ups_of e2
      simp only [List.cons.injEq, and_true] at hc
      obtain ⟨rfl, rfl, rfl, rfl, rfl⟩ := hc
      simp only [Prod.mk.injEq] at hd
      refine ⟨x, us, c6, hxr, hu, hat, rfl, fun ts ds j hs ht hj => ?_⟩
      rcases hlen with rfl | ⟨el, sp, hx2, hel⟩
      · simp
      · have hb : Tryz.prog.bytesOf 138 = 16 := by kernel_rfl
        have := reach_of hs ht hj (n := (el.length + sp.length) * Tryz.prog.bytesOf 138) (by
          rw [hd.1]
          simp [DataW.weights, DataW.weightsEach, hx2, Tryz.underlying107, Tryz.underlying105])
        rw [hb] at this
        simp only [reachBytes] at this
        omega
end
end Go.Proofs.YtfhdjekpdifajaaGreat
namespace Go.Proofs.YtfhdjekpdifajaaGreat
set_option linter.unusedVariables false
open Go.ChangeShapes Go.WideShapes Go.ChangeAt Go.RowKit
set_option maxRecDepth 100000 in
theorem summaryFirst_lifted (os : Os) (started : os.Started) (H : Type) (enc : TypeId × Value → H) :
    ReturnsInHanded {} Tryz.checked os 13 .any (Rows.summaryFirstSpec.pre6 enc Tryz.prog Tryz.f13 Rows.summaryFirstRow.domain false) (Rows.summaryFirstSpec.post enc Tryz.prog Tryz.f13 false true false false) := by
  refine returnsInHanded_of_change_sized (C := Tryz.checked) own started (by kernel_rfl) Tryz.func13
    (ChangeSpec.witness6 (enc := enc) (C := Tryz.checked) false ⟨#[], #[.agg #[.int .i64 0, .int .i64 0, .int .i64 0, .int .i64 0, .int .u64 0, .slice none 0 0], .agg #[.int .i64 0, .int .i64 0], .int .i64 0], []⟩ 8 (by kernel_rfl) (by kernel_rfl) (by kernel_rfl) (by kernel_rfl)) ?_
  intro W base args ds gs before hval0 hW hcnd hsz0 _
  have hval : ∀ (j : Nat) t v, Tryz.f13.params[j]? = some t → args[j]? = some v → Value.okWide Tryz.prog W .any base t v := hval0
  have hW' := hW
  obtain ⟨p, q, hA0, hV, rfl, hfz, hnd⟩ := hW
  have hA : DataW.TrodAll enc Tryz.prog W 0 (fun _ => true) true Tryz.f13.params.toList args.toList ds p := hA0
  have hsz : (DataW.weightsEach Tryz.prog (Tryz.f13.params.toList ++ Rows.summaryFirstSpec.plain.varTypes Tryz.prog) (ds ++ gs)).all (· ≤ reachBytes) = true := hsz0
  rw [Tryz.params13] at hA hval hsz
  obtain ⟨v0, vs0, d0, ds0, p0, q0, hargs, rfl, rfl, h0, r0⟩ := trodAll_cons hA
  obtain ⟨v1, vs1, d1, ds1, p1, q1, rfl, rfl, rfl, h1, r1⟩ := trodAll_cons r0
  obtain ⟨v2, vs2, d2, ds2, p2, q2, rfl, rfl, rfl, h2, r2⟩ := trodAll_cons r1
  obtain ⟨rfl, rfl, rfl⟩ := trodAll_nil r2
  obtain rfl : args = #[v0, v1, v2] := by cases args; simp_all
  obtain ⟨rfl, rfl⟩ := trodVars_none hV
  have k0 := h0
  have k1 := h1
  have k2 := h2
  have lt0 : ∀ x ∈ p0, x.block < W.heap.size := by obtain ⟨m, hm⟩ := k0; exact DataW.trod_lt m _ _ _ hm
  have lt1 : ∀ x ∈ p1, x.block < W.heap.size := by obtain ⟨m, hm⟩ := k1; exact DataW.trod_lt m _ _ _ hm
  have lt2 : ∀ x ∈ p2, x.block < W.heap.size := by obtain ⟨m, hm⟩ := k2; exact DataW.trod_lt m _ _ _ hm
  obtain ⟨x0, us0, u0, hx0, hus0, hat0, rfl, hr0⟩ := play19_of (hval 0 _ v0 rfl rfl) h0
  have hul0 := hr0 _ _ 0 hsz rfl rfl
  obtain ⟨n1, m1, hn1, hm1, rfl⟩ := pairarg_of (hval 1 _ v1 rfl rfl) h1
  obtain ⟨n2, rfl, _, _, wf2⟩ := open_int Tryz.underlying2 (hval 2 _ v2 rfl rfl) h2
  have hn2 := wf_i64 wf2
  clear hA0 hval0
  refine (FirstL_c x0 hx0 us0 hus0 u0 n1 m1 n2 W hat0 hul0).mono fun e W' ⟨he, bel⟩ => ?_
  subst he
  exact ⟨_, rfl, _, _, _, [], _, [], hW', trodAll_mk1 (shut_bool Tryz.underlying4 _), (trodAll_cons_mk (Below.trod laidOut (by kernel_rfl) (of_decide_eq_true (by kernel_rfl)) k0 bel lt0) (trodAll_cons_mk (Below.trod laidOut (by kernel_rfl) (of_decide_eq_true (by kernel_rfl)) k1 bel lt1) (trodAll_cons_mk (Below.trod laidOut (by kernel_rfl) (of_decide_eq_true (by kernel_rfl)) k2 bel lt2) trodAll_mk0))), rfl, bel.frame _, fun h => by cases h⟩
end Go.Proofs.YtfhdjekpdifajaaGreat
