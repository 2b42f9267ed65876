/- MergeGroups: in the modes Linear and Median the merging of three parts is the same however the parts are grouped; and what is taken away again leaves what was there before. No condition: every input. -/
import Derived.Test.YtdenbmmbeeamcaaGreatL9

/- gaugerlaw20.MergeGroups, walked. -/
namespace Go.Proofs.YtdenbmmbeeamcaaGreat
set_option linter.unusedVariables false
open Go.RowKit
structure GroupLaw (B : Nat) (A Bv D X1 X2 Y1 : Nat → List Int) : Prop where
  x1 : ∀ n, n ≤ B → plusL (A n) (Bv n) = X1 n
  x2 : ∀ n, n ≤ B → plusL (X1 n) (D n) = X2 n
  y1 : ∀ n, n ≤ B → plusL (Bv n) (D n) = Y1 n
  y2 : ∀ n, n ≤ B → plusL (Y1 n) (A n) = X2 n
  m1 : ∀ n, n ≤ B → minusL (X2 n) (D n) = X1 n
  m2 : ∀ n, n ≤ B → minusL (X1 n) (Bv n) = A n
  aA : ∀ n, n ≤ B → allI (A n)
  a1 : ∀ n, n ≤ B → allI (X1 n)
  a2 : ∀ n, n ≤ B → allI (X2 n)
  b1 : ∀ n, n ≤ B → allI (Y1 n)
theorem group_law (C : Cfg) (B : Nat) (us vs ts : List (Int × Int)) (h1 : us.length ≤ 60) (h2 : vs.length ≤ 60) (h3 : ts.length ≤ 60) :
    GroupLaw B (feedT C false us) (feedT C false vs) (feedT C false ts) (fun n => plusL (feedT C false us n) (feedT C false vs n)) (fun n => plusL (plusL (feedT C false us n) (feedT C false vs n)) (feedT C false ts n)) (fun n => plusL (feedT C false vs n) (feedT C false ts n)) := by
  have e1 : ∀ n, (feedT C false us n).length = (feedT C false vs n).length := fun n => by rw [feedT_len, feedT_len]
  have e2 : ∀ n, (feedT C false us n).length = (feedT C false ts n).length := fun n => by rw [feedT_len, feedT_len]
  have b1 := feedT_bnd C false us
  have b2 := feedT_bnd C false vs
  have b3 := feedT_bnd C false ts
  refine ⟨fun n _ => rfl, fun n _ => rfl, fun n _ => rfl, fun n _ => ?_, fun n _ => ?_, fun n _ => ?_, fun n _ => ?_, fun n _ => ?_, fun n _ => ?_, fun n _ => ?_⟩
  · show plusL (plusL (feedT C false vs n) (feedT C false ts n)) (feedT C false us n) = plusL (plusL (feedT C false us n) (feedT C false vs n)) (feedT C false ts n)
    rw [plusL_comm (by rw [plusL_len]; exact (e1 n).symm), plusL_assoc (e1 n)]
  · exact minus_plus (by rw [plusL_len]; exact e2 n)
  · exact minus_plus (e1 n)
  · exact (b1 n).allI (by omega)
  · exact (plusL_bnd (b1 n) (b2 n) (by omega)).allI (by omega)
  · exact (plusL_bnd (plusL_bnd (b1 n) (b2 n) (by omega)) (b3 n) (by omega)).allI (by omega)
  · exact (plusL_bnd (b2 n) (b3 n) (by omega)).allI (by omega)
set_option maxRecDepth 20000 in
set_option maxHeartbeats 16000000 in
theorem MGroups_core (x : Cfg) (hx : x.Raw) (part part2 : Int) (k k2 : Nat) (hk60 : k ≤ 60) (hkk : k ≤ k2) (hk2 : k2 ≤ 60) (h16 : bits BinOp.and IntKind.i64 part 65535 = part % 65536) (h17 : bits BinOp.and IntKind.i64 part2 65535 = part2 % 65536) (hk : part % 65536 % 61 = k) (hr : (k : Int) + part2 % 65536 % (61 - (k : Int)) = k2) (h16b : 0 ≤ part % 65536 ∧ part % 65536 < 65536) (h17b : 0 ≤ part2 % 65536 ∧ part2 % 65536 < 65536) (us : List (Int × Int)) (hus : UpsOk us) (v : Value) (w : World) (hv : UpsAt w v us) (hul : us.length ≤ 140737488355328) :
    Calls Tryz.prog 16 #[.agg #[.int .i64 x.bits, .int .i64 x.rows, .int .i64 x.width, .int .i64 x.mode, .int .u64 x.seed, v], .int .i64 part, .int .i64 part2] w fun e w' => e = .returned (.bool true) ∧ Ext w w' := by
  obtain ⟨vp, vc, rfl⟩ := hv.sl
  have HV := Lib.hid hv
  have HK := Lib.hid hk
  have HR := Lib.hid hr
  have hz61 : ((61 : Int) - (k : Int) == 0) = false := by simp; omega
  have hz62 : ((61 : Int) - (k : Int) = 0) = False := by simp; omega
  have hr0 : 0 ≤ part2 % 65536 % (61 - (k : Int)) := Int.emod_nonneg _ (by omega)
  have hr1 : part2 % 65536 % (61 - (k : Int)) < 61 - (k : Int) := Int.emod_lt_of_pos _ (by omega)
  have hk0 : 0 ≤ part % 65536 % 61 := by omega
  clear hv hr
  go_enter Tryz.func16, Tryz.ntmps16
  go_wp2_with fail
  refine (shown20_c _).mono ?_
  rintro e w1 ⟨rfl, hb1⟩
  have hE : Ext w w1 := by (repeat' (first | exact Ext.refl _ | assumption | apply Ext.allocR | apply Ext.drewR | apply Ext.drewNR | (refine Ext.trans' ?_ (by assumption))))
  have hP := hb1.keep (heap_at w (.cells #[.int .i64 x.bits, .int .i64 x.rows, .int .i64 x.width, .int .i64 x.mode, .int .u64 x.seed, .slice vp us.length vc] 128) rfl)
  have hmo : (kcfg x 10 1).mode ≠ 2 := by unfold kcfg; rw [if_pos (by decide)]; show (1 : Int) ≠ 2; decide
  have hok := kcfg_ok x hx.s (nb := 10) (m := 1) (by decide) (by decide) (by decide)
  have HFF := Lib.hid (fun (i j : Nat) (hij : i ≤ j) (hj : j ≤ 60) (W : World) (hW : Ext w W) => fed20f_c x hx 1 (by decide) (by decide) us hus (.slice vp us.length vc) i j hij hj (fun h => by cases h) W (HV.out.ext hW) hul)
  clear hb1
  have p0 := (cell_of hP 0).trans rfl
  have p1 := (cell_of hP 1).trans rfl
  have p2 := (cell_of hP 2).trans rfl
  have p3 := (cell_of hP 3).trans rfl
  have p4 := (cell_of hP 4).trans rfl
  have p5 := (cell_of hP 5).trans rfl
  have pl := lt_of hP
  go_upto_region 4 with (fail)
  rw [hk] at *
  rw [HR.out]
  generalize kcfg x 10 1 = C at *
  obtain ⟨B, hB⟩ : ∃ B : Nat, C.bits = B := ⟨C.bits.toNat, by have := hok.b1; omega⟩
  have hBt : C.bits.toNat = B := by omega
  have HMO := Lib.hid hmo
  have HLAW := Lib.hid (group_law C B (fus us 0 k) (fus us k k2) (fus us k2 60) (Nat.le_trans (fus_len us 0 k) hk60) (Nat.le_trans (fus_len us k k2) hk2) (fus_len us k2 60))
  have HBT := Lib.hid hBt
  have hs1 := hE.size
  clear hBt hB h16 h17 hk0 h16b h17b hz61 hz62 hr0 hr1 hk hmo
  go_wp2_with fail
  refine Calls.mono (HFF.out 0 k (Nat.zero_le _) hk60 _ hE) ?_
  rintro e v1 ⟨s1, g1, L1, rfl, hKn, _, _, hFn, hxn⟩
  rw [HBT.out] at hKn hFn
  have I1 := Lib.hid (hKn.kin hFn)
  have hxm : Ext v1 (v1.alloc (.cells #[.int .i64 C.bits, .int .i64 C.rows, .int .i64 C.width, .int .i64 C.mode, .int .u64 C.seed] 24)) := Ext.alloc' _ _
  have hQ : (v1.alloc (.cells #[.int .i64 C.bits, .int .i64 C.rows, .int .i64 C.width, .int .i64 C.mode, .int .u64 C.seed] 24)).heap[v1.heap.size]? = some (.cells #[.int .i64 C.bits, .int .i64 C.rows, .int .i64 C.width, .int .i64 C.mode, .int .u64 C.seed] 24 (0, 0)) := heap_at _ _ rfl
  go_upto_region 5 with (fail)
  generalize v1.alloc (.cells #[.int .i64 C.bits, .int .i64 C.rows, .int .i64 C.width, .int .i64 C.mode, .int .u64 C.seed] 24) = v2 at *
  have hsn := hxn.size
  have hsm := hxm.size
  have hxx := hxn.trans' hxm
  have z1 := Lib.hid (And.intro hsn hsm)
  replace hP := hxx.keep hP
  replace hE := hE.trans' hxx
  have K1 := Lib.hid (hKn.ext hxm)
  clear hKn hFn hxn hxm hxx hsn hsm p0 p1 p2 p3 p4 p5 pl
  have p0 := (cell_of hP 0).trans rfl
  have p1 := (cell_of hP 1).trans rfl
  have p2 := (cell_of hP 2).trans rfl
  have p3 := (cell_of hP 3).trans rfl
  have p4 := (cell_of hP 4).trans rfl
  have p5 := (cell_of hP 5).trans rfl
  have pl := lt_of hP
  go_wp2_with fail
  refine Calls.mono (HFF.out k k2 hkk hk2 _ hE) ?_
  rintro e v3 ⟨s2, g2, L2, rfl, hKn, _, _, hFn, hxn⟩
  rw [HBT.out] at hKn hFn
  have I2 := Lib.hid (hKn.kin hFn)
  have hxm : Ext v3 (v3.alloc (.cells #[.int .i64 C.bits, .int .i64 C.rows, .int .i64 C.width, .int .i64 C.mode, .int .u64 C.seed] 24)) := Ext.alloc' _ _
  go_upto_region 6 with (fail)
  generalize v3.alloc (.cells #[.int .i64 C.bits, .int .i64 C.rows, .int .i64 C.width, .int .i64 C.mode, .int .u64 C.seed] 24) = v4 at *
  have hsn := hxn.size
  have hsm := hxm.size
  have hxx := hxn.trans' hxm
  have z2 := Lib.hid (And.intro hsn hsm)
  replace K1 := Lib.hid (K1.out.ext hxx)
  replace hP := hxx.keep hP
  replace hQ := hxx.keep hQ
  replace hE := hE.trans' hxx
  have K2 := Lib.hid (hKn.ext hxm)
  clear hKn hFn hxn hxm hxx hsn hsm p0 p1 p2 p3 p4 p5 pl
  have p0 := (cell_of hP 0).trans rfl
  have p1 := (cell_of hP 1).trans rfl
  have p2 := (cell_of hP 2).trans rfl
  have p3 := (cell_of hP 3).trans rfl
  have p4 := (cell_of hP 4).trans rfl
  have p5 := (cell_of hP 5).trans rfl
  have pl := lt_of hP
  go_wp2_with fail
  refine Calls.mono (HFF.out k2 60 hk2 (Nat.le_refl _) _ hE) ?_
  rintro e v5 ⟨s3, g3, L3, rfl, hKn, _, _, hFn, hxn⟩
  rw [HBT.out] at hKn hFn
  have I3 := Lib.hid (hKn.kin hFn)
  have hxm : Ext v5 (v5.alloc (.cells #[.int .i64 C.bits, .int .i64 C.rows, .int .i64 C.width, .int .i64 C.mode, .int .u64 C.seed] 24)) := Ext.alloc' _ _
  go_upto_region 7 with (fail)
  generalize v5.alloc (.cells #[.int .i64 C.bits, .int .i64 C.rows, .int .i64 C.width, .int .i64 C.mode, .int .u64 C.seed] 24) = v6 at *
  have hsn := hxn.size
  have hsm := hxm.size
  have hxx := hxn.trans' hxm
  have z3 := Lib.hid (And.intro hsn hsm)
  replace K1 := Lib.hid (K1.out.ext hxx)
  replace K2 := Lib.hid (K2.out.ext hxx)
  replace hP := hxx.keep hP
  replace hQ := hxx.keep hQ
  replace hE := hE.trans' hxx
  have K3 := Lib.hid (hKn.ext hxm)
  clear hKn hFn hxn hxm hxx hsn hsm p0 p1 p2 p3 p4 p5 pl
  have p0 := (cell_of hP 0).trans rfl
  have p1 := (cell_of hP 1).trans rfl
  have p2 := (cell_of hP 2).trans rfl
  have p3 := (cell_of hP 3).trans rfl
  have p4 := (cell_of hP 4).trans rfl
  have p5 := (cell_of hP 5).trans rfl
  have pl := lt_of hP
  clear p0 p1 p2 p3 p4 p5 pl HFF
  generalize feedT C false (fus us 0 k) = fA at *
  generalize feedT C false (fus us k k2) = fB at *
  generalize feedT C false (fus us k2 60) = fD at *
  generalize (fun n => plusL (plusL (fA n) (fB n)) (fD n)) = fX at *
  generalize (fun n => plusL (fA n) (fB n)) = fX1 at *
  generalize (fun n => plusL (fB n) (fD n)) = fY1 at *
  go_wp2_with fail
  refine Calls.mono (KCopy_c s1 g1 C B L1 fA _ K1.out) ?_
  rintro e v7 ⟨s4, g4, L4, rfl, hKn, _, _, hFn, hxn⟩
  have I4 := Lib.hid (hKn.kin hFn)
  have z4 := Lib.hid hxn.size
  replace K1 := Lib.hid (K1.out.ext hxn)
  replace K2 := Lib.hid (K2.out.ext hxn)
  replace K3 := Lib.hid (K3.out.ext hxn)
  replace hQ := hxn.keep hQ
  replace hE := hE.trans' hxn
  have K4 := Lib.hid hKn
  clear hKn hFn hxn
  go_wp2_with fail
  refine Calls.mono (KCopy_c s2 g2 C B L2 fB _ K2.out) ?_
  rintro e v8 ⟨s5, g5, L5, rfl, hKn, _, _, hFn, hxn⟩
  have I5 := Lib.hid (hKn.kin hFn)
  have z5 := Lib.hid hxn.size
  replace K1 := Lib.hid (K1.out.ext hxn)
  replace K2 := Lib.hid (K2.out.ext hxn)
  replace K3 := Lib.hid (K3.out.ext hxn)
  replace K4 := Lib.hid (K4.out.ext hxn)
  replace hQ := hxn.keep hQ
  replace hE := hE.trans' hxn
  have K5 := Lib.hid hKn
  clear hKn hFn hxn
  have ZZ := Lib.hid (And.intro hs1 (And.intro z1.out (And.intro z2.out (And.intro z3.out (And.intro z4.out z5.out)))))
  clear hs1 z1 z2 z3 z4 z5
  go_wp2_with fail
  refine Calls.mono (KMerge_c s4 g4 s2 g2 C B L4 L2 fA fB _ K4.out K2.out (fun h => absurd h (by decide))) ?_
  intro e v9 hjn
  obtain ⟨rfl, hKn, hMn⟩ := kj_ok hjn (fun n hn => by rw [HLAW.out.x1 n hn]; exact HLAW.out.a1 n hn)
  have hQn := K4.out.blk hMn hQ (by decide)
  replace K1 := Lib.hid (K1.out.part K4.out hMn I1.out I4.out (by have := ZZ.out; omega))
  replace K2 := Lib.hid (K2.out.part K4.out hMn I2.out I4.out (by have := ZZ.out; omega))
  replace K3 := Lib.hid (K3.out.part K4.out hMn I3.out I4.out (by have := ZZ.out; omega))
  replace K5 := Lib.hid (K5.out.part K4.out hMn I5.out I4.out (by have := ZZ.out; omega))
  replace K4 := Lib.hid (hKn.cong (fun n hn => HLAW.out.x1 n hn))
  replace hQ := hQn
  replace hE : Ext w v9 := KAt.extm (s := 0) (g := 0) (C := C) (ls := fA) hE hMn I4.out (by have := ZZ.out; omega)
  clear hjn hKn hMn hQn
  go_wp2_with fail
  refine Calls.mono (KMerge_c s4 g4 s3 g3 C B L4 L3 fX1 fD _ K4.out K3.out (fun h => absurd h (by decide))) ?_
  intro e v10 hjn
  obtain ⟨rfl, hKn, hMn⟩ := kj_ok hjn (fun n hn => by rw [HLAW.out.x2 n hn]; exact HLAW.out.a2 n hn)
  have hQn := K4.out.blk hMn hQ (by decide)
  replace K1 := Lib.hid (K1.out.part K4.out hMn I1.out I4.out (by have := ZZ.out; omega))
  replace K2 := Lib.hid (K2.out.part K4.out hMn I2.out I4.out (by have := ZZ.out; omega))
  replace K3 := Lib.hid (K3.out.part K4.out hMn I3.out I4.out (by have := ZZ.out; omega))
  replace K5 := Lib.hid (K5.out.part K4.out hMn I5.out I4.out (by have := ZZ.out; omega))
  replace K4 := Lib.hid (hKn.cong (fun n hn => HLAW.out.x2 n hn))
  replace hQ := hQn
  replace hE : Ext w v10 := KAt.extm (s := 0) (g := 0) (C := C) (ls := fX1) hE hMn I4.out (by have := ZZ.out; omega)
  clear hjn hKn hMn hQn
  go_wp2_with fail
  refine Calls.mono (KMerge_c s5 g5 s3 g3 C B L5 L3 fB fD _ K5.out K3.out (fun h => absurd h (by decide))) ?_
  intro e v11 hjn
  obtain ⟨rfl, hKn, hMn⟩ := kj_ok hjn (fun n hn => by rw [HLAW.out.y1 n hn]; exact HLAW.out.b1 n hn)
  have hQn := K5.out.blk hMn hQ (by decide)
  replace K1 := Lib.hid (K1.out.part K5.out hMn I1.out I5.out (by have := ZZ.out; omega))
  replace K2 := Lib.hid (K2.out.part K5.out hMn I2.out I5.out (by have := ZZ.out; omega))
  replace K3 := Lib.hid (K3.out.part K5.out hMn I3.out I5.out (by have := ZZ.out; omega))
  replace K4 := Lib.hid (K4.out.part K5.out hMn I4.out I5.out (by have := ZZ.out; omega))
  replace K5 := Lib.hid (hKn.cong (fun n hn => HLAW.out.y1 n hn))
  replace hQ := hQn
  replace hE : Ext w v11 := KAt.extm (s := 0) (g := 0) (C := C) (ls := fB) hE hMn I5.out (by have := ZZ.out; omega)
  clear hjn hKn hMn hQn
  go_wp2_with fail
  refine Calls.mono (KMerge_c s5 g5 s1 g1 C B L5 L1 fY1 fA _ K5.out K1.out (fun h => absurd h (by decide))) ?_
  intro e v12 hjn
  obtain ⟨rfl, hKn, hMn⟩ := kj_ok hjn (fun n hn => by rw [HLAW.out.y2 n hn]; exact HLAW.out.a2 n hn)
  have hQn := K5.out.blk hMn hQ (by decide)
  replace K1 := Lib.hid (K1.out.part K5.out hMn I1.out I5.out (by have := ZZ.out; omega))
  replace K2 := Lib.hid (K2.out.part K5.out hMn I2.out I5.out (by have := ZZ.out; omega))
  replace K3 := Lib.hid (K3.out.part K5.out hMn I3.out I5.out (by have := ZZ.out; omega))
  replace K4 := Lib.hid (K4.out.part K5.out hMn I4.out I5.out (by have := ZZ.out; omega))
  replace K5 := Lib.hid (hKn.cong (fun n hn => HLAW.out.y2 n hn))
  replace hQ := hQn
  replace hE : Ext w v12 := KAt.extm (s := 0) (g := 0) (C := C) (ls := fY1) hE hMn I5.out (by have := ZZ.out; omega)
  clear hjn hKn hMn hQn
  have q0 := (cell_of hQ 0).trans rfl
  have ql := lt_of hQ
  go_wp2_with fail
  refine Calls.mono (Alike20_c s4 g4 s5 g5 C B L4 L5 _ _ _ K4.out K5.out (fun n _ => rfl)) ?_
  rintro e v13 ⟨rfl, hxn⟩
  replace K1 := Lib.hid (K1.out.ext hxn)
  replace K2 := Lib.hid (K2.out.ext hxn)
  replace K3 := Lib.hid (K3.out.ext hxn)
  replace K4 := Lib.hid (K4.out.ext hxn)
  replace K5 := Lib.hid (K5.out.ext hxn)
  replace hQ := hxn.keep hQ
  replace hE := hE.trans' hxn
  clear hxn q0 ql
  go_wp2_with fail
  refine Calls.mono (KSubtract_c s4 g4 s3 g3 C B L4 L3 fX fD _ K4.out K3.out (fun _ => HMO.out)) ?_
  intro e v14 hjn
  obtain ⟨rfl, hKn, hMn⟩ := kj_ok hjn (fun n hn => by rw [HLAW.out.m1 n hn]; exact HLAW.out.a1 n hn)
  have hQn := K4.out.blk hMn hQ (by decide)
  replace K1 := Lib.hid (K1.out.part K4.out hMn I1.out I4.out (by have := ZZ.out; omega))
  replace K2 := Lib.hid (K2.out.part K4.out hMn I2.out I4.out (by have := ZZ.out; omega))
  replace K3 := Lib.hid (K3.out.part K4.out hMn I3.out I4.out (by have := ZZ.out; omega))
  replace K5 := Lib.hid (K5.out.part K4.out hMn I5.out I4.out (by have := ZZ.out; omega))
  replace K4 := Lib.hid (hKn.cong (fun n hn => HLAW.out.m1 n hn))
  replace hQ := hQn
  replace hE : Ext w v14 := KAt.extm (s := 0) (g := 0) (C := C) (ls := fX) hE hMn I4.out (by have := ZZ.out; omega)
  clear hjn hKn hMn hQn
  go_wp2_with fail
  refine Calls.mono (KSubtract_c s4 g4 s2 g2 C B L4 L2 fX1 fB _ K4.out K2.out (fun _ => HMO.out)) ?_
  intro e v15 hjn
  obtain ⟨rfl, hKn, hMn⟩ := kj_ok hjn (fun n hn => by rw [HLAW.out.m2 n hn]; exact HLAW.out.aA n hn)
  have hQn := K4.out.blk hMn hQ (by decide)
  replace K1 := Lib.hid (K1.out.part K4.out hMn I1.out I4.out (by have := ZZ.out; omega))
  replace K2 := Lib.hid (K2.out.part K4.out hMn I2.out I4.out (by have := ZZ.out; omega))
  replace K3 := Lib.hid (K3.out.part K4.out hMn I3.out I4.out (by have := ZZ.out; omega))
  replace K5 := Lib.hid (K5.out.part K4.out hMn I5.out I4.out (by have := ZZ.out; omega))
  replace K4 := Lib.hid (hKn.cong (fun n hn => HLAW.out.m2 n hn))
  replace hQ := hQn
  replace hE : Ext w v15 := KAt.extm (s := 0) (g := 0) (C := C) (ls := fX1) hE hMn I4.out (by have := ZZ.out; omega)
  clear hjn hKn hMn hQn
  have q0 := (cell_of hQ 0).trans rfl
  have ql := lt_of hQ
  go_wp2_with fail
  refine Calls.mono (Alike20_c s4 g4 s1 g1 C B L4 L1 _ _ _ K4.out K1.out (fun n _ => rfl)) ?_
  rintro e v16 ⟨rfl, hxn⟩
  replace K1 := Lib.hid (K1.out.ext hxn)
  replace K2 := Lib.hid (K2.out.ext hxn)
  replace K3 := Lib.hid (K3.out.ext hxn)
  replace K4 := Lib.hid (K4.out.ext hxn)
  replace K5 := Lib.hid (K5.out.ext hxn)
  replace hQ := hxn.keep hQ
  replace hE := hE.trans' hxn
  clear hxn q0 ql
  go_wp2
  go_ret
  exact ⟨rfl, hE⟩
theorem MGroupsL_c (x : Cfg) (hx : x.Raw) (part : Int) (hpart : I64 part) (part2 : Int) (hpart2 : I64 part2) (us : List (Int × Int)) (hus : UpsOk us) (v : Value) (w : World) (hv : UpsAt w v us) (hul : us.length ≤ 140737488355328) :
    Calls Tryz.prog 16 #[.agg #[.int .i64 x.bits, .int .i64 x.rows, .int .i64 x.width, .int .i64 x.mode, .int .u64 x.seed, v], .int .i64 part, .int .i64 part2] w fun e w' => e = .returned (.bool true) ∧ Ext w w' := by
  have h1 := Int.emod_nonneg (part % 65536) (show (61 : Int) ≠ 0 by decide)
  have h2 := Int.emod_lt_of_pos (part % 65536) (show (0 : Int) < 61 by decide)
  obtain ⟨k, hk⟩ : ∃ k : Nat, part % 65536 % 61 = k := ⟨(part % 65536 % 61).toNat, by omega⟩
  have h3 := Int.emod_nonneg (part2 % 65536) (show (61 - (k : Int)) ≠ 0 by omega)
  have h4 := Int.emod_lt_of_pos (part2 % 65536) (show (0 : Int) < 61 - (k : Int) by omega)
  obtain ⟨r, hr⟩ : ∃ r : Nat, part2 % 65536 % (61 - (k : Int)) = r := ⟨(part2 % 65536 % (61 - (k : Int))).toNat, by omega⟩
  exact MGroups_core x hx part part2 k (k + r) (by omega) (by omega) (by omega) (and16 part) (and16 part2) hk (by rw [hr]; push_cast; rfl) ⟨by omega, by omega⟩ ⟨by omega, by omega⟩ us hus v w hv hul
end Go.Proofs.YtdenbmmbeeamcaaGreat

/- MergeGroups: in the modes Linear and Median the merging of three parts is the same however the parts are grouped; and what is taken away again leaves what was there before. No condition: every input. -/
namespace Go.Proofs.YtdenbmmbeeamcaaGreat
set_option linter.unusedVariables false
open Go.ChangeShapes Go.WideShapes Go.ChangeAt Go.RowKit

set_option maxRecDepth 100000 in
theorem mergeGroups_lifted (os : Os) (started : os.Started) (H : Type) (enc : TypeId × Value → H) :
    ReturnsInHanded {} Tryz.checked os 16 .any (Rows.mergeGroupsSpec.pre6 enc Tryz.prog Tryz.f16 Rows.mergeGroupsRow.domain false) (Rows.mergeGroupsSpec.post enc Tryz.prog Tryz.f16 false true false false) := by
  refine returnsInHanded_of_change_sized (C := Tryz.checked) own started (by kernel_rfl) Tryz.func16
    (ChangeSpec.witness6 (enc := enc) (C := Tryz.checked) false ⟨#[], #[.agg #[.int .i64 0, .int .i64 0, .int .i64 0, .int .i64 0, .int .u64 0, .slice none 0 0], .int .i64 0, .int .i64 0], []⟩ 8 (by kernel_rfl) (by kernel_rfl) (by kernel_rfl) (by kernel_rfl)) ?_
  intro W base args ds gs before hval0 hW hcnd hsz0 _
  have hval : ∀ (j : Nat) t v, Tryz.f16.params[j]? = some t → args[j]? = some v → Value.okWide Tryz.prog W .any base t v := hval0
  have hW' := hW
  obtain ⟨p, q, hA0, hV, rfl, hfz, hnd⟩ := hW
  have hA : DataW.TrodAll enc Tryz.prog W 0 (fun _ => true) true Tryz.f16.params.toList args.toList ds p := hA0
  have hsz : (DataW.weightsEach Tryz.prog (Tryz.f16.params.toList ++ Rows.mergeGroupsSpec.plain.varTypes Tryz.prog) (ds ++ gs)).all (· ≤ reachBytes) = true := hsz0
  rw [Tryz.params16] at hA hval hsz
  obtain ⟨v0, vs0, d0, ds0, p0, q0, hargs, rfl, rfl, h0, r0⟩ := trodAll_cons hA
  obtain ⟨v1, vs1, d1, ds1, p1, q1, rfl, rfl, rfl, h1, r1⟩ := trodAll_cons r0
  obtain ⟨v2, vs2, d2, ds2, p2, q2, rfl, rfl, rfl, h2, r2⟩ := trodAll_cons r1
  obtain ⟨rfl, rfl, rfl⟩ := trodAll_nil r2
  obtain rfl : args = #[v0, v1, v2] := by cases args; simp_all
  obtain ⟨rfl, rfl⟩ := trodVars_none hV
  have k0 := h0
  have k1 := h1
  have k2 := h2
  have lt0 : ∀ x ∈ p0, x.block < W.heap.size := by obtain ⟨m, hm⟩ := k0; exact DataW.trod_lt m _ _ _ hm
  have lt1 : ∀ x ∈ p1, x.block < W.heap.size := by obtain ⟨m, hm⟩ := k1; exact DataW.trod_lt m _ _ _ hm
  have lt2 : ∀ x ∈ p2, x.block < W.heap.size := by obtain ⟨m, hm⟩ := k2; exact DataW.trod_lt m _ _ _ hm
  obtain ⟨x0, us0, u0, hx0, hus0, hat0, rfl, hr0⟩ := play20_of (hval 0 _ v0 rfl rfl) h0
  have hul0 := hr0 _ _ 0 hsz rfl rfl
  obtain ⟨n1, rfl, _, _, wf1⟩ := open_int Tryz.underlying3 (hval 1 _ v1 rfl rfl) h1
  have hn1 := wf_i64 wf1
  obtain ⟨n2, rfl, _, _, wf2⟩ := open_int Tryz.underlying3 (hval 2 _ v2 rfl rfl) h2
  have hn2 := wf_i64 wf2
  clear hA0 hval0
  refine (MGroupsL_c x0 hx0 n1 hn1 n2 hn2 us0 hus0 u0 W hat0 hul0).mono fun e W' ⟨he, bel⟩ => ?_
  subst he
  exact ⟨_, rfl, _, _, _, [], _, [], hW', trodAll_mk1 (shut_bool Tryz.underlying4 _), (trodAll_cons_mk (Below.trod laidOut (by kernel_rfl) (of_decide_eq_true (by kernel_rfl)) k0 bel lt0) (trodAll_cons_mk (Below.trod laidOut (by kernel_rfl) (of_decide_eq_true (by kernel_rfl)) k1 bel lt1) (trodAll_cons_mk (Below.trod laidOut (by kernel_rfl) (of_decide_eq_true (by kernel_rfl)) k2 bel lt2) trodAll_mk0))), rfl, bel.frame _, fun h => by cases h⟩
end Go.Proofs.YtdenbmmbeeamcaaGreat
