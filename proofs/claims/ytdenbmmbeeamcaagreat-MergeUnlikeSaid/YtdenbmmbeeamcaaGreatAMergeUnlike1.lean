/- MergeUnlike: stacks of unlike configs are not put together and have no product, and stay as they were; neither are they with none. No condition: every input. -/
import Derived.Test.YtdenbmmbeeamcaaGreatL9
import Derived.Test.YtdenbmmbeeamcaaGreatL5
import Derived.Test.YtdenbmmbeeamcaaGreatL11

/- gaugerlaw20.MergeUnlike, walked. -/
namespace Go.Proofs.YtdenbmmbeeamcaaGreat
set_option linter.unusedVariables false
open Go.RowKit
/-- Small cells have a product. -/
theorem lvInn_fit {C : Cfg} (hok : C.Ok) (hw : C.width ≤ 1000) {lv : Int} (h0 : 0 ≤ lv) {l m : List Int} (hl : Bnd 35184372088832 l) (hm : Bnd 35184372088832 m) : ∃ z, lvInn C lv l m = some z := by
  unfold lvInn
  have hw1 := hok.w1
  have hwN := wN_eq hok
  cases hx : isX C lv with
  | true =>
    have h3 : keys C lv ≤ C.width := of_decide_eq_true hx
    have h4 := kN_eq hok h0
    exact ⟨_, (dotF_fit hl hm _ (by omega)).1⟩
  | false => exact ⟨_, innF_fit hl hm (by omega) _⟩
theorem Bnd.le' {B B' : Int} {l : List Int} (h : Bnd B l) (hB : B ≤ B') : Bnd B' l := fun x hx => by have := h x hx; omega
theorem cutD_bnd (m d : Int) : -1099511627776 ≤ cutD m d ∧ cutD m d ≤ 1099511627776 := by
  have := tmod_bd d
  unfold cutD
  cases decide (m = 2) with
  | true => show -1099511627776 ≤ max _ _ ∧ max _ _ ≤ (1099511627776 : Int); omega
  | false => show -1099511627776 ≤ d.tmod 1099511627776 ∧ d.tmod 1099511627776 ≤ (1099511627776 : Int); omega
theorem cutD_pos {m d : Int} (h : m = 2) : 0 ≤ cutD m d := by
  unfold cutD
  rw [decide_eq_true h]
  show 0 ≤ max _ _
  omega
/-- A stack that was fed one update. -/
def oneK (C : Cfg) (key d : Int) : Nat → List Int := updK C (fun n => zs (lvN C n)) key d
structure OneOk (C : Cfg) (B : Nat) (n d : Int) : Prop where
  e : errK C B (fun n => zs (lvN C n)) (cutK C 0 n) (cutD C.mode d) = 0
  b : ∀ k, Bnd 1099511627776 (oneK C (cutK C 0 n) (cutD C.mode d) k)
  u : U64 (cutK C 0 n)
  i : I64 (cutD C.mode d)
theorem one_ok {C : Cfg} (hok : C.Ok) {B : Nat} (hB : C.bits = B) (n d : Int) : OneOk C B n d := by
  have hk := cutK_bd C hok 0 n (Int.le_refl 0)
  have hd := cutD_bnd C.mode d
  have hkb := keys_bd C hok 0 (Int.le_refl 0)
  refine ⟨?_, fun k => ?_, ?_, ?_⟩
  · exact errK_ok hok hB (B' := 0) (T := 1099511627776) (fun n _ => zs_bnd _) (by decide) (by decide) hd (by decide) hk.1 hk.2 (fun h => cutD_pos h)
  · exact updK_bnd (B' := 0) (T := 1099511627776) (zs_bnd _) (by decide) (by decide) hd
  · unfold U64; omega
  · unfold I64; omega
set_option maxRecDepth 20000 in
set_option maxHeartbeats 16000000 in
theorem MUnlikeL_c (x : Cfg) (hx : x.Raw) (y : Cfg) (hy : y.Raw) (n1 m1 n2 m2 : Int) (hn1 : U64 n1) (hm1 : I64 m1) (hn2 : U64 n2) (hm2 : I64 m2) (w : World) :
    Calls Tryz.prog 17 #[.agg #[.int .i64 x.bits, .int .i64 x.rows, .int .i64 x.width, .int .i64 x.mode, .int .u64 x.seed], .agg #[.int .i64 y.bits, .int .i64 y.rows, .int .i64 y.width, .int .i64 y.mode, .int .u64 y.seed], .agg #[.int .u64 n1, .int .i64 m1, .int .u64 n2, .int .i64 m2]] w fun e w' => e = .returned (.bool true) ∧ Ext w w' := by
  go_enter Tryz.func17, Tryz.ntmps17
  go_wp2_with fail
  refine (shown20_c _).mono ?_
  rintro e w1 ⟨rfl, hb1⟩
  have hE : Ext w w1 := by (repeat' (first | exact Ext.refl _ | assumption | apply Ext.allocR | apply Ext.drewR | apply Ext.drewNR | (refine Ext.trans' ?_ (by assumption))))
  have hP := hb1.keep (((Ext.alloc' _ _).trans' (Ext.alloc' _ _)).keep (heap_at w (.cells #[.int .i64 x.bits, .int .i64 x.rows, .int .i64 x.width, .int .i64 x.mode, .int .u64 x.seed] 24) rfl))
  have hR := hb1.keep ((Ext.alloc' _ _).keep (heap_at _ (.cells #[.int .i64 y.bits, .int .i64 y.rows, .int .i64 y.width, .int .i64 y.mode, .int .u64 y.seed] 24) (by rw [size_alloc])))
  have hU := hb1.keep (heap_at _ (.cells #[.int .u64 n1, .int .i64 m1, .int .u64 n2, .int .i64 m2] 141) (by rw [size_alloc, size_alloc]))
  clear hb1
  have p0 := (cell_of hP 0).trans rfl
  have p1 := (cell_of hP 1).trans rfl
  have p2 := (cell_of hP 2).trans rfl
  have p3 := (cell_of hP 3).trans rfl
  have p4 := (cell_of hP 4).trans rfl
  have pl := lt_of hP
  go_wp2_with fail
  refine Calls.mono (Any_c x hx 6 9 (by decide) (by decide) (by decide) (by decide) _) ?_
  rintro e w10 ⟨rfl, hxa⟩
  have hxm : Ext w10 (w10.alloc (.cells #[.int .i64 (mkC x 6 9).bits, .int .i64 (mkC x 6 9).rows, .int .i64 (mkC x 6 9).width, .int .i64 (mkC x 6 9).mode, .int .u64 (mkC x 6 9).seed] 24)) := Ext.alloc' _ _
  have hQ : (w10.alloc (.cells #[.int .i64 (mkC x 6 9).bits, .int .i64 (mkC x 6 9).rows, .int .i64 (mkC x 6 9).width, .int .i64 (mkC x 6 9).mode, .int .u64 (mkC x 6 9).seed] 24)).heap[w10.heap.size]? = some (.cells #[.int .i64 (mkC x 6 9).bits, .int .i64 (mkC x 6 9).rows, .int .i64 (mkC x 6 9).width, .int .i64 (mkC x 6 9).mode, .int .u64 (mkC x 6 9).seed] 24 (0, 0)) := heap_at _ _ rfl
  go_upto_region 3 with (fail)
  generalize w10.alloc (.cells #[.int .i64 (mkC x 6 9).bits, .int .i64 (mkC x 6 9).rows, .int .i64 (mkC x 6 9).width, .int .i64 (mkC x 6 9).mode, .int .u64 (mkC x 6 9).seed] 24) = w11 at *
  clear p0 p1 p2 p3 p4 pl
  have hxx := hxa.trans' hxm
  replace hP := hxx.keep hP
  replace hR := hxx.keep hR
  replace hU := hxx.keep hU
  replace hE := hE.trans' hxx
  clear hxa hxm hxx
  have p0 := (cell_of hR 0).trans rfl
  have p1 := (cell_of hR 1).trans rfl
  have p2 := (cell_of hR 2).trans rfl
  have p3 := (cell_of hR 3).trans rfl
  have p4 := (cell_of hR 4).trans rfl
  have pl := lt_of hR
  go_wp2_with fail
  refine Calls.mono (Any_c y hy 6 9 (by decide) (by decide) (by decide) (by decide) _) ?_
  rintro e w12 ⟨rfl, hxa⟩
  have hxm : Ext w12 (w12.alloc (.cells #[.int .i64 (mkC y 6 9).bits, .int .i64 (mkC y 6 9).rows, .int .i64 (mkC y 6 9).width, .int .i64 (mkC y 6 9).mode, .int .u64 (mkC y 6 9).seed] 24)) := Ext.alloc' _ _
  have hT : (w12.alloc (.cells #[.int .i64 (mkC y 6 9).bits, .int .i64 (mkC y 6 9).rows, .int .i64 (mkC y 6 9).width, .int .i64 (mkC y 6 9).mode, .int .u64 (mkC y 6 9).seed] 24)).heap[w12.heap.size]? = some (.cells #[.int .i64 (mkC y 6 9).bits, .int .i64 (mkC y 6 9).rows, .int .i64 (mkC y 6 9).width, .int .i64 (mkC y 6 9).mode, .int .u64 (mkC y 6 9).seed] 24 (0, 0)) := heap_at _ _ rfl
  go_upto_region 4 with (fail)
  generalize w12.alloc (.cells #[.int .i64 (mkC y 6 9).bits, .int .i64 (mkC y 6 9).rows, .int .i64 (mkC y 6 9).width, .int .i64 (mkC y 6 9).mode, .int .u64 (mkC y 6 9).seed] 24) = w13 at *
  clear p0 p1 p2 p3 p4 pl
  have hxx := hxa.trans' hxm
  replace hP := hxx.keep hP
  replace hR := hxx.keep hR
  replace hU := hxx.keep hU
  replace hQ := hxx.keep hQ
  replace hE := hE.trans' hxx
  clear hxa hxm hxx
  have okC := mkC_ok x hx.s (nb := 6) (nw := 9) (by decide) (by decide) (by decide) (by decide)
  have okD := mkC_ok y hy.s (nb := 6) (nw := 9) (by decide) (by decide) (by decide) (by decide)
  have hCw : (mkC x 6 9).width ≤ 1000 := by have := Int.emod_lt_of_pos (x.width % 65536) (show (0 : Int) < 9 by decide); show 1 + x.width % 65536 % 9 ≤ 1000; omega
  generalize mkC x 6 9 = C at *
  generalize mkC y 6 9 = D at *
  obtain ⟨B, hB⟩ : ∃ B : Nat, C.bits = B := ⟨C.bits.toNat, by have := okC.b1; omega⟩
  obtain ⟨B2, hB2⟩ : ∃ B2 : Nat, D.bits = B2 := ⟨D.bits.toNat, by have := okD.b1; omega⟩
  have HBT := Lib.hid (show C.bits.toNat = B by omega)
  have HBT2 := Lib.hid (show D.bits.toNat = B2 by omega)
  have HO1 := Lib.hid (one_ok okC hB n1 m1)
  have HO2 := Lib.hid (one_ok okD hB2 n2 m2)
  have HCW := Lib.hid hCw
  have HOKC := Lib.hid okC
  have HOKD := Lib.hid okD
  have HBB := Lib.hid (And.intro hB hB2)
  have hs0 := hE.size
  clear hP hR hB hB2 hCw okC okD
  have p0 := (cell_of hQ 0).trans rfl
  have p1 := (cell_of hQ 1).trans rfl
  have p2 := (cell_of hQ 2).trans rfl
  have p3 := (cell_of hQ 3).trans rfl
  have p4 := (cell_of hQ 4).trans rfl
  have pl := lt_of hQ
  go_wp2_with fail
  refine Calls.mono (KNew_c C HOKC.out _) ?_
  rintro e w14 ⟨s1, g1, L1, rfl, hKn, _, _, hFn, hxn⟩
  rw [HBT.out] at hKn hFn
  have I1 := Lib.hid (hKn.kin hFn)
  have z1 := Lib.hid hxn.size
  replace hU := hxn.keep hU
  replace hQ := hxn.keep hQ
  replace hT := hxn.keep hT
  replace hE := hE.trans' hxn
  have K1 := Lib.hid hKn
  clear p0 p1 p2 p3 p4 pl
  clear hKn hFn hxn
  have p0 := (cell_of hT 0).trans rfl
  have p1 := (cell_of hT 1).trans rfl
  have p2 := (cell_of hT 2).trans rfl
  have p3 := (cell_of hT 3).trans rfl
  have p4 := (cell_of hT 4).trans rfl
  have pl := lt_of hT
  go_wp2_with fail
  refine Calls.mono (KNew_c D HOKD.out _) ?_
  rintro e w15 ⟨s2, g2, L2, rfl, hKn, _, _, hFn, hxn⟩
  rw [HBT2.out] at hKn hFn
  have I2 := Lib.hid (hKn.kin hFn)
  have z2 := Lib.hid hxn.size
  replace K1 := Lib.hid (K1.out.ext hxn)
  replace hU := hxn.keep hU
  replace hQ := hxn.keep hQ
  replace hT := hxn.keep hT
  replace hE := hE.trans' hxn
  have K2 := Lib.hid hKn
  clear p0 p1 p2 p3 p4 pl
  clear hKn hFn hxn
  have HZ := Lib.hid (Nat.le_refl w15.heap.size)
  have p0 := (cell_of hQ 0).trans rfl
  have p1 := (cell_of hQ 1).trans rfl
  have p2 := (cell_of hQ 2).trans rfl
  have p3 := (cell_of hQ 3).trans rfl
  have p4 := (cell_of hQ 4).trans rfl
  have pl := lt_of hQ
  have q0 := (cell_of hU 0).trans rfl
  have q1 := (cell_of hU 1).trans rfl
  have q2 := (cell_of hU 2).trans rfl
  have q3 := (cell_of hU 3).trans rfl
  have ql := lt_of hU
  go_wp2_with fail
  refine Calls.mono (Cut15_c C HOKC.out n1 m1 hn1 hm1 _) ?_
  rintro e w16 ⟨rfl, hxa⟩
  have hxm : Ext w16 (w16.alloc (.cells #[.int .u64 (cutK C 0 n1), .int .i64 (cutD C.mode m1)] 60)) := Ext.alloc' _ _
  have hV : (w16.alloc (.cells #[.int .u64 (cutK C 0 n1), .int .i64 (cutD C.mode m1)] 60)).heap[w16.heap.size]? = some (.cells #[.int .u64 (cutK C 0 n1), .int .i64 (cutD C.mode m1)] 60 (0, 0)) := heap_at _ _ rfl
  go_upto_region 9 with (fail)
  generalize w16.alloc (.cells #[.int .u64 (cutK C 0 n1), .int .i64 (cutD C.mode m1)] 60) = w17 at *
  clear p0 p1 p2 p3 p4 pl
  clear q0 q1 q2 q3 ql
  have hxx := hxa.trans' hxm
  replace K1 := Lib.hid (K1.out.ext hxx)
  replace K2 := Lib.hid (K2.out.ext hxx)
  replace hU := hxx.keep hU
  replace hQ := hxx.keep hQ
  replace hT := hxx.keep hT
  replace hE := hE.trans' hxx
  replace HZ := Lib.hid (Nat.le_trans HZ.out hxx.size)
  clear hxa hxm hxx
  have p0 := (cell_of hT 0).trans rfl
  have p1 := (cell_of hT 1).trans rfl
  have p2 := (cell_of hT 2).trans rfl
  have p3 := (cell_of hT 3).trans rfl
  have p4 := (cell_of hT 4).trans rfl
  have pl := lt_of hT
  have q0 := (cell_of hU 0).trans rfl
  have q1 := (cell_of hU 1).trans rfl
  have q2 := (cell_of hU 2).trans rfl
  have q3 := (cell_of hU 3).trans rfl
  have ql := lt_of hU
  go_wp2_with fail
  refine Calls.mono (Cut15_c D HOKD.out n2 m2 hn2 hm2 _) ?_
  rintro e w18 ⟨rfl, hxa⟩
  have hxm : Ext w18 (w18.alloc (.cells #[.int .u64 (cutK D 0 n2), .int .i64 (cutD D.mode m2)] 60)) := Ext.alloc' _ _
  have hW : (w18.alloc (.cells #[.int .u64 (cutK D 0 n2), .int .i64 (cutD D.mode m2)] 60)).heap[w18.heap.size]? = some (.cells #[.int .u64 (cutK D 0 n2), .int .i64 (cutD D.mode m2)] 60 (0, 0)) := heap_at _ _ rfl
  go_upto_region 10 with (fail)
  generalize w18.alloc (.cells #[.int .u64 (cutK D 0 n2), .int .i64 (cutD D.mode m2)] 60) = w19 at *
  clear p0 p1 p2 p3 p4 pl
  clear q0 q1 q2 q3 ql
  have hxx := hxa.trans' hxm
  replace K1 := Lib.hid (K1.out.ext hxx)
  replace K2 := Lib.hid (K2.out.ext hxx)
  replace hU := hxx.keep hU
  replace hQ := hxx.keep hQ
  replace hT := hxx.keep hT
  replace hV := hxx.keep hV
  replace hE := hE.trans' hxx
  replace HZ := Lib.hid (Nat.le_trans HZ.out hxx.size)
  clear hxa hxm hxx
  have ZZ := Lib.hid (And.intro hs0 (And.intro z1.out z2.out))
  clear hs0 z1 z2
  have p0 := (cell_of hV 0).trans rfl
  have p1 := (cell_of hV 1).trans rfl
  have pl := lt_of hV
  go_wp2_with fail
  refine Calls.mono (KUpdate_c s1 g1 C B L1 _ _ _ _ K1.out HO1.out.i HO1.out.u) ?_
  rintro e w20 ⟨rfl, hKn, hMn⟩
  rw [HO1.out.e] at hKn ⊢
  replace hKn : KAt w20 s1 g1 C B L1 (oneK C (cutK C 0 n1) (cutD C.mode m1)) := hKn
  replace K2 := Lib.hid (K2.out.part K1.out hMn I2.out I1.out (by have := ZZ.out; omega))
  replace hU := K1.out.blk hMn hU (by decide)
  replace hQ := K1.out.blk hMn hQ (by decide)
  replace hT := K1.out.blk hMn hT (by decide)
  replace hV := K1.out.blk hMn hV (by decide)
  replace hW := K1.out.blk hMn hW (by decide)
  replace hE := KAt.extm (s := 0) (g := 0) (C := C) (ls := fun _ => []) hE hMn I1.out (by have := ZZ.out; omega)
  replace HZ := Lib.hid (Nat.le_trans HZ.out hMn.size)
  replace K1 := Lib.hid hKn
  clear p0 p1 pl
  clear hKn hMn
  have p0 := (cell_of hW 0).trans rfl
  have p1 := (cell_of hW 1).trans rfl
  have pl := lt_of hW
  go_wp2_with fail
  refine Calls.mono (KUpdate_c s2 g2 D B2 L2 _ _ _ _ K2.out HO2.out.i HO2.out.u) ?_
  rintro e w21 ⟨rfl, hKn, hMn⟩
  rw [HO2.out.e] at hKn ⊢
  replace hKn : KAt w21 s2 g2 D B2 L2 (oneK D (cutK D 0 n2) (cutD D.mode m2)) := hKn
  replace K1 := Lib.hid (K1.out.part K2.out hMn I1.out I2.out (by have := ZZ.out; omega))
  replace hU := K2.out.blk hMn hU (by decide)
  replace hQ := K2.out.blk hMn hQ (by decide)
  replace hT := K2.out.blk hMn hT (by decide)
  replace hV := K2.out.blk hMn hV (by decide)
  replace hW := K2.out.blk hMn hW (by decide)
  replace hE := KAt.extm (s := 0) (g := 0) (C := C) (ls := fun _ => []) hE hMn I2.out (by have := ZZ.out; omega)
  replace HZ := Lib.hid (Nat.le_trans HZ.out hMn.size)
  replace K2 := Lib.hid hKn
  clear p0 p1 pl
  clear hKn hMn
  go_wp2_with fail
  refine Calls.mono (KCopy_c s1 g1 C B L1 _ _ K1.out) ?_
  rintro e w22 ⟨s3, g3, L3, rfl, hKn, _, _, hFn, hxn⟩
  have I3 := Lib.hid (hKn.kin hFn)
  have z3 := Lib.hid hxn.size
  replace ZZ := Lib.hid (And.intro ZZ.out HZ.out)
  replace K1 := Lib.hid (K1.out.ext hxn)
  replace K2 := Lib.hid (K2.out.ext hxn)
  replace hU := hxn.keep hU
  replace hQ := hxn.keep hQ
  replace hT := hxn.keep hT
  replace hV := hxn.keep hV
  replace hW := hxn.keep hW
  replace hE := hE.trans' hxn
  replace HZ := Lib.hid (Nat.le_trans HZ.out hxn.size)
  have K3 := Lib.hid hKn
  clear hKn hFn hxn
  go_wp2_with fail
  refine Calls.mono (KInner_nil1 _ _) ?_
  rintro e w23 ⟨rfl, hxn⟩
  have hxm : Ext w23 (w23.alloc (.cells #[.int .i64 0, .int .u64 0] 95)) := Ext.alloc' _ _
  go_upto_region 16 with (fail)
  generalize w23.alloc (.cells #[.int .i64 0, .int .u64 0] 95) = w24 at *
  replace hxn := hxn.trans' hxm
  clear hxm
  replace K1 := Lib.hid (K1.out.ext hxn)
  replace K2 := Lib.hid (K2.out.ext hxn)
  replace K3 := Lib.hid (K3.out.ext hxn)
  replace hU := hxn.keep hU
  replace hQ := hxn.keep hQ
  replace hT := hxn.keep hT
  replace hV := hxn.keep hV
  replace hW := hxn.keep hW
  replace hE := hE.trans' hxn
  replace HZ := Lib.hid (Nat.le_trans HZ.out hxn.size)
  clear hxn
  go_wp2_with fail
  refine Calls.mono (KMerge_nil1 _ _) ?_
  rintro e w25 ⟨rfl, hxn⟩
  replace K1 := Lib.hid (K1.out.ext hxn)
  replace K2 := Lib.hid (K2.out.ext hxn)
  replace K3 := Lib.hid (K3.out.ext hxn)
  replace hU := hxn.keep hU
  replace hQ := hxn.keep hQ
  replace hT := hxn.keep hT
  replace hV := hxn.keep hV
  replace hW := hxn.keep hW
  replace hE := hE.trans' hxn
  replace HZ := Lib.hid (Nat.le_trans HZ.out hxn.size)
  clear hxn
  go_wp2_with fail
  refine Calls.mono (KSubtract_nil2 s1 _) ?_
  rintro e w26 ⟨rfl, hxn⟩
  replace K1 := Lib.hid (K1.out.ext hxn)
  replace K2 := Lib.hid (K2.out.ext hxn)
  replace K3 := Lib.hid (K3.out.ext hxn)
  replace hU := hxn.keep hU
  replace hQ := hxn.keep hQ
  replace hT := hxn.keep hT
  replace hV := hxn.keep hV
  replace hW := hxn.keep hW
  replace hE := hE.trans' hxn
  replace HZ := Lib.hid (Nat.le_trans HZ.out hxn.size)
  clear hxn
  go_upto_region 18 with (fail)
  by_cases hCD : C = D
  · subst hCD
    obtain rfl : B = B2 := by have := HBB.out; omega
    have hall : ∀ n, n ≤ B → allI (plusL (oneK C (cutK C 0 n1) (cutD C.mode m1) n) (oneK C (cutK C 0 n2) (cutD C.mode m2) n)) := fun n _ => (plusL_bnd (HO1.out.b n) (HO2.out.b n) (by decide)).allI (by decide)
    have hbA : Bnd 35184372088832 (plusL (oneK C (cutK C 0 n1) (cutD C.mode m1) 0) (oneK C (cutK C 0 n2) (cutD C.mode m2) 0)) := (plusL_bnd (HO1.out.b 0) (HO2.out.b 0) (by decide)).le' (by decide)
    have hbB : Bnd 35184372088832 (oneK C (cutK C 0 n2) (cutD C.mode m2) 0) := (HO2.out.b 0).le' (by decide)
    have HALL := Lib.hid hall
    have HBA := Lib.hid hbA
    have HBB2 := Lib.hid hbB
    clear hall hbA hbB
    go_wp2_with fail
    refine Calls.mono (KMerge_c s1 g1 s2 g2 C B L1 L2 _ _ _ K1.out K2.out (fun h => absurd h (by decide))) ?_
    intro e v1 hjn
    obtain ⟨rfl, hKn, hMn⟩ := kj_ok hjn HALL.out
    replace K2 := Lib.hid (K2.out.part K1.out hMn I2.out I1.out (by have := ZZ.out; omega))
    replace K3 := Lib.hid (K3.out.part K1.out hMn I3.out I1.out (by have := ZZ.out; omega))
    replace hU := K1.out.blk hMn hU (by decide)
    replace hQ := K1.out.blk hMn hQ (by decide)
    replace hT := K1.out.blk hMn hT (by decide)
    replace hV := K1.out.blk hMn hV (by decide)
    replace hW := K1.out.blk hMn hW (by decide)
    replace hE := KAt.extm (s := 0) (g := 0) (C := C) (ls := fun _ => []) hE hMn I1.out (by have := ZZ.out; omega)
    replace HZ := Lib.hid (Nat.le_trans HZ.out hMn.size)
    replace K1 := Lib.hid hKn
    clear hjn hKn hMn
    by_cases hm : C.mode = 1
    · obtain ⟨z, hz⟩ := lvInn_fit HOKC.out HCW.out (Int.le_refl 0) HBA.out HBB2.out
      have hin := KInner_c s1 g1 s2 g2 C B L1 L2 _ _ _ K1.out K2.out (hi z) (lo z) 0 (fun M M2 W h1 h2 => by have := LInner_c C 0 M M2 _ _ W h1 h2 hm; rw [hz] at this; exact this)
      have HIN := Lib.hid hin
      clear hin hz
      go_wp2_with fail
      refine Calls.mono HIN.out ?_
      rintro e v2 ⟨rfl, hxn⟩
      replace hQ := hxn.keep hQ
      replace hT := hxn.keep hT
      replace hE := hE.trans' hxn
      have p0 := (cell_of ((Ext.alloc' v2 (.cells #[.int .i64 (hi z), .int .u64 (lo z)] 95)).keep hQ) 0).trans rfl
      have p1 := (cell_of ((Ext.alloc' v2 (.cells #[.int .i64 (hi z), .int .u64 (lo z)] 95)).keep hQ) 1).trans rfl
      have p2 := (cell_of ((Ext.alloc' v2 (.cells #[.int .i64 (hi z), .int .u64 (lo z)] 95)).keep hQ) 2).trans rfl
      have p3 := (cell_of ((Ext.alloc' v2 (.cells #[.int .i64 (hi z), .int .u64 (lo z)] 95)).keep hQ) 3).trans rfl
      have p4 := (cell_of ((Ext.alloc' v2 (.cells #[.int .i64 (hi z), .int .u64 (lo z)] 95)).keep hQ) 4).trans rfl
      have pl := lt_of ((Ext.alloc' v2 (.cells #[.int .i64 (hi z), .int .u64 (lo z)] 95)).keep hQ)
      have q0 := (cell_of ((Ext.alloc' v2 (.cells #[.int .i64 (hi z), .int .u64 (lo z)] 95)).keep hT) 0).trans rfl
      have q1 := (cell_of ((Ext.alloc' v2 (.cells #[.int .i64 (hi z), .int .u64 (lo z)] 95)).keep hT) 1).trans rfl
      have q2 := (cell_of ((Ext.alloc' v2 (.cells #[.int .i64 (hi z), .int .u64 (lo z)] 95)).keep hT) 2).trans rfl
      have q3 := (cell_of ((Ext.alloc' v2 (.cells #[.int .i64 (hi z), .int .u64 (lo z)] 95)).keep hT) 3).trans rfl
      have q4 := (cell_of ((Ext.alloc' v2 (.cells #[.int .i64 (hi z), .int .u64 (lo z)] 95)).keep hT) 4).trans rfl
      have ql := lt_of ((Ext.alloc' v2 (.cells #[.int .i64 (hi z), .int .u64 (lo z)] 95)).keep hT)
      have hEz : Ext w (v2.alloc (.cells #[.int .i64 (hi z), .int .u64 (lo z)] 95)) := hE.trans' (Ext.alloc' _ _)
      have hcb := cfg_eqB C
      have hmb : (C.mode == 1) = true := by simp [hm]
      go_wp2
      go_ret
      exact ⟨by first | rfl | simp [hm], hEz⟩
    · have hin := KInner_c s1 g1 s2 g2 C B L1 L2 _ _ _ K1.out K2.out 0 0 3 (fun M M2 W h1 h2 => LInner_mode C 0 M M2 _ _ W h1 h2 hm)
      have HIN := Lib.hid hin
      clear hin
      go_wp2_with fail
      refine Calls.mono HIN.out ?_
      rintro e v2 ⟨rfl, hxn⟩
      replace hQ := (hxn.trans' (Ext.alloc' v2 (.cells #[.int .i64 0, .int .u64 0] 95))).keep hQ
      replace hT := (hxn.trans' (Ext.alloc' v2 (.cells #[.int .i64 0, .int .u64 0] 95))).keep hT
      have hEz : Ext w (v2.alloc (.cells #[.int .i64 0, .int .u64 0] 95)) := (hE.trans' hxn).trans' (Ext.alloc' _ _)
      have p0 := (cell_of hQ 0).trans rfl
      have p1 := (cell_of hQ 1).trans rfl
      have p2 := (cell_of hQ 2).trans rfl
      have p3 := (cell_of hQ 3).trans rfl
      have p4 := (cell_of hQ 4).trans rfl
      have pl := lt_of hQ
      have q0 := (cell_of hT 0).trans rfl
      have q1 := (cell_of hT 1).trans rfl
      have q2 := (cell_of hT 2).trans rfl
      have q3 := (cell_of hT 3).trans rfl
      have q4 := (cell_of hT 4).trans rfl
      have ql := lt_of hT
      have hcb := cfg_eqB C
      have hmb : (C.mode == 1) = false := by simp [hm]
      go_wp2
      go_ret
      exact ⟨by first | rfl | simp [hm], hEz⟩
  · have HNE := Lib.hid hCD
    have HP := Lib.hid ((parts_or C 0 D 0).resolve_left (fun h => hCD h.1))
    clear hCD
    go_wp2_with fail
    refine Calls.mono (KMerge_no s1 g1 s2 g2 C D B B2 L1 L2 _ _ _ K1.out K2.out HNE.out) ?_
    rintro e w27 ⟨rfl, hxn⟩
    replace K1 := Lib.hid (K1.out.ext hxn)
    replace K2 := Lib.hid (K2.out.ext hxn)
    replace K3 := Lib.hid (K3.out.ext hxn)
    replace hU := hxn.keep hU
    replace hQ := hxn.keep hQ
    replace hT := hxn.keep hT
    replace hV := hxn.keep hV
    replace hW := hxn.keep hW
    replace hE := hE.trans' hxn
    replace HZ := Lib.hid (Nat.le_trans HZ.out hxn.size)
    clear hxn
    go_wp2_with fail
    refine Calls.mono (KInner_no s1 g1 s2 g2 C D B B2 L1 L2 _ _ _ K1.out K2.out HNE.out) ?_
    rintro e w28 ⟨rfl, hxn⟩
    have hxm : Ext w28 (w28.alloc (.cells #[.int .i64 0, .int .u64 0] 95)) := Ext.alloc' _ _
    go_upto_region 20 with (fail)
    generalize w28.alloc (.cells #[.int .i64 0, .int .u64 0] 95) = w29 at *
    replace hxn := hxn.trans' hxm
    clear hxm
    replace K1 := Lib.hid (K1.out.ext hxn)
    replace K2 := Lib.hid (K2.out.ext hxn)
    replace K3 := Lib.hid (K3.out.ext hxn)
    replace hU := hxn.keep hU
    replace hQ := hxn.keep hQ
    replace hT := hxn.keep hT
    replace hV := hxn.keep hV
    replace hW := hxn.keep hW
    replace hE := hE.trans' hxn
    replace HZ := Lib.hid (Nat.le_trans HZ.out hxn.size)
    clear hxn
    have p0 := (cell_of hQ 0).trans rfl
    have p1 := (cell_of hQ 1).trans rfl
    have p2 := (cell_of hQ 2).trans rfl
    have p3 := (cell_of hQ 3).trans rfl
    have p4 := (cell_of hQ 4).trans rfl
    have pl := lt_of hQ
    have q0 := (cell_of hT 0).trans rfl
    have q1 := (cell_of hT 1).trans rfl
    have q2 := (cell_of hT 2).trans rfl
    have q3 := (cell_of hT 3).trans rfl
    have q4 := (cell_of hT 4).trans rfl
    have ql := lt_of hT
    rcases HP.out with h' | ⟨h0, h'⟩ | ⟨h0, h1, h'⟩ | ⟨h0, h1, h3, h'⟩ | ⟨h0, h1, h3, h4, h'⟩ | ⟨h0, h1, h3, h4, h5, h'⟩
    case p5 => simp at h'
    all_goals
      go_wp2_with fail
      refine Calls.mono (KSubtract_no s1 g1 s2 g2 C D B B2 L1 L2 _ _ _ K1.out K2.out HNE.out) ?_
      rintro e w30 ⟨rfl, hxn⟩
      replace K1 := Lib.hid (K1.out.ext hxn)
      replace K2 := Lib.hid (K2.out.ext hxn)
      replace K3 := Lib.hid (K3.out.ext hxn)
      replace hU := hxn.keep hU
      replace hQ := hxn.keep hQ
      replace hT := hxn.keep hT
      replace hV := hxn.keep hV
      replace hW := hxn.keep hW
      replace hE := hE.trans' hxn
      replace HZ := Lib.hid (Nat.le_trans HZ.out hxn.size)
      clear hxn
      clear p0 p1 p2 p3 p4 pl
      clear q0 q1 q2 q3 q4 ql
      have p0 := (cell_of hQ 0).trans rfl
      have p1 := (cell_of hQ 1).trans rfl
      have p2 := (cell_of hQ 2).trans rfl
      have p3 := (cell_of hQ 3).trans rfl
      have p4 := (cell_of hQ 4).trans rfl
      have pl := lt_of hQ
      clear h'
      go_wp2_with fail
      refine Calls.mono (Alike20_c s1 g1 s3 g3 C B L1 L3 _ _ _ K1.out K3.out (fun n _ => rfl)) ?_
      rintro e v9 ⟨rfl, hxn⟩
      replace hE := hE.trans' hxn
      clear hxn
      go_wp2
      go_ret
      exact ⟨rfl, hE⟩
end Go.Proofs.YtdenbmmbeeamcaaGreat

/- What an array of two updates reads as. No condition. -/
namespace Go.Proofs.YtdenbmmbeeamcaaGreat
set_option linter.unusedVariables false
open Go.ChangeShapes Go.WideShapes Go.ChangeAt Go.RowKit Go.Deep
section
variable {H : Type} {enc : TypeId × Value → H} {w : World} {held : Bool}
set_option maxRecDepth 100000 in
theorem upd2arg_of {r : Reach} {b0 : Nat} {v : Value} {d : DataW H} {p : List MemPlace} (hv : Value.okWide Tryz.prog w r b0 141 v) (h : DataW.Trod enc Tryz.prog w 0 (fun _ => true) held 141 v d p) :
    ∃ (a b c d : Int), U64 a ∧ I64 b ∧ U64 c ∧ I64 d ∧ v = .agg #[.int .u64 a, .int .i64 b, .int .u64 c, .int .i64 d] := by
  have hv' : ∃ cs, v = .agg cs ∧ cs.size = 4 := by
    simp only [Value.okWide, Tryz.underlying141] at hv
    obtain ⟨cs, h1, h2, _⟩ := hv
    exact ⟨cs, h1, h2.trans (by kernel_rfl)⟩
  obtain ⟨cs, rfl, hsz⟩ := hv'
  obtain ⟨fuel, hf⟩ := h
  obtain ⟨l⟩ := cs
  obtain ⟨xs, m, _, _, _, hl, hel⟩ := DataW.trod_array Tryz.underlying141 hf
  match l, hsz with
  | [c0, c1, c2, c3], _ =>
    match xs, hl with
    | [x0, x1], _ =>
      have hC : Tryz.prog.cellsOf 60 = 2 := by kernel_rfl
      have e0 : DataW.trod enc Tryz.prog w 0 (fun _ => true) held m 60 [c0, c1] = some x0 := by have := hel 0 (by decide); rw [hC] at this; exact this
      have e1 : DataW.trod enc Tryz.prog w 0 (fun _ => true) held m 60 [c2, c3] = some x1 := by have := hel 1 (by decide); rw [hC] at this; exact this
      obtain ⟨u0, ⟨a0, b0⟩, h0⟩ := upd_of e0
      obtain ⟨u1, ⟨a1, b1⟩, h1⟩ := upd_of e1
      simp only [List.cons.injEq, and_true] at h0 h1
      obtain ⟨rfl, rfl⟩ := h0
      obtain ⟨rfl, rfl⟩ := h1
      exact ⟨u0.1, u0.2, u1.1, u1.2, a0, b0, a1, b1, rfl⟩
end
end Go.Proofs.YtdenbmmbeeamcaaGreat

/- MergeUnlike: stacks of unlike configs are not put together and have no product, and stay as they were; neither are they with none. No condition: every input. -/
namespace Go.Proofs.YtdenbmmbeeamcaaGreat
set_option linter.unusedVariables false
open Go.ChangeShapes Go.WideShapes Go.ChangeAt Go.RowKit

set_option maxRecDepth 100000 in
theorem mergeUnlike_lifted (os : Os) (started : os.Started) (H : Type) (enc : TypeId × Value → H) :
    ReturnsInHanded {} Tryz.checked os 17 .any (Rows.mergeUnlikeSpec.pre6 enc Tryz.prog Tryz.f17 Rows.mergeUnlikeRow.domain false) (Rows.mergeUnlikeSpec.post enc Tryz.prog Tryz.f17 false true false false) := by
  refine returnsInHanded_of_change_sized (C := Tryz.checked) own started (by kernel_rfl) Tryz.func17
    (ChangeSpec.witness6 (enc := enc) (C := Tryz.checked) false ⟨#[], #[.agg #[.int .i64 0, .int .i64 0, .int .i64 0, .int .i64 0, .int .u64 0], .agg #[.int .i64 0, .int .i64 0, .int .i64 0, .int .i64 0, .int .u64 0], .agg #[.int .u64 0, .int .i64 0, .int .u64 0, .int .i64 0]], []⟩ 8 (by kernel_rfl) (by kernel_rfl) (by kernel_rfl) (by kernel_rfl)) ?_
  intro W base args ds gs before hval0 hW hcnd hsz0 _
  have hval : ∀ (j : Nat) t v, Tryz.f17.params[j]? = some t → args[j]? = some v → Value.okWide Tryz.prog W .any base t v := hval0
  have hW' := hW
  obtain ⟨p, q, hA0, hV, rfl, hfz, hnd⟩ := hW
  have hA : DataW.TrodAll enc Tryz.prog W 0 (fun _ => true) true Tryz.f17.params.toList args.toList ds p := hA0
  have hsz : (DataW.weightsEach Tryz.prog (Tryz.f17.params.toList ++ Rows.mergeUnlikeSpec.plain.varTypes Tryz.prog) (ds ++ gs)).all (· ≤ reachBytes) = true := hsz0
  rw [Tryz.params17] at hA hval hsz
  obtain ⟨v0, vs0, d0, ds0, p0, q0, hargs, rfl, rfl, h0, r0⟩ := trodAll_cons hA
  obtain ⟨v1, vs1, d1, ds1, p1, q1, rfl, rfl, rfl, h1, r1⟩ := trodAll_cons r0
  obtain ⟨v2, vs2, d2, ds2, p2, q2, rfl, rfl, rfl, h2, r2⟩ := trodAll_cons r1
  obtain ⟨rfl, rfl, rfl⟩ := trodAll_nil r2
  obtain rfl : args = #[v0, v1, v2] := by cases args; simp_all
  obtain ⟨rfl, rfl⟩ := trodVars_none hV
  have k0 := h0
  have k1 := h1
  have k2 := h2
  have lt0 : ∀ x ∈ p0, x.block < W.heap.size := by obtain ⟨m, hm⟩ := k0; exact DataW.trod_lt m _ _ _ hm
  have lt1 : ∀ x ∈ p1, x.block < W.heap.size := by obtain ⟨m, hm⟩ := k1; exact DataW.trod_lt m _ _ _ hm
  have lt2 : ∀ x ∈ p2, x.block < W.heap.size := by obtain ⟨m, hm⟩ := k2; exact DataW.trod_lt m _ _ _ hm
  obtain ⟨x0, hx0, rfl⟩ := cfgarg_of (hval 0 _ v0 rfl rfl) h0
  obtain ⟨x1, hx1, rfl⟩ := cfgarg_of (hval 1 _ v1 rfl rfl) h1
  obtain ⟨n2, m2, nb2, mb2, hn2, hm2, hnb2, hmb2, rfl⟩ := upd2arg_of (hval 2 _ v2 rfl rfl) h2
  clear hA0 hval0
  refine (MUnlikeL_c x0 hx0 x1 hx1 n2 m2 nb2 mb2 hn2 hm2 hnb2 hmb2 W).mono fun e W' ⟨he, bel⟩ => ?_
  subst he
  exact ⟨_, rfl, _, _, _, [], _, [], hW', trodAll_mk1 (shut_bool Tryz.underlying4 _), (trodAll_cons_mk (Below.trod laidOut (by kernel_rfl) (of_decide_eq_true (by kernel_rfl)) k0 bel lt0) (trodAll_cons_mk (Below.trod laidOut (by kernel_rfl) (of_decide_eq_true (by kernel_rfl)) k1 bel lt1) (trodAll_cons_mk (Below.trod laidOut (by kernel_rfl) (of_decide_eq_true (by kernel_rfl)) k2 bel lt2) trodAll_mk0))), rfl, bel.frame _, fun h => by cases h⟩
end Go.Proofs.YtdenbmmbeeamcaaGreat
