/- LevelUnlike: levels that are not of one config and number are not put together, and have no product; they stay as they were. No condition: every input. -/
import Derived.Test.YtpnbgoahjoabkaaL5
import Derived.Test.YtpnbgoahjoabkaaL3
import Derived.Test.YtpnbgoahjoabkaaL13
import Derived.Test.YtpnbgoahjoabkaaL14
import Derived.Test.YtpnbgoahjoabkaaL4
import Derived.Test.YtpnbgoahjoabkaaL6
import Derived.Test.YtpnbgoahjoabkaaL2
import Derived.Test.YtpnbgoahjoabkaaL10

/- A level's methods, called through the interface: by the level's kind, once for both. -/
namespace Go.Proofs.Ytpnbgoahjoabkaa
set_option linter.unusedVariables false
open Go.RowKit
/-- The function behind a method of a level. -/
def lvF (C : Cfg) (lv : Int) (x s : Nat) : Nat := bif isX C lv then x else s
theorem lvF_x {C : Cfg} {lv : Int} (h : isX C lv = true) (x s : Nat) : lvF C lv x s = x := by unfold lvF; rw [h]; rfl
theorem lvF_s {C : Cfg} {lv : Int} (h : isX C lv = false) (x s : Nat) : lvF C lv x s = s := by unfold lvF; rw [h]; rfl
theorem lvV_eq (C : Cfg) (lv : Int) (L : Lev) : lvV C lv L = .iface (lvT C lv) (.pointer (some ⟨L.s, 0, none⟩)) := rfl
theorem lvm_Update (C : Cfg) (lv : Int) (p : Option Addr) (w : World) : Sem.run Try.prog (method 362 (lvT C lv) (.pointer p) "Update") w = .ok (lvF C lv 216 28, .pointer p) w := by
  unfold lvT lvF
  cases isX C lv with
  | true => kernel_rfl
  | false => kernel_rfl
theorem lve_Update (C : Cfg) (lv : Int) (args : Array Value) (w : World) : (callFunc (lvF C lv 216 28) args).run Try.prog w = .ok (.enter (lvF C lv 216 28) args) w := by
  unfold lvF
  cases isX C lv with
  | true => kernel_rfl
  | false => kernel_rfl
theorem lvm_Cells (C : Cfg) (lv : Int) (p : Option Addr) (w : World) : Sem.run Try.prog (method 362 (lvT C lv) (.pointer p) "Cells") w = .ok (lvF C lv 139 42, .pointer p) w := by
  unfold lvT lvF
  cases isX C lv with
  | true => kernel_rfl
  | false => kernel_rfl
theorem lve_Cells (C : Cfg) (lv : Int) (args : Array Value) (w : World) : (callFunc (lvF C lv 139 42) args).run Try.prog w = .ok (.enter (lvF C lv 139 42) args) w := by
  unfold lvF
  cases isX C lv with
  | true => kernel_rfl
  | false => kernel_rfl
theorem lvm_Config (C : Cfg) (lv : Int) (p : Option Addr) (w : World) : Sem.run Try.prog (method 362 (lvT C lv) (.pointer p) "Config") w = .ok (lvF C lv 137 44, .pointer p) w := by
  unfold lvT lvF
  cases isX C lv with
  | true => kernel_rfl
  | false => kernel_rfl
theorem lve_Config (C : Cfg) (lv : Int) (args : Array Value) (w : World) : (callFunc (lvF C lv 137 44) args).run Try.prog w = .ok (.enter (lvF C lv 137 44) args) w := by
  unfold lvF
  cases isX C lv with
  | true => kernel_rfl
  | false => kernel_rfl
theorem lvm_Level (C : Cfg) (lv : Int) (p : Option Addr) (w : World) : Sem.run Try.prog (method 362 (lvT C lv) (.pointer p) "Level") w = .ok (lvF C lv 138 45, .pointer p) w := by
  unfold lvT lvF
  cases isX C lv with
  | true => kernel_rfl
  | false => kernel_rfl
theorem lve_Level (C : Cfg) (lv : Int) (args : Array Value) (w : World) : (callFunc (lvF C lv 138 45) args).run Try.prog w = .ok (.enter (lvF C lv 138 45) args) w := by
  unfold lvF
  cases isX C lv with
  | true => kernel_rfl
  | false => kernel_rfl
def LvUpdPost (w : World) (L : Lev) (C : Cfg) (lv : Int) (l : List Int) (key d : Int) (e : Ending) (w' : World) : Prop :=
  e = .returned (.int .i64 (lvE C lv l key d)) ∧ ((lvE C lv l key d = 0 ∧ LvAt w' L C lv (lvU C lv l key d) ∧ Mod (fun k => k = L.c) w w') ∨ (lvE C lv l key d ≠ 0 ∧ Ext w w'))
theorem LUpdate_c (C : Cfg) (lv : Int) (L : Lev) (l : List Int) (key d : Int) (w : World) (h : LvAt w L C lv l) (hd : I64 d) (hk : U64 key) :
    Calls Try.prog (lvF C lv 216 28) #[.pointer (some ⟨L.s, 0, none⟩), .int .u64 key, .int .i64 d] w (LvUpdPost w L C lv l key d) := by
  cases hx : isX C lv with
  | true =>
    rw [lvF_x hx]
    refine (EUpdate_c _ _ _ C lv _ l key d w (h.x hx) hd hk).mono ?_
    rintro e w' ⟨rfl, hr⟩
    unfold LvUpdPost
    rw [lvE_x hx, lvU_x hx]
    exact ⟨rfl, hr.imp (fun ⟨a, b, c⟩ => ⟨a, .inl ⟨hx, b⟩, c⟩) (fun h => h)⟩
  | false =>
    rw [lvF_s hx]
    refine (Update_c _ _ _ C lv _ _ l key d w (h.sk hx) hd hk.1).mono ?_
    rintro e w' ⟨rfl, hr⟩
    unfold LvUpdPost
    rw [lvE_s hx, lvU_s hx]
    exact ⟨rfl, hr.imp (fun ⟨a, b, c⟩ => ⟨a, .inr ⟨hx, b⟩, c⟩) (fun h => h)⟩
theorem LCells_c (C : Cfg) (lv : Int) (L : Lev) (l : List Int) (w : World) (h : LvAt w L C lv l) :
    Calls Try.prog (lvF C lv 139 42) #[.pointer (some ⟨L.s, 0, none⟩)] w fun e w' => ∃ v, e = .returned v ∧ w'.ownsRow w.heap.size 2 1 v l.length (ints l) ∧ (v = .slice none 0 0 → False) ∧ Ext w w' := by
  cases hx : isX C lv with
  | true => rw [lvF_x hx]; exact ECells_c _ _ _ C lv _ l w (h.x hx)
  | false => rw [lvF_s hx]; exact SCells_c _ _ _ C lv _ _ l w (h.sk hx)
theorem LConfig_c (C : Cfg) (lv : Int) (L : Lev) (l : List Int) (w : World) (h : LvAt w L C lv l) :
    Calls Try.prog (lvF C lv 137 44) #[.pointer (some ⟨L.s, 0, none⟩)] w fun e w' => e = .returned (.agg #[.int .i64 C.bits, .int .i64 C.rows, .int .i64 C.width, .int .i64 C.mode, .int .u64 C.seed]) ∧ Ext w w' := by
  cases hx : isX C lv with
  | true => rw [lvF_x hx]; exact EConfig_c _ _ _ C lv _ l w (h.x hx)
  | false => rw [lvF_s hx]; exact SConfig_c _ _ _ C lv _ _ l w (h.sk hx)
theorem LLevel_c (C : Cfg) (lv : Int) (L : Lev) (l : List Int) (w : World) (h : LvAt w L C lv l) :
    Calls Try.prog (lvF C lv 138 45) #[.pointer (some ⟨L.s, 0, none⟩)] w fun e w' => e = .returned (.int .i64 lv) ∧ w = w' := by
  cases hx : isX C lv with
  | true => rw [lvF_x hx]; exact ELevel_c _ _ _ C lv _ l w (h.x hx)
  | false => rw [lvF_s hx]; exact SLevel_c _ _ _ C lv _ _ l w (h.sk hx)
end Go.Proofs.Ytpnbgoahjoabkaa

/- Products with noughts. -/
namespace Go.Proofs.Ytpnbgoahjoabkaa
set_option linter.unusedVariables false
open Go.RowKit

theorem zl_zs_getD (n i : Nat) : (zs n).getD i 0 = 0 := by
  unfold zs
  rw [List.getD_eq_getElem?_getD]
  rcases Nat.lt_or_ge i n with h | h
  · simp [h]
  · simp [h]
theorem zl_rowP_getD (l : List Int) (W r k : Nat) : (rowP l W r).getD k 0 = if k < W then l.getD (r * W + k) 0 else 0 := by
  by_cases h : k < W
  · rw [rowP_get l h, if_pos h]
  · rw [if_neg h, List.getD_eq_getElem?_getD, List.getElem?_eq_none (by rw [rowP_len]; omega)]; rfl
theorem zl_dotF_zero {a b : List Int} (h : ∀ k, b.getD k 0 = 0) : ∀ k, dotF a b k = some 0 := by
  intro k
  induction k with
  | zero => rfl
  | succ k ih =>
    have := dotF_yes ih (by rw [h, Int.mul_zero]; unfold W128; omega)
    rw [h, Int.mul_zero] at this
    exact this
theorem zl_innF_zero (l : List Int) (n W : Nat) : ∀ r, innF l (zs n) W r = some 0 := by
  intro r
  induction r with
  | zero => rfl
  | succ r ih =>
    have hd := zl_dotF_zero (a := rowP l W r) (b := rowP (zs n) W r) (fun k => by rw [zl_rowP_getD]; split <;> first | exact zl_zs_getD _ _ | rfl) W
    simp only [innF, ih, hd, Option.bind_some]
    simp
theorem zl_V0 : innV (some 0) = .tuple #[.agg #[.int .i64 0, .int .u64 0], .int .i64 0] := rfl
end Go.Proofs.Ytpnbgoahjoabkaa

/- gaugerlaw13.LevelUnlike, walked. -/
namespace Go.Proofs.Ytpnbgoahjoabkaa
set_option linter.unusedVariables false
open Go.RowKit
theorem parts_ne {C D : Cfg} {i j : Int} (h : PartsAt C i D j) : ¬ (C = D ∧ i = j) := by
  rintro ⟨rfl, rfl⟩
  cases h <;> simp_all
theorem plusL_zs (l : List Int) (n : Nat) : plusL l (zs n) = l := by
  refine getD_ext (plusL_len l _) fun k hk => ?_
  rw [plusL_get (by rw [plusL_len] at hk; exact hk)]
  have := zl_zs_getD n k
  omega
theorem lvInn_zs (C : Cfg) (lv : Int) (l : List Int) (n : Nat) : lvInn C lv l (zs n) = some 0 := by
  unfold lvInn
  rw [zl_dotF_zero (zl_zs_getD n), zl_innF_zero]
  cases isX C lv <;> rfl
theorem lvN_le1 {C : Cfg} (h : C.Ok) (lv : Int) : lvN C lv ≤ 1024 := by
  unfold lvN
  cases hx : isX C lv with
  | true =>
    have h2 := h.w2
    have h3 : keys C lv ≤ C.width := of_decide_eq_true hx
    show kN C lv ≤ 1024
    unfold kN; omega
  | false =>
    have h2 := h.w2
    have h3 := h.r2
    show rN C * wN C ≤ 1024
    have h4 : rN C ≤ 8 := by unfold rN; omega
    have h5 : wN C ≤ 128 := by unfold wN; omega
    exact Nat.mul_le_mul h4 h5
theorem LvAt.zbnd {w : World} {L : Lev} {C : Cfg} {lv : Int} {n : Nat} (h : LvAt w L C lv (zs n)) : lvE C lv (zs n) 0 5 = 0 :=
  lvE_ok (B := 0) (T := 5) (fun x hx => by have := List.eq_of_mem_replicate hx; omega) (by omega) (by omega) (by omega) (by omega) (by have := (keys_bd C h.ok lv h.lo).1; omega) (fun _ => by omega)
set_option maxRecDepth 20000 in
set_option maxHeartbeats 8000000 in
theorem LUnlikeL_c (x : Cfg) (hx : x.Raw) (y : Cfg) (hy : y.Raw) (lx ly : Int) (hlx : I64 lx) (hly : I64 ly) (w : World) :
    Calls Try.prog 22 #[.agg #[.int .i64 x.bits, .int .i64 x.rows, .int .i64 x.width, .int .i64 x.mode, .int .u64 x.seed], .agg #[.int .i64 y.bits, .int .i64 y.rows, .int .i64 y.width, .int .i64 y.mode, .int .u64 y.seed], .agg #[.int .i64 lx, .int .i64 ly]] w fun e w' => e = .returned (.bool true) ∧ Ext w w' := by
  go_enter Try.func22, Try.ntmps22
  go_wp2_with fail
  refine (shown13_c _).mono ?_
  rintro e w1 ⟨rfl, hb1⟩
  have hE1 : Ext w w1 := by (repeat' (first | exact Ext.refl _ | assumption | apply Ext.allocR | apply Ext.drewR | apply Ext.drewNR | (refine Ext.trans' ?_ (by assumption))))
  have hPx : CfgAt w1 w.heap.size x := ((CfgAt.box x 24 rfl).ext ((Ext.alloc' _ _).allocR _)).ext hb1
  have hPy : CfgAt w1 (w.heap.size + 1) y := ((CfgAt.box y 24 (by rw [size_alloc])).ext (Ext.alloc' _ _)).ext hb1
  have hl0 : w1.cell? ⟨w.heap.size + 2, 0, none⟩ = some (.int .i64 lx) := (cell_of (hb1.keep (heap_at _ _ (by rw [size_alloc, size_alloc]))) 0).trans rfl
  have hl1 : w1.cell? ⟨w.heap.size + 2, 1, none⟩ = some (.int .i64 ly) := (cell_of (hb1.keep (heap_at _ _ (by rw [size_alloc, size_alloc]))) 1).trans rfl
  have hll : w.heap.size + 2 < w1.heap.size := lt_of (hb1.keep (heap_at _ _ (by rw [size_alloc, size_alloc])))
  clear hb1
  have d0 := hPx.c0
  have d1 := hPx.c1
  have d2 := hPx.c2
  have d3 := hPx.c3
  have d4 := hPx.c4
  have dl := hPx.lt
  go_wp2_with fail
  refine Calls.mono (Any_c x hx 6 9 (by decide) (by decide) (by decide) (by decide) _) ?_
  rintro e w2 ⟨rfl, hx2⟩
  have hE2 : Ext w1 w2 := by (repeat' (first | exact Ext.refl _ | assumption | apply Ext.allocR | apply Ext.drewR | apply Ext.drewNR | (refine Ext.trans' ?_ (by assumption))))
  clear hx2 d0 d1 d2 d3 d4 dl
  have hPy2 := hPy.ext hE2
  have d0 := hPy2.c0
  have d1 := hPy2.c1
  have d2 := hPy2.c2
  have d3 := hPy2.c3
  have d4 := hPy2.c4
  have dl := hPy2.lt
  have hC : CfgAt (w2.alloc (.cells #[.int .i64 (mkC x 6 9).bits, .int .i64 (mkC x 6 9).rows, .int .i64 (mkC x 6 9).width, .int .i64 (mkC x 6 9).mode, .int .u64 (mkC x 6 9).seed] 24)) w2.heap.size (mkC x 6 9) := CfgAt.box _ _ rfl
  go_wp2_with fail
  refine Calls.mono (Any_c y hy 6 9 (by decide) (by decide) (by decide) (by decide) _) ?_
  rintro e w3 ⟨rfl, hx3⟩
  have hC3 := hC.ext hx3
  have hE3 : Ext w2 w3 := by (repeat' (first | exact Ext.refl _ | assumption | apply Ext.allocR | apply Ext.drewR | apply Ext.drewNR | (refine Ext.trans' ?_ (by assumption))))
  have hD : CfgAt (w3.alloc (.cells #[.int .i64 (mkC y 6 9).bits, .int .i64 (mkC y 6 9).rows, .int .i64 (mkC y 6 9).width, .int .i64 (mkC y 6 9).mode, .int .u64 (mkC y 6 9).seed] 24)) w3.heap.size (mkC y 6 9) := CfgAt.box _ _ rfl
  have p0 := ((bcell (hE2.trans' hE3)).1 _ 0 hll).trans hl0
  have p2 := ((bcell (hE2.trans' hE3)).1 _ 1 hll).trans hl1
  have p1 : w.heap.size + 2 < w3.heap.size := Nat.lt_of_lt_of_le hll (hE2.trans' hE3).size
  clear hx3 d0 d1 d2 d3 d4 dl hPy2 hC hl0 hl1 hll
  have okC := mkC_ok x hx.s (nb := 6) (nw := 9) (by decide) (by decide) (by decide) (by decide)
  have okD := mkC_ok y hy.s (nb := 6) (nw := 9) (by decide) (by decide) (by decide) (by decide)
  have hCs : (mkC x 6 9).bits ≤ 6 := by show 1 + x.bits % 65536 % 6 ≤ 6; have := Int.emod_lt_of_pos (x.bits % 65536) (show (0 : Int) < 6 by decide); omega
  have hEw : Ext w w3 := hE1.trans' (hE2.trans' hE3)
  generalize mkC x 6 9 = C at *
  generalize mkC y 6 9 = D at *
  have hax := and16 lx
  have hay := and16 ly
  have n1 := Int.emod_nonneg lx (show (65536 : Int) ≠ 0 by decide)
  have n2 := Int.emod_nonneg ly (show (65536 : Int) ≠ 0 by decide)
  have n3 := Int.emod_lt_of_pos lx (show (0 : Int) < 65536 by decide)
  have n4 := Int.emod_lt_of_pos ly (show (0 : Int) < 65536 by decide)
  have bb1 := okC.b1
  have bb2 := okC.b2
  have bb3 := okD.b1
  have bb4 := okD.b2
  have i1 := Int.emod_nonneg (lx % 65536) (show C.bits + 1 ≠ 0 by omega)
  have i2 := Int.emod_lt_of_pos (lx % 65536) (show 0 < C.bits + 1 by omega)
  have i3 := Int.emod_nonneg (ly % 65536) (show D.bits + 1 ≠ 0 by omega)
  have i4 := Int.emod_lt_of_pos (ly % 65536) (show 0 < D.bits + 1 by omega)
  have p4 := hC3.c0
  have p5 := hC3.lt
  have q1 := hC3.c1
  have q2 := hC3.c2
  have q3 := hC3.c3
  have q4 := hC3.c4
  have z1 : (C.bits + 1 == 0) = false := by simp; omega
  have z2 : (D.bits + 1 == 0) = false := by simp; omega
  go_wp2_with fail
  generalize lx % 65536 % (C.bits + 1) = I at *
  generalize ly % 65536 % (D.bits + 1) = J at *
  have HC3 := Lib.hid hC3
  have HD := Lib.hid hD
  have hEB : Ext w3 (w3.alloc (.cells #[.int .i64 D.bits, .int .i64 D.rows, .int .i64 D.width, .int .i64 D.mode, .int .u64 D.seed] 24)) := Ext.alloc' _ _
  clear hPx hPy hC3 hD hax hay n1 n2 n3 n4 p0 p1 p2 p4 p5 q1 q2 q3 q4 z1 z2 hE1 hE2 hE3
  generalize w3.alloc (.cells #[.int .i64 D.bits, .int .i64 D.rows, .int .i64 D.width, .int .i64 D.mode, .int .u64 D.seed] 24) = wB at *
  have hCB := HC3.out.ext hEB
  have hEwB : Ext w wB := hEw.trans' hEB
  have HCB := Lib.hid hCB
  clear hCB HC3 hEB hEw
  refine Calls.mono (LNew_c C okC I i1 (by omega) _) ?_
  rintro e w4 ⟨L, rfl, hS, hs, hb, hc, hx4⟩
  rw [lvV_eq]
  have hE4 : Ext wB w4 := by (repeat' (first | exact Ext.refl _ | assumption | apply Ext.allocR | apply Ext.drewR | apply Ext.drewNR | (refine Ext.trans' ?_ (by assumption))))
  have hD4 := HD.out.ext hE4
  have d0 := hD4.c0
  have d1 := hD4.c1
  have d2 := hD4.c2
  have d3 := hD4.c3
  have d4 := hD4.c4
  have dl := hD4.lt
  clear hx4 hD4
  go_wp2_with fail
  refine Calls.mono (LNew_c D okD J i3 (by omega) _) ?_
  rintro e w5 ⟨M, rfl, hS2, hs2, hb2, hc2, hx5⟩
  rw [lvV_eq]
  have hE5 : Ext w4 w5 := by (repeat' (first | exact Ext.refl _ | assumption | apply Ext.allocR | apply Ext.drewR | apply Ext.drewNR | (refine Ext.trans' ?_ (by assumption))))
  have HS5 := Lib.hid (hS.ext hE5)
  have HM5 := Lib.hid hS2
  have hE45 := hE4.trans' hE5
  have l2 := HCB.out.lt
  have l3 := HD.out.lt
  have HC5 := Lib.hid (HCB.out.ext hE45)
  have HD5 := Lib.hid (HD.out.ext hE45)
  have HEw5 := Lib.hid (hEwB.trans' hE45)
  have hLc : wB.heap.size ≤ L.c := hc
  have HE45 := Lib.hid hE45
  have hwB := hEwB.size
  have HEwB := Lib.hid hEwB
  have hLM : L.c < M.c := Nat.lt_of_lt_of_le hS.ltc hc2
  clear hx5 hE5 hE4 hE45 hEwB HCB HD d0 d1 d2 d3 d4 dl hS hS2 hs hb hc hs2 hb2 hc2
  have mU := lvm_Update C I (some ⟨L.s, 0, none⟩)
  have eU := lve_Update C I
  have mC := lvm_Cells C I (some ⟨L.s, 0, none⟩)
  have eC := lve_Cells C I
  go_wp2_with fail
  refine Calls.mono (LUpdate_c C I L _ 0 5 _ HS5.out (by unfold I64; omega) (by unfold U64; omega)) ?_
  rintro e w6 ⟨rfl, hr6⟩
  have hz := HS5.out.zbnd
  rw [hz] at hr6 ⊢
  obtain ⟨_, hS6, hM6⟩ := hr6.resolve_right (fun h => h.1 rfl)
  have hEB6 : Ext wB w6 := Below.trans HE45.out (hM6.below (B := wB.heap.size) HE45.out.size (fun k hk => by rw [hk]; exact hLc))
  have hEw6 : Ext w w6 := HEwB.out.trans' hEB6
  have hC6 : CfgAt w6 w2.heap.size C := HC5.out.mod hM6 (by omega)
  have hD6 : CfgAt w6 w3.heap.size D := HD5.out.mod hM6 (by omega)
  have hM6' : LvAt w6 M D J (zs (lvN D J)) := HM5.out.mod hM6 (fun k hk _ => by obtain ⟨cur, hc⟩ := HS5.out.isc; exact ⟨cur, by rw [hk]; exact hc⟩) (by show ¬ M.c = L.c; omega)
  generalize lvU C I (zs (lvN C I)) 0 5 = l at *
  have HS6 := Lib.hid hS6
  have HM6 := Lib.hid hM6'
  have HC6 := Lib.hid hC6
  have HD6 := Lib.hid hD6
  have HEw6 := Lib.hid hEw6
  have hlen := lvN_le1 okC I
  rw [← hS6.len] at hlen
  have hne2 : w2.heap.size ≠ L.c := by omega
  have hne3 : w3.heap.size ≠ L.c := by omega
  have hall : allI l := hS6.fit
  have hwL : w.heap.size ≤ L.c := by omega
  clear hz hM6 hS6 hM6' HS5 HM5 HC5 HD5 hC6 hD6 hEB6 hEw6 HE45 HEwB HEw5 hwB hLc mU eU
  go_wp2_with fail
  refine Calls.mono (LCells_c C I L _ _ (HS6.out.ext (by (repeat' (first | exact Ext.refl _ | assumption | apply Ext.allocR | apply Ext.drewR | apply Ext.drewNR | (refine Ext.trans' ?_ (by assumption))))))) ?_
  rintro e w7 ⟨v, rfl, ho, _, hx7⟩
  obtain ⟨pv, cv, rfl⟩ := own_sl ho
  have hIv := IntsAt.of_row ho
  have hne := own_ne ho (c := L.c) (by have := HS6.out.ltc; omega)
  have hE7 : Ext w6 w7 := by (repeat' (first | exact Ext.refl _ | assumption | apply Ext.allocR | apply Ext.drewR | apply Ext.drewNR | (refine Ext.trans' ?_ (by assumption))))
  clear ho
  rcases parts_or D J C I with ⟨rfl, rfl⟩ | hp
  · have hmg := LMerge_c D J L M l _ w7 (HS6.out.ext hE7) (HM6.out.ext hE7)
    rw [plusL_zs] at hmg
    replace hmg := hmg.mono (R' := fun e w8 => e = .returned (.int .i64 0) ∧ LvAt w8 L D J l ∧ Mod (fun k => k = L.c) w7 w8) (fun e w8 hr => by obtain ⟨_, h1, h2, h3⟩ := hr.resolve_right (fun h => h.1 hall); exact ⟨h1, h2, h3⟩)
    rw [lvV_eq, lvV_eq] at hmg
    go_wp2_with fail
    refine Calls.mono hmg ?_
    rintro e w8 ⟨rfl, hS8, hm8⟩
    have hM8 : LvAt w8 M D J (zs (lvN D J)) := (HM6.out.ext hE7).mod hm8 (fun k hk _ => by obtain ⟨cur, hc⟩ := (HS6.out.ext hE7).isc; exact ⟨cur, by rw [hk]; exact hc⟩) (by show ¬ M.c = L.c; omega)
    have hIv8 : IntsAt w8 _ l := hIv.mod hm8 (fun g off n cap hv => hne g off _ cap hv)
    have hC8 := (HC6.out.ext hE7).mod hm8 (by omega)
    have hD8 := (HD6.out.ext hE7).mod hm8 (by omega)
    have hEw7 := HEw6.out.trans' hE7
    have hEw8 : Ext w w8 := Below.trans hEw7 (hm8.below (B := w.heap.size) hEw7.size (fun k hk => by rw [hk]; exact hwL))
    clear hmg hm8 hE7 hx7 hIv hne HC6 HD6 HS6 HM6 HEw6 hEw7
    have hin : ∃ want : Int, Calls Try.prog 86 #[lvV D J L, lvV D J M] w8 (fun e w9 => e = .returned (.tuple #[.agg #[.int .i64 0, .int .u64 0], .int .i64 want]) ∧ Ext w8 w9) ∧ (want == 0) = (D.mode == 1) := by
      by_cases hm : D.mode = 1
      · have h := LInner_c D J L M l (zs (lvN D J)) w8 hS8 hM8 hm
        rw [lvInn_zs, zl_V0] at h
        exact ⟨0, h, by rw [hm]; rfl⟩
      · exact ⟨3, LInner_mode D J L M l (zs (lvN D J)) w8 hS8 hM8 hm, by rw [show (D.mode == 1) = false from by simpa using hm]; rfl⟩
    obtain ⟨want, hin, hwant⟩ := hin
    rw [lvV_eq, lvV_eq] at hin
    have HS8 := Lib.hid hS8
    clear hS8 hM8
    go_wp2_with fail
    refine Calls.mono hin ?_
    rintro e w9 ⟨rfl, hx9⟩
    clear hin
    have hC9 := hC8.ext hx9
    have hD9 := hD8.ext hx9
    have hIv9 := hIv8.ext hx9
    have HS9 := Lib.hid (HS8.out.ext hx9)
    have hEw9 := hEw8.trans' hx9
    have c0 := hC9.c0
    have c1 := hC9.c1
    have c2 := hC9.c2
    have c3 := hC9.c3
    have c4 := hC9.c4
    have cl := hC9.lt
    have e0 := hD9.c0
    have e1 := hD9.c1
    have e2 := hD9.c2
    have e3 := hD9.c3
    have e4 := hD9.c4
    have el := hD9.lt
    clear hC9 hD9 hC8 hD8 hIv8 hx9 hEw8 HS8
    go_wp2_with fail
    refine Calls.mono (LCells_c D J L _ _ (HS9.out.ext (by (repeat' (first | exact Ext.refl _ | assumption | apply Ext.allocR | apply Ext.drewR | apply Ext.drewNR | (refine Ext.trans' ?_ (by assumption))))))) ?_
    rintro e w10 ⟨v2, rfl, ho2, _, hx10⟩
    obtain ⟨pv2, cv2, rfl⟩ := own_sl ho2
    have hI2 := IntsAt.of_row ho2
    have hIv10 := hIv9.ext (show Ext w9 w10 by (repeat' (first | exact Ext.refl _ | assumption | apply Ext.allocR | apply Ext.drewR | apply Ext.drewNR | (refine Ext.trans' ?_ (by assumption)))))
    have hEw10 : Ext w w10 := hEw9.trans' (by (repeat' (first | exact Ext.refl _ | assumption | apply Ext.allocR | apply Ext.drewR | apply Ext.drewNR | (refine Ext.trans' ?_ (by assumption)))))
    clear ho2 hx10 hIv9 hEw9 c0 c1 c2 c3 c4 cl e0 e1 e2 e3 e4 el
    go_wp2_with fail
    refine Calls.mono (Same_c _ _ l l _ hI2 hIv10 (by omega) (by omega)) ?_
    rintro e w11 ⟨rfl, hx11⟩
    rw [decide_eq_true (rfl : l = l)]
    go_wp2
    go_ret
    exact ⟨rfl, by (repeat' (first | exact Ext.refl _ | assumption | apply Ext.allocR | apply Ext.drewR | apply Ext.drewNR | (refine Ext.trans' ?_ (by assumption))))⟩
  · have hp2 : PartsAt C I D J := by
      rcases parts_or C I D J with h | h
      · exact absurd ⟨h.1.symm, h.2.symm⟩ (parts_ne hp)
      · exact h
    have hmg := LMerge_no C D I J L M l _ w7 (HS6.out.ext hE7) (HM6.out.ext hE7) hp
    rw [lvV_eq, lvV_eq] at hmg
    go_wp2_with fail
    refine Calls.mono hmg ?_
    rintro e w8 ⟨rfl, hx8⟩
    have hE8 : Ext w6 w8 := hE7.trans' hx8
    have hin := LInner_no C D I J L M l _ w8 (HS6.out.ext hE8) (HM6.out.ext hE8) hp2
    rw [lvV_eq, lvV_eq] at hin
    clear hmg
    go_wp2_with fail
    refine Calls.mono hin ?_
    rintro e w9 ⟨rfl, hx9⟩
    clear hin
    have hE9 : Ext w6 w9 := hE8.trans' hx9
    have hIv9 := hIv.ext (hx8.trans' hx9)
    have hC9 := HC6.out.ext hE9
    have hD9 := HD6.out.ext hE9
    have HS9 := Lib.hid (HS6.out.ext hE9)
    have HM9 := Lib.hid (HM6.out.ext hE9)
    have hEw9 := HEw6.out.trans' hE9
    have c0 := hC9.c0
    have c1 := hC9.c1
    have c2 := hC9.c2
    have c3 := hC9.c3
    have c4 := hC9.c4
    have cl := hC9.lt
    have e0 := hD9.c0
    have e1 := hD9.c1
    have e2 := hD9.c2
    have e3 := hD9.c3
    have e4 := hD9.c4
    have el := hD9.lt
    have hp3 := hp
    clear hC9 hD9 hx8 hx9 hE8 hE9 hE7 hx7 hIv HC6 HD6 HEw6 HS6 HM6 hp
    go_upto_region 14 with (fail)
    go_cut [87] (fun s87 wx => s87 = .bool false ∧ Ext w9 wx)
    case first =>
      cases hp2
      all_goals
        go_wp2_with fail
        go_meet
        exact ⟨by first | rfl | simp [*], by (repeat' (first | exact Ext.refl _ | assumption | apply Ext.allocR | apply Ext.drewR | apply Ext.drewNR | (refine Ext.trans' ?_ (by assumption))))⟩
    case rest =>
      obtain ⟨rfl, hEc⟩ := hcut
      clear c0 c1 c2 c3 c4 cl e0 e1 e2 e3 e4 el
      go_wp2_with fail
      have hsb := LSubtract_no C D I J L M l _ _ (HS9.out.ext hEc) (HM9.out.ext hEc) hp3
      rw [lvV_eq, lvV_eq] at hsb
      refine Calls.mono hsb ?_
      rintro e w10 ⟨rfl, hx10⟩
      clear hsb
      have hE10 := hEc.trans' hx10
      go_wp2_with fail
      refine Calls.mono (LCells_c C I L _ _ (HS9.out.ext hE10)) ?_
      rintro e w11 ⟨v2, rfl, ho2, _, hx11⟩
      obtain ⟨pv2, cv2, rfl⟩ := own_sl ho2
      have hI2 := IntsAt.of_row ho2
      have hE11 := hE10.trans' hx11
      have hIv11 := hIv9.ext hE11
      have hEw11 : Ext w w11 := hEw9.trans' hE11
      clear ho2 hx11 hIv9 hEw9
      go_wp2_with fail
      refine Calls.mono (Same_c _ _ l l _ hI2 hIv11 (by omega) (by omega)) ?_
      rintro e w12 ⟨rfl, hx12⟩
      rw [decide_eq_true (rfl : l = l)]
      go_wp2
      go_ret
      exact ⟨rfl, by (repeat' (first | exact Ext.refl _ | assumption | apply Ext.allocR | apply Ext.drewR | apply Ext.drewNR | (refine Ext.trans' ?_ (by assumption))))⟩
end Go.Proofs.Ytpnbgoahjoabkaa

/- LevelUnlike: levels that are not of one config and number are not put together, and have no product; they stay as they were. No condition: every input. -/
namespace Go.Proofs.Ytpnbgoahjoabkaa
set_option linter.unusedVariables false
open Go.ChangeShapes Go.WideShapes Go.ChangeAt Go.RowKit

set_option maxRecDepth 100000 in
theorem levelUnlike_lifted (os : Os) (started : os.Started) (H : Type) (enc : TypeId × Value → H) :
    ReturnsInHanded {} Try.checked os 22 .any (Rows.levelUnlikeSpec.pre6 enc Try.prog Try.f22 Rows.levelUnlikeRow.domain false) (Rows.levelUnlikeSpec.post enc Try.prog Try.f22 false true false false) := by
  refine returnsInHanded_of_change_sized (C := Try.checked) own started (by kernel_rfl) Try.func22
    (ChangeSpec.witness6 (enc := enc) (C := Try.checked) false ⟨#[], #[.agg #[.int .i64 0, .int .i64 0, .int .i64 0, .int .i64 0, .int .u64 0], .agg #[.int .i64 0, .int .i64 0, .int .i64 0, .int .i64 0, .int .u64 0], .agg #[.int .i64 0, .int .i64 0]], []⟩ 8 (by kernel_rfl) (by kernel_rfl) (by kernel_rfl) (by kernel_rfl)) ?_
  intro W base args ds gs before hval0 hW hcnd hsz0 _
  have hval : ∀ (j : Nat) t v, Try.f22.params[j]? = some t → args[j]? = some v → Value.okWide Try.prog W .any base t v := hval0
  have hW' := hW
  obtain ⟨p, q, hA0, hV, rfl, hfz, hnd⟩ := hW
  have hA : DataW.TrodAll enc Try.prog W 0 (fun _ => true) true Try.f22.params.toList args.toList ds p := hA0
  have hsz : (DataW.weightsEach Try.prog (Try.f22.params.toList ++ Rows.levelUnlikeSpec.plain.varTypes Try.prog) (ds ++ gs)).all (· ≤ reachBytes) = true := hsz0
  rw [Try.params22] at hA hval hsz
  obtain ⟨v0, vs0, d0, ds0, p0, q0, hargs, rfl, rfl, h0, r0⟩ := trodAll_cons hA
  obtain ⟨v1, vs1, d1, ds1, p1, q1, rfl, rfl, rfl, h1, r1⟩ := trodAll_cons r0
  obtain ⟨v2, vs2, d2, ds2, p2, q2, rfl, rfl, rfl, h2, r2⟩ := trodAll_cons r1
  obtain ⟨rfl, rfl, rfl⟩ := trodAll_nil r2
  obtain rfl : args = #[v0, v1, v2] := by cases args; simp_all
  obtain ⟨rfl, rfl⟩ := trodVars_none hV
  have k0 := h0
  have k1 := h1
  have k2 := h2
  have lt0 : ∀ x ∈ p0, x.block < W.heap.size := by obtain ⟨m, hm⟩ := k0; exact DataW.trod_lt m _ _ _ hm
  have lt1 : ∀ x ∈ p1, x.block < W.heap.size := by obtain ⟨m, hm⟩ := k1; exact DataW.trod_lt m _ _ _ hm
  have lt2 : ∀ x ∈ p2, x.block < W.heap.size := by obtain ⟨m, hm⟩ := k2; exact DataW.trod_lt m _ _ _ hm
  obtain ⟨x0, hx0, rfl⟩ := cfgarg_of (hval 0 _ v0 rfl rfl) h0
  obtain ⟨x1, hx1, rfl⟩ := cfgarg_of (hval 1 _ v1 rfl rfl) h1
  obtain ⟨n2, m2, hn2, hm2, rfl⟩ := pairarg_of (hval 2 _ v2 rfl rfl) h2
  clear hA0 hval0
  refine (LUnlikeL_c x0 hx0 x1 hx1 n2 m2 hn2 hm2 W).mono fun e W' ⟨he, bel⟩ => ?_
  subst he
  exact ⟨_, rfl, _, _, _, [], _, [], hW', trodAll_mk1 (shut_bool Try.underlying4 _), (trodAll_cons_mk (Below.trod laidOut (by kernel_rfl) (of_decide_eq_true (by kernel_rfl)) k0 bel lt0) (trodAll_cons_mk (Below.trod laidOut (by kernel_rfl) (of_decide_eq_true (by kernel_rfl)) k1 bel lt1) (trodAll_cons_mk (Below.trod laidOut (by kernel_rfl) (of_decide_eq_true (by kernel_rfl)) k2 bel lt2) trodAll_mk0))), rfl, bel.frame _, fun h => by cases h⟩
end Go.Proofs.Ytpnbgoahjoabkaa
