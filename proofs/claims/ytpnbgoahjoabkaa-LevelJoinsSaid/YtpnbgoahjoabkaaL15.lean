/- Part. No condition. -/
import Derived.Test.YtpnbgoahjoabkaaL6
import Derived.Test.YtpnbgoahjoabkaaL4
import Derived.Test.YtpnbgoahjoabkaaL7
import Derived.Test.YtpnbgoahjoabkaaL5
import Derived.Test.YtpnbgoahjoabkaaL3
import Derived.Test.YtpnbgoahjoabkaaL13
import Derived.Test.YtpnbgoahjoabkaaL14
import Derived.Test.YtpnbgoahjoabkaaL2

/- Plain laws of one level that was fed. -/
namespace Go.Proofs.Ytpnbgoahjoabkaa
set_option linter.unusedVariables false
open Go.RowKit
/-- A level's cells behind updates (cut). -/
def feedV (C : Cfg) (lv : Int) (us : List (Int × Int)) (l : List Int) : List Int := us.foldl (fun l u => lvU C lv l (cutK C lv u.1) (cutD C.mode u.2)) l
theorem feedV_snoc (C : Cfg) (lv : Int) (us : List (Int × Int)) (u : Int × Int) (l : List Int) : feedV C lv (us ++ [u]) l = lvU C lv (feedV C lv us l) (cutK C lv u.1) (cutD C.mode u.2) := by
  unfold feedV; rw [List.foldl_append]; rfl
theorem feedV_len (C : Cfg) (lv : Int) (us : List (Int × Int)) (l : List Int) : (feedV C lv us l).length = l.length := by
  unfold feedV
  induction us generalizing l with
  | nil => rfl
  | cons u us ih => rw [List.foldl_cons, ih, lvU_len]
theorem feedV_bnd (C : Cfg) (lv : Int) (us : List (Int × Int)) (n : Nat) : Bnd (us.length * 1099511627776) (feedV C lv us (zs n)) := by
  refine snoc_ind (P := fun us => Bnd (us.length * 1099511627776) (feedV C lv us (zs n))) ?_ ?_ us
  · exact zs_bnd _
  · intro us u ih
    rw [feedV_snoc]
    have := lvU_bnd (C := C) (lv := lv) (key := cutK C lv u.1) (d := cutD C.mode u.2) ih (by omega) (show (0 : Int) ≤ 1099511627776 by decide) (by have := cutD_bd C.mode u.2; omega)
    have e : ((us ++ [u]).length : Int) * 1099511627776 = us.length * 1099511627776 + 1099511627776 := by
      rw [List.length_append, List.length_singleton]; push_cast; omega
    rw [e]
    exact this
theorem feedV_ok (C : Cfg) (hok : C.Ok) (lv : Int) (hlv : 0 ≤ lv) (us : List (Int × Int)) (hl : us.length ≤ 1000) (u : Int × Int) (n : Nat) : lvE C lv (feedV C lv us (zs n)) (cutK C lv u.1) (cutD C.mode u.2) = 0 :=
  lvE_ok (feedV_bnd C lv us n) (by omega) (show (0 : Int) ≤ 1099511627776 by decide) (by have := cutD_bd C.mode u.2; omega) (by omega) (cutK_bd C hok lv u.1 hlv).2 (fun h => cutD_nn h)
theorem feedV_fit (C : Cfg) (lv : Int) (us : List (Int × Int)) (n : Nat) (hl : us.length ≤ 1000) : allI (feedV C lv us (zs n)) := by
  intro x hx
  have := feedV_bnd C lv us n x hx
  unfold I64
  constructor <;> omega
theorem feedV_s {C : Cfg} {lv : Int} (h : isX C lv = false) (us : List (Int × Int)) (l : List Int) : feedV C lv us l = feed C lv (rN C) (wN C) us l := by
  unfold feedV feed
  congr 1
  funext l u
  exact lvU_s h _ _ _
theorem feedV_x {C : Cfg} {lv : Int} (h : isX C lv = true) (hok : C.Ok) (hlv : 0 ≤ lv) (us : List (Int × Int)) (n : Nat) {i : Nat} (hi : i < n) : (feedV C lv us (zs n)).getD i 0 = sumIf (fun k => k == (i : Int)) (cutP C lv us) := by
  refine snoc_ind (P := fun us => (feedV C lv us (zs n)).getD i 0 = sumIf (fun k => k == (i : Int)) (cutP C lv us)) ?_ ?_ us
  · show (zs n).getD i 0 = 0
    simp [zs, hi]
  · intro us u ih
    have hk := cutK_bd C hok lv u.1 hlv
    have hl : (feedV C lv us (zs n)).length = n := by rw [feedV_len, zs_len]
    rw [feedV_snoc, cutP_snoc, sumIf_snoc, ← ih, lvU_x h]
    unfold updX
    generalize feedV C lv us (zs n) = l at *
    generalize cutK C lv u.1 = k at *
    by_cases e : k.toNat = i
    · have e2 : (k == (i : Int)) = true := by simp; omega
      simp only [e2, cond_true]
      rw [e, List.getD_eq_getElem?_getD, List.getElem?_set_self (by omega)]
      rfl
    · have e2 : (k == (i : Int)) = false := by simp; omega
      simp only [e2, cond_false]
      rw [List.getD_eq_getElem?_getD, List.getElem?_set_ne e, List.getD_eq_getElem?_getD]
      omega
/-- In the modes Linear and Median, and of exact levels in all, two levels' cells together are those of one that was fed all. -/
theorem feedV_plus (C : Cfg) (hok : C.Ok) (lv : Int) (hlv : 0 ≤ lv) (hm : isX C lv = true ∨ C.mode ≠ 2) (us vs : List (Int × Int)) : plusL (feedV C lv us (zs (lvN C lv))) (feedV C lv vs (zs (lvN C lv))) = feedV C lv (us ++ vs) (zs (lvN C lv)) := by
  cases hx : isX C lv with
  | true =>
    apply list_ext_getD
    · rw [plusL_len, feedV_len, feedV_len]
    · intro i hi
      rw [plusL_len] at hi
      rw [plusL_get hi]
      rw [feedV_len, zs_len] at hi
      rw [feedV_x hx hok hlv us _ hi, feedV_x hx hok hlv vs _ hi, feedV_x hx hok hlv (us ++ vs) _ hi, cutP_append, sumIf_append]
  | false =>
    have hm' := hm.resolve_left (by rw [hx]; decide)
    have hn : lvN C lv = rN C * wN C := by unfold lvN; rw [hx]; rfl
    rw [feedV_s hx, feedV_s hx, feedV_s hx, hn]
    exact feed_plus C hok lv (rN C) (wN C) (rN_eq hok) (wN_eq hok) hm' us vs
theorem putK_at {R W : Nat} {cs : List Int} (hm : Meets R W cs) (f : Nat → Int) {l : List Int} (hl : l.length = R * W) {r : Nat} (hr : r < R) : (putK W cs f R l).getD (at_ W cs r) 0 = f r := by
  have h0 := hm.lo r hr
  have h1 := hm.hi r hr
  have h := putK_get hm (f := f) hl hr (a := (cs.getD r 0).toNat) (by omega) R (Nat.le_refl _)
  unfold at_
  rw [h, if_pos ⟨hr, by omega⟩]
/-- An update by more than 0 changes a cell. -/
theorem lvU_ne {C : Cfg} (hok : C.Ok) {lv : Int} (h0 : 0 ≤ lv) {l : List Int} (hl : l.length = lvN C lv) {key d : Int} (hk0 : 0 ≤ key) (hk : key < keys C lv) (hd : 0 < d) : lvU C lv l key d ≠ l := by
  intro he
  cases hx : isX C lv with
  | true =>
    rw [lvU_x hx] at he
    have hn : lvN C lv = kN C lv := by unfold lvN; rw [hx]; rfl
    have hkn := kN_eq hok h0
    have h1 : (updX l key d).getD key.toNat 0 = l.getD key.toNat 0 + d := by
      unfold updX
      rw [List.getD_eq_getElem?_getD, List.getElem?_set_self (by omega)]
      rfl
    rw [he] at h1
    omega
  | false =>
    rw [lvU_s hx] at he
    have hn : lvN C lv = rN C * wN C := by unfold lvN; rw [hx]; rfl
    have hm := cols_meets C hok lv key (rN_eq hok) (wN_eq hok)
    have hR : 0 < rN C := by have := hok.r1; have := rN_eq hok; omega
    rw [hn] at hl
    by_cases hmd : C.mode = 2
    · have hne : readL (wN C) l (cols C lv key) ≠ [] := by
        intro e
        have := readL_len (wN C) l (cols C lv key)
        rw [e, hm.len] at this
        simp at this
        omega
      obtain ⟨hmem, hmin⟩ := minL_spec _ hne
      obtain ⟨r, hr, hre⟩ : ∃ r, r < rN C ∧ l.getD (at_ (wN C) (cols C lv key) r) 0 = minL (readL (wN C) l (cols C lv key)) := by
        have h2 := hmem
        unfold readL at h2
        rw [List.mem_map] at h2
        obtain ⟨r, hr, e⟩ := h2
        rw [List.mem_range, hm.len] at hr
        exact ⟨r, hr, e⟩
      have h1 := putK_at hm (fun k => max (l.getD (at_ (wN C) (cols C lv key) k) 0) (minL (readL (wN C) l (cols C lv key)) + d)) hl hr
      have e : updL C lv (rN C) (wN C) l key d = putK (wN C) (cols C lv key) (fun k => max (l.getD (at_ (wN C) (cols C lv key) k) 0) (minL (readL (wN C) l (cols C lv key)) + d)) (rN C) l := by
        unfold updL; rw [decide_eq_true hmd]; rfl
      rw [← e, he, hre] at h1
      omega
    · have h1 := putK_at hm (fun k => l.getD (at_ (wN C) (cols C lv key) k) 0 + d) hl hR
      have e : updL C lv (rN C) (wN C) l key d = putK (wN C) (cols C lv key) (fun k => l.getD (at_ (wN C) (cols C lv key) k) 0 + d) (rN C) l := by
        unfold updL; rw [decide_eq_false hmd]; rfl
      rw [← e, he] at h1
      omega
end Go.Proofs.Ytpnbgoahjoabkaa

/- A level's methods, called through the interface: by the level's kind, once for both. -/
namespace Go.Proofs.Ytpnbgoahjoabkaa
set_option linter.unusedVariables false
open Go.RowKit
/-- The function behind a method of a level. -/
def lvF (C : Cfg) (lv : Int) (x s : Nat) : Nat := bif isX C lv then x else s
theorem lvF_x {C : Cfg} {lv : Int} (h : isX C lv = true) (x s : Nat) : lvF C lv x s = x := by unfold lvF; rw [h]; rfl
theorem lvF_s {C : Cfg} {lv : Int} (h : isX C lv = false) (x s : Nat) : lvF C lv x s = s := by unfold lvF; rw [h]; rfl
theorem lvV_eq (C : Cfg) (lv : Int) (L : Lev) : lvV C lv L = .iface (lvT C lv) (.pointer (some ⟨L.s, 0, none⟩)) := rfl
theorem lvm_Update (C : Cfg) (lv : Int) (p : Option Addr) (w : World) : Sem.run Try.prog (method 362 (lvT C lv) (.pointer p) "Update") w = .ok (lvF C lv 216 28, .pointer p) w := by
  unfold lvT lvF
  cases isX C lv with
  | true => kernel_rfl
  | false => kernel_rfl
theorem lve_Update (C : Cfg) (lv : Int) (args : Array Value) (w : World) : (callFunc (lvF C lv 216 28) args).run Try.prog w = .ok (.enter (lvF C lv 216 28) args) w := by
  unfold lvF
  cases isX C lv with
  | true => kernel_rfl
  | false => kernel_rfl
theorem lvm_Cells (C : Cfg) (lv : Int) (p : Option Addr) (w : World) : Sem.run Try.prog (method 362 (lvT C lv) (.pointer p) "Cells") w = .ok (lvF C lv 139 42, .pointer p) w := by
  unfold lvT lvF
  cases isX C lv with
  | true => kernel_rfl
  | false => kernel_rfl
theorem lve_Cells (C : Cfg) (lv : Int) (args : Array Value) (w : World) : (callFunc (lvF C lv 139 42) args).run Try.prog w = .ok (.enter (lvF C lv 139 42) args) w := by
  unfold lvF
  cases isX C lv with
  | true => kernel_rfl
  | false => kernel_rfl
theorem lvm_Config (C : Cfg) (lv : Int) (p : Option Addr) (w : World) : Sem.run Try.prog (method 362 (lvT C lv) (.pointer p) "Config") w = .ok (lvF C lv 137 44, .pointer p) w := by
  unfold lvT lvF
  cases isX C lv with
  | true => kernel_rfl
  | false => kernel_rfl
theorem lve_Config (C : Cfg) (lv : Int) (args : Array Value) (w : World) : (callFunc (lvF C lv 137 44) args).run Try.prog w = .ok (.enter (lvF C lv 137 44) args) w := by
  unfold lvF
  cases isX C lv with
  | true => kernel_rfl
  | false => kernel_rfl
theorem lvm_Level (C : Cfg) (lv : Int) (p : Option Addr) (w : World) : Sem.run Try.prog (method 362 (lvT C lv) (.pointer p) "Level") w = .ok (lvF C lv 138 45, .pointer p) w := by
  unfold lvT lvF
  cases isX C lv with
  | true => kernel_rfl
  | false => kernel_rfl
theorem lve_Level (C : Cfg) (lv : Int) (args : Array Value) (w : World) : (callFunc (lvF C lv 138 45) args).run Try.prog w = .ok (.enter (lvF C lv 138 45) args) w := by
  unfold lvF
  cases isX C lv with
  | true => kernel_rfl
  | false => kernel_rfl
def LvUpdPost (w : World) (L : Lev) (C : Cfg) (lv : Int) (l : List Int) (key d : Int) (e : Ending) (w' : World) : Prop :=
  e = .returned (.int .i64 (lvE C lv l key d)) ∧ ((lvE C lv l key d = 0 ∧ LvAt w' L C lv (lvU C lv l key d) ∧ Mod (fun k => k = L.c) w w') ∨ (lvE C lv l key d ≠ 0 ∧ Ext w w'))
theorem LUpdate_c (C : Cfg) (lv : Int) (L : Lev) (l : List Int) (key d : Int) (w : World) (h : LvAt w L C lv l) (hd : I64 d) (hk : U64 key) :
    Calls Try.prog (lvF C lv 216 28) #[.pointer (some ⟨L.s, 0, none⟩), .int .u64 key, .int .i64 d] w (LvUpdPost w L C lv l key d) := by
  cases hx : isX C lv with
  | true =>
    rw [lvF_x hx]
    refine (EUpdate_c _ _ _ C lv _ l key d w (h.x hx) hd hk).mono ?_
    rintro e w' ⟨rfl, hr⟩
    unfold LvUpdPost
    rw [lvE_x hx, lvU_x hx]
    exact ⟨rfl, hr.imp (fun ⟨a, b, c⟩ => ⟨a, .inl ⟨hx, b⟩, c⟩) (fun h => h)⟩
  | false =>
    rw [lvF_s hx]
    refine (Update_c _ _ _ C lv _ _ l key d w (h.sk hx) hd hk.1).mono ?_
    rintro e w' ⟨rfl, hr⟩
    unfold LvUpdPost
    rw [lvE_s hx, lvU_s hx]
    exact ⟨rfl, hr.imp (fun ⟨a, b, c⟩ => ⟨a, .inr ⟨hx, b⟩, c⟩) (fun h => h)⟩
theorem LCells_c (C : Cfg) (lv : Int) (L : Lev) (l : List Int) (w : World) (h : LvAt w L C lv l) :
    Calls Try.prog (lvF C lv 139 42) #[.pointer (some ⟨L.s, 0, none⟩)] w fun e w' => ∃ v, e = .returned v ∧ w'.ownsRow w.heap.size 2 1 v l.length (ints l) ∧ (v = .slice none 0 0 → False) ∧ Ext w w' := by
  cases hx : isX C lv with
  | true => rw [lvF_x hx]; exact ECells_c _ _ _ C lv _ l w (h.x hx)
  | false => rw [lvF_s hx]; exact SCells_c _ _ _ C lv _ _ l w (h.sk hx)
theorem LConfig_c (C : Cfg) (lv : Int) (L : Lev) (l : List Int) (w : World) (h : LvAt w L C lv l) :
    Calls Try.prog (lvF C lv 137 44) #[.pointer (some ⟨L.s, 0, none⟩)] w fun e w' => e = .returned (.agg #[.int .i64 C.bits, .int .i64 C.rows, .int .i64 C.width, .int .i64 C.mode, .int .u64 C.seed]) ∧ Ext w w' := by
  cases hx : isX C lv with
  | true => rw [lvF_x hx]; exact EConfig_c _ _ _ C lv _ l w (h.x hx)
  | false => rw [lvF_s hx]; exact SConfig_c _ _ _ C lv _ _ l w (h.sk hx)
theorem LLevel_c (C : Cfg) (lv : Int) (L : Lev) (l : List Int) (w : World) (h : LvAt w L C lv l) :
    Calls Try.prog (lvF C lv 138 45) #[.pointer (some ⟨L.s, 0, none⟩)] w fun e w' => e = .returned (.int .i64 lv) ∧ w = w' := by
  cases hx : isX C lv with
  | true => rw [lvF_x hx]; exact ELevel_c _ _ _ C lv _ l w (h.x hx)
  | false => rw [lvF_s hx]; exact SLevel_c _ _ _ C lv _ _ l w (h.sk hx)
end Go.Proofs.Ytpnbgoahjoabkaa

/- gaugerlaw13.fed makes a level and feeds it: it never refuses. -/
namespace Go.Proofs.Ytpnbgoahjoabkaa
set_option linter.unusedVariables false
open Go.RowKit
/-- The level that a play stands for. -/
def vlv (C : Cfg) (lv : Int) : Int := lv % 65536 % (C.bits + 1)
theorem vlv_bd {C : Cfg} (h : C.Ok) (lv : Int) : 0 ≤ vlv C lv ∧ vlv C lv ≤ C.bits := by
  unfold vlv
  have h1 := h.b1
  have b1 := Int.emod_nonneg (lv % 65536) (show C.bits + 1 ≠ 0 by omega)
  have b2 := Int.emod_lt_of_pos (lv % 65536) (show 0 < C.bits + 1 by omega)
  omega
def VFedPost (w : World) (C : Cfg) (lv : Int) (us : List (Int × Int)) (i j : Nat) (e : Ending) (w' : World) : Prop :=
  ∃ (L : Lev), e = .returned (.tuple #[.iface (lvT C lv) (.pointer (some ⟨L.s, 0, none⟩)), .agg #[.int .i64 C.bits, .int .i64 C.rows, .int .i64 C.width, .int .i64 C.mode, .int .u64 C.seed], .int .i64 lv]) ∧
    LvAt w' L C lv (feedV C lv (fus us i j) (zs (lvN C lv))) ∧ w.heap.size ≤ L.s ∧ w.heap.size ≤ L.b ∧ w.heap.size ≤ L.c ∧ Ext w w'
set_option maxRecDepth 20000 in
set_option maxHeartbeats 4000000 in
theorem fed13_c (x : Cfg) (hx : x.Raw) (nb : Int) (hn1 : 1 ≤ nb) (hn2 : nb ≤ 20) (lv : Int) (hlv : I64 lv) (us : List (Int × Int)) (hus : UpsOk us) (v : Value) (i j : Nat) (hij : i ≤ j) (hj : j ≤ 60) (w : World) (hv : UpsAt w v us) (hul : us.length ≤ 140737488355328) :
    Calls Try.prog 80 #[.agg #[.int .i64 x.bits, .int .i64 x.rows, .int .i64 x.width, .int .i64 x.mode, .int .u64 x.seed, .int .i64 lv, v], .int .i64 nb, .int .i64 i, .int .i64 j] w (VFedPost w (mkC x nb 9) (vlv (mkC x nb 9) lv) us i j) := by
  obtain ⟨vp, vc, rfl⟩ := hv.sl
  have HV := Lib.hid hv
  have hok := mkC_ok x hx.s (nb := nb) (nw := 9) hn1 hn2 (by decide) (by decide)
  have hbits1 := hok.b1
  have hbits2 := hok.b2
  have e16 := and16 lv
  clear hv
  go_enter Try.func80, Try.ntmps80
  go_wp2_with fail
  refine (Any_c x hx nb 9 hn1 hn2 (by decide) (by decide) _).mono ?_
  rintro e w1 ⟨rfl, hb1⟩
  have hs1 := hb1.size
  simp only [size_alloc] at hs1
  have kp : w1.heap[w.heap.size]? = some (.cells #[.int .i64 x.bits, .int .i64 x.rows, .int .i64 x.width, .int .i64 x.mode, .int .u64 x.seed, .int .i64 lv, .slice vp us.length vc] 118 (0, 0)) := by
    rw [hb1.block _ (by simp only [size_alloc]; omega), heap_old _ _ (by rw [size_alloc]; omega)]
    exact heap_at _ _ rfl
  have kr : w1.heap[w.heap.size + 1]? = some (.cells #[.int .i64 0, .int .i64 0, .int .i64 0, .int .i64 0, .int .u64 0] 24 (0, 0)) := by
    rw [hb1.block _ (by simp only [size_alloc]; omega)]
    exact heap_at _ _ (by simp only [size_alloc])
  have hE1 : Ext w w1 := by (repeat' (first | exact Ext.refl _ | assumption | apply Ext.allocR | apply Ext.drewR | apply Ext.drewNR | (refine Ext.trans' ?_ (by assumption))))
  clear hb1
  generalize mkC x nb 9 = C at *
  obtain ⟨lb1, lb2⟩ := vlv_bd hok lv
  have hfl : lv % 65536 % (C.bits + 1) = vlv C lv := rfl
  have z1 : (C.bits + 1 == 0) = false := by simp; omega
  have HFL := Lib.hid hfl
  have k5 := (cell_of kp 5).trans rfl
  have n0 := lt_of kp
  clear hfl
  have kc := heap_at w1 (.cells #[.int .i64 C.bits, .int .i64 C.rows, .int .i64 C.width, .int .i64 C.mode, .int .u64 C.seed] 24) rfl
  have hxc : Ext w1 (w1.alloc (.cells #[.int .i64 C.bits, .int .i64 C.rows, .int .i64 C.width, .int .i64 C.mode, .int .u64 C.seed] 24)) := Ext.alloc' _ _
  have KP1 := Lib.hid (hxc.keep kp)
  have KR1 := Lib.hid (hxc.keep kr)
  have KC1 := Lib.hid kc
  have hEc := hE1.trans' hxc
  have HEC := Lib.hid hEc
  clear kp kr kc hEc hxc hE1
  go_wp2_with fail
  rw [HFL.out]
  refine (LNew_c C hok (vlv C lv) lb1 lb2 _).mono ?_
  rintro e w2 ⟨L, rfl, hS, hs, hb, hc, hx2⟩
  rw [lvV_eq]
  generalize vlv C lv = V at *
  have hE2 : Ext w w2 := HEC.out.trans' hx2
  have hcl := lt_of KC1.out
  have KP := Lib.hid (hx2.keep KP1.out)
  have KR := Lib.hid (hx2.keep KR1.out)
  have KC := Lib.hid (hx2.keep KC1.out)
  have hs2 := hx2.size
  rw [size_alloc] at hs hb hc hcl hs2
  clear hx2 k5 KP1 KR1 KC1 HEC HFL z1 e16
  go_wp2
  have hM0 : Mod (fun i => i = L.c) w2 w2 := Mod.refl _ _
  have hS0 : LvAt w2 L C V (feedV C V (fus us i i) (zs (lvN C V))) := by rw [fus_self]; exact hS
  have mU := lvm_Update C V (some ⟨L.s, 0, none⟩)
  have eU := lve_Update C V
  have HSC := Lib.hid hS.isc
  clear hS
  go_loopw [15] (fun u wr => ∃ k : Nat, i ≤ k ∧ (k = i ∨ (k ≤ j ∧ k ≤ us.length)) ∧ u = .int .i64 k ∧ Mod (fun i => i = L.c) w2 wr ∧ LvAt wr L C V (feedV C V (fus us i k) (zs (lvN C V)))) (fun u _ => j - (intOf u).toNat)
  case atStart => exact ⟨i, Nat.le_refl _, .inl rfl, rfl, hM0, hS0⟩
  case round =>
    clear hM0 hS0
    obtain ⟨k, hik, hkj, rfl, hM, hK⟩ := hrel
    have hMs := hM.size
    have qp := hM.keep KP.out (by omega)
    have qc := hM.keep KC.out (by omega)
    have q6 := (cell_of qp 6).trans rfl
    have lp := lt_of qp
    have lc := lt_of qc
    have hCq := CfgAt.of qc
    have c0 := hCq.c0
    have c1 := hCq.c1
    have c2 := hCq.c2
    have c3 := hCq.c3
    have c4 := hCq.c4
    clear hCq
    by_cases hgo : k < us.length ∧ k < j
    · obtain ⟨hg1, hg2⟩ := hgo
      have hkj60 : k < 60 := by omega
      obtain ⟨ug, off, rfl, hul0, d0', d1'⟩ := HV.out.one hg1
      have d0 := (mcell hM (b := ug) (by have := hE2.size; omega) (by omega) (off + k * 2)).trans (((bcell hE2).1 _ _ hul0).trans d0')
      have d1 := (mcell hM (b := ug) (by have := hE2.size; omega) (by omega) (off + k * 2 + 1)).trans (((bcell hE2).1 _ _ hul0).trans d1')
      have hgl2 : ug < wr.heap.size := by have := hE2.size; omega
      have hf := fus_snoc us hik hg1
      have hu := hus _ (List.getElem_mem hg1)
      have hget : us.getD k (0, 0) = us[k] := by simp [hg1]
      rw [hget] at hf
      generalize us[k] = uu at *
      obtain ⟨uk, ud⟩ := uu
      have HF := Lib.hid hf
      clear hf hget d0' d1'
      have herr := feedV_ok C hok V lb1 (fus us i k) (by have := fus_len us i k; omega) (uk, ud) (lvN C V)
      have HERR := Lib.hid herr
      have HQ := Lib.hid qp
      have HK := Lib.hid hK
      clear herr qp qc hK
      go_upto_region 9 with (fail)
      go_cut [16] (fun s16 wx => ∃ bu : Nat, s16 = .pointer (some ⟨bu, 0, none⟩) ∧ wx.heap[bu]? = some (.cells #[.int .u64 (cutK C V uk), .int .i64 (cutD C.mode ud)] 38 (0, 0)) ∧ Ext wr wx ∧ wr.heap.size ≤ bu)
      case first =>
        have hC0 := af_drew wr
        refine pi_start (fun w' => ∃ x : After wr, w' = x.w) [] (by kernel_rfl) ?_
        refine pi_c 0 (by assumption) rfl (by kernel_rfl) (by kernel_rfl) (fun _ _ _ _ h => h) (fun K hK => ?_)
        go_big_quiet_op
        refine hK _ ?_
        clear hK K
        refine pi_t 1 rfl (by kernel_rfl) (by kernel_rfl) (fun _ _ _ _ h => h) (fun K hK => ?_)
        go_big_quiet_op
        refine hK _ ?_
        clear hK K
        refine pi_t 2 rfl (by kernel_rfl) (by kernel_rfl) (fun _ _ _ _ h => h) (fun K hK => ?_)
        go_big_quiet_op
        refine hK _ ?_
        clear hK K
        refine pi_c 3 (by assumption) rfl (by kernel_rfl) (by kernel_rfl) (fun _ _ _ _ h => h) (fun K hK => ?_)
        go_big_quiet_op
        refine hK _ ?_
        clear hK K
        refine pi_t 4 rfl (by kernel_rfl) (by kernel_rfl) (fun _ _ _ _ h => h) (fun K hK => ?_)
        go_big_quiet_op
        refine hK _ ?_
        clear hK K
        refine pi_t 5 rfl (by kernel_rfl) (by kernel_rfl) (fun _ _ _ _ h => h) (fun K hK => ?_)
        go_big_quiet_op
        refine hK _ ?_
        clear hK K
        refine pi_c 6 (by assumption) rfl (by kernel_rfl) (by kernel_rfl) (fun _ _ _ _ h => h) (fun K hK => ?_)
        go_big_quiet_op
        refine hK _ ?_
        clear hK K
        refine pi_b 7 8 rfl rfl (by kernel_rfl) (fun K hK => ?_) (fun K hK => ?_)
        · go_wp2_with (go_at_call 82; refine (Cut_c C hok V lb1 lb2 uk ud hu.1 hu.2 _).mono ?_; rintro e w3 ⟨rfl, hx3⟩)
          have hx3' : Ext wr w3 := Ext.trans' (Below.drew (Ext.refl wr)) hx3
          have hs3 := hx3'.size
          refine hK _ _ (fun _ h => af_step h hx3) ?_
          clear hK K
          refine pi_l 8 rfl (by kernel_rfl) (fun K hK => ?_)
          go_wp2
          refine hK _ _ (fun _ h => af_step h (Ext.alloc' _ _)) ?_
          clear hK K
          refine pi_l 9 rfl (by kernel_rfl) (fun K hK => ?_)
          go_wp2
          refine hK _ _ (fun _ _ => ⟨⟨_, hx3'.allocR _⟩, rfl⟩) ?_
          clear hK K
          refine pi_end (by kernel_rfl) ?_
          go_wp2_with fail
          go_meet
          exact ⟨w3.heap.size, rfl, heap_at _ _ rfl, hx3'.allocR _, hs3⟩
        · go_wp2
          refine hK _ _ (fun _ h => af_step h (Ext.alloc' _ _)) ?_
          clear hK K
          refine pi_l 7 rfl (by kernel_rfl) (fun K hK => ?_)
          go_wp2_with (go_at_call 82; refine (Cut_c C hok V lb1 lb2 uk ud hu.1 hu.2 _).mono ?_; rintro e w3 ⟨rfl, hx3⟩)
          refine hK _ _ (fun _ h => af_step h hx3) ?_
          clear hK K
          have hs3 : (wr.alloc (.cells #[.int .u64 0, .int .i64 0] 38)).heap.size ≤ w3.heap.size := hx3.size
          rw [size_alloc] at hs3
          have hx3' : Ext wr w3 := Ext.trans' (Ext.alloc' wr _) (Ext.trans' (Below.drew (Ext.refl _)) hx3)
          have hbx : w3.heap[wr.heap.size]? = some (.cells #[.int .u64 0, .int .i64 0] 38 (0, 0)) := by
            rw [hx3.block _ (by show _ < (wr.alloc _).heap.size; rw [size_alloc]; exact Nat.lt_succ_self _)]
            exact heap_at wr _ rfl
          have p0 := (cell_of hbx 0).trans rfl
          have p1 := (cell_of hbx 1).trans rfl
          have f0 := frozen_of hbx 0
          have f1 := frozen_of hbx 1
          refine pi_l 9 rfl (by kernel_rfl) (fun K hK => ?_)
          go_wp2
          refine hK _ _ (fun _ _ => ⟨⟨_, (hx3'.setR (Nat.le_refl _) _).setR (Nat.le_refl _) _⟩, rfl⟩) ?_
          clear hK K
          refine pi_end (by kernel_rfl) ?_
          go_wp2_with fail
          go_meet
          exact ⟨wr.heap.size, rfl, set2 hbx _ _, (hx3'.setR (Nat.le_refl _) _).setR (Nat.le_refl _) _, Nat.le_refl _⟩
      case rest =>
        obtain ⟨bu, rfl, hbu, hxw, hbul⟩ := hcut
        have b0 := (cell_of hbu 0).trans rfl
        have b1 := (cell_of hbu 1).trans rfl
        have hdI : I64 (cutD C.mode ud) := by have := cutD_bd C.mode ud; unfold I64; omega
        have hkU : U64 (cutK C V uk) := by have := cutK_bd C hok V uk lb1; have := keys_bd C hok V lb1; unfold U64; omega
        clear c0 c1 c2 c3 c4 q6 d0 d1
        go_wp2_with fail
        refine Calls.mono (LUpdate_c C V L _ _ _ _ (HK.out.ext hxw) hdI hkU) ?_
        rintro e w4 ⟨rfl, hr4⟩
        rw [HERR.out] at hr4 ⊢
        obtain ⟨_, hK4, hM4⟩ := hr4.resolve_right (fun h => h.1 rfl)
        go_wp2
        go_roundw
        case rel =>
          refine ⟨k + 1, by omega, .inr ⟨by omega, by omega⟩, by go_num, hM.trans ((hxw.mod _).trans hM4), ?_⟩
          rw [HF.out, feedV_snoc]
          exact hK4
        case measure => simp [intOf]; omega
    · have hfe := fus_end us hij hik hkj hgo
      have HFE := Lib.hid hfe
      have qr := hM.keep KR.out (by omega)
      have p0 := (cell_of qr 0).trans rfl
      have p1 := (cell_of qr 1).trans rfl
      have p2 := (cell_of qr 2).trans rfl
      have p3 := (cell_of qr 3).trans rfl
      have p4 := (cell_of qr 4).trans rfl
      have f0 := frozen_of qr 0
      have f1 := frozen_of qr 1
      have f2 := frozen_of qr 2
      have f3 := frozen_of qr 3
      have f4 := frozen_of qr 4
      clear hfe
      have hEr : Ext w wr := Below.trans hE2 (hM.below (B := w.heap.size) hE2.size (fun k hk => by omega))
      have hrow : ∃ (cur : Array Value), wr.heap[w.heap.size + 1]? = some (.cells cur 24 (0, 0)) := ⟨_, qr⟩
      have hend : ∀ Wf : World, Ext w Wf → (∀ j, j ≠ w.heap.size + 1 → Wf.heap[j]? = wr.heap[j]?) → VFedPost w C V us i j (.returned (.tuple #[.iface (lvT C V) (.pointer (some ⟨L.s, 0, none⟩)), .agg #[.int .i64 C.bits, .int .i64 C.rows, .int .i64 C.width, .int .i64 C.mode, .int .u64 C.seed], .int .i64 V])) Wf := by
        intro Wf hEf hof
        refine ⟨L, rfl, ?_, by omega, by omega, by omega, hEf⟩
        rw [← HFE.out]
        exact hK.keep (hof _ (by omega)) (hof _ (by omega)) (hof _ (by omega))
      have HEND := Lib.hid hend
      have HK := Lib.hid hK
      clear hend hK hrow
      by_cases hg1 : k < us.length
      · have hg2 : ¬ k < j := fun h => hgo ⟨hg1, h⟩
        go_wp2
        have hC0 := af_drew wr
        refine pi_start (fun w' => ∃ x : After wr, w' = x.w) [4] (by kernel_rfl) ?_
        refine pi_t 0 rfl (by kernel_rfl) (by kernel_rfl) (fun _ _ _ _ h => h) (fun K hK => ?_)
        go_big_quiet_op
        refine hK _ ?_
        clear hK K
        refine pi_t 2 rfl (by kernel_rfl) (by kernel_rfl) (fun _ _ _ _ h => h) (fun K hK => ?_)
        go_big_quiet_op
        refine hK _ ?_
        clear hK K
        refine pi_c 1 (by assumption) rfl (by kernel_rfl) (by kernel_rfl) (fun _ _ _ _ h => h) (fun K hK => ?_)
        go_big_quiet_op
        refine hK _ ?_
        clear hK K
        refine pi_t 3 rfl (by kernel_rfl) (by kernel_rfl) (fun _ _ _ _ h => h) (fun K hK => ?_)
        go_big_quiet_op
        refine hK _ ?_
        clear hK K
        refine pi_l 4 rfl (by kernel_rfl) (fun K hK => ?_)
        go_wp2
        refine hK _ _ (by simp) ?_
        clear hK K
        refine pi_t 5 rfl (by kernel_rfl) (by kernel_rfl) (fun _ _ _ _ h => h) (fun K hK => ?_)
        go_big_quiet_op
        refine hK _ ?_
        clear hK K
        refine pi_end (by kernel_rfl) ?_
        go_wp2_with fail
        refine fin5 (Φ := fun W' => bodyPost _ _ _ _ _ W'.drew) (w := w) (W := wr) qr hEr (by omega) ?_
        intro Wf hf hE5 hof _
        have q0 := (cell_of hf 0).trans rfl
        have q1 := (cell_of hf 1).trans rfl
        have q2 := (cell_of hf 2).trans rfl
        have q3 := (cell_of hf 3).trans rfl
        have q4 := (cell_of hf 4).trans rfl
        exact bodyPost_ret (v := .tuple #[.iface (lvT C V) (.pointer (some ⟨L.s, 0, none⟩)), .agg #[.int .i64 C.bits, .int .i64 C.rows, .int .i64 C.width, .int .i64 C.mode, .int .u64 C.seed], .int .i64 V]) (by simp [results, Try.results80, go_sem, q0, q1, q2, q3, q4]) rfl (HEND.out _ (Below.drew hE5) hof)
      · go_wp2
        have hC0 := af_drew wr
        refine pi_start (fun w' => ∃ x : After wr, w' = x.w) [4] (by kernel_rfl) ?_
        refine pi_t 0 rfl (by kernel_rfl) (by kernel_rfl) (fun _ _ _ _ h => h) (fun K hK => ?_)
        go_big_quiet_op
        refine hK _ ?_
        clear hK K
        refine pi_t 2 rfl (by kernel_rfl) (by kernel_rfl) (fun _ _ _ _ h => h) (fun K hK => ?_)
        go_big_quiet_op
        refine hK _ ?_
        clear hK K
        refine pi_c 1 (by assumption) rfl (by kernel_rfl) (by kernel_rfl) (fun _ _ _ _ h => h) (fun K hK => ?_)
        go_big_quiet_op
        refine hK _ ?_
        clear hK K
        refine pi_t 3 rfl (by kernel_rfl) (by kernel_rfl) (fun _ _ _ _ h => h) (fun K hK => ?_)
        go_big_quiet_op
        refine hK _ ?_
        clear hK K
        refine pi_l 4 rfl (by kernel_rfl) (fun K hK => ?_)
        go_wp2
        refine hK _ _ (by simp) ?_
        clear hK K
        refine pi_t 5 rfl (by kernel_rfl) (by kernel_rfl) (fun _ _ _ _ h => h) (fun K hK => ?_)
        go_big_quiet_op
        refine hK _ ?_
        clear hK K
        refine pi_end (by kernel_rfl) ?_
        go_wp2_with fail
        refine fin5 (Φ := fun W' => bodyPost _ _ _ _ _ W'.drew) (w := w) (W := wr) qr hEr (by omega) ?_
        intro Wf hf hE5 hof _
        have q0 := (cell_of hf 0).trans rfl
        have q1 := (cell_of hf 1).trans rfl
        have q2 := (cell_of hf 2).trans rfl
        have q3 := (cell_of hf 3).trans rfl
        have q4 := (cell_of hf 4).trans rfl
        exact bodyPost_ret (v := .tuple #[.iface (lvT C V) (.pointer (some ⟨L.s, 0, none⟩)), .agg #[.int .i64 C.bits, .int .i64 C.rows, .int .i64 C.width, .int .i64 C.mode, .int .u64 C.seed], .int .i64 V]) (by simp [results, Try.results80, go_sem, q0, q1, q2, q3, q4]) rfl (HEND.out _ (Below.drew hE5) hof)
end Go.Proofs.Ytpnbgoahjoabkaa

/- Products with noughts. -/
namespace Go.Proofs.Ytpnbgoahjoabkaa
set_option linter.unusedVariables false
open Go.RowKit

theorem zl_zs_getD (n i : Nat) : (zs n).getD i 0 = 0 := by
  unfold zs
  rw [List.getD_eq_getElem?_getD]
  rcases Nat.lt_or_ge i n with h | h
  · simp [h]
  · simp [h]
theorem zl_rowP_getD (l : List Int) (W r k : Nat) : (rowP l W r).getD k 0 = if k < W then l.getD (r * W + k) 0 else 0 := by
  by_cases h : k < W
  · rw [rowP_get l h, if_pos h]
  · rw [if_neg h, List.getD_eq_getElem?_getD, List.getElem?_eq_none (by rw [rowP_len]; omega)]; rfl
theorem zl_dotF_zero {a b : List Int} (h : ∀ k, b.getD k 0 = 0) : ∀ k, dotF a b k = some 0 := by
  intro k
  induction k with
  | zero => rfl
  | succ k ih =>
    have := dotF_yes ih (by rw [h, Int.mul_zero]; unfold W128; omega)
    rw [h, Int.mul_zero] at this
    exact this
theorem zl_innF_zero (l : List Int) (n W : Nat) : ∀ r, innF l (zs n) W r = some 0 := by
  intro r
  induction r with
  | zero => rfl
  | succ r ih =>
    have hd := zl_dotF_zero (a := rowP l W r) (b := rowP (zs n) W r) (fun k => by rw [zl_rowP_getD]; split <;> first | exact zl_zs_getD _ _ | rfl) W
    simp only [innF, ih, hd, Option.bind_some]
    simp
theorem zl_V0 : innV (some 0) = .tuple #[.agg #[.int .i64 0, .int .u64 0], .int .i64 0] := rfl
end Go.Proofs.Ytpnbgoahjoabkaa

/- gaugerlaw13.LevelUnlike, walked. -/
namespace Go.Proofs.Ytpnbgoahjoabkaa
set_option linter.unusedVariables false
open Go.RowKit
theorem parts_ne {C D : Cfg} {i j : Int} (h : PartsAt C i D j) : ¬ (C = D ∧ i = j) := by
  rintro ⟨rfl, rfl⟩
  cases h <;> simp_all
theorem plusL_zs (l : List Int) (n : Nat) : plusL l (zs n) = l := by
  refine getD_ext (plusL_len l _) fun k hk => ?_
  rw [plusL_get (by rw [plusL_len] at hk; exact hk)]
  have := zl_zs_getD n k
  omega
theorem lvInn_zs (C : Cfg) (lv : Int) (l : List Int) (n : Nat) : lvInn C lv l (zs n) = some 0 := by
  unfold lvInn
  rw [zl_dotF_zero (zl_zs_getD n), zl_innF_zero]
  cases isX C lv <;> rfl
theorem lvN_le1 {C : Cfg} (h : C.Ok) (lv : Int) : lvN C lv ≤ 1024 := by
  unfold lvN
  cases hx : isX C lv with
  | true =>
    have h2 := h.w2
    have h3 : keys C lv ≤ C.width := of_decide_eq_true hx
    show kN C lv ≤ 1024
    unfold kN; omega
  | false =>
    have h2 := h.w2
    have h3 := h.r2
    show rN C * wN C ≤ 1024
    have h4 : rN C ≤ 8 := by unfold rN; omega
    have h5 : wN C ≤ 128 := by unfold wN; omega
    exact Nat.mul_le_mul h4 h5
theorem LvAt.zbnd {w : World} {L : Lev} {C : Cfg} {lv : Int} {n : Nat} (h : LvAt w L C lv (zs n)) : lvE C lv (zs n) 0 5 = 0 :=
  lvE_ok (B := 0) (T := 5) (fun x hx => by have := List.eq_of_mem_replicate hx; omega) (by omega) (by omega) (by omega) (by omega) (by have := (keys_bd C h.ok lv h.lo).1; omega) (fun _ => by omega)
set_option maxRecDepth 20000 in
set_option maxHeartbeats 8000000 in
theorem LUnlikeL_c (x : Cfg) (hx : x.Raw) (y : Cfg) (hy : y.Raw) (lx ly : Int) (hlx : I64 lx) (hly : I64 ly) (w : World) :
    Calls Try.prog 22 #[.agg #[.int .i64 x.bits, .int .i64 x.rows, .int .i64 x.width, .int .i64 x.mode, .int .u64 x.seed], .agg #[.int .i64 y.bits, .int .i64 y.rows, .int .i64 y.width, .int .i64 y.mode, .int .u64 y.seed], .agg #[.int .i64 lx, .int .i64 ly]] w fun e w' => e = .returned (.bool true) ∧ Ext w w' := by
  go_enter Try.func22, Try.ntmps22
  go_wp2_with fail
  refine (shown13_c _).mono ?_
  rintro e w1 ⟨rfl, hb1⟩
  have hE1 : Ext w w1 := by (repeat' (first | exact Ext.refl _ | assumption | apply Ext.allocR | apply Ext.drewR | apply Ext.drewNR | (refine Ext.trans' ?_ (by assumption))))
  have hPx : CfgAt w1 w.heap.size x := ((CfgAt.box x 24 rfl).ext ((Ext.alloc' _ _).allocR _)).ext hb1
  have hPy : CfgAt w1 (w.heap.size + 1) y := ((CfgAt.box y 24 (by rw [size_alloc])).ext (Ext.alloc' _ _)).ext hb1
  have hl0 : w1.cell? ⟨w.heap.size + 2, 0, none⟩ = some (.int .i64 lx) := (cell_of (hb1.keep (heap_at _ _ (by rw [size_alloc, size_alloc]))) 0).trans rfl
  have hl1 : w1.cell? ⟨w.heap.size + 2, 1, none⟩ = some (.int .i64 ly) := (cell_of (hb1.keep (heap_at _ _ (by rw [size_alloc, size_alloc]))) 1).trans rfl
  have hll : w.heap.size + 2 < w1.heap.size := lt_of (hb1.keep (heap_at _ _ (by rw [size_alloc, size_alloc])))
  clear hb1
  have d0 := hPx.c0
  have d1 := hPx.c1
  have d2 := hPx.c2
  have d3 := hPx.c3
  have d4 := hPx.c4
  have dl := hPx.lt
  go_wp2_with fail
  refine Calls.mono (Any_c x hx 6 9 (by decide) (by decide) (by decide) (by decide) _) ?_
  rintro e w2 ⟨rfl, hx2⟩
  have hE2 : Ext w1 w2 := by (repeat' (first | exact Ext.refl _ | assumption | apply Ext.allocR | apply Ext.drewR | apply Ext.drewNR | (refine Ext.trans' ?_ (by assumption))))
  clear hx2 d0 d1 d2 d3 d4 dl
  have hPy2 := hPy.ext hE2
  have d0 := hPy2.c0
  have d1 := hPy2.c1
  have d2 := hPy2.c2
  have d3 := hPy2.c3
  have d4 := hPy2.c4
  have dl := hPy2.lt
  have hC : CfgAt (w2.alloc (.cells #[.int .i64 (mkC x 6 9).bits, .int .i64 (mkC x 6 9).rows, .int .i64 (mkC x 6 9).width, .int .i64 (mkC x 6 9).mode, .int .u64 (mkC x 6 9).seed] 24)) w2.heap.size (mkC x 6 9) := CfgAt.box _ _ rfl
  go_wp2_with fail
  refine Calls.mono (Any_c y hy 6 9 (by decide) (by decide) (by decide) (by decide) _) ?_
  rintro e w3 ⟨rfl, hx3⟩
  have hC3 := hC.ext hx3
  have hE3 : Ext w2 w3 := by (repeat' (first | exact Ext.refl _ | assumption | apply Ext.allocR | apply Ext.drewR | apply Ext.drewNR | (refine Ext.trans' ?_ (by assumption))))
  have hD : CfgAt (w3.alloc (.cells #[.int .i64 (mkC y 6 9).bits, .int .i64 (mkC y 6 9).rows, .int .i64 (mkC y 6 9).width, .int .i64 (mkC y 6 9).mode, .int .u64 (mkC y 6 9).seed] 24)) w3.heap.size (mkC y 6 9) := CfgAt.box _ _ rfl
  have p0 := ((bcell (hE2.trans' hE3)).1 _ 0 hll).trans hl0
  have p2 := ((bcell (hE2.trans' hE3)).1 _ 1 hll).trans hl1
  have p1 : w.heap.size + 2 < w3.heap.size := Nat.lt_of_lt_of_le hll (hE2.trans' hE3).size
  clear hx3 d0 d1 d2 d3 d4 dl hPy2 hC hl0 hl1 hll
  have okC := mkC_ok x hx.s (nb := 6) (nw := 9) (by decide) (by decide) (by decide) (by decide)
  have okD := mkC_ok y hy.s (nb := 6) (nw := 9) (by decide) (by decide) (by decide) (by decide)
  have hCs : (mkC x 6 9).bits ≤ 6 := by show 1 + x.bits % 65536 % 6 ≤ 6; have := Int.emod_lt_of_pos (x.bits % 65536) (show (0 : Int) < 6 by decide); omega
  have hEw : Ext w w3 := hE1.trans' (hE2.trans' hE3)
  generalize mkC x 6 9 = C at *
  generalize mkC y 6 9 = D at *
  have hax := and16 lx
  have hay := and16 ly
  have n1 := Int.emod_nonneg lx (show (65536 : Int) ≠ 0 by decide)
  have n2 := Int.emod_nonneg ly (show (65536 : Int) ≠ 0 by decide)
  have n3 := Int.emod_lt_of_pos lx (show (0 : Int) < 65536 by decide)
  have n4 := Int.emod_lt_of_pos ly (show (0 : Int) < 65536 by decide)
  have bb1 := okC.b1
  have bb2 := okC.b2
  have bb3 := okD.b1
  have bb4 := okD.b2
  have i1 := Int.emod_nonneg (lx % 65536) (show C.bits + 1 ≠ 0 by omega)
  have i2 := Int.emod_lt_of_pos (lx % 65536) (show 0 < C.bits + 1 by omega)
  have i3 := Int.emod_nonneg (ly % 65536) (show D.bits + 1 ≠ 0 by omega)
  have i4 := Int.emod_lt_of_pos (ly % 65536) (show 0 < D.bits + 1 by omega)
  have p4 := hC3.c0
  have p5 := hC3.lt
  have q1 := hC3.c1
  have q2 := hC3.c2
  have q3 := hC3.c3
  have q4 := hC3.c4
  have z1 : (C.bits + 1 == 0) = false := by simp; omega
  have z2 : (D.bits + 1 == 0) = false := by simp; omega
  go_wp2_with fail
  generalize lx % 65536 % (C.bits + 1) = I at *
  generalize ly % 65536 % (D.bits + 1) = J at *
  have HC3 := Lib.hid hC3
  have HD := Lib.hid hD
  have hEB : Ext w3 (w3.alloc (.cells #[.int .i64 D.bits, .int .i64 D.rows, .int .i64 D.width, .int .i64 D.mode, .int .u64 D.seed] 24)) := Ext.alloc' _ _
  clear hPx hPy hC3 hD hax hay n1 n2 n3 n4 p0 p1 p2 p4 p5 q1 q2 q3 q4 z1 z2 hE1 hE2 hE3
  generalize w3.alloc (.cells #[.int .i64 D.bits, .int .i64 D.rows, .int .i64 D.width, .int .i64 D.mode, .int .u64 D.seed] 24) = wB at *
  have hCB := HC3.out.ext hEB
  have hEwB : Ext w wB := hEw.trans' hEB
  have HCB := Lib.hid hCB
  clear hCB HC3 hEB hEw
  refine Calls.mono (LNew_c C okC I i1 (by omega) _) ?_
  rintro e w4 ⟨L, rfl, hS, hs, hb, hc, hx4⟩
  rw [lvV_eq]
  have hE4 : Ext wB w4 := by (repeat' (first | exact Ext.refl _ | assumption | apply Ext.allocR | apply Ext.drewR | apply Ext.drewNR | (refine Ext.trans' ?_ (by assumption))))
  have hD4 := HD.out.ext hE4
  have d0 := hD4.c0
  have d1 := hD4.c1
  have d2 := hD4.c2
  have d3 := hD4.c3
  have d4 := hD4.c4
  have dl := hD4.lt
  clear hx4 hD4
  go_wp2_with fail
  refine Calls.mono (LNew_c D okD J i3 (by omega) _) ?_
  rintro e w5 ⟨M, rfl, hS2, hs2, hb2, hc2, hx5⟩
  rw [lvV_eq]
  have hE5 : Ext w4 w5 := by (repeat' (first | exact Ext.refl _ | assumption | apply Ext.allocR | apply Ext.drewR | apply Ext.drewNR | (refine Ext.trans' ?_ (by assumption))))
  have HS5 := Lib.hid (hS.ext hE5)
  have HM5 := Lib.hid hS2
  have hE45 := hE4.trans' hE5
  have l2 := HCB.out.lt
  have l3 := HD.out.lt
  have HC5 := Lib.hid (HCB.out.ext hE45)
  have HD5 := Lib.hid (HD.out.ext hE45)
  have HEw5 := Lib.hid (hEwB.trans' hE45)
  have hLc : wB.heap.size ≤ L.c := hc
  have HE45 := Lib.hid hE45
  have hwB := hEwB.size
  have HEwB := Lib.hid hEwB
  have hLM : L.c < M.c := Nat.lt_of_lt_of_le hS.ltc hc2
  clear hx5 hE5 hE4 hE45 hEwB HCB HD d0 d1 d2 d3 d4 dl hS hS2 hs hb hc hs2 hb2 hc2
  have mU := lvm_Update C I (some ⟨L.s, 0, none⟩)
  have eU := lve_Update C I
  have mC := lvm_Cells C I (some ⟨L.s, 0, none⟩)
  have eC := lve_Cells C I
  go_wp2_with fail
  refine Calls.mono (LUpdate_c C I L _ 0 5 _ HS5.out (by unfold I64; omega) (by unfold U64; omega)) ?_
  rintro e w6 ⟨rfl, hr6⟩
  have hz := HS5.out.zbnd
  rw [hz] at hr6 ⊢
  obtain ⟨_, hS6, hM6⟩ := hr6.resolve_right (fun h => h.1 rfl)
  have hEB6 : Ext wB w6 := Below.trans HE45.out (hM6.below (B := wB.heap.size) HE45.out.size (fun k hk => by rw [hk]; exact hLc))
  have hEw6 : Ext w w6 := HEwB.out.trans' hEB6
  have hC6 : CfgAt w6 w2.heap.size C := HC5.out.mod hM6 (by omega)
  have hD6 : CfgAt w6 w3.heap.size D := HD5.out.mod hM6 (by omega)
  have hM6' : LvAt w6 M D J (zs (lvN D J)) := HM5.out.mod hM6 (fun k hk _ => by obtain ⟨cur, hc⟩ := HS5.out.isc; exact ⟨cur, by rw [hk]; exact hc⟩) (by show ¬ M.c = L.c; omega)
  generalize lvU C I (zs (lvN C I)) 0 5 = l at *
  have HS6 := Lib.hid hS6
  have HM6 := Lib.hid hM6'
  have HC6 := Lib.hid hC6
  have HD6 := Lib.hid hD6
  have HEw6 := Lib.hid hEw6
  have hlen := lvN_le1 okC I
  rw [← hS6.len] at hlen
  have hne2 : w2.heap.size ≠ L.c := by omega
  have hne3 : w3.heap.size ≠ L.c := by omega
  have hall : allI l := hS6.fit
  have hwL : w.heap.size ≤ L.c := by omega
  clear hz hM6 hS6 hM6' HS5 HM5 HC5 HD5 hC6 hD6 hEB6 hEw6 HE45 HEwB HEw5 hwB hLc mU eU
  go_wp2_with fail
  refine Calls.mono (LCells_c C I L _ _ (HS6.out.ext (by (repeat' (first | exact Ext.refl _ | assumption | apply Ext.allocR | apply Ext.drewR | apply Ext.drewNR | (refine Ext.trans' ?_ (by assumption))))))) ?_
  rintro e w7 ⟨v, rfl, ho, _, hx7⟩
  obtain ⟨pv, cv, rfl⟩ := own_sl ho
  have hIv := IntsAt.of_row ho
  have hne := own_ne ho (c := L.c) (by have := HS6.out.ltc; omega)
  have hE7 : Ext w6 w7 := by (repeat' (first | exact Ext.refl _ | assumption | apply Ext.allocR | apply Ext.drewR | apply Ext.drewNR | (refine Ext.trans' ?_ (by assumption))))
  clear ho
  rcases parts_or D J C I with ⟨rfl, rfl⟩ | hp
  · have hmg := LMerge_c D J L M l _ w7 (HS6.out.ext hE7) (HM6.out.ext hE7)
    rw [plusL_zs] at hmg
    replace hmg := hmg.mono (R' := fun e w8 => e = .returned (.int .i64 0) ∧ LvAt w8 L D J l ∧ Mod (fun k => k = L.c) w7 w8) (fun e w8 hr => by obtain ⟨_, h1, h2, h3⟩ := hr.resolve_right (fun h => h.1 hall); exact ⟨h1, h2, h3⟩)
    rw [lvV_eq, lvV_eq] at hmg
    go_wp2_with fail
    refine Calls.mono hmg ?_
    rintro e w8 ⟨rfl, hS8, hm8⟩
    have hM8 : LvAt w8 M D J (zs (lvN D J)) := (HM6.out.ext hE7).mod hm8 (fun k hk _ => by obtain ⟨cur, hc⟩ := (HS6.out.ext hE7).isc; exact ⟨cur, by rw [hk]; exact hc⟩) (by show ¬ M.c = L.c; omega)
    have hIv8 : IntsAt w8 _ l := hIv.mod hm8 (fun g off n cap hv => hne g off _ cap hv)
    have hC8 := (HC6.out.ext hE7).mod hm8 (by omega)
    have hD8 := (HD6.out.ext hE7).mod hm8 (by omega)
    have hEw7 := HEw6.out.trans' hE7
    have hEw8 : Ext w w8 := Below.trans hEw7 (hm8.below (B := w.heap.size) hEw7.size (fun k hk => by rw [hk]; exact hwL))
    clear hmg hm8 hE7 hx7 hIv hne HC6 HD6 HS6 HM6 HEw6 hEw7
    have hin : ∃ want : Int, Calls Try.prog 86 #[lvV D J L, lvV D J M] w8 (fun e w9 => e = .returned (.tuple #[.agg #[.int .i64 0, .int .u64 0], .int .i64 want]) ∧ Ext w8 w9) ∧ (want == 0) = (D.mode == 1) := by
      by_cases hm : D.mode = 1
      · have h := LInner_c D J L M l (zs (lvN D J)) w8 hS8 hM8 hm
        rw [lvInn_zs, zl_V0] at h
        exact ⟨0, h, by rw [hm]; rfl⟩
      · exact ⟨3, LInner_mode D J L M l (zs (lvN D J)) w8 hS8 hM8 hm, by rw [show (D.mode == 1) = false from by simpa using hm]; rfl⟩
    obtain ⟨want, hin, hwant⟩ := hin
    rw [lvV_eq, lvV_eq] at hin
    have HS8 := Lib.hid hS8
    clear hS8 hM8
    go_wp2_with fail
    refine Calls.mono hin ?_
    rintro e w9 ⟨rfl, hx9⟩
    clear hin
    have hC9 := hC8.ext hx9
    have hD9 := hD8.ext hx9
    have hIv9 := hIv8.ext hx9
    have HS9 := Lib.hid (HS8.out.ext hx9)
    have hEw9 := hEw8.trans' hx9
    have c0 := hC9.c0
    have c1 := hC9.c1
    have c2 := hC9.c2
    have c3 := hC9.c3
    have c4 := hC9.c4
    have cl := hC9.lt
    have e0 := hD9.c0
    have e1 := hD9.c1
    have e2 := hD9.c2
    have e3 := hD9.c3
    have e4 := hD9.c4
    have el := hD9.lt
    clear hC9 hD9 hC8 hD8 hIv8 hx9 hEw8 HS8
    go_wp2_with fail
    refine Calls.mono (LCells_c D J L _ _ (HS9.out.ext (by (repeat' (first | exact Ext.refl _ | assumption | apply Ext.allocR | apply Ext.drewR | apply Ext.drewNR | (refine Ext.trans' ?_ (by assumption))))))) ?_
    rintro e w10 ⟨v2, rfl, ho2, _, hx10⟩
    obtain ⟨pv2, cv2, rfl⟩ := own_sl ho2
    have hI2 := IntsAt.of_row ho2
    have hIv10 := hIv9.ext (show Ext w9 w10 by (repeat' (first | exact Ext.refl _ | assumption | apply Ext.allocR | apply Ext.drewR | apply Ext.drewNR | (refine Ext.trans' ?_ (by assumption)))))
    have hEw10 : Ext w w10 := hEw9.trans' (by (repeat' (first | exact Ext.refl _ | assumption | apply Ext.allocR | apply Ext.drewR | apply Ext.drewNR | (refine Ext.trans' ?_ (by assumption)))))
    clear ho2 hx10 hIv9 hEw9 c0 c1 c2 c3 c4 cl e0 e1 e2 e3 e4 el
    go_wp2_with fail
    refine Calls.mono (Same_c _ _ l l _ hI2 hIv10 (by omega) (by omega)) ?_
    rintro e w11 ⟨rfl, hx11⟩
    rw [decide_eq_true (rfl : l = l)]
    go_wp2
    go_ret
    exact ⟨rfl, by (repeat' (first | exact Ext.refl _ | assumption | apply Ext.allocR | apply Ext.drewR | apply Ext.drewNR | (refine Ext.trans' ?_ (by assumption))))⟩
  · have hp2 : PartsAt C I D J := by
      rcases parts_or C I D J with h | h
      · exact absurd ⟨h.1.symm, h.2.symm⟩ (parts_ne hp)
      · exact h
    have hmg := LMerge_no C D I J L M l _ w7 (HS6.out.ext hE7) (HM6.out.ext hE7) hp
    rw [lvV_eq, lvV_eq] at hmg
    go_wp2_with fail
    refine Calls.mono hmg ?_
    rintro e w8 ⟨rfl, hx8⟩
    have hE8 : Ext w6 w8 := hE7.trans' hx8
    have hin := LInner_no C D I J L M l _ w8 (HS6.out.ext hE8) (HM6.out.ext hE8) hp2
    rw [lvV_eq, lvV_eq] at hin
    clear hmg
    go_wp2_with fail
    refine Calls.mono hin ?_
    rintro e w9 ⟨rfl, hx9⟩
    clear hin
    have hE9 : Ext w6 w9 := hE8.trans' hx9
    have hIv9 := hIv.ext (hx8.trans' hx9)
    have hC9 := HC6.out.ext hE9
    have hD9 := HD6.out.ext hE9
    have HS9 := Lib.hid (HS6.out.ext hE9)
    have HM9 := Lib.hid (HM6.out.ext hE9)
    have hEw9 := HEw6.out.trans' hE9
    have c0 := hC9.c0
    have c1 := hC9.c1
    have c2 := hC9.c2
    have c3 := hC9.c3
    have c4 := hC9.c4
    have cl := hC9.lt
    have e0 := hD9.c0
    have e1 := hD9.c1
    have e2 := hD9.c2
    have e3 := hD9.c3
    have e4 := hD9.c4
    have el := hD9.lt
    have hp3 := hp
    clear hC9 hD9 hx8 hx9 hE8 hE9 hE7 hx7 hIv HC6 HD6 HEw6 HS6 HM6 hp
    go_upto_region 14 with (fail)
    go_cut [87] (fun s87 wx => s87 = .bool false ∧ Ext w9 wx)
    case first =>
      cases hp2
      all_goals
        go_wp2_with fail
        go_meet
        exact ⟨by first | rfl | simp [*], by (repeat' (first | exact Ext.refl _ | assumption | apply Ext.allocR | apply Ext.drewR | apply Ext.drewNR | (refine Ext.trans' ?_ (by assumption))))⟩
    case rest =>
      obtain ⟨rfl, hEc⟩ := hcut
      clear c0 c1 c2 c3 c4 cl e0 e1 e2 e3 e4 el
      go_wp2_with fail
      have hsb := LSubtract_no C D I J L M l _ _ (HS9.out.ext hEc) (HM9.out.ext hEc) hp3
      rw [lvV_eq, lvV_eq] at hsb
      refine Calls.mono hsb ?_
      rintro e w10 ⟨rfl, hx10⟩
      clear hsb
      have hE10 := hEc.trans' hx10
      go_wp2_with fail
      refine Calls.mono (LCells_c C I L _ _ (HS9.out.ext hE10)) ?_
      rintro e w11 ⟨v2, rfl, ho2, _, hx11⟩
      obtain ⟨pv2, cv2, rfl⟩ := own_sl ho2
      have hI2 := IntsAt.of_row ho2
      have hE11 := hE10.trans' hx11
      have hIv11 := hIv9.ext hE11
      have hEw11 : Ext w w11 := hEw9.trans' hE11
      clear ho2 hx11 hIv9 hEw9
      go_wp2_with fail
      refine Calls.mono (Same_c _ _ l l _ hI2 hIv11 (by omega) (by omega)) ?_
      rintro e w12 ⟨rfl, hx12⟩
      rw [decide_eq_true (rfl : l = l)]
      go_wp2
      go_ret
      exact ⟨rfl, by (repeat' (first | exact Ext.refl _ | assumption | apply Ext.allocR | apply Ext.drewR | apply Ext.drewNR | (refine Ext.trans' ?_ (by assumption))))⟩
end Go.Proofs.Ytpnbgoahjoabkaa
