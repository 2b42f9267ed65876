/- Part. No condition. -/
import Derived.Test.YteoblkcbemeamaaGreatL7
import Derived.Test.YteoblkcbemeamaaGreatL5
import Derived.Test.YteoblkcbemeamaaGreatL6
import Derived.Test.YteoblkcbemeamaaGreatL4
import Derived.Test.YteoblkcbemeamaaGreatL3

/- Package merge: Merge, Subtract, Inner of two stacks. -/
namespace Go.Proofs.YteoblkcbemeamaaGreat
set_option linter.unusedVariables false
open Go.RowKit
set_option maxRecDepth 20000 in
set_option maxHeartbeats 4000000 in
theorem KMerge_c (s g s2 g2 : Nat) (C : Cfg) (B : Nat) (L L2 : Nat → Lev) (ls ls2 : Nat → List Int) (w : World) (h : KAt w s g C B L ls) (h2 : KAt w s2 g2 C B L2 ls2) (hmd : "Merge" = "Subtract" → C.mode ≠ 2) :
    Calls Tryz.prog 74 #[.pointer (some ⟨s, 0, none⟩), .pointer (some ⟨s2, 0, none⟩)] w (KJoinPost w s g C B L (fun n => plusL (ls n) (ls2 n))) := by
  have HA := Lib.hid (KAllMerge_c s g s2 g2 C B L L2 ls ls2 w h h2 hmd)
  clear h h2 hmd
  go_enter Tryz.func74, Tryz.ntmps74
  go_wp2_with fail
  refine Calls.mono HA.out ?_
  rintro e w1 (⟨h1, rfl, h2, h3⟩ | ⟨h1, rfl, h2⟩)
  · go_wp2
    go_ret
    exact .inl ⟨h1, rfl, h2, h3⟩
  · go_wp2
    go_ret
    exact .inr ⟨h1, rfl, h2⟩
set_option maxRecDepth 20000 in
set_option maxHeartbeats 4000000 in
theorem KMerge_no (s g s2 g2 : Nat) (C C2 : Cfg) (B B2 : Nat) (L L2 : Nat → Lev) (ls ls2 : Nat → List Int) (w : World) (h : KAt w s g C B L ls) (h2 : KAt w s2 g2 C2 B2 L2 ls2) (hne : C ≠ C2) :
    Calls Tryz.prog 74 #[.pointer (some ⟨s, 0, none⟩), .pointer (some ⟨s2, 0, none⟩)] w fun e w' => e = .returned (.int .i64 5) ∧ Ext w w' := by
  have HA := Lib.hid (fun W (hW : Ext w W) => KAlike_no s g s2 g2 C C2 B B2 L L2 ls ls2 W (h.ext hW) (h2.ext hW) hne)
  clear h h2 hne
  have hall : Calls Tryz.prog 134 #[.agg #[.func (.func 51) #[] #[]], .pointer (some ⟨s, 0, none⟩), .pointer (some ⟨s2, 0, none⟩)] w fun e w' => e = .returned (.int .i64 5) ∧ Ext w w' := by
    go_enter Tryz.func134, Tryz.ntmps134
    go_wp2
    go_step3
    go_wp2_with fail
    refine Calls.mono (HA.out _ (Ext.alloc' _ _)) ?_
    rintro e w1 ⟨rfl, hx1⟩
    go_wp2
    try rw [Exit.noGoto_ret]
    go_ret
    exact ⟨rfl, (Ext.alloc' _ _).trans' hx1⟩
  have HALL := Lib.hid hall
  clear hall HA
  go_enter Tryz.func74, Tryz.ntmps74
  go_wp2_with fail
  refine Calls.mono HALL.out ?_
  rintro e w1 ⟨rfl, hx1⟩
  go_wp2
  go_ret
  exact ⟨rfl, hx1⟩
set_option maxRecDepth 20000 in
set_option maxHeartbeats 4000000 in
theorem KMerge_nil1 (p : Option Addr) (w : World) :
    Calls Tryz.prog 74 #[.pointer none, .pointer p] w fun e w' => e = .returned (.int .i64 5) ∧ Ext w w' := by
  have hall : Calls Tryz.prog 134 #[.agg #[.func (.func 51) #[] #[]], .pointer none, .pointer p] w fun e w' => e = .returned (.int .i64 5) ∧ Ext w w' := by
    go_enter Tryz.func134, Tryz.ntmps134
    go_wp2
    go_step3
    go_wp2_with fail
    refine Calls.mono (KAlike_nil1 p _) ?_
    rintro e w1 ⟨rfl, rfl⟩
    go_wp2
    try rw [Exit.noGoto_ret]
    go_ret
    exact ⟨rfl, Ext.alloc' _ _⟩
  have HALL := Lib.hid hall
  clear hall
  go_enter Tryz.func74, Tryz.ntmps74
  go_wp2_with fail
  refine Calls.mono HALL.out ?_
  rintro e w1 ⟨rfl, hx1⟩
  go_wp2
  go_ret
  exact ⟨rfl, hx1⟩
set_option maxRecDepth 20000 in
set_option maxHeartbeats 4000000 in
theorem KMerge_nil2 (s : Nat) (w : World) :
    Calls Tryz.prog 74 #[.pointer (some ⟨s, 0, none⟩), .pointer none] w fun e w' => e = .returned (.int .i64 5) ∧ Ext w w' := by
  have hall : Calls Tryz.prog 134 #[.agg #[.func (.func 51) #[] #[]], .pointer (some ⟨s, 0, none⟩), .pointer none] w fun e w' => e = .returned (.int .i64 5) ∧ Ext w w' := by
    go_enter Tryz.func134, Tryz.ntmps134
    go_wp2
    go_step3
    go_wp2_with fail
    refine Calls.mono (KAlike_nil2 s _) ?_
    rintro e w1 ⟨rfl, rfl⟩
    go_wp2
    try rw [Exit.noGoto_ret]
    go_ret
    exact ⟨rfl, Ext.alloc' _ _⟩
  have HALL := Lib.hid hall
  clear hall
  go_enter Tryz.func74, Tryz.ntmps74
  go_wp2_with fail
  refine Calls.mono HALL.out ?_
  rintro e w1 ⟨rfl, hx1⟩
  go_wp2
  go_ret
  exact ⟨rfl, hx1⟩
set_option maxRecDepth 20000 in
set_option maxHeartbeats 4000000 in
theorem KSubtract_c (s g s2 g2 : Nat) (C : Cfg) (B : Nat) (L L2 : Nat → Lev) (ls ls2 : Nat → List Int) (w : World) (h : KAt w s g C B L ls) (h2 : KAt w s2 g2 C B L2 ls2) (hmd : "Subtract" = "Subtract" → C.mode ≠ 2) :
    Calls Tryz.prog 76 #[.pointer (some ⟨s, 0, none⟩), .pointer (some ⟨s2, 0, none⟩)] w (KJoinPost w s g C B L (fun n => minusL (ls n) (ls2 n))) := by
  have HA := Lib.hid (KAllSubtract_c s g s2 g2 C B L L2 ls ls2 w h h2 hmd)
  clear h h2 hmd
  go_enter Tryz.func76, Tryz.ntmps76
  go_wp2_with fail
  refine Calls.mono HA.out ?_
  rintro e w1 (⟨h1, rfl, h2, h3⟩ | ⟨h1, rfl, h2⟩)
  · go_wp2
    go_ret
    exact .inl ⟨h1, rfl, h2, h3⟩
  · go_wp2
    go_ret
    exact .inr ⟨h1, rfl, h2⟩
set_option maxRecDepth 20000 in
set_option maxHeartbeats 4000000 in
theorem KSubtract_no (s g s2 g2 : Nat) (C C2 : Cfg) (B B2 : Nat) (L L2 : Nat → Lev) (ls ls2 : Nat → List Int) (w : World) (h : KAt w s g C B L ls) (h2 : KAt w s2 g2 C2 B2 L2 ls2) (hne : C ≠ C2) :
    Calls Tryz.prog 76 #[.pointer (some ⟨s, 0, none⟩), .pointer (some ⟨s2, 0, none⟩)] w fun e w' => e = .returned (.int .i64 5) ∧ Ext w w' := by
  have HA := Lib.hid (fun W (hW : Ext w W) => KAlike_no s g s2 g2 C C2 B B2 L L2 ls ls2 W (h.ext hW) (h2.ext hW) hne)
  clear h h2 hne
  have hall : Calls Tryz.prog 134 #[.agg #[.func (.func 53) #[] #[]], .pointer (some ⟨s, 0, none⟩), .pointer (some ⟨s2, 0, none⟩)] w fun e w' => e = .returned (.int .i64 5) ∧ Ext w w' := by
    go_enter Tryz.func134, Tryz.ntmps134
    go_wp2
    go_step3
    go_wp2_with fail
    refine Calls.mono (HA.out _ (Ext.alloc' _ _)) ?_
    rintro e w1 ⟨rfl, hx1⟩
    go_wp2
    try rw [Exit.noGoto_ret]
    go_ret
    exact ⟨rfl, (Ext.alloc' _ _).trans' hx1⟩
  have HALL := Lib.hid hall
  clear hall HA
  go_enter Tryz.func76, Tryz.ntmps76
  go_wp2_with fail
  refine Calls.mono HALL.out ?_
  rintro e w1 ⟨rfl, hx1⟩
  go_wp2
  go_ret
  exact ⟨rfl, hx1⟩
set_option maxRecDepth 20000 in
set_option maxHeartbeats 4000000 in
theorem KSubtract_nil1 (p : Option Addr) (w : World) :
    Calls Tryz.prog 76 #[.pointer none, .pointer p] w fun e w' => e = .returned (.int .i64 5) ∧ Ext w w' := by
  have hall : Calls Tryz.prog 134 #[.agg #[.func (.func 53) #[] #[]], .pointer none, .pointer p] w fun e w' => e = .returned (.int .i64 5) ∧ Ext w w' := by
    go_enter Tryz.func134, Tryz.ntmps134
    go_wp2
    go_step3
    go_wp2_with fail
    refine Calls.mono (KAlike_nil1 p _) ?_
    rintro e w1 ⟨rfl, rfl⟩
    go_wp2
    try rw [Exit.noGoto_ret]
    go_ret
    exact ⟨rfl, Ext.alloc' _ _⟩
  have HALL := Lib.hid hall
  clear hall
  go_enter Tryz.func76, Tryz.ntmps76
  go_wp2_with fail
  refine Calls.mono HALL.out ?_
  rintro e w1 ⟨rfl, hx1⟩
  go_wp2
  go_ret
  exact ⟨rfl, hx1⟩
set_option maxRecDepth 20000 in
set_option maxHeartbeats 4000000 in
theorem KSubtract_nil2 (s : Nat) (w : World) :
    Calls Tryz.prog 76 #[.pointer (some ⟨s, 0, none⟩), .pointer none] w fun e w' => e = .returned (.int .i64 5) ∧ Ext w w' := by
  have hall : Calls Tryz.prog 134 #[.agg #[.func (.func 53) #[] #[]], .pointer (some ⟨s, 0, none⟩), .pointer none] w fun e w' => e = .returned (.int .i64 5) ∧ Ext w w' := by
    go_enter Tryz.func134, Tryz.ntmps134
    go_wp2
    go_step3
    go_wp2_with fail
    refine Calls.mono (KAlike_nil2 s _) ?_
    rintro e w1 ⟨rfl, rfl⟩
    go_wp2
    try rw [Exit.noGoto_ret]
    go_ret
    exact ⟨rfl, Ext.alloc' _ _⟩
  have HALL := Lib.hid hall
  clear hall
  go_enter Tryz.func76, Tryz.ntmps76
  go_wp2_with fail
  refine Calls.mono HALL.out ?_
  rintro e w1 ⟨rfl, hx1⟩
  go_wp2
  go_ret
  exact ⟨rfl, hx1⟩
set_option maxRecDepth 20000 in
set_option maxHeartbeats 8000000 in
/-- In the mode Conservative nothing is taken away. -/
theorem KSubtract_mode (s g s2 g2 : Nat) (C : Cfg) (B : Nat) (L L2 : Nat → Lev) (ls ls2 : Nat → List Int) (w : World) (h : KAt w s g C B L ls) (h2 : KAt w s2 g2 C B L2 ls2) (hm : C.mode = 2) :
    Calls Tryz.prog 76 #[.pointer (some ⟨s, 0, none⟩), .pointer (some ⟨s2, 0, none⟩)] w fun e w' => e = .returned (.int .i64 3) ∧ Ext w w' := by
  have HH := Lib.hid h
  have HH2 := Lib.hid h2
  have hok := h.ok
  have hb1 := hok.b1
  have hb2 := hok.b2
  have HM := Lib.hid hm
  clear h h2 hm
  have hall : Calls Tryz.prog 134 #[.agg #[.func (.func 53) #[] #[]], .pointer (some ⟨s, 0, none⟩), .pointer (some ⟨s2, 0, none⟩)] w fun e w' => e = .returned (.int .i64 3) ∧ Ext w w' := by
    go_enter Tryz.func134, Tryz.ntmps134
    go_wp2
    go_step3
    go_wp2_with fail
    refine Calls.mono (KAlike_yes s g s2 g2 C B L L2 ls ls2 _ (HH.out.ext (Ext.alloc' _ _)) (HH2.out.ext (Ext.alloc' _ _))) ?_
    rintro e w1 ⟨rfl, hx1⟩
    have hj1 := hx1.keep (heap_at w (.cells #[.func (.func 53) #[] #[]] 202) rfl)
    have hE1 : Ext w w1 := (Ext.alloc' _ _).trans' hx1
    clear hx1
    go_wp2
    go_step3
    go_wp2_with fail
    refine Calls.mono (SKConfig_c s g C B L ls _ (HH.out.ext hE1)) ?_
    rintro e w2 ⟨rfl, hx2⟩
    have hj2 := hx2.keep hj1
    have hE2 : Ext w w2 := hE1.trans' hx2
    clear hj1 hx2 hE1
    have hfd : ∀ w, (Instr.field 24 (.agg #[.int .i64 C.bits, .int .i64 C.rows, .int .i64 C.width, .int .i64 C.mode, .int .u64 C.seed]) 0).run Tryz.prog w = .ok (.int .i64 C.bits) w := fun _ => by kernel_rfl
    have hlt' : (0 : Int) < C.bits + 1 := by omega
    go_wp2
    refine wp_loop_rounds 1 ?_
    rw [rounds_succ]
    go_wp2_with fail
    refine Calls.mono (KAt_c s g C B L ls _ (HH.out.ext hE2) 0 (Nat.zero_le _)) ?_
    rintro e w3 ⟨M, rfl, hL, m1, m2, m3, hx3⟩
    have hE3 := hE2.trans' hx3
    rw [lvV_eq]
    have HL := Lib.hid hL
    clear hL
    go_wp2_with fail
    refine Calls.mono (KAt_c s2 g2 C B L2 ls2 _ (HH2.out.ext hE3) 0 (Nat.zero_le _)) ?_
    rintro e w4 ⟨M2, rfl, hL2, n1, n2, n3, hx4⟩
    have hE4 := hE3.trans' hx4
    rw [lvV_eq]
    have HL4 := Lib.hid (HL.out.ext hx4)
    have HL2 := Lib.hid hL2
    have hj4 := (hx3.trans' hx4).keep hj2
    have c0 := (cell_of hj4 0).trans rfl
    have l0 := lt_of hj4
    clear hL2 HL
    have hcall : Calls Tryz.prog 53 #[.iface (lvT C (0 : Nat)) (.pointer (some ⟨M.s, 0, none⟩)), .iface (lvT C (0 : Nat)) (.pointer (some ⟨M2.s, 0, none⟩))] w4 (fun e w' => e = .returned (.int .i64 3) ∧ Ext w4 w') :=
      LSubtract_mode C (0 : Nat) M M2 _ _ w4 HL4.out HL2.out HM.out
    have HCALL := Lib.hid hcall
    clear hcall
    go_wp2_with fail
    refine Calls.mono HCALL.out ?_
    rintro e w5 ⟨rfl, hx5⟩
    go_wp2
    try rw [Exit.noGoto_ret]
    go_ret
    exact ⟨rfl, hE4.trans' hx5⟩
  have HALL := Lib.hid hall
  clear hall
  go_enter Tryz.func76, Tryz.ntmps76
  go_wp2_with fail
  refine Calls.mono HALL.out ?_
  rintro e w1 ⟨rfl, hx1⟩
  go_wp2
  go_ret
  exact ⟨rfl, hx1⟩
theorem wz2 {w w' : World} (h : Ext w w') {c : Array Value} {t : TypeId} (hb : w'.heap[w.heap.size]? = some (.cells c t (0, 0))) (u v : Value) : Ext w ((w'.setCell ⟨w.heap.size, 0, none⟩ u).setCell ⟨w.heap.size, 1, none⟩ v) :=
  (h.setR (p := ⟨w.heap.size, 0, none⟩) (Nat.le_refl _) u).setR (p := ⟨w.heap.size, 1, none⟩) (Nat.le_refl _) v
set_option maxRecDepth 20000 in
set_option maxHeartbeats 8000000 in
/-- The product of two stacks is that of their lowest levels. -/
theorem KInner_c (s g s2 g2 : Nat) (C : Cfg) (B : Nat) (L L2 : Nat → Lev) (ls ls2 : Nat → List Int) (w : World) (h : KAt w s g C B L ls) (h2 : KAt w s2 g2 C B L2 ls2) (H : Int) (l : Int) (k : Int)
    (hI : ∀ (M M2 : Lev) (W : World), LvAt W M C 0 (ls 0) → LvAt W M2 C 0 (ls2 0) → Calls Tryz.prog 55 #[lvV C 0 M, lvV C 0 M2] W fun e w' => e = .returned (.tuple #[.agg #[.int .i64 H, .int .u64 l], .int .i64 k]) ∧ Ext W w') :
    Calls Tryz.prog 77 #[.pointer (some ⟨s, 0, none⟩), .pointer (some ⟨s2, 0, none⟩)] w fun e w' => e = .returned (.tuple #[.agg #[.int .i64 H, .int .u64 l], .int .i64 k]) ∧ Ext w w' := by
  have HH := Lib.hid h
  have HH2 := Lib.hid h2
  have HI := Lib.hid hI
  clear h h2 hI
  go_enter Tryz.func77, Tryz.ntmps77
  go_wp2_with fail
  refine Calls.mono (KAlike_yes s g s2 g2 C B L L2 ls ls2 _ (HH.out.ext (Ext.alloc' _ _)) (HH2.out.ext (Ext.alloc' _ _))) ?_
  rintro e w1 ⟨rfl, hx1⟩
  have hb1 := hx1.keep (heap_at w (.cells #[.int .i64 0, .int .u64 0] 95) rfl)
  have hE1 : Ext w w1 := (Ext.alloc' _ _).trans' hx1
  clear hx1
  go_wp2_with fail
  refine Calls.mono (KAt_c s g C B L ls _ (HH.out.ext hE1) 0 (Nat.zero_le _)) ?_
  rintro e w3 ⟨M, rfl, hL, m1, m2, m3, hx3⟩
  have hE3 := hE1.trans' hx3
  rw [lvV_eq]
  have HL := Lib.hid hL
  clear hL
  go_wp2_with fail
  refine Calls.mono (KAt_c s2 g2 C B L2 ls2 _ (HH2.out.ext hE3) 0 (Nat.zero_le _)) ?_
  rintro e w4 ⟨M2, rfl, hL2, n1, n2, n3, hx4⟩
  have hE4 := hE3.trans' hx4
  rw [lvV_eq]
  have hcall := HI.out M M2 w4 (HL.out.ext hx4) hL2
  have hb4 := (hx3.trans' hx4).keep hb1
  rw [lvV_eq, lvV_eq] at hcall
  have HCALL := Lib.hid hcall
  clear hcall hL2 HL hb1 hx3 hx4
  go_wp2_with fail
  refine Calls.mono HCALL.out ?_
  rintro e w5 ⟨rfl, hx5⟩
  have hb5 := hx5.keep hb4
  have hE5 := hE4.trans' hx5
  have p0 := (cell_of hb5 0).trans rfl
  have p1 := (cell_of hb5 1).trans rfl
  have f0 := frozen_of hb5 0
  have f1 := frozen_of hb5 1
  have l5 := lt_of hb5
  have HB5 := Lib.hid hb5
  clear hb4 hb5
  go_wp2_with fail
  refine bodyPost_ret (v := .tuple #[.agg #[.int .i64 H, .int .u64 l], .int .i64 k]) (by simp [results, Tryz.results77, go_sem, *]) rfl ⟨rfl, wz2 hE5 HB5.out _ _⟩
set_option maxRecDepth 20000 in
set_option maxHeartbeats 8000000 in
theorem KInner_no (s g s2 g2 : Nat) (C C2 : Cfg) (B B2 : Nat) (L L2 : Nat → Lev) (ls ls2 : Nat → List Int) (w : World) (h : KAt w s g C B L ls) (h2 : KAt w s2 g2 C2 B2 L2 ls2) (hne : C ≠ C2) :
    Calls Tryz.prog 77 #[.pointer (some ⟨s, 0, none⟩), .pointer (some ⟨s2, 0, none⟩)] w fun e w' => e = .returned (.tuple #[.agg #[.int .i64 0, .int .u64 0], .int .i64 5]) ∧ Ext w w' := by
  have HA := Lib.hid (fun W (hW : Ext w W) => KAlike_no s g s2 g2 C C2 B B2 L L2 ls ls2 W (h.ext hW) (h2.ext hW) hne)
  clear h h2 hne
  go_enter Tryz.func77, Tryz.ntmps77
  go_wp2_with fail
  refine Calls.mono (HA.out _ (Ext.alloc' _ _)) ?_
  rintro e w1 ⟨rfl, hx1⟩
  have hb5 := hx1.keep (heap_at w (.cells #[.int .i64 0, .int .u64 0] 95) rfl)
  have hE1 : Ext w w1 := (Ext.alloc' _ _).trans' hx1
  have p0 := (cell_of hb5 0).trans rfl
  have p1 := (cell_of hb5 1).trans rfl
  have f0 := frozen_of hb5 0
  have f1 := frozen_of hb5 1
  have l5 := lt_of hb5
  have HB5 := Lib.hid hb5
  clear hb5 hx1
  go_wp2_with fail
  refine bodyPost_ret (v := .tuple #[.agg #[.int .i64 0, .int .u64 0], .int .i64 5]) (by simp [results, Tryz.results77, go_sem, *]) rfl ⟨rfl, wz2 hE1 HB5.out _ _⟩
set_option maxRecDepth 20000 in
set_option maxHeartbeats 8000000 in
theorem KInner_nil1 (p : Option Addr) (w : World) :
    Calls Tryz.prog 77 #[.pointer none, .pointer p] w fun e w' => e = .returned (.tuple #[.agg #[.int .i64 0, .int .u64 0], .int .i64 5]) ∧ Ext w w' := by
  go_enter Tryz.func77, Tryz.ntmps77
  go_wp2_with fail
  refine Calls.mono (KAlike_nil1 p _) ?_
  rintro e w1 ⟨rfl, rfl⟩
  have hb5 := heap_at w (.cells #[.int .i64 0, .int .u64 0] 95) rfl
  have hE1 : Ext w (w.alloc (.cells #[.int .i64 0, .int .u64 0] 95)) := Ext.alloc' _ _
  generalize w.alloc (.cells #[.int .i64 0, .int .u64 0] 95) = w1 at *
  have p0 := (cell_of hb5 0).trans rfl
  have p1 := (cell_of hb5 1).trans rfl
  have f0 := frozen_of hb5 0
  have f1 := frozen_of hb5 1
  have l5 := lt_of hb5
  have HB5 := Lib.hid hb5
  clear hb5
  go_wp2_with fail
  refine bodyPost_ret (v := .tuple #[.agg #[.int .i64 0, .int .u64 0], .int .i64 5]) (by simp [results, Tryz.results77, go_sem, *]) rfl ⟨rfl, wz2 hE1 HB5.out _ _⟩
end Go.Proofs.YteoblkcbemeamaaGreat

/- Package stack: Update. -/
namespace Go.Proofs.YteoblkcbemeamaaGreat
set_option linter.unusedVariables false
open Go.RowKit
attribute [local go_sem] Oper.semAt_some
def KUpdPost (w : World) (s g : Nat) (C : Cfg) (B : Nat) (L : Nat → Lev) (ls : Nat → List Int) (key d : Int) (e : Ending) (w' : World) : Prop :=
  e = .returned (.int .i64 (errK C B ls key d)) ∧ KAt w' s g C B L (bif decide (errK C B ls key d = 0) then updK C ls key d else ls) ∧ Mod (cellsOf B L) w w'
set_option maxRecDepth 100000 in
set_option maxHeartbeats 4000000 in
theorem KUpdate_c (s g : Nat) (C : Cfg) (B : Nat) (L : Nat → Lev) (ls : Nat → List Int) (key d : Int) (w : World) (h : KAt w s g C B L ls) (hd : I64 d) (hk : U64 key) :
    Calls Tryz.prog 26 #[.pointer (some ⟨s, 0, none⟩), .int .u64 key, .int .i64 d] w (KUpdPost w s g C B L ls key d) := by
  have hok := h.ok
  have hlt := h.lts
  have hltg := h.ltg
  obtain ⟨cap, hex, hcap⟩ := h.ex
  have c0 := (cell_of hex 0).trans rfl
  have c1 := (cell_of hex 1).trans rfl
  have c2 := (cell_of hex 2).trans rfl
  have c3 := (cell_of hex 3).trans rfl
  have c4 := (cell_of hex 4).trans rfl
  have hb2 : C.bits ≤ 59 := hok.b2
  have hb1 : 1 ≤ C.bits := hok.b1
  have HE := Lib.hid hex
  have HH := Lib.hid h
  clear h hex
  refine (callsIn_wide (n := 5)).1 ?_
  refine callsIn_of_wp_marks Tryz.func26 rfl trivial ?_ rfl
  simp only [Tryz.ntmps26, List.size_toArray, List.length_cons, List.length_nil, Nat.reduceAdd, Nat.reduceSub, Array.replicate_succ, Array.replicate_zero, List.push_toArray, List.append_toArray, List.nil_append, List.cons_append]
  gi_wp2_with fail
  refine ⟨trivial, (callsIn_wide.2 (Keys_c C hok 0 (Int.le_refl 0) (by omega) _)).mono ?_⟩
  rintro e w1 ⟨rfl, hx1⟩
  have hE1 : Ext w w1 := (Ext.alloc' w _).trans' hx1
  have h1 := HH.out.ext hE1
  have db := hx1.keep (heap_at w (.cells #[.int .i64 d] 2) rfl)
  have hls := h1.lts
  by_cases hkey : keys C 0 ≤ key
  · have e1 : errK C B ls key d = 2 := by unfold errK; rw [decide_eq_true hkey]; rfl
    have hge : decide (keys C 0 ≤ key) = true := decide_eq_true hkey
    gi_wp2
    exact ⟨_, results_tmp rfl _ _ _, by rw [e1]; rfl, by rw [e1]; exact h1, hE1.mod _⟩
  · have hge : decide (keys C 0 ≤ key) = false := decide_eq_false hkey
    gi_wp2_with fail
    refine ⟨trivial, (callsIn_wide.2 (Kat_c s key _)).mono ?_⟩
    rintro e w2 ⟨rfl, rfl⟩
    gi_wp2
    obtain ⟨W0, hW0⟩ : ∃ W0, ((w1.alloc (.cells #[.int .i64 0] 29)).alloc (.cells #[.pointer (some ⟨s, 0, none⟩)] 28)).alloc (.cells #[.int .u64 key] 22) = W0 := ⟨_, rfl⟩
    have hsz : W0.heap.size = w1.heap.size + 3 := by rw [← hW0]; simp
    have hEW : Ext w1 W0 := by rw [← hW0]; exact ((Ext.alloc' _ _).allocR _).allocR _
    have hb0 : W0.heap[w1.heap.size]? = some (.cells #[.int .i64 0] 29 (0, 0)) := by rw [← hW0, heap_old _ _ (by simp; omega), heap_old _ _ (by simp)]; exact heap_at _ _ rfl
    have hb1' : W0.heap[w1.heap.size + 1]? = some (.cells #[.pointer (some ⟨s, 0, none⟩)] 28 (0, 0)) := by rw [← hW0, heap_old _ _ (by simp)]; exact heap_at _ _ (size_alloc _ _).symm
    have hb2' : W0.heap[w1.heap.size + 2]? = some (.cells #[.int .u64 key] 22 (0, 0)) := by rw [← hW0]; exact heap_at _ _ (by simp)
    rw [hW0]
    have h2 := h1.ext hEW
    obtain ⟨cap2, hex2, hcap2⟩ := h2.ex
    have H2 := Lib.hid h2
    have hBd : B ≤ 59 := by have := hok.b2; have := h2.hB; omega
    refine wpIn_rangeFunc_ownF rfl (by decide) (gf := 137) (lb := #[.pointer (some ⟨w1.heap.size + 1, 0, none⟩), .pointer (some ⟨w1.heap.size + 1 + 1, 0, none⟩)]) rfl trivial (enters_of Tryz.func137 (by kernel_rfl) rfl)
      (kat1_stops 4 (w1.heap.size + 1) (w1.heap.size + 2) W0.heap.size s g cap2 (fun k => k = w1.heap.size) C L B key hk hBd (by omega) (by omega) h2.lts h2.ltg (by omega) (by omega) (by omega) (by have := h1.ltg; omega) W0 (Nat.le_refl _)
        ((cell_of hb1' 0).trans rfl) ((cell_of hb2' 0).trans rfl) ((cell_of hex2 5).trans rfl) (fun n hn => h2.cell hn)) KpS.t (fun W l o o' hl ho hc hw => KpS.b (Nat.le_refl _) W l o o' hl ho hc hw) (Below.refl _ _) (fun _ => rfl)
      (fun pre W => W.heap[w1.heap.size]? = some (.cells #[.int .i64 (errF C ls key d (vals pre))] 29 (0, 0)) ∧ Mod (fun k => k = w1.heap.size) W0 W)
      (fun _ _ _ => False)
      (OwnFrom.and (ownFrom_box (by omega) _) (ownFrom_mod (Nat.le_refl _)))
      (fun _ _ _ _ _ hs _ _ => hs)
      ⟨hb0, Mod.refl _ _⟩
      (fun x => { tmps := #[.pointer (some ⟨s, 0, none⟩), .int .u64 key, .int .i64 d, undef, undef, .pointer (some ⟨w.heap.size, 0, none⟩), .int .i64 0, .pointer (some ⟨w1.heap.size, 0, none⟩), lvV C x.1 (L x.1), .int .u64 (sh x.1 key), undef, undef, .int .u64 key, .pointer (some ⟨s, 0, none⟩), .pointer (some ⟨s, 0, none⟩), .pointer (some ⟨s, 0, none⟩), .agg #[.int .i64 C.bits, .int .i64 C.rows, .int .i64 C.width, .int .i64 C.mode, .int .u64 C.seed], .int .u64 (keys C 0), .bool false, .pointer (some ⟨s, 0, none⟩), .int .u64 key, .func (.func 137) #[] #[.pointer (some ⟨w1.heap.size + 1, 0, none⟩), .pointer (some ⟨w1.heap.size + 1 + 1, 0, none⟩)], lvV C x.1 (L x.1), .int .u64 (sh x.1 key), undef, undef, undef, undef, undef, undef, undef, undef, undef, undef, undef, undef, undef, undef, undef, undef, undef, undef, undef], defers := [] }) ?assign ?body ?done ?stop
    case assign =>
      intro l x W K hK
      dsimp only [lvEnc]
      gi_wp2
      exact hK
    case body =>
      rintro l pre x W ⟨hbad, hM0⟩ hlen
      have hM := mod_new hEW hM0 (Nat.le_refl _)
      have hxn := x.2
      have h3 := h1.keepN h1.low (fun k hk _ => hM.block k hk (fun h => h))
      have hLx := h3.lev x.1 x.2
      have hbc := (cell_of hbad 0).trans rfl
      have hdW := hM.keep db (fun h => h)
      have hdc := (cell_of hdW 0).trans rfl
      have hbl := lt_of hbad
      have hdl := lt_of hdW
      have hkx := sh_u64 hk x.1
      gi_wp2
      cases hx : isX C x.1 with
      | true =>
        have hA := (hLx.x hx).ext (Below.drew (Ext.refl W))
        have HX := Lib.hid hx
        rw [lvV_x hx]
        clear hx
        refine pi_startR (fun w' => ∃ x : After W, w' = x.w) [7] (by kernel_rfl) (fun ⟨_, _, hh⟩ => hh) (by kernel_rfl) ?_
        have hC0 := af_drew W
        refine pi_c 0 (by assumption) rfl (by kernel_rfl) (by kernel_rfl) (fun _ _ _ _ h => h) (fun K hK => ?_)
        go_big_quiet_op
        refine hK _ ?_
        clear hK K
        refine pi_t 1 rfl (by kernel_rfl) (by kernel_rfl) (fun _ _ _ _ h => h) (fun K hK => ?_)
        go_big_quiet_op
        refine hK _ ?_
        clear hK K
        refine pi_t 2 rfl (by kernel_rfl) (by kernel_rfl) (fun _ _ _ _ h => h) (fun K hK => ?_)
        go_big_quiet_op
        refine hK _ ?_
        clear hK K
        refine pi_c 3 (by assumption) rfl (by kernel_rfl) (by kernel_rfl) (fun _ _ _ _ h => h) (fun K hK => ?_)
        go_big_quiet_op
        refine hK _ ?_
        clear hK K
        refine pi_l 4 rfl (by kernel_rfl) (fun K hK => ?_)
        go_wp2_with fail
        refine (ECheck_c _ _ _ C _ _ _ (sh x.1 key) d _ hA hd hkx).mono ?_
        rintro e w3 ⟨rfl, hx3⟩
        have hb3 := hx3.keep (show W.drew.heap[w1.heap.size]? = _ from hbad)
        have hbc3 := (cell_of hb3 0).trans rfl
        have hbl3 := lt_of hb3
        have hbf3 := frozen_of hb3 0
        go_wp2
        refine hK _ _ (fun _ h => af_step h hx3) ?_
        clear hK K
        refine pi_l 5 rfl (by kernel_rfl) (fun K hK => ?_)
        go_wp2
        refine hK _ _ (fun _ h => af_step h (Ext.alloc' _ _)) ?_
        clear hK K
        refine pi_l 6 rfl (by kernel_rfl) (fun K hK => ?_)
        go_wp2_with fail
        refine (first_c w3.heap.size 2 (errF C ls key d (vals pre)) (errX C x.1 (ls x.1) (sh x.1 key) d) _ ((cell_of (heap_at w3 _ rfl) 0).trans rfl) ((cell_of (heap_at w3 _ rfl) 1).trans rfl)).mono ?_
        rintro e w4 ⟨rfl, rfl⟩
        go_wp2
        refine hK _ _ (fun _ h => h) ?_
        clear hK K
        refine pi_l 7 rfl (by kernel_rfl) (fun K hK => ?_)
        go_wp2
        refine hK _ _ (by simp) ?_
        clear hK K
        refine pi_end (by kernel_rfl) ?_
        obtain ⟨r1, r2, r3, r4⟩ := chk_round (v := .int .i64 (fst_ (errF C ls key d (vals pre)) (errX C x.1 (ls x.1) (sh x.1 key) d))) (o := .cells #[.int .i64 (errF C ls key d (vals pre)), .int .i64 (errX C x.1 (ls x.1) (sh x.1 key) d)] 29) hbad (Ext.trans' (Below.drew (Ext.refl W)) hx3) hM0
        exact ⟨r1, r2, by rw [vals_snoc, errF_snoc, lvE_x HX.out]; exact r3, r4⟩
      | false =>
        have hA := (hLx.sk hx).ext (Below.drew (Ext.refl W))
        have HX := Lib.hid hx
        rw [lvV_s hx]
        clear hx
        refine pi_startR (fun w' => ∃ x : After W, w' = x.w) [7] (by kernel_rfl) (fun ⟨_, _, hh⟩ => hh) (by kernel_rfl) ?_
        have hC0 := af_drew W
        refine pi_c 0 (by assumption) rfl (by kernel_rfl) (by kernel_rfl) (fun _ _ _ _ h => h) (fun K hK => ?_)
        go_big_quiet_op
        refine hK _ ?_
        clear hK K
        refine pi_t 1 rfl (by kernel_rfl) (by kernel_rfl) (fun _ _ _ _ h => h) (fun K hK => ?_)
        go_big_quiet_op
        refine hK _ ?_
        clear hK K
        refine pi_t 2 rfl (by kernel_rfl) (by kernel_rfl) (fun _ _ _ _ h => h) (fun K hK => ?_)
        go_big_quiet_op
        refine hK _ ?_
        clear hK K
        refine pi_c 3 (by assumption) rfl (by kernel_rfl) (by kernel_rfl) (fun _ _ _ _ h => h) (fun K hK => ?_)
        go_big_quiet_op
        refine hK _ ?_
        clear hK K
        refine pi_l 4 rfl (by kernel_rfl) (fun K hK => ?_)
        go_wp2_with fail
        refine (Check_c _ _ _ C _ _ _ _ (sh x.1 key) d _ hA hd hkx.1).mono ?_
        rintro e w3 ⟨rfl, hx3⟩
        have hb3 := hx3.keep (show W.drew.heap[w1.heap.size]? = _ from hbad)
        have hbc3 := (cell_of hb3 0).trans rfl
        have hbl3 := lt_of hb3
        have hbf3 := frozen_of hb3 0
        go_wp2
        refine hK _ _ (fun _ h => af_step h hx3) ?_
        clear hK K
        refine pi_l 5 rfl (by kernel_rfl) (fun K hK => ?_)
        go_wp2
        refine hK _ _ (fun _ h => af_step h (Ext.alloc' _ _)) ?_
        clear hK K
        refine pi_l 6 rfl (by kernel_rfl) (fun K hK => ?_)
        go_wp2_with fail
        refine (first_c w3.heap.size 2 (errF C ls key d (vals pre)) (errU C x.1 (rN C) (wN C) (ls x.1) (sh x.1 key) d) _ ((cell_of (heap_at w3 _ rfl) 0).trans rfl) ((cell_of (heap_at w3 _ rfl) 1).trans rfl)).mono ?_
        rintro e w4 ⟨rfl, rfl⟩
        go_wp2
        refine hK _ _ (fun _ h => h) ?_
        clear hK K
        refine pi_l 7 rfl (by kernel_rfl) (fun K hK => ?_)
        go_wp2
        refine hK _ _ (by simp) ?_
        clear hK K
        refine pi_end (by kernel_rfl) ?_
        obtain ⟨r1, r2, r3, r4⟩ := chk_round (v := .int .i64 (fst_ (errF C ls key d (vals pre)) (errU C x.1 (rN C) (wN C) (ls x.1) (sh x.1 key) d))) (o := .cells #[.int .i64 (errF C ls key d (vals pre)), .int .i64 (errU C x.1 (rN C) (wN C) (ls x.1) (sh x.1 key) d)] 29) hbad (Ext.trans' (Below.drew (Ext.refl W)) hx3) hM0
        exact ⟨r1, r2, by rw [vals_snoc, errF_snoc, lvE_s HX.out]; exact r3, r4⟩
    case done =>
      rintro D xs W hD hxs ⟨hbad, hM0⟩ hdef
      have hM := mod_new hEW hM0 (Nat.le_refl _)
      have hz : errF C ls key d (vals xs) = errs C ls key d (B + 1) := by unfold vals; rw [hxs, errF_range]
      rw [hz] at hbad
      have hek : errK C B ls key d = errs C ls key d (B + 1) := by unfold errK; rw [hge]; rfl
      have h3 := h1.keepN h1.low (fun k hk _ => hM.block k hk (fun h => h))
      have hbc := (cell_of hbad 0).trans rfl
      have hdW := hM.keep db (fun h => h)
      have hdc := (cell_of hdW 0).trans rfl
      have hbl := lt_of hbad
      have hdl := lt_of hdW
      have HZ := Lib.hid hek
      have HXS := Lib.hid hz
      clear hek hz hxs
      by_cases hzz : errs C ls key d (B + 1) = 0
      · gi_wp2_with fail
        refine ⟨trivial, (callsIn_wide.2 (Kat_c s key _)).mono ?_⟩
        rintro e w2 ⟨rfl, rfl⟩
        gi_wp2
        obtain ⟨W2, hW2⟩ : ∃ W2, (W.alloc (.cells #[.pointer (some ⟨s, 0, none⟩)] 28)).alloc (.cells #[.int .u64 key] 22) = W2 := ⟨_, rfl⟩
        have hsz2 : W2.heap.size = W.heap.size + 2 := by rw [← hW2]; simp
        have hEW2 : Ext W W2 := by rw [← hW2]; exact (Ext.alloc' _ _).allocR _
        have hb1' : W2.heap[W.heap.size]? = some (.cells #[.pointer (some ⟨s, 0, none⟩)] 28 (0, 0)) := by rw [← hW2, heap_old _ _ (by simp)]; exact heap_at _ _ rfl
        have hb2' : W2.heap[W.heap.size + 1]? = some (.cells #[.int .u64 key] 22 (0, 0)) := by rw [← hW2]; exact heap_at _ _ (size_alloc _ _).symm
        have hdef2 := hEW2.keep hdef
        have hd2 := hEW2.keep hdW
        rw [hW2]
        have h4 := h3.ext hEW2
        obtain ⟨cap4, hex4, hcap4⟩ := h4.ex
        have hall : ∀ n, n ≤ B → lvE C n (ls n) (sh n key) d = 0 := fun n hn => errs_zero.1 hzz n (by omega)
        have hlt3 : ∀ k, cellsOf B L k → k < W.heap.size := fun k hk => h3.ltc hk
        have hlt0 : ∀ k, cellsOf B L k → k < w.heap.size := fun k hk => HH.out.ltc hk
        have hWl := hM.size
        have hDl := lt_of hdef
        refine wpIn_rangeFunc_ownF rfl (by decide) (gf := 137) (lb := #[.pointer (some ⟨W.heap.size, 0, none⟩), .pointer (some ⟨W.heap.size + 1, 0, none⟩)]) rfl trivial (enters_of Tryz.func137 (by kernel_rfl) rfl)
          (kat1_stops 4 W.heap.size (W.heap.size + 1) W2.heap.size s g cap4 (cellsOf B L) C L B key hk hBd (by omega) (by omega) h4.lts h4.ltg (fun h => absurd (hlt3 _ h) (by omega)) (fun h => absurd (hlt3 _ h) (by omega)) h3.nots h3.notg W2 (Nat.le_refl _)
            ((cell_of hb1' 0).trans rfl) ((cell_of hb2' 0).trans rfl) ((cell_of hex4 5).trans rfl) (fun n hn => h4.cell hn)) KpS.t (fun W l o o' hl ho hc hw => KpS.b (Nat.le_refl _) W l o o' hl ho hc hw) (Below.refl _ _) (fun _ => rfl)
          (fun pre W' => W'.heap[D]? = some (.deferred (some [])) ∧ (∃ ls', KAt W' s g C B L ls' ∧ ((vals pre).Nodup → ∀ n, ls' n = partK C ls key d (vals pre) n)) ∧ Mod (cellsOf B L) W2 W')
          (fun _ _ _ => False)
          (OwnFrom.and (ownFrom_box (by omega) (fun _ => _)) (OwnFrom.and (fun pre W' W'' row hs hg hr => by obtain ⟨ls', h, hp⟩ := hs; exact ⟨ls', h.keepN h4.low (fun k hk hN => grown_low hg (fun r e => (hr r e).1) hk hN), hp⟩) (ownFrom_mod (Nat.le_refl _))))
          (fun _ _ _ _ _ hs _ _ => hs)
          ⟨hdef2, ⟨ls, h4, fun _ n => rfl⟩, Mod.refl _ _⟩
          (fun x => { tmps := #[.pointer (some ⟨s, 0, none⟩), .int .u64 key, .int .i64 d, undef, undef, .pointer (some ⟨w.heap.size, 0, none⟩), .int .i64 0, .pointer (some ⟨w1.heap.size, 0, none⟩), undef, undef, lvV C x.1 (L x.1), .int .u64 (sh x.1 key), .int .u64 key, .pointer (some ⟨s, 0, none⟩), .pointer (some ⟨s, 0, none⟩), .pointer (some ⟨s, 0, none⟩), .agg #[.int .i64 C.bits, .int .i64 C.rows, .int .i64 C.width, .int .i64 C.mode, .int .u64 C.seed], .int .u64 (keys C 0), .bool false, .pointer (some ⟨s, 0, none⟩), .int .u64 key, .func (.func 137) #[] #[.pointer (some ⟨w1.heap.size + 1, 0, none⟩), .pointer (some ⟨w1.heap.size + 1 + 1, 0, none⟩)], undef, undef, undef, undef, undef, undef, undef, undef, undef, .int .i64 0, .bool false, undef, .pointer (some ⟨s, 0, none⟩), .int .u64 key, .func (.func 137) #[] #[.pointer (some ⟨W.heap.size, 0, none⟩), .pointer (some ⟨W.heap.size + 1, 0, none⟩)], lvV C x.1 (L x.1), .int .u64 (sh x.1 key), undef, undef, undef, undef], defers := [] }) ?assign2 ?body2 ?done2 ?stop2
        case assign2 =>
          intro l x W K hK
          dsimp only [lvEnc]
          gi_wp2
          exact hK
        case body2 =>
          rintro l pre x V ⟨hD5, ⟨ls', h5, hp5⟩, hM5⟩ hlen
          have hd5 := hM5.keep hd2 (fun h => absurd (hlt0 _ h) (by omega))
          have hdc5 := (cell_of hd5 0).trans rfl
          have hdl5 := lt_of hd5
          have hkx := sh_u64 hk x.1
          have hLx := h5.lev x.1 x.2
          have fin := fun w3 hres => upd_round (w3 := w3) (x := x) h5 hp5 hM5 hD5 hall hres
          cases hx : isX C x.1 with
          | true =>
            have hA := hLx.x hx
            have HX := Lib.hid hx
            rw [lvV_x hx]
            clear hx
            refine wpIn_block ?_
            refine region_plainR (fun ⟨_, _, hh⟩ => hh) (by kernel_rfl) ?_
            go_wp2_with fail
            refine Calls.mono (EUpdate_c _ _ _ C _ _ _ (sh x.1 key) d _ hA hd hkx) ?_
            rintro e w3 ⟨rfl, hres⟩
            gi_wp2
            rw [← lvE_x HX.out, ← lvU_x HX.out] at hres
            exact fin w3 (hres.imp (fun ⟨a, b, c⟩ => ⟨a, .inl ⟨HX.out, b⟩, c⟩) (fun h => h))
          | false =>
            have hA := hLx.sk hx
            have HX := Lib.hid hx
            rw [lvV_s hx]
            clear hx
            refine wpIn_block ?_
            refine region_plainR (fun ⟨_, _, hh⟩ => hh) (by kernel_rfl) ?_
            go_wp2_with fail
            refine Calls.mono (Update_c _ _ _ C _ _ _ _ (sh x.1 key) d _ hA hd hkx.1) ?_
            rintro e w3 ⟨rfl, hres⟩
            gi_wp2
            rw [← lvE_s HX.out, ← lvU_s HX.out] at hres
            exact fin w3 (hres.imp (fun ⟨a, b, c⟩ => ⟨a, .inr ⟨HX.out, b⟩, c⟩) (fun h => h))
        case done2 =>
          rintro D2 ys V hD2 hys ⟨hD5, ⟨ls', h5, hp5⟩, hM5⟩ hdef5
          gi_wp2
          have hne : D ≠ D2 := by omega
          refine ⟨by simp, .inl ⟨_, _, rfl, run_takeDeferred hdef5, ⟨by simp, .inl ⟨_, _, rfl, run_takeDeferred ((World.putObj_heap_other hne).trans hD5), ?_⟩⟩⟩⟩
          have hq : Mod (cellsOf B L) w V := (((hE1.mod _).trans (hM.mono (fun _ h _ => h.elim))).trans (hEW2.mod _)).trans hM5
          have hwl := hE1.size
          refine ⟨_, results_tmp rfl _ _ _, by rw [HZ.out, hzz]; rfl, ?_, mod_putD (mod_putD hq (by omega)) (by omega)⟩
          rw [HZ.out, hzz]
          refine KAt.cong (ls := ls') ?_ (part_end hys hp5)
          exact h5.keepN HH.out.low (fun k _ hN => (World.putObj_heap_other (by omega)).trans (World.putObj_heap_other (by omega)))
        case stop2 =>
          rintro D2 c pre V hD2 _ hh _
          exact hh.elim
      · gi_wp2
        refine ⟨by simp, .inl ⟨_, _, rfl, run_takeDeferred hdef, ?_⟩⟩
        have hp : Mod (fun _ => False) w1 (W.putObj D (.deferred none)) := mod_putD hM (by omega)
        refine ⟨_, results_tmp rfl _ _ _, by rw [HZ.out]; rfl, ?_, (hE1.mod _).trans (hp.mono (fun _ h _ => h.elim))⟩
        rw [HZ.out, decide_eq_false hzz]
        exact h1.keepN h1.low (fun k hk _ => hp.block k hk (fun h => h))
    case stop =>
      rintro D c pre W hD _ hh _
      exact hh.elim
end Go.Proofs.YteoblkcbemeamaaGreat

/- A config that may not be. -/
namespace Go.Proofs.YteoblkcbemeamaaGreat
set_option linter.unusedVariables false
open Go.RowKit

set_option maxRecDepth 100000 in
set_option maxHeartbeats 2000000 in
theorem within_no01 (a b c d : Int) (s : Nat) (w : World)
    (f0 : decide (a < 1) = true)
    (hs : w.heap[s]? = some (.cells #[.int .i64 a, .int .i64 59, .int .i64 b, .int .i64 8, .int .i64 c, .int .i64 128, .int .i64 d, .int .i64 3] 206 (0, 0))) :
    Calls Tryz.prog 136 #[.slice (some ⟨s, 0, none⟩) 4 4] w fun e w' => e = .returned (.bool false) ∧ Ext w w' := by
  have hlt := lt_of hs
  have l1 : s < w.heap.size + 1 := by omega
  have l2 : s < w.heap.size + 1 + 1 := by omega
  have l3 : s < w.heap.size + 1 + 1 + 1 := by omega
  have k0 := cell_of hs 0
  have k1 := cell_of hs 1
  have k2 := cell_of hs 2
  have k3 := cell_of hs 3
  have k4 := cell_of hs 4
  have k5 := cell_of hs 5
  have k6 := cell_of hs 6
  have k7 := cell_of hs 7
  simp at k0 k1 k2 k3 k4 k5 k6 k7
  clear hs
  go_enter Tryz.func136, Tryz.ntmps136
  go_wp2
  refine wp_loop_rounds 1 ?_
  iterate 1 (rw [rounds_succ]; go_wp2)
  go_ret
  exact ⟨rfl, by (repeat' (first | exact Ext.refl _ | assumption | apply Ext.allocR | apply Ext.drewR | apply Ext.drewNR | (refine Ext.trans' ?_ (by assumption))))⟩
set_option maxRecDepth 100000 in
set_option maxHeartbeats 2000000 in
theorem within_no02 (a b c d : Int) (s : Nat) (w : World)
    (f0 : decide (a < 1) = false) (g0 : decide (59 < a) = true)
    (hs : w.heap[s]? = some (.cells #[.int .i64 a, .int .i64 59, .int .i64 b, .int .i64 8, .int .i64 c, .int .i64 128, .int .i64 d, .int .i64 3] 206 (0, 0))) :
    Calls Tryz.prog 136 #[.slice (some ⟨s, 0, none⟩) 4 4] w fun e w' => e = .returned (.bool false) ∧ Ext w w' := by
  have hlt := lt_of hs
  have l1 : s < w.heap.size + 1 := by omega
  have l2 : s < w.heap.size + 1 + 1 := by omega
  have l3 : s < w.heap.size + 1 + 1 + 1 := by omega
  have k0 := cell_of hs 0
  have k1 := cell_of hs 1
  have k2 := cell_of hs 2
  have k3 := cell_of hs 3
  have k4 := cell_of hs 4
  have k5 := cell_of hs 5
  have k6 := cell_of hs 6
  have k7 := cell_of hs 7
  simp at k0 k1 k2 k3 k4 k5 k6 k7
  clear hs
  go_enter Tryz.func136, Tryz.ntmps136
  go_wp2
  refine wp_loop_rounds 1 ?_
  iterate 1 (rw [rounds_succ]; go_wp2)
  go_ret
  exact ⟨rfl, by (repeat' (first | exact Ext.refl _ | assumption | apply Ext.allocR | apply Ext.drewR | apply Ext.drewNR | (refine Ext.trans' ?_ (by assumption))))⟩
set_option maxRecDepth 100000 in
set_option maxHeartbeats 2000000 in
theorem within_no11 (a b c d : Int) (s : Nat) (w : World)
    (f0 : decide (a < 1) = false) (g0 : decide (59 < a) = false) (f1 : decide (b < 1) = true)
    (hs : w.heap[s]? = some (.cells #[.int .i64 a, .int .i64 59, .int .i64 b, .int .i64 8, .int .i64 c, .int .i64 128, .int .i64 d, .int .i64 3] 206 (0, 0))) :
    Calls Tryz.prog 136 #[.slice (some ⟨s, 0, none⟩) 4 4] w fun e w' => e = .returned (.bool false) ∧ Ext w w' := by
  have hlt := lt_of hs
  have l1 : s < w.heap.size + 1 := by omega
  have l2 : s < w.heap.size + 1 + 1 := by omega
  have l3 : s < w.heap.size + 1 + 1 + 1 := by omega
  have k0 := cell_of hs 0
  have k1 := cell_of hs 1
  have k2 := cell_of hs 2
  have k3 := cell_of hs 3
  have k4 := cell_of hs 4
  have k5 := cell_of hs 5
  have k6 := cell_of hs 6
  have k7 := cell_of hs 7
  simp at k0 k1 k2 k3 k4 k5 k6 k7
  clear hs
  go_enter Tryz.func136, Tryz.ntmps136
  go_wp2
  refine wp_loop_rounds 2 ?_
  iterate 2 (rw [rounds_succ]; go_wp2)
  go_ret
  exact ⟨rfl, by (repeat' (first | exact Ext.refl _ | assumption | apply Ext.allocR | apply Ext.drewR | apply Ext.drewNR | (refine Ext.trans' ?_ (by assumption))))⟩
set_option maxRecDepth 100000 in
set_option maxHeartbeats 2000000 in
theorem within_no12 (a b c d : Int) (s : Nat) (w : World)
    (f0 : decide (a < 1) = false) (g0 : decide (59 < a) = false) (f1 : decide (b < 1) = false) (g1 : decide (8 < b) = true)
    (hs : w.heap[s]? = some (.cells #[.int .i64 a, .int .i64 59, .int .i64 b, .int .i64 8, .int .i64 c, .int .i64 128, .int .i64 d, .int .i64 3] 206 (0, 0))) :
    Calls Tryz.prog 136 #[.slice (some ⟨s, 0, none⟩) 4 4] w fun e w' => e = .returned (.bool false) ∧ Ext w w' := by
  have hlt := lt_of hs
  have l1 : s < w.heap.size + 1 := by omega
  have l2 : s < w.heap.size + 1 + 1 := by omega
  have l3 : s < w.heap.size + 1 + 1 + 1 := by omega
  have k0 := cell_of hs 0
  have k1 := cell_of hs 1
  have k2 := cell_of hs 2
  have k3 := cell_of hs 3
  have k4 := cell_of hs 4
  have k5 := cell_of hs 5
  have k6 := cell_of hs 6
  have k7 := cell_of hs 7
  simp at k0 k1 k2 k3 k4 k5 k6 k7
  clear hs
  go_enter Tryz.func136, Tryz.ntmps136
  go_wp2
  refine wp_loop_rounds 2 ?_
  iterate 2 (rw [rounds_succ]; go_wp2)
  go_ret
  exact ⟨rfl, by (repeat' (first | exact Ext.refl _ | assumption | apply Ext.allocR | apply Ext.drewR | apply Ext.drewNR | (refine Ext.trans' ?_ (by assumption))))⟩
set_option maxRecDepth 100000 in
set_option maxHeartbeats 2000000 in
theorem within_no21 (a b c d : Int) (s : Nat) (w : World)
    (f0 : decide (a < 1) = false) (g0 : decide (59 < a) = false) (f1 : decide (b < 1) = false) (g1 : decide (8 < b) = false) (f2 : decide (c < 1) = true)
    (hs : w.heap[s]? = some (.cells #[.int .i64 a, .int .i64 59, .int .i64 b, .int .i64 8, .int .i64 c, .int .i64 128, .int .i64 d, .int .i64 3] 206 (0, 0))) :
    Calls Tryz.prog 136 #[.slice (some ⟨s, 0, none⟩) 4 4] w fun e w' => e = .returned (.bool false) ∧ Ext w w' := by
  have hlt := lt_of hs
  have l1 : s < w.heap.size + 1 := by omega
  have l2 : s < w.heap.size + 1 + 1 := by omega
  have l3 : s < w.heap.size + 1 + 1 + 1 := by omega
  have k0 := cell_of hs 0
  have k1 := cell_of hs 1
  have k2 := cell_of hs 2
  have k3 := cell_of hs 3
  have k4 := cell_of hs 4
  have k5 := cell_of hs 5
  have k6 := cell_of hs 6
  have k7 := cell_of hs 7
  simp at k0 k1 k2 k3 k4 k5 k6 k7
  clear hs
  go_enter Tryz.func136, Tryz.ntmps136
  go_wp2
  refine wp_loop_rounds 3 ?_
  iterate 3 (rw [rounds_succ]; go_wp2)
  go_ret
  exact ⟨rfl, by (repeat' (first | exact Ext.refl _ | assumption | apply Ext.allocR | apply Ext.drewR | apply Ext.drewNR | (refine Ext.trans' ?_ (by assumption))))⟩
set_option maxRecDepth 100000 in
set_option maxHeartbeats 2000000 in
theorem within_no22 (a b c d : Int) (s : Nat) (w : World)
    (f0 : decide (a < 1) = false) (g0 : decide (59 < a) = false) (f1 : decide (b < 1) = false) (g1 : decide (8 < b) = false) (f2 : decide (c < 1) = false) (g2 : decide (128 < c) = true)
    (hs : w.heap[s]? = some (.cells #[.int .i64 a, .int .i64 59, .int .i64 b, .int .i64 8, .int .i64 c, .int .i64 128, .int .i64 d, .int .i64 3] 206 (0, 0))) :
    Calls Tryz.prog 136 #[.slice (some ⟨s, 0, none⟩) 4 4] w fun e w' => e = .returned (.bool false) ∧ Ext w w' := by
  have hlt := lt_of hs
  have l1 : s < w.heap.size + 1 := by omega
  have l2 : s < w.heap.size + 1 + 1 := by omega
  have l3 : s < w.heap.size + 1 + 1 + 1 := by omega
  have k0 := cell_of hs 0
  have k1 := cell_of hs 1
  have k2 := cell_of hs 2
  have k3 := cell_of hs 3
  have k4 := cell_of hs 4
  have k5 := cell_of hs 5
  have k6 := cell_of hs 6
  have k7 := cell_of hs 7
  simp at k0 k1 k2 k3 k4 k5 k6 k7
  clear hs
  go_enter Tryz.func136, Tryz.ntmps136
  go_wp2
  refine wp_loop_rounds 3 ?_
  iterate 3 (rw [rounds_succ]; go_wp2)
  go_ret
  exact ⟨rfl, by (repeat' (first | exact Ext.refl _ | assumption | apply Ext.allocR | apply Ext.drewR | apply Ext.drewNR | (refine Ext.trans' ?_ (by assumption))))⟩
set_option maxRecDepth 100000 in
set_option maxHeartbeats 2000000 in
theorem within_no31 (a b c d : Int) (s : Nat) (w : World)
    (f0 : decide (a < 1) = false) (g0 : decide (59 < a) = false) (f1 : decide (b < 1) = false) (g1 : decide (8 < b) = false) (f2 : decide (c < 1) = false) (g2 : decide (128 < c) = false) (f3 : decide (d < 1) = true)
    (hs : w.heap[s]? = some (.cells #[.int .i64 a, .int .i64 59, .int .i64 b, .int .i64 8, .int .i64 c, .int .i64 128, .int .i64 d, .int .i64 3] 206 (0, 0))) :
    Calls Tryz.prog 136 #[.slice (some ⟨s, 0, none⟩) 4 4] w fun e w' => e = .returned (.bool false) ∧ Ext w w' := by
  have hlt := lt_of hs
  have l1 : s < w.heap.size + 1 := by omega
  have l2 : s < w.heap.size + 1 + 1 := by omega
  have l3 : s < w.heap.size + 1 + 1 + 1 := by omega
  have k0 := cell_of hs 0
  have k1 := cell_of hs 1
  have k2 := cell_of hs 2
  have k3 := cell_of hs 3
  have k4 := cell_of hs 4
  have k5 := cell_of hs 5
  have k6 := cell_of hs 6
  have k7 := cell_of hs 7
  simp at k0 k1 k2 k3 k4 k5 k6 k7
  clear hs
  go_enter Tryz.func136, Tryz.ntmps136
  go_wp2
  refine wp_loop_rounds 4 ?_
  iterate 4 (rw [rounds_succ]; go_wp2)
  go_ret
  exact ⟨rfl, by (repeat' (first | exact Ext.refl _ | assumption | apply Ext.allocR | apply Ext.drewR | apply Ext.drewNR | (refine Ext.trans' ?_ (by assumption))))⟩
set_option maxRecDepth 100000 in
set_option maxHeartbeats 2000000 in
theorem within_no32 (a b c d : Int) (s : Nat) (w : World)
    (f0 : decide (a < 1) = false) (g0 : decide (59 < a) = false) (f1 : decide (b < 1) = false) (g1 : decide (8 < b) = false) (f2 : decide (c < 1) = false) (g2 : decide (128 < c) = false) (f3 : decide (d < 1) = false) (g3 : decide (3 < d) = true)
    (hs : w.heap[s]? = some (.cells #[.int .i64 a, .int .i64 59, .int .i64 b, .int .i64 8, .int .i64 c, .int .i64 128, .int .i64 d, .int .i64 3] 206 (0, 0))) :
    Calls Tryz.prog 136 #[.slice (some ⟨s, 0, none⟩) 4 4] w fun e w' => e = .returned (.bool false) ∧ Ext w w' := by
  have hlt := lt_of hs
  have l1 : s < w.heap.size + 1 := by omega
  have l2 : s < w.heap.size + 1 + 1 := by omega
  have l3 : s < w.heap.size + 1 + 1 + 1 := by omega
  have k0 := cell_of hs 0
  have k1 := cell_of hs 1
  have k2 := cell_of hs 2
  have k3 := cell_of hs 3
  have k4 := cell_of hs 4
  have k5 := cell_of hs 5
  have k6 := cell_of hs 6
  have k7 := cell_of hs 7
  simp at k0 k1 k2 k3 k4 k5 k6 k7
  clear hs
  go_enter Tryz.func136, Tryz.ntmps136
  go_wp2
  refine wp_loop_rounds 4 ?_
  iterate 4 (rw [rounds_succ]; go_wp2)
  go_ret
  exact ⟨rfl, by (repeat' (first | exact Ext.refl _ | assumption | apply Ext.allocR | apply Ext.drewR | apply Ext.drewNR | (refine Ext.trans' ?_ (by assumption))))⟩
def okB (c : Cfg) : Bool := decide (1 ≤ c.bits ∧ c.bits ≤ 59 ∧ 1 ≤ c.rows ∧ c.rows ≤ 8 ∧ 1 ≤ c.width ∧ c.width ≤ 128 ∧ 1 ≤ c.mode ∧ c.mode ≤ 3)
theorem okB_true {c : Cfg} (h : c.Ok) : okB c = true := by
  obtain ⟨b1, b2, r1, r2, w1, w2, m1, m2, s⟩ := h
  unfold okB; exact decide_eq_true ⟨b1, b2, r1, r2, w1, w2, m1, m2⟩
theorem okB_ok {c : Cfg} (h : okB c = true) (hs : U64 c.seed) : c.Ok := by
  have := of_decide_eq_true h
  exact ⟨this.1, this.2.1, this.2.2.1, this.2.2.2.1, this.2.2.2.2.1, this.2.2.2.2.2.1, this.2.2.2.2.2.2.1, this.2.2.2.2.2.2.2, hs⟩
theorem within_bad (c : Cfg) (h : okB c = false) (s : Nat) (w : World)
    (hs : w.heap[s]? = some (.cells #[.int .i64 c.bits, .int .i64 59, .int .i64 c.rows, .int .i64 8, .int .i64 c.width, .int .i64 128, .int .i64 c.mode, .int .i64 3] 206 (0, 0))) :
    Calls Tryz.prog 136 #[.slice (some ⟨s, 0, none⟩) 4 4] w fun e w' => e = .returned (.bool false) ∧ Ext w w' := by
  have h' := of_decide_eq_false h
  by_cases a1 : c.bits < 1
  · exact within_no01 _ _ _ _ s w (decide_eq_true a1) hs
  by_cases a2 : 59 < c.bits
  · exact within_no02 _ _ _ _ s w (decide_eq_false a1) (decide_eq_true a2) hs
  by_cases b1 : c.rows < 1
  · exact within_no11 _ _ _ _ s w (decide_eq_false a1) (decide_eq_false a2) (decide_eq_true b1) hs
  by_cases b2 : 8 < c.rows
  · exact within_no12 _ _ _ _ s w (decide_eq_false a1) (decide_eq_false a2) (decide_eq_false b1) (decide_eq_true b2) hs
  by_cases c1 : c.width < 1
  · exact within_no21 _ _ _ _ s w (decide_eq_false a1) (decide_eq_false a2) (decide_eq_false b1) (decide_eq_false b2) (decide_eq_true c1) hs
  by_cases c2 : 128 < c.width
  · exact within_no22 _ _ _ _ s w (decide_eq_false a1) (decide_eq_false a2) (decide_eq_false b1) (decide_eq_false b2) (decide_eq_false c1) (decide_eq_true c2) hs
  by_cases d1 : c.mode < 1
  · exact within_no31 _ _ _ _ s w (decide_eq_false a1) (decide_eq_false a2) (decide_eq_false b1) (decide_eq_false b2) (decide_eq_false c1) (decide_eq_false c2) (decide_eq_true d1) hs
  by_cases d2 : 3 < c.mode
  · exact within_no32 _ _ _ _ s w (decide_eq_false a1) (decide_eq_false a2) (decide_eq_false b1) (decide_eq_false b2) (decide_eq_false c1) (decide_eq_false c2) (decide_eq_false d1) (decide_eq_true d2) hs
  exact absurd ⟨by omega, by omega, by omega, by omega, by omega, by omega, by omega, by omega⟩ h'
set_option maxHeartbeats 1000000 in
theorem Right_no (c : Cfg) (h : okB c = false) (w : World) :
    Calls Tryz.prog 81 #[.agg #[.int .i64 c.bits, .int .i64 c.rows, .int .i64 c.width, .int .i64 c.mode, .int .u64 c.seed]] w fun e w' => e = .returned (.bool false) ∧ Ext w w' := by
  go_enter Tryz.func81, Tryz.ntmps81
  go_wp2_with (go_at_call 136; refine (within_bad c h _ _ ?hs).mono ?_)
  · skip
    exact heap_at _ _ (by simp only [size_alloc])
  rintro e w1 ⟨rfl, hb⟩
  go_wp2
  go_ret
  refine ⟨rfl, ?_⟩
  (repeat' (first | exact Ext.refl _ | assumption | apply Ext.allocR | apply Ext.drewR | apply Ext.drewNR | (refine Ext.trans' ?_ (by assumption))))
set_option maxRecDepth 20000 in
set_option maxHeartbeats 1000000 in
theorem KNew_no (C : Cfg) (h : okB C = false) (w : World) :
    Calls Tryz.prog 16 #[.agg #[.int .i64 C.bits, .int .i64 C.rows, .int .i64 C.width, .int .i64 C.mode, .int .u64 C.seed]] w fun e w' => e = .returned (.tuple #[.pointer none, .int .i64 1]) ∧ Ext w w' := by
  go_enter Tryz.func16, Tryz.ntmps16
  go_wp2_with fail
  refine (Right_no C h _).mono ?_
  rintro e w1 ⟨rfl, hb⟩
  go_wp2
  go_ret2
  refine ⟨rfl, ?_⟩
  (repeat' (first | exact Ext.refl _ | assumption | apply Ext.allocR | apply Ext.drewR | apply Ext.drewNR | (refine Ext.trans' ?_ (by assumption))))
end Go.Proofs.YteoblkcbemeamaaGreat

/- Plain law: small updates made to a stack of noughts are never refused. -/
namespace Go.Proofs.YteoblkcbemeamaaGreat
set_option linter.unusedVariables false
open Go.RowKit

theorem zs_bnd (n : Nat) : Bnd 0 (zs n) := by
  intro x hx
  simp only [zs, List.mem_replicate] at hx
  omega
theorem lvE_ok {C : Cfg} {lv : Int} {l : List Int} {key d B T : Int} (h : Bnd B l) (hB : 0 ≤ B) (hT : 0 ≤ T) (hd : -T ≤ d ∧ d ≤ T) (hs : B + T ≤ 4611686018427387904) (hk : key < keys C lv) (hm : C.mode = 2 → 0 ≤ d) : lvE C lv l key d = 0 := by
  cases hx : isX C lv with
  | false => rw [lvE_s hx]; exact upd_ok h hB hT hd hs hk hm
  | true =>
    rw [lvE_x hx, errX_sum hk (fun hh => by have := hm hh.1; omega)]
    have h2 := h.getD hB key.toNat
    rw [fitB_yes (by unfold I64; omega)]
    rfl
theorem lvU_bnd {C : Cfg} {lv : Int} {l : List Int} {key d B T : Int} (h : Bnd B l) (hB : 0 ≤ B) (hT : 0 ≤ T) (hd : -T ≤ d ∧ d ≤ T) : Bnd (B + T) (lvU C lv l key d) := by
  cases hx : isX C lv with
  | false => rw [lvU_s hx]; exact upd_bnd h hB hT hd
  | true =>
    rw [lvU_x hx]
    intro x hx
    unfold updX at hx
    rcases List.mem_or_eq_of_mem_set hx with h1 | rfl
    · have := h x h1; omega
    · have h2 := h.getD hB key.toNat; omega
theorem updK_bnd {C : Cfg} {ls : Nat → List Int} {key d B' T : Int} {n : Nat} (h : Bnd B' (ls n)) (hB : 0 ≤ B') (hT : 0 ≤ T) (hd : -T ≤ d ∧ d ≤ T) : Bnd (B' + T) (updK C ls key d n) := lvU_bnd h hB hT hd
theorem errK_ok {C : Cfg} (hok : C.Ok) {B : Nat} (hBb : C.bits = B) {ls : Nat → List Int} {key d B' T : Int} (h : ∀ n, n ≤ B → Bnd B' (ls n)) (hB : 0 ≤ B') (hT : 0 ≤ T) (hd : -T ≤ d ∧ d ≤ T) (hs : B' + T ≤ 4611686018427387904) (hk0 : 0 ≤ key) (hk : key < keys C 0) (hm : C.mode = 2 → 0 ≤ d) : errK C B ls key d = 0 :=
  errK_zero.2 ⟨hk, fun n hn => lvE_ok (h n hn) hB hT hd hs (sh_lt hok (by omega) hk0 hk) hm⟩
theorem feedK_bnd (C : Cfg) (us : List (Int × Int)) (n : Nat) : Bnd (us.length * 1099511627776) (feedK C us n) := by
  refine snoc_ind (P := fun us => Bnd (us.length * 1099511627776) (feedK C us n)) ?_ ?_ us
  · exact zs_bnd _
  · intro us u ih
    rw [feedK_snoc]
    have := updK_bnd (C := C) (ls := feedK C us) (key := cutK C 0 u.1) (d := cutD C.mode u.2) (n := n) ih (by omega) (show (0 : Int) ≤ 1099511627776 by decide) (by have := cutD_bd C.mode u.2; omega)
    have e : ((us ++ [u]).length : Int) * 1099511627776 = us.length * 1099511627776 + 1099511627776 := by
      rw [List.length_append, List.length_singleton]; push_cast; omega
    rw [e]
    exact this
theorem feedK_ok (C : Cfg) (hok : C.Ok) {B : Nat} (hBb : C.bits = B) (us : List (Int × Int)) (hl : us.length ≤ 1000) (u : Int × Int) : errK C B (feedK C us) (cutK C 0 u.1) (cutD C.mode u.2) = 0 := by
  have hk := cutK_bd C hok 0 u.1 (Int.le_refl 0)
  refine errK_ok hok hBb (fun n _ => feedK_bnd C us n) (by omega) (show (0 : Int) ≤ 1099511627776 by decide) (by have := cutD_bd C.mode u.2; omega) (by omega) hk.1 hk.2 (fun h => cutD_nn h)
end Go.Proofs.YteoblkcbemeamaaGreat

/- gaugerlaw15.shown: what the law shows of one small stack. -/
namespace Go.Proofs.YteoblkcbemeamaaGreat
set_option linter.unusedVariables false
open Go.RowKit

def K0 : Cfg := ⟨2, 2, 2, 1, 0⟩
theorem K0_ok : K0.Ok := by constructor <;> simp [K0, U64]
theorem K0_x1 : isX K0 1 = true := by decide
theorem K0_x2 : isX K0 2 = true := by decide
theorem K0_x0 : isX K0 0 = false := by decide
def K0a : Nat → List Int := updK K0 (fun n => zs (lvN K0 n)) 3 5
def K0b : Nat → List Int := updK K0 K0a 0 (-2)
theorem K0_e1 : errK K0 2 (fun n => zs (lvN K0 n)) 3 5 = 0 := errK_ok K0_ok rfl (B' := 0) (T := 5) (fun n _ => zs_bnd _) (by decide) (by decide) (by decide) (by decide) (by decide) (by decide) (by decide)
theorem K0_e2 : errK K0 2 K0a 0 (-2) = 0 := errK_ok K0_ok rfl (B' := 5) (T := 5) (fun n hn => updK_bnd (B' := 0) (T := 5) (zs_bnd _) (by decide) (by decide) (by decide)) (by decide) (by decide) (by decide) (by decide) (by decide) (by decide) (by decide)
theorem K0_e3 : errK K0 2 K0b 4 1 = 2 := by unfold errK; rfl
theorem K0_l1 : K0b 1 = [-2, 5] := by
  unfold K0b K0a updK
  rw [show ((1 : Nat) : Int) = 1 from rfl, lvU_x K0_x1, lvU_x K0_x1]
  rfl
theorem K0_l2 : K0b 2 = [3] := by
  unfold K0b K0a updK
  rw [show ((2 : Nat) : Int) = 2 from rfl, lvU_x K0_x2, lvU_x K0_x2]
  rfl
theorem K0_l0 : (K0b 0).length = 4 := by
  unfold K0b K0a updK
  rw [lvU_len, lvU_len]
  rfl
def KFresh (N B : Nat) (L : Nat → Lev) : Prop := ∀ n, n ≤ B → N ≤ (L n).s ∧ N ≤ (L n).b ∧ N ≤ (L n).c
theorem KFresh.ext {w a b : World} {B : Nat} {L : Nat → Lev} (h : KFresh w.heap.size B L) (hE : Ext w a) (hM : Mod (cellsOf B L) a b) : Ext w b :=
  Below.trans hE (hM.below (B := w.heap.size) hE.size (fun k hk => by obtain ⟨n, hn, rfl⟩ := hk; exact (h n hn).2.2))
theorem ints2 (w : World) (a b : Int) (t : TypeId) : IntsAt (w.alloc (.cells #[.int .i64 a, .int .i64 b] t)) (.slice (some ⟨w.heap.size, 0, none⟩) 2 2) [a, b] := by
  have h0 := (cell_of (heap_at w (.cells #[.int .i64 a, .int .i64 b] t) rfl) 0).trans rfl
  have h1 := (cell_of (heap_at w (.cells #[.int .i64 a, .int .i64 b] t) rfl) 1).trans rfl
  refine .inr ⟨w.heap.size, 0, 2, rfl, by rw [size_alloc]; omega, fun k hk => ?_⟩
  match k, hk with
  | 0, _ => exact h0
  | 1, _ => exact h1
set_option maxRecDepth 20000 in
set_option maxHeartbeats 4000000 in
theorem shownK_c (w : World) : Calls Tryz.prog 14 #[] w fun e w' => e = .returned (.bool true) ∧ Ext w w' := by
  go_enter Tryz.func14, Tryz.ntmps14
  go_wp2_with fail
  refine (KNew_c K0 K0_ok _).mono ?_
  rintro e w1 ⟨s, g, L, rfl, hK, hs, hg, hL, hx1⟩
  have hE1 : Ext w w1 := by (repeat' (first | exact Ext.refl _ | assumption | apply Ext.allocR | apply Ext.drewR | apply Ext.drewNR | (refine Ext.trans' ?_ (by assumption))))
  have hF : KFresh w.heap.size 2 L := hL
  replace hK : KAt w1 s g K0 2 L (fun n => zs (lvN K0 n)) := hK
  clear hx1 hL hg hs
  go_wp2_with fail
  refine (KNew_no ⟨0, 0, 0, 0, 0⟩ rfl _).mono ?_
  rintro e w2 ⟨rfl, hx2⟩
  have hE2 : Ext w w2 := by (repeat' (first | exact Ext.refl _ | assumption | apply Ext.allocR | apply Ext.drewR | apply Ext.drewNR | (refine Ext.trans' ?_ (by assumption))))
  have hK2 := hK.ext (w' := w2) (by (repeat' (first | exact Ext.refl _ | assumption | apply Ext.allocR | apply Ext.drewR | apply Ext.drewNR | (refine Ext.trans' ?_ (by assumption)))))
  clear hK hx2 hE1
  go_wp2_with fail
  refine Calls.mono (KUpdate_c s g K0 2 L _ 3 5 _ (hK2.ext ?hx) (by unfold I64; omega) (by unfold U64; omega)) ?_
  case hx => (repeat' (first | exact Ext.refl _ | assumption | apply Ext.allocR | apply Ext.drewR | apply Ext.drewNR | (refine Ext.trans' ?_ (by assumption))))
  rintro e w3 ⟨rfl, hK3, hM3⟩
  have hE3 : Ext w w3 := hF.ext (by (repeat' (first | exact Ext.refl _ | assumption | apply Ext.allocR | apply Ext.drewR | apply Ext.drewNR | (refine Ext.trans' ?_ (by assumption))))) hM3
  rw [K0_e1] at hK3 ⊢
  replace hK3 : KAt w3 s g K0 2 L K0a := hK3
  clear hM3 hE2 hK2
  go_wp2_with fail
  refine Calls.mono (KUpdate_c s g K0 2 L _ 0 (-2) _ (hK3.ext ?hx) (by unfold I64; omega) (by unfold U64; omega)) ?_
  case hx => (repeat' (first | exact Ext.refl _ | assumption | apply Ext.allocR | apply Ext.drewR | apply Ext.drewNR | (refine Ext.trans' ?_ (by assumption))))
  rintro e w4 ⟨rfl, hK4, hM4⟩
  have hE4 : Ext w w4 := hF.ext (by (repeat' (first | exact Ext.refl _ | assumption | apply Ext.allocR | apply Ext.drewR | apply Ext.drewNR | (refine Ext.trans' ?_ (by assumption))))) hM4
  rw [K0_e2] at hK4 ⊢
  replace hK4 : KAt w4 s g K0 2 L K0b := hK4
  clear hM4 hE3 hK3
  go_wp2_with fail
  refine Calls.mono (KUpdate_c s g K0 2 L _ 4 1 _ (hK4.ext ?hx) (by unfold I64; omega) (by unfold U64; omega)) ?_
  case hx => (repeat' (first | exact Ext.refl _ | assumption | apply Ext.allocR | apply Ext.drewR | apply Ext.drewNR | (refine Ext.trans' ?_ (by assumption))))
  rintro e w5 ⟨rfl, hK5, hM5⟩
  have hE5 : Ext w w5 := hF.ext (by (repeat' (first | exact Ext.refl _ | assumption | apply Ext.allocR | apply Ext.drewR | apply Ext.drewNR | (refine Ext.trans' ?_ (by assumption))))) hM5
  rw [K0_e3] at hK5 ⊢
  replace hK5 : KAt w5 s g K0 2 L K0b := hK5
  clear hM5 hE4 hK4
  go_wp2_with fail
  refine Calls.mono (KPoint_c s g K0 2 L _ _ (hK5.ext ?hx) 1 (by decide) 1 (by decide) (by decide)) ?_
  case hx => (repeat' (first | exact Ext.refl _ | assumption | apply Ext.allocR | apply Ext.drewR | apply Ext.drewNR | (refine Ext.trans' ?_ (by assumption))))
  rintro e w6 ⟨x, rfl, hp, hx6⟩
  obtain rfl : x = 5 := by
    rcases hp with ⟨_, h⟩ | ⟨h, _⟩
    · rw [K0_l1] at h; exact h
    · exact absurd h (by rw [show ((1 : Nat) : Int) = 1 from rfl, K0_x1]; decide)
  have hE6 : Ext w w6 := by (repeat' (first | exact Ext.refl _ | assumption | apply Ext.allocR | apply Ext.drewR | apply Ext.drewNR | (refine Ext.trans' ?_ (by assumption))))
  have hK6 := hK5.ext (w' := w6) (by (repeat' (first | exact Ext.refl _ | assumption | apply Ext.allocR | apply Ext.drewR | apply Ext.drewNR | (refine Ext.trans' ?_ (by assumption)))))
  clear hK5 hx6 hE5 hp
  go_wp2_with fail
  refine Calls.mono (KPoint_lv s g K0 2 L _ _ (hK6.ext ?hx) 3 (.inr (by decide)) 0) ?_
  case hx => (repeat' (first | exact Ext.refl _ | assumption | apply Ext.allocR | apply Ext.drewR | apply Ext.drewNR | (refine Ext.trans' ?_ (by assumption))))
  rintro e w7 ⟨rfl, hx7⟩
  have hE7 : Ext w w7 := by (repeat' (first | exact Ext.refl _ | assumption | apply Ext.allocR | apply Ext.drewR | apply Ext.drewNR | (refine Ext.trans' ?_ (by assumption))))
  have hK7 := hK6.ext (w' := w7) (by (repeat' (first | exact Ext.refl _ | assumption | apply Ext.allocR | apply Ext.drewR | apply Ext.drewNR | (refine Ext.trans' ?_ (by assumption)))))
  clear hK6 hx7 hE6
  go_wp2_with fail
  refine Calls.mono (KAt_c s g K0 2 L _ _ (hK7.ext ?hx) 1 (by decide)) ?_
  case hx => (repeat' (first | exact Ext.refl _ | assumption | apply Ext.allocR | apply Ext.drewR | apply Ext.drewNR | (refine Ext.trans' ?_ (by assumption))))
  rintro e w8 ⟨M, rfl, _, _, _, _, hx8⟩
  have hE8 : Ext w w8 := by (repeat' (first | exact Ext.refl _ | assumption | apply Ext.allocR | apply Ext.drewR | apply Ext.drewNR | (refine Ext.trans' ?_ (by assumption))))
  have hK8 := hK7.ext (w' := w8) (by (repeat' (first | exact Ext.refl _ | assumption | apply Ext.allocR | apply Ext.drewR | apply Ext.drewNR | (refine Ext.trans' ?_ (by assumption)))))
  clear hK7 hx8 hE7
  rw [show lvV K0 (1 : Nat) M = .iface 174 (.pointer (some ⟨M.s, 0, none⟩)) from lvV_x K0_x1 M]
  go_wp2_with fail
  refine Calls.mono (KTotal_c s g K0 2 L _ _ (hK8.ext ?hx)) ?_
  case hx => (repeat' (first | exact Ext.refl _ | assumption | apply Ext.allocR | apply Ext.drewR | apply Ext.drewNR | (refine Ext.trans' ?_ (by assumption))))
  rintro e w9 ⟨rfl, hx9⟩
  have hE9 : Ext w w9 := by (repeat' (first | exact Ext.refl _ | assumption | apply Ext.allocR | apply Ext.drewR | apply Ext.drewNR | (refine Ext.trans' ?_ (by assumption))))
  have hK9 := hK8.ext (w' := w9) (by (repeat' (first | exact Ext.refl _ | assumption | apply Ext.allocR | apply Ext.drewR | apply Ext.drewNR | (refine Ext.trans' ?_ (by assumption)))))
  clear hK8 hx9 hE8
  rw [K0_l2]
  go_wp2_with fail
  refine Calls.mono (KCells_c s g K0 2 L _ _ (hK9.ext ?hx) 0 (by decide)) ?_
  case hx => (repeat' (first | exact Ext.refl _ | assumption | apply Ext.allocR | apply Ext.drewR | apply Ext.drewNR | (refine Ext.trans' ?_ (by assumption))))
  rintro e w10 ⟨v, rfl, ho, hne, hx10⟩
  have hE10 : Ext w w10 := by (repeat' (first | exact Ext.refl _ | assumption | apply Ext.allocR | apply Ext.drewR | apply Ext.drewNR | (refine Ext.trans' ?_ (by assumption))))
  have hK10 := hK9.ext (w' := w10) (by (repeat' (first | exact Ext.refl _ | assumption | apply Ext.allocR | apply Ext.drewR | apply Ext.drewNR | (refine Ext.trans' ?_ (by assumption)))))
  obtain ⟨p0, q0, rfl⟩ := own_len ho
  rw [K0_l0]
  clear hK9 hx10 hE9 ho hne
  go_wp2_with fail
  refine Calls.mono (KCells_c s g K0 2 L _ _ (hK10.ext ?hx) 1 (by decide)) ?_
  case hx => (repeat' (first | exact Ext.refl _ | assumption | apply Ext.allocR | apply Ext.drewR | apply Ext.drewNR | (refine Ext.trans' ?_ (by assumption))))
  rintro e w11 ⟨v, rfl, ho, hne, hx11⟩
  have hE11 : Ext w w11 := by (repeat' (first | exact Ext.refl _ | assumption | apply Ext.allocR | apply Ext.drewR | apply Ext.drewNR | (refine Ext.trans' ?_ (by assumption))))
  have hv := IntsAt.of_row ho
  rw [K0_l1] at hv
  clear hK10 hx11 hE10 ho hne
  go_wp2_with fail
  refine Calls.mono (Same_c _ _ _ _ _ (hv.ext (Ext.alloc' _ _)) (ints2 w11 (-2) 5 _) (by decide) (by decide)) ?_
  rintro e w12 ⟨rfl, hx12⟩
  go_wp2
  go_ret
  exact ⟨rfl, by (repeat' (first | exact Ext.refl _ | assumption | apply Ext.allocR | apply Ext.drewR | apply Ext.drewNR | (refine Ext.trans' ?_ (by assumption))))⟩
end Go.Proofs.YteoblkcbemeamaaGreat

/- Stacks that lie apart. -/
namespace Go.Proofs.YteoblkcbemeamaaGreat
set_option linter.unusedVariables false
open Go.RowKit
/-- All cells of a stack lie between two bounds. -/
def KIn (N M B : Nat) (L : Nat → Lev) : Prop := ∀ n, n ≤ B → N ≤ (L n).c ∧ (L n).c < M
theorem KAt.kin {w : World} {s g : Nat} {C : Cfg} {B : Nat} {L : Nat → Lev} {ls : Nat → List Int} (h : KAt w s g C B L ls) {N : Nat} (hF : KFresh N B L) : KIn N w.heap.size B L := fun n hn => ⟨(hF n hn).2.2, (h.lev n hn).ltc⟩
theorem KIn.cells {N M B : Nat} {L : Nat → Lev} (h : KIn N M B L) {k : Nat} (hk : cellsOf B L k) : N ≤ k ∧ k < M := by obtain ⟨n, hn, rfl⟩ := hk; exact h n hn
/-- What is done to the cells of one leaves another. -/
theorem KAt.part {w w' : World} {s g s2 g2 : Nat} {C C2 : Cfg} {B B2 : Nat} {L L2 : Nat → Lev} {ls ls2 : Nat → List Int} {N M N2 M2 : Nat} (h : KAt w s g C B L ls) (h2 : KAt w s2 g2 C2 B2 L2 ls2) (hm : Mod (cellsOf B2 L2) w w')
    (i1 : KIn N M B L) (i2 : KIn N2 M2 B2 L2) (hs : M ≤ N2 ∨ M2 ≤ N) : KAt w' s g C B L ls :=
  h.mod hm (fun i hi _ => h2.isc hi) (fun n hn hc => by have a := i1 n hn; have b := i2.cells hc; omega)
/-- A block that is no cell of a stack. -/
theorem KAt.blk {w w' : World} {s g : Nat} {C : Cfg} {B : Nat} {L : Nat → Lev} {ls : Nat → List Int} (h : KAt w s g C B L ls) (hm : Mod (cellsOf B L) w w') {b : Nat} {cur : Array Value} {t : TypeId} (hb : w.heap[b]? = some (.cells cur t (0, 0))) (ht : t ≠ 2) :
    w'.heap[b]? = some (.cells cur t (0, 0)) :=
  hm.keep hb (fun hc => by obtain ⟨c2, h2⟩ := h.isc hc; exact blk_ne hb h2 ht rfl)
theorem KAt.extm {w0 w w' : World} {s g : Nat} {C : Cfg} {B : Nat} {L : Nat → Lev} {ls : Nat → List Int} {N M : Nat} (hE : Ext w0 w) (hm : Mod (cellsOf B L) w w') (i : KIn N M B L) (hN : w0.heap.size ≤ N) : Ext w0 w' :=
  Below.trans hE (hm.below hE.size (fun k hk => Nat.le_trans hN (i.cells hk).1))
end Go.Proofs.YteoblkcbemeamaaGreat

/- gaugerref15.Cut: an update of a key that there is. -/
namespace Go.Proofs.YteoblkcbemeamaaGreat
set_option linter.unusedVariables false
open Go.RowKit

set_option maxRecDepth 20000 in
set_option maxHeartbeats 2000000 in
theorem Cut15_c (c : Cfg) (hok : c.Ok) (key d : Int) (hk : U64 key) (hd : I64 d) (w : World) :
    Calls Tryz.prog 63 #[.agg #[.int .i64 c.bits, .int .i64 c.rows, .int .i64 c.width, .int .i64 c.mode, .int .u64 c.seed], .agg #[.int .u64 key, .int .i64 d]] w fun e w' => e = .returned (.agg #[.int .u64 (cutK c 0 key), .int .i64 (cutD c.mode d)]) ∧ Ext w w' := by
  obtain ⟨t1, t2⟩ := tmod_bd d
  obtain ⟨k1, k2⟩ := hk
  obtain ⟨kb1, kb2⟩ := keys_bd c hok 0 (Int.le_refl 0)
  obtain ⟨d1, d2⟩ := hd
  have kz : (keys c 0 == 0) = false := by simp; omega
  have kz2 : (keys c 0 = 0) = False := by simp; omega
  have hcd : cutD c.mode d = bif decide (c.mode = 2) then max (d.tmod 1099511627776) (-(d.tmod 1099511627776)) else d.tmod 1099511627776 := rfl
  have HCD := Lib.hid hcd
  have hck : cutK c 0 key = key % keys c 0 := rfl
  have HCK := Lib.hid hck
  clear hcd hck
  by_cases hm : c.mode = 2
  · have hmb : (c.mode == 2) = true := by simp [hm]
    have HM := Lib.hid hm
    clear hm
    by_cases hs0 : d.tmod 1099511627776 < 0
    · have hv : cutD c.mode d = -(d.tmod 1099511627776) := by rw [HCD.out, decide_eq_true HM.out]; show max _ _ = _; omega
      have HV := Lib.hid hv
      clear hv
      go_enter Tryz.func63, Tryz.ntmps63
      go_wp2
      refine wp_region_after_tail 7 (by kernel_rfl) (by kernel_rfl) ?_
      simp only [List.take_succ_cons, List.take_zero, List.drop_succ_cons, List.drop_zero]
      repeat (go_big_quiet_step ((go_at_call 87; exact quiet_after (KeysR_c c hok 0 (Int.le_refl 0) (by have := hok.b1; omega) _))))
      refine wpQuiet_nil ?_
      rintro _ ⟨xx, rfl⟩
      obtain ⟨w1, hb1⟩ := xx
      try dsimp only
      have hs := hb1.size
      simp only [size_alloc] at hs
      have hcell : w1.heap[w.heap.size + 1 + 1]? = some (.cells #[.int .u64 0, .int .i64 0] 60 (0, 0)) := by
        rw [hb1.block _ (by simp only [size_alloc]; omega)]
        exact heap_at _ _ (by simp only [size_alloc])
      have p0 := (cell_of hcell 0).trans rfl
      have p1 := (cell_of hcell 1).trans rfl
      have f0 := frozen_of hcell 0
      have f1 := frozen_of hcell 1
      have hE : Ext w w1 := by (repeat' (first | exact Ext.refl _ | assumption | apply Ext.allocR | apply Ext.drewR | apply Ext.drewNR | (refine Ext.trans' ?_ (by assumption))))
      clear hb1
      go_wp2
      have r0 := set2_0 hcell (.int .u64 (key % keys c 0))
      have r1 := set2_1 hcell (.int .u64 (key % keys c 0)) (.int .i64 (-(d.tmod 1099511627776)))
      refine bodyPost_ret (v := .agg #[.int .u64 (key % keys c 0), .int .i64 (-(d.tmod 1099511627776))]) (by simp [results, Tryz.results63, go_sem, r0, r1]) rfl ⟨by rw [HV.out, HCK.out], ?_⟩
      exact (hE.setR (by show w.heap.size ≤ w.heap.size + 1 + 1; omega) _).setR (by show w.heap.size ≤ w.heap.size + 1 + 1; omega) _
    · have hv : cutD c.mode d = d.tmod 1099511627776 := by rw [HCD.out, decide_eq_true HM.out]; show max _ _ = _; omega
      have HV := Lib.hid hv
      clear hv
      go_enter Tryz.func63, Tryz.ntmps63
      go_wp2
      refine wp_region_after_tail 7 (by kernel_rfl) (by kernel_rfl) ?_
      simp only [List.take_succ_cons, List.take_zero, List.drop_succ_cons, List.drop_zero]
      repeat (go_big_quiet_step ((go_at_call 87; exact quiet_after (KeysR_c c hok 0 (Int.le_refl 0) (by have := hok.b1; omega) _))))
      refine wpQuiet_nil ?_
      rintro _ ⟨xx, rfl⟩
      obtain ⟨w1, hb1⟩ := xx
      try dsimp only
      have hs := hb1.size
      simp only [size_alloc] at hs
      have hcell : w1.heap[w.heap.size + 1 + 1]? = some (.cells #[.int .u64 0, .int .i64 0] 60 (0, 0)) := by
        rw [hb1.block _ (by simp only [size_alloc]; omega)]
        exact heap_at _ _ (by simp only [size_alloc])
      have p0 := (cell_of hcell 0).trans rfl
      have p1 := (cell_of hcell 1).trans rfl
      have f0 := frozen_of hcell 0
      have f1 := frozen_of hcell 1
      have hE : Ext w w1 := by (repeat' (first | exact Ext.refl _ | assumption | apply Ext.allocR | apply Ext.drewR | apply Ext.drewNR | (refine Ext.trans' ?_ (by assumption))))
      clear hb1
      go_wp2
      have r0 := set2_0 hcell (.int .u64 (key % keys c 0))
      have r1 := set2_1 hcell (.int .u64 (key % keys c 0)) (.int .i64 (d.tmod 1099511627776))
      refine bodyPost_ret (v := .agg #[.int .u64 (key % keys c 0), .int .i64 (d.tmod 1099511627776)]) (by simp [results, Tryz.results63, go_sem, r0, r1]) rfl ⟨by rw [HV.out, HCK.out], ?_⟩
      exact (hE.setR (by show w.heap.size ≤ w.heap.size + 1 + 1; omega) _).setR (by show w.heap.size ≤ w.heap.size + 1 + 1; omega) _
  · have hmb : (c.mode == 2) = false := by simp [hm]
    have hv : cutD c.mode d = d.tmod 1099511627776 := by rw [HCD.out, decide_eq_false hm]; rfl
    have HV := Lib.hid hv
    clear hv hm
    go_enter Tryz.func63, Tryz.ntmps63
    go_wp2
    refine wp_region_after_tail 7 (by kernel_rfl) (by kernel_rfl) ?_
    simp only [List.take_succ_cons, List.take_zero, List.drop_succ_cons, List.drop_zero]
    repeat (go_big_quiet_step ((go_at_call 87; exact quiet_after (KeysR_c c hok 0 (Int.le_refl 0) (by have := hok.b1; omega) _))))
    refine wpQuiet_nil ?_
    rintro _ ⟨xx, rfl⟩
    obtain ⟨w1, hb1⟩ := xx
    try dsimp only
    have hs := hb1.size
    simp only [size_alloc] at hs
    have hcell : w1.heap[w.heap.size + 1 + 1]? = some (.cells #[.int .u64 0, .int .i64 0] 60 (0, 0)) := by
      rw [hb1.block _ (by simp only [size_alloc]; omega)]
      exact heap_at _ _ (by simp only [size_alloc])
    have p0 := (cell_of hcell 0).trans rfl
    have p1 := (cell_of hcell 1).trans rfl
    have f0 := frozen_of hcell 0
    have f1 := frozen_of hcell 1
    have hE : Ext w w1 := by (repeat' (first | exact Ext.refl _ | assumption | apply Ext.allocR | apply Ext.drewR | apply Ext.drewNR | (refine Ext.trans' ?_ (by assumption))))
    clear hb1
    go_wp2
    have r0 := set2_0 hcell (.int .u64 (key % keys c 0))
    have r1 := set2_1 hcell (.int .u64 (key % keys c 0)) (.int .i64 (d.tmod 1099511627776))
    refine bodyPost_ret (v := .agg #[.int .u64 (key % keys c 0), .int .i64 (d.tmod 1099511627776)]) (by simp [results, Tryz.results63, go_sem, r0, r1]) rfl ⟨by rw [HV.out, HCK.out], ?_⟩
    exact (hE.setR (by show w.heap.size ≤ w.heap.size + 1 + 1; omega) _).setR (by show w.heap.size ≤ w.heap.size + 1 + 1; omega) _
end Go.Proofs.YteoblkcbemeamaaGreat

/- gaugerref15.Has, walked: what the keys of a piece have of updates. -/
namespace Go.Proofs.YteoblkcbemeamaaGreat
set_option linter.unusedVariables false
open Go.RowKit

/-- What the keys of a piece have of sixty updates. -/
def hasK (C : Cfg) (us : List (Int × Int)) (k n : Nat) (j : Int) : Int := hasP j (stP C n (fus us 0 k))
theorem stP_len (C : Cfg) (n : Nat) (us : List (Int × Int)) : (stP C n us).length = us.length := by simp [stP]
theorem stP_bnd (C : Cfg) (n : Nat) (us : List (Int × Int)) : ∀ u ∈ stP C n us, -1099511627776 ≤ u.2 ∧ u.2 ≤ 1099511627776 := by
  intro u hu
  simp only [stP, List.mem_map] at hu
  obtain ⟨p, _, rfl⟩ := hu
  have := cutD_bd C.mode p.2
  show _ ≤ cutD C.mode p.2 ∧ _
  omega
theorem hasK_bd (C : Cfg) (us : List (Int × Int)) {k : Nat} (hk : k ≤ 60) (n : Nat) (j : Int) : -65970697666560 ≤ hasK C us k n j ∧ hasK C us k n j ≤ 65970697666560 := by
  have := sumIf_bnd (fun x => x == j) 1099511627776 (by decide) (stP C n (fus us 0 k)) (stP_bnd C n _)
  have hl := fus_len us 0 k
  rw [stP_len] at this
  unfold hasK hasP
  omega
theorem hasK_zero (C : Cfg) (us : List (Int × Int)) (n : Nat) (j : Int) : hasK C us 0 n j = 0 := by unfold hasK; rw [fus_self]; rfl
theorem hasK_succ (C : Cfg) (us : List (Int × Int)) {k : Nat} (hk : k < us.length) (n : Nat) (j : Int) :
    hasK C us (k + 1) n j = hasK C us k n j + (bif sh n (cutK C 0 us[k].1) == j then cutD C.mode us[k].2 else 0) := by
  have hget : us.getD k (0, 0) = us[k] := by simp [hk]
  unfold hasK
  rw [fus_snoc us (Nat.zero_le k) hk, stP_snoc, hget]
  exact sumIf_snoc _ _ _
end Go.Proofs.YteoblkcbemeamaaGreat

/- Small things for the statements about stacks: gaugerref07.Exact, what an exact level has. -/
namespace Go.Proofs.YteoblkcbemeamaaGreat
set_option linter.unusedVariables false
open Go.RowKit
set_option maxRecDepth 20000 in
set_option maxHeartbeats 2000000 in
theorem ExactR_c (C : Cfg) (h : C.Ok) (lv : Int) (h0 : 0 ≤ lv) (h1 : lv ≤ C.bits) (w : World) :
    Calls Tryz.prog 107 #[.agg #[.int .i64 C.bits, .int .i64 C.rows, .int .i64 C.width, .int .i64 C.mode, .int .u64 C.seed], .int .i64 lv] w fun e w' => e = .returned (.bool (isX C lv)) ∧ Ext w w' := by
  have hk := keys_bd C h lv h0
  have w1' := h.w1
  have w2' := h.w2
  have hI : isX C lv = decide (keys C lv ≤ C.width) := rfl
  go_enter Tryz.func107, Tryz.ntmps107
  go_wp2_with fail
  refine (KeysR_c C h lv h0 h1 _).mono ?_
  rintro e w1 ⟨rfl, hb⟩
  have hE : Ext w w1 := by (repeat' (first | exact Ext.refl _ | assumption | apply Ext.allocR | apply Ext.drewR | apply Ext.drewNR | (refine Ext.trans' ?_ (by assumption))))
  have hC := (CfgAt.box (w := w) C 24 rfl).ext hb
  have c2 := hC.c2
  have cl := hC.lt
  have HI := Lib.hid hI
  generalize keys C lv = N at *
  clear hb hI hC
  by_cases hx : N ≤ C.width
  · go_wp2
    go_ret
    exact ⟨by rw [HI.out, decide_eq_true hx]; rfl, hE⟩
  · go_wp2
    go_ret
    exact ⟨by rw [HI.out, decide_eq_false (by omega)]; rfl, hE⟩
/-- What a stack that was fed has in all. -/
theorem feed_total {C : Cfg} (hok : C.Ok) {B : Nat} (hB : C.bits = B) {us : List (Int × Int)} (hus : UpsOk us) : (feedK C (fus us 0 60) B).getD 0 0 = hasK C us 60 B 0 :=
  feedK_x hok (by omega) (fun u hu => hus u (List.mem_of_mem_take (List.mem_of_mem_drop hu))) (isX_top hok hB) 0
theorem fus_ok {us : List (Int × Int)} (hus : UpsOk us) (i j : Nat) : UpsOk (fus us i j) := fun u hu => hus u (List.mem_of_mem_take (List.mem_of_mem_drop hu))
theorem pt_x {C : Cfg} (hok : C.Ok) {n : Nat} (hn : (n : Int) ≤ C.bits) {us : List (Int × Int)} (hus : UpsOk us) (hx : isX C n = true) {j z : Int} (hj : 0 ≤ j) (h : lvPt C n (feedK C (fus us 0 60) n) j z) : z = hasK C us 60 n j := by
  rcases h with ⟨_, h⟩ | ⟨h, _⟩
  · rw [h, feedK_x hok hn (fus_ok hus 0 60) hx]
    unfold hasK
    rw [show ((j.toNat : Nat) : Int) = j by omega]
  · rw [hx] at h; cases h
end Go.Proofs.YteoblkcbemeamaaGreat

/- Plain law: where no key has less than 0, no prefix is told less than it has. -/
namespace Go.Proofs.YteoblkcbemeamaaGreat
set_option linter.unusedVariables false
open Go.RowKit

/-- Has no key of the first k updates less than 0? -/
def plK (C : Cfg) (us : List (Int × Int)) (k : Nat) : Bool := (us.take k).all fun u => decide (0 ≤ hasK C us 60 0 (cutK C 0 u.1))
theorem plK_zero (C : Cfg) (us : List (Int × Int)) : plK C us 0 = true := rfl
theorem plK_succ (C : Cfg) (us : List (Int × Int)) {k : Nat} (hk : k < us.length) : plK C us (k + 1) = (plK C us k && decide (0 ≤ hasK C us 60 0 (cutK C 0 us[k].1))) := by
  unfold plK
  rw [List.take_succ_eq_append_getElem hk, List.all_append]
  simp
theorem plK_end (C : Cfg) (us : List (Int × Int)) {k : Nat} (h60 : k ≤ 60) (hk : k ≤ us.length) (he : ¬ (k < us.length ∧ k < 60)) : plK C us k = plK C us 60 := by
  unfold plK
  by_cases h : k = 60
  · rw [h]
  · have : k = us.length := by omega
    rw [this, List.take_length, List.take_of_length_le (by omega)]
theorem sh_zero (key : Int) : sh 0 key = key := by unfold sh; simp
/-- What a level is told is what level 0 is told, of the keys there. -/
theorem sumIf_stP (C : Cfg) (n : Nat) (p : Int → Bool) : ∀ us : List (Int × Int), sumIf p (stP C n us) = sumIf (fun k => p (sh n k)) (stP C 0 us)
  | [] => rfl
  | u :: us => by
    have ih := sumIf_stP C n p us
    show sumIf p ((sh n (cutK C 0 u.1), cutD C.mode u.2) :: stP C n us) = sumIf (fun k => p (sh n k)) ((sh 0 (cutK C 0 u.1), cutD C.mode u.2) :: stP C 0 us)
    rw [sumIf_cons, sumIf_cons, ih, sh_zero]
theorem pl_nn {C : Cfg} {us : List (Int × Int)} (h : plK C us 60 = true) (n : Nat) (p : Int → Bool) : 0 ≤ sumIf p (stP C n (fus us 0 60)) := by
  rw [sumIf_stP]
  refine sumIf_nn _ _ _ (Nat.le_refl _) fun u hu => ?_
  simp only [stP, List.mem_map] at hu
  obtain ⟨v, hv, rfl⟩ := hu
  unfold plK at h
  rw [List.all_eq_true] at h
  have := h v (by unfold fus at hv; simpa using hv)
  have h2 := of_decide_eq_true this
  rw [show ((sh 0 (cutK C 0 v.1), cutD C.mode v.2) : Int × Int).1 = cutK C 0 v.1 from sh_zero _]
  exact h2
theorem cols_lenR {C : Cfg} (hok : C.Ok) (lv key : Int) {R W : Nat} (hr : C.rows = R) (hw : C.width = W) : (cols C lv key).length = R := (cols_meets C hok lv key hr hw).len
/-- No prefix is told less than it has. -/
theorem over_law {C : Cfg} (hok : C.Ok) {n : Nat} (hn : (n : Int) ≤ C.bits) {us : List (Int × Int)} (hus : UpsOk us) (hm : C.mode ≠ 3) (hp : plK C us 60 = true) {j z : Int} (hj : 0 ≤ j)
    (h : lvPt C n (feedK C (fus us 0 60) n) j z) : hasK C us 60 n j ≤ z := by
  cases hx : isX C n with
  | true => exact Int.le_of_eq (pt_x hok hn hus hx hj h).symm
  | false =>
    rcases h with ⟨h, _⟩ | ⟨_, h⟩
    · rw [hx] at h; cases h
    rw [if_neg hm, feedK_s hok hn (fus_ok hus 0 60) hx] at h
    have hr := rN_eq hok
    have hw := wN_eq hok
    have hR : 0 < rN C := by have := hok.r1; omega
    have hs : cutP C n (shU n (fus us 0 60)) = stP C n (fus us 0 60) := stP_cutP hok hn (fus_ok hus 0 60)
    unfold hasK
    by_cases h2 : C.mode = 2
    · obtain ⟨h1, _⟩ := kth0_spec h
      unfold readL at h1
      rw [cols_lenR hok n j hr hw] at h1
      simp only [List.mem_map, List.mem_range] at h1
      obtain ⟨r, hrr, rfl⟩ := h1
      have := cons_low C hok n (rN C) (wN C) hr hw h2 (shU n (fus us 0 60)) j r hrr
      rw [hs] at this
      exact this
    · rw [read_cell C hok n (rN C) (wN C) hr hw h2, hs] at h
      have e := least_of h
      obtain ⟨r, _, hr2⟩ := leastF_mem (fun r => othP C n j r (stP C n (fus us 0 60))) (rN C) hR
      have hnn : 0 ≤ othP C n j r (stP C n (fus us 0 60)) := pl_nn hp n _
      rw [e, hr2]
      omega
end Go.Proofs.YteoblkcbemeamaaGreat

/- Plain laws of one level that was fed. -/
namespace Go.Proofs.YteoblkcbemeamaaGreat
set_option linter.unusedVariables false
open Go.RowKit
/-- A level's cells behind updates (cut). -/
def feedV (C : Cfg) (lv : Int) (us : List (Int × Int)) (l : List Int) : List Int := us.foldl (fun l u => lvU C lv l (cutK C lv u.1) (cutD C.mode u.2)) l
theorem feedV_snoc (C : Cfg) (lv : Int) (us : List (Int × Int)) (u : Int × Int) (l : List Int) : feedV C lv (us ++ [u]) l = lvU C lv (feedV C lv us l) (cutK C lv u.1) (cutD C.mode u.2) := by
  unfold feedV; rw [List.foldl_append]; rfl
theorem feedV_len (C : Cfg) (lv : Int) (us : List (Int × Int)) (l : List Int) : (feedV C lv us l).length = l.length := by
  unfold feedV
  induction us generalizing l with
  | nil => rfl
  | cons u us ih => rw [List.foldl_cons, ih, lvU_len]
theorem feedV_bnd (C : Cfg) (lv : Int) (us : List (Int × Int)) (n : Nat) : Bnd (us.length * 1099511627776) (feedV C lv us (zs n)) := by
  refine snoc_ind (P := fun us => Bnd (us.length * 1099511627776) (feedV C lv us (zs n))) ?_ ?_ us
  · exact zs_bnd _
  · intro us u ih
    rw [feedV_snoc]
    have := lvU_bnd (C := C) (lv := lv) (key := cutK C lv u.1) (d := cutD C.mode u.2) ih (by omega) (show (0 : Int) ≤ 1099511627776 by decide) (by have := cutD_bd C.mode u.2; omega)
    have e : ((us ++ [u]).length : Int) * 1099511627776 = us.length * 1099511627776 + 1099511627776 := by
      rw [List.length_append, List.length_singleton]; push_cast; omega
    rw [e]
    exact this
theorem feedV_ok (C : Cfg) (hok : C.Ok) (lv : Int) (hlv : 0 ≤ lv) (us : List (Int × Int)) (hl : us.length ≤ 1000) (u : Int × Int) (n : Nat) : lvE C lv (feedV C lv us (zs n)) (cutK C lv u.1) (cutD C.mode u.2) = 0 :=
  lvE_ok (feedV_bnd C lv us n) (by omega) (show (0 : Int) ≤ 1099511627776 by decide) (by have := cutD_bd C.mode u.2; omega) (by omega) (cutK_bd C hok lv u.1 hlv).2 (fun h => cutD_nn h)
theorem feedV_fit (C : Cfg) (lv : Int) (us : List (Int × Int)) (n : Nat) (hl : us.length ≤ 1000) : allI (feedV C lv us (zs n)) := by
  intro x hx
  have := feedV_bnd C lv us n x hx
  unfold I64
  constructor <;> omega
theorem feedV_s {C : Cfg} {lv : Int} (h : isX C lv = false) (us : List (Int × Int)) (l : List Int) : feedV C lv us l = feed C lv (rN C) (wN C) us l := by
  unfold feedV feed
  congr 1
  funext l u
  exact lvU_s h _ _ _
theorem feedV_x {C : Cfg} {lv : Int} (h : isX C lv = true) (hok : C.Ok) (hlv : 0 ≤ lv) (us : List (Int × Int)) (n : Nat) {i : Nat} (hi : i < n) : (feedV C lv us (zs n)).getD i 0 = sumIf (fun k => k == (i : Int)) (cutP C lv us) := by
  refine snoc_ind (P := fun us => (feedV C lv us (zs n)).getD i 0 = sumIf (fun k => k == (i : Int)) (cutP C lv us)) ?_ ?_ us
  · show (zs n).getD i 0 = 0
    simp [zs, hi]
  · intro us u ih
    have hk := cutK_bd C hok lv u.1 hlv
    have hl : (feedV C lv us (zs n)).length = n := by rw [feedV_len, zs_len]
    rw [feedV_snoc, cutP_snoc, sumIf_snoc, ← ih, lvU_x h]
    unfold updX
    generalize feedV C lv us (zs n) = l at *
    generalize cutK C lv u.1 = k at *
    by_cases e : k.toNat = i
    · have e2 : (k == (i : Int)) = true := by simp; omega
      simp only [e2, cond_true]
      rw [e, List.getD_eq_getElem?_getD, List.getElem?_set_self (by omega)]
      rfl
    · have e2 : (k == (i : Int)) = false := by simp; omega
      simp only [e2, cond_false]
      rw [List.getD_eq_getElem?_getD, List.getElem?_set_ne e, List.getD_eq_getElem?_getD]
      omega
/-- In the modes Linear and Median, and of exact levels in all, two levels' cells together are those of one that was fed all. -/
theorem feedV_plus (C : Cfg) (hok : C.Ok) (lv : Int) (hlv : 0 ≤ lv) (hm : isX C lv = true ∨ C.mode ≠ 2) (us vs : List (Int × Int)) : plusL (feedV C lv us (zs (lvN C lv))) (feedV C lv vs (zs (lvN C lv))) = feedV C lv (us ++ vs) (zs (lvN C lv)) := by
  cases hx : isX C lv with
  | true =>
    apply list_ext_getD
    · rw [plusL_len, feedV_len, feedV_len]
    · intro i hi
      rw [plusL_len] at hi
      rw [plusL_get hi]
      rw [feedV_len, zs_len] at hi
      rw [feedV_x hx hok hlv us _ hi, feedV_x hx hok hlv vs _ hi, feedV_x hx hok hlv (us ++ vs) _ hi, cutP_append, sumIf_append]
  | false =>
    have hm' := hm.resolve_left (by rw [hx]; decide)
    have hn : lvN C lv = rN C * wN C := by unfold lvN; rw [hx]; rfl
    rw [feedV_s hx, feedV_s hx, feedV_s hx, hn]
    exact feed_plus C hok lv (rN C) (wN C) (rN_eq hok) (wN_eq hok) hm' us vs
theorem putK_at {R W : Nat} {cs : List Int} (hm : Meets R W cs) (f : Nat → Int) {l : List Int} (hl : l.length = R * W) {r : Nat} (hr : r < R) : (putK W cs f R l).getD (at_ W cs r) 0 = f r := by
  have h0 := hm.lo r hr
  have h1 := hm.hi r hr
  have h := putK_get hm (f := f) hl hr (a := (cs.getD r 0).toNat) (by omega) R (Nat.le_refl _)
  unfold at_
  rw [h, if_pos ⟨hr, by omega⟩]
/-- An update by more than 0 changes a cell. -/
theorem lvU_ne {C : Cfg} (hok : C.Ok) {lv : Int} (h0 : 0 ≤ lv) {l : List Int} (hl : l.length = lvN C lv) {key d : Int} (hk0 : 0 ≤ key) (hk : key < keys C lv) (hd : 0 < d) : lvU C lv l key d ≠ l := by
  intro he
  cases hx : isX C lv with
  | true =>
    rw [lvU_x hx] at he
    have hn : lvN C lv = kN C lv := by unfold lvN; rw [hx]; rfl
    have hkn := kN_eq hok h0
    have h1 : (updX l key d).getD key.toNat 0 = l.getD key.toNat 0 + d := by
      unfold updX
      rw [List.getD_eq_getElem?_getD, List.getElem?_set_self (by omega)]
      rfl
    rw [he] at h1
    omega
  | false =>
    rw [lvU_s hx] at he
    have hn : lvN C lv = rN C * wN C := by unfold lvN; rw [hx]; rfl
    have hm := cols_meets C hok lv key (rN_eq hok) (wN_eq hok)
    have hR : 0 < rN C := by have := hok.r1; have := rN_eq hok; omega
    rw [hn] at hl
    by_cases hmd : C.mode = 2
    · have hne : readL (wN C) l (cols C lv key) ≠ [] := by
        intro e
        have := readL_len (wN C) l (cols C lv key)
        rw [e, hm.len] at this
        simp at this
        omega
      obtain ⟨hmem, hmin⟩ := minL_spec _ hne
      obtain ⟨r, hr, hre⟩ : ∃ r, r < rN C ∧ l.getD (at_ (wN C) (cols C lv key) r) 0 = minL (readL (wN C) l (cols C lv key)) := by
        have h2 := hmem
        unfold readL at h2
        rw [List.mem_map] at h2
        obtain ⟨r, hr, e⟩ := h2
        rw [List.mem_range, hm.len] at hr
        exact ⟨r, hr, e⟩
      have h1 := putK_at hm (fun k => max (l.getD (at_ (wN C) (cols C lv key) k) 0) (minL (readL (wN C) l (cols C lv key)) + d)) hl hr
      have e : updL C lv (rN C) (wN C) l key d = putK (wN C) (cols C lv key) (fun k => max (l.getD (at_ (wN C) (cols C lv key) k) 0) (minL (readL (wN C) l (cols C lv key)) + d)) (rN C) l := by
        unfold updL; rw [decide_eq_true hmd]; rfl
      rw [← e, he, hre] at h1
      omega
    · have h1 := putK_at hm (fun k => l.getD (at_ (wN C) (cols C lv key) k) 0 + d) hl hR
      have e : updL C lv (rN C) (wN C) l key d = putK (wN C) (cols C lv key) (fun k => l.getD (at_ (wN C) (cols C lv key) k) 0 + d) (rN C) l := by
        unfold updL; rw [decide_eq_false hmd]; rfl
      rw [← e, he] at h1
      omega
end Go.Proofs.YteoblkcbemeamaaGreat

/- Plain laws: levels of stacks that were fed, put together. -/
namespace Go.Proofs.YteoblkcbemeamaaGreat
set_option linter.unusedVariables false
open Go.RowKit
theorem feedK_V {C : Cfg} (hok : C.Ok) {n : Nat} (hn : (n : Int) ≤ C.bits) {us : List (Int × Int)} (hus : UpsOk us) : feedK C us n = feedV C n (shU n us) (zs (lvN C n)) := by
  unfold feedK feedV shU
  have : ∀ l : List Int, us.foldl (fun l u => lvU C n l (sh n (cutK C 0 u.1)) (cutD C.mode u.2)) l = (us.map fun u => (u.1 / 2 ^ n, u.2)).foldl (fun l u => lvU C n l (cutK C n u.1) (cutD C.mode u.2)) l := by
    induction us with
    | nil => intro l; rfl
    | cons u us ih =>
      intro l
      rw [List.foldl_cons, List.map_cons, List.foldl_cons, ih (fun v hv => hus v (by simp [hv])), cutK_sh hok hn (hus u (by simp)).1.1]
  exact this _
theorem feedK_plus {C : Cfg} (hok : C.Ok) {n : Nat} (hn : (n : Int) ≤ C.bits) (hm : isX C n = true ∨ C.mode ≠ 2) {us vs : List (Int × Int)} (hus : UpsOk us) (hvs : UpsOk vs) : plusL (feedK C us n) (feedK C vs n) = feedK C (us ++ vs) n := by
  rw [feedK_V hok hn hus, feedK_V hok hn hvs, feedK_V hok hn (us := us ++ vs) (fun u hu => by rcases List.mem_append.1 hu with h | h; exact hus u h; exact hvs u h), feedV_plus C hok n (Int.natCast_nonneg n) hm]
  unfold shU
  rw [List.map_append]
theorem plusL_comm {a b : List Int} (h : a.length = b.length) : plusL a b = plusL b a := by
  apply list_ext_getD
  · rw [plusL_len, plusL_len, h]
  · intro i hi
    rw [plusL_len] at hi
    rw [plusL_get hi, plusL_get (by omega)]; omega
theorem plusL_assoc {a b c : List Int} (h : a.length = b.length) : plusL (plusL a b) c = plusL a (plusL b c) := by
  apply list_ext_getD
  · rw [plusL_len, plusL_len, plusL_len]
  · intro i hi
    rw [plusL_len, plusL_len] at hi
    rw [plusL_get (by rw [plusL_len]; exact hi), plusL_get hi, plusL_get hi, plusL_get (by omega)]; omega
theorem plusL_bnd {A B : Int} {a b : List Int} (ha : Bnd A a) (hb : Bnd B b) (hB : 0 ≤ B) : Bnd (A + B) (plusL a b) := by
  intro x hx
  simp only [plusL, List.mem_map, List.mem_range] at hx
  obtain ⟨i, hi, rfl⟩ := hx
  have h1 := ha (a.getD i 0) (getD_mem hi)
  have h2 := hb.getD hB i
  omega
theorem minusL_bnd {A B : Int} {a b : List Int} (ha : Bnd A a) (hb : Bnd B b) (hB : 0 ≤ B) : Bnd (A + B) (minusL a b) := by
  intro x hx
  simp only [minusL, List.mem_map, List.mem_range] at hx
  obtain ⟨i, hi, rfl⟩ := hx
  have h1 := ha (a.getD i 0) (getD_mem hi)
  have h2 := hb.getD hB i
  omega
theorem Bnd.allI {A : Int} {l : List Int} (h : Bnd A l) (hA : A ≤ 9223372036854775807) : allI l := by
  intro x hx
  have := h x hx
  unfold I64; constructor <;> omega
/-- All numbers turned round. -/
def negL (l : List Int) : List Int := l.map fun x => -x
theorem negL_len (l : List Int) : (negL l).length = l.length := by simp [negL]
theorem negL_get (l : List Int) (i : Nat) : (negL l).getD i 0 = -(l.getD i 0) := by
  unfold negL
  rw [List.getD_eq_getElem?_getD, List.getD_eq_getElem?_getD, List.getElem?_map]
  cases l[i]? <;> simp
theorem negL_zs (n : Nat) : negL (zs n) = zs n := by simp [negL, zs]
theorem putK_neg (W : Nat) (cs : List Int) (f : Nat → Int) (l : List Int) : ∀ k, putK W cs (fun j => -(f j)) k (negL l) = negL (putK W cs f k l)
  | 0 => rfl
  | k + 1 => by
    rw [putK, putK, putK_neg W cs f l k]
    unfold negL
    rw [List.map_set]
theorem lvU_neg {C : Cfg} {n : Int} (hm : isX C n = true ∨ C.mode ≠ 2) (l : List Int) (key d : Int) : lvU C n (negL l) key (-d) = negL (lvU C n l key d) := by
  cases hx : isX C n with
  | true =>
    rw [lvU_x hx, lvU_x hx]
    unfold updX
    rw [negL_get]
    unfold negL
    rw [List.map_set]
    congr 1
    omega
  | false =>
    have hm' := hm.resolve_left (by rw [hx]; decide)
    rw [lvU_s hx, lvU_s hx]
    unfold updL
    rw [decide_eq_false hm']
    show putK _ _ _ _ _ = negL (putK _ _ _ _ _)
    rw [← putK_neg]
    congr 1
    funext k
    rw [negL_get]
    omega
/-- What a level has behind updates, turned round if t. -/
def feedT (C : Cfg) (t : Bool) (us : List (Int × Int)) (n : Nat) : List Int := us.foldl (fun l u => lvU C n l (sh n (cutK C 0 u.1)) (bif t then -(cutD C.mode u.2) else cutD C.mode u.2)) (zs (lvN C n))
theorem feedT_false (C : Cfg) (us : List (Int × Int)) : feedT C false us = feedK C us := rfl
theorem feedT_nil (C : Cfg) (t : Bool) : feedT C t [] = fun (n : Nat) => zs (lvN C n) := rfl
theorem feedT_snoc (C : Cfg) (t : Bool) (us : List (Int × Int)) (u : Int × Int) : feedT C t (us ++ [u]) = updK C (feedT C t us) (cutK C 0 u.1) (bif t then -(cutD C.mode u.2) else cutD C.mode u.2) := by
  funext n; unfold feedT updK; rw [List.foldl_append]; rfl
theorem feedT_bnd (C : Cfg) (t : Bool) (us : List (Int × Int)) (n : Nat) : Bnd (us.length * 1099511627776) (feedT C t us n) := by
  refine snoc_ind (P := fun us => Bnd (us.length * 1099511627776) (feedT C t us n)) ?_ ?_ us
  · exact zs_bnd _
  · intro us u ih
    rw [feedT_snoc]
    have := updK_bnd (C := C) (ls := feedT C t us) (key := cutK C 0 u.1) (d := bif t then -(cutD C.mode u.2) else cutD C.mode u.2) (n := n) ih (by omega) (show (0 : Int) ≤ 1099511627776 by decide) (by have := cutD_bd C.mode u.2; cases t <;> simp only [cond_true, cond_false] <;> omega)
    have e : ((us ++ [u]).length : Int) * 1099511627776 = us.length * 1099511627776 + 1099511627776 := by
      rw [List.length_append, List.length_singleton]; push_cast; omega
    rw [e]
    exact this
theorem feedT_len (C : Cfg) (t : Bool) (us : List (Int × Int)) (n : Nat) : (feedT C t us n).length = lvN C n := by
  refine snoc_ind (P := fun us => (feedT C t us n).length = lvN C n) ?_ ?_ us
  · rw [feedT_nil, zs_len]
  · intro us u ih
    rw [feedT_snoc]; unfold updK; rw [lvU_len, ih]
theorem feedT_ok (C : Cfg) (hok : C.Ok) {B : Nat} (hBb : C.bits = B) (t : Bool) (ht : t = true → C.mode ≠ 2) (us : List (Int × Int)) (hl : us.length ≤ 1000) (u : Int × Int) : errK C B (feedT C t us) (cutK C 0 u.1) (bif t then -(cutD C.mode u.2) else cutD C.mode u.2) = 0 := by
  have hk := cutK_bd C hok 0 u.1 (Int.le_refl 0)
  refine errK_ok hok hBb (fun n _ => feedT_bnd C t us n) (by omega) (show (0 : Int) ≤ 1099511627776 by decide) (by have := cutD_bd C.mode u.2; cases t <;> simp only [cond_true, cond_false] <;> omega) (by omega) hk.1 hk.2 (fun h => ?_)
  cases t with
  | false => exact cutD_nn h
  | true => exact absurd h (ht rfl)
theorem feedT_neg {C : Cfg} {n : Nat} (hm : isX C n = true ∨ C.mode ≠ 2) (us : List (Int × Int)) : feedT C true us n = negL (feedK C us n) := by
  refine snoc_ind (P := fun us => feedT C true us n = negL (feedK C us n)) ?_ ?_ us
  · rw [feedT_nil, feedK_nil, negL_zs]
  · intro us u ih
    rw [feedT_snoc, feedK_snoc]
    unfold updK
    rw [ih]
    exact lvU_neg hm _ _ _
theorem neg_plus {a b : List Int} (h : a.length = b.length) : plusL (negL b) a = minusL a b := by
  apply list_ext_getD
  · rw [plusL_len, minusL_len, negL_len, h]
  · intro i hi
    rw [plusL_len, negL_len] at hi
    rw [plusL_get (by rw [negL_len]; exact hi), negL_get, minusL_get (by omega)]; omega
theorem fus_cut3 (us : List (Int × Int)) {i j k : Nat} (h1 : i ≤ j) (h2 : j ≤ k) : fus us i j ++ fus us j k = fus us i k := by
  unfold fus
  have e : us.take j = (us.take k).take j := by rw [List.take_take, Nat.min_eq_left h2]
  rw [e]
  generalize us.take k = v
  have : v.drop i = (v.take j ++ v.drop j).drop i := by rw [List.take_append_drop]
  rw [this]
  by_cases hl : i ≤ (v.take j).length
  · rw [List.drop_append_of_le_length hl]
  · rw [List.length_take] at hl
    have h3 : v.length ≤ i := by omega
    rw [List.drop_eq_nil_of_le (show v.length ≤ j by omega), List.append_nil, List.append_nil]
end Go.Proofs.YteoblkcbemeamaaGreat

/- gaugerlaw11.shown. -/
namespace Go.Proofs.YteoblkcbemeamaaGreat
set_option linter.unusedVariables false
open Go.RowKit

def D0 : Cfg := ⟨2, 2, 1, 1, 0⟩
theorem D0_ok : D0.Ok := by constructor <;> simp [D0, U64]
theorem D0_cols (k : Int) : cols D0 0 k = [0, 0] := by
  have h0 := col_bd D0 (by simp [D0]) 0 k (0 : Nat)
  have h1 := col_bd D0 (by simp [D0]) 0 k (1 : Nat)
  have e0 : col D0 0 k (0 : Nat) = 0 := by have : D0.width = 1 := rfl; omega
  have e1 : col D0 0 k (1 : Nat) = 0 := by have : D0.width = 1 := rfl; omega
  show (List.range 2).map _ = _
  rw [show List.range 2 = [0, 1] from rfl]
  simp only [List.map_cons, List.map_nil]
  rw [e0, e1]
theorem D0_keys : keys D0 0 = 4 := by simp [keys, D0]
theorem D0_e1 : errU D0 0 2 1 [0, 0] 1 5 = 0 := by unfold errU; rw [D0_cols, D0_keys]; rfl
theorem D0_u1 : updL D0 0 2 1 [0, 0] 1 5 = [5, 5] := by unfold updL; rw [D0_cols]; rfl
theorem D0_e2 : errU D0 0 2 1 [0, 0] 2 7 = 0 := by unfold errU; rw [D0_cols, D0_keys]; rfl
theorem D0_u2 : updL D0 0 2 1 [0, 0] 2 7 = [7, 7] := by unfold updL; rw [D0_cols]; rfl
theorem D0_in : innF [5, 5] [7, 7] 1 2 = some 35 := by decide
theorem D_m5 : dotF [1, 2] [3, -4] 2 = some (-5) := by decide
theorem V35 : innV (some 35) = .tuple #[.agg #[.int .i64 0, .int .u64 35], .int .i64 0] := rfl
theorem Vm5 : dotV (some (-5)) = .tuple #[.agg #[.int .i64 (-1), .int .u64 18446744073709551611], .bool true] := rfl
theorem Of35 (w : World) : Calls Tryz.prog 103 #[.int .i64 35] w fun e w' => e = .returned (.agg #[.int .i64 0, .int .u64 35]) ∧ Ext w w' := Of_c 35 (by unfold I64; omega) w
theorem Ofm5 (w : World) : Calls Tryz.prog 103 #[.int .i64 (-5)] w fun e w' => e = .returned (.agg #[.int .i64 (-1), .int .u64 18446744073709551611]) ∧ Ext w w' := Of_c (-5) (by unfold I64; omega) w
theorem wbox {w0 wx : World} {b : Nat} {x y : Value} (h : w0.heap[b]? = some (.cells #[x, y] 95 (0, 0))) (hE : Ext w0 wx) :
    wx.cell? ⟨b, 0, none⟩ = some x ∧ wx.cell? ⟨b, 1, none⟩ = some y ∧ b < wx.heap.size :=
  have h' := hE.keep h
  ⟨(cell_of h' 0).trans rfl, (cell_of h' 1).trans rfl, lt_of h'⟩
theorem updpost {w w' : World} {s b c : Nat} {C : Cfg} {lv : Int} {R W : Nat} {l : List Int} {key d : Int} {e : Ending} (h : UpdPost w s b c C lv R W l key d e w') (he : errU C lv R W l key d = 0) :
    e = .returned (.int .i64 0) ∧ SAt w' s b c C lv R W (updL C lv R W l key d) ∧ Mod (fun k => k = c) w w' := by
  obtain ⟨h1, h2⟩ := h
  obtain ⟨_, hS, hM⟩ := h2.resolve_right (fun h => h.1 he)
  rw [he] at h1
  exact ⟨h1, hS, hM⟩
end Go.Proofs.YteoblkcbemeamaaGreat
