/- Part. No condition. -/
import Derived.Test.YtmalncfcgcebhaaGreatDoorDAggFull4
import Derived.Test.YtmalncfcgcebhaaGreatDoorDAggFull1
import Derived.Test.YtmalncfcgcebhaaGreatDoorDAggFull3
import Derived.Test.YtmalncfcgcebhaaGreatDoorDAggFull2
import Derived.Maps.OwnSet
import Derived.Maps.OwnOps
import Derived.Maps.RangeWalk
import Derived.Laws.EntriesVeiled
import Derived.WalkMore
namespace Go.Proofs.YtmalncfcgcebhaaGreatDoor
set_option linter.unusedVariables false
open Go.Proofs Go.RowKit
/-- A command. -/
inductive Cmd
  | create (B R W M S : Int)
  | window (B R W S K : Int)
  | add (h : Int) (nm : Bool) (name : ByteArray) (key d : Int)
  | tick
  | query (what : ByteArray) (h : Int) (l : List Int)
  | pair (what : ByteArray) (a b : Int)
  | imp (bs : List Int)
def nameOf (t : ByteArray) : ByteArray := t.extract 1 (t.size - 1)
def addCV (h : Int) (nm : Bool) (name : ByteArray) (key d : Int) : Value := .agg #[.int .i64 h, .bool nm, .string name, .int .u64 key, .int .i64 d]
/-- What stands behind 'add', and the reader behind it. -/
def addR (W : List (ByteArray × Nat)) (E a : Nat) (bad : Option Nat) : (Int × Bool × ByteArray × Int × Int) × Nat × Option Nat :=
  let s1 := numR W E a bad
  let t := nextT W s1.2.1 s1.2.2
  let b1 := nextB W E s1.2.1 s1.2.2
  if namedOf t = true then
    let s3 := numR W E (s1.2.1 + 1) b1
    ((s1.1, true, nameOf t, (keyS (nameOf t)).1, s3.1), s3.2.1, s3.2.2)
  else
    let s2 := numR W E s1.2.1 b1
    let s3 := numR W E s2.2.1 s2.2.2
    ((s1.1, false, ⟨#[]⟩, s2.1 % 18446744073709551616, s3.1), s3.2.1, s3.2.2)
theorem nameOf_size (t : ByteArray) : (nameOf t).size ≤ t.size := by
  unfold nameOf
  rw [Lib.size_eq, Lib.extract_data, List.length_take, List.length_drop, ← Lib.size_eq]
  omega
theorem RdAt.cell {base r E a g : Nat} {w : World} {W : List (ByteArray × Nat)} {bad : Option Nat} (h : RdAt base w r W E a bad) {c : Array Value} {T : TypeId} (hg : w.heap[g]? = some (.cells c T (0, 0))) (hgr : g ≠ r) (hT : T ≠ 233) (o : Nat) (u : Value) : RdAt base (w.setCell ⟨g, o, none⟩ u) r W E a bad :=
  h.keep (w' := w.setCell ⟨g, o, none⟩ u) (g := g) ⟨rfl, rfl, rfl, by rw [size_setCell]; exact Nat.le_refl _, fun k _ hk => setCell_other o u hk⟩ hgr hg hT
/-- What a call of the reader's leaves of a new block: nothing that was there is turned but the reader and blocks from B on. -/
structure ModN (r B : Nat) (w w' : World) : Prop where
  m : Mod (fun k => k = r ∨ B ≤ k) w w'
theorem ModN.cell {r B g : Nat} {w w' : World} (h : ModN r B w w') (hg : B ≤ g) (o : Nat) (u : Value) : ModN r B w (w'.setCell ⟨g, o, none⟩ u) :=
  ⟨h.m.os, h.m.tape, h.m.output, by rw [size_setCell]; exact h.m.size, fun k hk hn => (setCell_other o u (by omega)).trans (h.m.block k hk hn)⟩
theorem ModN.cellR {r B : Nat} {w w' : World} (h : ModN r B w w') (o : Nat) (u : Value) : ModN r B w (w'.setCell ⟨r, o, none⟩ u) :=
  ⟨h.m.os, h.m.tape, h.m.output, by rw [size_setCell]; exact h.m.size, fun k hk hn => (setCell_other o u (by omega)).trans (h.m.block k hk hn)⟩
theorem ModN.mod {r B : Nat} {w w' w2 : World} (h : ModN r B w w') (hm : Mod (fun k => k = r) w' w2) : ModN r B w w2 :=
  ⟨h.m.trans (hm.mono (fun k hk _ => .inl hk))⟩
theorem ModN.extN {r B : Nat} {w w' w2 : World} (h : ModN r B w w') (hm : Ext w' w2) : ModN r B w w2 := ⟨h.m.extR hm⟩
theorem ModN.out {r : Nat} {w w' : World} (h : ModN r w.heap.size w w') : Mod (fun k => k = r) w w' := h.m.mono fun k hk hl => hk.resolve_right (by omega)
set_option maxRecDepth 20000 in
set_option maxHeartbeats 8000000 in
theorem RAdd_c (base r : Nat) (W : List (ByteArray × Nat)) (E a : Nat) (bad : Option Nat) (w : World) (hT : Tabs w) (h : RdAt base w r W E a bad) (hW : ∀ p ∈ W, p.1.size ≤ 100000000) (hl : W.length ≤ 100000000) (ha : a ≤ 1000000) (hE : E ≤ 100000000) :
    Calls Tryz.prog 120 #[.pointer (some ⟨r, 0, none⟩)] w fun e w' => (∃ h nm name key d a' bad', addR W E a bad = ((h, nm, name, key, d), a', bad') ∧ e = .returned (addCV h nm name key d) ∧ RdAt base w' r W E a' bad') ∧ Mod (fun k => k = r) w w' := by
  have hrl := h.lt
  have hbr := h.br
  have hb10 := h.b10
  have h1le := numR_le W E a bad
  have HA0 : addR W E a bad = (let s1 := numR W E a bad
    let t := nextT W s1.2.1 s1.2.2
    let b1 := nextB W E s1.2.1 s1.2.2
    if namedOf t = true then
      let s3 := numR W E (s1.2.1 + 1) b1
      ((s1.1, true, nameOf t, (keyS (nameOf t)).1, s3.1), s3.2.1, s3.2.2)
    else
      let s2 := numR W E s1.2.1 b1
      let s3 := numR W E s2.2.1 s2.2.2
      ((s1.1, false, ⟨#[]⟩, s2.1 % 18446744073709551616, s3.1), s3.2.1, s3.2.2)) := rfl
  have HN1 := Lib.hid (RNum_c base r W E a bad (w.alloc (.cells #[.int .i64 0, .bool false, .string ⟨#[]⟩, .int .u64 0, .int .i64 0] 174)) (hT.ext (Ext.alloc' _ _)) (h.ext (Ext.alloc' _ _)) hW hl (by omega) hE)
  generalize numR W E a bad = s1 at *
  obtain ⟨n1, a1, b1⟩ := s1
  dsimp only at *
  have htsz := nextT_size hW a1 b1
  have HN2 := fun w' h => Lib.hid (RNext_c base r W E a1 b1 w' h hl (by omega) hE)
  generalize nextT W a1 b1 = t at *
  generalize nextB W E a1 b1 = b2 at *
  have HA := Lib.hid HA0
  clear HA0
  generalize addR W E a bad = R at *
  go_enter Tryz.func120, Tryz.ntmps120
  go_wp2_with fail
  refine Calls.mono HN1.out ?_
  rintro e w1 ⟨rfl, h1, m1⟩
  have hz2 : w1.heap[w.heap.size]? = some (.cells #[.int .i64 0, .bool false, .string ⟨#[]⟩, .int .u64 0, .int .i64 0] 174 (0, 0)) := m1.keep (heap_at _ _ rfl) (by omega)
  have M1 : ModN r w.heap.size w w1 := ModN.mod ⟨(Mod.refl _ _).extR (Ext.alloc' _ _)⟩ m1
  have hs1 := lt_of hz2
  have HT1 := Lib.hid (hT.below hb10 (M1.out.below' hbr hrl))
  have HR1 := Lib.hid h1
  have HM1 := Lib.hid M1
  have HZ2 := Lib.hid hz2
  clear hz2 M1 m1 h1 HN1 h
  go_wp2_with fail
  refine Calls.mono (HN2 _ (HR1.out.ext (Ext.alloc' _ _))).out ?_
  rintro e w2 ⟨rfl, h2, m2⟩
  have hb3 : w2.heap[w1.heap.size]? = some (.cells #[.int .i64 n1, .bool false, .string ⟨#[]⟩, .int .u64 0, .int .i64 0] 174 (0, 0)) := m2.keep (heap_at _ _ rfl) (by have := HR1.out.lt; omega)
  have hz2 : w2.heap[w.heap.size]? = some (.cells #[.int .i64 0, .bool false, .string ⟨#[]⟩, .int .u64 0, .int .i64 0] 174 (0, 0)) := m2.keep ((heap_old _ _ hs1).trans HZ2.out) (by omega)
  have M2 := (HM1.out.extN (Ext.alloc' _ _)).mod m2
  have hr1 := HR1.out.lt
  have HR2 := Lib.hid h2
  have HM2 := Lib.hid M2
  have HB3 := Lib.hid hb3
  have HZ2' := Lib.hid hz2
  clear M2 m2 h2 HN2 HR1 HM1 HZ2 HT1 hb3 hz2
  go_wp2_with fail
  refine Calls.mono (Named_c t htsz w2) ?_
  rintro e w3 ⟨nt, rfl, hnt, rfl⟩
  have hT3 := hT.below hb10 (HM2.out.out.below' hbr hrl)
  generalize hg3 : w1.heap.size = g3 at *
  have hgr : g3 ≠ r := by omega
  have hgz : w.heap.size ≠ g3 := by omega
  have hzr : w.heap.size ≠ r := by omega
  have hgw : w.heap.size ≤ g3 := by omega
  cases hnm : namedOf t with
  | true =>
    have hntE := hnt hnm
    have hnts : nt.size ≤ 100000000 := by have := nameOf_size t; unfold nameOf at this; rw [hntE]; omega
    have HA1 := HA.out
    rw [if_pos hnm] at HA1
    have HA2 := Lib.hid HA1
    have HNT := Lib.hid hntE
    have hKY := fun w' h => Lib.hid (Key_c nt hnts w' h)
    have hb3 := HB3.out
    have p1 := (cell_of hb3 1).trans rfl
    have p2 := (cell_of hb3 2).trans rfl
    have f1 := frozen_of hb3 1
    have f2 := frozen_of hb3 2
    have gl := lt_of hb3
    clear HA1 HA hnt hnm hntE hb3
    go_wp2_with fail
    refine Calls.mono (hKY _ ?tk).out ?_
    case tk => exact hT.below hb10 (((HM2.out.cell hgw _ _).cell hgw _ _).out.below' hbr hrl)
    rintro e w4 ⟨rfl, hx4⟩
    have hb4 : w4.heap[g3]? = some (.cells #[.int .i64 n1, .bool true, .string nt, .int .u64 0, .int .i64 0] 174 (0, 0)) := hx4.keep (by rw [setCell_same (setCell_same HB3.out 1 _) 2 _]; rfl)
    have hz4 : w4.heap[w.heap.size]? = some (.cells #[.int .i64 0, .bool false, .string ⟨#[]⟩, .int .u64 0, .int .i64 0] 174 (0, 0)) := hx4.keep ((setCell_other _ _ hgz).trans ((setCell_other _ _ hgz).trans HZ2'.out))
    have HR4 := Lib.hid (((HR2.out.cell HB3.out hgr (by decide) 1 (.bool true)).cell (setCell_same HB3.out 1 _) hgr (by decide) 2 (.string nt)).ext hx4)
    have HM4 := Lib.hid (((HM2.out.cell hgw 1 (.bool true)).cell hgw 2 (.string nt)).extN hx4)
    have HB4 := Lib.hid hb4
    have HZ4 := Lib.hid hz4
    have q3 := (cell_of hb4 3).trans rfl
    have k3 := frozen_of hb4 3
    have gl4 := lt_of hb4
    obtain ⟨v, hrr, _⟩ := HR4.out.hr
    have rc := (cell_of hrr 1).trans rfl
    have rf := frozen_of hrr 1
    have rl4 := lt_of hrr
    clear p1 p2 f1 f2 gl hx4 hb4 hz4 hrr HR2 HM2 HB3 HZ2' hKY
    go_wp2_with fail
    have HR5 := Lib.hid ((HR4.out.cell HB4.out hgr (by decide) 3 (.int .u64 (keyS nt).1)).set (a' := a1 + 1) (bad' := b2) (o := 1) (u := .int .i64 ((a1 : Int) + 1)) (fun v => by simp)).1
    have HM5 := Lib.hid ((HM4.out.cell hgw 3 (.int .u64 (keyS nt).1)).cellR 1 (.int .i64 ((a1 : Int) + 1)))
    refine Calls.mono (RNum_c base r W E (a1 + 1) b2 _ (hT.below hb10 (HM5.out.out.below' hbr hrl)) HR5.out hW hl (by omega) hE) ?_
    rintro e w6 ⟨rfl, h6, m6⟩
    have hb6 : w6.heap[g3]? = some (.cells #[.int .i64 n1, .bool true, .string nt, .int .u64 (keyS nt).1, .int .i64 0] 174 (0, 0)) := m6.keep ((setCell_other _ _ hgr).trans (setCell_same HB4.out 3 _)) hgr
    have hz6 : w6.heap[w.heap.size]? = some (.cells #[.int .i64 0, .bool false, .string ⟨#[]⟩, .int .u64 0, .int .i64 0] 174 (0, 0)) := m6.keep ((setCell_other _ _ hzr).trans ((setCell_other _ _ hgz).trans HZ4.out)) hzr
    have HM6 := Lib.hid (HM5.out.mod m6)
    have HR6 := Lib.hid h6
    have HB6 := Lib.hid hb6
    have HZ6 := Lib.hid hz6
    have e0 := (cell_of hb6 0).trans rfl
    have e1 := (cell_of hb6 1).trans rfl
    have e2 := (cell_of hb6 2).trans rfl
    have e3 := (cell_of hb6 3).trans rfl
    have e4 := (cell_of hb6 4).trans rfl
    have i4 := frozen_of hb6 4
    have gl6 := lt_of hb6
    have z0 := (cell_of hz6 0).trans rfl
    have z1 := (cell_of hz6 1).trans rfl
    have z2 := (cell_of hz6 2).trans rfl
    have z3 := (cell_of hz6 3).trans rfl
    have z4 := (cell_of hz6 4).trans rfl
    have j0 := frozen_of hz6 0
    have j1 := frozen_of hz6 1
    have j2 := frozen_of hz6 2
    have j3 := frozen_of hz6 3
    have j4 := frozen_of hz6 4
    have zl6 := lt_of hz6
    clear h6 m6 hb6 hz6 q3 k3 gl4 rc rf rl4 HR4 HM4 HB4 HZ4 HR5 HM5
    generalize numR W E (a1 + 1) b2 = s3 at *
    obtain ⟨d, a3, b3⟩ := s3
    dsimp only at HA2 HR6 ⊢
    go_wp2_with fail
    have hz9 := setCell_same (setCell_same (setCell_same (setCell_same (setCell_same ((setCell_other (w := w6) (b := g3) 4 (.int .i64 d) hgz).trans HZ6.out) 0 (.int .i64 n1)) 1 (.bool true)) 2 (.string nt)) 3 (.int .u64 (keyS nt).1)) 4 (.int .i64 d)
    have HR9 := Lib.hid ((((((HR6.out.cell HB6.out hgr (by decide) 4 (.int .i64 d)).cell ((setCell_other (w := w6) (b := g3) 4 (.int .i64 d) hgz).trans HZ6.out) hzr (by decide) 0 (.int .i64 n1)).cell (setCell_same ((setCell_other (w := w6) (b := g3) 4 (.int .i64 d) hgz).trans HZ6.out) 0 (.int .i64 n1)) hzr (by decide) 1 (.bool true)).cell (setCell_same (setCell_same ((setCell_other (w := w6) (b := g3) 4 (.int .i64 d) hgz).trans HZ6.out) 0 (.int .i64 n1)) 1 (.bool true)) hzr (by decide) 2 (.string nt)).cell (setCell_same (setCell_same (setCell_same ((setCell_other (w := w6) (b := g3) 4 (.int .i64 d) hgz).trans HZ6.out) 0 (.int .i64 n1)) 1 (.bool true)) 2 (.string nt)) hzr (by decide) 3 (.int .u64 (keyS nt).1)).cell (setCell_same (setCell_same (setCell_same (setCell_same ((setCell_other (w := w6) (b := g3) 4 (.int .i64 d) hgz).trans HZ6.out) 0 (.int .i64 n1)) 1 (.bool true)) 2 (.string nt)) 3 (.int .u64 (keyS nt).1)) hzr (by decide) 4 (.int .i64 d))
    have HM9 := Lib.hid ((((((HM6.out.cell hgw 4 (.int .i64 d)).cell (Nat.le_refl _) 0 (.int .i64 n1)).cell (Nat.le_refl _) 1 (.bool true)).cell (Nat.le_refl _) 2 (.string nt)).cell (Nat.le_refl _) 3 (.int .u64 (keyS nt).1)).cell (Nat.le_refl _) 4 (.int .i64 d))
    generalize (((((w6.setCell ⟨g3, 4, none⟩ (.int .i64 d)).setCell ⟨w.heap.size, 0, none⟩ (.int .i64 n1)).setCell ⟨w.heap.size, 1, none⟩ (.bool true)).setCell ⟨w.heap.size, 2, none⟩ (.string nt)).setCell ⟨w.heap.size, 3, none⟩ (.int .u64 (keyS nt).1)).setCell ⟨w.heap.size, 4, none⟩ (.int .i64 d) = W9 at hz9 HR9 HM9 ⊢
    have r0 := (cell_of hz9 0).trans rfl
    have r1 := (cell_of hz9 1).trans rfl
    have r2 := (cell_of hz9 2).trans rfl
    have r3 := (cell_of hz9 3).trans rfl
    have r4 := (cell_of hz9 4).trans rfl
    clear e0 e1 e2 e3 e4 i4 gl6 z0 z1 z2 z3 z4 j0 j1 j2 j3 j4 zl6 hz9
    refine bodyPost_ret (v := addCV n1 true nt (keyS nt).1 d) (by simp [results, Tryz.results120, go_sem, r0, r1, r2, r3, r4, addCV]) rfl ⟨⟨n1, true, nt, (keyS nt).1, d, a3, b3, ?_, rfl, HR9.out⟩, HM9.out.out⟩
    rw [HA2.out, HNT.out]
    rfl
  | false =>
    have HA1 := HA.out
    rw [if_neg (by rw [hnm]; exact Bool.false_ne_true)] at HA1
    have HN3 := Lib.hid (RNum_c base r W E a1 b2 _ hT3 HR2.out hW hl (by omega) hE)
    have h2le := numR_le W E a1 b2
    have h2r := numR_range W E a1 b2
    generalize numR W E a1 b2 = s2 at *
    obtain ⟨n2, a2, b2'⟩ := s2
    dsimp only at *
    have HA2 := Lib.hid HA1
    clear HA1 HA hnt hnm
    go_wp2_with fail
    refine Calls.mono HN3.out ?_
    rintro e w4 ⟨rfl, h4, m4⟩
    have hb4 : w4.heap[g3]? = some (.cells #[.int .i64 n1, .bool false, .string ⟨#[]⟩, .int .u64 0, .int .i64 0] 174 (0, 0)) := m4.keep HB3.out hgr
    have hz4 : w4.heap[w.heap.size]? = some (.cells #[.int .i64 0, .bool false, .string ⟨#[]⟩, .int .u64 0, .int .i64 0] 174 (0, 0)) := m4.keep HZ2'.out hzr
    have HR4 := Lib.hid h4
    have HM4 := Lib.hid (HM2.out.mod m4)
    have HB4 := Lib.hid hb4
    have HZ4 := Lib.hid hz4
    have q3 := (cell_of hb4 3).trans rfl
    have k3 := frozen_of hb4 3
    have gl4 := lt_of hb4
    have hwu := IntKind.wrap_u64 n2
    clear h4 m4 hb4 hz4 HR2 HM2 HB3 HZ2' HN3
    go_wp2_with fail
    have HR5 := Lib.hid (HR4.out.cell HB4.out hgr (by decide) 3 (.int .u64 (n2 % 18446744073709551616)))
    have HM5 := Lib.hid (HM4.out.cell hgw 3 (.int .u64 (n2 % 18446744073709551616)))
    refine Calls.mono (RNum_c base r W E a2 b2' _ (hT.below hb10 (HM5.out.out.below' hbr hrl)) HR5.out hW hl (by omega) hE) ?_
    rintro e w6 ⟨rfl, h6, m6⟩
    have hb6 : w6.heap[g3]? = some (.cells #[.int .i64 n1, .bool false, .string ⟨#[]⟩, .int .u64 (n2 % 18446744073709551616), .int .i64 0] 174 (0, 0)) := m6.keep (setCell_same HB4.out 3 _) hgr
    have hz6 : w6.heap[w.heap.size]? = some (.cells #[.int .i64 0, .bool false, .string ⟨#[]⟩, .int .u64 0, .int .i64 0] 174 (0, 0)) := m6.keep ((setCell_other _ _ hgz).trans HZ4.out) hzr
    have HM6 := Lib.hid (HM5.out.mod m6)
    have HR6 := Lib.hid h6
    have HB6 := Lib.hid hb6
    have HZ6 := Lib.hid hz6
    have e0 := (cell_of hb6 0).trans rfl
    have e1 := (cell_of hb6 1).trans rfl
    have e2 := (cell_of hb6 2).trans rfl
    have e3 := (cell_of hb6 3).trans rfl
    have e4 := (cell_of hb6 4).trans rfl
    have i4 := frozen_of hb6 4
    have gl6 := lt_of hb6
    have z0 := (cell_of hz6 0).trans rfl
    have z1 := (cell_of hz6 1).trans rfl
    have z2 := (cell_of hz6 2).trans rfl
    have z3 := (cell_of hz6 3).trans rfl
    have z4 := (cell_of hz6 4).trans rfl
    have j0 := frozen_of hz6 0
    have j1 := frozen_of hz6 1
    have j2 := frozen_of hz6 2
    have j3 := frozen_of hz6 3
    have j4 := frozen_of hz6 4
    have zl6 := lt_of hz6
    clear h6 m6 hb6 hz6 q3 k3 gl4 HR4 HM4 HB4 HZ4 HR5 HM5
    generalize numR W E a2 b2' = s3 at *
    obtain ⟨d, a3, b3⟩ := s3
    dsimp only at HA2 HR6 ⊢
    go_wp2_with fail
    have hz9 := setCell_same (setCell_same (setCell_same (setCell_same (setCell_same ((setCell_other (w := w6) (b := g3) 4 (.int .i64 d) hgz).trans HZ6.out) 0 (.int .i64 n1)) 1 (.bool false)) 2 (.string ⟨#[]⟩)) 3 (.int .u64 (n2 % 18446744073709551616))) 4 (.int .i64 d)
    have HR9 := Lib.hid ((((((HR6.out.cell HB6.out hgr (by decide) 4 (.int .i64 d)).cell ((setCell_other (w := w6) (b := g3) 4 (.int .i64 d) hgz).trans HZ6.out) hzr (by decide) 0 (.int .i64 n1)).cell (setCell_same ((setCell_other (w := w6) (b := g3) 4 (.int .i64 d) hgz).trans HZ6.out) 0 (.int .i64 n1)) hzr (by decide) 1 (.bool false)).cell (setCell_same (setCell_same ((setCell_other (w := w6) (b := g3) 4 (.int .i64 d) hgz).trans HZ6.out) 0 (.int .i64 n1)) 1 (.bool false)) hzr (by decide) 2 (.string ⟨#[]⟩)).cell (setCell_same (setCell_same (setCell_same ((setCell_other (w := w6) (b := g3) 4 (.int .i64 d) hgz).trans HZ6.out) 0 (.int .i64 n1)) 1 (.bool false)) 2 (.string ⟨#[]⟩)) hzr (by decide) 3 (.int .u64 (n2 % 18446744073709551616))).cell (setCell_same (setCell_same (setCell_same (setCell_same ((setCell_other (w := w6) (b := g3) 4 (.int .i64 d) hgz).trans HZ6.out) 0 (.int .i64 n1)) 1 (.bool false)) 2 (.string ⟨#[]⟩)) 3 (.int .u64 (n2 % 18446744073709551616))) hzr (by decide) 4 (.int .i64 d))
    have HM9 := Lib.hid ((((((HM6.out.cell hgw 4 (.int .i64 d)).cell (Nat.le_refl _) 0 (.int .i64 n1)).cell (Nat.le_refl _) 1 (.bool false)).cell (Nat.le_refl _) 2 (.string ⟨#[]⟩)).cell (Nat.le_refl _) 3 (.int .u64 (n2 % 18446744073709551616))).cell (Nat.le_refl _) 4 (.int .i64 d))
    generalize (((((w6.setCell ⟨g3, 4, none⟩ (.int .i64 d)).setCell ⟨w.heap.size, 0, none⟩ (.int .i64 n1)).setCell ⟨w.heap.size, 1, none⟩ (.bool false)).setCell ⟨w.heap.size, 2, none⟩ (.string ⟨#[]⟩)).setCell ⟨w.heap.size, 3, none⟩ (.int .u64 (n2 % 18446744073709551616))).setCell ⟨w.heap.size, 4, none⟩ (.int .i64 d) = W9 at hz9 HR9 HM9 ⊢
    have r0 := (cell_of hz9 0).trans rfl
    have r1 := (cell_of hz9 1).trans rfl
    have r2 := (cell_of hz9 2).trans rfl
    have r3 := (cell_of hz9 3).trans rfl
    have r4 := (cell_of hz9 4).trans rfl
    clear e0 e1 e2 e3 e4 i4 gl6 z0 z1 z2 z3 z4 j0 j1 j2 j3 j4 zl6 hz9
    refine bodyPost_ret (v := addCV n1 false ⟨#[]⟩ (n2 % 18446744073709551616) d) (by simp [results, Tryz.results120, go_sem, r0, r1, r2, r3, r4, addCV]) rfl ⟨⟨n1, false, ⟨#[]⟩, (n2 % 18446744073709551616), d, a3, b3, ?_, rfl, HR9.out⟩, HM9.out.out⟩
    rw [HA2.out]
end Go.Proofs.YtmalncfcgcebhaaGreatDoor
namespace Go.Proofs.YtmalncfcgcebhaaGreatDoor
set_option linter.unusedVariables false
open Go.Proofs Go.RowKit
/-- A command in memory: its slices lie from base on. -/
def CmdAt (base : Nat) (w : World) (v : Value) : Cmd → Prop
  | .create B R W M S => v = .iface 167 (.agg #[.int .i64 B, .int .i64 R, .int .i64 W, .int .i64 M, .int .u64 S])
  | .window B R W S K => v = .iface 170 (.agg #[.int .i64 B, .int .i64 R, .int .i64 W, .int .i64 1, .int .u64 S, .int .i64 K])
  | .add h nm name key d => v = .iface 174 (addCV h nm name key d)
  | .tick => v = .iface 176 (.agg #[])
  | .query what h l => ∃ s, v = .iface 179 (.agg #[.string what, .int .i64 h, s]) ∧ ((l = [] ∧ s = .slice none 0 0) ∨ ∃ g f, s = .slice (some ⟨g, 1, none⟩) l.length l.length ∧ base ≤ g ∧ w.heap[g]? = some (.cells (fillA f (l.length + 1) (l.length + 1)) 2 (0, 0)) ∧ l = (List.range l.length).map fun i => f (i + 1))
  | .pair what a b => v = .iface 182 (.agg #[.string what, .int .i64 a, .int .i64 b])
  | .imp bs => ∃ s, v = .iface 185 (.agg #[s]) ∧ w.ownsRow base 5 1 s bs.length (u8V bs)
def CmdPost (base r : Nat) (W : List (ByteArray × Nat)) (E : Nat) (w : World) (R : Cmd × Nat × Option Nat) (e : Ending) (w' : World) : Prop :=
  (∃ v, e = .returned v ∧ CmdAt base w' v R.1 ∧ RdAt base w' r W E R.2.1 R.2.2) ∧ Mod (fun k => k = r) w w'
theorem fill_cell {w : World} {g n : Nat} {f : Nat → Int} {T : TypeId} (h : w.heap[g]? = some (.cells (fillA f n n) T (0, 0))) {i : Nat} (hi : i < n) : w.cell? ⟨g, i, none⟩ = some (.int .i64 (f i)) := by
  rw [cell_of h, fillA_at _ _ _ _ hi, if_pos hi]
theorem vb_eq {b : ByteArray} {l : List UInt8} (h : b.toList = l) : b = ⟨l.toArray⟩ := by
  rw [← h, Lib.toList_data]
set_option maxRecDepth 20000 in
set_option maxHeartbeats 8000000 in
theorem RCmdCreate_c (base r : Nat) (W : List (ByteArray × Nat)) (E : Nat) (w : World) (hT : Tabs w) (h : RdAt base w r W E 0 none) (hW : ∀ p ∈ W, p.1.size ≤ 100000000) (hl : W.length ≤ 100000000) (hl0 : 0 < W.length) (hE : E ≤ 100000000) (hv : W[0].1.toList = [99, 114, 101, 97, 116, 101]) :
    Calls Tryz.prog 80 #[.pointer (some ⟨r, 0, none⟩)] w (CmdPost base r W E w (.create (numsF W E 1 none 0) (numsF W E 1 none 1) (numsF W E 1 none 2) (numsF W E 1 none 3) ((numsF W E 1 none 4) % 18446744073709551616), (numsS W E 1 none 5).1, (numsS W E 1 none 5).2)) := by
  have hrl := h.lt
  have hbr := h.br
  have hb10 := h.b10
  have hs0 : base ≤ w.heap.size := by omega
  have HN1 := Lib.hid (RNext_c base r W E 0 none w h hl (by omega) hE)
  obtain ⟨e1, e2⟩ := next_yes (E := E) hl0
  rw [e1, e2] at HN1
  generalize W[0].1 = vb at *
  clear e1 e2
  go_enter Tryz.func80, Tryz.ntmps80
  go_wp2_with fail
  refine Calls.mono HN1.out ?_
  rintro e w1 ⟨rfl, h1, m1⟩
  have HR2 := Lib.hid (h1.set (a' := 1) (bad' := none) (o := 1) (u := .int .i64 1) (fun v => by simp)).1
  have HM2 := Lib.hid (m1.trans (h1.set (a' := 1) (bad' := none) (o := 1) (u := .int .i64 1) (fun v => by simp)).2)
  have HT2 := Lib.hid (hT.below hb10 (HM2.out.below' hbr hrl))
  obtain ⟨v, hrr, _⟩ := h1.hr
  have rc := (cell_of hrr 1).trans rfl
  have rf := frozen_of hrr 1
  have rl1 := lt_of hrr
  have hs1 := m1.size
  clear HN1 hrr h1 m1
  go_wp2_with fail
  generalize hW2 : w1.setCell ⟨r, 1, none⟩ (.int .i64 1) = w2 at *
  have hs2 : w.heap.size ≤ w2.heap.size := HM2.out.size
  clear rc rf rl1 hW2
  refine Calls.mono (RNums_c base r W E 1 none 5 w2 HT2.out HR2.out hW hl (by omega) hE (by decide)) ?_
  rintro e w3 ⟨⟨g, rfl, hg, hgc⟩, h3, m3⟩
  have HR3 := Lib.hid h3
  have HM3 := Lib.hid (HM2.out.trans m3)
  have HG := Lib.hid hgc
  have gl := lt_of hgc
  have c0 := fill_cell hgc (i := 0) (by decide)
  have c1 := fill_cell hgc (i := 1) (by decide)
  have c2 := fill_cell hgc (i := 2) (by decide)
  have c3 := fill_cell hgc (i := 3) (by decide)
  have c4 := fill_cell hgc (i := 4) (by decide)
  clear h3 m3 hgc
  have hwu := IntKind.wrap_u64 (numsF W E 1 none 4)
  generalize numsS W E 1 none 5 = st at *
  generalize numsF W E 1 none = ff at *
  go_wp2_with fail
  refine wp_region_after (by kernel_rfl) (by kernel_rfl) ?_
  repeat (go_big_quiet_step ((fail)))
  refine wpQuiet_nil ?_
  rintro _ ⟨xx, rfl⟩
  obtain ⟨w4, hb4⟩ := xx
  try dsimp only
  have HX := Lib.hid hb4
  go_wp2_with fail
  go_ret
  exact ⟨⟨_, rfl, (by show _ = _; rfl), HR3.out.ext HX.out⟩, HM3.out.extR HX.out⟩
set_option maxRecDepth 20000 in
set_option maxHeartbeats 8000000 in
theorem RCmdWindow_c (base r : Nat) (W : List (ByteArray × Nat)) (E : Nat) (w : World) (hT : Tabs w) (h : RdAt base w r W E 0 none) (hW : ∀ p ∈ W, p.1.size ≤ 100000000) (hl : W.length ≤ 100000000) (hl0 : 0 < W.length) (hE : E ≤ 100000000) (hv : W[0].1.toList = [119, 105, 110, 100, 111, 119]) :
    Calls Tryz.prog 80 #[.pointer (some ⟨r, 0, none⟩)] w (CmdPost base r W E w (.window (numsF W E 1 none 0) (numsF W E 1 none 1) (numsF W E 1 none 2) ((numsF W E 1 none 3) % 18446744073709551616) (numsF W E 1 none 4), (numsS W E 1 none 5).1, (numsS W E 1 none 5).2)) := by
  have hrl := h.lt
  have hbr := h.br
  have hb10 := h.b10
  have hs0 : base ≤ w.heap.size := by omega
  have HN1 := Lib.hid (RNext_c base r W E 0 none w h hl (by omega) hE)
  obtain ⟨e1, e2⟩ := next_yes (E := E) hl0
  rw [e1, e2] at HN1
  generalize W[0].1 = vb at *
  clear e1 e2
  go_enter Tryz.func80, Tryz.ntmps80
  go_wp2_with fail
  refine Calls.mono HN1.out ?_
  rintro e w1 ⟨rfl, h1, m1⟩
  have HR2 := Lib.hid (h1.set (a' := 1) (bad' := none) (o := 1) (u := .int .i64 1) (fun v => by simp)).1
  have HM2 := Lib.hid (m1.trans (h1.set (a' := 1) (bad' := none) (o := 1) (u := .int .i64 1) (fun v => by simp)).2)
  have HT2 := Lib.hid (hT.below hb10 (HM2.out.below' hbr hrl))
  obtain ⟨v, hrr, _⟩ := h1.hr
  have rc := (cell_of hrr 1).trans rfl
  have rf := frozen_of hrr 1
  have rl1 := lt_of hrr
  have hs1 := m1.size
  clear HN1 hrr h1 m1
  go_wp2_with fail
  generalize hW2 : w1.setCell ⟨r, 1, none⟩ (.int .i64 1) = w2 at *
  have hs2 : w.heap.size ≤ w2.heap.size := HM2.out.size
  clear rc rf rl1 hW2
  refine Calls.mono (RNums_c base r W E 1 none 5 w2 HT2.out HR2.out hW hl (by omega) hE (by decide)) ?_
  rintro e w3 ⟨⟨g, rfl, hg, hgc⟩, h3, m3⟩
  have HR3 := Lib.hid h3
  have HM3 := Lib.hid (HM2.out.trans m3)
  have HG := Lib.hid hgc
  have gl := lt_of hgc
  have c0 := fill_cell hgc (i := 0) (by decide)
  have c1 := fill_cell hgc (i := 1) (by decide)
  have c2 := fill_cell hgc (i := 2) (by decide)
  have c3 := fill_cell hgc (i := 3) (by decide)
  have c4 := fill_cell hgc (i := 4) (by decide)
  clear h3 m3 hgc
  have hwu := IntKind.wrap_u64 (numsF W E 1 none 3)
  generalize numsS W E 1 none 5 = st at *
  generalize numsF W E 1 none = ff at *
  go_wp2_with fail
  refine wp_region_after (by kernel_rfl) (by kernel_rfl) ?_
  repeat (go_big_quiet_step ((fail)))
  refine wpQuiet_nil ?_
  rintro _ ⟨xx, rfl⟩
  obtain ⟨w4, hb4⟩ := xx
  try dsimp only
  have HX := Lib.hid hb4
  go_wp2_with fail
  go_ret
  exact ⟨⟨_, rfl, (by show _ = _; rfl), HR3.out.ext HX.out⟩, HM3.out.extR HX.out⟩
set_option maxRecDepth 20000 in
set_option maxHeartbeats 8000000 in
theorem RCmdAdd_c (base r : Nat) (W : List (ByteArray × Nat)) (E : Nat) (w : World) (hT : Tabs w) (h : RdAt base w r W E 0 none) (hW : ∀ p ∈ W, p.1.size ≤ 100000000) (hl : W.length ≤ 100000000) (hl0 : 0 < W.length) (hE : E ≤ 100000000) (hv : W[0].1.toList = [97, 100, 100]) :
    Calls Tryz.prog 80 #[.pointer (some ⟨r, 0, none⟩)] w (CmdPost base r W E w ((Cmd.add (addR W E 1 none).1.1 (addR W E 1 none).1.2.1 (addR W E 1 none).1.2.2.1 (addR W E 1 none).1.2.2.2.1 (addR W E 1 none).1.2.2.2.2, (addR W E 1 none).2.1, (addR W E 1 none).2.2))) := by
  have hrl := h.lt
  have hbr := h.br
  have hb10 := h.b10
  have hs0 : base ≤ w.heap.size := by omega
  have HN1 := Lib.hid (RNext_c base r W E 0 none w h hl (by omega) hE)
  obtain ⟨e1, e2⟩ := next_yes (E := E) hl0
  rw [e1, e2] at HN1
  generalize W[0].1 = vb at *
  clear e1 e2
  have HAD := fun w' hT h => Lib.hid (RAdd_c base r W E 1 none w' hT h hW hl (by omega) hE)
  generalize addR W E 1 none = R at *
  obtain ⟨⟨ah, nm, name, key, d⟩, a', bad'⟩ := R
  dsimp only
  go_enter Tryz.func80, Tryz.ntmps80
  go_wp2_with fail
  refine Calls.mono HN1.out ?_
  rintro e w1 ⟨rfl, h1, m1⟩
  have HR2 := Lib.hid (h1.set (a' := 1) (bad' := none) (o := 1) (u := .int .i64 1) (fun v => by simp)).1
  have HM2 := Lib.hid (m1.trans (h1.set (a' := 1) (bad' := none) (o := 1) (u := .int .i64 1) (fun v => by simp)).2)
  have HT2 := Lib.hid (hT.below hb10 (HM2.out.below' hbr hrl))
  obtain ⟨v, hrr, _⟩ := h1.hr
  have rc := (cell_of hrr 1).trans rfl
  have rf := frozen_of hrr 1
  have rl1 := lt_of hrr
  have hs1 := m1.size
  clear HN1 hrr h1 m1
  go_wp2_with fail
  generalize hW2 : w1.setCell ⟨r, 1, none⟩ (.int .i64 1) = w2 at *
  have hs2 : w.heap.size ≤ w2.heap.size := HM2.out.size
  clear rc rf rl1 hW2
  refine Calls.mono (HAD w2 HT2.out HR2.out).out ?_
  rintro e w3 ⟨⟨ah', nm', name', key', d', a'', bad'', haR, rfl, h3⟩, m3⟩
  injection haR with q1 q2
  injection q1 with q1 q3
  injection q3 with q3 q4
  injection q4 with q4 q5
  injection q5 with q5 q6
  injection q2 with q2 q7
  subst q1 q3 q4 q5 q6 q2 q7
  have HR3 := Lib.hid h3
  have HM3 := Lib.hid (HM2.out.trans m3)
  clear h3 m3 HAD
  go_wp2_with fail
  go_ret
  exact ⟨⟨_, rfl, (by show _ = _; rfl), HR3.out⟩, HM3.out⟩
set_option maxRecDepth 20000 in
set_option maxHeartbeats 8000000 in
theorem RCmdTick_c (base r : Nat) (W : List (ByteArray × Nat)) (E : Nat) (w : World) (hT : Tabs w) (h : RdAt base w r W E 0 none) (hW : ∀ p ∈ W, p.1.size ≤ 100000000) (hl : W.length ≤ 100000000) (hl0 : 0 < W.length) (hE : E ≤ 100000000) (hv : W[0].1.toList = [116, 105, 99, 107]) :
    Calls Tryz.prog 80 #[.pointer (some ⟨r, 0, none⟩)] w (CmdPost base r W E w (.tick, 1, none)) := by
  have hrl := h.lt
  have hbr := h.br
  have hb10 := h.b10
  have hs0 : base ≤ w.heap.size := by omega
  have HN1 := Lib.hid (RNext_c base r W E 0 none w h hl (by omega) hE)
  obtain ⟨e1, e2⟩ := next_yes (E := E) hl0
  rw [e1, e2] at HN1
  generalize W[0].1 = vb at *
  clear e1 e2
  go_enter Tryz.func80, Tryz.ntmps80
  go_wp2_with fail
  refine Calls.mono HN1.out ?_
  rintro e w1 ⟨rfl, h1, m1⟩
  have HR2 := Lib.hid (h1.set (a' := 1) (bad' := none) (o := 1) (u := .int .i64 1) (fun v => by simp)).1
  have HM2 := Lib.hid (m1.trans (h1.set (a' := 1) (bad' := none) (o := 1) (u := .int .i64 1) (fun v => by simp)).2)
  have HT2 := Lib.hid (hT.below hb10 (HM2.out.below' hbr hrl))
  obtain ⟨v, hrr, _⟩ := h1.hr
  have rc := (cell_of hrr 1).trans rfl
  have rf := frozen_of hrr 1
  have rl1 := lt_of hrr
  have hs1 := m1.size
  clear HN1 hrr h1 m1
  go_wp2_with fail
  go_ret
  exact ⟨⟨_, rfl, (by show _ = _; rfl), HR2.out⟩, HM2.out⟩
set_option maxRecDepth 20000 in
set_option maxHeartbeats 8000000 in
theorem RCmdTotal_c (base r : Nat) (W : List (ByteArray × Nat)) (E : Nat) (w : World) (hT : Tabs w) (h : RdAt base w r W E 0 none) (hW : ∀ p ∈ W, p.1.size ≤ 100000000) (hl : W.length ≤ 100000000) (hl0 : 0 < W.length) (hE : E ≤ 100000000) (hv : W[0].1.toList = [116, 111, 116, 97, 108]) :
    Calls Tryz.prog 80 #[.pointer (some ⟨r, 0, none⟩)] w (CmdPost base r W E w (.query ⟨#[116, 111, 116, 97, 108]⟩ (numR W E 1 none).1 [], (numR W E 1 none).2.1, (numR W E 1 none).2.2)) := by
  have hrl := h.lt
  have hbr := h.br
  have hb10 := h.b10
  have hs0 : base ≤ w.heap.size := by omega
  have HN1 := Lib.hid (RNext_c base r W E 0 none w h hl (by omega) hE)
  obtain ⟨e1, e2⟩ := next_yes (E := E) hl0
  rw [e1, e2] at HN1
  generalize W[0].1 = vb at *
  clear e1 e2
  go_enter Tryz.func80, Tryz.ntmps80
  go_wp2_with fail
  refine Calls.mono HN1.out ?_
  rintro e w1 ⟨rfl, h1, m1⟩
  have HR2 := Lib.hid (h1.set (a' := 1) (bad' := none) (o := 1) (u := .int .i64 1) (fun v => by simp)).1
  have HM2 := Lib.hid (m1.trans (h1.set (a' := 1) (bad' := none) (o := 1) (u := .int .i64 1) (fun v => by simp)).2)
  have HT2 := Lib.hid (hT.below hb10 (HM2.out.below' hbr hrl))
  obtain ⟨v, hrr, _⟩ := h1.hr
  have rc := (cell_of hrr 1).trans rfl
  have rf := frozen_of hrr 1
  have rl1 := lt_of hrr
  have hs1 := m1.size
  clear HN1 hrr h1 m1
  go_wp2_with fail
  generalize hW2 : w1.setCell ⟨r, 1, none⟩ (.int .i64 1) = w2 at *
  have hs2 : w.heap.size ≤ w2.heap.size := HM2.out.size
  clear rc rf rl1 hW2
  refine Calls.mono (RNum_c base r W E 1 none w2 HT2.out HR2.out hW hl (by omega) hE) ?_
  rintro e w3 ⟨rfl, h3, m3⟩
  have HR3 := Lib.hid h3
  have HM3 := Lib.hid (HM2.out.trans m3)
  clear h3 m3
  have hvb := vb_eq hv
  subst hvb
  go_wp2_with fail
  go_ret
  exact ⟨⟨_, rfl, ⟨_, rfl, .inl ⟨rfl, rfl⟩⟩, HR3.out⟩, HM3.out⟩
set_option maxRecDepth 20000 in
set_option maxHeartbeats 8000000 in
theorem RCmdExport_c (base r : Nat) (W : List (ByteArray × Nat)) (E : Nat) (w : World) (hT : Tabs w) (h : RdAt base w r W E 0 none) (hW : ∀ p ∈ W, p.1.size ≤ 100000000) (hl : W.length ≤ 100000000) (hl0 : 0 < W.length) (hE : E ≤ 100000000) (hv : W[0].1.toList = [101, 120, 112, 111, 114, 116]) :
    Calls Tryz.prog 80 #[.pointer (some ⟨r, 0, none⟩)] w (CmdPost base r W E w (.query ⟨#[101, 120, 112, 111, 114, 116]⟩ (numR W E 1 none).1 [], (numR W E 1 none).2.1, (numR W E 1 none).2.2)) := by
  have hrl := h.lt
  have hbr := h.br
  have hb10 := h.b10
  have hs0 : base ≤ w.heap.size := by omega
  have HN1 := Lib.hid (RNext_c base r W E 0 none w h hl (by omega) hE)
  obtain ⟨e1, e2⟩ := next_yes (E := E) hl0
  rw [e1, e2] at HN1
  generalize W[0].1 = vb at *
  clear e1 e2
  go_enter Tryz.func80, Tryz.ntmps80
  go_wp2_with fail
  refine Calls.mono HN1.out ?_
  rintro e w1 ⟨rfl, h1, m1⟩
  have HR2 := Lib.hid (h1.set (a' := 1) (bad' := none) (o := 1) (u := .int .i64 1) (fun v => by simp)).1
  have HM2 := Lib.hid (m1.trans (h1.set (a' := 1) (bad' := none) (o := 1) (u := .int .i64 1) (fun v => by simp)).2)
  have HT2 := Lib.hid (hT.below hb10 (HM2.out.below' hbr hrl))
  obtain ⟨v, hrr, _⟩ := h1.hr
  have rc := (cell_of hrr 1).trans rfl
  have rf := frozen_of hrr 1
  have rl1 := lt_of hrr
  have hs1 := m1.size
  clear HN1 hrr h1 m1
  go_wp2_with fail
  generalize hW2 : w1.setCell ⟨r, 1, none⟩ (.int .i64 1) = w2 at *
  have hs2 : w.heap.size ≤ w2.heap.size := HM2.out.size
  clear rc rf rl1 hW2
  refine Calls.mono (RNum_c base r W E 1 none w2 HT2.out HR2.out hW hl (by omega) hE) ?_
  rintro e w3 ⟨rfl, h3, m3⟩
  have HR3 := Lib.hid h3
  have HM3 := Lib.hid (HM2.out.trans m3)
  clear h3 m3
  have hvb := vb_eq hv
  subst hvb
  go_wp2_with fail
  go_ret
  exact ⟨⟨_, rfl, ⟨_, rfl, .inl ⟨rfl, rfl⟩⟩, HR3.out⟩, HM3.out⟩
set_option maxRecDepth 20000 in
set_option maxHeartbeats 8000000 in
theorem RCmdDrop_c (base r : Nat) (W : List (ByteArray × Nat)) (E : Nat) (w : World) (hT : Tabs w) (h : RdAt base w r W E 0 none) (hW : ∀ p ∈ W, p.1.size ≤ 100000000) (hl : W.length ≤ 100000000) (hl0 : 0 < W.length) (hE : E ≤ 100000000) (hv : W[0].1.toList = [100, 114, 111, 112]) :
    Calls Tryz.prog 80 #[.pointer (some ⟨r, 0, none⟩)] w (CmdPost base r W E w (.query ⟨#[100, 114, 111, 112]⟩ (numR W E 1 none).1 [], (numR W E 1 none).2.1, (numR W E 1 none).2.2)) := by
  have hrl := h.lt
  have hbr := h.br
  have hb10 := h.b10
  have hs0 : base ≤ w.heap.size := by omega
  have HN1 := Lib.hid (RNext_c base r W E 0 none w h hl (by omega) hE)
  obtain ⟨e1, e2⟩ := next_yes (E := E) hl0
  rw [e1, e2] at HN1
  generalize W[0].1 = vb at *
  clear e1 e2
  go_enter Tryz.func80, Tryz.ntmps80
  go_wp2_with fail
  refine Calls.mono HN1.out ?_
  rintro e w1 ⟨rfl, h1, m1⟩
  have HR2 := Lib.hid (h1.set (a' := 1) (bad' := none) (o := 1) (u := .int .i64 1) (fun v => by simp)).1
  have HM2 := Lib.hid (m1.trans (h1.set (a' := 1) (bad' := none) (o := 1) (u := .int .i64 1) (fun v => by simp)).2)
  have HT2 := Lib.hid (hT.below hb10 (HM2.out.below' hbr hrl))
  obtain ⟨v, hrr, _⟩ := h1.hr
  have rc := (cell_of hrr 1).trans rfl
  have rf := frozen_of hrr 1
  have rl1 := lt_of hrr
  have hs1 := m1.size
  clear HN1 hrr h1 m1
  go_wp2_with fail
  generalize hW2 : w1.setCell ⟨r, 1, none⟩ (.int .i64 1) = w2 at *
  have hs2 : w.heap.size ≤ w2.heap.size := HM2.out.size
  clear rc rf rl1 hW2
  refine Calls.mono (RNum_c base r W E 1 none w2 HT2.out HR2.out hW hl (by omega) hE) ?_
  rintro e w3 ⟨rfl, h3, m3⟩
  have HR3 := Lib.hid h3
  have HM3 := Lib.hid (HM2.out.trans m3)
  clear h3 m3
  have hvb := vb_eq hv
  subst hvb
  go_wp2_with fail
  go_ret
  exact ⟨⟨_, rfl, ⟨_, rfl, .inl ⟨rfl, rfl⟩⟩, HR3.out⟩, HM3.out⟩
set_option maxRecDepth 20000 in
set_option maxHeartbeats 8000000 in
theorem RCmdQuantile_c (base r : Nat) (W : List (ByteArray × Nat)) (E : Nat) (w : World) (hT : Tabs w) (h : RdAt base w r W E 0 none) (hW : ∀ p ∈ W, p.1.size ≤ 100000000) (hl : W.length ≤ 100000000) (hl0 : 0 < W.length) (hE : E ≤ 100000000) (hv : W[0].1.toList = [113, 117, 97, 110, 116, 105, 108, 101]) :
    Calls Tryz.prog 80 #[.pointer (some ⟨r, 0, none⟩)] w (CmdPost base r W E w (.query ⟨#[113, 117, 97, 110, 116, 105, 108, 101]⟩ (numsF W E 1 none 0) [numsF W E 1 none 1], (numsS W E 1 none 2).1, (numsS W E 1 none 2).2)) := by
  have hrl := h.lt
  have hbr := h.br
  have hb10 := h.b10
  have hs0 : base ≤ w.heap.size := by omega
  have HN1 := Lib.hid (RNext_c base r W E 0 none w h hl (by omega) hE)
  obtain ⟨e1, e2⟩ := next_yes (E := E) hl0
  rw [e1, e2] at HN1
  generalize W[0].1 = vb at *
  clear e1 e2
  go_enter Tryz.func80, Tryz.ntmps80
  go_wp2_with fail
  refine Calls.mono HN1.out ?_
  rintro e w1 ⟨rfl, h1, m1⟩
  have HR2 := Lib.hid (h1.set (a' := 1) (bad' := none) (o := 1) (u := .int .i64 1) (fun v => by simp)).1
  have HM2 := Lib.hid (m1.trans (h1.set (a' := 1) (bad' := none) (o := 1) (u := .int .i64 1) (fun v => by simp)).2)
  have HT2 := Lib.hid (hT.below hb10 (HM2.out.below' hbr hrl))
  obtain ⟨v, hrr, _⟩ := h1.hr
  have rc := (cell_of hrr 1).trans rfl
  have rf := frozen_of hrr 1
  have rl1 := lt_of hrr
  have hs1 := m1.size
  clear HN1 hrr h1 m1
  go_wp2_with fail
  generalize hW2 : w1.setCell ⟨r, 1, none⟩ (.int .i64 1) = w2 at *
  have hs2 : w.heap.size ≤ w2.heap.size := HM2.out.size
  clear rc rf rl1 hW2
  refine Calls.mono (RNums_c base r W E 1 none 2 w2 HT2.out HR2.out hW hl (by omega) hE (by decide)) ?_
  rintro e w3 ⟨⟨g, rfl, hg, hgc⟩, h3, m3⟩
  have HR3 := Lib.hid h3
  have HM3 := Lib.hid (HM2.out.trans m3)
  have HG := Lib.hid hgc
  have gl := lt_of hgc
  have c0 := fill_cell hgc (i := 0) (by decide)
  have c1 := fill_cell hgc (i := 1) (by decide)
  clear h3 m3 hgc
  generalize numsS W E 1 none 2 = st at *
  generalize numsF W E 1 none = ff at *
  have hvb := vb_eq hv
  subst hvb
  go_wp2_with fail
  refine wp_region_after (by kernel_rfl) (by kernel_rfl) ?_
  repeat (go_big_quiet_step ((fail)))
  refine wpQuiet_nil ?_
  rintro _ ⟨xx, rfl⟩
  obtain ⟨w4, hb4⟩ := xx
  try dsimp only
  have HX := Lib.hid hb4
  go_wp2_with fail
  go_ret
  exact ⟨⟨_, rfl, ⟨_, rfl, .inr ⟨g, ff, rfl, by omega, HX.out.keep HG.out, rfl⟩⟩, HR3.out.ext HX.out⟩, HM3.out.extR HX.out⟩
set_option maxRecDepth 20000 in
set_option maxHeartbeats 8000000 in
theorem RCmdPoint_c (base r : Nat) (W : List (ByteArray × Nat)) (E : Nat) (w : World) (hT : Tabs w) (h : RdAt base w r W E 0 none) (hW : ∀ p ∈ W, p.1.size ≤ 100000000) (hl : W.length ≤ 100000000) (hl0 : 0 < W.length) (hE : E ≤ 100000000) (hv : W[0].1.toList = [112, 111, 105, 110, 116]) :
    Calls Tryz.prog 80 #[.pointer (some ⟨r, 0, none⟩)] w (CmdPost base r W E w (.query ⟨#[112, 111, 105, 110, 116]⟩ (numsF W E 1 none 0) [numsF W E 1 none 1, numsF W E 1 none 2], (numsS W E 1 none 3).1, (numsS W E 1 none 3).2)) := by
  have hrl := h.lt
  have hbr := h.br
  have hb10 := h.b10
  have hs0 : base ≤ w.heap.size := by omega
  have HN1 := Lib.hid (RNext_c base r W E 0 none w h hl (by omega) hE)
  obtain ⟨e1, e2⟩ := next_yes (E := E) hl0
  rw [e1, e2] at HN1
  generalize W[0].1 = vb at *
  clear e1 e2
  go_enter Tryz.func80, Tryz.ntmps80
  go_wp2_with fail
  refine Calls.mono HN1.out ?_
  rintro e w1 ⟨rfl, h1, m1⟩
  have HR2 := Lib.hid (h1.set (a' := 1) (bad' := none) (o := 1) (u := .int .i64 1) (fun v => by simp)).1
  have HM2 := Lib.hid (m1.trans (h1.set (a' := 1) (bad' := none) (o := 1) (u := .int .i64 1) (fun v => by simp)).2)
  have HT2 := Lib.hid (hT.below hb10 (HM2.out.below' hbr hrl))
  obtain ⟨v, hrr, _⟩ := h1.hr
  have rc := (cell_of hrr 1).trans rfl
  have rf := frozen_of hrr 1
  have rl1 := lt_of hrr
  have hs1 := m1.size
  clear HN1 hrr h1 m1
  go_wp2_with fail
  generalize hW2 : w1.setCell ⟨r, 1, none⟩ (.int .i64 1) = w2 at *
  have hs2 : w.heap.size ≤ w2.heap.size := HM2.out.size
  clear rc rf rl1 hW2
  refine Calls.mono (RNums_c base r W E 1 none 3 w2 HT2.out HR2.out hW hl (by omega) hE (by decide)) ?_
  rintro e w3 ⟨⟨g, rfl, hg, hgc⟩, h3, m3⟩
  have HR3 := Lib.hid h3
  have HM3 := Lib.hid (HM2.out.trans m3)
  have HG := Lib.hid hgc
  have gl := lt_of hgc
  have c0 := fill_cell hgc (i := 0) (by decide)
  have c1 := fill_cell hgc (i := 1) (by decide)
  have c2 := fill_cell hgc (i := 2) (by decide)
  clear h3 m3 hgc
  generalize numsS W E 1 none 3 = st at *
  generalize numsF W E 1 none = ff at *
  have hvb := vb_eq hv
  subst hvb
  go_wp2_with fail
  refine wp_region_after (by kernel_rfl) (by kernel_rfl) ?_
  repeat (go_big_quiet_step ((fail)))
  refine wpQuiet_nil ?_
  rintro _ ⟨xx, rfl⟩
  obtain ⟨w4, hb4⟩ := xx
  try dsimp only
  have HX := Lib.hid hb4
  go_wp2_with fail
  go_ret
  exact ⟨⟨_, rfl, ⟨_, rfl, .inr ⟨g, ff, rfl, by omega, HX.out.keep HG.out, rfl⟩⟩, HR3.out.ext HX.out⟩, HM3.out.extR HX.out⟩
set_option maxRecDepth 20000 in
set_option maxHeartbeats 8000000 in
theorem RCmdRange_c (base r : Nat) (W : List (ByteArray × Nat)) (E : Nat) (w : World) (hT : Tabs w) (h : RdAt base w r W E 0 none) (hW : ∀ p ∈ W, p.1.size ≤ 100000000) (hl : W.length ≤ 100000000) (hl0 : 0 < W.length) (hE : E ≤ 100000000) (hv : W[0].1.toList = [114, 97, 110, 103, 101]) :
    Calls Tryz.prog 80 #[.pointer (some ⟨r, 0, none⟩)] w (CmdPost base r W E w (.query ⟨#[114, 97, 110, 103, 101]⟩ (numsF W E 1 none 0) [numsF W E 1 none 1, numsF W E 1 none 2], (numsS W E 1 none 3).1, (numsS W E 1 none 3).2)) := by
  have hrl := h.lt
  have hbr := h.br
  have hb10 := h.b10
  have hs0 : base ≤ w.heap.size := by omega
  have HN1 := Lib.hid (RNext_c base r W E 0 none w h hl (by omega) hE)
  obtain ⟨e1, e2⟩ := next_yes (E := E) hl0
  rw [e1, e2] at HN1
  generalize W[0].1 = vb at *
  clear e1 e2
  go_enter Tryz.func80, Tryz.ntmps80
  go_wp2_with fail
  refine Calls.mono HN1.out ?_
  rintro e w1 ⟨rfl, h1, m1⟩
  have HR2 := Lib.hid (h1.set (a' := 1) (bad' := none) (o := 1) (u := .int .i64 1) (fun v => by simp)).1
  have HM2 := Lib.hid (m1.trans (h1.set (a' := 1) (bad' := none) (o := 1) (u := .int .i64 1) (fun v => by simp)).2)
  have HT2 := Lib.hid (hT.below hb10 (HM2.out.below' hbr hrl))
  obtain ⟨v, hrr, _⟩ := h1.hr
  have rc := (cell_of hrr 1).trans rfl
  have rf := frozen_of hrr 1
  have rl1 := lt_of hrr
  have hs1 := m1.size
  clear HN1 hrr h1 m1
  go_wp2_with fail
  generalize hW2 : w1.setCell ⟨r, 1, none⟩ (.int .i64 1) = w2 at *
  have hs2 : w.heap.size ≤ w2.heap.size := HM2.out.size
  clear rc rf rl1 hW2
  refine Calls.mono (RNums_c base r W E 1 none 3 w2 HT2.out HR2.out hW hl (by omega) hE (by decide)) ?_
  rintro e w3 ⟨⟨g, rfl, hg, hgc⟩, h3, m3⟩
  have HR3 := Lib.hid h3
  have HM3 := Lib.hid (HM2.out.trans m3)
  have HG := Lib.hid hgc
  have gl := lt_of hgc
  have c0 := fill_cell hgc (i := 0) (by decide)
  have c1 := fill_cell hgc (i := 1) (by decide)
  have c2 := fill_cell hgc (i := 2) (by decide)
  clear h3 m3 hgc
  generalize numsS W E 1 none 3 = st at *
  generalize numsF W E 1 none = ff at *
  have hvb := vb_eq hv
  subst hvb
  go_wp2_with fail
  refine wp_region_after (by kernel_rfl) (by kernel_rfl) ?_
  repeat (go_big_quiet_step ((fail)))
  refine wpQuiet_nil ?_
  rintro _ ⟨xx, rfl⟩
  obtain ⟨w4, hb4⟩ := xx
  try dsimp only
  have HX := Lib.hid hb4
  go_wp2_with fail
  go_ret
  exact ⟨⟨_, rfl, ⟨_, rfl, .inr ⟨g, ff, rfl, by omega, HX.out.keep HG.out, rfl⟩⟩, HR3.out.ext HX.out⟩, HM3.out.extR HX.out⟩
set_option maxRecDepth 20000 in
set_option maxHeartbeats 8000000 in
theorem RCmdHeavy_c (base r : Nat) (W : List (ByteArray × Nat)) (E : Nat) (w : World) (hT : Tabs w) (h : RdAt base w r W E 0 none) (hW : ∀ p ∈ W, p.1.size ≤ 100000000) (hl : W.length ≤ 100000000) (hl0 : 0 < W.length) (hE : E ≤ 100000000) (hv : W[0].1.toList = [104, 101, 97, 118, 121]) :
    Calls Tryz.prog 80 #[.pointer (some ⟨r, 0, none⟩)] w (CmdPost base r W E w (.query ⟨#[104, 101, 97, 118, 121]⟩ (numsF W E 1 none 0) [numsF W E 1 none 1, numsF W E 1 none 2], (numsS W E 1 none 3).1, (numsS W E 1 none 3).2)) := by
  have hrl := h.lt
  have hbr := h.br
  have hb10 := h.b10
  have hs0 : base ≤ w.heap.size := by omega
  have HN1 := Lib.hid (RNext_c base r W E 0 none w h hl (by omega) hE)
  obtain ⟨e1, e2⟩ := next_yes (E := E) hl0
  rw [e1, e2] at HN1
  generalize W[0].1 = vb at *
  clear e1 e2
  go_enter Tryz.func80, Tryz.ntmps80
  go_wp2_with fail
  refine Calls.mono HN1.out ?_
  rintro e w1 ⟨rfl, h1, m1⟩
  have HR2 := Lib.hid (h1.set (a' := 1) (bad' := none) (o := 1) (u := .int .i64 1) (fun v => by simp)).1
  have HM2 := Lib.hid (m1.trans (h1.set (a' := 1) (bad' := none) (o := 1) (u := .int .i64 1) (fun v => by simp)).2)
  have HT2 := Lib.hid (hT.below hb10 (HM2.out.below' hbr hrl))
  obtain ⟨v, hrr, _⟩ := h1.hr
  have rc := (cell_of hrr 1).trans rfl
  have rf := frozen_of hrr 1
  have rl1 := lt_of hrr
  have hs1 := m1.size
  clear HN1 hrr h1 m1
  go_wp2_with fail
  generalize hW2 : w1.setCell ⟨r, 1, none⟩ (.int .i64 1) = w2 at *
  have hs2 : w.heap.size ≤ w2.heap.size := HM2.out.size
  clear rc rf rl1 hW2
  refine Calls.mono (RNums_c base r W E 1 none 3 w2 HT2.out HR2.out hW hl (by omega) hE (by decide)) ?_
  rintro e w3 ⟨⟨g, rfl, hg, hgc⟩, h3, m3⟩
  have HR3 := Lib.hid h3
  have HM3 := Lib.hid (HM2.out.trans m3)
  have HG := Lib.hid hgc
  have gl := lt_of hgc
  have c0 := fill_cell hgc (i := 0) (by decide)
  have c1 := fill_cell hgc (i := 1) (by decide)
  have c2 := fill_cell hgc (i := 2) (by decide)
  clear h3 m3 hgc
  generalize numsS W E 1 none 3 = st at *
  generalize numsF W E 1 none = ff at *
  have hvb := vb_eq hv
  subst hvb
  go_wp2_with fail
  refine wp_region_after (by kernel_rfl) (by kernel_rfl) ?_
  repeat (go_big_quiet_step ((fail)))
  refine wpQuiet_nil ?_
  rintro _ ⟨xx, rfl⟩
  obtain ⟨w4, hb4⟩ := xx
  try dsimp only
  have HX := Lib.hid hb4
  go_wp2_with fail
  go_ret
  exact ⟨⟨_, rfl, ⟨_, rfl, .inr ⟨g, ff, rfl, by omega, HX.out.keep HG.out, rfl⟩⟩, HR3.out.ext HX.out⟩, HM3.out.extR HX.out⟩
set_option maxRecDepth 20000 in
set_option maxHeartbeats 8000000 in
theorem RCmdInner_c (base r : Nat) (W : List (ByteArray × Nat)) (E : Nat) (w : World) (hT : Tabs w) (h : RdAt base w r W E 0 none) (hW : ∀ p ∈ W, p.1.size ≤ 100000000) (hl : W.length ≤ 100000000) (hl0 : 0 < W.length) (hE : E ≤ 100000000) (hv : W[0].1.toList = [105, 110, 110, 101, 114]) :
    Calls Tryz.prog 80 #[.pointer (some ⟨r, 0, none⟩)] w (CmdPost base r W E w (.pair ⟨#[105, 110, 110, 101, 114]⟩ (numsF W E 1 none 0) (numsF W E 1 none 1), (numsS W E 1 none 2).1, (numsS W E 1 none 2).2)) := by
  have hrl := h.lt
  have hbr := h.br
  have hb10 := h.b10
  have hs0 : base ≤ w.heap.size := by omega
  have HN1 := Lib.hid (RNext_c base r W E 0 none w h hl (by omega) hE)
  obtain ⟨e1, e2⟩ := next_yes (E := E) hl0
  rw [e1, e2] at HN1
  generalize W[0].1 = vb at *
  clear e1 e2
  go_enter Tryz.func80, Tryz.ntmps80
  go_wp2_with fail
  refine Calls.mono HN1.out ?_
  rintro e w1 ⟨rfl, h1, m1⟩
  have HR2 := Lib.hid (h1.set (a' := 1) (bad' := none) (o := 1) (u := .int .i64 1) (fun v => by simp)).1
  have HM2 := Lib.hid (m1.trans (h1.set (a' := 1) (bad' := none) (o := 1) (u := .int .i64 1) (fun v => by simp)).2)
  have HT2 := Lib.hid (hT.below hb10 (HM2.out.below' hbr hrl))
  obtain ⟨v, hrr, _⟩ := h1.hr
  have rc := (cell_of hrr 1).trans rfl
  have rf := frozen_of hrr 1
  have rl1 := lt_of hrr
  have hs1 := m1.size
  clear HN1 hrr h1 m1
  go_wp2_with fail
  generalize hW2 : w1.setCell ⟨r, 1, none⟩ (.int .i64 1) = w2 at *
  have hs2 : w.heap.size ≤ w2.heap.size := HM2.out.size
  clear rc rf rl1 hW2
  refine Calls.mono (RNums_c base r W E 1 none 2 w2 HT2.out HR2.out hW hl (by omega) hE (by decide)) ?_
  rintro e w3 ⟨⟨g, rfl, hg, hgc⟩, h3, m3⟩
  have HR3 := Lib.hid h3
  have HM3 := Lib.hid (HM2.out.trans m3)
  have HG := Lib.hid hgc
  have gl := lt_of hgc
  have c0 := fill_cell hgc (i := 0) (by decide)
  have c1 := fill_cell hgc (i := 1) (by decide)
  clear h3 m3 hgc
  generalize numsS W E 1 none 2 = st at *
  generalize numsF W E 1 none = ff at *
  have hvb := vb_eq hv
  subst hvb
  go_wp2_with fail
  refine wp_region_after (by kernel_rfl) (by kernel_rfl) ?_
  repeat (go_big_quiet_step ((fail)))
  refine wpQuiet_nil ?_
  rintro _ ⟨xx, rfl⟩
  obtain ⟨w4, hb4⟩ := xx
  try dsimp only
  have HX := Lib.hid hb4
  go_wp2_with fail
  go_ret
  exact ⟨⟨_, rfl, (by show _ = _; rfl), HR3.out.ext HX.out⟩, HM3.out.extR HX.out⟩
set_option maxRecDepth 20000 in
set_option maxHeartbeats 8000000 in
theorem RCmdMerge_c (base r : Nat) (W : List (ByteArray × Nat)) (E : Nat) (w : World) (hT : Tabs w) (h : RdAt base w r W E 0 none) (hW : ∀ p ∈ W, p.1.size ≤ 100000000) (hl : W.length ≤ 100000000) (hl0 : 0 < W.length) (hE : E ≤ 100000000) (hv : W[0].1.toList = [109, 101, 114, 103, 101]) :
    Calls Tryz.prog 80 #[.pointer (some ⟨r, 0, none⟩)] w (CmdPost base r W E w (.pair ⟨#[109, 101, 114, 103, 101]⟩ (numsF W E 1 none 0) (numsF W E 1 none 1), (numsS W E 1 none 2).1, (numsS W E 1 none 2).2)) := by
  have hrl := h.lt
  have hbr := h.br
  have hb10 := h.b10
  have hs0 : base ≤ w.heap.size := by omega
  have HN1 := Lib.hid (RNext_c base r W E 0 none w h hl (by omega) hE)
  obtain ⟨e1, e2⟩ := next_yes (E := E) hl0
  rw [e1, e2] at HN1
  generalize W[0].1 = vb at *
  clear e1 e2
  go_enter Tryz.func80, Tryz.ntmps80
  go_wp2_with fail
  refine Calls.mono HN1.out ?_
  rintro e w1 ⟨rfl, h1, m1⟩
  have HR2 := Lib.hid (h1.set (a' := 1) (bad' := none) (o := 1) (u := .int .i64 1) (fun v => by simp)).1
  have HM2 := Lib.hid (m1.trans (h1.set (a' := 1) (bad' := none) (o := 1) (u := .int .i64 1) (fun v => by simp)).2)
  have HT2 := Lib.hid (hT.below hb10 (HM2.out.below' hbr hrl))
  obtain ⟨v, hrr, _⟩ := h1.hr
  have rc := (cell_of hrr 1).trans rfl
  have rf := frozen_of hrr 1
  have rl1 := lt_of hrr
  have hs1 := m1.size
  clear HN1 hrr h1 m1
  go_wp2_with fail
  generalize hW2 : w1.setCell ⟨r, 1, none⟩ (.int .i64 1) = w2 at *
  have hs2 : w.heap.size ≤ w2.heap.size := HM2.out.size
  clear rc rf rl1 hW2
  refine Calls.mono (RNums_c base r W E 1 none 2 w2 HT2.out HR2.out hW hl (by omega) hE (by decide)) ?_
  rintro e w3 ⟨⟨g, rfl, hg, hgc⟩, h3, m3⟩
  have HR3 := Lib.hid h3
  have HM3 := Lib.hid (HM2.out.trans m3)
  have HG := Lib.hid hgc
  have gl := lt_of hgc
  have c0 := fill_cell hgc (i := 0) (by decide)
  have c1 := fill_cell hgc (i := 1) (by decide)
  clear h3 m3 hgc
  generalize numsS W E 1 none 2 = st at *
  generalize numsF W E 1 none = ff at *
  have hvb := vb_eq hv
  subst hvb
  go_wp2_with fail
  refine wp_region_after (by kernel_rfl) (by kernel_rfl) ?_
  repeat (go_big_quiet_step ((fail)))
  refine wpQuiet_nil ?_
  rintro _ ⟨xx, rfl⟩
  obtain ⟨w4, hb4⟩ := xx
  try dsimp only
  have HX := Lib.hid hb4
  go_wp2_with fail
  go_ret
  exact ⟨⟨_, rfl, (by show _ = _; rfl), HR3.out.ext HX.out⟩, HM3.out.extR HX.out⟩
set_option maxRecDepth 20000 in
set_option maxHeartbeats 8000000 in
theorem RCmdSubtract_c (base r : Nat) (W : List (ByteArray × Nat)) (E : Nat) (w : World) (hT : Tabs w) (h : RdAt base w r W E 0 none) (hW : ∀ p ∈ W, p.1.size ≤ 100000000) (hl : W.length ≤ 100000000) (hl0 : 0 < W.length) (hE : E ≤ 100000000) (hv : W[0].1.toList = [115, 117, 98, 116, 114, 97, 99, 116]) :
    Calls Tryz.prog 80 #[.pointer (some ⟨r, 0, none⟩)] w (CmdPost base r W E w (.pair ⟨#[115, 117, 98, 116, 114, 97, 99, 116]⟩ (numsF W E 1 none 0) (numsF W E 1 none 1), (numsS W E 1 none 2).1, (numsS W E 1 none 2).2)) := by
  have hrl := h.lt
  have hbr := h.br
  have hb10 := h.b10
  have hs0 : base ≤ w.heap.size := by omega
  have HN1 := Lib.hid (RNext_c base r W E 0 none w h hl (by omega) hE)
  obtain ⟨e1, e2⟩ := next_yes (E := E) hl0
  rw [e1, e2] at HN1
  generalize W[0].1 = vb at *
  clear e1 e2
  go_enter Tryz.func80, Tryz.ntmps80
  go_wp2_with fail
  refine Calls.mono HN1.out ?_
  rintro e w1 ⟨rfl, h1, m1⟩
  have HR2 := Lib.hid (h1.set (a' := 1) (bad' := none) (o := 1) (u := .int .i64 1) (fun v => by simp)).1
  have HM2 := Lib.hid (m1.trans (h1.set (a' := 1) (bad' := none) (o := 1) (u := .int .i64 1) (fun v => by simp)).2)
  have HT2 := Lib.hid (hT.below hb10 (HM2.out.below' hbr hrl))
  obtain ⟨v, hrr, _⟩ := h1.hr
  have rc := (cell_of hrr 1).trans rfl
  have rf := frozen_of hrr 1
  have rl1 := lt_of hrr
  have hs1 := m1.size
  clear HN1 hrr h1 m1
  go_wp2_with fail
  generalize hW2 : w1.setCell ⟨r, 1, none⟩ (.int .i64 1) = w2 at *
  have hs2 : w.heap.size ≤ w2.heap.size := HM2.out.size
  clear rc rf rl1 hW2
  refine Calls.mono (RNums_c base r W E 1 none 2 w2 HT2.out HR2.out hW hl (by omega) hE (by decide)) ?_
  rintro e w3 ⟨⟨g, rfl, hg, hgc⟩, h3, m3⟩
  have HR3 := Lib.hid h3
  have HM3 := Lib.hid (HM2.out.trans m3)
  have HG := Lib.hid hgc
  have gl := lt_of hgc
  have c0 := fill_cell hgc (i := 0) (by decide)
  have c1 := fill_cell hgc (i := 1) (by decide)
  clear h3 m3 hgc
  generalize numsS W E 1 none 2 = st at *
  generalize numsF W E 1 none = ff at *
  have hvb := vb_eq hv
  subst hvb
  go_wp2_with fail
  refine wp_region_after (by kernel_rfl) (by kernel_rfl) ?_
  repeat (go_big_quiet_step ((fail)))
  refine wpQuiet_nil ?_
  rintro _ ⟨xx, rfl⟩
  obtain ⟨w4, hb4⟩ := xx
  try dsimp only
  have HX := Lib.hid hb4
  go_wp2_with fail
  go_ret
  exact ⟨⟨_, rfl, (by show _ = _; rfl), HR3.out.ext HX.out⟩, HM3.out.extR HX.out⟩
end Go.Proofs.YtmalncfcgcebhaaGreatDoor
namespace Go.Proofs.YtmalncfcgcebhaaGreatDoor
set_option linter.unusedVariables false
open Go.Proofs Go.RowKit
theorem own_modR {base b r E a n size : Nat} {w w' : World} {W : List (ByteArray × Nat)} {bad : Option Nat} {e : TypeId} {v : Value} {xs : List Value} (h : w.ownsRow b e size v n xs) (hr : RdAt base w r W E a bad) (hm : Mod (fun k => k = r) w w') (hT : 164 ≠ e) : w'.ownsRow b e size v n xs := by
  obtain ⟨u, h1, _⟩ := hr.hr
  exact own_keepB h fun k hk => hm.block k (own_lt h hk) fun e => own_notB h h1 hT (e ▸ hk)
def impR (W : List (ByteArray × Nat)) (E : Nat) : Cmd × Nat × Option Nat :=
  (.imp ((hexFrom (nextT W 1 none).data.toList).getD []), 2, if hexOk (nextT W 1 none).data.toList = true then nextB W E 1 none else failR W E 1 (nextB W E 1 none))
set_option maxRecDepth 20000 in
set_option maxHeartbeats 8000000 in
theorem RCmdImport_c (base r : Nat) (W : List (ByteArray × Nat)) (E : Nat) (w : World) (hT : Tabs w) (h : RdAt base w r W E 0 none) (hW : ∀ p ∈ W, p.1.size ≤ 100000000) (hl : W.length ≤ 100000000) (hl0 : 0 < W.length) (hE : E ≤ 100000000) (hv : W[0].1.toList = [105, 109, 112, 111, 114, 116]) :
    Calls Tryz.prog 80 #[.pointer (some ⟨r, 0, none⟩)] w (CmdPost base r W E w (impR W E)) := by
  have hrl := h.lt
  have hbr := h.br
  have hb10 := h.b10
  have hs0 : base ≤ w.heap.size := by omega
  have HN1 := Lib.hid (RNext_c base r W E 0 none w h hl (by omega) hE)
  obtain ⟨e1, e2⟩ := next_yes (E := E) hl0
  rw [e1, e2] at HN1
  generalize W[0].1 = vb at *
  clear e1 e2
  have ht := nextT_size hW 1 none
  have HNX := fun w' h => Lib.hid (RNext_c base r W E 1 none w' h hl (by omega) hE)
  unfold impR
  generalize nextT W 1 none = t at *
  generalize nextB W E 1 none = b1 at *
  have HBY := fun w' => Lib.hid (Bytes_c t ht w')
  unfold HexPost at HBY
  generalize hok : hexOk t.data.toList = ok at *
  clear hok
  generalize hrb : (if ok = true then b1 else failR W E 1 b1) = rb
  have HRB := Lib.hid hrb
  clear hrb
  go_enter Tryz.func80, Tryz.ntmps80
  go_wp2_with fail
  refine Calls.mono HN1.out ?_
  rintro e w1 ⟨rfl, h1, m1⟩
  have HR2 := Lib.hid (h1.set (a' := 1) (bad' := none) (o := 1) (u := .int .i64 1) (fun v => by simp)).1
  have HM2 := Lib.hid (m1.trans (h1.set (a' := 1) (bad' := none) (o := 1) (u := .int .i64 1) (fun v => by simp)).2)
  have HT2 := Lib.hid (hT.below hb10 (HM2.out.below' hbr hrl))
  obtain ⟨v, hrr, _⟩ := h1.hr
  have rc := (cell_of hrr 1).trans rfl
  have rf := frozen_of hrr 1
  have rl1 := lt_of hrr
  have hs1 := m1.size
  clear HN1 hrr h1 m1
  go_wp2_with fail
  generalize hW2 : w1.setCell ⟨r, 1, none⟩ (.int .i64 1) = w2 at *
  have hs2 : w.heap.size ≤ w2.heap.size := HM2.out.size
  clear rc rf rl1 hW2
  refine Calls.mono (HNX w2 HR2.out).out ?_
  rintro e w3 ⟨rfl, h3, m3⟩
  have HR3 := Lib.hid h3
  have HM3 := Lib.hid (HM2.out.trans m3)
  have hs3 := HM3.out.size
  clear h3 m3
  go_wp2_with fail
  refine Calls.mono (HBY w3).out ?_
  rintro e w4 ⟨⟨bv, bs, rfl, hbo, hbs⟩, hx4⟩
  obtain ⟨po, co, rfl⟩ := own_sl hbo
  have HR4 := Lib.hid (HR3.out.ext hx4)
  have HM4 := Lib.hid (HM3.out.extR hx4)
  have HO4 := Lib.hid (own_bmono hbo (show base ≤ w3.heap.size by omega))
  have HBS := Lib.hid hbs
  clear hbo hx4 hbs HBY HNX
  cases ok with
  | true =>
    obtain ⟨v4, hrr4, _⟩ := HR4.out.hr
    have rc := (cell_of hrr4 1).trans rfl
    have rf := frozen_of hrr4 1
    have rl4 := lt_of hrr4
    have HS := Lib.hid (HR4.out.set (a' := 2) (bad' := b1) (o := 1) (u := .int .i64 2) (fun v => by simp))
    have HO5 := Lib.hid (own_modR HO4.out HR4.out HS.out.2 (by decide))
    clear hrr4
    go_wp2_with fail
    go_ret
    have hrb : b1 = rb := HRB.out
    refine ⟨⟨_, rfl, ⟨_, rfl, by rw [HBS.out]; exact HO5.out⟩, ?_⟩, HM4.out.trans HS.out.2⟩
    rw [← hrb]
    exact HS.out.1
  | false =>
    go_wp2_with fail
    refine Calls.mono (RFail_c base r W E 1 b1 w4 HR4.out hl (by omega) hE) ?_
    rintro e w5 ⟨rfl, h5, m5⟩
    have HO5 := Lib.hid (own_modR HO4.out HR4.out m5 (by decide))
    have HR5 := Lib.hid h5
    have HM5 := Lib.hid (HM4.out.trans m5)
    clear h5 m5 HR4 HM4 HO4
    generalize hfr : failR W E 1 b1 = fb at *
    clear hfr
    obtain ⟨v4, hrr4, _⟩ := HR5.out.hr
    have rc := (cell_of hrr4 1).trans rfl
    have rf := frozen_of hrr4 1
    have rl4 := lt_of hrr4
    have HS := Lib.hid (HR5.out.set (a' := 2) (bad' := fb) (o := 1) (u := .int .i64 2) (fun v => by simp))
    have HO6 := Lib.hid (own_modR HO5.out HR5.out HS.out.2 (by decide))
    clear hrr4
    go_wp2_with fail
    go_ret
    refine ⟨⟨_, rfl, ⟨_, rfl, by rw [HBS.out]; exact HO6.out⟩, ?_⟩, HM5.out.trans HS.out.2⟩
    have hrb : fb = rb := HRB.out
    rw [← hrb]
    exact HS.out.1
def verbs : List (List UInt8) := [[99, 114, 101, 97, 116, 101], [119, 105, 110, 100, 111, 119], [97, 100, 100], [116, 105, 99, 107], [116, 111, 116, 97, 108], [101, 120, 112, 111, 114, 116], [100, 114, 111, 112], [113, 117, 97, 110, 116, 105, 108, 101], [112, 111, 105, 110, 116], [114, 97, 110, 103, 101], [104, 101, 97, 118, 121], [105, 110, 110, 101, 114], [109, 101, 114, 103, 101], [115, 117, 98, 116, 114, 97, 99, 116], [105, 109, 112, 111, 114, 116]]
set_option maxRecDepth 20000 in
set_option maxHeartbeats 8000000 in
theorem RCmdNo_c (base r : Nat) (W : List (ByteArray × Nat)) (E : Nat) (w : World) (hT : Tabs w) (h : RdAt base w r W E 0 none) (hW : ∀ p ∈ W, p.1.size ≤ 100000000) (hl : W.length ≤ 100000000) (hl0 : 0 < W.length) (hE : E ≤ 100000000) (hv : W[0].1.toList ∉ verbs) :
    Calls Tryz.prog 80 #[.pointer (some ⟨r, 0, none⟩)] w fun e w' => (e = .returned .nilIface ∧ RdAt base w' r W E 0 (failR W E 0 none)) ∧ Mod (fun k => k = r) w w' := by
  have hrl := h.lt
  have hbr := h.br
  have hb10 := h.b10
  have hs0 : base ≤ w.heap.size := by omega
  have HN1 := Lib.hid (RNext_c base r W E 0 none w h hl (by omega) hE)
  obtain ⟨e1, e2⟩ := next_yes (E := E) hl0
  rw [e1, e2] at HN1
  generalize W[0].1 = vb at *
  clear e1 e2
  have n0 : (vb.toList == [99, 114, 101, 97, 116, 101]) = false := beq_eq_false_iff_ne.2 fun e => hv (by rw [e]; decide)
  have n1 : (vb.toList == [119, 105, 110, 100, 111, 119]) = false := beq_eq_false_iff_ne.2 fun e => hv (by rw [e]; decide)
  have n2 : (vb.toList == [97, 100, 100]) = false := beq_eq_false_iff_ne.2 fun e => hv (by rw [e]; decide)
  have n3 : (vb.toList == [116, 105, 99, 107]) = false := beq_eq_false_iff_ne.2 fun e => hv (by rw [e]; decide)
  have n4 : (vb.toList == [116, 111, 116, 97, 108]) = false := beq_eq_false_iff_ne.2 fun e => hv (by rw [e]; decide)
  have n5 : (vb.toList == [101, 120, 112, 111, 114, 116]) = false := beq_eq_false_iff_ne.2 fun e => hv (by rw [e]; decide)
  have n6 : (vb.toList == [100, 114, 111, 112]) = false := beq_eq_false_iff_ne.2 fun e => hv (by rw [e]; decide)
  have n7 : (vb.toList == [113, 117, 97, 110, 116, 105, 108, 101]) = false := beq_eq_false_iff_ne.2 fun e => hv (by rw [e]; decide)
  have n8 : (vb.toList == [112, 111, 105, 110, 116]) = false := beq_eq_false_iff_ne.2 fun e => hv (by rw [e]; decide)
  have n9 : (vb.toList == [114, 97, 110, 103, 101]) = false := beq_eq_false_iff_ne.2 fun e => hv (by rw [e]; decide)
  have n10 : (vb.toList == [104, 101, 97, 118, 121]) = false := beq_eq_false_iff_ne.2 fun e => hv (by rw [e]; decide)
  have n11 : (vb.toList == [105, 110, 110, 101, 114]) = false := beq_eq_false_iff_ne.2 fun e => hv (by rw [e]; decide)
  have n12 : (vb.toList == [109, 101, 114, 103, 101]) = false := beq_eq_false_iff_ne.2 fun e => hv (by rw [e]; decide)
  have n13 : (vb.toList == [115, 117, 98, 116, 114, 97, 99, 116]) = false := beq_eq_false_iff_ne.2 fun e => hv (by rw [e]; decide)
  have n14 : (vb.toList == [105, 109, 112, 111, 114, 116]) = false := beq_eq_false_iff_ne.2 fun e => hv (by rw [e]; decide)
  clear hv
  go_enter Tryz.func80, Tryz.ntmps80
  go_wp2_with fail
  refine Calls.mono HN1.out ?_
  rintro e w1 ⟨rfl, h1, m1⟩
  have HR2 := Lib.hid (h1.set (a' := 1) (bad' := none) (o := 1) (u := .int .i64 1) (fun v => by simp)).1
  have HM2 := Lib.hid (m1.trans (h1.set (a' := 1) (bad' := none) (o := 1) (u := .int .i64 1) (fun v => by simp)).2)
  have HT2 := Lib.hid (hT.below hb10 (HM2.out.below' hbr hrl))
  obtain ⟨v, hrr, _⟩ := h1.hr
  have rc := (cell_of hrr 1).trans rfl
  have rf := frozen_of hrr 1
  have rl1 := lt_of hrr
  have hs1 := m1.size
  clear HN1 hrr h1 m1
  generalize hW2 : w1.setCell ⟨r, 1, none⟩ (.int .i64 1) = w2 at HR2 HM2 HT2
  have HS := Lib.hid (HR2.out.set (a' := 0) (bad' := none) (o := 1) (u := .int .i64 0) (fun v => by simp))
  have HW2 := Lib.hid hW2
  clear hW2
  go_wp2_with fail
  rw [HW2.out]
  refine Calls.mono (RFail_c base r W E 0 none _ HS.out.1 hl (by omega) hE) ?_
  rintro e w5 ⟨rfl, h5, m5⟩
  have HM5 := Lib.hid ((HM2.out.trans HS.out.2).trans m5)
  have HR5 := Lib.hid h5
  clear h5 m5
  go_wp2
  go_ret
  exact ⟨⟨rfl, HR5.out⟩, HM5.out⟩
end Go.Proofs.YtmalncfcgcebhaaGreatDoor
namespace Go.Proofs.YtmalncfcgcebhaaGreatDoor
set_option linter.unusedVariables false
open Go.Proofs Go.RowKit
/-- The command that words say, and the reader behind it. -/
def cmdR (W : List (ByteArray × Nat)) (E : Nat) : Option Cmd × Nat × Option Nat :=
  let v := (nextT W 0 none).toList
  if v = [99, 114, 101, 97, 116, 101] then (some (.create (numsF W E 1 none 0) (numsF W E 1 none 1) (numsF W E 1 none 2) (numsF W E 1 none 3) ((numsF W E 1 none 4) % 18446744073709551616)), (numsS W E 1 none 5).1, (numsS W E 1 none 5).2) else
  if v = [119, 105, 110, 100, 111, 119] then (some (.window (numsF W E 1 none 0) (numsF W E 1 none 1) (numsF W E 1 none 2) ((numsF W E 1 none 3) % 18446744073709551616) (numsF W E 1 none 4)), (numsS W E 1 none 5).1, (numsS W E 1 none 5).2) else
  if v = [97, 100, 100] then (some (.add (addR W E 1 none).1.1 (addR W E 1 none).1.2.1 (addR W E 1 none).1.2.2.1 (addR W E 1 none).1.2.2.2.1 (addR W E 1 none).1.2.2.2.2), (addR W E 1 none).2.1, (addR W E 1 none).2.2) else
  if v = [116, 105, 99, 107] then (some .tick, 1, none) else
  if v = [116, 111, 116, 97, 108] then (some (.query ⟨#[116, 111, 116, 97, 108]⟩ (numR W E 1 none).1 []), (numR W E 1 none).2.1, (numR W E 1 none).2.2) else
  if v = [101, 120, 112, 111, 114, 116] then (some (.query ⟨#[101, 120, 112, 111, 114, 116]⟩ (numR W E 1 none).1 []), (numR W E 1 none).2.1, (numR W E 1 none).2.2) else
  if v = [100, 114, 111, 112] then (some (.query ⟨#[100, 114, 111, 112]⟩ (numR W E 1 none).1 []), (numR W E 1 none).2.1, (numR W E 1 none).2.2) else
  if v = [113, 117, 97, 110, 116, 105, 108, 101] then (some (.query ⟨#[113, 117, 97, 110, 116, 105, 108, 101]⟩ (numsF W E 1 none 0) [numsF W E 1 none 1]), (numsS W E 1 none 2).1, (numsS W E 1 none 2).2) else
  if v = [112, 111, 105, 110, 116] then (some (.query ⟨#[112, 111, 105, 110, 116]⟩ (numsF W E 1 none 0) [numsF W E 1 none 1, numsF W E 1 none 2]), (numsS W E 1 none 3).1, (numsS W E 1 none 3).2) else
  if v = [114, 97, 110, 103, 101] then (some (.query ⟨#[114, 97, 110, 103, 101]⟩ (numsF W E 1 none 0) [numsF W E 1 none 1, numsF W E 1 none 2]), (numsS W E 1 none 3).1, (numsS W E 1 none 3).2) else
  if v = [104, 101, 97, 118, 121] then (some (.query ⟨#[104, 101, 97, 118, 121]⟩ (numsF W E 1 none 0) [numsF W E 1 none 1, numsF W E 1 none 2]), (numsS W E 1 none 3).1, (numsS W E 1 none 3).2) else
  if v = [105, 110, 110, 101, 114] then (some (.pair ⟨#[105, 110, 110, 101, 114]⟩ (numsF W E 1 none 0) (numsF W E 1 none 1)), (numsS W E 1 none 2).1, (numsS W E 1 none 2).2) else
  if v = [109, 101, 114, 103, 101] then (some (.pair ⟨#[109, 101, 114, 103, 101]⟩ (numsF W E 1 none 0) (numsF W E 1 none 1)), (numsS W E 1 none 2).1, (numsS W E 1 none 2).2) else
  if v = [115, 117, 98, 116, 114, 97, 99, 116] then (some (.pair ⟨#[115, 117, 98, 116, 114, 97, 99, 116]⟩ (numsF W E 1 none 0) (numsF W E 1 none 1)), (numsS W E 1 none 2).1, (numsS W E 1 none 2).2) else
  if v = [105, 109, 112, 111, 114, 116] then (some (impR W E).1, (impR W E).2.1, (impR W E).2.2) else
  (none, 0, failR W E 0 none)
def CmdOAt (base : Nat) (w : World) (v : Value) : Option Cmd → Prop
  | none => v = .nilIface
  | some c => CmdAt base w v c
set_option maxHeartbeats 1000000 in
theorem RCmd_c (base r : Nat) (W : List (ByteArray × Nat)) (E : Nat) (w : World) (hT : Tabs w) (h : RdAt base w r W E 0 none) (hW : ∀ p ∈ W, p.1.size ≤ 100000000) (hl : W.length ≤ 100000000) (hl0 : 0 < W.length) (hE : E ≤ 100000000) :
    Calls Tryz.prog 80 #[.pointer (some ⟨r, 0, none⟩)] w fun e w' => (∃ v, e = .returned v ∧ CmdOAt base w' v (cmdR W E).1 ∧ RdAt base w' r W E (cmdR W E).2.1 (cmdR W E).2.2) ∧ Mod (fun k => k = r) w w' := by
  have e1 := (next_yes (E := E) hl0).1
  unfold cmdR
  rw [e1]
  dsimp only
  by_cases c0 : W[0].1.toList = [99, 114, 101, 97, 116, 101]
  · rw [if_pos c0]
    exact RCmdCreate_c base r W E w hT h hW hl hl0 hE c0
  rw [if_neg c0]
  by_cases c1 : W[0].1.toList = [119, 105, 110, 100, 111, 119]
  · rw [if_pos c1]
    exact RCmdWindow_c base r W E w hT h hW hl hl0 hE c1
  rw [if_neg c1]
  by_cases c2 : W[0].1.toList = [97, 100, 100]
  · rw [if_pos c2]
    exact RCmdAdd_c base r W E w hT h hW hl hl0 hE c2
  rw [if_neg c2]
  by_cases c3 : W[0].1.toList = [116, 105, 99, 107]
  · rw [if_pos c3]
    exact RCmdTick_c base r W E w hT h hW hl hl0 hE c3
  rw [if_neg c3]
  by_cases c4 : W[0].1.toList = [116, 111, 116, 97, 108]
  · rw [if_pos c4]
    exact RCmdTotal_c base r W E w hT h hW hl hl0 hE c4
  rw [if_neg c4]
  by_cases c5 : W[0].1.toList = [101, 120, 112, 111, 114, 116]
  · rw [if_pos c5]
    exact RCmdExport_c base r W E w hT h hW hl hl0 hE c5
  rw [if_neg c5]
  by_cases c6 : W[0].1.toList = [100, 114, 111, 112]
  · rw [if_pos c6]
    exact RCmdDrop_c base r W E w hT h hW hl hl0 hE c6
  rw [if_neg c6]
  by_cases c7 : W[0].1.toList = [113, 117, 97, 110, 116, 105, 108, 101]
  · rw [if_pos c7]
    exact RCmdQuantile_c base r W E w hT h hW hl hl0 hE c7
  rw [if_neg c7]
  by_cases c8 : W[0].1.toList = [112, 111, 105, 110, 116]
  · rw [if_pos c8]
    exact RCmdPoint_c base r W E w hT h hW hl hl0 hE c8
  rw [if_neg c8]
  by_cases c9 : W[0].1.toList = [114, 97, 110, 103, 101]
  · rw [if_pos c9]
    exact RCmdRange_c base r W E w hT h hW hl hl0 hE c9
  rw [if_neg c9]
  by_cases c10 : W[0].1.toList = [104, 101, 97, 118, 121]
  · rw [if_pos c10]
    exact RCmdHeavy_c base r W E w hT h hW hl hl0 hE c10
  rw [if_neg c10]
  by_cases c11 : W[0].1.toList = [105, 110, 110, 101, 114]
  · rw [if_pos c11]
    exact RCmdInner_c base r W E w hT h hW hl hl0 hE c11
  rw [if_neg c11]
  by_cases c12 : W[0].1.toList = [109, 101, 114, 103, 101]
  · rw [if_pos c12]
    exact RCmdMerge_c base r W E w hT h hW hl hl0 hE c12
  rw [if_neg c12]
  by_cases c13 : W[0].1.toList = [115, 117, 98, 116, 114, 97, 99, 116]
  · rw [if_pos c13]
    exact RCmdSubtract_c base r W E w hT h hW hl hl0 hE c13
  rw [if_neg c13]
  by_cases c14 : W[0].1.toList = [105, 109, 112, 111, 114, 116]
  · rw [if_pos c14]
    exact RCmdImport_c base r W E w hT h hW hl hl0 hE c14
  rw [if_neg c14]
  refine (RCmdNo_c base r W E w hT h hW hl hl0 hE ?_).mono ?_
  · unfold verbs
    simp only [List.mem_cons, List.not_mem_nil, or_false, not_or]
    exact ⟨c0, c1, c2, c3, c4, c5, c6, c7, c8, c9, c10, c11, c12, c13, c14⟩
  · rintro e w' ⟨⟨rfl, h1⟩, h2⟩
    exact ⟨⟨_, rfl, rfl, h1⟩, h2⟩
/-- The words of a text, with their places. -/
def wds (s : ByteArray) : List (ByteArray × Nat) := (wordsS s).map fun p => (s.extract p.1 p.2, p.1)
theorem wds_wordV (s : ByteArray) : ∀ l : List (Nat × Nat), wordV s l = wdV (l.map fun p => (s.extract p.1 p.2, p.1))
  | [] => rfl
  | p :: l => by
    show [.string (s.extract p.1 p.2), .int .i64 (p.1 : Int)] ++ wordV s l = _
    rw [wds_wordV s l]
    rfl
theorem extract_size_le (s : ByteArray) (a b : Nat) : (s.extract a b).size ≤ s.size := by
  rw [Lib.size_eq, Lib.extract_data, List.length_take, List.length_drop, ← Lib.size_eq]
  omega
theorem wds_size (s : ByteArray) : ∀ p ∈ wds s, p.1.size ≤ s.size := by
  intro p hp
  obtain ⟨q, _, rfl⟩ := List.mem_map.1 hp
  exact extract_size_le s _ _
theorem wordsFrom_len (s : ByteArray) : ∀ (f a : Nat), a ≤ s.size → (wordsFrom s f a).length ≤ s.size - a
  | 0, _, _ => Nat.zero_le _
  | f + 1, a, h => by
    unfold wordsFrom
    by_cases ha : a < s.size
    · rw [if_pos ha]
      by_cases h32 : s.data.toList.getD a 0 = 32
      · rw [if_pos h32]
        have := wordsFrom_len s f (a + 1) (by omega)
        omega
      · rw [if_neg h32, List.length_cons]
        have h1 := wordEnd_gt s a ha h32
        have h2 := (wordEnd_le s s.size _ (wordSkip_le s a ha).2.1).2
        have := wordsFrom_len s f (wordEnd s s.size (wordSkip s a)) h2
        omega
    · rw [if_neg ha]; exact Nat.zero_le _
theorem wds_len (s : ByteArray) : (wds s).length ≤ s.size := by
  unfold wds wordsS
  rw [List.length_map]
  have := wordsFrom_len s (s.size + 1) 0 (Nat.zero_le _)
  omega
/-- Where the words of a line do not fit: behind the command, and behind its last word. -/
def badS (W : List (ByteArray × Nat)) (E : Nat) : Option Nat :=
  match (cmdR W E).2.2 with
  | some b => some b
  | none => if (cmdR W E).2.1 < W.length then failR W E (cmdR W E).2.1 none else none
/-- What a line says: the command, the place, the error. -/
def parseS (s : ByteArray) : Option Cmd × Int × Int :=
  if 65536 < s.size then (none, 0, 1)
  else if 0 ≤ tornS s then (none, tornS s, 13)
  else if wds s = [] then (none, 0, 0)
  else match badS (wds s) s.size with
    | some b => (none, (b : Int), 12)
    | none => ((cmdR (wds s) s.size).1, 0, 0)
theorem Tabs.size {w : World} (h : Tabs w) : 10 ≤ w.heap.size := by
  obtain ⟨te, pe, h1⟩ := h.rng
  exact lt_of_cell h1
def ParsePost (w : World) (R : Option Cmd × Int × Int) (e : Ending) (w' : World) : Prop :=
  (∃ v, e = .returned (.tuple #[v, .int .i64 R.2.1, .int .i64 R.2.2]) ∧ CmdOAt w.heap.size w' v R.1) ∧ Ext w w'
end Go.Proofs.YtmalncfcgcebhaaGreatDoor
namespace Go.Proofs.YtmalncfcgcebhaaGreatDoor
set_option linter.unusedVariables false
open Go.Proofs Go.RowKit
theorem parse_long {s : ByteArray} (h : 65536 < s.size) : parseS s = (none, 0, 1) := by unfold parseS; rw [if_pos h]
theorem parse_torn {s : ByteArray} (h : ¬ 65536 < s.size) (ht : 0 ≤ tornS s) : parseS s = (none, tornS s, 13) := by unfold parseS; rw [if_neg h, if_pos ht]
theorem parse_nil {s : ByteArray} (h : ¬ 65536 < s.size) (ht : ¬ 0 ≤ tornS s) (hn : wds s = []) : parseS s = (none, 0, 0) := by unfold parseS; rw [if_neg h, if_neg ht, if_pos hn]
theorem parse_some {s : ByteArray} (h : ¬ 65536 < s.size) (ht : ¬ 0 ≤ tornS s) (hn : wds s ≠ []) {b : Nat} (hb : badS (wds s) s.size = some b) : parseS s = (none, (b : Int), 12) := by unfold parseS; rw [if_neg h, if_neg ht, if_neg hn, hb]
theorem parse_none {s : ByteArray} (h : ¬ 65536 < s.size) (ht : ¬ 0 ≤ tornS s) (hn : wds s ≠ []) (hb : badS (wds s) s.size = none) : parseS s = ((cmdR (wds s) s.size).1, 0, 0) := by unfold parseS; rw [if_neg h, if_neg ht, if_neg hn, hb]
theorem CmdOAt.ext {base : Nat} {w w' : World} {v : Value} {c : Option Cmd} (h : CmdOAt base w v c) (hx : Ext w w') : CmdOAt base w' v c := by
  cases c with
  | none => exact h
  | some c =>
    cases c with
    | create => exact h
    | window => exact h
    | add => exact h
    | tick => exact h
    | pair => exact h
    | query what hh l =>
      obtain ⟨s, h1, h2⟩ := h
      refine ⟨s, h1, ?_⟩
      rcases h2 with h2 | ⟨g, f, h3, h4, h5, h6⟩
      · exact .inl h2
      · exact .inr ⟨g, f, h3, h4, hx.keep h5, h6⟩
    | imp bs =>
      obtain ⟨s, h1, h2⟩ := h
      exact ⟨s, h1, own_ext h2 hx⟩
theorem ModN.ext {r B : Nat} {w w' : World} (h : ModN r B w w') (hr : w.heap.size ≤ r) (hB : w.heap.size ≤ B) : Ext w w' :=
  h.m.below (Nat.le_refl _) fun k hk => by rcases hk with hk | hk <;> omega
set_option maxRecDepth 20000 in
set_option maxHeartbeats 8000000 in
theorem Parse_c (s : ByteArray) (hs : s.size ≤ 100000000) (w : World) (hT : Tabs w) :
    Calls Tryz.prog 42 #[.string s] w (ParsePost w (parseS s)) := by
  by_cases hlg : 65536 < s.size
  · rw [parse_long hlg]
    go_enter Tryz.func42, Tryz.ntmps42
    go_wp2
    go_ret3
    exact ⟨⟨_, rfl, rfl⟩, Ext.refl _⟩
  have HTO := Lib.hid (Torn_c s (by omega) w hT)
  by_cases ht : 0 ≤ tornS s
  · rw [parse_torn hlg ht]
    generalize tornS s = tn at *
    go_enter Tryz.func42, Tryz.ntmps42
    go_wp2_with fail
    refine Calls.mono HTO.out ?_
    rintro e w1 ⟨rfl, hx1⟩
    go_wp2
    go_ret3
    exact ⟨⟨_, rfl, rfl⟩, hx1⟩
  have HWD := fun w' h => Lib.hid (Words_c s hs w' h)
  have hlen := wds_len s
  have hwz := wds_size s
  have hB := hT.size
  have HPN : Hid (wds s = [] → parseS s = (none, 0, 0)) := fun h => parse_nil hlg ht h
  have HPB : Hid (wds s ≠ [] → ∀ b, badS (wds s) s.size = some b → parseS s = (none, (b : Int), 12)) := fun h b hb => parse_some hlg ht h hb
  have HPO : Hid (wds s ≠ [] → badS (wds s) s.size = none → parseS s = ((cmdR (wds s) s.size).1, 0, 0)) := fun h hb => parse_none hlg ht h hb
  have hwl : (wds s).length = (wordsS s).length := by unfold wds; rw [List.length_map]
  have hwv : wordV s (wordsS s) = wdV (wds s) := wds_wordV s _
  rw [hwv, ← hwl] at HWD
  clear hwl hwv
  generalize tornS s = tn at *
  generalize parseS s = P at *
  generalize wds s = W at *
  have HSZ := Lib.hid hwz
  clear hwz
  go_enter Tryz.func42, Tryz.ntmps42
  go_wp2_with fail
  refine Calls.mono HTO.out ?_
  rintro e w1 ⟨rfl, hx1⟩
  have hT1 := hT.ext hx1
  have hs1 := hx1.size
  go_wp2_with fail
  refine Calls.mono (HWD w1 hT1).out ?_
  rintro e w2 ⟨⟨wv, rfl, hwo⟩, hx2⟩
  obtain ⟨po, co, rfl⟩ := own_sl hwo
  have hs2 := hx2.size
  have HX2 := Lib.hid (hx1.trans' hx2)
  have HWO := Lib.hid (own_bmono hwo (show w.heap.size ≤ w1.heap.size by omega))
  have HT2 := Lib.hid (hT1.ext hx2)
  clear hx1 hx2 hwo HWD HTO
  by_cases hn : W.length = 0
  · have hW0 : W = [] := List.length_eq_zero_iff.1 hn
    have hP := HPN.out hW0
    subst hP
    clear HPN HPB HPO hW0
    go_wp2_with fail
    go_ret3
    exact ⟨⟨_, rfl, rfl⟩, HX2.out.allocR _⟩
  · have hne : ((W.length : Int) == 0) = false := beq_eq_false_iff_ne.2 (by omega)
    have hW0 : W ≠ [] := fun e => hn (by rw [e]; rfl)
    have HPB1 := Lib.hid (HPB.out hW0)
    have HPO1 := Lib.hid (HPO.out hW0)
    clear HPN HPB HPO hW0
    go_wp2_with fail
    have HR3 : Hid (RdAt w.heap.size (w2.alloc (.cells #[.slice po W.length co, .int .i64 0, .int .i64 (-1), .int .i64 (s.size : Int)] 164)) w2.heap.size W s.size 0 none) := ⟨hB, by omega, _, heap_at _ _ rfl, HWO.out.alloc _⟩
    refine Calls.mono (RCmd_c w.heap.size w2.heap.size W s.size _ (HT2.out.ext (Ext.alloc' _ _)) HR3.out (fun p hp => by have := HSZ.out p hp; omega) (by omega) (by omega) hs) ?_
    rintro e w3 ⟨⟨cv, rfl, hcv, h3⟩, m3⟩
    have HM3 : Hid (ModN w2.heap.size w2.heap.size w2 w3) := ModN.mod ⟨(Mod.refl _ _).extR (Ext.alloc' _ _)⟩ m3
    have hbs : badS W s.size = (match (cmdR W s.size).2.2 with | some b => some b | none => if (cmdR W s.size).2.1 < W.length then failR W s.size (cmdR W s.size).2.1 none else none) := rfl
    have HBS := Lib.hid hbs
    have HCV := Lib.hid hcv
    clear hbs hcv m3
    generalize cmdR W s.size = R at *
    obtain ⟨oc, a, ob⟩ := R
    dsimp only at h3
    have hrw : w.heap.size ≤ w2.heap.size := by omega
    generalize hrr0 : w2.heap.size = r at *
    have hr2 : w2.heap.size ≤ r := by omega
    clear hrr0 hs1 hs2 hn hne
    have HR4 := Lib.hid h3
    obtain ⟨wv, hrr, hwo⟩ := h3.hr
    obtain ⟨po', co', rfl⟩ := own_sl hwo
    have c0 := (cell_of hrr 0).trans rfl
    have c1 := (cell_of hrr 1).trans rfl
    have c2 := (cell_of hrr 2).trans rfl
    have rl := lt_of hrr
    clear h3 hrr hwo HR3
    cases ob with
    | some b =>
      have hP := HPB1.out b HBS.out
      subst hP
      unfold badI at c2
      clear HPB1 HPO1
      go_wp2_with fail
      generalize hx : (b : Int) = x at *
      have hx0 : ¬ x < 0 := by omega
      have hx1 : 0 ≤ x := by omega
      clear hx
      refine wp_region_after (by kernel_rfl) (by kernel_rfl) ?_
      repeat (go_big_quiet_step ((fail)))
      refine wpQuiet_nil ?_
      rintro _ ⟨xx, rfl⟩
      obtain ⟨w4, hb4⟩ := xx
      try dsimp only
      have d2 := ((bcell hb4).1 _ 2 rl).trans c2
      have rl4 : r < w4.heap.size := Nat.lt_of_lt_of_le rl hb4.size
      have HX4 := Lib.hid (HM3.out.extN hb4)
      clear c0 c1 c2 hb4
      go_wp2_with fail
      refine wp_region_after (by kernel_rfl) (by kernel_rfl) ?_
      repeat (go_big_quiet_step ((fail)))
      refine wpQuiet_nil ?_
      rintro _ ⟨xx, rfl⟩
      obtain ⟨w5, hb5⟩ := xx
      try dsimp only
      have HX5 := Lib.hid (HX4.out.extN hb5)
      clear d2 hb5
      go_wp2
      go_ret3
      exact ⟨⟨_, rfl, rfl⟩, HX2.out.trans' (HX5.out.ext (by omega) (by omega))⟩
    | none =>
      unfold badI at c2
      have HPB1x := Lib.hid HPB1.out
      clear HPB1
      by_cases hlt : a < W.length
      · have hfr : failR W s.size a none = some W[a].2 := by unfold failR; rw [dif_pos hlt]
        have hbn : badS W s.size = some W[a].2 := (HBS.out.trans (if_pos hlt)).trans hfr
        have hP := HPB1x.out _ hbn
        subst hP
        have HFR := Lib.hid hfr
        clear HPO1 hbn hfr
        generalize W[a].2 = b at *
        go_wp2_with fail
        refine wp_region_after (by kernel_rfl) (by kernel_rfl) ?_
        repeat (go_big_quiet_step ((fail)))
        refine wpQuiet_nil ?_
        rintro _ ⟨xx, rfl⟩
        obtain ⟨w4, hb4⟩ := xx
        try dsimp only
        have HR5 := Lib.hid (HR4.out.ext hb4)
        have HX4 := Lib.hid (HM3.out.extN hb4)
        clear c0 c1 c2 hb4
        go_wp2_with fail
        refine Calls.mono (RFail_c w.heap.size r W s.size a none w4 HR5.out (by omega) (by omega) hs) ?_
        rintro e w5 ⟨rfl, h5, m5⟩
        rw [HFR.out] at h5
        have HX5 := Lib.hid (HX4.out.mod m5)
        obtain ⟨wv5, hrr5, _⟩ := h5.hr
        have d2 := (cell_of hrr5 2).trans rfl
        have rl5 := lt_of hrr5
        unfold badI at d2
        clear h5 m5 hrr5
        go_wp2_with fail
        refine wp_region_after (by kernel_rfl) (by kernel_rfl) ?_
        repeat (go_big_quiet_step ((fail)))
        refine wpQuiet_nil ?_
        rintro _ ⟨xx, rfl⟩
        obtain ⟨w6, hb6⟩ := xx
        try dsimp only
        have HX6 := Lib.hid (HX5.out.extN hb6)
        clear d2 hb6
        go_wp2
        go_ret3
        exact ⟨⟨_, rfl, rfl⟩, HX2.out.trans' (HX6.out.ext (by omega) (by omega))⟩
      · have hbn : badS W s.size = none := HBS.out.trans (if_neg hlt)
        have hP := HPO1.out hbn
        subst hP
        clear HPO1 hbn
        dsimp only at HCV
        go_wp2_with fail
        refine wp_region_after (by kernel_rfl) (by kernel_rfl) ?_
        repeat (go_big_quiet_step ((fail)))
        refine wpQuiet_nil ?_
        rintro _ ⟨xx, rfl⟩
        obtain ⟨w4, hb4⟩ := xx
        try dsimp only
        have d2 := ((bcell hb4).1 _ 2 rl).trans c2
        have rl4 : r < w4.heap.size := Nat.lt_of_lt_of_le rl hb4.size
        have HX4 := Lib.hid (HM3.out.extN hb4)
        have HCV4 := Lib.hid (HCV.out.ext hb4)
        clear c0 c1 c2 hb4
        go_wp2_with fail
        go_ret3
        exact ⟨⟨_, rfl, HCV4.out⟩, HX2.out.trans' (HX4.out.ext (by omega) (by omega))⟩
end Go.Proofs.YtmalncfcgcebhaaGreatDoor
namespace Go.Proofs.YtmalncfcgcebhaaGreatDoor
set_option linter.unusedVariables false
open Go.Proofs Go.RowKit
/-- An element of the map reads as itself. -/
def Rh (v : Value) : Option (DataW Value × List MemPlace) := some (.held v, [])
/-- The map's datum. -/
def hD (l : List (Nat × Value)) : DataW Value := .map (l.map fun p => (Lit.int .i64 (p.1 : Int), DataW.held p.2))
def keyB (k : Int) (x : Nat × Value) : Bool := decide ((x.1 : Int) = k)
theorem same_int (a k : Int) : (Lit.int .i64 a).sameKey (.int .i64 k) = decide (a = k) := by
  simp [Lit.sameKey]
theorem hD_size (l : List (Nat × Value)) : Maps.size (hD l) = l.length := by simp [hD, Maps.size]
theorem hD_has (l : List (Nat × Value)) (k : Int) : Maps.has (hD l) (.int .i64 k) = l.any (keyB k) := by
  unfold hD
  rw [Maps.has_eq, List.any_map]
  congr 1
  funext x
  simp [same_int, keyB]
theorem find_map (l : List (Nat × Value)) (k : Int) : (l.map fun p => (Lit.int .i64 (p.1 : Int), DataW.held (H := Value) p.2)).find? (fun p => p.1.sameKey (.int .i64 k)) = (l.find? (keyB k)).map fun p => (Lit.int .i64 (p.1 : Int), DataW.held p.2) := by
  rw [List.find?_map]
  congr 2
  funext x
  simp [same_int, keyB]
theorem hD_at (l : List (Nat × Value)) (k : Int) (z : DataW Value) : (hD l).atKey (.int .i64 k) z = match l.find? (keyB k) with | some p => .held p.2 | none => z := by
  unfold hD DataW.atKey
  simp only [find_map]
  cases l.find? (keyB k) <;> rfl
theorem insert_end (x : Lit × DataW Value) : ∀ l : List (Lit × DataW Value), (∀ y ∈ l, x.1.before y.1 = false) → DataW.insert x l = l ++ [x]
  | [], _ => rfl
  | y :: l, h => by
    unfold DataW.insert
    rw [h y (by simp)]
    simp [insert_end x l (fun z hz => h z (by simp [hz]))]
theorem hD_put (l : List (Nat × Value)) (k : Nat) (v : Value) (h : ∀ x ∈ l, x.1 < k) : (hD l).put (.int .i64 (k : Int)) (.held v) = hD (l ++ [(k, v)]) := by
  unfold hD DataW.put
  have e : (l.map fun p => (Lit.int .i64 (p.1 : Int), DataW.held (H := Value) p.2)).filter (fun p => !p.1.sameKey (.int .i64 (k : Int))) = l.map fun p => (Lit.int .i64 (p.1 : Int), DataW.held p.2) := by
    rw [List.filter_eq_self]
    intro y hy
    obtain ⟨x, hx, rfl⟩ := List.mem_map.1 hy
    have := h x hx
    simp [same_int]
    omega
  simp only [e]
  rw [insert_end, List.map_append]
  · rfl
  · intro y hy
    obtain ⟨x, hx, rfl⟩ := List.mem_map.1 hy
    have := h x hx
    simp [Lit.before]
    omega
theorem hD_del (l : List (Nat × Value)) (k : Int) : (hD l).del (.int .i64 k) = hD (l.filter fun x => !keyB k x) := by
  unfold hD DataW.del
  simp only [List.filter_map]
  congr 2
  congr 1
  funext x
  simp [same_int, keyB]
theorem key_int (P : Program) (t : TypeId) (ht : P.underlying t = some (.int .i64)) (n : Int) (h : I64 n) : keyOf P t (.int .i64 n) = some (.int .i64 n) := by
  have hw : (Lit.int .i64 n).wf = true := by
    unfold I64 at h
    have e1 : IntKind.i64.min = -9223372036854775808 := by decide
    have e2 : IntKind.i64.max = 9223372036854775807 := by decide
    simp only [Lit.wf, e1, e2, Bool.and_eq_true, decide_eq_true_eq]
    exact h
  simp [keyOf, ht, mapKey, hw]
section
variable {P : Program} {w : World} {t e kt : TypeId} {b n : Nat} {l : List (Nat × Value)}
theorem Rh_inv {v : Value} {d : DataW Value} {ps : List MemPlace} (h : Rh v = some (d, ps)) : d = .held v := by
  unfold Rh at h
  injection h with h
  exact (Prod.mk.inj h).1.symm
/-- A handle that is there. -/
theorem look_yes (h : w.ownsMap P kt Rh b n (hD l)) (hk : P.underlying kt = some (.int .i64)) (ht : P.underlying t = some (.map kt e)) {z : Value} (hz : (zeroValue e).run P w = .ok z w) {k : Int} (hi : I64 k) {x : Nat × Value} (hx : l.find? (keyB k) = some x) :
    (Instr.lookup t (.map (some b)) (.int .i64 k) true).run P w = .ok (.tuple #[x.2, .bool true]) w ∧ (Instr.lookup t (.map (some b)) (.int .i64 k) false).run P w = .ok x.2 w := by
  have hh : Maps.has (hD l) (.int .i64 k) = true := by
    rw [hD_has]
    obtain ⟨h1, h2⟩ := List.find?_some hx, List.mem_of_find?_eq_some hx
    exact List.any_eq_true.2 ⟨x, h2, h1⟩
  obtain ⟨v, ps, hrun, hv⟩ := h.look_ok (Maps.int_keyed hk) ht hz (zd := .held z) (zp := []) rfl (key_int P kt hk k hi)
  obtain ⟨v', ps', hrun', hv'⟩ := h.lookup (Maps.int_keyed hk) ht hz (zd := .held z) (zp := []) rfl (key_int P kt hk k hi)
  have e1 := Rh_inv hv
  have e2 := Rh_inv hv'
  rw [hD_at, hx] at e1 e2
  injection e1 with e1
  injection e2 with e2
  subst e1 e2
  rw [hh] at hrun
  exact ⟨hrun, hrun'⟩
/-- One that is not there. -/
theorem look_no (h : w.ownsMap P kt Rh b n (hD l)) (hk : P.underlying kt = some (.int .i64)) (ht : P.underlying t = some (.map kt e)) {z : Value} (hz : (zeroValue e).run P w = .ok z w) {k : Int} (hi : I64 k) (hx : l.find? (keyB k) = none) :
    (Instr.lookup t (.map (some b)) (.int .i64 k) true).run P w = .ok (.tuple #[z, .bool false]) w := by
  have hh : Maps.has (hD l) (.int .i64 k) = false := by
    rw [hD_has]
    rw [List.any_eq_false]
    intro x hx2
    have := List.find?_eq_none.1 hx x hx2
    simpa using this
  obtain ⟨v, ps, hrun, hv⟩ := h.look_ok (Maps.int_keyed hk) ht hz (zd := .held z) (zp := []) rfl (key_int P kt hk k hi)
  have e1 := Rh_inv hv
  rw [hD_at, hx] at e1
  injection e1 with e1
  subst e1
  rw [hh] at hrun
  exact hrun
end
end Go.Proofs.YtmalncfcgcebhaaGreatDoor
namespace Go.Proofs.YtmalncfcgcebhaaGreatDoor
set_option linter.unusedVariables false
open Go.RowKit
def KCopyPost (w : World) (C : Cfg) (B : Nat) (ls : Nat → List Int) (e : Ending) (w' : World) : Prop :=
  ∃ (s g : Nat) (L : Nat → Lev), e = .returned (.pointer (some ⟨s, 0, none⟩)) ∧ KAt w' s g C B L ls ∧ w.heap.size ≤ s ∧ w.heap.size ≤ g ∧ (∀ n, n ≤ B → w.heap.size ≤ (L n).s ∧ w.heap.size ≤ (L n).b ∧ w.heap.size ≤ (L n).c) ∧ Ext w w'
set_option maxRecDepth 20000 in
set_option maxHeartbeats 4000000 in
theorem KCopy_c (s g : Nat) (C : Cfg) (B : Nat) (L : Nat → Lev) (ls : Nat → List Int) (w : World) (h : KAt w s g C B L ls) :
    Calls Tryz.prog 166 #[.pointer (some ⟨s, 0, none⟩)] w (KCopyPost w C B ls) := by
  have hok := h.ok
  have hB := h.hB
  have hlt := h.lts
  obtain ⟨cap, hex, hcap⟩ := h.ex
  have c5 := (cell_of hex 5).trans rfl
  have hb2 : B ≤ 59 := by have := hok.b2; omega
  have HE := Lib.hid hex
  have HH := Lib.hid h
  have HB := Lib.hid hB
  clear h hex hB
  go_enter Tryz.func166, Tryz.ntmps166
  go_wp2
  go_loopw [3, 11] (fun u3 u11 wr => ∃ (k : Nat) (L' : Nat → Lev), k ≤ B + 1 ∧ u11 = .int .i64 k ∧ Ext w wr ∧ Made wr w.heap.size C k L' ls u3) (fun _ u11 _ => B + 1 - (intOf u11).toNat)
  case atStart =>
    refine ⟨0, fun _ => ⟨0, 0, 0⟩, Nat.zero_le _, rfl, Ext.refl _, ⟨⟨rfl, .inl ⟨rfl, rfl⟩⟩, ?_, ?_, ?_⟩⟩ <;> (intros; omega)
  case round =>
    obtain ⟨k, L', hk, rfl, hE, hM⟩ := hrel
    have hkr := HH.out.ext hE
    have hsz := hE.size
    have HM := Lib.hid hM
    clear hM
    by_cases hlt' : k < B + 1
    · have cn := hkr.cell (show k ≤ B by omega)
      have hL0 := hkr.lev k (by omega)
      have hltg := hkr.ltg
      clear hkr
      go_wp2_with fail
      refine (LCopy_c C k (L k) (ls k) _ hL0).mono ?_
      rintro e w2 ⟨M, rfl, hL, n1, n2, n3, hx2⟩
      have hown := own_ext HM.out.row hx2
      have hszz := hx2.size
      obtain ⟨T, hT⟩ : ∃ T, lvV C k M = .iface T (.pointer (some ⟨M.s, 0, none⟩)) := ⟨lvT C k, rfl⟩
      rw [hT]
      have HT := Lib.hid hT
      clear hT
      have hll := lvVs_len C L' k
      obtain ⟨i0, z0, hi0, hz0, hz1, hz2, hz3⟩ := info_lev
      go_wp2_with (at_builtin; refine wpList_appv w2 (.iface T (.pointer (some ⟨M.s, 0, none⟩))) rfl (lvVs C L' k) u3 w.heap.size 120 hown 116 rfl _ _ rfl i0 z0 hi0 hz0 hz1 hz2 hz3 Tryz.underlying116 rfl rfl ?a1 ?a2 ?_)
      case a1 => omega
      case a2 => omega
      intro v' w' hown' hgr
      have hmade := HM.out.ext hx2
      have hnext := hmade.next (N := wr.heap.size) (ls := ls) hL (fun n hn => HM.out.ltN n hn) (by omega) n1 n2 n3 rfl (by rw [HT.out, List.length_append, hll]; exact hown') hgr
      have hex : Ext w w' := ext_grown (hE.trans' hx2) hgr (fun i hi => own_blk hown hi)
      go_wp2
      go_roundw
      case rel => exact ⟨k + 1, _, by omega, by go_num, hex, hnext⟩
      case measure => simp [intOf]; omega
    · obtain rfl : k = B + 1 := by omega
      obtain ⟨p5, k5, c5, rfl⟩ := own_slice HM.out.row
      have hltr := hkr.lts
      obtain ⟨cap2, hex2, _⟩ := hkr.ex
      have d0 := (cell_of hex2 0).trans rfl
      have d1 := (cell_of hex2 1).trans rfl
      have d2 := (cell_of hex2 2).trans rfl
      have d3 := (cell_of hex2 3).trans rfl
      have d4 := (cell_of hex2 4).trans rfl
      clear hex2 hkr
      go_wp2
      go_ret
      obtain ⟨g', hg, hK⟩ := (HM.out.ext (Ext.alloc' wr (.cells #[.int .i64 C.bits, .int .i64 C.rows, .int .i64 C.width, .int .i64 C.mode, .int .u64 C.seed, .slice p5 k5 c5] 118))).stack hok HB.out (heap_at _ _ rfl)
      exact ⟨wr.heap.size, g', L', rfl, hK, hsz, hg, fun n hn => HM.out.new n (by omega), hE.allocR _⟩
end Go.Proofs.YtmalncfcgcebhaaGreatDoor
namespace Go.Proofs.YtmalncfcgcebhaaGreatDoor
set_option linter.unusedVariables false
open Go.RowKit
/-- A row of numbers of its own. -/
def RowIs (w : World) (B0 : Nat) (u : Value) (xs : List Int) : Prop :=
  ∃ z cap cur, u = .slice (some ⟨z, 0, none⟩) xs.length cap ∧ xs.length ≤ cap ∧ B0 ≤ z ∧ w.heap[z]? = some (.cells cur 2 (0, 0)) ∧ ∀ j, j < xs.length → cur[j]? = some (.int .i64 (xs.getD j 0))
theorem RowIs.ext {w w' : World} {B0 : Nat} {u : Value} {xs : List Int} (h : RowIs w B0 u xs) (he : Ext w w') : RowIs w' B0 u xs := by
  obtain ⟨z, cap, cur, h1, h2, h3, h4, h5⟩ := h
  exact ⟨z, cap, cur, h1, h2, h3, he.keep h4, h5⟩
theorem RowIs.mod {S : Nat → Prop} {w w' : World} {B0 : Nat} {u : Value} {xs : List Int} (h : RowIs w B0 u xs) (he : Mod S w w') (hS : ∀ k, S k → k < B0) : RowIs w' B0 u xs := by
  obtain ⟨z, cap, cur, h1, h2, h3, h4, h5⟩ := h
  exact ⟨z, cap, cur, h1, h2, h3, he.keep h4 (fun hs => by have := hS z hs; omega), h5⟩
theorem RowIs.ints {w : World} {B0 : Nat} {u : Value} {xs : List Int} (h : RowIs w B0 u xs) : IntsAt w u xs := by
  obtain ⟨z, cap, cur, h1, h2, h3, h4, h5⟩ := h
  exact .inr ⟨z, 0, cap, h1, lt_of h4, fun k hk => by rw [Nat.zero_add, cell_of h4]; exact h5 k hk⟩
/-- Rows of numbers that have been made. -/
structure RowsAt (w : World) (B0 k : Nat) (v : Value) (rv : Nat → Value) (ms : Nat → List Int) : Prop where
  row : w.ownsRow B0 47 1 v ((List.range k).map rv).length ((List.range k).map rv)
  is : ∀ r, r < k → RowIs w B0 (rv r) (ms r)
theorem RowsAt.zero (w : World) (B0 : Nat) (rv : Nat → Value) (ms : Nat → List Int) : RowsAt w B0 0 (.slice none 0 0) rv ms := ⟨⟨rfl, .inl ⟨rfl, rfl⟩⟩, by intros; omega⟩
theorem RowsAt.ext {w w' : World} {B0 k : Nat} {v : Value} {rv : Nat → Value} {ms : Nat → List Int} (h : RowsAt w B0 k v rv ms) (he : Ext w w') : RowsAt w' B0 k v rv ms := ⟨own_ext h.row he, fun r hr => (h.is r hr).ext he⟩
theorem RowsAt.mod {S : Nat → Prop} {w w' : World} {B0 k : Nat} {v : Value} {rv : Nat → Value} {ms : Nat → List Int} (h : RowsAt w B0 k v rv ms) (he : Mod S w w') (hS : ∀ i, S i → i < B0) : RowsAt w' B0 k v rv ms :=
  ⟨own_keepB h.row (fun i hi => he.block i (own_lt h.row hi) (fun hs => by have := hS i hs; have := own_blk h.row hi; omega)), fun r hr => (h.is r hr).mod he hS⟩
theorem RowsAt.next {w w' : World} {B0 k : Nat} {v v' : Value} {rv : Nat → Value} {ms : Nat → List Int} {u : Value} {o : Obj} (h : RowsAt w B0 k v rv ms) (hu : RowIs w B0 u (ms k))
    (hown : w'.ownsRow B0 47 1 v' ((List.range k).map rv ++ [u]).length ((List.range k).map rv ++ [u])) (hg : (w.alloc o).grownBy w' v.ownBlock) : RowsAt w' B0 (k + 1) v' (fun r => if r = k then u else rv r) ms := by
  have hold : ∀ u xs, RowIs w B0 u xs → RowIs w' B0 u xs := by
    rintro u xs ⟨z, cap, cur, h1, h2, h3, h4, h5⟩
    exact ⟨z, cap, cur, h1, h2, h3, (grown_old hg (lt_of h4) (fun e => own_notB h.row h4 (by decide) e.symm)).trans h4, h5⟩
  refine ⟨?_, fun r hr => ?_⟩
  · have e : (List.range (k + 1)).map (fun r => if r = k then u else rv r) = (List.range k).map rv ++ [u] := by
      rw [List.range_succ, List.map_append]
      congr 1
      · apply List.map_congr_left
        intro i hi
        rw [List.mem_range] at hi
        rw [if_neg (by omega)]
      · simp
    rw [e]; exact hown
  · by_cases e : r = k
    · rw [if_pos e, e]; exact hold _ _ hu
    · rw [if_neg e]; exact hold _ _ (h.is r (by omega))
/-- Its cells, once there is one. -/
theorem RowsAt.cells {w : World} {B0 k : Nat} {v : Value} {rv : Nat → Value} {ms : Nat → List Int} (h : RowsAt w B0 k v rv ms) (hk : 0 < k) : ∃ m cap, v = .slice (some ⟨m, 0, none⟩) k cap ∧ B0 ≤ m ∧ m < w.heap.size ∧ ∀ r, r < k → w.cell? ⟨m, r, none⟩ = some (rv r) := by
  have hlen : ((List.range k).map rv).length = k := by simp
  rcases h.row.2 with ⟨_, h0⟩ | ⟨m, cap, cur, rfl, hbg, hm, hnc, hcm, hcs, htake⟩
  · rw [hlen] at h0; omega
  · refine ⟨m, cap, by rw [hlen], hbg, lt_of hm, fun r hr => ?_⟩
    have hget : ((List.range k).map rv)[r]? = some (rv r) := by rw [List.getElem?_map, List.getElem?_range hr]; rfl
    have h1 := h.row.cells (g := m) rfl r _ hget
    rw [show ((⟨m, 0, none⟩ : Addr).add r) = ⟨m, r, none⟩ by (simp [Addr.add]; intro e; exact e.symm)] at h1
    exact h1
end Go.Proofs.YtmalncfcgcebhaaGreatDoor
namespace Go.Proofs.YtmalncfcgcebhaaGreatDoor
set_option linter.unusedVariables false
open Go.RowKit
def uu (a : Int) : Int := a % 18446744073709551616
theorem uu_u (a : Int) : U64 (uu a) := by unfold uu U64; omega
theorem u64_wrap (a : Int) : IntKind.u64.wrap a = uu a := by rw [IntKind.wrap_u64]; rfl
end Go.Proofs.YtmalncfcgcebhaaGreatDoor
namespace Go.Proofs.YtmalncfcgcebhaaGreatDoor
set_option linter.unusedVariables false
open Go.RowKit
@[go_sem] theorem fld_mode (b r c m s : Int) (w : World) : (Instr.field 24 (.agg #[.int .i64 b, .int .i64 r, .int .i64 c, .int .i64 m, .int .u64 s]) 3).run Tryz.prog w = .ok (.int .i64 m) w := by kernel_rfl
end Go.Proofs.YtmalncfcgcebhaaGreatDoor
