/- Part. No condition. -/
import Derived.Test.YtfhdjekpdifajaaGreatDWindowPlays8
import Derived.Test.YtfhdjekpdifajaaGreatDWindowPlays2
import Derived.Test.YtfhdjekpdifajaaGreatDWindowPlays3
import Derived.Test.YtfhdjekpdifajaaGreatDWindowPlays4
import Derived.Test.YtfhdjekpdifajaaGreatDWindowPlays5
import Derived.Test.YtfhdjekpdifajaaGreatDWindowPlays7
import Derived.Laws.EntriesVeiled
import Derived.WalkMore
namespace Go.Proofs.YtfhdjekpdifajaaGreat
set_option linter.unusedVariables false
open Go.RowKit
def RWNewPost (w : World) (C : Cfg) (B n i : Nat) (sl : Nat → List Int) (bl : Nat → Nat → List Int) (e : Ending) (w' : World) : Prop :=
  ∃ r t sm bk, e = .returned (.pointer (some ⟨r, 0, none⟩)) ∧ RWAt w' r t C B n i sm bk ∧ sm.ls = sl ∧ (∀ j, j < n → (bk j).ls = bl j) ∧ (∀ k, rwF r t C B n sm bk k → w.heap.size ≤ k) ∧ Ext w w'
theorem BMade.post {w wr : World} {r B0 B n i : Nat} {C : Cfg} {sm : RBk} {bk : Nat → RBk} {v : Value} (h : BMade wr B0 C B n bk v) (hs : wr.heap[r]? = some (.cells #[.pointer (some ⟨sm.s, 0, none⟩), v, .int .i64 i] 96 (0, 0))) (hsm : sm.At wr C B) (hS : ∀ k, sm.F C B k → w.heap.size ≤ k ∧ k < B0) (hr : w.heap.size ≤ r) (hB0 : w.heap.size ≤ B0) (n1 : 1 ≤ n) (n2 : n ≤ 16) (hi : i < n) (hmd : C.mode = 1) (hE : Ext w wr) {bl : Nat → Nat → List Int} (hbl : ∀ j, j < n → (bk j).ls = bl j) :
    RWNewPost w C B n i sm.ls bl (.returned (.pointer (some ⟨r, 0, none⟩))) wr := by
  obtain ⟨t, ht, hW⟩ := h.win hs hsm (fun k hk => (hS k hk).2) n1 n2 hi hmd
  refine ⟨r, t, sm, bk, rfl, hW, rfl, hbl, ?_, hE⟩
  rintro k (rfl | rfl | hk | ⟨j, hj, hk⟩)
  · exact hr
  · omega
  · exact (hS k hk).1
  · exact Nat.le_trans hB0 (h.new j hj k hk)
set_option maxRecDepth 20000 in
set_option maxHeartbeats 8000000 in
theorem RWNew_c (C : Cfg) (hok : C.Ok) (hmd : C.mode = 1) (B : Nat) (hB : C.bits = B) (n : Nat) (n1 : 1 ≤ n) (n2 : n ≤ 16) (w : World) :
    Calls Tryz.prog 51 #[.agg #[.int .i64 C.bits, .int .i64 C.rows, .int .i64 C.width, .int .i64 C.mode, .int .u64 C.seed], .int .i64 n] w (RWNewPost w C B n 0 (fun k => zs (lvN C k)) (fun _ k => zs (lvN C k))) := by
  have HMD := Lib.hid hmd
  have HN := Lib.hid (fun W' => RKNew_c C hok B hB W')
  have hn16 : (n : Int) ≤ 16 := by omega
  obtain ⟨W0, hW0⟩ : ∃ W0, w.alloc (.cells #[.int .i64 C.bits, .int .i64 C.rows, .int .i64 C.width, .int .i64 C.mode, .int .u64 C.seed] 24) = W0 := ⟨_, rfl⟩
  have hCb : W0.heap[w.heap.size]? = some (.cells #[.int .i64 C.bits, .int .i64 C.rows, .int .i64 C.width, .int .i64 C.mode, .int .u64 C.seed] 24 (0, 0)) := by rw [← hW0]; exact heap_at _ _ rfl
  have hE : Ext w W0 := by rw [← hW0]; exact Ext.alloc' _ _
  have hC := CfgAt.of hCb
  have c0 := hC.c0
  have c1 := hC.c1
  have c2 := hC.c2
  have c3 := hC.c3
  have c4 := hC.c4
  have cl := hC.lt
  have HCB := Lib.hid hCb
  clear hC hB hCb hmd hok
  go_enter Tryz.func51, Tryz.ntmps51
  go_upto_region 1 with (fail)
  try rw [hW0]
  clear hW0
  go_wp2_with fail
  refine Calls.mono (HN.out _) ?_
  rintro e w1 ⟨s0, t0, L0, rfl, hK0, hF0, hx0⟩
  clear c0 c1 c2 c3 c4 cl
  have HK0 : Hid (RBk.At ⟨s0, t0, L0, fun k => zs (lvN C k)⟩ w1 C B) := Lib.hid hK0
  have HF0 : Hid (∀ k, RBk.F ⟨s0, t0, L0, fun k => zs (lvN C k)⟩ C B k → w.heap.size ≤ k ∧ k < w1.heap.size) := Lib.hid (fun k hk => ⟨Nat.le_trans hE.size (hF0 k hk), hK0.lt hk⟩)
  have HX0 := Lib.hid (hE.trans' hx0)
  have HE0 := Lib.hid hx0
  clear hK0 hF0 hx0
  go_wp2_with fail
  go_loopw [6] (fun u6 wr => ∃ (k : Nat) (bk : Nat → RBk) (v : Value), k ≤ n ∧ u6 = .int .i64 k ∧ Ext w1 wr ∧ wr.heap[w1.heap.size]? = some (.cells #[.pointer (some ⟨s0, 0, none⟩), v, .int .i64 (0 : Nat)] 96 (0, 0)) ∧ BMade wr (w1.heap.size + 1) C B k bk v ∧ ∀ j, j < k → (bk j).ls = fun (k : Nat) => zs (lvN C k)) (fun u6 _ => n - (intOf u6).toNat)
  case atStart => exact ⟨0, fun _ => ⟨0, 0, fun _ => ⟨0, 0, ⟨0, 0, fun _ => 0, fun _ => 0⟩⟩, fun _ => []⟩, _, Nat.zero_le _, rfl, Ext.alloc' _ _, heap_at _ _ rfl, BMade.zero _ _ _ _ _, fun j hj => absurd hj (Nat.not_lt_zero _)⟩
  case round =>
    obtain ⟨k, bk, v, hk, rfl, hE1, hbx, hM, hz⟩ := hrel
    have hCq := CfgAt.of ((HE0.out.trans' hE1).keep HCB.out)
    have c0 := hCq.c0
    have c1 := hCq.c1
    have c2 := hCq.c2
    have c3 := hCq.c3
    have c4 := hCq.c4
    have cl := hCq.lt
    have hbl := lt_of hbx
    have HBX := Lib.hid hbx
    have HM := Lib.hid hM
    have HZ := Lib.hid hz
    clear hCq hM hz
    by_cases hlt : k < n
    · have hkz : (k : Int) < (n : Int) := by omega
      have b1 := (cell_of hbx 1).trans rfl
      obtain ⟨S, hSS⟩ : ∃ S : Nat → Prop, ∀ i, S i ↔ v.ownBlock = some i := ⟨_, fun _ => Iff.rfl⟩
      have n1' : ¬ S w.heap.size := fun h => by have := own_blk HM.out.row ((hSS _).1 h); have := lt_of HCB.out; have := HE0.out.size; omega
      have n2' : ¬ S w1.heap.size := fun h => by have := own_blk HM.out.row ((hSS _).1 h); omega
      have HSS := Lib.hid hSS
      clear hbx hSS
      go_wp2_with fail
      have hC0 := afs_drew S wr
      refine pi_start (fun w' => ∃ z : AftS S wr, w' = z.w) [11] (by kernel_rfl) ?_
      refine pi_t 0 rfl (by kernel_rfl) (by kernel_rfl) (fun _ _ _ _ h => h) (fun K hK => ?_)
      go_big_quiet_op
      refine hK _ ?_
      clear hK K
      refine pi_t 1 rfl (by kernel_rfl) (by kernel_rfl) (fun _ _ _ _ h => h) (fun K hK => ?_)
      go_big_quiet_op
      refine hK _ ?_
      clear hK K
      refine pi_t 2 rfl (by kernel_rfl) (by kernel_rfl) (fun _ _ _ _ h => h) (fun K hK => ?_)
      go_big_quiet_op
      refine hK _ ?_
      clear hK K
      refine pi_t 3 rfl (by kernel_rfl) (by kernel_rfl) (fun _ _ _ _ h => h) (fun K hK => ?_)
      go_big_quiet_op
      refine hK _ ?_
      clear hK K
      refine pi_c 4 (by assumption) rfl (by kernel_rfl) (by kernel_rfl) (fun _ _ _ _ h => h) (fun K hK => ?_)
      go_big_quiet_op
      refine hK _ ?_
      clear hK K
      refine pi_c 5 (by assumption) rfl (by kernel_rfl) (by kernel_rfl) (fun _ _ _ _ h => h) (fun K hK => ?_)
      go_big_quiet_op
      refine hK _ ?_
      clear hK K
      refine pi_l 6 rfl (by kernel_rfl) (fun K hK => ?_)
      go_wp2_with (go_at_call 17; refine Calls.mono (HN.out _) ?_; rintro e wt ⟨sM, tM, LM, rfl, hMv, hMf, hxt⟩)
      have hEt : Ext wr wt := Ext.trans' (Below.drew (Ext.refl wr)) hxt
      refine hK _ _ (fun _ h => afs_step h hxt) ?_
      clear hK K
      have HMV : Hid (RBk.At ⟨sM, tM, LM, fun k => zs (lvN C k)⟩ wt C B) := Lib.hid hMv
      have HMF : Hid (∀ j, RBk.F ⟨sM, tM, LM, fun k => zs (lvN C k)⟩ C B j → wr.heap.size ≤ j) := Lib.hid hMf
      have HR := Lib.hid (HM.out.ext hEt).row
      have hz := hE1.size
      have hzt := hEt.size
      obtain ⟨i0, z0, hi0, hz0, hz1, hz2, hz3⟩ := info_rs
      clear hMv hMf hxt
      refine pi_l 7 rfl (by kernel_rfl) (fun K hK => ?_)
      go_wp2
      refine hK _ _ (fun _ h => afs_step h (Ext.alloc' _ _)) ?_
      clear hK K
      refine pi_l 8 rfl (by kernel_rfl) (fun K hK => ?_)
      go_wp2_with (at_builtin; refine wpList_appB wt 8 (by decide) (.pointer (some ⟨sM, 0, none⟩)) rfl (sp bk k) v (w1.heap.size + 1) 32 HR.out 94 rfl _ _ rfl i0 z0 hi0 hz0 hz1 hz2 hz3 Tryz.underlying94 (by rfl) (by rfl) ?b1 ?b2 ?_)
      case b1 => rw [sp_len]; omega
      case b2 => omega
      intro v' wf g1 g2
      have hEf : Ext w1 wf := ext_grown (hE1.trans' hEt) g2 (fun i hi => by have := own_blk HR.out hi; omega)
      have hnext := HM.out.next hEt (by omega) HMV.out HMF.out (by rw [List.length_append]; exact g1) g2
      have hbf := (grown_old g2 (show w1.heap.size < wt.heap.size by omega) (fun e => by have := own_blk HR.out e.symm; omega)).trans (hEt.keep HBX.out)
      have HNX := Lib.hid hnext
      have f1 := frozen_of hbf 1
      have q1 := (cell_of hbf 1).trans rfl
      have ql := lt_of hbf
      have HBF := Lib.hid hbf
      obtain ⟨pv, nv, cv, rfl⟩ := own_slice g1
      have hmf : Mod S wr wf := mod_grown (hEt.mod _) g2 (fun i hi => (HSS.out i).2 hi)
      clear g1 g2 hnext hbf
      go_wp2
      refine hK _ _ (fun _ _ => ⟨⟨wf, hmf⟩, rfl⟩) ?_
      clear hK K
      refine pi_t 9 rfl (by kernel_rfl) (by kernel_rfl) (fun _ _ _ _ h => h) (fun K hK => ?_)
      go_big_quiet_op
      refine hK _ ?_
      clear hK K
      refine pi_t 10 rfl (by kernel_rfl) (by kernel_rfl) (fun _ _ _ _ h => h) (fun K hK => ?_)
      go_big_quiet_op
      refine hK _ ?_
      clear hK K
      refine pi_l 11 rfl (by kernel_rfl) (fun K hK => ?_)
      go_wp2
      refine hK _ _ (by simp) ?_
      clear hK K
      refine pi_end (by kernel_rfl) ?_
      go_wp2_with fail
      go_roundw
      case rel =>
        refine ⟨k + 1, _, _, by omega, by go_num, hEf.setR (p := ⟨w1.heap.size, 1, none⟩) (Nat.le_refl _) _, (setCell_same HBF.out 1 _).trans rfl, HNX.out.setc (by omega) _ _, fun j hj => ?_⟩
        by_cases e : j = k
        · subst e; rw [setR_same]
        · rw [setR_ne _ _ e]; exact HZ.out j (by omega)
      case measure => simp [intOf]; omega
    · obtain rfl : k = n := by omega
      clear hbx
      go_wp2
      go_ret
      exact HM.out.post (sm := ⟨s0, t0, L0, fun k => zs (lvN C k)⟩) HBX.out (HK0.out.ext hE1) (fun j hj => ⟨(HF0.out j hj).1, by have := (HF0.out j hj).2; omega⟩) HX0.out.size (Nat.le_succ_of_le HX0.out.size) n1 n2 (by omega) HMD.out (HX0.out.trans' hE1) HZ.out
set_option maxRecDepth 20000 in
set_option maxHeartbeats 8000000 in
theorem RWCopy_c (r t : Nat) (C : Cfg) (B n i : Nat) (sm : RBk) (bk : Nat → RBk) (w : World) (h : RWAt w r t C B n i sm bk) :
    Calls Tryz.prog 56 #[.pointer (some ⟨r, 0, none⟩)] w (RWNewPost w C B n i sm.ls (fun j => (bk j).ls)) := by
  have HH := Lib.hid h
  have n1 := h.n1
  have n2 := h.n2
  have hiN := h.iN
  have HMD := Lib.hid h.md
  have hlr := h.ltr
  obtain ⟨cap, hst, hcap⟩ := h.st
  have r0 := (cell_of hst 0).trans rfl
  have r2 := (cell_of hst 2).trans rfl
  have HST := Lib.hid hst
  have HCP := Lib.hid (fun W' (hW : Ext w W') => RKCopy_c sm.s sm.t C B sm.L sm.ls W' (h.sum.ext hW))
  clear hst h
  go_enter Tryz.func56, Tryz.ntmps56
  go_wp2_with fail
  have hC0 := af_drew w
  refine pi_start (fun w' => ∃ z : After w, w' = z.w) [] (by kernel_rfl) ?_
  refine pi_t 0 rfl (by kernel_rfl) (by kernel_rfl) (fun _ _ _ _ h => h) (fun K hK => ?_)
  go_big_quiet_op
  refine hK _ ?_
  clear hK K
  refine pi_t 1 rfl (by kernel_rfl) (by kernel_rfl) (fun _ _ _ _ h => h) (fun K hK => ?_)
  go_big_quiet_op
  refine hK _ ?_
  clear hK K
  refine pi_t 2 rfl (by kernel_rfl) (by kernel_rfl) (fun _ _ _ _ h => h) (fun K hK => ?_)
  go_big_quiet_op
  refine hK _ ?_
  clear hK K
  refine pi_t 5 rfl (by kernel_rfl) (by kernel_rfl) (fun _ _ _ _ h => h) (fun K hK => ?_)
  go_big_quiet_op
  refine hK _ ?_
  clear hK K
  refine pi_t 6 rfl (by kernel_rfl) (by kernel_rfl) (fun _ _ _ _ h => h) (fun K hK => ?_)
  go_big_quiet_op
  refine hK _ ?_
  clear hK K
  refine pi_t 7 rfl (by kernel_rfl) (by kernel_rfl) (fun _ _ _ _ h => h) (fun K hK => ?_)
  go_big_quiet_op
  refine hK _ ?_
  clear hK K
  refine pi_c 3 (by assumption) rfl (by kernel_rfl) (by kernel_rfl) (fun _ _ _ _ h => h) (fun K hK => ?_)
  go_big_quiet_op
  refine hK _ ?_
  clear hK K
  refine pi_c 8 (by assumption) rfl (by kernel_rfl) (by kernel_rfl) (fun _ _ _ _ h => h) (fun K hK => ?_)
  go_big_quiet_op
  refine hK _ ?_
  clear hK K
  refine pi_l 4 rfl (by kernel_rfl) (fun K hK => ?_)
  go_wp2_with (go_at_call 21; refine Calls.mono (HCP.out _ (Below.drew (Ext.refl w))) ?_; rintro e w1 ⟨s0, t0, L0, rfl, hK0, hF0, hx0⟩)
  have hE1 : Ext w w1 := Ext.trans' (Below.drew (Ext.refl w)) hx0
  refine hK _ _ (fun _ h => af_step h hx0) ?_
  clear hK K
  have HK0 : Hid (RBk.At ⟨s0, t0, L0, sm.ls⟩ w1 C B) := Lib.hid hK0
  have HF0 : Hid (∀ k, RBk.F ⟨s0, t0, L0, sm.ls⟩ C B k → w.heap.size ≤ k ∧ k < w1.heap.size) := Lib.hid (fun k hk => ⟨hF0 k hk, hK0.lt hk⟩)
  have HX1 := Lib.hid hE1
  clear hK0 hF0 hx0 hE1
  refine pi_t 9 rfl (by kernel_rfl) (by kernel_rfl) (fun _ _ _ _ h => h) (fun K hK => ?_)
  go_big_quiet_op
  refine hK _ ?_
  clear hK K
  refine pi_l 10 rfl (by kernel_rfl) (fun K hK => ?_)
  go_wp2
  refine hK _ _ (fun _ h => af_step h (Ext.alloc' _ _)) ?_
  clear hK K
  refine pi_t 11 rfl (by kernel_rfl) (by kernel_rfl) (fun _ _ _ _ h => h) (fun K hK => ?_)
  go_big_quiet_op
  refine hK _ ?_
  clear hK K
  refine pi_end (by kernel_rfl) ?_
  go_wp2_with fail
  clear r0 r2
  go_loopw [4] (fun u4 wr => ∃ (k : Nat) (bm : Nat → RBk) (v : Value), k ≤ n ∧ u4 = .int .i64 k ∧ Ext w1 wr ∧ wr.heap[w1.heap.size]? = some (.cells #[.pointer (some ⟨s0, 0, none⟩), v, .int .i64 i] 96 (0, 0)) ∧ BMade wr (w1.heap.size + 1) C B k bm v ∧ ∀ j, j < k → (bm j).ls = (bk j).ls) (fun u4 _ => n - (intOf u4).toNat)
  case atStart => exact ⟨0, fun _ => ⟨0, 0, fun _ => ⟨0, 0, ⟨0, 0, fun _ => 0, fun _ => 0⟩⟩, fun _ => []⟩, _, Nat.zero_le _, rfl, Ext.alloc' _ _, heap_at _ _ rfl, BMade.zero _ _ _ _ _, fun j hj => absurd hj (Nat.not_lt_zero _)⟩
  case round =>
    obtain ⟨k, bm, v, hk, rfl, hE1, hbx, hM, hz⟩ := hrel
    have hHr := HH.out.ext (HX1.out.trans' hE1)
    have e1 := (cell_of ((HX1.out.trans' hE1).keep HST.out) 1).trans rfl
    have el := hHr.ltr
    have hbl := lt_of hbx
    have HBX := Lib.hid hbx
    have HM := Lib.hid hM
    have HZ := Lib.hid hz
    clear hM hz
    by_cases hlt : k < n
    · have hkz : (k : Int) < (n : Int) := by omega
      have b1 := (cell_of hbx 1).trans rfl
      obtain ⟨cur, hrow, hcur⟩ := hHr.row
      have ck := (cell_of hrow k).trans (hcur k hlt)
      have ltt := hHr.ltt
      have HBK := Lib.hid (hHr.bks k hlt)
      have HL := Lib.hid (fun W' (hW : Ext wr W') => RKCopy_c (bk k).s (bk k).t C B (bk k).L (bk k).ls W' ((hHr.bks k hlt).ext hW))
      obtain ⟨S, hSS⟩ : ∃ S : Nat → Prop, ∀ i, S i ↔ v.ownBlock = some i := ⟨_, fun _ => Iff.rfl⟩
      have n1' : ¬ S r := fun h => by have := own_blk HM.out.row ((hSS _).1 h); have := HX1.out.size; omega
      have n2' : ¬ S w1.heap.size := fun h => by have := own_blk HM.out.row ((hSS _).1 h); omega
      have n3' : ¬ S t := fun h => by have := own_blk HM.out.row ((hSS _).1 h); have := HH.out.ltt; have := HX1.out.size; omega
      have HSS := Lib.hid hSS
      clear hbx hSS hHr hrow hcur
      go_wp2_with fail
      have hC0 := afs_drew S wr
      refine pi_start (fun w' => ∃ z : AftS S wr, w' = z.w) [17] (by kernel_rfl) ?_
      refine pi_t 0 rfl (by kernel_rfl) (by kernel_rfl) (fun _ _ _ _ h => h) (fun K hK => ?_)
      go_big_quiet_op
      refine hK _ ?_
      clear hK K
      refine pi_t 1 rfl (by kernel_rfl) (by kernel_rfl) (fun _ _ _ _ h => h) (fun K hK => ?_)
      go_big_quiet_op
      refine hK _ ?_
      clear hK K
      refine pi_t 2 rfl (by kernel_rfl) (by kernel_rfl) (fun _ _ _ _ h => h) (fun K hK => ?_)
      go_big_quiet_op
      refine hK _ ?_
      clear hK K
      refine pi_t 3 rfl (by kernel_rfl) (by kernel_rfl) (fun _ _ _ _ h => h) (fun K hK => ?_)
      go_big_quiet_op
      refine hK _ ?_
      clear hK K
      refine pi_t 5 rfl (by kernel_rfl) (by kernel_rfl) (fun _ _ _ _ h => h) (fun K hK => ?_)
      go_big_quiet_op
      refine hK _ ?_
      clear hK K
      refine pi_t 6 rfl (by kernel_rfl) (by kernel_rfl) (fun _ _ _ _ h => h) (fun K hK => ?_)
      go_big_quiet_op
      refine hK _ ?_
      clear hK K
      refine pi_t 7 rfl (by kernel_rfl) (by kernel_rfl) (fun _ _ _ _ h => h) (fun K hK => ?_)
      go_big_quiet_op
      refine hK _ ?_
      clear hK K
      refine pi_t 9 rfl (by kernel_rfl) (by kernel_rfl) (fun _ _ _ _ h => h) (fun K hK => ?_)
      go_big_quiet_op
      refine hK _ ?_
      clear hK K
      refine pi_c 4 (by assumption) rfl (by kernel_rfl) (by kernel_rfl) (fun _ _ _ _ h => h) (fun K hK => ?_)
      go_big_quiet_op
      refine hK _ ?_
      clear hK K
      refine pi_c 8 (by assumption) rfl (by kernel_rfl) (by kernel_rfl) (fun _ _ _ _ h => h) (fun K hK => ?_)
      go_big_quiet_op
      refine hK _ ?_
      clear hK K
      refine pi_t 10 rfl (by kernel_rfl) (by kernel_rfl) (fun _ _ _ _ h => h) (fun K hK => ?_)
      go_big_quiet_op
      refine hK _ ?_
      clear hK K
      refine pi_c 11 (by assumption) rfl (by kernel_rfl) (by kernel_rfl) (fun _ _ _ _ h => h) (fun K hK => ?_)
      go_big_quiet_op
      refine hK _ ?_
      clear hK K
      refine pi_l 12 rfl (by kernel_rfl) (fun K hK => ?_)
      go_wp2_with (go_at_call 21; refine Calls.mono (HL.out _ (Below.drew (Ext.refl wr))) ?_; rintro e wt ⟨sM, tM, LM, rfl, hMv, hMf, hxt⟩)
      have hEt : Ext wr wt := Ext.trans' (Below.drew (Ext.refl wr)) hxt
      refine hK _ _ (fun _ h => afs_step h hxt) ?_
      clear hK K
      have HMV : Hid (RBk.At ⟨sM, tM, LM, (bk k).ls⟩ wt C B) := Lib.hid hMv
      have HMF : Hid (∀ j, RBk.F ⟨sM, tM, LM, (bk k).ls⟩ C B j → wr.heap.size ≤ j) := Lib.hid hMf
      have HR := Lib.hid (HM.out.ext hEt).row
      have hz := hE1.size
      have hzt := hEt.size
      obtain ⟨i0, z0, hi0, hz0, hz1, hz2, hz3⟩ := info_rs
      clear hMv hMf hxt
      refine pi_l 13 rfl (by kernel_rfl) (fun K hK => ?_)
      go_wp2
      refine hK _ _ (fun _ h => afs_step h (Ext.alloc' _ _)) ?_
      clear hK K
      refine pi_l 14 rfl (by kernel_rfl) (fun K hK => ?_)
      go_wp2_with (at_builtin; refine wpList_appB wt 8 (by decide) (.pointer (some ⟨sM, 0, none⟩)) rfl (sp bm k) v (w1.heap.size + 1) 32 HR.out 94 rfl _ _ rfl i0 z0 hi0 hz0 hz1 hz2 hz3 Tryz.underlying94 (by rfl) (by rfl) ?b1 ?b2 ?_)
      case b1 => rw [sp_len]; omega
      case b2 => omega
      intro v' wf g1 g2
      have hEf : Ext w1 wf := ext_grown (hE1.trans' hEt) g2 (fun i hi => by have := own_blk HR.out hi; omega)
      have hnext := HM.out.next hEt (by omega) HMV.out HMF.out (by rw [List.length_append]; exact g1) g2
      have hbf := (grown_old g2 (show w1.heap.size < wt.heap.size by omega) (fun e => by have := own_blk HR.out e.symm; omega)).trans (hEt.keep HBX.out)
      have HNX := Lib.hid hnext
      have f1 := frozen_of hbf 1
      have q1 := (cell_of hbf 1).trans rfl
      have ql := lt_of hbf
      have HBF := Lib.hid hbf
      obtain ⟨pv, nv, cv, rfl⟩ := own_slice g1
      have hmf : Mod S wr wf := mod_grown (hEt.mod _) g2 (fun i hi => (HSS.out i).2 hi)
      clear g1 g2 hnext hbf
      go_wp2
      refine hK _ _ (fun _ _ => ⟨⟨wf, hmf⟩, rfl⟩) ?_
      clear hK K
      refine pi_t 15 rfl (by kernel_rfl) (by kernel_rfl) (fun _ _ _ _ h => h) (fun K hK => ?_)
      go_big_quiet_op
      refine hK _ ?_
      clear hK K
      refine pi_t 16 rfl (by kernel_rfl) (by kernel_rfl) (fun _ _ _ _ h => h) (fun K hK => ?_)
      go_big_quiet_op
      refine hK _ ?_
      clear hK K
      refine pi_l 17 rfl (by kernel_rfl) (fun K hK => ?_)
      go_wp2
      refine hK _ _ (by simp) ?_
      clear hK K
      refine pi_end (by kernel_rfl) ?_
      go_wp2_with fail
      go_roundw
      case rel =>
        refine ⟨k + 1, _, _, by omega, by go_num, hEf.setR (p := ⟨w1.heap.size, 1, none⟩) (Nat.le_refl _) _, (setCell_same HBF.out 1 _).trans rfl, HNX.out.setc (by omega) _ _, fun j hj => ?_⟩
        by_cases e : j = k
        · subst e; rw [setR_same]
        · rw [setR_ne _ _ e]; exact HZ.out j (by omega)
      case measure => simp [intOf]; omega
    · obtain rfl : k = n := by omega
      clear hbx hHr
      go_wp2
      go_ret
      exact HM.out.post (sm := ⟨s0, t0, L0, sm.ls⟩) HBX.out (HK0.out.ext hE1) (fun j hj => ⟨(HF0.out j hj).1, by have := (HF0.out j hj).2; omega⟩) HX1.out.size (Nat.le_succ_of_le HX1.out.size) n1 n2 hiN HMD.out (HX1.out.trans' hE1) HZ.out
end Go.Proofs.YtfhdjekpdifajaaGreat
namespace Go.Proofs.YtfhdjekpdifajaaGreat
set_option linter.unusedVariables false
open Go.RowKit
def rwErr (C : Cfg) (B i : Nat) (sm : RBk) (bk : Nat → RBk) (key d : Int) : Int := if errK C B sm.ls key d = 0 then errK C B (bk i).ls key d else errK C B sm.ls key d
def RWUpdPost (w : World) (r t : Nat) (C : Cfg) (B n i : Nat) (sm : RBk) (bk : Nat → RBk) (key d : Int) (e : Ending) (w' : World) : Prop :=
  e = .returned (.int .i64 (rwErr C B i sm bk key d)) ∧ ((rwErr C B i sm bk key d = 0 ∧ RWPost w r t C B n sm bk i (updK C sm.ls key d) (fun j => if j = i then updK C (bk i).ls key d else (bk j).ls) w') ∨ (rwErr C B i sm bk key d ≠ 0 ∧ Ext w w'))
theorem RWAt.cells {w : World} {r t : Nat} {C : Cfg} {B n i : Nat} {sm : RBk} {bk : Nat → RBk} (h : RWAt w r t C B n i sm bk) : ∃ cap, w.cell? ⟨r, 0, none⟩ = some (.pointer (some ⟨sm.s, 0, none⟩)) ∧ w.cell? ⟨r, 1, none⟩ = some (.slice (some ⟨t, 0, none⟩) n cap) ∧ w.cell? ⟨r, 2, none⟩ = some (.int .i64 i) ∧ r < w.heap.size ∧ t < w.heap.size ∧ (∀ j, j < n → w.cell? ⟨t, j, none⟩ = some (.pointer (some ⟨(bk j).s, 0, none⟩))) ∧ (∀ j, w.frozen? ⟨t, j, none⟩ = false) ∧ (∀ j, w.frozen? ⟨r, j, none⟩ = false) := by
  obtain ⟨cap, h1, h2⟩ := h.st
  obtain ⟨cur, h3, h4⟩ := h.row
  exact ⟨cap, (cell_of h1 0).trans rfl, (cell_of h1 1).trans rfl, (cell_of h1 2).trans rfl, lt_of h1, lt_of h3, fun j hj => (cell_of h3 j).trans (h4 j hj), fun j => frozen_of h3 j, fun j => frozen_of h1 j⟩
theorem RWAt.nrt {w : World} {r t : Nat} {C : Cfg} {B n i : Nat} {sm : RBk} {bk : Nat → RBk} (h : RWAt w r t C B n i sm bk) : (¬ r = sm.s ∧ ¬ t = sm.s) ∧ ∀ j, j < n → ¬ r = (bk j).s ∧ ¬ t = (bk j).s := by
  obtain ⟨cap, h1, h2⟩ := h.st
  obtain ⟨cur, h3, h4⟩ := h.row
  exact ⟨⟨fun e => h.sum.off h1 (.inl rfl) (by rw [e]; exact .inl rfl), fun e => h.sum.off h3 (.inr rfl) (by rw [e]; exact .inl rfl)⟩, fun j hj => ⟨fun e => (h.bks j hj).off h1 (.inl rfl) (by rw [e]; exact .inl rfl), fun e => (h.bks j hj).off h3 (.inr rfl) (by rw [e]; exact .inl rfl)⟩⟩
set_option maxRecDepth 20000 in
set_option maxHeartbeats 8000000 in
theorem RWUpdate_c (r t : Nat) (C : Cfg) (B n i : Nat) (sm : RBk) (bk : Nat → RBk) (key d : Int) (w : World) (h : RWAt w r t C B n i sm bk) (hk : U64 key) (hd : I64 d) :
    Calls Tryz.prog 58 #[.pointer (some ⟨r, 0, none⟩), .int .u64 key, .int .i64 d] w (RWUpdPost w r t C B n i sm bk key d) := by
  have HH := Lib.hid h
  have hiN := h.iN
  have hn2 := h.n2
  obtain ⟨cap, r0, r1, r2, rl, tl, tj, _, _⟩ := h.cells
  have HCP := Lib.hid (RKCopy_c sm.s sm.t C B sm.L sm.ls w h.sum)
  have HK := Lib.hid hk
  have HD := Lib.hid hd
  clear h hk hd tj
  go_enter Tryz.func58, Tryz.ntmps58
  go_wp2_with fail
  refine Calls.mono HCP.out ?_
  rintro e w1 ⟨a, ta, La, rfl, hK1, hF1, hx1⟩
  have HK1 := Lib.hid hK1
  have HF1 := Lib.hid (show ∀ k, rkF a ta C B La k → w.heap.size ≤ k from hF1)
  have HX1 := Lib.hid hx1
  have haw : w.heap.size ≤ a := hF1 a (.inl rfl)
  clear hK1 hF1 hx1 r0 r1 r2
  go_wp2_with fail
  refine Calls.mono (RKUpdate_c a ta C B La sm.ls key d w1 HK1.out HK.out HD.out) ?_
  rintro e w2 ⟨rfl, hres⟩
  have HRES := Lib.hid hres
  clear hres
  by_cases h0 : errK C B sm.ls key d = 0
  · obtain ⟨_, t2, L2, hK2, hF2, hM2⟩ := HRES.out.resolve_right (fun h => h.1 h0)
    have hE2 : Ext w w2 := Below.trans HX1.out (hM2.below (B := w.heap.size) HX1.out.size (fun k hk => by rw [hk]; exact haw))
    have HY : Hid (RBk.At ⟨a, t2, L2, updK C sm.ls key d⟩ w2 C B) := Lib.hid hK2
    have HYF : Hid (∀ k, RBk.F ⟨a, t2, L2, updK C sm.ls key d⟩ C B k → w.heap.size ≤ k ∧ k < w2.heap.size) := Lib.hid (fun k hk => ⟨by
      rcases hF2 k hk with rfl | h
      · exact haw
      · exact Nat.le_trans HX1.out.size h, hK2.lt hk⟩)
    have HH2 := Lib.hid (HH.out.ext hE2)
    obtain ⟨cap2, r0, r1, r2, rl2, tl2, tj, _, rf⟩ := HH2.out.cells
    have ti := tj i hiN
    have nr := HH2.out.nrt.2 i hiN
    obtain ⟨S, hS⟩ : ∃ S : Nat → Prop, (fun k => k = (bk i).s) = S := ⟨_, rfl⟩
    have HSS := Lib.hid hS
    have ns1 : ¬ S r := by rw [← hS]; exact nr.1
    have ns2 : ¬ S t := by rw [← hS]; exact nr.2
    have hiz : (i : Int) < (n : Int) := by omega
    have HB := Lib.hid (HH2.out.bks i hiN)
    have HE2 := Lib.hid hE2
    have H0 := Lib.hid h0
    rw [h0]
    clear hK2 hF2 hM2 hE2 tj nr hS h0 HRES
    go_wp2_with fail
    have hC0 := afs_drew S w2
    refine pi_start (fun w' => ∃ x : AftS S w2, w' = x.w) [] (by kernel_rfl) ?_
    refine pi_t 0 rfl (by kernel_rfl) (by kernel_rfl) (fun _ _ _ _ h => h) (fun K hK => ?_)
    go_big_quiet_op
    refine hK _ ?_
    clear hK K
    refine pi_t 1 rfl (by kernel_rfl) (by kernel_rfl) (fun _ _ _ _ h => h) (fun K hK => ?_)
    go_big_quiet_op
    refine hK _ ?_
    clear hK K
    refine pi_t 2 rfl (by kernel_rfl) (by kernel_rfl) (fun _ _ _ _ h => h) (fun K hK => ?_)
    go_big_quiet_op
    refine hK _ ?_
    clear hK K
    refine pi_t 4 rfl (by kernel_rfl) (by kernel_rfl) (fun _ _ _ _ h => h) (fun K hK => ?_)
    go_big_quiet_op
    refine hK _ ?_
    clear hK K
    refine pi_t 5 rfl (by kernel_rfl) (by kernel_rfl) (fun _ _ _ _ h => h) (fun K hK => ?_)
    go_big_quiet_op
    refine hK _ ?_
    clear hK K
    refine pi_t 6 rfl (by kernel_rfl) (by kernel_rfl) (fun _ _ _ _ h => h) (fun K hK => ?_)
    go_big_quiet_op
    refine hK _ ?_
    clear hK K
    refine pi_t 10 rfl (by kernel_rfl) (by kernel_rfl) (fun _ _ _ _ h => h) (fun K hK => ?_)
    go_big_quiet_op
    refine hK _ ?_
    clear hK K
    refine pi_t 11 rfl (by kernel_rfl) (by kernel_rfl) (fun _ _ _ _ h => h) (fun K hK => ?_)
    go_big_quiet_op
    refine hK _ ?_
    clear hK K
    refine pi_c 3 (by assumption) rfl (by kernel_rfl) (by kernel_rfl) (fun _ _ _ _ h => h) (fun K hK => ?_)
    go_big_quiet_op
    refine hK _ ?_
    clear hK K
    refine pi_c 7 (by assumption) rfl (by kernel_rfl) (by kernel_rfl) (fun _ _ _ _ h => h) (fun K hK => ?_)
    go_big_quiet_op
    refine hK _ ?_
    clear hK K
    refine pi_t 8 rfl (by kernel_rfl) (by kernel_rfl) (fun _ _ _ _ h => h) (fun K hK => ?_)
    go_big_quiet_op
    refine hK _ ?_
    clear hK K
    refine pi_c 9 (by assumption) rfl (by kernel_rfl) (by kernel_rfl) (fun _ _ _ _ h => h) (fun K hK => ?_)
    go_big_quiet_op
    refine hK _ ?_
    clear hK K
    refine pi_l 12 rfl (by kernel_rfl) (fun K hK => ?_)
    go_wp2_with fail
    refine Calls.mono (RKUpdate_c (bk i).s (bk i).t C B (bk i).L (bk i).ls key d _ (RBk.At.ext HB.out (Below.drew (Ext.refl w2))) HK.out HD.out) ?_
    rintro e w3 ⟨rfl, hres⟩
    go_wp2
    have hM3 : Mod (fun k => k = (bk i).s) w2 w3 := by
      rcases hres with ⟨_, _, _, _, _, hM⟩ | ⟨_, hE⟩
      · exact (Ext.mod _ (Below.drew (Ext.refl w2))).trans hM
      · exact (Ext.mod _ (Below.drew (Ext.refl w2))).trans (hE.mod _)
    refine hK _ _ (fun _ _ => ⟨⟨w3, by rw [← HSS.out]; exact hM3⟩, rfl⟩) ?_
    clear hK K
    have HRES := Lib.hid hres
    have HM3 := Lib.hid hM3
    clear hres hM3 r0 r1 r2 ti
    by_cases h1 : errK C B (bk i).ls key d = 0
    · obtain ⟨_, t3, L3, hK3, hF3, _⟩ := HRES.out.resolve_right (fun h => h.1 h1)
      have hF3' : ∀ k, rkF (bk i).s t3 C B L3 k → k = (bk i).s ∨ w2.heap.size ≤ k := hF3
      have hW3 := HH2.out.putB hiN (x := ⟨(bk i).s, t3, L3, updK C (bk i).ls key d⟩) hK3 rfl HM3.out hF3'
      have hY3 : RBk.At ⟨a, t2, L2, updK C sm.ls key d⟩ w3 C B := HY.out.keep (fun k hk => HM3.out.block k (HYF.out k hk).2 (fun e => by
        have h5 := (HYF.out k hk).1
        have h6 := HH.out.lt (.inr (.inr (.inr ⟨i, hiN, .inl rfl⟩)))
        rw [e] at h5
        omega))
      have hd3 : ∀ j, j < n → Dj ((setR bk i ⟨(bk i).s, t3, L3, updK C (bk i).ls key d⟩ j).F C B) (RBk.F ⟨a, t2, L2, updK C sm.ls key d⟩ C B) := fun j hj k hk hy => by
        have hy2 := HYF.out k hy
        by_cases e : j = i
        · subst e
          rw [setR_same] at hk
          rcases hF3' k hk with e2 | e2
          · have h6 := HH.out.lt (.inr (.inr (.inr ⟨j, hj, .inl rfl⟩)))
            rw [← e2] at h6
            omega
          · omega
        · rw [setR_ne _ _ e] at hk
          have := (HH.out.bks j hj).lt hk
          omega
      have HFIN := Lib.hid (hW3.newS hY3 hd3)
      have hcells := hW3.cells
      obtain ⟨cap3, s0, s1, s2, sl, _, _, _, sf⟩ := hcells
      have sf0 := sf 0
      have H1 := Lib.hid h1
      have HF3 := Lib.hid hF3'
      rw [h1]
      clear hK3 hF3 hF3' hW3 hY3 hd3 h1 HRES sf
      refine pi_t 13 rfl (by kernel_rfl) (by kernel_rfl) (fun _ _ _ _ h => h) (fun K hK => ?_)
      go_big_quiet_op
      refine hK _ ?_
      clear hK K
      refine pi_end (by kernel_rfl) ?_
      go_wp2
      go_ret
      have he : rwErr C B i sm bk key d = 0 := by unfold rwErr; rw [if_pos H0.out]; exact H1.out
      refine ⟨by rw [he]; rfl, .inl ⟨he, t, _, _, HFIN.out, rfl, fun j hj => ?_, ?_, ?_⟩⟩
      · by_cases e : j = i
        · subst e; rw [setR_same]; exact (if_pos rfl).symm
        · rw [setR_ne _ _ e]; exact (if_neg e).symm
      · rintro k (rfl | rfl | hk | ⟨j, hj, hk⟩)
        · exact .inl (.inl rfl)
        · exact .inl (.inr (.inl rfl))
        · exact .inr (HYF.out k hk).1
        · by_cases e : j = i
          · subst e
            rw [setR_same] at hk
            rcases HF3.out k hk with e2 | e2
            · exact .inl (.inr (.inr (.inr ⟨j, hj, .inl e2⟩)))
            · exact .inr (Nat.le_trans HE2.out.size e2)
          · rw [setR_ne _ _ e] at hk
            exact .inl (.inr (.inr (.inr ⟨j, hj, hk⟩)))
      · have h1 : Mod (rwM r t n sm bk) w w2 := HE2.out.mod _
        have h2 : Mod (rwM r t n sm bk) w2 w3 := HM3.out.wider (fun k hk => .inr (.inr (.inr ⟨i, hiN, hk⟩)))
        exact (h1.trans h2).trans ((mod_set w3 r 0 _).wider (fun k hk => .inl hk))
    · obtain ⟨_, hx3⟩ := HRES.out.resolve_left (fun h => h1 h.1)
      have hEf : Ext w w3 := HE2.out.trans' (Ext.trans' (Below.drew (Ext.refl w2)) hx3)
      have he : rwErr C B i sm bk key d = errK C B (bk i).ls key d := by unfold rwErr; rw [if_pos H0.out]
      have HE := Lib.hid he
      generalize errK C B (bk i).ls key d = er at *
      have heb : (er != 0) = true := by simpa using h1
      have H1 := Lib.hid h1
      clear hx3 HRES he h1
      refine pi_t 13 rfl (by kernel_rfl) (by kernel_rfl) (fun _ _ _ _ h => h) (fun K hK => ?_)
      go_big_quiet_op
      refine hK _ ?_
      clear hK K
      refine pi_end (by kernel_rfl) ?_
      go_wp2
      go_ret
      exact ⟨by rw [HE.out]; rfl, .inr ⟨by rw [HE.out]; exact H1.out, hEf⟩⟩
  · obtain ⟨_, hx2⟩ := HRES.out.resolve_left (fun h => h0 h.1)
    have hEf := HX1.out.trans' hx2
    have he : rwErr C B i sm bk key d = errK C B sm.ls key d := by unfold rwErr; rw [if_neg h0]
    have HE := Lib.hid he
    generalize errK C B sm.ls key d = er at *
    have heb : (er != 0) = true := by simpa using h0
    have H0 := Lib.hid h0
    clear hx2 HRES he h0
    go_wp2
    go_ret
    exact ⟨by rw [HE.out]; rfl, .inr ⟨by rw [HE.out]; exact H0.out, hEf⟩⟩
def RWTickPost (w : World) (r t : Nat) (C : Cfg) (B n i : Nat) (sm : RBk) (bk : Nat → RBk) (e : Ending) (w' : World) : Prop :=
  ((∀ k, k ≤ B → allI (minusL (sm.ls k) ((bk ((i + 1) % n)).ls k))) ∧ e = .returned (.int .i64 0) ∧ RWPost w r t C B n sm bk ((i + 1) % n) (fun k => minusL (sm.ls k) ((bk ((i + 1) % n)).ls k)) (fun j => if j = (i + 1) % n then (fun (k : Nat) => zs (lvN C k)) else (bk j).ls) w') ∨
  ((¬ ∀ k, k ≤ B → allI (minusL (sm.ls k) ((bk ((i + 1) % n)).ls k))) ∧ e = .returned (.int .i64 4) ∧ Ext w w')
set_option maxRecDepth 20000 in
set_option maxHeartbeats 8000000 in
theorem RWTick_c (r t : Nat) (C : Cfg) (B n i : Nat) (sm : RBk) (bk : Nat → RBk) (w : World) (h : RWAt w r t C B n i sm bk) :
    Calls Tryz.prog 54 #[.pointer (some ⟨r, 0, none⟩)] w (RWTickPost w r t C B n i sm bk) := by
  have HH := Lib.hid h
  have hiN := h.iN
  have hn1 := h.n1
  have hn2 := h.n2
  obtain ⟨nx, hnx⟩ : ∃ nx, (i + 1) % n = nx := ⟨_, rfl⟩
  have hxn : nx < n := by rw [← hnx]; exact Nat.mod_lt _ (by omega)
  have hnz : ((i : Int) + 1) % (n : Int) = nx := by rw [← hnx]; push_cast; rfl
  have hnn : ((n : Int) == 0) = false := by simp; omega
  have HNZ := Lib.hid hnz
  have HNX := Lib.hid hnx
  unfold RWTickPost
  rw [hnx]
  have hxz : (nx : Int) < (n : Int) := by omega
  have hiz : i ≤ 16 := by omega
  obtain ⟨hok, hB⟩ := h.ok
  have hmd : C.mode ≠ 2 := by rw [h.md]; decide
  have HN := Lib.hid (fun W' => RKNew_c C hok B hB W')
  have HMD := Lib.hid hmd
  obtain ⟨cap, r0, r1, r2, rl, tl, tj, _, _⟩ := h.cells
  clear h hnx hnz hok hB hmd tj
  go_enter Tryz.func54, Tryz.ntmps54
  go_wp2_with fail
  have hC0 := af_drew w
  refine pi_start (fun w' => ∃ z : After w, w' = z.w) [] (by kernel_rfl) ?_
  refine pi_t 0 rfl (by kernel_rfl) (by kernel_rfl) (fun _ _ _ _ h => h) (fun K hK => ?_)
  go_big_quiet_op
  refine hK _ ?_
  clear hK K
  refine pi_t 1 rfl (by kernel_rfl) (by kernel_rfl) (fun _ _ _ _ h => h) (fun K hK => ?_)
  go_big_quiet_op
  refine hK _ ?_
  clear hK K
  refine pi_t 2 rfl (by kernel_rfl) (by kernel_rfl) (fun _ _ _ _ h => h) (fun K hK => ?_)
  go_big_quiet_op
  refine hK _ ?_
  clear hK K
  refine pi_t 5 rfl (by kernel_rfl) (by kernel_rfl) (fun _ _ _ _ h => h) (fun K hK => ?_)
  go_big_quiet_op
  refine hK _ ?_
  clear hK K
  refine pi_t 6 rfl (by kernel_rfl) (by kernel_rfl) (fun _ _ _ _ h => h) (fun K hK => ?_)
  go_big_quiet_op
  refine hK _ ?_
  clear hK K
  refine pi_t 7 rfl (by kernel_rfl) (by kernel_rfl) (fun _ _ _ _ h => h) (fun K hK => ?_)
  go_big_quiet_op
  refine hK _ ?_
  clear hK K
  refine pi_c 3 (by assumption) rfl (by kernel_rfl) (by kernel_rfl) (fun _ _ _ _ h => h) (fun K hK => ?_)
  go_big_quiet_op
  refine hK _ ?_
  clear hK K
  refine pi_t 4 rfl (by kernel_rfl) (by kernel_rfl) (fun _ _ _ _ h => h) (fun K hK => ?_)
  go_big_quiet_op
  refine hK _ ?_
  clear hK K
  refine pi_c 8 (by assumption) rfl (by kernel_rfl) (by kernel_rfl) (fun _ _ _ _ h => h) (fun K hK => ?_)
  go_big_quiet_op
  refine hK _ ?_
  clear hK K
  refine pi_t 9 rfl (by kernel_rfl) (by kernel_rfl) (fun _ _ _ _ h => h) (fun K hK => ?_)
  go_big_quiet_op
  refine hK _ ?_
  clear hK K
  refine pi_t 10 rfl (by kernel_rfl) (by kernel_rfl) (fun _ _ _ _ h => h) (fun K hK => ?_)
  go_big_quiet_op
  refine hK _ ?_
  clear hK K
  try rw [HNZ.out]
  refine pi_t 11 rfl (by kernel_rfl) (by kernel_rfl) (fun _ _ _ _ h => h) (fun K hK => ?_)
  go_big_quiet_op
  refine hK _ ?_
  clear hK K
  refine pi_end (by kernel_rfl) ?_
  go_wp2_with fail
  have hEd : Ext w w.drew := Below.drew (Ext.refl w)
  have HED := Lib.hid hEd
  have HHd := Lib.hid (HH.out.ext hEd)
  generalize w.drew = wd at *
  clear hEd r0 r1 r2 rl tl
  obtain ⟨cap, r0, r1, r2, rl, tl, tj, _, _⟩ := HHd.out.cells
  have tx := tj nx hxn
  have nr := HHd.out.nrt.1
  obtain ⟨S, hS⟩ : ∃ S : Nat → Prop, (fun k => k = sm.s) = S := ⟨_, rfl⟩
  have HSS := Lib.hid hS
  have ns1 : ¬ S r := by rw [← hS]; exact nr.1
  have ns2 : ¬ S t := by rw [← hS]; exact nr.2
  have HSM := Lib.hid HHd.out.sum
  have HBX := Lib.hid (HHd.out.bks nx hxn)
  clear tj nr hS
  have hC0 := afs_drew S wd
  refine pi_start (fun w' => ∃ z : AftS S wd, w' = z.w) [] (by kernel_rfl) ?_
  refine pi_t 0 rfl (by kernel_rfl) (by kernel_rfl) (fun _ _ _ _ h => h) (fun K hK => ?_)
  go_big_quiet_op
  refine hK _ ?_
  clear hK K
  refine pi_t 1 rfl (by kernel_rfl) (by kernel_rfl) (fun _ _ _ _ h => h) (fun K hK => ?_)
  go_big_quiet_op
  refine hK _ ?_
  clear hK K
  refine pi_t 2 rfl (by kernel_rfl) (by kernel_rfl) (fun _ _ _ _ h => h) (fun K hK => ?_)
  go_big_quiet_op
  refine hK _ ?_
  clear hK K
  refine pi_t 4 rfl (by kernel_rfl) (by kernel_rfl) (fun _ _ _ _ h => h) (fun K hK => ?_)
  go_big_quiet_op
  refine hK _ ?_
  clear hK K
  refine pi_t 5 rfl (by kernel_rfl) (by kernel_rfl) (fun _ _ _ _ h => h) (fun K hK => ?_)
  go_big_quiet_op
  refine hK _ ?_
  clear hK K
  refine pi_t 6 rfl (by kernel_rfl) (by kernel_rfl) (fun _ _ _ _ h => h) (fun K hK => ?_)
  go_big_quiet_op
  refine hK _ ?_
  clear hK K
  refine pi_t 8 rfl (by kernel_rfl) (by kernel_rfl) (fun _ _ _ _ h => h) (fun K hK => ?_)
  go_big_quiet_op
  refine hK _ ?_
  clear hK K
  refine pi_c 3 (by assumption) rfl (by kernel_rfl) (by kernel_rfl) (fun _ _ _ _ h => h) (fun K hK => ?_)
  go_big_quiet_op
  refine hK _ ?_
  clear hK K
  refine pi_c 7 (by assumption) rfl (by kernel_rfl) (by kernel_rfl) (fun _ _ _ _ h => h) (fun K hK => ?_)
  go_big_quiet_op
  refine hK _ ?_
  clear hK K
  refine pi_t 9 rfl (by kernel_rfl) (by kernel_rfl) (fun _ _ _ _ h => h) (fun K hK => ?_)
  go_big_quiet_op
  refine hK _ ?_
  clear hK K
  refine pi_c 10 (by assumption) rfl (by kernel_rfl) (by kernel_rfl) (fun _ _ _ _ h => h) (fun K hK => ?_)
  go_big_quiet_op
  refine hK _ ?_
  clear hK K
  refine pi_l 11 rfl (by kernel_rfl) (fun K hK => ?_)
  go_wp2_with fail
  refine Calls.mono (RKJoinMinus_c sm.s sm.t (bk nx).s (bk nx).t C B sm.L (bk nx).L sm.ls (bk nx).ls _ (RBk.At.ext HSM.out (Below.drew (Ext.refl wd))) (RBk.At.ext HBX.out (Below.drew (Ext.refl wd))) (fun _ => HMD.out)) ?_
  rintro e w3 (⟨ha, rfl, t3, L3, hK3, hF3, hM3⟩ | ⟨ha, rfl, hx3⟩)
  · go_wp2
    have hM3' : Mod (fun k => k = sm.s) wd w3 := (Ext.mod _ (Below.drew (Ext.refl wd))).trans hM3
    refine hK _ _ (fun _ _ => ⟨⟨w3, by rw [← HSS.out]; exact hM3'⟩, rfl⟩) ?_
    clear hK K
    have hF3' : ∀ k, rkF sm.s t3 C B L3 k → k = sm.s ∨ wd.heap.size ≤ k := hF3
    obtain ⟨x, hx⟩ : ∃ x : RBk, x = ⟨sm.s, t3, L3, fun k => minusL (sm.ls k) ((bk nx).ls k)⟩ := ⟨_, rfl⟩
    have hxA : x.At w3 C B := by rw [hx]; exact hK3
    have hxs : x.s = sm.s := by rw [hx]
    have hxl : x.ls = fun k => minusL (sm.ls k) ((bk nx).ls k) := by rw [hx]
    have hxF : ∀ k, x.F C B k → k = sm.s ∨ wd.heap.size ≤ k := by rw [hx]; exact hF3'
    have hW3 := HHd.out.putS hxA hxs hM3' hxF
    have HXL := Lib.hid hxl
    have HXS := Lib.hid hxs
    have HXF := Lib.hid hxF
    have HW3 := Lib.hid hW3
    have HM3 := Lib.hid hM3'
    have HA := Lib.hid ha
    obtain ⟨q0, q1, q2, q3, q4⟩ := RKAt.cfg hxA
    have ql := RKAt.lts hxA
    obtain ⟨cap3, s0, s1, s2, sl, tl3, _, tf, sf⟩ := hW3.cells
    have tfx := tf nx
    have tcx := (hW3.cells).choose_spec.2.2.2.2.2.1 nx hxn
    clear ha hK3 hF3 hM3 hM3' hF3' hx hxA hxs hxl hxF hW3 r0 r1 r2 tx tf sf
    refine pi_t 12 rfl (by kernel_rfl) (by kernel_rfl) (fun _ _ _ _ h => h) (fun K hK => ?_)
    go_big_quiet_op
    refine hK _ ?_
    clear hK K
    refine pi_end (by kernel_rfl) ?_
    go_wp2_with fail
    have hC0 := af_drew w3
    refine pi_start (fun w' => ∃ z : After w3, w' = z.w) [14] (by kernel_rfl) ?_
    refine pi_t 0 rfl (by kernel_rfl) (by kernel_rfl) (fun _ _ _ _ h => h) (fun K hK => ?_)
    go_big_quiet_op
    refine hK _ ?_
    clear hK K
    refine pi_t 1 rfl (by kernel_rfl) (by kernel_rfl) (fun _ _ _ _ h => h) (fun K hK => ?_)
    go_big_quiet_op
    refine hK _ ?_
    clear hK K
    refine pi_t 2 rfl (by kernel_rfl) (by kernel_rfl) (fun _ _ _ _ h => h) (fun K hK => ?_)
    go_big_quiet_op
    refine hK _ ?_
    clear hK K
    refine pi_t 4 rfl (by kernel_rfl) (by kernel_rfl) (fun _ _ _ _ h => h) (fun K hK => ?_)
    go_big_quiet_op
    refine hK _ ?_
    clear hK K
    refine pi_t 5 rfl (by kernel_rfl) (by kernel_rfl) (fun _ _ _ _ h => h) (fun K hK => ?_)
    go_big_quiet_op
    refine hK _ ?_
    clear hK K
    refine pi_t 6 rfl (by kernel_rfl) (by kernel_rfl) (fun _ _ _ _ h => h) (fun K hK => ?_)
    go_big_quiet_op
    refine hK _ ?_
    clear hK K
    refine pi_t 7 rfl (by kernel_rfl) (by kernel_rfl) (fun _ _ _ _ h => h) (fun K hK => ?_)
    go_big_quiet_op
    refine hK _ ?_
    clear hK K
    refine pi_c 3 (by assumption) rfl (by kernel_rfl) (by kernel_rfl) (fun _ _ _ _ h => h) (fun K hK => ?_)
    go_big_quiet_op
    refine hK _ ?_
    clear hK K
    refine pi_c 8 (by assumption) rfl (by kernel_rfl) (by kernel_rfl) (fun _ _ _ _ h => h) (fun K hK => ?_)
    go_big_quiet_op
    refine hK _ ?_
    clear hK K
    refine pi_t 9 rfl (by kernel_rfl) (by kernel_rfl) (fun _ _ _ _ h => h) (fun K hK => ?_)
    go_big_quiet_op
    refine hK _ ?_
    clear hK K
    refine pi_t 10 rfl (by kernel_rfl) (by kernel_rfl) (fun _ _ _ _ h => h) (fun K hK => ?_)
    go_big_quiet_op
    refine hK _ ?_
    clear hK K
    refine pi_c 11 (by assumption) rfl (by kernel_rfl) (by kernel_rfl) (fun _ _ _ _ h => h) (fun K hK => ?_)
    go_big_quiet_op
    refine hK _ ?_
    clear hK K
    refine pi_l 12 rfl (by kernel_rfl) (fun K hK => ?_)
    go_wp2_with (go_at_call 17; refine Calls.mono (HN.out _) ?_; rintro e w4 ⟨sy, ty, Ly, rfl, hKy, hFy, hxy⟩)
    have hE4 : Ext w3 w4 := Ext.trans' (Below.drew (Ext.refl w3)) hxy
    refine hK _ _ (fun _ h => af_step h hxy) ?_
    clear hK K
    have hFy' : ∀ k, RBk.F ⟨sy, ty, Ly, fun k => zs (lvN C k)⟩ C B k → w3.heap.size ≤ k := hFy
    have hW4 := HW3.out.ext hE4
    have hB4 := hW4.newB hxn (y := ⟨sy, ty, Ly, fun k => zs (lvN C k)⟩) hKy (fun k hk hs => by have := hFy' k hk; have := HW3.out.sum.lt hs; omega) (fun m hm _ k hk hs => by have := hFy' k hs; have := (HW3.out.bks m hm).lt hk; omega)
    have HFIN := Lib.hid (fun (W : World) (hW : Ext (w4.setCell ⟨t, nx, none⟩ (.pointer (some ⟨sy, 0, none⟩))) W) => (hB4.ext hW).setI hxn)
    have HCELL := Lib.hid hB4.cells
    have HFY := Lib.hid hFy'
    have HE4 := Lib.hid hE4
    have tf4 := hW4.cells.choose_spec.2.2.2.2.2.2.1 nx
    have tc4 := hW4.cells.choose_spec.2.2.2.2.2.1 nx hxn
    have tl4 := hW4.ltt
    clear hKy hFy hxy hFy' hW4 hB4 hE4
    refine pi_t 13 rfl (by kernel_rfl) (by kernel_rfl) (fun _ _ _ _ h => h) (fun K hK => ?_)
    go_big_quiet_op
    refine hK _ ?_
    clear hK K
    refine pi_l 14 rfl (by kernel_rfl) (fun K hK => ?_)
    go_wp2
    refine hK _ _ (by simp) ?_
    clear hK K
    refine pi_end (by kernel_rfl) ?_
    obtain ⟨cap5, m0, m1, m2, ml, _, _, _, mf⟩ := HCELL.out
    have mf2 := mf 2
    clear mf tf4 tc4 tl4 s0 s1 s2 q0 q1 q2 q3 q4 tfx tcx
    generalize hw5 : w4.setCell ⟨t, nx, none⟩ (.pointer (some ⟨sy, 0, none⟩)) = w5 at *
    have HW5 := Lib.hid hw5
    clear hw5
    go_wp2
    go_ret
    have hmodT : Mod (rwM r t n sm bk) w4 w5 := by rw [← HW5.out]; exact (mod_set w4 t nx _).wider (fun k hk => .inr (.inl hk))
    have hm0 : Mod (rwM r t n sm bk) w wd := HED.out.mod _
    have hm1 : Mod (rwM r t n sm bk) wd w3 := HM3.out.wider (fun k hk => .inr (.inr (.inl hk)))
    have hm2 : Mod (rwM r t n sm bk) w3 w4 := HE4.out.mod _
    have hmall := ((hm0.trans hm1).trans hm2).trans hmodT
    have hfoot : ∀ k, rwF r t C B n x (setR bk nx ⟨sy, ty, Ly, fun k => zs (lvN C k)⟩) k → rwF r t C B n sm bk k ∨ w.heap.size ≤ k := by
      rintro k (rfl | rfl | hk | ⟨j, hj, hk⟩)
      · exact .inl (.inl rfl)
      · exact .inl (.inr (.inl rfl))
      · rcases HXF.out k hk with e | e
        · exact .inl (.inr (.inr (.inl (.inl e))))
        · exact .inr (Nat.le_trans HED.out.size e)
      · by_cases e : j = nx
        · subst e
          rw [setR_same] at hk
          exact .inr (Nat.le_trans (Nat.le_trans HED.out.size HM3.out.size) (HFY.out k hk))
        · rw [setR_ne _ _ e] at hk
          exact .inl (.inr (.inr (.inr ⟨j, hj, hk⟩)))
    have hls : ∀ j, j < n → (setR bk nx ⟨sy, ty, Ly, fun k => zs (lvN C k)⟩ j).ls = if j = nx then (fun (k : Nat) => zs (lvN C k)) else (bk j).ls := fun j hj => by
      by_cases e : j = nx
      · subst e; rw [setR_same, if_pos rfl]
      · rw [setR_ne _ _ e, if_neg e]
    first
      | exact .inl ⟨HA.out, rfl, t, x, _, HFIN.out _ (Ext.refl _), HXL.out, hls, hfoot, hmall.trans ((mod_set w5 r 2 _).wider (fun k hk => .inl hk))⟩
      | exact .inl ⟨HA.out, rfl, t, x, _, HFIN.out _ (Ext.refl _).drewR, HXL.out, hls, hfoot, (hmall.trans (Ext.mod _ (Ext.refl _).drewR)).trans ((mod_set w5.drew r 2 _).wider (fun k hk => .inl hk))⟩
  · go_wp2
    have hE3 : Ext wd w3 := Ext.trans' (Below.drew (Ext.refl wd)) hx3
    refine hK _ _ (fun _ _ => ⟨⟨w3, hE3.mod _⟩, rfl⟩) ?_
    clear hK K
    have HNA := Lib.hid ha
    have hEf := HED.out.trans' hE3
    clear ha hx3 hE3 r0 r1 r2 tx
    refine pi_t 12 rfl (by kernel_rfl) (by kernel_rfl) (fun _ _ _ _ h => h) (fun K hK => ?_)
    go_big_quiet_op
    refine hK _ ?_
    clear hK K
    refine pi_end (by kernel_rfl) ?_
    go_wp2
    go_ret
    exact .inr ⟨HNA.out, rfl, hEf⟩
end Go.Proofs.YtfhdjekpdifajaaGreat
namespace Go.Proofs.YtfhdjekpdifajaaGreat
set_option linter.unusedVariables false
open Go.RowKit
/-- The function behind a method of a level. -/
def lvF (C : Cfg) (lv : Int) (x s : Nat) : Nat := bif isX C lv then x else s
theorem lvF_x {C : Cfg} {lv : Int} (h : isX C lv = true) (x s : Nat) : lvF C lv x s = x := by unfold lvF; rw [h]; rfl
theorem lvF_s {C : Cfg} {lv : Int} (h : isX C lv = false) (x s : Nat) : lvF C lv x s = s := by unfold lvF; rw [h]; rfl
theorem lvV_eq (C : Cfg) (lv : Int) (L : Lev) : lvV C lv L = .iface (lvT C lv) (.pointer (some ⟨L.s, 0, none⟩)) := rfl
theorem lvm_Cells (C : Cfg) (lv : Int) (p : Option Addr) (w : World) : Sem.run Tryz.prog (method 457 (lvT C lv) (.pointer p) "Cells") w = .ok (lvF C lv 123 170, .pointer p) w := by
  unfold lvT lvF
  cases isX C lv with
  | true => kernel_rfl
  | false => kernel_rfl
theorem lve_Cells (C : Cfg) (lv : Int) (args : Array Value) (w : World) : (callFunc (lvF C lv 123 170) args).run Tryz.prog w = .ok (.enter (lvF C lv 123 170) args) w := by
  unfold lvF
  cases isX C lv with
  | true => kernel_rfl
  | false => kernel_rfl
theorem LCells_c (C : Cfg) (lv : Int) (L : Lev) (l : List Int) (w : World) (h : LvAt w L C lv l) :
    Calls Tryz.prog (lvF C lv 123 170) #[.pointer (some ⟨L.s, 0, none⟩)] w fun e w' => ∃ v, e = .returned v ∧ w'.ownsRow w.heap.size 2 1 v l.length (ints l) ∧ (v = .slice none 0 0 → False) ∧ Ext w w' := by
  cases hx : isX C lv with
  | true => rw [lvF_x hx]; exact ECells_c _ _ _ C lv _ l w (h.x hx)
  | false => rw [lvF_s hx]; exact SCells_c _ _ _ C lv _ _ l w (h.sk hx)
end Go.Proofs.YtfhdjekpdifajaaGreat
namespace Go.Proofs.YtfhdjekpdifajaaGreat
set_option linter.unusedVariables false
open Go.RowKit
/-- A row of numbers of its own. -/
def RowIs (w : World) (B0 : Nat) (u : Value) (xs : List Int) : Prop :=
  ∃ z cap cur, u = .slice (some ⟨z, 0, none⟩) xs.length cap ∧ xs.length ≤ cap ∧ B0 ≤ z ∧ w.heap[z]? = some (.cells cur 2 (0, 0)) ∧ ∀ j, j < xs.length → cur[j]? = some (.int .i64 (xs.getD j 0))
theorem RowIs.ext {w w' : World} {B0 : Nat} {u : Value} {xs : List Int} (h : RowIs w B0 u xs) (he : Ext w w') : RowIs w' B0 u xs := by
  obtain ⟨z, cap, cur, h1, h2, h3, h4, h5⟩ := h
  exact ⟨z, cap, cur, h1, h2, h3, he.keep h4, h5⟩
theorem RowIs.mod {S : Nat → Prop} {w w' : World} {B0 : Nat} {u : Value} {xs : List Int} (h : RowIs w B0 u xs) (he : Mod S w w') (hS : ∀ k, S k → k < B0) : RowIs w' B0 u xs := by
  obtain ⟨z, cap, cur, h1, h2, h3, h4, h5⟩ := h
  exact ⟨z, cap, cur, h1, h2, h3, he.keep h4 (fun hs => by have := hS z hs; omega), h5⟩
theorem RowIs.ints {w : World} {B0 : Nat} {u : Value} {xs : List Int} (h : RowIs w B0 u xs) : IntsAt w u xs := by
  obtain ⟨z, cap, cur, h1, h2, h3, h4, h5⟩ := h
  exact .inr ⟨z, 0, cap, h1, lt_of h4, fun k hk => by rw [Nat.zero_add, cell_of h4]; exact h5 k hk⟩
/-- Rows of numbers that have been made. -/
structure RowsAt (w : World) (B0 k : Nat) (v : Value) (rv : Nat → Value) (ms : Nat → List Int) : Prop where
  row : w.ownsRow B0 43 1 v ((List.range k).map rv).length ((List.range k).map rv)
  is : ∀ r, r < k → RowIs w B0 (rv r) (ms r)
theorem RowsAt.zero (w : World) (B0 : Nat) (rv : Nat → Value) (ms : Nat → List Int) : RowsAt w B0 0 (.slice none 0 0) rv ms := ⟨⟨rfl, .inl ⟨rfl, rfl⟩⟩, by intros; omega⟩
theorem RowsAt.ext {w w' : World} {B0 k : Nat} {v : Value} {rv : Nat → Value} {ms : Nat → List Int} (h : RowsAt w B0 k v rv ms) (he : Ext w w') : RowsAt w' B0 k v rv ms := ⟨own_ext h.row he, fun r hr => (h.is r hr).ext he⟩
theorem RowsAt.mod {S : Nat → Prop} {w w' : World} {B0 k : Nat} {v : Value} {rv : Nat → Value} {ms : Nat → List Int} (h : RowsAt w B0 k v rv ms) (he : Mod S w w') (hS : ∀ i, S i → i < B0) : RowsAt w' B0 k v rv ms :=
  ⟨own_keepB h.row (fun i hi => he.block i (own_lt h.row hi) (fun hs => by have := hS i hs; have := own_blk h.row hi; omega)), fun r hr => (h.is r hr).mod he hS⟩
theorem RowsAt.next {w w' : World} {B0 k : Nat} {v v' : Value} {rv : Nat → Value} {ms : Nat → List Int} {u : Value} {o : Obj} (h : RowsAt w B0 k v rv ms) (hu : RowIs w B0 u (ms k))
    (hown : w'.ownsRow B0 43 1 v' ((List.range k).map rv ++ [u]).length ((List.range k).map rv ++ [u])) (hg : (w.alloc o).grownBy w' v.ownBlock) : RowsAt w' B0 (k + 1) v' (fun r => if r = k then u else rv r) ms := by
  have hold : ∀ u xs, RowIs w B0 u xs → RowIs w' B0 u xs := by
    rintro u xs ⟨z, cap, cur, h1, h2, h3, h4, h5⟩
    exact ⟨z, cap, cur, h1, h2, h3, (grown_old hg (lt_of h4) (fun e => own_notB h.row h4 (by decide) e.symm)).trans h4, h5⟩
  refine ⟨?_, fun r hr => ?_⟩
  · have e : (List.range (k + 1)).map (fun r => if r = k then u else rv r) = (List.range k).map rv ++ [u] := by
      rw [List.range_succ, List.map_append]
      congr 1
      · apply List.map_congr_left
        intro i hi
        rw [List.mem_range] at hi
        rw [if_neg (by omega)]
      · simp
    rw [e]; exact hown
  · by_cases e : r = k
    · rw [if_pos e, e]; exact hold _ _ hu
    · rw [if_neg e]; exact hold _ _ (h.is r (by omega))
/-- Its cells, once there is one. -/
theorem RowsAt.cells {w : World} {B0 k : Nat} {v : Value} {rv : Nat → Value} {ms : Nat → List Int} (h : RowsAt w B0 k v rv ms) (hk : 0 < k) : ∃ m cap, v = .slice (some ⟨m, 0, none⟩) k cap ∧ B0 ≤ m ∧ m < w.heap.size ∧ ∀ r, r < k → w.cell? ⟨m, r, none⟩ = some (rv r) := by
  have hlen : ((List.range k).map rv).length = k := by simp
  rcases h.row.2 with ⟨_, h0⟩ | ⟨m, cap, cur, rfl, hbg, hm, hnc, hcm, hcs, htake⟩
  · rw [hlen] at h0; omega
  · refine ⟨m, cap, by rw [hlen], hbg, lt_of hm, fun r hr => ?_⟩
    have hget : ((List.range k).map rv)[r]? = some (rv r) := by rw [List.getElem?_map, List.getElem?_range hr]; rfl
    have h1 := h.row.cells (g := m) rfl r _ hget
    rw [show ((⟨m, 0, none⟩ : Addr).add r) = ⟨m, r, none⟩ by (simp [Addr.add]; intro e; exact e.symm)] at h1
    exact h1
theorem lvN_pos {C : Cfg} (hok : C.Ok) {lv : Int} (h0 : 0 ≤ lv) : 0 < lvN C lv := by
  unfold lvN
  cases isX C lv with
  | true => show 0 < kN C lv; have := kN_eq hok h0; have := (keys_bd C hok lv h0).1; omega
  | false => show 0 < rN C * wN C; have := rN_eq hok; have := wN_eq hok; have := hok.r1; have := hok.w1; exact Nat.mul_pos (by omega) (by omega)
set_option maxRecDepth 20000 in
set_option maxHeartbeats 4000000 in
theorem KAlike_yes (s g s2 g2 : Nat) (C : Cfg) (B : Nat) (L L2 : Nat → Lev) (ls ls2 : Nat → List Int) (w : World) (h : KAt w s g C B L ls) (h2 : KAt w s2 g2 C B L2 ls2) :
    Calls Tryz.prog 128 #[.pointer (some ⟨s, 0, none⟩), .pointer (some ⟨s2, 0, none⟩)] w fun e w' => e = .returned (.bool true) ∧ Ext w w' := by
  go_enter Tryz.func128, Tryz.ntmps128
  go_wp2_with fail
  refine Calls.mono (SKConfig_c s g C B L ls _ h) ?_
  rintro e w1 ⟨rfl, hx1⟩
  go_wp2_with fail
  refine Calls.mono (SKConfig_c s2 g2 C B L2 ls2 _ (h2.ext hx1)) ?_
  rintro e w2 ⟨rfl, hx2⟩
  go_wp2
  go_ret
  exact ⟨by first | rfl | simp, hx1.trans' hx2⟩
def KJoinPost (w : World) (s g : Nat) (C : Cfg) (B : Nat) (L : Nat → Lev) (ms : Nat → List Int) (e : Ending) (w' : World) : Prop :=
  ((∀ n, n ≤ B → allI (ms n)) ∧ e = .returned (.int .i64 0) ∧ KAt w' s g C B L ms ∧ Mod (cellsOf B L) w w') ∨ ((¬ ∀ n, n ≤ B → allI (ms n)) ∧ e = .returned (.int .i64 4) ∧ Ext w w')
set_option maxRecDepth 20000 in
set_option maxHeartbeats 8000000 in
theorem KAllSubtract_c (s g s2 g2 : Nat) (C : Cfg) (B : Nat) (L L2 : Nat → Lev) (ls ls2 : Nat → List Int) (w : World) (h : KAt w s g C B L ls) (h2 : KAt w s2 g2 C B L2 ls2) (hmd : "Subtract" = "Subtract" → C.mode ≠ 2) :
    Calls Tryz.prog 127 #[.agg #[.func (.func 43) #[] #[]], .pointer (some ⟨s, 0, none⟩), .pointer (some ⟨s2, 0, none⟩)] w (KJoinPost w s g C B L (fun n => minusL (ls n) (ls2 n))) := by
  have HH := Lib.hid h
  have HH2 := Lib.hid h2
  have hok := h.ok
  have hB := h.hB
  have hb1 := hok.b1
  have hb2 := hok.b2
  have hB59 : B ≤ 59 := by omega
  have HB := Lib.hid hB
  have HMD := Lib.hid hmd
  have hlen : ∀ n, n ≤ B → (minusL (ls n) (ls2 n)).length = lvN C n := fun n hn => by rw [minusL_len]; exact (h.lev n hn).len
  have HLEN := Lib.hid hlen
  obtain ⟨ms, hms⟩ : ∃ ms : Nat → List Int, ms = fun n => minusL (ls n) (ls2 n) := ⟨_, rfl⟩
  have HMS := Lib.hid (show ∀ n, minusL (ls n) (ls2 n) = ms n from fun n => by rw [hms])
  rw [← hms]
  clear h h2 hB hmd hlen hms
  go_enter Tryz.func127, Tryz.ntmps127
  go_wp2
  go_step3
  go_wp2_with fail
  refine Calls.mono (KAlike_yes s g s2 g2 C B L L2 ls ls2 _ (HH.out.ext (Ext.alloc' _ _)) (HH2.out.ext (Ext.alloc' _ _))) ?_
  rintro e w1 ⟨rfl, hx1⟩
  have hj1 := hx1.keep (heap_at w (.cells #[.func (.func 43) #[] #[]] 204) rfl)
  have hE1 : Ext w w1 := (Ext.alloc' _ _).trans' hx1
  clear hx1
  go_wp2
  go_step3
  go_wp2_with fail
  refine Calls.mono (SKConfig_c s g C B L ls _ (HH.out.ext hE1)) ?_
  rintro e w2 ⟨rfl, hx2⟩
  have hj2 := hx2.keep hj1
  have hE2 : Ext w w2 := hE1.trans' hx2
  clear hj1 hx2 hE1
  have hfd : ∀ w, (Instr.field 24 (.agg #[.int .i64 C.bits, .int .i64 C.rows, .int .i64 C.width, .int .i64 C.mode, .int .u64 C.seed]) 0).run Tryz.prog w = .ok (.int .i64 C.bits) w := fun _ => by kernel_rfl
  go_wp2
  go_loopw [7, 8, 24] (fun u7 u8 u24 wr => ∃ (k : Nat) (rv : Nat → Value), k ≤ B + 1 ∧ u24 = .int .i64 k ∧ u8 = .int .i64 0 ∧ RowsAt wr w.heap.size k u7 rv ms ∧ Ext w wr ∧ wr.heap[w.heap.size]? = some (.cells #[.func (.func 43) #[] #[]] 204 (0, 0)) ∧ ∀ n, n < k → allI (ms n)) (fun _ _ u24 _ => B + 1 - (intOf u24).toNat)
  case atStart => exact ⟨0, fun _ => undef, Nat.zero_le _, rfl, rfl, RowsAt.zero _ _ _ _, hE2, hj2, fun n hn => absurd hn (Nat.not_lt_zero _)⟩
  case round =>
    clear hE2 hj2
    obtain ⟨k, rv, hk, rfl, rfl, hR, hE, hj, hall⟩ := hrel
    have HALL := Lib.hid hall
    have HR := Lib.hid hR
    have HJ := Lib.hid hj
    have hsE := hE.size
    clear hall hR hj
    by_cases hlt : k < B + 1
    · have hlt' : (k : Int) < C.bits + 1 := by have := HB.out; omega
      go_wp2_with fail
      refine Calls.mono (KAt_c s g C B L ls _ (HH.out.ext hE) k (by omega)) ?_
      rintro e w3 ⟨M, rfl, hL, m1, m2, m3, hx3⟩
      have hE3 := hE.trans' hx3
      have hs3 := hx3.size
      rw [lvV_eq]
      have HL := Lib.hid hL
      clear hL
      go_wp2_with fail
      refine Calls.mono (KAt_c s2 g2 C B L2 ls2 _ (HH2.out.ext hE3) k (by omega)) ?_
      rintro e w4 ⟨M2, rfl, hL2, n1, n2, n3, hx4⟩
      have hE4 := hE3.trans' hx4
      rw [lvV_eq]
      have HL4 := Lib.hid (HL.out.ext hx4)
      have HL2 := Lib.hid hL2
      have hj4 := (hx3.trans' hx4).keep HJ.out
      have c0 := (cell_of hj4 0).trans rfl
      have l0 := lt_of hj4
      clear hL2 HL
      have hcall : Calls Tryz.prog 43 #[.iface (lvT C k) (.pointer (some ⟨M.s, 0, none⟩)), .iface (lvT C k) (.pointer (some ⟨M2.s, 0, none⟩))] w4 (LMergePost w4 M C k (ms k)) := by
        rw [← HMS.out k]
        first | exact LMerge_c C k M M2 _ _ w4 HL4.out HL2.out | exact LSubtract_c C k M M2 _ _ w4 HL4.out HL2.out (HMD.out (by first | rfl | trivial))
      have HCALL := Lib.hid hcall
      clear hcall
      have hs4 := hx4.size
      go_wp2_with fail
      refine Calls.mono HCALL.out ?_
      rintro e w5 (⟨ha, rfl, hL5, hm5⟩ | ⟨ha, rfl, hx5⟩)
      · have hE5 : Ext wr w5 := Below.trans (hx3.trans' hx4) (hm5.below (by omega) (fun i hi => by rw [hi]; exact m3))
        have hj5 := hE5.keep HJ.out
        have HL5 := Lib.hid hL5
        have HA := Lib.hid ha
        have HJ5 := Lib.hid hj5
        have mC := lvm_Cells C k (some ⟨M.s, 0, none⟩)
        have eC := lve_Cells C k
        clear hL5 hm5 ha hj5 hj4 c0 l0 hx3 hx4 hE3 hE4
        go_wp2_with fail
        refine Calls.mono (LCells_c C k M _ _ HL5.out) ?_
        rintro e w6 ⟨v, rfl, ho, _, hx6⟩
        have hE6 := hE5.trans' hx6
        have hpos : 0 < (ms k).length := by rw [HL5.out.len]; exact lvN_pos hok (Int.natCast_nonneg k)
        have hu : RowIs w6 w.heap.size v (ms k) := by
          obtain ⟨z, cap, cur, r1, r2, r3, r4, r5⟩ := own_row1 ho hpos
          exact ⟨z, cap, cur, r1, r2, by have := hE5.size; omega, r4, r5⟩
        have hR6 := HR.out.ext hE6
        have hj6 := hx6.keep HJ5.out
        have HU := Lib.hid hu
        have HR6 := Lib.hid hR6
        have HJ6 := Lib.hid hj6
        obtain ⟨vp, vc, rfl⟩ : ∃ p c, v = .slice p (ms k).length c := by obtain ⟨z, cap, cur, r1, _⟩ := hu; exact ⟨_, _, r1⟩
        have hs6 := hE6.size
        obtain ⟨i0, z0, hi0, hz0, hz1, hz2, hz3⟩ := info_row
        clear mC eC hu hR6 hj6 ho hx6 hE5
        go_wp2_with (at_builtin; refine wpList_appB w6 24 (by decide) (.slice vp (ms k).length vc) rfl ((List.range k).map rv) u7 w.heap.size 43 HR6.out.row 159 rfl _ _ rfl i0 z0 hi0 hz0 hz1 hz2 hz3 Tryz.underlying159 rfl rfl ?b1 ?b2 ?_)
        case b1 => rw [List.length_map, List.length_range]; omega
        case b2 => omega
        intro v' w' g1 g2
        have hown' := g1
        have hnext := HR6.out.next HU.out (by rw [List.length_append, List.length_map, List.length_range]; exact hown') g2
        have hEw : Ext w w' := ext_grown (hE.trans' hE6) g2 (fun i hi => own_blk HR6.out.row hi)
        have hjw := (grown_old g2 (lt_of HJ6.out) (fun e => own_notB HR6.out.row HJ6.out (by decide) e.symm)).trans HJ6.out
        obtain ⟨pv, nv, cv, rfl⟩ := own_slice g1
        have HN := Lib.hid hnext
        have HJW := Lib.hid hjw
        clear g1 g2 hnext hown' hjw
        go_wp2
        go_roundw
        case rel =>
          refine ⟨k + 1, _, by omega, by go_num, rfl, HN.out, hEw, HJW.out, fun n hn => ?_⟩
          by_cases e : n = k
          · rw [e]; exact HA.out
          · exact HALL.out n (by omega)
        case measure => simp [intOf]; omega
      · go_wp2
        try rw [Exit.noGoto_ret]
        go_ret
        exact .inr ⟨fun h => ha (h k (by omega)), rfl, hE4.trans' hx5⟩
    · obtain rfl : k = B + 1 := by omega
      have hlt' : ¬ (((B + 1 : Nat) : Int) < C.bits + 1) := by have := HB.out; omega
      rename World => wo
      obtain ⟨m, mc, rfl, hmB, hml, hmc⟩ := HR.out.cells (by omega)
      have HMC := Lib.hid hmc
      have hlc : ∀ i, cellsOf B L i → i < w.heap.size := fun i hi => HH.out.ltc hi
      have HLC := Lib.hid hlc
      have HK0 := Lib.hid (HH.out.ext hE)
      clear hmc hlc
      go_wp2
      go_loopw [57] (fun u57 wr => ∃ j : Nat, j ≤ B + 1 ∧ u57 = .int .i64 j ∧ Mod (cellsOf B L) wo wr ∧ KAt wr s g C B L (fun n => if n < j then ms n else ls n)) (fun u57 _ => B + 1 - (intOf u57).toNat)
      case atStart => exact ⟨0, Nat.zero_le _, rfl, Mod.refl _ _, HK0.out.cong (fun n _ => by rw [if_neg (Nat.not_lt_zero _)])⟩
      case round =>
        obtain ⟨j, hj, rfl, hM, hK⟩ := hrel
        have hsM := hM.size
        by_cases hjl : j < B + 1
        · have hRj := (HR.out.is j hjl).mod hM HLC.out
          have hcj := (mcell hM hml (fun h => by have := HLC.out _ h; omega) _).trans (HMC.out j hjl)
          have lm : m < wr.heap.size := Nat.lt_of_lt_of_le hml hsM
          have HK := Lib.hid hK
          have HRJ := Lib.hid hRj
          obtain ⟨zp, zc, hzz⟩ : ∃ p c, rv j = .slice p (ms j).length c := by obtain ⟨z, cap, cur, r1, _⟩ := hRj; exact ⟨_, _, r1⟩
          rw [hzz] at hcj HRJ
          clear hK hRj hzz
          go_wp2_with fail
          refine Calls.mono (KLoad_yes s g C B L _ _ HK.out j (by omega) (ms j) _ HRJ.out.ints (HALL.out j hjl) (by rw [← HMS.out j]; exact HLEN.out j (by omega)) ?_) ?_
          · rintro g' off k' cap' he e
            obtain ⟨z, cap, cur, r1, r2, r3, _⟩ := HRJ.out
            rw [he] at r1
            have : g' = z := by
              have h1 := (Value.slice.inj r1).1
              simp at h1
              exact h1.1
            have := HLC.out _ ⟨j, by omega, rfl⟩
            omega
          rintro e w5 ⟨rfl, hK5, hm5⟩
          go_wp2
          go_roundw
          case rel =>
            refine ⟨j + 1, by omega, by go_num, hM.trans (hm5.mono (fun i hi _ => ⟨j, by omega, hi⟩)), hK5.cong (fun n _ => ?_)⟩
            by_cases e : n = j
            · rw [if_pos e, if_pos (by omega), e]
            · rw [if_neg e]
              by_cases h : n < j
              · rw [if_pos h, if_pos (by omega)]
              · rw [if_neg h, if_neg (by omega)]
          case measure => simp [intOf]; omega
        · obtain rfl : j = B + 1 := by omega
          go_wp2
          try rw [Exit.noGoto_ret]
          go_ret
          exact .inl ⟨fun n hn => HALL.out n (by omega), rfl, hK.cong (fun n hn => if_pos (by omega)), (hE.mod _).trans hM⟩
end Go.Proofs.YtfhdjekpdifajaaGreat
namespace Go.Proofs.YtfhdjekpdifajaaGreat
set_option linter.unusedVariables false
open Go.RowKit
set_option maxRecDepth 20000 in
set_option maxHeartbeats 4000000 in
theorem KSubtract_c (s g s2 g2 : Nat) (C : Cfg) (B : Nat) (L L2 : Nat → Lev) (ls ls2 : Nat → List Int) (w : World) (h : KAt w s g C B L ls) (h2 : KAt w s2 g2 C B L2 ls2) (hmd : "Subtract" = "Subtract" → C.mode ≠ 2) :
    Calls Tryz.prog 65 #[.pointer (some ⟨s, 0, none⟩), .pointer (some ⟨s2, 0, none⟩)] w (KJoinPost w s g C B L (fun n => minusL (ls n) (ls2 n))) := by
  have HA := Lib.hid (KAllSubtract_c s g s2 g2 C B L L2 ls ls2 w h h2 hmd)
  clear h h2 hmd
  go_enter Tryz.func65, Tryz.ntmps65
  go_wp2_with fail
  refine Calls.mono HA.out ?_
  rintro e w1 (⟨h1, rfl, h2, h3⟩ | ⟨h1, rfl, h2⟩)
  · go_wp2
    go_ret
    exact .inl ⟨h1, rfl, h2, h3⟩
  · go_wp2
    go_ret
    exact .inr ⟨h1, rfl, h2⟩
end Go.Proofs.YtfhdjekpdifajaaGreat
namespace Go.Proofs.YtfhdjekpdifajaaGreat
set_option linter.unusedVariables false
open Go.RowKit
/-- All cells of a stack lie between two bounds. -/
def KIn (N M B : Nat) (L : Nat → Lev) : Prop := ∀ n, n ≤ B → N ≤ (L n).c ∧ (L n).c < M
theorem KIn.cells {N M B : Nat} {L : Nat → Lev} (h : KIn N M B L) {k : Nat} (hk : cellsOf B L k) : N ≤ k ∧ k < M := by obtain ⟨n, hn, rfl⟩ := hk; exact h n hn
/-- A block that is no cell of a stack. -/
theorem KAt.blk {w w' : World} {s g : Nat} {C : Cfg} {B : Nat} {L : Nat → Lev} {ls : Nat → List Int} (h : KAt w s g C B L ls) (hm : Mod (cellsOf B L) w w') {b : Nat} {cur : Array Value} {t : TypeId} (hb : w.heap[b]? = some (.cells cur t (0, 0))) (ht : t ≠ 2) :
    w'.heap[b]? = some (.cells cur t (0, 0)) :=
  hm.keep hb (fun hc => by obtain ⟨c2, h2⟩ := h.isc hc; exact blk_ne hb h2 ht rfl)
end Go.Proofs.YtfhdjekpdifajaaGreat
namespace Go.Proofs.YtfhdjekpdifajaaGreat
set_option linter.unusedVariables false
open Go.RowKit
/-- A level's cells behind updates (cut). -/
def feedV (C : Cfg) (lv : Int) (us : List (Int × Int)) (l : List Int) : List Int := us.foldl (fun l u => lvU C lv l (cutK C lv u.1) (cutD C.mode u.2)) l
theorem feedV_snoc (C : Cfg) (lv : Int) (us : List (Int × Int)) (u : Int × Int) (l : List Int) : feedV C lv (us ++ [u]) l = lvU C lv (feedV C lv us l) (cutK C lv u.1) (cutD C.mode u.2) := by
  unfold feedV; rw [List.foldl_append]; rfl
theorem feedV_len (C : Cfg) (lv : Int) (us : List (Int × Int)) (l : List Int) : (feedV C lv us l).length = l.length := by
  unfold feedV
  induction us generalizing l with
  | nil => rfl
  | cons u us ih => rw [List.foldl_cons, ih, lvU_len]
theorem feedV_s {C : Cfg} {lv : Int} (h : isX C lv = false) (us : List (Int × Int)) (l : List Int) : feedV C lv us l = feed C lv (rN C) (wN C) us l := by
  unfold feedV feed
  congr 1
  funext l u
  exact lvU_s h _ _ _
theorem feedV_x {C : Cfg} {lv : Int} (h : isX C lv = true) (hok : C.Ok) (hlv : 0 ≤ lv) (us : List (Int × Int)) (n : Nat) {i : Nat} (hi : i < n) : (feedV C lv us (zs n)).getD i 0 = sumIf (fun k => k == (i : Int)) (cutP C lv us) := by
  refine snoc_ind (P := fun us => (feedV C lv us (zs n)).getD i 0 = sumIf (fun k => k == (i : Int)) (cutP C lv us)) ?_ ?_ us
  · show (zs n).getD i 0 = 0
    simp [zs, hi]
  · intro us u ih
    have hk := cutK_bd C hok lv u.1 hlv
    have hl : (feedV C lv us (zs n)).length = n := by rw [feedV_len, zs_len]
    rw [feedV_snoc, cutP_snoc, sumIf_snoc, ← ih, lvU_x h]
    unfold updX
    generalize feedV C lv us (zs n) = l at *
    generalize cutK C lv u.1 = k at *
    by_cases e : k.toNat = i
    · have e2 : (k == (i : Int)) = true := by simp; omega
      simp only [e2, cond_true]
      rw [e, List.getD_eq_getElem?_getD, List.getElem?_set_self (by omega)]
      rfl
    · have e2 : (k == (i : Int)) = false := by simp; omega
      simp only [e2, cond_false]
      rw [List.getD_eq_getElem?_getD, List.getElem?_set_ne e, List.getD_eq_getElem?_getD]
      omega
/-- In the modes Linear and Median, and of exact levels in all, two levels' cells together are those of one that was fed all. -/
theorem feedV_plus (C : Cfg) (hok : C.Ok) (lv : Int) (hlv : 0 ≤ lv) (hm : isX C lv = true ∨ C.mode ≠ 2) (us vs : List (Int × Int)) : plusL (feedV C lv us (zs (lvN C lv))) (feedV C lv vs (zs (lvN C lv))) = feedV C lv (us ++ vs) (zs (lvN C lv)) := by
  cases hx : isX C lv with
  | true =>
    apply list_ext_getD
    · rw [plusL_len, feedV_len, feedV_len]
    · intro i hi
      rw [plusL_len] at hi
      rw [plusL_get hi]
      rw [feedV_len, zs_len] at hi
      rw [feedV_x hx hok hlv us _ hi, feedV_x hx hok hlv vs _ hi, feedV_x hx hok hlv (us ++ vs) _ hi, cutP_append, sumIf_append]
  | false =>
    have hm' := hm.resolve_left (by rw [hx]; decide)
    have hn : lvN C lv = rN C * wN C := by unfold lvN; rw [hx]; rfl
    rw [feedV_s hx, feedV_s hx, feedV_s hx, hn]
    exact feed_plus C hok lv (rN C) (wN C) (rN_eq hok) (wN_eq hok) hm' us vs
end Go.Proofs.YtfhdjekpdifajaaGreat
namespace Go.Proofs.YtfhdjekpdifajaaGreat
set_option linter.unusedVariables false
open Go.RowKit
theorem feedK_V {C : Cfg} (hok : C.Ok) {n : Nat} (hn : (n : Int) ≤ C.bits) {us : List (Int × Int)} (hus : UpsOk us) : feedK C us n = feedV C n (shU n us) (zs (lvN C n)) := by
  unfold feedK feedV shU
  have : ∀ l : List Int, us.foldl (fun l u => lvU C n l (sh n (cutK C 0 u.1)) (cutD C.mode u.2)) l = (us.map fun u => (u.1 / 2 ^ n, u.2)).foldl (fun l u => lvU C n l (cutK C n u.1) (cutD C.mode u.2)) l := by
    induction us with
    | nil => intro l; rfl
    | cons u us ih =>
      intro l
      rw [List.foldl_cons, List.map_cons, List.foldl_cons, ih (fun v hv => hus v (by simp [hv])), cutK_sh hok hn (hus u (by simp)).1.1]
  exact this _
theorem feedK_plus {C : Cfg} (hok : C.Ok) {n : Nat} (hn : (n : Int) ≤ C.bits) (hm : isX C n = true ∨ C.mode ≠ 2) {us vs : List (Int × Int)} (hus : UpsOk us) (hvs : UpsOk vs) : plusL (feedK C us n) (feedK C vs n) = feedK C (us ++ vs) n := by
  rw [feedK_V hok hn hus, feedK_V hok hn hvs, feedK_V hok hn (us := us ++ vs) (fun u hu => by rcases List.mem_append.1 hu with h | h; exact hus u h; exact hvs u h), feedV_plus C hok n (Int.natCast_nonneg n) hm]
  unfold shU
  rw [List.map_append]
theorem plusL_comm {a b : List Int} (h : a.length = b.length) : plusL a b = plusL b a := by
  apply list_ext_getD
  · rw [plusL_len, plusL_len, h]
  · intro i hi
    rw [plusL_len] at hi
    rw [plusL_get hi, plusL_get (by omega)]; omega
theorem Bnd.allI {A : Int} {l : List Int} (h : Bnd A l) (hA : A ≤ 9223372036854775807) : allI l := by
  intro x hx
  have := h x hx
  unfold I64; constructor <;> omega
end Go.Proofs.YtfhdjekpdifajaaGreat
namespace Go.Proofs.YtfhdjekpdifajaaGreat
set_option linter.unusedVariables false
open Go.RowKit
def K1 : Cfg := ⟨2, 1, 4, 1, 0⟩
theorem K1_ok : K1.Ok := by constructor <;> simp [K1, U64]
theorem K1_x (n : Nat) : isX K1 n = true := by
  have : keys K1 n ≤ 4 := by
    unfold keys
    have h : (2 : Nat) ^ ((2 : Int) - (n : Int)).toNat ≤ 2 ^ 2 := Nat.pow_le_pow_right (by decide) (by omega)
    show (2 : Int) ^ ((2 : Int) - (n : Int)).toNat ≤ 4
    exact_mod_cast h
  unfold isX
  exact decide_eq_true this
end Go.Proofs.YtfhdjekpdifajaaGreat
namespace Go.Proofs.YtfhdjekpdifajaaGreat
set_option linter.unusedVariables false
open Go.RowKit
/-- A stack: where it lies, and what it has. -/
structure Bk where
  s : Nat
  g : Nat
  L : Nat → Lev
  ls : Nat → List Int
def Bk.At (k : Bk) (w : World) (C : Cfg) (B : Nat) : Prop := KAt w k.s k.g C B k.L k.ls
structure WAt (w : World) (N p b : Nat) (C : Cfg) (B n : Nat) (sm : Bk) (bk : Nat → Bk) : Prop where
  st : ∃ cap, w.heap[p]? = some (.cells #[.pointer (some ⟨sm.s, 0, none⟩), .slice (some ⟨b, 0, none⟩) n cap] 201 (0, 0)) ∧ cap = n
  row : ∃ cur, w.heap[b]? = some (.cells cur 28 (0, 0)) ∧ ∀ i, i < n → cur[i]? = some (.pointer (some ⟨(bk i).s, 0, none⟩))
  sum : sm.At w C B
  bks : ∀ i, i < n → (bk i).At w C B
  sepS : ∀ i, i < n → ∀ m, m ≤ B → ¬ cellsOf B (bk i).L (sm.L m).c
  sepB : ∀ i j, i < n → j < n → i ≠ j → ∀ m, m ≤ B → ¬ cellsOf B (bk i).L ((bk j).L m).c
  n1 : 1 ≤ n
  n2 : n ≤ 16
  md : C.mode = 1
  loP : N ≤ p
  loB : N ≤ b
  loC : ∀ i, i < n → ∀ m, m ≤ B → N ≤ ((bk i).L m).c
section
variable {w w' : World} {N p b : Nat} {C : Cfg} {B n : Nat} {sm : Bk} {bk : Nat → Bk}
theorem WAt.ltp (h : WAt w N p b C B n sm bk) : p < w.heap.size := by obtain ⟨_, h1, _⟩ := h.st; exact lt_of h1
theorem WAt.ltb (h : WAt w N p b C B n sm bk) : b < w.heap.size := by obtain ⟨_, h1, _⟩ := h.row; exact lt_of h1
theorem WAt.ext (h : WAt w N p b C B n sm bk) (he : Ext w w') : WAt w' N p b C B n sm bk := by
  refine ⟨?_, ?_, KAt.ext h.sum he, fun i hi => KAt.ext (h.bks i hi) he, h.sepS, h.sepB, h.n1, h.n2, h.md, h.loP, h.loB, h.loC⟩
  · obtain ⟨cap, h1, h2⟩ := h.st; exact ⟨cap, he.keep h1, h2⟩
  · obtain ⟨cur, h1, h2⟩ := h.row; exact ⟨cur, he.keep h1, h2⟩
end
set_option maxRecDepth 20000 in
set_option maxHeartbeats 4000000 in
theorem WSum_c {N p b : Nat} {C : Cfg} {B n : Nat} {sm : Bk} {bk : Nat → Bk} {w : World} (h : WAt w N p b C B n sm bk) :
    Calls Tryz.prog 60 #[.pointer (some ⟨p, 0, none⟩)] w (KCopyPost w C B sm.ls) := by
  obtain ⟨cap, hst, hcap⟩ := h.st
  have p0 := (cell_of hst 0).trans rfl
  have pl := lt_of hst
  have HC := Lib.hid (KCopy_c sm.s sm.g C B sm.L sm.ls w h.sum)
  clear hst h
  go_enter Tryz.func60, Tryz.ntmps60
  go_wp2_with fail
  refine Calls.mono HC.out ?_
  rintro e w1 ⟨s, g, L, rfl, h1, h2, h3, h4, h5⟩
  go_wp2
  go_ret
  exact ⟨s, g, L, rfl, h1, h2, h3, h4, h5⟩
set_option maxRecDepth 20000 in
theorem WBuckets_c {N p b : Nat} {C : Cfg} {B n : Nat} {sm : Bk} {bk : Nat → Bk} {w : World} (h : WAt w N p b C B n sm bk) :
    Calls Tryz.prog 61 #[.pointer (some ⟨p, 0, none⟩)] w fun e w' => e = .returned (.int .i64 n) ∧ w = w' := by
  obtain ⟨cap, hst, hcap⟩ := h.st
  have p1 := (cell_of hst 1).trans rfl
  have pl := lt_of hst
  clear hst h
  go_enter Tryz.func61, Tryz.ntmps61
  go_wp2
  go_ret
  exact ⟨rfl, rfl⟩
/-- What is left of the sum without the first bucket. -/
def WoPost (w : World) (C : Cfg) (B : Nat) (ms : Nat → List Int) (e : Ending) (w' : World) : Prop :=
  ∃ s : Nat, Ext w w' ∧ (((∀ k, k ≤ B → allI (ms k)) ∧ e = .returned (.tuple #[.pointer (some ⟨s, 0, none⟩), .int .i64 0]) ∧ ∃ g L, KAt w' s g C B L ms ∧ KFresh w.heap.size B L) ∨ ((¬ ∀ k, k ≤ B → allI (ms k)) ∧ e = .returned (.tuple #[.pointer (some ⟨s, 0, none⟩), .int .i64 4])))
set_option maxRecDepth 20000 in
set_option maxHeartbeats 4000000 in
theorem WWithout_c {N p b : Nat} {C : Cfg} {B n : Nat} {sm : Bk} {bk : Nat → Bk} {w : World} (h : WAt w N p b C B n sm bk) :
    Calls Tryz.prog 126 #[.pointer (some ⟨p, 0, none⟩)] w (WoPost w C B (fun k => minusL (sm.ls k) ((bk 0).ls k))) := by
  have HW := Lib.hid h
  obtain ⟨cap, hst, hcap⟩ := h.st
  have hn : 0 < n := h.n1
  have hmd : C.mode ≠ 2 := by rw [h.md]; decide
  have p0 := (cell_of hst 0).trans rfl
  have pl := lt_of hst
  have HC := Lib.hid (KCopy_c sm.s sm.g C B sm.L sm.ls w h.sum)
  clear hst h
  go_enter Tryz.func126, Tryz.ntmps126
  go_wp2_with fail
  refine Calls.mono HC.out ?_
  rintro e w1 ⟨s, g, L, rfl, hK, h2, h3, hF, hx⟩
  have hW1 := HW.out.ext hx
  obtain ⟨cap1, hst1, hcap1⟩ := hW1.st
  obtain ⟨cur, hb1, hcur⟩ := hW1.row
  have q1 := (cell_of hst1 1).trans rfl
  have ql := lt_of hst1
  have b0 := (cell_of hb1 0).trans (hcur 0 hn)
  have bl := lt_of hb1
  have HK := Lib.hid hK
  have HB := Lib.hid (hW1.bks 0 hn)
  have hFF : KFresh w.heap.size B L := hF
  have HX := Lib.hid hx
  have HFF := Lib.hid hFF
  have hnz : (0 : Int) < (n : Int) := by omega
  clear p0 pl hW1 hst1 hb1 hcur hK hF hx hFF
  go_wp2_with fail
  refine Calls.mono (KSubtract_c s g (bk 0).s (bk 0).g C B L (bk 0).L _ _ _ HK.out HB.out (fun _ => hmd)) ?_
  rintro e w2 (⟨ha, rfl, hK2, hM⟩ | ⟨ha, rfl, hx2⟩)
  · have hE : Ext w w2 := Below.trans HX.out (hM.below HX.out.size (fun k ⟨m, hm, he⟩ => by have := (HFF.out m hm).2.2; omega))
    go_wp2
    go_ret2
    exact ⟨s, hE, .inl ⟨ha, rfl, g, L, hK2, HFF.out⟩⟩
  · go_wp2
    go_ret2
    exact ⟨s, HX.out.trans' hx2, .inr ⟨ha, rfl⟩⟩
/-- What Check answers. -/
noncomputable def chkE (B : Nat) (ms : Nat → List Int) : Int := by
  classical exact if ∀ k, k ≤ B → allI (ms k) then 0 else 4
theorem chkE_yes {B : Nat} {ms : Nat → List Int} (h : ∀ k, k ≤ B → allI (ms k)) : chkE B ms = 0 := by unfold chkE; exact if_pos h
theorem chkE_no {B : Nat} {ms : Nat → List Int} (h : ¬ ∀ k, k ≤ B → allI (ms k)) : chkE B ms = 4 := by unfold chkE; exact if_neg h
set_option maxRecDepth 20000 in
theorem WCheck_c {N p b : Nat} {C : Cfg} {B n : Nat} {sm : Bk} {bk : Nat → Bk} {w : World} (h : WAt w N p b C B n sm bk) :
    Calls Tryz.prog 52 #[.pointer (some ⟨p, 0, none⟩)] w fun e w' => e = .returned (.int .i64 (chkE B (fun k => minusL (sm.ls k) ((bk 0).ls k)))) ∧ Ext w w' := by
  have HC := Lib.hid (WWithout_c h)
  clear h
  go_enter Tryz.func52, Tryz.ntmps52
  go_wp2_with fail
  refine Calls.mono HC.out ?_
  rintro e w1 ⟨s, hE, (⟨ha, rfl, _⟩ | ⟨ha, rfl⟩)⟩
  · have hc := Lib.hid (chkE_yes ha)
    clear ha
    go_wp2
    go_ret
    exact ⟨by rw [hc.out]; rfl, hE⟩
  · have hc := Lib.hid (chkE_no ha)
    clear ha
    go_wp2
    go_ret
    exact ⟨by rw [hc.out]; rfl, hE⟩
end Go.Proofs.YtfhdjekpdifajaaGreat
namespace Go.Proofs.YtfhdjekpdifajaaGreat
set_option linter.unusedVariables false
open Go.RowKit
theorem LvAt.offW {w : World} {L : Lev} {C : Cfg} {lv : Int} {l : List Int} (h : LvAt w L C lv l) {q : Nat} {cur : Array Value} {T : TypeId} {f : Nat × Nat} (hq : w.heap[q]? = some (.cells cur T f)) (hT : T = 201 ∨ T = 28) : L.s ≠ q ∧ L.b ≠ q ∧ L.c ≠ q := by
  rcases h with ⟨_, h⟩ | ⟨_, h⟩ <;> (obtain ⟨cap, h1, h2⟩ := h.g.ex; obtain ⟨cur2, h3, _⟩ := h2.ex; rcases hT with rfl | rfl <;> exact ⟨blk_ne h.ex hq (by decide), blk_ne h1 hq (by decide), blk_ne h3 hq (by decide)⟩)
theorem Mod.mono' {S T : Nat → Prop} {w w' : World} (h : Mod S w w') (hs : ∀ k, S k → T k) : Mod T w w' := ⟨h.os, h.tape, h.output, h.size, fun k hk hn => h.block k hk (fun hk2 => hn (hs k hk2))⟩
/-- What is written to a window's own blocks leaves a stack. -/
theorem KAt.setW {w : World} {s g : Nat} {C : Cfg} {B : Nat} {L : Nat → Lev} {ls : Nat → List Int} (h : KAt w s g C B L ls) {q : Nat} {cur : Array Value} {T : TypeId} {f : Nat × Nat} (hq : w.heap[q]? = some (.cells cur T f)) (hT : T = 201 ∨ T = 28) {w' : World} (hk : ∀ k, k < w.heap.size → k ≠ q → w'.heap[k]? = w.heap[k]?) : KAt w' s g C B L ls := by
  obtain ⟨cap, h1, h2⟩ := h.ex
  obtain ⟨cur2, h3, h4⟩ := h.row
  have n1 : s ≠ q := by rcases hT with rfl | rfl <;> exact blk_ne h1 hq (by decide)
  have n2 : g ≠ q := by rcases hT with rfl | rfl <;> exact blk_ne h3 hq (by decide)
  refine ⟨⟨cap, (hk s h.lts n1).trans h1, h2⟩, ⟨cur2, (hk g h.ltg n2).trans h3, h4⟩, fun n hn => ?_, h.sep, h.ok, h.hB⟩
  obtain ⟨a1, a2, a3⟩ := (h.lev n hn).offW hq hT
  exact (h.lev n hn).keep (hk _ (h.lev n hn).lts a1) (hk _ (h.lev n hn).ltb a2) (hk _ (h.lev n hn).ltc a3)
/-- What a window's own changes may touch. -/
def WFoot (p b B n : Nat) (bk : Nat → Bk) (k : Nat) : Prop := k = p ∨ k = b ∨ ∃ i, i < n ∧ cellsOf B (bk i).L k
def Bk.upd (k : Bk) (C : Cfg) (key d : Int) : Bk := ⟨k.s, k.g, k.L, updK C k.ls key d⟩
def setB (bk : Nat → Bk) (i : Nat) (x : Bk) : Nat → Bk := fun j => if j = i then x else bk j
theorem setB_same (bk : Nat → Bk) (i : Nat) (x : Bk) : setB bk i x i = x := if_pos rfl
theorem setB_ne (bk : Nat → Bk) {i j : Nat} (x : Bk) (h : j ≠ i) : setB bk i x j = bk j := if_neg h
section
variable {w w' : World} {N p b : Nat} {C : Cfg} {B n : Nat} {sm : Bk} {bk : Nat → Bk}
/-- One bucket is changed. -/
theorem WAt.mod1 {x : Bk} {m : Nat} (h : WAt w N p b C B n sm bk) (hm : m < n) (hM : Mod (cellsOf B (bk m).L) w w') (hx : x.At w' C B) (hxs : x.s = (bk m).s) (hxL : x.L = (bk m).L) : WAt w' N p b C B n sm (setB bk m x) := by
  have hL : ∀ i, (setB bk m x i).L = (bk i).L := fun i => by
    by_cases h2 : i = m
    · rw [h2, setB_same, hxL]
    · rw [setB_ne _ _ h2]
  have hS : ∀ i, (setB bk m x i).s = (bk i).s := fun i => by
    by_cases h2 : i = m
    · rw [h2, setB_same, hxs]
    · rw [setB_ne _ _ h2]
  refine ⟨?_, ?_, ?_, fun i hi => ?_, fun i hi k hk => ?_, fun i j hi hj hij k hk => ?_, h.n1, h.n2, h.md, h.loP, h.loB, fun i hi k hk => ?_⟩
  · obtain ⟨cap, h1, h2⟩ := h.st; exact ⟨cap, KAt.blk (h.bks m hm) hM h1 (by decide), h2⟩
  · obtain ⟨cur, h1, h2⟩ := h.row; exact ⟨cur, KAt.blk (h.bks m hm) hM h1 (by decide), fun i hi => by rw [hS]; exact h2 i hi⟩
  · exact KAt.mod h.sum hM (fun k hk _ => KAt.isc (h.bks m hm) hk) (fun k hk => h.sepS m hm k hk)
  · by_cases h2 : i = m
    · rw [h2, setB_same]; exact hx
    · rw [setB_ne _ _ h2]; exact KAt.mod (h.bks i hi) hM (fun k hk _ => KAt.isc (h.bks m hm) hk) (fun k hk => h.sepB m i hm hi (fun e => h2 e.symm) k hk)
  · rw [hL]; exact h.sepS i hi k hk
  · rw [hL, hL]; exact h.sepB i j hi hj hij k hk
  · rw [hL]; exact h.loC i hi k hk
/-- Another stack becomes the sum. -/
theorem WAt.newSum (h : WAt w N p b C B n sm bk) (y : Bk) (hy : y.At w C B) (hys : ∀ i, i < n → ∀ m, m ≤ B → ¬ cellsOf B (bk i).L (y.L m).c) : WAt (w.setCell ⟨p, 0, none⟩ (.pointer (some ⟨y.s, 0, none⟩))) N p b C B n y bk := by
  obtain ⟨cap, h1, h2⟩ := h.st
  obtain ⟨cur, h3, h4⟩ := h.row
  have ho : ∀ k, k < w.heap.size → k ≠ p → (w.setCell ⟨p, 0, none⟩ (.pointer (some ⟨y.s, 0, none⟩))).heap[k]? = w.heap[k]? := fun k _ hk => setCell_other _ _ hk
  have hbp : b ≠ p := blk_ne h3 h1 (by decide)
  exact ⟨⟨cap, setCell_same h1 0 _, h2⟩, ⟨cur, (ho b h.ltb hbp).trans h3, h4⟩, KAt.setW hy h1 (.inl rfl) ho, fun i hi => KAt.setW (h.bks i hi) h1 (.inl rfl) ho, hys, h.sepB, h.n1, h.n2, h.md, h.loP, h.loB, h.loC⟩
end
/-- What Update answers. -/
def wErr (C : Cfg) (B n : Nat) (sm : Bk) (bk : Nat → Bk) (key d : Int) : Int := if errK C B sm.ls key d = 0 then errK C B (bk (n - 1)).ls key d else errK C B sm.ls key d
def WUpdPost (w : World) (N p b : Nat) (C : Cfg) (B n : Nat) (sm : Bk) (bk : Nat → Bk) (key d : Int) (e : Ending) (w' : World) : Prop :=
  e = .returned (.int .i64 (wErr C B n sm bk key d)) ∧ Mod (WFoot p b B n bk) w w' ∧
    ((wErr C B n sm bk key d = 0 ∧ ∃ s g L, KFresh w.heap.size B L ∧ WAt w' N p b C B n ⟨s, g, L, updK C sm.ls key d⟩ (setB bk (n - 1) ((bk (n - 1)).upd C key d))) ∨ (wErr C B n sm bk key d ≠ 0 ∧ WAt w' N p b C B n sm bk))
set_option maxRecDepth 20000 in
set_option maxHeartbeats 8000000 in
theorem WUpdate_c {N p b : Nat} {C : Cfg} {B n : Nat} {sm : Bk} {bk : Nat → Bk} {w : World} (h : WAt w N p b C B n sm bk) (key d : Int) (hk : U64 key) (hd : I64 d) :
    Calls Tryz.prog 57 #[.pointer (some ⟨p, 0, none⟩), .int .u64 key, .int .i64 d] w (WUpdPost w N p b C B n sm bk key d) := by
  have HW := Lib.hid h
  obtain ⟨cap, hst, hcap⟩ := h.st
  have hn := h.n1
  have hn2 := h.n2
  have p0 := (cell_of hst 0).trans rfl
  have pl := lt_of hst
  have HC := Lib.hid (KCopy_c sm.s sm.g C B sm.L sm.ls w h.sum)
  have HKU := Lib.hid hk
  have HDI := Lib.hid hd
  clear hst h hk hd
  go_enter Tryz.func57, Tryz.ntmps57
  go_wp2_with fail
  refine Calls.mono HC.out ?_
  rintro e w1 ⟨s, g, L, rfl, hK, h2, h3, hF, hx⟩
  have HX := Lib.hid hx
  have hFF : KFresh w.heap.size B L := hF
  have HFF := Lib.hid hFF
  have HK := Lib.hid hK
  clear p0 pl hK hF hFF hx
  go_wp2_with fail
  refine Calls.mono (KUpdate_c s g C B L _ key d _ HK.out HDI.out HKU.out) ?_
  rintro e w2 ⟨rfl, hK2, hM⟩
  have hE2 : Ext w w2 := Below.trans HX.out (hM.below HX.out.size (fun k ⟨m, hm, he⟩ => by have := (HFF.out m hm).2.2; omega))
  have HE2 := Lib.hid hE2
  by_cases h0 : errK C B sm.ls key d = 0
  · rw [h0] at hK2 ⊢
    replace hK2 : KAt w2 s g C B L (updK C sm.ls key d) := hK2
    have HK2 := Lib.hid hK2
    have hW2 := HW.out.ext hE2
    obtain ⟨cap2, hst2, hcap2⟩ := hW2.st
    obtain ⟨cur, hb2, hcur⟩ := hW2.row
    have q1 := (cell_of hst2 1).trans rfl
    have ql := lt_of hst2
    have hnn : ((n - 1 : Nat) : Int) = (n : Int) - 1 := by omega
    obtain ⟨m, rfl⟩ : ∃ m, n = m + 1 := ⟨n - 1, by omega⟩
    have b0 := (cell_of hb2 m).trans (hcur m (Nat.lt_succ_self m))
    have bl := lt_of hb2
    have hm15 : m ≤ 15 := by omega
    have HB := Lib.hid (hW2.bks m (Nat.lt_succ_self m))
    have HW2 := Lib.hid hW2
    have HST2 := Lib.hid hst2
    have HB2 := Lib.hid hb2
    have HCUR := Lib.hid hcur
    have HUP := Lib.hid (fun W (hE : Ext w2 W) => KUpdate_c (bk m).s (bk m).g C B (bk m).L (bk m).ls key d W (HB.out.ext hE) HDI.out HKU.out)
    have H0 := Lib.hid h0
    obtain ⟨S, hSS⟩ : ∃ S : Nat → Prop, ∀ k, S k ↔ cellsOf B (bk m).L k := ⟨_, fun _ => Iff.rfl⟩
    have n1 : ¬ S p := fun hs => by obtain ⟨c2, h2⟩ := HB.out.isc ((hSS p).1 hs); exact blk_ne hst2 h2 (by decide) rfl
    have n2 : ¬ S b := fun hs => by obtain ⟨c2, h2⟩ := HB.out.isc ((hSS b).1 hs); exact blk_ne hb2 h2 (by decide) rfl
    have HSS := Lib.hid hSS
    clear hK2 hM hW2 hst2 hb2 hcur hE2 hnn hn hn2 h0 hSS
    go_wp2_with fail
    have hC0 := afs_drew S w2
    refine pi_start (fun w' => ∃ x : AftS S w2, w' = x.w) [] (by kernel_rfl) ?_
    refine pi_t 0 rfl (by kernel_rfl) (by kernel_rfl) (fun _ _ _ _ h => h) (fun K hK => ?_)
    go_big_quiet_op
    refine hK _ ?_
    clear hK K
    refine pi_t 1 rfl (by kernel_rfl) (by kernel_rfl) (fun _ _ _ _ h => h) (fun K hK => ?_)
    go_big_quiet_op
    refine hK _ ?_
    clear hK K
    refine pi_t 2 rfl (by kernel_rfl) (by kernel_rfl) (fun _ _ _ _ h => h) (fun K hK => ?_)
    go_big_quiet_op
    refine hK _ ?_
    clear hK K
    refine pi_t 4 rfl (by kernel_rfl) (by kernel_rfl) (fun _ _ _ _ h => h) (fun K hK => ?_)
    go_big_quiet_op
    refine hK _ ?_
    clear hK K
    refine pi_t 5 rfl (by kernel_rfl) (by kernel_rfl) (fun _ _ _ _ h => h) (fun K hK => ?_)
    go_big_quiet_op
    refine hK _ ?_
    clear hK K
    refine pi_t 6 rfl (by kernel_rfl) (by kernel_rfl) (fun _ _ _ _ h => h) (fun K hK => ?_)
    go_big_quiet_op
    refine hK _ ?_
    clear hK K
    refine pi_t 12 rfl (by kernel_rfl) (by kernel_rfl) (fun _ _ _ _ h => h) (fun K hK => ?_)
    go_big_quiet_op
    refine hK _ ?_
    clear hK K
    refine pi_t 13 rfl (by kernel_rfl) (by kernel_rfl) (fun _ _ _ _ h => h) (fun K hK => ?_)
    go_big_quiet_op
    refine hK _ ?_
    clear hK K
    refine pi_c 3 (by assumption) rfl (by kernel_rfl) (by kernel_rfl) (fun _ _ _ _ h => h) (fun K hK => ?_)
    go_big_quiet_op
    refine hK _ ?_
    clear hK K
    refine pi_c 7 (by assumption) rfl (by kernel_rfl) (by kernel_rfl) (fun _ _ _ _ h => h) (fun K hK => ?_)
    go_big_quiet_op
    refine hK _ ?_
    clear hK K
    refine pi_t 8 rfl (by kernel_rfl) (by kernel_rfl) (fun _ _ _ _ h => h) (fun K hK => ?_)
    go_big_quiet_op
    refine hK _ ?_
    clear hK K
    refine pi_t 9 rfl (by kernel_rfl) (by kernel_rfl) (fun _ _ _ _ h => h) (fun K hK => ?_)
    go_big_quiet_op
    refine hK _ ?_
    clear hK K
    refine pi_t 10 rfl (by kernel_rfl) (by kernel_rfl) (fun _ _ _ _ h => h) (fun K hK => ?_)
    go_big_quiet_op
    refine hK _ ?_
    clear hK K
    refine pi_c 11 (by assumption) rfl (by kernel_rfl) (by kernel_rfl) (fun _ _ _ _ h => h) (fun K hK => ?_)
    go_big_quiet_op
    refine hK _ ?_
    clear hK K
    refine pi_l 14 rfl (by kernel_rfl) (fun K hK => ?_)
    go_wp2_with (go_at_call 26; refine Calls.mono (HUP.out _ (Below.drew (Ext.refl w2))) ?_; rintro e w3 ⟨rfl, hKb, hMb⟩)
    have hM3 : Mod S w2 w3 := (((show Ext w2 w2.drew from Below.drew (Ext.refl w2)).mod _).trans hMb).mono' (fun k hk => (HSS.out k).2 hk)
    refine hK _ _ (fun _ _ => ⟨⟨w3, hM3⟩, rfl⟩) ?_
    clear hK K
    refine pi_t 15 rfl (by kernel_rfl) (by kernel_rfl) (fun _ _ _ _ h => h) (fun K hK => ?_)
    go_big_quiet_op
    refine hK _ ?_
    clear hK K
    refine pi_end (by kernel_rfl) ?_
    have hpb : p ≠ b := blk_ne HST2.out HB2.out (by decide)
    have hMw : Mod (cellsOf B (bk m).L) w2 w3 := hM3.mono' (fun k hk => (HSS.out k).1 hk)
    have hfo : Mod (WFoot p b B (m + 1) bk) w w3 := (HE2.out.mod _).trans (hMw.mono' (fun k hk => .inr (.inr ⟨m, Nat.lt_succ_self m, hk⟩)))
    have hwe : wErr C B (m + 1) sm bk key d = errK C B (bk m).ls key d := if_pos H0.out
    have hp3 : p < w3.heap.size := Nat.lt_of_lt_of_le ql hMw.size
    have hf3 := frozen_of (KAt.blk HB.out hMw HST2.out (by decide)) 0
    have hc3 := (cell_of (KAt.blk HB.out hMw HST2.out (by decide)) 0).trans rfl
    by_cases hb0 : errK C B (bk m).ls key d = 0
    · rw [hb0] at hKb ⊢
      have hKb' : Bk.At ((bk m).upd C key d) w3 C B := hKb
      have hW3 := HW2.out.mod1 (Nat.lt_succ_self m) hMw hKb' rfl rfl
      have hKs : Bk.At ⟨s, g, L, updK C sm.ls key d⟩ w3 C B := KAt.mod HK2.out hMw (fun k hk _ => KAt.isc HB.out hk) (fun k hk hc => by
        obtain ⟨j, hj, he⟩ := hc
        have h1 := (HFF.out k hk).2.2
        have h2 := ((KAt.lev (HW.out.bks m (Nat.lt_succ_self m))) j hj).ltc
        have he' : (L k).c = ((bk m).L j).c := he
        omega)
      have hWf := hW3.newSum _ hKs (fun i hi k hk hc => by
        obtain ⟨j, hj, he⟩ := hc
        have h1 := (HFF.out k hk).2.2
        by_cases him : i = m
        · subst him
          rw [setB_same] at he
          have h2 := ((KAt.lev (HW.out.bks i hi)) j hj).ltc
          have he' : (L k).c = ((bk i).L j).c := he
          omega
        · rw [setB_ne _ _ him] at he
          have h2 := ((KAt.lev (HW.out.bks i hi)) j hj).ltc
          have he' : (L k).c = ((bk i).L j).c := he
          omega)
      have hMf : Mod (WFoot p b B (m + 1) bk) w (w3.setCell ⟨p, 0, none⟩ (.pointer (some ⟨s, 0, none⟩))) := hfo.trans ((mod_set _ _ _ _).mono' (fun k hk => .inl hk))
      have HWF := Lib.hid hWf
      have HMF := Lib.hid hMf
      have HWE := Lib.hid (hwe.trans hb0)
      clear hKb hMb hM3 hMw hfo hW3 hKs hWf hMf hwe hb0 hKb' b0 q1 bl ql n1 n2
      go_wp2
      go_ret
      refine ⟨by rw [HWE.out]; rfl, HMF.out, .inl ⟨HWE.out, s, g, L, HFF.out, ?_⟩⟩
      exact HWF.out
    · have hKb' : Bk.At (bk m) w3 C B := by
        have := hKb
        rw [decide_eq_false hb0] at this
        exact this
      have hW3 := HW2.out.mod1 (x := bk m) (Nat.lt_succ_self m) hMw hKb' rfl rfl
      have hss : setB bk m (bk m) = bk := by
        funext i
        by_cases him : i = m
        · rw [him, setB_same]
        · rw [setB_ne _ _ him]
      rw [hss] at hW3
      have HWF := Lib.hid hW3
      have HMF := Lib.hid hfo
      have HWE := Lib.hid hwe
      have hb0' : (errK C B (bk m).ls key d == 0) = false := by simpa using hb0
      have HB0 := Lib.hid hb0
      clear hKb hMb hM3 hMw hfo hW3 hwe hKb' b0 q1 bl ql n1 n2
      go_wp2
      go_ret
      exact ⟨by rw [HWE.out]; rfl, HMF.out, .inr ⟨by rw [HWE.out]; exact HB0.out, HWF.out⟩⟩
  · have hwe : wErr C B n sm bk key d = errK C B sm.ls key d := if_neg h0
    have HWE := Lib.hid hwe
    have HWF := Lib.hid (HW.out.ext hE2)
    have HMF := Lib.hid (hE2.mod (WFoot p b B n bk))
    have hb0' : (errK C B sm.ls key d == 0) = false := by simpa using h0
    have HB0 := Lib.hid h0
    clear hK2 hM hE2 hwe
    go_wp2
    go_ret
    exact ⟨by rw [HWE.out]; rfl, HMF.out, .inr ⟨by rw [HWE.out]; exact HB0.out, HWF.out⟩⟩
end Go.Proofs.YtfhdjekpdifajaaGreat
