/- WindowApart: what Sum tells is a stack of its own; a copy is a window of its own; an update that is refused changes neither the sum, nor what a tick leaves. No condition: every input. -/
import Derived.Test.YteoblkcbemeamaaGreatL9
import Derived.Test.YteoblkcbemeamaaGreatL13
import Derived.Test.YteoblkcbemeamaaGreatL12

/- Package window: Copy. -/
namespace Go.Proofs.YteoblkcbemeamaaGreat
set_option linter.unusedVariables false
open Go.RowKit
def WCopyPost (w : World) (C : Cfg) (B n : Nat) (sm : Bk) (bk : Nat → Bk) (e : Ending) (w' : World) : Prop :=
  ∃ p b sm2 bk2, e = .returned (.pointer (some ⟨p, 0, none⟩)) ∧ WAt w' w.heap.size p b C B n sm2 bk2 ∧ sm2.ls = sm.ls ∧ (∀ i, i < n → (bk2 i).ls = (bk i).ls) ∧ (∀ m, m ≤ B → w.heap.size ≤ (sm2.L m).c) ∧ Ext w w'
set_option maxRecDepth 20000 in
set_option maxHeartbeats 8000000 in
theorem WCopy_c {N p b : Nat} {C : Cfg} {B n : Nat} {sm : Bk} {bk : Nat → Bk} {w : World} (h : WAt w N p b C B n sm bk) :
    Calls Tryz.prog 69 #[.pointer (some ⟨p, 0, none⟩)] w (WCopyPost w C B n sm bk) := by
  have HW := Lib.hid h
  obtain ⟨ii, hi, hz0, hz1, hz2⟩ := info_ptr
  have h1 := h.n1
  have h2 := h.n2
  have hmk := fun (x : World) => run_make_ptrs 197 28 ii Tryz.underlying197 hi hz0 hz1 hz2 n (by omega) (fun _ => .pointer none) x
  obtain ⟨cap, hst, hcap⟩ := h.st
  rw [hcap] at hst
  have p0 := (cell_of hst 0).trans rfl
  have p1 := (cell_of hst 1).trans rfl
  have pl := lt_of hst
  have HC := Lib.hid (fun W (hE : Ext w W) => KCopy_c sm.s sm.g C B sm.L sm.ls W (KAt.ext h.sum hE))
  have HST := Lib.hid hst
  clear h hi hz0 hz1 hz2 hst
  go_enter Tryz.func69, Tryz.ntmps69
  go_wp2_with fail
  go_cut [3] (fun s3 wx => ∃ (q bb s g : Nat) (L : Nat → Lev), s3 = .pointer (some ⟨q, 0, none⟩) ∧ wx.heap[q]? = some (.cells #[.pointer (some ⟨s, 0, none⟩), .slice (some ⟨bb, 0, none⟩) n n] 199 (0, 0)) ∧ wx.heap[bb]? = some (.cells (ptrA (fun _ => .pointer none) 0 n) 28 (0, 0)) ∧ KAt wx s g C B L sm.ls ∧ KFresh w.heap.size B L ∧ Ext w wx ∧ w.heap.size ≤ q ∧ w.heap.size ≤ bb)
  case first =>
    have hC0 := af_drew w
    refine pi_start (fun w' => ∃ x : After w, w' = x.w) [] (by kernel_rfl) ?_
    refine pi_t 0 rfl (by kernel_rfl) (by kernel_rfl) (fun _ _ _ _ h => h) (fun K hK => ?_)
    go_big_quiet_op
    refine hK _ ?_
    clear hK K
    refine pi_t 1 rfl (by kernel_rfl) (by kernel_rfl) (fun _ _ _ _ h => h) (fun K hK => ?_)
    go_big_quiet_op
    refine hK _ ?_
    clear hK K
    refine pi_t 2 rfl (by kernel_rfl) (by kernel_rfl) (fun _ _ _ _ h => h) (fun K hK => ?_)
    go_big_quiet_op
    refine hK _ ?_
    clear hK K
    refine pi_t 5 rfl (by kernel_rfl) (by kernel_rfl) (fun _ _ _ _ h => h) (fun K hK => ?_)
    go_big_quiet_op
    refine hK _ ?_
    clear hK K
    refine pi_t 6 rfl (by kernel_rfl) (by kernel_rfl) (fun _ _ _ _ h => h) (fun K hK => ?_)
    go_big_quiet_op
    refine hK _ ?_
    clear hK K
    refine pi_t 7 rfl (by kernel_rfl) (by kernel_rfl) (fun _ _ _ _ h => h) (fun K hK => ?_)
    go_big_quiet_op
    refine hK _ ?_
    clear hK K
    refine pi_c 3 (by assumption) rfl (by kernel_rfl) (by kernel_rfl) (fun _ _ _ _ h => h) (fun K hK => ?_)
    go_big_quiet_op
    refine hK _ ?_
    clear hK K
    refine pi_c 8 (by assumption) rfl (by kernel_rfl) (by kernel_rfl) (fun _ _ _ _ h => h) (fun K hK => ?_)
    go_big_quiet_op
    refine hK _ ?_
    clear hK K
    refine pi_t 9 rfl (by kernel_rfl) (by kernel_rfl) (fun _ _ _ _ h => h) (fun K hK => ?_)
    go_big_quiet_op
    refine hK _ ?_
    clear hK K
    refine pi_b 4 10 rfl rfl (by kernel_rfl) (fun K hK => ?_) (fun K hK => ?_)
    · go_wp2_with (go_at_call 20; refine Calls.mono (HC.out _ (Below.drew (Ext.refl w))) ?_; rintro e wt ⟨s, g, L, rfl, hK2, _, _, hF2, hxt⟩)
      have hEt : Ext w wt := Ext.trans' (Below.drew (Ext.refl w)) hxt
      refine hK _ _ (fun _ h => af_step h hxt) ?_
      clear hK K
      have HK2 := Lib.hid hK2
      have hF3 : KFresh w.heap.size B L := hF2
      have HF3 := Lib.hid hF3
      clear hK2 hF2 hF3
      refine pi_l 10 rfl (by kernel_rfl) (fun K hK => ?_)
      go_wp2
      refine hK _ _ (fun _ h => af_step h (Ext.alloc' _ _)) ?_
      clear hK K
      refine pi_t 11 rfl (by kernel_rfl) (by kernel_rfl) (fun _ _ _ _ h => h) (fun K hK => ?_)
      go_big_quiet_op
      refine hK _ ?_
      clear hK K
      refine pi_l 12 rfl (by kernel_rfl) (fun K hK => ?_)
      go_wp2
      refine hK _ _ (fun _ h => af_step h (Ext.alloc' _ _)) ?_
      clear hK K
      refine pi_t 13 rfl (by kernel_rfl) (by kernel_rfl) (fun _ _ _ _ h => h) (fun K hK => ?_)
      go_big_quiet_op
      refine hK _ ?_
      clear hK K
      refine pi_end (by kernel_rfl) ?_
      go_wp2_with fail
      go_meet
      have hsz := hEt.size
      refine ⟨_, _, s, g, L, rfl, heap_at _ _ (size_alloc _ _).symm, ?_, (HK2.out.ext (Ext.alloc' _ _)).ext (Ext.alloc' _ _), HF3.out, (hEt.allocR _).allocR _, ?_, hsz⟩
      · rw [heap_old _ _ (by rw [size_alloc]; omega)]
        exact heap_at _ _ rfl
      · omega
    · go_wp2
      refine hK _ _ (fun _ h => af_step h (Ext.alloc' _ _)) ?_
      clear hK K
      have hEa : Ext w (w.drew.alloc (.cells (ptrA (fun x => Value.pointer none) 0 n) 28)) := ((Ext.refl w).drewR).allocR _
      have hba : (w.drew.alloc (.cells (ptrA (fun x => Value.pointer none) 0 n) 28)).heap[w.heap.size]? = some (.cells (ptrA (fun x => Value.pointer none) 0 n) 28 (0, 0)) := heap_at _ _ rfl
      refine pi_l 4 rfl (by kernel_rfl) (fun K hK => ?_)
      go_wp2_with (go_at_call 20; refine Calls.mono (HC.out _ hEa) ?_; rintro e wt ⟨s, g, L, rfl, hK2, _, _, hF2, hxt⟩)
      have hEt : Ext w wt := hEa.trans' hxt
      refine hK _ _ (fun _ h => af_step h hxt) ?_
      clear hK K
      have HK2 := Lib.hid hK2
      have hF3 : KFresh w.heap.size B L := fun m hm => ⟨Nat.le_trans hEa.size (hF2 m hm).1, Nat.le_trans hEa.size (hF2 m hm).2.1, Nat.le_trans hEa.size (hF2 m hm).2.2⟩
      have HF3 := Lib.hid hF3
      have HBA := Lib.hid (hxt.keep hba)
      clear hK2 hF2 hF3 hba hEa
      refine pi_t 11 rfl (by kernel_rfl) (by kernel_rfl) (fun _ _ _ _ h => h) (fun K hK => ?_)
      go_big_quiet_op
      refine hK _ ?_
      clear hK K
      refine pi_l 12 rfl (by kernel_rfl) (fun K hK => ?_)
      go_wp2
      refine hK _ _ (fun _ h => af_step h (Ext.alloc' _ _)) ?_
      clear hK K
      refine pi_t 13 rfl (by kernel_rfl) (by kernel_rfl) (fun _ _ _ _ h => h) (fun K hK => ?_)
      go_big_quiet_op
      refine hK _ ?_
      clear hK K
      refine pi_end (by kernel_rfl) ?_
      go_wp2_with fail
      go_meet
      have hsz := hEt.size
      refine ⟨_, _, s, g, L, rfl, heap_at _ _ rfl, ?_, HK2.out.ext (Ext.alloc' _ _), HF3.out, hEt.allocR _, hsz, Nat.le_refl _⟩
      exact (Ext.alloc' _ _).keep HBA.out
  case rest =>
    obtain ⟨q, bb, s, g, L, rfl, hq, hbb, hK, hF, hx, hqw, hbw⟩ := hcut
    rename World => w2
    clear hmk p0 p1 pl
    have HK := Lib.hid hK
    have HF := Lib.hid hF
    have HSZ := Lib.hid hx.size
    have HX := Lib.hid hx
    have hp2 := hx.keep HST.out
    have p0 := (cell_of hp2 0).trans rfl
    have p1 := (cell_of hp2 1).trans rfl
    have pl := lt_of hp2
    obtain ⟨curB, hrowB, hcurB⟩ := HW.out.row
    have HRB := Lib.hid hrowB
    have HCB := Lib.hid hcurB
    have hqb : q ≠ bb := blk_ne hq hbb (by decide)
    clear hK hF hp2 hrowB hcurB
    go_wp2_with fail
    clear p0 p1 pl
    go_loopw [24] (fun u24 wr => ∃ (k : Nat) (bk2 : Nat → Bk), k ≤ n ∧ u24 = .int .i64 k ∧ Ext w wr ∧ KAt wr s g C B L sm.ls ∧ wr.heap[q]? = some (.cells #[.pointer (some ⟨s, 0, none⟩), .slice (some ⟨bb, 0, none⟩) n n] 199 (0, 0)) ∧ wr.heap[bb]? = some (.cells (ptrA (fun i => .pointer (some ⟨(bk2 i).s, 0, none⟩)) k n) 28 (0, 0)) ∧ (∀ i, i < k → (bk2 i).At wr C B ∧ (bk2 i).ls = (bk i).ls ∧ KFresh w2.heap.size B (bk2 i).L) ∧ (∀ i j, i < k → j < k → i ≠ j → ∀ m, m ≤ B → ¬ cellsOf B (bk2 i).L ((bk2 j).L m).c) ∧ w2.heap.size ≤ wr.heap.size) (fun u24 _ => n - (intOf u24).toNat)
    case atStart =>
      refine ⟨0, fun _ => ⟨0, 0, L, fun _ => []⟩, Nat.zero_le _, rfl, HX.out, HK.out, hq, ?_, fun i hi => absurd hi (Nat.not_lt_zero i), fun i j hi => absurd hi (Nat.not_lt_zero i), Nat.le_refl _⟩
      rw [hbb]
      congr 2
    case round =>
      clear hq hbb hx HX
      obtain ⟨k, bk2, hkn, rfl, hE, hKs, hst, hrow, hbk, hsep, hsz2⟩ := hrel
      have HKs := Lib.hid hKs
      clear hKs
      by_cases hlt : k < n
      · have hrB := hE.keep HRB.out
        have r0 := (cell_of hrB k).trans (HCB.out k hlt)
        have rl := lt_of hrB
        have q1 := (cell_of hst 1).trans rfl
        have ql := lt_of hst
        have hb := lt_of hrow
        have hkz : (k : Int) < (n : Int) := by omega
        have HST2 := Lib.hid hst
        have HROW := Lib.hid hrow
        have HBK := Lib.hid hbk
        have HSEP := Lib.hid hsep
        have HKC := Lib.hid (fun W (hW : Ext wr W) => KCopy_c (bk k).s (bk k).g C B (bk k).L (bk k).ls W (KAt.ext (KAt.ext (HW.out.bks k hlt) hE) hW))
        clear hrB hst hrow hbk hsep
        go_wp2_with fail
        have hC0 := af_drew wr
        refine pi_start (fun w' => ∃ x : After wr, w' = x.w) [8] (by kernel_rfl) ?_
        refine pi_t 0 rfl (by kernel_rfl) (by kernel_rfl) (fun _ _ _ _ h => h) (fun K hK => ?_)
        go_big_quiet_op
        refine hK _ ?_
        clear hK K
        refine pi_t 1 rfl (by kernel_rfl) (by kernel_rfl) (fun _ _ _ _ h => h) (fun K hK => ?_)
        go_big_quiet_op
        refine hK _ ?_
        clear hK K
        refine pi_t 2 rfl (by kernel_rfl) (by kernel_rfl) (fun _ _ _ _ h => h) (fun K hK => ?_)
        go_big_quiet_op
        refine hK _ ?_
        clear hK K
        refine pi_t 4 rfl (by kernel_rfl) (by kernel_rfl) (fun _ _ _ _ h => h) (fun K hK => ?_)
        go_big_quiet_op
        refine hK _ ?_
        clear hK K
        refine pi_t 5 rfl (by kernel_rfl) (by kernel_rfl) (fun _ _ _ _ h => h) (fun K hK => ?_)
        go_big_quiet_op
        refine hK _ ?_
        clear hK K
        refine pi_c 3 (by assumption) rfl (by kernel_rfl) (by kernel_rfl) (fun _ _ _ _ h => h) (fun K hK => ?_)
        go_big_quiet_op
        refine hK _ ?_
        clear hK K
        refine pi_l 6 rfl (by kernel_rfl) (fun K hK => ?_)
        go_wp2_with (go_at_call 20; refine Calls.mono (HKC.out _ (Below.drew (Ext.refl wr))) ?_; rintro e wt ⟨s2, g2, L2, rfl, hK2, _, _, hF2, hxt⟩)
        have hEt : Ext wr wt := Ext.trans' (Below.drew (Ext.refl wr)) hxt
        refine hK _ _ (fun _ h => ⟨⟨wt, hEt⟩, rfl⟩) ?_
        clear hK K
        have HK2 := Lib.hid hK2
        have hF2' : KFresh wr.heap.size B L2 := hF2
        have HF2 := Lib.hid hF2'
        have hrt := hEt.keep HROW.out
        have f1 := frozen_of hrt k
        have c1 := (cell_of hrt k).trans (ptrA_at _ k n k hlt)
        have lt1 := lt_of hrt
        have HRT := Lib.hid hrt
        clear hK2 hF2 hF2' hrt
        refine pi_t 7 rfl (by kernel_rfl) (by kernel_rfl) (fun _ _ _ _ h => h) (fun K hK => ?_)
        go_big_quiet_op
        refine hK _ ?_
        clear hK K
        refine pi_l 8 rfl (by kernel_rfl) (fun K hK => ?_)
        go_wp2
        refine hK _ _ (by simp) ?_
        clear hK K
        refine pi_end (by kernel_rfl) ?_
        go_wp2_with fail
        have hsz := hE.size
        have hszt := hEt.size
        have ho : ∀ z, z < wt.heap.size → z ≠ bb → (wt.setCell ⟨bb, k, none⟩ (.pointer (some ⟨s2, 0, none⟩))).heap[z]? = wt.heap[z]? := fun z _ hz => setCell_other _ _ hz
        have hfin : Ext w (wt.setCell ⟨bb, k, none⟩ (.pointer (some ⟨s2, 0, none⟩))) := ((hE.trans' hEt).setR (p := ⟨bb, k, none⟩) hbw _)
        have hK2' : Bk.At ⟨s2, g2, L2, (bk k).ls⟩ (wt.setCell ⟨bb, k, none⟩ (.pointer (some ⟨s2, 0, none⟩))) C B := KAt.setW HK2.out HRT.out (.inr rfl) ho
        have hKs' := KAt.setW (HKs.out.ext hEt) HRT.out (.inr rfl) ho
        have hrowf : (wt.setCell ⟨bb, k, none⟩ (.pointer (some ⟨s2, 0, none⟩))).heap[bb]? = some (.cells ((ptrA (fun i => .pointer (some ⟨(bk2 i).s, 0, none⟩)) k n).setIfInBounds k (.pointer (some ⟨s2, 0, none⟩))) 28 (0, 0)) := setCell_same HRT.out k _
        have hstf : (wt.setCell ⟨bb, k, none⟩ (.pointer (some ⟨s2, 0, none⟩))).heap[q]? = some (.cells #[.pointer (some ⟨s, 0, none⟩), .slice (some ⟨bb, 0, none⟩) n n] 199 (0, 0)) := (setCell_other _ _ hqb).trans (hEt.keep HST2.out)
        go_roundw
        case rel =>
          refine ⟨k + 1, setB bk2 k ⟨s2, g2, L2, (bk k).ls⟩, by omega, by go_num, hfin, hKs', hstf, ?_, fun i hi => ?_, fun i j hi hj hij m hm => ?_, by rw [size_setCell]; omega⟩
          · rw [hrowf]
            have := ptrA_set (fun i => .pointer (some ⟨(bk2 i).s, 0, none⟩)) (fun i => .pointer (some ⟨(setB bk2 k ⟨s2, g2, L2, (bk k).ls⟩ i).s, 0, none⟩)) k n (fun i hi => by show Value.pointer _ = _; rw [setB_ne _ _ (by omega)])
            rw [← this]
            rw [setB_same]
          · by_cases he : i = k
            · subst he
              rw [setB_same]
              exact ⟨hK2', rfl, fun m hm => ⟨Nat.le_trans hsz2 (HF2.out m hm).1, Nat.le_trans hsz2 (HF2.out m hm).2.1, Nat.le_trans hsz2 (HF2.out m hm).2.2⟩⟩
            · rw [setB_ne _ _ he]
              obtain ⟨a1, a2, a3⟩ := HBK.out i (by omega)
              exact ⟨KAt.setW (KAt.ext a1 hEt) HRT.out (.inr rfl) ho, a2, a3⟩
          · by_cases he : i = k
            · by_cases he2 : j = k
              · omega
              · rw [he, setB_same, setB_ne _ _ he2]
                rintro ⟨z, hz, e⟩
                have a1 := ((KAt.lev (HBK.out j (by omega)).1) m hm).ltc
                have a2 := (HF2.out z hz).2.2
                have e' : ((bk2 j).L m).c = (L2 z).c := e
                omega
            · rw [setB_ne _ _ he]
              by_cases he2 : j = k
              · rw [he2, setB_same]
                rintro ⟨z, hz, e⟩
                have a1 := ((KAt.lev (HBK.out i (by omega)).1) z hz).ltc
                have a2 := (HF2.out m hm).2.2
                have e' : (L2 m).c = ((bk2 i).L z).c := e
                omega
              · rw [setB_ne _ _ he2]
                exact HSEP.out i j (by omega) (by omega) hij m hm
        case measure => simp [intOf]; omega
      · have hke : k = n := by omega
        subst hke
        have hsum : Bk.At ⟨s, g, L, sm.ls⟩ wr C B := HKs.out
        have hWin : WAt wr w.heap.size q bb C B k ⟨s, g, L, sm.ls⟩ bk2 := by
          refine ⟨⟨k, hst, rfl⟩, ⟨_, hrow, fun i hi => by rw [ptrA_at _ _ _ _ hi, if_pos hi]⟩, hsum, fun i hi => (hbk i hi).1, fun i hi m hm => ?_, hsep, h1, h2, HW.out.md, hqw, hbw, fun i hi m hm => ?_⟩
          · rintro ⟨z, hz, e⟩
            have a1 := ((hbk i hi).2.2 z hz).2.2
            have a2 := ((KAt.lev HK.out) m hm).ltc
            have e' : (L m).c = ((bk2 i).L z).c := e
            omega
          · have a1 := ((hbk i hi).2.2 m hm).2.2
            have a2 := HSZ.out
            omega
        have HWN := Lib.hid hWin
        have HZ := Lib.hid (fun i (hi : i < k) => (hbk i hi).2.1)
        have HFF := Lib.hid (fun m (hm : m ≤ B) => (HF.out m hm).2.2)
        clear hst hrow hbk hsep hsum hWin
        go_wp2_with fail
        go_ret
        exact ⟨_, _, _, bk2, rfl, HWN.out, rfl, HZ.out, HFF.out, hE⟩
end Go.Proofs.YteoblkcbemeamaaGreat

/- Two windows beside each other: one between two bounds, one outside of them. -/
namespace Go.Proofs.YteoblkcbemeamaaGreat
set_option linter.unusedVariables false
open Go.RowKit
theorem KAt.modW {S : Nat → Prop} {w w' : World} {s g : Nat} {C : Cfg} {B : Nat} {L : Nat → Lev} {ls : Nat → List Int} (h : KAt w s g C B L ls) (he : Mod S w w') (hS : ∀ k, S k → k < w.heap.size → okT w k) (hc : ∀ n, n ≤ B → ¬ S (L n).c) : KAt w' s g C B L ls := by
  have key : ∀ (k : Nat) (cur : Array Value) (T : TypeId) (f : Nat × Nat), w.heap[k]? = some (.cells cur T f) → T ≠ 2 → T ≠ 199 → T ≠ 28 → w'.heap[k]? = w.heap[k]? := fun k cur T f hk n1 n2 n3 => by
    refine he.block k (lt_of hk) (fun hs => ?_)
    obtain ⟨cur2, T2, h2, h3⟩ := hS k hs (lt_of hk)
    rw [hk] at h2
    injection h2 with h2
    injection h2 with _ h2 _
    subst h2
    rcases h3 with rfl | rfl | rfl
    · exact n1 rfl
    · exact n2 rfl
    · exact n3 rfl
  obtain ⟨cap, h1, h2⟩ := h.ex
  obtain ⟨cur2, h3, h4⟩ := h.row
  refine ⟨⟨cap, (key _ _ _ _ h1 (by decide) (by decide) (by decide)).trans h1, h2⟩, ⟨cur2, (key _ _ _ _ h3 (by decide) (by decide) (by decide)).trans h3, h4⟩, fun n hn => ?_, h.sep, h.ok, h.hB⟩
  have hcc := he.block _ (h.lev n hn).ltc (hc n hn)
  refine (h.lev n hn).keep ?_ ?_ hcc
  · rcases h.lev n hn with ⟨_, q⟩ | ⟨_, q⟩ <;> exact key _ _ _ _ q.ex (by decide) (by decide) (by decide)
  · rcases h.lev n hn with ⟨_, q⟩ | ⟨_, q⟩ <;> (obtain ⟨cp, q1, q2⟩ := q.g.ex; exact key _ _ _ _ q1 (by decide) (by decide) (by decide))
theorem WAt.modW {S : Nat → Prop} {w w' : World} {N p b : Nat} {C : Cfg} {B n : Nat} {sm : Bk} {bk : Nat → Bk} (h : WAt w N p b C B n sm bk) (he : Mod S w w') (hS : ∀ k, S k → k < w.heap.size → okT w k) (hf : ∀ k, WFoot p b B n bk k → ¬ S k) (hc : ∀ m, m ≤ B → ¬ S (sm.L m).c) : WAt w' N p b C B n sm bk := by
  refine ⟨?_, ?_, KAt.modW h.sum he hS hc, fun i hi => KAt.modW (h.bks i hi) he hS (fun m hm => hf _ (.inr (.inr ⟨i, hi, m, hm, rfl⟩))), h.sepS, h.sepB, h.n1, h.n2, h.md, h.loP, h.loB, h.loC⟩
  · obtain ⟨cap, a1, a2⟩ := h.st
    exact ⟨cap, he.keep a1 (hf p (.inl rfl)), a2⟩
  · obtain ⟨cur, a1, a2⟩ := h.row
    exact ⟨cur, he.keep a1 (hf b (.inr (.inl rfl))), a2⟩
/-- A window whose cells lie between two bounds. -/
def WI (w : World) (lo hi p : Nat) (C : Cfg) (B n : Nat) (US : List (List Upd)) : Prop :=
  ∃ b sm bk, WAt w lo p b C B n sm bk ∧ US.length = n ∧ (∀ k, k ≤ B → sm.ls k = feedK C US.flatten k) ∧ (∀ i, i < n → ∀ k, k ≤ B → (bk i).ls k = feedK C (US.getD i []) k) ∧
    (∀ k, WFoot p b B n bk k → lo ≤ k ∧ k < hi) ∧ ∀ m, m ≤ B → lo ≤ (sm.L m).c ∧ (sm.L m).c < hi
/-- A change between the bounds. -/
def InB (lo hi : Nat) (w w' : World) : Prop := ∃ S, Mod S w w' ∧ ∀ k, S k → (lo ≤ k ∧ k < hi) ∧ okT w k
section
variable {w w' : World} {N lo hi p : Nat} {C : Cfg} {B n : Nat} {US : List (List Upd)}
theorem WI.ws (h : WI w lo hi p C B n US) : WS w lo p C B n US := by
  obtain ⟨b, sm, bk, h1, h2, h3, h4, _⟩ := h
  exact ⟨b, sm, bk, h1, h2, h3, h4⟩
theorem WI.ext (h : WI w lo hi p C B n US) (he : Ext w w') : WI w' lo hi p C B n US := by
  obtain ⟨b, sm, bk, h1, h⟩ := h
  exact ⟨b, sm, bk, h1.ext he, h⟩
theorem WI.off (h : WI w lo hi p C B n US) (ho : OffB N lo hi w w') : WI w' lo hi p C B n US := by
  obtain ⟨b, sm, bk, h1, h2, h3, h4, h5, h6⟩ := h
  obtain ⟨S, hm, hS⟩ := ho
  exact ⟨b, sm, bk, h1.modW hm (fun k hk _ => (hS k hk).2) (fun k hk hs => by have := (hS k hs).1; have := h5 k hk; omega) (fun m hm' hs => by have := (hS _ hs).1; have := h6 m hm'; omega), h2, h3, h4, h5, h6⟩
theorem WB.inB (h : WB w N lo hi p C B n US) (ho : InB lo hi w w') : WB w' N lo hi p C B n US := by
  obtain ⟨b, sm, bk, h1, h2, h3, h4, h5, h6⟩ := h
  obtain ⟨S, hm, hS⟩ := ho
  exact ⟨b, sm, bk, h1.modW hm (fun k hk _ => (hS k hk).2) (fun k hk hs => by have := (hS k hs).1; have := h5 k hk; omega) (fun m hm' hs => by have := (hS _ hs).1; have := h6 m hm'; omega), h2, h3, h4, h5, h6⟩
theorem InB.below (h : InB lo hi w w') (hN : lo ≤ w.heap.size) : Below lo w w' := by
  obtain ⟨S, hm, hS⟩ := h
  exact hm.below hN (fun k hk => (hS k hk).1.1)
theorem InB.size (h : InB lo hi w w') : w.heap.size ≤ w'.heap.size := by
  obtain ⟨S, hm, _⟩ := h
  exact hm.size
end
theorem WS_copy {w : World} {N p : Nat} {C : Cfg} {B n : Nat} {US : List (List Upd)} (h : WS w N p C B n US) :
    Calls Tryz.prog 69 #[.pointer (some ⟨p, 0, none⟩)] w fun e w' => ∃ q, e = .returned (.pointer (some ⟨q, 0, none⟩)) ∧ WI w' w.heap.size w'.heap.size q C B n US ∧ Ext w w' := by
  obtain ⟨b, sm, bk, h1, h2, h3, h4⟩ := h
  refine (WCopy_c h1).mono ?_
  rintro e w' ⟨q, b2, sm2, bk2, rfl, hW, hs, hb, hc, hx⟩
  refine ⟨q, rfl, ⟨b2, sm2, bk2, hW, h2, fun k hk => by rw [hs]; exact h3 k hk, fun i hi k hk => by rw [hb i hi]; exact h4 i hi k hk, fun k hk => ⟨hW.foot hk, ?_⟩, fun m hm => ⟨hc m hm, ((KAt.lev hW.sum) m hm).ltc⟩⟩, hx⟩
  obtain ⟨cur, T, hh, _⟩ := hW.footT hk
  exact lt_of hh
theorem WI_tick {w : World} {lo hi p : Nat} {C : Cfg} {B n : Nat} {a : List Upd} {vs : List (List Upd)} (h : WI w lo hi p C B n (a :: vs)) (hok : C.Ok) (hB : C.bits = B) (ha : UpsOk a) (hv : UpsOk vs.flatten) (ht : vs.flatten.length ≤ 1000) :
    Calls Tryz.prog 64 #[.pointer (some ⟨p, 0, none⟩)] w fun e w' => e = .returned (.int .i64 0) ∧ InB lo hi w w' ∧ WS w' lo p C B n (vs ++ [[]]) := by
  obtain ⟨b, sm, bk, h1, h2, h3, h4, h5, h6⟩ := h
  have hn : n = vs.length + 1 := by rw [← h2]; simp
  have hmi := WS_less (w := w) (N := lo) (p := p) (b := b) (n := n) hok h1.md hB ha hv h3 (fun k hk => h4 0 (by omega) k hk)
  have hall : ∀ k, k ≤ B → allI (minusL (sm.ls k) ((bk 0).ls k)) := fun k hk => by rw [hmi k hk]; exact (feedK_bnd C _ k).allI (by omega)
  refine (WTick_c h1 hok).mono ?_
  rintro e w' ⟨rfl, hM, (⟨_, s, g, L, s2, g2, L2, hF1, hF2, hW⟩ | ⟨hne, _⟩)⟩
  · rw [chkE_yes hall]
    refine ⟨rfl, ⟨_, hM, fun k hk => ⟨h5 k hk, h1.footT hk⟩⟩, ⟨b, _, _, hW, by rw [hn]; simp, fun k hk => ?_, fun i hi k hk => ?_⟩⟩
    · rw [win_new C vs]; exact hmi k hk
    · by_cases hl : i + 1 = n
      · rw [shiftB_last hl]
        have : (vs ++ [[]]).getD i [] = [] := by
          have : i = vs.length := by omega
          rw [this]; simp
        rw [this]; exact (feedK_nil C k).symm
      · rw [shiftB_less hl, h4 (i + 1) (by omega) k hk]
        have h6 : i < vs.length := by omega
        have e3 : (vs ++ [[]]).getD i [] = (a :: vs).getD (i + 1) [] := by
          simp [List.getD_eq_getElem?_getD, List.getElem?_append_left h6]
        rw [e3]
  · exact absurd hall hne
/-- An update of any kind. -/
theorem WI_any {w : World} {lo hi p : Nat} {C : Cfg} {B n : Nat} {US : List (List Upd)} (h : WI w lo hi p C B n US) (key d : Int) (hk : U64 key) (hd : I64 d) :
    Calls Tryz.prog 65 #[.pointer (some ⟨p, 0, none⟩), .int .u64 key, .int .i64 d] w fun e w' => ∃ r : Int, e = .returned (.int .i64 r) ∧ InB lo hi w w' ∧ ((r = 0 ∧ ∃ b sm bk, WAt w' lo p b C B n sm bk) ∨ (r ≠ 0 ∧ WI w' lo hi p C B n US)) := by
  obtain ⟨b, sm, bk, h1, h2, h3, h4, h5, h6⟩ := h
  refine (WUpdate_c h1 key d hk hd).mono ?_
  rintro e w' ⟨rfl, hM, (⟨h0, s, g, L, hFr, hW⟩ | ⟨hne, hW⟩)⟩
  · exact ⟨_, rfl, ⟨_, hM, fun k hk => ⟨h5 k hk, h1.footT hk⟩⟩, .inl ⟨h0, _, _, _, hW⟩⟩
  · exact ⟨_, rfl, ⟨_, hM, fun k hk => ⟨h5 k hk, h1.footT hk⟩⟩, .inr ⟨hne, b, sm, bk, hW, h2, h3, h4, h5, h6⟩⟩
/-- What is done to a stack that lies above leaves a window. -/
theorem offB_cells {w w' : World} {N lo hi s g : Nat} {C : Cfg} {B : Nat} {L : Nat → Lev} {ls : Nat → List Int} (h : KAt w s g C B L ls) (hm : Mod (cellsOf B L) w w') (hF : KFresh hi B L) (hN : N ≤ hi) : OffB N lo hi w w' :=
  ⟨_, hm, fun k hk => ⟨by obtain ⟨m, hm', rfl⟩ := hk; have := (hF m hm').2.2; omega, by obtain ⟨cur, hc⟩ := h.isc hk; exact ⟨_, _, hc, .inl rfl⟩⟩⟩
/-- Numbers that lie apart are kept. -/
theorem ints_keep {S : Nat → Prop} {w w' : World} {p : Option Addr} {n c : Nat} {xs : List Int} (h : IntsAt w (.slice p n c) xs) (hm : Mod S w w') (hp : ∀ a, p = some a → ¬ S a.block) : IntsAt w' (.slice p n c) xs := by
  rcases h with h | ⟨g, off, cap, h1, h2, h3⟩
  · exact .inl h
  · have e := (Value.slice.inj h1).1
    exact .inr ⟨g, off, cap, h1, Nat.lt_of_lt_of_le h2 hm.size, fun k hk => (mcell hm h2 (hp _ e) _).trans (h3 k hk)⟩
end Go.Proofs.YteoblkcbemeamaaGreat

/- gaugerlaw24.WindowApart, walked. -/
namespace Go.Proofs.YteoblkcbemeamaaGreat
set_option linter.unusedVariables false
open Go.RowKit
set_option maxRecDepth 20000 in
set_option maxHeartbeats 8000000 in
theorem WApartL_c (x : Cfg) (hx : x.Raw) (ukey udel : Int) (huk : U64 ukey) (hud : I64 udel) (os : List Opn) (hos : OpsOk os) (v : Value) (w : World) (hv : OpsAt w v os) (hul : os.length ≤ 140737488355328) :
    Calls Tryz.prog 12 #[.agg #[.int .i64 x.bits, .int .i64 x.rows, .int .i64 x.width, .int .i64 x.mode, .int .u64 x.seed], v, .agg #[.int .u64 ukey, .int .i64 udel]] w fun e w' => e = .returned (.bool true) ∧ Ext w w' := by
  obtain ⟨vp, vc, rfl⟩ := hv.sl
  have HV := Lib.hid hv
  obtain ⟨b, hbl⟩ : ∃ b : Int, (os.length : Int) = b := ⟨_, rfl⟩
  have n0 : 0 ≤ b % 65536 % 16 := Int.emod_nonneg _ (by decide)
  have n1 := Int.emod_lt_of_pos (b % 65536) (show (0 : Int) < 16 by decide)
  obtain ⟨n, hn⟩ : ∃ n : Nat, 1 + b % 65536 % 16 = n := ⟨(1 + b % 65536 % 16).toNat, by omega⟩
  have h1 : 1 ≤ n := by omega
  have h2 : n ≤ 16 := by omega
  have hR := fun W => right24_c x hx (os.length : Int) W
  rw [hbl] at hR
  simp only [hn] at hR
  rw [← hbl] at hR
  have hok := kcfg_ok x hx.s (nb := 6) (m := 1) (by decide) (by decide) (by decide)
  have hmd := kcfg_mode x 6 (m := 1) (by decide)
  generalize kcfg x 6 1 = C at *
  obtain ⟨B, hB⟩ : ∃ B : Nat, C.bits = B := ⟨C.bits.toNat, by have := hok.b1; omega⟩
  have hBd : B ≤ 59 := by have := hok.b2; omega
  have HR := Lib.hid hR
  have HM := Lib.hid hmd
  have HB := Lib.hid hB
  clear hv hR n0 n1 hn hmd hB hbl
  go_enter Tryz.func12, Tryz.ntmps12
  go_wp2_with fail
  refine (shown24_c _).mono ?_
  rintro e w1 ⟨rfl, hb1⟩
  have hE1 : Ext w w1 := by (repeat' (first | exact Ext.refl _ | assumption | apply Ext.allocR | apply Ext.drewR | apply Ext.drewNR | (refine Ext.trans' ?_ (by assumption))))
  have hUB := hb1.keep (heap_at (w.alloc (.cells #[.int .i64 x.bits, .int .i64 x.rows, .int .i64 x.width, .int .i64 x.mode, .int .u64 x.seed] 24)) (.cells #[.int .u64 ukey, .int .i64 udel] 60) rfl)
  rw [size_alloc] at hUB
  have HUB := Lib.hid hUB
  have hC := ((CfgAt.box (w := w) x 24 rfl).ext (Ext.alloc' _ _)).ext hb1
  have c0 := hC.c0
  have c1 := hC.c1
  have c2 := hC.c2
  have c3 := hC.c3
  have c4 := hC.c4
  have cl := hC.lt
  clear hC hb1 hUB
  go_wp2_with fail
  refine (HR.out _).mono ?_
  rintro e w2 ⟨rfl, hx2⟩
  have hE2 : Ext w w2 := by (repeat' (first | exact Ext.refl _ | assumption | apply Ext.allocR | apply Ext.drewR | apply Ext.drewNR | (refine Ext.trans' ?_ (by assumption))))
  have HUB2 := Lib.hid (hx2.keep HUB.out)
  clear c0 c1 c2 c3 c4 cl hx2 hE1 HR
  go_upto_region 3 with (fail)
  obtain ⟨w3, hw3⟩ : ∃ w3, w2.alloc (.cells #[.int .i64 C.bits, .int .i64 C.rows, .int .i64 C.width, .int .i64 C.mode, .int .u64 C.seed] 24) = w3 := ⟨_, rfl⟩
  have hQ : w3.heap[w2.heap.size]? = some (.cells #[.int .i64 C.bits, .int .i64 C.rows, .int .i64 C.width, .int .i64 C.mode, .int .u64 C.seed] 24 (0, 0)) := by rw [← hw3]; exact heap_at _ _ rfl
  have hE3 : Ext w w3 := by rw [← hw3]; exact hE2.allocR _
  have HUB3 : Hid (w3.heap[w.heap.size + 1]? = some (.cells #[.int .u64 ukey, .int .i64 udel] 60 (0, 0))) := Lib.hid (by rw [← hw3]; exact (Ext.alloc' _ _).keep HUB2.out)
  rw [hw3]
  clear hw3 hE2 HUB HUB2
  have hC3 := CfgAt.of hQ
  have c0 := hC3.c0
  have c1 := hC3.c1
  have c2 := hC3.c2
  have c3 := hC3.c3
  have c4 := hC3.c4
  have cl := hC3.lt
  have hnw := fun W => WS_new C hok HM.out B HB.out n h1 h2 W
  have HNW := Lib.hid hnw
  clear hC3 hnw
  go_wp2_with fail
  refine (HNW.out _).mono ?_
  rintro e w4 ⟨p, rfl, hS, hx4⟩
  have HQ := Lib.hid hQ
  have HS0 : Hid (WS w4 w3.heap.size p C B n (winO n (os.take 0))) := Lib.hid hS
  have HE3 := Lib.hid hE3
  clear c0 c1 c2 c3 c4 cl hQ hS HNW hE3
  go_wp2
  go_loopw [12] (fun u12 wr => ∃ k : Nat, k ≤ 30 ∧ k ≤ os.length ∧ u12 = .int .i64 k ∧ Ext w3 wr ∧ WS wr w3.heap.size p C B n (winO n (os.take k))) (fun u12 _ => 30 - (intOf u12).toNat)
  case atStart => exact ⟨0, Nat.zero_le _, Nat.zero_le _, rfl, hx4, HS0.out⟩
  case round =>
    obtain ⟨k, hk30, hkl, rfl, hE, hS⟩ := hrel
    have HS := Lib.hid hS
    clear hS HS0 hx4
    have hEw := HE3.out.trans' hE
    by_cases hgo : k < os.length ∧ k < 30
    · obtain ⟨hg1, hg2⟩ := hgo
      obtain ⟨ug, off, rfl, hul0, d0', d1', d2'⟩ := HV.out.one hg1
      have d0 := ((bcell hEw).1 _ _ hul0).trans d0'
      have d1 := ((bcell hEw).1 _ _ hul0).trans d1'
      have d2 := ((bcell hEw).1 _ _ hul0).trans d2'
      have hgl2 : ug < wr.heap.size := Nat.lt_of_lt_of_le hul0 hEw.size
      have hCq := CfgAt.of (hE.keep HQ.out)
      have c0 := hCq.c0
      have c1 := hCq.c1
      have c2 := hCq.c2
      have c3 := hCq.c3
      have c4 := hCq.c4
      have cl := hCq.lt
      have hu := hos _ (List.getElem_mem hg1)
      have hT := fun W (ht : isT os[k] = true) (hW : WS W w3.heap.size p C B n (winO n (os.take k))) => WS_opT hg1 (by omega) h1 hos hok HB.out ht hW
      have hU := fun W (ht : isT os[k] = false) (hW : WS W w3.heap.size p C B n (winO n (os.take k))) => WS_opU hg1 (by omega) h1 hos hok HB.out ht hW
      generalize os[k] = oo at *
      obtain ⟨kk, uk, ud⟩ := oo
      replace hu := hu.2
      have ha1 := and1i kk
      have HT := Lib.hid hT
      have HU := Lib.hid hU
      have hkU : U64 (cutK C 0 uk) := by have := cutK_bd C hok 0 uk (Int.le_refl 0); have := keys_bd C hok 0 (Int.le_refl 0); unfold U64; omega
      clear hT hU hCq d0' d1' d2'
      go_upto_region 9 with (fail)
      go_cut [13] (fun s13 wx => ∃ bu : Nat, s13 = .pointer (some ⟨bu, 0, none⟩) ∧ wx.heap[bu]? = some (.cells #[.int .u64 (cutK C 0 uk), .int .i64 (cutD C.mode ud)] 60 (0, 0)) ∧ Ext wr wx ∧ wr.heap.size ≤ bu)
      case first =>
        have hC0 := af_drew wr
        refine pi_start (fun w' => ∃ x : After wr, w' = x.w) [] (by kernel_rfl) ?_
        refine pi_t 1 rfl (by kernel_rfl) (by kernel_rfl) (fun _ _ _ _ h => h) (fun K hK => ?_)
        go_big_quiet_op
        refine hK _ ?_
        clear hK K
        refine pi_t 2 rfl (by kernel_rfl) (by kernel_rfl) (fun _ _ _ _ h => h) (fun K hK => ?_)
        go_big_quiet_op
        refine hK _ ?_
        clear hK K
        refine pi_t 3 rfl (by kernel_rfl) (by kernel_rfl) (fun _ _ _ _ h => h) (fun K hK => ?_)
        go_big_quiet_op
        refine hK _ ?_
        clear hK K
        refine pi_t 4 rfl (by kernel_rfl) (by kernel_rfl) (fun _ _ _ _ h => h) (fun K hK => ?_)
        go_big_quiet_op
        refine hK _ ?_
        clear hK K
        refine pi_t 6 rfl (by kernel_rfl) (by kernel_rfl) (fun _ _ _ _ h => h) (fun K hK => ?_)
        go_big_quiet_op
        refine hK _ ?_
        clear hK K
        refine pi_t 7 rfl (by kernel_rfl) (by kernel_rfl) (fun _ _ _ _ h => h) (fun K hK => ?_)
        go_big_quiet_op
        refine hK _ ?_
        clear hK K
        refine pi_t 8 rfl (by kernel_rfl) (by kernel_rfl) (fun _ _ _ _ h => h) (fun K hK => ?_)
        go_big_quiet_op
        refine hK _ ?_
        clear hK K
        refine pi_t 9 rfl (by kernel_rfl) (by kernel_rfl) (fun _ _ _ _ h => h) (fun K hK => ?_)
        go_big_quiet_op
        refine hK _ ?_
        clear hK K
        refine pi_c 0 (by assumption) rfl (by kernel_rfl) (by kernel_rfl) (fun _ _ _ _ h => h) (fun K hK => ?_)
        go_big_quiet_op
        refine hK _ ?_
        clear hK K
        refine pi_c 5 (by assumption) rfl (by kernel_rfl) (by kernel_rfl) (fun _ _ _ _ h => h) (fun K hK => ?_)
        go_big_quiet_op
        refine hK _ ?_
        clear hK K
        refine pi_c 10 (by assumption) rfl (by kernel_rfl) (by kernel_rfl) (fun _ _ _ _ h => h) (fun K hK => ?_)
        go_big_quiet_op
        refine hK _ ?_
        clear hK K
        refine pi_t 11 rfl (by kernel_rfl) (by kernel_rfl) (fun _ _ _ _ h => h) (fun K hK => ?_)
        go_big_quiet_op
        refine hK _ ?_
        clear hK K
        refine pi_b 12 13 rfl rfl (by kernel_rfl) (fun K hK => ?_) (fun K hK => ?_)
        · go_wp2_with (go_at_call 63; refine (Cut15_c C hok uk ud hu.1 hu.2 _).mono ?_; rintro e w3 ⟨rfl, hx3⟩)
          have hx3' : Ext wr w3 := Ext.trans' (Below.drew (Ext.refl wr)) hx3
          have hs3 := hx3'.size
          refine hK _ _ (fun _ h => af_step h hx3) ?_
          clear hK K
          refine pi_l 13 rfl (by kernel_rfl) (fun K hK => ?_)
          go_wp2
          refine hK _ _ (fun _ h => af_step h (Ext.alloc' _ _)) ?_
          clear hK K
          refine pi_l 14 rfl (by kernel_rfl) (fun K hK => ?_)
          go_wp2
          refine hK _ _ (fun _ _ => ⟨⟨_, hx3'.allocR _⟩, rfl⟩) ?_
          clear hK K
          refine pi_end (by kernel_rfl) ?_
          go_wp2_with fail
          go_meet
          exact ⟨w3.heap.size, rfl, heap_at _ _ rfl, hx3'.allocR _, hs3⟩
        · go_wp2
          refine hK _ _ (fun _ h => af_step h (Ext.alloc' _ _)) ?_
          clear hK K
          refine pi_l 12 rfl (by kernel_rfl) (fun K hK => ?_)
          go_wp2_with (go_at_call 63; refine (Cut15_c C hok uk ud hu.1 hu.2 _).mono ?_; rintro e w3 ⟨rfl, hx3⟩)
          refine hK _ _ (fun _ h => af_step h hx3) ?_
          clear hK K
          have hs3 : (wr.alloc (.cells #[.int .u64 0, .int .i64 0] 60)).heap.size ≤ w3.heap.size := hx3.size
          rw [size_alloc] at hs3
          have hx3' : Ext wr w3 := Ext.trans' (Ext.alloc' wr _) (Ext.trans' (Below.drew (Ext.refl _)) hx3)
          have hbx : w3.heap[wr.heap.size]? = some (.cells #[.int .u64 0, .int .i64 0] 60 (0, 0)) := by
            rw [hx3.block _ (by show _ < (wr.alloc _).heap.size; rw [size_alloc]; exact Nat.lt_succ_self _)]
            exact heap_at wr _ rfl
          have p0 := (cell_of hbx 0).trans rfl
          have p1 := (cell_of hbx 1).trans rfl
          have f0 := frozen_of hbx 0
          have f1 := frozen_of hbx 1
          refine pi_l 14 rfl (by kernel_rfl) (fun K hK => ?_)
          go_wp2
          refine hK _ _ (fun _ _ => ⟨⟨_, (hx3'.setR (Nat.le_refl _) _).setR (Nat.le_refl _) _⟩, rfl⟩) ?_
          clear hK K
          refine pi_end (by kernel_rfl) ?_
          go_wp2_with fail
          go_meet
          exact ⟨wr.heap.size, rfl, set2 hbx _ _, (hx3'.setR (Nat.le_refl _) _).setR (Nat.le_refl _) _, Nat.le_refl _⟩
      case rest =>
        obtain ⟨bu, rfl, hbu, hxw, hbul⟩ := hcut
        have e0 := ((bcell hxw).1 ug (off + k * 3) hgl2).trans d0
        have gl := Nat.lt_of_lt_of_le hgl2 hxw.size
        have b0 := (cell_of hbu 0).trans rfl
        have b1 := (cell_of hbu 1).trans rfl
        have bl := lt_of hbu
        have HSX := Lib.hid (HS.out.ext hxw)
        clear c0 c1 c2 c3 c4 cl d0 d1 d2 hbu
        cases ht : isT (kk, uk, ud) with
        | true =>
          have ht' : (kk % 2 == 1) = true := ht
          have HTT := Lib.hid (HT.out _ ht HSX.out)
          clear HT HU ht
          go_wp2_with fail
          refine Calls.mono HTT.out ?_
          rintro e w5 ⟨rfl, hB5, hS5⟩
          have HS5 := Lib.hid hS5
          have hE5 : Ext w3 w5 := Below.trans (hE.trans' hxw) hB5
          clear hB5 hS5
          go_wp2
          go_roundw
          case rel => exact ⟨k + 1, by omega, by omega, by go_num, hE5, HS5.out⟩
          case measure => simp [intOf]; omega
        | false =>
          have ht' : (kk % 2 == 1) = false := ht
          have HTT := Lib.hid (HU.out _ ht HSX.out)
          clear HT HU ht
          go_wp2_with fail
          refine Calls.mono HTT.out ?_
          rintro e w5 ⟨rfl, hB5, hS5⟩
          have HS5 := Lib.hid hS5
          have hE5 : Ext w3 w5 := Below.trans (hE.trans' hxw) hB5
          clear hB5 hS5
          go_wp2
          go_roundw
          case rel => exact ⟨k + 1, by omega, by omega, by go_num, hE5, HS5.out⟩
          case measure => simp [intOf]; omega
    · have hUU := winO_U (n := n) h1 hos (k := k) (by omega)
      generalize winO n (os.take k) = US at *
      have HUU := Lib.hid hUU
      have HS1 : Hid (WS wr w3.heap.size p C B n US) := HS
      have hge : ¬ k < os.length ∨ ¬ k < 30 := by omega
      rename World => wo
      clear hUU hgo
      go_upto_region 7 with (fail)
      go_cut [47] (fun s47 wx => s47 = .bool false ∧ wx = wo)
      case first =>
        by_cases hgl : k < os.length
        · have hg6 : ¬ k < 30 := by omega
          go_wp2_with fail
          go_meet
          exact ⟨by first | rfl | exact congrArg Value.bool (decide_eq_false (by omega)), rfl⟩
        · first
            | (go_wp2_with fail
               go_meet
               exact ⟨rfl, rfl⟩)
            | (clear hge
               go_wp2_with fail
               go_meet
               exact ⟨by first | rfl | exact congrArg Value.bool (decide_eq_false (by omega)), rfl⟩)
      case rest =>
       obtain ⟨rfl, rfl⟩ := hcut
       rename World => wo
       have HB2 := Lib.hid (hE.keep HUB3.out)
       have HQ2 := Lib.hid (hE.keep HQ.out)
       have hEw2 : Ext w wo := hEw
       have HEW := Lib.hid hEw2
       have hN0 := hE.size
       obtain ⟨lo, hlo⟩ : ∃ lo, wo.heap.size = lo := ⟨_, rfl⟩
       have HLO := Lib.hid hlo
       clear hge hk30 hkl HS hEw hEw2 HUB3 HQ
       go_wp2_with fail
       refine Calls.mono (WS_copy HS1.out) ?_
       rintro e w7 ⟨q, rfl, hI, hx7⟩
       rw [hlo] at hI
       obtain ⟨hi, hhi⟩ : ∃ hi, w7.heap.size = hi := ⟨_, rfl⟩
       rw [hhi] at hI
       have HHI := Lib.hid hhi
       have HI := Lib.hid hI
       have HP7 := Lib.hid (HS1.out.ext hx7)
       have HX7 := Lib.hid hx7
       clear hlo hhi hI hx7
       go_wp2_with fail
       refine Calls.mono (WS_sum HP7.out) ?_
       rintro e w8 ⟨s, g, L, rfl, hK, _, _, hF, hx8⟩
       have HK := Lib.hid hK
       have hFr : KFresh w7.heap.size B L := hF
       rw [HHI.out] at hFr
       have HF := Lib.hid hFr
       have HX8 := Lib.hid (HX7.out.trans' hx8)
       have HZ78 := Lib.hid hx8.size
       have HI8 := Lib.hid (HI.out.ext hx8)
       have HL8 := Lib.hid (KAt.low hK)
       clear hK hFr hF hx8 HI
       go_wp2_with fail
       refine Calls.mono (WS_sum (HS1.out.ext HX8.out)) ?_
       rintro e w9 ⟨s2, g2, L2, rfl, hK2, _, _, _, hx9⟩
       have HK2 := Lib.hid hK2
       have HX9 := Lib.hid (HX8.out.trans' hx9)
       have HI9 := Lib.hid (HI8.out.ext hx9)
       have HK9 := Lib.hid (HK.out.ext hx9)
       have hz9 := hx9.size
       clear hK2 hx9 HI8 HK
       go_wp2_with fail
       refine Calls.mono (KCells_c s2 g2 C B L2 _ _ HK2.out 0 (Nat.zero_le _)) ?_
       rintro e w10 ⟨v, rfl, ho, _, hx10⟩
       have HV10 := Lib.hid (IntsAt.of_row ho)
       have HOB := Lib.hid (fun k hk => own_blk ho (k := k) hk)
       obtain ⟨p1, c1, rfl⟩ := own_sl ho
       have HX10 := Lib.hid (HX9.out.trans' hx10)
       have HI10 := Lib.hid (HI9.out.ext hx10)
       have HK10 := Lib.hid (HK9.out.ext hx10)
       have hz10 := hx10.size
       clear ho hx10 HI9 HK9 HK2
       have hkU0 : U64 0 := by unfold U64; omega
       have hdI9 : I64 9 := by unfold I64; omega
       go_wp2_with fail
       refine Calls.mono (KUpdate_c s g C B L _ _ _ _ HK10.out hdI9 hkU0) ?_
       rintro e w11 ⟨rfl, hK11, hM11⟩
       have hN := hN0
       have hlh : lo ≤ hi := by have := HLO.out; have := HHI.out; have := HX7.out.size; omega
       have hO11 : OffB lo lo hi w10 w11 := offB_cells HK10.out hM11 HF.out hlh
       have HI11 := Lib.hid (HI10.out.off hO11)
       have HV11 := Lib.hid (HV10.out.mod hM11 (fun gg off nn cc hv hc => by
         obtain ⟨m, hm, he⟩ := hc
         have h1 := HL8.out.lc m hm
         have h2 := HOB.out gg (by rw [hv]; rfl)
         omega))
       have HX11 := Lib.hid (show Ext wo w11 from Below.trans HX10.out (hO11.below (N := lo) (by have := HLO.out; have := HX10.out.size; omega) |> fun h => below_less h (by have := HLO.out; omega)))
       generalize errK C B (feedK C US.flatten) 0 9 = er at *
       have hUBq := HX11.out.keep HB2.out
       have u0 := (cell_of hUBq 0).trans rfl
       have u1 := (cell_of hUBq 1).trans rfl
       have ul := lt_of hUBq
       have hz11 := hM11.size
       clear hK11 hM11 hO11 HI10 HK10 hUBq
       go_wp2_with fail
       refine Calls.mono (WI_any HI11.out ukey udel huk hud) ?_
       rintro e w12 ⟨r, rfl, hO12, hres⟩
       have HV12 : Hid (IntsAt w12 (.slice p1 (feedK C US.flatten 0).length c1) (feedK C US.flatten 0)) := by
         obtain ⟨S, hm, hS⟩ := hO12
         exact Lib.hid (HV11.out.mod hm (fun gg off nn cc hv hc => by
           have h1 := (hS gg hc).1
           have h2 := HOB.out gg (by rw [hv]; rfl)
           have h3 := HHI.out
           have h5 := HZ78.out
           omega))
       have HX12 := Lib.hid (show Ext wo w12 from Below.trans HX11.out (below_less (hO12.below (by have := HLO.out; have := HX11.out.size; omega)) (by have := HLO.out; omega)))
       have HRES := Lib.hid hres
       have hlenr : (feedK C US.flatten 0).length ≤ 1000000 := by
         have h1 : (feedK C US.flatten 0).length = lvN C (0 : Nat) := by rw [← feedT_false]; exact feedT_len C false _ 0
         rw [h1]; exact (lvN_bd hok 0).2
       have HLR := Lib.hid hlenr
       have hz12 := hO12.size
       clear hres hO12 HI11 HV11 HV10 u0 u1 ul hlenr
       go_wp2_with fail
       refine Calls.mono (WS_sum (HS1.out.ext HX12.out)) ?_
       rintro e w13 ⟨s3, g3, L3, rfl, hK3, _, _, _, hx13⟩
       have HK3 := Lib.hid hK3
       have HX13 := Lib.hid (HX12.out.trans' hx13)
       have HV13 := Lib.hid (HV12.out.ext hx13)
       have HY13 := Lib.hid hx13
       clear hK3 hx13 HV12
       go_wp2_with fail
       refine Calls.mono (KCells_c s3 g3 C B L3 _ _ HK3.out 0 (Nat.zero_le _)) ?_
       rintro e w14 ⟨v, rfl, ho, _, hx14⟩
       have HA14 := Lib.hid (IntsAt.of_row ho)
       obtain ⟨p2, c2, rfl⟩ := own_sl ho
       have HV14 := Lib.hid (HV13.out.ext hx14)
       have HX14 := Lib.hid (HX13.out.trans' hx14)
       have HY14 := Lib.hid (HY13.out.trans' hx14)
       clear ho hx14 HV13 HK3 HX13 HY13
       go_wp2_with fail
       refine Calls.mono (Same_c _ _ _ _ _ HA14.out HV14.out HLR.out HLR.out) ?_
       rintro e w15 ⟨rfl, hx15⟩
       rw [decide_eq_true rfl]
       have HV15 := Lib.hid (HV14.out.ext hx15)
       have HX15 := Lib.hid (HX14.out.trans' hx15)
       have HY15 := Lib.hid (HY14.out.trans' hx15)
       clear hx15 HV14 HX14 HY14 HA14
       by_cases hr0 : r = 0
       · obtain ⟨_, bq, smq, bkq, hWq⟩ := HRES.out.resolve_right (fun h => h.1 hr0)
         have HWQ := Lib.hid (hWq.ext HY15.out)
         have hEf := HEW.out.trans' HX15.out
         subst hr0
         clear hWq HRES
         go_wp2_with fail
         refine Calls.mono (WBuckets_c HWQ.out) ?_
         rintro e w16 ⟨rfl, rfl⟩
         go_wp2
         go_ret
         exact ⟨rfl, hEf⟩
       · obtain ⟨_, hI⟩ := HRES.out.resolve_left (fun h => hr0 h.1)
         have HI15 := Lib.hid (hI.ext HY15.out)
         have hrb : (r != 0) = true := by simpa using hr0
         clear hI HRES hr0
         go_wp2_with fail
         refine Calls.mono (WS_sum HI15.out.ws) ?_
         rintro e w16 ⟨s4, g4, L4, rfl, hK4, _, _, _, hx16⟩
         have HK4 := Lib.hid hK4
         have HX16 := Lib.hid (HX15.out.trans' hx16)
         have HV16 := Lib.hid (HV15.out.ext hx16)
         have HI16 := Lib.hid (HI15.out.ext hx16)
         have hz16 := hx16.size
         clear hK4 hx16 HV15 HI15
         go_wp2_with fail
         refine Calls.mono (KCells_c s4 g4 C B L4 _ _ HK4.out 0 (Nat.zero_le _)) ?_
         rintro e w17 ⟨v, rfl, ho, _, hx17⟩
         have HA17 := Lib.hid (IntsAt.of_row ho)
         obtain ⟨p3, c3, rfl⟩ := own_sl ho
         have HV17 := Lib.hid (HV16.out.ext hx17)
         have HX17 := Lib.hid (HX16.out.trans' hx17)
         have HI17 := Lib.hid (HI16.out.ext hx17)
         have hz17 := hx17.size
         clear ho hx17 HV16 HK4 HX16 HI16
         go_wp2_with fail
         refine Calls.mono (Same_c _ _ _ _ _ HA17.out HV17.out HLR.out HLR.out) ?_
         rintro e w18 ⟨rfl, hx18⟩
         rw [decide_eq_true rfl]
         have hz18 := hx18.size
         have HX18 := Lib.hid (HX17.out.trans' hx18)
         have HI18 := Lib.hid (HI17.out.ext hx18)
         have hP18 : WB w18 w3.heap.size lo hi p C B n US := (HS1.out.wb (by have := HLO.out; omega)).ext HX18.out
         obtain ⟨⟨a, vs, hav⟩, _⟩ := two_ends HUU.out.len h1
         have hoks := upsOk_cons (hav ▸ HUU.out.ok)
         have hfl := fl_cons (hav ▸ HUU.out.fl)
         rw [hav] at hP18
         have hQ18 := HI18.out
         rw [hav] at hQ18
         have HP18 := Lib.hid hP18
         have HQ18 := Lib.hid hQ18
         have HOKS := Lib.hid (And.intro hoks hfl)
         have hhi18 : hi ≤ w18.heap.size := by have := HHI.out; have := HZ78.out; have := hz9; have := hz10; have := hz11; have := hz12; have := HY15.out.size; have := hz16; have := hz17; have := hz18; omega
         clear hx18 HV17 HX17 HI17 HA17 hP18 hav hoks hfl hQ18 HI18
         go_wp2_with fail
         refine Calls.mono (WB_tick HP18.out hhi18 hok HB.out HOKS.out.1.1 HOKS.out.1.2 HOKS.out.2) ?_
         rintro e w19 ⟨rfl, hO19, hP19⟩
         have HP19 := Lib.hid hP19
         have HQ19 := Lib.hid (HQ18.out.off hO19)
         have hE19 : Ext w3 w19 := below_off rfl (hE.trans' HX18.out) hO19
         have hz19 := hO19.size
         clear hO19 hP19 HP18 HQ18
         go_wp2_with fail
         refine Calls.mono (WI_tick HQ19.out hok HB.out HOKS.out.1.1 HOKS.out.1.2 HOKS.out.2) ?_
         rintro e w20 ⟨rfl, hO20, hQ20⟩
         have HP20 := Lib.hid (HP19.out.inB hO20)
         have HQ20 := Lib.hid hQ20
         have hE20 : Ext w3 w20 := Below.trans hE19 (below_less (hO20.below (by omega)) (by have := HLO.out; omega))
         clear hO20 hQ20 HP19 HQ19 hE19
         have hlen2 : (feedK C vs.flatten 0).length ≤ 1000000 := by
           have h1 : (feedK C vs.flatten 0).length = lvN C (0 : Nat) := by rw [← feedT_false]; exact feedT_len C false _ 0
           rw [h1]; exact (lvN_bd hok 0).2
         have HL2 := Lib.hid hlen2
         clear hlen2
         go_wp2_with fail
         refine Calls.mono (WS_sum HP20.out.ws) ?_
         rintro e w21 ⟨s5, g5, L5, rfl, hK5, _, _, _, hx21⟩
         rw [fl_none] at hK5
         have HK5 := Lib.hid hK5
         have HQ21 := Lib.hid (HQ20.out.ext hx21)
         have hE21 := hE20.trans' hx21
         clear hK5 hx21 HQ20 hE20
         go_wp2_with fail
         refine Calls.mono (KCells_c s5 g5 C B L5 _ _ HK5.out 0 (Nat.zero_le _)) ?_
         rintro e w22 ⟨v, rfl, ho, _, hx22⟩
         have HA22 := Lib.hid (IntsAt.of_row ho)
         obtain ⟨p4, c4, rfl⟩ := own_sl ho
         have HQ22 := Lib.hid (HQ21.out.ext hx22)
         have hE22 := hE21.trans' hx22
         clear ho hx22 HK5 HQ21 hE21
         go_wp2_with fail
         refine Calls.mono (WS_sum HQ22.out) ?_
         rintro e w23 ⟨s6, g6, L6, rfl, hK6, _, _, _, hx23⟩
         rw [fl_none] at hK6
         have HK6 := Lib.hid hK6
         have HA23 := Lib.hid (HA22.out.ext hx23)
         have hE23 := hE22.trans' hx23
         clear hK6 hx23 HA22 hE22 HQ22
         go_wp2_with fail
         refine Calls.mono (KCells_c s6 g6 C B L6 _ _ HK6.out 0 (Nat.zero_le _)) ?_
         rintro e w24 ⟨v, rfl, ho, _, hx24⟩
         have HB24 := Lib.hid (IntsAt.of_row ho)
         obtain ⟨p5, c5, rfl⟩ := own_sl ho
         have HA24 := Lib.hid (HA23.out.ext hx24)
         have hE24 := hE23.trans' hx24
         clear ho hx24 HK6 HA23 hE23
         go_wp2_with fail
         refine Calls.mono (Same_c _ _ _ _ _ HA24.out HB24.out HL2.out HL2.out) ?_
         rintro e w25 ⟨rfl, hx25⟩
         rw [decide_eq_true rfl]
         have hEf := HE3.out.trans' (hE24.trans' hx25)
         go_wp2
         go_ret
         exact ⟨rfl, hEf⟩
end Go.Proofs.YteoblkcbemeamaaGreat

/- WindowApart: what Sum tells is a stack of its own; a copy is a window of its own; an update that is refused changes neither the sum, nor what a tick leaves. No condition: every input. -/
namespace Go.Proofs.YteoblkcbemeamaaGreat
set_option linter.unusedVariables false
open Go.ChangeShapes Go.WideShapes Go.ChangeAt Go.RowKit

set_option maxRecDepth 100000 in
theorem windowApart_lifted (os : Os) (started : os.Started) (H : Type) (enc : TypeId × Value → H) :
    ReturnsInHanded {} Tryz.checked os 12 .any (Rows.windowApartSpec.pre6 enc Tryz.prog Tryz.f12 Rows.windowApartRow.domain false) (Rows.windowApartSpec.post enc Tryz.prog Tryz.f12 false true false false) := by
  refine returnsInHanded_of_change_sized (C := Tryz.checked) own started (by kernel_rfl) Tryz.func12
    (ChangeSpec.witness6 (enc := enc) (C := Tryz.checked) false ⟨#[], #[.agg #[.int .i64 0, .int .i64 0, .int .i64 0, .int .i64 0, .int .u64 0], .slice none 0 0, .agg #[.int .u64 0, .int .i64 0]], []⟩ 8 (by kernel_rfl) (by kernel_rfl) (by kernel_rfl) (by kernel_rfl)) ?_
  intro W base args ds gs before hval0 hW hcnd hsz0 _
  have hval : ∀ (j : Nat) t v, Tryz.f12.params[j]? = some t → args[j]? = some v → Value.okWide Tryz.prog W .any base t v := hval0
  have hW' := hW
  obtain ⟨p, q, hA0, hV, rfl, hfz, hnd⟩ := hW
  have hA : DataW.TrodAll enc Tryz.prog W 0 (fun _ => true) true Tryz.f12.params.toList args.toList ds p := hA0
  have hsz : (DataW.weightsEach Tryz.prog (Tryz.f12.params.toList ++ Rows.windowApartSpec.plain.varTypes Tryz.prog) (ds ++ gs)).all (· ≤ reachBytes) = true := hsz0
  rw [Tryz.params12] at hA hval hsz
  obtain ⟨v0, vs0, d0, ds0, p0, q0, hargs, rfl, rfl, h0, r0⟩ := trodAll_cons hA
  obtain ⟨v1, vs1, d1, ds1, p1, q1, rfl, rfl, rfl, h1, r1⟩ := trodAll_cons r0
  obtain ⟨v2, vs2, d2, ds2, p2, q2, rfl, rfl, rfl, h2, r2⟩ := trodAll_cons r1
  obtain ⟨rfl, rfl, rfl⟩ := trodAll_nil r2
  obtain rfl : args = #[v0, v1, v2] := by cases args; simp_all
  obtain ⟨rfl, rfl⟩ := trodVars_none hV
  have k0 := h0
  have k1 := h1
  have k2 := h2
  have lt0 : ∀ x ∈ p0, x.block < W.heap.size := by obtain ⟨m, hm⟩ := k0; exact DataW.trod_lt m _ _ _ hm
  have lt1 : ∀ x ∈ p1, x.block < W.heap.size := by obtain ⟨m, hm⟩ := k1; exact DataW.trod_lt m _ _ _ hm
  have lt2 : ∀ x ∈ p2, x.block < W.heap.size := by obtain ⟨m, hm⟩ := k2; exact DataW.trod_lt m _ _ _ hm
  obtain ⟨x0, hx0, rfl⟩ := cfgarg_of (hval 0 _ v0 rfl rfl) h0
  obtain ⟨os1, hos1, hat1, hr1⟩ := ops24arg_of (hval 1 _ v1 rfl rfl) h1
  have hul1 := hr1 _ _ 1 hsz rfl rfl
  obtain ⟨n2, m2, hn2, hm2, rfl⟩ := updarg_of (hval 2 _ v2 rfl rfl) h2
  clear hA0 hval0
  refine (WApartL_c x0 hx0 n2 m2 hn2 hm2 os1 hos1 v1 W hat1 hul1).mono fun e W' ⟨he, bel⟩ => ?_
  subst he
  exact ⟨_, rfl, _, _, _, [], _, [], hW', trodAll_mk1 (shut_bool Tryz.underlying4 _), (trodAll_cons_mk (Below.trod laidOut (by kernel_rfl) (of_decide_eq_true (by kernel_rfl)) k0 bel lt0) (trodAll_cons_mk (Below.trod laidOut (by kernel_rfl) (of_decide_eq_true (by kernel_rfl)) k1 bel lt1) (trodAll_cons_mk (Below.trod laidOut (by kernel_rfl) (of_decide_eq_true (by kernel_rfl)) k2 bel lt2) trodAll_mk0))), rfl, bel.frame _, fun h => by cases h⟩
end Go.Proofs.YteoblkcbemeamaaGreat
