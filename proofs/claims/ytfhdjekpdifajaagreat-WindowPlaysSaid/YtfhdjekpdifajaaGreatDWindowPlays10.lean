/- Part. No condition. -/
import Derived.Test.YtfhdjekpdifajaaGreatDWindowPlays9
import Derived.Test.YtfhdjekpdifajaaGreatDWindowPlays2
import Derived.Test.YtfhdjekpdifajaaGreatDWindowPlays8
import Derived.Test.YtfhdjekpdifajaaGreatDWindowPlays7
import Derived.Test.YtfhdjekpdifajaaGreatDWindowPlays3
import Derived.Laws.CopyOwn
import Derived.Laws.MakeOwn
namespace Go.Proofs.YtfhdjekpdifajaaGreat
set_option linter.unusedVariables false
open Go.RowKit
/-- The buckets behind a tick. -/
def shiftB (n : Nat) (bk : Nat → Bk) (x : Bk) : Nat → Bk := fun i => if i + 1 = n then x else bk (i + 1)
theorem shiftB_last {n : Nat} {bk : Nat → Bk} {x : Bk} {i : Nat} (h : i + 1 = n) : shiftB n bk x i = x := if_pos h
theorem shiftB_less {n : Nat} {bk : Nat → Bk} {x : Bk} {i : Nat} (h : i + 1 ≠ n) : shiftB n bk x i = bk (i + 1) := if_neg h
section
variable {w w' : World} {N p b : Nat} {C : Cfg} {B n : Nat} {sm : Bk} {bk : Nat → Bk}
theorem WAt.shift (h : WAt w N p b C B n sm bk) (x : Bk) (hx : x.At w C B) (s1 : ∀ m, m ≤ B → ¬ cellsOf B x.L (sm.L m).c) (s2 : ∀ j, j < n → ∀ m, m ≤ B → ¬ cellsOf B x.L ((bk j).L m).c) (s3 : ∀ j, j < n → ∀ m, m ≤ B → ¬ cellsOf B (bk j).L (x.L m).c) (hN : ∀ m, m ≤ B → N ≤ (x.L m).c)
    (hw : ∀ k, k < w.heap.size → k ≠ b → w'.heap[k]? = w.heap[k]?) (hb : ∃ cur, w'.heap[b]? = some (.cells cur 28 (0, 0)) ∧ ∀ i, i < n → cur[i]? = some (.pointer (some ⟨(shiftB n bk x i).s, 0, none⟩))) : WAt w' N p b C B n sm (shiftB n bk x) := by
  obtain ⟨cap, h1, h2⟩ := h.st
  obtain ⟨cur, h3, h4⟩ := h.row
  have hpb : p ≠ b := blk_ne h1 h3 (by decide)
  refine ⟨⟨cap, (hw p h.ltp hpb).trans h1, h2⟩, hb, KAt.setW h.sum h3 (.inr rfl) hw, fun i hi => ?_, fun i hi k hk => ?_, fun i j hi hj hij k hk => ?_, h.n1, h.n2, h.md, h.loP, h.loB, fun i hi k hk => ?_⟩
  · by_cases hl : i + 1 = n
    · rw [shiftB_last hl]; exact KAt.setW hx h3 (.inr rfl) hw
    · rw [shiftB_less hl]; exact KAt.setW (h.bks _ (by omega)) h3 (.inr rfl) hw
  · by_cases hl : i + 1 = n
    · rw [shiftB_last hl]; exact s1 k hk
    · rw [shiftB_less hl]; exact h.sepS _ (by omega) k hk
  · by_cases hl : i + 1 = n
    · rw [shiftB_last hl]
      by_cases hl2 : j + 1 = n
      · omega
      · rw [shiftB_less hl2]; exact s2 _ (by omega) k hk
    · rw [shiftB_less hl]
      by_cases hl2 : j + 1 = n
      · rw [shiftB_last hl2]; exact s3 _ (by omega) k hk
      · rw [shiftB_less hl2]; exact h.sepB _ _ (by omega) (by omega) (by omega) k hk
  · by_cases hl : i + 1 = n
    · rw [shiftB_last hl]; exact hN k hk
    · rw [shiftB_less hl]; exact h.loC _ (by omega) k hk
end
theorem mod_setRow (w : World) (b : Nat) (cs : Array Value) : Mod (fun k => k = b) w (w.setRow b cs) := ⟨rfl, rfl, rfl, by simp [World.setRow], fun k hk hn => setRow_other w b k cs (by first | exact hn | exact fun e => hn e.symm)⟩
def WTickPost (w : World) (N p b : Nat) (C : Cfg) (B n : Nat) (sm : Bk) (bk : Nat → Bk) (e : Ending) (w' : World) : Prop :=
  e = .returned (.int .i64 (chkE B (fun k => minusL (sm.ls k) ((bk 0).ls k)))) ∧ Mod (WFoot p b B n bk) w w' ∧
    (((∀ k, k ≤ B → allI (minusL (sm.ls k) ((bk 0).ls k))) ∧ ∃ s g L s2 g2 L2, KFresh w.heap.size B L ∧ KFresh w.heap.size B L2 ∧ WAt w' N p b C B n ⟨s, g, L, fun k => minusL (sm.ls k) ((bk 0).ls k)⟩ (shiftB n bk ⟨s2, g2, L2, fun k => zs (lvN C k)⟩)) ∨ ((¬ ∀ k, k ≤ B → allI (minusL (sm.ls k) ((bk 0).ls k))) ∧ WAt w' N p b C B n sm bk))
set_option maxRecDepth 20000 in
set_option maxHeartbeats 8000000 in
theorem WTick_c {N p b : Nat} {C : Cfg} {B n : Nat} {sm : Bk} {bk : Nat → Bk} {w : World} (h : WAt w N p b C B n sm bk) (hok : C.Ok) :
    Calls Tryz.prog 53 #[.pointer (some ⟨p, 0, none⟩)] w (WTickPost w N p b C B n sm bk) := by
  have HW := Lib.hid h
  have HOK := Lib.hid hok
  have HC := Lib.hid (WWithout_c h)
  have hn := h.n1
  have hn2 := h.n2
  have hNp := h.loP
  have pl := h.ltp
  clear h hok
  go_enter Tryz.func53, Tryz.ntmps53
  go_wp2_with fail
  refine Calls.mono HC.out ?_
  rintro e w1 ⟨s, hE, (⟨ha, rfl, g, L, hK, hF⟩ | ⟨ha, rfl⟩)⟩
  · have hW1 := HW.out.ext hE
    have HF := Lib.hid hF
    have hys : ∀ i, i < n → ∀ m, m ≤ B → ¬ cellsOf B (bk i).L (L m).c := fun i hi m hm ⟨j, hj, he⟩ => by
      have h1 := (HF.out m hm).2.2
      have h2 := ((KAt.lev (HW.out.bks i hi)) j hj).ltc
      have he' : (L m).c = ((bk i).L j).c := he
      omega
    have hW2 := hW1.newSum ⟨s, g, L, fun k => minusL (sm.ls k) ((bk 0).ls k)⟩ hK hys
    obtain ⟨cap1, hst1, _⟩ := hW1.st
    have q0 := (cell_of hst1 0).trans rfl
    have f0 := frozen_of hst1 0
    have ql := lt_of hst1
    have hc := Lib.hid (chkE_yes ha)
    have HA := Lib.hid ha
    have HE := Lib.hid hE
    have HYS := Lib.hid hys
    clear ha hK hF hW1 hst1 hE hys
    go_upto_region 5 with (fail)
    obtain ⟨w2, hw2⟩ : ∃ w2, w1.setCell ⟨p, 0, none⟩ (.pointer (some ⟨s, 0, none⟩)) = w2 := ⟨_, rfl⟩
    have hM2 : Mod (fun k => k = p) w1 w2 := by rw [← hw2]; exact mod_set _ _ _ _
    have hW2' : WAt w2 N p b C B n ⟨s, g, L, fun k => minusL (sm.ls k) ((bk 0).ls k)⟩ bk := by rw [← hw2]; exact hW2
    rw [hw2]
    clear hw2 hW2 q0 f0 ql
    have HM2 := Lib.hid hM2
    have HW2 := Lib.hid hW2'
    clear hM2 hW2'
    go_wp2_with fail
    refine Calls.mono (SKConfig_c s g C B L _ _ HW2.out.sum) ?_
    rintro e w3 ⟨rfl, hx3⟩
    have HX3 := Lib.hid hx3
    clear hx3
    go_wp2_with fail
    refine Calls.mono (KNew_c C HOK.out _) ?_
    rintro e w4 ⟨s2, g2, L2, rfl, hK4, _, _, hF4, hx4⟩
    have hBt : C.bits.toNat = B := by have := KAt.hB HW.out.sum; omega
    rw [hBt] at hK4 hF4
    have hW4 := HW2.out.ext (HX3.out.trans' hx4)
    obtain ⟨cap, hst4, hcap⟩ := hW4.st
    rw [hcap] at hst4
    obtain ⟨cur, hb4, hcur⟩ := hW4.row
    have q1 := (cell_of hst4 1).trans rfl
    have ql := lt_of hst4
    have hpb : p ≠ b := blk_ne hst4 hb4 (by decide)
    have hlb := lt_of hb4
    obtain ⟨S, hSS⟩ : ∃ S : Nat → Prop, ∀ k, S k ↔ k = b := ⟨_, fun _ => Iff.rfl⟩
    have n1 : ¬ S p := fun hs => hpb ((hSS p).1 hs)
    have HSS := Lib.hid hSS
    have HW4 := Lib.hid hW4
    have HB4 := Lib.hid hb4
    have HST4 := Lib.hid hst4
    have HCUR := Lib.hid hcur
    have HX4 := Lib.hid hx4
    have HK4 := Lib.hid hK4
    have HF4 := Lib.hid hF4
    have hsz : (Tryz.prog.info? 28).map (·.size) = some 1 := by kernel_rfl
    have HSZ := Lib.hid hsz
    obtain ⟨m, rfl⟩ : ∃ m, n = m + 1 := ⟨n - 1, by omega⟩
    clear hK4 hF4 hW4 hst4 hb4 hcur hx4 hSS hsz hNp hlb
    have hm15 : m ≤ 15 := by omega
    go_upto_region 6 with (fail)
    go_cut [] (fun wx => ∃ cur5, wx.heap[b]? = some (.cells cur5 28 (0, 0)) ∧ m < cur5.size ∧ (∀ i, i < m → cur5[i]? = some (.pointer (some ⟨(bk (i + 1)).s, 0, none⟩))) ∧ Mod (fun k => k = b) w4 wx)
    case first =>
      have hC0 := afs_drew S w4
      have hd4 : w4.drew.heap[b]? = some (.cells cur 28 (0, 0)) := HB4.out
      have hcs : m < cur.size := by
        have := HCUR.out m (Nat.lt_succ_self m)
        exact (Array.getElem?_eq_some_iff.1 this).1
      obtain ⟨cs, hcsd⟩ : ∃ cs : List Value, cs = (List.range m).map fun i => Value.pointer (some ⟨(bk (i + 1)).s, 0, none⟩) := ⟨_, rfl⟩
      have hcl : cs.length = m := by rw [hcsd]; simp
      have hcg : ∀ j v, cs[j]? = some v → j < m ∧ v = .pointer (some ⟨(bk (j + 1)).s, 0, none⟩) := by
        intro j v hv
        rw [hcsd] at hv
        rcases Nat.lt_or_ge j m with hj | hj
        · simp [hj] at hv; exact ⟨hj, hv.symm⟩
        · simp [hj] at hv
      have HCG := Lib.hid hcg
      have HD4 := Lib.hid hd4
      have HCSD := Lib.hid hcsd
      have HCS := Lib.hid hcs
      have HCL := Lib.hid hcl
      clear hcg hd4 hcsd hcs hcl
      by_cases hm0 : m = 0
      · subst hm0
        refine pi_start (fun w' => ∃ x : AftS S w4, w' = x.w) [] (by kernel_rfl) ?_
        refine pi_t 0 rfl (by kernel_rfl) (by kernel_rfl) (fun _ _ _ _ h => h) (fun K hK => ?_)
        go_big_quiet_op
        refine hK _ ?_
        clear hK K
        refine pi_t 1 rfl (by kernel_rfl) (by kernel_rfl) (fun _ _ _ _ h => h) (fun K hK => ?_)
        go_big_quiet_op
        refine hK _ ?_
        clear hK K
        refine pi_t 2 rfl (by kernel_rfl) (by kernel_rfl) (fun _ _ _ _ h => h) (fun K hK => ?_)
        go_big_quiet_op
        refine hK _ ?_
        clear hK K
        refine pi_t 4 rfl (by kernel_rfl) (by kernel_rfl) (fun _ _ _ _ h => h) (fun K hK => ?_)
        go_big_quiet_op
        refine hK _ ?_
        clear hK K
        refine pi_t 5 rfl (by kernel_rfl) (by kernel_rfl) (fun _ _ _ _ h => h) (fun K hK => ?_)
        go_big_quiet_op
        refine hK _ ?_
        clear hK K
        refine pi_t 6 rfl (by kernel_rfl) (by kernel_rfl) (fun _ _ _ _ h => h) (fun K hK => ?_)
        go_big_quiet_op
        refine hK _ ?_
        clear hK K
        refine pi_c 3 (by assumption) rfl (by kernel_rfl) (by kernel_rfl) (fun _ _ _ _ h => h) (fun K hK => ?_)
        go_big_quiet_op
        refine hK _ ?_
        clear hK K
        refine pi_c 7 (by assumption) rfl (by kernel_rfl) (by kernel_rfl) (fun _ _ _ _ h => h) (fun K hK => ?_)
        go_big_quiet_op
        refine hK _ ?_
        clear hK K
        refine pi_t 8 rfl (by kernel_rfl) (by kernel_rfl) (fun _ _ _ _ h => h) (fun K hK => ?_)
        go_big_quiet_op
        refine hK _ ?_
        clear hK K
        refine pi_l 9 rfl (by kernel_rfl) (fun K hK => ?_)
        refine wpList_copy_nothing rfl _ _ _ _ rfl 28 Tryz.underlying199 HSZ.out _ _ _ _ _ _ rfl rfl (by decide) ?_
        go_wp2
        refine hK _ _ (fun _ h => h) ?_
        clear hK K
        refine pi_end (by kernel_rfl) ?_
        go_wp2_with fail
        go_meet
        exact ⟨cur, HB4.out, HCS.out, fun i hi => absurd hi (by omega), (show Ext w4 w4.drew from Below.drew (Ext.refl w4)).mod _⟩
      · have hm1 : (1 : Int) < (m : Int) + 1 := by omega
        refine pi_start (fun w' => ∃ x : AftS S w4, w' = x.w) [] (by kernel_rfl) ?_
        refine pi_t 0 rfl (by kernel_rfl) (by kernel_rfl) (fun _ _ _ _ h => h) (fun K hK => ?_)
        go_big_quiet_op
        refine hK _ ?_
        clear hK K
        refine pi_t 1 rfl (by kernel_rfl) (by kernel_rfl) (fun _ _ _ _ h => h) (fun K hK => ?_)
        go_big_quiet_op
        refine hK _ ?_
        clear hK K
        refine pi_t 2 rfl (by kernel_rfl) (by kernel_rfl) (fun _ _ _ _ h => h) (fun K hK => ?_)
        go_big_quiet_op
        refine hK _ ?_
        clear hK K
        refine pi_t 4 rfl (by kernel_rfl) (by kernel_rfl) (fun _ _ _ _ h => h) (fun K hK => ?_)
        go_big_quiet_op
        refine hK _ ?_
        clear hK K
        refine pi_t 5 rfl (by kernel_rfl) (by kernel_rfl) (fun _ _ _ _ h => h) (fun K hK => ?_)
        go_big_quiet_op
        refine hK _ ?_
        clear hK K
        refine pi_t 6 rfl (by kernel_rfl) (by kernel_rfl) (fun _ _ _ _ h => h) (fun K hK => ?_)
        go_big_quiet_op
        refine hK _ ?_
        clear hK K
        refine pi_c 3 (by assumption) rfl (by kernel_rfl) (by kernel_rfl) (fun _ _ _ _ h => h) (fun K hK => ?_)
        go_big_quiet_op
        refine hK _ ?_
        clear hK K
        refine pi_c 7 (by assumption) rfl (by kernel_rfl) (by kernel_rfl) (fun _ _ _ _ h => h) (fun K hK => ?_)
        go_big_quiet_op
        refine hK _ ?_
        clear hK K
        refine pi_t 8 rfl (by kernel_rfl) (by kernel_rfl) (fun _ _ _ _ h => h) (fun K hK => ?_)
        go_big_quiet_op
        refine hK _ ?_
        clear hK K
        refine pi_l 9 rfl (by kernel_rfl) (fun K hK => ?_)
        refine wpList_copy_own rfl _ _ _ _ rfl 28 Tryz.underlying199 HSZ.out b 0 (m + 1) (m + 1) ⟨b, 1, none⟩ m m rfl rfl cur 28 HD4.out cs ?a1 ?a2 ?a3 ?a4 ?_
        case a1 => rw [HCL.out]; exact (Nat.min_eq_left (Nat.le_succ m)).symm
        case a2 =>
          intro j v hv
          obtain ⟨hj, rfl⟩ := HCG.out j v hv
          rw [show ((⟨b, 1, none⟩ : Addr).add j) = ⟨b, 1 + j, none⟩ by (unfold Addr.add; split <;> simp_all), cell_of HD4.out, Nat.add_comm 1 j]
          exact HCUR.out (j + 1) (by omega)
        case a3 => rw [HCL.out]; have := HCS.out; omega
        case a4 =>
          intro v hv
          rw [HCSD.out] at hv
          simp only [List.mem_map] at hv
          obtain ⟨i, _, rfl⟩ := hv
          rfl
        obtain ⟨w5, hw5⟩ : ∃ w5, w4.drew.setRow b (cur.toList.take 0 ++ (cs ++ cur.toList.drop (0 + cs.length))).toArray = w5 := ⟨_, rfl⟩
        have hM5 : Mod (fun k => k = b) w4 w5 := by rw [← hw5]; exact ((show Ext w4 w4.drew from Below.drew (Ext.refl w4)).mod _).trans (mod_setRow _ _ _)
        have hb5 : w5.heap[b]? = some (.cells (cs ++ cur.toList.drop m).toArray 28 (0, 0)) := by
          rw [← hw5]
          have h1 := setRow_heap w4.drew b cur (cur.toList.take 0 ++ (cs ++ cur.toList.drop (0 + cs.length))).toArray 28 (0, 0) HD4.out
          rw [h1, HCL.out, Nat.zero_add, List.take_zero, List.nil_append]
        rw [hw5]
        clear hw5
        have hMS : Mod S w4 w5 := hM5.mono' (fun k hk => (HSS.out k).2 hk)
        have HM5 := Lib.hid hM5
        have HB5 := Lib.hid hb5
        clear hM5 hb5
        go_wp2
        refine hK _ _ (fun _ _ => ⟨⟨w5, hMS⟩, rfl⟩) ?_
        clear hK K
        refine pi_end (by kernel_rfl) ?_
        go_wp2_with fail
        go_meet
        refine ⟨_, HB5.out, ?_, fun i hi => ?_, HM5.out⟩
        · have := HCS.out
          simp [HCL.out]; omega
        · have hget : cs[i]? = some (.pointer (some ⟨(bk (i + 1)).s, 0, none⟩)) := by rw [HCSD.out]; simp [hi]
          rw [List.getElem?_toArray, List.getElem?_append_left (by rw [HCL.out]; exact hi)]
          exact hget
    case rest =>
      obtain ⟨cur5, hb5, hm5, hcur5, hM5⟩ := hcut
      rename World => w5
      have hst5 := (hM5.block p (lt_of HST4.out) hpb).trans HST4.out
      have q1 := (cell_of hst5 1).trans rfl
      have ql := lt_of hst5
      have f5 := frozen_of hb5 m
      have c5 := (cell_of hb5 m).trans (Array.getElem?_eq_getElem hm5)
      have bl := lt_of hb5
      have hmm : (m : Int) + 1 - 1 = (m : Int) := by omega
      have HB5 := Lib.hid hb5
      have HM5 := Lib.hid hM5
      have HCUR5 := Lib.hid hcur5
      have HST5 := Lib.hid hst5
      clear hst5 hb5 hM5 hcur5
      go_wp2_with fail
      have hC0 := af_drew w5
      refine pi_start (fun w' => ∃ x : After w5, w' = x.w) [12] (by kernel_rfl) ?_
      refine pi_t 0 rfl (by kernel_rfl) (by kernel_rfl) (fun _ _ _ _ h => h) (fun K hK => ?_)
      go_big_quiet_op
      refine hK _ ?_
      clear hK K
      refine pi_t 1 rfl (by kernel_rfl) (by kernel_rfl) (fun _ _ _ _ h => h) (fun K hK => ?_)
      go_big_quiet_op
      refine hK _ ?_
      clear hK K
      refine pi_t 2 rfl (by kernel_rfl) (by kernel_rfl) (fun _ _ _ _ h => h) (fun K hK => ?_)
      go_big_quiet_op
      refine hK _ ?_
      clear hK K
      refine pi_t 4 rfl (by kernel_rfl) (by kernel_rfl) (fun _ _ _ _ h => h) (fun K hK => ?_)
      go_big_quiet_op
      refine hK _ ?_
      clear hK K
      refine pi_t 5 rfl (by kernel_rfl) (by kernel_rfl) (fun _ _ _ _ h => h) (fun K hK => ?_)
      go_big_quiet_op
      refine hK _ ?_
      clear hK K
      refine pi_t 6 rfl (by kernel_rfl) (by kernel_rfl) (fun _ _ _ _ h => h) (fun K hK => ?_)
      go_big_quiet_op
      refine hK _ ?_
      clear hK K
      refine pi_t 10 rfl (by kernel_rfl) (by kernel_rfl) (fun _ _ _ _ h => h) (fun K hK => ?_)
      go_big_quiet_op
      refine hK _ ?_
      clear hK K
      refine pi_c 3 (by assumption) rfl (by kernel_rfl) (by kernel_rfl) (fun _ _ _ _ h => h) (fun K hK => ?_)
      go_big_quiet_op
      refine hK _ ?_
      clear hK K
      refine pi_c 7 (by assumption) rfl (by kernel_rfl) (by kernel_rfl) (fun _ _ _ _ h => h) (fun K hK => ?_)
      go_big_quiet_op
      refine hK _ ?_
      clear hK K
      refine pi_t 8 rfl (by kernel_rfl) (by kernel_rfl) (fun _ _ _ _ h => h) (fun K hK => ?_)
      go_big_quiet_op
      refine hK _ ?_
      clear hK K
      refine pi_t 9 rfl (by kernel_rfl) (by kernel_rfl) (fun _ _ _ _ h => h) (fun K hK => ?_)
      go_big_quiet_op
      refine hK _ ?_
      clear hK K
      refine pi_t 11 rfl (by kernel_rfl) (by kernel_rfl) (fun _ _ _ _ h => h) (fun K hK => ?_)
      go_big_quiet_op
      refine hK _ ?_
      clear hK K
      refine pi_l 12 rfl (by kernel_rfl) (fun K hK => ?_)
      go_wp2
      refine hK _ _ (by simp) ?_
      clear hK K
      refine pi_end (by kernel_rfl) ?_
      go_wp2
      go_ret
      have z1 := HE.out.size
      have z2 := HM2.out.size
      have z3 := HX3.out.size
      have hL2 : ∀ k, k ≤ B → w3.heap.size ≤ (L2 k).c := fun k hk => (HF4.out k hk).2.2
      have hbw : ∀ j, j < m + 1 → ∀ k, k ≤ B → ((bk j).L k).c < w2.heap.size := fun j hj k hk => ((KAt.lev (HW2.out.bks j hj)) k hk).ltc
      have hfin : ∀ k, k < w4.heap.size → k ≠ b → (w5.setCell ⟨b, m, none⟩ (.pointer (some ⟨s2, 0, none⟩))).drew.heap[k]? = w4.heap[k]? := fun k hk hkb => (setCell_other _ _ hkb).trans (HM5.out.block k hk hkb)
      have hX4' : Bk.At ⟨s2, g2, L2, fun k => zs (lvN C k)⟩ w4 C B := HK4.out
      have hcell : (w5.setCell ⟨b, m, none⟩ (.pointer (some ⟨s2, 0, none⟩))).drew.heap[b]? = some (.cells (cur5.setIfInBounds m (.pointer (some ⟨s2, 0, none⟩))) 28 (0, 0)) := setCell_same HB5.out m _
      refine ⟨by rw [hc.out]; rfl, ?_, .inl ⟨HA.out, s, g, L, s2, g2, L2, HF.out, fun k hk => ?_, ?_⟩⟩
      · exact ((((HE.out.mod _).trans (HM2.out.mono' (fun k hk => .inl hk))).trans ((HX3.out.trans' HX4.out).mod _)).trans (HM5.out.mono' (fun k hk => .inr (.inl hk)))).trans (((mod_set w5 b m _).mono' (fun k hk => .inr (.inl hk))).trans ((show Ext _ (World.drew _) from Below.drew (Ext.refl _)).mod _))
      · have := HF4.out k hk
        omega
      · refine HW4.out.shift ⟨s2, g2, L2, fun k => zs (lvN C k)⟩ hX4' (fun k hk hcl => ?_) (fun j hj k hk hcl => ?_) (fun j hj k hk hcl => ?_) (fun k hk => ?_) hfin ⟨_, hcell, fun i hi => ?_⟩
        · obtain ⟨q, hq, he⟩ := hcl
          have h1 := hL2 q hq
          have h2 := ((KAt.lev HW2.out.sum) k hk).ltc
          have he' : (L k).c = (L2 q).c := he
          have h2' : (L k).c < w2.heap.size := h2
          omega
        · obtain ⟨q, hq, he⟩ := hcl
          have h1 := hL2 q hq
          have h2 := hbw j hj k hk
          have he' : ((bk j).L k).c = (L2 q).c := he
          omega
        · obtain ⟨q, hq, he⟩ := hcl
          have h1 := hL2 k hk
          have h2 := hbw j hj q hq
          have he' : (L2 k).c = ((bk j).L q).c := he
          omega
        · have h1 := hL2 k hk
          have h2 := HW.out.loP
          show N ≤ (L2 k).c
          omega
        · by_cases hl : i = m
          · subst hl
            rw [shiftB_last rfl, Array.getElem?_setIfInBounds_self_of_lt hm5]
          · rw [shiftB_less (by omega), Array.getElem?_setIfInBounds_ne (by omega)]
            exact HCUR5.out i (by omega)
  · have hc := Lib.hid (chkE_no ha)
    have HA := Lib.hid ha
    have HWF := Lib.hid (HW.out.ext hE)
    have HMF := Lib.hid (hE.mod (WFoot p b B n bk))
    clear ha hE
    go_wp2
    go_ret
    exact ⟨by rw [hc.out]; rfl, HMF.out, .inr ⟨HA.out, HWF.out⟩⟩
end Go.Proofs.YtfhdjekpdifajaaGreat
namespace Go.Proofs.YtfhdjekpdifajaaGreat
set_option linter.unusedVariables false
open Go.RowKit
/-- A row of pointers, of which k are there. -/
def ptrA (f : Nat → Value) (k n : Nat) : Array Value := Array.ofFn fun i : Fin n => if i.val < k then f i.val else .pointer none
theorem ptrA_size (f : Nat → Value) (k n : Nat) : (ptrA f k n).size = n := by simp [ptrA]
theorem ptrA_at (f : Nat → Value) (k n i : Nat) (h : i < n) : (ptrA f k n)[i]? = some (if i < k then f i else .pointer none) := by simp [ptrA, h]
theorem ptrA_set (f g : Nat → Value) (k n : Nat) (hg : ∀ i, i < k → g i = f i) : (ptrA f k n).setIfInBounds k (g k) = ptrA g (k + 1) n := by
  apply Array.ext
  · simp [ptrA]
  · intro i h1 h2
    have hn : i < n := by simpa [ptrA] using h2
    by_cases he : i = k
    · subst he; simp [ptrA]
    · rw [Array.getElem_setIfInBounds_ne (by simpa [ptrA] using hn) (fun e => he e.symm)]
      by_cases hl : i < k
      · have h3 : i < k + 1 := by omega
        simp [ptrA, hl, h3, hg i hl]
      · have h3 : ¬ i < k + 1 := by omega
        simp [ptrA, hl, h3]
theorem run_make_ptrs {P : Program} (t e : TypeId) (i : TypeInfo) (ht : P.underlying t = some (.slice e)) (hi : P.info? e = some i) (hz : i.zero = some (.pointer none)) (hs : i.size = 1) (hb : i.bytes = 8)
    (n : Nat) (hn : n ≤ 1000000) (f : Nat → Value) (w : World) :
    (Instr.makeSlice t (.int .i64 (n : Int)) (.int .i64 (n : Int))).run P w = .ok (.slice (some ⟨w.heap.size, 0, none⟩) n n) (w.alloc (.cells (ptrA f 0 n) e)) := by
  have h := run_make w t e i (.pointer none) ht hi hz .i64 .i64 n n (by omega) (by omega) (by rw [hb]; omega) (by omega)
  simp only [Int.toNat_natCast] at h
  rw [h, hs]
  congr 3
  apply Array.ext
  · rw [size_madeCells, ptrA_size]; omega
  · intro j h1 h2
    rw [ptrA_size] at h2
    simp [madeCells, ptrA, Value.cells, Nat.mod_one]
theorem info_ptr : ∃ i, Tryz.prog.info? 28 = some i ∧ i.zero = some (.pointer none) ∧ i.size = 1 ∧ i.bytes = 8 := by
  have h : (Tryz.prog.info? 28).map (fun i => (i.zero, i.size, i.bytes)) = some (some (.pointer none), 1, 8) := by kernel_rfl
  match hi : Tryz.prog.info? 28, h with
  | some i, h =>
    simp only [Option.map_some, Option.some.injEq, Prod.mk.injEq] at h
    exact ⟨i, rfl, h.1, h.2.1, h.2.2⟩
def zB (C : Cfg) (k : Bk) : Prop := k.ls = fun (n : Nat) => zs (lvN C n)
def WNewPost (w : World) (C : Cfg) (B n : Nat) (e : Ending) (w' : World) : Prop :=
  ∃ p b sm bk, e = .returned (.tuple #[.pointer (some ⟨p, 0, none⟩), .int .i64 0]) ∧ WAt w' w.heap.size p b C B n sm bk ∧ zB C sm ∧ (∀ i, i < n → zB C (bk i)) ∧ Ext w w'
set_option maxRecDepth 20000 in
set_option maxHeartbeats 8000000 in
theorem WNew_c (C : Cfg) (hok : C.Ok) (hm : C.mode = 1) (B : Nat) (hB : C.bits = B) (n : Nat) (h1 : 1 ≤ n) (h2 : n ≤ 16) (w : World) :
    Calls Tryz.prog 50 #[.agg #[.int .i64 C.bits, .int .i64 C.rows, .int .i64 C.width, .int .i64 C.mode, .int .u64 C.seed], .int .i64 n] w (WNewPost w C B n) := by
  obtain ⟨ii, hi, hz0, hz1, hz2⟩ := info_ptr
  have hmk := fun (x : World) => run_make_ptrs 199 28 ii Tryz.underlying199 hi hz0 hz1 hz2 n (by omega) (fun _ => .pointer none) x
  have HOK := Lib.hid hok
  have HBT := Lib.hid (show C.bits.toNat = B by omega)
  have HMD := Lib.hid hm
  have hn1 : ((n : Int) < 1) = False := by simp; omega
  have hn16 : ((16 : Int) < (n : Int)) = False := by simp; omega
  have hmne : (C.mode != 1) = false := by simp [hm]
  have hmne2 : (C.mode == 1) = true := by simp [hm]
  clear hB hi hz0 hz1 hz2 hm
  go_enter Tryz.func50, Tryz.ntmps50
  go_wp2_with fail
  refine Calls.mono (Right_c C HOK.out _) ?_
  rintro e w1 ⟨rfl, hb1⟩
  have hE1 : Ext w w1 := by (repeat' (first | exact Ext.refl _ | assumption | apply Ext.allocR | apply Ext.drewR | apply Ext.drewNR | (refine Ext.trans' ?_ (by assumption))))
  have hQ := hb1.keep (heap_at w (.cells #[.int .i64 C.bits, .int .i64 C.rows, .int .i64 C.width, .int .i64 C.mode, .int .u64 C.seed] 24) rfl)
  have p0 := (cell_of hQ 0).trans rfl
  have p1 := (cell_of hQ 1).trans rfl
  have p2 := (cell_of hQ 2).trans rfl
  have p3 := (cell_of hQ 3).trans rfl
  have p4 := (cell_of hQ 4).trans rfl
  have pl := lt_of hQ
  clear hb1
  go_upto_region 5 with (fail)
  clear hmne hmne2
  go_wp2_with fail
  refine Calls.mono (KNew_c C HOK.out _) ?_
  rintro e w2 ⟨s, g, L, rfl, hK, _, _, hF, hx2⟩
  rw [HBT.out] at hK hF
  have hQ2 := hx2.keep hQ
  have hE2 := hE1.trans' hx2
  have hF' : KFresh w1.heap.size B L := hF
  have HF := Lib.hid hF'
  have HK := Lib.hid hK
  have hz12 := hx2.size
  clear p0 p1 p2 p3 p4 pl hQ hx2 hK hF hF'
  go_upto_region 7 with (fail)
  have hw3 : Ext w2 ((w2.alloc (.cells (ptrA (fun x => Value.pointer none) 0 n) 28)).alloc (.cells #[.pointer (some ⟨s, 0, none⟩), .slice (some ⟨w2.heap.size, 0, none⟩) n n] 201)) := (Ext.alloc' _ _).trans' (Ext.alloc' _ _)
  have HQ2 := Lib.hid hQ2
  have HE2 := Lib.hid hE2
  clear hmk hn1 hn16 hQ2 hE2
  go_wp2_with fail
  go_loopw [37] (fun u37 wr => ∃ (k : Nat) (bk : Nat → Bk), k ≤ n ∧ u37 = .int .i64 k ∧ Ext w2 wr ∧ wr.heap[w2.heap.size + 1]? = some (.cells #[.pointer (some ⟨s, 0, none⟩), .slice (some ⟨w2.heap.size, 0, none⟩) n n] 201 (0, 0)) ∧ wr.heap[w2.heap.size]? = some (.cells (ptrA (fun i => .pointer (some ⟨(bk i).s, 0, none⟩)) k n) 28 (0, 0)) ∧ (∀ i, i < k → (bk i).At wr C B ∧ zB C (bk i) ∧ KFresh w2.heap.size B (bk i).L) ∧ (∀ i j, i < k → j < k → i ≠ j → ∀ m, m ≤ B → ¬ cellsOf B (bk i).L ((bk j).L m).c)) (fun u37 _ => n - (intOf u37).toNat)
  case atStart =>
    refine ⟨0, fun _ => ⟨0, 0, L, fun _ => []⟩, Nat.zero_le _, rfl, hw3, heap_at _ _ (by rw [size_alloc]), ?_, fun i hi => absurd hi (Nat.not_lt_zero i), fun i j hi => absurd hi (Nat.not_lt_zero i)⟩
    rw [heap_old _ _ (by rw [size_alloc]; omega)]
    have := heap_at w2 (.cells (ptrA (fun x => Value.pointer none) 0 n) 28) rfl
    rw [this]
    congr 2
  case round =>
    obtain ⟨k, bk, hkn, rfl, hE, hst, hrow, hbk, hsep⟩ := hrel
    by_cases hlt : k < n
    · have hQr := (HE2.out.trans' hE) |> fun _ => hE.keep HQ2.out
      have p0 := (cell_of hQr 0).trans rfl
      have p1 := (cell_of hQr 1).trans rfl
      have p2 := (cell_of hQr 2).trans rfl
      have p3 := (cell_of hQr 3).trans rfl
      have p4 := (cell_of hQr 4).trans rfl
      have pl := lt_of hQr
      have q1 := (cell_of hst 1).trans rfl
      have ql := lt_of hst
      have hb := lt_of hrow
      have hkz : (k : Int) < (n : Int) := by omega
      have HST := Lib.hid hst
      have HROW := Lib.hid hrow
      have HBK := Lib.hid hbk
      have HSEP := Lib.hid hsep
      clear hQr hst hrow hbk hsep
      go_wp2_with fail
      have hC0 := af_drew wr
      refine pi_start (fun w' => ∃ x : After wr, w' = x.w) [11] (by kernel_rfl) ?_
      refine pi_t 0 rfl (by kernel_rfl) (by kernel_rfl) (fun _ _ _ _ h => h) (fun K hK => ?_)
      go_big_quiet_op
      refine hK _ ?_
      clear hK K
      refine pi_t 1 rfl (by kernel_rfl) (by kernel_rfl) (fun _ _ _ _ h => h) (fun K hK => ?_)
      go_big_quiet_op
      refine hK _ ?_
      clear hK K
      refine pi_t 2 rfl (by kernel_rfl) (by kernel_rfl) (fun _ _ _ _ h => h) (fun K hK => ?_)
      go_big_quiet_op
      refine hK _ ?_
      clear hK K
      refine pi_t 4 rfl (by kernel_rfl) (by kernel_rfl) (fun _ _ _ _ h => h) (fun K hK => ?_)
      go_big_quiet_op
      refine hK _ ?_
      clear hK K
      refine pi_c 3 (by assumption) rfl (by kernel_rfl) (by kernel_rfl) (fun _ _ _ _ h => h) (fun K hK => ?_)
      go_big_quiet_op
      refine hK _ ?_
      clear hK K
      refine pi_c 5 (by assumption) rfl (by kernel_rfl) (by kernel_rfl) (fun _ _ _ _ h => h) (fun K hK => ?_)
      go_big_quiet_op
      refine hK _ ?_
      clear hK K
      refine pi_l 6 rfl (by kernel_rfl) (fun K hK => ?_)
      go_wp2_with (go_at_call 16; refine Calls.mono (KNew_c C HOK.out _) ?_; rintro e wt ⟨s2, g2, L2, rfl, hK2, _, _, hF2, hxt⟩)
      have hEt : Ext wr wt := Ext.trans' (Below.drew (Ext.refl wr)) hxt
      refine hK _ _ (fun _ h => ⟨⟨wt, hEt⟩, rfl⟩) ?_
      clear hK K
      rw [HBT.out] at hK2 hF2
      have HK2 := Lib.hid hK2
      have hF2' : KFresh wr.heap.size B L2 := hF2
      have HF2 := Lib.hid hF2'
      have hrt := hEt.keep HROW.out
      have f1 := frozen_of hrt k
      have c1 := (cell_of hrt k).trans (ptrA_at _ k n k hlt)
      have lt1 := lt_of hrt
      have HRT := Lib.hid hrt
      clear hK2 hF2 hF2' hrt
      refine pi_t 7 rfl (by kernel_rfl) (by kernel_rfl) (fun _ _ _ _ h => h) (fun K hK => ?_)
      go_big_quiet_op
      refine hK _ ?_
      clear hK K
      refine pi_t 8 rfl (by kernel_rfl) (by kernel_rfl) (fun _ _ _ _ h => h) (fun K hK => ?_)
      go_big_quiet_op
      refine hK _ ?_
      clear hK K
      refine pi_t 9 rfl (by kernel_rfl) (by kernel_rfl) (fun _ _ _ _ h => h) (fun K hK => ?_)
      go_big_quiet_op
      refine hK _ ?_
      clear hK K
      refine pi_t 10 rfl (by kernel_rfl) (by kernel_rfl) (fun _ _ _ _ h => h) (fun K hK => ?_)
      go_big_quiet_op
      refine hK _ ?_
      clear hK K
      refine pi_l 11 rfl (by kernel_rfl) (fun K hK => ?_)
      go_wp2
      refine hK _ _ (by simp) ?_
      clear hK K
      refine pi_end (by kernel_rfl) ?_
      go_wp2_with fail
      have hsz := hE.size
      have hszt := hEt.size
      have ho : ∀ q, q < wt.heap.size → q ≠ w2.heap.size → (wt.setCell ⟨w2.heap.size, k, none⟩ (.pointer (some ⟨s2, 0, none⟩))).heap[q]? = wt.heap[q]? := fun q _ hq => setCell_other _ _ hq
      have hfin : Ext w2 (wt.setCell ⟨w2.heap.size, k, none⟩ (.pointer (some ⟨s2, 0, none⟩))) := ((hE.trans' hEt).setR (p := ⟨w2.heap.size, k, none⟩) (Nat.le_refl _) _)
      have hK2' : Bk.At ⟨s2, g2, L2, fun n => zs (lvN C n)⟩ (wt.setCell ⟨w2.heap.size, k, none⟩ (.pointer (some ⟨s2, 0, none⟩))) C B := KAt.setW HK2.out HRT.out (.inr rfl) ho
      have hrowf : (wt.setCell ⟨w2.heap.size, k, none⟩ (.pointer (some ⟨s2, 0, none⟩))).heap[w2.heap.size]? = some (.cells ((ptrA (fun i => .pointer (some ⟨(bk i).s, 0, none⟩)) k n).setIfInBounds k (.pointer (some ⟨s2, 0, none⟩))) 28 (0, 0)) := setCell_same HRT.out k _
      have hstf : (wt.setCell ⟨w2.heap.size, k, none⟩ (.pointer (some ⟨s2, 0, none⟩))).heap[w2.heap.size + 1]? = some (.cells #[.pointer (some ⟨s, 0, none⟩), .slice (some ⟨w2.heap.size, 0, none⟩) n n] 201 (0, 0)) := (setCell_other _ _ (by omega)).trans (hEt.keep HST.out)
      go_roundw
      case rel =>
        refine ⟨k + 1, setB bk k ⟨s2, g2, L2, fun n => zs (lvN C n)⟩, by omega, by go_num, hfin, hstf, ?_, fun i hi => ?_, fun i j hi hj hij m hm => ?_⟩
        · rw [hrowf]
          have := ptrA_set (fun i => .pointer (some ⟨(bk i).s, 0, none⟩)) (fun i => .pointer (some ⟨(setB bk k ⟨s2, g2, L2, fun n => zs (lvN C n)⟩ i).s, 0, none⟩)) k n (fun i hi => by show Value.pointer _ = _; rw [setB_ne _ _ (by omega)])
          rw [← this]
          rw [setB_same]
        · by_cases he : i = k
          · subst he
            rw [setB_same]
            exact ⟨hK2', rfl, fun m hm => ⟨Nat.le_trans hsz (HF2.out m hm).1, Nat.le_trans hsz (HF2.out m hm).2.1, Nat.le_trans hsz (HF2.out m hm).2.2⟩⟩
          · rw [setB_ne _ _ he]
            obtain ⟨a1, a2, a3⟩ := HBK.out i (by omega)
            exact ⟨KAt.setW (KAt.ext a1 hEt) HRT.out (.inr rfl) ho, a2, a3⟩
        · by_cases he : i = k
          · by_cases he2 : j = k
            · omega
            · rw [he, setB_same, setB_ne _ _ he2]
              rintro ⟨q, hq, e⟩
              have a1 := ((KAt.lev (HBK.out j (by omega)).1) m hm).ltc
              have a2 := (HF2.out q hq).2.2
              have e' : ((bk j).L m).c = (L2 q).c := e
              omega
          · rw [setB_ne _ _ he]
            by_cases he2 : j = k
            · rw [he2, setB_same]
              rintro ⟨q, hq, e⟩
              have a1 := ((KAt.lev (HBK.out i (by omega)).1) q hq).ltc
              have a2 := (HF2.out m hm).2.2
              have e' : (L2 m).c = ((bk i).L q).c := e
              omega
            · rw [setB_ne _ _ he2]
              exact HSEP.out i j (by omega) (by omega) hij m hm
      case measure => simp [intOf]; omega
    · have hke : k = n := by omega
      subst hke
      have hz2 := HE2.out.size
      have hsum : Bk.At ⟨s, g, L, fun n => zs (lvN C n)⟩ wr C B := KAt.ext HK.out hE
      have hWin : WAt wr w.heap.size (w2.heap.size + 1) w2.heap.size C B k ⟨s, g, L, fun n => zs (lvN C n)⟩ bk := by
        refine ⟨⟨k, hst, rfl⟩, ⟨_, hrow, fun i hi => by rw [ptrA_at _ _ _ _ hi, if_pos hi]⟩, hsum, fun i hi => (hbk i hi).1, fun i hi m hm => ?_, hsep, h1, h2, HMD.out, by omega, hz2, fun i hi m hm => ?_⟩
        · rintro ⟨q, hq, e⟩
          have a1 := ((hbk i hi).2.2 q hq).2.2
          have a2 := ((KAt.lev HK.out) m hm).ltc
          have e' : (L m).c = ((bk i).L q).c := e
          omega
        · have a1 := ((hbk i hi).2.2 m hm).2.2
          omega
      have HWN := Lib.hid hWin
      have HZ := Lib.hid (fun i (hi : i < k) => (hbk i hi).2.1)
      have hfin := HE2.out.trans' hE
      clear hst hrow hbk hsep hsum hWin
      go_wp2_with fail
      go_ret2
      exact ⟨_, _, _, bk, rfl, HWN.out, rfl, HZ.out, hfin⟩
end Go.Proofs.YtfhdjekpdifajaaGreat
namespace Go.Proofs.YtfhdjekpdifajaaGreat
set_option linter.unusedVariables false
open Go.RowKit
set_option maxRecDepth 20000 in
theorem WNew_arg (C : Cfg) (hok : C.Ok) (n : Int) (hn : n < 1 ∨ 16 < n) (w : World) :
    Calls Tryz.prog 50 #[.agg #[.int .i64 C.bits, .int .i64 C.rows, .int .i64 C.width, .int .i64 C.mode, .int .u64 C.seed], .int .i64 n] w fun e w' => e = .returned (.tuple #[.pointer none, .int .i64 1]) ∧ Ext w w' := by
  have HOK := Lib.hid hok
  rcases hn with hn | hn
  · have hn1 : decide (n < 1) = true := decide_eq_true hn
    go_enter Tryz.func50, Tryz.ntmps50
    go_wp2_with fail
    refine Calls.mono (Right_c C HOK.out _) ?_
    rintro e w1 ⟨rfl, hb1⟩
    have hE1 : Ext w w1 := by (repeat' (first | exact Ext.refl _ | assumption | apply Ext.allocR | apply Ext.drewR | apply Ext.drewNR | (refine Ext.trans' ?_ (by assumption))))
    clear hb1
    go_wp2
    go_ret2
    exact ⟨rfl, hE1⟩
  · have hn1 : decide (n < 1) = false := decide_eq_false (by omega)
    have hn0 : ¬ n < 1 := by omega
    have hn2 : decide (16 < n) = true := decide_eq_true hn
    go_enter Tryz.func50, Tryz.ntmps50
    go_wp2_with fail
    refine Calls.mono (Right_c C HOK.out _) ?_
    rintro e w1 ⟨rfl, hb1⟩
    have hE1 : Ext w w1 := by (repeat' (first | exact Ext.refl _ | assumption | apply Ext.allocR | apply Ext.drewR | apply Ext.drewNR | (refine Ext.trans' ?_ (by assumption))))
    clear hb1
    go_wp2
    go_ret2
    exact ⟨rfl, hE1⟩
end Go.Proofs.YtfhdjekpdifajaaGreat
namespace Go.Proofs.YtfhdjekpdifajaaGreat
set_option linter.unusedVariables false
open Go.RowKit
def WCopyPost (w : World) (C : Cfg) (B n : Nat) (sm : Bk) (bk : Nat → Bk) (e : Ending) (w' : World) : Prop :=
  ∃ p b sm2 bk2, e = .returned (.pointer (some ⟨p, 0, none⟩)) ∧ WAt w' w.heap.size p b C B n sm2 bk2 ∧ sm2.ls = sm.ls ∧ (∀ i, i < n → (bk2 i).ls = (bk i).ls) ∧ (∀ m, m ≤ B → w.heap.size ≤ (sm2.L m).c) ∧ Ext w w'
set_option maxRecDepth 20000 in
set_option maxHeartbeats 8000000 in
theorem WCopy_c {N p b : Nat} {C : Cfg} {B n : Nat} {sm : Bk} {bk : Nat → Bk} {w : World} (h : WAt w N p b C B n sm bk) :
    Calls Tryz.prog 55 #[.pointer (some ⟨p, 0, none⟩)] w (WCopyPost w C B n sm bk) := by
  have HW := Lib.hid h
  obtain ⟨ii, hi, hz0, hz1, hz2⟩ := info_ptr
  have h1 := h.n1
  have h2 := h.n2
  have hmk := fun (x : World) => run_make_ptrs 199 28 ii Tryz.underlying199 hi hz0 hz1 hz2 n (by omega) (fun _ => .pointer none) x
  obtain ⟨cap, hst, hcap⟩ := h.st
  rw [hcap] at hst
  have p0 := (cell_of hst 0).trans rfl
  have p1 := (cell_of hst 1).trans rfl
  have pl := lt_of hst
  have HC := Lib.hid (fun W (hE : Ext w W) => KCopy_c sm.s sm.g C B sm.L sm.ls W (KAt.ext h.sum hE))
  have HST := Lib.hid hst
  clear h hi hz0 hz1 hz2 hst
  go_enter Tryz.func55, Tryz.ntmps55
  go_wp2_with fail
  go_cut [3] (fun s3 wx => ∃ (q bb s g : Nat) (L : Nat → Lev), s3 = .pointer (some ⟨q, 0, none⟩) ∧ wx.heap[q]? = some (.cells #[.pointer (some ⟨s, 0, none⟩), .slice (some ⟨bb, 0, none⟩) n n] 201 (0, 0)) ∧ wx.heap[bb]? = some (.cells (ptrA (fun _ => .pointer none) 0 n) 28 (0, 0)) ∧ KAt wx s g C B L sm.ls ∧ KFresh w.heap.size B L ∧ Ext w wx ∧ w.heap.size ≤ q ∧ w.heap.size ≤ bb)
  case first =>
    have hC0 := af_drew w
    refine pi_start (fun w' => ∃ x : After w, w' = x.w) [] (by kernel_rfl) ?_
    refine pi_t 0 rfl (by kernel_rfl) (by kernel_rfl) (fun _ _ _ _ h => h) (fun K hK => ?_)
    go_big_quiet_op
    refine hK _ ?_
    clear hK K
    refine pi_t 1 rfl (by kernel_rfl) (by kernel_rfl) (fun _ _ _ _ h => h) (fun K hK => ?_)
    go_big_quiet_op
    refine hK _ ?_
    clear hK K
    refine pi_t 2 rfl (by kernel_rfl) (by kernel_rfl) (fun _ _ _ _ h => h) (fun K hK => ?_)
    go_big_quiet_op
    refine hK _ ?_
    clear hK K
    refine pi_t 5 rfl (by kernel_rfl) (by kernel_rfl) (fun _ _ _ _ h => h) (fun K hK => ?_)
    go_big_quiet_op
    refine hK _ ?_
    clear hK K
    refine pi_t 6 rfl (by kernel_rfl) (by kernel_rfl) (fun _ _ _ _ h => h) (fun K hK => ?_)
    go_big_quiet_op
    refine hK _ ?_
    clear hK K
    refine pi_t 7 rfl (by kernel_rfl) (by kernel_rfl) (fun _ _ _ _ h => h) (fun K hK => ?_)
    go_big_quiet_op
    refine hK _ ?_
    clear hK K
    refine pi_c 3 (by assumption) rfl (by kernel_rfl) (by kernel_rfl) (fun _ _ _ _ h => h) (fun K hK => ?_)
    go_big_quiet_op
    refine hK _ ?_
    clear hK K
    refine pi_c 8 (by assumption) rfl (by kernel_rfl) (by kernel_rfl) (fun _ _ _ _ h => h) (fun K hK => ?_)
    go_big_quiet_op
    refine hK _ ?_
    clear hK K
    refine pi_t 9 rfl (by kernel_rfl) (by kernel_rfl) (fun _ _ _ _ h => h) (fun K hK => ?_)
    go_big_quiet_op
    refine hK _ ?_
    clear hK K
    refine pi_b 4 10 rfl rfl (by kernel_rfl) (fun K hK => ?_) (fun K hK => ?_)
    · go_wp2_with (go_at_call 20; refine Calls.mono (HC.out _ (Below.drew (Ext.refl w))) ?_; rintro e wt ⟨s, g, L, rfl, hK2, _, _, hF2, hxt⟩)
      have hEt : Ext w wt := Ext.trans' (Below.drew (Ext.refl w)) hxt
      refine hK _ _ (fun _ h => af_step h hxt) ?_
      clear hK K
      have HK2 := Lib.hid hK2
      have hF3 : KFresh w.heap.size B L := hF2
      have HF3 := Lib.hid hF3
      clear hK2 hF2 hF3
      refine pi_l 10 rfl (by kernel_rfl) (fun K hK => ?_)
      go_wp2
      refine hK _ _ (fun _ h => af_step h (Ext.alloc' _ _)) ?_
      clear hK K
      refine pi_t 11 rfl (by kernel_rfl) (by kernel_rfl) (fun _ _ _ _ h => h) (fun K hK => ?_)
      go_big_quiet_op
      refine hK _ ?_
      clear hK K
      refine pi_l 12 rfl (by kernel_rfl) (fun K hK => ?_)
      go_wp2
      refine hK _ _ (fun _ h => af_step h (Ext.alloc' _ _)) ?_
      clear hK K
      refine pi_t 13 rfl (by kernel_rfl) (by kernel_rfl) (fun _ _ _ _ h => h) (fun K hK => ?_)
      go_big_quiet_op
      refine hK _ ?_
      clear hK K
      refine pi_end (by kernel_rfl) ?_
      go_wp2_with fail
      go_meet
      have hsz := hEt.size
      refine ⟨_, _, s, g, L, rfl, heap_at _ _ (size_alloc _ _).symm, ?_, (HK2.out.ext (Ext.alloc' _ _)).ext (Ext.alloc' _ _), HF3.out, (hEt.allocR _).allocR _, ?_, hsz⟩
      · rw [heap_old _ _ (by rw [size_alloc]; omega)]
        exact heap_at _ _ rfl
      · omega
    · go_wp2
      refine hK _ _ (fun _ h => af_step h (Ext.alloc' _ _)) ?_
      clear hK K
      have hEa : Ext w (w.drew.alloc (.cells (ptrA (fun x => Value.pointer none) 0 n) 28)) := ((Ext.refl w).drewR).allocR _
      have hba : (w.drew.alloc (.cells (ptrA (fun x => Value.pointer none) 0 n) 28)).heap[w.heap.size]? = some (.cells (ptrA (fun x => Value.pointer none) 0 n) 28 (0, 0)) := heap_at _ _ rfl
      refine pi_l 4 rfl (by kernel_rfl) (fun K hK => ?_)
      go_wp2_with (go_at_call 20; refine Calls.mono (HC.out _ hEa) ?_; rintro e wt ⟨s, g, L, rfl, hK2, _, _, hF2, hxt⟩)
      have hEt : Ext w wt := hEa.trans' hxt
      refine hK _ _ (fun _ h => af_step h hxt) ?_
      clear hK K
      have HK2 := Lib.hid hK2
      have hF3 : KFresh w.heap.size B L := fun m hm => ⟨Nat.le_trans hEa.size (hF2 m hm).1, Nat.le_trans hEa.size (hF2 m hm).2.1, Nat.le_trans hEa.size (hF2 m hm).2.2⟩
      have HF3 := Lib.hid hF3
      have HBA := Lib.hid (hxt.keep hba)
      clear hK2 hF2 hF3 hba hEa
      refine pi_t 11 rfl (by kernel_rfl) (by kernel_rfl) (fun _ _ _ _ h => h) (fun K hK => ?_)
      go_big_quiet_op
      refine hK _ ?_
      clear hK K
      refine pi_l 12 rfl (by kernel_rfl) (fun K hK => ?_)
      go_wp2
      refine hK _ _ (fun _ h => af_step h (Ext.alloc' _ _)) ?_
      clear hK K
      refine pi_t 13 rfl (by kernel_rfl) (by kernel_rfl) (fun _ _ _ _ h => h) (fun K hK => ?_)
      go_big_quiet_op
      refine hK _ ?_
      clear hK K
      refine pi_end (by kernel_rfl) ?_
      go_wp2_with fail
      go_meet
      have hsz := hEt.size
      refine ⟨_, _, s, g, L, rfl, heap_at _ _ rfl, ?_, HK2.out.ext (Ext.alloc' _ _), HF3.out, hEt.allocR _, hsz, Nat.le_refl _⟩
      exact (Ext.alloc' _ _).keep HBA.out
  case rest =>
    obtain ⟨q, bb, s, g, L, rfl, hq, hbb, hK, hF, hx, hqw, hbw⟩ := hcut
    rename World => w2
    clear hmk p0 p1 pl
    have HK := Lib.hid hK
    have HF := Lib.hid hF
    have HSZ := Lib.hid hx.size
    have HX := Lib.hid hx
    have hp2 := hx.keep HST.out
    have p0 := (cell_of hp2 0).trans rfl
    have p1 := (cell_of hp2 1).trans rfl
    have pl := lt_of hp2
    obtain ⟨curB, hrowB, hcurB⟩ := HW.out.row
    have HRB := Lib.hid hrowB
    have HCB := Lib.hid hcurB
    have hqb : q ≠ bb := blk_ne hq hbb (by decide)
    clear hK hF hp2 hrowB hcurB
    go_wp2_with fail
    clear p0 p1 pl
    go_loopw [24] (fun u24 wr => ∃ (k : Nat) (bk2 : Nat → Bk), k ≤ n ∧ u24 = .int .i64 k ∧ Ext w wr ∧ KAt wr s g C B L sm.ls ∧ wr.heap[q]? = some (.cells #[.pointer (some ⟨s, 0, none⟩), .slice (some ⟨bb, 0, none⟩) n n] 201 (0, 0)) ∧ wr.heap[bb]? = some (.cells (ptrA (fun i => .pointer (some ⟨(bk2 i).s, 0, none⟩)) k n) 28 (0, 0)) ∧ (∀ i, i < k → (bk2 i).At wr C B ∧ (bk2 i).ls = (bk i).ls ∧ KFresh w2.heap.size B (bk2 i).L) ∧ (∀ i j, i < k → j < k → i ≠ j → ∀ m, m ≤ B → ¬ cellsOf B (bk2 i).L ((bk2 j).L m).c) ∧ w2.heap.size ≤ wr.heap.size) (fun u24 _ => n - (intOf u24).toNat)
    case atStart =>
      refine ⟨0, fun _ => ⟨0, 0, L, fun _ => []⟩, Nat.zero_le _, rfl, HX.out, HK.out, hq, ?_, fun i hi => absurd hi (Nat.not_lt_zero i), fun i j hi => absurd hi (Nat.not_lt_zero i), Nat.le_refl _⟩
      rw [hbb]
      congr 2
    case round =>
      clear hq hbb hx HX
      obtain ⟨k, bk2, hkn, rfl, hE, hKs, hst, hrow, hbk, hsep, hsz2⟩ := hrel
      have HKs := Lib.hid hKs
      clear hKs
      by_cases hlt : k < n
      · have hrB := hE.keep HRB.out
        have r0 := (cell_of hrB k).trans (HCB.out k hlt)
        have rl := lt_of hrB
        have q1 := (cell_of hst 1).trans rfl
        have ql := lt_of hst
        have hb := lt_of hrow
        have hkz : (k : Int) < (n : Int) := by omega
        have HST2 := Lib.hid hst
        have HROW := Lib.hid hrow
        have HBK := Lib.hid hbk
        have HSEP := Lib.hid hsep
        have HKC := Lib.hid (fun W (hW : Ext wr W) => KCopy_c (bk k).s (bk k).g C B (bk k).L (bk k).ls W (KAt.ext (KAt.ext (HW.out.bks k hlt) hE) hW))
        clear hrB hst hrow hbk hsep
        go_wp2_with fail
        have hC0 := af_drew wr
        refine pi_start (fun w' => ∃ x : After wr, w' = x.w) [8] (by kernel_rfl) ?_
        refine pi_t 0 rfl (by kernel_rfl) (by kernel_rfl) (fun _ _ _ _ h => h) (fun K hK => ?_)
        go_big_quiet_op
        refine hK _ ?_
        clear hK K
        refine pi_t 1 rfl (by kernel_rfl) (by kernel_rfl) (fun _ _ _ _ h => h) (fun K hK => ?_)
        go_big_quiet_op
        refine hK _ ?_
        clear hK K
        refine pi_t 2 rfl (by kernel_rfl) (by kernel_rfl) (fun _ _ _ _ h => h) (fun K hK => ?_)
        go_big_quiet_op
        refine hK _ ?_
        clear hK K
        refine pi_t 4 rfl (by kernel_rfl) (by kernel_rfl) (fun _ _ _ _ h => h) (fun K hK => ?_)
        go_big_quiet_op
        refine hK _ ?_
        clear hK K
        refine pi_t 5 rfl (by kernel_rfl) (by kernel_rfl) (fun _ _ _ _ h => h) (fun K hK => ?_)
        go_big_quiet_op
        refine hK _ ?_
        clear hK K
        refine pi_c 3 (by assumption) rfl (by kernel_rfl) (by kernel_rfl) (fun _ _ _ _ h => h) (fun K hK => ?_)
        go_big_quiet_op
        refine hK _ ?_
        clear hK K
        refine pi_l 6 rfl (by kernel_rfl) (fun K hK => ?_)
        go_wp2_with (go_at_call 20; refine Calls.mono (HKC.out _ (Below.drew (Ext.refl wr))) ?_; rintro e wt ⟨s2, g2, L2, rfl, hK2, _, _, hF2, hxt⟩)
        have hEt : Ext wr wt := Ext.trans' (Below.drew (Ext.refl wr)) hxt
        refine hK _ _ (fun _ h => ⟨⟨wt, hEt⟩, rfl⟩) ?_
        clear hK K
        have HK2 := Lib.hid hK2
        have hF2' : KFresh wr.heap.size B L2 := hF2
        have HF2 := Lib.hid hF2'
        have hrt := hEt.keep HROW.out
        have f1 := frozen_of hrt k
        have c1 := (cell_of hrt k).trans (ptrA_at _ k n k hlt)
        have lt1 := lt_of hrt
        have HRT := Lib.hid hrt
        clear hK2 hF2 hF2' hrt
        refine pi_t 7 rfl (by kernel_rfl) (by kernel_rfl) (fun _ _ _ _ h => h) (fun K hK => ?_)
        go_big_quiet_op
        refine hK _ ?_
        clear hK K
        refine pi_l 8 rfl (by kernel_rfl) (fun K hK => ?_)
        go_wp2
        refine hK _ _ (by simp) ?_
        clear hK K
        refine pi_end (by kernel_rfl) ?_
        go_wp2_with fail
        have hsz := hE.size
        have hszt := hEt.size
        have ho : ∀ z, z < wt.heap.size → z ≠ bb → (wt.setCell ⟨bb, k, none⟩ (.pointer (some ⟨s2, 0, none⟩))).heap[z]? = wt.heap[z]? := fun z _ hz => setCell_other _ _ hz
        have hfin : Ext w (wt.setCell ⟨bb, k, none⟩ (.pointer (some ⟨s2, 0, none⟩))) := ((hE.trans' hEt).setR (p := ⟨bb, k, none⟩) hbw _)
        have hK2' : Bk.At ⟨s2, g2, L2, (bk k).ls⟩ (wt.setCell ⟨bb, k, none⟩ (.pointer (some ⟨s2, 0, none⟩))) C B := KAt.setW HK2.out HRT.out (.inr rfl) ho
        have hKs' := KAt.setW (HKs.out.ext hEt) HRT.out (.inr rfl) ho
        have hrowf : (wt.setCell ⟨bb, k, none⟩ (.pointer (some ⟨s2, 0, none⟩))).heap[bb]? = some (.cells ((ptrA (fun i => .pointer (some ⟨(bk2 i).s, 0, none⟩)) k n).setIfInBounds k (.pointer (some ⟨s2, 0, none⟩))) 28 (0, 0)) := setCell_same HRT.out k _
        have hstf : (wt.setCell ⟨bb, k, none⟩ (.pointer (some ⟨s2, 0, none⟩))).heap[q]? = some (.cells #[.pointer (some ⟨s, 0, none⟩), .slice (some ⟨bb, 0, none⟩) n n] 201 (0, 0)) := (setCell_other _ _ hqb).trans (hEt.keep HST2.out)
        go_roundw
        case rel =>
          refine ⟨k + 1, setB bk2 k ⟨s2, g2, L2, (bk k).ls⟩, by omega, by go_num, hfin, hKs', hstf, ?_, fun i hi => ?_, fun i j hi hj hij m hm => ?_, by rw [size_setCell]; omega⟩
          · rw [hrowf]
            have := ptrA_set (fun i => .pointer (some ⟨(bk2 i).s, 0, none⟩)) (fun i => .pointer (some ⟨(setB bk2 k ⟨s2, g2, L2, (bk k).ls⟩ i).s, 0, none⟩)) k n (fun i hi => by show Value.pointer _ = _; rw [setB_ne _ _ (by omega)])
            rw [← this]
            rw [setB_same]
          · by_cases he : i = k
            · subst he
              rw [setB_same]
              exact ⟨hK2', rfl, fun m hm => ⟨Nat.le_trans hsz2 (HF2.out m hm).1, Nat.le_trans hsz2 (HF2.out m hm).2.1, Nat.le_trans hsz2 (HF2.out m hm).2.2⟩⟩
            · rw [setB_ne _ _ he]
              obtain ⟨a1, a2, a3⟩ := HBK.out i (by omega)
              exact ⟨KAt.setW (KAt.ext a1 hEt) HRT.out (.inr rfl) ho, a2, a3⟩
          · by_cases he : i = k
            · by_cases he2 : j = k
              · omega
              · rw [he, setB_same, setB_ne _ _ he2]
                rintro ⟨z, hz, e⟩
                have a1 := ((KAt.lev (HBK.out j (by omega)).1) m hm).ltc
                have a2 := (HF2.out z hz).2.2
                have e' : ((bk2 j).L m).c = (L2 z).c := e
                omega
            · rw [setB_ne _ _ he]
              by_cases he2 : j = k
              · rw [he2, setB_same]
                rintro ⟨z, hz, e⟩
                have a1 := ((KAt.lev (HBK.out i (by omega)).1) z hz).ltc
                have a2 := (HF2.out m hm).2.2
                have e' : (L2 m).c = ((bk2 i).L z).c := e
                omega
              · rw [setB_ne _ _ he2]
                exact HSEP.out i j (by omega) (by omega) hij m hm
        case measure => simp [intOf]; omega
      · have hke : k = n := by omega
        subst hke
        have hsum : Bk.At ⟨s, g, L, sm.ls⟩ wr C B := HKs.out
        have hWin : WAt wr w.heap.size q bb C B k ⟨s, g, L, sm.ls⟩ bk2 := by
          refine ⟨⟨k, hst, rfl⟩, ⟨_, hrow, fun i hi => by rw [ptrA_at _ _ _ _ hi, if_pos hi]⟩, hsum, fun i hi => (hbk i hi).1, fun i hi m hm => ?_, hsep, h1, h2, HW.out.md, hqw, hbw, fun i hi m hm => ?_⟩
          · rintro ⟨z, hz, e⟩
            have a1 := ((hbk i hi).2.2 z hz).2.2
            have a2 := ((KAt.lev HK.out) m hm).ltc
            have e' : (L m).c = ((bk2 i).L z).c := e
            omega
          · have a1 := ((hbk i hi).2.2 m hm).2.2
            have a2 := HSZ.out
            omega
        have HWN := Lib.hid hWin
        have HZ := Lib.hid (fun i (hi : i < k) => (hbk i hi).2.1)
        have HFF := Lib.hid (fun m (hm : m ≤ B) => (HF.out m hm).2.2)
        clear hst hrow hbk hsep hsum hWin
        go_wp2_with fail
        go_ret
        exact ⟨_, _, _, bk2, rfl, HWN.out, rfl, HZ.out, HFF.out, hE⟩
end Go.Proofs.YtfhdjekpdifajaaGreat
namespace Go.Proofs.YtfhdjekpdifajaaGreat
set_option linter.unusedVariables false
open Go.RowKit
theorem RLvAt.offP {w : World} {L : RLev} {C : Cfg} {lv : Int} {l : List Int} (h : RLvAt w L C lv l) {k : Nat} (hk : L.foot C lv k) {cur : Array Value} {T : TypeId} {f : Nat × Nat} (hb : w.heap[k]? = some (.cells cur T f)) : T ≠ 201 ∧ T ≠ 28 := by
  have key : ∀ (c2 : Array Value) (T2 : TypeId) (f2 : Nat × Nat), w.heap[k]? = some (.cells c2 T2 f2) → T2 ≠ 201 → T2 ≠ 28 → T ≠ 201 ∧ T ≠ 28 := fun c2 T2 f2 h2 n1 n2 => by
    rw [hb] at h2
    injection h2 with h2
    injection h2 with _ h2 _
    rw [h2]; exact ⟨n1, n2⟩
  rcases hk with rfl | ⟨hx, hk⟩ | ⟨hx, hk⟩
  · obtain ⟨_, _, _, ⟨_, h1, _⟩ | ⟨_, h1, _⟩⟩ := h <;> exact key _ _ _ h1 (by decide) (by decide)
  · obtain ⟨_, h2⟩ := h.x hx
    rcases hk with rfl | rfl
    · obtain ⟨cap, h3, _⟩ := h2.ex; exact key _ _ _ h3 (by decide) (by decide)
    · obtain ⟨cu, h3, _⟩ := h2.cells; exact key _ _ _ h3 (by decide) (by decide)
  · obtain ⟨_, h2⟩ := h.sk hx
    rcases hk with rfl | (rfl | rfl | ⟨r, hr, rfl⟩)
    · exact key _ _ _ h2.ex (by decide) (by decide)
    · obtain ⟨cap, h3, _⟩ := h2.g.ex; exact key _ _ _ h3 (by decide) (by decide)
    · obtain ⟨cap, h3, _⟩ := h2.g.row; exact key _ _ _ h3 (by decide) (by decide)
    · obtain ⟨cap, h3, _⟩ := h2.g.cells r hr; exact key _ _ _ h3 (by decide) (by decide)
/-- Nor one of the program's. -/
theorem RBk.At.offP {x : RBk} {w : World} {C : Cfg} {B : Nat} (h : x.At w C B) {k : Nat} {cur : Array Value} {T : TypeId} {f : Nat × Nat} (hb : w.heap[k]? = some (.cells cur T f)) (hT : T = 201 ∨ T = 28) : ¬ x.F C B k := by
  have key : ∀ (c2 : Array Value) (T2 : TypeId) (f2 : Nat × Nat), w.heap[k]? = some (.cells c2 T2 f2) → T2 ≠ 201 → T2 ≠ 28 → False := fun c2 T2 f2 h2 n1 n2 => by
    rw [hb] at h2
    injection h2 with h2
    injection h2 with _ h2 _
    rcases hT with rfl | rfl
    · exact n1 h2.symm
    · exact n2 h2.symm
  rintro (rfl | rfl | ⟨n, hn, hk⟩)
  · obtain ⟨cap, h1, _⟩ := RKAt.ex h; exact key _ _ _ h1 (by decide) (by decide)
  · obtain ⟨cur, h1, _⟩ := RKAt.row h; exact key _ _ _ h1 (by decide) (by decide)
  · have := (RKAt.lev h n hn).offP hk hb
    rcases hT with rfl | rfl
    · exact this.1 rfl
    · exact this.2 rfl
def RT (T : TypeId) : Prop := T = 96 ∨ T = 32 ∨ T = 48
theorem LvAt.offR {w : World} {L : Lev} {C : Cfg} {lv : Int} {l : List Int} (h : LvAt w L C lv l) {q : Nat} {cur : Array Value} {T : TypeId} {f : Nat × Nat} (hq : w.heap[q]? = some (.cells cur T f)) (hT : RT T) : L.s ≠ q ∧ L.b ≠ q ∧ L.c ≠ q := by
  rcases h with ⟨_, h⟩ | ⟨_, h⟩ <;> (obtain ⟨cap, h1, h2⟩ := h.g.ex; obtain ⟨cur2, h3, _⟩ := h2.ex; rcases hT with rfl | rfl | rfl <;> exact ⟨blk_ne h.ex hq (by decide), blk_ne h1 hq (by decide), blk_ne h3 hq (by decide)⟩)
/-- What the references write to leaves a stack of the program. -/
theorem KAt.keepR {S : Nat → Prop} {w w' : World} {s g : Nat} {C : Cfg} {B : Nat} {L : Nat → Lev} {ls : Nat → List Int} (h : KAt w s g C B L ls) (hM : Mod S w w') (hS : ∀ k, S k → ∃ cur T f, w.heap[k]? = some (.cells cur T f) ∧ RT T) : KAt w' s g C B L ls := by
  obtain ⟨cap, h1, h2⟩ := h.ex
  obtain ⟨cur2, h3, h4⟩ := h.row
  refine ⟨⟨cap, hM.keep h1 (fun e => ?_), h2⟩, ⟨cur2, hM.keep h3 (fun e => ?_), h4⟩, fun n hn => ?_, h.sep, h.ok, h.hB⟩
  · obtain ⟨c2, T2, f2, h5, hT⟩ := hS _ e
    rcases hT with rfl | rfl | rfl <;> exact blk_ne h1 h5 (by decide) rfl
  · obtain ⟨c2, T2, f2, h5, hT⟩ := hS _ e
    rcases hT with rfl | rfl | rfl <;> exact blk_ne h3 h5 (by decide) rfl
  · refine (h.lev n hn).keep (hM.block _ (h.lev n hn).lts (fun e => ?_)) (hM.block _ (h.lev n hn).ltb (fun e => ?_)) (hM.block _ (h.lev n hn).ltc (fun e => ?_)) <;> obtain ⟨c2, T2, f2, h5, hT⟩ := hS _ e <;> have h6 := (h.lev n hn).offR h5 hT
    · exact h6.1 rfl
    · exact h6.2.1 rfl
    · exact h6.2.2 rfl
theorem WAt.keepR {S : Nat → Prop} {w w' : World} {N p b : Nat} {C : Cfg} {B n : Nat} {sm : Bk} {bk : Nat → Bk} (h : WAt w N p b C B n sm bk) (hM : Mod S w w') (hS : ∀ k, S k → ∃ cur T f, w.heap[k]? = some (.cells cur T f) ∧ RT T) : WAt w' N p b C B n sm bk := by
  obtain ⟨cap, h1, h2⟩ := h.st
  obtain ⟨cur, h3, h4⟩ := h.row
  refine ⟨⟨cap, hM.keep h1 (fun e => ?_), h2⟩, ⟨cur, hM.keep h3 (fun e => ?_), h4⟩, KAt.keepR h.sum hM hS, fun i hi => KAt.keepR (h.bks i hi) hM hS, h.sepS, h.sepB, h.n1, h.n2, h.md, h.loP, h.loB, h.loC⟩
  · obtain ⟨c2, T2, f2, h5, hT⟩ := hS _ e
    rcases hT with rfl | rfl | rfl <;> exact blk_ne h1 h5 (by decide) rfl
  · obtain ⟨c2, T2, f2, h5, hT⟩ := hS _ e
    rcases hT with rfl | rfl | rfl <;> exact blk_ne h3 h5 (by decide) rfl
theorem RWAt.mT {w : World} {r t : Nat} {C : Cfg} {B n i : Nat} {sm : RBk} {bk : Nat → RBk} (h : RWAt w r t C B n i sm bk) (k : Nat) (hk : rwM r t n sm bk k) : ∃ cur T f, w.heap[k]? = some (.cells cur T f) ∧ RT T := by
  rcases hk with rfl | rfl | rfl | ⟨j, hj, rfl⟩
  · obtain ⟨cap, h1, _⟩ := h.st; exact ⟨_, _, _, h1, .inl rfl⟩
  · obtain ⟨cur, h1, _⟩ := h.row; exact ⟨_, _, _, h1, .inr (.inl rfl)⟩
  · obtain ⟨cap, h1, _⟩ := RKAt.ex h.sum; exact ⟨_, _, _, h1, .inr (.inr rfl)⟩
  · obtain ⟨cap, h1, _⟩ := RKAt.ex (h.bks j hj); exact ⟨_, _, _, h1, .inr (.inr rfl)⟩
/-- The blocks of a window of the references are none of those that the program's changes. -/
theorem RWAt.offP {w : World} {r t : Nat} {C : Cfg} {B n i : Nat} {sm : RBk} {bk : Nat → RBk} (h : RWAt w r t C B n i sm bk) {q : Nat} {cur : Array Value} {T : TypeId} {f : Nat × Nat} (hq : w.heap[q]? = some (.cells cur T f)) (hT : T = 201 ∨ T = 28) : ¬ rwF r t C B n sm bk q := by
  rintro (rfl | rfl | hk | ⟨j, hj, hk⟩)
  · obtain ⟨cap, h1, _⟩ := h.st
    rcases hT with rfl | rfl <;> exact blk_ne h1 hq (by decide) rfl
  · obtain ⟨cu, h1, _⟩ := h.row
    rcases hT with rfl | rfl <;> exact blk_ne h1 hq (by decide) rfl
  · exact h.sum.offP hq hT hk
  · exact (h.bks j hj).offP hq hT hk
theorem WAt.lower {w : World} {N M p b : Nat} {C : Cfg} {B n : Nat} {sm : Bk} {bk : Nat → Bk} (h : WAt w M p b C B n sm bk) (hN : N ≤ M) : WAt w N p b C B n sm bk :=
  ⟨h.st, h.row, h.sum, h.bks, h.sepS, h.sepB, h.n1, h.n2, h.md, Nat.le_trans hN h.loP, Nat.le_trans hN h.loB, fun i hi m hm => Nat.le_trans hN (h.loC i hi m hm)⟩
/-- The blocks of its buckets' cells. -/
def bcF (B n : Nat) (bk : Nat → Bk) (k : Nat) : Prop := ∃ j, j < n ∧ cellsOf B (bk j).L k
theorem WAt.bclt {w : World} {N p b : Nat} {C : Cfg} {B n : Nat} {sm : Bk} {bk : Nat → Bk} (h : WAt w N p b C B n sm bk) {k : Nat} (hk : bcF B n bk k) : k < w.heap.size := by
  obtain ⟨j, hj, hk⟩ := hk; exact KAt.ltc (h.bks j hj) hk
theorem WAt.wlo {w : World} {N p b : Nat} {C : Cfg} {B n : Nat} {sm : Bk} {bk : Nat → Bk} (h : WAt w N p b C B n sm bk) {k : Nat} (hk : WFoot p b B n bk k) : N ≤ k := by
  rcases hk with rfl | rfl | ⟨j, hj, m, hm, rfl⟩
  · exact h.loP
  · exact h.loB
  · exact h.loC j hj m hm
/-- A window and one of the references, with what each has. -/
def WQ (N : Nat) (w : World) (C : Cfg) (B n p r : Nat) (sl : Nat → List Int) (bl : Nat → Nat → List Int) (i : Nat) (rs : Nat → List Int) (rb : Nat → Nat → List Int) : Prop :=
  ∃ b sm bk t rm rk, WAt w N p b C B n sm bk ∧ RWAt w r t C B n i rm rk ∧ sm.ls = sl ∧ (∀ j, j < n → (bk j).ls = bl j) ∧ rm.ls = rs ∧ (∀ j, j < n → (rk j).ls = rb j) ∧ Dj (bcF B n bk) (rwF r t C B n rm rk) ∧ (∀ k, rwF r t C B n rm rk k → N ≤ k) ∧ N ≤ w.heap.size
section
variable {N : Nat} {w w' : World} {C : Cfg} {B n p r i : Nat} {sl rs : Nat → List Int} {bl rb : Nat → Nat → List Int}
theorem WQ.ext (h : WQ N w C B n p r sl bl i rs rb) (he : Ext w w') : WQ N w' C B n p r sl bl i rs rb := by
  obtain ⟨b, sm, bk, t, rm, rk, h1, h2, h3, h4, h5, h6, h7, h8, h9⟩ := h
  exact ⟨b, sm, bk, t, rm, rk, h1.ext he, h2.ext he, h3, h4, h5, h6, h7, h8, Nat.le_trans h9 he.size⟩
theorem WQ.cong (h : WQ N w C B n p r sl bl i rs rb) {bl' rb' : Nat → Nat → List Int} (h1 : ∀ j, j < n → bl j = bl' j) (h2 : ∀ j, j < n → rb j = rb' j) : WQ N w C B n p r sl bl' i rs rb' := by
  obtain ⟨b, sm, bk, t, rm, rk, a1, a2, a3, a4, a5, a6, a7, a8, a9⟩ := h
  exact ⟨b, sm, bk, t, rm, rk, a1, a2, a3, fun j hj => (a4 j hj).trans (h1 j hj), a5, fun j hj => (a6 j hj).trans (h2 j hj), a7, a8, a9⟩
/-- The program's window has been changed. -/
theorem WQ.stepP {b : Nat} {sm : Bk} {bk : Nat → Bk} {t : Nat} {rm : RBk} {rk : Nat → RBk} (h1 : WAt w N p b C B n sm bk) (h2 : RWAt w r t C B n i rm rk) (h7 : Dj (bcF B n bk) (rwF r t C B n rm rk)) (h9 : N ≤ w.heap.size) (hM : Mod (WFoot p b B n bk) w w') : RWAt w' r t C B n i rm rk ∧ Below N w w' := by
  refine ⟨h2.keep (fun k hk => hM.block k (h2.lt hk) ?_), hM.below h9 (fun k hk => h1.wlo hk)⟩
  rintro (rfl | rfl | ⟨j, hj, hc⟩)
  · obtain ⟨cap, g1, _⟩ := h1.st; exact h2.offP g1 (.inl rfl) hk
  · obtain ⟨cu, g1, _⟩ := h1.row; exact h2.offP g1 (.inr rfl) hk
  · exact h7 k ⟨j, hj, hc⟩ hk
def wE (C : Cfg) (B c : Nat) (sl : Nat → List Int) (bl : Nat → Nat → List Int) (key d : Int) : Int := if errK C B sl key d = 0 then errK C B (bl c) key d else errK C B sl key d
def wS (C : Cfg) (B c : Nat) (sl : Nat → List Int) (bl : Nat → Nat → List Int) (key d : Int) : Nat → List Int := if wE C B c sl bl key d = 0 then updK C sl key d else sl
def wB (C : Cfg) (B c : Nat) (sl : Nat → List Int) (bl : Nat → Nat → List Int) (key d : Int) : Nat → Nat → List Int := if wE C B c sl bl key d = 0 then (fun j => if j = c then updK C (bl c) key d else bl j) else bl
theorem q_upd (h : WQ N w C B n p r sl bl i rs rb) (key d : Int) (hk : U64 key) (hd : I64 d) :
    Calls Tryz.prog 57 #[.pointer (some ⟨p, 0, none⟩), .int .u64 key, .int .i64 d] w fun e w' => e = .returned (.int .i64 (wE C B (n - 1) sl bl key d)) ∧ WQ N w' C B n p r (wS C B (n - 1) sl bl key d) (wB C B (n - 1) sl bl key d) i rs rb ∧ Below N w w' := by
  obtain ⟨b, sm, bk, t, rm, rk, h1, h2, h3, h4, h5, h6, h7, h8, h9⟩ := h
  have hn1 := h1.n1
  have hlast : n - 1 < n := by omega
  have he : wErr C B n sm bk key d = wE C B (n - 1) sl bl key d := by unfold wErr wE; rw [h3, h4 _ hlast]
  refine (WUpdate_c h1 key d hk hd).mono ?_
  unfold WUpdPost wS wB
  rw [he]
  rintro e w' ⟨rfl, hM, hres⟩
  obtain ⟨hR, hB⟩ := WQ.stepP h1 h2 h7 h9 hM
  refine ⟨rfl, ?_, hB⟩
  rcases hres with ⟨h0, s, g, L, hF, hW⟩ | ⟨h0, hW⟩
  · rw [if_pos h0, if_pos h0]
    refine ⟨b, _, _, t, rm, rk, hW, hR, by rw [← h3], fun j hj => ?_, h5, h6, ?_, h8, Nat.le_trans h9 hM.size⟩
    · by_cases e : j = n - 1
      · subst e
        rw [setB_same]
        refine Eq.trans ?_ (if_pos rfl).symm
        rw [← h4 _ hlast]
        rfl
      · rw [setB_ne _ _ e]; exact (h4 j hj).trans (if_neg e).symm
    · rintro k ⟨j, hj, hc⟩ hk
      by_cases e : j = n - 1
      · subst e
        rw [setB_same] at hc
        exact h7 k ⟨_, hlast, hc⟩ hk
      · rw [setB_ne _ _ e] at hc
        exact h7 k ⟨j, hj, hc⟩ hk
  · rw [if_neg h0, if_neg h0]
    exact ⟨b, sm, bk, t, rm, rk, hW, hR, h3, h4, h5, h6, h7, h8, Nat.le_trans h9 hM.size⟩
/-- The references' window has been changed. -/
theorem WQ.stepR {b : Nat} {sm : Bk} {bk : Nat → Bk} {t : Nat} {rm : RBk} {rk : Nat → RBk} {i' : Nat} {rs' : Nat → List Int} {rb' : Nat → Nat → List Int} (h1 : WAt w N p b C B n sm bk) (h2 : RWAt w r t C B n i rm rk) (h3 : sm.ls = sl) (h4 : ∀ j, j < n → (bk j).ls = bl j) (h7 : Dj (bcF B n bk) (rwF r t C B n rm rk)) (h8 : ∀ k, rwF r t C B n rm rk k → N ≤ k) (h9 : N ≤ w.heap.size) (hp : RWPost w r t C B n rm rk i' rs' rb' w') : WQ N w' C B n p r sl bl i' rs' rb' ∧ Below N w w' := by
  obtain ⟨t', rm', rk', hR, hs, hb, hF, hM⟩ := hp
  refine ⟨⟨b, sm, bk, t', rm', rk', h1.keepR hM h2.mT, hR, h3, h4, hs, hb, fun k hk hf => ?_, fun k hk => ?_, Nat.le_trans h9 hM.size⟩, hM.below h9 (fun k hk => h8 k (rwM_F hk))⟩
  · rcases hF k hf with e | e
    · exact h7 k hk e
    · have := h1.bclt hk; omega
  · rcases hF k hk with e | e
    · exact h8 k e
    · exact Nat.le_trans h9 e
theorem q_rupd (h : WQ N w C B n p r sl bl i rs rb) (key d : Int) (hk : U64 key) (hd : I64 d) :
    Calls Tryz.prog 58 #[.pointer (some ⟨r, 0, none⟩), .int .u64 key, .int .i64 d] w fun e w' => e = .returned (.int .i64 (wE C B i rs rb key d)) ∧ WQ N w' C B n p r sl bl i (wS C B i rs rb key d) (wB C B i rs rb key d) ∧ Below N w w' := by
  obtain ⟨b, sm, bk, t, rm, rk, h1, h2, h3, h4, h5, h6, h7, h8, h9⟩ := h
  have hi := h2.iN
  have he : rwErr C B i rm rk key d = wE C B i rs rb key d := by unfold rwErr wE; rw [h5, h6 _ hi]
  refine (RWUpdate_c r t C B n i rm rk key d w h2 hk hd).mono ?_
  unfold RWUpdPost wS wB
  rw [he]
  rintro e w' ⟨rfl, hres⟩
  refine ⟨rfl, ?_⟩
  rcases hres with ⟨h0, hp⟩ | ⟨h0, hE⟩
  · rw [if_pos h0, if_pos h0]
    obtain ⟨hq, hB⟩ := WQ.stepR h1 h2 h3 h4 h7 h8 h9 hp
    rw [h5] at hq
    refine ⟨hq.cong (fun _ _ => rfl) (fun j hj => ?_), hB⟩
    show (if j = i then updK C (rk i).ls key d else (rk j).ls) = if j = i then updK C (rb i) key d else rb j
    by_cases e : j = i
    · subst e; rw [if_pos rfl, if_pos rfl, h6 _ hj]
    · rw [if_neg e, if_neg e]; exact h6 j hj
  · rw [if_neg h0, if_neg h0]
    exact ⟨WQ.ext ⟨b, sm, bk, t, rm, rk, h1, h2, h3, h4, h5, h6, h7, h8, h9⟩ hE, below_of hE h9⟩
theorem q_check (h : WQ N w C B n p r sl bl i rs rb) :
    Calls Tryz.prog 52 #[.pointer (some ⟨p, 0, none⟩)] w fun e w' => e = .returned (.int .i64 (chkE B (fun k => minusL (sl k) (bl 0 k)))) ∧ Ext w w' := by
  obtain ⟨b, sm, bk, t, rm, rk, h1, h2, h3, h4, h5, h6, h7, h8, h9⟩ := h
  have hc := WCheck_c h1
  rw [h3, h4 0 h1.n1] at hc
  exact hc
noncomputable def tkS (B : Nat) (ms sl : Nat → List Int) : Nat → List Int := by classical exact if ∀ k, k ≤ B → allI (ms k) then ms else sl
noncomputable def tkB (B : Nat) (ms : Nat → List Int) (x y : Nat → Nat → List Int) : Nat → Nat → List Int := by classical exact if ∀ k, k ≤ B → allI (ms k) then x else y
noncomputable def tkI (B : Nat) (ms : Nat → List Int) (x y : Nat) : Nat := by classical exact if ∀ k, k ≤ B → allI (ms k) then x else y
def zL (C : Cfg) : Nat → List Int := fun k => zs (lvN C k)
theorem q_tick (h : WQ N w C B n p r sl bl i rs rb) :
    Calls Tryz.prog 53 #[.pointer (some ⟨p, 0, none⟩)] w fun e w' => e = .returned (.int .i64 (chkE B (fun k => minusL (sl k) (bl 0 k)))) ∧ WQ N w' C B n p r (tkS B (fun k => minusL (sl k) (bl 0 k)) sl) (tkB B (fun k => minusL (sl k) (bl 0 k)) (fun j => if j + 1 = n then zL C else bl (j + 1)) bl) i rs rb ∧ Below N w w' := by
  obtain ⟨b, sm, bk, t, rm, rk, h1, h2, h3, h4, h5, h6, h7, h8, h9⟩ := h
  have hn1 := h1.n1
  refine (WTick_c h1 h2.ok.1).mono ?_
  unfold WTickPost
  rw [h3, h4 0 hn1]
  rintro e w' ⟨rfl, hM, hres⟩
  obtain ⟨hR, hB⟩ := WQ.stepP h1 h2 h7 h9 hM
  refine ⟨rfl, ?_, hB⟩
  unfold tkS tkB
  rcases hres with ⟨ha, s, g, L, s2, g2, L2, hF, hF2, hW⟩ | ⟨ha, hW⟩
  · rw [if_pos ha, if_pos ha]
    refine ⟨b, _, _, t, rm, rk, hW, hR, rfl, fun j hj => ?_, h5, h6, ?_, h8, Nat.le_trans h9 hM.size⟩
    · by_cases e : j + 1 = n
      · rw [shiftB_last e]; exact (if_pos e).symm
      · rw [shiftB_less e]; exact (h4 _ (by omega)).trans (if_neg e).symm
    · rintro k ⟨j, hj, hc⟩ hk
      by_cases e : j + 1 = n
      · rw [shiftB_last e] at hc
        obtain ⟨m, hm, rfl⟩ := hc
        have h10 := (hF2 m hm).2.2
        have h11 := h2.lt hk
        have h12 : (L2 m).c < w.heap.size := h11
        omega
      · rw [shiftB_less e] at hc
        exact h7 k ⟨_, by omega, hc⟩ hk
  · rw [if_neg ha, if_neg ha]
    exact ⟨b, sm, bk, t, rm, rk, hW, hR, h3, h4, h5, h6, h7, h8, Nat.le_trans h9 hM.size⟩
theorem q_rtick (h : WQ N w C B n p r sl bl i rs rb) :
    Calls Tryz.prog 54 #[.pointer (some ⟨r, 0, none⟩)] w fun e w' => e = .returned (.int .i64 (chkE B (fun k => minusL (rs k) (rb ((i + 1) % n) k)))) ∧ WQ N w' C B n p r sl bl (tkI B (fun k => minusL (rs k) (rb ((i + 1) % n) k)) ((i + 1) % n) i) (tkS B (fun k => minusL (rs k) (rb ((i + 1) % n) k)) rs) (tkB B (fun k => minusL (rs k) (rb ((i + 1) % n) k)) (fun j => if j = (i + 1) % n then zL C else rb j) rb) ∧ Below N w w' := by
  obtain ⟨b, sm, bk, t, rm, rk, h1, h2, h3, h4, h5, h6, h7, h8, h9⟩ := h
  have hn1 := h1.n1
  have hx : (i + 1) % n < n := Nat.mod_lt _ (by omega)
  refine (RWTick_c r t C B n i rm rk w h2).mono ?_
  unfold RWTickPost
  rw [h5, h6 _ hx]
  unfold tkS tkB tkI
  rintro e w' (⟨ha, rfl, hp⟩ | ⟨ha, rfl, hE⟩)
  · rw [if_pos ha, if_pos ha, if_pos ha, chkE_yes ha]
    obtain ⟨hq, hB⟩ := WQ.stepR h1 h2 h3 h4 h7 h8 h9 hp
    refine ⟨rfl, hq.cong (fun _ _ => rfl) (fun j hj => ?_), hB⟩
    show (if j = (i + 1) % n then (fun (k : Nat) => zs (lvN C k)) else (rk j).ls) = if j = (i + 1) % n then zL C else rb j
    by_cases e : j = (i + 1) % n
    · rw [if_pos e, if_pos e]; rfl
    · rw [if_neg e, if_neg e]; exact h6 j hj
  · rw [if_neg ha, if_neg ha, if_neg ha, chkE_no ha]
    exact ⟨rfl, WQ.ext ⟨b, sm, bk, t, rm, rk, h1, h2, h3, h4, h5, h6, h7, h8, h9⟩ hE, below_of hE h9⟩
theorem q_copy (h : WQ N w C B n p r sl bl i rs rb) :
    Calls Tryz.prog 55 #[.pointer (some ⟨p, 0, none⟩)] w fun e w' => ∃ p', e = .returned (.pointer (some ⟨p', 0, none⟩)) ∧ WQ N w' C B n p' r sl bl i rs rb ∧ Ext w w' := by
  obtain ⟨b, sm, bk, t, rm, rk, h1, h2, h3, h4, h5, h6, h7, h8, h9⟩ := h
  refine (WCopy_c h1).mono ?_
  rintro e w' ⟨p', b', sm', bk', rfl, hW, hs, hb, _, hE⟩
  refine ⟨p', rfl, ⟨b', sm', bk', t, rm, rk, hW.lower h9, h2.ext hE, hs.trans h3, fun j hj => (hb j hj).trans (h4 j hj), h5, h6, ?_, h8, Nat.le_trans h9 hE.size⟩, hE⟩
  rintro k ⟨j, hj, m, hm, rfl⟩ hk
  have h10 := hW.loC j hj m hm
  have h11 := h2.lt hk
  omega
theorem q_rcopy (h : WQ N w C B n p r sl bl i rs rb) :
    Calls Tryz.prog 56 #[.pointer (some ⟨r, 0, none⟩)] w fun e w' => ∃ r', e = .returned (.pointer (some ⟨r', 0, none⟩)) ∧ WQ N w' C B n p r' sl bl i rs rb ∧ Ext w w' := by
  obtain ⟨b, sm, bk, t, rm, rk, h1, h2, h3, h4, h5, h6, h7, h8, h9⟩ := h
  refine (RWCopy_c r t C B n i rm rk w h2).mono ?_
  rintro e w' ⟨r', t', rm', rk', rfl, hR, hs, hb, hF, hE⟩
  refine ⟨r', rfl, ⟨b, sm, bk, t', rm', rk', h1.ext hE, hR, h3, h4, hs.trans h5, fun j hj => (hb j hj).trans (h6 j hj), fun k hk hf => ?_, fun k hk => Nat.le_trans h9 (hF k hk), Nat.le_trans h9 hE.size⟩, hE⟩
  have := h1.bclt hk
  have := hF k hf
  omega
end
/-- A window and one of the references that have the same. -/
def WP (N : Nat) (w : World) (C : Cfg) (B n : Nat) (v1 v2 : Value) : Prop :=
  ∃ p r sl bl i rb, v1 = .pointer (some ⟨p, 0, none⟩) ∧ v2 = .pointer (some ⟨r, 0, none⟩) ∧ i < n ∧ WQ N w C B n p r sl bl i sl rb ∧ ∀ j, j < n → rb ((i + 1 + j) % n) = bl j
theorem mod_ring {n i j : Nat} (hi : i < n) (hj : j < n) : (i + 1 + j) % n = i ↔ j = n - 1 := by
  by_cases h : i + 1 + j < n
  · rw [Nat.mod_eq_of_lt h]; omega
  · rw [Nat.mod_eq_sub_mod (by omega), Nat.mod_eq_of_lt (by omega)]; omega
theorem mod_next {n i j : Nat} (hi : i < n) (hj : j < n) : (i + 1 + j) % n = (i + 1) % n ↔ j = 0 := by
  by_cases h : i + 1 < n
  · rw [Nat.mod_eq_of_lt h]
    by_cases h2 : i + 1 + j < n
    · rw [Nat.mod_eq_of_lt h2]; omega
    · rw [Nat.mod_eq_sub_mod (by omega), Nat.mod_eq_of_lt (by omega)]; omega
  · obtain rfl : i + 1 = n := by omega
    rw [Nat.mod_self, Nat.add_mod_left, Nat.mod_eq_of_lt hj]
theorem mod_shift {n i j : Nat} (hi : i < n) (hj : j < n) : ((i + 1) % n + 1 + j) % n = (i + 1 + (j + 1)) % n := by
  rw [Nat.add_assoc, Nat.mod_add_mod, Nat.add_comm 1 j]
theorem WP.upd {N : Nat} {w : World} {C : Cfg} {B n p r i : Nat} {sl : Nat → List Int} {bl rb : Nat → Nat → List Int} {key d : Int} (hi : i < n) (hr : ∀ j, j < n → rb ((i + 1 + j) % n) = bl j)
    (h : WQ N w C B n p r (wS C B (n - 1) sl bl key d) (wB C B (n - 1) sl bl key d) i (wS C B i sl rb key d) (wB C B i sl rb key d)) : WP N w C B n (.pointer (some ⟨p, 0, none⟩)) (.pointer (some ⟨r, 0, none⟩)) ∧ wE C B i sl rb key d = wE C B (n - 1) sl bl key d := by
  have hl : rb i = bl (n - 1) := by
    have := hr (n - 1) (by omega)
    rw [(mod_ring hi (by omega)).2 rfl] at this
    exact this
  have he : wE C B i sl rb key d = wE C B (n - 1) sl bl key d := by unfold wE; rw [hl]
  have hs : wS C B i sl rb key d = wS C B (n - 1) sl bl key d := by unfold wS; rw [he]
  rw [hs] at h
  refine ⟨⟨p, r, _, _, i, _, rfl, rfl, hi, h, fun j hj => ?_⟩, he⟩
  unfold wB
  rw [he]
  by_cases h0 : wE C B (n - 1) sl bl key d = 0
  · rw [if_pos h0, if_pos h0]
    by_cases e : j = n - 1
    · rw [if_pos ((mod_ring hi hj).2 e), if_pos e, hl]
    · rw [if_neg (fun h => e ((mod_ring hi hj).1 h)), if_neg e]
      exact hr j hj
  · rw [if_neg h0, if_neg h0]; exact hr j hj
theorem wE_ring {C : Cfg} {B n i : Nat} {sl : Nat → List Int} {bl rb : Nat → Nat → List Int} {key d : Int} (hi : i < n) (hr : ∀ j, j < n → rb ((i + 1 + j) % n) = bl j) : wE C B i sl rb key d = wE C B (n - 1) sl bl key d := by
  have hl : rb i = bl (n - 1) := by
    have := hr (n - 1) (by omega)
    rw [(mod_ring hi (by omega)).2 rfl] at this
    exact this
  unfold wE; rw [hl]
theorem WQ.sum {N : Nat} {w : World} {C : Cfg} {B n p r i : Nat} {sl rs : Nat → List Int} {bl rb : Nat → Nat → List Int} (h : WQ N w C B n p r sl bl i rs rb) :
    Calls Tryz.prog 60 #[.pointer (some ⟨p, 0, none⟩)] w (KCopyPost w C B sl) := by
  obtain ⟨b, sm, bk, t, rm, rk, h1, h2, h3, h4, h5, h6, h7, h8, h9⟩ := h
  have := WSum_c h1
  rw [h3] at this
  exact this
theorem WQ.rsum {N : Nat} {w : World} {C : Cfg} {B n p r i : Nat} {sl rs : Nat → List Int} {bl rb : Nat → Nat → List Int} (h : WQ N w C B n p r sl bl i rs rb) :
    ∃ s t L, r < w.heap.size ∧ w.cell? ⟨r, 0, none⟩ = some (.pointer (some ⟨s, 0, none⟩)) ∧ RKAt w s t C B L rs := by
  obtain ⟨b, sm, bk, t, rm, rk, h1, h2, h3, h4, h5, h6, h7, h8, h9⟩ := h
  obtain ⟨cap, g0, _, _, gl, _⟩ := h2.cells
  refine ⟨rm.s, rm.t, rm.L, gl, g0, ?_⟩
  rw [← h5]
  exact h2.sum
theorem WQ.bks {N : Nat} {w : World} {C : Cfg} {B n p r i : Nat} {sl rs : Nat → List Int} {bl rb : Nat → Nat → List Int} (h : WQ N w C B n p r sl bl i rs rb) :
    Calls Tryz.prog 61 #[.pointer (some ⟨p, 0, none⟩)] w fun e w' => e = .returned (.int .i64 n) ∧ w = w' := by
  obtain ⟨b, sm, bk, t, rm, rk, h1, h2, h3, h4, h5, h6, h7, h8, h9⟩ := h
  exact WBuckets_c h1
theorem WP.tick {N : Nat} {w : World} {C : Cfg} {B n p r i : Nat} {sl ms : Nat → List Int} {bl rb : Nat → Nat → List Int} (hi : i < n) (hr : ∀ j, j < n → rb ((i + 1 + j) % n) = bl j)
    (h : WQ N w C B n p r (tkS B ms sl) (tkB B ms (fun j => if j + 1 = n then zL C else bl (j + 1)) bl) (tkI B ms ((i + 1) % n) i) (tkS B ms sl) (tkB B ms (fun j => if j = (i + 1) % n then zL C else rb j) rb)) : WP N w C B n (.pointer (some ⟨p, 0, none⟩)) (.pointer (some ⟨r, 0, none⟩)) := by
  by_cases ha : ∀ k, k ≤ B → allI (ms k)
  · unfold tkS tkB tkI at h
    rw [if_pos ha, if_pos ha, if_pos ha, if_pos ha] at h
    have hx : (i + 1) % n < n := Nat.mod_lt _ (by omega)
    refine ⟨p, r, _, _, _, _, rfl, rfl, hx, h, fun j hj => ?_⟩
    rw [mod_shift hi hj]
    by_cases e : j + 1 = n
    · rw [if_pos e, if_pos]
      rw [e, Nat.add_mod_right]
    · rw [if_neg e, if_neg (fun h => by have := (mod_next hi (show j + 1 < n by omega)).1 h; omega)]
      exact hr (j + 1) (by omega)
  · unfold tkS tkB tkI at h
    rw [if_neg ha, if_neg ha, if_neg ha, if_neg ha] at h
    exact ⟨p, r, _, _, _, _, rfl, rfl, hi, h, hr⟩
end Go.Proofs.YtfhdjekpdifajaaGreat
namespace Go.Proofs.YtfhdjekpdifajaaGreat
set_option linter.unusedVariables false
open Go.RowKit
/-- Without the oldest bucket. -/
theorem win_tick {C : Cfg} (hok : C.Ok) (hm : C.mode ≠ 2) {n : Nat} (hn : (n : Int) ≤ C.bits) (a : List (Int × Int)) (us : List (List (Int × Int))) (ha : UpsOk a) (hu : UpsOk us.flatten) :
    minusL (feedK C (a :: us).flatten n) (feedK C a n) = feedK C us.flatten n := by
  rw [List.flatten_cons, ← feedK_plus hok hn (.inr hm) ha hu, plusL_comm (by rw [feedK_len, feedK_len])]
  exact minus_plus (by rw [feedK_len, feedK_len])
theorem win_upd (C : Cfg) (us : List (List (Int × Int))) (a : List (Int × Int)) (u : Int × Int) : updK C (feedK C (us ++ [a]).flatten) (cutK C 0 u.1) (cutD C.mode u.2) = feedK C (us ++ [a ++ [u]]).flatten := by
  have e : (us ++ [a ++ [u]]).flatten = (us ++ [a]).flatten ++ [u] := by simp
  rw [e, feedK_snoc]
theorem win_new (C : Cfg) (us : List (List (Int × Int))) : (us ++ [[]]).flatten = us.flatten := by simp
end Go.Proofs.YtfhdjekpdifajaaGreat
namespace Go.Proofs.YtfhdjekpdifajaaGreat
set_option linter.unusedVariables false
open Go.RowKit
/-- A window at p, whose buckets were fed US (the oldest first). -/
def WS (w : World) (N p : Nat) (C : Cfg) (B n : Nat) (US : List (List (Int × Int))) : Prop :=
  ∃ b sm bk, WAt w N p b C B n sm bk ∧ US.length = n ∧ (∀ k, k ≤ B → sm.ls k = feedK C US.flatten k) ∧ ∀ i, i < n → ∀ k, k ≤ B → (bk i).ls k = feedK C (US.getD i []) k
theorem WS.ext {w w' : World} {N p : Nat} {C : Cfg} {B n : Nat} {US : List (List (Int × Int))} (h : WS w N p C B n US) (he : Ext w w') : WS w' N p C B n US := by
  obtain ⟨b, sm, bk, h1, h2, h3, h4⟩ := h
  exact ⟨b, sm, bk, h1.ext he, h2, h3, h4⟩
theorem WAt.foot {w : World} {N p b : Nat} {C : Cfg} {B n : Nat} {sm : Bk} {bk : Nat → Bk} (h : WAt w N p b C B n sm bk) {k : Nat} (hk : WFoot p b B n bk k) : N ≤ k := by
  rcases hk with rfl | rfl | ⟨i, hi, m, hm, rfl⟩
  · exact h.loP
  · exact h.loB
  · exact h.loC i hi m hm
theorem WAt.bnd {w w' : World} {N p b : Nat} {C : Cfg} {B n : Nat} {sm : Bk} {bk : Nat → Bk} (h : WAt w N p b C B n sm bk) (hN : N ≤ w.heap.size) (hm : Mod (WFoot p b B n bk) w w') : Below N w w' := hm.below (B := N) hN (fun k hk => h.foot hk)
theorem WS_new (C : Cfg) (hok : C.Ok) (hm : C.mode = 1) (B : Nat) (hB : C.bits = B) (n : Nat) (h1 : 1 ≤ n) (h2 : n ≤ 16) (w : World) :
    Calls Tryz.prog 50 #[.agg #[.int .i64 C.bits, .int .i64 C.rows, .int .i64 C.width, .int .i64 C.mode, .int .u64 C.seed], .int .i64 n] w fun e w' =>
      ∃ p, e = .returned (.tuple #[.pointer (some ⟨p, 0, none⟩), .int .i64 0]) ∧ WS w' w.heap.size p C B n (List.replicate n []) ∧ Ext w w' := by
  refine (WNew_c C hok hm B hB n h1 h2 w).mono ?_
  rintro e w' ⟨p, b, sm, bk, rfl, hW, hs, hb, hE⟩
  refine ⟨p, rfl, ⟨b, sm, bk, hW, by simp, fun k _ => ?_, fun i hi k _ => ?_⟩, hE⟩
  · rw [hs]; simp [feedK_nil]
  · rw [hb i hi]
    have : (List.replicate n ([] : List (Int × Int))).getD i [] = [] := by simp [hi]
    rw [this]; exact (feedK_nil C k).symm
theorem WS_sum {w : World} {N p : Nat} {C : Cfg} {B n : Nat} {US : List (List (Int × Int))} (h : WS w N p C B n US) :
    Calls Tryz.prog 60 #[.pointer (some ⟨p, 0, none⟩)] w (KCopyPost w C B (feedK C US.flatten)) := by
  obtain ⟨b, sm, bk, h1, h2, h3, h4⟩ := h
  refine (WSum_c h1).mono ?_
  rintro e w' ⟨s, g, L, rfl, hK, h5⟩
  exact ⟨s, g, L, rfl, hK.cong h3, h5⟩
theorem updK_cong {C : Cfg} {ls ls' : Nat → List Int} {key d : Int} {k : Nat} (h : ls k = ls' k) : updK C ls key d k = updK C ls' key d k := by unfold updK; rw [h]
theorem WS_upd {w : World} {N p : Nat} {C : Cfg} {B n : Nat} {vs : List (List (Int × Int))} {a : List (Int × Int)} (h : WS w N p C B n (vs ++ [a])) (hok : C.Ok) (hB : C.bits = B) (ht : (vs ++ [a]).flatten.length ≤ 1000) (u : Int × Int) (hk : U64 (cutK C 0 u.1)) (hd : I64 (cutD C.mode u.2)) :
    Calls Tryz.prog 57 #[.pointer (some ⟨p, 0, none⟩), .int .u64 (cutK C 0 u.1), .int .i64 (cutD C.mode u.2)] w fun e w' => e = .returned (.int .i64 0) ∧ Below N w w' ∧ WS w' N p C B n (vs ++ [a ++ [u]]) := by
  obtain ⟨b, sm, bk, h1, h2, h3, h4⟩ := h
  have hn : n = vs.length + 1 := by rw [← h2]; simp
  have hal : a.length ≤ 1000 := by have : (vs ++ [a]).flatten.length = vs.flatten.length + a.length := by simp
                                   omega
  have hkk := cutK_bd C hok 0 u.1 (Int.le_refl 0)
  have hdd := cutD_bd C.mode u.2
  have hla : ∀ k, k ≤ B → (bk (n - 1)).ls k = feedK C a k := fun k hk => by
    rw [h4 (n - 1) (by omega) k hk]
    have : (vs ++ [a]).getD (n - 1) [] = a := by rw [hn]; simp
    rw [this]
  have e1 : errK C B sm.ls (cutK C 0 u.1) (cutD C.mode u.2) = 0 := errK_ok hok hB (B' := (vs ++ [a]).flatten.length * 1099511627776) (T := 1099511627776) (fun k hk => by rw [h3 k hk]; exact feedK_bnd C _ k) (by omega) (by decide) (by omega) (by omega) hkk.1 hkk.2 (fun h => cutD_nn h)
  have e2 : errK C B (bk (n - 1)).ls (cutK C 0 u.1) (cutD C.mode u.2) = 0 := errK_ok hok hB (B' := a.length * 1099511627776) (T := 1099511627776) (fun k hk => by rw [hla k hk]; exact feedK_bnd C _ k) (by omega) (by decide) (by omega) (by omega) hkk.1 hkk.2 (fun h => cutD_nn h)
  have hw : wErr C B n sm bk (cutK C 0 u.1) (cutD C.mode u.2) = 0 := by unfold wErr; rw [if_pos e1]; exact e2
  refine (WUpdate_c h1 _ _ hk hd).mono ?_
  rintro e w' ⟨rfl, hM, (⟨_, s, g, L, _, hW⟩ | ⟨hne, _⟩)⟩
  · rw [hw]
    refine ⟨rfl, h1.bnd (Nat.le_trans h1.loP (Nat.le_of_lt h1.ltp)) hM, ⟨b, _, _, hW, by rw [← h2]; simp, fun k hk => ?_, fun i hi k hk => ?_⟩⟩
    · rw [← win_upd]
      exact updK_cong (h3 k hk)
    · by_cases hl : i = n - 1
      · rw [hl, setB_same]
        have : (vs ++ [a ++ [u]]).getD (n - 1) [] = a ++ [u] := by rw [hn]; simp
        rw [this, feedK_snoc]
        exact updK_cong (hla k hk)
      · rw [setB_ne _ _ hl, h4 i hi k hk]
        have h5 : i < vs.length := by omega
        have e3 : (vs ++ [a ++ [u]]).getD i [] = (vs ++ [a]).getD i [] := by
          simp [List.getD_eq_getElem?_getD, List.getElem?_append_left h5]
        rw [e3]
  · exact absurd hw hne
theorem WS_less {w : World} {N p b : Nat} {C : Cfg} {B n : Nat} {a : List (Int × Int)} {vs : List (List (Int × Int))} {sm : Bk} {bk : Nat → Bk} (hok : C.Ok) (hm : C.mode = 1) (hB : C.bits = B) (ha : UpsOk a) (hv : UpsOk vs.flatten) (h3 : ∀ k, k ≤ B → sm.ls k = feedK C (a :: vs).flatten k) (h0 : ∀ k, k ≤ B → (bk 0).ls k = feedK C a k) :
    ∀ k, k ≤ B → minusL (sm.ls k) ((bk 0).ls k) = feedK C vs.flatten k := fun k hk => by
  rw [h3 k hk, h0 k hk]
  exact win_tick hok (by rw [hm]; decide) (by omega) a vs ha hv
theorem WS_tick {w : World} {N p : Nat} {C : Cfg} {B n : Nat} {a : List (Int × Int)} {vs : List (List (Int × Int))} (h : WS w N p C B n (a :: vs)) (hok : C.Ok) (hB : C.bits = B) (ha : UpsOk a) (hv : UpsOk vs.flatten) (ht : vs.flatten.length ≤ 1000) :
    Calls Tryz.prog 53 #[.pointer (some ⟨p, 0, none⟩)] w fun e w' => e = .returned (.int .i64 0) ∧ Below N w w' ∧ WS w' N p C B n (vs ++ [[]]) := by
  obtain ⟨b, sm, bk, h1, h2, h3, h4⟩ := h
  have hn : n = vs.length + 1 := by rw [← h2]; simp
  have hmi := WS_less (w := w) (N := N) (p := p) (b := b) (n := n) hok h1.md hB ha hv h3 (fun k hk => h4 0 (by omega) k hk)
  have hall : ∀ k, k ≤ B → allI (minusL (sm.ls k) ((bk 0).ls k)) := fun k hk => by rw [hmi k hk]; exact (feedK_bnd C _ k).allI (by omega)
  refine (WTick_c h1 hok).mono ?_
  rintro e w' ⟨rfl, hM, (⟨_, s, g, L, s2, g2, L2, _, _, hW⟩ | ⟨hne, _⟩)⟩
  · rw [chkE_yes hall]
    refine ⟨rfl, h1.bnd (Nat.le_trans h1.loP (Nat.le_of_lt h1.ltp)) hM, ⟨b, _, _, hW, by rw [hn]; simp, fun k hk => ?_, fun i hi k hk => ?_⟩⟩
    · rw [win_new C vs]; exact hmi k hk
    · by_cases hl : i + 1 = n
      · rw [shiftB_last hl]
        have : (vs ++ [[]]).getD i [] = [] := by
          have : i = vs.length := by omega
          rw [this]; simp
        rw [this]; exact (feedK_nil C k).symm
      · rw [shiftB_less hl, h4 (i + 1) (by omega) k hk]
        have h5 : i < vs.length := by omega
        have e3 : (vs ++ [[]]).getD i [] = (a :: vs).getD (i + 1) [] := by
          simp [List.getD_eq_getElem?_getD, List.getElem?_append_left h5]
        rw [e3]
  · exact absurd hall hne
theorem WS_check {w : World} {N p : Nat} {C : Cfg} {B n : Nat} {a : List (Int × Int)} {vs : List (List (Int × Int))} (h : WS w N p C B n (a :: vs)) (hok : C.Ok) (hB : C.bits = B) (ha : UpsOk a) (hv : UpsOk vs.flatten) (ht : vs.flatten.length ≤ 1000) :
    Calls Tryz.prog 52 #[.pointer (some ⟨p, 0, none⟩)] w fun e w' => e = .returned (.int .i64 0) ∧ Ext w w' := by
  obtain ⟨b, sm, bk, h1, h2, h3, h4⟩ := h
  have hn : n = vs.length + 1 := by rw [← h2]; simp
  have hmi := WS_less (w := w) (N := N) (p := p) (b := b) (n := n) hok h1.md hB ha hv h3 (fun k hk => h4 0 (by omega) k hk)
  have hall : ∀ k, k ≤ B → allI (minusL (sm.ls k) ((bk 0).ls k)) := fun k hk => by rw [hmi k hk]; exact (feedK_bnd C _ k).allI (by omega)
  refine (WCheck_c h1).mono ?_
  rintro e w' ⟨rfl, hE⟩
  rw [chkE_yes hall]
  exact ⟨rfl, hE⟩
/-- The same, with a bound above all that a change may touch. -/
def WSM (w : World) (N M p : Nat) (C : Cfg) (B n : Nat) (US : List (List (Int × Int))) : Prop :=
  ∃ b sm bk, WAt w N p b C B n sm bk ∧ US.length = n ∧ (∀ k, k ≤ B → sm.ls k = feedK C US.flatten k) ∧ (∀ i, i < n → ∀ k, k ≤ B → (bk i).ls k = feedK C (US.getD i []) k) ∧ ∀ k, WFoot p b B n bk k → k < M
theorem WSM.ws {w : World} {N M p : Nat} {C : Cfg} {B n : Nat} {US : List (List (Int × Int))} (h : WSM w N M p C B n US) : WS w N p C B n US := by
  obtain ⟨b, sm, bk, h1, h2, h3, h4, _⟩ := h
  exact ⟨b, sm, bk, h1, h2, h3, h4⟩
theorem WS.wsm {w : World} {N p : Nat} {C : Cfg} {B n : Nat} {US : List (List (Int × Int))} (h : WS w N p C B n US) : WSM w N w.heap.size p C B n US := by
  obtain ⟨b, sm, bk, h1, h2, h3, h4⟩ := h
  refine ⟨b, sm, bk, h1, h2, h3, h4, fun k hk => ?_⟩
  rcases hk with rfl | rfl | ⟨i, hi, m, hm, rfl⟩
  · exact h1.ltp
  · exact h1.ltb
  · exact ((KAt.lev (h1.bks i hi)) m hm).ltc
theorem WSM.ext {w w' : World} {N M p : Nat} {C : Cfg} {B n : Nat} {US : List (List (Int × Int))} (h : WSM w N M p C B n US) (he : Ext w w') : WSM w' N M p C B n US := by
  obtain ⟨b, sm, bk, h1, h2, h3, h4, h5⟩ := h
  exact ⟨b, sm, bk, h1.ext he, h2, h3, h4, h5⟩
theorem WSM_tick {w : World} {N M p : Nat} {C : Cfg} {B n : Nat} {a : List (Int × Int)} {vs : List (List (Int × Int))} (h : WSM w N M p C B n (a :: vs)) (hok : C.Ok) (hB : C.bits = B) (ha : UpsOk a) (hv : UpsOk vs.flatten) (ht : vs.flatten.length ≤ 1000) :
    Calls Tryz.prog 53 #[.pointer (some ⟨p, 0, none⟩)] w fun e w' => e = .returned (.int .i64 0) ∧ (∃ S, Mod S w w' ∧ ∀ k, S k → N ≤ k ∧ k < M) ∧ WS w' N p C B n (vs ++ [[]]) := by
  obtain ⟨b, sm, bk, h1, h2, h3, h4, h5⟩ := h
  have hn : n = vs.length + 1 := by rw [← h2]; simp
  have hmi := WS_less (w := w) (N := N) (p := p) (b := b) (n := n) hok h1.md hB ha hv h3 (fun k hk => h4 0 (by omega) k hk)
  have hall : ∀ k, k ≤ B → allI (minusL (sm.ls k) ((bk 0).ls k)) := fun k hk => by rw [hmi k hk]; exact (feedK_bnd C _ k).allI (by omega)
  refine (WTick_c h1 hok).mono ?_
  rintro e w' ⟨rfl, hM, (⟨_, s, g, L, s2, g2, L2, _, _, hW⟩ | ⟨hne, _⟩)⟩
  · rw [chkE_yes hall]
    refine ⟨rfl, ⟨_, hM, fun k hk => ⟨h1.foot hk, h5 k hk⟩⟩, ⟨b, _, _, hW, by rw [hn]; simp, fun k hk => ?_, fun i hi k hk => ?_⟩⟩
    · rw [win_new C vs]; exact hmi k hk
    · by_cases hl : i + 1 = n
      · rw [shiftB_last hl]
        have : (vs ++ [[]]).getD i [] = [] := by
          have : i = vs.length := by omega
          rw [this]; simp
        rw [this]; exact (feedK_nil C k).symm
      · rw [shiftB_less hl, h4 (i + 1) (by omega) k hk]
        have h6 : i < vs.length := by omega
        have e3 : (vs ++ [[]]).getD i [] = (a :: vs).getD (i + 1) [] := by
          simp [List.getD_eq_getElem?_getD, List.getElem?_append_left h6]
        rw [e3]
  · exact absurd hall hne
/-- A stack that lies above M is kept. -/
theorem KAt.above {S : Nat → Prop} {w w' : World} {M s g : Nat} {C : Cfg} {B : Nat} {L : Nat → Lev} {ls : Nat → List Int} (h : KAt w s g C B L ls) (hM : Mod S w w') (hS : ∀ k, S k → k < M) (hs : M ≤ s) (hg : M ≤ g) (hF : KFresh M B L) : KAt w' s g C B L ls := by
  have hk : ∀ k, k < w.heap.size → M ≤ k → w'.heap[k]? = w.heap[k]? := fun k h1 h2 => hM.block k h1 (fun h3 => by have := hS k h3; omega)
  refine ⟨?_, ?_, fun n hn => (h.lev n hn).keep (hk _ (h.lev n hn).lts (hF n hn).1) (hk _ (h.lev n hn).ltb (hF n hn).2.1) (hk _ (h.lev n hn).ltc (hF n hn).2.2), h.sep, h.ok, h.hB⟩
  · rw [hk s h.lts hs]; exact h.ex
  · rw [hk g h.ltg hg]; exact h.row
end Go.Proofs.YtfhdjekpdifajaaGreat
namespace Go.Proofs.YtfhdjekpdifajaaGreat
set_option linter.unusedVariables false
open Go.RowKit
def U1 : Int × Int := (1, 5)
def U2 : Int × Int := (2, 7)
theorem u12_ok : UpsOk [U1] ∧ UpsOk [U2] ∧ UpsOk [U1, U2] := by
  refine ⟨?_, ?_, ?_⟩ <;> (intro u hu; simp [U1, U2] at hu; rcases hu with rfl | rfl <;> exact ⟨by unfold U64; omega, by unfold I64; omega⟩)
theorem K1_tot (us : List (Int × Int)) (hus : UpsOk us) : (feedK K1 us 2).getD 0 0 = hasP (0 : Int) (stP K1 2 us) := feedK_x K1_ok (n := 2) (by decide) hus (K1_x 2) 0
theorem K1_t12 : (feedK K1 [U1, U2] 2).getD 0 0 = 12 := by rw [K1_tot _ u12_ok.2.2]; decide
theorem K1_t7 : (feedK K1 [U2] 2).getD 0 0 = 7 := by rw [K1_tot _ u12_ok.2.1]; decide
theorem below_less {B B' : Nat} {a b : World} (h : Below B a b) (hB : B' ≤ B) : Below B' a b := ⟨h.os, h.tape, h.output, h.size, fun k hk => h.block k (by omega)⟩
theorem WS_buckets {w : World} {N p : Nat} {C : Cfg} {B n : Nat} {US : List (List (Int × Int))} (h : WS w N p C B n US) : Calls Tryz.prog 61 #[.pointer (some ⟨p, 0, none⟩)] w fun e w' => e = .returned (.int .i64 n) ∧ w = w' := by
  obtain ⟨b, sm, bk, h1, _⟩ := h
  exact WBuckets_c h1
set_option maxRecDepth 20000 in
set_option maxHeartbeats 4000000 in
theorem shown24_c (w : World) : Calls Tryz.prog 48 #[] w fun e w' => e = .returned (.bool true) ∧ Ext w w' := by
  have c1 : cutK K1 0 U1.1 = 1 := by decide
  have c2 : cutD K1.mode U1.2 = 5 := by decide
  have c3 : cutK K1 0 U2.1 = 2 := by decide
  have c4 : cutD K1.mode U2.2 = 7 := by decide
  have HC := Lib.hid (And.intro c1 (And.intro c2 (And.intro c3 c4)))
  clear c1 c2 c3 c4
  go_enter Tryz.func48, Tryz.ntmps48
  go_wp2_with fail
  have hCb : CfgAt (w.alloc (.cells #[.int .i64 2, .int .i64 1, .int .i64 4, .int .i64 1, .int .u64 0] 24)) w.heap.size K1 := CfgAt.box K1 _ rfl
  have hE0 : Ext w (w.alloc (.cells #[.int .i64 2, .int .i64 1, .int .i64 4, .int .i64 1, .int .u64 0] 24)) := Ext.alloc' _ _
  generalize w.alloc (.cells #[.int .i64 2, .int .i64 1, .int .i64 4, .int .i64 1, .int .u64 0] 24) = w0 at *
  refine (WS_new K1 K1_ok rfl 2 rfl 2 (by decide) (by decide) _).mono ?_
  rintro e w1 ⟨p, rfl, hS, hx1⟩
  have hC1 := hCb.ext hx1
  have d0 : w1.cell? ⟨w.heap.size, 0, none⟩ = some (.int .i64 2) := hC1.c0
  have d1 : w1.cell? ⟨w.heap.size, 1, none⟩ = some (.int .i64 1) := hC1.c1
  have d2 : w1.cell? ⟨w.heap.size, 2, none⟩ = some (.int .i64 4) := hC1.c2
  have d3 : w1.cell? ⟨w.heap.size, 3, none⟩ = some (.int .i64 1) := hC1.c3
  have d4 : w1.cell? ⟨w.heap.size, 4, none⟩ = some (.int .u64 0) := hC1.c4
  have dl := hC1.lt
  have HS := Lib.hid hS
  have hN := hE0.size
  have hE1 := hE0.trans' hx1
  clear hx1 hC1 hCb hS hE0
  go_wp2_with fail
  refine (WNew_arg K1 K1_ok 0 (.inl (by decide)) _).mono ?_
  rintro e w2 ⟨rfl, hx2⟩
  have HS2 : Hid (WS w2 w0.heap.size p K1 2 2 ([[]] ++ [[]])) := Lib.hid (HS.out.ext hx2)
  have hE2 := hE1.trans' hx2
  have hu := WS_upd HS2.out K1_ok rfl (by decide) U1 (by rw [HC.out.1]; unfold U64; omega) (by rw [HC.out.2.1]; unfold I64; omega)
  rw [HC.out.1, HC.out.2.1] at hu
  have HU := Lib.hid hu
  clear d0 d1 d2 d3 d4 dl hx2 hE1 HS hu
  go_wp2_with fail
  refine Calls.mono HU.out ?_
  rintro e w3 ⟨rfl, hB3, hS3⟩
  have hE3 : Ext w w3 := Below.trans hE2 (below_less hB3 hN)
  have HT := Lib.hid (WS_tick (a := []) (vs := [[U1]]) hS3 K1_ok rfl (fun u hu => by cases hu) u12_ok.1 (by decide))
  clear hB3 hS3 hE2 HU HS2
  go_wp2_with fail
  refine Calls.mono HT.out ?_
  rintro e w4 ⟨rfl, hB4, hS4⟩
  have hE4 : Ext w w4 := Below.trans hE3 (below_less hB4 hN)
  have hu := WS_upd (vs := [[U1]]) (a := []) hS4 K1_ok rfl (by decide) U2 (by rw [HC.out.2.2.1]; unfold U64; omega) (by rw [HC.out.2.2.2]; unfold I64; omega)
  rw [HC.out.2.2.1, HC.out.2.2.2] at hu
  have HU := Lib.hid hu
  clear hB4 hS4 hE3 HT hu
  go_wp2_with fail
  refine Calls.mono HU.out ?_
  rintro e w5 ⟨rfl, hB5, hS5⟩
  have hE5 : Ext w w5 := Below.trans hE4 (below_less hB5 hN)
  have HS5 : Hid (WS w5 w0.heap.size p K1 2 2 ([U1] :: [[U2]])) := Lib.hid hS5
  clear hB5 hS5 hE4 HU
  go_wp2_with fail
  refine Calls.mono (WS_sum HS5.out) ?_
  rintro e w6 ⟨s, g, L, rfl, hK, hs, hg, hF, hx6⟩
  have HK := Lib.hid hK
  have HF : Hid (KFresh w5.heap.size 2 L) := Lib.hid hF
  have HM6 := Lib.hid (HS5.out.wsm.ext hx6)
  have hE6 := hE5.trans' hx6
  clear hK hF hx6 HS5 hE5
  go_wp2_with fail
  refine Calls.mono (WS_check (a := [U1]) (vs := [[U2]]) HM6.out.ws K1_ok rfl u12_ok.1 u12_ok.2.1 (by decide)) ?_
  rintro e w7 ⟨rfl, hx7⟩
  have HM7 := Lib.hid (HM6.out.ext hx7)
  have HK7 := Lib.hid (HK.out.ext hx7)
  have hE7 := hE6.trans' hx7
  clear hx7 HM6 HK hE6
  go_wp2_with fail
  refine Calls.mono (WSM_tick (a := [U1]) (vs := [[U2]]) HM7.out K1_ok rfl u12_ok.1 u12_ok.2.1 (by decide)) ?_
  rintro e w8 ⟨rfl, ⟨S, hM8, hSS⟩, hS8⟩
  have HK8 := Lib.hid (HK7.out.above hM8 (fun k hk => (hSS k hk).2) hs hg HF.out)
  have HS8 := Lib.hid hS8
  have hE8 : Ext w w8 := Below.trans hE7 (hM8.below hE7.size (fun k hk => Nat.le_trans hN (hSS k hk).1))
  clear hM8 hSS hS8 HM7 HK7 hE7 HF
  go_wp2_with fail
  refine Calls.mono (WS_sum HS8.out) ?_
  rintro e w9 ⟨s2, g2, L2, rfl, hK2, _, _, _, hx9⟩
  have HK9 := Lib.hid (HK8.out.ext hx9)
  have HS9 := Lib.hid (HS8.out.ext hx9)
  have HK2 := Lib.hid hK2
  have hE9 := hE8.trans' hx9
  clear hK2 hx9 HS8 HK8 hE8
  go_wp2_with fail
  refine Calls.mono (KTotal_c _ _ _ _ _ _ _ HK9.out) ?_
  rintro e w10 ⟨rfl, hx10⟩
  have e1 : (feedK K1 ([U1] :: [[U2]]).flatten 2).getD 0 0 = 12 := K1_t12
  rw [e1]
  have HK10 := Lib.hid (HK2.out.ext hx10)
  have HS10 := Lib.hid (HS9.out.ext hx10)
  have hE10 := hE9.trans' hx10
  clear hx10 HK9 HK2 HS9 hE9 e1
  go_wp2_with fail
  refine Calls.mono (KTotal_c _ _ _ _ _ _ _ HK10.out) ?_
  rintro e w11 ⟨rfl, hx11⟩
  have e2 : (feedK K1 ([[U2]] ++ [[]]).flatten 2).getD 0 0 = 7 := K1_t7
  rw [e2]
  have HS11 := Lib.hid (HS10.out.ext hx11)
  have hE11 := hE10.trans' hx11
  clear hx11 HK10 HS10 hE10 e2
  go_wp2_with fail
  refine Calls.mono (WS_buckets HS11.out) ?_
  rintro e w12 ⟨rfl, rfl⟩
  go_wp2
  go_ret
  exact ⟨rfl, hE11⟩
end Go.Proofs.YtfhdjekpdifajaaGreat
namespace Go.Proofs.YtfhdjekpdifajaaGreat
set_option linter.unusedVariables false
open Go.RowKit
set_option maxRecDepth 20000 in
set_option maxHeartbeats 4000000 in
theorem right24_c (x : Cfg) (hx : x.Raw) (b : Int) (w : World) :
    Calls Tryz.prog 49 #[.agg #[.int .i64 x.bits, .int .i64 x.rows, .int .i64 x.width, .int .i64 x.mode, .int .u64 x.seed], .int .i64 b] w fun e w' =>
      e = .returned (.tuple #[.agg #[.int .i64 (kcfg x 6 1).bits, .int .i64 (kcfg x 6 1).rows, .int .i64 (kcfg x 6 1).width, .int .i64 (kcfg x 6 1).mode, .int .u64 (kcfg x 6 1).seed], .int .i64 (1 + b % 65536 % 16)]) ∧ Ext w w' := by
  have hp := kcfg_pos x 6 (m := 1) (by decide)
  have hla := and16 b
  have h0 := Int.emod_nonneg b (show (65536 : Int) ≠ 0 by decide)
  obtain ⟨C, hCd⟩ : ∃ C, kcfg x 6 1 = C := ⟨_, rfl⟩
  rw [hCd] at hp ⊢
  clear hCd
  go_enter Tryz.func49, Tryz.ntmps49
  go_wp2_with fail
  refine (Any_c x hx 6 9 (by decide) (by decide) (by decide) (by decide) _).mono ?_
  rintro e w1 ⟨rfl, hb1⟩
  have kr : w1.heap[w.heap.size + 1]? = some (.cells #[.int .i64 0, .int .i64 0, .int .i64 0, .int .i64 0, .int .u64 0] 24 (0, 0)) := by
    rw [hb1.block _ (by simp only [size_alloc]; omega)]
    exact heap_at _ _ (by simp only [size_alloc])
  have hE1 : Ext w w1 := by (repeat' (first | exact Ext.refl _ | assumption | apply Ext.allocR | apply Ext.drewR | apply Ext.drewNR | (refine Ext.trans' ?_ (by assumption))))
  clear hb1
  generalize mkC x 6 9 = A at *
  have HP := Lib.hid hp
  clear hp
  go_upto_region 3 with (fail)
  have hE2 : Ext w (w1.alloc (.cells #[.int .i64 A.bits, .int .i64 A.rows, .int .i64 A.width, .int .i64 1, .int .u64 A.seed] 24)) := hE1.allocR _
  have kr2 : (w1.alloc (.cells #[.int .i64 A.bits, .int .i64 A.rows, .int .i64 A.width, .int .i64 1, .int .u64 A.seed] 24)).heap[w.heap.size + 1]? = some (.cells #[.int .i64 0, .int .i64 0, .int .i64 0, .int .i64 0, .int .u64 0] 24 (0, 0)) := (Ext.alloc' _ _).keep kr
  have kc := heap_at w1 (.cells #[.int .i64 A.bits, .int .i64 A.rows, .int .i64 A.width, .int .i64 1, .int .u64 A.seed] 24) rfl
  generalize w1.alloc (.cells #[.int .i64 A.bits, .int .i64 A.rows, .int .i64 A.width, .int .i64 1, .int .u64 A.seed] 24) = w2 at *
  have q0 := (cell_of kr2 0).trans rfl
  have q1 := (cell_of kr2 1).trans rfl
  have q2 := (cell_of kr2 2).trans rfl
  have q3 := (cell_of kr2 3).trans rfl
  have q4 := (cell_of kr2 4).trans rfl
  have f0 := frozen_of kr2 0
  have f1 := frozen_of kr2 1
  have f2 := frozen_of kr2 2
  have f3 := frozen_of kr2 3
  have f4 := frozen_of kr2 4
  have c0 := (cell_of kc 0).trans rfl
  have c1 := (cell_of kc 1).trans rfl
  have c2 := (cell_of kc 2).trans rfl
  have c3 := (cell_of kc 3).trans rfl
  have c4 := (cell_of kc 4).trans rfl
  have cl := lt_of kc
  have ql := lt_of kr2
  have HKR := Lib.hid kr2
  clear kr kc kr2
  go_wp2_with fail
  refine fin5 (Φ := fun W' => bodyPost _ _ _ _ _ W') (w := w) (W := w2) HKR.out hE2 (Nat.le_succ _) ?_
  intro Wf hf hE5 hof _
  have r0 := (cell_of hf 0).trans rfl
  have r1 := (cell_of hf 1).trans rfl
  have r2 := (cell_of hf 2).trans rfl
  have r3 := (cell_of hf 3).trans rfl
  have r4 := (cell_of hf 4).trans rfl
  obtain ⟨e0, e1, e2, e3, e4⟩ := HP.out
  exact bodyPost_ret (v := .tuple #[.agg #[.int .i64 A.bits, .int .i64 A.rows, .int .i64 A.width, .int .i64 1, .int .u64 A.seed], .int .i64 (1 + b % 65536 % 16)]) (by simp [results, Tryz.results49, go_sem, r0, r1, r2, r3, r4]) rfl ⟨by rw [← e0, ← e1, ← e2, ← e3, ← e4], hE5⟩
end Go.Proofs.YtfhdjekpdifajaaGreat
namespace Go.Proofs.YtfhdjekpdifajaaGreat
set_option linter.unusedVariables false
open Go.RowKit
theorem kcfg_mode (x : Cfg) (nb : Int) {m : Int} (h : 0 < m) : (kcfg x nb m).mode = m := (kcfg_pos x nb h).2.2.2.2.symm
end Go.Proofs.YtfhdjekpdifajaaGreat
namespace Go.Proofs.YtfhdjekpdifajaaGreat
set_option linter.unusedVariables false
open Go.RowKit
abbrev Opn := Int × Int × Int
def OpsAt (w : World) (v : Value) (os : List Opn) : Prop :=
  ((∃ p, v = .slice p 0 0) ∧ os = []) ∨ ∃ g off cap, v = .slice (some ⟨g, off, none⟩) os.length cap ∧ g < w.heap.size ∧
    ∀ k, k < os.length → w.cell? ⟨g, off + k * 3, none⟩ = some (.int .i64 (os.getD k (0, 0, 0)).1) ∧ w.cell? ⟨g, off + k * 3 + 1, none⟩ = some (.int .u64 (os.getD k (0, 0, 0)).2.1) ∧ w.cell? ⟨g, off + k * 3 + 2, none⟩ = some (.int .i64 (os.getD k (0, 0, 0)).2.2)
def OpsOk (os : List Opn) : Prop := ∀ u ∈ os, I64 u.1 ∧ U64 u.2.1 ∧ I64 u.2.2
theorem OpsAt.ext {w w' : World} {v : Value} {os : List Opn} (h : OpsAt w v os) (he : Ext w w') : OpsAt w' v os := by
  rcases h with h | ⟨g, off, cap, h1, h2, h3⟩
  · exact .inl h
  · exact .inr ⟨g, off, cap, h1, Nat.lt_of_lt_of_le h2 he.size, fun k hk => ⟨((bcell he).1 _ _ h2).trans (h3 k hk).1, ((bcell he).1 _ _ h2).trans (h3 k hk).2.1, ((bcell he).1 _ _ h2).trans (h3 k hk).2.2⟩⟩
theorem OpsAt.sl {w : World} {v : Value} {os : List Opn} (h : OpsAt w v os) : ∃ p c, v = .slice p os.length c := by
  rcases h with ⟨⟨p, rfl⟩, rfl⟩ | ⟨g, off, cap, rfl, _⟩
  · exact ⟨p, 0, rfl⟩
  · exact ⟨_, cap, rfl⟩
theorem OpsAt.one {w : World} {p : Option Addr} {n c : Nat} {os : List Opn} (h : OpsAt w (.slice p n c) os) {k : Nat} (hk : k < os.length) :
    ∃ g off, p = some ⟨g, off, none⟩ ∧ g < w.heap.size ∧ w.cell? ⟨g, off + k * 3, none⟩ = some (.int .i64 os[k].1) ∧ w.cell? ⟨g, off + k * 3 + 1, none⟩ = some (.int .u64 os[k].2.1) ∧ w.cell? ⟨g, off + k * 3 + 2, none⟩ = some (.int .i64 os[k].2.2) := by
  rcases h with ⟨_, rfl⟩ | ⟨g, off, cap, h1, h2, h3⟩
  · exact absurd hk (Nat.not_lt_zero _)
  · have e := Value.slice.inj h1
    have hg : os.getD k (0, 0, 0) = os[k] := by simp [hk]
    have := h3 k hk
    rw [hg] at this
    exact ⟨g, off, e.1, h2, this⟩
end Go.Proofs.YtfhdjekpdifajaaGreat
