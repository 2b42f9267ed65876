/- Part. No condition. -/
import Derived.Test.YtfhdjekpdifajaaGreatDSummaryTop7
import Derived.Test.YtfhdjekpdifajaaGreatDSummaryTop3
import Derived.Test.YtfhdjekpdifajaaGreatDSummaryTop4
import Derived.Test.YtfhdjekpdifajaaGreatDSummaryTop5
import Derived.Test.YtfhdjekpdifajaaGreatDSummaryTop1
import Derived.RangeFuncBox
import Derived.Laws.EntriesVeiled
namespace Go.Proofs.YtfhdjekpdifajaaGreat
set_option linter.unusedVariables false
open Go.RowKit
theorem info_lp : ∃ i z, Tryz.prog.info? 45 = some i ∧ i.zero = some z ∧ i.size = 1 ∧ i.bytes = 8 ∧ z.cells.size = 1 := by
  have h : (Tryz.prog.info? 45).map (fun i => (i.zero, i.size, i.bytes)) = some (some (.pointer none), 1, 8) := by kernel_rfl
  match hi : Tryz.prog.info? 45, h with
  | some i, h =>
    simp only [Option.map_some, Option.some.injEq, Prod.mk.injEq] at h
    exact ⟨i, .pointer none, rfl, h.1, h.2.1, h.2.2, rfl⟩
def rp (L : Nat → RLev) (k : Nat) : List Value := (List.range k).map fun n => Value.pointer (some ⟨(L n).p, 0, none⟩)
theorem rp_len (L : Nat → RLev) (k : Nat) : (rp L k).length = k := by simp [rp]
theorem rp_succ (L : Nat → RLev) (k : Nat) : rp L (k + 1) = rp L k ++ [Value.pointer (some ⟨(L k).p, 0, none⟩)] := by unfold rp; rw [List.range_succ, List.map_append]; rfl
theorem rp_cong {L L' : Nat → RLev} {k : Nat} (h : ∀ n, n < k → L n = L' n) : rp L k = rp L' k := by
  unfold rp
  apply List.map_congr_left
  intro n hn
  rw [List.mem_range] at hn
  rw [h n hn]
theorem rp_get (L : Nat → RLev) {k n : Nat} (h : n < k) : (rp L k)[n]? = some (Value.pointer (some ⟨(L n).p, 0, none⟩)) := by unfold rp; rw [List.getElem?_map, List.getElem?_range h]; rfl
/-- A level's blocks are no row of levels, nor a stack. -/
theorem RLvAt.ty {w : World} {L : RLev} {C : Cfg} {lv : Int} {l : List Int} (h : RLvAt w L C lv l) {k : Nat} (hk : L.foot C lv k) {cur : Array Value} {T : TypeId} {f : Nat × Nat} (hb : w.heap[k]? = some (.cells cur T f)) : T ≠ 45 ∧ T ≠ 48 := by
  have key : ∀ (c2 : Array Value) (T2 : TypeId) (f2 : Nat × Nat), w.heap[k]? = some (.cells c2 T2 f2) → T2 ≠ 45 → T2 ≠ 48 → T ≠ 45 ∧ T ≠ 48 := fun c2 T2 f2 h2 n1 n2 => by
    rw [hb] at h2
    injection h2 with h2
    injection h2 with _ h2 _
    rw [h2]; exact ⟨n1, n2⟩
  rcases hk with rfl | ⟨hx, hk⟩ | ⟨hx, hk⟩
  · obtain ⟨_, _, _, ⟨_, h1, _⟩ | ⟨_, h1, _⟩⟩ := h <;> exact key _ _ _ h1 (by decide) (by decide)
  · obtain ⟨_, h2⟩ := h.x hx
    rcases hk with rfl | rfl
    · obtain ⟨cap, h3, _⟩ := h2.ex; exact key _ _ _ h3 (by decide) (by decide)
    · obtain ⟨cu, h3, _⟩ := h2.cells; exact key _ _ _ h3 (by decide) (by decide)
  · obtain ⟨_, h2⟩ := h.sk hx
    rcases hk with rfl | (rfl | rfl | ⟨r, hr, rfl⟩)
    · exact key _ _ _ h2.ex (by decide) (by decide)
    · obtain ⟨cap, h3, _⟩ := h2.g.ex; exact key _ _ _ h3 (by decide) (by decide)
    · obtain ⟨cap, h3, _⟩ := h2.g.row; exact key _ _ _ h3 (by decide) (by decide)
    · obtain ⟨cap, h3, _⟩ := h2.g.cells r hr; exact key _ _ _ h3 (by decide) (by decide)
/-- Some levels that have been made. -/
structure RMade (w : World) (B0 : Nat) (C : Cfg) (k : Nat) (L : Nat → RLev) (ls : Nat → List Int) (v : Value) : Prop where
  row : w.ownsRow B0 45 1 v (rp L k).length (rp L k)
  lev : ∀ n, n < k → RLvAt w (L n) C n (ls n)
  new : ∀ n, n < k → ∀ j, (L n).foot C n j → B0 ≤ j
  sep : ∀ m n, m < k → n < k → m ≠ n → Dj ((L m).foot C m) ((L n).foot C n)
theorem RMade.zero (w : World) (B0 : Nat) (C : Cfg) (L : Nat → RLev) (ls : Nat → List Int) : RMade w B0 C 0 L ls (.slice none 0 0) :=
  ⟨⟨rfl, .inl ⟨rfl, rfl⟩⟩, by intros; omega, by intros; omega, by intros; omega⟩
theorem RMade.ext {w w' : World} {B0 k : Nat} {C : Cfg} {L : Nat → RLev} {ls : Nat → List Int} {v : Value} (h : RMade w B0 C k L ls v) (he : Ext w w') : RMade w' B0 C k L ls v :=
  ⟨own_ext h.row he, fun n hn => (h.lev n hn).ext he, h.new, h.sep⟩
theorem RMade.setc {w : World} {B0 k : Nat} {C : Cfg} {L : Nat → RLev} {ls : Nat → List Int} {v : Value} (h : RMade w B0 C k L ls v) {b : Nat} (hb : b < B0) (o : Nat) (u : Value) : RMade (w.setCell ⟨b, o, none⟩ u) B0 C k L ls v :=
  ⟨own_setc h.row hb o u, fun n hn => (h.lev n hn).keep (fun j hj => setCell_other _ _ (by have := h.new n hn j hj; omega)), h.new, h.sep⟩
/-- One more. -/
theorem RMade.next {w0 w w' : World} {B0 k : Nat} {C : Cfg} {L : Nat → RLev} {ls : Nat → List Int} {v v' : Value} {M : RLev} {l : List Int} {o : Obj} (h : RMade w0 B0 C k L ls v) (he : Ext w0 w) (hB : B0 ≤ w0.heap.size) (hM : RLvAt w M C k l) (hN : ∀ j, M.foot C k j → w0.heap.size ≤ j) (hl : l = ls k)
    (hown : w'.ownsRow B0 45 1 v' (rp L k ++ [Value.pointer (some ⟨M.p, 0, none⟩)]).length (rp L k ++ [Value.pointer (some ⟨M.p, 0, none⟩)])) (hg : (w.alloc o).grownBy w' v.ownBlock) : RMade w' B0 C (k + 1) (fun n => if n = k then M else L n) ls v' := by
  subst hl
  have hw := h.ext he
  have hkeep : ∀ {n : Nat} {K : RLev} {l : List Int}, RLvAt w K C n l → RLvAt w' K C n l := fun {n K l} hK => hK.keep (fun j hj => grown_old hg (hK.lt hj) (fun e => by
    obtain ⟨cu, hc⟩ := own_type hw.row e.symm
    exact (hK.ty hj hc).1 rfl))
  refine ⟨?_, fun n hn => ?_, fun n hn j hj => ?_, fun m n hm hn hmn => ?_⟩
  · rw [rp_succ, if_pos rfl, rp_cong (L' := L) (fun i hi => if_neg (by omega))]
    exact hown
  · by_cases e : n = k
    · subst e; rw [if_pos rfl]; exact hkeep hM
    · rw [if_neg e]; exact hkeep (hw.lev n (by omega))
  · by_cases e : n = k
    · subst e; rw [if_pos rfl] at hj; exact Nat.le_trans hB (hN j hj)
    · rw [if_neg e] at hj; exact h.new n (by omega) j hj
  · by_cases e : m = k
    · subst e
      rw [if_pos rfl, if_neg (by omega)]
      intro j h1 h2
      have a := hN j h1
      have b := (h.lev n (by omega)).lt h2
      omega
    · rw [if_neg e]
      by_cases e' : n = k
      · subst e'
        rw [if_pos rfl]
        intro j h1 h2
        have a := hN j h2
        have b := (h.lev m (by omega)).lt h1
        omega
      · rw [if_neg e']; exact h.sep m n (by omega) (by omega) hmn
/-- All levels, and the stack's own block: a stack. -/
theorem RMade.stack {w : World} {s B0 B : Nat} {C : Cfg} {L : Nat → RLev} {ls : Nat → List Int} {v : Value} (h : RMade w B0 C (B + 1) L ls v) (hok : C.Ok) (hB : C.bits = B) (hs : w.heap[s]? = some (.cells #[.int .i64 C.bits, .int .i64 C.rows, .int .i64 C.width, .int .i64 C.mode, .int .u64 C.seed, v] 48 (0, 0))) :
    ∃ t, B0 ≤ t ∧ RKAt w s t C B L ls := by
  have hl := rp_len L (B + 1)
  rcases h.row.2 with ⟨_, h0⟩ | ⟨g, cap, cur, rfl, hbg, hg, hnc, hcm, hcs, htake⟩
  · rw [hl] at h0; omega
  · rw [hl] at hs hnc
    refine ⟨g, hbg, ⟨⟨cap, hs, hnc⟩, ⟨cur, hg, fun n hn => ?_⟩, fun n hn => h.lev n (by omega), fun m n hm hn => h.sep m n (by omega) (by omega), hok, hB⟩⟩
    have h1 := h.row.cells (g := g) rfl n _ (rp_get L (show n < B + 1 by omega))
    rw [show ((⟨g, 0, none⟩ : Addr).add n) = ⟨g, n, none⟩ by (simp [Addr.add]; intro e; exact e.symm), cell_of hg] at h1
    exact h1
def RKNewPost (w : World) (C : Cfg) (B : Nat) (ls : Nat → List Int) (e : Ending) (w' : World) : Prop :=
  ∃ (s t : Nat) (L : Nat → RLev), e = .returned (.pointer (some ⟨s, 0, none⟩)) ∧ RKAt w' s t C B L ls ∧ (∀ k, rkF s t C B L k → w.heap.size ≤ k) ∧ Ext w w'
theorem RMade.post {w wr : World} {s B0 B : Nat} {C : Cfg} {L : Nat → RLev} {ls : Nat → List Int} {v : Value} (h : RMade wr B0 C (B + 1) L ls v) (hok : C.Ok) (hB : C.bits = B) (hs : wr.heap[s]? = some (.cells #[.int .i64 C.bits, .int .i64 C.rows, .int .i64 C.width, .int .i64 C.mode, .int .u64 C.seed, v] 48 (0, 0))) (hsw : w.heap.size ≤ s) (hB0 : w.heap.size ≤ B0) (hE : Ext w wr) :
    RKNewPost w C B ls (.returned (.pointer (some ⟨s, 0, none⟩))) wr := by
  obtain ⟨t, ht, hK⟩ := h.stack hok hB hs
  refine ⟨s, t, L, rfl, hK, ?_, hE⟩
  rintro k (rfl | rfl | ⟨n, hn, hk⟩)
  · exact hsw
  · omega
  · exact Nat.le_trans hB0 (h.new n (by omega) k hk)
set_option maxRecDepth 20000 in
set_option maxHeartbeats 8000000 in
theorem RKNew_c (C : Cfg) (hok : C.Ok) (B : Nat) (hB : C.bits = B) (w : World) :
    Calls Tryz.prog 17 #[.agg #[.int .i64 C.bits, .int .i64 C.rows, .int .i64 C.width, .int .i64 C.mode, .int .u64 C.seed]] w (RKNewPost w C B (fun n => zs (lvN C n))) := by
  have hb2 := hok.b2
  have hbd : B ≤ 59 := by omega
  have HB := Lib.hid hB
  obtain ⟨W0, hW0⟩ : ∃ W0, w.alloc (.cells #[.int .i64 C.bits, .int .i64 C.rows, .int .i64 C.width, .int .i64 C.mode, .int .u64 C.seed] 24) = W0 := ⟨_, rfl⟩
  have hCb : W0.heap[w.heap.size]? = some (.cells #[.int .i64 C.bits, .int .i64 C.rows, .int .i64 C.width, .int .i64 C.mode, .int .u64 C.seed] 24 (0, 0)) := by rw [← hW0]; exact heap_at _ _ rfl
  have hE : Ext w W0 := by rw [← hW0]; exact Ext.alloc' _ _
  have hsz : W0.heap.size = w.heap.size + 1 := by rw [← hW0, size_alloc]
  have hC := CfgAt.of hCb
  have c0 := hC.c0
  have c1 := hC.c1
  have c2 := hC.c2
  have c3 := hC.c3
  have c4 := hC.c4
  have cl := hC.lt
  have HCB := Lib.hid hCb
  have HSZ := Lib.hid hsz
  clear hC hB hCb hsz hb2
  go_enter Tryz.func17, Tryz.ntmps17
  go_upto_region 1 with (fail)
  try rw [hW0]
  clear hW0
  go_wp2_with fail
  clear c0 c1 c2 c3 c4 cl
  go_loopw [4] (fun u4 wr => ∃ (k : Nat) (L : Nat → RLev) (v : Value), k ≤ B + 1 ∧ u4 = .int .i64 k ∧ Ext W0 wr ∧ wr.heap[W0.heap.size]? = some (.cells #[.int .i64 C.bits, .int .i64 C.rows, .int .i64 C.width, .int .i64 C.mode, .int .u64 C.seed, v] 48 (0, 0)) ∧ RMade wr (W0.heap.size + 1) C k L (fun n => zs (lvN C n)) v) (fun u4 _ => B + 1 - (intOf u4).toNat)
  case atStart => exact ⟨0, fun _ => ⟨0, 0, ⟨0, 0, fun _ => 0, fun _ => 0⟩⟩, _, Nat.zero_le _, rfl, Ext.alloc' _ _, heap_at _ _ rfl, RMade.zero _ _ _ _ _⟩
  case round =>
    obtain ⟨k, L, v, hk, rfl, hE0, hbx, hM⟩ := hrel
    have hCq := CfgAt.of (hE0.keep HCB.out)
    have c0 := hCq.c0
    have c1 := hCq.c1
    have c2 := hCq.c2
    have c3 := hCq.c3
    have c4 := hCq.c4
    have cl := hCq.lt
    have hbl := lt_of hbx
    have HBX := Lib.hid hbx
    have HM := Lib.hid hM
    clear hCq hM
    by_cases hlt : k < B + 1
    · have hle : (k : Int) ≤ C.bits := by have := HB.out; omega
      have b5 := (cell_of hbx 5).trans rfl
      have HL := Lib.hid (fun W' => RLNew_c C hok k (Int.natCast_nonneg k) hle W')
      obtain ⟨S, hSS⟩ : ∃ S : Nat → Prop, ∀ i, S i ↔ v.ownBlock = some i := ⟨_, fun _ => Iff.rfl⟩
      have n1 : ¬ S w.heap.size := fun h => by have := own_blk HM.out.row ((hSS _).1 h); have := HSZ.out; omega
      have n2 : ¬ S W0.heap.size := fun h => by have := own_blk HM.out.row ((hSS _).1 h); omega
      have HSS := Lib.hid hSS
      clear hbx hSS
      go_wp2_with fail
      have hC0 := afs_drew S wr
      refine pi_start (fun w' => ∃ z : AftS S wr, w' = z.w) [12] (by kernel_rfl) ?_
      refine pi_t 0 rfl (by kernel_rfl) (by kernel_rfl) (fun _ _ _ _ h => h) (fun K hK => ?_)
      go_big_quiet_op
      refine hK _ ?_
      clear hK K
      refine pi_t 1 rfl (by kernel_rfl) (by kernel_rfl) (fun _ _ _ _ h => h) (fun K hK => ?_)
      go_big_quiet_op
      refine hK _ ?_
      clear hK K
      refine pi_t 2 rfl (by kernel_rfl) (by kernel_rfl) (fun _ _ _ _ h => h) (fun K hK => ?_)
      go_big_quiet_op
      refine hK _ ?_
      clear hK K
      refine pi_t 3 rfl (by kernel_rfl) (by kernel_rfl) (fun _ _ _ _ h => h) (fun K hK => ?_)
      go_big_quiet_op
      refine hK _ ?_
      clear hK K
      refine pi_t 6 rfl (by kernel_rfl) (by kernel_rfl) (fun _ _ _ _ h => h) (fun K hK => ?_)
      go_big_quiet_op
      refine hK _ ?_
      clear hK K
      refine pi_c 4 (by assumption) rfl (by kernel_rfl) (by kernel_rfl) (fun _ _ _ _ h => h) (fun K hK => ?_)
      go_big_quiet_op
      refine hK _ ?_
      clear hK K
      refine pi_c 5 (by assumption) rfl (by kernel_rfl) (by kernel_rfl) (fun _ _ _ _ h => h) (fun K hK => ?_)
      go_big_quiet_op
      refine hK _ ?_
      clear hK K
      refine pi_l 7 rfl (by kernel_rfl) (fun K hK => ?_)
      go_wp2_with (go_at_call 37; refine Calls.mono (HL.out _) ?_; rintro e wt ⟨M, rfl, hMv, hMf, hxt⟩)
      have hEt : Ext wr wt := Ext.trans' (Below.drew (Ext.refl wr)) hxt
      refine hK _ _ (fun _ h => afs_step h hxt) ?_
      clear hK K
      have HMV := Lib.hid hMv
      have HMF := Lib.hid (show ∀ j, M.foot C k j → wr.heap.size ≤ j from hMf)
      have HR := Lib.hid (HM.out.ext hEt).row
      have hz := hE0.size
      have hzt := hEt.size
      obtain ⟨i0, z0, hi0, hz0, hz1, hz2, hz3⟩ := info_lp
      clear hMv hMf hxt
      refine pi_l 8 rfl (by kernel_rfl) (fun K hK => ?_)
      go_wp2
      refine hK _ _ (fun _ h => afs_step h (Ext.alloc' _ _)) ?_
      clear hK K
      refine pi_l 9 rfl (by kernel_rfl) (fun K hK => ?_)
      go_wp2_with (at_builtin; refine wpList_appB wt 8 (by decide) (.pointer (some ⟨M.p, 0, none⟩)) rfl (rp L k) v (W0.heap.size + 1) 45 HR.out 46 rfl _ _ rfl i0 z0 hi0 hz0 hz1 hz2 hz3 Tryz.underlying46 (by rfl) (by rfl) ?b1 ?b2 ?_)
      case b1 => rw [rp_len]; omega
      case b2 => omega
      intro v' wf g1 g2
      have hEf : Ext W0 wf := ext_grown (hE0.trans' hEt) g2 (fun i hi => by have := own_blk HR.out hi; omega)
      have hnext := HM.out.next hEt (by omega) HMV.out HMF.out rfl (by rw [List.length_append]; exact g1) g2
      have hbf := (grown_old g2 (show W0.heap.size < wt.heap.size by omega) (fun e => by have := own_blk HR.out e.symm; omega)).trans (hEt.keep HBX.out)
      have HN := Lib.hid hnext
      have f5 := frozen_of hbf 5
      have q5 := (cell_of hbf 5).trans rfl
      have ql := lt_of hbf
      have HBF := Lib.hid hbf
      obtain ⟨pv, nv, cv, rfl⟩ := own_slice g1
      have hmf : Mod S wr wf := mod_grown (hEt.mod _) g2 (fun i hi => (HSS.out i).2 hi)
      clear g1 g2 hnext hbf
      go_wp2
      refine hK _ _ (fun _ _ => ⟨⟨wf, hmf⟩, rfl⟩) ?_
      clear hK K
      refine pi_t 10 rfl (by kernel_rfl) (by kernel_rfl) (fun _ _ _ _ h => h) (fun K hK => ?_)
      go_big_quiet_op
      refine hK _ ?_
      clear hK K
      refine pi_t 11 rfl (by kernel_rfl) (by kernel_rfl) (fun _ _ _ _ h => h) (fun K hK => ?_)
      go_big_quiet_op
      refine hK _ ?_
      clear hK K
      refine pi_l 12 rfl (by kernel_rfl) (fun K hK => ?_)
      go_wp2
      refine hK _ _ (by simp) ?_
      clear hK K
      refine pi_end (by kernel_rfl) ?_
      go_wp2_with fail
      go_roundw
      case rel => exact ⟨k + 1, _, _, by omega, by go_num, hEf.setR (p := ⟨W0.heap.size, 5, none⟩) (Nat.le_refl _) _, (setCell_same HBF.out 5 _).trans rfl, HN.out.setc (by omega) _ _⟩
      case measure => simp [intOf]; omega
    · obtain rfl : k = B + 1 := by omega
      have hgt : ¬ (((B + 1 : Nat) : Int) ≤ C.bits) := by have := HB.out; omega
      have hgt2 : decide (((B + 1 : Nat) : Int) ≤ C.bits) = false := decide_eq_false hgt
      clear hbx
      go_wp2
      go_ret
      exact HM.out.post hok HB.out HBX.out hE.size (by have := HSZ.out; omega) (hE.trans' hE0)
end Go.Proofs.YtfhdjekpdifajaaGreat
namespace Go.Proofs.YtfhdjekpdifajaaGreat
set_option linter.unusedVariables false
open Go.RowKit
set_option maxRecDepth 20000 in
set_option maxHeartbeats 8000000 in
theorem RKCopy_c (s t : Nat) (C : Cfg) (B : Nat) (L0 : Nat → RLev) (ls : Nat → List Int) (w : World) (h : RKAt w s t C B L0 ls) :
    Calls Tryz.prog 21 #[.pointer (some ⟨s, 0, none⟩)] w (RKNewPost w C B ls) := by
  have hok := h.ok
  have hb2 := hok.b2
  have hB := h.hB
  have hbd : B ≤ 59 := by omega
  have HB := Lib.hid hB
  have HH := Lib.hid h
  have hls := h.lts
  obtain ⟨cap, hex, hcap⟩ := h.ex
  have c0 := (cell_of hex 0).trans rfl
  have c1 := (cell_of hex 1).trans rfl
  have c2 := (cell_of hex 2).trans rfl
  have c3 := (cell_of hex 3).trans rfl
  have c4 := (cell_of hex 4).trans rfl
  have HEX := Lib.hid hex
  clear hex h hB hb2
  go_enter Tryz.func21, Tryz.ntmps21
  go_wp2_with fail
  clear c0 c1 c2 c3 c4
  go_loopw [4] (fun u4 wr => ∃ (k : Nat) (L : Nat → RLev) (v : Value), k ≤ B + 1 ∧ u4 = .int .i64 k ∧ Ext w wr ∧ wr.heap[w.heap.size]? = some (.cells #[.int .i64 C.bits, .int .i64 C.rows, .int .i64 C.width, .int .i64 C.mode, .int .u64 C.seed, v] 48 (0, 0)) ∧ RMade wr (w.heap.size + 1) C k L ls v) (fun u4 _ => B + 1 - (intOf u4).toNat)
  case atStart => exact ⟨0, fun _ => ⟨0, 0, ⟨0, 0, fun _ => 0, fun _ => 0⟩⟩, _, Nat.zero_le _, rfl, Ext.alloc' _ _, heap_at _ _ rfl, RMade.zero _ _ _ _ _⟩
  case round =>
    obtain ⟨k, L, v, hk, rfl, hE0, hbx, hM⟩ := hrel
    have hHr := HH.out.ext hE0
    have e5 := (cell_of (hE0.keep HEX.out) 5).trans rfl
    have el := hHr.lts
    have hbl := lt_of hbx
    have HBX := Lib.hid hbx
    have HM := Lib.hid hM
    clear hM
    by_cases hlt : k < B + 1
    · have b5 := (cell_of hbx 5).trans rfl
      have ck := hHr.cell (show k ≤ B by omega)
      have lt0 := hHr.ltt
      have HL := Lib.hid (fun W' (hW : Ext wr W') => RLCopy_c (L0 k) C k (ls k) W' ((hHr.lev k (by omega)).ext hW))
      obtain ⟨S, hSS⟩ : ∃ S : Nat → Prop, ∀ i, S i ↔ v.ownBlock = some i := ⟨_, fun _ => Iff.rfl⟩
      have n1 : ¬ S s := fun h => by have := own_blk HM.out.row ((hSS _).1 h); omega
      have n2 : ¬ S w.heap.size := fun h => by have := own_blk HM.out.row ((hSS _).1 h); omega
      have n3 : ¬ S t := fun h => by have := own_blk HM.out.row ((hSS _).1 h); have := HH.out.ltt; omega
      have hkz : (k : Int) < (B : Int) + 1 := by omega
      have HSS := Lib.hid hSS
      clear hbx hSS hHr
      go_wp2_with fail
      have hC0 := afs_drew S wr
      refine pi_start (fun w' => ∃ z : AftS S wr, w' = z.w) [17] (by kernel_rfl) ?_
      refine pi_t 0 rfl (by kernel_rfl) (by kernel_rfl) (fun _ _ _ _ h => h) (fun K hK => ?_)
      go_big_quiet_op
      refine hK _ ?_
      clear hK K
      refine pi_t 1 rfl (by kernel_rfl) (by kernel_rfl) (fun _ _ _ _ h => h) (fun K hK => ?_)
      go_big_quiet_op
      refine hK _ ?_
      clear hK K
      refine pi_t 2 rfl (by kernel_rfl) (by kernel_rfl) (fun _ _ _ _ h => h) (fun K hK => ?_)
      go_big_quiet_op
      refine hK _ ?_
      clear hK K
      refine pi_t 3 rfl (by kernel_rfl) (by kernel_rfl) (fun _ _ _ _ h => h) (fun K hK => ?_)
      go_big_quiet_op
      refine hK _ ?_
      clear hK K
      refine pi_t 5 rfl (by kernel_rfl) (by kernel_rfl) (fun _ _ _ _ h => h) (fun K hK => ?_)
      go_big_quiet_op
      refine hK _ ?_
      clear hK K
      refine pi_t 6 rfl (by kernel_rfl) (by kernel_rfl) (fun _ _ _ _ h => h) (fun K hK => ?_)
      go_big_quiet_op
      refine hK _ ?_
      clear hK K
      refine pi_t 7 rfl (by kernel_rfl) (by kernel_rfl) (fun _ _ _ _ h => h) (fun K hK => ?_)
      go_big_quiet_op
      refine hK _ ?_
      clear hK K
      refine pi_t 9 rfl (by kernel_rfl) (by kernel_rfl) (fun _ _ _ _ h => h) (fun K hK => ?_)
      go_big_quiet_op
      refine hK _ ?_
      clear hK K
      refine pi_c 4 (by assumption) rfl (by kernel_rfl) (by kernel_rfl) (fun _ _ _ _ h => h) (fun K hK => ?_)
      go_big_quiet_op
      refine hK _ ?_
      clear hK K
      refine pi_c 8 (by assumption) rfl (by kernel_rfl) (by kernel_rfl) (fun _ _ _ _ h => h) (fun K hK => ?_)
      go_big_quiet_op
      refine hK _ ?_
      clear hK K
      refine pi_t 10 rfl (by kernel_rfl) (by kernel_rfl) (fun _ _ _ _ h => h) (fun K hK => ?_)
      go_big_quiet_op
      refine hK _ ?_
      clear hK K
      refine pi_c 11 (by assumption) rfl (by kernel_rfl) (by kernel_rfl) (fun _ _ _ _ h => h) (fun K hK => ?_)
      go_big_quiet_op
      refine hK _ ?_
      clear hK K
      refine pi_l 12 rfl (by kernel_rfl) (fun K hK => ?_)
      go_wp2_with (go_at_call 39; refine Calls.mono (HL.out _ (Below.drew (Ext.refl wr))) ?_; rintro e wt ⟨M, rfl, hMv, hMf, hxt⟩)
      have hEt : Ext wr wt := Ext.trans' (Below.drew (Ext.refl wr)) hxt
      refine hK _ _ (fun _ h => afs_step h hxt) ?_
      clear hK K
      have HMV := Lib.hid hMv
      have HMF := Lib.hid (show ∀ j, M.foot C k j → wr.heap.size ≤ j from hMf)
      have HR := Lib.hid (HM.out.ext hEt).row
      have hz := hE0.size
      have hzt := hEt.size
      obtain ⟨i0, z0, hi0, hz0, hz1, hz2, hz3⟩ := info_lp
      clear hMv hMf hxt
      refine pi_l 13 rfl (by kernel_rfl) (fun K hK => ?_)
      go_wp2
      refine hK _ _ (fun _ h => afs_step h (Ext.alloc' _ _)) ?_
      clear hK K
      refine pi_l 14 rfl (by kernel_rfl) (fun K hK => ?_)
      go_wp2_with (at_builtin; refine wpList_appB wt 8 (by decide) (.pointer (some ⟨M.p, 0, none⟩)) rfl (rp L k) v (w.heap.size + 1) 45 HR.out 46 rfl _ _ rfl i0 z0 hi0 hz0 hz1 hz2 hz3 Tryz.underlying46 (by rfl) (by rfl) ?b1 ?b2 ?_)
      case b1 => rw [rp_len]; omega
      case b2 => omega
      intro v' wf g1 g2
      have hEf : Ext w wf := ext_grown (hE0.trans' hEt) g2 (fun i hi => by have := own_blk HR.out hi; omega)
      have hnext := HM.out.next hEt (by omega) HMV.out HMF.out rfl (by rw [List.length_append]; exact g1) g2
      have hbf := (grown_old g2 (show w.heap.size < wt.heap.size by omega) (fun e => by have := own_blk HR.out e.symm; omega)).trans (hEt.keep HBX.out)
      have HN := Lib.hid hnext
      have f5 := frozen_of hbf 5
      have q5 := (cell_of hbf 5).trans rfl
      have ql := lt_of hbf
      have HBF := Lib.hid hbf
      obtain ⟨pv, nv, cv, rfl⟩ := own_slice g1
      have hmf : Mod S wr wf := mod_grown (hEt.mod _) g2 (fun i hi => (HSS.out i).2 hi)
      clear g1 g2 hnext hbf
      go_wp2
      refine hK _ _ (fun _ _ => ⟨⟨wf, hmf⟩, rfl⟩) ?_
      clear hK K
      refine pi_t 15 rfl (by kernel_rfl) (by kernel_rfl) (fun _ _ _ _ h => h) (fun K hK => ?_)
      go_big_quiet_op
      refine hK _ ?_
      clear hK K
      refine pi_t 16 rfl (by kernel_rfl) (by kernel_rfl) (fun _ _ _ _ h => h) (fun K hK => ?_)
      go_big_quiet_op
      refine hK _ ?_
      clear hK K
      refine pi_l 17 rfl (by kernel_rfl) (fun K hK => ?_)
      go_wp2
      refine hK _ _ (by simp) ?_
      clear hK K
      refine pi_end (by kernel_rfl) ?_
      go_wp2_with fail
      go_roundw
      case rel => exact ⟨k + 1, _, _, by omega, by go_num, hEf.setR (p := ⟨w.heap.size, 5, none⟩) (Nat.le_refl _) _, (setCell_same HBF.out 5 _).trans rfl, HN.out.setc (by omega) _ _⟩
      case measure => simp [intOf]; omega
    · obtain rfl : k = B + 1 := by omega
      clear hbx hHr
      go_wp2
      go_ret
      exact HM.out.post hok HB.out HBX.out (Nat.le_refl _) (Nat.le_succ _) hE0
def RKUpdPost (w : World) (s : Nat) (C : Cfg) (B : Nat) (ls : Nat → List Int) (key d : Int) (e : Ending) (w' : World) : Prop :=
  e = .returned (.int .i64 (errK C B ls key d)) ∧ ((errK C B ls key d = 0 ∧ ∃ t L, RKAt w' s t C B L (updK C ls key d) ∧ (∀ k, rkF s t C B L k → k = s ∨ w.heap.size ≤ k) ∧ Mod (fun k => k = s) w w') ∨ (errK C B ls key d ≠ 0 ∧ Ext w w'))
theorem errs_first {C : Cfg} {ls : Nat → List Int} {key d : Int} {n : Nat} (h0 : ∀ m, m < n → lvE C m (ls m) (sh m key) d = 0) (hn : lvE C n (ls n) (sh n key) d ≠ 0) : ∀ {m : Nat}, n < m → errs C ls key d m = lvE C n (ls n) (sh n key) d := by
  intro m hm
  induction m with
  | zero => omega
  | succ m ih =>
    by_cases e : m = n
    · subst e
      show fst_ (errs C ls key d m) _ = _
      rw [errs_zero.2 h0]; rfl
    · show fst_ (errs C ls key d m) _ = _
      rw [ih (by omega)]
      unfold fst_
      rw [decide_eq_false hn]; rfl
theorem errK_neg {C : Cfg} (hok : C.Ok) {B : Nat} (hB : C.bits = B) {ls : Nat → List Int} {key d : Int} (hk0 : 0 ≤ key) (hk : key < keys C 0) (hm : C.mode = 2) (hd : d < 0) : errK C B ls key d = 3 := by
  have h0 : lvE C (0 : Nat) (ls 0) (sh 0 key) d = 3 := by
    have hs : sh 0 key < keys C (0 : Nat) := sh_lt hok (by omega) hk0 hk
    cases hx : isX C (0 : Nat) with
    | true => rw [lvE_x hx]; exact errX_neg hs hm hd
    | false => rw [lvE_s hx]; exact errU_neg hs hm hd
  unfold errK
  rw [decide_eq_false (by omega)]
  show errs C ls key d (B + 1) = 3
  rw [errs_first (n := 0) (fun m hm => by omega) (by rw [h0]; decide) (Nat.succ_pos B), h0]
/-- A stack in which some levels have been told of an update. -/
theorem RKAt.put {w w' : World} {s t : Nat} {C : Cfg} {B : Nat} {L : Nat → RLev} {ls : Nat → List Int} (h : RKAt w s t C B L ls) {n : Nat} (hn : n ≤ B) {l : List Int} (hm : Mod ((L n).foot C n) w w') (hl : RLvAt w' (L n) C n l) : RKAt w' s t C B L (fun m => if m = n then l else ls m) := by
  have ty : ∀ {k : Nat} {cur : Array Value} {T : TypeId} {f : Nat × Nat}, w.heap[k]? = some (.cells cur T f) → (T = 45 ∨ T = 48) → ¬ (L n).foot C n k := fun hb hT hf => by
    have := (h.lev n hn).ty hf hb
    rcases hT with rfl | rfl
    · exact this.1 rfl
    · exact this.2 rfl
  obtain ⟨cap, h1, h2⟩ := h.ex
  obtain ⟨cur, h3, h4⟩ := h.row
  refine ⟨⟨cap, hm.keep h1 (ty h1 (.inr rfl)), h2⟩, ⟨cur, hm.keep h3 (ty h3 (.inl rfl)), h4⟩, fun m hm' => ?_, h.sep, h.ok, h.hB⟩
  by_cases e : m = n
  · subst e; rw [if_pos rfl]; exact hl
  · rw [if_neg e]; exact (h.lev m hm').mod hm (fun k hk hf => h.sep m n hm' hn e k hk hf)
theorem RKAt.cong {w : World} {s t : Nat} {C : Cfg} {B : Nat} {L : Nat → RLev} {ls ls' : Nat → List Int} (h : RKAt w s t C B L ls) (he : ∀ n, n ≤ B → ls n = ls' n) : RKAt w s t C B L ls' :=
  ⟨h.ex, h.row, fun n hn => he n hn ▸ h.lev n hn, h.sep, h.ok, h.hB⟩
def partU (C : Cfg) (ls : Nat → List Int) (key d : Int) (k n : Nat) : List Int := if n < k then updK C ls key d n else ls n
set_option maxRecDepth 20000 in
set_option maxHeartbeats 8000000 in
theorem RKUpdate_c (s t : Nat) (C : Cfg) (B : Nat) (L0 : Nat → RLev) (ls : Nat → List Int) (key d : Int) (w : World) (h : RKAt w s t C B L0 ls) (hk : U64 key) (hd : I64 d) :
    Calls Tryz.prog 27 #[.pointer (some ⟨s, 0, none⟩), .int .u64 key, .int .i64 d] w (RKUpdPost w s C B ls key d) := by
  obtain ⟨hk0, hk1⟩ := hk
  have hok := h.ok
  have hb1 := hok.b1
  have hb2 := hok.b2
  have hB := h.hB
  have hbd : B ≤ 59 := by omega
  have HB := Lib.hid hB
  have HH := Lib.hid h
  have hls := h.lts
  obtain ⟨cap, hex, hcap⟩ := h.ex
  have c0 := (cell_of hex 0).trans rfl
  have c1 := (cell_of hex 1).trans rfl
  have c2 := (cell_of hex 2).trans rfl
  have c3 := (cell_of hex 3).trans rfl
  have c4 := (cell_of hex 4).trans rfl
  have HKY := Lib.hid (fun W' => KeysR_c C hok 0 (Int.le_refl 0) (by omega) W')
  have HD := Lib.hid hd
  have HEX := Lib.hid hex
  clear hex h hB hd
  by_cases hge : keys C 0 ≤ key
  · have he : errK C B ls key d = 2 := by unfold errK; rw [decide_eq_true hge]; rfl
    have hge' : decide (keys C 0 ≤ key) = true := decide_eq_true hge
    unfold RKUpdPost
    rw [he]
    clear he
    go_enter Tryz.func27, Tryz.ntmps27
    go_wp2_with fail
    refine Calls.mono (HKY.out _) ?_
    rintro e w1 ⟨rfl, hx1⟩
    go_wp2
    go_ret
    exact ⟨rfl, by first | exact .inr ⟨by decide, hx1⟩ | exact hx1⟩
  · have hlt : key < keys C 0 := by omega
    have hge' : decide (keys C 0 ≤ key) = false := decide_eq_false hge
    by_cases hmd : C.mode = 2 ∧ d < 0
    · have he : errK C B ls key d = 3 := errK_neg hok HB.out hk0 hlt hmd.1 hmd.2
      obtain ⟨hm, hdn⟩ := hmd
      have hm' : (C.mode == 2) = true := by simpa using hm
      have hdn' : decide (d < 0) = true := decide_eq_true hdn
      unfold RKUpdPost
      rw [he]
      clear he hm
      go_enter Tryz.func27, Tryz.ntmps27
      go_wp2_with fail
      refine Calls.mono (HKY.out _) ?_
      rintro e w1 ⟨rfl, hx1⟩
      have d3 := ((bcell hx1).1 _ _ hls).trans c3
      have dl := Nat.lt_of_lt_of_le hls hx1.size
      go_wp2
      go_ret
      exact ⟨rfl, by first | exact .inr ⟨by decide, hx1⟩ | exact hx1⟩
    · have HNG := Lib.hid hmd
      have herr : errK C B ls key d = errs C ls key d (B + 1) := by unfold errK; rw [hge']; rfl
      have HERR := Lib.hid herr
      clear herr hmd
      go_enter Tryz.func27, Tryz.ntmps27
      go_wp2_with fail
      refine Calls.mono (HKY.out _) ?_
      rintro e w1 ⟨rfl, hx1⟩
      have d3 := ((bcell hx1).1 _ _ hls).trans c3
      have dl := Nat.lt_of_lt_of_le hls hx1.size
      clear c0 c1 c2 c3 c4
      go_upto_region 3 with (fail)
      go_cut [26] (fun s26 wx => s26 = .bool false ∧ wx = w1)
      case first =>
        by_cases hm : C.mode = 2
        · have hm' : (C.mode == 2) = true := by simpa using hm
          have hdn' : decide (d < 0) = false := decide_eq_false (fun h => HNG.out ⟨hm, h⟩)
          have hdn2 : 0 ≤ d := Int.not_lt.mp (fun h => HNG.out ⟨hm, h⟩)
          clear hm
          go_wp2_with fail
          go_meet
          exact ⟨by first | rfl | simp, rfl⟩
        · have hm' : (C.mode == 2) = false := by simpa using hm
          clear hm
          go_wp2_with fail
          go_meet
          exact ⟨rfl, rfl⟩
      case rest =>
        obtain ⟨rfl, rfl⟩ := hcut
        rename World => w1
        clear d3
        have HCP := Lib.hid (RKCopy_c s t C B L0 ls w1 (HH.out.ext hx1))
        go_wp2_with fail
        refine Calls.mono HCP.out ?_
        rintro e w2 ⟨a, t2, L2, rfl, hK2, hF2, hx2⟩
        have HF2 := Lib.hid (show ∀ k, rkF a t2 C B L2 k → w1.heap.size ≤ k from hF2)
        have HK2 : Hid (RKAt w2 a t2 C B L2 (partU C ls key d 0)) := Lib.hid (hK2.cong (fun n _ => by unfold partU; rw [if_neg (Nat.not_lt_zero _)]))
        have hE2 := hx1.trans' hx2
        have hz1 := hx1.size
        clear hK2 hF2 hx2 hx1 dl
        go_wp2_with fail
        go_loopw [8] (fun u8 wr => ∃ k : Nat, k ≤ B + 1 ∧ u8 = .int .i64 k ∧ RKAt wr a t2 C B L2 (partU C ls key d k) ∧ Ext w wr ∧ ∀ m, m < k → lvE C m (ls m) (sh m key) d = 0) (fun u8 _ => B + 1 - (intOf u8).toNat)
        case atStart => exact ⟨0, Nat.zero_le _, rfl, HK2.out, hE2, fun m hm => absurd hm (Nat.not_lt_zero _)⟩
        case round =>
          clear hE2
          obtain ⟨k, hk, rfl, hK, hE, hz⟩ := hrel
          have HZ := Lib.hid hz
          have HK := Lib.hid hK
          have e5 := (cell_of (hE.keep HEX.out) 5).trans rfl
          have el := Nat.lt_of_lt_of_le hls hE.size
          obtain ⟨cap2, hex2, hcap2⟩ := hK.ex
          have a5 := (cell_of hex2 5).trans rfl
          have al := lt_of hex2
          have ltt := hK.ltt
          by_cases hlt2 : k < B + 1
          · have ck := hK.cell (show k ≤ B by omega)
            have hlk := hK.lev k (by omega)
            have hpk : partU C ls key d k k = ls k := by unfold partU; rw [if_neg (Nat.lt_irrefl _)]
            rw [hpk] at hlk
            have hs0 : 0 ≤ sh k key := sh_nn hk0 k
            have hs1 : sh k key < keys C k := sh_lt hok (by have := HB.out; omega) hk0 hlt
            have hs2 := keys_bd C hok k (Int.natCast_nonneg k)
            have hcall : Calls Tryz.prog 40 #[.pointer (some ⟨(L2 k).p, 0, none⟩), .int .u64 (key / 2 ^ k), .int .i64 d] wr (RLUpdPost wr (L2 k) C k (ls k) (sh k key) d) := RLUpdate_c (L2 k) C k (ls k) (sh k key) d wr hlk (by unfold U64; omega) HD.out
            have HCALL := Lib.hid hcall
            have hkz : (k : Int) < (B : Int) + 1 := by omega
            have hk63 : k ≤ 63 := by omega
            clear hz hK hex2 hlk hpk hs0 hs1 hs2 hcall
            go_wp2_with fail
            refine Calls.mono HCALL.out ?_
            rintro e w5 ⟨rfl, hres⟩
            have HRES := Lib.hid hres
            clear hres HCALL
            by_cases he : lvE C k (ls k) (sh k key) d = 0
            · obtain ⟨_, hl5, hM5⟩ := HRES.out.resolve_right (fun h => h.1 he)
              have HL5 := Lib.hid hl5
              have hput := HK.out.put (show k ≤ B by omega) hM5 hl5
              have hE5 : Ext w w5 := Below.trans hE (hM5.below (B := w.heap.size) hE.size (fun j hj => by have := HF2.out j (.inr (.inr ⟨k, by omega, hj⟩)); omega))
              have HPUT : Hid (RKAt w5 a t2 C B L2 (partU C ls key d (k + 1))) := Lib.hid (hput.cong (fun n _ => by
                unfold partU
                by_cases e : n = k
                · subst e; rw [if_pos rfl, if_pos (Nat.lt_succ_self _)]; rfl
                · rw [if_neg e]
                  by_cases e2 : n < k
                  · rw [if_pos e2, if_pos (by omega)]
                  · rw [if_neg e2, if_neg (by omega)]))
              have HE0 := Lib.hid he
              rw [he]
              clear hl5 hM5 hput he HRES
              go_wp2
              go_roundw
              case rel =>
                refine ⟨k + 1, by omega, by go_num, HPUT.out, hE5, fun m hm => ?_⟩
                by_cases e : m = k
                · rw [e]; exact HE0.out
                · exact HZ.out m (by omega)
              case measure => simp [intOf]; omega
            · obtain ⟨_, hx5⟩ := HRES.out.resolve_left (fun h => he h.1)
              have hfin : errK C B ls key d = lvE C k (ls k) (sh k key) d := by rw [HERR.out]; exact errs_first HZ.out he (by omega)
              clear HRES
              generalize lvE C k (ls k) (sh k key) d = er at *
              have HFIN := Lib.hid hfin
              have HE0 := Lib.hid he
              have heb : (er != 0) = true := by simpa using he
              have hEf := hE.trans' hx5
              clear he hfin
              go_wp2
              go_ret
              exact ⟨by rw [HFIN.out]; rfl, .inr ⟨by rw [HFIN.out]; exact HE0.out, hEf⟩⟩
          · obtain rfl : k = B + 1 := by omega
            have fe := frozen_of (hE.keep HEX.out) 5
            have HEXR := Lib.hid (hE.keep HEX.out)
            have h0 : errK C B ls key d = 0 := by rw [HERR.out]; exact errs_zero.2 HZ.out
            have H0 := Lib.hid h0
            clear hz hK hex2 h0
            go_wp2
            go_ret
            refine ⟨by rw [H0.out]; rfl, .inl ⟨H0.out, t2, L2, ⟨⟨cap2, (setCell_same HEXR.out 5 _).trans rfl, hcap2⟩, ?_, fun n hn => ?_, HK.out.sep, hok, HB.out⟩, ?_, (hE.mod _).trans (mod_set _ _ _ _)⟩⟩
            · obtain ⟨cur, h3, h4⟩ := HK.out.row
              exact ⟨cur, (setCell_other _ _ (by have := HF2.out t2 (.inr (.inl rfl)); omega)).trans h3, h4⟩
            · have hl := HK.out.lev n hn
              have hp : partU C ls key d (B + 1) n = updK C ls key d n := by unfold partU; rw [if_pos (by omega)]
              rw [hp] at hl
              exact hl.keep (fun j hj => setCell_other _ _ (by have := HF2.out j (.inr (.inr ⟨n, hn, hj⟩)); omega))
            · rintro j (rfl | rfl | ⟨n, hn, hj⟩)
              · exact .inl rfl
              · exact .inr (by have := HF2.out j (.inr (.inl rfl)); omega)
              · exact .inr (by have := HF2.out j (.inr (.inr ⟨n, hn, hj⟩)); omega)
end Go.Proofs.YtfhdjekpdifajaaGreat
namespace Go.Proofs.YtfhdjekpdifajaaGreat
set_option linter.unusedVariables false
open Go.RowKit
/-- What a stack answers of a piece. -/
def ptP (C : Cfg) (B : Nat) (ls : Nat → List Int) (lv key x r : Int) : Prop :=
  ((lv < 0 ∨ (B : Int) < lv) ∧ x = 0 ∧ r = 2) ∨ ∃ n : Nat, lv = n ∧ n ≤ B ∧ ptA C n (ls n) key x r
set_option maxRecDepth 20000 in
set_option maxHeartbeats 8000000 in
theorem RKPoint_c (s t : Nat) (C : Cfg) (B : Nat) (L : Nat → RLev) (ls : Nat → List Int) (lv key : Int) (hlv : I64 lv) (hk : U64 key) (w : World) (h : RKAt w s t C B L ls) :
    Calls Tryz.prog 19 #[.pointer (some ⟨s, 0, none⟩), .agg #[.int .i64 lv, .int .u64 key]] w fun e w' => ∃ x r, e = .returned (.tuple #[.int .i64 x, .int .i64 r]) ∧ ptP C B ls lv key x r ∧ Ext w w' := by
  obtain ⟨w0, hw0⟩ : ∃ w0, w.alloc (.cells #[.int .i64 lv, .int .u64 key] 39) = w0 := ⟨_, rfl⟩
  have hz0 : w0.heap[w.heap.size]? = some (.cells #[.int .i64 lv, .int .u64 key] 39 (0, 0)) := by rw [← hw0]; exact heap_at _ _ rfl
  have hE0 : Ext w w0 := by rw [← hw0]; exact Ext.alloc' _ _
  have h' := h.ext hE0
  obtain ⟨cap, hex, hcap⟩ := h'.ex
  have c5 := (cell_of hex 5).trans rfl
  have hls := lt_of hex
  have p0 := (cell_of hz0 0).trans rfl
  have p1 := (cell_of hz0 1).trans rfl
  have pl := lt_of hz0
  have hbd : B ≤ 59 := by have := h.hB; have := h.ok.b2; omega
  have H := Lib.hid h'
  clear hex h' h hz0
  by_cases hneg : lv < 0
  · have hn' := decide_eq_true hneg
    go_enter Tryz.func19, Tryz.ntmps19
    go_upto_region 1 with (fail)
    try rw [hw0]
    go_wp2_with fail
    have hC0 := af_drew w0
    refine pi_start (fun w' => ∃ z : After w0, w' = z.w) [] (by kernel_rfl) ?_
    refine pi_t 0 rfl (by kernel_rfl) (by kernel_rfl) (fun _ _ _ _ h => h) (fun K hK => ?_)
    go_big_quiet_op
    refine hK _ ?_
    clear hK K
    refine pi_c 1 (by assumption) rfl (by kernel_rfl) (by kernel_rfl) (fun _ _ _ _ h => h) (fun K hK => ?_)
    go_big_quiet_op
    refine hK _ ?_
    clear hK K
    refine pi_t 2 rfl (by kernel_rfl) (by kernel_rfl) (fun _ _ _ _ h => h) (fun K hK => ?_)
    go_big_quiet_op
    refine hK _ ?_
    clear hK K
    refine pi_t 3 rfl (by kernel_rfl) (by kernel_rfl) (fun _ _ _ _ h => h) (fun K hK => ?_)
    go_big_quiet_op
    refine hK _ ?_
    clear hK K
    refine pi_no 4 rfl (by kernel_rfl) (by kernel_rfl) (fun _ _ _ _ h => h) ?_
    simp only [Act.put, List.setIfInBounds_toArray, List.set_cons_zero, List.set_cons_succ]
    refine pi_no 5 rfl (by kernel_rfl) (by kernel_rfl) (fun _ _ _ _ h => h) ?_
    simp only [Act.put, List.setIfInBounds_toArray, List.set_cons_zero, List.set_cons_succ]
    refine pi_no 6 rfl (by kernel_rfl) (by kernel_rfl) (fun _ _ _ _ h => h) ?_
    simp only [Act.put, List.setIfInBounds_toArray, List.set_cons_zero, List.set_cons_succ]
    refine pi_no 7 rfl (by kernel_rfl) (by kernel_rfl) (fun _ _ _ _ h => h) ?_
    simp only [Act.put, List.setIfInBounds_toArray, List.set_cons_zero, List.set_cons_succ]
    refine pi_no 8 rfl (by kernel_rfl) (by kernel_rfl) (fun _ _ _ _ h => h) ?_
    simp only [Act.put, List.setIfInBounds_toArray, List.set_cons_zero, List.set_cons_succ]
    refine pi_no 9 rfl (by kernel_rfl) (by kernel_rfl) (fun _ _ _ _ h => h) ?_
    simp only [Act.put, List.setIfInBounds_toArray, List.set_cons_zero, List.set_cons_succ]
    refine pi_no 10 rfl (by kernel_rfl) (by kernel_rfl) (fun _ _ _ _ h => h) ?_
    simp only [Act.put, List.setIfInBounds_toArray, List.set_cons_zero, List.set_cons_succ]
    refine pi_no 11 rfl (by kernel_rfl) (by kernel_rfl) (fun _ _ _ _ h => h) ?_
    simp only [Act.put, List.setIfInBounds_toArray, List.set_cons_zero, List.set_cons_succ]
    refine pi_t 12 rfl (by kernel_rfl) (by kernel_rfl) (fun _ _ _ _ h => h) (fun K hK => ?_)
    go_big_quiet_op
    refine hK _ ?_
    clear hK K
    refine pi_end (by kernel_rfl) ?_
    go_wp2
    go_ret2
    exact ⟨0, 2, rfl, .inl ⟨.inl hneg, rfl, rfl⟩, hE0.drewR⟩
  · have hn' := decide_eq_false hneg
    obtain ⟨n, rfl⟩ : ∃ n : Nat, lv = n := ⟨lv.toNat, by omega⟩
    by_cases hbig : n ≤ B
    · have hg' : decide ((B : Int) + 1 ≤ n) = false := decide_eq_false (by omega)
      have hlev := H.out.lev n hbig
      have ck := H.out.cell hbig
      have ltt := H.out.ltt
      have HP := Lib.hid (fun W' (hE : Ext w0 W') => RLPoint_c (L n) C n (ls n) key W' (hlev.ext hE) hk)
      clear hlev hneg
      go_enter Tryz.func19, Tryz.ntmps19
      go_upto_region 1 with (fail)
      try rw [hw0]
      go_wp2_with fail
      have hC0 := af_drew w0
      refine pi_start (fun w' => ∃ z : After w0, w' = z.w) [] (by kernel_rfl) ?_
      refine pi_t 0 rfl (by kernel_rfl) (by kernel_rfl) (fun _ _ _ _ h => h) (fun K hK => ?_)
      go_big_quiet_op
      refine hK _ ?_
      clear hK K
      refine pi_c 1 (by assumption) rfl (by kernel_rfl) (by kernel_rfl) (fun _ _ _ _ h => h) (fun K hK => ?_)
      go_big_quiet_op
      refine hK _ ?_
      clear hK K
      refine pi_t 2 rfl (by kernel_rfl) (by kernel_rfl) (fun _ _ _ _ h => h) (fun K hK => ?_)
      go_big_quiet_op
      refine hK _ ?_
      clear hK K
      refine pi_t 3 rfl (by kernel_rfl) (by kernel_rfl) (fun _ _ _ _ h => h) (fun K hK => ?_)
      go_big_quiet_op
      refine hK _ ?_
      clear hK K
      refine pi_t 4 rfl (by kernel_rfl) (by kernel_rfl) (fun _ _ _ _ h => h) (fun K hK => ?_)
      go_big_quiet_op
      refine hK _ ?_
      clear hK K
      refine pi_t 6 rfl (by kernel_rfl) (by kernel_rfl) (fun _ _ _ _ h => h) (fun K hK => ?_)
      go_big_quiet_op
      refine hK _ ?_
      clear hK K
      refine pi_t 7 rfl (by kernel_rfl) (by kernel_rfl) (fun _ _ _ _ h => h) (fun K hK => ?_)
      go_big_quiet_op
      refine hK _ ?_
      clear hK K
      refine pi_t 8 rfl (by kernel_rfl) (by kernel_rfl) (fun _ _ _ _ h => h) (fun K hK => ?_)
      go_big_quiet_op
      refine hK _ ?_
      clear hK K
      refine pi_c 5 (by assumption) rfl (by kernel_rfl) (by kernel_rfl) (fun _ _ _ _ h => h) (fun K hK => ?_)
      go_big_quiet_op
      refine hK _ ?_
      clear hK K
      refine pi_c 9 (by assumption) rfl (by kernel_rfl) (by kernel_rfl) (fun _ _ _ _ h => h) (fun K hK => ?_)
      go_big_quiet_op
      refine hK _ ?_
      clear hK K
      refine pi_t 10 rfl (by kernel_rfl) (by kernel_rfl) (fun _ _ _ _ h => h) (fun K hK => ?_)
      go_big_quiet_op
      refine hK _ ?_
      clear hK K
      refine pi_t 11 rfl (by kernel_rfl) (by kernel_rfl) (fun _ _ _ _ h => h) (fun K hK => ?_)
      go_big_quiet_op
      refine hK _ ?_
      clear hK K
      refine pi_t 12 rfl (by kernel_rfl) (by kernel_rfl) (fun _ _ _ _ h => h) (fun K hK => ?_)
      go_big_quiet_op
      refine hK _ ?_
      clear hK K
      refine pi_end (by kernel_rfl) ?_
      go_wp2_with fail
      have hC0 : ∃ z : After w0, w0.drew.drew = z.w := ⟨⟨_, (Ext.refl w0).drewR.drewR⟩, rfl⟩
      refine pi_start (fun w' => ∃ z : After w0, w' = z.w) [] (by kernel_rfl) ?_
      refine pi_t 0 rfl (by kernel_rfl) (by kernel_rfl) (fun _ _ _ _ h => h) (fun K hK => ?_)
      go_big_quiet_op
      refine hK _ ?_
      clear hK K
      refine pi_t 1 rfl (by kernel_rfl) (by kernel_rfl) (fun _ _ _ _ h => h) (fun K hK => ?_)
      go_big_quiet_op
      refine hK _ ?_
      clear hK K
      refine pi_t 2 rfl (by kernel_rfl) (by kernel_rfl) (fun _ _ _ _ h => h) (fun K hK => ?_)
      go_big_quiet_op
      refine hK _ ?_
      clear hK K
      refine pi_t 4 rfl (by kernel_rfl) (by kernel_rfl) (fun _ _ _ _ h => h) (fun K hK => ?_)
      go_big_quiet_op
      refine hK _ ?_
      clear hK K
      refine pi_t 8 rfl (by kernel_rfl) (by kernel_rfl) (fun _ _ _ _ h => h) (fun K hK => ?_)
      go_big_quiet_op
      refine hK _ ?_
      clear hK K
      refine pi_c 3 (by assumption) rfl (by kernel_rfl) (by kernel_rfl) (fun _ _ _ _ h => h) (fun K hK => ?_)
      go_big_quiet_op
      refine hK _ ?_
      clear hK K
      refine pi_c 5 (by assumption) rfl (by kernel_rfl) (by kernel_rfl) (fun _ _ _ _ h => h) (fun K hK => ?_)
      go_big_quiet_op
      refine hK _ ?_
      clear hK K
      refine pi_t 6 rfl (by kernel_rfl) (by kernel_rfl) (fun _ _ _ _ h => h) (fun K hK => ?_)
      go_big_quiet_op
      refine hK _ ?_
      clear hK K
      refine pi_c 7 (by assumption) rfl (by kernel_rfl) (by kernel_rfl) (fun _ _ _ _ h => h) (fun K hK => ?_)
      go_big_quiet_op
      refine hK _ ?_
      clear hK K
      refine pi_c 9 (by assumption) rfl (by kernel_rfl) (by kernel_rfl) (fun _ _ _ _ h => h) (fun K hK => ?_)
      go_big_quiet_op
      refine hK _ ?_
      clear hK K
      refine pi_l 10 rfl (by kernel_rfl) (fun K hK => ?_)
      go_wp2_with (go_at_call 38; refine (HP.out _ (Ext.refl w0).drewR.drewR).mono ?_; rintro e w1 ⟨x, r, rfl, hp, hx1⟩)
      have hE1 : Ext w0 w1 := Ext.trans' (Ext.refl w0).drewR.drewR hx1
      refine hK _ _ (fun _ h => af_step h hx1) ?_
      clear hK K
      refine pi_t 11 rfl (by kernel_rfl) (by kernel_rfl) (fun _ _ _ _ h => h) (fun K hK => ?_)
      go_big_quiet_op
      refine hK _ ?_
      clear hK K
      refine pi_t 12 rfl (by kernel_rfl) (by kernel_rfl) (fun _ _ _ _ h => h) (fun K hK => ?_)
      go_big_quiet_op
      refine hK _ ?_
      clear hK K
      refine pi_t 13 rfl (by kernel_rfl) (by kernel_rfl) (fun _ _ _ _ h => h) (fun K hK => ?_)
      go_big_quiet_op
      refine hK _ ?_
      clear hK K
      refine pi_t 14 rfl (by kernel_rfl) (by kernel_rfl) (fun _ _ _ _ h => h) (fun K hK => ?_)
      go_big_quiet_op
      refine hK _ ?_
      clear hK K
      refine pi_end (by kernel_rfl) ?_
      have HPT := Lib.hid hp
      clear hp
      go_wp2
      go_ret2
      exact ⟨x, r, rfl, .inr ⟨n, rfl, hbig, HPT.out⟩, hE0.trans' hE1⟩
    · have hg' : decide ((B : Int) + 1 ≤ n) = true := decide_eq_true (by omega)
      go_enter Tryz.func19, Tryz.ntmps19
      go_upto_region 1 with (fail)
      try rw [hw0]
      go_wp2_with fail
      have hC0 := af_drew w0
      refine pi_start (fun w' => ∃ z : After w0, w' = z.w) [] (by kernel_rfl) ?_
      refine pi_t 0 rfl (by kernel_rfl) (by kernel_rfl) (fun _ _ _ _ h => h) (fun K hK => ?_)
      go_big_quiet_op
      refine hK _ ?_
      clear hK K
      refine pi_c 1 (by assumption) rfl (by kernel_rfl) (by kernel_rfl) (fun _ _ _ _ h => h) (fun K hK => ?_)
      go_big_quiet_op
      refine hK _ ?_
      clear hK K
      refine pi_t 2 rfl (by kernel_rfl) (by kernel_rfl) (fun _ _ _ _ h => h) (fun K hK => ?_)
      go_big_quiet_op
      refine hK _ ?_
      clear hK K
      refine pi_t 3 rfl (by kernel_rfl) (by kernel_rfl) (fun _ _ _ _ h => h) (fun K hK => ?_)
      go_big_quiet_op
      refine hK _ ?_
      clear hK K
      refine pi_t 4 rfl (by kernel_rfl) (by kernel_rfl) (fun _ _ _ _ h => h) (fun K hK => ?_)
      go_big_quiet_op
      refine hK _ ?_
      clear hK K
      refine pi_t 6 rfl (by kernel_rfl) (by kernel_rfl) (fun _ _ _ _ h => h) (fun K hK => ?_)
      go_big_quiet_op
      refine hK _ ?_
      clear hK K
      refine pi_t 7 rfl (by kernel_rfl) (by kernel_rfl) (fun _ _ _ _ h => h) (fun K hK => ?_)
      go_big_quiet_op
      refine hK _ ?_
      clear hK K
      refine pi_t 8 rfl (by kernel_rfl) (by kernel_rfl) (fun _ _ _ _ h => h) (fun K hK => ?_)
      go_big_quiet_op
      refine hK _ ?_
      clear hK K
      refine pi_c 5 (by assumption) rfl (by kernel_rfl) (by kernel_rfl) (fun _ _ _ _ h => h) (fun K hK => ?_)
      go_big_quiet_op
      refine hK _ ?_
      clear hK K
      refine pi_c 9 (by assumption) rfl (by kernel_rfl) (by kernel_rfl) (fun _ _ _ _ h => h) (fun K hK => ?_)
      go_big_quiet_op
      refine hK _ ?_
      clear hK K
      refine pi_t 10 rfl (by kernel_rfl) (by kernel_rfl) (fun _ _ _ _ h => h) (fun K hK => ?_)
      go_big_quiet_op
      refine hK _ ?_
      clear hK K
      refine pi_t 11 rfl (by kernel_rfl) (by kernel_rfl) (fun _ _ _ _ h => h) (fun K hK => ?_)
      go_big_quiet_op
      refine hK _ ?_
      clear hK K
      refine pi_t 12 rfl (by kernel_rfl) (by kernel_rfl) (fun _ _ _ _ h => h) (fun K hK => ?_)
      go_big_quiet_op
      refine hK _ ?_
      clear hK K
      refine pi_end (by kernel_rfl) ?_
      go_wp2
      go_ret2
      exact ⟨0, 2, rfl, .inl ⟨.inr (by omega), rfl, rfl⟩, hE0.drewR⟩
end Go.Proofs.YtfhdjekpdifajaaGreat
namespace Go.Proofs.YtfhdjekpdifajaaGreat
set_option linter.unusedVariables false
open Go.RowKit
attribute [local go_sem] Oper.semAt_some
/-- A slice of pieces that lies below a block. -/
def PcsAt (n₀ : Nat) (W : World) (v : Value) (ps : List (Nat × Int)) : Prop :=
  (v = .slice none 0 0 ∧ ps = []) ∨ ∃ g cap, v = .slice (some ⟨g, 0, none⟩) ps.length cap ∧ g < n₀ ∧ PCells W g 0 ps
theorem PcsAt.below {n₀ : Nat} {A B : World} {v : Value} {ps : List (Nat × Int)} (h : PcsAt n₀ A v ps) (hb : Below n₀ A B) : PcsAt n₀ B v ps := by
  rcases h with h | ⟨g, cap, h1, h2, h3⟩
  · exact .inl h
  · exact .inr ⟨g, cap, h1, h2, fun k hk => ⟨(hb.cell (p := ⟨g, _, none⟩) h2).trans (h3 k hk).1, (hb.cell (p := ⟨g, _, none⟩) h2).trans (h3 k hk).2⟩⟩
theorem PcsAt.of_own {w : World} {base n₀ : Nat} {e : TypeId} {v : Value} {ps : List (Nat × Int)} (h : w.ownsRow base e 2 v ps.length (pcV ps)) (hn : w.heap.size ≤ n₀) : PcsAt n₀ w v ps := by
  rcases h.2 with ⟨h1, h2⟩ | ⟨g, cap, cur, rfl, _, hh, hc, _, hs, ht⟩
  · exact .inl ⟨h1, List.length_eq_zero_iff.1 h2⟩
  · refine .inr ⟨g, cap, rfl, Nat.lt_of_lt_of_le (lt_of hh) hn, fun k hk => ?_⟩
    obtain ⟨a1, a2⟩ := pcV_at hk
    rw [← ht] at a1 a2
    rw [List.getElem?_take_of_lt (by omega)] at a1 a2
    simp only [Array.getElem?_toList] at a1 a2
    rw [cell_of hh, cell_of hh, Nat.zero_add]
    exact ⟨a1, a2⟩
def pcEnc (ps : List (Nat × Int)) (x : {p : Nat × Int // p ∈ ps}) : Array Value := #[.agg #[.int .i64 (x.1.1 : Int), .int .u64 x.1.2]]
theorem getD_in {ps : List (Nat × Int)} {k : Nat} (h : k < ps.length) : ps.getD k (0, 0) ∈ ps := by simp [h]
set_option maxRecDepth 100000 in
set_option maxHeartbeats 2000000 in
theorem values1_in (n l Bs n₀ g cap : Nat) (ps : List (Nat × Int)) (hg : g < n₀) (hl : ps.length ≤ 1000000) (J Jx : List {p : Nat × Int // p ∈ ps} → World → Prop)
    (W : World) (hW : n₀ ≤ W.heap.size) (hJ : AbidesFrom W.heap.size J)
    (hY : ∀ pre x W, J pre W → pre.length < ps.length → YieldAt Fence.wide (n - 1) Tryz.prog l (pcEnc ps x) W fun e W' =>
      (e = .returned (.bool true) ∧ J (pre ++ [x]) W' ∧ Below n₀ W W') ∨ (e = .returned (.bool false) ∧ Jx (pre ++ [x]) W'))
    (hBs : W.cell? ⟨Bs, 0, none⟩ = some (.slice (some ⟨g, 0, none⟩) ps.length cap)) (hc : PCells W g 0 ps) (h0 : J [] W) :
    CallsIn Fence.wide n Tryz.prog 216 #[.func (.yield l) #[] #[], .pointer (some ⟨Bs, 0, none⟩)] W fun e W' => (∃ v, e = .returned v) ∧
      ((∃ ys, ys.map (fun x : {p : Nat × Int // p ∈ ps} => x.1) = ps ∧ J ys W') ∨ (∃ pre, True ∧ Jx pre W')) := by
  refine callsIn_of_wp Tryz.func216 rfl trivial ?_ rfl
  simp only [Tryz.ntmps216, List.size_toArray, List.length_cons, List.length_nil, Nat.reduceAdd, Nat.reduceSub, Array.replicate_succ, Array.replicate_zero, List.push_toArray, List.append_toArray, List.nil_append, List.cons_append]
  gi_wp2
  generalize hn : ps.length = m at *
  have HN := Lib.hid hn
  clear hn
  gi_loopw [7] (fun i wr => ∃ (k : Nat) (pre : List {p : Nat × Int // p ∈ ps}), k ≤ m ∧ i = .int .i64 k ∧ pre.map (fun x : {p : Nat × Int // p ∈ ps} => x.1) = ps.take k ∧ J pre wr ∧ Below n₀ W wr)
    (fun i _ => m - (intOf i).toNat)
  case atStart => exact ⟨0, [], Nat.zero_le _, rfl, rfl, h0, Below.refl _ _⟩
  case round =>
    obtain ⟨k, pre, hk, rfl, hpre, hJs, hnx⟩ := hrel
    have hlen : pre.length = k := by
      have := congrArg List.length hpre
      rw [List.length_map, List.length_take, HN.out] at this
      omega
    by_cases hlt : k < m
    · have hkp : k < ps.length := by rw [HN.out]; exact hlt
      have hgw : g < wr.heap.size := by have := hnx.size; omega
      obtain ⟨d0, d1⟩ := hc k hkp
      rw [Nat.zero_add] at d0 d1
      have c0 := (hnx.cell (p := ⟨g, k * 2, none⟩) hg).trans d0
      have c1 := (hnx.cell (p := ⟨g, k * 2 + 1, none⟩) hg).trans d1
      have hmem := getD_in hkp
      have htk : ps.take (k + 1) = ps.take k ++ [ps.getD k (0, 0)] := by
        rw [List.take_succ_eq_append_getElem hkp]; simp [hkp]
      generalize ps.getD k (0, 0) = p at *
      obtain ⟨p1, p2⟩ := p
      dsimp only at c0 c1 d0 d1
      have hJn : J pre (wr.alloc (.cells #[.int .i64 (p1 : Int), .int .u64 p2] 39)) := hJ pre wr _ none hJs (World.grownBy_alloc wr _ none) (fun r e => by cases e)
      obtain ⟨fn, tmps, assign, body, hy, hR⟩ := hY pre ⟨(p1, p2), hmem⟩ _ hJn (by omega)
      have hbel : Below n₀ W (wr.alloc (.cells #[.int .i64 (p1 : Int), .int .u64 p2] 39)) := hnx.alloc (by have := hnx.size; omega) _
      dsimp only [pcEnc] at hy
      gi_wp2
      refine ⟨fun h => (by cases h), hR.mono ?_⟩
      rintro e W3 (⟨rfl, hJ3, hk3⟩ | ⟨rfl, hJx3⟩)
      · gi_wp2
        go_roundw
        case rel => exact ⟨k + 1, pre ++ [⟨(p1, p2), hmem⟩], by omega, by simp, by rw [List.map_append, hpre, htk]; rfl, hJ3, hbel.trans hk3⟩
        case measure => simp [intOf]; omega
      · gi_wp2
        refine bodyPost_ret (results_none rfl _ _ _) rfl ?_
        exact ⟨⟨_, rfl⟩, .inr ⟨_, trivial, hJx3⟩⟩
    · obtain rfl : k = m := by omega
      gi_wp2
      go_end0
      exact ⟨⟨_, rfl⟩, .inl ⟨pre, by rw [hpre, ← HN.out, List.take_length], hJs⟩⟩
set_option maxRecDepth 100000 in
set_option maxHeartbeats 1000000 in
theorem values1_nil (n l Bs : Nat) (J : List {p : Nat × Int // p ∈ ([] : List (Nat × Int))} → World → Prop) (W : World) (hBs : W.cell? ⟨Bs, 0, none⟩ = some (.slice none 0 0)) (h0 : J [] W) :
    CallsIn Fence.wide n Tryz.prog 216 #[.func (.yield l) #[] #[], .pointer (some ⟨Bs, 0, none⟩)] W fun e W' => (∃ v, e = .returned v) ∧ J [] W' := by
  refine callsIn_of_wp Tryz.func216 rfl trivial ?_ rfl
  simp only [Tryz.ntmps216, List.size_toArray, List.length_cons, List.length_nil, Nat.reduceAdd, Nat.reduceSub, Array.replicate_succ, Array.replicate_zero, List.push_toArray, List.append_toArray, List.nil_append, List.cons_append]
  gi_wp2
  gi_loopw [7] (fun i wr => i = .int .i64 0 ∧ J [] wr) (fun _ _ => 0)
  case atStart => exact ⟨rfl, h0⟩
  case round =>
    obtain ⟨rfl, hJs⟩ := hrel
    gi_wp2
    go_end0
    exact ⟨⟨_, rfl⟩, hJs⟩
theorem Values_c (p : Option Addr) (n c : Nat) (w : World) :
    Calls Tryz.prog 188 #[.slice p n c] w fun e w' => e = .returned (.func (.func 216) #[] #[.pointer (some ⟨w.heap.size, 0, none⟩)]) ∧
      w' = w.alloc (.cells #[.slice p n c] 165) := by
  have hmf : ∀ (fn : Fn) (first cap : Array Value) (w : World), (Instr.makeFunc fn first cap).run Tryz.prog w = .ok (.func fn first cap) w := fun _ _ _ _ => rfl
  go_enter Tryz.func188, Tryz.ntmps188
  go_wp2
  go_ret
  exact ⟨rfl, rfl⟩
theorem values_stops (n Bs n₀ : Nat) (sv : Value) (ps : List (Nat × Int)) (hl : ps.length ≤ 1000000) (w : World) (hBs : Bs < w.heap.size) (hn₀ : n₀ ≤ w.heap.size)
    (hc : w.cell? ⟨Bs, 0, none⟩ = some sv) (hI : PcsAt n₀ w sv ps) :
    SeqStopsK Fence.wide n Tryz.prog 216 #[.pointer (some ⟨Bs, 0, none⟩)] (pcEnc ps) (Below n₀) (fun ys => ys.map (fun x : {p : Nat × Int // p ∈ ps} => x.1) = ps) (fun _ => True) ps.length w := by
  intro l J Jx W hW hJ hJx hY h0
  have hc' := (hW.cell (p := ⟨Bs, 0, none⟩) hBs).trans hc
  have hsz := hW.size
  rcases hI.below (hW.mono hn₀) with ⟨rfl, hp⟩ | ⟨g, cap, rfl, hg, hcs⟩
  · subst hp
    exact (values1_nil n l Bs J W hc' h0).mono fun e W' ⟨he, hj⟩ => ⟨he, .inl ⟨[], rfl, hj⟩⟩
  · exact values1_in n l Bs n₀ g cap ps hg hl J Jx W (by omega) hJ hY hc' hcs h0
end Go.Proofs.YtfhdjekpdifajaaGreat
namespace Go.Proofs.YtfhdjekpdifajaaGreat
set_option linter.unusedVariables false
open Go.RowKit
attribute [local go_sem] Oper.semAt_some
/-- What Point tells is one number. -/
def Uniq (C : Cfg) (B : Nat) (ls : Nat → List Int) (pt : Nat → Int → Int) : Prop := ∀ (n : Nat) (i x : Int), n ≤ B → 0 ≤ i → i < keys C n → lvPt C n (ls n) i x → x = pt n i
def cvV (pt : Nat → Int → Int) (B : Nat) (lo hi : Int) : List Int := (covL B 0 lo hi).map fun p => pt p.1 p.2
def PartsPost (w : World) (B : Nat) (pt : Nat → Int → Int) (lo hi : Int) (e : Ending) (w' : World) : Prop :=
  (hi < lo ∧ e = .returned (.tuple #[.slice none 0 0, .int .i64 1]) ∧ Ext w w') ∨
  ((lo ≤ hi ∧ 2 ^ B ≤ hi) ∧ e = .returned (.tuple #[.slice none 0 0, .int .i64 2]) ∧ Ext w w') ∨
  ((lo ≤ hi ∧ hi < 2 ^ B) ∧ ∃ v, e = .returned (.tuple #[v, .int .i64 0]) ∧ w'.ownsRow w.heap.size 2 1 v (cvV pt B lo hi).length (ints (cvV pt B lo hi)) ∧ Ext w w')
set_option maxRecDepth 20000 in
set_option maxHeartbeats 1000000 in
/-- The closure that asks for a piece. -/
theorem PartsAsk_c (s g : Nat) (C : Cfg) (B : Nat) (L : Nat → Lev) (ls : Nat → List Int) (pt : Nat → Int → Int) (hU : Uniq C B ls pt) (b : Nat) (n : Nat) (i : Int) (hn : n ≤ B) (h0 : 0 ≤ i) (h1 : i < keys C n) (w : World) (h : KAt w s g C B L ls)
    (hb : w.cell? ⟨b, 0, none⟩ = some (.pointer (some ⟨s, 0, none⟩))) (hbl : b < w.heap.size) :
    Calls Tryz.prog 187 #[.agg #[.int .i64 n, .int .u64 i], .pointer (some ⟨b, 0, none⟩)] w fun e w' => e = .returned (.int .i64 (pt n i)) ∧ Ext w w' := by
  have HH := Lib.hid h
  clear h
  go_enter Tryz.func187, Tryz.ntmps187
  go_wp2_with fail
  refine Calls.mono (KPoint_c s g C B L ls _ (HH.out.ext (Ext.alloc' _ _)) n hn i h0 h1) ?_
  rintro e w1 ⟨x, rfl, hx, hx1⟩
  have hE : Ext w w1 := (Ext.alloc' _ _).trans' hx1
  obtain rfl := hU n i x hn h0 h1 hx
  go_wp2
  go_ret
  exact ⟨rfl, hE⟩
set_option maxRecDepth 100000 in
set_option maxHeartbeats 4000000 in
theorem Parts_c (s g : Nat) (C : Cfg) (B : Nat) (L : Nat → Lev) (ls : Nat → List Int) (w : World) (h : KAt w s g C B L ls) (pt : Nat → Int → Int) (hU : Uniq C B ls pt) (lo hi : Int) (hlo : U64 lo) (hhi : U64 hi) :
    Calls Tryz.prog 143 #[.pointer (some ⟨s, 0, none⟩), .int .u64 lo, .int .u64 hi] w (PartsPost w B pt lo hi) := by
  have hmf : ∀ (fn : Fn) (first cap : Array Value) (w : World), (Instr.makeFunc fn first cap).run Tryz.prog w = .ok (.func fn first cap) w := fun _ _ _ _ => rfl
  have hok := h.ok
  have hB := h.hB
  have hb1 := hok.b1
  have hb2 := hok.b2
  have hls := h.lts
  have HH := Lib.hid h
  have hkk : ∀ n : Nat, n ≤ B → keys C n = 2 ^ (B - n) := fun n hn => by unfold keys; rw [hB]; congr 1; omega
  have HB := Lib.hid hB
  have HK := Lib.hid hkk
  clear h hkk
  refine (callsIn_wide (n := 5)).1 ?_
  refine callsIn_of_wp_marks Tryz.func143 rfl trivial ?_ rfl
  simp only [Tryz.ntmps143, List.size_toArray, List.length_cons, List.length_nil, Nat.reduceAdd, Nat.reduceSub, Array.replicate_succ, Array.replicate_zero, List.push_toArray, List.append_toArray, List.nil_append, List.cons_append]
  by_cases hlt : hi < lo
  · gi_wp2_with fail
    exact ⟨_, results_tmp2 rfl _ _ _, .inl ⟨hlt, rfl, Ext.alloc' _ _⟩⟩
  · gi_wp2_with fail
    refine ⟨trivial, (callsIn_wide.2 (SKConfig_c s g C B L ls _ (HH.out.ext (Ext.alloc' _ _)))).mono ?_⟩
    rintro e w1 ⟨rfl, hx1⟩
    have hE1 : Ext w w1 := (Ext.alloc' _ _).trans' hx1
    have hp1 := hx1.keep (heap_at w (.cells #[.pointer (some ⟨s, 0, none⟩)] 28) rfl)
    clear hx1
    rw [HB.out]
    gi_wp2_with fail
    refine ⟨trivial, (callsIn_wide.2 (Cover_c B (by omega) (by omega) lo hi hlo hhi _)).mono ?_⟩
    rintro e w2 (⟨hc, rfl, hx2⟩ | ⟨hc, v, rfl, ho, hx2⟩)
    · gi_wp2_with fail
      exact ⟨_, results_tmp2 rfl _ _ _, .inr (.inl ⟨by omega, rfl, hE1.trans' hx2⟩)⟩
    · have hE2 := hE1.trans' hx2
      have hp2 := hx2.keep hp1
      obtain ⟨pv, cv, rfl⟩ := own_sl ho
      have hsz2 := hE2.size
      have HO := Lib.hid ho
      clear ho hx2 hE1 hp1
      gi_wp2_with fail
      refine ⟨trivial, (callsIn_wide.2 (Values_c pv _ cv _)).mono ?_⟩
      rintro e w3 ⟨rfl, rfl⟩
      gi_wp2_with fail
      obtain ⟨W0, hW0⟩ : ∃ W0, ((w2.alloc (.cells #[.func (.func 187) #[] #[.pointer (some ⟨w.heap.size, 0, none⟩)]] 275)).alloc (.cells #[.slice none 0 0] 43)).alloc (.cells #[.slice pv (covL B 0 lo hi).length cv] 165) = W0 := ⟨_, rfl⟩
      have hsz0 : W0.heap.size = w2.heap.size + 3 := by rw [← hW0]; simp
      have hx0 : Ext w2 W0 := by rw [← hW0]; exact ((Ext.alloc' _ _).allocR _).allocR _
      have b0 : Boxed W0 w2.heap.size 275 (.func (.func 187) #[] #[.pointer (some ⟨w.heap.size, 0, none⟩)]) := by rw [← hW0]; exact ((Boxed.new w2 _ _).alloc _).alloc _
      have b1 : Boxed W0 (w2.heap.size + 1) 43 (.slice none 0 0) := by
        have := (Boxed.new (w2.alloc (.cells #[.func (.func 187) #[] #[.pointer (some ⟨w.heap.size, 0, none⟩)]] 275)) 43 (.slice none 0 0)).alloc (.cells #[.slice pv (covL B 0 lo hi).length cv] 165)
        rw [World.size_alloc] at this
        rw [← hW0]; exact this
      have b2 : W0.cell? ⟨w2.heap.size + 1 + 1, 0, none⟩ = some (.slice pv (covL B 0 lo hi).length cv) := by
        rw [← hW0]
        exact (cell_of (heap_at _ _ (by simp)) 0).trans rfl
      rw [hW0]
      clear hW0
      have hpcs : PcsAt w2.heap.size W0 (.slice pv (covL B 0 lo hi).length cv) (covL B 0 lo hi) := (PcsAt.of_own HO.out (Nat.le_refl _)).below hx0
      have hbd := cov_bd B 0 lo hi hlo.1 hc.1 hc.2
      have hlv := cov_lev B 0 lo hi
      have hlen := cov_len B 0 lo hi
      have HBD := Lib.hid hbd
      have HLV := Lib.hid hlv
      have HLEN := Lib.hid hlen
      have HC := Lib.hid hc
      clear hbd hlv hc hlen
      refine wpIn_rangeFunc_ownH rfl (by decide) (gf := 216) (lb := #[.pointer (some ⟨w2.heap.size + 1 + 1, 0, none⟩)]) rfl trivial (enters_of Tryz.func216 (by kernel_rfl) rfl)
        (values_stops 4 (w2.heap.size + 1 + 1) w2.heap.size _ (covL B 0 lo hi) (by have := HLEN.out; omega) W0 (by omega) (by omega) b2 hpcs) belowK_t (belowK_b (by omega)) (Below.refl _ _) (fun _ => rfl)
        (fun pre W => ((∃ v, Boxed W (w2.heap.size + 1) 43 v ∧ W.ownsRow w2.heap.size 2 1 v (pre.map (fun x => pt x.1.1 x.1.2)).length (ints (pre.map (fun x => pt x.1.1 x.1.2))) ∧ True) ∧ Boxed W w2.heap.size 275 (.func (.func 187) #[] #[.pointer (some ⟨w.heap.size, 0, none⟩)])) ∧ Below w2.heap.size w2 W)
        (fun _ _ _ => False)
        (OwnFrom.and (OwnFrom.and (Own.from (holdsRow_own w2.heap.size (w2.heap.size + 1) 43 2 1 (fun pre : List {p : Nat × Int // p ∈ covL B 0 lo hi} => (pre.map (fun x => pt x.1.1 x.1.2)).length) (fun pre => ints (pre.map (fun x => pt x.1.1 x.1.2))) (fun _ _ => True)) _) (Own.from (boxed_own _ _ _) _)) (ownFrom_below (Nat.le_refl _) (by omega)))
        (fun _ _ _ _ _ hs _ _ => hs)
        ⟨⟨⟨_, b1, ⟨rfl, .inl ⟨rfl, rfl⟩⟩, trivial⟩, b0⟩, hx0⟩
        (fun x a' W => ∃ Bx, w2.heap.size + 1 < Bx ∧ W.heap[Bx]? = some (.cells #[.int .i64 (x.1.1 : Int), .int .u64 x.1.2] 39 (0, 0)) ∧ a' = { tmps := #[.pointer (some ⟨s, 0, none⟩), .int .u64 lo, .int .u64 hi, .pointer (some ⟨w.heap.size, 0, none⟩), undef, undef, .slice none 0 0, .int .i64 0, .slice pv (covL B 0 lo hi).length cv, .bool true, .pointer (some ⟨w2.heap.size, 0, none⟩), .pointer (some ⟨w2.heap.size + 1, 0, none⟩), .pointer (some ⟨Bx, 0, none⟩), .int .u64 lo, .int .u64 hi, .bool false, .tuple #[.slice pv (covL B 0 lo hi).length cv, .bool true], .pointer (some ⟨s, 0, none⟩), .agg #[.int .i64 B, .int .i64 C.rows, .int .i64 C.width, .int .i64 C.mode, .int .u64 C.seed], .int .i64 B, .int .u64 lo, .int .u64 hi, .tuple #[.slice pv (covL B 0 lo hi).length cv, .bool true], .slice pv (covL B 0 lo hi).length cv, .bool true, .bool true, .bool false, .func (.func 187) #[] #[.pointer (some ⟨w.heap.size, 0, none⟩)], .slice pv (covL B 0 lo hi).length cv, .func (.func 216) #[] #[.pointer (some ⟨w2.heap.size + 1 + 1, 0, none⟩)], .agg #[.int .i64 (x.1.1 : Int), .int .u64 x.1.2], undef, undef, undef, undef, undef, undef, undef], defers := [] })
        (fun x a' _ X Y row hs hg hr => by
          obtain ⟨Bx, h1, h2, h3⟩ := hs
          refine ⟨Bx, h1, (hg.block Bx (lt_of h2) (fun e => ?_)).trans h2, h3⟩
          obtain ⟨_, o, ho, hc⟩ := hr Bx e.symm
          rw [h2] at ho; cases ho; cases hc)
        ?assign ?body ?done ?stop
      case assign =>
        rintro l pre x W K ⟨⟨⟨v, hv, hrow, _⟩, hf⟩, hB1⟩ hK
        have := hB1.size
        have := hv.lt
        dsimp only [pcEnc]
        gi_wp2
        exact hK _ _ ((KeepsOthers.alloc _ _).from _) ((Below.refl _ W).alloc hB1.size _) ⟨⟨⟨v, hv.alloc _, hrow.alloc _, trivial⟩, hf.alloc _⟩, hB1.alloc hB1.size _⟩ ⟨W.heap.size, hv.lt, heap_at _ _ rfl, rfl⟩
      case body =>
        rintro l pre x a' W hl _ ⟨⟨⟨v, hv, hrow, _⟩, hf⟩, hB1⟩ ⟨Bx, hBx, hx, rfl⟩ hlen
        have hlv := HLV.out x.1 x.2
        have hbd := HBD.out x.1 x.2
        have hlv2 : x.1.1 ≤ B := by omega
        have hlt2 : x.1.2 < keys C x.1.1 := by rw [HK.out _ hlv2]; rw [Nat.zero_add] at hbd; exact hbd.2
        have hK1 := (HH.out.ext hE2).ext hB1
        have hE4 : Ext w2 W := hB1
        have hp3 := hE4.keep hp2
        have hpl := lt_of hp3
        have hpc := (cell_of hp3 0).trans rfl
        have hvl := hv.lt
        have hvc := hv.cell
        have hfl := hf.lt
        have hfc := hf.cell
        have hxl := lt_of hx
        have x0 := (cell_of hx 0).trans rfl
        have x1 := (cell_of hx 1).trans rfl
        have hsW := hB1.size
        obtain ⟨pw, nw, cw, hvw⟩ : ∃ p n c, v = .slice p n c := by obtain ⟨p, c, h⟩ := own_sl hrow; exact ⟨p, _, c, h⟩
        subst hvw
        obtain ⟨S, hS⟩ : ∃ S : Nat → Prop, S = fun k => (Value.slice pw nw cw).ownBlock = some k := ⟨_, rfl⟩
        have nS1 : ¬ S (w2.heap.size + 1) := by rw [hS]; exact fun e => hv.not_row (by decide) hrow e.symm
        have nS0 : ¬ S w2.heap.size := by rw [hS]; exact fun e => hf.not_row (by decide) hrow e.symm
        have nSx : ¬ S Bx := by rw [hS]; exact own_notB hrow hx (by decide)
        have HS := Lib.hid hS
        clear hS
        have HV := Lib.hid hv
        have HF := Lib.hid hf
        have HR := Lib.hid hrow
        have HX := Lib.hid hx
        clear hv hf hrow hx hp3
        gi_wp2
        refine pi_startR (fun w' => ∃ x : AftS S W, w' = x.w) [6] (by kernel_rfl) (fun ⟨_, _, hh⟩ => hh) (by kernel_rfl) ?_
        have hC0 := afs_drew S W
        refine pi_c 0 (by assumption) rfl (by kernel_rfl) (by kernel_rfl) (fun _ _ _ _ h => h) (fun K hK => ?_)
        go_big_quiet_op
        refine hK _ ?_
        clear hK K
        refine pi_c 1 (by assumption) rfl (by kernel_rfl) (by kernel_rfl) (fun _ _ _ _ h => h) (fun K hK => ?_)
        go_big_quiet_op
        refine hK _ ?_
        clear hK K
        refine pi_c 2 (by assumption) rfl (by kernel_rfl) (by kernel_rfl) (fun _ _ _ _ h => h) (fun K hK => ?_)
        go_big_quiet_op
        refine hK _ ?_
        clear hK K
        refine pi_l 3 rfl (by kernel_rfl) (fun K hK => ?_)
        go_wp2_with fail
        refine Calls.mono (PartsAsk_c s g C B L ls pt hU w.heap.size x.1.1 x.1.2 hlv2 hbd.1 hlt2 _ (hK1.ext (Below.drew (Ext.refl W))) hpc hpl) ?_
        rintro e w3 ⟨rfl, hx3⟩
        go_wp2
        refine hK _ _ (fun _ h => afs_step h hx3) ?_
        clear hK K
        refine pi_l 4 rfl (by kernel_rfl) (fun K hK => ?_)
        go_wp2
        refine hK _ _ (fun _ h => afs_step h (Ext.alloc' _ _)) ?_
        clear hK K
        have hE3 : Ext W w3 := Ext.trans' (Below.drew (Ext.refl W)) hx3
        have hv3 : Boxed w3 (w2.heap.size + 1) 43 _ := hE3.keep HV.out
        have hr3 := own_ext HR.out hE3
        have hs3 := hE3.size
        refine pi_l 5 rfl (by kernel_rfl) (fun K hK => ?_)
        go_wp2_with (at_builtin; refine wpList_app1 w3 (pt x.1.1 x.1.2) _ _ w2.heap.size 2 hr3 43 rfl _ _ rfl info_i64 Tryz.underlying43 rfl rfl ?a1 ?a2 ?_)
        case a1 => have := HLEN.out; rw [List.length_map]; omega
        case a2 => omega
        intro v' w4 hown4 hg4 _
        obtain ⟨q1, q2, q3, q4, q5⟩ := Boxed.appended hv3 (by decide) hr3 (by omega) (by omega) hown4 hg4
        obtain ⟨pv4, nv4, cv4, hv4⟩ : ∃ p n c, v' = .slice p n c := by obtain ⟨p, c, h⟩ := own_sl hown4; exact ⟨p, _, c, h⟩
        subst hv4
        have q1c := q1.cell
        have q1l := q1.lt
        have q1f := q1.frozen
        have Q := Lib.hid (And.intro q2 (And.intro q3 (And.intro q4 q5)))
        have hf4 : Boxed w4 w2.heap.size 275 (.func (.func 187) #[] #[.pointer (some ⟨w.heap.size, 0, none⟩)]) := ((show Boxed w3 w2.heap.size _ _ from hE3.keep HF.out).alloc _).kept hg4 ((show Boxed w3 w2.heap.size _ _ from hE3.keep HF.out).not_row (by decide) hr3)
        have HF4 := Lib.hid hf4
        have hcl : ∃ x : AftS S W, w4 = x.w := ⟨⟨w4, mod_grown (hE3.mod S) hg4 (fun i hi => by rw [HS.out]; exact hi)⟩, rfl⟩
        clear hown4 hg4 q1 q2 q3 q4 q5 hf4
        go_wp2
        refine hK _ _ (fun _ _ => hcl) ?_
        clear hK K
        refine pi_l 6 rfl (by kernel_rfl) (fun K hK => ?_)
        go_wp2
        refine hK _ _ (by simp) ?_
        clear hK K
        refine pi_end (by kernel_rfl) ?_
        obtain ⟨q2, q3, q4, q5⟩ := Q.out
        have hbw : Below w2.heap.size W (w4.setCell ⟨w2.heap.size + 1, 0, none⟩ (.slice pv4 nv4 cv4)) := Below.trans (hE3.mono hsW) q5
        refine ⟨((keepsO_ext hE3).trans q4).from _, hbw, ⟨⟨_, q2, ?_, trivial⟩, HF4.out.other (by omega) _⟩, hB1.trans hbw⟩
        rw [List.map_append, List.length_append, List.length_map]
        exact q3
      case done =>
        rintro D xs W hD hxs ⟨⟨⟨v, hv, hrow, _⟩, hf⟩, hB1⟩ hK
        have hvl := hv.lt
        have hvc := hv.cell
        have hsW := hB1.size
        have HR := Lib.hid hrow
        clear hrow hv hf
        gi_wp2
        refine ⟨by simp, .inl ⟨_, _, rfl, run_takeDeferred hK, ?_⟩⟩
        have hcv : xs.map (fun x => pt x.1.1 x.1.2) = cvV pt B lo hi := by
          unfold cvV
          have hxs' : xs.map (fun x : {p : Nat × Int // p ∈ covL B 0 lo hi} => x.1) = covL B 0 lo hi := hxs
          conv => rhs; rw [← hxs']
          rw [List.map_map]; rfl
        have hr := ownsRow_putObj HR.out (.deferred none) hK rfl
        rw [hcv] at hr
        exact ⟨_, results_tmp2 rfl _ _ _, .inr (.inr ⟨HC.out, v, rfl, own_mono hr hsz2, (hE2.trans' hB1).trans (belowK_b (w := w) (Nat.le_refl _) W D _ _ (by omega) hK rfl rfl)⟩)⟩
      case stop =>
        rintro D c pre W _ _ h _
        exact h.elim
def RangePost (w : World) (B : Nat) (pt : Nat → Int → Int) (lo hi : Int) (e : Ending) (w' : World) : Prop :=
  ((hi < lo ∧ e = .returned (.tuple #[.int .i64 0, .int .i64 1])) ∨ ((lo ≤ hi ∧ 2 ^ B ≤ hi) ∧ e = .returned (.tuple #[.int .i64 0, .int .i64 2])) ∨
  ((lo ≤ hi ∧ hi < 2 ^ B) ∧ I64 (lsum (cvV pt B lo hi)) ∧ e = .returned (.tuple #[.int .i64 (lsum (cvV pt B lo hi)), .int .i64 0])) ∨
  ((lo ≤ hi ∧ hi < 2 ^ B) ∧ ¬ I64 (lsum (cvV pt B lo hi)) ∧ e = .returned (.tuple #[.int .i64 0, .int .i64 4]))) ∧ Ext w w'
set_option maxRecDepth 20000 in
set_option maxHeartbeats 2000000 in
theorem Range_c (s g : Nat) (C : Cfg) (B : Nat) (L : Nat → Lev) (ls : Nat → List Int) (w : World) (h : KAt w s g C B L ls) (pt : Nat → Int → Int) (hU : Uniq C B ls pt) (hI : ∀ n i, I64 (pt n i)) (lo hi : Int) (hlo : U64 lo) (hhi : U64 hi) :
    Calls Tryz.prog 80 #[.pointer (some ⟨s, 0, none⟩), .int .u64 lo, .int .u64 hi] w (RangePost w B pt lo hi) := by
  have hlen : (cvV pt B lo hi).length ≤ 1152921504606846976 := by
    unfold cvV
    rw [List.length_map]
    have := cov_len B 0 lo hi
    have h2 := h.ok.b2
    have h3 := h.hB
    omega
  have hall : ∀ x ∈ cvV pt B lo hi, I64 x := by
    intro x hx
    unfold cvV at hx
    simp only [List.mem_map] at hx
    obtain ⟨p, _, rfl⟩ := hx
    exact hI _ _
  have HH := Lib.hid h
  have HL := Lib.hid hlen
  have HA := Lib.hid hall
  clear h hlen hall
  go_enter Tryz.func80, Tryz.ntmps80
  go_wp2_with fail
  refine Calls.mono (Parts_c s g C B L ls _ HH.out pt hU lo hi hlo hhi) ?_
  rintro e w1 (⟨hc, rfl, hx⟩ | ⟨hc, rfl, hx⟩ | ⟨hc, v, rfl, ho, hx⟩)
  · go_wp2_with fail
    go_ret2
    exact ⟨.inl ⟨hc, rfl⟩, hx⟩
  · go_wp2_with fail
    go_ret2
    exact ⟨.inr (.inl ⟨hc, rfl⟩), hx⟩
  · have HC := Lib.hid hc
    clear hc
    go_wp2_with fail
    refine Calls.mono (Sum_c _ v w1 HA.out HL.out (IntsAt.of_row ho)) ?_
    rintro e w2 ⟨rfl, hx2⟩
    by_cases hT : I64 (lsum (cvV pt B lo hi))
    · rw [fitB_yes hT, fitN_yes hT]
      go_wp2_with fail
      go_ret2
      exact ⟨.inr (.inr (.inl ⟨HC.out, hT, rfl⟩)), hx.trans' hx2⟩
    · rw [fitB_no hT]
      go_wp2_with fail
      go_ret2
      exact ⟨.inr (.inr (.inr ⟨HC.out, hT, rfl⟩)), hx.trans' hx2⟩
end Go.Proofs.YtfhdjekpdifajaaGreat
namespace Go.Proofs.YtfhdjekpdifajaaGreat
set_option linter.unusedVariables false
open Go.RowKit
theorem pcs_cells {w : World} {base : Nat} {p : Option Addr} {n c : Nat} {ps : List (Nat × Int)} (h : w.ownsRow base 39 2 (.slice p n c) n (pcV ps)) {k : Nat} (hk : k < ps.length) :
    ∃ g, p = some ⟨g, 0, none⟩ ∧ base ≤ g ∧ g < w.heap.size ∧ w.cell? ⟨g, k * 2, none⟩ = some (.int .i64 ((ps.getD k (0, 0)).1 : Int)) ∧ w.cell? ⟨g, k * 2 + 1, none⟩ = some (.int .u64 (ps.getD k (0, 0)).2) := by
  obtain ⟨h1, h2⟩ := h
  rw [pcV_len] at h1
  rcases h2 with ⟨_, h3⟩ | ⟨g, cap, cur, hv, hb, hh, hc, _, hs, ht⟩
  · omega
  · obtain ⟨rfl, _⟩ := Value.slice.inj hv
    obtain ⟨a1, a2⟩ := pcV_at hk
    rw [← ht] at a1 a2
    rw [List.getElem?_take_of_lt (by omega)] at a1 a2
    simp only [Array.getElem?_toList] at a1 a2
    refine ⟨g, rfl, hb, lt_of hh, ?_, ?_⟩
    · rw [cell_of hh]; exact a1
    · rw [cell_of hh]; exact a2
end Go.Proofs.YtfhdjekpdifajaaGreat
namespace Go.Proofs.YtfhdjekpdifajaaGreat
set_option linter.unusedVariables false
open Go.RowKit
structure Own4 (N : Nat) (w : World) (F1 F2 F3 F4 : Nat → Prop) (P1 P2 P3 P4 : World → Prop) : Prop where
  o1 : Own F1 P1 w
  o2 : Own F2 P2 w
  o3 : Own F3 P3 w
  o4 : Own F4 P4 w
  d12 : Dj F1 F2
  d13 : Dj F1 F3
  d14 : Dj F1 F4
  d23 : Dj F2 F3
  d24 : Dj F2 F4
  d34 : Dj F3 F4
  n1 : ∀ k, F1 k → N ≤ k
  n2 : ∀ k, F2 k → N ≤ k
  n3 : ∀ k, F3 k → N ≤ k
  n4 : ∀ k, F4 k → N ≤ k
  nw : N ≤ w.heap.size
section
variable {N : Nat} {w w' : World} {F1 F2 F3 F4 : Nat → Prop} {P1 P2 P3 P4 : World → Prop}
theorem Own4.ext (h : Own4 N w F1 F2 F3 F4 P1 P2 P3 P4) (he : Ext w w') : Own4 N w' F1 F2 F3 F4 P1 P2 P3 P4 :=
  ⟨h.o1.ext he, h.o2.ext he, h.o3.ext he, h.o4.ext he, h.d12, h.d13, h.d14, h.d23, h.d24, h.d34, h.n1, h.n2, h.n3, h.n4, Nat.le_trans h.nw he.size⟩
/-- The first is changed, or put anew. -/
theorem Own4.step {F1' S : Nat → Prop} {P1' : World → Prop} (h : Own4 N w F1 F2 F3 F4 P1 P2 P3 P4) (hm : Mod S w w') (hS : ∀ k, S k → F1 k) (h1 : Own F1' P1' w') (hF : ∀ k, F1' k → F1 k ∨ w.heap.size ≤ k) : Own4 N w' F1' F2 F3 F4 P1' P2 P3 P4 := by
  refine ⟨h1, h.o2.mod hm (fun k hk hs => h.d12 k (hS k hs) hk), h.o3.mod hm (fun k hk hs => h.d13 k (hS k hs) hk), h.o4.mod hm (fun k hk hs => h.d14 k (hS k hs) hk), ?_, ?_, ?_, h.d23, h.d24, h.d34, fun k hk => ?_, h.n2, h.n3, h.n4, Nat.le_trans h.nw hm.size⟩
  · exact (h.o2.grow h.d12.symm hF).symm
  · exact (h.o3.grow h.d13.symm hF).symm
  · exact (h.o4.grow h.d14.symm hF).symm
  · rcases hF k hk with h2 | h2
    · exact h.n1 k h2
    · exact Nat.le_trans h.nw h2
theorem Own4.low {S : Nat → Prop} (h : Own4 N w F1 F2 F3 F4 P1 P2 P3 P4) (hm : Mod S w w') (hS : ∀ k, S k → F1 k) : Below N w w' := hm.below h.nw (fun k hk => h.n1 k (hS k hk))
end
theorem below_of {N : Nat} {w w' : World} (h : Ext w w') (hN : N ≤ w.heap.size) : Below N w w' := ⟨h.os, h.tape, h.output, h.size, fun k hk => h.block k (Nat.lt_of_lt_of_le hk hN)⟩
theorem cell_below {N : Nat} {w w' : World} (h : Below N w w') {b o : Nat} {v : Value} (hb : b < N) (hc : w.cell? ⟨b, o, none⟩ = some v) : w'.cell? ⟨b, o, none⟩ = some v := (h.cell (p := ⟨b, o, none⟩) hb).trans hc
theorem mod_below {N : Nat} {w w' : World} (h : Below N w w') : Mod (fun k => N ≤ k) w w' := ⟨h.os, h.tape, h.output, h.size, fun k _ hn => h.block k (Nat.lt_of_not_le hn)⟩
end Go.Proofs.YtfhdjekpdifajaaGreat
namespace Go.Proofs.YtfhdjekpdifajaaGreat
set_option linter.unusedVariables false
open Go.RowKit
/-- What an update leaves. -/
def nextK (C : Cfg) (B : Nat) (ls : Nat → List Int) (key d : Int) : Nat → List Int := bif decide (errK C B ls key d = 0) then updK C ls key d else ls
/-- A stack, and one of the references. -/
def KP (N : Nat) (w : World) (C : Cfg) (B s r : Nat) (ls ls' : Nat → List Int) : Prop :=
  ∃ g L t L2 z, KAt w s g C B L ls ∧ KLow z s g B L ∧ KFresh N B L ∧ RKAt w r t C B L2 ls' ∧ (∀ k, rkF r t C B L2 k → z ≤ k) ∧ N ≤ z ∧ z ≤ w.heap.size
noncomputable def ptU (C : Cfg) (ls : Nat → List Int) (n : Nat) (i : Int) : Int := by classical exact if h : ∃ x, I64 x ∧ lvPt C n (ls n) i x then h.choose else 0
theorem ptU_I (C : Cfg) (ls : Nat → List Int) (n : Nat) (i : Int) : I64 (ptU C ls n i) := by
  unfold ptU
  split
  · rename_i h; exact h.choose_spec.1
  · unfold I64; omega
def rangR (B : Nat) (pt : Nat → Int → Int) (lo hi : Int) : Int × Int := if hi < lo then (0, 1) else if 2 ^ B ≤ hi then (0, 2) else (fitN (lsum (cvV pt B lo hi)), bif fitB (lsum (cvV pt B lo hi)) then 0 else 4)
theorem rang_of {w w' : World} {B : Nat} {pt : Nat → Int → Int} {lo hi : Int} {e : Ending} (h : RangePost w B pt lo hi e w') : e = .returned (.tuple #[.int .i64 (rangR B pt lo hi).1, .int .i64 (rangR B pt lo hi).2]) ∧ Ext w w' := by
  obtain ⟨h, hE⟩ := h
  refine ⟨?_, hE⟩
  unfold rangR
  rcases h with ⟨h1, rfl⟩ | ⟨⟨h1, h2⟩, rfl⟩ | ⟨⟨h1, h2⟩, h3, rfl⟩ | ⟨⟨h1, h2⟩, h3, rfl⟩
  · rw [if_pos h1]
  · rw [if_neg (by omega), if_pos h2]
  · rw [if_neg (by omega), if_neg (by omega), fitB_yes h3, fitN_yes h3]; rfl
  · rw [if_neg (by omega), if_neg (by omega), fitB_no h3, fitN, fitB_no h3]; rfl
section
variable {N : Nat} {w w' : World} {C : Cfg} {B s r : Nat} {ls ls' : Nat → List Int}
theorem KP.ext (h : KP N w C B s r ls ls') (he : Ext w w') : KP N w' C B s r ls ls' := by
  obtain ⟨g, L, t, L2, z, h1, h2, h3, h4, h5, h6, h7⟩ := h
  exact ⟨g, L, t, L2, z, h1.ext he, h2, h3, h4.ext he, h5, h6, Nat.le_trans h7 he.size⟩
theorem KP_upd (h : KP N w C B s r ls ls') (key d : Int) (hk : U64 key) (hd : I64 d) :
    Calls Tryz.prog 26 #[.pointer (some ⟨s, 0, none⟩), .int .u64 key, .int .i64 d] w fun e w' => e = .returned (.int .i64 (errK C B ls key d)) ∧ KP N w' C B s r (nextK C B ls key d) ls' ∧ Below N w w' := by
  obtain ⟨g, L, t, L2, z, h1, h2, h3, h4, h5, h6, h7⟩ := h
  refine (KUpdate_c s g C B L ls key d w h1 hd hk).mono ?_
  rintro e w' ⟨rfl, hK, hM⟩
  refine ⟨rfl, ⟨g, L, t, L2, z, hK, h2, h3, h4.keep (fun k hk => hM.block k (h4.lt hk) (fun hc => ?_)), h5, h6, Nat.le_trans h7 hM.size⟩, hM.below (Nat.le_trans h6 h7) (fun k hc => ?_)⟩
  · obtain ⟨n, hn, rfl⟩ := hc
    have := h2.lc n hn
    have := h5 _ hk
    omega
  · obtain ⟨n, hn, rfl⟩ := hc
    exact (h3 n hn).2.2
theorem KP_rupd (h : KP N w C B s r ls ls') (key d : Int) (hk : U64 key) (hd : I64 d) :
    Calls Tryz.prog 27 #[.pointer (some ⟨r, 0, none⟩), .int .u64 key, .int .i64 d] w fun e w' => e = .returned (.int .i64 (errK C B ls' key d)) ∧ KP N w' C B s r ls (nextK C B ls' key d) ∧ Below N w w' := by
  obtain ⟨g, L, t, L2, z, h1, h2, h3, h4, h5, h6, h7⟩ := h
  have hr : z ≤ r := h5 r (.inl rfl)
  refine (RKUpdate_c r t C B L2 ls' key d w h4 hk hd).mono ?_
  rintro e w' ⟨rfl, (⟨h0, t', L', hR, hF, hM⟩ | ⟨h0, hE⟩)⟩
  · have e : nextK C B ls' key d = updK C ls' key d := by unfold nextK; rw [decide_eq_true h0]; rfl
    rw [e]
    refine ⟨rfl, ⟨g, L, t', L', z, h1.keepN h2 (fun k hk hz => hM.block k hk (by omega)), h2, h3, hR, fun k hk => ?_, h6, Nat.le_trans h7 hM.size⟩, hM.below (Nat.le_trans h6 h7) (fun k hc => by omega)⟩
    rcases hF k hk with rfl | h
    · exact hr
    · omega
  · have e : nextK C B ls' key d = ls' := by unfold nextK; rw [decide_eq_false h0]; rfl
    rw [e]
    exact ⟨rfl, ⟨g, L, t, L2, z, h1.ext hE, h2, h3, h4.ext hE, h5, h6, Nat.le_trans h7 hE.size⟩, below_of hE (Nat.le_trans h6 h7)⟩
theorem ptU_uniq (h : KP N w C B s r ls ls') : Uniq C B ls' (ptU C ls') := by
  obtain ⟨g, L, t, L2, z, h1, h2, h3, h4, h5, h6, h7⟩ := h
  intro n i x hn h0 hi hx
  have hI : I64 x := ptA_I (r := 0) (.inr ⟨hi, hx, rfl⟩) (h4.lev n hn).fit
  have he : ∃ y, I64 y ∧ lvPt C n (ls' n) i y := ⟨x, hI, hx⟩
  unfold ptU
  rw [dif_pos he]
  exact lvPt_unique hx he.choose_spec.2
end
end Go.Proofs.YtfhdjekpdifajaaGreat
namespace Go.Proofs.YtfhdjekpdifajaaGreat
set_option linter.unusedVariables false
open Go.RowKit
/-- The way down, if every rest fits. -/
def wayF (pt : Nat → Int → Int) : Nat → Int → Int → Option (List (Nat × Int))
  | 0, _, _ => some []
  | n + 1, i, k => if k ≤ pt n (2 * i) then (wayF pt n (2 * i) k).map (fun l => (n, 2 * i) :: l) else if fitB (k - pt n (2 * i)) = true then (wayF pt n (2 * i + 1) (k - pt n (2 * i))).map (fun l => (n, 2 * i + 1) :: l) else none
def wayFP (pt : Nat → Int → Int) (B : Nat) (k : Int) : Option (List (Nat × Int)) := (wayF pt B 0 k).map (fun l => (B, 0) :: l)
theorem wayF_len (pt : Nat → Int → Int) : ∀ (n : Nat) (i k : Int) (l : List (Nat × Int)), wayF pt n i k = some l → l.length = n
  | 0, _, _, l, h => by cases h; rfl
  | n + 1, i, k, l, h => by
    unfold wayF at h
    split at h
    · obtain ⟨m, hm, rfl⟩ := Option.map_eq_some_iff.1 h
      rw [List.length_cons, wayF_len pt n _ _ m hm]
    · split at h
      · obtain ⟨m, hm, rfl⟩ := Option.map_eq_some_iff.1 h
        rw [List.length_cons, wayF_len pt n _ _ m hm]
      · cases h
theorem wayFP_len {pt : Nat → Int → Int} {B : Nat} {k : Int} {l : List (Nat × Int)} (h : wayFP pt B k = some l) : l.length = B + 1 := by
  obtain ⟨m, hm, rfl⟩ := Option.map_eq_some_iff.1 h
  rw [List.length_cons, wayF_len pt B _ _ m hm]
/-- How far the way has come. -/
def WayAtR (w : World) (B : Nat) (C : Cfg) (b : Nat) (pt : Nat → Int → Int) (k : Int) (t : Nat) (k' : Int) (wr : World) (n : Nat) (i : Int) (dn : List (Nat × Int)) : Prop :=
  t + n = B ∧ dn.length = t + 1 ∧ dn.getD t (0, 0) = (n, i) ∧ wayFP pt B k = (wayF pt n i k').map (fun l => dn ++ l) ∧ 0 ≤ i ∧ i < keys C n ∧ 1 ≤ k' ∧ I64 k' ∧
  (∃ cur, wr.heap[b]? = some (.cells cur 232 (0, 0)) ∧ cur.size = 120) ∧ PCells wr b 0 dn ∧ Ext w wr
theorem way_nextR {w wr w6 : World} {B : Nat} {C : Cfg} {b : Nat} {pt : Nat → Int → Int} {k : Int} {t : Nat} {k' : Int} {m : Nat} {i : Int} {dn : List (Nat × Int)} (hW : WayAtR w B C b pt k t k' wr (m + 1) i dn) (hE : Ext wr w6) (hB : C.bits = B) (hBd : B ≤ 59) (hbw : w.heap.size ≤ b) {j k2 : Int}
    (hj : (j = 2 * i ∧ k' ≤ pt m (2 * i) ∧ k2 = k') ∨ (j = 2 * i + 1 ∧ pt m (2 * i) < k' ∧ I64 (k' - pt m (2 * i)) ∧ k2 = k' - pt m (2 * i))) :
    WayAtR w B C b pt k (t + 1) k2 ((w6.setCell ⟨b, (t + 1) * 2, none⟩ (.int .i64 m)).setCell ⟨b, (t + 1) * 2 + 1, none⟩ (.int .u64 j)) m j (dn ++ [(m, j)]) := by
  obtain ⟨a1, a2, a3, a4, a5, a6, a7, a8, ⟨cur, a9, a10⟩, a11, a12⟩ := hW
  have hkh := keys_half (C := C) (m := m) (by omega)
  have hs := way_set (hE.keep a9) a10 (a11.ext (lt_of a9) hE) (by omega) m j
  rw [a2] at hs
  refine ⟨by omega, by rw [List.length_append, a2]; rfl, ?_, ?_, ?_, ?_, ?_, ?_, hs.1, hs.2, ((a12.trans' hE).setR (p := ⟨b, (t + 1) * 2, none⟩) hbw _).setR (p := ⟨b, (t + 1) * 2 + 1, none⟩) hbw _⟩
  · rw [← a2]; simp
  · rw [a4]
    conv => lhs; unfold wayF
    rcases hj with ⟨rfl, h1, rfl⟩ | ⟨rfl, h1, h2, rfl⟩
    · rw [if_pos h1, Option.map_map]
      congr 1
      funext l
      simp
    · rw [if_neg (by omega), if_pos (fitB_yes h2), Option.map_map]
      congr 1
      funext l
      simp
  · rcases hj with ⟨rfl, _, _⟩ | ⟨rfl, _, _⟩ <;> omega
  · rcases hj with ⟨rfl, _, _⟩ | ⟨rfl, _, _⟩ <;> omega
  · rcases hj with ⟨_, h1, rfl⟩ | ⟨_, h1, _, rfl⟩ <;> omega
  · rcases hj with ⟨_, h1, rfl⟩ | ⟨_, h1, h2, rfl⟩
    · exact a8
    · exact h2
def WayRPost (w : World) (B : Nat) (T : Int) (pt : Nat → Int → Int) (k : Int) (e : Ending) (w' : World) : Prop :=
  ((k < 1 ∨ T < k) ∧ e = .returned (.tuple #[.slice none 0 0, .int .i64 6]) ∧ Ext w w') ∨
  ((1 ≤ k ∧ k ≤ T) ∧ wayFP pt B k = none ∧ e = .returned (.tuple #[.slice none 0 0, .int .i64 4]) ∧ Ext w w') ∨
  ((1 ≤ k ∧ k ≤ T) ∧ ∃ ps v base, wayFP pt B k = some ps ∧ e = .returned (.tuple #[v, .int .i64 0]) ∧ w.heap.size ≤ base ∧ w'.ownsRow base 39 2 v ps.length (pcV ps) ∧ Ext w w')
set_option maxRecDepth 20000 in
set_option maxHeartbeats 8000000 in
theorem WayR_c (s g : Nat) (C : Cfg) (B : Nat) (L : Nat → Lev) (ls : Nat → List Int) (w : World) (h : KAt w s g C B L ls) (k : Int) (hk : I64 k) (pt : Nat → Int → Int) (hT : Uniq C B ls pt) (hPI : ∀ n i, I64 (pt n i)) :
    Calls Tryz.prog 91 #[.pointer (some ⟨s, 0, none⟩), .int .i64 k] w (WayRPost w B ((ls B).getD 0 0) pt k) := by
  have hok := h.ok
  have hB := h.hB
  have hBd : B ≤ 59 := by have := hok.b2; omega
  by_cases hk1 : k < 1
  · go_enter Tryz.func91, Tryz.ntmps91
    go_wp2
    go_step3
    go_wp2
    go_ret2
    exact .inl ⟨.inl hk1, rfl, Ext.refl _⟩
  have hTot := fun W' (he : Ext w W') => KTotal_c s g C B L ls W' (h.ext he)
  generalize hTT : (ls B).getD 0 0 = T at *
  by_cases hk2 : T < k
  · go_enter Tryz.func91, Tryz.ntmps91
    go_wp2
    go_step3
    go_wp2_with fail
    refine (hTot _ (by (repeat' (first | exact Ext.refl _ | assumption | apply Ext.allocR | apply Ext.drewR | apply Ext.drewNR | (refine Ext.trans' ?_ (by assumption)))))).mono ?_
    rintro e w1 ⟨rfl, hx1⟩
    go_wp2
    go_ret2
    exact .inl ⟨.inr hk2, rfl, by (repeat' (first | exact Ext.refl _ | assumption | apply Ext.allocR | apply Ext.drewR | apply Ext.drewNR | (refine Ext.trans' ?_ (by assumption))))⟩
  have HB := Lib.hid hB
  have HTT := Lib.hid hTT
  clear hB hTT
  go_enter Tryz.func91, Tryz.ntmps91
  go_wp2
  go_step3
  go_wp2_with fail
  refine (hTot _ (by (repeat' (first | exact Ext.refl _ | assumption | apply Ext.allocR | apply Ext.drewR | apply Ext.drewNR | (refine Ext.trans' ?_ (by assumption)))))).mono ?_
  rintro e w1 ⟨rfl, hx1⟩
  have hE1 : Ext w w1 := by (repeat' (first | exact Ext.refl _ | assumption | apply Ext.allocR | apply Ext.drewR | apply Ext.drewNR | (refine Ext.trans' ?_ (by assumption))))
  clear hx1 hTot
  go_wp2_with fail
  refine (SKConfig_c s g C B L ls _ (h.ext ?hx)).mono ?_
  case hx => exact hE1.trans' (by (repeat' (first | exact Ext.refl _ | assumption | apply Ext.allocR | apply Ext.drewR | apply Ext.drewNR | (refine Ext.trans' ?_ (by assumption)))))
  rintro e w2 ⟨rfl, hx2⟩
  have hE2 : Ext w w2 := hE1.trans' (by (repeat' (first | exact Ext.refl _ | assumption | apply Ext.allocR | apply Ext.drewR | apply Ext.drewNR | (refine Ext.trans' ?_ (by assumption)))))
  clear hx2 hE1
  go_upto_region 5 with (fail)
  obtain ⟨w3, hw3⟩ : ∃ w3, w2.alloc (.cells Tryz.zeroCells232 232) = w3 := ⟨_, rfl⟩
  have hx3 : Ext w2 w3 := by rw [← hw3]; exact Ext.alloc' _ _
  have hb3 : w3.heap[w2.heap.size]? = some (.cells Tryz.zeroCells232 232 (0, 0)) := by rw [← hw3]; exact heap_at _ _ rfl
  rw [hw3]
  clear hw3
  have hE3 := hE2.trans' hx3
  have hzs : Tryz.zeroCells232.size = 120 := by kernel_rfl
  have hz0 : Tryz.zeroCells232[0]? = some (.int .i64 0) := by kernel_rfl
  have hz1 : Tryz.zeroCells232[1]? = some (.int .u64 0) := by kernel_rfl
  generalize Tryz.zeroCells232 = zc at *
  have z0 := (cell_of hb3 0).trans hz0
  have z1 := (cell_of hb3 1).trans hz1
  have f0 := frozen_of hb3 0
  have f1 := frozen_of hb3 1
  have zl := lt_of hb3
  have hbE := hE2.size
  generalize hbb : w2.heap.size = b at *
  have hw0 := way_set hb3 hzs (dn := []) (fun k hk => by simp at hk) (by simp) B 0
  simp only [List.length_nil, Nat.zero_mul, Nat.zero_add, List.nil_append] at hw0
  have hW0 : WayAtR w B C b pt k 0 k ((w3.setCell ⟨b, 0, none⟩ (.int .i64 (B : Nat))).setCell ⟨b, 1, none⟩ (.int .u64 0)) B 0 [(B, 0)] :=
    ⟨by omega, rfl, rfl, rfl, Int.le_refl 0, by have := keys_bd C hok B (Int.natCast_nonneg B); omega, by omega, hk, hw0.1, hw0.2, (hE3.setR (p := ⟨b, 0, none⟩) hbE _).setR (p := ⟨b, 1, none⟩) hbE _⟩
  rw [← HB.out] at hW0
  have HW0 := Lib.hid hW0
  clear hz0 hz1 hw0 hW0
  go_wp2
  go_step3
  go_wp2
  have HT := Lib.hid hT
  have HPI := Lib.hid hPI
  clear hT hPI
  go_loopw [1, 8] (fun u1 u8 wr => ∃ (t : Nat) (k' : Int) (n : Nat) (i : Int) (dn : List (Nat × Int)), u1 = .int .i64 k' ∧ u8 = .int .i64 t ∧ WayAtR w B C b pt k t k' wr n i dn) (fun _ u8 _ => B - (intOf u8).toNat)
  case atStart => exact ⟨0, k, B, 0, [(B, 0)], rfl, rfl, HW0.out⟩
  case round =>
    clear HW0
    obtain ⟨t, k', n, i, dn, rfl, rfl, hW⟩ := hrel
    obtain ⟨w1', w2', w3', w4', w5', w6', w7', w8', w9', w10', w11'⟩ := hW
    obtain ⟨cur, hcb, hcs⟩ := w9'
    have hp := w10' t (by omega)
    rw [w3', Nat.zero_add] at hp
    obtain ⟨q0, q1⟩ := hp
    have ql := lt_of hcb
    cases n with
    | zero =>
      have hdl : wayFP pt B k = some dn := by rw [w4']; simp [wayF]
      have hcl := fun W' (he : Ext wr W') => CloneP_c b (60 - 0) dn W' (w10'.ext ql he) (Nat.lt_of_lt_of_le ql he.size) (by omega)
      rw [w2'] at hcl
      have HDL := Lib.hid hdl
      have HCL := Lib.hid hcl
      have hsl := fun W' => run_slice60 b t (by omega) W'
      clear hdl hcl
      go_wp2_with fail
      refine (HCL.out _ (Ext.refl _)).mono ?_
      rintro e w5 ⟨v5, rfl, ho5, hx5⟩
      clear hsl
      go_wp2
      go_ret2
      exact .inr (.inr ⟨⟨by omega, by omega⟩, dn, v5, wr.heap.size, HDL.out, rfl, w11'.size, by rw [w2']; exact ho5, w11'.trans' hx5⟩)
    | succ m =>
      have hnn : ((m + 1 : Nat) : Int) = (m : Int) + 1 := by omega
      have hmb : ((m + 1 : Nat) : Int) ≤ C.bits := by have := HB.out; omega
      have hHV : ∀ W', Calls Tryz.prog 145 #[.int .i64 C.bits, .agg #[.int .i64 ((m : Int) + 1), .int .u64 i]] W' fun e w' => e = .returned (.tuple #[.agg #[.int .i64 m, .int .u64 (2 * i)], .agg #[.int .i64 m, .int .u64 (2 * i + 1)], .bool true]) ∧ Ext W' w' := fun W' => by
        have := Halves_c C hok m hmb i w5' w6' W'
        rw [hnn] at this
        exact this
      go_wp2_with fail
      refine (hHV _).mono ?_
      rintro e w4 ⟨rfl, hx4⟩
      clear hHV
      go_upto_region 9 with (fail)
      have hr4 : Ext wr w4 := by (repeat' (first | exact Ext.refl _ | assumption | apply Ext.allocR | apply Ext.drewR | apply Ext.drewNR | (refine Ext.trans' ?_ (by assumption))))
      have hkh := keys_half (C := C) (m := m) hmb
      have hl5 := (heap_old (w4.alloc (.cells #[.int .i64 m, .int .u64 (2 * i)] 39)) (.cells #[.int .i64 m, .int .u64 (2 * i + 1)] 39) (n := w4.heap.size) (by rw [size_alloc]; omega)).trans (heap_at w4 (.cells #[.int .i64 m, .int .u64 (2 * i)] 39) rfl)
      have hr5 := heap_at (w4.alloc (.cells #[.int .i64 m, .int .u64 (2 * i)] 39)) (.cells #[.int .i64 m, .int .u64 (2 * i + 1)] 39) (n := w4.heap.size + 1) (by rw [size_alloc])
      have hx5 : Ext w4 ((w4.alloc (.cells #[.int .i64 m, .int .u64 (2 * i)] 39)).alloc (.cells #[.int .i64 m, .int .u64 (2 * i + 1)] 39)) := (Ext.alloc' _ _).allocR _
      generalize (w4.alloc (.cells #[.int .i64 m, .int .u64 (2 * i)] 39)).alloc (.cells #[.int .i64 m, .int .u64 (2 * i + 1)] 39) = w5 at *
      have hE5 : Ext wr w5 := hr4.trans' hx5
      have v0 := (cell_of hl5 0).trans rfl
      have v1 := (cell_of hl5 1).trans rfl
      have vl := lt_of hl5
      clear hx4 hx5 hr4 q0 q1 ql
      have hK5 := h.ext (w11'.trans' hE5)
      have ht59 : t < 59 := by omega
      go_wp2_with fail
      refine Calls.mono (KPoint_c s g C B L ls _ hK5 m (by omega) (2 * i) (by omega) (by omega)) ?_
      rintro e w6 ⟨x, rfl, hpt, hx6⟩
      have hxp := HT.out m (2 * i) x (by omega) (by omega) (by omega) hpt
      have hpi := HPI.out m (2 * i)
      have hw4 := w4'
      have hE6 := hE5.trans' hx6
      have hl6 := hx6.keep hl5
      have hr6 := hx6.keep hr5
      have hc6 := hE6.keep hcb
      have hW : WayAtR w B C b pt k t k' wr (m + 1) i dn := ⟨w1', w2', w3', w4', w5', w6', w7', w8', ⟨cur, hcb, hcs⟩, w10', w11'⟩
      subst hxp
      have hn1 := fun (W' : World) (hE' : Ext wr W') (j k2 : Int) hj => way_nextR (j := j) (k2 := k2) hW hE' HB.out hBd hbE hj
      have HN1 := Lib.hid hn1
      obtain ⟨o0, ho0⟩ : ∃ o0, cur[(t + 1) * 2]? = some o0 := ⟨_, Array.getElem?_eq_getElem (by omega)⟩
      obtain ⟨o1, ho1⟩ : ∃ o1, cur[(t + 1) * 2 + 1]? = some o1 := ⟨_, Array.getElem?_eq_getElem (by omega)⟩
      have u0 := (cell_of hc6 ((t + 1) * 2)).trans ho0
      have u1 := (cell_of hc6 ((t + 1) * 2 + 1)).trans ho1
      have g0 := frozen_of hc6 ((t + 1) * 2)
      have g1 := frozen_of hc6 ((t + 1) * 2 + 1)
      have gl := lt_of hc6
      have v0 := (cell_of hl6 0).trans rfl
      have v1 := (cell_of hl6 1).trans rfl
      have vl := lt_of hl6
      have y0 := (cell_of hr6 0).trans rfl
      have y1 := (cell_of hr6 1).trans rfl
      have yl := lt_of hr6
      have HW4 := Lib.hid hw4
      clear hw4 w4' hn1 hW hpt hK5 hl5 hr5 w10' hcb hx6
      generalize hP : pt m (2 * i) = P at *
      by_cases hle : k' ≤ P
      · go_wp2_with fail
        go_roundw
        case rel => exact ⟨t + 1, k', m, 2 * i, dn ++ [(m, 2 * i)], rfl, by go_num, HN1.out _ hE6 _ _ (.inl ⟨rfl, hle, rfl⟩)⟩
        case measure => simp [intOf]; omega
      · have hkI : I64 k' := w8'
        have hM := Minus_c k' P hkI hpi
        by_cases hI : I64 (k' - P)
        rotate_left
        · rw [fitB_no hI] at hM
          have hno : wayFP pt B k = none := by
            rw [HW4.out]
            conv => lhs; unfold wayF
            rw [if_neg (by omega), if_neg (by rw [hP, fitB_no hI]; decide)]
            rfl
          have HNO := Lib.hid hno
          have HM := Lib.hid hM
          clear hM hno hI
          go_wp2_with fail
          refine (HM.out _).mono ?_
          rintro e w7 ⟨rfl, hx7⟩
          have hE7 : Ext w6 w7 := by (repeat' (first | exact Ext.refl _ | assumption | apply Ext.allocR | apply Ext.drewR | apply Ext.drewNR | (refine Ext.trans' ?_ (by assumption))))
          go_wp2
          go_ret2
          exact .inr (.inl ⟨⟨by omega, by omega⟩, HNO.out, rfl, w11'.trans' (hE6.trans' hE7)⟩)
        rw [fitB_yes hI, fitN_yes hI] at hM
        have HII := Lib.hid hI
        clear hI
        have HM := Lib.hid hM
        clear hM
        go_wp2_with fail
        refine (HM.out _).mono ?_
        rintro e w7 ⟨rfl, hx7⟩
        have hE7 : Ext w6 w7 := by (repeat' (first | exact Ext.refl _ | assumption | apply Ext.allocR | apply Ext.drewR | apply Ext.drewNR | (refine Ext.trans' ?_ (by assumption))))
        have hc7 := hE7.keep hc6
        have hr7 := hE7.keep hr6
        clear hx7 u0 u1 g0 g1 gl v0 v1 vl y0 y1 yl
        have u0 := (cell_of hc7 ((t + 1) * 2)).trans ho0
        have u1 := (cell_of hc7 ((t + 1) * 2 + 1)).trans ho1
        have g0 := frozen_of hc7 ((t + 1) * 2)
        have g1 := frozen_of hc7 ((t + 1) * 2 + 1)
        have gl := lt_of hc7
        have y0 := (cell_of hr7 0).trans rfl
        have y1 := (cell_of hr7 1).trans rfl
        have yl := lt_of hr7
        go_wp2_with fail
        go_roundw
        case rel => exact ⟨t + 1, k' - P, m, 2 * i + 1, dn ++ [(m, 2 * i + 1)], rfl, by go_num, HN1.out _ (hE6.trans' hE7) _ _ (.inr ⟨rfl, by omega, HII.out, rfl⟩)⟩
        case measure => simp [intOf]; omega
end Go.Proofs.YtfhdjekpdifajaaGreat
namespace Go.Proofs.YtfhdjekpdifajaaGreat
set_option linter.unusedVariables false
open Go.RowKit
def quanR (pt : Nat → Int → Int) (B : Nat) (T k : Int) : Int × Int := if k < 1 ∨ T < k then (0, 6) else match wayFP pt B k with | none => (0, 4) | some ps => ((ps.getD B (0, 0)).2, 0)
set_option maxRecDepth 20000 in
set_option maxHeartbeats 4000000 in
theorem Quan_of (s : Nat) (B : Nat) (hBd : B ≤ 59) (pt : Nat → Int → Int) (T k : Int) (w : World) (h : ∀ W', Ext w W' → Calls Tryz.prog 91 #[.pointer (some ⟨s, 0, none⟩), .int .i64 k] W' (WayRPost W' B T pt k)) :
    Calls Tryz.prog 33 #[.pointer (some ⟨s, 0, none⟩), .int .i64 k] w fun e w' => e = .returned (.tuple #[.int .u64 (quanR pt B T k).1, .int .i64 (quanR pt B T k).2]) ∧ Ext w w' := by
  have HW := Lib.hid h
  clear h
  go_enter Tryz.func33, Tryz.ntmps33
  go_wp2_with fail
  refine (HW.out _ (by (repeat' (first | exact Ext.refl _ | assumption | apply Ext.allocR | apply Ext.drewR | apply Ext.drewNR | (refine Ext.trans' ?_ (by assumption)))))).mono ?_
  rintro e w1 (⟨hr, rfl, hx⟩ | ⟨hr, hn, rfl, hx⟩ | ⟨hr, ps, v, base, hsm, rfl, hbs, ho, hx⟩)
  · have HQ : Hid (quanR pt B T k = (0, 6)) := Lib.hid (by unfold quanR; rw [if_pos hr])
    clear hr
    go_wp2
    go_ret2
    exact ⟨by rw [HQ.out]; rfl, by (repeat' (first | exact Ext.refl _ | assumption | apply Ext.allocR | apply Ext.drewR | apply Ext.drewNR | (refine Ext.trans' ?_ (by assumption))))⟩
  · have HQ : Hid (quanR pt B T k = (0, 4)) := Lib.hid (by unfold quanR; rw [if_neg (by omega), hn])
    clear hr hn
    go_wp2
    go_ret2
    exact ⟨by rw [HQ.out]; rfl, by (repeat' (first | exact Ext.refl _ | assumption | apply Ext.allocR | apply Ext.drewR | apply Ext.drewNR | (refine Ext.trans' ?_ (by assumption))))⟩
  · have hlen := wayFP_len hsm
    have HQ : Hid (quanR pt B T k = ((ps.getD B (0, 0)).2, 0)) := Lib.hid (by unfold quanR; rw [if_neg (by omega), hsm])
    obtain ⟨g', cap, rfl, hgl, hpc⟩ := own_pieces ho (by omega)
    obtain ⟨_, q1⟩ := hpc B (by omega)
    rw [Nat.zero_add] at q1
    have hE : Ext w w1 := by (repeat' (first | exact Ext.refl _ | assumption | apply Ext.allocR | apply Ext.drewR | apply Ext.drewNR | (refine Ext.trans' ?_ (by assumption))))
    clear ho hpc hx hr hsm
    rw [hlen]
    clear hlen
    go_wp2
    go_ret2
    exact ⟨by rw [HQ.out]; rfl, hE⟩
end Go.Proofs.YtfhdjekpdifajaaGreat
namespace Go.Proofs.YtfhdjekpdifajaaGreat
set_option linter.unusedVariables false
open Go.RowKit
/-- The pairs that a stack is told. -/
def psU (C : Cfg) (us : List (Int × Int)) : List (Int × Int) := stP C 0 (fus us 0 60)
open Classical in
/-- What a piece is told. -/
noncomputable def ptK (C : Cfg) (B : Nat) (us : List (Int × Int)) (n : Nat) (i : Int) : Int :=
  if h : n ≤ B ∧ 0 ≤ i ∧ i < keys C n ∧ ∃ x, lvPt C n (feedK C (fus us 0 60) n) i x then Classical.choose h.2.2.2 else pcS (psU C us) n i
theorem ptK_of {C : Cfg} {B : Nat} {us : List (Int × Int)} {n : Nat} {i x : Int} (hn : n ≤ B) (h0 : 0 ≤ i) (h1 : i < keys C n) (h : lvPt C n (feedK C (fus us 0 60) n) i x) : x = ptK C B us n i := by
  have hx : n ≤ B ∧ 0 ≤ i ∧ i < keys C n ∧ ∃ x, lvPt C n (feedK C (fus us 0 60) n) i x := ⟨hn, h0, h1, x, h⟩
  unfold ptK
  rw [dif_pos hx]
  exact lvPt_unique h (Classical.choose_spec hx.2.2.2)
theorem hasK_pc (C : Cfg) (us : List (Int × Int)) (n : Nat) (j : Int) : hasK C us 60 n j = pcS (psU C us) n j := by
  unfold hasK hasP pcS psU
  exact sumIf_stP C n _ _
/-- Of an exact level. -/
theorem ptK_x {C : Cfg} (hok : C.Ok) {B : Nat} (hB : C.bits = B) {us : List (Int × Int)} (hus : UpsOk us) {n : Nat} (hn : n ≤ B) {i : Int} (h0 : 0 ≤ i) (h1 : i < keys C n) (hx : isX C n = true) : ptK C B us n i = pcS (psU C us) n i := by
  have h : lvPt C n (feedK C (fus us 0 60) n) i ((feedK C (fus us 0 60) n).getD i.toNat 0) := .inl ⟨hx, rfl⟩
  rw [← ptK_of hn h0 h1 h, ← hasK_pc]
  exact pt_x hok (by omega) hus hx h0 h
end Go.Proofs.YtfhdjekpdifajaaGreat
namespace Go.Proofs.YtfhdjekpdifajaaGreat
set_option linter.unusedVariables false
open Go.RowKit
/-- A way, or none. -/
def PAt (w : World) (v : Value) (ps : List (Nat × Int)) : Prop := (v = .slice none 0 0 ∧ ps = []) ∨ (0 < ps.length ∧ ps.length ≤ 60 ∧ ∃ g c, v = .slice (some ⟨g, 0, none⟩) ps.length c ∧ g < w.heap.size ∧ PCells w g 0 ps)
theorem PAt.ext {w w' : World} {v : Value} {ps : List (Nat × Int)} (h : PAt w v ps) (he : Ext w w') : PAt w' v ps :=
  h.imp id (fun ⟨h0, h1, g, c, hv, hg, hp⟩ => ⟨h0, h1, g, c, hv, Nat.lt_of_lt_of_le hg he.size, hp.ext hg he⟩)
section
variable {N : Nat} {w w' : World} {C : Cfg} {B s r : Nat} {ls : Nat → List Int}
end
end Go.Proofs.YtfhdjekpdifajaaGreat
