/- Part. No condition. -/
import Derived.Test.YtfhdjekpdifajaaGreatDMergePlays8
import Derived.Test.YtfhdjekpdifajaaGreatDMergePlays4
import Derived.Test.YtfhdjekpdifajaaGreatDMergePlays1
import Derived.Test.YtfhdjekpdifajaaGreatDMergePlays2
import Derived.Test.YtfhdjekpdifajaaGreatDMergePlays3
import Derived.Test.YtfhdjekpdifajaaGreatDMergePlays5
import Derived.Test.YtfhdjekpdifajaaGreatDMergePlays6
import Derived.Test.YtfhdjekpdifajaaGreatDMergePlays7
import Derived.RangeFuncBox
import Derived.WalkMore
import Derived.Defers
import Derived.Laws.EntriesVeiled
namespace Go.Proofs.YtfhdjekpdifajaaGreat
set_option linter.unusedVariables false
open Go.RowKit
theorem info_lp : ∃ i z, Tryz.prog.info? 45 = some i ∧ i.zero = some z ∧ i.size = 1 ∧ i.bytes = 8 ∧ z.cells.size = 1 := by
  have h : (Tryz.prog.info? 45).map (fun i => (i.zero, i.size, i.bytes)) = some (some (.pointer none), 1, 8) := by kernel_rfl
  match hi : Tryz.prog.info? 45, h with
  | some i, h =>
    simp only [Option.map_some, Option.some.injEq, Prod.mk.injEq] at h
    exact ⟨i, .pointer none, rfl, h.1, h.2.1, h.2.2, rfl⟩
def rp (L : Nat → RLev) (k : Nat) : List Value := (List.range k).map fun n => Value.pointer (some ⟨(L n).p, 0, none⟩)
theorem rp_len (L : Nat → RLev) (k : Nat) : (rp L k).length = k := by simp [rp]
theorem rp_succ (L : Nat → RLev) (k : Nat) : rp L (k + 1) = rp L k ++ [Value.pointer (some ⟨(L k).p, 0, none⟩)] := by unfold rp; rw [List.range_succ, List.map_append]; rfl
theorem rp_cong {L L' : Nat → RLev} {k : Nat} (h : ∀ n, n < k → L n = L' n) : rp L k = rp L' k := by
  unfold rp
  apply List.map_congr_left
  intro n hn
  rw [List.mem_range] at hn
  rw [h n hn]
theorem rp_get (L : Nat → RLev) {k n : Nat} (h : n < k) : (rp L k)[n]? = some (Value.pointer (some ⟨(L n).p, 0, none⟩)) := by unfold rp; rw [List.getElem?_map, List.getElem?_range h]; rfl
/-- A level's blocks are no row of levels, nor a stack. -/
theorem RLvAt.ty {w : World} {L : RLev} {C : Cfg} {lv : Int} {l : List Int} (h : RLvAt w L C lv l) {k : Nat} (hk : L.foot C lv k) {cur : Array Value} {T : TypeId} {f : Nat × Nat} (hb : w.heap[k]? = some (.cells cur T f)) : T ≠ 45 ∧ T ≠ 48 := by
  have key : ∀ (c2 : Array Value) (T2 : TypeId) (f2 : Nat × Nat), w.heap[k]? = some (.cells c2 T2 f2) → T2 ≠ 45 → T2 ≠ 48 → T ≠ 45 ∧ T ≠ 48 := fun c2 T2 f2 h2 n1 n2 => by
    rw [hb] at h2
    injection h2 with h2
    injection h2 with _ h2 _
    rw [h2]; exact ⟨n1, n2⟩
  rcases hk with rfl | ⟨hx, hk⟩ | ⟨hx, hk⟩
  · obtain ⟨_, _, _, ⟨_, h1, _⟩ | ⟨_, h1, _⟩⟩ := h <;> exact key _ _ _ h1 (by decide) (by decide)
  · obtain ⟨_, h2⟩ := h.x hx
    rcases hk with rfl | rfl
    · obtain ⟨cap, h3, _⟩ := h2.ex; exact key _ _ _ h3 (by decide) (by decide)
    · obtain ⟨cu, h3, _⟩ := h2.cells; exact key _ _ _ h3 (by decide) (by decide)
  · obtain ⟨_, h2⟩ := h.sk hx
    rcases hk with rfl | (rfl | rfl | ⟨r, hr, rfl⟩)
    · exact key _ _ _ h2.ex (by decide) (by decide)
    · obtain ⟨cap, h3, _⟩ := h2.g.ex; exact key _ _ _ h3 (by decide) (by decide)
    · obtain ⟨cap, h3, _⟩ := h2.g.row; exact key _ _ _ h3 (by decide) (by decide)
    · obtain ⟨cap, h3, _⟩ := h2.g.cells r hr; exact key _ _ _ h3 (by decide) (by decide)
/-- Some levels that have been made. -/
structure RMade (w : World) (B0 : Nat) (C : Cfg) (k : Nat) (L : Nat → RLev) (ls : Nat → List Int) (v : Value) : Prop where
  row : w.ownsRow B0 45 1 v (rp L k).length (rp L k)
  lev : ∀ n, n < k → RLvAt w (L n) C n (ls n)
  new : ∀ n, n < k → ∀ j, (L n).foot C n j → B0 ≤ j
  sep : ∀ m n, m < k → n < k → m ≠ n → Dj ((L m).foot C m) ((L n).foot C n)
theorem RMade.zero (w : World) (B0 : Nat) (C : Cfg) (L : Nat → RLev) (ls : Nat → List Int) : RMade w B0 C 0 L ls (.slice none 0 0) :=
  ⟨⟨rfl, .inl ⟨rfl, rfl⟩⟩, by intros; omega, by intros; omega, by intros; omega⟩
theorem RMade.ext {w w' : World} {B0 k : Nat} {C : Cfg} {L : Nat → RLev} {ls : Nat → List Int} {v : Value} (h : RMade w B0 C k L ls v) (he : Ext w w') : RMade w' B0 C k L ls v :=
  ⟨own_ext h.row he, fun n hn => (h.lev n hn).ext he, h.new, h.sep⟩
theorem RMade.setc {w : World} {B0 k : Nat} {C : Cfg} {L : Nat → RLev} {ls : Nat → List Int} {v : Value} (h : RMade w B0 C k L ls v) {b : Nat} (hb : b < B0) (o : Nat) (u : Value) : RMade (w.setCell ⟨b, o, none⟩ u) B0 C k L ls v :=
  ⟨own_setc h.row hb o u, fun n hn => (h.lev n hn).keep (fun j hj => setCell_other _ _ (by have := h.new n hn j hj; omega)), h.new, h.sep⟩
/-- One more. -/
theorem RMade.next {w0 w w' : World} {B0 k : Nat} {C : Cfg} {L : Nat → RLev} {ls : Nat → List Int} {v v' : Value} {M : RLev} {l : List Int} {o : Obj} (h : RMade w0 B0 C k L ls v) (he : Ext w0 w) (hB : B0 ≤ w0.heap.size) (hM : RLvAt w M C k l) (hN : ∀ j, M.foot C k j → w0.heap.size ≤ j) (hl : l = ls k)
    (hown : w'.ownsRow B0 45 1 v' (rp L k ++ [Value.pointer (some ⟨M.p, 0, none⟩)]).length (rp L k ++ [Value.pointer (some ⟨M.p, 0, none⟩)])) (hg : (w.alloc o).grownBy w' v.ownBlock) : RMade w' B0 C (k + 1) (fun n => if n = k then M else L n) ls v' := by
  subst hl
  have hw := h.ext he
  have hkeep : ∀ {n : Nat} {K : RLev} {l : List Int}, RLvAt w K C n l → RLvAt w' K C n l := fun {n K l} hK => hK.keep (fun j hj => grown_old hg (hK.lt hj) (fun e => by
    obtain ⟨cu, hc⟩ := own_type hw.row e.symm
    exact (hK.ty hj hc).1 rfl))
  refine ⟨?_, fun n hn => ?_, fun n hn j hj => ?_, fun m n hm hn hmn => ?_⟩
  · rw [rp_succ, if_pos rfl, rp_cong (L' := L) (fun i hi => if_neg (by omega))]
    exact hown
  · by_cases e : n = k
    · subst e; rw [if_pos rfl]; exact hkeep hM
    · rw [if_neg e]; exact hkeep (hw.lev n (by omega))
  · by_cases e : n = k
    · subst e; rw [if_pos rfl] at hj; exact Nat.le_trans hB (hN j hj)
    · rw [if_neg e] at hj; exact h.new n (by omega) j hj
  · by_cases e : m = k
    · subst e
      rw [if_pos rfl, if_neg (by omega)]
      intro j h1 h2
      have a := hN j h1
      have b := (h.lev n (by omega)).lt h2
      omega
    · rw [if_neg e]
      by_cases e' : n = k
      · subst e'
        rw [if_pos rfl]
        intro j h1 h2
        have a := hN j h2
        have b := (h.lev m (by omega)).lt h1
        omega
      · rw [if_neg e']; exact h.sep m n (by omega) (by omega) hmn
/-- All levels, and the stack's own block: a stack. -/
theorem RMade.stack {w : World} {s B0 B : Nat} {C : Cfg} {L : Nat → RLev} {ls : Nat → List Int} {v : Value} (h : RMade w B0 C (B + 1) L ls v) (hok : C.Ok) (hB : C.bits = B) (hs : w.heap[s]? = some (.cells #[.int .i64 C.bits, .int .i64 C.rows, .int .i64 C.width, .int .i64 C.mode, .int .u64 C.seed, v] 48 (0, 0))) :
    ∃ t, B0 ≤ t ∧ RKAt w s t C B L ls := by
  have hl := rp_len L (B + 1)
  rcases h.row.2 with ⟨_, h0⟩ | ⟨g, cap, cur, rfl, hbg, hg, hnc, hcm, hcs, htake⟩
  · rw [hl] at h0; omega
  · rw [hl] at hs hnc
    refine ⟨g, hbg, ⟨⟨cap, hs, hnc⟩, ⟨cur, hg, fun n hn => ?_⟩, fun n hn => h.lev n (by omega), fun m n hm hn => h.sep m n (by omega) (by omega), hok, hB⟩⟩
    have h1 := h.row.cells (g := g) rfl n _ (rp_get L (show n < B + 1 by omega))
    rw [show ((⟨g, 0, none⟩ : Addr).add n) = ⟨g, n, none⟩ by (simp [Addr.add]; intro e; exact e.symm), cell_of hg] at h1
    exact h1
def RKNewPost (w : World) (C : Cfg) (B : Nat) (ls : Nat → List Int) (e : Ending) (w' : World) : Prop :=
  ∃ (s t : Nat) (L : Nat → RLev), e = .returned (.pointer (some ⟨s, 0, none⟩)) ∧ RKAt w' s t C B L ls ∧ (∀ k, rkF s t C B L k → w.heap.size ≤ k) ∧ Ext w w'
theorem RMade.post {w wr : World} {s B0 B : Nat} {C : Cfg} {L : Nat → RLev} {ls : Nat → List Int} {v : Value} (h : RMade wr B0 C (B + 1) L ls v) (hok : C.Ok) (hB : C.bits = B) (hs : wr.heap[s]? = some (.cells #[.int .i64 C.bits, .int .i64 C.rows, .int .i64 C.width, .int .i64 C.mode, .int .u64 C.seed, v] 48 (0, 0))) (hsw : w.heap.size ≤ s) (hB0 : w.heap.size ≤ B0) (hE : Ext w wr) :
    RKNewPost w C B ls (.returned (.pointer (some ⟨s, 0, none⟩))) wr := by
  obtain ⟨t, ht, hK⟩ := h.stack hok hB hs
  refine ⟨s, t, L, rfl, hK, ?_, hE⟩
  rintro k (rfl | rfl | ⟨n, hn, hk⟩)
  · exact hsw
  · omega
  · exact Nat.le_trans hB0 (h.new n (by omega) k hk)
set_option maxRecDepth 20000 in
set_option maxHeartbeats 8000000 in
theorem RKNew_c (C : Cfg) (hok : C.Ok) (B : Nat) (hB : C.bits = B) (w : World) :
    Calls Tryz.prog 17 #[.agg #[.int .i64 C.bits, .int .i64 C.rows, .int .i64 C.width, .int .i64 C.mode, .int .u64 C.seed]] w (RKNewPost w C B (fun n => zs (lvN C n))) := by
  have hb2 := hok.b2
  have hbd : B ≤ 59 := by omega
  have HB := Lib.hid hB
  obtain ⟨W0, hW0⟩ : ∃ W0, w.alloc (.cells #[.int .i64 C.bits, .int .i64 C.rows, .int .i64 C.width, .int .i64 C.mode, .int .u64 C.seed] 24) = W0 := ⟨_, rfl⟩
  have hCb : W0.heap[w.heap.size]? = some (.cells #[.int .i64 C.bits, .int .i64 C.rows, .int .i64 C.width, .int .i64 C.mode, .int .u64 C.seed] 24 (0, 0)) := by rw [← hW0]; exact heap_at _ _ rfl
  have hE : Ext w W0 := by rw [← hW0]; exact Ext.alloc' _ _
  have hsz : W0.heap.size = w.heap.size + 1 := by rw [← hW0, size_alloc]
  have hC := CfgAt.of hCb
  have c0 := hC.c0
  have c1 := hC.c1
  have c2 := hC.c2
  have c3 := hC.c3
  have c4 := hC.c4
  have cl := hC.lt
  have HCB := Lib.hid hCb
  have HSZ := Lib.hid hsz
  clear hC hB hCb hsz hb2
  go_enter Tryz.func17, Tryz.ntmps17
  go_upto_region 1 with (fail)
  try rw [hW0]
  clear hW0
  go_wp2_with fail
  clear c0 c1 c2 c3 c4 cl
  go_loopw [4] (fun u4 wr => ∃ (k : Nat) (L : Nat → RLev) (v : Value), k ≤ B + 1 ∧ u4 = .int .i64 k ∧ Ext W0 wr ∧ wr.heap[W0.heap.size]? = some (.cells #[.int .i64 C.bits, .int .i64 C.rows, .int .i64 C.width, .int .i64 C.mode, .int .u64 C.seed, v] 48 (0, 0)) ∧ RMade wr (W0.heap.size + 1) C k L (fun n => zs (lvN C n)) v) (fun u4 _ => B + 1 - (intOf u4).toNat)
  case atStart => exact ⟨0, fun _ => ⟨0, 0, ⟨0, 0, fun _ => 0, fun _ => 0⟩⟩, _, Nat.zero_le _, rfl, Ext.alloc' _ _, heap_at _ _ rfl, RMade.zero _ _ _ _ _⟩
  case round =>
    obtain ⟨k, L, v, hk, rfl, hE0, hbx, hM⟩ := hrel
    have hCq := CfgAt.of (hE0.keep HCB.out)
    have c0 := hCq.c0
    have c1 := hCq.c1
    have c2 := hCq.c2
    have c3 := hCq.c3
    have c4 := hCq.c4
    have cl := hCq.lt
    have hbl := lt_of hbx
    have HBX := Lib.hid hbx
    have HM := Lib.hid hM
    clear hCq hM
    by_cases hlt : k < B + 1
    · have hle : (k : Int) ≤ C.bits := by have := HB.out; omega
      have b5 := (cell_of hbx 5).trans rfl
      have HL := Lib.hid (fun W' => RLNew_c C hok k (Int.natCast_nonneg k) hle W')
      obtain ⟨S, hSS⟩ : ∃ S : Nat → Prop, ∀ i, S i ↔ v.ownBlock = some i := ⟨_, fun _ => Iff.rfl⟩
      have n1 : ¬ S w.heap.size := fun h => by have := own_blk HM.out.row ((hSS _).1 h); have := HSZ.out; omega
      have n2 : ¬ S W0.heap.size := fun h => by have := own_blk HM.out.row ((hSS _).1 h); omega
      have HSS := Lib.hid hSS
      clear hbx hSS
      go_wp2_with fail
      have hC0 := afs_drew S wr
      refine pi_start (fun w' => ∃ z : AftS S wr, w' = z.w) [12] (by kernel_rfl) ?_
      refine pi_t 0 rfl (by kernel_rfl) (by kernel_rfl) (fun _ _ _ _ h => h) (fun K hK => ?_)
      go_big_quiet_op
      refine hK _ ?_
      clear hK K
      refine pi_t 1 rfl (by kernel_rfl) (by kernel_rfl) (fun _ _ _ _ h => h) (fun K hK => ?_)
      go_big_quiet_op
      refine hK _ ?_
      clear hK K
      refine pi_t 2 rfl (by kernel_rfl) (by kernel_rfl) (fun _ _ _ _ h => h) (fun K hK => ?_)
      go_big_quiet_op
      refine hK _ ?_
      clear hK K
      refine pi_t 3 rfl (by kernel_rfl) (by kernel_rfl) (fun _ _ _ _ h => h) (fun K hK => ?_)
      go_big_quiet_op
      refine hK _ ?_
      clear hK K
      refine pi_t 6 rfl (by kernel_rfl) (by kernel_rfl) (fun _ _ _ _ h => h) (fun K hK => ?_)
      go_big_quiet_op
      refine hK _ ?_
      clear hK K
      refine pi_c 4 (by assumption) rfl (by kernel_rfl) (by kernel_rfl) (fun _ _ _ _ h => h) (fun K hK => ?_)
      go_big_quiet_op
      refine hK _ ?_
      clear hK K
      refine pi_c 5 (by assumption) rfl (by kernel_rfl) (by kernel_rfl) (fun _ _ _ _ h => h) (fun K hK => ?_)
      go_big_quiet_op
      refine hK _ ?_
      clear hK K
      refine pi_l 7 rfl (by kernel_rfl) (fun K hK => ?_)
      go_wp2_with (go_at_call 37; refine Calls.mono (HL.out _) ?_; rintro e wt ⟨M, rfl, hMv, hMf, hxt⟩)
      have hEt : Ext wr wt := Ext.trans' (Below.drew (Ext.refl wr)) hxt
      refine hK _ _ (fun _ h => afs_step h hxt) ?_
      clear hK K
      have HMV := Lib.hid hMv
      have HMF := Lib.hid (show ∀ j, M.foot C k j → wr.heap.size ≤ j from hMf)
      have HR := Lib.hid (HM.out.ext hEt).row
      have hz := hE0.size
      have hzt := hEt.size
      obtain ⟨i0, z0, hi0, hz0, hz1, hz2, hz3⟩ := info_lp
      clear hMv hMf hxt
      refine pi_l 8 rfl (by kernel_rfl) (fun K hK => ?_)
      go_wp2
      refine hK _ _ (fun _ h => afs_step h (Ext.alloc' _ _)) ?_
      clear hK K
      refine pi_l 9 rfl (by kernel_rfl) (fun K hK => ?_)
      go_wp2_with (at_builtin; refine wpList_appB wt 8 (by decide) (.pointer (some ⟨M.p, 0, none⟩)) rfl (rp L k) v (W0.heap.size + 1) 45 HR.out 46 rfl _ _ rfl i0 z0 hi0 hz0 hz1 hz2 hz3 Tryz.underlying46 (by rfl) (by rfl) ?b1 ?b2 ?_)
      case b1 => rw [rp_len]; omega
      case b2 => omega
      intro v' wf g1 g2
      have hEf : Ext W0 wf := ext_grown (hE0.trans' hEt) g2 (fun i hi => by have := own_blk HR.out hi; omega)
      have hnext := HM.out.next hEt (by omega) HMV.out HMF.out rfl (by rw [List.length_append]; exact g1) g2
      have hbf := (grown_old g2 (show W0.heap.size < wt.heap.size by omega) (fun e => by have := own_blk HR.out e.symm; omega)).trans (hEt.keep HBX.out)
      have HN := Lib.hid hnext
      have f5 := frozen_of hbf 5
      have q5 := (cell_of hbf 5).trans rfl
      have ql := lt_of hbf
      have HBF := Lib.hid hbf
      obtain ⟨pv, nv, cv, rfl⟩ := own_slice g1
      have hmf : Mod S wr wf := mod_grown (hEt.mod _) g2 (fun i hi => (HSS.out i).2 hi)
      clear g1 g2 hnext hbf
      go_wp2
      refine hK _ _ (fun _ _ => ⟨⟨wf, hmf⟩, rfl⟩) ?_
      clear hK K
      refine pi_t 10 rfl (by kernel_rfl) (by kernel_rfl) (fun _ _ _ _ h => h) (fun K hK => ?_)
      go_big_quiet_op
      refine hK _ ?_
      clear hK K
      refine pi_t 11 rfl (by kernel_rfl) (by kernel_rfl) (fun _ _ _ _ h => h) (fun K hK => ?_)
      go_big_quiet_op
      refine hK _ ?_
      clear hK K
      refine pi_l 12 rfl (by kernel_rfl) (fun K hK => ?_)
      go_wp2
      refine hK _ _ (by simp) ?_
      clear hK K
      refine pi_end (by kernel_rfl) ?_
      go_wp2_with fail
      go_roundw
      case rel => exact ⟨k + 1, _, _, by omega, by go_num, hEf.setR (p := ⟨W0.heap.size, 5, none⟩) (Nat.le_refl _) _, (setCell_same HBF.out 5 _).trans rfl, HN.out.setc (by omega) _ _⟩
      case measure => simp [intOf]; omega
    · obtain rfl : k = B + 1 := by omega
      have hgt : ¬ (((B + 1 : Nat) : Int) ≤ C.bits) := by have := HB.out; omega
      have hgt2 : decide (((B + 1 : Nat) : Int) ≤ C.bits) = false := decide_eq_false hgt
      clear hbx
      go_wp2
      go_ret
      exact HM.out.post hok HB.out HBX.out hE.size (by have := HSZ.out; omega) (hE.trans' hE0)
end Go.Proofs.YtfhdjekpdifajaaGreat
namespace Go.Proofs.YtfhdjekpdifajaaGreat
set_option linter.unusedVariables false
open Go.RowKit
set_option maxRecDepth 20000 in
set_option maxHeartbeats 8000000 in
theorem RKCopy_c (s t : Nat) (C : Cfg) (B : Nat) (L0 : Nat → RLev) (ls : Nat → List Int) (w : World) (h : RKAt w s t C B L0 ls) :
    Calls Tryz.prog 21 #[.pointer (some ⟨s, 0, none⟩)] w (RKNewPost w C B ls) := by
  have hok := h.ok
  have hb2 := hok.b2
  have hB := h.hB
  have hbd : B ≤ 59 := by omega
  have HB := Lib.hid hB
  have HH := Lib.hid h
  have hls := h.lts
  obtain ⟨cap, hex, hcap⟩ := h.ex
  have c0 := (cell_of hex 0).trans rfl
  have c1 := (cell_of hex 1).trans rfl
  have c2 := (cell_of hex 2).trans rfl
  have c3 := (cell_of hex 3).trans rfl
  have c4 := (cell_of hex 4).trans rfl
  have HEX := Lib.hid hex
  clear hex h hB hb2
  go_enter Tryz.func21, Tryz.ntmps21
  go_wp2_with fail
  clear c0 c1 c2 c3 c4
  go_loopw [4] (fun u4 wr => ∃ (k : Nat) (L : Nat → RLev) (v : Value), k ≤ B + 1 ∧ u4 = .int .i64 k ∧ Ext w wr ∧ wr.heap[w.heap.size]? = some (.cells #[.int .i64 C.bits, .int .i64 C.rows, .int .i64 C.width, .int .i64 C.mode, .int .u64 C.seed, v] 48 (0, 0)) ∧ RMade wr (w.heap.size + 1) C k L ls v) (fun u4 _ => B + 1 - (intOf u4).toNat)
  case atStart => exact ⟨0, fun _ => ⟨0, 0, ⟨0, 0, fun _ => 0, fun _ => 0⟩⟩, _, Nat.zero_le _, rfl, Ext.alloc' _ _, heap_at _ _ rfl, RMade.zero _ _ _ _ _⟩
  case round =>
    obtain ⟨k, L, v, hk, rfl, hE0, hbx, hM⟩ := hrel
    have hHr := HH.out.ext hE0
    have e5 := (cell_of (hE0.keep HEX.out) 5).trans rfl
    have el := hHr.lts
    have hbl := lt_of hbx
    have HBX := Lib.hid hbx
    have HM := Lib.hid hM
    clear hM
    by_cases hlt : k < B + 1
    · have b5 := (cell_of hbx 5).trans rfl
      have ck := hHr.cell (show k ≤ B by omega)
      have lt0 := hHr.ltt
      have HL := Lib.hid (fun W' (hW : Ext wr W') => RLCopy_c (L0 k) C k (ls k) W' ((hHr.lev k (by omega)).ext hW))
      obtain ⟨S, hSS⟩ : ∃ S : Nat → Prop, ∀ i, S i ↔ v.ownBlock = some i := ⟨_, fun _ => Iff.rfl⟩
      have n1 : ¬ S s := fun h => by have := own_blk HM.out.row ((hSS _).1 h); omega
      have n2 : ¬ S w.heap.size := fun h => by have := own_blk HM.out.row ((hSS _).1 h); omega
      have n3 : ¬ S t := fun h => by have := own_blk HM.out.row ((hSS _).1 h); have := HH.out.ltt; omega
      have hkz : (k : Int) < (B : Int) + 1 := by omega
      have HSS := Lib.hid hSS
      clear hbx hSS hHr
      go_wp2_with fail
      have hC0 := afs_drew S wr
      refine pi_start (fun w' => ∃ z : AftS S wr, w' = z.w) [17] (by kernel_rfl) ?_
      refine pi_t 0 rfl (by kernel_rfl) (by kernel_rfl) (fun _ _ _ _ h => h) (fun K hK => ?_)
      go_big_quiet_op
      refine hK _ ?_
      clear hK K
      refine pi_t 1 rfl (by kernel_rfl) (by kernel_rfl) (fun _ _ _ _ h => h) (fun K hK => ?_)
      go_big_quiet_op
      refine hK _ ?_
      clear hK K
      refine pi_t 2 rfl (by kernel_rfl) (by kernel_rfl) (fun _ _ _ _ h => h) (fun K hK => ?_)
      go_big_quiet_op
      refine hK _ ?_
      clear hK K
      refine pi_t 3 rfl (by kernel_rfl) (by kernel_rfl) (fun _ _ _ _ h => h) (fun K hK => ?_)
      go_big_quiet_op
      refine hK _ ?_
      clear hK K
      refine pi_t 5 rfl (by kernel_rfl) (by kernel_rfl) (fun _ _ _ _ h => h) (fun K hK => ?_)
      go_big_quiet_op
      refine hK _ ?_
      clear hK K
      refine pi_t 6 rfl (by kernel_rfl) (by kernel_rfl) (fun _ _ _ _ h => h) (fun K hK => ?_)
      go_big_quiet_op
      refine hK _ ?_
      clear hK K
      refine pi_t 7 rfl (by kernel_rfl) (by kernel_rfl) (fun _ _ _ _ h => h) (fun K hK => ?_)
      go_big_quiet_op
      refine hK _ ?_
      clear hK K
      refine pi_t 9 rfl (by kernel_rfl) (by kernel_rfl) (fun _ _ _ _ h => h) (fun K hK => ?_)
      go_big_quiet_op
      refine hK _ ?_
      clear hK K
      refine pi_c 4 (by assumption) rfl (by kernel_rfl) (by kernel_rfl) (fun _ _ _ _ h => h) (fun K hK => ?_)
      go_big_quiet_op
      refine hK _ ?_
      clear hK K
      refine pi_c 8 (by assumption) rfl (by kernel_rfl) (by kernel_rfl) (fun _ _ _ _ h => h) (fun K hK => ?_)
      go_big_quiet_op
      refine hK _ ?_
      clear hK K
      refine pi_t 10 rfl (by kernel_rfl) (by kernel_rfl) (fun _ _ _ _ h => h) (fun K hK => ?_)
      go_big_quiet_op
      refine hK _ ?_
      clear hK K
      refine pi_c 11 (by assumption) rfl (by kernel_rfl) (by kernel_rfl) (fun _ _ _ _ h => h) (fun K hK => ?_)
      go_big_quiet_op
      refine hK _ ?_
      clear hK K
      refine pi_l 12 rfl (by kernel_rfl) (fun K hK => ?_)
      go_wp2_with (go_at_call 39; refine Calls.mono (HL.out _ (Below.drew (Ext.refl wr))) ?_; rintro e wt ⟨M, rfl, hMv, hMf, hxt⟩)
      have hEt : Ext wr wt := Ext.trans' (Below.drew (Ext.refl wr)) hxt
      refine hK _ _ (fun _ h => afs_step h hxt) ?_
      clear hK K
      have HMV := Lib.hid hMv
      have HMF := Lib.hid (show ∀ j, M.foot C k j → wr.heap.size ≤ j from hMf)
      have HR := Lib.hid (HM.out.ext hEt).row
      have hz := hE0.size
      have hzt := hEt.size
      obtain ⟨i0, z0, hi0, hz0, hz1, hz2, hz3⟩ := info_lp
      clear hMv hMf hxt
      refine pi_l 13 rfl (by kernel_rfl) (fun K hK => ?_)
      go_wp2
      refine hK _ _ (fun _ h => afs_step h (Ext.alloc' _ _)) ?_
      clear hK K
      refine pi_l 14 rfl (by kernel_rfl) (fun K hK => ?_)
      go_wp2_with (at_builtin; refine wpList_appB wt 8 (by decide) (.pointer (some ⟨M.p, 0, none⟩)) rfl (rp L k) v (w.heap.size + 1) 45 HR.out 46 rfl _ _ rfl i0 z0 hi0 hz0 hz1 hz2 hz3 Tryz.underlying46 (by rfl) (by rfl) ?b1 ?b2 ?_)
      case b1 => rw [rp_len]; omega
      case b2 => omega
      intro v' wf g1 g2
      have hEf : Ext w wf := ext_grown (hE0.trans' hEt) g2 (fun i hi => by have := own_blk HR.out hi; omega)
      have hnext := HM.out.next hEt (by omega) HMV.out HMF.out rfl (by rw [List.length_append]; exact g1) g2
      have hbf := (grown_old g2 (show w.heap.size < wt.heap.size by omega) (fun e => by have := own_blk HR.out e.symm; omega)).trans (hEt.keep HBX.out)
      have HN := Lib.hid hnext
      have f5 := frozen_of hbf 5
      have q5 := (cell_of hbf 5).trans rfl
      have ql := lt_of hbf
      have HBF := Lib.hid hbf
      obtain ⟨pv, nv, cv, rfl⟩ := own_slice g1
      have hmf : Mod S wr wf := mod_grown (hEt.mod _) g2 (fun i hi => (HSS.out i).2 hi)
      clear g1 g2 hnext hbf
      go_wp2
      refine hK _ _ (fun _ _ => ⟨⟨wf, hmf⟩, rfl⟩) ?_
      clear hK K
      refine pi_t 15 rfl (by kernel_rfl) (by kernel_rfl) (fun _ _ _ _ h => h) (fun K hK => ?_)
      go_big_quiet_op
      refine hK _ ?_
      clear hK K
      refine pi_t 16 rfl (by kernel_rfl) (by kernel_rfl) (fun _ _ _ _ h => h) (fun K hK => ?_)
      go_big_quiet_op
      refine hK _ ?_
      clear hK K
      refine pi_l 17 rfl (by kernel_rfl) (fun K hK => ?_)
      go_wp2
      refine hK _ _ (by simp) ?_
      clear hK K
      refine pi_end (by kernel_rfl) ?_
      go_wp2_with fail
      go_roundw
      case rel => exact ⟨k + 1, _, _, by omega, by go_num, hEf.setR (p := ⟨w.heap.size, 5, none⟩) (Nat.le_refl _) _, (setCell_same HBF.out 5 _).trans rfl, HN.out.setc (by omega) _ _⟩
      case measure => simp [intOf]; omega
    · obtain rfl : k = B + 1 := by omega
      clear hbx hHr
      go_wp2
      go_ret
      exact HM.out.post hok HB.out HBX.out (Nat.le_refl _) (Nat.le_succ _) hE0
def RKUpdPost (w : World) (s : Nat) (C : Cfg) (B : Nat) (ls : Nat → List Int) (key d : Int) (e : Ending) (w' : World) : Prop :=
  e = .returned (.int .i64 (errK C B ls key d)) ∧ ((errK C B ls key d = 0 ∧ ∃ t L, RKAt w' s t C B L (updK C ls key d) ∧ (∀ k, rkF s t C B L k → k = s ∨ w.heap.size ≤ k) ∧ Mod (fun k => k = s) w w') ∨ (errK C B ls key d ≠ 0 ∧ Ext w w'))
theorem errs_first {C : Cfg} {ls : Nat → List Int} {key d : Int} {n : Nat} (h0 : ∀ m, m < n → lvE C m (ls m) (sh m key) d = 0) (hn : lvE C n (ls n) (sh n key) d ≠ 0) : ∀ {m : Nat}, n < m → errs C ls key d m = lvE C n (ls n) (sh n key) d := by
  intro m hm
  induction m with
  | zero => omega
  | succ m ih =>
    by_cases e : m = n
    · subst e
      show fst_ (errs C ls key d m) _ = _
      rw [errs_zero.2 h0]; rfl
    · show fst_ (errs C ls key d m) _ = _
      rw [ih (by omega)]
      unfold fst_
      rw [decide_eq_false hn]; rfl
theorem errK_neg {C : Cfg} (hok : C.Ok) {B : Nat} (hB : C.bits = B) {ls : Nat → List Int} {key d : Int} (hk0 : 0 ≤ key) (hk : key < keys C 0) (hm : C.mode = 2) (hd : d < 0) : errK C B ls key d = 3 := by
  have h0 : lvE C (0 : Nat) (ls 0) (sh 0 key) d = 3 := by
    have hs : sh 0 key < keys C (0 : Nat) := sh_lt hok (by omega) hk0 hk
    cases hx : isX C (0 : Nat) with
    | true => rw [lvE_x hx]; exact errX_neg hs hm hd
    | false => rw [lvE_s hx]; exact errU_neg hs hm hd
  unfold errK
  rw [decide_eq_false (by omega)]
  show errs C ls key d (B + 1) = 3
  rw [errs_first (n := 0) (fun m hm => by omega) (by rw [h0]; decide) (Nat.succ_pos B), h0]
/-- A stack in which some levels have been told of an update. -/
theorem RKAt.put {w w' : World} {s t : Nat} {C : Cfg} {B : Nat} {L : Nat → RLev} {ls : Nat → List Int} (h : RKAt w s t C B L ls) {n : Nat} (hn : n ≤ B) {l : List Int} (hm : Mod ((L n).foot C n) w w') (hl : RLvAt w' (L n) C n l) : RKAt w' s t C B L (fun m => if m = n then l else ls m) := by
  have ty : ∀ {k : Nat} {cur : Array Value} {T : TypeId} {f : Nat × Nat}, w.heap[k]? = some (.cells cur T f) → (T = 45 ∨ T = 48) → ¬ (L n).foot C n k := fun hb hT hf => by
    have := (h.lev n hn).ty hf hb
    rcases hT with rfl | rfl
    · exact this.1 rfl
    · exact this.2 rfl
  obtain ⟨cap, h1, h2⟩ := h.ex
  obtain ⟨cur, h3, h4⟩ := h.row
  refine ⟨⟨cap, hm.keep h1 (ty h1 (.inr rfl)), h2⟩, ⟨cur, hm.keep h3 (ty h3 (.inl rfl)), h4⟩, fun m hm' => ?_, h.sep, h.ok, h.hB⟩
  by_cases e : m = n
  · subst e; rw [if_pos rfl]; exact hl
  · rw [if_neg e]; exact (h.lev m hm').mod hm (fun k hk hf => h.sep m n hm' hn e k hk hf)
theorem RKAt.cong {w : World} {s t : Nat} {C : Cfg} {B : Nat} {L : Nat → RLev} {ls ls' : Nat → List Int} (h : RKAt w s t C B L ls) (he : ∀ n, n ≤ B → ls n = ls' n) : RKAt w s t C B L ls' :=
  ⟨h.ex, h.row, fun n hn => he n hn ▸ h.lev n hn, h.sep, h.ok, h.hB⟩
def partU (C : Cfg) (ls : Nat → List Int) (key d : Int) (k n : Nat) : List Int := if n < k then updK C ls key d n else ls n
set_option maxRecDepth 20000 in
set_option maxHeartbeats 8000000 in
theorem RKUpdate_c (s t : Nat) (C : Cfg) (B : Nat) (L0 : Nat → RLev) (ls : Nat → List Int) (key d : Int) (w : World) (h : RKAt w s t C B L0 ls) (hk : U64 key) (hd : I64 d) :
    Calls Tryz.prog 27 #[.pointer (some ⟨s, 0, none⟩), .int .u64 key, .int .i64 d] w (RKUpdPost w s C B ls key d) := by
  obtain ⟨hk0, hk1⟩ := hk
  have hok := h.ok
  have hb1 := hok.b1
  have hb2 := hok.b2
  have hB := h.hB
  have hbd : B ≤ 59 := by omega
  have HB := Lib.hid hB
  have HH := Lib.hid h
  have hls := h.lts
  obtain ⟨cap, hex, hcap⟩ := h.ex
  have c0 := (cell_of hex 0).trans rfl
  have c1 := (cell_of hex 1).trans rfl
  have c2 := (cell_of hex 2).trans rfl
  have c3 := (cell_of hex 3).trans rfl
  have c4 := (cell_of hex 4).trans rfl
  have HKY := Lib.hid (fun W' => KeysR_c C hok 0 (Int.le_refl 0) (by omega) W')
  have HD := Lib.hid hd
  have HEX := Lib.hid hex
  clear hex h hB hd
  by_cases hge : keys C 0 ≤ key
  · have he : errK C B ls key d = 2 := by unfold errK; rw [decide_eq_true hge]; rfl
    have hge' : decide (keys C 0 ≤ key) = true := decide_eq_true hge
    unfold RKUpdPost
    rw [he]
    clear he
    go_enter Tryz.func27, Tryz.ntmps27
    go_wp2_with fail
    refine Calls.mono (HKY.out _) ?_
    rintro e w1 ⟨rfl, hx1⟩
    go_wp2
    go_ret
    exact ⟨rfl, by first | exact .inr ⟨by decide, hx1⟩ | exact hx1⟩
  · have hlt : key < keys C 0 := by omega
    have hge' : decide (keys C 0 ≤ key) = false := decide_eq_false hge
    by_cases hmd : C.mode = 2 ∧ d < 0
    · have he : errK C B ls key d = 3 := errK_neg hok HB.out hk0 hlt hmd.1 hmd.2
      obtain ⟨hm, hdn⟩ := hmd
      have hm' : (C.mode == 2) = true := by simpa using hm
      have hdn' : decide (d < 0) = true := decide_eq_true hdn
      unfold RKUpdPost
      rw [he]
      clear he hm
      go_enter Tryz.func27, Tryz.ntmps27
      go_wp2_with fail
      refine Calls.mono (HKY.out _) ?_
      rintro e w1 ⟨rfl, hx1⟩
      have d3 := ((bcell hx1).1 _ _ hls).trans c3
      have dl := Nat.lt_of_lt_of_le hls hx1.size
      go_wp2
      go_ret
      exact ⟨rfl, by first | exact .inr ⟨by decide, hx1⟩ | exact hx1⟩
    · have HNG := Lib.hid hmd
      have herr : errK C B ls key d = errs C ls key d (B + 1) := by unfold errK; rw [hge']; rfl
      have HERR := Lib.hid herr
      clear herr hmd
      go_enter Tryz.func27, Tryz.ntmps27
      go_wp2_with fail
      refine Calls.mono (HKY.out _) ?_
      rintro e w1 ⟨rfl, hx1⟩
      have d3 := ((bcell hx1).1 _ _ hls).trans c3
      have dl := Nat.lt_of_lt_of_le hls hx1.size
      clear c0 c1 c2 c3 c4
      go_upto_region 3 with (fail)
      go_cut [26] (fun s26 wx => s26 = .bool false ∧ wx = w1)
      case first =>
        by_cases hm : C.mode = 2
        · have hm' : (C.mode == 2) = true := by simpa using hm
          have hdn' : decide (d < 0) = false := decide_eq_false (fun h => HNG.out ⟨hm, h⟩)
          have hdn2 : 0 ≤ d := Int.not_lt.mp (fun h => HNG.out ⟨hm, h⟩)
          clear hm
          go_wp2_with fail
          go_meet
          exact ⟨by first | rfl | simp, rfl⟩
        · have hm' : (C.mode == 2) = false := by simpa using hm
          clear hm
          go_wp2_with fail
          go_meet
          exact ⟨rfl, rfl⟩
      case rest =>
        obtain ⟨rfl, rfl⟩ := hcut
        rename World => w1
        clear d3
        have HCP := Lib.hid (RKCopy_c s t C B L0 ls w1 (HH.out.ext hx1))
        go_wp2_with fail
        refine Calls.mono HCP.out ?_
        rintro e w2 ⟨a, t2, L2, rfl, hK2, hF2, hx2⟩
        have HF2 := Lib.hid (show ∀ k, rkF a t2 C B L2 k → w1.heap.size ≤ k from hF2)
        have HK2 : Hid (RKAt w2 a t2 C B L2 (partU C ls key d 0)) := Lib.hid (hK2.cong (fun n _ => by unfold partU; rw [if_neg (Nat.not_lt_zero _)]))
        have hE2 := hx1.trans' hx2
        have hz1 := hx1.size
        clear hK2 hF2 hx2 hx1 dl
        go_wp2_with fail
        go_loopw [8] (fun u8 wr => ∃ k : Nat, k ≤ B + 1 ∧ u8 = .int .i64 k ∧ RKAt wr a t2 C B L2 (partU C ls key d k) ∧ Ext w wr ∧ ∀ m, m < k → lvE C m (ls m) (sh m key) d = 0) (fun u8 _ => B + 1 - (intOf u8).toNat)
        case atStart => exact ⟨0, Nat.zero_le _, rfl, HK2.out, hE2, fun m hm => absurd hm (Nat.not_lt_zero _)⟩
        case round =>
          clear hE2
          obtain ⟨k, hk, rfl, hK, hE, hz⟩ := hrel
          have HZ := Lib.hid hz
          have HK := Lib.hid hK
          have e5 := (cell_of (hE.keep HEX.out) 5).trans rfl
          have el := Nat.lt_of_lt_of_le hls hE.size
          obtain ⟨cap2, hex2, hcap2⟩ := hK.ex
          have a5 := (cell_of hex2 5).trans rfl
          have al := lt_of hex2
          have ltt := hK.ltt
          by_cases hlt2 : k < B + 1
          · have ck := hK.cell (show k ≤ B by omega)
            have hlk := hK.lev k (by omega)
            have hpk : partU C ls key d k k = ls k := by unfold partU; rw [if_neg (Nat.lt_irrefl _)]
            rw [hpk] at hlk
            have hs0 : 0 ≤ sh k key := sh_nn hk0 k
            have hs1 : sh k key < keys C k := sh_lt hok (by have := HB.out; omega) hk0 hlt
            have hs2 := keys_bd C hok k (Int.natCast_nonneg k)
            have hcall : Calls Tryz.prog 40 #[.pointer (some ⟨(L2 k).p, 0, none⟩), .int .u64 (key / 2 ^ k), .int .i64 d] wr (RLUpdPost wr (L2 k) C k (ls k) (sh k key) d) := RLUpdate_c (L2 k) C k (ls k) (sh k key) d wr hlk (by unfold U64; omega) HD.out
            have HCALL := Lib.hid hcall
            have hkz : (k : Int) < (B : Int) + 1 := by omega
            have hk63 : k ≤ 63 := by omega
            clear hz hK hex2 hlk hpk hs0 hs1 hs2 hcall
            go_wp2_with fail
            refine Calls.mono HCALL.out ?_
            rintro e w5 ⟨rfl, hres⟩
            have HRES := Lib.hid hres
            clear hres HCALL
            by_cases he : lvE C k (ls k) (sh k key) d = 0
            · obtain ⟨_, hl5, hM5⟩ := HRES.out.resolve_right (fun h => h.1 he)
              have HL5 := Lib.hid hl5
              have hput := HK.out.put (show k ≤ B by omega) hM5 hl5
              have hE5 : Ext w w5 := Below.trans hE (hM5.below (B := w.heap.size) hE.size (fun j hj => by have := HF2.out j (.inr (.inr ⟨k, by omega, hj⟩)); omega))
              have HPUT : Hid (RKAt w5 a t2 C B L2 (partU C ls key d (k + 1))) := Lib.hid (hput.cong (fun n _ => by
                unfold partU
                by_cases e : n = k
                · subst e; rw [if_pos rfl, if_pos (Nat.lt_succ_self _)]; rfl
                · rw [if_neg e]
                  by_cases e2 : n < k
                  · rw [if_pos e2, if_pos (by omega)]
                  · rw [if_neg e2, if_neg (by omega)]))
              have HE0 := Lib.hid he
              rw [he]
              clear hl5 hM5 hput he HRES
              go_wp2
              go_roundw
              case rel =>
                refine ⟨k + 1, by omega, by go_num, HPUT.out, hE5, fun m hm => ?_⟩
                by_cases e : m = k
                · rw [e]; exact HE0.out
                · exact HZ.out m (by omega)
              case measure => simp [intOf]; omega
            · obtain ⟨_, hx5⟩ := HRES.out.resolve_left (fun h => he h.1)
              have hfin : errK C B ls key d = lvE C k (ls k) (sh k key) d := by rw [HERR.out]; exact errs_first HZ.out he (by omega)
              clear HRES
              generalize lvE C k (ls k) (sh k key) d = er at *
              have HFIN := Lib.hid hfin
              have HE0 := Lib.hid he
              have heb : (er != 0) = true := by simpa using he
              have hEf := hE.trans' hx5
              clear he hfin
              go_wp2
              go_ret
              exact ⟨by rw [HFIN.out]; rfl, .inr ⟨by rw [HFIN.out]; exact HE0.out, hEf⟩⟩
          · obtain rfl : k = B + 1 := by omega
            have fe := frozen_of (hE.keep HEX.out) 5
            have HEXR := Lib.hid (hE.keep HEX.out)
            have h0 : errK C B ls key d = 0 := by rw [HERR.out]; exact errs_zero.2 HZ.out
            have H0 := Lib.hid h0
            clear hz hK hex2 h0
            go_wp2
            go_ret
            refine ⟨by rw [H0.out]; rfl, .inl ⟨H0.out, t2, L2, ⟨⟨cap2, (setCell_same HEXR.out 5 _).trans rfl, hcap2⟩, ?_, fun n hn => ?_, HK.out.sep, hok, HB.out⟩, ?_, (hE.mod _).trans (mod_set _ _ _ _)⟩⟩
            · obtain ⟨cur, h3, h4⟩ := HK.out.row
              exact ⟨cur, (setCell_other _ _ (by have := HF2.out t2 (.inr (.inl rfl)); omega)).trans h3, h4⟩
            · have hl := HK.out.lev n hn
              have hp : partU C ls key d (B + 1) n = updK C ls key d n := by unfold partU; rw [if_pos (by omega)]
              rw [hp] at hl
              exact hl.keep (fun j hj => setCell_other _ _ (by have := HF2.out j (.inr (.inr ⟨n, hn, hj⟩)); omega))
            · rintro j (rfl | rfl | ⟨n, hn, hj⟩)
              · exact .inl rfl
              · exact .inr (by have := HF2.out j (.inr (.inl rfl)); omega)
              · exact .inr (by have := HF2.out j (.inr (.inr ⟨n, hn, hj⟩)); omega)
end Go.Proofs.YtfhdjekpdifajaaGreat
namespace Go.Proofs.YtfhdjekpdifajaaGreat
set_option linter.unusedVariables false
open Go.RowKit
attribute [local go_sem] Oper.semAt_some
/-- A slice of pieces that lies below a block. -/
def PcsAt (n₀ : Nat) (W : World) (v : Value) (ps : List (Nat × Int)) : Prop :=
  (v = .slice none 0 0 ∧ ps = []) ∨ ∃ g cap, v = .slice (some ⟨g, 0, none⟩) ps.length cap ∧ g < n₀ ∧ PCells W g 0 ps
theorem PcsAt.below {n₀ : Nat} {A B : World} {v : Value} {ps : List (Nat × Int)} (h : PcsAt n₀ A v ps) (hb : Below n₀ A B) : PcsAt n₀ B v ps := by
  rcases h with h | ⟨g, cap, h1, h2, h3⟩
  · exact .inl h
  · exact .inr ⟨g, cap, h1, h2, fun k hk => ⟨(hb.cell (p := ⟨g, _, none⟩) h2).trans (h3 k hk).1, (hb.cell (p := ⟨g, _, none⟩) h2).trans (h3 k hk).2⟩⟩
theorem getD_in {ps : List (Nat × Int)} {k : Nat} (h : k < ps.length) : ps.getD k (0, 0) ∈ ps := by simp [h]
end Go.Proofs.YtfhdjekpdifajaaGreat
namespace Go.Proofs.YtfhdjekpdifajaaGreat
set_option linter.unusedVariables false
open Go.RowKit
@[go_sem] theorem fld_bits (b r c m s : Int) (w : World) : (Instr.field 24 (.agg #[.int .i64 b, .int .i64 r, .int .i64 c, .int .i64 m, .int .u64 s]) 0).run Tryz.prog w = .ok (.int .i64 b) w := by kernel_rfl
end Go.Proofs.YtfhdjekpdifajaaGreat
namespace Go.Proofs.YtfhdjekpdifajaaGreat
set_option linter.unusedVariables false
open Go.RowKit
structure Own4 (N : Nat) (w : World) (F1 F2 F3 F4 : Nat → Prop) (P1 P2 P3 P4 : World → Prop) : Prop where
  o1 : Own F1 P1 w
  o2 : Own F2 P2 w
  o3 : Own F3 P3 w
  o4 : Own F4 P4 w
  d12 : Dj F1 F2
  d13 : Dj F1 F3
  d14 : Dj F1 F4
  d23 : Dj F2 F3
  d24 : Dj F2 F4
  d34 : Dj F3 F4
  n1 : ∀ k, F1 k → N ≤ k
  n2 : ∀ k, F2 k → N ≤ k
  n3 : ∀ k, F3 k → N ≤ k
  n4 : ∀ k, F4 k → N ≤ k
  nw : N ≤ w.heap.size
section
variable {N : Nat} {w w' : World} {F1 F2 F3 F4 : Nat → Prop} {P1 P2 P3 P4 : World → Prop}
theorem Own4.swap (h : Own4 N w F1 F2 F3 F4 P1 P2 P3 P4) : Own4 N w F2 F1 F3 F4 P2 P1 P3 P4 :=
  ⟨h.o2, h.o1, h.o3, h.o4, h.d12.symm, h.d23, h.d24, h.d13, h.d14, h.d34, h.n2, h.n1, h.n3, h.n4, h.nw⟩
theorem Own4.rot (h : Own4 N w F1 F2 F3 F4 P1 P2 P3 P4) : Own4 N w F3 F4 F1 F2 P3 P4 P1 P2 :=
  ⟨h.o3, h.o4, h.o1, h.o2, h.d34, h.d13.symm, h.d23.symm, h.d14.symm, h.d24.symm, h.d12, h.n3, h.n4, h.n1, h.n2, h.nw⟩
theorem Own4.swap2 (h : Own4 N w F1 F2 F3 F4 P1 P2 P3 P4) : Own4 N w F1 F2 F4 F3 P1 P2 P4 P3 := h.rot.swap.rot
theorem Own4.ext (h : Own4 N w F1 F2 F3 F4 P1 P2 P3 P4) (he : Ext w w') : Own4 N w' F1 F2 F3 F4 P1 P2 P3 P4 :=
  ⟨h.o1.ext he, h.o2.ext he, h.o3.ext he, h.o4.ext he, h.d12, h.d13, h.d14, h.d23, h.d24, h.d34, h.n1, h.n2, h.n3, h.n4, Nat.le_trans h.nw he.size⟩
/-- The first is changed, or put anew. -/
theorem Own4.step {F1' S : Nat → Prop} {P1' : World → Prop} (h : Own4 N w F1 F2 F3 F4 P1 P2 P3 P4) (hm : Mod S w w') (hS : ∀ k, S k → F1 k) (h1 : Own F1' P1' w') (hF : ∀ k, F1' k → F1 k ∨ w.heap.size ≤ k) : Own4 N w' F1' F2 F3 F4 P1' P2 P3 P4 := by
  refine ⟨h1, h.o2.mod hm (fun k hk hs => h.d12 k (hS k hs) hk), h.o3.mod hm (fun k hk hs => h.d13 k (hS k hs) hk), h.o4.mod hm (fun k hk hs => h.d14 k (hS k hs) hk), ?_, ?_, ?_, h.d23, h.d24, h.d34, fun k hk => ?_, h.n2, h.n3, h.n4, Nat.le_trans h.nw hm.size⟩
  · exact (h.o2.grow h.d12.symm hF).symm
  · exact (h.o3.grow h.d13.symm hF).symm
  · exact (h.o4.grow h.d14.symm hF).symm
  · rcases hF k hk with h2 | h2
    · exact h.n1 k h2
    · exact Nat.le_trans h.nw h2
theorem Own4.low {S : Nat → Prop} (h : Own4 N w F1 F2 F3 F4 P1 P2 P3 P4) (hm : Mod S w w') (hS : ∀ k, S k → F1 k) : Below N w w' := hm.below h.nw (fun k hk => h.n1 k (hS k hk))
end
theorem below_of {N : Nat} {w w' : World} (h : Ext w w') (hN : N ≤ w.heap.size) : Below N w w' := ⟨h.os, h.tape, h.output, h.size, fun k hk => h.block k (Nat.lt_of_lt_of_le hk hN)⟩
theorem cell_below {N : Nat} {w w' : World} (h : Below N w w') {b o : Nat} {v : Value} (hb : b < N) (hc : w.cell? ⟨b, o, none⟩ = some v) : w'.cell? ⟨b, o, none⟩ = some v := (h.cell (p := ⟨b, o, none⟩) hb).trans hc
theorem Own4.mk4 {N z1 z2 z3 : Nat} {w : World} {F1 F2 F3 F4 : Nat → Prop} {P1 P2 P3 P4 : World → Prop} (o1 : Own F1 P1 w) (o2 : Own F2 P2 w) (o3 : Own F3 P3 w) (o4 : Own F4 P4 w)
    (b1 : ∀ k, F1 k → N ≤ k ∧ k < z1) (b2 : ∀ k, F2 k → z1 ≤ k ∧ k < z2) (b3 : ∀ k, F3 k → z2 ≤ k ∧ k < z3) (b4 : ∀ k, F4 k → z3 ≤ k) (h1 : N ≤ z1) (h2 : z1 ≤ z2) (h3 : z2 ≤ z3) (hw : N ≤ w.heap.size) : Own4 N w F1 F2 F3 F4 P1 P2 P3 P4 :=
  ⟨o1, o2, o3, o4, fun k h h' => by have := b1 k h; have := b2 k h'; omega, fun k h h' => by have := b1 k h; have := b3 k h'; omega, fun k h h' => by have := b1 k h; have := b4 k h'; omega, fun k h h' => by have := b2 k h; have := b3 k h'; omega, fun k h h' => by have := b2 k h; have := b4 k h'; omega, fun k h h' => by have := b3 k h; have := b4 k h'; omega,
    fun k h => (b1 k h).1, fun k h => by have := b2 k h; omega, fun k h => by have := b3 k h; omega, fun k h => by have := b4 k h; omega, hw⟩
end Go.Proofs.YtfhdjekpdifajaaGreat
namespace Go.Proofs.YtfhdjekpdifajaaGreat
set_option linter.unusedVariables false
open Go.RowKit
/-- What an update leaves. -/
def nextK (C : Cfg) (B : Nat) (ls : Nat → List Int) (key d : Int) : Nat → List Int := bif decide (errK C B ls key d = 0) then updK C ls key d else ls
/-- A stack, and one of the references. -/
def KP (N : Nat) (w : World) (C : Cfg) (B s r : Nat) (ls ls' : Nat → List Int) : Prop :=
  ∃ g L t L2 z, KAt w s g C B L ls ∧ KLow z s g B L ∧ KFresh N B L ∧ RKAt w r t C B L2 ls' ∧ (∀ k, rkF r t C B L2 k → z ≤ k) ∧ N ≤ z ∧ z ≤ w.heap.size
section
variable {N : Nat} {w w' : World} {C : Cfg} {B s r : Nat} {ls ls' : Nat → List Int}
theorem KP.ext (h : KP N w C B s r ls ls') (he : Ext w w') : KP N w' C B s r ls ls' := by
  obtain ⟨g, L, t, L2, z, h1, h2, h3, h4, h5, h6, h7⟩ := h
  exact ⟨g, L, t, L2, z, h1.ext he, h2, h3, h4.ext he, h5, h6, Nat.le_trans h7 he.size⟩
end
end Go.Proofs.YtfhdjekpdifajaaGreat
namespace Go.Proofs.YtfhdjekpdifajaaGreat
set_option linter.unusedVariables false
open Go.RowKit
def sF (s b c : Nat) (k : Nat) : Prop := k = s ∨ k = b ∨ k = c
theorem SAt.own {w : World} {s b c : Nat} {C : Cfg} {lv : Int} {R W : Nat} {l : List Int} (h : SAt w s b c C lv R W l) : Own (sF s b c) (fun w => SAt w s b c C lv R W l) w :=
  ⟨h, fun w w' h hk => h.keep (hk s (.inl rfl)) (hk b (.inr (.inl rfl))) (hk c (.inr (.inr rfl))), fun k hk => by
    rcases hk with rfl | rfl | rfl
    · exact h.lts
    · exact h.g.ltb
    · exact h.g.ltc⟩
/-- Two sketches, and two of the references. -/
def Q4 (N : Nat) (w : World) (C : Cfg) (lv : Int) (R W : Nat) (s o r q : Nat) (l m l' m' : List Int) : Prop :=
  ∃ b c b2 c2 G G2, Own4 N w (sF s b c) (sF o b2 c2) (rsF r G R) (rsF q G2 R) (fun w => SAt w s b c C lv R W l) (fun w => SAt w o b2 c2 C lv R W m) (fun w => RSAt w r G C lv R W l') (fun w => RSAt w q G2 C lv R W m')
section
variable {N : Nat} {w w' : World} {C : Cfg} {lv : Int} {R W : Nat} {s o r q : Nat} {l m l' m' : List Int}
theorem Q4.swap (h : Q4 N w C lv R W s o r q l m l' m') : Q4 N w C lv R W o s q r m l m' l' := by
  obtain ⟨b, c, b2, c2, G, G2, h⟩ := h
  exact ⟨b2, c2, b, c, G2, G, h.swap.swap2⟩
theorem Q4.ext (h : Q4 N w C lv R W s o r q l m l' m') (he : Ext w w') : Q4 N w' C lv R W s o r q l m l' m' := by
  obtain ⟨b, c, b2, c2, G, G2, h⟩ := h
  exact ⟨b, c, b2, c2, G, G2, h.ext he⟩
/-- What a reference's sketch points to. -/
theorem Q4.grid (h : Q4 N w C lv R W s o r q l m l' m') : ∃ G : Gr, r < w.heap.size ∧ w.cell? ⟨r, 6, none⟩ = some (.pointer (some ⟨G.g, 0, none⟩)) ∧ RGAt w G R W l' := by
  obtain ⟨b, c, b2, c2, G, G2, h⟩ := h
  exact ⟨G, h.o3.h.lts, (cell_of h.o3.h.ex 6).trans rfl, h.o3.h.g⟩
end
end Go.Proofs.YtfhdjekpdifajaaGreat
namespace Go.Proofs.YtfhdjekpdifajaaGreat
set_option linter.unusedVariables false
open Go.RowKit
theorem Put_e (b c W : Nat) (l : List Int) (w : World) (h : GAt w b c 1 W l) (k : Nat) (hk : k < W) (n : Int) :
    Calls Tryz.prog 257 #[.pointer (some ⟨b, 0, none⟩), .int .i64 0, .int .i64 k, .int .i64 n] w fun e w' => e = .returned (.bool true) ∧ w.setCell ⟨c, k, none⟩ (.int .i64 n) = w' := by
  have := Put_c b c 1 W l w h 0 k (by decide) hk n
  rw [Nat.zero_mul, Nat.zero_add] at this
  exact this
set_option maxRecDepth 20000 in
set_option maxHeartbeats 4000000 in
theorem ELoad_yes (s b c : Nat) (C : Cfg) (lv : Int) (N : Nat) (l m : List Int) (v : Value) (w : World) (h : EAt w s b c C lv N l) (hv : IntsAt w v m) (hI : allI m) (hl : m.length = N)
    (hne : ∀ g off n cap, v = .slice (some ⟨g, off, none⟩) n cap → g ≠ c) :
    Calls Tryz.prog 283 #[.pointer (some ⟨s, 0, none⟩), v] w fun e w' => e = .returned (.bool true) ∧ EAt w' s b c C lv N m ∧ Mod (fun k => k = c) w w' := by
  have hN1 : 1 ≤ N := h.g.w1
  have hN2 : N ≤ 128 := h.g.w2
  obtain ⟨vg, vo, vcap, rfl, hvl, hvc⟩ := hv.slice (by rw [hl]; omega)
  have hgc : vg ≠ c := hne _ _ _ _ rfl
  have hLl := h.len
  rw [hl] at hvc ⊢
  have c6 := (cell_of h.ex 6).trans rfl
  have lts := h.lts
  have HH := Lib.hid h
  have HVC := Lib.hid hvc
  have HL := Lib.hid hl
  have HLL := Lib.hid hLl
  clear h hv hl hne hvc hLl
  go_enter Tryz.func283, Tryz.ntmps283
  go_wp2_with fail
  refine Calls.mono (Width_c b c 1 N l _ HH.out.g) ?_
  rintro e w1 ⟨rfl, hx1⟩
  subst hx1
  clear c6
  go_wp2_with fail
  go_loopw [17] (fun u23 wr => ∃ k : Nat, k ≤ N ∧ u23 = .int .i64 k ∧ EAt wr s b c C lv N (mixL (fun j => m.getD j 0) (fun j => l.getD j 0) k N) ∧ Mod (fun i => i = c) w wr) (fun u23 _ => N - (intOf u23).toNat)
  case atStart =>
    refine ⟨0, Nat.zero_le _, rfl, ?_, Mod.refl _ _⟩
    have e : mixL (fun j => m.getD j 0) (fun j => l.getD j 0) 0 N = l := by
      apply list_ext_getD
      · rw [mixL_len, HLL.out]
      · intro i hi
        rw [mixL_len] at hi
        rw [mixL_get _ _ hi, if_neg (by omega)]
    rw [e]; exact HH.out
  case round =>
    obtain ⟨k, hk, rfl, hSr, hM⟩ := hrel
    have hMs := hM.size
    by_cases hgo : k < N
    · have x0 := (mcell hM (b := vg) hvl hgc (vo + k)).trans (HVC.out k hgo)
      have c6 := (cell_of hSr.ex 6).trans rfl
      have lr := hSr.lts
      have hlr : vg < wr.heap.size := by omega
      have hxi : I64 (m.getD k 0) := getD_i64 hI k
      have hms := mixL_set (fun j => m.getD j 0) (fun j => l.getD j 0) (k := k) (n := N)
      have HMS := Lib.hid hms
      have HSR := Lib.hid hSr
      clear hms hSr
      generalize hx : m.getD k 0 = x at *
      have HX := Lib.hid hx
      clear hx
      go_wp2_with fail
      refine Calls.mono (Put_e b c N _ _ HSR.out.g k hgo x) ?_
      rintro e w2 ⟨rfl, rfl⟩
      go_wp2
      go_roundw
      case rel =>
        refine ⟨k + 1, by omega, by go_num, ?_, mod_put' hM _⟩
        rw [← HMS.out]
        exact HSR.out.setl (by rw [mixL_len]; exact hgo) hxi
      case measure => simp [intOf]; omega
    · obtain rfl : k = N := by omega
      have e : mixL (fun j => m.getD j 0) (fun j => l.getD j 0) k k = m := by
        apply list_ext_getD
        · rw [mixL_len, HL.out]
        · intro i hi
          rw [mixL_len] at hi
          rw [mixL_get _ _ hi, if_pos hi]
      rw [e] at hSr
      have HSR := Lib.hid hSr
      clear hSr e
      go_wp2
      go_ret
      exact ⟨rfl, HSR.out, hM⟩
set_option maxRecDepth 20000 in
set_option maxHeartbeats 2000000 in
theorem KLoad_yes (s g : Nat) (C : Cfg) (B : Nat) (L : Nat → Lev) (ls : Nat → List Int) (w : World) (h : KAt w s g C B L ls) (n : Nat) (hn : n ≤ B) (m : List Int) (v : Value) (hv : IntsAt w v m) (hI : allI m) (hl : m.length = lvN C n)
    (hne : ∀ g off k cap, v = .slice (some ⟨g, off, none⟩) k cap → g ≠ (L n).c) :
    Calls Tryz.prog 22 #[.pointer (some ⟨s, 0, none⟩), .int .i64 n, v] w fun e w' => e = .returned (.bool true) ∧ KAt w' s g C B L (fun k => if k = n then m else ls k) ∧ Mod (fun k => k = (L n).c) w w' := by
  cases hx : isX C n with
  | true =>
    have hA := (h.lev n hn).x hx
    have hl' : m.length = kN C n := by rw [hl]; unfold lvN; rw [hx]; rfl
    have HX := Lib.hid hx
    clear hx
    go_enter Tryz.func22, Tryz.ntmps22
    go_wp2_with fail
    refine (level_yes s g C B L ls w h n hn).mono ?_
    rintro e w1 ⟨rfl, rfl⟩
    rw [lvV_x HX.out]
    go_wp2_with fail
    refine Calls.mono (ELoad_yes _ _ _ C _ _ _ m v _ hA hv hI hl' hne) ?_
    rintro e w2 ⟨rfl, hA2, hM⟩
    go_wp2
    go_ret
    exact ⟨rfl, h.put hn hM (.inl ⟨HX.out, hA2⟩), hM⟩
  | false =>
    have hA := (h.lev n hn).sk hx
    have hl' : m.length = rN C * wN C := by rw [hl]; unfold lvN; rw [hx]; rfl
    have HX := Lib.hid hx
    clear hx
    go_enter Tryz.func22, Tryz.ntmps22
    go_wp2_with fail
    refine (level_yes s g C B L ls w h n hn).mono ?_
    rintro e w1 ⟨rfl, rfl⟩
    rw [lvV_s HX.out]
    go_wp2_with fail
    refine Calls.mono (Load_yes _ _ _ C _ _ _ _ m v _ hA hv hI hl' hne) ?_
    rintro e w2 ⟨rfl, hA2, hM⟩
    go_wp2
    go_ret
    exact ⟨rfl, h.put hn hM (.inr ⟨HX.out, hA2⟩), hM⟩
end Go.Proofs.YtfhdjekpdifajaaGreat
namespace Go.Proofs.YtfhdjekpdifajaaGreat
set_option linter.unusedVariables false
open Go.RowKit
/-- The blocks of a stack. -/
def kF (s g B : Nat) (L : Nat → Lev) (k : Nat) : Prop := k = s ∨ k = g ∨ ∃ n, n ≤ B ∧ (k = (L n).s ∨ k = (L n).b ∨ k = (L n).c)
theorem KAt.keep {w w' : World} {s g : Nat} {C : Cfg} {B : Nat} {L : Nat → Lev} {ls : Nat → List Int} (h : KAt w s g C B L ls) (hk : ∀ k, kF s g B L k → w'.heap[k]? = w.heap[k]?) : KAt w' s g C B L ls :=
  ⟨by rw [hk s (.inl rfl)]; exact h.ex, by rw [hk g (.inr (.inl rfl))]; exact h.row, fun n hn => (h.lev n hn).keep (hk _ (.inr (.inr ⟨n, hn, .inl rfl⟩))) (hk _ (.inr (.inr ⟨n, hn, .inr (.inl rfl)⟩))) (hk _ (.inr (.inr ⟨n, hn, .inr (.inr rfl)⟩))), h.sep, h.ok, h.hB⟩
theorem KAt.own {w : World} {s g : Nat} {C : Cfg} {B : Nat} {L : Nat → Lev} {ls : Nat → List Int} (h : KAt w s g C B L ls) : Own (kF s g B L) (fun w => KAt w s g C B L ls) w :=
  ⟨h, fun w w' h hk => h.keep hk, fun k hk => by
    rcases hk with rfl | rfl | ⟨n, hn, rfl | rfl | rfl⟩
    · exact h.lts
    · exact h.ltg
    · exact (h.lev n hn).lts
    · exact (h.lev n hn).ltb
    · exact (h.lev n hn).ltc⟩
theorem cellsOf_kF {s g B : Nat} {L : Nat → Lev} {k : Nat} (h : cellsOf B L k) : kF s g B L k := by
  obtain ⟨n, hn, rfl⟩ := h; exact .inr (.inr ⟨n, hn, .inr (.inr rfl)⟩)
theorem kF_fresh {N s g B : Nat} {L : Nat → Lev} (h1 : N ≤ s) (h2 : N ≤ g) (h3 : ∀ n, n ≤ B → N ≤ (L n).s ∧ N ≤ (L n).b ∧ N ≤ (L n).c) : ∀ k, kF s g B L k → N ≤ k := by
  rintro k (rfl | rfl | ⟨n, hn, rfl | rfl | rfl⟩)
  · exact h1
  · exact h2
  · exact (h3 n hn).1
  · exact (h3 n hn).2.1
  · exact (h3 n hn).2.2
/-- A stack one of whose levels lies elsewhere, and has other cells. -/
theorem RKAt.putL {w w' : World} {s t : Nat} {C : Cfg} {B : Nat} {L : Nat → RLev} {ls : Nat → List Int} (h : RKAt w s t C B L ls) {n : Nat} (hn : n ≤ B) {l : List Int} {K : RLev} (hp : K.p = (L n).p) (hm : Mod ((L n).foot C n) w w') (hl : RLvAt w' K C n l) (hF : ∀ k, K.foot C n k → (L n).foot C n k ∨ w.heap.size ≤ k) :
    RKAt w' s t C B (fun m => if m = n then K else L m) (fun m => if m = n then l else ls m) := by
  have ty : ∀ {k : Nat} {cur : Array Value} {T : TypeId} {f : Nat × Nat}, w.heap[k]? = some (.cells cur T f) → (T = 45 ∨ T = 48) → ¬ (L n).foot C n k := fun hb hT hf => by
    have := (h.lev n hn).ty hf hb
    rcases hT with rfl | rfl
    · exact this.1 rfl
    · exact this.2 rfl
  obtain ⟨cap, h1, h2⟩ := h.ex
  obtain ⟨cur, h3, h4⟩ := h.row
  have hd : ∀ m, m ≤ B → m ≠ n → Dj ((L m).foot C m) (K.foot C n) := fun m hm' e k hk hk2 => by
    rcases hF k hk2 with h5 | h5
    · exact h.sep m n hm' hn e k hk h5
    · have := (h.lev m hm').lt hk; omega
  refine ⟨⟨cap, hm.keep h1 (ty h1 (.inr rfl)), h2⟩, ⟨cur, hm.keep h3 (ty h3 (.inl rfl)), fun m hm' => ?_⟩, fun m hm' => ?_, fun m k hm' hk' e => ?_, h.ok, h.hB⟩
  · by_cases e : m = n
    · subst e; rw [if_pos rfl, hp]; exact h4 m hm'
    · rw [if_neg e]; exact h4 m hm'
  · by_cases e : m = n
    · subst e; rw [if_pos rfl, if_pos rfl]; exact hl
    · rw [if_neg e, if_neg e]; exact (h.lev m hm').mod hm (fun k hk hf => h.sep m n hm' hn e k hk hf)
  · by_cases e1 : m = n
    · subst e1
      rw [if_pos rfl, if_neg (Ne.symm e)]
      exact (hd k hk' (Ne.symm e)).symm
    · by_cases e2 : k = n
      · subst e2
        rw [if_pos rfl, if_neg e1]
        exact hd m hm' e1
      · rw [if_neg e1, if_neg e2]; exact h.sep m k hm' hk' e
section
variable {N : Nat} {w w' : World} {F1 F2 F3 F4 : Nat → Prop} {P1 P2 P3 P4 : World → Prop} {C : Cfg} {B s r : Nat} {g t : Nat} {L : Nat → Lev} {M : Nat → RLev} {l l' : Nat → List Int}
theorem o_upd (h : Own4 N w (kF s g B L) F2 F3 F4 (fun w => KAt w s g C B L l) P2 P3 P4) (key d : Int) (hk : U64 key) (hd : I64 d) :
    Calls Tryz.prog 26 #[.pointer (some ⟨s, 0, none⟩), .int .u64 key, .int .i64 d] w fun e w' => e = .returned (.int .i64 (errK C B l key d)) ∧ Own4 N w' (kF s g B L) F2 F3 F4 (fun w => KAt w s g C B L (nextK C B l key d)) P2 P3 P4 ∧ Below N w w' := by
  refine (KUpdate_c s g C B L l key d w h.o1.h hd hk).mono ?_
  rintro e w' ⟨rfl, hK, hM⟩
  exact ⟨rfl, h.step hM (fun k hk => cellsOf_kF hk) hK.own (fun k hk => .inl hk), h.low hM (fun k hk => cellsOf_kF hk)⟩
theorem o_rupd (h : Own4 N w F1 F2 (rkF r t C B M) F4 P1 P2 (fun w => RKAt w r t C B M l') P4) (key d : Int) (hk : U64 key) (hd : I64 d) :
    Calls Tryz.prog 27 #[.pointer (some ⟨r, 0, none⟩), .int .u64 key, .int .i64 d] w fun e w' => ∃ t' M', e = .returned (.int .i64 (errK C B l' key d)) ∧ Own4 N w' F1 F2 (rkF r t' C B M') F4 P1 P2 (fun w => RKAt w r t' C B M' (nextK C B l' key d)) P4 ∧ Below N w w' := by
  refine (RKUpdate_c r t C B M l' key d w h.o3.h hk hd).mono ?_
  rintro e w' ⟨rfl, (⟨h0, t', L', hR, hF, hM⟩ | ⟨h0, hE⟩)⟩
  · have e : nextK C B l' key d = updK C l' key d := by unfold nextK; rw [decide_eq_true h0]; rfl
    rw [e]
    refine ⟨t', L', rfl, (h.rot.step hM (fun k hk => by rw [hk]; exact .inl rfl) hR.own (fun k hk => (hF k hk).imp (fun e => by rw [e]; exact .inl rfl) id)).rot, h.rot.low hM (fun k hk => by rw [hk]; exact .inl rfl)⟩
  · have e : nextK C B l' key d = l' := by unfold nextK; rw [decide_eq_false h0]; rfl
    rw [e]
    exact ⟨t, M, rfl, h.ext hE, h.low (hE.mod (fun _ => False)) (fun k hk => hk.elim)⟩
end
theorem lvN_leU {C : Cfg} (h : C.Ok) (lv : Int) : lvN C lv ≤ 1024 := by
  have h1 := h.w1
  have h2 := h.w2
  have h3 := h.r1
  have h4 := h.r2
  unfold lvN
  cases hx : isX C lv with
  | true =>
    have h3 : keys C lv ≤ C.width := of_decide_eq_true hx
    show kN C lv ≤ 1024
    unfold kN; omega
  | false =>
    show rN C * wN C ≤ 1024
    have e1 : rN C ≤ 8 := by have := rN_eq h; omega
    have e2 : wN C ≤ 128 := by have := wN_eq h; omega
    exact Nat.le_trans (Nat.mul_le_mul e1 e2) (by decide)
set_option maxRecDepth 20000 in
set_option maxHeartbeats 8000000 in
theorem same20_c (s g : Nat) (L : Nat → Lev) (r t : Nat) (M : Nat → RLev) (C : Cfg) (B : Nat) (ls : Nat → List Int) (w : World) (hK : KAt w s g C B L ls) (hR : RKAt w r t C B M ls) :
    Calls Tryz.prog 68 #[.pointer (some ⟨s, 0, none⟩), .pointer (some ⟨r, 0, none⟩)] w fun e w' => e = .returned (.bool true) ∧ Ext w w' := by
  have hB := hK.hB
  have hok := hK.ok
  have hb2 := hok.b2
  have hbd : B ≤ 59 := by omega
  have HK := Lib.hid hK
  have HR := Lib.hid hR
  clear hK hR hB hb2
  have hnn : decide ((0 : Int) = 1) = false := rfl
  go_enter Tryz.func68, Tryz.ntmps68
  go_wp2_with fail
  go_loopw [5] (fun u5 wr => ∃ k : Nat, k ≤ B + 1 ∧ u5 = .int .i64 k ∧ Ext w wr) (fun u5 _ => B + 1 - (intOf u5).toNat)
  case atStart => exact ⟨0, Nat.zero_le _, rfl, Ext.refl _⟩
  case round =>
    obtain ⟨k, hk, rfl, hE⟩ := hrel
    have hRr := HR.out.ext hE
    have hKr := HK.out.ext hE
    obtain ⟨cap, hex, hcap⟩ := hRr.ex
    have e5 := (cell_of hex 5).trans rfl
    have el := hRr.lts
    have HE := Lib.hid hE
    by_cases hlt : k < B + 1
    · have ck := hRr.cell (show k ≤ B by omega)
      have lt0 := hRr.ltt
      have hkz : (k : Int) < (B : Int) + 1 := by omega
      have HLV := Lib.hid (hRr.lev k (by omega))
      have hlen := HLV.out.len
      have hle := lvN_leU hok (k : Int)
      have HLN := Lib.hid (show (ls k).length ≤ 1000000 by rw [hlen]; omega)
      have HKR := Lib.hid hKr
      clear hRr hKr hex hE hlen hle
      rename World => wo
      go_wp2_with fail
      have hC0 := af_drew wo
      refine pi_start (fun w' => ∃ x : After wo, w' = x.w) [] (by kernel_rfl) ?_
      refine pi_t 0 rfl (by kernel_rfl) (by kernel_rfl) (fun _ _ _ _ h => h) (fun K hK => ?_)
      go_big_quiet_op
      refine hK _ ?_
      clear hK K
      refine pi_t 1 rfl (by kernel_rfl) (by kernel_rfl) (fun _ _ _ _ h => h) (fun K hK => ?_)
      go_big_quiet_op
      refine hK _ ?_
      clear hK K
      refine pi_t 3 rfl (by kernel_rfl) (by kernel_rfl) (fun _ _ _ _ h => h) (fun K hK => ?_)
      go_big_quiet_op
      refine hK _ ?_
      clear hK K
      refine pi_t 4 rfl (by kernel_rfl) (by kernel_rfl) (fun _ _ _ _ h => h) (fun K hK => ?_)
      go_big_quiet_op
      refine hK _ ?_
      clear hK K
      refine pi_t 5 rfl (by kernel_rfl) (by kernel_rfl) (fun _ _ _ _ h => h) (fun K hK => ?_)
      go_big_quiet_op
      refine hK _ ?_
      clear hK K
      refine pi_t 7 rfl (by kernel_rfl) (by kernel_rfl) (fun _ _ _ _ h => h) (fun K hK => ?_)
      go_big_quiet_op
      refine hK _ ?_
      clear hK K
      refine pi_c 6 (by assumption) rfl (by kernel_rfl) (by kernel_rfl) (fun _ _ _ _ h => h) (fun K hK => ?_)
      go_big_quiet_op
      refine hK _ ?_
      clear hK K
      refine pi_t 8 rfl (by kernel_rfl) (by kernel_rfl) (fun _ _ _ _ h => h) (fun K hK => ?_)
      go_big_quiet_op
      refine hK _ ?_
      clear hK K
      refine pi_c 9 (by assumption) rfl (by kernel_rfl) (by kernel_rfl) (fun _ _ _ _ h => h) (fun K hK => ?_)
      go_big_quiet_op
      refine hK _ ?_
      clear hK K
      refine pi_l 2 rfl (by kernel_rfl) (fun K hK => ?_)
      go_wp2_with (go_at_call 23; refine (KCells_c s g C B L ls _ (HKR.out.ext (Below.drew (Ext.refl wo))) k (by omega)).mono ?_; rintro e wa ⟨v1, rfl, ho1, _, hxa⟩)
      have hEa : Ext wo wa := Ext.trans' (Below.drew (Ext.refl wo)) hxa
      refine hK _ _ (fun _ h => af_step h hxa) ?_
      clear hK K
      have HV1 := Lib.hid (IntsAt.of_row ho1)
      clear ho1 hxa
      refine pi_l 10 rfl (by kernel_rfl) (fun K hK => ?_)
      go_wp2_with (go_at_call 24; refine Calls.mono (RLCells_c (M k) C k (ls k) _ (HLV.out.ext hEa)) ?_; rintro e wb ⟨v2, rfl, ho2, hxb⟩)
      have hEb : Ext wo wb := hEa.trans' hxb
      refine hK _ _ (fun _ h => af_step h hxb) ?_
      clear hK K
      have HV2 := Lib.hid (IntsAt.of_row ho2)
      have HV1b := Lib.hid (HV1.out.ext hxb)
      clear ho2 hxb
      refine pi_l 11 rfl (by kernel_rfl) (fun K hK => ?_)
      go_wp2_with (go_at_call 47; refine Calls.mono (Same_c v1 v2 (ls k) (ls k) _ HV1b.out HV2.out HLN.out HLN.out) ?_; rintro e wc ⟨rfl, hxc⟩)
      have hEc : Ext wo wc := hEb.trans' hxc
      try rw [decide_eq_true (rfl : ls k = ls k)]
      refine hK _ _ (fun _ h => af_step h hxc) ?_
      clear hK K
      refine pi_t 12 rfl (by kernel_rfl) (by kernel_rfl) (fun _ _ _ _ h => h) (fun K hK => ?_)
      go_big_quiet_op
      refine hK _ ?_
      clear hK K
      refine pi_end (by kernel_rfl) ?_
      have hE9 := HE.out.trans' hEc
      go_wp2
      go_roundw
      case rel => exact ⟨k + 1, by omega, by go_num, hE9⟩
      case measure => simp [intOf]; omega
    · obtain rfl : k = B + 1 := by omega
      have HKR := Lib.hid hKr
      clear hRr hKr hex hE
      go_wp2
      go_ret
      exact ⟨rfl, HE.out⟩
end Go.Proofs.YtfhdjekpdifajaaGreat
namespace Go.Proofs.YtfhdjekpdifajaaGreat
set_option linter.unusedVariables false
open Go.RowKit
def RXJoinPost (w : World) (a : Nat) (C : Cfg) (lv : Int) (K : Nat) (ms : List Int) (e : Ending) (w' : World) : Prop :=
  (allI ms ∧ e = .returned (.int .i64 0) ∧ ∃ m' : Nat, RXAt w' a m' C lv K ms ∧ w.heap.size ≤ m' ∧ Mod (fun k => k = a) w w') ∨ (¬ allI ms ∧ e = .returned (.int .i64 4) ∧ Ext w w')
theorem rowF_all {K : Nat} {ms : List Int} (h : ms.length = K) : rowF (fun _ k => ms.getD k 0) 0 K = ms := by
  refine list_ext_getD ?_ (fun i hi => ?_)
  · rw [rowF_len, h]
  · rw [rowF_len] at hi
    rw [rowF_get hi]
set_option maxRecDepth 20000 in
set_option maxHeartbeats 16000000 in
theorem RXJoinPlus_c (a m a2 m2 : Nat) (C : Cfg) (lv : Int) (K : Nat) (l l2 : List Int) (w : World) (h : RXAt w a m C lv K l) (h2 : RXAt w a2 m2 C lv K l2) (hmd : "Plus" = "Minus" → C.mode ≠ 2) :
    Calls Tryz.prog 113 #[.pointer (some ⟨a, 0, none⟩), .pointer (some ⟨a2, 0, none⟩), .int .i64 1] w (RXJoinPost w a C lv K (plusL l l2)) := by
  have HH := Lib.hid h
  have HH2 := Lib.hid h2
  have k1 := h.k1
  have k2 := h.k2
  have la := h.lta
  have la2 := h2.lta
  obtain ⟨cap, hex, hcap⟩ := h.ex
  obtain ⟨cap2, hex2, hcap2⟩ := h2.ex
  have c0 := (cell_of hex 0).trans rfl
  have c1 := (cell_of hex 1).trans rfl
  have c2 := (cell_of hex 2).trans rfl
  have c3 := (cell_of hex 3).trans rfl
  have c4 := (cell_of hex 4).trans rfl
  have c5 := (cell_of hex 5).trans rfl
  have d0 := (cell_of hex2 0).trans rfl
  have d1 := (cell_of hex2 1).trans rfl
  have d2 := (cell_of hex2 2).trans rfl
  have d3 := (cell_of hex2 3).trans rfl
  have d4 := (cell_of hex2 4).trans rfl
  have d5 := (cell_of hex2 5).trans rfl
  have HEX := Lib.hid hex
  have HEX2 := Lib.hid hex2
  have hml : (plusL l l2).length = K := by rw [plusL_len]; exact h.len
  have hfs : ∀ k, k < K → (plusL l l2).getD k 0 = l.getD k 0 + l2.getD k 0 := fun k hk => plusL_get (by rw [h.len]; exact hk)
  have HML := Lib.hid hml
  have HFS := Lib.hid hfs
  clear hml hfs h h2 hmd hex hex2
  generalize plusL l l2 = ms at *
  obtain ⟨f, hf⟩ : ∃ f : Nat → Nat → Int, f = fun _ k => ms.getD k 0 := ⟨_, rfl⟩
  have HF := Lib.hid hf
  clear hf
  go_enter Tryz.func113, Tryz.ntmps113
  go_wp2_with fail
  have hC0 := af_drew w
  refine pi_start (fun w' => ∃ z : After w, w' = z.w) [] (by kernel_rfl) ?_
  refine pi_t 0 rfl (by kernel_rfl) (by kernel_rfl) (fun _ _ _ _ h => h) (fun K hK => ?_)
  go_big_quiet_op
  refine hK _ ?_
  clear hK K
  refine pi_t 1 rfl (by kernel_rfl) (by kernel_rfl) (fun _ _ _ _ h => h) (fun K hK => ?_)
  go_big_quiet_op
  refine hK _ ?_
  clear hK K
  refine pi_t 2 rfl (by kernel_rfl) (by kernel_rfl) (fun _ _ _ _ h => h) (fun K hK => ?_)
  go_big_quiet_op
  refine hK _ ?_
  clear hK K
  refine pi_t 4 rfl (by kernel_rfl) (by kernel_rfl) (fun _ _ _ _ h => h) (fun K hK => ?_)
  go_big_quiet_op
  refine hK _ ?_
  clear hK K
  refine pi_t 5 rfl (by kernel_rfl) (by kernel_rfl) (fun _ _ _ _ h => h) (fun K hK => ?_)
  go_big_quiet_op
  refine hK _ ?_
  clear hK K
  refine pi_t 6 rfl (by kernel_rfl) (by kernel_rfl) (fun _ _ _ _ h => h) (fun K hK => ?_)
  go_big_quiet_op
  refine hK _ ?_
  clear hK K
  refine pi_c 3 (by assumption) rfl (by kernel_rfl) (by kernel_rfl) (fun _ _ _ _ h => h) (fun K hK => ?_)
  go_big_quiet_op
  refine hK _ ?_
  clear hK K
  refine pi_c 7 (by assumption) rfl (by kernel_rfl) (by kernel_rfl) (fun _ _ _ _ h => h) (fun K hK => ?_)
  go_big_quiet_op
  refine hK _ ?_
  clear hK K
  refine pi_t 8 rfl (by kernel_rfl) (by kernel_rfl) (fun _ _ _ _ h => h) (fun K hK => ?_)
  go_big_quiet_op
  refine hK _ ?_
  clear hK K
  refine pi_t 9 rfl (by kernel_rfl) (by kernel_rfl) (fun _ _ _ _ h => h) (fun K hK => ?_)
  go_big_quiet_op
  refine hK _ ?_
  clear hK K
  refine pi_t 10 rfl (by kernel_rfl) (by kernel_rfl) (fun _ _ _ _ h => h) (fun K hK => ?_)
  go_big_quiet_op
  refine hK _ ?_
  clear hK K
  refine pi_t 11 rfl (by kernel_rfl) (by kernel_rfl) (fun _ _ _ _ h => h) (fun K hK => ?_)
  go_big_quiet_op
  refine hK _ ?_
  clear hK K
  refine pi_t 12 rfl (by kernel_rfl) (by kernel_rfl) (fun _ _ _ _ h => h) (fun K hK => ?_)
  go_big_quiet_op
  refine hK _ ?_
  clear hK K
  refine pi_t 14 rfl (by kernel_rfl) (by kernel_rfl) (fun _ _ _ _ h => h) (fun K hK => ?_)
  go_big_quiet_op
  refine hK _ ?_
  clear hK K
  refine pi_t 15 rfl (by kernel_rfl) (by kernel_rfl) (fun _ _ _ _ h => h) (fun K hK => ?_)
  go_big_quiet_op
  refine hK _ ?_
  clear hK K
  refine pi_t 16 rfl (by kernel_rfl) (by kernel_rfl) (fun _ _ _ _ h => h) (fun K hK => ?_)
  go_big_quiet_op
  refine hK _ ?_
  clear hK K
  refine pi_c 13 (by assumption) rfl (by kernel_rfl) (by kernel_rfl) (fun _ _ _ _ h => h) (fun K hK => ?_)
  go_big_quiet_op
  refine hK _ ?_
  clear hK K
  refine pi_c 17 (by assumption) rfl (by kernel_rfl) (by kernel_rfl) (fun _ _ _ _ h => h) (fun K hK => ?_)
  go_big_quiet_op
  refine hK _ ?_
  clear hK K
  refine pi_t 18 rfl (by kernel_rfl) (by kernel_rfl) (fun _ _ _ _ h => h) (fun K hK => ?_)
  go_big_quiet_op
  refine hK _ ?_
  clear hK K
  refine pi_t 19 rfl (by kernel_rfl) (by kernel_rfl) (fun _ _ _ _ h => h) (fun K hK => ?_)
  go_big_quiet_op
  refine hK _ ?_
  clear hK K
  refine pi_end (by kernel_rfl) ?_
  have hE1 : Ext w w.drew := Below.drew (Ext.refl w)
  go_wp2_with fail
  clear c0 c1 c2 c3 c4 c5 d0 d1 d2 d3 d4 d5
  have hE2 : Ext w (w.drew.alloc (.cells #[] 2)) := hE1.allocR _
  have hro : (w.drew.alloc (.cells #[] 2)).ownsRow w.heap.size 2 1 (.slice (some ⟨w.heap.size, 0, none⟩) 0 0) 0 [] := own_empty w.drew _
  have HRO := Lib.hid hro
  have HE2 := Lib.hid hE2
  clear hE1 hE2 hro
  go_loopw [7, 8] (fun u7 u8 wr => ∃ j : Nat, j ≤ K ∧ u8 = .int .i64 j ∧ wr.ownsRow w.heap.size 2 1 u7 (rowF f 0 j).length (ints (rowF f 0 j)) ∧ Ext w wr ∧ ∀ c, c < j → I64 (f 0 c)) (fun _ u8 _ => K - (intOf u8).toNat)
  case atStart => exact ⟨0, Nat.zero_le _, rfl, by first | exact HRO.out | exact own_drew HRO.out, by first | exact HE2.out | exact HE2.out.drewR, fun c hc => absurd hc (Nat.not_lt_zero _)⟩
  case round =>
    clear HE2 HRO
    obtain ⟨j, hj, rfl, hown, hEo, hrow⟩ := hrel
    have HOWN := Lib.hid hown
    have HROW := Lib.hid hrow
    have e6 := (cell_of (hEo.keep HEX.out) 6).trans rfl
    have le := lt_of (hEo.keep HEX.out)
    clear hown hrow
    by_cases hjt : j < K
    · have hjz : (j : Int) < (K : Int) := by omega
      have hr1 := HH.out.ext hEo
      have hr2 := HH2.out.ext hEo
      have g6 := (cell_of (hEo.keep HEX2.out) 6).trans rfl
      have lg := lt_of (hEo.keep HEX2.out)
      have cr1 := hr1.cell hjt
      have lm1 := hr1.ltm
      have cr2 := hr2.cell hjt
      have lm2 := hr2.ltm
      have hix : I64 (l.getD j 0) := getD_i64 hr1.fit _
      have hiy : I64 (l2.getD j 0) := getD_i64 hr2.fit _
      have hfv := HFS.out j hjt
      have hfj : f 0 j = ms.getD j 0 := by rw [HF.out]
      rw [← hfj] at hfv
      generalize l.getD j 0 = x at *
      generalize l2.getD j 0 = y at *
      have hin := sum_in hix hiy
      have HIN := Lib.hid hin
      have HIX := Lib.hid hix
      have HIY := Lib.hid hiy
      have HFV := Lib.hid hfv
      have HEO := Lib.hid hEo
      have HRR := Lib.hid (And.intro e6 cr1)
      have hLT := Lib.hid (And.intro le lm1)
      clear hr1 hr2 hin hix hiy hfv hfj hEo
      rename World => wi
      go_wp2_with fail
      refine Calls.mono (OfInt_c y HIY.out _) ?_
      rintro e w1 ⟨rfl, hx1⟩
      unfold longV longA
      go_upto_region 10 with (fail)
      have hb1 : (w1.alloc (.cells #[.int .i64 (dg y 0), .int .i64 (dg y 1), .int .i64 (dg y 2), .int .i64 (dg y 3), .int .i64 (dg y 4), .int .i64 (dg y 5), .int .i64 (dg y 6), .int .i64 (dg y 7), .int .i64 (dg y 8), .int .i64 (dg y 9)] 237)).heap[w1.heap.size]? = some (.cells #[.int .i64 (dg y 0), .int .i64 (dg y 1), .int .i64 (dg y 2), .int .i64 (dg y 3), .int .i64 (dg y 4), .int .i64 (dg y 5), .int .i64 (dg y 6), .int .i64 (dg y 7), .int .i64 (dg y 8), .int .i64 (dg y 9)] 237 (0, 0)) := heap_at _ _ rfl
      have hx2 : Ext wi (w1.alloc (.cells #[.int .i64 (dg y 0), .int .i64 (dg y 1), .int .i64 (dg y 2), .int .i64 (dg y 3), .int .i64 (dg y 4), .int .i64 (dg y 5), .int .i64 (dg y 6), .int .i64 (dg y 7), .int .i64 (dg y 8), .int .i64 (dg y 9)] 237)) := hx1.allocR _
      have hbz := hx1.size
      generalize w1.alloc (.cells #[.int .i64 (dg y 0), .int .i64 (dg y 1), .int .i64 (dg y 2), .int .i64 (dg y 3), .int .i64 (dg y 4), .int .i64 (dg y 5), .int .i64 (dg y 6), .int .i64 (dg y 7), .int .i64 (dg y 8), .int .i64 (dg y 9)] 237) = w2 at *
      generalize w1.heap.size = bx at *
      have HX2 := Lib.hid hx2
      clear hx1 hx2 e6 le cr1 lm1 g6 lg cr2 lm2
      go_upto_if 61 with (fail)
      go_cut [] (fun wx => LongAt wx bx (dg (y)) ∧ Ext wi wx)
      case first =>
        go_wp2_with fail
        go_meet
        exact ⟨long_mk hb1, HX2.out⟩
      case rest =>
        obtain ⟨hL, hx4⟩ := hcut
        rename World => w4
        have hLc := long_cells hL
        have x0 := hLc 0 (by decide)
        have x1 := hLc 1 (by decide)
        have x2 := hLc 2 (by decide)
        have x3 := hLc 3 (by decide)
        have x4 := hLc 4 (by decide)
        have x5 := hLc 5 (by decide)
        have x6 := hLc 6 (by decide)
        have x7 := hLc 7 (by decide)
        have x8 := hLc 8 (by decide)
        have x9 := hLc 9 (by decide)
        have lx : bx < w4.heap.size := by unfold LongAt at hL; exact lt_of hL
        have e6 := ((bcell hx4).1 _ _ hLT.out.1).trans HRR.out.1
        have cr1 := ((bcell hx4).1 _ _ hLT.out.2).trans HRR.out.2
        have le := Nat.lt_of_lt_of_le hLT.out.1 hx4.size
        have lm1 := Nat.lt_of_lt_of_le hLT.out.2 hx4.size
        have hP : ∀ w' : World, Calls Tryz.prog 151 #[longV x, .agg #[.int .i64 (dg (y) 0), .int .i64 (dg (y) 1), .int .i64 (dg (y) 2), .int .i64 (dg (y) 3), .int .i64 (dg (y) 4), .int .i64 (dg (y) 5), .int .i64 (dg (y) 6), .int .i64 (dg (y) 7), .int .i64 (dg (y) 8), .int .i64 (dg (y) 9)]] w' fun e w'' => e = .returned (longV (x + y)) ∧ Ext w' w'' := fun w' => LPlus_c x (y) w'
        have HP := Lib.hid hP
        have hIn : ∀ w' : World, Calls Tryz.prog 150 #[longV (x + y)] w' fun e w'' => e = .returned (.tuple #[.int .i64 (fitN (x + y)), .bool (fitB (x + y))]) ∧ Ext w' w'' := fun w' => LInt_c _ (by have := HIN.out; first | exact this.1.1 | exact this.2.1) (by have := HIN.out; first | exact this.1.2 | exact this.2.2) w'
        have HINT := Lib.hid hIn
        have hOf : ∀ w' : World, Calls Tryz.prog 152 #[.int .i64 x] w' fun e w'' => e = .returned (longV x) ∧ Ext w' w'' := fun w' => OfInt_c x HIX.out w'
        have HOF := Lib.hid hOf
        have hfv : f 0 j = x + y := by have := HFV.out; omega
        have HFV2 := Lib.hid hfv
        clear hL hLc hP hIn hOf hfv
        generalize dg (y) = dd at *
        generalize longV x = vx at *
        generalize longV (x + y) = vs at *
        go_wp2_with fail
        refine wp_region_after (by kernel_rfl) (by kernel_rfl) ?_
        repeat (go_big_quiet_step ((first | (go_at_call 152; exact quiet_after (HOF.out _)) | (go_at_call 151; exact quiet_after (HP.out _)) | (go_at_call 150; exact quiet_after (HINT.out _)))))
        refine wpQuiet_nil ?_
        rintro _ ⟨xx, rfl⟩
        obtain ⟨w5, hb5⟩ := xx
        try dsimp only
        have hE5 := hx4.trans' hb5
        have HOWN5 := Lib.hid (own_ext HOWN.out hE5)
        have hEo5 := HEO.out.trans' hE5
        clear x0 x1 x2 x3 x4 x5 x6 x7 x8 x9 lx e6 cr1 le lm1 HP HINT HOF
        by_cases hfit : I64 (f 0 j)
        · have hfb : fitB (x + y) = true := by rw [← HFV2.out]; exact fitB_yes hfit
          have hfn : fitN (x + y) = f 0 j := by rw [← HFV2.out]; exact fitN_yes hfit
          rw [hfb, hfn]
          have HFIT := Lib.hid hfit
          have hrs := rowF_succ f 0 j
          have HRS := Lib.hid hrs
          have hrl := rowF_len f 0 j
          have HRL := Lib.hid hrl
          have hsz5 := hEo5.size
          clear hfb hfn hfit hrs hrl
          generalize hv : f 0 j = v at *
          have HV := Lib.hid hv
          clear hv
          go_wp2_with (at_builtin; refine wpList_app1 w5 v (rowF f 0 j) u7 w.heap.size 2 HOWN5.out 43 rfl _ _ rfl info_i64 Tryz.underlying43 (by rfl) (by rfl) ?a1 ?a2 ?_)
          case a1 => rw [HRL.out]; omega
          case a2 => exact hsz5
          intro v' w6 g1 g2 _
          have hE6 : Ext w w6 := ext_grown hEo5 g2 (fun i hi => own_blk HOWN5.out hi)
          have G1 := Lib.hid g1
          clear g1 g2
          go_wp2
          go_roundw
          case rel =>
            refine ⟨j + 1, by omega, by go_num, by rw [HRS.out, List.length_append]; exact G1.out, hE6, fun c hc => ?_⟩
            by_cases e : c = j
            · rw [e, HV.out]; exact HFIT.out
            · exact HROW.out c (by omega)
          case measure => simp [intOf]; omega
        · have hfb : fitB (x + y) = false := by rw [← HFV2.out]; exact fitB_no hfit
          have hno : ¬ allI ms := fun ha => hfit (by rw [HF.out]; exact getD_i64 ha _)
          have HNO := Lib.hid hno
          rw [hfb]
          clear hfb hfit hno
          go_wp2
          go_ret
          exact .inr ⟨HNO.out, rfl, hEo5⟩
    · obtain rfl : j = K := by omega
      have hrl := rowF_len f 0 j
      obtain ⟨z, zc, cur, rfl, hzc, hz, hzh, hzcur⟩ := own_row1 HOWN.out (by rw [hrl]; omega)
      rw [hrl] at hzc hzcur ⊢
      have fz := frozen_of (hEo.keep HEX.out) 6
      have hall : allI ms := fun q hq => by
        obtain ⟨i, hi, rfl⟩ := List.getElem_of_mem hq
        have h5 := HROW.out i (by rw [← HML.out]; exact hi)
        rw [HF.out] at h5
        have e : ms.getD i 0 = ms[i] := by simp [hi]
        rw [← e]; exact h5
      have HA := Lib.hid hall
      have HC := Lib.hid (And.intro hzc (And.intro hz (And.intro hzh hzcur)))
      have hrf : rowF f 0 j = ms := by rw [HF.out]; exact rowF_all HML.out
      have HRF := Lib.hid hrf
      have HEO := Lib.hid hEo
      clear HOWN hrl hzc hz hzh hzcur hall hrf hEo
      go_wp2
      go_ret
      obtain ⟨q1, q2, q3, q4⟩ := HC.out
      rw [HRF.out] at q4
      have hEX := HEO.out.keep HEX.out
      have hza : z ≠ a := by omega
      refine .inl ⟨HA.out, rfl, z, ⟨⟨zc, (setCell_same hEX 6 _).trans rfl, q1⟩, ⟨cur, by rw [setCell_other _ _ hza]; exact q3, q4⟩, HML.out, k1, k2, HA.out⟩, q2, (HEO.out.mod _).trans (mod_set _ _ _ _)⟩
set_option maxRecDepth 20000 in
set_option maxHeartbeats 16000000 in
theorem RXJoinMinus_c (a m a2 m2 : Nat) (C : Cfg) (lv : Int) (K : Nat) (l l2 : List Int) (w : World) (h : RXAt w a m C lv K l) (h2 : RXAt w a2 m2 C lv K l2) (hmd : "Minus" = "Minus" → C.mode ≠ 2) :
    Calls Tryz.prog 113 #[.pointer (some ⟨a, 0, none⟩), .pointer (some ⟨a2, 0, none⟩), .int .i64 (-1)] w (RXJoinPost w a C lv K (minusL l l2)) := by
  have HH := Lib.hid h
  have HH2 := Lib.hid h2
  have k1 := h.k1
  have k2 := h.k2
  have la := h.lta
  have la2 := h2.lta
  obtain ⟨cap, hex, hcap⟩ := h.ex
  obtain ⟨cap2, hex2, hcap2⟩ := h2.ex
  have c0 := (cell_of hex 0).trans rfl
  have c1 := (cell_of hex 1).trans rfl
  have c2 := (cell_of hex 2).trans rfl
  have c3 := (cell_of hex 3).trans rfl
  have c4 := (cell_of hex 4).trans rfl
  have c5 := (cell_of hex 5).trans rfl
  have d0 := (cell_of hex2 0).trans rfl
  have d1 := (cell_of hex2 1).trans rfl
  have d2 := (cell_of hex2 2).trans rfl
  have d3 := (cell_of hex2 3).trans rfl
  have d4 := (cell_of hex2 4).trans rfl
  have d5 := (cell_of hex2 5).trans rfl
  have HEX := Lib.hid hex
  have HEX2 := Lib.hid hex2
  have hmm : (C.mode == 2) = false := by have := hmd rfl; simpa using this
  have hml : (minusL l l2).length = K := by rw [minusL_len]; exact h.len
  have hfs : ∀ k, k < K → (minusL l l2).getD k 0 = l.getD k 0 - l2.getD k 0 := fun k hk => minusL_get (by rw [h.len]; exact hk)
  have HML := Lib.hid hml
  have HFS := Lib.hid hfs
  clear hml hfs h h2 hmd hex hex2
  generalize minusL l l2 = ms at *
  obtain ⟨f, hf⟩ : ∃ f : Nat → Nat → Int, f = fun _ k => ms.getD k 0 := ⟨_, rfl⟩
  have HF := Lib.hid hf
  clear hf
  go_enter Tryz.func113, Tryz.ntmps113
  go_wp2_with fail
  have hC0 := af_drew w
  refine pi_start (fun w' => ∃ z : After w, w' = z.w) [] (by kernel_rfl) ?_
  refine pi_t 0 rfl (by kernel_rfl) (by kernel_rfl) (fun _ _ _ _ h => h) (fun K hK => ?_)
  go_big_quiet_op
  refine hK _ ?_
  clear hK K
  refine pi_t 1 rfl (by kernel_rfl) (by kernel_rfl) (fun _ _ _ _ h => h) (fun K hK => ?_)
  go_big_quiet_op
  refine hK _ ?_
  clear hK K
  refine pi_t 2 rfl (by kernel_rfl) (by kernel_rfl) (fun _ _ _ _ h => h) (fun K hK => ?_)
  go_big_quiet_op
  refine hK _ ?_
  clear hK K
  refine pi_t 4 rfl (by kernel_rfl) (by kernel_rfl) (fun _ _ _ _ h => h) (fun K hK => ?_)
  go_big_quiet_op
  refine hK _ ?_
  clear hK K
  refine pi_t 5 rfl (by kernel_rfl) (by kernel_rfl) (fun _ _ _ _ h => h) (fun K hK => ?_)
  go_big_quiet_op
  refine hK _ ?_
  clear hK K
  refine pi_t 6 rfl (by kernel_rfl) (by kernel_rfl) (fun _ _ _ _ h => h) (fun K hK => ?_)
  go_big_quiet_op
  refine hK _ ?_
  clear hK K
  refine pi_c 3 (by assumption) rfl (by kernel_rfl) (by kernel_rfl) (fun _ _ _ _ h => h) (fun K hK => ?_)
  go_big_quiet_op
  refine hK _ ?_
  clear hK K
  refine pi_c 7 (by assumption) rfl (by kernel_rfl) (by kernel_rfl) (fun _ _ _ _ h => h) (fun K hK => ?_)
  go_big_quiet_op
  refine hK _ ?_
  clear hK K
  refine pi_t 8 rfl (by kernel_rfl) (by kernel_rfl) (fun _ _ _ _ h => h) (fun K hK => ?_)
  go_big_quiet_op
  refine hK _ ?_
  clear hK K
  refine pi_t 9 rfl (by kernel_rfl) (by kernel_rfl) (fun _ _ _ _ h => h) (fun K hK => ?_)
  go_big_quiet_op
  refine hK _ ?_
  clear hK K
  refine pi_t 10 rfl (by kernel_rfl) (by kernel_rfl) (fun _ _ _ _ h => h) (fun K hK => ?_)
  go_big_quiet_op
  refine hK _ ?_
  clear hK K
  refine pi_t 11 rfl (by kernel_rfl) (by kernel_rfl) (fun _ _ _ _ h => h) (fun K hK => ?_)
  go_big_quiet_op
  refine hK _ ?_
  clear hK K
  refine pi_t 12 rfl (by kernel_rfl) (by kernel_rfl) (fun _ _ _ _ h => h) (fun K hK => ?_)
  go_big_quiet_op
  refine hK _ ?_
  clear hK K
  refine pi_t 14 rfl (by kernel_rfl) (by kernel_rfl) (fun _ _ _ _ h => h) (fun K hK => ?_)
  go_big_quiet_op
  refine hK _ ?_
  clear hK K
  refine pi_t 15 rfl (by kernel_rfl) (by kernel_rfl) (fun _ _ _ _ h => h) (fun K hK => ?_)
  go_big_quiet_op
  refine hK _ ?_
  clear hK K
  refine pi_t 16 rfl (by kernel_rfl) (by kernel_rfl) (fun _ _ _ _ h => h) (fun K hK => ?_)
  go_big_quiet_op
  refine hK _ ?_
  clear hK K
  refine pi_c 13 (by assumption) rfl (by kernel_rfl) (by kernel_rfl) (fun _ _ _ _ h => h) (fun K hK => ?_)
  go_big_quiet_op
  refine hK _ ?_
  clear hK K
  refine pi_c 17 (by assumption) rfl (by kernel_rfl) (by kernel_rfl) (fun _ _ _ _ h => h) (fun K hK => ?_)
  go_big_quiet_op
  refine hK _ ?_
  clear hK K
  refine pi_t 18 rfl (by kernel_rfl) (by kernel_rfl) (fun _ _ _ _ h => h) (fun K hK => ?_)
  go_big_quiet_op
  refine hK _ ?_
  clear hK K
  refine pi_t 19 rfl (by kernel_rfl) (by kernel_rfl) (fun _ _ _ _ h => h) (fun K hK => ?_)
  go_big_quiet_op
  refine hK _ ?_
  clear hK K
  refine pi_end (by kernel_rfl) ?_
  have hE1 : Ext w w.drew := Below.drew (Ext.refl w)
  go_wp2_with fail
  clear c0 c1 c2 c3 c4 c5 d0 d1 d2 d3 d4 d5
  have hE2 : Ext w (w.drew.alloc (.cells #[] 2)) := hE1.allocR _
  have hro : (w.drew.alloc (.cells #[] 2)).ownsRow w.heap.size 2 1 (.slice (some ⟨w.heap.size, 0, none⟩) 0 0) 0 [] := own_empty w.drew _
  have HRO := Lib.hid hro
  have HE2 := Lib.hid hE2
  clear hE1 hE2 hro
  go_loopw [7, 8] (fun u7 u8 wr => ∃ j : Nat, j ≤ K ∧ u8 = .int .i64 j ∧ wr.ownsRow w.heap.size 2 1 u7 (rowF f 0 j).length (ints (rowF f 0 j)) ∧ Ext w wr ∧ ∀ c, c < j → I64 (f 0 c)) (fun _ u8 _ => K - (intOf u8).toNat)
  case atStart => exact ⟨0, Nat.zero_le _, rfl, by first | exact HRO.out | exact own_drew HRO.out, by first | exact HE2.out | exact HE2.out.drewR, fun c hc => absurd hc (Nat.not_lt_zero _)⟩
  case round =>
    clear HE2 HRO
    obtain ⟨j, hj, rfl, hown, hEo, hrow⟩ := hrel
    have HOWN := Lib.hid hown
    have HROW := Lib.hid hrow
    have e6 := (cell_of (hEo.keep HEX.out) 6).trans rfl
    have le := lt_of (hEo.keep HEX.out)
    clear hown hrow
    by_cases hjt : j < K
    · have hjz : (j : Int) < (K : Int) := by omega
      have hr1 := HH.out.ext hEo
      have hr2 := HH2.out.ext hEo
      have g6 := (cell_of (hEo.keep HEX2.out) 6).trans rfl
      have lg := lt_of (hEo.keep HEX2.out)
      have cr1 := hr1.cell hjt
      have lm1 := hr1.ltm
      have cr2 := hr2.cell hjt
      have lm2 := hr2.ltm
      have hix : I64 (l.getD j 0) := getD_i64 hr1.fit _
      have hiy : I64 (l2.getD j 0) := getD_i64 hr2.fit _
      have hfv := HFS.out j hjt
      have hfj : f 0 j = ms.getD j 0 := by rw [HF.out]
      rw [← hfj] at hfv
      generalize l.getD j 0 = x at *
      generalize l2.getD j 0 = y at *
      have hin := sum_in hix hiy
      have HIN := Lib.hid hin
      have HIX := Lib.hid hix
      have HIY := Lib.hid hiy
      have HFV := Lib.hid hfv
      have HEO := Lib.hid hEo
      have HRR := Lib.hid (And.intro e6 cr1)
      have hLT := Lib.hid (And.intro le lm1)
      clear hr1 hr2 hin hix hiy hfv hfj hEo
      rename World => wi
      go_wp2_with fail
      refine Calls.mono (OfInt_c y HIY.out _) ?_
      rintro e w1 ⟨rfl, hx1⟩
      unfold longV longA
      go_upto_region 10 with (fail)
      have hb1 : (w1.alloc (.cells #[.int .i64 (dg y 0), .int .i64 (dg y 1), .int .i64 (dg y 2), .int .i64 (dg y 3), .int .i64 (dg y 4), .int .i64 (dg y 5), .int .i64 (dg y 6), .int .i64 (dg y 7), .int .i64 (dg y 8), .int .i64 (dg y 9)] 237)).heap[w1.heap.size]? = some (.cells #[.int .i64 (dg y 0), .int .i64 (dg y 1), .int .i64 (dg y 2), .int .i64 (dg y 3), .int .i64 (dg y 4), .int .i64 (dg y 5), .int .i64 (dg y 6), .int .i64 (dg y 7), .int .i64 (dg y 8), .int .i64 (dg y 9)] 237 (0, 0)) := heap_at _ _ rfl
      have hx2 : Ext wi (w1.alloc (.cells #[.int .i64 (dg y 0), .int .i64 (dg y 1), .int .i64 (dg y 2), .int .i64 (dg y 3), .int .i64 (dg y 4), .int .i64 (dg y 5), .int .i64 (dg y 6), .int .i64 (dg y 7), .int .i64 (dg y 8), .int .i64 (dg y 9)] 237)) := hx1.allocR _
      have hbz := hx1.size
      generalize w1.alloc (.cells #[.int .i64 (dg y 0), .int .i64 (dg y 1), .int .i64 (dg y 2), .int .i64 (dg y 3), .int .i64 (dg y 4), .int .i64 (dg y 5), .int .i64 (dg y 6), .int .i64 (dg y 7), .int .i64 (dg y 8), .int .i64 (dg y 9)] 237) = w2 at *
      generalize w1.heap.size = bx at *
      have HX2 := Lib.hid hx2
      clear hx1 hx2 e6 le cr1 lm1 g6 lg cr2 lm2
      have x0 := (cell_of hb1 0).trans rfl
      have x1 := (cell_of hb1 1).trans rfl
      have x2 := (cell_of hb1 2).trans rfl
      have x3 := (cell_of hb1 3).trans rfl
      have x4 := (cell_of hb1 4).trans rfl
      have x5 := (cell_of hb1 5).trans rfl
      have x6 := (cell_of hb1 6).trans rfl
      have x7 := (cell_of hb1 7).trans rfl
      have x8 := (cell_of hb1 8).trans rfl
      have x9 := (cell_of hb1 9).trans rfl
      have lx := lt_of hb1
      go_upto_if 61 with (fail)
      go_cut [] (fun wx => LongAt wx bx (dg (-y)) ∧ Ext wi wx)
      case first =>
        have HB1 := Lib.hid hb1
        clear hb1
        have hMn : ∀ w' : World, Calls Tryz.prog 153 #[.agg #[.int .i64 (dg y 0), .int .i64 (dg y 1), .int .i64 (dg y 2), .int .i64 (dg y 3), .int .i64 (dg y 4), .int .i64 (dg y 5), .int .i64 (dg y 6), .int .i64 (dg y 7), .int .i64 (dg y 8), .int .i64 (dg y 9)]] w' fun e w'' => e = .returned (longV (-y)) ∧ Ext w' w'' := fun w' => LMinus_c y w'
        have HMN := Lib.hid hMn
        clear hMn
        go_wp2_with fail
        refine Calls.mono (HMN.out _) ?_
        rintro e w3 ⟨rfl, hx3⟩
        have hb3 := hx3.keep HB1.out
        have hE3 := HX2.out.trans' hx3
        clear x0 x1 x2 x3 x4 x5 x6 x7 x8 x9 lx
        have z0 := (cell_of hb3 0).trans rfl
        have f0 := frozen_of hb3 0
        have z1 := (cell_of hb3 1).trans rfl
        have f1 := frozen_of hb3 1
        have z2 := (cell_of hb3 2).trans rfl
        have f2 := frozen_of hb3 2
        have z3 := (cell_of hb3 3).trans rfl
        have f3 := frozen_of hb3 3
        have z4 := (cell_of hb3 4).trans rfl
        have f4 := frozen_of hb3 4
        have z5 := (cell_of hb3 5).trans rfl
        have f5 := frozen_of hb3 5
        have z6 := (cell_of hb3 6).trans rfl
        have f6 := frozen_of hb3 6
        have z7 := (cell_of hb3 7).trans rfl
        have f7 := frozen_of hb3 7
        have z8 := (cell_of hb3 8).trans rfl
        have f8 := frozen_of hb3 8
        have z9 := (cell_of hb3 9).trans rfl
        have f9 := frozen_of hb3 9
        have lz := lt_of hb3
        have HB3 := Lib.hid hb3
        clear hb3
        unfold longV longA
        go_wp2_with fail
        refine fin10 (Φ := fun W' => Met _ _ W') HB3.out hE3 hbz (fun W' hW hEW => ?_)
        go_meet
        exact ⟨long_mk hW, hEW⟩
      case rest =>
        obtain ⟨hL, hx4⟩ := hcut
        rename World => w4
        have hLc := long_cells hL
        have x0 := hLc 0 (by decide)
        have x1 := hLc 1 (by decide)
        have x2 := hLc 2 (by decide)
        have x3 := hLc 3 (by decide)
        have x4 := hLc 4 (by decide)
        have x5 := hLc 5 (by decide)
        have x6 := hLc 6 (by decide)
        have x7 := hLc 7 (by decide)
        have x8 := hLc 8 (by decide)
        have x9 := hLc 9 (by decide)
        have lx : bx < w4.heap.size := by unfold LongAt at hL; exact lt_of hL
        have e6 := ((bcell hx4).1 _ _ hLT.out.1).trans HRR.out.1
        have cr1 := ((bcell hx4).1 _ _ hLT.out.2).trans HRR.out.2
        have le := Nat.lt_of_lt_of_le hLT.out.1 hx4.size
        have lm1 := Nat.lt_of_lt_of_le hLT.out.2 hx4.size
        have hP : ∀ w' : World, Calls Tryz.prog 151 #[longV x, .agg #[.int .i64 (dg (-y) 0), .int .i64 (dg (-y) 1), .int .i64 (dg (-y) 2), .int .i64 (dg (-y) 3), .int .i64 (dg (-y) 4), .int .i64 (dg (-y) 5), .int .i64 (dg (-y) 6), .int .i64 (dg (-y) 7), .int .i64 (dg (-y) 8), .int .i64 (dg (-y) 9)]] w' fun e w'' => e = .returned (longV (x + -y)) ∧ Ext w' w'' := fun w' => LPlus_c x (-y) w'
        have HP := Lib.hid hP
        have hIn : ∀ w' : World, Calls Tryz.prog 150 #[longV (x + -y)] w' fun e w'' => e = .returned (.tuple #[.int .i64 (fitN (x + -y)), .bool (fitB (x + -y))]) ∧ Ext w' w'' := fun w' => LInt_c _ (by have := HIN.out; first | exact this.1.1 | exact this.2.1) (by have := HIN.out; first | exact this.1.2 | exact this.2.2) w'
        have HINT := Lib.hid hIn
        have hOf : ∀ w' : World, Calls Tryz.prog 152 #[.int .i64 x] w' fun e w'' => e = .returned (longV x) ∧ Ext w' w'' := fun w' => OfInt_c x HIX.out w'
        have HOF := Lib.hid hOf
        have hfv : f 0 j = x + -y := by have := HFV.out; omega
        have HFV2 := Lib.hid hfv
        clear hL hLc hP hIn hOf hfv
        generalize dg (-y) = dd at *
        generalize longV x = vx at *
        generalize longV (x + -y) = vs at *
        go_wp2_with fail
        refine wp_region_after (by kernel_rfl) (by kernel_rfl) ?_
        repeat (go_big_quiet_step ((first | (go_at_call 152; exact quiet_after (HOF.out _)) | (go_at_call 151; exact quiet_after (HP.out _)) | (go_at_call 150; exact quiet_after (HINT.out _)))))
        refine wpQuiet_nil ?_
        rintro _ ⟨xx, rfl⟩
        obtain ⟨w5, hb5⟩ := xx
        try dsimp only
        have hE5 := hx4.trans' hb5
        have HOWN5 := Lib.hid (own_ext HOWN.out hE5)
        have hEo5 := HEO.out.trans' hE5
        clear x0 x1 x2 x3 x4 x5 x6 x7 x8 x9 lx e6 cr1 le lm1 HP HINT HOF
        by_cases hfit : I64 (f 0 j)
        · have hfb : fitB (x + -y) = true := by rw [← HFV2.out]; exact fitB_yes hfit
          have hfn : fitN (x + -y) = f 0 j := by rw [← HFV2.out]; exact fitN_yes hfit
          rw [hfb, hfn]
          have HFIT := Lib.hid hfit
          have hrs := rowF_succ f 0 j
          have HRS := Lib.hid hrs
          have hrl := rowF_len f 0 j
          have HRL := Lib.hid hrl
          have hsz5 := hEo5.size
          clear hfb hfn hfit hrs hrl
          generalize hv : f 0 j = v at *
          have HV := Lib.hid hv
          clear hv
          go_wp2_with (at_builtin; refine wpList_app1 w5 v (rowF f 0 j) u7 w.heap.size 2 HOWN5.out 43 rfl _ _ rfl info_i64 Tryz.underlying43 (by rfl) (by rfl) ?a1 ?a2 ?_)
          case a1 => rw [HRL.out]; omega
          case a2 => exact hsz5
          intro v' w6 g1 g2 _
          have hE6 : Ext w w6 := ext_grown hEo5 g2 (fun i hi => own_blk HOWN5.out hi)
          have G1 := Lib.hid g1
          clear g1 g2
          go_wp2
          go_roundw
          case rel =>
            refine ⟨j + 1, by omega, by go_num, by rw [HRS.out, List.length_append]; exact G1.out, hE6, fun c hc => ?_⟩
            by_cases e : c = j
            · rw [e, HV.out]; exact HFIT.out
            · exact HROW.out c (by omega)
          case measure => simp [intOf]; omega
        · have hfb : fitB (x + -y) = false := by rw [← HFV2.out]; exact fitB_no hfit
          have hno : ¬ allI ms := fun ha => hfit (by rw [HF.out]; exact getD_i64 ha _)
          have HNO := Lib.hid hno
          rw [hfb]
          clear hfb hfit hno
          go_wp2
          go_ret
          exact .inr ⟨HNO.out, rfl, hEo5⟩
    · obtain rfl : j = K := by omega
      have hrl := rowF_len f 0 j
      obtain ⟨z, zc, cur, rfl, hzc, hz, hzh, hzcur⟩ := own_row1 HOWN.out (by rw [hrl]; omega)
      rw [hrl] at hzc hzcur ⊢
      have fz := frozen_of (hEo.keep HEX.out) 6
      have hall : allI ms := fun q hq => by
        obtain ⟨i, hi, rfl⟩ := List.getElem_of_mem hq
        have h5 := HROW.out i (by rw [← HML.out]; exact hi)
        rw [HF.out] at h5
        have e : ms.getD i 0 = ms[i] := by simp [hi]
        rw [← e]; exact h5
      have HA := Lib.hid hall
      have HC := Lib.hid (And.intro hzc (And.intro hz (And.intro hzh hzcur)))
      have hrf : rowF f 0 j = ms := by rw [HF.out]; exact rowF_all HML.out
      have HRF := Lib.hid hrf
      have HEO := Lib.hid hEo
      clear HOWN hrl hzc hz hzh hzcur hall hrf hEo
      go_wp2
      go_ret
      obtain ⟨q1, q2, q3, q4⟩ := HC.out
      rw [HRF.out] at q4
      have hEX := HEO.out.keep HEX.out
      have hza : z ≠ a := by omega
      refine .inl ⟨HA.out, rfl, z, ⟨⟨zc, (setCell_same hEX 6 _).trans rfl, q1⟩, ⟨cur, by rw [setCell_other _ _ hza]; exact q3, q4⟩, HML.out, k1, k2, HA.out⟩, q2, (HEO.out.mod _).trans (mod_set _ _ _ _)⟩
set_option maxRecDepth 20000 in
set_option maxHeartbeats 8000000 in
theorem RXJoin_mode (a m a2 m2 : Nat) (C : Cfg) (lv : Int) (K : Nat) (l l2 : List Int) (w : World) (h : RXAt w a m C lv K l) (h2 : RXAt w a2 m2 C lv K l2) (hmd : C.mode = 2) :
    Calls Tryz.prog 113 #[.pointer (some ⟨a, 0, none⟩), .pointer (some ⟨a2, 0, none⟩), .int .i64 (-1)] w fun e w' => e = .returned (.int .i64 3) ∧ Ext w w' := by
  have la := h.lta
  have la2 := h2.lta
  obtain ⟨cap, hex, hcap⟩ := h.ex
  obtain ⟨cap2, hex2, hcap2⟩ := h2.ex
  have c0 := (cell_of hex 0).trans rfl
  have c1 := (cell_of hex 1).trans rfl
  have c2 := (cell_of hex 2).trans rfl
  have c3 := (cell_of hex 3).trans rfl
  have c4 := (cell_of hex 4).trans rfl
  have c5 := (cell_of hex 5).trans rfl
  have d0 := (cell_of hex2 0).trans rfl
  have d1 := (cell_of hex2 1).trans rfl
  have d2 := (cell_of hex2 2).trans rfl
  have d3 := (cell_of hex2 3).trans rfl
  have d4 := (cell_of hex2 4).trans rfl
  have d5 := (cell_of hex2 5).trans rfl
  have hmm : (C.mode == 2) = true := by simpa using hmd
  clear hex hex2 h h2 hmd
  go_enter Tryz.func113, Tryz.ntmps113
  go_wp2_with fail
  have hC0 := af_drew w
  refine pi_start (fun w' => ∃ z : After w, w' = z.w) [] (by kernel_rfl) ?_
  refine pi_t 0 rfl (by kernel_rfl) (by kernel_rfl) (fun _ _ _ _ h => h) (fun K hK => ?_)
  go_big_quiet_op
  refine hK _ ?_
  clear hK K
  refine pi_t 1 rfl (by kernel_rfl) (by kernel_rfl) (fun _ _ _ _ h => h) (fun K hK => ?_)
  go_big_quiet_op
  refine hK _ ?_
  clear hK K
  refine pi_t 2 rfl (by kernel_rfl) (by kernel_rfl) (fun _ _ _ _ h => h) (fun K hK => ?_)
  go_big_quiet_op
  refine hK _ ?_
  clear hK K
  refine pi_t 4 rfl (by kernel_rfl) (by kernel_rfl) (fun _ _ _ _ h => h) (fun K hK => ?_)
  go_big_quiet_op
  refine hK _ ?_
  clear hK K
  refine pi_t 5 rfl (by kernel_rfl) (by kernel_rfl) (fun _ _ _ _ h => h) (fun K hK => ?_)
  go_big_quiet_op
  refine hK _ ?_
  clear hK K
  refine pi_t 6 rfl (by kernel_rfl) (by kernel_rfl) (fun _ _ _ _ h => h) (fun K hK => ?_)
  go_big_quiet_op
  refine hK _ ?_
  clear hK K
  refine pi_c 3 (by assumption) rfl (by kernel_rfl) (by kernel_rfl) (fun _ _ _ _ h => h) (fun K hK => ?_)
  go_big_quiet_op
  refine hK _ ?_
  clear hK K
  refine pi_c 7 (by assumption) rfl (by kernel_rfl) (by kernel_rfl) (fun _ _ _ _ h => h) (fun K hK => ?_)
  go_big_quiet_op
  refine hK _ ?_
  clear hK K
  refine pi_t 8 rfl (by kernel_rfl) (by kernel_rfl) (fun _ _ _ _ h => h) (fun K hK => ?_)
  go_big_quiet_op
  refine hK _ ?_
  clear hK K
  refine pi_t 9 rfl (by kernel_rfl) (by kernel_rfl) (fun _ _ _ _ h => h) (fun K hK => ?_)
  go_big_quiet_op
  refine hK _ ?_
  clear hK K
  refine pi_t 10 rfl (by kernel_rfl) (by kernel_rfl) (fun _ _ _ _ h => h) (fun K hK => ?_)
  go_big_quiet_op
  refine hK _ ?_
  clear hK K
  refine pi_t 11 rfl (by kernel_rfl) (by kernel_rfl) (fun _ _ _ _ h => h) (fun K hK => ?_)
  go_big_quiet_op
  refine hK _ ?_
  clear hK K
  refine pi_t 12 rfl (by kernel_rfl) (by kernel_rfl) (fun _ _ _ _ h => h) (fun K hK => ?_)
  go_big_quiet_op
  refine hK _ ?_
  clear hK K
  refine pi_t 14 rfl (by kernel_rfl) (by kernel_rfl) (fun _ _ _ _ h => h) (fun K hK => ?_)
  go_big_quiet_op
  refine hK _ ?_
  clear hK K
  refine pi_t 15 rfl (by kernel_rfl) (by kernel_rfl) (fun _ _ _ _ h => h) (fun K hK => ?_)
  go_big_quiet_op
  refine hK _ ?_
  clear hK K
  refine pi_t 16 rfl (by kernel_rfl) (by kernel_rfl) (fun _ _ _ _ h => h) (fun K hK => ?_)
  go_big_quiet_op
  refine hK _ ?_
  clear hK K
  refine pi_c 13 (by assumption) rfl (by kernel_rfl) (by kernel_rfl) (fun _ _ _ _ h => h) (fun K hK => ?_)
  go_big_quiet_op
  refine hK _ ?_
  clear hK K
  refine pi_c 17 (by assumption) rfl (by kernel_rfl) (by kernel_rfl) (fun _ _ _ _ h => h) (fun K hK => ?_)
  go_big_quiet_op
  refine hK _ ?_
  clear hK K
  refine pi_t 18 rfl (by kernel_rfl) (by kernel_rfl) (fun _ _ _ _ h => h) (fun K hK => ?_)
  go_big_quiet_op
  refine hK _ ?_
  clear hK K
  refine pi_t 19 rfl (by kernel_rfl) (by kernel_rfl) (fun _ _ _ _ h => h) (fun K hK => ?_)
  go_big_quiet_op
  refine hK _ ?_
  clear hK K
  refine pi_end (by kernel_rfl) ?_
  go_wp2
  go_ret
  exact ⟨rfl, Below.drew (Ext.refl w)⟩
end Go.Proofs.YtfhdjekpdifajaaGreat
namespace Go.Proofs.YtfhdjekpdifajaaGreat
set_option linter.unusedVariables false
open Go.RowKit
def rowP (l : List Int) (W r : Nat) : List Int := (List.range W).map fun k => l.getD (r * W + k) 0
theorem rowP_len (l : List Int) (W r : Nat) : (rowP l W r).length = W := by simp [rowP]
theorem rowP_get (l : List Int) {W r k : Nat} (h : k < W) : (rowP l W r).getD k 0 = l.getD (r * W + k) 0 := by simp [rowP, h]
theorem rowP_all {l : List Int} (h : allI l) (W r : Nat) : ∀ x ∈ rowP l W r, I64 x := by
  intro x hx
  simp only [rowP, List.mem_map, List.mem_range] at hx
  obtain ⟨k, _, rfl⟩ := hx
  exact getD_i64 h _
/-- The least of the products of the first r rows, if each fits. -/
def innF (l m : List Int) (W : Nat) : Nat → Option Int
  | 0 => some 0
  | r + 1 => (innF l m W r).bind fun best => (dotF (rowP l W r) (rowP m W r) W).bind fun n => some (bif decide (r = 0) || decide (n < best) then n else best)
theorem innF_w {l m : List Int} {W : Nat} : ∀ {r : Nat} {s : Int}, innF l m W r = some s → W128 s := by
  intro r
  induction r with
  | zero => intro s h; cases h; unfold W128; omega
  | succ r ih =>
    intro s h
    simp only [innF] at h
    cases hb : innF l m W r with
    | none => rw [hb] at h; cases h
    | some best =>
      cases hd : dotF (rowP l W r) (rowP m W r) W with
      | none => rw [hb, hd] at h; cases h
      | some n =>
        rw [hb, hd] at h
        simp only [Option.bind_some] at h
        cases hc : (decide (r = 0) || decide (n < best)) with
        | false => rw [hc] at h; cases h; exact ih hb
        | true => rw [hc] at h; cases h; exact dotF_w hd
theorem innF_none {l m : List Int} {W r : Nat} (h : innF l m W r = none) : ∀ {n : Nat}, r ≤ n → innF l m W n = none := by
  intro n hn
  induction n with
  | zero => obtain rfl : r = 0 := by omega
            exact h
  | succ n ih =>
    rcases Nat.lt_or_ge n r with h1 | h1
    · obtain rfl : r = n + 1 := by omega
      exact h
    · simp only [innF, ih h1, Option.bind_none]
def innV : Option Int → Value
  | some s => .tuple #[.agg #[.int .i64 (hi s), .int .u64 (lo s)], .int .i64 0]
  | none => .tuple #[.agg #[.int .i64 0, .int .u64 0], .int .i64 4]
theorem zbox {w0 wx : World} {b : Nat} (h : w0.heap[b]? = some (.cells #[.int .i64 0, .int .u64 0] 75 (0, 0))) (hE : Ext w0 wx) :
    wx.cell? ⟨b, 0, none⟩ = some (.int .i64 0) ∧ wx.cell? ⟨b, 1, none⟩ = some (.int .u64 0) ∧ wx.frozen? ⟨b, 0, none⟩ = false ∧ wx.frozen? ⟨b, 1, none⟩ = false ∧ b < wx.heap.size :=
  have h' := hE.keep h
  ⟨(cell_of h' 0).trans rfl, (cell_of h' 1).trans rfl, frozen_of h' 0, frozen_of h' 1, lt_of h'⟩
set_option maxRecDepth 20000 in
set_option maxHeartbeats 4000000 in
theorem Inner_mode (s b c s2 b2 c2 : Nat) (C : Cfg) (lv : Int) (R W : Nat) (l l2 : List Int) (w : World) (h : SAt w s b c C lv R W l) (h2 : SAt w s2 b2 c2 C lv R W l2) (hm : C.mode ≠ 1) :
    Calls Tryz.prog 119 #[.pointer (some ⟨s, 0, none⟩), .pointer (some ⟨s2, 0, none⟩)] w fun e w' => e = .returned (.tuple #[.agg #[.int .i64 0, .int .u64 0], .int .i64 3]) ∧ Ext w w' := by
  have H := Lib.hid h
  have H2 := Lib.hid h2
  have hm' : (C.mode != 1) = true := by simpa using hm
  clear h h2 hm
  go_enter Tryz.func119, Tryz.ntmps119
  go_upto_region 1 with (fail)
  have hz0 := heap_at w (.cells #[.int .i64 0, .int .u64 0] 75) rfl
  have hE0 : Ext w (w.alloc (.cells #[.int .i64 0, .int .u64 0] 75)) := Ext.alloc' _ _
  generalize w.alloc (.cells #[.int .i64 0, .int .u64 0] 75) = w0 at *
  have HZ0 := Lib.hid hz0
  clear hz0
  go_cut [34] (fun s34 wx => s34 = .bool false ∧ Ext w0 wx)
  case first =>
    go_wp2_with (first | (go_at_call 168; refine (SConfig_c s b c C lv R W l _ (H.out.ext (by (repeat' (first | exact Ext.refl _ | assumption | apply Ext.allocR | apply Ext.drewR | apply Ext.drewNR | (refine Ext.trans' ?_ (by assumption))))))).mono ?_; rintro e w1 ⟨rfl, hb1⟩) | (go_at_call 168; refine (SConfig_c s2 b2 c2 C lv R W l2 _ (H2.out.ext (by (repeat' (first | exact Ext.refl _ | assumption | apply Ext.allocR | apply Ext.drewR | apply Ext.drewNR | (refine Ext.trans' ?_ (by assumption))))))).mono ?_; rintro e w2 ⟨rfl, hb2⟩) | (go_at_call 169; refine (SLevel_c s b c C lv R W l _ (H.out.ext (by (repeat' (first | exact Ext.refl _ | assumption | apply Ext.allocR | apply Ext.drewR | apply Ext.drewNR | (refine Ext.trans' ?_ (by assumption))))))).mono ?_; rintro e w3 ⟨rfl, rfl⟩) | (go_at_call 169; refine (SLevel_c s2 b2 c2 C lv R W l2 _ (H2.out.ext (by (repeat' (first | exact Ext.refl _ | assumption | apply Ext.allocR | apply Ext.drewR | apply Ext.drewNR | (refine Ext.trans' ?_ (by assumption))))))).mono ?_; rintro e w4 ⟨rfl, rfl⟩))
    go_meet
    exact ⟨by first | rfl | simp, by (repeat' (first | exact Ext.refl _ | assumption | apply Ext.allocR | apply Ext.drewR | apply Ext.drewNR | (refine Ext.trans' ?_ (by assumption))))⟩
  case rest =>
    obtain ⟨rfl, hEc⟩ := hcut
    go_wp2_with fail
    refine Calls.mono (SConfig_c s b c C lv R W l _ (H.out.ext ?hx)) ?_
    case hx => (repeat' (first | exact Ext.refl _ | assumption | apply Ext.allocR | apply Ext.drewR | apply Ext.drewNR | (refine Ext.trans' ?_ (by assumption))))
    rintro e w1 ⟨rfl, hb1⟩
    have hE1 : Ext w0 w1 := by (repeat' (first | exact Ext.refl _ | assumption | apply Ext.allocR | apply Ext.drewR | apply Ext.drewNR | (refine Ext.trans' ?_ (by assumption))))
    obtain ⟨p0, p1, f0, f1, hl⟩ := zbox HZ0.out hE1
    go_wp2_with fail
    refine bodyPost_ret (v := .tuple #[.agg #[.int .i64 0, .int .u64 0], .int .i64 3]) (by simp [results, Tryz.results119, go_sem, *]) rfl ⟨rfl, ?_⟩
    exact (((hE0.trans' hE1).setR (p := ⟨w.heap.size, 0, none⟩) (Nat.le_refl _) _).setR (p := ⟨w.heap.size, 1, none⟩) (Nat.le_refl _) _).allocR _
end Go.Proofs.YtfhdjekpdifajaaGreat
