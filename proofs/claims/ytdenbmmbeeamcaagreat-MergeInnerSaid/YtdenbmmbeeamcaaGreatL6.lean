/- Part. No condition. -/
import Derived.Test.YtdenbmmbeeamcaaGreatL5
import Derived.Test.YtdenbmmbeeamcaaGreatL3
import Derived.Test.YtdenbmmbeeamcaaGreatL4

/- gaugerref15.Has, walked: what the keys of a piece have of updates. -/
namespace Go.Proofs.YtdenbmmbeeamcaaGreat
set_option linter.unusedVariables false
open Go.RowKit

/-- What the keys of a piece have of sixty updates. -/
def hasK (C : Cfg) (us : List (Int × Int)) (k n : Nat) (j : Int) : Int := hasP j (stP C n (fus us 0 k))
theorem stP_len (C : Cfg) (n : Nat) (us : List (Int × Int)) : (stP C n us).length = us.length := by simp [stP]
theorem stP_bnd (C : Cfg) (n : Nat) (us : List (Int × Int)) : ∀ u ∈ stP C n us, -1099511627776 ≤ u.2 ∧ u.2 ≤ 1099511627776 := by
  intro u hu
  simp only [stP, List.mem_map] at hu
  obtain ⟨p, _, rfl⟩ := hu
  have := cutD_bd C.mode p.2
  show _ ≤ cutD C.mode p.2 ∧ _
  omega
theorem hasK_bd (C : Cfg) (us : List (Int × Int)) {k : Nat} (hk : k ≤ 60) (n : Nat) (j : Int) : -65970697666560 ≤ hasK C us k n j ∧ hasK C us k n j ≤ 65970697666560 := by
  have := sumIf_bnd (fun x => x == j) 1099511627776 (by decide) (stP C n (fus us 0 k)) (stP_bnd C n _)
  have hl := fus_len us 0 k
  rw [stP_len] at this
  unfold hasK hasP
  omega
theorem hasK_zero (C : Cfg) (us : List (Int × Int)) (n : Nat) (j : Int) : hasK C us 0 n j = 0 := by unfold hasK; rw [fus_self]; rfl
theorem hasK_succ (C : Cfg) (us : List (Int × Int)) {k : Nat} (hk : k < us.length) (n : Nat) (j : Int) :
    hasK C us (k + 1) n j = hasK C us k n j + (bif sh n (cutK C 0 us[k].1) == j then cutD C.mode us[k].2 else 0) := by
  have hget : us.getD k (0, 0) = us[k] := by simp [hk]
  unfold hasK
  rw [fus_snoc us (Nat.zero_le k) hk, stP_snoc, hget]
  exact sumIf_snoc _ _ _
set_option maxRecDepth 20000 in
set_option maxHeartbeats 4000000 in
theorem Has15_c (us : List (Int × Int)) (hus : UpsOk us) (v : Value) (C : Cfg) (hok : C.Ok) (n : Nat) (hn : n ≤ 63) (j : Int) (hj : U64 j) (w : World) (hv : UpsAt w v us) (hul : us.length ≤ 140737488355328) :
    Calls Tryz.prog 91 #[.agg #[.int .i64 C.bits, .int .i64 C.rows, .int .i64 C.width, .int .i64 C.mode, .int .u64 C.seed], v, .agg #[.int .i64 n, .int .u64 j]] w
      fun e w' => e = .returned (.int .i64 (hasK C us 60 n j)) ∧ Ext w w' := by
  obtain ⟨vp, vc, rfl⟩ := hv.sl
  have HV := Lib.hid hv
  clear hv
  go_enter Tryz.func91, Tryz.ntmps91
  go_wp2_with fail
  go_loopw [7, 8] (fun u7 u8 wr => ∃ k : Nat, k ≤ 60 ∧ k ≤ us.length ∧ u7 = .int .i64 (hasK C us k n j) ∧ u8 = .int .i64 k ∧ Ext w wr ∧ CfgAt wr w.heap.size C ∧ wr.heap[w.heap.size + 1]? = some (.cells #[.int .i64 n, .int .u64 j] 39 (0, 0))) (fun _ u8 _ => 60 - (intOf u8).toNat)
  case atStart =>
    refine ⟨0, Nat.zero_le _, Nat.zero_le _, by rw [hasK_zero], rfl, by (repeat' (first | exact Ext.refl _ | assumption | apply Ext.allocR | apply Ext.drewR | apply Ext.drewNR | (refine Ext.trans' ?_ (by assumption)))), (CfgAt.box C _ rfl).ext (Ext.alloc' _ _), heap_at _ _ (by rw [size_alloc])⟩
  case round =>
    obtain ⟨k, hk60, hkl, rfl, rfl, hE, hC, hP⟩ := hrel
    have l1 := hC.lt
    have l2 := lt_of hP
    obtain ⟨hsb1, hsb2⟩ := hasK_bd C us hk60 n j
    by_cases hgo : k < us.length ∧ k < 60
    · obtain ⟨hg1, hg2⟩ := hgo
      obtain ⟨ug, off, rfl, hul0, d0, d1⟩ := (UpsAt.ext HV.out hE).one hg1
      have hu := hus _ (List.getElem_mem hg1)
      have hsn := hasK_succ C us hg1 n j
      have c0 := hC.c0
      have c1 := hC.c1
      have c2 := hC.c2
      have c3 := hC.c3
      have c4 := hC.c4
      generalize us[k] = uu at *
      obtain ⟨uk, ud⟩ := uu
      generalize hasK C us k n j = s at *
      have HSN := Lib.hid hsn
      have HP := Lib.hid hP
      have HC := Lib.hid hC
      clear hsn hP hC
      go_upto_region 5 with (fail)
      go_cut [9] (fun s9 wx => ∃ bu : Nat, s9 = .pointer (some ⟨bu, 0, none⟩) ∧ wx.heap[bu]? = some (.cells #[.int .u64 (cutK C 0 uk), .int .i64 (cutD C.mode ud)] 60 (0, 0)) ∧ Ext wr wx ∧ wr.heap.size ≤ bu)
      case first =>
        have hC0 := af_drew wr
        refine pi_start (fun w' => ∃ x : After wr, w' = x.w) [] (by kernel_rfl) ?_
        refine pi_c 0 (by assumption) rfl (by kernel_rfl) (by kernel_rfl) (fun _ _ _ _ h => h) (fun K hK => ?_)
        go_big_quiet_op
        refine hK _ ?_
        clear hK K
        refine pi_t 1 rfl (by kernel_rfl) (by kernel_rfl) (fun _ _ _ _ h => h) (fun K hK => ?_)
        go_big_quiet_op
        refine hK _ ?_
        clear hK K
        refine pi_t 2 rfl (by kernel_rfl) (by kernel_rfl) (fun _ _ _ _ h => h) (fun K hK => ?_)
        go_big_quiet_op
        refine hK _ ?_
        clear hK K
        refine pi_t 3 rfl (by kernel_rfl) (by kernel_rfl) (fun _ _ _ _ h => h) (fun K hK => ?_)
        go_big_quiet_op
        refine hK _ ?_
        clear hK K
        refine pi_c 4 (by assumption) rfl (by kernel_rfl) (by kernel_rfl) (fun _ _ _ _ h => h) (fun K hK => ?_)
        go_big_quiet_op
        refine hK _ ?_
        clear hK K
        refine pi_b 5 6 rfl rfl (by kernel_rfl) (fun K hK => ?_) (fun K hK => ?_)
        · go_wp2_with (go_at_call 68; refine (Cut15_c C hok uk ud hu.1 hu.2 _).mono ?_; rintro e w3 ⟨rfl, hx3⟩)
          have hx3' : Ext wr w3 := Ext.trans' (Below.drew (Ext.refl wr)) hx3
          have hs3 := hx3'.size
          refine hK _ _ (fun _ h => af_step h hx3) ?_
          clear hK K
          refine pi_l 6 rfl (by kernel_rfl) (fun K hK => ?_)
          go_wp2
          refine hK _ _ (fun _ h => af_step h (Ext.alloc' _ _)) ?_
          clear hK K
          refine pi_l 7 rfl (by kernel_rfl) (fun K hK => ?_)
          go_wp2
          refine hK _ _ (fun _ _ => ⟨⟨_, hx3'.allocR _⟩, rfl⟩) ?_
          clear hK K
          refine pi_end (by kernel_rfl) ?_
          go_wp2_with fail
          go_meet
          exact ⟨w3.heap.size, rfl, heap_at _ _ rfl, hx3'.allocR _, hs3⟩
        · go_wp2
          refine hK _ _ (fun _ h => af_step h (Ext.alloc' _ _)) ?_
          clear hK K
          refine pi_l 5 rfl (by kernel_rfl) (fun K hK => ?_)
          go_wp2_with (go_at_call 68; refine (Cut15_c C hok uk ud hu.1 hu.2 _).mono ?_; rintro e w3 ⟨rfl, hx3⟩)
          refine hK _ _ (fun _ h => af_step h hx3) ?_
          clear hK K
          have hs3 : (wr.alloc (.cells #[.int .u64 0, .int .i64 0] 60)).heap.size ≤ w3.heap.size := hx3.size
          rw [size_alloc] at hs3
          have hx3' : Ext wr w3 := Ext.trans' (Ext.alloc' wr _) (Ext.trans' (Below.drew (Ext.refl _)) hx3)
          have hbx : w3.heap[wr.heap.size]? = some (.cells #[.int .u64 0, .int .i64 0] 60 (0, 0)) := by
            rw [hx3.block _ (by show _ < (wr.alloc _).heap.size; rw [size_alloc]; exact Nat.lt_succ_self _)]
            exact heap_at wr _ rfl
          have p0 := (cell_of hbx 0).trans rfl
          have p1 := (cell_of hbx 1).trans rfl
          have f0 := frozen_of hbx 0
          have f1 := frozen_of hbx 1
          refine pi_l 7 rfl (by kernel_rfl) (fun K hK => ?_)
          go_wp2
          refine hK _ _ (fun _ _ => ⟨⟨_, (hx3'.setR (Nat.le_refl _) _).setR (Nat.le_refl _) _⟩, rfl⟩) ?_
          clear hK K
          refine pi_end (by kernel_rfl) ?_
          go_wp2_with fail
          go_meet
          exact ⟨wr.heap.size, rfl, set2 hbx _ _, (hx3'.setR (Nat.le_refl _) _).setR (Nat.le_refl _) _, Nat.le_refl _⟩
      case rest =>
        obtain ⟨bu, rfl, hbu, hxw, hbul⟩ := hcut
        have hdb := cutD_bd C.mode ud
        have b1 := (cell_of hbu 1).trans rfl
        have b0 := (cell_of hbu 0).trans rfl
        have hE' : Ext w wc := hE.trans' hxw
        have hP' := hxw.keep HP.out
        have hC' := HC.out.ext hxw
        have p0 := (cell_of hP' 0).trans rfl
        have p1 := (cell_of hP' 1).trans rfl
        have pl := lt_of hP'
        clear d0 d1 c0 c1 c2 c3 c4 hE hxw
        have hkk0 := (cutK_bd C hok 0 uk (Int.le_refl 0)).1
        generalize cutK C 0 uk = kk at *
        generalize cutD C.mode ud = dd at *
        by_cases hkk : sh n kk = j
        · have g1 : (sh n kk == j) = true := by simpa using hkk
          have hs' := HSN.out
          rw [g1] at hs'
          have HS := Lib.hid hs'
          have g2 : (kk / 2 ^ n == j) = true := g1
          clear hs' HSN hkk g1
          go_wp2_with fail
          go_roundw
          case rel => exact ⟨k + 1, by omega, by omega, by rw [HS.out]; rfl, by go_num, hE', hC', hP'⟩
          case measure => simp [intOf]; omega
        · have g1 : (sh n kk == j) = false := by simpa using hkk
          have hs' := HSN.out
          rw [g1] at hs'
          have HS := Lib.hid hs'
          have g2 : (kk / 2 ^ n == j) = false := g1
          clear hs' HSN hkk g1
          go_wp2_with fail
          go_roundw
          case rel => exact ⟨k + 1, by omega, by omega, by rw [HS.out]; exact congrArg _ (Int.add_zero _).symm, by go_num, hE', hC', hP'⟩
          case measure => simp [intOf]; omega
    · have hfe := fus_end us (i := 0) (j := 60) (k := k) (by omega) (by omega) (.inr ⟨hk60, hkl⟩) hgo
      have hfe' : hasK C us k n j = hasK C us 60 n j := by unfold hasK; rw [hfe]
      rw [hfe']
      go_wp2_with fail
      all_goals
        go_ret
        exact ⟨rfl, hE⟩
end Go.Proofs.YtdenbmmbeeamcaaGreat

/- gaugerlaw15.fed makes a stack and feeds it: it never refuses. -/
namespace Go.Proofs.YtdenbmmbeeamcaaGreat
set_option linter.unusedVariables false
open Go.RowKit

/-- The config that a play of a stack stands for. -/
def kcfg (x : Cfg) (nb m : Int) : Cfg := if 0 < m then { mkC x nb 9 with mode := m } else mkC x nb 9
theorem kcfg_ok (x : Cfg) (hs : U64 x.seed) {nb m : Int} (h1 : 1 ≤ nb) (h2 : nb ≤ 20) (h3 : m ≤ 3) : (kcfg x nb m).Ok := by
  have h := mkC_ok x hs (nb := nb) (nw := 9) h1 h2 (by decide) (by decide)
  unfold kcfg
  split
  · exact ⟨h.b1, h.b2, h.r1, h.r2, h.w1, h.w2, by show 1 ≤ m; omega, h3, h.s⟩
  · exact h
theorem kcfg_bits (x : Cfg) (nb m : Int) : (kcfg x nb m).bits = 1 + x.bits % 65536 % nb := by unfold kcfg; split <;> rfl
theorem kcfg_pos (x : Cfg) (nb : Int) {m : Int} (h : 0 < m) : (mkC x nb 9).bits = (kcfg x nb m).bits ∧ (mkC x nb 9).rows = (kcfg x nb m).rows ∧ (mkC x nb 9).width = (kcfg x nb m).width ∧ (mkC x nb 9).seed = (kcfg x nb m).seed ∧ m = (kcfg x nb m).mode := by
  unfold kcfg; rw [if_pos h]; exact ⟨rfl, rfl, rfl, rfl, rfl⟩
theorem kcfg_none (x : Cfg) (nb : Int) {m : Int} (h : ¬ 0 < m) : mkC x nb 9 = kcfg x nb m := by
  unfold kcfg; rw [if_neg h]
def KFedPost (w : World) (C : Cfg) (us : List (Int × Int)) (i j : Nat) (e : Ending) (w' : World) : Prop :=
  ∃ (s g : Nat) (L : Nat → Lev), e = .returned (.tuple #[.pointer (some ⟨s, 0, none⟩), .agg #[.int .i64 C.bits, .int .i64 C.rows, .int .i64 C.width, .int .i64 C.mode, .int .u64 C.seed]]) ∧
    KAt w' s g C C.bits.toNat L (feedK C (fus us i j)) ∧ w.heap.size ≤ s ∧ w.heap.size ≤ g ∧ KFresh w.heap.size C.bits.toNat L ∧ Ext w w'
end Go.Proofs.YtdenbmmbeeamcaaGreat

/- Small things for the statements about stacks: gaugerref07.Exact, what an exact level has. -/
namespace Go.Proofs.YtdenbmmbeeamcaaGreat
set_option linter.unusedVariables false
open Go.RowKit
set_option maxRecDepth 20000 in
set_option maxHeartbeats 2000000 in
theorem ExactR_c (C : Cfg) (h : C.Ok) (lv : Int) (h0 : 0 ≤ lv) (h1 : lv ≤ C.bits) (w : World) :
    Calls Tryz.prog 88 #[.agg #[.int .i64 C.bits, .int .i64 C.rows, .int .i64 C.width, .int .i64 C.mode, .int .u64 C.seed], .int .i64 lv] w fun e w' => e = .returned (.bool (isX C lv)) ∧ Ext w w' := by
  have hk := keys_bd C h lv h0
  have w1' := h.w1
  have w2' := h.w2
  have hI : isX C lv = decide (keys C lv ≤ C.width) := rfl
  go_enter Tryz.func88, Tryz.ntmps88
  go_wp2_with fail
  refine (KeysR_c C h lv h0 h1 _).mono ?_
  rintro e w1 ⟨rfl, hb⟩
  have hE : Ext w w1 := by (repeat' (first | exact Ext.refl _ | assumption | apply Ext.allocR | apply Ext.drewR | apply Ext.drewNR | (refine Ext.trans' ?_ (by assumption))))
  have hC := (CfgAt.box (w := w) C 24 rfl).ext hb
  have c2 := hC.c2
  have cl := hC.lt
  have HI := Lib.hid hI
  generalize keys C lv = N at *
  clear hb hI hC
  by_cases hx : N ≤ C.width
  · go_wp2
    go_ret
    exact ⟨by rw [HI.out, decide_eq_true hx]; rfl, hE⟩
  · go_wp2
    go_ret
    exact ⟨by rw [HI.out, decide_eq_false (by omega)]; rfl, hE⟩
theorem Has15_top (us : List (Int × Int)) (hus : UpsOk us) (v : Value) (C : Cfg) (hok : C.Ok) {B : Nat} (hB : C.bits = B) (w : World) (hv : UpsAt w v us) (hul : us.length ≤ 140737488355328) :
    Calls Tryz.prog 91 #[.agg #[.int .i64 C.bits, .int .i64 C.rows, .int .i64 C.width, .int .i64 C.mode, .int .u64 C.seed], v, .agg #[.int .i64 C.bits, .int .u64 0]] w
      fun e w' => e = .returned (.int .i64 (hasK C us 60 B 0)) ∧ Ext w w' := by
  have h := Has15_c us hus v C hok B (by have := hok.b2; omega) 0 ⟨by decide, by decide⟩ w hv hul
  rw [← hB] at h
  exact h
/-- What a stack that was fed has in all. -/
theorem feed_total {C : Cfg} (hok : C.Ok) {B : Nat} (hB : C.bits = B) {us : List (Int × Int)} (hus : UpsOk us) : (feedK C (fus us 0 60) B).getD 0 0 = hasK C us 60 B 0 :=
  feedK_x hok (by omega) (fun u hu => hus u (List.mem_of_mem_take (List.mem_of_mem_drop hu))) (isX_top hok hB) 0
theorem fus_ok {us : List (Int × Int)} (hus : UpsOk us) (i j : Nat) : UpsOk (fus us i j) := fun u hu => hus u (List.mem_of_mem_take (List.mem_of_mem_drop hu))
theorem pt_x {C : Cfg} (hok : C.Ok) {n : Nat} (hn : (n : Int) ≤ C.bits) {us : List (Int × Int)} (hus : UpsOk us) (hx : isX C n = true) {j z : Int} (hj : 0 ≤ j) (h : lvPt C n (feedK C (fus us 0 60) n) j z) : z = hasK C us 60 n j := by
  rcases h with ⟨_, h⟩ | ⟨h, _⟩
  · rw [h, feedK_x hok hn (fus_ok hus 0 60) hx]
    unfold hasK
    rw [show ((j.toNat : Nat) : Int) = j by omega]
  · rw [hx] at h; cases h
end Go.Proofs.YtdenbmmbeeamcaaGreat

/- Plain law: where no key has less than 0, no prefix is told less than it has. -/
namespace Go.Proofs.YtdenbmmbeeamcaaGreat
set_option linter.unusedVariables false
open Go.RowKit

/-- Has no key of the first k updates less than 0? -/
def plK (C : Cfg) (us : List (Int × Int)) (k : Nat) : Bool := (us.take k).all fun u => decide (0 ≤ hasK C us 60 0 (cutK C 0 u.1))
theorem plK_zero (C : Cfg) (us : List (Int × Int)) : plK C us 0 = true := rfl
theorem plK_succ (C : Cfg) (us : List (Int × Int)) {k : Nat} (hk : k < us.length) : plK C us (k + 1) = (plK C us k && decide (0 ≤ hasK C us 60 0 (cutK C 0 us[k].1))) := by
  unfold plK
  rw [List.take_succ_eq_append_getElem hk, List.all_append]
  simp
theorem plK_end (C : Cfg) (us : List (Int × Int)) {k : Nat} (h60 : k ≤ 60) (hk : k ≤ us.length) (he : ¬ (k < us.length ∧ k < 60)) : plK C us k = plK C us 60 := by
  unfold plK
  by_cases h : k = 60
  · rw [h]
  · have : k = us.length := by omega
    rw [this, List.take_length, List.take_of_length_le (by omega)]
theorem sh_zero (key : Int) : sh 0 key = key := by unfold sh; simp
/-- What a level is told is what level 0 is told, of the keys there. -/
theorem sumIf_stP (C : Cfg) (n : Nat) (p : Int → Bool) : ∀ us : List (Int × Int), sumIf p (stP C n us) = sumIf (fun k => p (sh n k)) (stP C 0 us)
  | [] => rfl
  | u :: us => by
    have ih := sumIf_stP C n p us
    show sumIf p ((sh n (cutK C 0 u.1), cutD C.mode u.2) :: stP C n us) = sumIf (fun k => p (sh n k)) ((sh 0 (cutK C 0 u.1), cutD C.mode u.2) :: stP C 0 us)
    rw [sumIf_cons, sumIf_cons, ih, sh_zero]
theorem pl_nn {C : Cfg} {us : List (Int × Int)} (h : plK C us 60 = true) (n : Nat) (p : Int → Bool) : 0 ≤ sumIf p (stP C n (fus us 0 60)) := by
  rw [sumIf_stP]
  refine sumIf_nn _ _ _ (Nat.le_refl _) fun u hu => ?_
  simp only [stP, List.mem_map] at hu
  obtain ⟨v, hv, rfl⟩ := hu
  unfold plK at h
  rw [List.all_eq_true] at h
  have := h v (by unfold fus at hv; simpa using hv)
  have h2 := of_decide_eq_true this
  rw [show ((sh 0 (cutK C 0 v.1), cutD C.mode v.2) : Int × Int).1 = cutK C 0 v.1 from sh_zero _]
  exact h2
theorem cols_lenR {C : Cfg} (hok : C.Ok) (lv key : Int) {R W : Nat} (hr : C.rows = R) (hw : C.width = W) : (cols C lv key).length = R := (cols_meets C hok lv key hr hw).len
/-- No prefix is told less than it has. -/
theorem over_law {C : Cfg} (hok : C.Ok) {n : Nat} (hn : (n : Int) ≤ C.bits) {us : List (Int × Int)} (hus : UpsOk us) (hm : C.mode ≠ 3) (hp : plK C us 60 = true) {j z : Int} (hj : 0 ≤ j)
    (h : lvPt C n (feedK C (fus us 0 60) n) j z) : hasK C us 60 n j ≤ z := by
  cases hx : isX C n with
  | true => exact Int.le_of_eq (pt_x hok hn hus hx hj h).symm
  | false =>
    rcases h with ⟨h, _⟩ | ⟨_, h⟩
    · rw [hx] at h; cases h
    rw [if_neg hm, feedK_s hok hn (fus_ok hus 0 60) hx] at h
    have hr := rN_eq hok
    have hw := wN_eq hok
    have hR : 0 < rN C := by have := hok.r1; omega
    have hs : cutP C n (shU n (fus us 0 60)) = stP C n (fus us 0 60) := stP_cutP hok hn (fus_ok hus 0 60)
    unfold hasK
    by_cases h2 : C.mode = 2
    · obtain ⟨h1, _⟩ := kth0_spec h
      unfold readL at h1
      rw [cols_lenR hok n j hr hw] at h1
      simp only [List.mem_map, List.mem_range] at h1
      obtain ⟨r, hrr, rfl⟩ := h1
      have := cons_low C hok n (rN C) (wN C) hr hw h2 (shU n (fus us 0 60)) j r hrr
      rw [hs] at this
      exact this
    · rw [read_cell C hok n (rN C) (wN C) hr hw h2, hs] at h
      have e := least_of h
      obtain ⟨r, _, hr2⟩ := leastF_mem (fun r => othP C n j r (stP C n (fus us 0 60))) (rN C) hR
      have hnn : 0 ≤ othP C n j r (stP C n (fus us 0 60)) := pl_nn hp n _
      rw [e, hr2]
      omega
end Go.Proofs.YtdenbmmbeeamcaaGreat

/- Plain laws of one level that was fed. -/
namespace Go.Proofs.YtdenbmmbeeamcaaGreat
set_option linter.unusedVariables false
open Go.RowKit
/-- A level's cells behind updates (cut). -/
def feedV (C : Cfg) (lv : Int) (us : List (Int × Int)) (l : List Int) : List Int := us.foldl (fun l u => lvU C lv l (cutK C lv u.1) (cutD C.mode u.2)) l
theorem feedV_snoc (C : Cfg) (lv : Int) (us : List (Int × Int)) (u : Int × Int) (l : List Int) : feedV C lv (us ++ [u]) l = lvU C lv (feedV C lv us l) (cutK C lv u.1) (cutD C.mode u.2) := by
  unfold feedV; rw [List.foldl_append]; rfl
theorem feedV_len (C : Cfg) (lv : Int) (us : List (Int × Int)) (l : List Int) : (feedV C lv us l).length = l.length := by
  unfold feedV
  induction us generalizing l with
  | nil => rfl
  | cons u us ih => rw [List.foldl_cons, ih, lvU_len]
theorem feedV_bnd (C : Cfg) (lv : Int) (us : List (Int × Int)) (n : Nat) : Bnd (us.length * 1099511627776) (feedV C lv us (zs n)) := by
  refine snoc_ind (P := fun us => Bnd (us.length * 1099511627776) (feedV C lv us (zs n))) ?_ ?_ us
  · exact zs_bnd _
  · intro us u ih
    rw [feedV_snoc]
    have := lvU_bnd (C := C) (lv := lv) (key := cutK C lv u.1) (d := cutD C.mode u.2) ih (by omega) (show (0 : Int) ≤ 1099511627776 by decide) (by have := cutD_bd C.mode u.2; omega)
    have e : ((us ++ [u]).length : Int) * 1099511627776 = us.length * 1099511627776 + 1099511627776 := by
      rw [List.length_append, List.length_singleton]; push_cast; omega
    rw [e]
    exact this
theorem feedV_ok (C : Cfg) (hok : C.Ok) (lv : Int) (hlv : 0 ≤ lv) (us : List (Int × Int)) (hl : us.length ≤ 1000) (u : Int × Int) (n : Nat) : lvE C lv (feedV C lv us (zs n)) (cutK C lv u.1) (cutD C.mode u.2) = 0 :=
  lvE_ok (feedV_bnd C lv us n) (by omega) (show (0 : Int) ≤ 1099511627776 by decide) (by have := cutD_bd C.mode u.2; omega) (by omega) (cutK_bd C hok lv u.1 hlv).2 (fun h => cutD_nn h)
theorem feedV_fit (C : Cfg) (lv : Int) (us : List (Int × Int)) (n : Nat) (hl : us.length ≤ 1000) : allI (feedV C lv us (zs n)) := by
  intro x hx
  have := feedV_bnd C lv us n x hx
  unfold I64
  constructor <;> omega
theorem feedV_s {C : Cfg} {lv : Int} (h : isX C lv = false) (us : List (Int × Int)) (l : List Int) : feedV C lv us l = feed C lv (rN C) (wN C) us l := by
  unfold feedV feed
  congr 1
  funext l u
  exact lvU_s h _ _ _
theorem feedV_x {C : Cfg} {lv : Int} (h : isX C lv = true) (hok : C.Ok) (hlv : 0 ≤ lv) (us : List (Int × Int)) (n : Nat) {i : Nat} (hi : i < n) : (feedV C lv us (zs n)).getD i 0 = sumIf (fun k => k == (i : Int)) (cutP C lv us) := by
  refine snoc_ind (P := fun us => (feedV C lv us (zs n)).getD i 0 = sumIf (fun k => k == (i : Int)) (cutP C lv us)) ?_ ?_ us
  · show (zs n).getD i 0 = 0
    simp [zs, hi]
  · intro us u ih
    have hk := cutK_bd C hok lv u.1 hlv
    have hl : (feedV C lv us (zs n)).length = n := by rw [feedV_len, zs_len]
    rw [feedV_snoc, cutP_snoc, sumIf_snoc, ← ih, lvU_x h]
    unfold updX
    generalize feedV C lv us (zs n) = l at *
    generalize cutK C lv u.1 = k at *
    by_cases e : k.toNat = i
    · have e2 : (k == (i : Int)) = true := by simp; omega
      simp only [e2, cond_true]
      rw [e, List.getD_eq_getElem?_getD, List.getElem?_set_self (by omega)]
      rfl
    · have e2 : (k == (i : Int)) = false := by simp; omega
      simp only [e2, cond_false]
      rw [List.getD_eq_getElem?_getD, List.getElem?_set_ne e, List.getD_eq_getElem?_getD]
      omega
/-- In the modes Linear and Median, and of exact levels in all, two levels' cells together are those of one that was fed all. -/
theorem feedV_plus (C : Cfg) (hok : C.Ok) (lv : Int) (hlv : 0 ≤ lv) (hm : isX C lv = true ∨ C.mode ≠ 2) (us vs : List (Int × Int)) : plusL (feedV C lv us (zs (lvN C lv))) (feedV C lv vs (zs (lvN C lv))) = feedV C lv (us ++ vs) (zs (lvN C lv)) := by
  cases hx : isX C lv with
  | true =>
    apply list_ext_getD
    · rw [plusL_len, feedV_len, feedV_len]
    · intro i hi
      rw [plusL_len] at hi
      rw [plusL_get hi]
      rw [feedV_len, zs_len] at hi
      rw [feedV_x hx hok hlv us _ hi, feedV_x hx hok hlv vs _ hi, feedV_x hx hok hlv (us ++ vs) _ hi, cutP_append, sumIf_append]
  | false =>
    have hm' := hm.resolve_left (by rw [hx]; decide)
    have hn : lvN C lv = rN C * wN C := by unfold lvN; rw [hx]; rfl
    rw [feedV_s hx, feedV_s hx, feedV_s hx, hn]
    exact feed_plus C hok lv (rN C) (wN C) (rN_eq hok) (wN_eq hok) hm' us vs
theorem putK_at {R W : Nat} {cs : List Int} (hm : Meets R W cs) (f : Nat → Int) {l : List Int} (hl : l.length = R * W) {r : Nat} (hr : r < R) : (putK W cs f R l).getD (at_ W cs r) 0 = f r := by
  have h0 := hm.lo r hr
  have h1 := hm.hi r hr
  have h := putK_get hm (f := f) hl hr (a := (cs.getD r 0).toNat) (by omega) R (Nat.le_refl _)
  unfold at_
  rw [h, if_pos ⟨hr, by omega⟩]
/-- An update by more than 0 changes a cell. -/
theorem lvU_ne {C : Cfg} (hok : C.Ok) {lv : Int} (h0 : 0 ≤ lv) {l : List Int} (hl : l.length = lvN C lv) {key d : Int} (hk0 : 0 ≤ key) (hk : key < keys C lv) (hd : 0 < d) : lvU C lv l key d ≠ l := by
  intro he
  cases hx : isX C lv with
  | true =>
    rw [lvU_x hx] at he
    have hn : lvN C lv = kN C lv := by unfold lvN; rw [hx]; rfl
    have hkn := kN_eq hok h0
    have h1 : (updX l key d).getD key.toNat 0 = l.getD key.toNat 0 + d := by
      unfold updX
      rw [List.getD_eq_getElem?_getD, List.getElem?_set_self (by omega)]
      rfl
    rw [he] at h1
    omega
  | false =>
    rw [lvU_s hx] at he
    have hn : lvN C lv = rN C * wN C := by unfold lvN; rw [hx]; rfl
    have hm := cols_meets C hok lv key (rN_eq hok) (wN_eq hok)
    have hR : 0 < rN C := by have := hok.r1; have := rN_eq hok; omega
    rw [hn] at hl
    by_cases hmd : C.mode = 2
    · have hne : readL (wN C) l (cols C lv key) ≠ [] := by
        intro e
        have := readL_len (wN C) l (cols C lv key)
        rw [e, hm.len] at this
        simp at this
        omega
      obtain ⟨hmem, hmin⟩ := minL_spec _ hne
      obtain ⟨r, hr, hre⟩ : ∃ r, r < rN C ∧ l.getD (at_ (wN C) (cols C lv key) r) 0 = minL (readL (wN C) l (cols C lv key)) := by
        have h2 := hmem
        unfold readL at h2
        rw [List.mem_map] at h2
        obtain ⟨r, hr, e⟩ := h2
        rw [List.mem_range, hm.len] at hr
        exact ⟨r, hr, e⟩
      have h1 := putK_at hm (fun k => max (l.getD (at_ (wN C) (cols C lv key) k) 0) (minL (readL (wN C) l (cols C lv key)) + d)) hl hr
      have e : updL C lv (rN C) (wN C) l key d = putK (wN C) (cols C lv key) (fun k => max (l.getD (at_ (wN C) (cols C lv key) k) 0) (minL (readL (wN C) l (cols C lv key)) + d)) (rN C) l := by
        unfold updL; rw [decide_eq_true hmd]; rfl
      rw [← e, he, hre] at h1
      omega
    · have h1 := putK_at hm (fun k => l.getD (at_ (wN C) (cols C lv key) k) 0 + d) hl hR
      have e : updL C lv (rN C) (wN C) l key d = putK (wN C) (cols C lv key) (fun k => l.getD (at_ (wN C) (cols C lv key) k) 0 + d) (rN C) l := by
        unfold updL; rw [decide_eq_false hmd]; rfl
      rw [← e, he] at h1
      omega
end Go.Proofs.YtdenbmmbeeamcaaGreat

/- Plain laws: levels of stacks that were fed, put together. -/
namespace Go.Proofs.YtdenbmmbeeamcaaGreat
set_option linter.unusedVariables false
open Go.RowKit
theorem feedK_V {C : Cfg} (hok : C.Ok) {n : Nat} (hn : (n : Int) ≤ C.bits) {us : List (Int × Int)} (hus : UpsOk us) : feedK C us n = feedV C n (shU n us) (zs (lvN C n)) := by
  unfold feedK feedV shU
  have : ∀ l : List Int, us.foldl (fun l u => lvU C n l (sh n (cutK C 0 u.1)) (cutD C.mode u.2)) l = (us.map fun u => (u.1 / 2 ^ n, u.2)).foldl (fun l u => lvU C n l (cutK C n u.1) (cutD C.mode u.2)) l := by
    induction us with
    | nil => intro l; rfl
    | cons u us ih =>
      intro l
      rw [List.foldl_cons, List.map_cons, List.foldl_cons, ih (fun v hv => hus v (by simp [hv])), cutK_sh hok hn (hus u (by simp)).1.1]
  exact this _
theorem feedK_plus {C : Cfg} (hok : C.Ok) {n : Nat} (hn : (n : Int) ≤ C.bits) (hm : isX C n = true ∨ C.mode ≠ 2) {us vs : List (Int × Int)} (hus : UpsOk us) (hvs : UpsOk vs) : plusL (feedK C us n) (feedK C vs n) = feedK C (us ++ vs) n := by
  rw [feedK_V hok hn hus, feedK_V hok hn hvs, feedK_V hok hn (us := us ++ vs) (fun u hu => by rcases List.mem_append.1 hu with h | h; exact hus u h; exact hvs u h), feedV_plus C hok n (Int.natCast_nonneg n) hm]
  unfold shU
  rw [List.map_append]
theorem plusL_comm {a b : List Int} (h : a.length = b.length) : plusL a b = plusL b a := by
  apply list_ext_getD
  · rw [plusL_len, plusL_len, h]
  · intro i hi
    rw [plusL_len] at hi
    rw [plusL_get hi, plusL_get (by omega)]; omega
theorem plusL_assoc {a b c : List Int} (h : a.length = b.length) : plusL (plusL a b) c = plusL a (plusL b c) := by
  apply list_ext_getD
  · rw [plusL_len, plusL_len, plusL_len]
  · intro i hi
    rw [plusL_len, plusL_len] at hi
    rw [plusL_get (by rw [plusL_len]; exact hi), plusL_get hi, plusL_get hi, plusL_get (by omega)]; omega
theorem plusL_bnd {A B : Int} {a b : List Int} (ha : Bnd A a) (hb : Bnd B b) (hB : 0 ≤ B) : Bnd (A + B) (plusL a b) := by
  intro x hx
  simp only [plusL, List.mem_map, List.mem_range] at hx
  obtain ⟨i, hi, rfl⟩ := hx
  have h1 := ha (a.getD i 0) (getD_mem hi)
  have h2 := hb.getD hB i
  omega
theorem minusL_bnd {A B : Int} {a b : List Int} (ha : Bnd A a) (hb : Bnd B b) (hB : 0 ≤ B) : Bnd (A + B) (minusL a b) := by
  intro x hx
  simp only [minusL, List.mem_map, List.mem_range] at hx
  obtain ⟨i, hi, rfl⟩ := hx
  have h1 := ha (a.getD i 0) (getD_mem hi)
  have h2 := hb.getD hB i
  omega
theorem Bnd.allI {A : Int} {l : List Int} (h : Bnd A l) (hA : A ≤ 9223372036854775807) : allI l := by
  intro x hx
  have := h x hx
  unfold I64; constructor <;> omega
/-- All numbers turned round. -/
def negL (l : List Int) : List Int := l.map fun x => -x
theorem negL_len (l : List Int) : (negL l).length = l.length := by simp [negL]
theorem negL_get (l : List Int) (i : Nat) : (negL l).getD i 0 = -(l.getD i 0) := by
  unfold negL
  rw [List.getD_eq_getElem?_getD, List.getD_eq_getElem?_getD, List.getElem?_map]
  cases l[i]? <;> simp
theorem negL_zs (n : Nat) : negL (zs n) = zs n := by simp [negL, zs]
theorem putK_neg (W : Nat) (cs : List Int) (f : Nat → Int) (l : List Int) : ∀ k, putK W cs (fun j => -(f j)) k (negL l) = negL (putK W cs f k l)
  | 0 => rfl
  | k + 1 => by
    rw [putK, putK, putK_neg W cs f l k]
    unfold negL
    rw [List.map_set]
theorem lvU_neg {C : Cfg} {n : Int} (hm : isX C n = true ∨ C.mode ≠ 2) (l : List Int) (key d : Int) : lvU C n (negL l) key (-d) = negL (lvU C n l key d) := by
  cases hx : isX C n with
  | true =>
    rw [lvU_x hx, lvU_x hx]
    unfold updX
    rw [negL_get]
    unfold negL
    rw [List.map_set]
    congr 1
    omega
  | false =>
    have hm' := hm.resolve_left (by rw [hx]; decide)
    rw [lvU_s hx, lvU_s hx]
    unfold updL
    rw [decide_eq_false hm']
    show putK _ _ _ _ _ = negL (putK _ _ _ _ _)
    rw [← putK_neg]
    congr 1
    funext k
    rw [negL_get]
    omega
/-- What a level has behind updates, turned round if t. -/
def feedT (C : Cfg) (t : Bool) (us : List (Int × Int)) (n : Nat) : List Int := us.foldl (fun l u => lvU C n l (sh n (cutK C 0 u.1)) (bif t then -(cutD C.mode u.2) else cutD C.mode u.2)) (zs (lvN C n))
theorem feedT_false (C : Cfg) (us : List (Int × Int)) : feedT C false us = feedK C us := rfl
theorem feedT_nil (C : Cfg) (t : Bool) : feedT C t [] = fun (n : Nat) => zs (lvN C n) := rfl
theorem feedT_snoc (C : Cfg) (t : Bool) (us : List (Int × Int)) (u : Int × Int) : feedT C t (us ++ [u]) = updK C (feedT C t us) (cutK C 0 u.1) (bif t then -(cutD C.mode u.2) else cutD C.mode u.2) := by
  funext n; unfold feedT updK; rw [List.foldl_append]; rfl
theorem feedT_bnd (C : Cfg) (t : Bool) (us : List (Int × Int)) (n : Nat) : Bnd (us.length * 1099511627776) (feedT C t us n) := by
  refine snoc_ind (P := fun us => Bnd (us.length * 1099511627776) (feedT C t us n)) ?_ ?_ us
  · exact zs_bnd _
  · intro us u ih
    rw [feedT_snoc]
    have := updK_bnd (C := C) (ls := feedT C t us) (key := cutK C 0 u.1) (d := bif t then -(cutD C.mode u.2) else cutD C.mode u.2) (n := n) ih (by omega) (show (0 : Int) ≤ 1099511627776 by decide) (by have := cutD_bd C.mode u.2; cases t <;> simp only [cond_true, cond_false] <;> omega)
    have e : ((us ++ [u]).length : Int) * 1099511627776 = us.length * 1099511627776 + 1099511627776 := by
      rw [List.length_append, List.length_singleton]; push_cast; omega
    rw [e]
    exact this
theorem feedT_len (C : Cfg) (t : Bool) (us : List (Int × Int)) (n : Nat) : (feedT C t us n).length = lvN C n := by
  refine snoc_ind (P := fun us => (feedT C t us n).length = lvN C n) ?_ ?_ us
  · rw [feedT_nil, zs_len]
  · intro us u ih
    rw [feedT_snoc]; unfold updK; rw [lvU_len, ih]
theorem feedT_ok (C : Cfg) (hok : C.Ok) {B : Nat} (hBb : C.bits = B) (t : Bool) (ht : t = true → C.mode ≠ 2) (us : List (Int × Int)) (hl : us.length ≤ 1000) (u : Int × Int) : errK C B (feedT C t us) (cutK C 0 u.1) (bif t then -(cutD C.mode u.2) else cutD C.mode u.2) = 0 := by
  have hk := cutK_bd C hok 0 u.1 (Int.le_refl 0)
  refine errK_ok hok hBb (fun n _ => feedT_bnd C t us n) (by omega) (show (0 : Int) ≤ 1099511627776 by decide) (by have := cutD_bd C.mode u.2; cases t <;> simp only [cond_true, cond_false] <;> omega) (by omega) hk.1 hk.2 (fun h => ?_)
  cases t with
  | false => exact cutD_nn h
  | true => exact absurd h (ht rfl)
theorem feedT_neg {C : Cfg} {n : Nat} (hm : isX C n = true ∨ C.mode ≠ 2) (us : List (Int × Int)) : feedT C true us n = negL (feedK C us n) := by
  refine snoc_ind (P := fun us => feedT C true us n = negL (feedK C us n)) ?_ ?_ us
  · rw [feedT_nil, feedK_nil, negL_zs]
  · intro us u ih
    rw [feedT_snoc, feedK_snoc]
    unfold updK
    rw [ih]
    exact lvU_neg hm _ _ _
theorem neg_plus {a b : List Int} (h : a.length = b.length) : plusL (negL b) a = minusL a b := by
  apply list_ext_getD
  · rw [plusL_len, minusL_len, negL_len, h]
  · intro i hi
    rw [plusL_len, negL_len] at hi
    rw [plusL_get (by rw [negL_len]; exact hi), negL_get, minusL_get (by omega)]; omega
theorem fus_cut3 (us : List (Int × Int)) {i j k : Nat} (h1 : i ≤ j) (h2 : j ≤ k) : fus us i j ++ fus us j k = fus us i k := by
  unfold fus
  have e : us.take j = (us.take k).take j := by rw [List.take_take, Nat.min_eq_left h2]
  rw [e]
  generalize us.take k = v
  have : v.drop i = (v.take j ++ v.drop j).drop i := by rw [List.take_append_drop]
  rw [this]
  by_cases hl : i ≤ (v.take j).length
  · rw [List.drop_append_of_le_length hl]
  · rw [List.length_take] at hl
    have h3 : v.length ≤ i := by omega
    rw [List.drop_eq_nil_of_le (show v.length ≤ j by omega), List.append_nil, List.append_nil]
end Go.Proofs.YtdenbmmbeeamcaaGreat

/- gaugerlaw20.fed makes a stack and feeds it, turned round or not: it never refuses. -/
namespace Go.Proofs.YtdenbmmbeeamcaaGreat
set_option linter.unusedVariables false
open Go.RowKit
def KFed20Post (w : World) (C : Cfg) (t : Bool) (us : List (Int × Int)) (i j : Nat) (e : Ending) (w' : World) : Prop :=
  ∃ (s g : Nat) (L : Nat → Lev), e = .returned (.tuple #[.pointer (some ⟨s, 0, none⟩), .agg #[.int .i64 C.bits, .int .i64 C.rows, .int .i64 C.width, .int .i64 C.mode, .int .u64 C.seed]]) ∧
    KAt w' s g C C.bits.toNat L (feedT C t (fus us i j)) ∧ w.heap.size ≤ s ∧ w.heap.size ≤ g ∧ KFresh w.heap.size C.bits.toNat L ∧ Ext w w'
set_option maxRecDepth 20000 in
set_option maxHeartbeats 4000000 in
theorem fed20f_c (x : Cfg) (hx : x.Raw) (m : Int) (hm1 : 0 ≤ m) (hm2 : m ≤ 3) (us : List (Int × Int)) (hus : UpsOk us) (v : Value) (i j : Nat) (hij : i ≤ j) (hj : j ≤ 60) (htm : false = true → (kcfg x 10 m).mode ≠ 2) (w : World) (hv : UpsAt w v us) (hul : us.length ≤ 140737488355328) :
    Calls Tryz.prog 89 #[.agg #[.int .i64 x.bits, .int .i64 x.rows, .int .i64 x.width, .int .i64 x.mode, .int .u64 x.seed, v], .int .i64 m, .int .i64 i, .int .i64 j, .bool false] w (KFed20Post w (kcfg x 10 m) false us i j) := by
  obtain ⟨vp, vc, rfl⟩ := hv.sl
  have HV := Lib.hid hv
  have hok := kcfg_ok x hx.s (nb := 10) (m := m) (by decide) (by decide) hm2
  have HTM := Lib.hid htm
  clear htm
  have hbits1 := hok.b1
  have hbits2 := hok.b2
  clear hv
  go_enter Tryz.func89, Tryz.ntmps89
  go_wp2_with fail
  refine (Any_c x hx 10 9 (by decide) (by decide) (by decide) (by decide) _).mono ?_
  rintro e w1 ⟨rfl, hb1⟩
  have hs1 := hb1.size
  simp only [size_alloc] at hs1
  have kp : w1.heap[w.heap.size]? = some (.cells #[.int .i64 x.bits, .int .i64 x.rows, .int .i64 x.width, .int .i64 x.mode, .int .u64 x.seed, .slice vp us.length vc] 128 (0, 0)) := by
    rw [hb1.block _ (by simp only [size_alloc]; omega), heap_old _ _ (by rw [size_alloc]; omega)]
    exact heap_at _ _ rfl
  have kr : w1.heap[w.heap.size + 1]? = some (.cells #[.int .i64 0, .int .i64 0, .int .i64 0, .int .i64 0, .int .u64 0] 24 (0, 0)) := by
    rw [hb1.block _ (by simp only [size_alloc]; omega)]
    exact heap_at _ _ (by simp only [size_alloc])
  have hE1 : Ext w w1 := by (repeat' (first | exact Ext.refl _ | assumption | apply Ext.allocR | apply Ext.drewR | apply Ext.drewNR | (refine Ext.trans' ?_ (by assumption))))
  clear hb1
  generalize hC : kcfg x 10 m = C at *
  generalize hA : mkC x 10 9 = A at *
  have HCA := Lib.hid (And.intro hC hA)
  clear hC hA
  go_upto_if 21 with (fail)
  go_cut [] (fun wx => wx.heap[w1.heap.size]? = some (.cells #[.int .i64 C.bits, .int .i64 C.rows, .int .i64 C.width, .int .i64 C.mode, .int .u64 C.seed] 24 (0, 0)) ∧ Ext w1 wx)
  case first =>
    have hbx := heap_at w1 (.cells #[.int .i64 A.bits, .int .i64 A.rows, .int .i64 A.width, .int .i64 A.mode, .int .u64 A.seed] 24) rfl
    by_cases hm : 0 < m
    · have hp := kcfg_pos x 10 hm
      rw [HCA.out.1, HCA.out.2] at hp
      have HP := Lib.hid hp
      have p3 := (cell_of hbx 3).trans rfl
      have f3 := frozen_of hbx 3
      clear hp
      go_wp2
      go_meet
      refine ⟨(heap_at w1 _ rfl).trans ?_, Ext.alloc' _ _⟩
      rw [← HP.out.1, ← HP.out.2.1, ← HP.out.2.2.1, ← HP.out.2.2.2.1, ← HP.out.2.2.2.2]
    · have hp := kcfg_none x 10 hm
      rw [HCA.out.1, HCA.out.2] at hp
      subst hp
      clear HCA
      go_wp2
      go_meet
      exact ⟨hbx, Ext.alloc' _ _⟩
  case rest =>
    obtain ⟨kc, hxc⟩ := hcut
    have hsc := hxc.size
    have hcl := lt_of kc
    have kp2 := hxc.keep kp
    have kr2 := hxc.keep kr
    have hEc : Ext w wc := hE1.trans' hxc
    have hCc := CfgAt.of kc
    have c0 := hCc.c0
    have c1 := hCc.c1
    have c2 := hCc.c2
    have c3 := hCc.c3
    have c4 := hCc.c4
    clear hCc HCA kp kr hE1 hxc
    go_wp2_with fail
    refine (KNew_c C hok _).mono ?_
    rintro e w2 ⟨s, g, L, rfl, hK, hs, hg, hL, hx2⟩
    obtain ⟨B, hB⟩ : ∃ B : Nat, C.bits = B := ⟨C.bits.toNat, by omega⟩
    have hBt : C.bits.toNat = B := by omega
    rw [hBt] at hK hL
    have hBd : B ≤ 59 := by omega
    have HB := Lib.hid hB
    have HBT := Lib.hid hBt
    have hE2 : Ext w w2 := hEc.trans' hx2
    have hs2 := hx2.size
    have KP := Lib.hid (hx2.keep kp2)
    have KR := Lib.hid (hx2.keep kr2)
    have KC := Lib.hid (hx2.keep kc)
    have hF : KFresh wc.heap.size B L := hL
    have hnc : ∀ k, k < wc.heap.size → ¬ cellsOf B L k := fun k hk hc => by obtain ⟨n, hn, rfl⟩ := hc; have := (hF n hn).2.2; omega
    clear hx2 c0 c1 c2 c3 c4 hL hB hBt kp2 kr2 kc
    go_wp2
    have hM0 : Mod (cellsOf B L) w2 w2 := Mod.refl _ _
    have hK0 : KAt w2 s g C B L (feedT C false (fus us i i)) := by rw [fus_self]; exact hK
    clear hK
    go_loopw [15] (fun u wr => ∃ k : Nat, i ≤ k ∧ (k = i ∨ (k ≤ j ∧ k ≤ us.length)) ∧ u = .int .i64 k ∧ Mod (cellsOf B L) w2 wr ∧ KAt wr s g C B L (feedT C false (fus us i k))) (fun u _ => j - (intOf u).toNat)
    case atStart => exact ⟨i, Nat.le_refl _, .inl rfl, rfl, hM0, hK0⟩
    case round =>
      clear hM0 hK0
      obtain ⟨k, hik, hkj, rfl, hM, hK⟩ := hrel
      have hMs := hM.size
      have hsz1 := hEc.size
      have qp := hM.keep KP.out (hnc _ (by omega))
      have qc := hM.keep KC.out (hnc _ hcl)
      have q5 := (cell_of qp 5).trans rfl
      have lp := lt_of qp
      have lc := lt_of qc
      have hCq := CfgAt.of qc
      have c0 := hCq.c0
      have c1 := hCq.c1
      have c2 := hCq.c2
      have c3 := hCq.c3
      have c4 := hCq.c4
      clear hCq
      by_cases hgo : k < us.length ∧ k < j
      · obtain ⟨hg1, hg2⟩ := hgo
        have hkj60 : k < 60 := by omega
        obtain ⟨ug, off, rfl, hul0, d0', d1'⟩ := HV.out.one hg1
        have hnu : ¬ cellsOf B L ug := hnc _ (by omega)
        have d0 := (mcell hM (b := ug) (by omega) hnu (off + k * 2)).trans (((bcell hE2).1 _ _ hul0).trans d0')
        have d1 := (mcell hM (b := ug) (by omega) hnu (off + k * 2 + 1)).trans (((bcell hE2).1 _ _ hul0).trans d1')
        have hgl2 : ug < wr.heap.size := by omega
        have hf := fus_snoc us hik hg1
        have hu := hus _ (List.getElem_mem hg1)
        have hget : us.getD k (0, 0) = us[k] := by simp [hg1]
        rw [hget] at hf
        generalize us[k] = uu at *
        obtain ⟨uk, ud⟩ := uu
        have HF := Lib.hid hf
        clear hf hget d0' d1'
        have herr := feedT_ok C hok HB.out false (fun h => HTM.out (by first | exact h | trivial)) (fus us i k) (by have := fus_len us i k; omega) (uk, ud)
        have HERR := Lib.hid herr
        have HQ := Lib.hid qp
        have HK := Lib.hid hK
        clear herr qp qc hK
        go_upto_region 10 with (fail)
        go_cut [16] (fun s16 wx => ∃ bu : Nat, s16 = .pointer (some ⟨bu, 0, none⟩) ∧ wx.heap[bu]? = some (.cells #[.int .u64 (cutK C 0 uk), .int .i64 (cutD C.mode ud)] 60 (0, 0)) ∧ Ext wr wx ∧ wr.heap.size ≤ bu)
        case first =>
          have hC0 := af_drew wr
          refine pi_start (fun w' => ∃ x : After wr, w' = x.w) [] (by kernel_rfl) ?_
          refine pi_c 0 (by assumption) rfl (by kernel_rfl) (by kernel_rfl) (fun _ _ _ _ h => h) (fun K hK => ?_)
          go_big_quiet_op
          refine hK _ ?_
          clear hK K
          refine pi_t 1 rfl (by kernel_rfl) (by kernel_rfl) (fun _ _ _ _ h => h) (fun K hK => ?_)
          go_big_quiet_op
          refine hK _ ?_
          clear hK K
          refine pi_c 2 (by assumption) rfl (by kernel_rfl) (by kernel_rfl) (fun _ _ _ _ h => h) (fun K hK => ?_)
          go_big_quiet_op
          refine hK _ ?_
          clear hK K
          refine pi_t 3 rfl (by kernel_rfl) (by kernel_rfl) (fun _ _ _ _ h => h) (fun K hK => ?_)
          go_big_quiet_op
          refine hK _ ?_
          clear hK K
          refine pi_t 4 rfl (by kernel_rfl) (by kernel_rfl) (fun _ _ _ _ h => h) (fun K hK => ?_)
          go_big_quiet_op
          refine hK _ ?_
          clear hK K
          refine pi_c 5 (by assumption) rfl (by kernel_rfl) (by kernel_rfl) (fun _ _ _ _ h => h) (fun K hK => ?_)
          go_big_quiet_op
          refine hK _ ?_
          clear hK K
          refine pi_b 6 7 rfl rfl (by kernel_rfl) (fun K hK => ?_) (fun K hK => ?_)
          · go_wp2_with (go_at_call 68; refine (Cut15_c C hok uk ud hu.1 hu.2 _).mono ?_; rintro e w3 ⟨rfl, hx3⟩)
            have hx3' : Ext wr w3 := Ext.trans' (Below.drew (Ext.refl wr)) hx3
            have hs3 := hx3'.size
            refine hK _ _ (fun _ h => af_step h hx3) ?_
            clear hK K
            refine pi_l 7 rfl (by kernel_rfl) (fun K hK => ?_)
            go_wp2
            refine hK _ _ (fun _ h => af_step h (Ext.alloc' _ _)) ?_
            clear hK K
            refine pi_l 8 rfl (by kernel_rfl) (fun K hK => ?_)
            go_wp2
            refine hK _ _ (fun _ _ => ⟨⟨_, hx3'.allocR _⟩, rfl⟩) ?_
            clear hK K
            refine pi_end (by kernel_rfl) ?_
            go_wp2_with fail
            go_meet
            exact ⟨w3.heap.size, rfl, heap_at _ _ rfl, hx3'.allocR _, hs3⟩
          · go_wp2
            refine hK _ _ (fun _ h => af_step h (Ext.alloc' _ _)) ?_
            clear hK K
            refine pi_l 6 rfl (by kernel_rfl) (fun K hK => ?_)
            go_wp2_with (go_at_call 68; refine (Cut15_c C hok uk ud hu.1 hu.2 _).mono ?_; rintro e w3 ⟨rfl, hx3⟩)
            refine hK _ _ (fun _ h => af_step h hx3) ?_
            clear hK K
            have hs3 : (wr.alloc (.cells #[.int .u64 0, .int .i64 0] 60)).heap.size ≤ w3.heap.size := hx3.size
            rw [size_alloc] at hs3
            have hx3' : Ext wr w3 := Ext.trans' (Ext.alloc' wr _) (Ext.trans' (Below.drew (Ext.refl _)) hx3)
            have hbx : w3.heap[wr.heap.size]? = some (.cells #[.int .u64 0, .int .i64 0] 60 (0, 0)) := by
              rw [hx3.block _ (by show _ < (wr.alloc _).heap.size; rw [size_alloc]; exact Nat.lt_succ_self _)]
              exact heap_at wr _ rfl
            have p0 := (cell_of hbx 0).trans rfl
            have p1 := (cell_of hbx 1).trans rfl
            have f0 := frozen_of hbx 0
            have f1 := frozen_of hbx 1
            refine pi_l 8 rfl (by kernel_rfl) (fun K hK => ?_)
            go_wp2
            refine hK _ _ (fun _ _ => ⟨⟨_, (hx3'.setR (Nat.le_refl _) _).setR (Nat.le_refl _) _⟩, rfl⟩) ?_
            clear hK K
            refine pi_end (by kernel_rfl) ?_
            go_wp2_with fail
            go_meet
            exact ⟨wr.heap.size, rfl, set2 hbx _ _, (hx3'.setR (Nat.le_refl _) _).setR (Nat.le_refl _) _, Nat.le_refl _⟩
        case rest =>
          obtain ⟨bu, rfl, hbu, hxw, hbul⟩ := hcut
          have b0 := (cell_of hbu 0).trans rfl
          have b1 := (cell_of hbu 1).trans rfl
          have hdI : I64 (cutD C.mode ud) := by have := cutD_bd C.mode ud; unfold I64; omega
          have hkU : U64 (cutK C 0 uk) := by have := cutK_bd C hok 0 uk (Int.le_refl 0); have := keys_bd C hok 0 (Int.le_refl 0); unfold U64; omega
          have hdb := cutD_bd C.mode ud
          have l5 := lt_of hbu
          have f1 := frozen_of hbu 1
          have hkg : k < 60 := hkj60
          have hx5 : ∀ u, Ext wr (wc.setCell ⟨bu, 1, none⟩ u) := fun u => hxw.setR (p := ⟨bu, 1, none⟩) hbul u
          have HX5 := Lib.hid hx5
          have herr2 := HERR.out
          simp only [cond_false] at herr2
          have HE2 := Lib.hid herr2
          have HSN := Lib.hid (feedT_snoc C false (fus us i k) (uk, ud))
          clear c0 c1 c2 c3 c4 q5 d0 d1 hx5 herr2 HERR hbu
          go_wp2_with fail
          refine Calls.mono (KUpdate_c s g C B L _ _ _ _ (HK.out.ext hxw) hdI hkU) ?_
          rintro e w4 ⟨rfl, hK4, hM4⟩
          rw [HE2.out] at hK4 ⊢
          go_wp2
          go_roundw
          case rel =>
            refine ⟨k + 1, by omega, .inr ⟨by omega, by omega⟩, by go_num, hM.trans ((hxw.mod _).trans hM4), ?_⟩
            rw [HF.out, HSN.out]
            exact hK4
          case measure => simp [intOf]; omega
      · have hfe := fus_end us hij hik hkj hgo
        have HFE := Lib.hid hfe
        have qr := hM.keep KR.out (hnc _ (by omega))
        have p0 := (cell_of qr 0).trans rfl
        have p1 := (cell_of qr 1).trans rfl
        have p2 := (cell_of qr 2).trans rfl
        have p3 := (cell_of qr 3).trans rfl
        have p4 := (cell_of qr 4).trans rfl
        have f0 := frozen_of qr 0
        have f1 := frozen_of qr 1
        have f2 := frozen_of qr 2
        have f3 := frozen_of qr 3
        have f4 := frozen_of qr 4
        clear hfe
        have hEr : Ext w wr := Below.trans hE2 (hM.below (B := w.heap.size) (by omega) (fun k hk => by obtain ⟨n, hn, rfl⟩ := hk; have := (hF n hn).2.2; omega))
        have hend : ∀ Wf : World, Ext w Wf → (∀ j, j ≠ w.heap.size + 1 → Wf.heap[j]? = wr.heap[j]?) → KFed20Post w C false us i j (.returned (.tuple #[.pointer (some ⟨s, 0, none⟩), .agg #[.int .i64 C.bits, .int .i64 C.rows, .int .i64 C.width, .int .i64 C.mode, .int .u64 C.seed]])) Wf := by
          intro Wf hEf hof
          refine ⟨s, g, L, rfl, ?_, by omega, by omega, fun n hn => ?_, hEf⟩
          · rw [HBT.out, ← HFE.out]
            have hlo : ∀ k, k ≠ w.heap.size + 1 → Wf.heap[k]? = wr.heap[k]? := hof
            refine ⟨by rw [hlo s (by omega)]; exact hK.ex, by rw [hlo g (by omega)]; exact hK.row, fun n hn => (hK.lev n hn).keep (hlo _ ?_) (hlo _ ?_) (hlo _ ?_), hK.sep, hK.ok, hK.hB⟩
            all_goals
              have := hF n hn
              omega
          · have := hF n (by rw [HBT.out] at hn; exact hn)
            omega
        have HEND := Lib.hid hend
        have HK := Lib.hid hK
        clear hend hK
        by_cases hg1 : k < us.length
        · have hg2 : ¬ k < j := fun h => hgo ⟨hg1, h⟩
          go_wp2
          have hC0 := af_drew wr
          refine pi_start (fun w' => ∃ x : After wr, w' = x.w) [3] (by kernel_rfl) ?_
          refine pi_t 0 rfl (by kernel_rfl) (by kernel_rfl) (fun _ _ _ _ h => h) (fun K hK => ?_)
          go_big_quiet_op
          refine hK _ ?_
          clear hK K
          refine pi_c 1 (by assumption) rfl (by kernel_rfl) (by kernel_rfl) (fun _ _ _ _ h => h) (fun K hK => ?_)
          go_big_quiet_op
          refine hK _ ?_
          clear hK K
          refine pi_t 2 rfl (by kernel_rfl) (by kernel_rfl) (fun _ _ _ _ h => h) (fun K hK => ?_)
          go_big_quiet_op
          refine hK _ ?_
          clear hK K
          refine pi_l 3 rfl (by kernel_rfl) (fun K hK => ?_)
          go_wp2
          refine hK _ _ (by simp) ?_
          clear hK K
          refine pi_end (by kernel_rfl) ?_
          go_wp2_with fail
          refine fin5 (Φ := fun W' => bodyPost _ _ _ _ _ W'.drew) (w := w) (W := wr) qr hEr (by omega) ?_
          intro Wf hf hE5 hof _
          have q0 := (cell_of hf 0).trans rfl
          have q1 := (cell_of hf 1).trans rfl
          have q2 := (cell_of hf 2).trans rfl
          have q3 := (cell_of hf 3).trans rfl
          have q4 := (cell_of hf 4).trans rfl
          exact bodyPost_ret (v := .tuple #[.pointer (some ⟨s, 0, none⟩), .agg #[.int .i64 C.bits, .int .i64 C.rows, .int .i64 C.width, .int .i64 C.mode, .int .u64 C.seed]]) (by simp [results, Tryz.results89, go_sem, q0, q1, q2, q3, q4]) rfl (HEND.out _ (Below.drew hE5) hof)
        · go_wp2
          have hC0 := af_drew wr
          refine pi_start (fun w' => ∃ x : After wr, w' = x.w) [3] (by kernel_rfl) ?_
          refine pi_t 0 rfl (by kernel_rfl) (by kernel_rfl) (fun _ _ _ _ h => h) (fun K hK => ?_)
          go_big_quiet_op
          refine hK _ ?_
          clear hK K
          refine pi_c 1 (by assumption) rfl (by kernel_rfl) (by kernel_rfl) (fun _ _ _ _ h => h) (fun K hK => ?_)
          go_big_quiet_op
          refine hK _ ?_
          clear hK K
          refine pi_t 2 rfl (by kernel_rfl) (by kernel_rfl) (fun _ _ _ _ h => h) (fun K hK => ?_)
          go_big_quiet_op
          refine hK _ ?_
          clear hK K
          refine pi_l 3 rfl (by kernel_rfl) (fun K hK => ?_)
          go_wp2
          refine hK _ _ (by simp) ?_
          clear hK K
          refine pi_end (by kernel_rfl) ?_
          go_wp2_with fail
          refine fin5 (Φ := fun W' => bodyPost _ _ _ _ _ W'.drew) (w := w) (W := wr) qr hEr (by omega) ?_
          intro Wf hf hE5 hof _
          have q0 := (cell_of hf 0).trans rfl
          have q1 := (cell_of hf 1).trans rfl
          have q2 := (cell_of hf 2).trans rfl
          have q3 := (cell_of hf 3).trans rfl
          have q4 := (cell_of hf 4).trans rfl
          exact bodyPost_ret (v := .tuple #[.pointer (some ⟨s, 0, none⟩), .agg #[.int .i64 C.bits, .int .i64 C.rows, .int .i64 C.width, .int .i64 C.mode, .int .u64 C.seed]]) (by simp [results, Tryz.results89, go_sem, q0, q1, q2, q3, q4]) rfl (HEND.out _ (Below.drew hE5) hof)
set_option maxRecDepth 20000 in
set_option maxHeartbeats 4000000 in
theorem fed20t_c (x : Cfg) (hx : x.Raw) (m : Int) (hm1 : 0 ≤ m) (hm2 : m ≤ 3) (us : List (Int × Int)) (hus : UpsOk us) (v : Value) (i j : Nat) (hij : i ≤ j) (hj : j ≤ 60) (htm : true = true → (kcfg x 10 m).mode ≠ 2) (w : World) (hv : UpsAt w v us) (hul : us.length ≤ 140737488355328) :
    Calls Tryz.prog 89 #[.agg #[.int .i64 x.bits, .int .i64 x.rows, .int .i64 x.width, .int .i64 x.mode, .int .u64 x.seed, v], .int .i64 m, .int .i64 i, .int .i64 j, .bool true] w (KFed20Post w (kcfg x 10 m) true us i j) := by
  obtain ⟨vp, vc, rfl⟩ := hv.sl
  have HV := Lib.hid hv
  have hok := kcfg_ok x hx.s (nb := 10) (m := m) (by decide) (by decide) hm2
  have HTM := Lib.hid htm
  clear htm
  have hbits1 := hok.b1
  have hbits2 := hok.b2
  clear hv
  go_enter Tryz.func89, Tryz.ntmps89
  go_wp2_with fail
  refine (Any_c x hx 10 9 (by decide) (by decide) (by decide) (by decide) _).mono ?_
  rintro e w1 ⟨rfl, hb1⟩
  have hs1 := hb1.size
  simp only [size_alloc] at hs1
  have kp : w1.heap[w.heap.size]? = some (.cells #[.int .i64 x.bits, .int .i64 x.rows, .int .i64 x.width, .int .i64 x.mode, .int .u64 x.seed, .slice vp us.length vc] 128 (0, 0)) := by
    rw [hb1.block _ (by simp only [size_alloc]; omega), heap_old _ _ (by rw [size_alloc]; omega)]
    exact heap_at _ _ rfl
  have kr : w1.heap[w.heap.size + 1]? = some (.cells #[.int .i64 0, .int .i64 0, .int .i64 0, .int .i64 0, .int .u64 0] 24 (0, 0)) := by
    rw [hb1.block _ (by simp only [size_alloc]; omega)]
    exact heap_at _ _ (by simp only [size_alloc])
  have hE1 : Ext w w1 := by (repeat' (first | exact Ext.refl _ | assumption | apply Ext.allocR | apply Ext.drewR | apply Ext.drewNR | (refine Ext.trans' ?_ (by assumption))))
  clear hb1
  generalize hC : kcfg x 10 m = C at *
  generalize hA : mkC x 10 9 = A at *
  have HCA := Lib.hid (And.intro hC hA)
  clear hC hA
  go_upto_if 21 with (fail)
  go_cut [] (fun wx => wx.heap[w1.heap.size]? = some (.cells #[.int .i64 C.bits, .int .i64 C.rows, .int .i64 C.width, .int .i64 C.mode, .int .u64 C.seed] 24 (0, 0)) ∧ Ext w1 wx)
  case first =>
    have hbx := heap_at w1 (.cells #[.int .i64 A.bits, .int .i64 A.rows, .int .i64 A.width, .int .i64 A.mode, .int .u64 A.seed] 24) rfl
    by_cases hm : 0 < m
    · have hp := kcfg_pos x 10 hm
      rw [HCA.out.1, HCA.out.2] at hp
      have HP := Lib.hid hp
      have p3 := (cell_of hbx 3).trans rfl
      have f3 := frozen_of hbx 3
      clear hp
      go_wp2
      go_meet
      refine ⟨(heap_at w1 _ rfl).trans ?_, Ext.alloc' _ _⟩
      rw [← HP.out.1, ← HP.out.2.1, ← HP.out.2.2.1, ← HP.out.2.2.2.1, ← HP.out.2.2.2.2]
    · have hp := kcfg_none x 10 hm
      rw [HCA.out.1, HCA.out.2] at hp
      subst hp
      clear HCA
      go_wp2
      go_meet
      exact ⟨hbx, Ext.alloc' _ _⟩
  case rest =>
    obtain ⟨kc, hxc⟩ := hcut
    have hsc := hxc.size
    have hcl := lt_of kc
    have kp2 := hxc.keep kp
    have kr2 := hxc.keep kr
    have hEc : Ext w wc := hE1.trans' hxc
    have hCc := CfgAt.of kc
    have c0 := hCc.c0
    have c1 := hCc.c1
    have c2 := hCc.c2
    have c3 := hCc.c3
    have c4 := hCc.c4
    clear hCc HCA kp kr hE1 hxc
    go_wp2_with fail
    refine (KNew_c C hok _).mono ?_
    rintro e w2 ⟨s, g, L, rfl, hK, hs, hg, hL, hx2⟩
    obtain ⟨B, hB⟩ : ∃ B : Nat, C.bits = B := ⟨C.bits.toNat, by omega⟩
    have hBt : C.bits.toNat = B := by omega
    rw [hBt] at hK hL
    have hBd : B ≤ 59 := by omega
    have HB := Lib.hid hB
    have HBT := Lib.hid hBt
    have hE2 : Ext w w2 := hEc.trans' hx2
    have hs2 := hx2.size
    have KP := Lib.hid (hx2.keep kp2)
    have KR := Lib.hid (hx2.keep kr2)
    have KC := Lib.hid (hx2.keep kc)
    have hF : KFresh wc.heap.size B L := hL
    have hnc : ∀ k, k < wc.heap.size → ¬ cellsOf B L k := fun k hk hc => by obtain ⟨n, hn, rfl⟩ := hc; have := (hF n hn).2.2; omega
    clear hx2 c0 c1 c2 c3 c4 hL hB hBt kp2 kr2 kc
    go_wp2
    have hM0 : Mod (cellsOf B L) w2 w2 := Mod.refl _ _
    have hK0 : KAt w2 s g C B L (feedT C true (fus us i i)) := by rw [fus_self]; exact hK
    clear hK
    go_loopw [15] (fun u wr => ∃ k : Nat, i ≤ k ∧ (k = i ∨ (k ≤ j ∧ k ≤ us.length)) ∧ u = .int .i64 k ∧ Mod (cellsOf B L) w2 wr ∧ KAt wr s g C B L (feedT C true (fus us i k))) (fun u _ => j - (intOf u).toNat)
    case atStart => exact ⟨i, Nat.le_refl _, .inl rfl, rfl, hM0, hK0⟩
    case round =>
      clear hM0 hK0
      obtain ⟨k, hik, hkj, rfl, hM, hK⟩ := hrel
      have hMs := hM.size
      have hsz1 := hEc.size
      have qp := hM.keep KP.out (hnc _ (by omega))
      have qc := hM.keep KC.out (hnc _ hcl)
      have q5 := (cell_of qp 5).trans rfl
      have lp := lt_of qp
      have lc := lt_of qc
      have hCq := CfgAt.of qc
      have c0 := hCq.c0
      have c1 := hCq.c1
      have c2 := hCq.c2
      have c3 := hCq.c3
      have c4 := hCq.c4
      clear hCq
      by_cases hgo : k < us.length ∧ k < j
      · obtain ⟨hg1, hg2⟩ := hgo
        have hkj60 : k < 60 := by omega
        obtain ⟨ug, off, rfl, hul0, d0', d1'⟩ := HV.out.one hg1
        have hnu : ¬ cellsOf B L ug := hnc _ (by omega)
        have d0 := (mcell hM (b := ug) (by omega) hnu (off + k * 2)).trans (((bcell hE2).1 _ _ hul0).trans d0')
        have d1 := (mcell hM (b := ug) (by omega) hnu (off + k * 2 + 1)).trans (((bcell hE2).1 _ _ hul0).trans d1')
        have hgl2 : ug < wr.heap.size := by omega
        have hf := fus_snoc us hik hg1
        have hu := hus _ (List.getElem_mem hg1)
        have hget : us.getD k (0, 0) = us[k] := by simp [hg1]
        rw [hget] at hf
        generalize us[k] = uu at *
        obtain ⟨uk, ud⟩ := uu
        have HF := Lib.hid hf
        clear hf hget d0' d1'
        have herr := feedT_ok C hok HB.out true (fun h => HTM.out (by first | exact h | trivial)) (fus us i k) (by have := fus_len us i k; omega) (uk, ud)
        have HERR := Lib.hid herr
        have HQ := Lib.hid qp
        have HK := Lib.hid hK
        clear herr qp qc hK
        go_upto_region 10 with (fail)
        go_cut [16] (fun s16 wx => ∃ bu : Nat, s16 = .pointer (some ⟨bu, 0, none⟩) ∧ wx.heap[bu]? = some (.cells #[.int .u64 (cutK C 0 uk), .int .i64 (cutD C.mode ud)] 60 (0, 0)) ∧ Ext wr wx ∧ wr.heap.size ≤ bu)
        case first =>
          have hC0 := af_drew wr
          refine pi_start (fun w' => ∃ x : After wr, w' = x.w) [] (by kernel_rfl) ?_
          refine pi_c 0 (by assumption) rfl (by kernel_rfl) (by kernel_rfl) (fun _ _ _ _ h => h) (fun K hK => ?_)
          go_big_quiet_op
          refine hK _ ?_
          clear hK K
          refine pi_t 1 rfl (by kernel_rfl) (by kernel_rfl) (fun _ _ _ _ h => h) (fun K hK => ?_)
          go_big_quiet_op
          refine hK _ ?_
          clear hK K
          refine pi_c 2 (by assumption) rfl (by kernel_rfl) (by kernel_rfl) (fun _ _ _ _ h => h) (fun K hK => ?_)
          go_big_quiet_op
          refine hK _ ?_
          clear hK K
          refine pi_t 3 rfl (by kernel_rfl) (by kernel_rfl) (fun _ _ _ _ h => h) (fun K hK => ?_)
          go_big_quiet_op
          refine hK _ ?_
          clear hK K
          refine pi_t 4 rfl (by kernel_rfl) (by kernel_rfl) (fun _ _ _ _ h => h) (fun K hK => ?_)
          go_big_quiet_op
          refine hK _ ?_
          clear hK K
          refine pi_c 5 (by assumption) rfl (by kernel_rfl) (by kernel_rfl) (fun _ _ _ _ h => h) (fun K hK => ?_)
          go_big_quiet_op
          refine hK _ ?_
          clear hK K
          refine pi_b 6 7 rfl rfl (by kernel_rfl) (fun K hK => ?_) (fun K hK => ?_)
          · go_wp2_with (go_at_call 68; refine (Cut15_c C hok uk ud hu.1 hu.2 _).mono ?_; rintro e w3 ⟨rfl, hx3⟩)
            have hx3' : Ext wr w3 := Ext.trans' (Below.drew (Ext.refl wr)) hx3
            have hs3 := hx3'.size
            refine hK _ _ (fun _ h => af_step h hx3) ?_
            clear hK K
            refine pi_l 7 rfl (by kernel_rfl) (fun K hK => ?_)
            go_wp2
            refine hK _ _ (fun _ h => af_step h (Ext.alloc' _ _)) ?_
            clear hK K
            refine pi_l 8 rfl (by kernel_rfl) (fun K hK => ?_)
            go_wp2
            refine hK _ _ (fun _ _ => ⟨⟨_, hx3'.allocR _⟩, rfl⟩) ?_
            clear hK K
            refine pi_end (by kernel_rfl) ?_
            go_wp2_with fail
            go_meet
            exact ⟨w3.heap.size, rfl, heap_at _ _ rfl, hx3'.allocR _, hs3⟩
          · go_wp2
            refine hK _ _ (fun _ h => af_step h (Ext.alloc' _ _)) ?_
            clear hK K
            refine pi_l 6 rfl (by kernel_rfl) (fun K hK => ?_)
            go_wp2_with (go_at_call 68; refine (Cut15_c C hok uk ud hu.1 hu.2 _).mono ?_; rintro e w3 ⟨rfl, hx3⟩)
            refine hK _ _ (fun _ h => af_step h hx3) ?_
            clear hK K
            have hs3 : (wr.alloc (.cells #[.int .u64 0, .int .i64 0] 60)).heap.size ≤ w3.heap.size := hx3.size
            rw [size_alloc] at hs3
            have hx3' : Ext wr w3 := Ext.trans' (Ext.alloc' wr _) (Ext.trans' (Below.drew (Ext.refl _)) hx3)
            have hbx : w3.heap[wr.heap.size]? = some (.cells #[.int .u64 0, .int .i64 0] 60 (0, 0)) := by
              rw [hx3.block _ (by show _ < (wr.alloc _).heap.size; rw [size_alloc]; exact Nat.lt_succ_self _)]
              exact heap_at wr _ rfl
            have p0 := (cell_of hbx 0).trans rfl
            have p1 := (cell_of hbx 1).trans rfl
            have f0 := frozen_of hbx 0
            have f1 := frozen_of hbx 1
            refine pi_l 8 rfl (by kernel_rfl) (fun K hK => ?_)
            go_wp2
            refine hK _ _ (fun _ _ => ⟨⟨_, (hx3'.setR (Nat.le_refl _) _).setR (Nat.le_refl _) _⟩, rfl⟩) ?_
            clear hK K
            refine pi_end (by kernel_rfl) ?_
            go_wp2_with fail
            go_meet
            exact ⟨wr.heap.size, rfl, set2 hbx _ _, (hx3'.setR (Nat.le_refl _) _).setR (Nat.le_refl _) _, Nat.le_refl _⟩
        case rest =>
          obtain ⟨bu, rfl, hbu, hxw, hbul⟩ := hcut
          have b0 := (cell_of hbu 0).trans rfl
          have b1 := (cell_of hbu 1).trans rfl
          have hdI : I64 (cutD C.mode ud) := by have := cutD_bd C.mode ud; unfold I64; omega
          have hkU : U64 (cutK C 0 uk) := by have := cutK_bd C hok 0 uk (Int.le_refl 0); have := keys_bd C hok 0 (Int.le_refl 0); unfold U64; omega
          have hdb := cutD_bd C.mode ud
          have l5 := lt_of hbu
          have f1 := frozen_of hbu 1
          have hkg : k < 60 := hkj60
          have hx5 : ∀ u, Ext wr (wc.setCell ⟨bu, 1, none⟩ u) := fun u => hxw.setR (p := ⟨bu, 1, none⟩) hbul u
          have HX5 := Lib.hid hx5
          have herr2 := HERR.out
          have hdI2 : I64 (-(cutD C.mode ud)) := by unfold I64; omega
          have hwn : IntKind.wrap .i64 (-(cutD C.mode ud)) = -(cutD C.mode ud) := by rw [IntKind.wrap_i64]; omega
          simp only [cond_true] at herr2
          have HE2 := Lib.hid herr2
          have HSN := Lib.hid (feedT_snoc C true (fus us i k) (uk, ud))
          clear c0 c1 c2 c3 c4 q5 d0 d1 hx5 herr2 HERR hbu
          go_wp2_with fail
          refine Calls.mono (KUpdate_c s g C B L _ _ _ _ (HK.out.ext (HX5.out _)) hdI2 hkU) ?_
          rintro e w4 ⟨rfl, hK4, hM4⟩
          rw [HE2.out] at hK4 ⊢
          go_wp2
          go_roundw
          case rel =>
            refine ⟨k + 1, by omega, .inr ⟨by omega, by omega⟩, by go_num, hM.trans (((HX5.out _).mod _).trans hM4), ?_⟩
            rw [HF.out, HSN.out]
            exact hK4
          case measure => simp [intOf]; omega
      · have hfe := fus_end us hij hik hkj hgo
        have HFE := Lib.hid hfe
        have qr := hM.keep KR.out (hnc _ (by omega))
        have p0 := (cell_of qr 0).trans rfl
        have p1 := (cell_of qr 1).trans rfl
        have p2 := (cell_of qr 2).trans rfl
        have p3 := (cell_of qr 3).trans rfl
        have p4 := (cell_of qr 4).trans rfl
        have f0 := frozen_of qr 0
        have f1 := frozen_of qr 1
        have f2 := frozen_of qr 2
        have f3 := frozen_of qr 3
        have f4 := frozen_of qr 4
        clear hfe
        have hEr : Ext w wr := Below.trans hE2 (hM.below (B := w.heap.size) (by omega) (fun k hk => by obtain ⟨n, hn, rfl⟩ := hk; have := (hF n hn).2.2; omega))
        have hend : ∀ Wf : World, Ext w Wf → (∀ j, j ≠ w.heap.size + 1 → Wf.heap[j]? = wr.heap[j]?) → KFed20Post w C true us i j (.returned (.tuple #[.pointer (some ⟨s, 0, none⟩), .agg #[.int .i64 C.bits, .int .i64 C.rows, .int .i64 C.width, .int .i64 C.mode, .int .u64 C.seed]])) Wf := by
          intro Wf hEf hof
          refine ⟨s, g, L, rfl, ?_, by omega, by omega, fun n hn => ?_, hEf⟩
          · rw [HBT.out, ← HFE.out]
            have hlo : ∀ k, k ≠ w.heap.size + 1 → Wf.heap[k]? = wr.heap[k]? := hof
            refine ⟨by rw [hlo s (by omega)]; exact hK.ex, by rw [hlo g (by omega)]; exact hK.row, fun n hn => (hK.lev n hn).keep (hlo _ ?_) (hlo _ ?_) (hlo _ ?_), hK.sep, hK.ok, hK.hB⟩
            all_goals
              have := hF n hn
              omega
          · have := hF n (by rw [HBT.out] at hn; exact hn)
            omega
        have HEND := Lib.hid hend
        have HK := Lib.hid hK
        clear hend hK
        by_cases hg1 : k < us.length
        · have hg2 : ¬ k < j := fun h => hgo ⟨hg1, h⟩
          go_wp2
          have hC0 := af_drew wr
          refine pi_start (fun w' => ∃ x : After wr, w' = x.w) [3] (by kernel_rfl) ?_
          refine pi_t 0 rfl (by kernel_rfl) (by kernel_rfl) (fun _ _ _ _ h => h) (fun K hK => ?_)
          go_big_quiet_op
          refine hK _ ?_
          clear hK K
          refine pi_c 1 (by assumption) rfl (by kernel_rfl) (by kernel_rfl) (fun _ _ _ _ h => h) (fun K hK => ?_)
          go_big_quiet_op
          refine hK _ ?_
          clear hK K
          refine pi_t 2 rfl (by kernel_rfl) (by kernel_rfl) (fun _ _ _ _ h => h) (fun K hK => ?_)
          go_big_quiet_op
          refine hK _ ?_
          clear hK K
          refine pi_l 3 rfl (by kernel_rfl) (fun K hK => ?_)
          go_wp2
          refine hK _ _ (by simp) ?_
          clear hK K
          refine pi_end (by kernel_rfl) ?_
          go_wp2_with fail
          refine fin5 (Φ := fun W' => bodyPost _ _ _ _ _ W'.drew) (w := w) (W := wr) qr hEr (by omega) ?_
          intro Wf hf hE5 hof _
          have q0 := (cell_of hf 0).trans rfl
          have q1 := (cell_of hf 1).trans rfl
          have q2 := (cell_of hf 2).trans rfl
          have q3 := (cell_of hf 3).trans rfl
          have q4 := (cell_of hf 4).trans rfl
          exact bodyPost_ret (v := .tuple #[.pointer (some ⟨s, 0, none⟩), .agg #[.int .i64 C.bits, .int .i64 C.rows, .int .i64 C.width, .int .i64 C.mode, .int .u64 C.seed]]) (by simp [results, Tryz.results89, go_sem, q0, q1, q2, q3, q4]) rfl (HEND.out _ (Below.drew hE5) hof)
        · go_wp2
          have hC0 := af_drew wr
          refine pi_start (fun w' => ∃ x : After wr, w' = x.w) [3] (by kernel_rfl) ?_
          refine pi_t 0 rfl (by kernel_rfl) (by kernel_rfl) (fun _ _ _ _ h => h) (fun K hK => ?_)
          go_big_quiet_op
          refine hK _ ?_
          clear hK K
          refine pi_c 1 (by assumption) rfl (by kernel_rfl) (by kernel_rfl) (fun _ _ _ _ h => h) (fun K hK => ?_)
          go_big_quiet_op
          refine hK _ ?_
          clear hK K
          refine pi_t 2 rfl (by kernel_rfl) (by kernel_rfl) (fun _ _ _ _ h => h) (fun K hK => ?_)
          go_big_quiet_op
          refine hK _ ?_
          clear hK K
          refine pi_l 3 rfl (by kernel_rfl) (fun K hK => ?_)
          go_wp2
          refine hK _ _ (by simp) ?_
          clear hK K
          refine pi_end (by kernel_rfl) ?_
          go_wp2_with fail
          refine fin5 (Φ := fun W' => bodyPost _ _ _ _ _ W'.drew) (w := w) (W := wr) qr hEr (by omega) ?_
          intro Wf hf hE5 hof _
          have q0 := (cell_of hf 0).trans rfl
          have q1 := (cell_of hf 1).trans rfl
          have q2 := (cell_of hf 2).trans rfl
          have q3 := (cell_of hf 3).trans rfl
          have q4 := (cell_of hf 4).trans rfl
          exact bodyPost_ret (v := .tuple #[.pointer (some ⟨s, 0, none⟩), .agg #[.int .i64 C.bits, .int .i64 C.rows, .int .i64 C.width, .int .i64 C.mode, .int .u64 C.seed]]) (by simp [results, Tryz.results89, go_sem, q0, q1, q2, q3, q4]) rfl (HEND.out _ (Below.drew hE5) hof)
end Go.Proofs.YtdenbmmbeeamcaaGreat

/- A level's methods, called through the interface: by the level's kind, once for both. -/
namespace Go.Proofs.YtdenbmmbeeamcaaGreat
set_option linter.unusedVariables false
open Go.RowKit
/-- The function behind a method of a level. -/
def lvF (C : Cfg) (lv : Int) (x s : Nat) : Nat := bif isX C lv then x else s
theorem lvF_x {C : Cfg} {lv : Int} (h : isX C lv = true) (x s : Nat) : lvF C lv x s = x := by unfold lvF; rw [h]; rfl
theorem lvF_s {C : Cfg} {lv : Int} (h : isX C lv = false) (x s : Nat) : lvF C lv x s = s := by unfold lvF; rw [h]; rfl
theorem lvV_eq (C : Cfg) (lv : Int) (L : Lev) : lvV C lv L = .iface (lvT C lv) (.pointer (some ⟨L.s, 0, none⟩)) := rfl
theorem lvm_Update (C : Cfg) (lv : Int) (p : Option Addr) (w : World) : Sem.run Tryz.prog (method 407 (lvT C lv) (.pointer p) "Update") w = .ok (lvF C lv 250 218, .pointer p) w := by
  unfold lvT lvF
  cases isX C lv with
  | true => kernel_rfl
  | false => kernel_rfl
theorem lve_Update (C : Cfg) (lv : Int) (args : Array Value) (w : World) : (callFunc (lvF C lv 250 218) args).run Tryz.prog w = .ok (.enter (lvF C lv 250 218) args) w := by
  unfold lvF
  cases isX C lv with
  | true => kernel_rfl
  | false => kernel_rfl
theorem lvm_Cells (C : Cfg) (lv : Int) (p : Option Addr) (w : World) : Sem.run Tryz.prog (method 407 (lvT C lv) (.pointer p) "Cells") w = .ok (lvF C lv 139 171, .pointer p) w := by
  unfold lvT lvF
  cases isX C lv with
  | true => kernel_rfl
  | false => kernel_rfl
theorem lve_Cells (C : Cfg) (lv : Int) (args : Array Value) (w : World) : (callFunc (lvF C lv 139 171) args).run Tryz.prog w = .ok (.enter (lvF C lv 139 171) args) w := by
  unfold lvF
  cases isX C lv with
  | true => kernel_rfl
  | false => kernel_rfl
theorem lvm_Config (C : Cfg) (lv : Int) (p : Option Addr) (w : World) : Sem.run Tryz.prog (method 407 (lvT C lv) (.pointer p) "Config") w = .ok (lvF C lv 136 169, .pointer p) w := by
  unfold lvT lvF
  cases isX C lv with
  | true => kernel_rfl
  | false => kernel_rfl
theorem lve_Config (C : Cfg) (lv : Int) (args : Array Value) (w : World) : (callFunc (lvF C lv 136 169) args).run Tryz.prog w = .ok (.enter (lvF C lv 136 169) args) w := by
  unfold lvF
  cases isX C lv with
  | true => kernel_rfl
  | false => kernel_rfl
theorem lvm_Level (C : Cfg) (lv : Int) (p : Option Addr) (w : World) : Sem.run Tryz.prog (method 407 (lvT C lv) (.pointer p) "Level") w = .ok (lvF C lv 137 170, .pointer p) w := by
  unfold lvT lvF
  cases isX C lv with
  | true => kernel_rfl
  | false => kernel_rfl
theorem lve_Level (C : Cfg) (lv : Int) (args : Array Value) (w : World) : (callFunc (lvF C lv 137 170) args).run Tryz.prog w = .ok (.enter (lvF C lv 137 170) args) w := by
  unfold lvF
  cases isX C lv with
  | true => kernel_rfl
  | false => kernel_rfl
def LvUpdPost (w : World) (L : Lev) (C : Cfg) (lv : Int) (l : List Int) (key d : Int) (e : Ending) (w' : World) : Prop :=
  e = .returned (.int .i64 (lvE C lv l key d)) ∧ ((lvE C lv l key d = 0 ∧ LvAt w' L C lv (lvU C lv l key d) ∧ Mod (fun k => k = L.c) w w') ∨ (lvE C lv l key d ≠ 0 ∧ Ext w w'))
theorem LUpdate_c (C : Cfg) (lv : Int) (L : Lev) (l : List Int) (key d : Int) (w : World) (h : LvAt w L C lv l) (hd : I64 d) (hk : U64 key) :
    Calls Tryz.prog (lvF C lv 250 218) #[.pointer (some ⟨L.s, 0, none⟩), .int .u64 key, .int .i64 d] w (LvUpdPost w L C lv l key d) := by
  cases hx : isX C lv with
  | true =>
    rw [lvF_x hx]
    refine (EUpdate_c _ _ _ C lv _ l key d w (h.x hx) hd hk).mono ?_
    rintro e w' ⟨rfl, hr⟩
    unfold LvUpdPost
    rw [lvE_x hx, lvU_x hx]
    exact ⟨rfl, hr.imp (fun ⟨a, b, c⟩ => ⟨a, .inl ⟨hx, b⟩, c⟩) (fun h => h)⟩
  | false =>
    rw [lvF_s hx]
    refine (Update_c _ _ _ C lv _ _ l key d w (h.sk hx) hd hk.1).mono ?_
    rintro e w' ⟨rfl, hr⟩
    unfold LvUpdPost
    rw [lvE_s hx, lvU_s hx]
    exact ⟨rfl, hr.imp (fun ⟨a, b, c⟩ => ⟨a, .inr ⟨hx, b⟩, c⟩) (fun h => h)⟩
theorem LCells_c (C : Cfg) (lv : Int) (L : Lev) (l : List Int) (w : World) (h : LvAt w L C lv l) :
    Calls Tryz.prog (lvF C lv 139 171) #[.pointer (some ⟨L.s, 0, none⟩)] w fun e w' => ∃ v, e = .returned v ∧ w'.ownsRow w.heap.size 2 1 v l.length (ints l) ∧ (v = .slice none 0 0 → False) ∧ Ext w w' := by
  cases hx : isX C lv with
  | true => rw [lvF_x hx]; exact ECells_c _ _ _ C lv _ l w (h.x hx)
  | false => rw [lvF_s hx]; exact SCells_c _ _ _ C lv _ _ l w (h.sk hx)
theorem LConfig_c (C : Cfg) (lv : Int) (L : Lev) (l : List Int) (w : World) (h : LvAt w L C lv l) :
    Calls Tryz.prog (lvF C lv 136 169) #[.pointer (some ⟨L.s, 0, none⟩)] w fun e w' => e = .returned (.agg #[.int .i64 C.bits, .int .i64 C.rows, .int .i64 C.width, .int .i64 C.mode, .int .u64 C.seed]) ∧ Ext w w' := by
  cases hx : isX C lv with
  | true => rw [lvF_x hx]; exact EConfig_c _ _ _ C lv _ l w (h.x hx)
  | false => rw [lvF_s hx]; exact SConfig_c _ _ _ C lv _ _ l w (h.sk hx)
theorem LLevel_c (C : Cfg) (lv : Int) (L : Lev) (l : List Int) (w : World) (h : LvAt w L C lv l) :
    Calls Tryz.prog (lvF C lv 137 170) #[.pointer (some ⟨L.s, 0, none⟩)] w fun e w' => e = .returned (.int .i64 lv) ∧ w = w' := by
  cases hx : isX C lv with
  | true => rw [lvF_x hx]; exact ELevel_c _ _ _ C lv _ l w (h.x hx)
  | false => rw [lvF_s hx]; exact SLevel_c _ _ _ C lv _ _ l w (h.sk hx)
end Go.Proofs.YtdenbmmbeeamcaaGreat

/- sketch.Merge, sketch.Subtract of two sketches of one config and level; of unlike ones; of none. -/
namespace Go.Proofs.YtdenbmmbeeamcaaGreat
set_option linter.unusedVariables false
open Go.RowKit

set_option maxRecDepth 20000 in
theorem GPlus_c (b c b2 c2 R W : Nat) (l l2 : List Int) (w : World) (h : GAt w b c R W l) (h2 : GAt w b2 c2 R W l2) (hI : allI l) (hI2 : allI l2) :
    Calls Tryz.prog 164 #[.pointer (some ⟨b, 0, none⟩), .pointer (some ⟨b2, 0, none⟩)] w (JoinPost w b c R W (plusL l l2)) := by
  go_enter Tryz.func164, Tryz.ntmps164
  go_wp2_with fail
  refine Calls.mono (allPlus_c b c b2 c2 R W l l2 w h h2 hI hI2) ?_
  rintro e w' h
  rcases h with ⟨ha, rfl, hg, hm⟩ | ⟨ha, rfl, hx⟩
  · go_wp2
    go_ret
    exact .inl ⟨ha, rfl, hg, hm⟩
  · go_wp2
    go_ret
    exact .inr ⟨ha, rfl, hx⟩
set_option maxRecDepth 20000 in
theorem GMinus_c (b c b2 c2 R W : Nat) (l l2 : List Int) (w : World) (h : GAt w b c R W l) (h2 : GAt w b2 c2 R W l2) (hI : allI l) (hI2 : allI l2) :
    Calls Tryz.prog 167 #[.pointer (some ⟨b, 0, none⟩), .pointer (some ⟨b2, 0, none⟩)] w (JoinPost w b c R W (minusL l l2)) := by
  go_enter Tryz.func167, Tryz.ntmps167
  go_wp2_with fail
  refine Calls.mono (allMinus_c b c b2 c2 R W l l2 w h h2 hI hI2) ?_
  rintro e w' h
  rcases h with ⟨ha, rfl, hg, hm⟩ | ⟨ha, rfl, hx⟩
  · go_wp2
    go_ret
    exact .inl ⟨ha, rfl, hg, hm⟩
  · go_wp2
    go_ret
    exact .inr ⟨ha, rfl, hx⟩
def alikeB (C : Cfg) (lv : Int) (C2 : Cfg) (lv2 : Int) : Prop := C2.bits = C.bits ∧ C2.rows = C.rows ∧ C2.width = C.width ∧ C2.mode = C.mode ∧ C2.seed = C.seed ∧ lv2 = lv
set_option maxRecDepth 20000 in
set_option maxHeartbeats 2000000 in
theorem alike_yes (s b c s2 b2 c2 : Nat) (C : Cfg) (lv : Int) (R W : Nat) (l l2 : List Int) (w : World) (h : SAt w s b c C lv R W l) (h2 : SAt w s2 b2 c2 C lv R W l2) :
    Calls Tryz.prog 163 #[.pointer (some ⟨s, 0, none⟩), .pointer (some ⟨s2, 0, none⟩)] w fun e w' => e = .returned (.bool true) ∧ Ext w w' := by
  have c1 := (cell_of h.ex 1).trans rfl
  have c2 := (cell_of h.ex 2).trans rfl
  have c3 := (cell_of h.ex 3).trans rfl
  have c4 := (cell_of h.ex 4).trans rfl
  have c5 := (cell_of h.ex 5).trans rfl
  have c6 := (cell_of h.ex 6).trans rfl
  have d1 := (cell_of h2.ex 1).trans rfl
  have d2 := (cell_of h2.ex 2).trans rfl
  have d3 := (cell_of h2.ex 3).trans rfl
  have d4 := (cell_of h2.ex 4).trans rfl
  have d5 := (cell_of h2.ex 5).trans rfl
  have d6 := (cell_of h2.ex 6).trans rfl
  have l1 := h.lts
  have l2 := h2.lts
  clear h h2
  go_enter Tryz.func163, Tryz.ntmps163
  go_wp2_with fail
  refine wp_region_after (by kernel_rfl) (by kernel_rfl) ?_
  repeat (go_big_quiet_step (fail))
  refine wpQuiet_nil ?_
  rintro _ ⟨xx, rfl⟩
  obtain ⟨w1, hb1⟩ := xx
  try dsimp only
  go_wp2
  go_ret
  exact ⟨rfl, hb1⟩
theorem alike_nil (s : Nat) (w : World) :
    Calls Tryz.prog 163 #[.pointer (some ⟨s, 0, none⟩), .pointer none] w fun e w' => e = .returned (.bool false) ∧ Ext w w' := by
  go_enter Tryz.func163, Tryz.ntmps163
  go_wp2_with fail
  refine wp_region_after (by kernel_rfl) (by kernel_rfl) ?_
  repeat (go_big_quiet_step (fail))
  refine wpQuiet_nil ?_
  rintro _ ⟨xx, rfl⟩
  obtain ⟨w1, hb1⟩ := xx
  try dsimp only
  go_wp2
  go_ret
  exact ⟨rfl, hb1⟩
/-- Where two configs, or levels, part first. -/
inductive PartsAt (C2 : Cfg) (lv2 : Int) (C : Cfg) (lv : Int) : Prop
  | p0 (h : (C2.bits == C.bits) = false)
  | p1 (h0 : (C2.bits == C.bits) = true) (h : (C2.rows == C.rows) = false)
  | p2 (h0 : (C2.bits == C.bits) = true) (h1 : (C2.rows == C.rows) = true) (h : (C2.width == C.width) = false)
  | p3 (h0 : (C2.bits == C.bits) = true) (h1 : (C2.rows == C.rows) = true) (h2 : (C2.width == C.width) = true) (h : (C2.mode == C.mode) = false)
  | p4 (h0 : (C2.bits == C.bits) = true) (h1 : (C2.rows == C.rows) = true) (h2 : (C2.width == C.width) = true) (h3 : (C2.mode == C.mode) = true) (h : (C2.seed == C.seed) = false)
  | p5 (h0 : (C2.bits == C.bits) = true) (h1 : (C2.rows == C.rows) = true) (h2 : (C2.width == C.width) = true) (h3 : (C2.mode == C.mode) = true) (h4 : (C2.seed == C.seed) = true) (h : (lv2 == lv) = false)
theorem parts_or (C2 : Cfg) (lv2 : Int) (C : Cfg) (lv : Int) : (C2 = C ∧ lv2 = lv) ∨ PartsAt C2 lv2 C lv := by
  cases h0 : C2.bits == C.bits with
  | false => exact .inr (.p0 h0)
  | true =>
    cases h1 : C2.rows == C.rows with
    | false => exact .inr (.p1 h0 h1)
    | true =>
      cases h2 : C2.width == C.width with
      | false => exact .inr (.p2 h0 h1 h2)
      | true =>
        cases h3 : C2.mode == C.mode with
        | false => exact .inr (.p3 h0 h1 h2 h3)
        | true =>
          cases h4 : C2.seed == C.seed with
          | false => exact .inr (.p4 h0 h1 h2 h3 h4)
          | true =>
            cases h5 : lv2 == lv with
            | false => exact .inr (.p5 h0 h1 h2 h3 h4 h5)
            | true =>
              refine .inl ⟨?_, by simpa using h5⟩
              cases C2; cases C
              simp only [beq_iff_eq] at h0 h1 h2 h3 h4
              simp [h0, h1, h2, h3, h4]
set_option maxRecDepth 20000 in
set_option maxHeartbeats 4000000 in
theorem alike_no (s b c s2 b2 c2 : Nat) (C C2 : Cfg) (lv lv2 : Int) (R W R2 W2 : Nat) (l l2 : List Int) (w : World) (h : SAt w s b c C lv R W l) (h2 : SAt w s2 b2 c2 C2 lv2 R2 W2 l2) (hp : PartsAt C2 lv2 C lv) :
    Calls Tryz.prog 163 #[.pointer (some ⟨s, 0, none⟩), .pointer (some ⟨s2, 0, none⟩)] w fun e w' => e = .returned (.bool false) ∧ Ext w w' := by
  have c1 := (cell_of h.ex 1).trans rfl
  have c2 := (cell_of h.ex 2).trans rfl
  have c3 := (cell_of h.ex 3).trans rfl
  have c4 := (cell_of h.ex 4).trans rfl
  have c5 := (cell_of h.ex 5).trans rfl
  have c6 := (cell_of h.ex 6).trans rfl
  have d1 := (cell_of h2.ex 1).trans rfl
  have d2 := (cell_of h2.ex 2).trans rfl
  have d3 := (cell_of h2.ex 3).trans rfl
  have d4 := (cell_of h2.ex 4).trans rfl
  have d5 := (cell_of h2.ex 5).trans rfl
  have d6 := (cell_of h2.ex 6).trans rfl
  have l1 := h.lts
  have l2 := h2.lts
  clear h h2
  rcases hp with h | ⟨h0, h⟩ | ⟨h0, h1, h⟩ | ⟨h0, h1, h2, h⟩ | ⟨h0, h1, h2, h3, h⟩ | ⟨h0, h1, h2, h3, h4, h⟩
  all_goals
    go_enter Tryz.func163, Tryz.ntmps163
    go_wp2_with fail
    refine wp_region_after (by kernel_rfl) (by kernel_rfl) ?_
    repeat (go_big_quiet_step (fail))
    refine wpQuiet_nil ?_
    rintro _ ⟨xx, rfl⟩
    obtain ⟨w1, hb1⟩ := xx
    try dsimp only
    go_wp2
    go_ret
    exact ⟨rfl, hb1⟩
def MergePost (w : World) (s b c : Nat) (C : Cfg) (lv : Int) (R W : Nat) (m : List Int) (e : Ending) (w' : World) : Prop :=
  (allI m ∧ e = .returned (.int .i64 0) ∧ SAt w' s b c C lv R W m ∧ Mod (fun k => k = c) w w') ∨ (¬ allI m ∧ e = .returned (.int .i64 4) ∧ Ext w w')
theorem SAt.putg {w w' : World} {s b c : Nat} {C : Cfg} {lv : Int} {R W : Nat} {l m : List Int} (h : SAt w s b c C lv R W l) (hg : GAt w' b c R W m) (hm : Mod (fun k => k = c) w w') (hi : allI m) : SAt w' s b c C lv R W m :=
  ⟨by rw [hm.block s h.lts h.nes]; exact h.ex, hg, h.ok, h.lo, h.hi, h.hr, h.hw, hi⟩
theorem join_ret {w w' : World} {b c R W : Nat} {m : List Int} {e : Ending} (h : JoinPost w b c R W m e w') : ∃ z, e = .returned (.int .i64 z) ∧ ((z = 0 ∧ allI m ∧ GAt w' b c R W m ∧ Mod (fun k => k = c) w w') ∨ (z = 4 ∧ ¬ allI m ∧ Ext w w')) := by
  rcases h with ⟨ha, rfl, hg, hm⟩ | ⟨ha, rfl, hx⟩
  · exact ⟨_, rfl, .inl ⟨rfl, ha, hg, hm⟩⟩
  · exact ⟨_, rfl, .inr ⟨rfl, ha, hx⟩⟩
set_option maxRecDepth 20000 in
set_option maxHeartbeats 4000000 in
theorem SMerge_c (s b c s2 b2 c2 : Nat) (C : Cfg) (lv : Int) (R W : Nat) (l l2 : List Int) (w : World) (h : SAt w s b c C lv R W l) (h2 : SAt w s2 b2 c2 C lv R W l2) :
    Calls Tryz.prog 126 #[.pointer (some ⟨s, 0, none⟩), .pointer (some ⟨s2, 0, none⟩)] w (MergePost w s b c C lv R W (plusL l l2)) := by
  have HH := Lib.hid h
  go_enter Tryz.func126, Tryz.ntmps126
  go_wp2_with fail
  refine Calls.mono (alike_yes s b c s2 b2 c2 C lv R W l l2 w h h2) ?_
  rintro e w1 ⟨rfl, hx1⟩
  have h' := h.ext hx1
  have h2' := h2.ext hx1
  have c0 := (cell_of h'.ex 0).trans rfl
  have d0 := (cell_of h2'.ex 0).trans rfl
  have l1 := h'.lts
  have l2' := h2'.lts
  clear h h2
  go_wp2_with fail
  have hC0 := af_drew w1
  have hG1 := h'.g.ext (Below.drew (Ext.refl w1))
  have hG2 := h2'.g.ext (Below.drew (Ext.refl w1))
  refine pi_start (fun w' => ∃ x : After w1, w' = x.w) [10] (by kernel_rfl) ?_
  refine pi_t 0 rfl (by kernel_rfl) (by kernel_rfl) (fun _ _ _ _ h => h) (fun K hK => ?_)
  go_big_quiet_op
  refine hK _ ?_
  clear hK K
  refine pi_t 1 rfl (by kernel_rfl) (by kernel_rfl) (fun _ _ _ _ h => h) (fun K hK => ?_)
  go_big_quiet_op
  refine hK _ ?_
  clear hK K
  refine pi_t 2 rfl (by kernel_rfl) (by kernel_rfl) (fun _ _ _ _ h => h) (fun K hK => ?_)
  go_big_quiet_op
  refine hK _ ?_
  clear hK K
  refine pi_t 3 rfl (by kernel_rfl) (by kernel_rfl) (fun _ _ _ _ h => h) (fun K hK => ?_)
  go_big_quiet_op
  refine hK _ ?_
  clear hK K
  refine pi_c 4 (by assumption) rfl (by kernel_rfl) (by kernel_rfl) (fun _ _ _ _ h => h) (fun K hK => ?_)
  go_big_quiet_op
  refine hK _ ?_
  clear hK K
  refine pi_t 5 rfl (by kernel_rfl) (by kernel_rfl) (fun _ _ _ _ h => h) (fun K hK => ?_)
  go_big_quiet_op
  refine hK _ ?_
  clear hK K
  refine pi_t 6 rfl (by kernel_rfl) (by kernel_rfl) (fun _ _ _ _ h => h) (fun K hK => ?_)
  go_big_quiet_op
  refine hK _ ?_
  clear hK K
  refine pi_t 7 rfl (by kernel_rfl) (by kernel_rfl) (fun _ _ _ _ h => h) (fun K hK => ?_)
  go_big_quiet_op
  refine hK _ ?_
  clear hK K
  refine pi_t 8 rfl (by kernel_rfl) (by kernel_rfl) (fun _ _ _ _ h => h) (fun K hK => ?_)
  go_big_quiet_op
  refine hK _ ?_
  clear hK K
  refine pi_c 9 (by assumption) rfl (by kernel_rfl) (by kernel_rfl) (fun _ _ _ _ h => h) (fun K hK => ?_)
  go_big_quiet_op
  refine hK _ ?_
  clear hK K
  refine pi_l 10 rfl (by kernel_rfl) (fun K hK => ?_)
  go_wp2_with (go_at_call 164; refine Calls.mono (GPlus_c b c b2 c2 R W l l2 _ hG1 hG2 h'.fit h2'.fit) ?_; intro e w2 hr0; obtain ⟨z, rfl, hr⟩ := join_ret hr0)
  refine hK _ _ (by simp) ?_
  clear hK K
  refine pi_t 11 rfl (by kernel_rfl) (by kernel_rfl) (fun _ _ _ _ h => h) (fun K hK => ?_)
  go_big_quiet_op
  refine hK _ ?_
  clear hK K
  refine pi_end (by kernel_rfl) ?_
  go_wp2
  go_ret
  have hx2 : Ext w w1.drew := Below.drew hx1
  rcases hr with ⟨rfl, ha, hg, hm⟩ | ⟨rfl, ha, hx⟩
  · have hm' : Mod (fun k => k = c) w w2 := (hx2.mod _).trans hm
    exact .inl ⟨ha, rfl, HH.out.putg hg hm' ha, hm'⟩
  · exact .inr ⟨ha, rfl, hx2.trans' hx⟩
set_option maxRecDepth 20000 in
set_option maxHeartbeats 4000000 in
theorem SSubtract_c (s b c s2 b2 c2 : Nat) (C : Cfg) (lv : Int) (R W : Nat) (l l2 : List Int) (w : World) (h : SAt w s b c C lv R W l) (h2 : SAt w s2 b2 c2 C lv R W l2) (hm : C.mode ≠ 2) :
    Calls Tryz.prog 131 #[.pointer (some ⟨s, 0, none⟩), .pointer (some ⟨s2, 0, none⟩)] w (MergePost w s b c C lv R W (minusL l l2)) := by
  have HH := Lib.hid h
  have hmb : (C.mode == 2) = false := by simpa using hm
  clear hm
  go_enter Tryz.func131, Tryz.ntmps131
  go_wp2_with fail
  refine Calls.mono (alike_yes s b c s2 b2 c2 C lv R W l l2 w h h2) ?_
  rintro e w1 ⟨rfl, hx1⟩
  have h' := h.ext hx1
  have h2' := h2.ext hx1
  have c0 := (cell_of h'.ex 0).trans rfl
  have c4 := (cell_of h'.ex 4).trans rfl
  have d0 := (cell_of h2'.ex 0).trans rfl
  have l1 := h'.lts
  have l2' := h2'.lts
  clear h h2
  go_wp2_with fail
  have hC0 := af_drew w1
  have hG1 := h'.g.ext (Below.drew (Ext.refl w1))
  have hG2 := h2'.g.ext (Below.drew (Ext.refl w1))
  refine pi_start (fun w' => ∃ x : After w1, w' = x.w) [10] (by kernel_rfl) ?_
  refine pi_t 0 rfl (by kernel_rfl) (by kernel_rfl) (fun _ _ _ _ h => h) (fun K hK => ?_)
  go_big_quiet_op
  refine hK _ ?_
  clear hK K
  refine pi_t 1 rfl (by kernel_rfl) (by kernel_rfl) (fun _ _ _ _ h => h) (fun K hK => ?_)
  go_big_quiet_op
  refine hK _ ?_
  clear hK K
  refine pi_t 2 rfl (by kernel_rfl) (by kernel_rfl) (fun _ _ _ _ h => h) (fun K hK => ?_)
  go_big_quiet_op
  refine hK _ ?_
  clear hK K
  refine pi_t 3 rfl (by kernel_rfl) (by kernel_rfl) (fun _ _ _ _ h => h) (fun K hK => ?_)
  go_big_quiet_op
  refine hK _ ?_
  clear hK K
  refine pi_c 4 (by assumption) rfl (by kernel_rfl) (by kernel_rfl) (fun _ _ _ _ h => h) (fun K hK => ?_)
  go_big_quiet_op
  refine hK _ ?_
  clear hK K
  refine pi_t 5 rfl (by kernel_rfl) (by kernel_rfl) (fun _ _ _ _ h => h) (fun K hK => ?_)
  go_big_quiet_op
  refine hK _ ?_
  clear hK K
  refine pi_t 6 rfl (by kernel_rfl) (by kernel_rfl) (fun _ _ _ _ h => h) (fun K hK => ?_)
  go_big_quiet_op
  refine hK _ ?_
  clear hK K
  refine pi_t 7 rfl (by kernel_rfl) (by kernel_rfl) (fun _ _ _ _ h => h) (fun K hK => ?_)
  go_big_quiet_op
  refine hK _ ?_
  clear hK K
  refine pi_t 8 rfl (by kernel_rfl) (by kernel_rfl) (fun _ _ _ _ h => h) (fun K hK => ?_)
  go_big_quiet_op
  refine hK _ ?_
  clear hK K
  refine pi_c 9 (by assumption) rfl (by kernel_rfl) (by kernel_rfl) (fun _ _ _ _ h => h) (fun K hK => ?_)
  go_big_quiet_op
  refine hK _ ?_
  clear hK K
  refine pi_l 10 rfl (by kernel_rfl) (fun K hK => ?_)
  go_wp2_with (go_at_call 167; refine Calls.mono (GMinus_c b c b2 c2 R W l l2 _ hG1 hG2 h'.fit h2'.fit) ?_; intro e w2 hr0; obtain ⟨z, rfl, hr⟩ := join_ret hr0)
  refine hK _ _ (by simp) ?_
  clear hK K
  refine pi_t 11 rfl (by kernel_rfl) (by kernel_rfl) (fun _ _ _ _ h => h) (fun K hK => ?_)
  go_big_quiet_op
  refine hK _ ?_
  clear hK K
  refine pi_end (by kernel_rfl) ?_
  go_wp2
  go_ret
  have hx2 : Ext w w1.drew := Below.drew hx1
  rcases hr with ⟨rfl, ha, hg, hm⟩ | ⟨rfl, ha, hx⟩
  · have hm' : Mod (fun k => k = c) w w2 := (hx2.mod _).trans hm
    exact .inl ⟨ha, rfl, HH.out.putg hg hm' ha, hm'⟩
  · exact .inr ⟨ha, rfl, hx2.trans' hx⟩
/-- Unlike ones, or none: both are refused. -/
theorem SMerge_nil (s : Nat) (w : World) :
    Calls Tryz.prog 126 #[.pointer (some ⟨s, 0, none⟩), .pointer none] w fun e w' => e = .returned (.int .i64 5) ∧ Ext w w' := by
  go_enter Tryz.func126, Tryz.ntmps126
  go_wp2_with fail
  refine Calls.mono (alike_nil s w) ?_
  rintro e w1 ⟨rfl, hx1⟩
  go_wp2
  go_ret
  exact ⟨rfl, hx1⟩
theorem SSubtract_nil (s : Nat) (w : World) :
    Calls Tryz.prog 131 #[.pointer (some ⟨s, 0, none⟩), .pointer none] w fun e w' => e = .returned (.int .i64 5) ∧ Ext w w' := by
  go_enter Tryz.func131, Tryz.ntmps131
  go_wp2_with fail
  refine Calls.mono (alike_nil s w) ?_
  rintro e w1 ⟨rfl, hx1⟩
  go_wp2
  go_ret
  exact ⟨rfl, hx1⟩
theorem SMerge_no (s b c s2 b2 c2 : Nat) (C C2 : Cfg) (lv lv2 : Int) (R W R2 W2 : Nat) (l l2 : List Int) (w : World) (h : SAt w s b c C lv R W l) (h2 : SAt w s2 b2 c2 C2 lv2 R2 W2 l2) (hp : PartsAt C2 lv2 C lv) :
    Calls Tryz.prog 126 #[.pointer (some ⟨s, 0, none⟩), .pointer (some ⟨s2, 0, none⟩)] w fun e w' => e = .returned (.int .i64 5) ∧ Ext w w' := by
  go_enter Tryz.func126, Tryz.ntmps126
  go_wp2_with fail
  refine Calls.mono (alike_no s b c s2 b2 c2 C C2 lv lv2 R W R2 W2 l l2 w h h2 hp) ?_
  rintro e w1 ⟨rfl, hx1⟩
  go_wp2
  go_ret
  exact ⟨rfl, hx1⟩
theorem SSubtract_no (s b c s2 b2 c2 : Nat) (C C2 : Cfg) (lv lv2 : Int) (R W R2 W2 : Nat) (l l2 : List Int) (w : World) (h : SAt w s b c C lv R W l) (h2 : SAt w s2 b2 c2 C2 lv2 R2 W2 l2) (hp : PartsAt C2 lv2 C lv) :
    Calls Tryz.prog 131 #[.pointer (some ⟨s, 0, none⟩), .pointer (some ⟨s2, 0, none⟩)] w fun e w' => e = .returned (.int .i64 5) ∧ Ext w w' := by
  go_enter Tryz.func131, Tryz.ntmps131
  go_wp2_with fail
  refine Calls.mono (alike_no s b c s2 b2 c2 C C2 lv lv2 R W R2 W2 l l2 w h h2 hp) ?_
  rintro e w1 ⟨rfl, hx1⟩
  go_wp2
  go_ret
  exact ⟨rfl, hx1⟩
end Go.Proofs.YtdenbmmbeeamcaaGreat
