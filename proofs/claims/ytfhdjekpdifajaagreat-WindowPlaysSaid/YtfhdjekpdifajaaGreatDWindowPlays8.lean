/- Part. No condition. -/
import Derived.Test.YtfhdjekpdifajaaGreatDWindowPlays3
import Derived.Test.YtfhdjekpdifajaaGreatDWindowPlays4
import Derived.Test.YtfhdjekpdifajaaGreatDWindowPlays5
import Derived.Test.YtfhdjekpdifajaaGreatDWindowPlays7
import Derived.Test.YtfhdjekpdifajaaGreatDWindowPlays1
import Derived.Test.YtfhdjekpdifajaaGreatDWindowPlays2
import Derived.Test.YtfhdjekpdifajaaGreatDWindowPlays6
import Derived.RangeFuncBox
import Derived.WalkMore
import Derived.Defers
import Derived.Laws.EntriesVeiled
namespace Go.Proofs.YtfhdjekpdifajaaGreat
set_option linter.unusedVariables false
open Go.RowKit
def RLJoinPost (w : World) (L : RLev) (C : Cfg) (lv : Int) (ms : List Int) (e : Ending) (w' : World) : Prop :=
  (allI ms ∧ e = .returned (.int .i64 0) ∧ ∃ L' : RLev, L'.p = L.p ∧ RLvAt w' L' C lv ms ∧ (∀ k, L'.foot C lv k → L.foot C lv k ∨ w.heap.size ≤ k) ∧ Mod (L.foot C lv) w w') ∨ (¬ allI ms ∧ e = .returned (.int .i64 4) ∧ Ext w w')
theorem rl_npx {w : World} {p a m : Nat} {C : Cfg} {lv : Int} {K : Nat} {l : List Int} {cs : Array Value} (hp : w.heap[p]? = some (.cells cs 153 (0, 0))) (h : RXAt w a m C lv K l) : p ≠ a := by
  obtain ⟨cap, q, _⟩ := h.ex; exact blk_ne hp q (by decide)
theorem rl_nps {w : World} {p a : Nat} {G : Gr} {C : Cfg} {lv : Int} {R W : Nat} {l : List Int} {cs : Array Value} (hp : w.heap[p]? = some (.cells cs 153 (0, 0))) (h : RSAt w a G C lv R W l) : ¬ rsF a G R p := by
  rintro (e | e | e | ⟨r, hr, e⟩)
  · exact blk_ne hp h.ex (by decide) e
  · obtain ⟨cap, q, _⟩ := h.g.ex; exact blk_ne hp q (by decide) e
  · obtain ⟨cap, q, _⟩ := h.g.row; exact blk_ne hp q (by decide) e
  · obtain ⟨cur, q, _⟩ := h.g.cells r hr; exact blk_ne hp q (by decide) e
set_option maxRecDepth 20000 in
set_option maxHeartbeats 4000000 in
theorem RLJoinMinus_c (L L2 : RLev) (C : Cfg) (lv : Int) (l l2 : List Int) (w : World) (h : RLvAt w L C lv l) (h2 : RLvAt w L2 C lv l2) (hmd : "Minus" = "Minus" → C.mode ≠ 2) :
    Calls Tryz.prog 42 #[.pointer (some ⟨L.p, 0, none⟩), .pointer (some ⟨L2.p, 0, none⟩), .int .i64 (-1)] w (RLJoinPost w L C lv (minusL l l2)) := by
  cases hx : isX C lv with
  | true =>
    obtain ⟨hp, hA⟩ := h.x hx
    obtain ⟨hp2, hA2⟩ := h2.x hx
    have HU := Lib.hid (fun W' (hW : Ext w W') => RXJoinMinus_c _ _ _ _ C lv _ l l2 W' (hA.ext hW) (hA2.ext hW) hmd)
    have p0 := (cell_of hp 0).trans rfl
    have pl := lt_of hp
    have q0 := (cell_of hp2 0).trans rfl
    have ql := lt_of hp2
    have HP := Lib.hid hp
    have HA := Lib.hid hA
    have HX := Lib.hid hx
    have HH := Lib.hid h
    clear hx hp hp2 hA hA2 h2 hmd h
    go_enter Tryz.func42, Tryz.ntmps42
    go_wp2_with fail
    have hC0 := af_drew w
    refine pi_start (fun w' => ∃ z : After w, w' = z.w) [9] (by kernel_rfl) ?_
    refine pi_t 0 rfl (by kernel_rfl) (by kernel_rfl) (fun _ _ _ _ h => h) (fun K hK => ?_)
    go_big_quiet_op
    refine hK _ ?_
    clear hK K
    refine pi_t 1 rfl (by kernel_rfl) (by kernel_rfl) (fun _ _ _ _ h => h) (fun K hK => ?_)
    go_big_quiet_op
    refine hK _ ?_
    clear hK K
    refine pi_t 2 rfl (by kernel_rfl) (by kernel_rfl) (fun _ _ _ _ h => h) (fun K hK => ?_)
    go_big_quiet_op
    refine hK _ ?_
    clear hK K
    refine pi_t 4 rfl (by kernel_rfl) (by kernel_rfl) (fun _ _ _ _ h => h) (fun K hK => ?_)
    go_big_quiet_op
    refine hK _ ?_
    clear hK K
    refine pi_t 5 rfl (by kernel_rfl) (by kernel_rfl) (fun _ _ _ _ h => h) (fun K hK => ?_)
    go_big_quiet_op
    refine hK _ ?_
    clear hK K
    refine pi_t 6 rfl (by kernel_rfl) (by kernel_rfl) (fun _ _ _ _ h => h) (fun K hK => ?_)
    go_big_quiet_op
    refine hK _ ?_
    clear hK K
    refine pi_t 8 rfl (by kernel_rfl) (by kernel_rfl) (fun _ _ _ _ h => h) (fun K hK => ?_)
    go_big_quiet_op
    refine hK _ ?_
    clear hK K
    refine pi_c 3 (by assumption) rfl (by kernel_rfl) (by kernel_rfl) (fun _ _ _ _ h => h) (fun K hK => ?_)
    go_big_quiet_op
    refine hK _ ?_
    clear hK K
    refine pi_c 7 (by assumption) rfl (by kernel_rfl) (by kernel_rfl) (fun _ _ _ _ h => h) (fun K hK => ?_)
    go_big_quiet_op
    refine hK _ ?_
    clear hK K
    refine pi_l 9 rfl (by kernel_rfl) (fun K hK => ?_)
    go_wp2_with (go_at_call 113; refine Calls.mono (HU.out _ (Below.drew (Ext.refl w))) ?_; rintro e w1 (⟨ha, rfl, m', hA', hm', hM'⟩ | ⟨ha, rfl, hx'⟩))
    · refine hK _ _ (by simp) ?_
      clear hK K
      have HAI := Lib.hid ha
      have HA' := Lib.hid hA'
      have HM' := Lib.hid ((Ext.mod _ (Below.drew (Ext.refl w))).trans hM' : Mod (fun k => k = L.a) w w1)
      have HMM := Lib.hid (show w.heap.size ≤ m' from hm')
      clear ha hA' hm' hM'
      refine pi_t 10 rfl (by kernel_rfl) (by kernel_rfl) (fun _ _ _ _ h => h) (fun K hK => ?_)
      go_big_quiet_op
      refine hK _ ?_
      clear hK K
      refine pi_end (by kernel_rfl) ?_
      go_wp2
      go_ret
      refine .inl ⟨HAI.out, rfl, ⟨L.p, L.a, ⟨L.G.g, m', L.G.r, L.G.c⟩⟩, rfl, ⟨HH.out.1, HH.out.2.1, HH.out.2.2.1, .inl ⟨HX.out, HM'.out.keep HP.out (rl_npx HP.out HA.out), HA'.out⟩⟩, ?_, HM'.out.wider (fun k hk => .inr (.inl ⟨HX.out, .inl hk⟩))⟩
      rintro k (rfl | ⟨hy, (rfl | rfl)⟩ | ⟨hy, _⟩)
      · exact .inl (.inl rfl)
      · exact .inl (.inr (.inl ⟨hy, .inl rfl⟩))
      · exact .inr HMM.out
      · rw [HX.out] at hy; cases hy
    · refine hK _ _ (by simp) ?_
      clear hK K
      have HNA := Lib.hid ha
      have hEf := Ext.trans' (Below.drew (Ext.refl w)) hx'
      clear ha hx'
      refine pi_t 10 rfl (by kernel_rfl) (by kernel_rfl) (fun _ _ _ _ h => h) (fun K hK => ?_)
      go_big_quiet_op
      refine hK _ ?_
      clear hK K
      refine pi_end (by kernel_rfl) ?_
      go_wp2
      go_ret
      exact .inr ⟨HNA.out, rfl, hEf⟩
  | false =>
    obtain ⟨hp, hA⟩ := h.sk hx
    obtain ⟨hp2, hA2⟩ := h2.sk hx
    have HU := Lib.hid (fun W' (hW : Ext w W') => RSJoinMinus_c _ _ _ _ C lv _ _ l l2 W' (hA.ext hW) (hA2.ext hW) hmd)
    have p0 := (cell_of hp 0).trans rfl
    have p1 := (cell_of hp 1).trans rfl
    have pl := lt_of hp
    have q0 := (cell_of hp2 0).trans rfl
    have q1 := (cell_of hp2 1).trans rfl
    have ql := lt_of hp2
    have HP := Lib.hid hp
    have HA := Lib.hid hA
    have HX := Lib.hid hx
    have HH := Lib.hid h
    clear hx hp hp2 hA hA2 h2 hmd h
    go_enter Tryz.func42, Tryz.ntmps42
    go_wp2_with fail
    have hC0 := af_drew w
    refine pi_start (fun w' => ∃ z : After w, w' = z.w) [9] (by kernel_rfl) ?_
    refine pi_t 0 rfl (by kernel_rfl) (by kernel_rfl) (fun _ _ _ _ h => h) (fun K hK => ?_)
    go_big_quiet_op
    refine hK _ ?_
    clear hK K
    refine pi_t 1 rfl (by kernel_rfl) (by kernel_rfl) (fun _ _ _ _ h => h) (fun K hK => ?_)
    go_big_quiet_op
    refine hK _ ?_
    clear hK K
    refine pi_t 2 rfl (by kernel_rfl) (by kernel_rfl) (fun _ _ _ _ h => h) (fun K hK => ?_)
    go_big_quiet_op
    refine hK _ ?_
    clear hK K
    refine pi_t 4 rfl (by kernel_rfl) (by kernel_rfl) (fun _ _ _ _ h => h) (fun K hK => ?_)
    go_big_quiet_op
    refine hK _ ?_
    clear hK K
    refine pi_t 5 rfl (by kernel_rfl) (by kernel_rfl) (fun _ _ _ _ h => h) (fun K hK => ?_)
    go_big_quiet_op
    refine hK _ ?_
    clear hK K
    refine pi_t 6 rfl (by kernel_rfl) (by kernel_rfl) (fun _ _ _ _ h => h) (fun K hK => ?_)
    go_big_quiet_op
    refine hK _ ?_
    clear hK K
    refine pi_t 8 rfl (by kernel_rfl) (by kernel_rfl) (fun _ _ _ _ h => h) (fun K hK => ?_)
    go_big_quiet_op
    refine hK _ ?_
    clear hK K
    refine pi_c 3 (by assumption) rfl (by kernel_rfl) (by kernel_rfl) (fun _ _ _ _ h => h) (fun K hK => ?_)
    go_big_quiet_op
    refine hK _ ?_
    clear hK K
    refine pi_c 7 (by assumption) rfl (by kernel_rfl) (by kernel_rfl) (fun _ _ _ _ h => h) (fun K hK => ?_)
    go_big_quiet_op
    refine hK _ ?_
    clear hK K
    refine pi_l 9 rfl (by kernel_rfl) (fun K hK => ?_)
    go_wp2_with (go_at_call 114; refine Calls.mono (HU.out _ (Below.drew (Ext.refl w))) ?_; rintro e w1 (⟨ha, rfl, G', hA', hF', hM'⟩ | ⟨ha, rfl, hx'⟩))
    · refine hK _ _ (by simp) ?_
      clear hK K
      have HAI := Lib.hid ha
      have HA' := Lib.hid hA'
      have HM' := Lib.hid ((Ext.mod _ (Below.drew (Ext.refl w))).trans hM' : Mod (rsF L.a L.G (rN C)) w w1)
      have HFF := Lib.hid (show ∀ k, rsF L.a G' (rN C) k → rsF L.a L.G (rN C) k ∨ w.heap.size ≤ k from hF')
      clear ha hA' hF' hM'
      refine pi_t 10 rfl (by kernel_rfl) (by kernel_rfl) (fun _ _ _ _ h => h) (fun K hK => ?_)
      go_big_quiet_op
      refine hK _ ?_
      clear hK K
      refine pi_end (by kernel_rfl) ?_
      go_wp2
      go_ret
      refine .inl ⟨HAI.out, rfl, ⟨L.p, L.a, G'⟩, rfl, ⟨HH.out.1, HH.out.2.1, HH.out.2.2.1, .inr ⟨HX.out, HM'.out.keep HP.out (rl_nps HP.out HA.out), HA'.out⟩⟩, ?_, HM'.out.wider (fun k hk => .inr (.inr ⟨HX.out, hk⟩))⟩
      rintro k (rfl | ⟨hy, _⟩ | ⟨hy, hk⟩)
      · exact .inl (.inl rfl)
      · rw [HX.out] at hy; cases hy
      · exact (HFF.out k hk).imp (fun h => .inr (.inr ⟨hy, h⟩)) id
    · refine hK _ _ (by simp) ?_
      clear hK K
      have HNA := Lib.hid ha
      have hEf := Ext.trans' (Below.drew (Ext.refl w)) hx'
      clear ha hx'
      refine pi_t 10 rfl (by kernel_rfl) (by kernel_rfl) (fun _ _ _ _ h => h) (fun K hK => ?_)
      go_big_quiet_op
      refine hK _ ?_
      clear hK K
      refine pi_end (by kernel_rfl) ?_
      go_wp2
      go_ret
      exact .inr ⟨HNA.out, rfl, hEf⟩
end Go.Proofs.YtfhdjekpdifajaaGreat
namespace Go.Proofs.YtfhdjekpdifajaaGreat
set_option linter.unusedVariables false
open Go.RowKit
theorem info_lp : ∃ i z, Tryz.prog.info? 45 = some i ∧ i.zero = some z ∧ i.size = 1 ∧ i.bytes = 8 ∧ z.cells.size = 1 := by
  have h : (Tryz.prog.info? 45).map (fun i => (i.zero, i.size, i.bytes)) = some (some (.pointer none), 1, 8) := by kernel_rfl
  match hi : Tryz.prog.info? 45, h with
  | some i, h =>
    simp only [Option.map_some, Option.some.injEq, Prod.mk.injEq] at h
    exact ⟨i, .pointer none, rfl, h.1, h.2.1, h.2.2, rfl⟩
def rp (L : Nat → RLev) (k : Nat) : List Value := (List.range k).map fun n => Value.pointer (some ⟨(L n).p, 0, none⟩)
theorem rp_len (L : Nat → RLev) (k : Nat) : (rp L k).length = k := by simp [rp]
theorem rp_succ (L : Nat → RLev) (k : Nat) : rp L (k + 1) = rp L k ++ [Value.pointer (some ⟨(L k).p, 0, none⟩)] := by unfold rp; rw [List.range_succ, List.map_append]; rfl
theorem rp_cong {L L' : Nat → RLev} {k : Nat} (h : ∀ n, n < k → L n = L' n) : rp L k = rp L' k := by
  unfold rp
  apply List.map_congr_left
  intro n hn
  rw [List.mem_range] at hn
  rw [h n hn]
theorem rp_get (L : Nat → RLev) {k n : Nat} (h : n < k) : (rp L k)[n]? = some (Value.pointer (some ⟨(L n).p, 0, none⟩)) := by unfold rp; rw [List.getElem?_map, List.getElem?_range h]; rfl
/-- A level's blocks are no row of levels, nor a stack. -/
theorem RLvAt.ty {w : World} {L : RLev} {C : Cfg} {lv : Int} {l : List Int} (h : RLvAt w L C lv l) {k : Nat} (hk : L.foot C lv k) {cur : Array Value} {T : TypeId} {f : Nat × Nat} (hb : w.heap[k]? = some (.cells cur T f)) : T ≠ 45 ∧ T ≠ 48 := by
  have key : ∀ (c2 : Array Value) (T2 : TypeId) (f2 : Nat × Nat), w.heap[k]? = some (.cells c2 T2 f2) → T2 ≠ 45 → T2 ≠ 48 → T ≠ 45 ∧ T ≠ 48 := fun c2 T2 f2 h2 n1 n2 => by
    rw [hb] at h2
    injection h2 with h2
    injection h2 with _ h2 _
    rw [h2]; exact ⟨n1, n2⟩
  rcases hk with rfl | ⟨hx, hk⟩ | ⟨hx, hk⟩
  · obtain ⟨_, _, _, ⟨_, h1, _⟩ | ⟨_, h1, _⟩⟩ := h <;> exact key _ _ _ h1 (by decide) (by decide)
  · obtain ⟨_, h2⟩ := h.x hx
    rcases hk with rfl | rfl
    · obtain ⟨cap, h3, _⟩ := h2.ex; exact key _ _ _ h3 (by decide) (by decide)
    · obtain ⟨cu, h3, _⟩ := h2.cells; exact key _ _ _ h3 (by decide) (by decide)
  · obtain ⟨_, h2⟩ := h.sk hx
    rcases hk with rfl | (rfl | rfl | ⟨r, hr, rfl⟩)
    · exact key _ _ _ h2.ex (by decide) (by decide)
    · obtain ⟨cap, h3, _⟩ := h2.g.ex; exact key _ _ _ h3 (by decide) (by decide)
    · obtain ⟨cap, h3, _⟩ := h2.g.row; exact key _ _ _ h3 (by decide) (by decide)
    · obtain ⟨cap, h3, _⟩ := h2.g.cells r hr; exact key _ _ _ h3 (by decide) (by decide)
/-- Some levels that have been made. -/
structure RMade (w : World) (B0 : Nat) (C : Cfg) (k : Nat) (L : Nat → RLev) (ls : Nat → List Int) (v : Value) : Prop where
  row : w.ownsRow B0 45 1 v (rp L k).length (rp L k)
  lev : ∀ n, n < k → RLvAt w (L n) C n (ls n)
  new : ∀ n, n < k → ∀ j, (L n).foot C n j → B0 ≤ j
  sep : ∀ m n, m < k → n < k → m ≠ n → Dj ((L m).foot C m) ((L n).foot C n)
theorem RMade.zero (w : World) (B0 : Nat) (C : Cfg) (L : Nat → RLev) (ls : Nat → List Int) : RMade w B0 C 0 L ls (.slice none 0 0) :=
  ⟨⟨rfl, .inl ⟨rfl, rfl⟩⟩, by intros; omega, by intros; omega, by intros; omega⟩
theorem RMade.ext {w w' : World} {B0 k : Nat} {C : Cfg} {L : Nat → RLev} {ls : Nat → List Int} {v : Value} (h : RMade w B0 C k L ls v) (he : Ext w w') : RMade w' B0 C k L ls v :=
  ⟨own_ext h.row he, fun n hn => (h.lev n hn).ext he, h.new, h.sep⟩
theorem RMade.setc {w : World} {B0 k : Nat} {C : Cfg} {L : Nat → RLev} {ls : Nat → List Int} {v : Value} (h : RMade w B0 C k L ls v) {b : Nat} (hb : b < B0) (o : Nat) (u : Value) : RMade (w.setCell ⟨b, o, none⟩ u) B0 C k L ls v :=
  ⟨own_setc h.row hb o u, fun n hn => (h.lev n hn).keep (fun j hj => setCell_other _ _ (by have := h.new n hn j hj; omega)), h.new, h.sep⟩
/-- One more. -/
theorem RMade.next {w0 w w' : World} {B0 k : Nat} {C : Cfg} {L : Nat → RLev} {ls : Nat → List Int} {v v' : Value} {M : RLev} {l : List Int} {o : Obj} (h : RMade w0 B0 C k L ls v) (he : Ext w0 w) (hB : B0 ≤ w0.heap.size) (hM : RLvAt w M C k l) (hN : ∀ j, M.foot C k j → w0.heap.size ≤ j) (hl : l = ls k)
    (hown : w'.ownsRow B0 45 1 v' (rp L k ++ [Value.pointer (some ⟨M.p, 0, none⟩)]).length (rp L k ++ [Value.pointer (some ⟨M.p, 0, none⟩)])) (hg : (w.alloc o).grownBy w' v.ownBlock) : RMade w' B0 C (k + 1) (fun n => if n = k then M else L n) ls v' := by
  subst hl
  have hw := h.ext he
  have hkeep : ∀ {n : Nat} {K : RLev} {l : List Int}, RLvAt w K C n l → RLvAt w' K C n l := fun {n K l} hK => hK.keep (fun j hj => grown_old hg (hK.lt hj) (fun e => by
    obtain ⟨cu, hc⟩ := own_type hw.row e.symm
    exact (hK.ty hj hc).1 rfl))
  refine ⟨?_, fun n hn => ?_, fun n hn j hj => ?_, fun m n hm hn hmn => ?_⟩
  · rw [rp_succ, if_pos rfl, rp_cong (L' := L) (fun i hi => if_neg (by omega))]
    exact hown
  · by_cases e : n = k
    · subst e; rw [if_pos rfl]; exact hkeep hM
    · rw [if_neg e]; exact hkeep (hw.lev n (by omega))
  · by_cases e : n = k
    · subst e; rw [if_pos rfl] at hj; exact Nat.le_trans hB (hN j hj)
    · rw [if_neg e] at hj; exact h.new n (by omega) j hj
  · by_cases e : m = k
    · subst e
      rw [if_pos rfl, if_neg (by omega)]
      intro j h1 h2
      have a := hN j h1
      have b := (h.lev n (by omega)).lt h2
      omega
    · rw [if_neg e]
      by_cases e' : n = k
      · subst e'
        rw [if_pos rfl]
        intro j h1 h2
        have a := hN j h2
        have b := (h.lev m (by omega)).lt h1
        omega
      · rw [if_neg e']; exact h.sep m n (by omega) (by omega) hmn
/-- All levels, and the stack's own block: a stack. -/
theorem RMade.stack {w : World} {s B0 B : Nat} {C : Cfg} {L : Nat → RLev} {ls : Nat → List Int} {v : Value} (h : RMade w B0 C (B + 1) L ls v) (hok : C.Ok) (hB : C.bits = B) (hs : w.heap[s]? = some (.cells #[.int .i64 C.bits, .int .i64 C.rows, .int .i64 C.width, .int .i64 C.mode, .int .u64 C.seed, v] 48 (0, 0))) :
    ∃ t, B0 ≤ t ∧ RKAt w s t C B L ls := by
  have hl := rp_len L (B + 1)
  rcases h.row.2 with ⟨_, h0⟩ | ⟨g, cap, cur, rfl, hbg, hg, hnc, hcm, hcs, htake⟩
  · rw [hl] at h0; omega
  · rw [hl] at hs hnc
    refine ⟨g, hbg, ⟨⟨cap, hs, hnc⟩, ⟨cur, hg, fun n hn => ?_⟩, fun n hn => h.lev n (by omega), fun m n hm hn => h.sep m n (by omega) (by omega), hok, hB⟩⟩
    have h1 := h.row.cells (g := g) rfl n _ (rp_get L (show n < B + 1 by omega))
    rw [show ((⟨g, 0, none⟩ : Addr).add n) = ⟨g, n, none⟩ by (simp [Addr.add]; intro e; exact e.symm), cell_of hg] at h1
    exact h1
def RKNewPost (w : World) (C : Cfg) (B : Nat) (ls : Nat → List Int) (e : Ending) (w' : World) : Prop :=
  ∃ (s t : Nat) (L : Nat → RLev), e = .returned (.pointer (some ⟨s, 0, none⟩)) ∧ RKAt w' s t C B L ls ∧ (∀ k, rkF s t C B L k → w.heap.size ≤ k) ∧ Ext w w'
theorem RMade.post {w wr : World} {s B0 B : Nat} {C : Cfg} {L : Nat → RLev} {ls : Nat → List Int} {v : Value} (h : RMade wr B0 C (B + 1) L ls v) (hok : C.Ok) (hB : C.bits = B) (hs : wr.heap[s]? = some (.cells #[.int .i64 C.bits, .int .i64 C.rows, .int .i64 C.width, .int .i64 C.mode, .int .u64 C.seed, v] 48 (0, 0))) (hsw : w.heap.size ≤ s) (hB0 : w.heap.size ≤ B0) (hE : Ext w wr) :
    RKNewPost w C B ls (.returned (.pointer (some ⟨s, 0, none⟩))) wr := by
  obtain ⟨t, ht, hK⟩ := h.stack hok hB hs
  refine ⟨s, t, L, rfl, hK, ?_, hE⟩
  rintro k (rfl | rfl | ⟨n, hn, hk⟩)
  · exact hsw
  · omega
  · exact Nat.le_trans hB0 (h.new n (by omega) k hk)
set_option maxRecDepth 20000 in
set_option maxHeartbeats 8000000 in
theorem RKNew_c (C : Cfg) (hok : C.Ok) (B : Nat) (hB : C.bits = B) (w : World) :
    Calls Tryz.prog 17 #[.agg #[.int .i64 C.bits, .int .i64 C.rows, .int .i64 C.width, .int .i64 C.mode, .int .u64 C.seed]] w (RKNewPost w C B (fun n => zs (lvN C n))) := by
  have hb2 := hok.b2
  have hbd : B ≤ 59 := by omega
  have HB := Lib.hid hB
  obtain ⟨W0, hW0⟩ : ∃ W0, w.alloc (.cells #[.int .i64 C.bits, .int .i64 C.rows, .int .i64 C.width, .int .i64 C.mode, .int .u64 C.seed] 24) = W0 := ⟨_, rfl⟩
  have hCb : W0.heap[w.heap.size]? = some (.cells #[.int .i64 C.bits, .int .i64 C.rows, .int .i64 C.width, .int .i64 C.mode, .int .u64 C.seed] 24 (0, 0)) := by rw [← hW0]; exact heap_at _ _ rfl
  have hE : Ext w W0 := by rw [← hW0]; exact Ext.alloc' _ _
  have hsz : W0.heap.size = w.heap.size + 1 := by rw [← hW0, size_alloc]
  have hC := CfgAt.of hCb
  have c0 := hC.c0
  have c1 := hC.c1
  have c2 := hC.c2
  have c3 := hC.c3
  have c4 := hC.c4
  have cl := hC.lt
  have HCB := Lib.hid hCb
  have HSZ := Lib.hid hsz
  clear hC hB hCb hsz hb2
  go_enter Tryz.func17, Tryz.ntmps17
  go_upto_region 1 with (fail)
  try rw [hW0]
  clear hW0
  go_wp2_with fail
  clear c0 c1 c2 c3 c4 cl
  go_loopw [4] (fun u4 wr => ∃ (k : Nat) (L : Nat → RLev) (v : Value), k ≤ B + 1 ∧ u4 = .int .i64 k ∧ Ext W0 wr ∧ wr.heap[W0.heap.size]? = some (.cells #[.int .i64 C.bits, .int .i64 C.rows, .int .i64 C.width, .int .i64 C.mode, .int .u64 C.seed, v] 48 (0, 0)) ∧ RMade wr (W0.heap.size + 1) C k L (fun n => zs (lvN C n)) v) (fun u4 _ => B + 1 - (intOf u4).toNat)
  case atStart => exact ⟨0, fun _ => ⟨0, 0, ⟨0, 0, fun _ => 0, fun _ => 0⟩⟩, _, Nat.zero_le _, rfl, Ext.alloc' _ _, heap_at _ _ rfl, RMade.zero _ _ _ _ _⟩
  case round =>
    obtain ⟨k, L, v, hk, rfl, hE0, hbx, hM⟩ := hrel
    have hCq := CfgAt.of (hE0.keep HCB.out)
    have c0 := hCq.c0
    have c1 := hCq.c1
    have c2 := hCq.c2
    have c3 := hCq.c3
    have c4 := hCq.c4
    have cl := hCq.lt
    have hbl := lt_of hbx
    have HBX := Lib.hid hbx
    have HM := Lib.hid hM
    clear hCq hM
    by_cases hlt : k < B + 1
    · have hle : (k : Int) ≤ C.bits := by have := HB.out; omega
      have b5 := (cell_of hbx 5).trans rfl
      have HL := Lib.hid (fun W' => RLNew_c C hok k (Int.natCast_nonneg k) hle W')
      obtain ⟨S, hSS⟩ : ∃ S : Nat → Prop, ∀ i, S i ↔ v.ownBlock = some i := ⟨_, fun _ => Iff.rfl⟩
      have n1 : ¬ S w.heap.size := fun h => by have := own_blk HM.out.row ((hSS _).1 h); have := HSZ.out; omega
      have n2 : ¬ S W0.heap.size := fun h => by have := own_blk HM.out.row ((hSS _).1 h); omega
      have HSS := Lib.hid hSS
      clear hbx hSS
      go_wp2_with fail
      have hC0 := afs_drew S wr
      refine pi_start (fun w' => ∃ z : AftS S wr, w' = z.w) [12] (by kernel_rfl) ?_
      refine pi_t 0 rfl (by kernel_rfl) (by kernel_rfl) (fun _ _ _ _ h => h) (fun K hK => ?_)
      go_big_quiet_op
      refine hK _ ?_
      clear hK K
      refine pi_t 1 rfl (by kernel_rfl) (by kernel_rfl) (fun _ _ _ _ h => h) (fun K hK => ?_)
      go_big_quiet_op
      refine hK _ ?_
      clear hK K
      refine pi_t 2 rfl (by kernel_rfl) (by kernel_rfl) (fun _ _ _ _ h => h) (fun K hK => ?_)
      go_big_quiet_op
      refine hK _ ?_
      clear hK K
      refine pi_t 3 rfl (by kernel_rfl) (by kernel_rfl) (fun _ _ _ _ h => h) (fun K hK => ?_)
      go_big_quiet_op
      refine hK _ ?_
      clear hK K
      refine pi_t 6 rfl (by kernel_rfl) (by kernel_rfl) (fun _ _ _ _ h => h) (fun K hK => ?_)
      go_big_quiet_op
      refine hK _ ?_
      clear hK K
      refine pi_c 4 (by assumption) rfl (by kernel_rfl) (by kernel_rfl) (fun _ _ _ _ h => h) (fun K hK => ?_)
      go_big_quiet_op
      refine hK _ ?_
      clear hK K
      refine pi_c 5 (by assumption) rfl (by kernel_rfl) (by kernel_rfl) (fun _ _ _ _ h => h) (fun K hK => ?_)
      go_big_quiet_op
      refine hK _ ?_
      clear hK K
      refine pi_l 7 rfl (by kernel_rfl) (fun K hK => ?_)
      go_wp2_with (go_at_call 37; refine Calls.mono (HL.out _) ?_; rintro e wt ⟨M, rfl, hMv, hMf, hxt⟩)
      have hEt : Ext wr wt := Ext.trans' (Below.drew (Ext.refl wr)) hxt
      refine hK _ _ (fun _ h => afs_step h hxt) ?_
      clear hK K
      have HMV := Lib.hid hMv
      have HMF := Lib.hid (show ∀ j, M.foot C k j → wr.heap.size ≤ j from hMf)
      have HR := Lib.hid (HM.out.ext hEt).row
      have hz := hE0.size
      have hzt := hEt.size
      obtain ⟨i0, z0, hi0, hz0, hz1, hz2, hz3⟩ := info_lp
      clear hMv hMf hxt
      refine pi_l 8 rfl (by kernel_rfl) (fun K hK => ?_)
      go_wp2
      refine hK _ _ (fun _ h => afs_step h (Ext.alloc' _ _)) ?_
      clear hK K
      refine pi_l 9 rfl (by kernel_rfl) (fun K hK => ?_)
      go_wp2_with (at_builtin; refine wpList_appB wt 8 (by decide) (.pointer (some ⟨M.p, 0, none⟩)) rfl (rp L k) v (W0.heap.size + 1) 45 HR.out 46 rfl _ _ rfl i0 z0 hi0 hz0 hz1 hz2 hz3 Tryz.underlying46 (by rfl) (by rfl) ?b1 ?b2 ?_)
      case b1 => rw [rp_len]; omega
      case b2 => omega
      intro v' wf g1 g2
      have hEf : Ext W0 wf := ext_grown (hE0.trans' hEt) g2 (fun i hi => by have := own_blk HR.out hi; omega)
      have hnext := HM.out.next hEt (by omega) HMV.out HMF.out rfl (by rw [List.length_append]; exact g1) g2
      have hbf := (grown_old g2 (show W0.heap.size < wt.heap.size by omega) (fun e => by have := own_blk HR.out e.symm; omega)).trans (hEt.keep HBX.out)
      have HN := Lib.hid hnext
      have f5 := frozen_of hbf 5
      have q5 := (cell_of hbf 5).trans rfl
      have ql := lt_of hbf
      have HBF := Lib.hid hbf
      obtain ⟨pv, nv, cv, rfl⟩ := own_slice g1
      have hmf : Mod S wr wf := mod_grown (hEt.mod _) g2 (fun i hi => (HSS.out i).2 hi)
      clear g1 g2 hnext hbf
      go_wp2
      refine hK _ _ (fun _ _ => ⟨⟨wf, hmf⟩, rfl⟩) ?_
      clear hK K
      refine pi_t 10 rfl (by kernel_rfl) (by kernel_rfl) (fun _ _ _ _ h => h) (fun K hK => ?_)
      go_big_quiet_op
      refine hK _ ?_
      clear hK K
      refine pi_t 11 rfl (by kernel_rfl) (by kernel_rfl) (fun _ _ _ _ h => h) (fun K hK => ?_)
      go_big_quiet_op
      refine hK _ ?_
      clear hK K
      refine pi_l 12 rfl (by kernel_rfl) (fun K hK => ?_)
      go_wp2
      refine hK _ _ (by simp) ?_
      clear hK K
      refine pi_end (by kernel_rfl) ?_
      go_wp2_with fail
      go_roundw
      case rel => exact ⟨k + 1, _, _, by omega, by go_num, hEf.setR (p := ⟨W0.heap.size, 5, none⟩) (Nat.le_refl _) _, (setCell_same HBF.out 5 _).trans rfl, HN.out.setc (by omega) _ _⟩
      case measure => simp [intOf]; omega
    · obtain rfl : k = B + 1 := by omega
      have hgt : ¬ (((B + 1 : Nat) : Int) ≤ C.bits) := by have := HB.out; omega
      have hgt2 : decide (((B + 1 : Nat) : Int) ≤ C.bits) = false := decide_eq_false hgt
      clear hbx
      go_wp2
      go_ret
      exact HM.out.post hok HB.out HBX.out hE.size (by have := HSZ.out; omega) (hE.trans' hE0)
end Go.Proofs.YtfhdjekpdifajaaGreat
namespace Go.Proofs.YtfhdjekpdifajaaGreat
set_option linter.unusedVariables false
open Go.RowKit
set_option maxRecDepth 20000 in
set_option maxHeartbeats 8000000 in
theorem RKCopy_c (s t : Nat) (C : Cfg) (B : Nat) (L0 : Nat → RLev) (ls : Nat → List Int) (w : World) (h : RKAt w s t C B L0 ls) :
    Calls Tryz.prog 21 #[.pointer (some ⟨s, 0, none⟩)] w (RKNewPost w C B ls) := by
  have hok := h.ok
  have hb2 := hok.b2
  have hB := h.hB
  have hbd : B ≤ 59 := by omega
  have HB := Lib.hid hB
  have HH := Lib.hid h
  have hls := h.lts
  obtain ⟨cap, hex, hcap⟩ := h.ex
  have c0 := (cell_of hex 0).trans rfl
  have c1 := (cell_of hex 1).trans rfl
  have c2 := (cell_of hex 2).trans rfl
  have c3 := (cell_of hex 3).trans rfl
  have c4 := (cell_of hex 4).trans rfl
  have HEX := Lib.hid hex
  clear hex h hB hb2
  go_enter Tryz.func21, Tryz.ntmps21
  go_wp2_with fail
  clear c0 c1 c2 c3 c4
  go_loopw [4] (fun u4 wr => ∃ (k : Nat) (L : Nat → RLev) (v : Value), k ≤ B + 1 ∧ u4 = .int .i64 k ∧ Ext w wr ∧ wr.heap[w.heap.size]? = some (.cells #[.int .i64 C.bits, .int .i64 C.rows, .int .i64 C.width, .int .i64 C.mode, .int .u64 C.seed, v] 48 (0, 0)) ∧ RMade wr (w.heap.size + 1) C k L ls v) (fun u4 _ => B + 1 - (intOf u4).toNat)
  case atStart => exact ⟨0, fun _ => ⟨0, 0, ⟨0, 0, fun _ => 0, fun _ => 0⟩⟩, _, Nat.zero_le _, rfl, Ext.alloc' _ _, heap_at _ _ rfl, RMade.zero _ _ _ _ _⟩
  case round =>
    obtain ⟨k, L, v, hk, rfl, hE0, hbx, hM⟩ := hrel
    have hHr := HH.out.ext hE0
    have e5 := (cell_of (hE0.keep HEX.out) 5).trans rfl
    have el := hHr.lts
    have hbl := lt_of hbx
    have HBX := Lib.hid hbx
    have HM := Lib.hid hM
    clear hM
    by_cases hlt : k < B + 1
    · have b5 := (cell_of hbx 5).trans rfl
      have ck := hHr.cell (show k ≤ B by omega)
      have lt0 := hHr.ltt
      have HL := Lib.hid (fun W' (hW : Ext wr W') => RLCopy_c (L0 k) C k (ls k) W' ((hHr.lev k (by omega)).ext hW))
      obtain ⟨S, hSS⟩ : ∃ S : Nat → Prop, ∀ i, S i ↔ v.ownBlock = some i := ⟨_, fun _ => Iff.rfl⟩
      have n1 : ¬ S s := fun h => by have := own_blk HM.out.row ((hSS _).1 h); omega
      have n2 : ¬ S w.heap.size := fun h => by have := own_blk HM.out.row ((hSS _).1 h); omega
      have n3 : ¬ S t := fun h => by have := own_blk HM.out.row ((hSS _).1 h); have := HH.out.ltt; omega
      have hkz : (k : Int) < (B : Int) + 1 := by omega
      have HSS := Lib.hid hSS
      clear hbx hSS hHr
      go_wp2_with fail
      have hC0 := afs_drew S wr
      refine pi_start (fun w' => ∃ z : AftS S wr, w' = z.w) [17] (by kernel_rfl) ?_
      refine pi_t 0 rfl (by kernel_rfl) (by kernel_rfl) (fun _ _ _ _ h => h) (fun K hK => ?_)
      go_big_quiet_op
      refine hK _ ?_
      clear hK K
      refine pi_t 1 rfl (by kernel_rfl) (by kernel_rfl) (fun _ _ _ _ h => h) (fun K hK => ?_)
      go_big_quiet_op
      refine hK _ ?_
      clear hK K
      refine pi_t 2 rfl (by kernel_rfl) (by kernel_rfl) (fun _ _ _ _ h => h) (fun K hK => ?_)
      go_big_quiet_op
      refine hK _ ?_
      clear hK K
      refine pi_t 3 rfl (by kernel_rfl) (by kernel_rfl) (fun _ _ _ _ h => h) (fun K hK => ?_)
      go_big_quiet_op
      refine hK _ ?_
      clear hK K
      refine pi_t 5 rfl (by kernel_rfl) (by kernel_rfl) (fun _ _ _ _ h => h) (fun K hK => ?_)
      go_big_quiet_op
      refine hK _ ?_
      clear hK K
      refine pi_t 6 rfl (by kernel_rfl) (by kernel_rfl) (fun _ _ _ _ h => h) (fun K hK => ?_)
      go_big_quiet_op
      refine hK _ ?_
      clear hK K
      refine pi_t 7 rfl (by kernel_rfl) (by kernel_rfl) (fun _ _ _ _ h => h) (fun K hK => ?_)
      go_big_quiet_op
      refine hK _ ?_
      clear hK K
      refine pi_t 9 rfl (by kernel_rfl) (by kernel_rfl) (fun _ _ _ _ h => h) (fun K hK => ?_)
      go_big_quiet_op
      refine hK _ ?_
      clear hK K
      refine pi_c 4 (by assumption) rfl (by kernel_rfl) (by kernel_rfl) (fun _ _ _ _ h => h) (fun K hK => ?_)
      go_big_quiet_op
      refine hK _ ?_
      clear hK K
      refine pi_c 8 (by assumption) rfl (by kernel_rfl) (by kernel_rfl) (fun _ _ _ _ h => h) (fun K hK => ?_)
      go_big_quiet_op
      refine hK _ ?_
      clear hK K
      refine pi_t 10 rfl (by kernel_rfl) (by kernel_rfl) (fun _ _ _ _ h => h) (fun K hK => ?_)
      go_big_quiet_op
      refine hK _ ?_
      clear hK K
      refine pi_c 11 (by assumption) rfl (by kernel_rfl) (by kernel_rfl) (fun _ _ _ _ h => h) (fun K hK => ?_)
      go_big_quiet_op
      refine hK _ ?_
      clear hK K
      refine pi_l 12 rfl (by kernel_rfl) (fun K hK => ?_)
      go_wp2_with (go_at_call 39; refine Calls.mono (HL.out _ (Below.drew (Ext.refl wr))) ?_; rintro e wt ⟨M, rfl, hMv, hMf, hxt⟩)
      have hEt : Ext wr wt := Ext.trans' (Below.drew (Ext.refl wr)) hxt
      refine hK _ _ (fun _ h => afs_step h hxt) ?_
      clear hK K
      have HMV := Lib.hid hMv
      have HMF := Lib.hid (show ∀ j, M.foot C k j → wr.heap.size ≤ j from hMf)
      have HR := Lib.hid (HM.out.ext hEt).row
      have hz := hE0.size
      have hzt := hEt.size
      obtain ⟨i0, z0, hi0, hz0, hz1, hz2, hz3⟩ := info_lp
      clear hMv hMf hxt
      refine pi_l 13 rfl (by kernel_rfl) (fun K hK => ?_)
      go_wp2
      refine hK _ _ (fun _ h => afs_step h (Ext.alloc' _ _)) ?_
      clear hK K
      refine pi_l 14 rfl (by kernel_rfl) (fun K hK => ?_)
      go_wp2_with (at_builtin; refine wpList_appB wt 8 (by decide) (.pointer (some ⟨M.p, 0, none⟩)) rfl (rp L k) v (w.heap.size + 1) 45 HR.out 46 rfl _ _ rfl i0 z0 hi0 hz0 hz1 hz2 hz3 Tryz.underlying46 (by rfl) (by rfl) ?b1 ?b2 ?_)
      case b1 => rw [rp_len]; omega
      case b2 => omega
      intro v' wf g1 g2
      have hEf : Ext w wf := ext_grown (hE0.trans' hEt) g2 (fun i hi => by have := own_blk HR.out hi; omega)
      have hnext := HM.out.next hEt (by omega) HMV.out HMF.out rfl (by rw [List.length_append]; exact g1) g2
      have hbf := (grown_old g2 (show w.heap.size < wt.heap.size by omega) (fun e => by have := own_blk HR.out e.symm; omega)).trans (hEt.keep HBX.out)
      have HN := Lib.hid hnext
      have f5 := frozen_of hbf 5
      have q5 := (cell_of hbf 5).trans rfl
      have ql := lt_of hbf
      have HBF := Lib.hid hbf
      obtain ⟨pv, nv, cv, rfl⟩ := own_slice g1
      have hmf : Mod S wr wf := mod_grown (hEt.mod _) g2 (fun i hi => (HSS.out i).2 hi)
      clear g1 g2 hnext hbf
      go_wp2
      refine hK _ _ (fun _ _ => ⟨⟨wf, hmf⟩, rfl⟩) ?_
      clear hK K
      refine pi_t 15 rfl (by kernel_rfl) (by kernel_rfl) (fun _ _ _ _ h => h) (fun K hK => ?_)
      go_big_quiet_op
      refine hK _ ?_
      clear hK K
      refine pi_t 16 rfl (by kernel_rfl) (by kernel_rfl) (fun _ _ _ _ h => h) (fun K hK => ?_)
      go_big_quiet_op
      refine hK _ ?_
      clear hK K
      refine pi_l 17 rfl (by kernel_rfl) (fun K hK => ?_)
      go_wp2
      refine hK _ _ (by simp) ?_
      clear hK K
      refine pi_end (by kernel_rfl) ?_
      go_wp2_with fail
      go_roundw
      case rel => exact ⟨k + 1, _, _, by omega, by go_num, hEf.setR (p := ⟨w.heap.size, 5, none⟩) (Nat.le_refl _) _, (setCell_same HBF.out 5 _).trans rfl, HN.out.setc (by omega) _ _⟩
      case measure => simp [intOf]; omega
    · obtain rfl : k = B + 1 := by omega
      clear hbx hHr
      go_wp2
      go_ret
      exact HM.out.post hok HB.out HBX.out (Nat.le_refl _) (Nat.le_succ _) hE0
def RKUpdPost (w : World) (s : Nat) (C : Cfg) (B : Nat) (ls : Nat → List Int) (key d : Int) (e : Ending) (w' : World) : Prop :=
  e = .returned (.int .i64 (errK C B ls key d)) ∧ ((errK C B ls key d = 0 ∧ ∃ t L, RKAt w' s t C B L (updK C ls key d) ∧ (∀ k, rkF s t C B L k → k = s ∨ w.heap.size ≤ k) ∧ Mod (fun k => k = s) w w') ∨ (errK C B ls key d ≠ 0 ∧ Ext w w'))
theorem errs_first {C : Cfg} {ls : Nat → List Int} {key d : Int} {n : Nat} (h0 : ∀ m, m < n → lvE C m (ls m) (sh m key) d = 0) (hn : lvE C n (ls n) (sh n key) d ≠ 0) : ∀ {m : Nat}, n < m → errs C ls key d m = lvE C n (ls n) (sh n key) d := by
  intro m hm
  induction m with
  | zero => omega
  | succ m ih =>
    by_cases e : m = n
    · subst e
      show fst_ (errs C ls key d m) _ = _
      rw [errs_zero.2 h0]; rfl
    · show fst_ (errs C ls key d m) _ = _
      rw [ih (by omega)]
      unfold fst_
      rw [decide_eq_false hn]; rfl
theorem errK_neg {C : Cfg} (hok : C.Ok) {B : Nat} (hB : C.bits = B) {ls : Nat → List Int} {key d : Int} (hk0 : 0 ≤ key) (hk : key < keys C 0) (hm : C.mode = 2) (hd : d < 0) : errK C B ls key d = 3 := by
  have h0 : lvE C (0 : Nat) (ls 0) (sh 0 key) d = 3 := by
    have hs : sh 0 key < keys C (0 : Nat) := sh_lt hok (by omega) hk0 hk
    cases hx : isX C (0 : Nat) with
    | true => rw [lvE_x hx]; exact errX_neg hs hm hd
    | false => rw [lvE_s hx]; exact errU_neg hs hm hd
  unfold errK
  rw [decide_eq_false (by omega)]
  show errs C ls key d (B + 1) = 3
  rw [errs_first (n := 0) (fun m hm => by omega) (by rw [h0]; decide) (Nat.succ_pos B), h0]
/-- A stack in which some levels have been told of an update. -/
theorem RKAt.put {w w' : World} {s t : Nat} {C : Cfg} {B : Nat} {L : Nat → RLev} {ls : Nat → List Int} (h : RKAt w s t C B L ls) {n : Nat} (hn : n ≤ B) {l : List Int} (hm : Mod ((L n).foot C n) w w') (hl : RLvAt w' (L n) C n l) : RKAt w' s t C B L (fun m => if m = n then l else ls m) := by
  have ty : ∀ {k : Nat} {cur : Array Value} {T : TypeId} {f : Nat × Nat}, w.heap[k]? = some (.cells cur T f) → (T = 45 ∨ T = 48) → ¬ (L n).foot C n k := fun hb hT hf => by
    have := (h.lev n hn).ty hf hb
    rcases hT with rfl | rfl
    · exact this.1 rfl
    · exact this.2 rfl
  obtain ⟨cap, h1, h2⟩ := h.ex
  obtain ⟨cur, h3, h4⟩ := h.row
  refine ⟨⟨cap, hm.keep h1 (ty h1 (.inr rfl)), h2⟩, ⟨cur, hm.keep h3 (ty h3 (.inl rfl)), h4⟩, fun m hm' => ?_, h.sep, h.ok, h.hB⟩
  by_cases e : m = n
  · subst e; rw [if_pos rfl]; exact hl
  · rw [if_neg e]; exact (h.lev m hm').mod hm (fun k hk hf => h.sep m n hm' hn e k hk hf)
theorem RKAt.cong {w : World} {s t : Nat} {C : Cfg} {B : Nat} {L : Nat → RLev} {ls ls' : Nat → List Int} (h : RKAt w s t C B L ls) (he : ∀ n, n ≤ B → ls n = ls' n) : RKAt w s t C B L ls' :=
  ⟨h.ex, h.row, fun n hn => he n hn ▸ h.lev n hn, h.sep, h.ok, h.hB⟩
def partU (C : Cfg) (ls : Nat → List Int) (key d : Int) (k n : Nat) : List Int := if n < k then updK C ls key d n else ls n
set_option maxRecDepth 20000 in
set_option maxHeartbeats 8000000 in
theorem RKUpdate_c (s t : Nat) (C : Cfg) (B : Nat) (L0 : Nat → RLev) (ls : Nat → List Int) (key d : Int) (w : World) (h : RKAt w s t C B L0 ls) (hk : U64 key) (hd : I64 d) :
    Calls Tryz.prog 27 #[.pointer (some ⟨s, 0, none⟩), .int .u64 key, .int .i64 d] w (RKUpdPost w s C B ls key d) := by
  obtain ⟨hk0, hk1⟩ := hk
  have hok := h.ok
  have hb1 := hok.b1
  have hb2 := hok.b2
  have hB := h.hB
  have hbd : B ≤ 59 := by omega
  have HB := Lib.hid hB
  have HH := Lib.hid h
  have hls := h.lts
  obtain ⟨cap, hex, hcap⟩ := h.ex
  have c0 := (cell_of hex 0).trans rfl
  have c1 := (cell_of hex 1).trans rfl
  have c2 := (cell_of hex 2).trans rfl
  have c3 := (cell_of hex 3).trans rfl
  have c4 := (cell_of hex 4).trans rfl
  have HKY := Lib.hid (fun W' => KeysR_c C hok 0 (Int.le_refl 0) (by omega) W')
  have HD := Lib.hid hd
  have HEX := Lib.hid hex
  clear hex h hB hd
  by_cases hge : keys C 0 ≤ key
  · have he : errK C B ls key d = 2 := by unfold errK; rw [decide_eq_true hge]; rfl
    have hge' : decide (keys C 0 ≤ key) = true := decide_eq_true hge
    unfold RKUpdPost
    rw [he]
    clear he
    go_enter Tryz.func27, Tryz.ntmps27
    go_wp2_with fail
    refine Calls.mono (HKY.out _) ?_
    rintro e w1 ⟨rfl, hx1⟩
    go_wp2
    go_ret
    exact ⟨rfl, by first | exact .inr ⟨by decide, hx1⟩ | exact hx1⟩
  · have hlt : key < keys C 0 := by omega
    have hge' : decide (keys C 0 ≤ key) = false := decide_eq_false hge
    by_cases hmd : C.mode = 2 ∧ d < 0
    · have he : errK C B ls key d = 3 := errK_neg hok HB.out hk0 hlt hmd.1 hmd.2
      obtain ⟨hm, hdn⟩ := hmd
      have hm' : (C.mode == 2) = true := by simpa using hm
      have hdn' : decide (d < 0) = true := decide_eq_true hdn
      unfold RKUpdPost
      rw [he]
      clear he hm
      go_enter Tryz.func27, Tryz.ntmps27
      go_wp2_with fail
      refine Calls.mono (HKY.out _) ?_
      rintro e w1 ⟨rfl, hx1⟩
      have d3 := ((bcell hx1).1 _ _ hls).trans c3
      have dl := Nat.lt_of_lt_of_le hls hx1.size
      go_wp2
      go_ret
      exact ⟨rfl, by first | exact .inr ⟨by decide, hx1⟩ | exact hx1⟩
    · have HNG := Lib.hid hmd
      have herr : errK C B ls key d = errs C ls key d (B + 1) := by unfold errK; rw [hge']; rfl
      have HERR := Lib.hid herr
      clear herr hmd
      go_enter Tryz.func27, Tryz.ntmps27
      go_wp2_with fail
      refine Calls.mono (HKY.out _) ?_
      rintro e w1 ⟨rfl, hx1⟩
      have d3 := ((bcell hx1).1 _ _ hls).trans c3
      have dl := Nat.lt_of_lt_of_le hls hx1.size
      clear c0 c1 c2 c3 c4
      go_upto_region 3 with (fail)
      go_cut [26] (fun s26 wx => s26 = .bool false ∧ wx = w1)
      case first =>
        by_cases hm : C.mode = 2
        · have hm' : (C.mode == 2) = true := by simpa using hm
          have hdn' : decide (d < 0) = false := decide_eq_false (fun h => HNG.out ⟨hm, h⟩)
          have hdn2 : 0 ≤ d := Int.not_lt.mp (fun h => HNG.out ⟨hm, h⟩)
          clear hm
          go_wp2_with fail
          go_meet
          exact ⟨by first | rfl | simp, rfl⟩
        · have hm' : (C.mode == 2) = false := by simpa using hm
          clear hm
          go_wp2_with fail
          go_meet
          exact ⟨rfl, rfl⟩
      case rest =>
        obtain ⟨rfl, rfl⟩ := hcut
        rename World => w1
        clear d3
        have HCP := Lib.hid (RKCopy_c s t C B L0 ls w1 (HH.out.ext hx1))
        go_wp2_with fail
        refine Calls.mono HCP.out ?_
        rintro e w2 ⟨a, t2, L2, rfl, hK2, hF2, hx2⟩
        have HF2 := Lib.hid (show ∀ k, rkF a t2 C B L2 k → w1.heap.size ≤ k from hF2)
        have HK2 : Hid (RKAt w2 a t2 C B L2 (partU C ls key d 0)) := Lib.hid (hK2.cong (fun n _ => by unfold partU; rw [if_neg (Nat.not_lt_zero _)]))
        have hE2 := hx1.trans' hx2
        have hz1 := hx1.size
        clear hK2 hF2 hx2 hx1 dl
        go_wp2_with fail
        go_loopw [8] (fun u8 wr => ∃ k : Nat, k ≤ B + 1 ∧ u8 = .int .i64 k ∧ RKAt wr a t2 C B L2 (partU C ls key d k) ∧ Ext w wr ∧ ∀ m, m < k → lvE C m (ls m) (sh m key) d = 0) (fun u8 _ => B + 1 - (intOf u8).toNat)
        case atStart => exact ⟨0, Nat.zero_le _, rfl, HK2.out, hE2, fun m hm => absurd hm (Nat.not_lt_zero _)⟩
        case round =>
          clear hE2
          obtain ⟨k, hk, rfl, hK, hE, hz⟩ := hrel
          have HZ := Lib.hid hz
          have HK := Lib.hid hK
          have e5 := (cell_of (hE.keep HEX.out) 5).trans rfl
          have el := Nat.lt_of_lt_of_le hls hE.size
          obtain ⟨cap2, hex2, hcap2⟩ := hK.ex
          have a5 := (cell_of hex2 5).trans rfl
          have al := lt_of hex2
          have ltt := hK.ltt
          by_cases hlt2 : k < B + 1
          · have ck := hK.cell (show k ≤ B by omega)
            have hlk := hK.lev k (by omega)
            have hpk : partU C ls key d k k = ls k := by unfold partU; rw [if_neg (Nat.lt_irrefl _)]
            rw [hpk] at hlk
            have hs0 : 0 ≤ sh k key := sh_nn hk0 k
            have hs1 : sh k key < keys C k := sh_lt hok (by have := HB.out; omega) hk0 hlt
            have hs2 := keys_bd C hok k (Int.natCast_nonneg k)
            have hcall : Calls Tryz.prog 40 #[.pointer (some ⟨(L2 k).p, 0, none⟩), .int .u64 (key / 2 ^ k), .int .i64 d] wr (RLUpdPost wr (L2 k) C k (ls k) (sh k key) d) := RLUpdate_c (L2 k) C k (ls k) (sh k key) d wr hlk (by unfold U64; omega) HD.out
            have HCALL := Lib.hid hcall
            have hkz : (k : Int) < (B : Int) + 1 := by omega
            have hk63 : k ≤ 63 := by omega
            clear hz hK hex2 hlk hpk hs0 hs1 hs2 hcall
            go_wp2_with fail
            refine Calls.mono HCALL.out ?_
            rintro e w5 ⟨rfl, hres⟩
            have HRES := Lib.hid hres
            clear hres HCALL
            by_cases he : lvE C k (ls k) (sh k key) d = 0
            · obtain ⟨_, hl5, hM5⟩ := HRES.out.resolve_right (fun h => h.1 he)
              have HL5 := Lib.hid hl5
              have hput := HK.out.put (show k ≤ B by omega) hM5 hl5
              have hE5 : Ext w w5 := Below.trans hE (hM5.below (B := w.heap.size) hE.size (fun j hj => by have := HF2.out j (.inr (.inr ⟨k, by omega, hj⟩)); omega))
              have HPUT : Hid (RKAt w5 a t2 C B L2 (partU C ls key d (k + 1))) := Lib.hid (hput.cong (fun n _ => by
                unfold partU
                by_cases e : n = k
                · subst e; rw [if_pos rfl, if_pos (Nat.lt_succ_self _)]; rfl
                · rw [if_neg e]
                  by_cases e2 : n < k
                  · rw [if_pos e2, if_pos (by omega)]
                  · rw [if_neg e2, if_neg (by omega)]))
              have HE0 := Lib.hid he
              rw [he]
              clear hl5 hM5 hput he HRES
              go_wp2
              go_roundw
              case rel =>
                refine ⟨k + 1, by omega, by go_num, HPUT.out, hE5, fun m hm => ?_⟩
                by_cases e : m = k
                · rw [e]; exact HE0.out
                · exact HZ.out m (by omega)
              case measure => simp [intOf]; omega
            · obtain ⟨_, hx5⟩ := HRES.out.resolve_left (fun h => he h.1)
              have hfin : errK C B ls key d = lvE C k (ls k) (sh k key) d := by rw [HERR.out]; exact errs_first HZ.out he (by omega)
              clear HRES
              generalize lvE C k (ls k) (sh k key) d = er at *
              have HFIN := Lib.hid hfin
              have HE0 := Lib.hid he
              have heb : (er != 0) = true := by simpa using he
              have hEf := hE.trans' hx5
              clear he hfin
              go_wp2
              go_ret
              exact ⟨by rw [HFIN.out]; rfl, .inr ⟨by rw [HFIN.out]; exact HE0.out, hEf⟩⟩
          · obtain rfl : k = B + 1 := by omega
            have fe := frozen_of (hE.keep HEX.out) 5
            have HEXR := Lib.hid (hE.keep HEX.out)
            have h0 : errK C B ls key d = 0 := by rw [HERR.out]; exact errs_zero.2 HZ.out
            have H0 := Lib.hid h0
            clear hz hK hex2 h0
            go_wp2
            go_ret
            refine ⟨by rw [H0.out]; rfl, .inl ⟨H0.out, t2, L2, ⟨⟨cap2, (setCell_same HEXR.out 5 _).trans rfl, hcap2⟩, ?_, fun n hn => ?_, HK.out.sep, hok, HB.out⟩, ?_, (hE.mod _).trans (mod_set _ _ _ _)⟩⟩
            · obtain ⟨cur, h3, h4⟩ := HK.out.row
              exact ⟨cur, (setCell_other _ _ (by have := HF2.out t2 (.inr (.inl rfl)); omega)).trans h3, h4⟩
            · have hl := HK.out.lev n hn
              have hp : partU C ls key d (B + 1) n = updK C ls key d n := by unfold partU; rw [if_pos (by omega)]
              rw [hp] at hl
              exact hl.keep (fun j hj => setCell_other _ _ (by have := HF2.out j (.inr (.inr ⟨n, hn, hj⟩)); omega))
            · rintro j (rfl | rfl | ⟨n, hn, hj⟩)
              · exact .inl rfl
              · exact .inr (by have := HF2.out j (.inr (.inl rfl)); omega)
              · exact .inr (by have := HF2.out j (.inr (.inr ⟨n, hn, hj⟩)); omega)
end Go.Proofs.YtfhdjekpdifajaaGreat
namespace Go.Proofs.YtfhdjekpdifajaaGreat
set_option linter.unusedVariables false
open Go.RowKit
attribute [local go_sem] Oper.semAt_some
/-- A slice of pieces that lies below a block. -/
def PcsAt (n₀ : Nat) (W : World) (v : Value) (ps : List (Nat × Int)) : Prop :=
  (v = .slice none 0 0 ∧ ps = []) ∨ ∃ g cap, v = .slice (some ⟨g, 0, none⟩) ps.length cap ∧ g < n₀ ∧ PCells W g 0 ps
theorem PcsAt.below {n₀ : Nat} {A B : World} {v : Value} {ps : List (Nat × Int)} (h : PcsAt n₀ A v ps) (hb : Below n₀ A B) : PcsAt n₀ B v ps := by
  rcases h with h | ⟨g, cap, h1, h2, h3⟩
  · exact .inl h
  · exact .inr ⟨g, cap, h1, h2, fun k hk => ⟨(hb.cell (p := ⟨g, _, none⟩) h2).trans (h3 k hk).1, (hb.cell (p := ⟨g, _, none⟩) h2).trans (h3 k hk).2⟩⟩
theorem getD_in {ps : List (Nat × Int)} {k : Nat} (h : k < ps.length) : ps.getD k (0, 0) ∈ ps := by simp [h]
end Go.Proofs.YtfhdjekpdifajaaGreat
namespace Go.Proofs.YtfhdjekpdifajaaGreat
set_option linter.unusedVariables false
open Go.RowKit
/-- The config that a play of a stack stands for. -/
def kcfg (x : Cfg) (nb m : Int) : Cfg := if 0 < m then { mkC x nb 9 with mode := m } else mkC x nb 9
theorem kcfg_ok (x : Cfg) (hs : U64 x.seed) {nb m : Int} (h1 : 1 ≤ nb) (h2 : nb ≤ 20) (h3 : m ≤ 3) : (kcfg x nb m).Ok := by
  have h := mkC_ok x hs (nb := nb) (nw := 9) h1 h2 (by decide) (by decide)
  unfold kcfg
  split
  · exact ⟨h.b1, h.b2, h.r1, h.r2, h.w1, h.w2, by show 1 ≤ m; omega, h3, h.s⟩
  · exact h
theorem kcfg_pos (x : Cfg) (nb : Int) {m : Int} (h : 0 < m) : (mkC x nb 9).bits = (kcfg x nb m).bits ∧ (mkC x nb 9).rows = (kcfg x nb m).rows ∧ (mkC x nb 9).width = (kcfg x nb m).width ∧ (mkC x nb 9).seed = (kcfg x nb m).seed ∧ m = (kcfg x nb m).mode := by
  unfold kcfg; rw [if_pos h]; exact ⟨rfl, rfl, rfl, rfl, rfl⟩
end Go.Proofs.YtfhdjekpdifajaaGreat
namespace Go.Proofs.YtfhdjekpdifajaaGreat
set_option linter.unusedVariables false
open Go.RowKit
@[go_sem] theorem fld_bits (b r c m s : Int) (w : World) : (Instr.field 24 (.agg #[.int .i64 b, .int .i64 r, .int .i64 c, .int .i64 m, .int .u64 s]) 0).run Tryz.prog w = .ok (.int .i64 b) w := by kernel_rfl
end Go.Proofs.YtfhdjekpdifajaaGreat
namespace Go.Proofs.YtfhdjekpdifajaaGreat
set_option linter.unusedVariables false
open Go.RowKit
structure Own4 (N : Nat) (w : World) (F1 F2 F3 F4 : Nat → Prop) (P1 P2 P3 P4 : World → Prop) : Prop where
  o1 : Own F1 P1 w
  o2 : Own F2 P2 w
  o3 : Own F3 P3 w
  o4 : Own F4 P4 w
  d12 : Dj F1 F2
  d13 : Dj F1 F3
  d14 : Dj F1 F4
  d23 : Dj F2 F3
  d24 : Dj F2 F4
  d34 : Dj F3 F4
  n1 : ∀ k, F1 k → N ≤ k
  n2 : ∀ k, F2 k → N ≤ k
  n3 : ∀ k, F3 k → N ≤ k
  n4 : ∀ k, F4 k → N ≤ k
  nw : N ≤ w.heap.size
section
variable {N : Nat} {w w' : World} {F1 F2 F3 F4 : Nat → Prop} {P1 P2 P3 P4 : World → Prop}
theorem Own4.ext (h : Own4 N w F1 F2 F3 F4 P1 P2 P3 P4) (he : Ext w w') : Own4 N w' F1 F2 F3 F4 P1 P2 P3 P4 :=
  ⟨h.o1.ext he, h.o2.ext he, h.o3.ext he, h.o4.ext he, h.d12, h.d13, h.d14, h.d23, h.d24, h.d34, h.n1, h.n2, h.n3, h.n4, Nat.le_trans h.nw he.size⟩
theorem Own4.low {S : Nat → Prop} (h : Own4 N w F1 F2 F3 F4 P1 P2 P3 P4) (hm : Mod S w w') (hS : ∀ k, S k → F1 k) : Below N w w' := hm.below h.nw (fun k hk => h.n1 k (hS k hk))
end
theorem below_of {N : Nat} {w w' : World} (h : Ext w w') (hN : N ≤ w.heap.size) : Below N w w' := ⟨h.os, h.tape, h.output, h.size, fun k hk => h.block k (Nat.lt_of_lt_of_le hk hN)⟩
theorem cell_below {N : Nat} {w w' : World} (h : Below N w w') {b o : Nat} {v : Value} (hb : b < N) (hc : w.cell? ⟨b, o, none⟩ = some v) : w'.cell? ⟨b, o, none⟩ = some v := (h.cell (p := ⟨b, o, none⟩) hb).trans hc
end Go.Proofs.YtfhdjekpdifajaaGreat
namespace Go.Proofs.YtfhdjekpdifajaaGreat
set_option linter.unusedVariables false
open Go.RowKit
/-- A stack, and one of the references. -/
def KP (N : Nat) (w : World) (C : Cfg) (B s r : Nat) (ls ls' : Nat → List Int) : Prop :=
  ∃ g L t L2 z, KAt w s g C B L ls ∧ KLow z s g B L ∧ KFresh N B L ∧ RKAt w r t C B L2 ls' ∧ (∀ k, rkF r t C B L2 k → z ≤ k) ∧ N ≤ z ∧ z ≤ w.heap.size
section
variable {N : Nat} {w w' : World} {C : Cfg} {B s r : Nat} {ls ls' : Nat → List Int}
theorem KP.ext (h : KP N w C B s r ls ls') (he : Ext w w') : KP N w' C B s r ls ls' := by
  obtain ⟨g, L, t, L2, z, h1, h2, h3, h4, h5, h6, h7⟩ := h
  exact ⟨g, L, t, L2, z, h1.ext he, h2, h3, h4.ext he, h5, h6, Nat.le_trans h7 he.size⟩
end
end Go.Proofs.YtfhdjekpdifajaaGreat
namespace Go.Proofs.YtfhdjekpdifajaaGreat
set_option linter.unusedVariables false
open Go.RowKit
def sF (s b c : Nat) (k : Nat) : Prop := k = s ∨ k = b ∨ k = c
/-- Two sketches, and two of the references. -/
def Q4 (N : Nat) (w : World) (C : Cfg) (lv : Int) (R W : Nat) (s o r q : Nat) (l m l' m' : List Int) : Prop :=
  ∃ b c b2 c2 G G2, Own4 N w (sF s b c) (sF o b2 c2) (rsF r G R) (rsF q G2 R) (fun w => SAt w s b c C lv R W l) (fun w => SAt w o b2 c2 C lv R W m) (fun w => RSAt w r G C lv R W l') (fun w => RSAt w q G2 C lv R W m')
section
variable {N : Nat} {w w' : World} {C : Cfg} {lv : Int} {R W : Nat} {s o r q : Nat} {l m l' m' : List Int}
theorem Q4.ext (h : Q4 N w C lv R W s o r q l m l' m') (he : Ext w w') : Q4 N w' C lv R W s o r q l m l' m' := by
  obtain ⟨b, c, b2, c2, G, G2, h⟩ := h
  exact ⟨b, c, b2, c2, G, G2, h.ext he⟩
/-- What a reference's sketch points to. -/
theorem Q4.grid (h : Q4 N w C lv R W s o r q l m l' m') : ∃ G : Gr, r < w.heap.size ∧ w.cell? ⟨r, 6, none⟩ = some (.pointer (some ⟨G.g, 0, none⟩)) ∧ RGAt w G R W l' := by
  obtain ⟨b, c, b2, c2, G, G2, h⟩ := h
  exact ⟨G, h.o3.h.lts, (cell_of h.o3.h.ex 6).trans rfl, h.o3.h.g⟩
end
end Go.Proofs.YtfhdjekpdifajaaGreat
namespace Go.Proofs.YtfhdjekpdifajaaGreat
set_option linter.unusedVariables false
open Go.RowKit
theorem Put_e (b c W : Nat) (l : List Int) (w : World) (h : GAt w b c 1 W l) (k : Nat) (hk : k < W) (n : Int) :
    Calls Tryz.prog 257 #[.pointer (some ⟨b, 0, none⟩), .int .i64 0, .int .i64 k, .int .i64 n] w fun e w' => e = .returned (.bool true) ∧ w.setCell ⟨c, k, none⟩ (.int .i64 n) = w' := by
  have := Put_c b c 1 W l w h 0 k (by decide) hk n
  rw [Nat.zero_mul, Nat.zero_add] at this
  exact this
set_option maxRecDepth 20000 in
set_option maxHeartbeats 4000000 in
theorem ELoad_yes (s b c : Nat) (C : Cfg) (lv : Int) (N : Nat) (l m : List Int) (v : Value) (w : World) (h : EAt w s b c C lv N l) (hv : IntsAt w v m) (hI : allI m) (hl : m.length = N)
    (hne : ∀ g off n cap, v = .slice (some ⟨g, off, none⟩) n cap → g ≠ c) :
    Calls Tryz.prog 283 #[.pointer (some ⟨s, 0, none⟩), v] w fun e w' => e = .returned (.bool true) ∧ EAt w' s b c C lv N m ∧ Mod (fun k => k = c) w w' := by
  have hN1 : 1 ≤ N := h.g.w1
  have hN2 : N ≤ 128 := h.g.w2
  obtain ⟨vg, vo, vcap, rfl, hvl, hvc⟩ := hv.slice (by rw [hl]; omega)
  have hgc : vg ≠ c := hne _ _ _ _ rfl
  have hLl := h.len
  rw [hl] at hvc ⊢
  have c6 := (cell_of h.ex 6).trans rfl
  have lts := h.lts
  have HH := Lib.hid h
  have HVC := Lib.hid hvc
  have HL := Lib.hid hl
  have HLL := Lib.hid hLl
  clear h hv hl hne hvc hLl
  go_enter Tryz.func283, Tryz.ntmps283
  go_wp2_with fail
  refine Calls.mono (Width_c b c 1 N l _ HH.out.g) ?_
  rintro e w1 ⟨rfl, hx1⟩
  subst hx1
  clear c6
  go_wp2_with fail
  go_loopw [17] (fun u23 wr => ∃ k : Nat, k ≤ N ∧ u23 = .int .i64 k ∧ EAt wr s b c C lv N (mixL (fun j => m.getD j 0) (fun j => l.getD j 0) k N) ∧ Mod (fun i => i = c) w wr) (fun u23 _ => N - (intOf u23).toNat)
  case atStart =>
    refine ⟨0, Nat.zero_le _, rfl, ?_, Mod.refl _ _⟩
    have e : mixL (fun j => m.getD j 0) (fun j => l.getD j 0) 0 N = l := by
      apply list_ext_getD
      · rw [mixL_len, HLL.out]
      · intro i hi
        rw [mixL_len] at hi
        rw [mixL_get _ _ hi, if_neg (by omega)]
    rw [e]; exact HH.out
  case round =>
    obtain ⟨k, hk, rfl, hSr, hM⟩ := hrel
    have hMs := hM.size
    by_cases hgo : k < N
    · have x0 := (mcell hM (b := vg) hvl hgc (vo + k)).trans (HVC.out k hgo)
      have c6 := (cell_of hSr.ex 6).trans rfl
      have lr := hSr.lts
      have hlr : vg < wr.heap.size := by omega
      have hxi : I64 (m.getD k 0) := getD_i64 hI k
      have hms := mixL_set (fun j => m.getD j 0) (fun j => l.getD j 0) (k := k) (n := N)
      have HMS := Lib.hid hms
      have HSR := Lib.hid hSr
      clear hms hSr
      generalize hx : m.getD k 0 = x at *
      have HX := Lib.hid hx
      clear hx
      go_wp2_with fail
      refine Calls.mono (Put_e b c N _ _ HSR.out.g k hgo x) ?_
      rintro e w2 ⟨rfl, rfl⟩
      go_wp2
      go_roundw
      case rel =>
        refine ⟨k + 1, by omega, by go_num, ?_, mod_put' hM _⟩
        rw [← HMS.out]
        exact HSR.out.setl (by rw [mixL_len]; exact hgo) hxi
      case measure => simp [intOf]; omega
    · obtain rfl : k = N := by omega
      have e : mixL (fun j => m.getD j 0) (fun j => l.getD j 0) k k = m := by
        apply list_ext_getD
        · rw [mixL_len, HL.out]
        · intro i hi
          rw [mixL_len] at hi
          rw [mixL_get _ _ hi, if_pos hi]
      rw [e] at hSr
      have HSR := Lib.hid hSr
      clear hSr e
      go_wp2
      go_ret
      exact ⟨rfl, HSR.out, hM⟩
set_option maxRecDepth 20000 in
set_option maxHeartbeats 2000000 in
theorem KLoad_yes (s g : Nat) (C : Cfg) (B : Nat) (L : Nat → Lev) (ls : Nat → List Int) (w : World) (h : KAt w s g C B L ls) (n : Nat) (hn : n ≤ B) (m : List Int) (v : Value) (hv : IntsAt w v m) (hI : allI m) (hl : m.length = lvN C n)
    (hne : ∀ g off k cap, v = .slice (some ⟨g, off, none⟩) k cap → g ≠ (L n).c) :
    Calls Tryz.prog 22 #[.pointer (some ⟨s, 0, none⟩), .int .i64 n, v] w fun e w' => e = .returned (.bool true) ∧ KAt w' s g C B L (fun k => if k = n then m else ls k) ∧ Mod (fun k => k = (L n).c) w w' := by
  cases hx : isX C n with
  | true =>
    have hA := (h.lev n hn).x hx
    have hl' : m.length = kN C n := by rw [hl]; unfold lvN; rw [hx]; rfl
    have HX := Lib.hid hx
    clear hx
    go_enter Tryz.func22, Tryz.ntmps22
    go_wp2_with fail
    refine (level_yes s g C B L ls w h n hn).mono ?_
    rintro e w1 ⟨rfl, rfl⟩
    rw [lvV_x HX.out]
    go_wp2_with fail
    refine Calls.mono (ELoad_yes _ _ _ C _ _ _ m v _ hA hv hI hl' hne) ?_
    rintro e w2 ⟨rfl, hA2, hM⟩
    go_wp2
    go_ret
    exact ⟨rfl, h.put hn hM (.inl ⟨HX.out, hA2⟩), hM⟩
  | false =>
    have hA := (h.lev n hn).sk hx
    have hl' : m.length = rN C * wN C := by rw [hl]; unfold lvN; rw [hx]; rfl
    have HX := Lib.hid hx
    clear hx
    go_enter Tryz.func22, Tryz.ntmps22
    go_wp2_with fail
    refine (level_yes s g C B L ls w h n hn).mono ?_
    rintro e w1 ⟨rfl, rfl⟩
    rw [lvV_s HX.out]
    go_wp2_with fail
    refine Calls.mono (Load_yes _ _ _ C _ _ _ _ m v _ hA hv hI hl' hne) ?_
    rintro e w2 ⟨rfl, hA2, hM⟩
    go_wp2
    go_ret
    exact ⟨rfl, h.put hn hM (.inr ⟨HX.out, hA2⟩), hM⟩
end Go.Proofs.YtfhdjekpdifajaaGreat
namespace Go.Proofs.YtfhdjekpdifajaaGreat
set_option linter.unusedVariables false
open Go.RowKit
/-- The blocks of a stack. -/
def kF (s g B : Nat) (L : Nat → Lev) (k : Nat) : Prop := k = s ∨ k = g ∨ ∃ n, n ≤ B ∧ (k = (L n).s ∨ k = (L n).b ∨ k = (L n).c)
theorem KAt.keep {w w' : World} {s g : Nat} {C : Cfg} {B : Nat} {L : Nat → Lev} {ls : Nat → List Int} (h : KAt w s g C B L ls) (hk : ∀ k, kF s g B L k → w'.heap[k]? = w.heap[k]?) : KAt w' s g C B L ls :=
  ⟨by rw [hk s (.inl rfl)]; exact h.ex, by rw [hk g (.inr (.inl rfl))]; exact h.row, fun n hn => (h.lev n hn).keep (hk _ (.inr (.inr ⟨n, hn, .inl rfl⟩))) (hk _ (.inr (.inr ⟨n, hn, .inr (.inl rfl)⟩))) (hk _ (.inr (.inr ⟨n, hn, .inr (.inr rfl)⟩))), h.sep, h.ok, h.hB⟩
/-- A stack one of whose levels lies elsewhere, and has other cells. -/
theorem RKAt.putL {w w' : World} {s t : Nat} {C : Cfg} {B : Nat} {L : Nat → RLev} {ls : Nat → List Int} (h : RKAt w s t C B L ls) {n : Nat} (hn : n ≤ B) {l : List Int} {K : RLev} (hp : K.p = (L n).p) (hm : Mod ((L n).foot C n) w w') (hl : RLvAt w' K C n l) (hF : ∀ k, K.foot C n k → (L n).foot C n k ∨ w.heap.size ≤ k) :
    RKAt w' s t C B (fun m => if m = n then K else L m) (fun m => if m = n then l else ls m) := by
  have ty : ∀ {k : Nat} {cur : Array Value} {T : TypeId} {f : Nat × Nat}, w.heap[k]? = some (.cells cur T f) → (T = 45 ∨ T = 48) → ¬ (L n).foot C n k := fun hb hT hf => by
    have := (h.lev n hn).ty hf hb
    rcases hT with rfl | rfl
    · exact this.1 rfl
    · exact this.2 rfl
  obtain ⟨cap, h1, h2⟩ := h.ex
  obtain ⟨cur, h3, h4⟩ := h.row
  have hd : ∀ m, m ≤ B → m ≠ n → Dj ((L m).foot C m) (K.foot C n) := fun m hm' e k hk hk2 => by
    rcases hF k hk2 with h5 | h5
    · exact h.sep m n hm' hn e k hk h5
    · have := (h.lev m hm').lt hk; omega
  refine ⟨⟨cap, hm.keep h1 (ty h1 (.inr rfl)), h2⟩, ⟨cur, hm.keep h3 (ty h3 (.inl rfl)), fun m hm' => ?_⟩, fun m hm' => ?_, fun m k hm' hk' e => ?_, h.ok, h.hB⟩
  · by_cases e : m = n
    · subst e; rw [if_pos rfl, hp]; exact h4 m hm'
    · rw [if_neg e]; exact h4 m hm'
  · by_cases e : m = n
    · subst e; rw [if_pos rfl, if_pos rfl]; exact hl
    · rw [if_neg e, if_neg e]; exact (h.lev m hm').mod hm (fun k hk hf => h.sep m n hm' hn e k hk hf)
  · by_cases e1 : m = n
    · subst e1
      rw [if_pos rfl, if_neg (Ne.symm e)]
      exact (hd k hk' (Ne.symm e)).symm
    · by_cases e2 : k = n
      · subst e2
        rw [if_pos rfl, if_neg e1]
        exact hd m hm' e1
      · rw [if_neg e1, if_neg e2]; exact h.sep m k hm' hk' e
section
variable {N : Nat} {w w' : World} {F1 F2 F3 F4 : Nat → Prop} {P1 P2 P3 P4 : World → Prop} {C : Cfg} {B s r : Nat} {g t : Nat} {L : Nat → Lev} {M : Nat → RLev} {l l' : Nat → List Int}
end
theorem lvN_leU {C : Cfg} (h : C.Ok) (lv : Int) : lvN C lv ≤ 1024 := by
  have h1 := h.w1
  have h2 := h.w2
  have h3 := h.r1
  have h4 := h.r2
  unfold lvN
  cases hx : isX C lv with
  | true =>
    have h3 : keys C lv ≤ C.width := of_decide_eq_true hx
    show kN C lv ≤ 1024
    unfold kN; omega
  | false =>
    show rN C * wN C ≤ 1024
    have e1 : rN C ≤ 8 := by have := rN_eq h; omega
    have e2 : wN C ≤ 128 := by have := wN_eq h; omega
    exact Nat.le_trans (Nat.mul_le_mul e1 e2) (by decide)
set_option maxRecDepth 20000 in
set_option maxHeartbeats 8000000 in
theorem same24_c (s g : Nat) (L : Nat → Lev) (r t : Nat) (M : Nat → RLev) (C : Cfg) (B : Nat) (ls : Nat → List Int) (w : World) (hK : KAt w s g C B L ls) (hR : RKAt w r t C B M ls) :
    Calls Tryz.prog 59 #[.pointer (some ⟨s, 0, none⟩), .pointer (some ⟨r, 0, none⟩)] w fun e w' => e = .returned (.bool true) ∧ Ext w w' := by
  have hB := hK.hB
  have hok := hK.ok
  have hb2 := hok.b2
  have hbd : B ≤ 59 := by omega
  have HK := Lib.hid hK
  have HR := Lib.hid hR
  clear hK hR hB hb2
  have hnn : decide ((0 : Int) = 1) = false := rfl
  go_enter Tryz.func59, Tryz.ntmps59
  go_wp2_with fail
  go_loopw [5] (fun u5 wr => ∃ k : Nat, k ≤ B + 1 ∧ u5 = .int .i64 k ∧ Ext w wr) (fun u5 _ => B + 1 - (intOf u5).toNat)
  case atStart => exact ⟨0, Nat.zero_le _, rfl, Ext.refl _⟩
  case round =>
    obtain ⟨k, hk, rfl, hE⟩ := hrel
    have hRr := HR.out.ext hE
    have hKr := HK.out.ext hE
    obtain ⟨cap, hex, hcap⟩ := hRr.ex
    have e5 := (cell_of hex 5).trans rfl
    have el := hRr.lts
    have HE := Lib.hid hE
    by_cases hlt : k < B + 1
    · have ck := hRr.cell (show k ≤ B by omega)
      have lt0 := hRr.ltt
      have hkz : (k : Int) < (B : Int) + 1 := by omega
      have HLV := Lib.hid (hRr.lev k (by omega))
      have hlen := HLV.out.len
      have hle := lvN_leU hok (k : Int)
      have HLN := Lib.hid (show (ls k).length ≤ 1000000 by rw [hlen]; omega)
      have HKR := Lib.hid hKr
      clear hRr hKr hex hE hlen hle
      rename World => wo
      go_wp2_with fail
      have hC0 := af_drew wo
      refine pi_start (fun w' => ∃ x : After wo, w' = x.w) [] (by kernel_rfl) ?_
      refine pi_t 0 rfl (by kernel_rfl) (by kernel_rfl) (fun _ _ _ _ h => h) (fun K hK => ?_)
      go_big_quiet_op
      refine hK _ ?_
      clear hK K
      refine pi_t 1 rfl (by kernel_rfl) (by kernel_rfl) (fun _ _ _ _ h => h) (fun K hK => ?_)
      go_big_quiet_op
      refine hK _ ?_
      clear hK K
      refine pi_t 3 rfl (by kernel_rfl) (by kernel_rfl) (fun _ _ _ _ h => h) (fun K hK => ?_)
      go_big_quiet_op
      refine hK _ ?_
      clear hK K
      refine pi_t 4 rfl (by kernel_rfl) (by kernel_rfl) (fun _ _ _ _ h => h) (fun K hK => ?_)
      go_big_quiet_op
      refine hK _ ?_
      clear hK K
      refine pi_t 5 rfl (by kernel_rfl) (by kernel_rfl) (fun _ _ _ _ h => h) (fun K hK => ?_)
      go_big_quiet_op
      refine hK _ ?_
      clear hK K
      refine pi_t 7 rfl (by kernel_rfl) (by kernel_rfl) (fun _ _ _ _ h => h) (fun K hK => ?_)
      go_big_quiet_op
      refine hK _ ?_
      clear hK K
      refine pi_c 6 (by assumption) rfl (by kernel_rfl) (by kernel_rfl) (fun _ _ _ _ h => h) (fun K hK => ?_)
      go_big_quiet_op
      refine hK _ ?_
      clear hK K
      refine pi_t 8 rfl (by kernel_rfl) (by kernel_rfl) (fun _ _ _ _ h => h) (fun K hK => ?_)
      go_big_quiet_op
      refine hK _ ?_
      clear hK K
      refine pi_c 9 (by assumption) rfl (by kernel_rfl) (by kernel_rfl) (fun _ _ _ _ h => h) (fun K hK => ?_)
      go_big_quiet_op
      refine hK _ ?_
      clear hK K
      refine pi_l 2 rfl (by kernel_rfl) (fun K hK => ?_)
      go_wp2_with (go_at_call 23; refine (KCells_c s g C B L ls _ (HKR.out.ext (Below.drew (Ext.refl wo))) k (by omega)).mono ?_; rintro e wa ⟨v1, rfl, ho1, _, hxa⟩)
      have hEa : Ext wo wa := Ext.trans' (Below.drew (Ext.refl wo)) hxa
      refine hK _ _ (fun _ h => af_step h hxa) ?_
      clear hK K
      have HV1 := Lib.hid (IntsAt.of_row ho1)
      clear ho1 hxa
      refine pi_l 10 rfl (by kernel_rfl) (fun K hK => ?_)
      go_wp2_with (go_at_call 24; refine Calls.mono (RLCells_c (M k) C k (ls k) _ (HLV.out.ext hEa)) ?_; rintro e wb ⟨v2, rfl, ho2, hxb⟩)
      have hEb : Ext wo wb := hEa.trans' hxb
      refine hK _ _ (fun _ h => af_step h hxb) ?_
      clear hK K
      have HV2 := Lib.hid (IntsAt.of_row ho2)
      have HV1b := Lib.hid (HV1.out.ext hxb)
      clear ho2 hxb
      refine pi_l 11 rfl (by kernel_rfl) (fun K hK => ?_)
      go_wp2_with (go_at_call 47; refine Calls.mono (Same_c v1 v2 (ls k) (ls k) _ HV1b.out HV2.out HLN.out HLN.out) ?_; rintro e wc ⟨rfl, hxc⟩)
      have hEc : Ext wo wc := hEb.trans' hxc
      try rw [decide_eq_true (rfl : ls k = ls k)]
      refine hK _ _ (fun _ h => af_step h hxc) ?_
      clear hK K
      refine pi_t 12 rfl (by kernel_rfl) (by kernel_rfl) (fun _ _ _ _ h => h) (fun K hK => ?_)
      go_big_quiet_op
      refine hK _ ?_
      clear hK K
      refine pi_end (by kernel_rfl) ?_
      have hE9 := HE.out.trans' hEc
      go_wp2
      go_roundw
      case rel => exact ⟨k + 1, by omega, by go_num, hE9⟩
      case measure => simp [intOf]; omega
    · obtain rfl : k = B + 1 := by omega
      have HKR := Lib.hid hKr
      clear hRr hKr hex hE
      go_wp2
      go_ret
      exact ⟨rfl, HE.out⟩
end Go.Proofs.YtfhdjekpdifajaaGreat
namespace Go.Proofs.YtfhdjekpdifajaaGreat
set_option linter.unusedVariables false
open Go.RowKit
def RKJoinPost (w : World) (s : Nat) (C : Cfg) (B : Nat) (ms : Nat → List Int) (e : Ending) (w' : World) : Prop :=
  ((∀ n, n ≤ B → allI (ms n)) ∧ e = .returned (.int .i64 0) ∧ ∃ t L, RKAt w' s t C B L ms ∧ (∀ k, rkF s t C B L k → k = s ∨ w.heap.size ≤ k) ∧ Mod (fun k => k = s) w w') ∨ ((¬ ∀ n, n ≤ B → allI (ms n)) ∧ e = .returned (.int .i64 4) ∧ Ext w w')
def partJ (ms ls : Nat → List Int) (k n : Nat) : List Int := if n < k then ms n else ls n
theorem partJ_zero (ms ls : Nat → List Int) (n : Nat) : partJ ms ls 0 n = ls n := by unfold partJ; rw [if_neg (Nat.not_lt_zero _)]
theorem partJ_at (ms ls : Nat → List Int) (k : Nat) : partJ ms ls k k = ls k := by unfold partJ; rw [if_neg (Nat.lt_irrefl _)]
theorem partJ_succ (ms ls : Nat → List Int) (k n : Nat) : (if n = k then ms k else partJ ms ls k n) = partJ ms ls (k + 1) n := by
  unfold partJ
  by_cases e : n = k
  · subst e; rw [if_pos rfl, if_pos (Nat.lt_succ_self _)]
  · rw [if_neg e]
    by_cases e2 : n < k
    · rw [if_pos e2, if_pos (by omega)]
    · rw [if_neg e2, if_neg (by omega)]
theorem RKAt.cfg {w : World} {s t : Nat} {C : Cfg} {B : Nat} {L : Nat → RLev} {ls : Nat → List Int} (h : RKAt w s t C B L ls) : w.cell? ⟨s, 0, none⟩ = some (.int .i64 C.bits) ∧ w.cell? ⟨s, 1, none⟩ = some (.int .i64 C.rows) ∧ w.cell? ⟨s, 2, none⟩ = some (.int .i64 C.width) ∧ w.cell? ⟨s, 3, none⟩ = some (.int .i64 C.mode) ∧ w.cell? ⟨s, 4, none⟩ = some (.int .u64 C.seed) := by
  obtain ⟨cap, hex, _⟩ := h.ex
  exact ⟨(cell_of hex 0).trans rfl, (cell_of hex 1).trans rfl, (cell_of hex 2).trans rfl, (cell_of hex 3).trans rfl, (cell_of hex 4).trans rfl⟩
theorem RKAt.nlev {w : World} {s t : Nat} {C : Cfg} {B : Nat} {L : Nat → RLev} {ls : Nat → List Int} (h : RKAt w s t C B L ls) {n : Nat} (hn : n ≤ B) : ¬ (L n).foot C n s ∧ ¬ (L n).foot C n t := by
  obtain ⟨cap, h1, _⟩ := h.ex
  obtain ⟨cur, h3, _⟩ := h.row
  exact ⟨fun hf => ((h.lev n hn).ty hf h1).2 rfl, fun hf => ((h.lev n hn).ty hf h3).1 rfl⟩
set_option maxRecDepth 20000 in
set_option maxHeartbeats 8000000 in
theorem RKJoinMinus_c (s t s2 t2 : Nat) (C : Cfg) (B : Nat) (L0 L2 : Nat → RLev) (ls ls2 : Nat → List Int) (w : World) (h : RKAt w s t C B L0 ls) (h2 : RKAt w s2 t2 C B L2 ls2) (hmd : "Minus" = "Minus" → C.mode ≠ 2) :
    Calls Tryz.prog 64 #[.pointer (some ⟨s, 0, none⟩), .pointer (some ⟨s2, 0, none⟩), .int .i64 (-1)] w (RKJoinPost w s C B (fun n => minusL (ls n) (ls2 n))) := by
  have hok := h.ok
  have hb2 := hok.b2
  have hB := h.hB
  have hbd : B ≤ 59 := by omega
  have HB := Lib.hid hB
  have HH := Lib.hid h
  have HH2 := Lib.hid h2
  have hls := h.lts
  have hls2 := h2.lts
  have hlt2 := h2.ltt
  obtain ⟨cap, hex, hcap⟩ := h.ex
  have HEX := Lib.hid hex
  obtain ⟨c0, c1, c2, c3, c4⟩ := h.cfg
  obtain ⟨d0, d1, d2, d3, d4⟩ := h2.cfg
  have HMD := Lib.hid hmd
  have HOK := Lib.hid hok
  clear hex h h2 hB hb2 hmd hok
  obtain ⟨ms, hms⟩ : ∃ ms : Nat → List Int, ms = fun n => minusL (ls n) (ls2 n) := ⟨_, rfl⟩
  have HMS := Lib.hid hms
  rw [← hms]
  clear hms
  go_enter Tryz.func64, Tryz.ntmps64
  go_wp2_with fail
  have hC0 := af_drew w
  refine pi_start (fun w' => ∃ z : After w, w' = z.w) [] (by kernel_rfl) ?_
  refine pi_t 0 rfl (by kernel_rfl) (by kernel_rfl) (fun _ _ _ _ h => h) (fun K hK => ?_)
  go_big_quiet_op
  refine hK _ ?_
  clear hK K
  refine pi_t 1 rfl (by kernel_rfl) (by kernel_rfl) (fun _ _ _ _ h => h) (fun K hK => ?_)
  go_big_quiet_op
  refine hK _ ?_
  clear hK K
  refine pi_t 2 rfl (by kernel_rfl) (by kernel_rfl) (fun _ _ _ _ h => h) (fun K hK => ?_)
  go_big_quiet_op
  refine hK _ ?_
  clear hK K
  refine pi_t 4 rfl (by kernel_rfl) (by kernel_rfl) (fun _ _ _ _ h => h) (fun K hK => ?_)
  go_big_quiet_op
  refine hK _ ?_
  clear hK K
  refine pi_t 5 rfl (by kernel_rfl) (by kernel_rfl) (fun _ _ _ _ h => h) (fun K hK => ?_)
  go_big_quiet_op
  refine hK _ ?_
  clear hK K
  refine pi_t 6 rfl (by kernel_rfl) (by kernel_rfl) (fun _ _ _ _ h => h) (fun K hK => ?_)
  go_big_quiet_op
  refine hK _ ?_
  clear hK K
  refine pi_c 3 (by assumption) rfl (by kernel_rfl) (by kernel_rfl) (fun _ _ _ _ h => h) (fun K hK => ?_)
  go_big_quiet_op
  refine hK _ ?_
  clear hK K
  refine pi_c 7 (by assumption) rfl (by kernel_rfl) (by kernel_rfl) (fun _ _ _ _ h => h) (fun K hK => ?_)
  go_big_quiet_op
  refine hK _ ?_
  clear hK K
  refine pi_t 8 rfl (by kernel_rfl) (by kernel_rfl) (fun _ _ _ _ h => h) (fun K hK => ?_)
  go_big_quiet_op
  refine hK _ ?_
  clear hK K
  refine pi_end (by kernel_rfl) ?_
  have hE0 : Ext w w.drew := Below.drew (Ext.refl w)
  have HCP := Lib.hid (RKCopy_c s t C B L0 ls w.drew (HH.out.ext hE0))
  have HE0 := Lib.hid hE0
  clear c0 c1 c2 c3 c4 d0 d1 d2 d3 d4 hE0
  go_wp2_with fail
  refine Calls.mono HCP.out ?_
  rintro e w2 ⟨a, ta, La, rfl, hK2, hF2, hx2⟩
  have hE2 := HE0.out.trans' hx2
  have HF2 : Hid (∀ k, rkF a ta C B La k → w.heap.size ≤ k) := Lib.hid (fun k hk => Nat.le_trans HE0.out.size (hF2 k hk))
  have HK2 : Hid (RKAt w2 a ta C B La (partJ ms ls 0)) := Lib.hid (hK2.cong (fun n _ => (partJ_zero ms ls n).symm))
  clear hK2 hF2 hx2
  go_wp2_with fail
  go_loopw [8] (fun u8 wr => ∃ (k : Nat) (M : Nat → RLev), k ≤ B + 1 ∧ u8 = .int .i64 k ∧ RKAt wr a ta C B M (partJ ms ls k) ∧ (∀ j, rkF a ta C B M j → w.heap.size ≤ j) ∧ Ext w wr ∧ ∀ m, m < k → allI (ms m)) (fun u8 _ => B + 1 - (intOf u8).toNat)
  case atStart => exact ⟨0, La, Nat.zero_le _, rfl, HK2.out, HF2.out, hE2, fun m hm => absurd hm (Nat.not_lt_zero _)⟩
  case round =>
    clear hE2 HK2 HF2
    obtain ⟨k, M, hk, rfl, hK, hF, hE, hz⟩ := hrel
    have HZ := Lib.hid hz
    have HK := Lib.hid hK
    have HF := Lib.hid hF
    have HE := Lib.hid hE
    obtain ⟨cap2, hex2, hcap2⟩ := hK.ex
    have a5 := (cell_of hex2 5).trans rfl
    have al := lt_of hex2
    have ltt := hK.ltt
    by_cases hlk : k < B + 1
    · have ck := hK.cell (show k ≤ B by omega)
      have hlev := hK.lev k (by omega)
      rw [partJ_at] at hlev
      have hr2 := HH2.out.ext hE
      obtain ⟨cap3, hex3, hcap3⟩ := hr2.ex
      have b5 := (cell_of hex3 5).trans rfl
      have bl := lt_of hex3
      have bk := hr2.cell (show k ≤ B by omega)
      have btt := hr2.ltt
      have HLEV := Lib.hid hlev
      have HLEV2 := Lib.hid (hr2.lev k (by omega))
      have hkz : (k : Int) < (B : Int) + 1 := by omega
      obtain ⟨S, hS⟩ : ∃ S : Nat → Prop, (M k).foot C k = S := ⟨_, rfl⟩
      have HSS := Lib.hid hS
      have ns1 : ¬ S a := by rw [← hS]; exact (hK.nlev (show k ≤ B by omega)).1
      have ns2 : ¬ S ta := by rw [← hS]; exact (hK.nlev (show k ≤ B by omega)).2
      have ns3 : ¬ S s2 := fun hf => by rw [← hS] at hf; have := hF _ (.inr (.inr ⟨k, by omega, hf⟩)); omega
      have ns4 : ¬ S t2 := fun hf => by rw [← hS] at hf; have := hF _ (.inr (.inr ⟨k, by omega, hf⟩)); omega
      clear hex2 hex3 hz hK hF hE hlev hr2 hS
      rename World => wr
      go_wp2_with fail
      have hC0 := afs_drew S wr
      refine pi_start (fun w' => ∃ x : AftS S wr, w' = x.w) [] (by kernel_rfl) ?_
      refine pi_t 0 rfl (by kernel_rfl) (by kernel_rfl) (fun _ _ _ _ h => h) (fun K hK => ?_)
      go_big_quiet_op
      refine hK _ ?_
      clear hK K
      refine pi_t 1 rfl (by kernel_rfl) (by kernel_rfl) (fun _ _ _ _ h => h) (fun K hK => ?_)
      go_big_quiet_op
      refine hK _ ?_
      clear hK K
      refine pi_t 2 rfl (by kernel_rfl) (by kernel_rfl) (fun _ _ _ _ h => h) (fun K hK => ?_)
      go_big_quiet_op
      refine hK _ ?_
      clear hK K
      refine pi_t 4 rfl (by kernel_rfl) (by kernel_rfl) (fun _ _ _ _ h => h) (fun K hK => ?_)
      go_big_quiet_op
      refine hK _ ?_
      clear hK K
      refine pi_t 7 rfl (by kernel_rfl) (by kernel_rfl) (fun _ _ _ _ h => h) (fun K hK => ?_)
      go_big_quiet_op
      refine hK _ ?_
      clear hK K
      refine pi_t 8 rfl (by kernel_rfl) (by kernel_rfl) (fun _ _ _ _ h => h) (fun K hK => ?_)
      go_big_quiet_op
      refine hK _ ?_
      clear hK K
      refine pi_t 9 rfl (by kernel_rfl) (by kernel_rfl) (fun _ _ _ _ h => h) (fun K hK => ?_)
      go_big_quiet_op
      refine hK _ ?_
      clear hK K
      refine pi_t 11 rfl (by kernel_rfl) (by kernel_rfl) (fun _ _ _ _ h => h) (fun K hK => ?_)
      go_big_quiet_op
      refine hK _ ?_
      clear hK K
      refine pi_t 14 rfl (by kernel_rfl) (by kernel_rfl) (fun _ _ _ _ h => h) (fun K hK => ?_)
      go_big_quiet_op
      refine hK _ ?_
      clear hK K
      refine pi_c 3 (by assumption) rfl (by kernel_rfl) (by kernel_rfl) (fun _ _ _ _ h => h) (fun K hK => ?_)
      go_big_quiet_op
      refine hK _ ?_
      clear hK K
      refine pi_t 5 rfl (by kernel_rfl) (by kernel_rfl) (fun _ _ _ _ h => h) (fun K hK => ?_)
      go_big_quiet_op
      refine hK _ ?_
      clear hK K
      refine pi_c 6 (by assumption) rfl (by kernel_rfl) (by kernel_rfl) (fun _ _ _ _ h => h) (fun K hK => ?_)
      go_big_quiet_op
      refine hK _ ?_
      clear hK K
      refine pi_c 10 (by assumption) rfl (by kernel_rfl) (by kernel_rfl) (fun _ _ _ _ h => h) (fun K hK => ?_)
      go_big_quiet_op
      refine hK _ ?_
      clear hK K
      refine pi_t 12 rfl (by kernel_rfl) (by kernel_rfl) (fun _ _ _ _ h => h) (fun K hK => ?_)
      go_big_quiet_op
      refine hK _ ?_
      clear hK K
      refine pi_c 13 (by assumption) rfl (by kernel_rfl) (by kernel_rfl) (fun _ _ _ _ h => h) (fun K hK => ?_)
      go_big_quiet_op
      refine hK _ ?_
      clear hK K
      refine pi_l 15 rfl (by kernel_rfl) (fun K hK => ?_)
      have hEd : Ext wr wr.drew := Below.drew (Ext.refl wr)
      go_wp2_with fail
      refine Calls.mono (RLJoinMinus_c (M k) (L2 k) C k (ls k) (ls2 k) _ (HLEV.out.ext (Below.drew (Ext.refl wr))) (HLEV2.out.ext (Below.drew (Ext.refl wr))) (by intro h; exact HMD.out (by first | trivial | exact h))) ?_
      rintro e w5 (⟨ha, rfl, K1, hp1, hK1, hF1, hM1⟩ | ⟨ha, rfl, hx5⟩)
      · have hM5 : Mod ((M k).foot C k) wr w5 := (Ext.mod _ (Below.drew (Ext.refl wr))).trans hM1
        go_wp2
        refine hK _ _ (fun _ _ => ⟨⟨w5, by rw [← HSS.out]; exact hM5⟩, rfl⟩) ?_
        clear hK K
        have hms : ms k = minusL (ls k) (ls2 k) := by rw [HMS.out]
        rw [← hms] at ha hK1
        have hF1' : ∀ j, K1.foot C k j → (M k).foot C k j ∨ wr.heap.size ≤ j := hF1
        have HPUT := Lib.hid (HK.out.putL (show k ≤ B by omega) hp1 hM5 hK1 hF1')
        have HFP : Hid (∀ j, rkF a ta C B (fun m => if m = k then K1 else M m) j → w.heap.size ≤ j) := Lib.hid (fun j hj => by
          rcases hj with rfl | rfl | ⟨m, hm, hj⟩
          · exact HF.out _ (.inl rfl)
          · exact HF.out _ (.inr (.inl rfl))
          · by_cases e : m = k
            · subst e
              dsimp only at hj
              rw [if_pos rfl] at hj
              rcases hF1' j hj with h | h
              · exact HF.out _ (.inr (.inr ⟨m, hm, h⟩))
              · exact Nat.le_trans HE.out.size h
            · dsimp only at hj
              rw [if_neg e] at hj
              exact HF.out _ (.inr (.inr ⟨m, hm, hj⟩)))
        have hE5 : Ext w w5 := Below.trans HE.out (hM5.below (B := w.heap.size) HE.out.size (fun j hj => HF.out j (.inr (.inr ⟨k, by omega, hj⟩))))
        have HAA := Lib.hid ha
        clear ha hp1 hK1 hF1 hF1' hM1 hM5 hms a5 ck b5 bk
        refine pi_t 16 rfl (by kernel_rfl) (by kernel_rfl) (fun _ _ _ _ h => h) (fun K hK => ?_)
        go_big_quiet_op
        refine hK _ ?_
        clear hK K
        refine pi_end (by kernel_rfl) ?_
        go_wp2
        go_roundw
        case rel =>
          refine ⟨k + 1, _, by omega, by go_num, HPUT.out.cong (fun n _ => partJ_succ ms ls k n), HFP.out, hE5, fun m hm => ?_⟩
          by_cases e : m = k
          · rw [e]; exact HAA.out
          · exact HZ.out m (by omega)
        case measure => simp [intOf]; omega
      · have hEw : Ext wr w5 := Ext.trans' (Below.drew (Ext.refl wr)) hx5
        go_wp2
        refine hK _ _ (fun _ _ => ⟨⟨w5, hEw.mod _⟩, rfl⟩) ?_
        clear hK K
        have hms : ms k = minusL (ls k) (ls2 k) := by rw [HMS.out]
        rw [← hms] at ha
        have HNA : Hid (¬ ∀ n, n ≤ B → allI (ms n)) := Lib.hid (fun h => ha (h k (by omega)))
        have hEf := HE.out.trans' hEw
        clear ha hx5 hEw hms a5 ck b5 bk
        refine pi_t 16 rfl (by kernel_rfl) (by kernel_rfl) (fun _ _ _ _ h => h) (fun K hK => ?_)
        go_big_quiet_op
        refine hK _ ?_
        clear hK K
        refine pi_end (by kernel_rfl) ?_
        go_wp2
        go_ret
        exact .inr ⟨HNA.out, rfl, hEf⟩
    · obtain rfl : k = B + 1 := by omega
      have fe := frozen_of (hE.keep HEX.out) 5
      have el := lt_of (hE.keep HEX.out)
      have e5 := (cell_of (hE.keep HEX.out) 5).trans rfl
      have HEXR := Lib.hid (hE.keep HEX.out)
      clear hz hK hex2 hF hE
      go_wp2
      go_ret
      refine .inl ⟨fun n hn => HZ.out n (by omega), rfl, ta, M, ⟨⟨cap2, (setCell_same HEXR.out 5 _).trans rfl, hcap2⟩, ?_, fun n hn => ?_, HK.out.sep, HOK.out, HB.out⟩, ?_, (HE.out.mod _).trans (mod_set _ _ _ _)⟩
      · obtain ⟨cur, h3, h4⟩ := HK.out.row
        exact ⟨cur, (setCell_other _ _ (by have := HF.out ta (.inr (.inl rfl)); omega)).trans h3, h4⟩
      · have hl := HK.out.lev n hn
        have hp : partJ ms ls (B + 1) n = ms n := by unfold partJ; rw [if_pos (by omega)]
        rw [hp] at hl
        exact hl.keep (fun j hj => setCell_other _ _ (by have := HF.out j (.inr (.inr ⟨n, hn, hj⟩)); omega))
      · rintro j (rfl | rfl | ⟨n, hn, hj⟩)
        · exact .inl rfl
        · exact .inr (HF.out _ (.inr (.inl rfl)))
        · exact .inr (HF.out _ (.inr (.inr ⟨n, hn, hj⟩)))
end Go.Proofs.YtfhdjekpdifajaaGreat
namespace Go.Proofs.YtfhdjekpdifajaaGreat
set_option linter.unusedVariables false
open Go.RowKit
/-- A stack of the references: where it lies, and what it has. -/
structure RBk where
  s : Nat
  t : Nat
  L : Nat → RLev
  ls : Nat → List Int
def RBk.At (k : RBk) (w : World) (C : Cfg) (B : Nat) : Prop := RKAt w k.s k.t C B k.L k.ls
def RBk.F (x : RBk) (C : Cfg) (B : Nat) (k : Nat) : Prop := rkF x.s x.t C B x.L k
theorem RBk.At.lt {x : RBk} {w : World} {C : Cfg} {B : Nat} (h : x.At w C B) {k : Nat} (hk : x.F C B k) : k < w.heap.size := RKAt.lt h hk
theorem RBk.At.keep {x : RBk} {w w' : World} {C : Cfg} {B : Nat} (h : x.At w C B) (hk : ∀ k, x.F C B k → w'.heap[k]? = w.heap[k]?) : x.At w' C B := RKAt.keep h hk
theorem RBk.At.ext {x : RBk} {w w' : World} {C : Cfg} {B : Nat} (h : x.At w C B) (he : Ext w w') : x.At w' C B := RKAt.ext h he
theorem RLvAt.offW {w : World} {L : RLev} {C : Cfg} {lv : Int} {l : List Int} (h : RLvAt w L C lv l) {k : Nat} (hk : L.foot C lv k) {cur : Array Value} {T : TypeId} {f : Nat × Nat} (hb : w.heap[k]? = some (.cells cur T f)) : T ≠ 96 ∧ T ≠ 32 := by
  have key : ∀ (c2 : Array Value) (T2 : TypeId) (f2 : Nat × Nat), w.heap[k]? = some (.cells c2 T2 f2) → T2 ≠ 96 → T2 ≠ 32 → T ≠ 96 ∧ T ≠ 32 := fun c2 T2 f2 h2 n1 n2 => by
    rw [hb] at h2
    injection h2 with h2
    injection h2 with _ h2 _
    rw [h2]; exact ⟨n1, n2⟩
  rcases hk with rfl | ⟨hx, hk⟩ | ⟨hx, hk⟩
  · obtain ⟨_, _, _, ⟨_, h1, _⟩ | ⟨_, h1, _⟩⟩ := h <;> exact key _ _ _ h1 (by decide) (by decide)
  · obtain ⟨_, h2⟩ := h.x hx
    rcases hk with rfl | rfl
    · obtain ⟨cap, h3, _⟩ := h2.ex; exact key _ _ _ h3 (by decide) (by decide)
    · obtain ⟨cu, h3, _⟩ := h2.cells; exact key _ _ _ h3 (by decide) (by decide)
  · obtain ⟨_, h2⟩ := h.sk hx
    rcases hk with rfl | (rfl | rfl | ⟨r, hr, rfl⟩)
    · exact key _ _ _ h2.ex (by decide) (by decide)
    · obtain ⟨cap, h3, _⟩ := h2.g.ex; exact key _ _ _ h3 (by decide) (by decide)
    · obtain ⟨cap, h3, _⟩ := h2.g.row; exact key _ _ _ h3 (by decide) (by decide)
    · obtain ⟨cap, h3, _⟩ := h2.g.cells r hr; exact key _ _ _ h3 (by decide) (by decide)
/-- A stack's blocks are no window, nor a row of stacks. -/
theorem RBk.At.off {x : RBk} {w : World} {C : Cfg} {B : Nat} (h : x.At w C B) {k : Nat} {cur : Array Value} {T : TypeId} {f : Nat × Nat} (hb : w.heap[k]? = some (.cells cur T f)) (hT : T = 96 ∨ T = 32) : ¬ x.F C B k := by
  have key : ∀ (c2 : Array Value) (T2 : TypeId) (f2 : Nat × Nat), w.heap[k]? = some (.cells c2 T2 f2) → T2 ≠ 96 → T2 ≠ 32 → False := fun c2 T2 f2 h2 n1 n2 => by
    rw [hb] at h2
    injection h2 with h2
    injection h2 with _ h2 _
    rcases hT with rfl | rfl
    · exact n1 h2.symm
    · exact n2 h2.symm
  rintro (rfl | rfl | ⟨n, hn, hk⟩)
  · obtain ⟨cap, h1, _⟩ := RKAt.ex h; exact key _ _ _ h1 (by decide) (by decide)
  · obtain ⟨cur, h1, _⟩ := RKAt.row h; exact key _ _ _ h1 (by decide) (by decide)
  · have := (RKAt.lev h n hn).offW hk hb
    rcases hT with rfl | rfl
    · exact this.1 rfl
    · exact this.2 rfl
/-- A window of the references. -/
structure RWAt (w : World) (r t : Nat) (C : Cfg) (B n i : Nat) (sm : RBk) (bk : Nat → RBk) : Prop where
  st : ∃ cap, w.heap[r]? = some (.cells #[.pointer (some ⟨sm.s, 0, none⟩), .slice (some ⟨t, 0, none⟩) n cap, .int .i64 i] 96 (0, 0)) ∧ n ≤ cap
  row : ∃ cur, w.heap[t]? = some (.cells cur 32 (0, 0)) ∧ ∀ j, j < n → cur[j]? = some (.pointer (some ⟨(bk j).s, 0, none⟩))
  sum : sm.At w C B
  bks : ∀ j, j < n → (bk j).At w C B
  sepS : ∀ j, j < n → Dj ((bk j).F C B) (sm.F C B)
  sepB : ∀ j m, j < n → m < n → j ≠ m → Dj ((bk j).F C B) ((bk m).F C B)
  n1 : 1 ≤ n
  n2 : n ≤ 16
  iN : i < n
  md : C.mode = 1
def rwF (r t : Nat) (C : Cfg) (B n : Nat) (sm : RBk) (bk : Nat → RBk) (k : Nat) : Prop := k = r ∨ k = t ∨ sm.F C B k ∨ ∃ j, j < n ∧ (bk j).F C B k
/-- The blocks in which a window may be changed. -/
def rwM (r t n : Nat) (sm : RBk) (bk : Nat → RBk) (k : Nat) : Prop := k = r ∨ k = t ∨ k = sm.s ∨ ∃ j, j < n ∧ k = (bk j).s
def setR (bk : Nat → RBk) (i : Nat) (x : RBk) : Nat → RBk := fun j => if j = i then x else bk j
theorem setR_same (bk : Nat → RBk) (i : Nat) (x : RBk) : setR bk i x i = x := if_pos rfl
theorem setR_ne (bk : Nat → RBk) {i j : Nat} (x : RBk) (h : j ≠ i) : setR bk i x j = bk j := if_neg h
section
variable {w w' : World} {r t : Nat} {C : Cfg} {B n i : Nat} {sm : RBk} {bk : Nat → RBk}
theorem RWAt.ltr (h : RWAt w r t C B n i sm bk) : r < w.heap.size := by obtain ⟨_, h1, _⟩ := h.st; exact lt_of h1
theorem RWAt.ltt (h : RWAt w r t C B n i sm bk) : t < w.heap.size := by obtain ⟨_, h1, _⟩ := h.row; exact lt_of h1
theorem RWAt.lt (h : RWAt w r t C B n i sm bk) {k : Nat} (hk : rwF r t C B n sm bk k) : k < w.heap.size := by
  rcases hk with rfl | rfl | hk | ⟨j, hj, hk⟩
  · exact h.ltr
  · exact h.ltt
  · exact h.sum.lt hk
  · exact (h.bks j hj).lt hk
theorem RWAt.keep (h : RWAt w r t C B n i sm bk) (hk : ∀ k, rwF r t C B n sm bk k → w'.heap[k]? = w.heap[k]?) : RWAt w' r t C B n i sm bk :=
  ⟨by rw [hk r (.inl rfl)]; exact h.st, by rw [hk t (.inr (.inl rfl))]; exact h.row, h.sum.keep (fun k hs => hk k (.inr (.inr (.inl hs)))), fun j hj => (h.bks j hj).keep (fun k hs => hk k (.inr (.inr (.inr ⟨j, hj, hs⟩)))), h.sepS, h.sepB, h.n1, h.n2, h.iN, h.md⟩
theorem RWAt.ext (h : RWAt w r t C B n i sm bk) (he : Ext w w') : RWAt w' r t C B n i sm bk := h.keep fun k hk => he.block k (h.lt hk)
theorem RWAt.ok (h : RWAt w r t C B n i sm bk) : C.Ok ∧ C.bits = B := ⟨RKAt.ok h.sum, RKAt.hB h.sum⟩
theorem rwM_F {k : Nat} (h : rwM r t n sm bk k) : rwF r t C B n sm bk k := by
  rcases h with rfl | rfl | rfl | ⟨j, hj, rfl⟩
  · exact .inl rfl
  · exact .inr (.inl rfl)
  · exact .inr (.inr (.inl (.inl rfl)))
  · exact .inr (.inr (.inr ⟨j, hj, .inl rfl⟩))
/-- One of its stacks is changed. -/
theorem RWAt.putB (h : RWAt w r t C B n i sm bk) {j : Nat} (hj : j < n) {x : RBk} (hx : x.At w' C B) (hs : x.s = (bk j).s) (hM : Mod (fun k => k = (bk j).s) w w') (hF : ∀ k, x.F C B k → k = (bk j).s ∨ w.heap.size ≤ k) : RWAt w' r t C B n i sm (setR bk j x) := by
  obtain ⟨cap, h1, h2⟩ := h.st
  obtain ⟨cur, h3, h4⟩ := h.row
  have hown : (bk j).F C B (bk j).s := .inl rfl
  have n1 : ¬ r = (bk j).s := fun e => (h.bks j hj).off h1 (.inl rfl) (by rw [e]; exact hown)
  have n2 : ¬ t = (bk j).s := fun e => (h.bks j hj).off h3 (.inr rfl) (by rw [e]; exact hown)
  have hsum : sm.At w' C B := h.sum.keep (fun k hk => hM.block k (h.sum.lt hk) (fun e => h.sepS j hj _ hown (by rw [← e]; exact hk)))
  have hbks : ∀ m, m < n → m ≠ j → (bk m).At w' C B := fun m hm e => (h.bks m hm).keep (fun k hk => hM.block k ((h.bks m hm).lt hk) (fun e2 => h.sepB m j hm hj e k hk (by rw [e2]; exact hown)))
  have hdj : ∀ G : Nat → Prop, (∀ k, G k → k < w.heap.size) → Dj ((bk j).F C B) G → Dj (x.F C B) G := fun G hG hd k hk hg => by
    rcases hF k hk with e | e
    · exact hd _ hown (by rw [← e]; exact hg)
    · have := hG k hg; omega
  refine ⟨⟨cap, hM.keep h1 n1, h2⟩, ⟨cur, hM.keep h3 n2, fun m hm => ?_⟩, hsum, fun m hm => ?_, fun m hm => ?_, fun m q hm hq e => ?_, h.n1, h.n2, h.iN, h.md⟩
  · by_cases e : m = j
    · subst e; rw [setR_same, hs]; exact h4 m hm
    · rw [setR_ne _ _ e]; exact h4 m hm
  · by_cases e : m = j
    · subst e; rw [setR_same]; exact hx
    · rw [setR_ne _ _ e]; exact hbks m hm e
  · by_cases e : m = j
    · subst e; rw [setR_same]; exact hdj _ (fun k hk => h.sum.lt hk) (h.sepS m hm)
    · rw [setR_ne _ _ e]; exact h.sepS m hm
  · by_cases e1 : m = j
    · subst e1
      rw [setR_same, setR_ne _ _ (Ne.symm e)]
      exact hdj _ (fun k hk => (h.bks q hq).lt hk) (h.sepB m q hm hq e)
    · by_cases e2 : q = j
      · subst e2
        rw [setR_same, setR_ne _ _ e1]
        exact (hdj _ (fun k hk => (h.bks m hm).lt hk) (h.sepB q m hq hm (Ne.symm e1))).symm
      · rw [setR_ne _ _ e1, setR_ne _ _ e2]; exact h.sepB m q hm hq e
/-- Its sum is changed. -/
theorem RWAt.putS (h : RWAt w r t C B n i sm bk) {x : RBk} (hx : x.At w' C B) (hs : x.s = sm.s) (hM : Mod (fun k => k = sm.s) w w') (hF : ∀ k, x.F C B k → k = sm.s ∨ w.heap.size ≤ k) : RWAt w' r t C B n i x bk := by
  obtain ⟨cap, h1, h2⟩ := h.st
  obtain ⟨cur, h3, h4⟩ := h.row
  have hown : sm.F C B sm.s := .inl rfl
  have n1 : ¬ r = sm.s := fun e => h.sum.off h1 (.inl rfl) (by rw [e]; exact hown)
  have n2 : ¬ t = sm.s := fun e => h.sum.off h3 (.inr rfl) (by rw [e]; exact hown)
  refine ⟨⟨cap, by rw [hs]; exact hM.keep h1 n1, h2⟩, ⟨cur, hM.keep h3 n2, h4⟩, hx, fun m hm => (h.bks m hm).keep (fun k hk => hM.block k ((h.bks m hm).lt hk) (fun e => h.sepS m hm k hk (by rw [e]; exact hown))), fun m hm k hk hg => ?_, h.sepB, h.n1, h.n2, h.iN, h.md⟩
  rcases hF k hg with e | e
  · exact h.sepS m hm k hk (by rw [e]; exact hown)
  · have := (h.bks m hm).lt hk; omega
/-- It has another sum. -/
theorem RWAt.newS (h : RWAt w r t C B n i sm bk) {y : RBk} (hy : y.At w C B) (hd : ∀ j, j < n → Dj ((bk j).F C B) (y.F C B)) : RWAt (w.setCell ⟨r, 0, none⟩ (.pointer (some ⟨y.s, 0, none⟩))) r t C B n i y bk := by
  obtain ⟨cap, h1, h2⟩ := h.st
  obtain ⟨cur, h3, h4⟩ := h.row
  have ho : ∀ {x : RBk}, x.At w C B → ∀ k, x.F C B k → k ≠ r := fun hx k hk e => hx.off h1 (.inl rfl) (by rw [← e]; exact hk)
  exact ⟨⟨cap, (setCell_same h1 0 _).trans rfl, h2⟩, ⟨cur, by rw [setCell_other _ _ (blk_ne h3 h1 (by decide))]; exact h3, h4⟩, hy.keep (fun k hk => setCell_other _ _ (ho hy k hk)), fun j hj => (h.bks j hj).keep (fun k hk => setCell_other _ _ (ho (h.bks j hj) k hk)), hd, h.sepB, h.n1, h.n2, h.iN, h.md⟩
/-- One of its stacks is another one. -/
theorem RWAt.newB (h : RWAt w r t C B n i sm bk) {j : Nat} (hj : j < n) {y : RBk} (hy : y.At w C B) (hs : Dj (y.F C B) (sm.F C B)) (hd : ∀ m, m < n → m ≠ j → Dj ((bk m).F C B) (y.F C B)) : RWAt (w.setCell ⟨t, j, none⟩ (.pointer (some ⟨y.s, 0, none⟩))) r t C B n i sm (setR bk j y) := by
  obtain ⟨cap, h1, h2⟩ := h.st
  obtain ⟨cur, h3, h4⟩ := h.row
  have ho : ∀ {x : RBk}, x.At w C B → ∀ k, x.F C B k → k ≠ t := fun hx k hk e => hx.off h3 (.inr rfl) (by rw [← e]; exact hk)
  refine ⟨⟨cap, by rw [setCell_other _ _ (blk_ne h1 h3 (by decide))]; exact h1, h2⟩, ⟨_, setCell_same h3 j _, fun m hm => ?_⟩, h.sum.keep (fun k hk => setCell_other _ _ (ho h.sum k hk)), fun m hm => ?_, fun m hm => ?_, fun m q hm hq e => ?_, h.n1, h.n2, h.iN, h.md⟩
  · by_cases e : m = j
    · subst e
      have hsz : m < cur.size := by
        have := h4 m hm
        rw [Array.getElem?_eq_some_iff] at this
        exact this.1
      rw [Array.getElem?_setIfInBounds_self_of_lt hsz, setR_same]
    · rw [Array.getElem?_setIfInBounds_ne (fun h => e h.symm), setR_ne _ _ e]; exact h4 m hm
  · by_cases e : m = j
    · subst e; rw [setR_same]; exact hy.keep (fun k hk => setCell_other _ _ (ho hy k hk))
    · rw [setR_ne _ _ e]; exact (h.bks m hm).keep (fun k hk => setCell_other _ _ (ho (h.bks m hm) k hk))
  · by_cases e : m = j
    · subst e; rw [setR_same]; exact hs
    · rw [setR_ne _ _ e]; exact h.sepS m hm
  · by_cases e1 : m = j
    · subst e1
      rw [setR_same, setR_ne _ _ (Ne.symm e)]
      exact (hd q hq (Ne.symm e)).symm
    · by_cases e2 : q = j
      · subst e2
        rw [setR_same, setR_ne _ _ e1]
        exact hd m hm e1
      · rw [setR_ne _ _ e1, setR_ne _ _ e2]; exact h.sepB m q hm hq e
/-- Another bucket is the current one. -/
theorem RWAt.setI (h : RWAt w r t C B n i sm bk) {m : Nat} (hm : m < n) : RWAt (w.setCell ⟨r, 2, none⟩ (.int .i64 m)) r t C B n m sm bk := by
  obtain ⟨cap, h1, h2⟩ := h.st
  obtain ⟨cur, h3, h4⟩ := h.row
  have ho : ∀ {x : RBk}, x.At w C B → ∀ k, x.F C B k → k ≠ r := fun hx k hk e => hx.off h1 (.inl rfl) (by rw [← e]; exact hk)
  exact ⟨⟨cap, (setCell_same h1 2 _).trans rfl, h2⟩, ⟨cur, by rw [setCell_other _ _ (blk_ne h3 h1 (by decide))]; exact h3, h4⟩, h.sum.keep (fun k hk => setCell_other _ _ (ho h.sum k hk)), fun j hj => (h.bks j hj).keep (fun k hk => setCell_other _ _ (ho (h.bks j hj) k hk)), h.sepS, h.sepB, h.n1, h.n2, hm, h.md⟩
/-- What a call leaves of a window. -/
def RWPost (w : World) (r t : Nat) (C : Cfg) (B n : Nat) (sm : RBk) (bk : Nat → RBk) (i' : Nat) (sl : Nat → List Int) (bl : Nat → Nat → List Int) (w' : World) : Prop :=
  ∃ t' sm' bk', RWAt w' r t' C B n i' sm' bk' ∧ sm'.ls = sl ∧ (∀ j, j < n → (bk' j).ls = bl j) ∧ (∀ k, rwF r t' C B n sm' bk' k → rwF r t C B n sm bk k ∨ w.heap.size ≤ k) ∧ Mod (rwM r t n sm bk) w w'
end
/-- Stacks that have been made. -/
def sp (bk : Nat → RBk) (k : Nat) : List Value := (List.range k).map fun n => Value.pointer (some ⟨(bk n).s, 0, none⟩)
theorem sp_len (bk : Nat → RBk) (k : Nat) : (sp bk k).length = k := by simp [sp]
theorem sp_succ (bk : Nat → RBk) (k : Nat) : sp bk (k + 1) = sp bk k ++ [Value.pointer (some ⟨(bk k).s, 0, none⟩)] := by unfold sp; rw [List.range_succ, List.map_append]; rfl
theorem sp_cong {bk bk' : Nat → RBk} {k : Nat} (h : ∀ n, n < k → bk n = bk' n) : sp bk k = sp bk' k := by
  unfold sp
  apply List.map_congr_left
  intro n hn
  rw [List.mem_range] at hn
  rw [h n hn]
theorem sp_get (bk : Nat → RBk) {k n : Nat} (h : n < k) : (sp bk k)[n]? = some (Value.pointer (some ⟨(bk n).s, 0, none⟩)) := by unfold sp; rw [List.getElem?_map, List.getElem?_range h]; rfl
structure BMade (w : World) (B0 : Nat) (C : Cfg) (B k : Nat) (bk : Nat → RBk) (v : Value) : Prop where
  row : w.ownsRow B0 32 1 v (sp bk k).length (sp bk k)
  bks : ∀ n, n < k → (bk n).At w C B
  new : ∀ n, n < k → ∀ j, (bk n).F C B j → B0 ≤ j
  sep : ∀ m n, m < k → n < k → m ≠ n → Dj ((bk m).F C B) ((bk n).F C B)
theorem BMade.zero (w : World) (B0 : Nat) (C : Cfg) (B : Nat) (bk : Nat → RBk) : BMade w B0 C B 0 bk (.slice none 0 0) :=
  ⟨⟨rfl, .inl ⟨rfl, rfl⟩⟩, by intros; omega, by intros; omega, by intros; omega⟩
theorem BMade.ext {w w' : World} {B0 B k : Nat} {C : Cfg} {bk : Nat → RBk} {v : Value} (h : BMade w B0 C B k bk v) (he : Ext w w') : BMade w' B0 C B k bk v :=
  ⟨own_ext h.row he, fun n hn => (h.bks n hn).ext he, h.new, h.sep⟩
theorem BMade.setc {w : World} {B0 B k : Nat} {C : Cfg} {bk : Nat → RBk} {v : Value} (h : BMade w B0 C B k bk v) {b : Nat} (hb : b < B0) (o : Nat) (u : Value) : BMade (w.setCell ⟨b, o, none⟩ u) B0 C B k bk v :=
  ⟨own_setc h.row hb o u, fun n hn => (h.bks n hn).keep (fun j hj => setCell_other _ _ (by have := h.new n hn j hj; omega)), h.new, h.sep⟩
theorem BMade.next {w0 w w' : World} {B0 B k : Nat} {C : Cfg} {bk : Nat → RBk} {v v' : Value} {M : RBk} {o : Obj} (h : BMade w0 B0 C B k bk v) (he : Ext w0 w) (hB : B0 ≤ w0.heap.size) (hM : M.At w C B) (hN : ∀ j, M.F C B j → w0.heap.size ≤ j)
    (hown : w'.ownsRow B0 32 1 v' (sp bk k ++ [Value.pointer (some ⟨M.s, 0, none⟩)]).length (sp bk k ++ [Value.pointer (some ⟨M.s, 0, none⟩)])) (hg : (w.alloc o).grownBy w' v.ownBlock) : BMade w' B0 C B (k + 1) (setR bk k M) v' := by
  have hw := h.ext he
  have hkeep : ∀ {K : RBk}, K.At w C B → K.At w' C B := fun {K} hK => hK.keep (fun j hj => grown_old hg (hK.lt hj) (fun e => by
    obtain ⟨cu, hc⟩ := own_type hw.row e.symm
    exact hK.off hc (.inr rfl) hj))
  refine ⟨?_, fun n hn => ?_, fun n hn j hj => ?_, fun m n hm hn hmn => ?_⟩
  · rw [sp_succ, setR_same, sp_cong (bk' := bk) (fun i hi => setR_ne _ _ (by omega))]
    exact hown
  · by_cases e : n = k
    · subst e; rw [setR_same]; exact hkeep hM
    · rw [setR_ne _ _ e]; exact hkeep (hw.bks n (by omega))
  · by_cases e : n = k
    · subst e; rw [setR_same] at hj; exact Nat.le_trans hB (hN j hj)
    · rw [setR_ne _ _ e] at hj; exact h.new n (by omega) j hj
  · by_cases e : m = k
    · subst e
      rw [setR_same, setR_ne _ _ (by omega)]
      intro j h1 h2
      have a := hN j h1
      have b := (h.bks n (by omega)).lt h2
      omega
    · rw [setR_ne _ _ e]
      by_cases e' : n = k
      · subst e'
        rw [setR_same]
        intro j h1 h2
        have a := hN j h2
        have b := (h.bks m (by omega)).lt h1
        omega
      · rw [setR_ne _ _ e']; exact h.sep m n (by omega) (by omega) hmn
theorem BMade.win {w : World} {r B0 B n i : Nat} {C : Cfg} {sm : RBk} {bk : Nat → RBk} {v : Value} (h : BMade w B0 C B n bk v) (hs : w.heap[r]? = some (.cells #[.pointer (some ⟨sm.s, 0, none⟩), v, .int .i64 i] 96 (0, 0))) (hsm : sm.At w C B) (hS : ∀ k, sm.F C B k → k < B0) (n1 : 1 ≤ n) (n2 : n ≤ 16) (hi : i < n) (hmd : C.mode = 1) :
    ∃ t, B0 ≤ t ∧ RWAt w r t C B n i sm bk := by
  have hl := sp_len bk n
  rcases h.row.2 with ⟨_, h0⟩ | ⟨g, cap, cur, rfl, hbg, hg, hnc, hcm, hcs, htake⟩
  · rw [hl] at h0; omega
  · rw [hl] at hs hnc
    refine ⟨g, hbg, ⟨⟨cap, hs, hnc⟩, ⟨cur, hg, fun j hj => ?_⟩, hsm, h.bks, fun j hj k hk hk2 => ?_, h.sep, n1, n2, hi, hmd⟩⟩
    · have h1 := h.row.cells (g := g) rfl j _ (sp_get bk hj)
      rw [show ((⟨g, 0, none⟩ : Addr).add j) = ⟨g, j, none⟩ by (simp [Addr.add]; intro e; exact e.symm), cell_of hg] at h1
      exact h1
    · have := h.new j hj k hk; have := hS k hk2; omega
theorem info_rs : ∃ i z, Tryz.prog.info? 32 = some i ∧ i.zero = some z ∧ i.size = 1 ∧ i.bytes = 8 ∧ z.cells.size = 1 := by
  have h : (Tryz.prog.info? 32).map (fun i => (i.zero, i.size, i.bytes)) = some (some (.pointer none), 1, 8) := by kernel_rfl
  match hi : Tryz.prog.info? 32, h with
  | some i, h =>
    simp only [Option.map_some, Option.some.injEq, Prod.mk.injEq] at h
    exact ⟨i, .pointer none, rfl, h.1, h.2.1, h.2.2, rfl⟩
end Go.Proofs.YtfhdjekpdifajaaGreat
