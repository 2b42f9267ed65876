/- StackPlays: a stack is changed, and asked, as the document says. No condition: every input. -/
import Derived.Test.YtfhdjekpdifajaaGreatL1
import Derived.Test.YtfhdjekpdifajaaGreatL11
import Derived.Test.YtfhdjekpdifajaaGreatL13
import Derived.Test.YtfhdjekpdifajaaGreatL6
import Derived.Test.YtfhdjekpdifajaaGreatL12
import Derived.Test.YtfhdjekpdifajaaGreatL3
import Derived.Test.YtfhdjekpdifajaaGreatL4
import Derived.Deep.CutBlock

/- A row that is laid anew from its head on. -/
namespace Go.Proofs.YtfhdjekpdifajaaGreat
set_option linter.unusedVariables false
def mxL (l all : List Int) (n : Nat) : List Int := all.take n ++ l.drop n
theorem mxL_zero (l all : List Int) : mxL l all 0 = l := by simp [mxL]
theorem mxL_all {l all : List Int} (h : all.length = l.length) : mxL l all l.length = all := by
  unfold mxL
  rw [← h, List.take_length, h, List.drop_length, List.append_nil]
theorem mxL_len {l all : List Int} (h : all.length = l.length) {n : Nat} (hn : n ≤ l.length) : (mxL l all n).length = l.length := by
  unfold mxL
  rw [List.length_append, List.length_take, List.length_drop]
  omega
theorem mxL_set {l all : List Int} (h : all.length = l.length) {n : Nat} (hn : n < l.length) : (mxL l all n).set n (all.getD n 0) = mxL l all (n + 1) := by
  refine List.ext_getElem? (fun i => ?_)
  unfold mxL
  rw [List.getElem?_set]
  have hl : (all.take n).length = n := by rw [List.length_take]; omega
  have hl2 : (all.take (n + 1)).length = n + 1 := by rw [List.length_take]; omega
  by_cases e : n = i
  · subst e
    rw [if_pos rfl, if_pos (by rw [List.length_append, hl, List.length_drop]; omega), List.getElem?_append_left (by omega), List.getElem?_take_of_lt (by omega)]
    simp [List.getD, List.getElem?_eq_getElem (show n < all.length by omega)]
  · rw [if_neg e]
    by_cases h1 : i < n
    · rw [List.getElem?_append_left (by omega), List.getElem?_append_left (by omega), List.getElem?_take_of_lt h1, List.getElem?_take_of_lt (by omega)]
    · rw [List.getElem?_append_right (by omega), List.getElem?_append_right (by omega), hl, hl2, List.getElem?_drop, List.getElem?_drop]
      congr 1
      omega
theorem mxL_I {l all : List Int} (h1 : ∀ x ∈ l, -9223372036854775808 ≤ x ∧ x ≤ 9223372036854775807) (h2 : ∀ x ∈ all, -9223372036854775808 ≤ x ∧ x ≤ 9223372036854775807) (n : Nat) : ∀ x ∈ mxL l all n, -9223372036854775808 ≤ x ∧ x ≤ 9223372036854775807 := fun x hx => by
  rcases List.mem_append.1 hx with h | h
  · exact h2 x (List.mem_of_mem_take h)
  · exact h1 x (List.mem_of_mem_drop h)
end Go.Proofs.YtfhdjekpdifajaaGreat

/- gaugerref13.Load of an array. -/
namespace Go.Proofs.YtfhdjekpdifajaaGreat
set_option linter.unusedVariables false
open Go.RowKit
def RLLoadPost (w : World) (L : RLev) (C : Cfg) (lv : Int) (all : List Int) (e : Ending) (w' : World) : Prop :=
  e = .returned (.tuple #[]) ∧ ∃ L' : RLev, L'.p = L.p ∧ RLvAt w' L' C lv all ∧ (∀ k, L'.foot C lv k → L.foot C lv k ∨ w.heap.size ≤ k) ∧ Mod (L.foot C lv) w w'
set_option maxRecDepth 20000 in
set_option maxHeartbeats 4000000 in
theorem RLLoad_x (L : RLev) (C : Cfg) (lv : Int) (l all : List Int) (v : Value) (w : World) (h : RLvAt w L C lv l) (hx : isX C lv = true) (hv : IntsAt w v all) (hal : all.length = kN C lv) (hI : ∀ x ∈ all, I64 x) :
    Calls Tryz.prog 25 #[.pointer (some ⟨L.p, 0, none⟩), v] w (RLLoadPost w L C lv all) := by
  obtain ⟨hp, hA⟩ := h.x hx
  have hok := h.1
  have h0 := h.2.1
  have h1 := h.2.2.1
  have k1 := hA.k1
  have k2 := hA.k2
  obtain ⟨g, off, vc, rfl, hgl, hgc⟩ := hv.slice (by omega)
  obtain ⟨cap, hex, hcap⟩ := hA.ex
  have c0 := (cell_of hp 0).trans rfl
  have lp := lt_of hp
  have HP := Lib.hid hp
  have HEX := Lib.hid hex
  have hvc : ∃ vc', vc = vc' := ⟨_, rfl⟩
  have hcell : ∀ W : World, Ext w W → ∀ k, k < all.length → W.cell? ⟨g, off + k, none⟩ = some (.int .i64 (all.getD k 0)) := fun W hW k hk => by rw [(bcell hW).1 _ _ hgl]; exact hgc k hk
  have HC := Lib.hid hcell
  have la := hA.lta
  have HH := Lib.hid h
  have HI := Lib.hid hI
  have HAL := Lib.hid hal
  have HX := Lib.hid hx
  have hq1 : 0 < all.length := by omega
  have hq2 : all.length ≤ 128 := by omega
  clear hcell hp hex hv hgc hI h hA hx hal k1 k2
  go_enter Tryz.func25, Tryz.ntmps25
  go_wp2_with fail
  have hC0 := af_drew w
  refine pi_start (fun w' => ∃ z : After w, w' = z.w) [9] (by kernel_rfl) ?_
  refine pi_t 0 rfl (by kernel_rfl) (by kernel_rfl) (fun _ _ _ _ h => h) (fun K hK => ?_)
  go_big_quiet_op
  refine hK _ ?_
  clear hK K
  refine pi_t 1 rfl (by kernel_rfl) (by kernel_rfl) (fun _ _ _ _ h => h) (fun K hK => ?_)
  go_big_quiet_op
  refine hK _ ?_
  clear hK K
  refine pi_t 2 rfl (by kernel_rfl) (by kernel_rfl) (fun _ _ _ _ h => h) (fun K hK => ?_)
  go_big_quiet_op
  refine hK _ ?_
  clear hK K
  refine pi_t 5 rfl (by kernel_rfl) (by kernel_rfl) (fun _ _ _ _ h => h) (fun K hK => ?_)
  go_big_quiet_op
  refine hK _ ?_
  clear hK K
  refine pi_c 3 (by assumption) rfl (by kernel_rfl) (by kernel_rfl) (fun _ _ _ _ h => h) (fun K hK => ?_)
  go_big_quiet_op
  refine hK _ ?_
  clear hK K
  refine pi_l 4 rfl (by kernel_rfl) (fun K hK => ?_)
  go_wp2
  refine hK _ _ (fun _ h => af_step h (Ext.alloc' _ _)) ?_
  clear hK K
  have hE1 : Ext w (w.alloc (.cells #[] 2)).drew := ((Ext.refl w).allocR _).drewR
  have hown : (w.alloc (.cells #[] 2)).drew.ownsRow w.heap.size 2 1 (.slice (some ⟨w.heap.size, 0, none⟩) 0 0) ([] : List Int).length (ints []) := own_drew (own_empty w 2)
  generalize (w.alloc (.cells #[] 2)).drew = W at *
  refine pi_l 6 rfl (by kernel_rfl) (fun K hK => ?_)
  go_wp2_with (at_builtin; refine wpList_appl W all [] _ w.heap.size 2 hown 43 rfl _ _ rfl info_i64 Tryz.underlying43 (by rfl) g off all.length vc (by rfl) rfl (HC.out W hE1) ?a1 ?a2 ?_)
  case a1 => show 0 + all.length ≤ _; omega
  case a2 => exact hE1.size
  intro v' w' g1 g2 g3
  have hE2 : Ext w w' := ext_grown0 hE1 g2 (fun i hi => own_blk hown hi)
  have hE2' : ∃ z : After w, w' = z.w := ⟨⟨w', hE2⟩, rfl⟩
  obtain ⟨z, zc, cur, rfl, hzc, hz, hzh, hzcur⟩ := own_row1 g1 (by show 0 < all.length; omega)
  have HZ := Lib.hid (And.intro hzc (And.intro hz (And.intro hzh hzcur)))
  have hs2 := hE2.size
  clear g1 g2 g3 hown hzc hz hzh hzcur
  go_wp2
  refine hK _ _ (fun _ _ => hE2') ?_
  clear hK K
  refine pi_t 7 rfl (by kernel_rfl) (by kernel_rfl) (fun _ _ _ _ h => h) (fun K hK => ?_)
  go_big_quiet_op
  refine hK _ ?_
  clear hK K
  refine pi_t 8 rfl (by kernel_rfl) (by kernel_rfl) (fun _ _ _ _ h => h) (fun K hK => ?_)
  go_big_quiet_op
  refine hK _ ?_
  clear hK K
  have hex2 := hE2.keep HEX.out
  have e6 := (cell_of hex2 6).trans rfl
  have f6 := frozen_of hex2 6
  have l6 := lt_of hex2
  refine pi_l 9 rfl (by kernel_rfl) (fun K hK => ?_)
  go_wp2
  refine hK _ _ (by simp) ?_
  clear hK K
  refine pi_end (by kernel_rfl) ?_
  go_wp2
  refine bodyPost_ret (v := .tuple #[]) (by simp [results, Tryz.results25, go_sem]) rfl ⟨rfl, ?_⟩
  obtain ⟨q1, q2, q3, q4⟩ := HZ.out
  have hza : z ≠ L.a := by omega
  have hpa : L.p ≠ L.a := blk_ne HP.out HEX.out (by decide)
  refine ⟨⟨L.p, L.a, ⟨L.G.g, z, L.G.r, L.G.c⟩⟩, rfl, ⟨hok, h0, h1, .inl ⟨HX.out, ?_, ⟨⟨zc, ?_, by rw [← HAL.out]; exact q1⟩, ⟨cur, ?_, fun k hk => q4 k (by rw [HAL.out]; exact hk)⟩, HAL.out, by rw [← HAL.out]; exact hq1, by rw [← HAL.out]; exact hq2, HI.out⟩⟩⟩, ?_, ?_⟩
  · rw [setCell_other _ _ hpa]; exact hE2.keep HP.out
  · rw [← HAL.out]; exact (setCell_same (hE2.keep HEX.out) 6 _).trans rfl
  · rw [setCell_other _ _ hza]; exact q3
  · rintro k (rfl | ⟨hy, (rfl | rfl)⟩ | ⟨hy, _⟩)
    · exact .inl (.inl rfl)
    · exact .inl (.inr (.inl ⟨hy, .inl rfl⟩))
    · exact .inr q2
    · rw [HX.out] at hy; cases hy
  · exact ((hE2.mod (fun k => k = L.a)).trans (mod_set _ _ _ _)).wider (fun k hk => .inr (.inl ⟨HX.out, .inl hk⟩))
end Go.Proofs.YtfhdjekpdifajaaGreat

/- gaugerref13.Load of a sketch, and of any level. -/
namespace Go.Proofs.YtfhdjekpdifajaaGreat
set_option linter.unusedVariables false
open Go.RowKit
theorem rs_facts {w : World} {p a : Nat} {G : Gr} {C : Cfg} {lv : Int} {R W : Nat} {l : List Int} (hp : w.heap[p]? = some (.cells #[.pointer none, .pointer (some ⟨a, 0, none⟩)] 153 (0, 0))) (hS : RSAt w a G C lv R W l) {W' : World} (hM : Mod (G.foot R) w W') :
    W'.cell? ⟨p, 0, none⟩ = some (.pointer none) ∧ W'.cell? ⟨p, 1, none⟩ = some (.pointer (some ⟨a, 0, none⟩)) ∧ p < W'.heap.size ∧ W'.cell? ⟨a, 6, none⟩ = some (.pointer (some ⟨G.g, 0, none⟩)) ∧ a < W'.heap.size := by
  have hG := hS.g
  have hnp : ¬ G.foot R p := by
    rintro (e | e | ⟨r, hr, e⟩)
    · obtain ⟨cap, q, _⟩ := hG.ex; exact blk_ne hp q (by decide) e
    · obtain ⟨cap, q, _⟩ := hG.row; exact blk_ne hp q (by decide) e
    · obtain ⟨cur, q, _⟩ := hG.cells r hr; exact blk_ne hp q (by decide) e
  have h1 := hM.keep hp hnp
  have h2 := hM.keep hS.ex hS.ns
  exact ⟨(cell_of h1 0).trans rfl, (cell_of h1 1).trans rfl, lt_of h1, (cell_of h2 6).trans rfl, lt_of h2⟩
set_option maxRecDepth 20000 in
set_option maxHeartbeats 8000000 in
theorem RSLoad_c (p a : Nat) (G : Gr) (C : Cfg) (lv : Int) (R W : Nat) (l all : List Int) (v : Value) (w : World)
    (hp : w.heap[p]? = some (.cells #[.pointer none, .pointer (some ⟨a, 0, none⟩)] 153 (0, 0))) (hS : RSAt w a G C lv R W l) (hv : IntsAt w v all) (hal : all.length = R * W) (hI : ∀ x ∈ all, I64 x) (hnf : ∀ g off n cap, v = .slice (some ⟨g, off, none⟩) n cap → ¬ G.foot R g) :
    Calls Tryz.prog 25 #[.pointer (some ⟨p, 0, none⟩), v] w fun e w' => e = .returned (.tuple #[]) ∧ RSAt w' a G C lv R W all ∧ Mod (G.foot R) w w' := by
  have hG := hS.g
  have r1 := hG.r1
  have r2 := hG.r2
  have w1' := hG.w1
  have w2' := hG.w2
  have hlen := hG.len
  have hRW : 0 < R * W := Nat.mul_pos r1 w1'
  have hRW2 : R * W ≤ 1024 := Nat.le_trans (Nat.mul_le_mul r2 w2') (by decide)
  obtain ⟨g, off, vc, rfl, hgl, hgc⟩ := hv.slice (by rw [hal]; exact hRW)
  have hgf := hnf _ _ _ _ rfl
  obtain ⟨N, hN⟩ : ∃ N : Nat, N = R * W := ⟨_, rfl⟩
  have hal' : all.length = l.length := hal.trans hlen.symm
  rw [hal, ← hN] at hgc ⊢
  have hN1 : 0 < N := by rw [hN]; exact hRW
  have hN2 : N ≤ 1024 := by rw [hN]; exact hRW2
  have HFA := Lib.hid (fun (W' : World) (hM : Mod (G.foot R) w W') => rs_facts hp hS hM)
  have HV := Lib.hid (fun (W' : World) (hM : Mod (G.foot R) w W') (k : Nat) (hk : k < N) => show W'.cell? ⟨g, off + k, none⟩ = some (.int .i64 (all.getD k 0)) from by
    have e := hM.block g hgl hgf
    rw [show W'.cell? ⟨g, off + k, none⟩ = w.cell? ⟨g, off + k, none⟩ by simp [World.cell?, e]]
    exact hgc k hk)
  have HG := Lib.hid hG
  have HS := Lib.hid hS
  have HI := Lib.hid hI
  have HN := Lib.hid hN
  have HAL := Lib.hid hal'
  have HLE := Lib.hid hlen
  obtain ⟨f0, _, fl, _, _⟩ := HFA.out w (Mod.refl _ _)
  have HGL := Lib.hid hgl
  clear hp hS hv hal hI hnf hG hlen hRW hRW2 hgl hgc hgf hN hal'
  go_enter Tryz.func25, Tryz.ntmps25
  go_wp2_with fail
  clear f0 fl
  go_loopw [4, 5] (fun u4 u5 wr => ∃ r n : Nat, r ≤ R ∧ n = r * W ∧ u4 = .int .i64 n ∧ u5 = .int .i64 r ∧ RGAt wr G R W (mxL l all n) ∧ Mod (G.foot R) w wr) (fun _ u5 _ => R - (intOf u5).toNat)
  case atStart => exact ⟨0, 0, Nat.zero_le _, (Nat.zero_mul _).symm, rfl, rfl, by rw [mxL_zero]; exact HG.out, Mod.refl _ _⟩
  case round =>
    obtain ⟨r, n, hr, hn, rfl, rfl, hg, hM⟩ := hrel
    have HN' := Lib.hid hn
    have HGR := Lib.hid hg
    obtain ⟨_, p1, pl, a6, al⟩ := HFA.out _ hM
    obtain ⟨cap, cg, hcap⟩ := hg.cg
    have lg := hg.ltg
    have HM := Lib.hid hM
    clear hn hg hM
    by_cases hlt : r < R
    · have hkz : (r : Int) < (R : Int) := by omega
      have hnN : n + W ≤ N := by
        rw [HN'.out, HN.out]
        calc r * W + W = (r + 1) * W := by rw [Nat.add_mul, Nat.one_mul]
          _ ≤ R * W := Nat.mul_le_mul_right W hlt
      rename World => wo
      go_wp2_with fail
      clear p1 pl a6 al cg lg hcap
      go_loopw [4, 6] (fun u4 u6 wr => ∃ c m : Nat, c ≤ W ∧ m = n + c ∧ u4 = .int .i64 m ∧ u6 = .int .i64 c ∧ RGAt wr G R W (mxL l all m) ∧ Mod (G.foot R) w wr) (fun _ u6 _ => W - (intOf u6).toNat)
      case atStart => exact ⟨0, n, Nat.zero_le _, rfl, rfl, rfl, HGR.out, HM.out⟩
      case round =>
        clear HGR HM
        obtain ⟨c, m, hc, hm, rfl, rfl, hg, hM⟩ := hrel
        obtain ⟨_, p1, pl, a6, al⟩ := HFA.out _ hM
        obtain ⟨cap, cg, hcap⟩ := hg.cg
        have lg := hg.ltg
        have cm := hg.cm hlt
        have lm := hg.ltm
        have HGR := Lib.hid hg
        have HM := Lib.hid hM
        have hgl := Nat.lt_of_lt_of_le HGL.out hM.size
        have hcr := hg.capc r hlt
        by_cases hcl : c < W
        · have hcz : (c : Int) < (W : Int) := by omega
          have hmN : m < N := by omega
          have hmz : (m : Int) < (N : Int) := by omega
          have hxv := HV.out _ hM m hmN
          have fr := hg.fr hlt c
          have cr := hg.cr hlt hcl
          have lr := hg.ltr hlt
          have hix : I64 (all.getD m 0) := getD_i64 HI.out m
          have hset := mxL_set HAL.out (n := m) (by rw [HLE.out, ← HN.out]; exact hmN)
          have hgi := hg.set hlt hcl (all.getD m 0)
          have hmm := mod_rset (w := ‹World›) (G := G) (R := R) hlt c (.int .i64 (all.getD m 0))
          rw [show r * W + c = m by rw [← HN'.out]; exact hm.symm, hset] at hgi
          have HGI := Lib.hid hgi
          have HMM := Lib.hid (hM.trans hmm)
          generalize all.getD m 0 = x at *
          have HM' := Lib.hid hm
          clear hg hM hset hgi hmm hix hm
          rename World => wi
          go_wp2_with fail
          have hC0 := af_drew wi
          refine pi_start (fun w' => ∃ z : After wi, w' = z.w) [19] (by kernel_rfl) ?_
          refine pi_t 0 rfl (by kernel_rfl) (by kernel_rfl) (fun _ _ _ _ h => h) (fun K hK => ?_)
          go_big_quiet_op
          refine hK _ ?_
          clear hK K
          refine pi_t 1 rfl (by kernel_rfl) (by kernel_rfl) (fun _ _ _ _ h => h) (fun K hK => ?_)
          go_big_quiet_op
          refine hK _ ?_
          clear hK K
          refine pi_t 2 rfl (by kernel_rfl) (by kernel_rfl) (fun _ _ _ _ h => h) (fun K hK => ?_)
          go_big_quiet_op
          refine hK _ ?_
          clear hK K
          refine pi_t 10 rfl (by kernel_rfl) (by kernel_rfl) (fun _ _ _ _ h => h) (fun K hK => ?_)
          go_big_quiet_op
          refine hK _ ?_
          clear hK K
          refine pi_t 13 rfl (by kernel_rfl) (by kernel_rfl) (fun _ _ _ _ h => h) (fun K hK => ?_)
          go_big_quiet_op
          refine hK _ ?_
          clear hK K
          refine pi_t 14 rfl (by kernel_rfl) (by kernel_rfl) (fun _ _ _ _ h => h) (fun K hK => ?_)
          go_big_quiet_op
          refine hK _ ?_
          clear hK K
          refine pi_t 15 rfl (by kernel_rfl) (by kernel_rfl) (fun _ _ _ _ h => h) (fun K hK => ?_)
          go_big_quiet_op
          refine hK _ ?_
          clear hK K
          refine pi_t 16 rfl (by kernel_rfl) (by kernel_rfl) (fun _ _ _ _ h => h) (fun K hK => ?_)
          go_big_quiet_op
          refine hK _ ?_
          clear hK K
          refine pi_c 3 (by assumption) rfl (by kernel_rfl) (by kernel_rfl) (fun _ _ _ _ h => h) (fun K hK => ?_)
          go_big_quiet_op
          refine hK _ ?_
          clear hK K
          refine pi_t 4 rfl (by kernel_rfl) (by kernel_rfl) (fun _ _ _ _ h => h) (fun K hK => ?_)
          go_big_quiet_op
          refine hK _ ?_
          clear hK K
          refine pi_t 5 rfl (by kernel_rfl) (by kernel_rfl) (fun _ _ _ _ h => h) (fun K hK => ?_)
          go_big_quiet_op
          refine hK _ ?_
          clear hK K
          refine pi_c 6 (by assumption) rfl (by kernel_rfl) (by kernel_rfl) (fun _ _ _ _ h => h) (fun K hK => ?_)
          go_big_quiet_op
          refine hK _ ?_
          clear hK K
          refine pi_t 7 rfl (by kernel_rfl) (by kernel_rfl) (fun _ _ _ _ h => h) (fun K hK => ?_)
          go_big_quiet_op
          refine hK _ ?_
          clear hK K
          refine pi_t 8 rfl (by kernel_rfl) (by kernel_rfl) (fun _ _ _ _ h => h) (fun K hK => ?_)
          go_big_quiet_op
          refine hK _ ?_
          clear hK K
          refine pi_c 9 (by assumption) rfl (by kernel_rfl) (by kernel_rfl) (fun _ _ _ _ h => h) (fun K hK => ?_)
          go_big_quiet_op
          refine hK _ ?_
          clear hK K
          refine pi_t 11 rfl (by kernel_rfl) (by kernel_rfl) (fun _ _ _ _ h => h) (fun K hK => ?_)
          go_big_quiet_op
          refine hK _ ?_
          clear hK K
          refine pi_c 12 (by assumption) rfl (by kernel_rfl) (by kernel_rfl) (fun _ _ _ _ h => h) (fun K hK => ?_)
          go_big_quiet_op
          refine hK _ ?_
          clear hK K
          refine pi_c 17 (by assumption) rfl (by kernel_rfl) (by kernel_rfl) (fun _ _ _ _ h => h) (fun K hK => ?_)
          go_big_quiet_op
          refine hK _ ?_
          clear hK K
          refine pi_t 18 rfl (by kernel_rfl) (by kernel_rfl) (fun _ _ _ _ h => h) (fun K hK => ?_)
          go_big_quiet_op
          refine hK _ ?_
          clear hK K
          refine pi_l 19 rfl (by kernel_rfl) (fun K hK => ?_)
          go_wp2
          refine hK _ _ (by simp) ?_
          clear hK K
          refine pi_end (by kernel_rfl) ?_
          go_wp2
          go_roundw
          case rel => exact ⟨c + 1, m + 1, by omega, by rw [HM'.out]; omega, by go_num, by go_num, HGI.out.ext (Ext.refl _).drewR, HMM.out.trans ((Ext.refl _).drewR.mod _)⟩
          case measure => simp [intOf]; omega
        · obtain rfl : c = W := by omega
          clear hg hM
          go_wp2
          go_roundw
          case rel => exact ⟨r + 1, m, by omega, by rw [hm, HN'.out, Nat.add_mul, Nat.one_mul], rfl, by go_num, HGR.out, HM.out⟩
          case measure => simp [intOf]; omega
    · obtain rfl : r = R := by omega
      go_wp2
      refine bodyPost_end (v := .tuple #[]) (by simp [results, Tryz.results25, go_sem]) rfl ⟨rfl, ?_, HM.out⟩
      refine HS.out.putg ?_ HM.out HI.out
      have := HGR.out
      rw [HN'.out, ← HLE.out, mxL_all HAL.out] at this
      exact this
theorem RLLoad_c (L : RLev) (C : Cfg) (lv : Int) (l all : List Int) (v : Value) (w : World) (h : RLvAt w L C lv l) (hv : IntsAt w v all) (hal : all.length = lvN C lv) (hI : ∀ x ∈ all, I64 x) (hnf : ∀ g off n cap, v = .slice (some ⟨g, off, none⟩) n cap → ¬ L.foot C lv g) :
    Calls Tryz.prog 25 #[.pointer (some ⟨L.p, 0, none⟩), v] w (RLLoadPost w L C lv all) := by
  cases hx : isX C lv with
  | true => exact RLLoad_x L C lv l all v w h hx hv (by rw [hal]; unfold lvN; rw [hx]; rfl) hI
  | false =>
    obtain ⟨hp, hS⟩ := h.sk hx
    refine (RSLoad_c L.p L.a L.G C lv _ _ l all v w hp hS hv (by rw [hal]; unfold lvN; rw [hx]; rfl) hI (fun g off n cap e hf => hnf g off n cap e (.inr (.inr ⟨hx, .inr hf⟩)))).mono ?_
    rintro e w' ⟨rfl, hS', hM⟩
    have hp' : w'.heap[L.p]? = _ := hM.keep hp (by
      rintro (e | e | ⟨r, hr, e⟩)
      · obtain ⟨cap, q, _⟩ := hS.g.ex; exact blk_ne hp q (by decide) e
      · obtain ⟨cap, q, _⟩ := hS.g.row; exact blk_ne hp q (by decide) e
      · obtain ⟨cur, q, _⟩ := hS.g.cells r hr; exact blk_ne hp q (by decide) e)
    exact ⟨rfl, L, rfl, ⟨h.1, h.2.1, h.2.2.1, .inr ⟨hx, hp', hS'⟩⟩, fun k hk => .inl hk, hM.wider (fun k hk => .inr (.inr ⟨hx, .inr hk⟩))⟩
end Go.Proofs.YtfhdjekpdifajaaGreat

/- A stack of the program and one of the references among four things that lie apart: what each call does. -/
namespace Go.Proofs.YtfhdjekpdifajaaGreat
set_option linter.unusedVariables false
open Go.RowKit
/-- The blocks of a stack. -/
def kF (s g B : Nat) (L : Nat → Lev) (k : Nat) : Prop := k = s ∨ k = g ∨ ∃ n, n ≤ B ∧ (k = (L n).s ∨ k = (L n).b ∨ k = (L n).c)
theorem KAt.keep {w w' : World} {s g : Nat} {C : Cfg} {B : Nat} {L : Nat → Lev} {ls : Nat → List Int} (h : KAt w s g C B L ls) (hk : ∀ k, kF s g B L k → w'.heap[k]? = w.heap[k]?) : KAt w' s g C B L ls :=
  ⟨by rw [hk s (.inl rfl)]; exact h.ex, by rw [hk g (.inr (.inl rfl))]; exact h.row, fun n hn => (h.lev n hn).keep (hk _ (.inr (.inr ⟨n, hn, .inl rfl⟩))) (hk _ (.inr (.inr ⟨n, hn, .inr (.inl rfl)⟩))) (hk _ (.inr (.inr ⟨n, hn, .inr (.inr rfl)⟩))), h.sep, h.ok, h.hB⟩
theorem KAt.own {w : World} {s g : Nat} {C : Cfg} {B : Nat} {L : Nat → Lev} {ls : Nat → List Int} (h : KAt w s g C B L ls) : Own (kF s g B L) (fun w => KAt w s g C B L ls) w :=
  ⟨h, fun w w' h hk => h.keep hk, fun k hk => by
    rcases hk with rfl | rfl | ⟨n, hn, rfl | rfl | rfl⟩
    · exact h.lts
    · exact h.ltg
    · exact (h.lev n hn).lts
    · exact (h.lev n hn).ltb
    · exact (h.lev n hn).ltc⟩
theorem cellsOf_kF {s g B : Nat} {L : Nat → Lev} {k : Nat} (h : cellsOf B L k) : kF s g B L k := by
  obtain ⟨n, hn, rfl⟩ := h; exact .inr (.inr ⟨n, hn, .inr (.inr rfl)⟩)
theorem kF_fresh {N s g B : Nat} {L : Nat → Lev} (h1 : N ≤ s) (h2 : N ≤ g) (h3 : ∀ n, n ≤ B → N ≤ (L n).s ∧ N ≤ (L n).b ∧ N ≤ (L n).c) : ∀ k, kF s g B L k → N ≤ k := by
  rintro k (rfl | rfl | ⟨n, hn, rfl | rfl | rfl⟩)
  · exact h1
  · exact h2
  · exact (h3 n hn).1
  · exact (h3 n hn).2.1
  · exact (h3 n hn).2.2
/-- A stack one of whose levels lies elsewhere, and has other cells. -/
theorem RKAt.putL {w w' : World} {s t : Nat} {C : Cfg} {B : Nat} {L : Nat → RLev} {ls : Nat → List Int} (h : RKAt w s t C B L ls) {n : Nat} (hn : n ≤ B) {l : List Int} {K : RLev} (hp : K.p = (L n).p) (hm : Mod ((L n).foot C n) w w') (hl : RLvAt w' K C n l) (hF : ∀ k, K.foot C n k → (L n).foot C n k ∨ w.heap.size ≤ k) :
    RKAt w' s t C B (fun m => if m = n then K else L m) (fun m => if m = n then l else ls m) := by
  have ty : ∀ {k : Nat} {cur : Array Value} {T : TypeId} {f : Nat × Nat}, w.heap[k]? = some (.cells cur T f) → (T = 45 ∨ T = 48) → ¬ (L n).foot C n k := fun hb hT hf => by
    have := (h.lev n hn).ty hf hb
    rcases hT with rfl | rfl
    · exact this.1 rfl
    · exact this.2 rfl
  obtain ⟨cap, h1, h2⟩ := h.ex
  obtain ⟨cur, h3, h4⟩ := h.row
  have hd : ∀ m, m ≤ B → m ≠ n → Dj ((L m).foot C m) (K.foot C n) := fun m hm' e k hk hk2 => by
    rcases hF k hk2 with h5 | h5
    · exact h.sep m n hm' hn e k hk h5
    · have := (h.lev m hm').lt hk; omega
  refine ⟨⟨cap, hm.keep h1 (ty h1 (.inr rfl)), h2⟩, ⟨cur, hm.keep h3 (ty h3 (.inl rfl)), fun m hm' => ?_⟩, fun m hm' => ?_, fun m k hm' hk' e => ?_, h.ok, h.hB⟩
  · by_cases e : m = n
    · subst e; rw [if_pos rfl, hp]; exact h4 m hm'
    · rw [if_neg e]; exact h4 m hm'
  · by_cases e : m = n
    · subst e; rw [if_pos rfl, if_pos rfl]; exact hl
    · rw [if_neg e, if_neg e]; exact (h.lev m hm').mod hm (fun k hk hf => h.sep m n hm' hn e k hk hf)
  · by_cases e1 : m = n
    · subst e1
      rw [if_pos rfl, if_neg (Ne.symm e)]
      exact (hd k hk' (Ne.symm e)).symm
    · by_cases e2 : k = n
      · subst e2
        rw [if_pos rfl, if_neg e1]
        exact hd m hm' e1
      · rw [if_neg e1, if_neg e2]; exact h.sep m k hm' hk' e
set_option maxRecDepth 20000 in
/-- Point of any piece. -/
theorem KPoint_key (s g : Nat) (C : Cfg) (B : Nat) (L : Nat → Lev) (ls : Nat → List Int) (w : World) (h : KAt w s g C B L ls) (n : Nat) (hn : n ≤ B) (key : Int) (hk : U64 key) (hk1 : keys C n ≤ key) :
    Calls Tryz.prog 18 #[.pointer (some ⟨s, 0, none⟩), .agg #[.int .i64 n, .int .u64 key]] w fun e w' => e = .returned (.tuple #[.int .i64 0, .int .i64 2]) ∧ Ext w w' := by
  cases hx : isX C n with
  | true =>
    have HX := Lib.hid hx
    clear hx
    go_enter Tryz.func18, Tryz.ntmps18
    go_wp2_with fail
    refine (level_yes s g C B L ls _ (h.ext (Ext.alloc' _ _)) n hn).mono ?_
    rintro e w1 ⟨rfl, rfl⟩
    have hA := ((h.ext (Ext.alloc' _ (.cells #[.int .i64 n, .int .u64 key] 39))).lev n hn).x HX.out
    rw [lvV_x HX.out]
    go_wp2_with fail
    refine (EPoint_no _ _ _ C _ _ _ key _ hA hk hk1).mono ?_
    rintro e w1 ⟨rfl, rfl⟩
    go_wp2
    go_ret2
    exact ⟨rfl, Ext.alloc' _ _⟩
  | false =>
    have HX := Lib.hid hx
    clear hx
    go_enter Tryz.func18, Tryz.ntmps18
    go_wp2_with fail
    refine (level_yes s g C B L ls _ (h.ext (Ext.alloc' _ _)) n hn).mono ?_
    rintro e w1 ⟨rfl, rfl⟩
    have hA := ((h.ext (Ext.alloc' _ (.cells #[.int .i64 n, .int .u64 key] 39))).lev n hn).sk HX.out
    rw [lvV_s HX.out]
    go_wp2_with fail
    refine (SPoint_no _ _ _ C _ _ _ _ key _ hA hk1).mono ?_
    rintro e w1 ⟨rfl, hx1⟩
    go_wp2
    go_ret2
    exact ⟨rfl, (Ext.alloc' _ _).trans' hx1⟩
theorem KPointAny_c (s g : Nat) (C : Cfg) (B : Nat) (L : Nat → Lev) (ls : Nat → List Int) (w : World) (h : KAt w s g C B L ls) (lv key : Int) (hk : U64 key) :
    Calls Tryz.prog 18 #[.pointer (some ⟨s, 0, none⟩), .agg #[.int .i64 lv, .int .u64 key]] w fun e w' => ∃ x r, e = .returned (.tuple #[.int .i64 x, .int .i64 r]) ∧ ptP C B ls lv key x r ∧ Ext w w' := by
  by_cases hlv : lv < 0 ∨ (B : Int) < lv
  · refine (KPoint_lv s g C B L ls w h lv hlv key).mono ?_
    rintro e w' ⟨rfl, hE⟩
    exact ⟨0, 2, rfl, .inl ⟨hlv, rfl, rfl⟩, hE⟩
  · obtain ⟨n, rfl⟩ : ∃ n : Nat, lv = n := ⟨lv.toNat, by omega⟩
    have hn : n ≤ B := by omega
    by_cases hlt : key < keys C n
    · refine (KPoint_c s g C B L ls w h n hn key hk.1 hlt).mono ?_
      rintro e w' ⟨x, rfl, hp, hE⟩
      exact ⟨x, 0, rfl, .inr ⟨n, rfl, hn, .inr ⟨hlt, hp, rfl⟩⟩, hE⟩
    · refine (KPoint_key s g C B L ls w h n hn key hk (by omega)).mono ?_
      rintro e w' ⟨rfl, hE⟩
      exact ⟨0, 2, rfl, .inr ⟨n, rfl, hn, .inl ⟨by omega, rfl, rfl⟩⟩, hE⟩
section
variable {N : Nat} {w w' : World} {F1 F2 F3 F4 : Nat → Prop} {P1 P2 P3 P4 : World → Prop} {C : Cfg} {B s r : Nat} {g t : Nat} {L : Nat → Lev} {M : Nat → RLev} {l l' : Nat → List Int}
theorem o_upd (h : Own4 N w (kF s g B L) F2 F3 F4 (fun w => KAt w s g C B L l) P2 P3 P4) (key d : Int) (hk : U64 key) (hd : I64 d) :
    Calls Tryz.prog 26 #[.pointer (some ⟨s, 0, none⟩), .int .u64 key, .int .i64 d] w fun e w' => e = .returned (.int .i64 (errK C B l key d)) ∧ Own4 N w' (kF s g B L) F2 F3 F4 (fun w => KAt w s g C B L (nextK C B l key d)) P2 P3 P4 ∧ Below N w w' := by
  refine (KUpdate_c s g C B L l key d w h.o1.h hd hk).mono ?_
  rintro e w' ⟨rfl, hK, hM⟩
  exact ⟨rfl, h.step hM (fun k hk => cellsOf_kF hk) hK.own (fun k hk => .inl hk), h.low hM (fun k hk => cellsOf_kF hk)⟩
theorem o_rupd (h : Own4 N w F1 F2 (rkF r t C B M) F4 P1 P2 (fun w => RKAt w r t C B M l') P4) (key d : Int) (hk : U64 key) (hd : I64 d) :
    Calls Tryz.prog 27 #[.pointer (some ⟨r, 0, none⟩), .int .u64 key, .int .i64 d] w fun e w' => ∃ t' M', e = .returned (.int .i64 (errK C B l' key d)) ∧ Own4 N w' F1 F2 (rkF r t' C B M') F4 P1 P2 (fun w => RKAt w r t' C B M' (nextK C B l' key d)) P4 ∧ Below N w w' := by
  refine (RKUpdate_c r t C B M l' key d w h.o3.h hk hd).mono ?_
  rintro e w' ⟨rfl, (⟨h0, t', L', hR, hF, hM⟩ | ⟨h0, hE⟩)⟩
  · have e : nextK C B l' key d = updK C l' key d := by unfold nextK; rw [decide_eq_true h0]; rfl
    rw [e]
    refine ⟨t', L', rfl, (h.rot.step hM (fun k hk => by rw [hk]; exact .inl rfl) hR.own (fun k hk => (hF k hk).imp (fun e => by rw [e]; exact .inl rfl) id)).rot, h.rot.low hM (fun k hk => by rw [hk]; exact .inl rfl)⟩
  · have e : nextK C B l' key d = l' := by unfold nextK; rw [decide_eq_false h0]; rfl
    rw [e]
    exact ⟨t, M, rfl, h.ext hE, h.low (hE.mod (fun _ => False)) (fun k hk => hk.elim)⟩
theorem o_copy {u gu : Nat} {Lu : Nat → Lev} {lu : Nat → List Int} (h : Own4 N w F1 F2 F3 F4 P1 P2 P3 P4) (hu : KAt w u gu C B Lu lu) :
    Calls Tryz.prog 20 #[.pointer (some ⟨u, 0, none⟩)] w fun e w' => ∃ s' g' L', e = .returned (.pointer (some ⟨s', 0, none⟩)) ∧ Own4 N w' (kF s' g' B L') F2 F3 F4 (fun w => KAt w s' g' C B L' lu) P2 P3 P4 ∧ Ext w w' := by
  refine (KCopy_c u gu C B Lu lu w hu).mono ?_
  rintro e w' ⟨s', g', L', rfl, hK, h1, h2, h3, hE⟩
  exact ⟨s', g', L', rfl, h.step (hE.mod (fun _ => False)) (fun k hk => hk.elim) hK.own (fun k hk => .inr (kF_fresh h1 h2 h3 k hk)), hE⟩
theorem o_rcopy {u tu : Nat} {Mu : Nat → RLev} {lu : Nat → List Int} (h : Own4 N w F1 F2 F3 F4 P1 P2 P3 P4) (hu : RKAt w u tu C B Mu lu) :
    Calls Tryz.prog 21 #[.pointer (some ⟨u, 0, none⟩)] w fun e w' => ∃ r' t' M', e = .returned (.pointer (some ⟨r', 0, none⟩)) ∧ Own4 N w' F1 F2 (rkF r' t' C B M') F4 P1 P2 (fun w => RKAt w r' t' C B M' lu) P4 ∧ Ext w w' := by
  refine (RKCopy_c u tu C B Mu lu w hu).mono ?_
  rintro e w' ⟨r', t', M', rfl, hK, hF, hE⟩
  exact ⟨r', t', M', rfl, (h.rot.step (hE.mod (fun _ => False)) (fun k hk => hk.elim) hK.own (fun k hk => .inr (hF k hk))).rot, hE⟩
theorem o_load (h : Own4 N w (kF s g B L) F2 F3 F4 (fun w => KAt w s g C B L l) P2 P3 P4) {n : Nat} (hn : n ≤ B) (m : List Int) (v : Value) (hv : IntsAt w v m) (hI : allI m) (hl : m.length = lvN C n) (hne : ∀ g off k cap, v = .slice (some ⟨g, off, none⟩) k cap → g ≠ (L n).c) :
    Calls Tryz.prog 22 #[.pointer (some ⟨s, 0, none⟩), .int .i64 n, v] w fun e w' => e = .returned (.bool true) ∧ Own4 N w' (kF s g B L) F2 F3 F4 (fun w => KAt w s g C B L (fun k => if k = n then m else l k)) P2 P3 P4 ∧ Mod (fun k => k = (L n).c) w w' ∧ Below N w w' := by
  refine (KLoad_yes s g C B L l w h.o1.h n hn m v hv hI hl hne).mono ?_
  rintro e w' ⟨rfl, hK, hM⟩
  have hS : ∀ k, k = (L n).c → kF s g B L k := fun k hk => .inr (.inr ⟨n, hn, .inr (.inr hk)⟩)
  exact ⟨rfl, h.step hM hS hK.own (fun k hk => .inl hk), hM, h.low hM hS⟩
theorem o_rload (h : Own4 N w F1 F2 (rkF r t C B M) F4 P1 P2 (fun w => RKAt w r t C B M l') P4) {n : Nat} (hn : n ≤ B) (m : List Int) (v : Value) (hv : IntsAt w v m) (hI : allI m) (hl : m.length = lvN C n) (hne : ∀ g off k cap, v = .slice (some ⟨g, off, none⟩) k cap → ¬ (M n).foot C n g) :
    Calls Tryz.prog 25 #[.pointer (some ⟨(M n).p, 0, none⟩), v] w fun e w' => ∃ M', e = .returned (.tuple #[]) ∧ Own4 N w' F1 F2 (rkF r t C B M') F4 P1 P2 (fun w => RKAt w r t C B M' (fun k => if k = n then m else l' k)) P4 ∧ Mod ((M n).foot C n) w w' ∧ Below N w w' := by
  refine (RLLoad_c (M n) C n (l' n) m v w (h.o3.h.lev n hn) hv hl hI hne).mono ?_
  rintro e w' ⟨rfl, K, hp, hK, hF, hM⟩
  have hS : ∀ k, (M n).foot C n k → rkF r t C B M k := fun k hk => .inr (.inr ⟨n, hn, hk⟩)
  refine ⟨_, rfl, (h.rot.step hM hS (h.o3.h.putL hn hp hM hK hF).own (fun k hk => ?_)).rot, hM, h.rot.low hM hS⟩
  rcases hk with rfl | rfl | ⟨m, hm, hk⟩
  · exact .inl (.inl rfl)
  · exact .inl (.inr (.inl rfl))
  · by_cases e : m = n
    · subst e
      dsimp only at hk
      rw [if_pos rfl] at hk
      exact (hF k hk).imp (hS k) id
    · dsimp only at hk
      rw [if_neg e] at hk
      exact .inl (.inr (.inr ⟨m, hm, hk⟩))
theorem total_of (hok : C.Ok) (hB : C.bits = B) {x y : Int} (h : ptA C B (l B) 0 x y) : x = (l B).getD 0 0 := by
  rcases h with ⟨a, _, _⟩ | ⟨_, (⟨_, b⟩ | ⟨b, _⟩), _⟩
  · rw [keys_top hB] at a; omega
  · exact b
  · rw [isX_top hok hB] at b; cases b
end
theorem lvN_leU {C : Cfg} (h : C.Ok) (lv : Int) : lvN C lv ≤ 1024 := by
  have h1 := h.w1
  have h2 := h.w2
  have h3 := h.r1
  have h4 := h.r2
  unfold lvN
  cases hx : isX C lv with
  | true =>
    have h3 : keys C lv ≤ C.width := of_decide_eq_true hx
    show kN C lv ≤ 1024
    unfold kN; omega
  | false =>
    show rN C * wN C ≤ 1024
    have e1 : rN C ≤ 8 := by have := rN_eq h; omega
    have e2 : wN C ≤ 128 := by have := wN_eq h; omega
    exact Nat.le_trans (Nat.mul_le_mul e1 e2) (by decide)
theorem lvN_posU {C : Cfg} (hok : C.Ok) {lv : Int} (h0 : 0 ≤ lv) : 0 < lvN C lv := by
  unfold lvN
  cases isX C lv with
  | true => show 0 < kN C lv; have := kN_eq hok h0; have := (keys_bd C hok lv h0).1; omega
  | false => show 0 < rN C * wN C; have := rN_eq hok; have := wN_eq hok; have := hok.r1; have := hok.w1; exact Nat.mul_pos (by omega) (by omega)
set_option maxRecDepth 20000 in
set_option maxHeartbeats 8000000 in
theorem same15_c (s g : Nat) (L : Nat → Lev) (r t : Nat) (M : Nat → RLev) (C : Cfg) (B : Nat) (ls : Nat → List Int) (w : World) (hK : KAt w s g C B L ls) (hR : RKAt w r t C B M ls) :
    Calls Tryz.prog 30 #[.pointer (some ⟨s, 0, none⟩), .pointer (some ⟨r, 0, none⟩)] w fun e w' => e = .returned (.bool true) ∧ Ext w w' := by
  have hB := hK.hB
  have hok := hK.ok
  have hb2 := hok.b2
  have hbd : B ≤ 59 := by omega
  have HK := Lib.hid hK
  have HR := Lib.hid hR
  clear hK hR hB hb2
  have hnn : decide ((0 : Int) = 1) = false := rfl
  go_enter Tryz.func30, Tryz.ntmps30
  go_wp2_with fail
  go_loopw [5] (fun u5 wr => ∃ k : Nat, k ≤ B + 1 ∧ u5 = .int .i64 k ∧ Ext w wr) (fun u5 _ => B + 1 - (intOf u5).toNat)
  case atStart => exact ⟨0, Nat.zero_le _, rfl, Ext.refl _⟩
  case round =>
    obtain ⟨k, hk, rfl, hE⟩ := hrel
    have hRr := HR.out.ext hE
    have hKr := HK.out.ext hE
    obtain ⟨cap, hex, hcap⟩ := hRr.ex
    have e5 := (cell_of hex 5).trans rfl
    have el := hRr.lts
    have HE := Lib.hid hE
    by_cases hlt : k < B + 1
    · have ck := hRr.cell (show k ≤ B by omega)
      have lt0 := hRr.ltt
      have hkz : (k : Int) < (B : Int) + 1 := by omega
      have HLV := Lib.hid (hRr.lev k (by omega))
      have hlen := HLV.out.len
      have hle := lvN_leU hok (k : Int)
      have HLN := Lib.hid (show (ls k).length ≤ 1000000 by rw [hlen]; omega)
      have HKR := Lib.hid hKr
      clear hRr hKr hex hE hlen hle
      rename World => wo
      go_wp2_with fail
      have hC0 := af_drew wo
      refine pi_start (fun w' => ∃ x : After wo, w' = x.w) [] (by kernel_rfl) ?_
      refine pi_t 0 rfl (by kernel_rfl) (by kernel_rfl) (fun _ _ _ _ h => h) (fun K hK => ?_)
      go_big_quiet_op
      refine hK _ ?_
      clear hK K
      refine pi_t 1 rfl (by kernel_rfl) (by kernel_rfl) (fun _ _ _ _ h => h) (fun K hK => ?_)
      go_big_quiet_op
      refine hK _ ?_
      clear hK K
      refine pi_t 3 rfl (by kernel_rfl) (by kernel_rfl) (fun _ _ _ _ h => h) (fun K hK => ?_)
      go_big_quiet_op
      refine hK _ ?_
      clear hK K
      refine pi_t 4 rfl (by kernel_rfl) (by kernel_rfl) (fun _ _ _ _ h => h) (fun K hK => ?_)
      go_big_quiet_op
      refine hK _ ?_
      clear hK K
      refine pi_t 5 rfl (by kernel_rfl) (by kernel_rfl) (fun _ _ _ _ h => h) (fun K hK => ?_)
      go_big_quiet_op
      refine hK _ ?_
      clear hK K
      refine pi_t 7 rfl (by kernel_rfl) (by kernel_rfl) (fun _ _ _ _ h => h) (fun K hK => ?_)
      go_big_quiet_op
      refine hK _ ?_
      clear hK K
      refine pi_c 6 (by assumption) rfl (by kernel_rfl) (by kernel_rfl) (fun _ _ _ _ h => h) (fun K hK => ?_)
      go_big_quiet_op
      refine hK _ ?_
      clear hK K
      refine pi_t 8 rfl (by kernel_rfl) (by kernel_rfl) (fun _ _ _ _ h => h) (fun K hK => ?_)
      go_big_quiet_op
      refine hK _ ?_
      clear hK K
      refine pi_c 9 (by assumption) rfl (by kernel_rfl) (by kernel_rfl) (fun _ _ _ _ h => h) (fun K hK => ?_)
      go_big_quiet_op
      refine hK _ ?_
      clear hK K
      refine pi_l 2 rfl (by kernel_rfl) (fun K hK => ?_)
      go_wp2_with (go_at_call 23; refine (KCells_c s g C B L ls _ (HKR.out.ext (Below.drew (Ext.refl wo))) k (by omega)).mono ?_; rintro e wa ⟨v1, rfl, ho1, _, hxa⟩)
      have hEa : Ext wo wa := Ext.trans' (Below.drew (Ext.refl wo)) hxa
      refine hK _ _ (fun _ h => af_step h hxa) ?_
      clear hK K
      have HV1 := Lib.hid (IntsAt.of_row ho1)
      clear ho1 hxa
      refine pi_l 10 rfl (by kernel_rfl) (fun K hK => ?_)
      go_wp2_with (go_at_call 24; refine Calls.mono (RLCells_c (M k) C k (ls k) _ (HLV.out.ext hEa)) ?_; rintro e wb ⟨v2, rfl, ho2, hxb⟩)
      have hEb : Ext wo wb := hEa.trans' hxb
      refine hK _ _ (fun _ h => af_step h hxb) ?_
      clear hK K
      have HV2 := Lib.hid (IntsAt.of_row ho2)
      have HV1b := Lib.hid (HV1.out.ext hxb)
      clear ho2 hxb
      refine pi_l 11 rfl (by kernel_rfl) (fun K hK => ?_)
      go_wp2_with (go_at_call 47; refine Calls.mono (Same_c v1 v2 (ls k) (ls k) _ HV1b.out HV2.out HLN.out HLN.out) ?_; rintro e wc ⟨rfl, hxc⟩)
      have hEc : Ext wo wc := hEb.trans' hxc
      try rw [decide_eq_true (rfl : ls k = ls k)]
      refine hK _ _ (fun _ h => af_step h hxc) ?_
      clear hK K
      refine pi_t 12 rfl (by kernel_rfl) (by kernel_rfl) (fun _ _ _ _ h => h) (fun K hK => ?_)
      go_big_quiet_op
      refine hK _ ?_
      clear hK K
      refine pi_end (by kernel_rfl) ?_
      have hE9 := HE.out.trans' hEc
      go_wp2
      go_roundw
      case rel => exact ⟨k + 1, by omega, by go_num, hE9⟩
      case measure => simp [intOf]; omega
    · obtain rfl : k = B + 1 := by omega
      have HKR := Lib.hid hKr
      clear hRr hKr hex hE
      go_wp2_with fail
      refine (KCells_no s g C B L ls _ HKR.out ((B : Int) + 1) (.inr (by omega))).mono ?_
      rintro e wa ⟨rfl, rfl⟩
      go_wp2
      go_ret
      exact ⟨rfl, HE.out⟩
set_option maxRecDepth 20000 in
set_option maxHeartbeats 8000000 in
theorem same20_c (s g : Nat) (L : Nat → Lev) (r t : Nat) (M : Nat → RLev) (C : Cfg) (B : Nat) (ls : Nat → List Int) (w : World) (hK : KAt w s g C B L ls) (hR : RKAt w r t C B M ls) :
    Calls Tryz.prog 68 #[.pointer (some ⟨s, 0, none⟩), .pointer (some ⟨r, 0, none⟩)] w fun e w' => e = .returned (.bool true) ∧ Ext w w' := by
  have hB := hK.hB
  have hok := hK.ok
  have hb2 := hok.b2
  have hbd : B ≤ 59 := by omega
  have HK := Lib.hid hK
  have HR := Lib.hid hR
  clear hK hR hB hb2
  have hnn : decide ((0 : Int) = 1) = false := rfl
  go_enter Tryz.func68, Tryz.ntmps68
  go_wp2_with fail
  go_loopw [5] (fun u5 wr => ∃ k : Nat, k ≤ B + 1 ∧ u5 = .int .i64 k ∧ Ext w wr) (fun u5 _ => B + 1 - (intOf u5).toNat)
  case atStart => exact ⟨0, Nat.zero_le _, rfl, Ext.refl _⟩
  case round =>
    obtain ⟨k, hk, rfl, hE⟩ := hrel
    have hRr := HR.out.ext hE
    have hKr := HK.out.ext hE
    obtain ⟨cap, hex, hcap⟩ := hRr.ex
    have e5 := (cell_of hex 5).trans rfl
    have el := hRr.lts
    have HE := Lib.hid hE
    by_cases hlt : k < B + 1
    · have ck := hRr.cell (show k ≤ B by omega)
      have lt0 := hRr.ltt
      have hkz : (k : Int) < (B : Int) + 1 := by omega
      have HLV := Lib.hid (hRr.lev k (by omega))
      have hlen := HLV.out.len
      have hle := lvN_leU hok (k : Int)
      have HLN := Lib.hid (show (ls k).length ≤ 1000000 by rw [hlen]; omega)
      have HKR := Lib.hid hKr
      clear hRr hKr hex hE hlen hle
      rename World => wo
      go_wp2_with fail
      have hC0 := af_drew wo
      refine pi_start (fun w' => ∃ x : After wo, w' = x.w) [] (by kernel_rfl) ?_
      refine pi_t 0 rfl (by kernel_rfl) (by kernel_rfl) (fun _ _ _ _ h => h) (fun K hK => ?_)
      go_big_quiet_op
      refine hK _ ?_
      clear hK K
      refine pi_t 1 rfl (by kernel_rfl) (by kernel_rfl) (fun _ _ _ _ h => h) (fun K hK => ?_)
      go_big_quiet_op
      refine hK _ ?_
      clear hK K
      refine pi_t 3 rfl (by kernel_rfl) (by kernel_rfl) (fun _ _ _ _ h => h) (fun K hK => ?_)
      go_big_quiet_op
      refine hK _ ?_
      clear hK K
      refine pi_t 4 rfl (by kernel_rfl) (by kernel_rfl) (fun _ _ _ _ h => h) (fun K hK => ?_)
      go_big_quiet_op
      refine hK _ ?_
      clear hK K
      refine pi_t 5 rfl (by kernel_rfl) (by kernel_rfl) (fun _ _ _ _ h => h) (fun K hK => ?_)
      go_big_quiet_op
      refine hK _ ?_
      clear hK K
      refine pi_t 7 rfl (by kernel_rfl) (by kernel_rfl) (fun _ _ _ _ h => h) (fun K hK => ?_)
      go_big_quiet_op
      refine hK _ ?_
      clear hK K
      refine pi_c 6 (by assumption) rfl (by kernel_rfl) (by kernel_rfl) (fun _ _ _ _ h => h) (fun K hK => ?_)
      go_big_quiet_op
      refine hK _ ?_
      clear hK K
      refine pi_t 8 rfl (by kernel_rfl) (by kernel_rfl) (fun _ _ _ _ h => h) (fun K hK => ?_)
      go_big_quiet_op
      refine hK _ ?_
      clear hK K
      refine pi_c 9 (by assumption) rfl (by kernel_rfl) (by kernel_rfl) (fun _ _ _ _ h => h) (fun K hK => ?_)
      go_big_quiet_op
      refine hK _ ?_
      clear hK K
      refine pi_l 2 rfl (by kernel_rfl) (fun K hK => ?_)
      go_wp2_with (go_at_call 23; refine (KCells_c s g C B L ls _ (HKR.out.ext (Below.drew (Ext.refl wo))) k (by omega)).mono ?_; rintro e wa ⟨v1, rfl, ho1, _, hxa⟩)
      have hEa : Ext wo wa := Ext.trans' (Below.drew (Ext.refl wo)) hxa
      refine hK _ _ (fun _ h => af_step h hxa) ?_
      clear hK K
      have HV1 := Lib.hid (IntsAt.of_row ho1)
      clear ho1 hxa
      refine pi_l 10 rfl (by kernel_rfl) (fun K hK => ?_)
      go_wp2_with (go_at_call 24; refine Calls.mono (RLCells_c (M k) C k (ls k) _ (HLV.out.ext hEa)) ?_; rintro e wb ⟨v2, rfl, ho2, hxb⟩)
      have hEb : Ext wo wb := hEa.trans' hxb
      refine hK _ _ (fun _ h => af_step h hxb) ?_
      clear hK K
      have HV2 := Lib.hid (IntsAt.of_row ho2)
      have HV1b := Lib.hid (HV1.out.ext hxb)
      clear ho2 hxb
      refine pi_l 11 rfl (by kernel_rfl) (fun K hK => ?_)
      go_wp2_with (go_at_call 47; refine Calls.mono (Same_c v1 v2 (ls k) (ls k) _ HV1b.out HV2.out HLN.out HLN.out) ?_; rintro e wc ⟨rfl, hxc⟩)
      have hEc : Ext wo wc := hEb.trans' hxc
      try rw [decide_eq_true (rfl : ls k = ls k)]
      refine hK _ _ (fun _ h => af_step h hxc) ?_
      clear hK K
      refine pi_t 12 rfl (by kernel_rfl) (by kernel_rfl) (fun _ _ _ _ h => h) (fun K hK => ?_)
      go_big_quiet_op
      refine hK _ ?_
      clear hK K
      refine pi_end (by kernel_rfl) ?_
      have hE9 := HE.out.trans' hEc
      go_wp2
      go_roundw
      case rel => exact ⟨k + 1, by omega, by go_num, hE9⟩
      case measure => simp [intOf]; omega
    · obtain rfl : k = B + 1 := by omega
      have HKR := Lib.hid hKr
      clear hRr hKr hex hE
      go_wp2
      go_ret
      exact ⟨rfl, HE.out⟩
set_option maxRecDepth 20000 in
set_option maxHeartbeats 8000000 in
theorem same24_c (s g : Nat) (L : Nat → Lev) (r t : Nat) (M : Nat → RLev) (C : Cfg) (B : Nat) (ls : Nat → List Int) (w : World) (hK : KAt w s g C B L ls) (hR : RKAt w r t C B M ls) :
    Calls Tryz.prog 59 #[.pointer (some ⟨s, 0, none⟩), .pointer (some ⟨r, 0, none⟩)] w fun e w' => e = .returned (.bool true) ∧ Ext w w' := by
  have hB := hK.hB
  have hok := hK.ok
  have hb2 := hok.b2
  have hbd : B ≤ 59 := by omega
  have HK := Lib.hid hK
  have HR := Lib.hid hR
  clear hK hR hB hb2
  have hnn : decide ((0 : Int) = 1) = false := rfl
  go_enter Tryz.func59, Tryz.ntmps59
  go_wp2_with fail
  go_loopw [5] (fun u5 wr => ∃ k : Nat, k ≤ B + 1 ∧ u5 = .int .i64 k ∧ Ext w wr) (fun u5 _ => B + 1 - (intOf u5).toNat)
  case atStart => exact ⟨0, Nat.zero_le _, rfl, Ext.refl _⟩
  case round =>
    obtain ⟨k, hk, rfl, hE⟩ := hrel
    have hRr := HR.out.ext hE
    have hKr := HK.out.ext hE
    obtain ⟨cap, hex, hcap⟩ := hRr.ex
    have e5 := (cell_of hex 5).trans rfl
    have el := hRr.lts
    have HE := Lib.hid hE
    by_cases hlt : k < B + 1
    · have ck := hRr.cell (show k ≤ B by omega)
      have lt0 := hRr.ltt
      have hkz : (k : Int) < (B : Int) + 1 := by omega
      have HLV := Lib.hid (hRr.lev k (by omega))
      have hlen := HLV.out.len
      have hle := lvN_leU hok (k : Int)
      have HLN := Lib.hid (show (ls k).length ≤ 1000000 by rw [hlen]; omega)
      have HKR := Lib.hid hKr
      clear hRr hKr hex hE hlen hle
      rename World => wo
      go_wp2_with fail
      have hC0 := af_drew wo
      refine pi_start (fun w' => ∃ x : After wo, w' = x.w) [] (by kernel_rfl) ?_
      refine pi_t 0 rfl (by kernel_rfl) (by kernel_rfl) (fun _ _ _ _ h => h) (fun K hK => ?_)
      go_big_quiet_op
      refine hK _ ?_
      clear hK K
      refine pi_t 1 rfl (by kernel_rfl) (by kernel_rfl) (fun _ _ _ _ h => h) (fun K hK => ?_)
      go_big_quiet_op
      refine hK _ ?_
      clear hK K
      refine pi_t 3 rfl (by kernel_rfl) (by kernel_rfl) (fun _ _ _ _ h => h) (fun K hK => ?_)
      go_big_quiet_op
      refine hK _ ?_
      clear hK K
      refine pi_t 4 rfl (by kernel_rfl) (by kernel_rfl) (fun _ _ _ _ h => h) (fun K hK => ?_)
      go_big_quiet_op
      refine hK _ ?_
      clear hK K
      refine pi_t 5 rfl (by kernel_rfl) (by kernel_rfl) (fun _ _ _ _ h => h) (fun K hK => ?_)
      go_big_quiet_op
      refine hK _ ?_
      clear hK K
      refine pi_t 7 rfl (by kernel_rfl) (by kernel_rfl) (fun _ _ _ _ h => h) (fun K hK => ?_)
      go_big_quiet_op
      refine hK _ ?_
      clear hK K
      refine pi_c 6 (by assumption) rfl (by kernel_rfl) (by kernel_rfl) (fun _ _ _ _ h => h) (fun K hK => ?_)
      go_big_quiet_op
      refine hK _ ?_
      clear hK K
      refine pi_t 8 rfl (by kernel_rfl) (by kernel_rfl) (fun _ _ _ _ h => h) (fun K hK => ?_)
      go_big_quiet_op
      refine hK _ ?_
      clear hK K
      refine pi_c 9 (by assumption) rfl (by kernel_rfl) (by kernel_rfl) (fun _ _ _ _ h => h) (fun K hK => ?_)
      go_big_quiet_op
      refine hK _ ?_
      clear hK K
      refine pi_l 2 rfl (by kernel_rfl) (fun K hK => ?_)
      go_wp2_with (go_at_call 23; refine (KCells_c s g C B L ls _ (HKR.out.ext (Below.drew (Ext.refl wo))) k (by omega)).mono ?_; rintro e wa ⟨v1, rfl, ho1, _, hxa⟩)
      have hEa : Ext wo wa := Ext.trans' (Below.drew (Ext.refl wo)) hxa
      refine hK _ _ (fun _ h => af_step h hxa) ?_
      clear hK K
      have HV1 := Lib.hid (IntsAt.of_row ho1)
      clear ho1 hxa
      refine pi_l 10 rfl (by kernel_rfl) (fun K hK => ?_)
      go_wp2_with (go_at_call 24; refine Calls.mono (RLCells_c (M k) C k (ls k) _ (HLV.out.ext hEa)) ?_; rintro e wb ⟨v2, rfl, ho2, hxb⟩)
      have hEb : Ext wo wb := hEa.trans' hxb
      refine hK _ _ (fun _ h => af_step h hxb) ?_
      clear hK K
      have HV2 := Lib.hid (IntsAt.of_row ho2)
      have HV1b := Lib.hid (HV1.out.ext hxb)
      clear ho2 hxb
      refine pi_l 11 rfl (by kernel_rfl) (fun K hK => ?_)
      go_wp2_with (go_at_call 47; refine Calls.mono (Same_c v1 v2 (ls k) (ls k) _ HV1b.out HV2.out HLN.out HLN.out) ?_; rintro e wc ⟨rfl, hxc⟩)
      have hEc : Ext wo wc := hEb.trans' hxc
      try rw [decide_eq_true (rfl : ls k = ls k)]
      refine hK _ _ (fun _ h => af_step h hxc) ?_
      clear hK K
      refine pi_t 12 rfl (by kernel_rfl) (by kernel_rfl) (fun _ _ _ _ h => h) (fun K hK => ?_)
      go_big_quiet_op
      refine hK _ ?_
      clear hK K
      refine pi_end (by kernel_rfl) ?_
      have hE9 := HE.out.trans' hEc
      go_wp2
      go_roundw
      case rel => exact ⟨k + 1, by omega, by go_num, hE9⟩
      case measure => simp [intOf]; omega
    · obtain rfl : k = B + 1 := by omega
      have HKR := Lib.hid hKr
      clear hRr hKr hex hE
      go_wp2
      go_ret
      exact ⟨rfl, HE.out⟩
end Go.Proofs.YtfhdjekpdifajaaGreat

/- A slice of operations (a kind, a level, a key, a number) that can be read. -/
namespace Go.Proofs.YtfhdjekpdifajaaGreat
set_option linter.unusedVariables false
open Go.RowKit
abbrev Opn4 := Int × Int × Int × Int
def Ops4At (w : World) (v : Value) (os : List Opn4) : Prop :=
  ((∃ p, v = .slice p 0 0) ∧ os = []) ∨ ∃ g off cap, v = .slice (some ⟨g, off, none⟩) os.length cap ∧ g < w.heap.size ∧
    ∀ k, k < os.length → w.cell? ⟨g, off + k * 4, none⟩ = some (.int .i64 (os.getD k (0, 0, 0, 0)).1) ∧ w.cell? ⟨g, off + k * 4 + 1, none⟩ = some (.int .i64 (os.getD k (0, 0, 0, 0)).2.1) ∧ w.cell? ⟨g, off + k * 4 + 2, none⟩ = some (.int .u64 (os.getD k (0, 0, 0, 0)).2.2.1) ∧ w.cell? ⟨g, off + k * 4 + 3, none⟩ = some (.int .i64 (os.getD k (0, 0, 0, 0)).2.2.2)
def Ops4Ok (os : List Opn4) : Prop := ∀ u ∈ os, I64 u.1 ∧ I64 u.2.1 ∧ U64 u.2.2.1 ∧ I64 u.2.2.2
theorem Ops4At.ext {w w' : World} {v : Value} {os : List Opn4} (h : Ops4At w v os) (he : Ext w w') : Ops4At w' v os := by
  rcases h with h | ⟨g, off, cap, h1, h2, h3⟩
  · exact .inl h
  · exact .inr ⟨g, off, cap, h1, Nat.lt_of_lt_of_le h2 he.size, fun k hk => ⟨((bcell he).1 _ _ h2).trans (h3 k hk).1, ((bcell he).1 _ _ h2).trans (h3 k hk).2.1, ((bcell he).1 _ _ h2).trans (h3 k hk).2.2.1, ((bcell he).1 _ _ h2).trans (h3 k hk).2.2.2⟩⟩
theorem Ops4At.sl {w : World} {v : Value} {os : List Opn4} (h : Ops4At w v os) : ∃ p c, v = .slice p os.length c := by
  rcases h with ⟨⟨p, rfl⟩, rfl⟩ | ⟨g, off, cap, rfl, _⟩
  · exact ⟨p, 0, rfl⟩
  · exact ⟨_, cap, rfl⟩
theorem Ops4At.one {w : World} {p : Option Addr} {n c : Nat} {os : List Opn4} (h : Ops4At w (.slice p n c) os) {k : Nat} (hk : k < os.length) :
    ∃ g off, p = some ⟨g, off, none⟩ ∧ g < w.heap.size ∧ w.cell? ⟨g, off + k * 4, none⟩ = some (.int .i64 os[k].1) ∧ w.cell? ⟨g, off + k * 4 + 1, none⟩ = some (.int .i64 os[k].2.1) ∧ w.cell? ⟨g, off + k * 4 + 2, none⟩ = some (.int .u64 os[k].2.2.1) ∧ w.cell? ⟨g, off + k * 4 + 3, none⟩ = some (.int .i64 os[k].2.2.2) := by
  rcases h with ⟨_, rfl⟩ | ⟨g, off, cap, h1, h2, h3⟩
  · exact absurd hk (Nat.not_lt_zero _)
  · have e := Value.slice.inj h1
    have hg : os.getD k (0, 0, 0, 0) = os[k] := by simp [hk]
    have := h3 k hk
    rw [hg] at this
    exact ⟨g, off, e.1, h2, this⟩
end Go.Proofs.YtfhdjekpdifajaaGreat

/- gaugerlaw15.StackPlays, walked. -/
namespace Go.Proofs.YtfhdjekpdifajaaGreat
set_option linter.unusedVariables false
open Go.RowKit
theorem own_none (w : World) : Own (fun _ => False) (fun _ => True) w := ⟨trivial, fun _ _ _ _ => trivial, fun _ h => h.elim⟩
/-- A stack of the program and one of the references that have the same cells. -/
def S2 (N : Nat) (w : World) (C : Cfg) (B : Nat) (v1 v2 : Value) : Prop :=
  ∃ s g L r t M l, v1 = .pointer (some ⟨s, 0, none⟩) ∧ v2 = .pointer (some ⟨r, 0, none⟩) ∧ Own4 N w (kF s g B L) (fun _ => False) (rkF r t C B M) (fun _ => False) (fun w => KAt w s g C B L l) (fun _ => True) (fun w => RKAt w r t C B M l) (fun _ => True)
theorem S2.mk {N : Nat} {w : World} {C : Cfg} {B s g r t : Nat} {L : Nat → Lev} {M : Nat → RLev} {l : Nat → List Int} (h : Own4 N w (kF s g B L) (fun _ => False) (rkF r t C B M) (fun _ => False) (fun w => KAt w s g C B L l) (fun _ => True) (fun w => RKAt w r t C B M l) (fun _ => True)) : S2 N w C B (.pointer (some ⟨s, 0, none⟩)) (.pointer (some ⟨r, 0, none⟩)) := ⟨s, g, L, r, t, M, l, rfl, rfl, h⟩
set_option maxRecDepth 20000 in
theorem KLoad_lv (s g : Nat) (C : Cfg) (B : Nat) (L : Nat → Lev) (ls : Nat → List Int) (w : World) (h : KAt w s g C B L ls) (n : Int) (hn : n < 0 ∨ (B : Int) < n) (v : Value) :
    Calls Tryz.prog 22 #[.pointer (some ⟨s, 0, none⟩), .int .i64 n, v] w fun e w' => e = .returned (.bool false) ∧ w = w' := by
  go_enter Tryz.func22, Tryz.ntmps22
  go_wp2_with fail
  refine (level_no s g C B L ls w h n hn).mono ?_
  rintro e w1 ⟨rfl, rfl⟩
  go_wp2
  go_ret
  exact ⟨rfl, rfl⟩
/-- A row of one's own, one cell of which is set. -/
theorem row_set {w : World} {z zc : Nat} {cur : Array Value} {l : List Int} {i : Nat} {d : Int} (hz : w.heap[z]? = some (.cells cur 2 (0, 0))) (hcur : ∀ j, j < l.length → cur[j]? = some (.int .i64 (l.getD j 0))) (hi : i < l.length) :
    IntsAt (w.setCell ⟨z, i, none⟩ (.int .i64 d)) (.slice (some ⟨z, 0, none⟩) l.length zc) (l.set i d) := by
  refine .inr ⟨z, 0, zc, by rw [List.length_set], by rw [size_setCell]; exact lt_of hz, fun k hk => ?_⟩
  rw [List.length_set] at hk
  rw [cell_of (setCell_same hz i _), Nat.zero_add]
  by_cases e : k = i
  · subst e
    have hsz : k < cur.size := by
      have := hcur k hk
      rw [Array.getElem?_eq_some_iff] at this
      exact this.1
    rw [Array.getElem?_setIfInBounds_self_of_lt hsz, List.getD_eq_getElem?_getD, List.getElem?_set_self hk]
    rfl
  · rw [Array.getElem?_setIfInBounds_ne (fun h => e h.symm), hcur k hk, List.getD_eq_getElem?_getD, List.getD_eq_getElem?_getD, List.getElem?_set_ne (fun h => e h.symm)]
theorem ext_above {w w1 : World} {z : Nat} (h : Ext w w1) (hz : w.heap.size ≤ z) (i : Nat) (u : Value) : Ext w (w1.setCell ⟨z, i, none⟩ u).drew := (h.setR (p := ⟨z, i, none⟩) hz u).drewR
set_option maxRecDepth 20000 in
set_option maxHeartbeats 16000000 in
theorem KPlaysL_c (x : Cfg) (hx : x.Raw) (os : List Opn4) (hos : Ops4Ok os) (v : Value) (w : World) (hv : Ops4At w v os) (hul : os.length ≤ 140737488355328) :
    Calls Tryz.prog 3 #[.agg #[.int .i64 x.bits, .int .i64 x.rows, .int .i64 x.width, .int .i64 x.mode, .int .u64 x.seed], v] w fun e w' => e = .returned (.bool true) ∧ Ext w w' := by
  obtain ⟨vp, vc, rfl⟩ := hv.sl
  have HV := Lib.hid hv
  clear hv
  go_enter Tryz.func3, Tryz.ntmps3
  go_wp2_with fail
  refine (shownK_c _).mono ?_
  rintro e w1 ⟨rfl, hb1⟩
  have hE1 : Ext w w1 := by (repeat' (first | exact Ext.refl _ | assumption | apply Ext.allocR | apply Ext.drewR | apply Ext.drewNR | (refine Ext.trans' ?_ (by assumption))))
  have hC := (CfgAt.box (w := w) x 24 rfl).ext hb1
  have c0 := hC.c0
  have c1 := hC.c1
  have c2 := hC.c2
  have c3 := hC.c3
  have c4 := hC.c4
  have cl := hC.lt
  clear hC hb1
  go_wp2_with fail
  refine (Any_c x hx 6 9 (by decide) (by decide) (by decide) (by decide) _).mono ?_
  rintro e w2 ⟨rfl, hx2⟩
  have hok := mkC_ok x hx.s (nb := 6) (nw := 9) (by decide) (by decide) (by decide) (by decide)
  have hE2 : Ext w w2 := by (repeat' (first | exact Ext.refl _ | assumption | apply Ext.allocR | apply Ext.drewR | apply Ext.drewNR | (refine Ext.trans' ?_ (by assumption))))
  generalize mkC x 6 9 = C at *
  have hb1 := hok.b1
  have hb2 := hok.b2
  clear c0 c1 c2 c3 c4 cl hx2 hE1
  obtain ⟨B, hB⟩ : ∃ B : Nat, C.bits = B := ⟨C.bits.toNat, by omega⟩
  have hBt : C.bits.toNat = B := by omega
  have HBB := Lib.hid (And.intro hb1 (And.intro hb2 hB))
  have HKN := Lib.hid (fun W' => KNew_c C hok W')
  have HRN := Lib.hid (fun W' => RKNew_c C hok B hB W')
  have HBT := Lib.hid hBt
  have HOK := Lib.hid hok
  clear hB hBt
  go_upto_region 3 with (fail)
  obtain ⟨w3, hw3⟩ : ∃ w3, w2.alloc (.cells #[.int .i64 C.bits, .int .i64 C.rows, .int .i64 C.width, .int .i64 C.mode, .int .u64 C.seed] 24) = w3 := ⟨_, rfl⟩
  have hQ : w3.heap[w2.heap.size]? = some (.cells #[.int .i64 C.bits, .int .i64 C.rows, .int .i64 C.width, .int .i64 C.mode, .int .u64 C.seed] 24 (0, 0)) := by rw [← hw3]; exact heap_at _ _ rfl
  have hE3 : Ext w w3 := by rw [← hw3]; exact hE2.allocR _
  try rw [hw3]
  have HE3 := Lib.hid hE3
  have HQ := Lib.hid hQ
  have hC3 := CfgAt.of hQ
  clear hw3 hE2 hb1 hb2
  have c0 := hC3.c0
  have c1 := hC3.c1
  have c2 := hC3.c2
  have c3 := hC3.c3
  have c4 := hC3.c4
  have cl := hC3.lt
  clear hC3 hQ hE3 hok
  go_wp2_with fail
  refine (HKN.out _).mono ?_
  rintro e w4 ⟨s, g, L, rfl, hK, s1, s2, hF, hx4⟩
  rw [HBT.out] at hK hF
  have HK := Lib.hid hK
  have HF := Lib.hid (show KFresh w3.heap.size B L from hF)
  have HS := Lib.hid (And.intro s1 s2)
  have HX4 := Lib.hid hx4
  have hC4 := CfgAt.of (hx4.keep HQ.out)
  clear c0 c1 c2 c3 c4 cl hK hF s1 s2 hx4
  have c0 := hC4.c0
  have c1 := hC4.c1
  have c2 := hC4.c2
  have c3 := hC4.c3
  have c4 := hC4.c4
  have cl := hC4.lt
  clear hC4
  go_wp2_with fail
  refine (HRN.out _).mono ?_
  rintro e w5 ⟨r, t, M, rfl, hR, hRF, hx5⟩
  have hE35 := HX4.out.trans' hx5
  have hlow := HK.out.own.lt
  have hS5 : S2 w3.heap.size w5 C B (.pointer (some ⟨s, 0, none⟩)) (.pointer (some ⟨r, 0, none⟩)) := S2.mk (l := fun n => zs (lvN C n))
    (Own4.mk4 (z1 := w4.heap.size) (z2 := w4.heap.size) (z3 := w5.heap.size) (HK.out.own.ext hx5) (own_none _) hR.own (own_none _) (fun k hk => ⟨kF_fresh HS.out.1 HS.out.2 HF.out k hk, hlow k hk⟩) (fun k hk => hk.elim) (fun k hk => ⟨hRF k hk, hR.own.lt k hk⟩) (fun k hk => hk.elim) HX4.out.size (Nat.le_refl _) hx5.size hE35.size)
  have HS5 := Lib.hid hS5
  clear c0 c1 c2 c3 c4 cl hR hRF hx5 hS5 HK HF HS HX4 HKN HRN hlow
  obtain ⟨N, hN⟩ : ∃ N, w3.heap.size = N := ⟨_, rfl⟩
  have hwN : w.heap.size ≤ N := by rw [← hN]; exact HE3.out.size
  have hqN : w2.heap.size < N := by rw [← hN]; exact lt_of HQ.out
  rw [hN] at HS5
  have HN := Lib.hid hN
  clear hN
  go_wp2_with fail
  go_loopw [7, 9, 10] (fun u7 u9 u10 wr => ∃ k : Nat, k ≤ 40 ∧ k ≤ os.length ∧ u10 = .int .i64 k ∧ Ext w3 wr ∧ S2 N wr C B u7 u9) (fun _ _ u10 _ => 40 - (intOf u10).toNat)
  case atStart => exact ⟨0, Nat.zero_le _, Nat.zero_le _, rfl, hE35, HS5.out⟩
  case round =>
    clear hE35 HS5
    obtain ⟨k, hk40, hkl, rfl, hE, s, g, L, r, t, M, l, rfl, rfl, hS⟩ := hrel
    have HS := Lib.hid hS
    clear hS
    have hEw := HE3.out.trans' hE
    by_cases hgo : k < os.length ∧ k < 40
    · obtain ⟨hg1, hg2⟩ := hgo
      obtain ⟨ug, off, rfl, hul0, d0', d1', d2', d3'⟩ := HV.out.one hg1
      have d0 := ((bcell hEw).1 _ _ hul0).trans d0'
      have d1 := ((bcell hEw).1 _ _ hul0).trans d1'
      have d2 := ((bcell hEw).1 _ _ hul0).trans d2'
      have d3 := ((bcell hEw).1 _ _ hul0).trans d3'
      have hgl2 : ug < wr.heap.size := Nat.lt_of_lt_of_le hul0 hEw.size
      have hugN : ug < N := Nat.lt_of_lt_of_le hul0 hwN
      have hu := hos _ (List.getElem_mem hg1)
      generalize os[k] = oo at *
      obtain ⟨kk, ul, uk, ud⟩ := oo
      obtain ⟨_, hulI, hukU, hudI⟩ := hu
      have HUK := Lib.hid hukU
      have HUD := Lib.hid hudI
      have HWR := Lib.hid hEw
      have HER := Lib.hid hE
      have hCq := CfgAt.of (hE.keep HQ.out)
      have q0 := hCq.c0
      have ql := hCq.lt
      clear d0' d1' d2' d3' hudI hEw hE hCq
      by_cases hcont : kk = 3 ∧ (ul < 0 ∨ (B : Int) < ul)
      · obtain ⟨rfl, hout⟩ := hcont
        have hE9 := HER.out
        have hBc := HBB.out.2.2
        by_cases hneg : ul < 0
        · clear hBc
          go_wp2_with fail
          refine Calls.mono (KLoad_lv s g C B L l _ HS.out.o1.h ul hout _) ?_
          rintro e wa ⟨rfl, rfl⟩
          go_wp2_with fail
          refine Calls.mono (KCells_no s g C B L l _ HS.out.o1.h ul hout) ?_
          rintro e wa ⟨rfl, rfl⟩
          go_wp2
          go_roundw
          case rel => exact ⟨k + 1, by omega, by omega, by go_num, hE9, S2.mk HS.out⟩
          case measure => simp [intOf]; omega
        · have hn1 : decide (ul < 0) = false := decide_eq_false hneg
          have hn2 : decide (C.bits < ul) = true := decide_eq_true (by omega)
          have hBH := Lib.hid hBc
          clear hBc
          go_wp2_with fail
          refine Calls.mono (KLoad_lv s g C B L l _ HS.out.o1.h ul hout _) ?_
          rintro e wa ⟨rfl, rfl⟩
          go_wp2_with fail
          refine Calls.mono (KCells_no s g C B L l _ HS.out.o1.h ul hout) ?_
          rintro e wa ⟨rfl, rfl⟩
          go_wp2
          go_roundw
          case rel => exact ⟨k + 1, by omega, by omega, by go_num, hE9, S2.mk HS.out⟩
          case measure => simp [intOf]; omega
      · go_upto_block 2 with (fail)
        go_cut [7, 9] (fun s7 s9 wx => S2 N wx C B s7 s9 ∧ Below N wr wx)
        case first =>
          by_cases hk1 : kk = 1
          · subst hk1
            clear hcont q0 ql
            go_wp2_with fail
            have hC0 := af_drew wr
            refine pi_start (fun w' => ∃ x : After wr, w' = x.w) [] (by kernel_rfl) ?_
            refine pi_t 0 rfl (by kernel_rfl) (by kernel_rfl) (fun _ _ _ _ h => h) (fun K hK => ?_)
            go_big_quiet_op
            refine hK _ ?_
            clear hK K
            refine pi_t 1 rfl (by kernel_rfl) (by kernel_rfl) (fun _ _ _ _ h => h) (fun K hK => ?_)
            go_big_quiet_op
            refine hK _ ?_
            clear hK K
            refine pi_t 2 rfl (by kernel_rfl) (by kernel_rfl) (fun _ _ _ _ h => h) (fun K hK => ?_)
            go_big_quiet_op
            refine hK _ ?_
            clear hK K
            refine pi_t 3 rfl (by kernel_rfl) (by kernel_rfl) (fun _ _ _ _ h => h) (fun K hK => ?_)
            go_big_quiet_op
            refine hK _ ?_
            clear hK K
            refine pi_t 4 rfl (by kernel_rfl) (by kernel_rfl) (fun _ _ _ _ h => h) (fun K hK => ?_)
            go_big_quiet_op
            refine hK _ ?_
            clear hK K
            refine pi_t 6 rfl (by kernel_rfl) (by kernel_rfl) (fun _ _ _ _ h => h) (fun K hK => ?_)
            go_big_quiet_op
            refine hK _ ?_
            clear hK K
            refine pi_t 7 rfl (by kernel_rfl) (by kernel_rfl) (fun _ _ _ _ h => h) (fun K hK => ?_)
            go_big_quiet_op
            refine hK _ ?_
            clear hK K
            refine pi_t 8 rfl (by kernel_rfl) (by kernel_rfl) (fun _ _ _ _ h => h) (fun K hK => ?_)
            go_big_quiet_op
            refine hK _ ?_
            clear hK K
            refine pi_t 9 rfl (by kernel_rfl) (by kernel_rfl) (fun _ _ _ _ h => h) (fun K hK => ?_)
            go_big_quiet_op
            refine hK _ ?_
            clear hK K
            refine pi_c 5 (by assumption) rfl (by kernel_rfl) (by kernel_rfl) (fun _ _ _ _ h => h) (fun K hK => ?_)
            go_big_quiet_op
            refine hK _ ?_
            clear hK K
            refine pi_c 10 (by assumption) rfl (by kernel_rfl) (by kernel_rfl) (fun _ _ _ _ h => h) (fun K hK => ?_)
            go_big_quiet_op
            refine hK _ ?_
            clear hK K
            refine pi_t 11 rfl (by kernel_rfl) (by kernel_rfl) (fun _ _ _ _ h => h) (fun K hK => ?_)
            go_big_quiet_op
            refine hK _ ?_
            clear hK K
            refine pi_l 12 rfl (by kernel_rfl) (fun K hK => ?_)
            go_wp2_with (go_at_call 18; refine Calls.mono (KPointAny_c s g C B L l _ (HS.out.o1.h.ext (Below.drew (Ext.refl wr))) ul uk HUK.out) ?_; rintro e wa ⟨x1, t1, rfl, hp1, hxa⟩)
            refine hK _ _ (fun _ h => af_step h hxa) ?_
            clear hK K
            have hEa : Ext wr wa := Ext.trans' (Below.drew (Ext.refl wr)) hxa
            have HP1 := Lib.hid hp1
            have HSa := Lib.hid (HS.out.ext hEa)
            have f1 := ((bcell hEa).1 ug _ hgl2).trans d1
            have f2 := ((bcell hEa).1 ug _ hgl2).trans d2
            have gla := Nat.lt_of_lt_of_le hgl2 hEa.size
            have HEA := Lib.hid hEa
            clear hp1 hxa d0 d1 d2 d3 hEa
            refine pi_t 13 rfl (by kernel_rfl) (by kernel_rfl) (fun _ _ _ _ h => h) (fun K hK => ?_)
            go_big_quiet_op
            refine hK _ ?_
            clear hK K
            refine pi_t 14 rfl (by kernel_rfl) (by kernel_rfl) (fun _ _ _ _ h => h) (fun K hK => ?_)
            go_big_quiet_op
            refine hK _ ?_
            clear hK K
            refine pi_t 15 rfl (by kernel_rfl) (by kernel_rfl) (fun _ _ _ _ h => h) (fun K hK => ?_)
            go_big_quiet_op
            refine hK _ ?_
            clear hK K
            refine pi_t 16 rfl (by kernel_rfl) (by kernel_rfl) (fun _ _ _ _ h => h) (fun K hK => ?_)
            go_big_quiet_op
            refine hK _ ?_
            clear hK K
            refine pi_t 17 rfl (by kernel_rfl) (by kernel_rfl) (fun _ _ _ _ h => h) (fun K hK => ?_)
            go_big_quiet_op
            refine hK _ ?_
            clear hK K
            refine pi_end (by kernel_rfl) ?_
            go_wp2_with fail
            have hC0 := af_drew wa
            refine pi_start (fun w' => ∃ x : After wa, w' = x.w) [] (by kernel_rfl) ?_
            refine pi_t 0 rfl (by kernel_rfl) (by kernel_rfl) (fun _ _ _ _ h => h) (fun K hK => ?_)
            go_big_quiet_op
            refine hK _ ?_
            clear hK K
            refine pi_t 1 rfl (by kernel_rfl) (by kernel_rfl) (fun _ _ _ _ h => h) (fun K hK => ?_)
            go_big_quiet_op
            refine hK _ ?_
            clear hK K
            refine pi_t 2 rfl (by kernel_rfl) (by kernel_rfl) (fun _ _ _ _ h => h) (fun K hK => ?_)
            go_big_quiet_op
            refine hK _ ?_
            clear hK K
            refine pi_t 3 rfl (by kernel_rfl) (by kernel_rfl) (fun _ _ _ _ h => h) (fun K hK => ?_)
            go_big_quiet_op
            refine hK _ ?_
            clear hK K
            refine pi_t 4 rfl (by kernel_rfl) (by kernel_rfl) (fun _ _ _ _ h => h) (fun K hK => ?_)
            go_big_quiet_op
            refine hK _ ?_
            clear hK K
            refine pi_t 6 rfl (by kernel_rfl) (by kernel_rfl) (fun _ _ _ _ h => h) (fun K hK => ?_)
            go_big_quiet_op
            refine hK _ ?_
            clear hK K
            refine pi_t 7 rfl (by kernel_rfl) (by kernel_rfl) (fun _ _ _ _ h => h) (fun K hK => ?_)
            go_big_quiet_op
            refine hK _ ?_
            clear hK K
            refine pi_t 8 rfl (by kernel_rfl) (by kernel_rfl) (fun _ _ _ _ h => h) (fun K hK => ?_)
            go_big_quiet_op
            refine hK _ ?_
            clear hK K
            refine pi_t 9 rfl (by kernel_rfl) (by kernel_rfl) (fun _ _ _ _ h => h) (fun K hK => ?_)
            go_big_quiet_op
            refine hK _ ?_
            clear hK K
            refine pi_c 5 (by assumption) rfl (by kernel_rfl) (by kernel_rfl) (fun _ _ _ _ h => h) (fun K hK => ?_)
            go_big_quiet_op
            refine hK _ ?_
            clear hK K
            refine pi_c 10 (by assumption) rfl (by kernel_rfl) (by kernel_rfl) (fun _ _ _ _ h => h) (fun K hK => ?_)
            go_big_quiet_op
            refine hK _ ?_
            clear hK K
            refine pi_t 11 rfl (by kernel_rfl) (by kernel_rfl) (fun _ _ _ _ h => h) (fun K hK => ?_)
            go_big_quiet_op
            refine hK _ ?_
            clear hK K
            refine pi_l 12 rfl (by kernel_rfl) (fun K hK => ?_)
            go_wp2_with (go_at_call 19; refine Calls.mono (RKPoint_c r t C B M l ul uk hulI HUK.out _ (HSa.out.o3.h.ext (Below.drew (Ext.refl wa)))) ?_; rintro e wb ⟨x2, t2, rfl, hp2, hxb⟩)
            obtain ⟨rfl, rfl⟩ := ptP_unique hp2 HP1.out
            refine hK _ _ (fun _ h => af_step h hxb) ?_
            clear hK K hp2
            have hEb : Ext wr wb := HEA.out.trans' (Ext.trans' (Below.drew (Ext.refl wa)) hxb)
            have HSB := Lib.hid (HS.out.ext hEb)
            have HBB' := Lib.hid (below_of hEb (by have := HER.out.size; have := HN.out; omega) : Below N wr wb)
            clear hxb hEb f1 f2 HP1
            refine pi_t 13 rfl (by kernel_rfl) (by kernel_rfl) (fun _ _ _ _ h => h) (fun K hK => ?_)
            go_big_quiet_op
            refine hK _ ?_
            clear hK K
            refine pi_t 14 rfl (by kernel_rfl) (by kernel_rfl) (fun _ _ _ _ h => h) (fun K hK => ?_)
            go_big_quiet_op
            refine hK _ ?_
            clear hK K
            refine pi_t 15 rfl (by kernel_rfl) (by kernel_rfl) (fun _ _ _ _ h => h) (fun K hK => ?_)
            go_big_quiet_op
            refine hK _ ?_
            clear hK K
            refine pi_t 16 rfl (by kernel_rfl) (by kernel_rfl) (fun _ _ _ _ h => h) (fun K hK => ?_)
            go_big_quiet_op
            refine hK _ ?_
            clear hK K
            refine pi_t 17 rfl (by kernel_rfl) (by kernel_rfl) (fun _ _ _ _ h => h) (fun K hK => ?_)
            go_big_quiet_op
            refine hK _ ?_
            clear hK K
            refine pi_end (by kernel_rfl) ?_
            go_wp2_with fail
            go_meet
            exact ⟨S2.mk HSB.out, HBB'.out⟩
          · by_cases hk2 : kk = 2
            · subst hk2
              clear hk1 hcont q0 ql
              go_wp2_with fail
              refine Calls.mono (o_copy HS.out HS.out.o1.h) ?_
              rintro e wa ⟨s', g', L', rfl, hSa, hxa⟩
              have HSa := Lib.hid hSa
              have HXA := Lib.hid hxa
              clear hSa hxa
              go_wp2_with fail
              refine Calls.mono (o_rcopy HSa.out HSa.out.o3.h) ?_
              rintro e wb ⟨r', t', M', rfl, hSb, hxb⟩
              have HSb := Lib.hid hSb
              have HBb := Lib.hid (below_of (HXA.out.trans' hxb) (by have := HER.out.size; have := HN.out; omega) : Below N wr wb)
              clear hSb hxb
              go_wp2
              go_meet
              exact ⟨S2.mk HSb.out, HBb.out⟩
            · by_cases hk3 : kk = 3
              · subst hk3
                clear hk1 hk2
                obtain ⟨n, rfl⟩ : ∃ n : Nat, ul = n := ⟨ul.toNat, by omega⟩
                have hnB : n ≤ B := by omega
                have hn2 : decide (C.bits < (n : Int)) = false := decide_eq_false (by have := HBB.out.2.2; omega)
                have hB59 : B ≤ 59 := by have := HBB.out.2.1; have := HBB.out.2.2; omega
                have hnz : (n : Int) < (B : Int) + 1 := by omega
                obtain ⟨cap, hex, hcap⟩ := HS.out.o3.h.ex
                have r1 := (cell_of hex 1).trans rfl
                have r5 := (cell_of hex 5).trans rfl
                have rl := lt_of hex
                have tc := HS.out.o3.h.cell hnB
                have tl := HS.out.o3.h.ltt
                have HLV := Lib.hid (HS.out.o3.h.lev n hnB)
                have HLN := Lib.hid HLV.out.len
                have HLF := Lib.hid HLV.out.fit
                have hp0 : 0 < (l n).length := by rw [HLN.out]; exact lvN_posU HOK.out (Int.natCast_nonneg n)
                have hp1 : (l n).length ≤ 1024 := by rw [HLN.out]; exact lvN_leU HOK.out _
                clear hcont hex hulI
                go_wp2_with fail
                refine Calls.mono (RLCells_c (M n) C n (l n) _ HLV.out) ?_
                rintro e wa ⟨va, rfl, hown, hxa⟩
                obtain ⟨z, zc, cur, rfl, hzc, hz, hzh, hzcur⟩ := own_row1 hown hp0
                have HZ := Lib.hid (And.intro hz (And.intro hzh hzcur))
                have zl := lt_of hzh
                have f2 := ((bcell hxa).1 ug _ hgl2).trans d2
                have f3 := ((bcell hxa).1 ug _ hgl2).trans d3
                have gla := Nat.lt_of_lt_of_le hgl2 hxa.size
                have HSa := Lib.hid (HS.out.ext hxa)
                have HXA := Lib.hid hxa
                clear hown hz hzh hzcur hxa d0 d1 d2 d3 q0 ql r1 r5 rl tc tl
                generalize hlen : (l n).length = K1 at *
                have HLEN := Lib.hid hlen
                clear hlen
                obtain ⟨hu0, hu1⟩ := hukU
                have i0 := Int.emod_nonneg uk (show (K1 : Int) ≠ 0 by omega)
                have i1 := Int.emod_lt_of_pos uk (show (0 : Int) < K1 by omega)
                obtain ⟨i, hi⟩ : ∃ i : Nat, uk % (K1 : Int) = i := ⟨(uk % (K1 : Int)).toNat, by omega⟩
                have hik : i < K1 := by omega
                have hiz : (i : Int) < (K1 : Int) := by omega
                have HIK := Lib.hid hi
                have fz := frozen_of HZ.out.2.1 i
                have cz := (cell_of HZ.out.2.1 i).trans (HZ.out.2.2 i hik)
                have hkz : ((K1 : Int) == 0) = false := by simp; omega
                clear i0 i1 hi
                go_wp2_with fail
                have hC0 := af_drew wa
                refine pi_start (fun w' => ∃ x : After wa, w' = x.w) [16] (by kernel_rfl) ?_
                refine pi_t 0 rfl (by kernel_rfl) (by kernel_rfl) (fun _ _ _ _ h => h) (fun K hK => ?_)
                go_big_quiet_op
                refine hK _ ?_
                clear hK K
                refine pi_t 1 rfl (by kernel_rfl) (by kernel_rfl) (fun _ _ _ _ h => h) (fun K hK => ?_)
                go_big_quiet_op
                refine hK _ ?_
                clear hK K
                refine pi_t 2 rfl (by kernel_rfl) (by kernel_rfl) (fun _ _ _ _ h => h) (fun K hK => ?_)
                go_big_quiet_op
                refine hK _ ?_
                clear hK K
                refine pi_t 3 rfl (by kernel_rfl) (by kernel_rfl) (fun _ _ _ _ h => h) (fun K hK => ?_)
                go_big_quiet_op
                refine hK _ ?_
                clear hK K
                refine pi_t 4 rfl (by kernel_rfl) (by kernel_rfl) (fun _ _ _ _ h => h) (fun K hK => ?_)
                go_big_quiet_op
                refine hK _ ?_
                clear hK K
                refine pi_t 6 rfl (by kernel_rfl) (by kernel_rfl) (fun _ _ _ _ h => h) (fun K hK => ?_)
                go_big_quiet_op
                refine hK _ ?_
                clear hK K
                refine pi_t 7 rfl (by kernel_rfl) (by kernel_rfl) (fun _ _ _ _ h => h) (fun K hK => ?_)
                go_big_quiet_op
                refine hK _ ?_
                clear hK K
                refine pi_t 8 rfl (by kernel_rfl) (by kernel_rfl) (fun _ _ _ _ h => h) (fun K hK => ?_)
                go_big_quiet_op
                refine hK _ ?_
                clear hK K
                refine pi_t 10 rfl (by kernel_rfl) (by kernel_rfl) (fun _ _ _ _ h => h) (fun K hK => ?_)
                go_big_quiet_op
                refine hK _ ?_
                clear hK K
                refine pi_t 11 rfl (by kernel_rfl) (by kernel_rfl) (fun _ _ _ _ h => h) (fun K hK => ?_)
                go_big_quiet_op
                refine hK _ ?_
                clear hK K
                refine pi_t 12 rfl (by kernel_rfl) (by kernel_rfl) (fun _ _ _ _ h => h) (fun K hK => ?_)
                go_big_quiet_op
                refine hK _ ?_
                clear hK K
                refine pi_t 13 rfl (by kernel_rfl) (by kernel_rfl) (fun _ _ _ _ h => h) (fun K hK => ?_)
                go_big_quiet_op
                refine hK _ ?_
                clear hK K
                refine pi_c 5 (by assumption) rfl (by kernel_rfl) (by kernel_rfl) (fun _ _ _ _ h => h) (fun K hK => ?_)
                go_big_quiet_op
                refine hK _ ?_
                clear hK K
                refine pi_t 9 rfl (by kernel_rfl) (by kernel_rfl) (fun _ _ _ _ h => h) (fun K hK => ?_)
                go_big_quiet_op
                refine hK _ ?_
                clear hK K
                try rw [HIK.out]
                refine pi_c 14 (by assumption) rfl (by kernel_rfl) (by kernel_rfl) (fun _ _ _ _ h => h) (fun K hK => ?_)
                go_big_quiet_op
                refine hK _ ?_
                clear hK K
                refine pi_t 15 rfl (by kernel_rfl) (by kernel_rfl) (fun _ _ _ _ h => h) (fun K hK => ?_)
                go_big_quiet_op
                refine hK _ ?_
                clear hK K
                refine pi_l 16 rfl (by kernel_rfl) (fun K hK => ?_)
                go_wp2
                refine hK _ _ (by simp) ?_
                clear hK K
                refine pi_end (by kernel_rfl) ?_
                have hIZ : IntsAt (wa.setCell ⟨z, i, none⟩ (.int .i64 ud)) (.slice (some ⟨z, 0, none⟩) K1 zc) ((l n).set i ud) := by
                  have := row_set (l := l n) (zc := zc) (d := ud) HZ.out.2.1 (fun j hj => HZ.out.2.2 j (by rw [← HLEN.out]; exact hj)) (show i < (l n).length by rw [HLEN.out]; exact hik)
                  rw [HLEN.out] at this
                  exact this
                have HIZ := Lib.hid (hIZ.ext (Ext.refl _).drewR)
                have hEb := ext_above HXA.out HZ.out.1 i (.int .i64 ud)
                have HFi : Hid (∀ y ∈ (l n).set i ud, I64 y) := Lib.hid (fun y hy => by
                  rcases List.mem_or_eq_of_mem_set hy with h1 | rfl
                  · exact HLF.out y h1
                  · exact HUD.out)
                have HLs : Hid (((l n).set i ud).length = lvN C n) := Lib.hid (by rw [List.length_set, HLEN.out]; exact HLN.out)
                have HSb := Lib.hid (HS.out.ext hEb)
                have HEB := Lib.hid hEb
                obtain ⟨capb, hexb, hcapb⟩ := HSb.out.o3.h.ex
                have r5 := (cell_of hexb 5).trans rfl
                have rl := lt_of hexb
                have tc := HSb.out.o3.h.cell hnB
                have tl := HSb.out.o3.h.ltt
                have hzk : ∀ j, kF s g B L j → j ≠ z := fun j hj e => by have := HS.out.o1.lt j hj; have := HZ.out.1; omega
                have hzr : ∀ j, rkF r t C B M j → j ≠ z := fun j hj e => by have := HS.out.o3.lt j hj; have := HZ.out.1; omega
                have HZK := Lib.hid hzk
                have HZR := Lib.hid hzr
                generalize (wa.setCell ⟨z, i, none⟩ (.int .i64 ud)).drew = wb at *
                generalize (l n).set i ud = ls' at *
                clear hIZ hEb hexb fz cz f2 f3 hzk hzr
                go_wp2_with fail
                refine Calls.mono (o_rload HSb.out hnB ls' _ HIZ.out HFi.out HLs.out ?hne) ?_
                case hne =>
                  rintro g1 o1 k1 c1 e hf
                  obtain ⟨e1, _, _⟩ := Value.slice.inj e
                  injection e1 with e1
                  injection e1 with e1
                  have := HZR.out g1 (.inr (.inr ⟨n, hnB, hf⟩))
                  exact this e1.symm
                rintro e wc ⟨M', rfl, hSc, hMc, hBc⟩
                have HSc := Lib.hid hSc
                have HIc := Lib.hid (HIZ.out.mod hMc (fun g1 o1 k1 c1 e hf => by
                  obtain ⟨e1, _, _⟩ := Value.slice.inj e
                  injection e1 with e1
                  injection e1 with e1
                  have := HZR.out g1 (.inr (.inr ⟨n, hnB, hf⟩))
                  exact this e1.symm))
                have HBc := Lib.hid hBc
                clear hSc hMc hBc r5 rl tc tl
                go_wp2_with fail
                refine Calls.mono (o_load HSc.out hnB ls' _ HIc.out HFi.out HLs.out ?hne2) ?_
                case hne2 =>
                  rintro g1 o1 k1 c1 e hf
                  obtain ⟨e1, _, _⟩ := Value.slice.inj e
                  injection e1 with e1
                  injection e1 with e1
                  have := HZK.out g1 (by rw [hf]; exact .inr (.inr ⟨n, hnB, .inr (.inr rfl)⟩))
                  exact this e1.symm
                rintro e wd ⟨rfl, hSd, hMd, hBd⟩
                have HSd := Lib.hid hSd
                have HBd : Hid (Below N wr wd) := Lib.hid (Below.trans (below_of HEB.out (by have := HER.out.size; have := HN.out; omega)) (Below.trans HBc.out hBd))
                clear hSd hMd hBd
                go_wp2_with fail
                go_meet
                exact ⟨S2.mk HSd.out, HBd.out⟩
              · have e1 : (kk == 1) = false := by simpa using hk1
                have e2 : (kk == 2) = false := by simpa using hk2
                have e3 : (kk == 3) = false := by simpa using hk3
                clear hk1 hk2 hk3 hcont q0 ql
                go_wp2_with fail
                have hC0 := af_drew wr
                refine pi_start (fun w' => ∃ x : After wr, w' = x.w) [11] (by kernel_rfl) ?_
                refine pi_t 0 rfl (by kernel_rfl) (by kernel_rfl) (fun _ _ _ _ h => h) (fun K hK => ?_)
                go_big_quiet_op
                refine hK _ ?_
                clear hK K
                refine pi_t 1 rfl (by kernel_rfl) (by kernel_rfl) (fun _ _ _ _ h => h) (fun K hK => ?_)
                go_big_quiet_op
                refine hK _ ?_
                clear hK K
                refine pi_t 2 rfl (by kernel_rfl) (by kernel_rfl) (fun _ _ _ _ h => h) (fun K hK => ?_)
                go_big_quiet_op
                refine hK _ ?_
                clear hK K
                refine pi_t 3 rfl (by kernel_rfl) (by kernel_rfl) (fun _ _ _ _ h => h) (fun K hK => ?_)
                go_big_quiet_op
                refine hK _ ?_
                clear hK K
                refine pi_t 4 rfl (by kernel_rfl) (by kernel_rfl) (fun _ _ _ _ h => h) (fun K hK => ?_)
                go_big_quiet_op
                refine hK _ ?_
                clear hK K
                refine pi_t 6 rfl (by kernel_rfl) (by kernel_rfl) (fun _ _ _ _ h => h) (fun K hK => ?_)
                go_big_quiet_op
                refine hK _ ?_
                clear hK K
                refine pi_t 7 rfl (by kernel_rfl) (by kernel_rfl) (fun _ _ _ _ h => h) (fun K hK => ?_)
                go_big_quiet_op
                refine hK _ ?_
                clear hK K
                refine pi_t 8 rfl (by kernel_rfl) (by kernel_rfl) (fun _ _ _ _ h => h) (fun K hK => ?_)
                go_big_quiet_op
                refine hK _ ?_
                clear hK K
                refine pi_t 9 rfl (by kernel_rfl) (by kernel_rfl) (fun _ _ _ _ h => h) (fun K hK => ?_)
                go_big_quiet_op
                refine hK _ ?_
                clear hK K
                refine pi_c 5 (by assumption) rfl (by kernel_rfl) (by kernel_rfl) (fun _ _ _ _ h => h) (fun K hK => ?_)
                go_big_quiet_op
                refine hK _ ?_
                clear hK K
                refine pi_c 10 (by assumption) rfl (by kernel_rfl) (by kernel_rfl) (fun _ _ _ _ h => h) (fun K hK => ?_)
                go_big_quiet_op
                refine hK _ ?_
                clear hK K
                refine pi_l 11 rfl (by kernel_rfl) (fun K hK => ?_)
                go_wp2_with (go_at_call 26; refine Calls.mono (o_upd (HS.out.ext (Below.drew (Ext.refl wr))) uk ud HUK.out HUD.out) ?_; rintro e w8 ⟨rfl, hQ8, hB8⟩)
                refine hK _ _ (by simp) ?_
                clear hK K
                have HQ8 := Lib.hid hQ8
                have hB8' : Below N wr w8 := Below.trans (below_of (Below.drew (Ext.refl wr)) (by have := HER.out.size; have := HN.out; omega)) hB8
                have HB8 := Lib.hid hB8'
                have e2' := cell_below hB8' hugN d2
                have e3' := cell_below hB8' hugN d3
                have gl8 := Nat.lt_of_lt_of_le hgl2 hB8'.size
                clear hQ8 hB8 hB8' d0 d1 d2 d3
                refine pi_t 12 rfl (by kernel_rfl) (by kernel_rfl) (fun _ _ _ _ h => h) (fun K hK => ?_)
                go_big_quiet_op
                refine hK _ ?_
                clear hK K
                refine pi_end (by kernel_rfl) ?_
                go_wp2_with fail
                have hC0 := af_drew w8
                refine pi_start (fun w' => ∃ x : After w8, w' = x.w) [11] (by kernel_rfl) ?_
                refine pi_t 0 rfl (by kernel_rfl) (by kernel_rfl) (fun _ _ _ _ h => h) (fun K hK => ?_)
                go_big_quiet_op
                refine hK _ ?_
                clear hK K
                refine pi_t 1 rfl (by kernel_rfl) (by kernel_rfl) (fun _ _ _ _ h => h) (fun K hK => ?_)
                go_big_quiet_op
                refine hK _ ?_
                clear hK K
                refine pi_t 2 rfl (by kernel_rfl) (by kernel_rfl) (fun _ _ _ _ h => h) (fun K hK => ?_)
                go_big_quiet_op
                refine hK _ ?_
                clear hK K
                refine pi_t 3 rfl (by kernel_rfl) (by kernel_rfl) (fun _ _ _ _ h => h) (fun K hK => ?_)
                go_big_quiet_op
                refine hK _ ?_
                clear hK K
                refine pi_t 4 rfl (by kernel_rfl) (by kernel_rfl) (fun _ _ _ _ h => h) (fun K hK => ?_)
                go_big_quiet_op
                refine hK _ ?_
                clear hK K
                refine pi_t 6 rfl (by kernel_rfl) (by kernel_rfl) (fun _ _ _ _ h => h) (fun K hK => ?_)
                go_big_quiet_op
                refine hK _ ?_
                clear hK K
                refine pi_t 7 rfl (by kernel_rfl) (by kernel_rfl) (fun _ _ _ _ h => h) (fun K hK => ?_)
                go_big_quiet_op
                refine hK _ ?_
                clear hK K
                refine pi_t 8 rfl (by kernel_rfl) (by kernel_rfl) (fun _ _ _ _ h => h) (fun K hK => ?_)
                go_big_quiet_op
                refine hK _ ?_
                clear hK K
                refine pi_t 9 rfl (by kernel_rfl) (by kernel_rfl) (fun _ _ _ _ h => h) (fun K hK => ?_)
                go_big_quiet_op
                refine hK _ ?_
                clear hK K
                refine pi_c 5 (by assumption) rfl (by kernel_rfl) (by kernel_rfl) (fun _ _ _ _ h => h) (fun K hK => ?_)
                go_big_quiet_op
                refine hK _ ?_
                clear hK K
                refine pi_c 10 (by assumption) rfl (by kernel_rfl) (by kernel_rfl) (fun _ _ _ _ h => h) (fun K hK => ?_)
                go_big_quiet_op
                refine hK _ ?_
                clear hK K
                refine pi_l 11 rfl (by kernel_rfl) (fun K hK => ?_)
                go_wp2_with (go_at_call 27; refine Calls.mono (o_rupd (HQ8.out.ext (Below.drew (Ext.refl w8))) uk ud HUK.out HUD.out) ?_; rintro e w9 ⟨t', M', rfl, hQ9, hB9⟩)
                refine hK _ _ (by simp) ?_
                clear hK K
                have HQ9 := Lib.hid hQ9
                have HB9 := Lib.hid (Below.trans HB8.out (Below.trans (below_of (Below.drew (Ext.refl w8)) (by have := HER.out.size; have := HN.out; have := HB8.out.size; omega)) hB9))
                clear hQ9 hB9
                refine pi_t 12 rfl (by kernel_rfl) (by kernel_rfl) (fun _ _ _ _ h => h) (fun K hK => ?_)
                go_big_quiet_op
                refine hK _ ?_
                clear hK K
                refine pi_end (by kernel_rfl) ?_
                go_wp2
                go_meet
                exact ⟨S2.mk HQ9.out, HB9.out⟩
        case rest =>
          obtain ⟨⟨s, g, L, r, t, M, l, rfl, rfl, hS⟩, hB⟩ := hcut
          rename World => w8
          have hE8 : Ext w3 w8 := Below.trans HER.out (by rw [HN.out]; exact hB)
          have HS := Lib.hid hS
          have HE8 := Lib.hid hE8
          clear hS hB d0 d1 d2 d3 hE8 hcont q0 ql hukU hulI
          have HT1 := Lib.hid (KTotal_c s g C B L l _ HS.out.o1.h)
          have HT2 := Lib.hid (fun (W' : World) (h : Ext w8 W') => show Calls Tryz.prog 29 #[.pointer (some ⟨r, 0, none⟩)] W' fun e w' => e = .returned (.int .i64 ((l B).getD 0 0)) ∧ Ext W' w' from
            (RKTotal_c r t C B M l _ (HS.out.o3.h.ext h)).mono (fun e w' ⟨x, r, he, hp, hx⟩ => ⟨by rw [he, total_of HOK.out HBB.out.2.2 hp], hx⟩))
          generalize (l B).getD 0 0 = tot at *
          go_wp2_with fail
          refine Calls.mono HT1.out ?_
          rintro e wa ⟨rfl, hxa⟩
          have HXA := Lib.hid hxa
          clear hxa
          go_wp2_with fail
          refine Calls.mono (HT2.out _ HXA.out) ?_
          rintro e wb ⟨rfl, hxb⟩
          have HXB := Lib.hid (HXA.out.trans' hxb)
          clear hxb
          go_wp2_with fail
          refine Calls.mono (same15_c s g L r t M C B l _ (HS.out.o1.h.ext HXB.out) (HS.out.o3.h.ext HXB.out)) ?_
          rintro e wc ⟨rfl, hxc⟩
          have HSc := Lib.hid (HS.out.ext (HXB.out.trans' hxc))
          have hE9 := HE8.out.trans' (HXB.out.trans' hxc)
          clear hxc
          go_wp2
          go_roundw
          case rel => exact ⟨k + 1, by omega, by omega, by go_num, hE9, S2.mk HSc.out⟩
          case measure => simp [intOf]; omega
    · have hge : ¬ k < os.length ∨ ¬ k < 40 := by omega
      clear hgo hEw
      rename World => wo
      go_upto_region 8 with (fail)
      go_cut [42] (fun s74 wx => s74 = .bool false ∧ wx = wo)
      case first =>
        by_cases hgl : k < os.length
        · have hg6 : ¬ k < 40 := by omega
          go_wp2_with fail
          go_meet
          exact ⟨by first | rfl | exact congrArg Value.bool (decide_eq_false (by omega)), rfl⟩
        · first
            | (go_wp2_with fail
               go_meet
               exact ⟨rfl, rfl⟩)
            | (clear hge
               go_wp2_with fail
               go_meet
               exact ⟨by first | rfl | exact congrArg Value.bool (decide_eq_false (by omega)), rfl⟩)
      case rest =>
        obtain ⟨rfl, rfl⟩ := hcut
        rename World => wo
        have HA := Lib.hid HS.out.o1.h
        have hCq := CfgAt.of (hE.keep HQ.out)
        have c0 := hCq.c0
        have c1 := hCq.c1
        have c2 := hCq.c2
        have c3 := hCq.c3
        have c4 := hCq.c4
        have cl := hCq.lt
        clear hge hCq
        go_wp2_with fail
        have hC0 := af_drew wo
        refine pi_start (fun w' => ∃ x : After wo, w' = x.w) [] (by kernel_rfl) ?_
        refine pi_t 0 rfl (by kernel_rfl) (by kernel_rfl) (fun _ _ _ _ h => h) (fun K hK => ?_)
        go_big_quiet_op
        refine hK _ ?_
        clear hK K
        refine pi_t 1 rfl (by kernel_rfl) (by kernel_rfl) (fun _ _ _ _ h => h) (fun K hK => ?_)
        go_big_quiet_op
        refine hK _ ?_
        clear hK K
        refine pi_t 2 rfl (by kernel_rfl) (by kernel_rfl) (fun _ _ _ _ h => h) (fun K hK => ?_)
        go_big_quiet_op
        refine hK _ ?_
        clear hK K
        refine pi_c 4 (by assumption) rfl (by kernel_rfl) (by kernel_rfl) (fun _ _ _ _ h => h) (fun K hK => ?_)
        go_big_quiet_op
        refine hK _ ?_
        clear hK K
        refine pi_l 3 rfl (by kernel_rfl) (fun K hK => ?_)
        go_wp2_with (go_at_call 31; refine Calls.mono (SKConfig_c s g C B L l _ (HA.out.ext (Below.drew (Ext.refl wo)))) ?_; rintro e wa ⟨rfl, hxa⟩)
        have hEa : Ext wo wa := Ext.trans' (Below.drew (Ext.refl wo)) hxa
        refine hK _ _ (fun _ h => af_step h hxa) ?_
        clear hK K
        refine pi_t 5 rfl (by kernel_rfl) (by kernel_rfl) (fun _ _ _ _ h => h) (fun K hK => ?_)
        go_big_quiet_op
        refine hK _ ?_
        clear hK K
        refine pi_t 6 rfl (by kernel_rfl) (by kernel_rfl) (fun _ _ _ _ h => h) (fun K hK => ?_)
        go_big_quiet_op
        refine hK _ ?_
        clear hK K
        refine pi_t 7 rfl (by kernel_rfl) (by kernel_rfl) (fun _ _ _ _ h => h) (fun K hK => ?_)
        go_big_quiet_op
        refine hK _ ?_
        clear hK K
        refine pi_end (by kernel_rfl) ?_
        have hEf := HE3.out.trans' (hE.trans' hEa)
        go_wp2
        go_ret
        exact ⟨rfl, hEf⟩
end Go.Proofs.YtfhdjekpdifajaaGreat

/- What a slice of operations of four fields reads as. No condition. -/
namespace Go.Proofs.YtfhdjekpdifajaaGreat
set_option linter.unusedVariables false
open Go.ChangeShapes Go.WideShapes Go.ChangeAt Go.RowKit Go.Deep
section
variable {H : Type} {enc : TypeId × Value → H} {w : World} {held : Bool}
set_option maxRecDepth 100000 in
theorem op15_of {spare : Nat → Bool} {base n : Nat} {cs : List Value} {y : DataW H × List MemPlace} (h : DataW.trod enc Tryz.prog w base spare held n 35 cs = some y) :
    ∃ u : Opn4, (I64 u.1 ∧ I64 u.2.1 ∧ U64 u.2.2.1 ∧ I64 u.2.2.2) ∧ cs = [.int .i64 u.1, .int .i64 u.2.1, .int .u64 u.2.2.1, .int .i64 u.2.2.2] := by
  obtain ⟨xs, n, _, _, hl, hx, hg⟩ := DataW.trod_struct Tryz.underlying35 h
  have hl' : cs.length = 4 := hl.trans (by kernel_rfl)
  match cs, hl' with
  | [c0, c1, c2, c3], _ =>
    have hx' : xs.length = 4 := hx.trans (by kernel_rfl)
    match xs, hx' with
    | [x0, x1, x2, x3], _ =>
      have e0 : DataW.trod enc Tryz.prog w base spare held n 3 [c0] = some x0 := hg 0 _ rfl
      have e1 : DataW.trod enc Tryz.prog w base spare held n 3 [c1] = some x1 := hg 1 _ rfl
      have e2 : DataW.trod enc Tryz.prog w base spare held n 22 [c2] = some x2 := hg 2 _ rfl
      have e3 : DataW.trod enc Tryz.prog w base spare held n 2 [c3] = some x3 := hg 3 _ rfl
      obtain ⟨a0, h0, _, w0⟩ := DataW.trod_int Tryz.underlying3 e0
      obtain ⟨a1, h1, _, w1⟩ := DataW.trod_int Tryz.underlying3 e1
      obtain ⟨a2, h2, _, w2⟩ := DataW.trod_int Tryz.underlying22 e2
      obtain ⟨a3, h3, _, w3⟩ := DataW.trod_int Tryz.underlying2 e3
      simp only [List.cons.injEq, and_true] at h0 h1 h2 h3
      exact ⟨(a0, a1, a2, a3), ⟨wf_i64 w0, wf_i64 w1, wf_u64 w2, wf_i64 w3⟩, by rw [h0, h1, h2, h3]⟩
set_option maxRecDepth 100000 in
theorem ops15arg_of {r : Reach} {b0 : Nat} {v : Value} {d : DataW H} {p : List MemPlace} (hv : Value.okWide Tryz.prog w r b0 25 v) (h : DataW.Trod enc Tryz.prog w 0 (fun _ => true) held 25 v d p) :
    ∃ (os : List Opn4), Ops4Ok os ∧ Ops4At w v os ∧
      ∀ (ts : List TypeId) (ds : List (DataW H)) (j : Nat), (DataW.weightsEach Tryz.prog ts ds).all (· ≤ reachBytes) = true → ts[j]? = some 25 → ds[j]? = some d → os.length ≤ 140737488355328 := by
  obtain ⟨q, n, cap, rfl⟩ := okWide_slice Tryz.underlying25 hv
  obtain ⟨fuel, hf⟩ := h
  rcases open_slice Tryz.underlying25 hf with ⟨hcs, _⟩ | ⟨a, len, cap', m, n', D, Pl, hcs, _, hlc, hcm, hm, hx, hi⟩
  · have hcs' : [Value.slice q n cap] = [Value.slice none 0 0] := hcs
    simp only [List.cons.injEq, and_true, Value.slice.injEq] at hcs'
    obtain ⟨rfl, rfl, rfl⟩ := hcs'
    exact ⟨[], (by intro u hu; cases hu), .inl ⟨⟨_, rfl⟩, rfl⟩, fun _ _ _ _ _ _ => Nat.zero_le _⟩
  · have hcs' : [Value.slice q n cap] = [Value.slice (some a) len cap'] := hcs
    simp only [List.cons.injEq, and_true, Value.slice.injEq] at hcs'
    obtain ⟨rfl, rfl, rfl⟩ := hcs'
    simp only [if_true] at hm
    rw [hm] at hi hx
    clear hm
    have hC : Tryz.prog.cellsOf 35 = 4 := by kernel_rfl
    rw [hC] at hi
    have key : ∀ i, i < n → ∃ u : Opn4, (I64 u.1 ∧ I64 u.2.1 ∧ U64 u.2.2.1 ∧ I64 u.2.2.2) ∧ w.cell? (a.add (i * 4)) = some (.int .i64 u.1) ∧ w.cell? (a.add (i * 4 + 1)) = some (.int .i64 u.2.1) ∧ w.cell? (a.add (i * 4 + 2)) = some (.int .u64 u.2.2.1) ∧ w.cell? (a.add (i * 4 + 3)) = some (.int .i64 u.2.2.2) := by
      intro i hil
      obtain ⟨cs', hc, ht⟩ := hi i (by omega)
      obtain ⟨u, hu, rfl⟩ := op15_of ht
      obtain ⟨_, _, hat⟩ := World.cells?_some hc
      refine ⟨u, hu, ?_, ?_, ?_, ?_⟩
      · have := hat 0 (by omega); rw [add_add, Nat.add_zero] at this; exact this
      · have := hat 1 (by omega); rw [add_add] at this; exact this
      · have := hat 2 (by omega); rw [add_add] at this; exact this
      · have := hat 3 (by omega); rw [add_add] at this; exact this
    obtain ⟨us, hul, hus⟩ := choose_list _ n key
    by_cases h0 : cap = 0
    · have hl0 : n = 0 := by omega
      subst hl0 h0
      obtain rfl : us = [] := List.length_eq_zero_iff.1 hul
      exact ⟨[], (by intro u hu; cases hu), .inl ⟨⟨_, rfl⟩, rfl⟩, fun _ _ _ _ _ _ => Nat.zero_le _⟩
    · obtain ⟨cs', hc, ht⟩ := hi 0 (by omega)
      obtain ⟨u, _, rfl⟩ := op15_of ht
      obtain ⟨_, _, hat⟩ := World.cells?_some hc
      have h1 := hat 0 (by omega)
      obtain ⟨b, off, spot⟩ := a
      have hspot : spot = none := by simpa [Addr.add] using World.cell?_spot h1
      subst hspot
      have hb : b < w.heap.size := by
        rcases Nat.lt_or_ge b w.heap.size with h' | h'
        · exact h'
        · simp [World.cell?, Addr.add, Array.getElem?_eq_none h'] at h1
      refine ⟨us, ?_, .inr ⟨b, off, cap, by rw [hul], hb, fun k hk => ?_⟩, fun ts ds j hs ht hj => ?_⟩
      · intro u hu
        obtain ⟨i, hi', rfl⟩ := List.getElem_of_mem hu
        exact (hus i hi').1
      · have := (hus k hk).2
        have hg : us.getD k (0, 0, 0, 0) = us[k] := by simp [hk]
        rw [hg]
        rw [add_plain0, add_plain0, add_plain0, add_plain0] at this
        simpa only [Nat.add_assoc] using this
      · have hb : Tryz.prog.bytesOf 35 = 32 := by kernel_rfl
        simp only [Prod.mk.injEq] at hx
        have h2 := hx.1
        subst h2
        have := reach_of hs ht hj (by
          simp [DataW.weights, DataW.weightsEach, Tryz.underlying25]
          exact .inl rfl)
        rw [hb] at this
        simp only [reachBytes, List.length_map, List.length_take, List.length_drop, List.length_range] at this
        omega
end
end Go.Proofs.YtfhdjekpdifajaaGreat

/- StackPlays: a stack is changed, and asked, as the document says. No condition: every input. -/
namespace Go.Proofs.YtfhdjekpdifajaaGreat
set_option linter.unusedVariables false
open Go.ChangeShapes Go.WideShapes Go.ChangeAt Go.RowKit

set_option maxRecDepth 100000 in
theorem stackPlays_lifted (os : Os) (started : os.Started) (H : Type) (enc : TypeId × Value → H) :
    ReturnsInHanded {} Tryz.checked os 3 .any (Rows.stackPlaysSpec.pre6 enc Tryz.prog Tryz.f3 Rows.stackPlaysRow.domain false) (Rows.stackPlaysSpec.post enc Tryz.prog Tryz.f3 false true false false) := by
  refine returnsInHanded_of_change_sized (C := Tryz.checked) own started (by kernel_rfl) Tryz.func3
    (ChangeSpec.witness6 (enc := enc) (C := Tryz.checked) false ⟨#[], #[.agg #[.int .i64 0, .int .i64 0, .int .i64 0, .int .i64 0, .int .u64 0], .slice none 0 0], []⟩ 8 (by kernel_rfl) (by kernel_rfl) (by kernel_rfl) (by kernel_rfl)) ?_
  intro W base args ds gs before hval0 hW hcnd hsz0 _
  have hval : ∀ (j : Nat) t v, Tryz.f3.params[j]? = some t → args[j]? = some v → Value.okWide Tryz.prog W .any base t v := hval0
  have hW' := hW
  obtain ⟨p, q, hA0, hV, rfl, hfz, hnd⟩ := hW
  have hA : DataW.TrodAll enc Tryz.prog W 0 (fun _ => true) true Tryz.f3.params.toList args.toList ds p := hA0
  have hsz : (DataW.weightsEach Tryz.prog (Tryz.f3.params.toList ++ Rows.stackPlaysSpec.plain.varTypes Tryz.prog) (ds ++ gs)).all (· ≤ reachBytes) = true := hsz0
  rw [Tryz.params3] at hA hval hsz
  obtain ⟨v0, vs0, d0, ds0, p0, q0, hargs, rfl, rfl, h0, r0⟩ := trodAll_cons hA
  obtain ⟨v1, vs1, d1, ds1, p1, q1, rfl, rfl, rfl, h1, r1⟩ := trodAll_cons r0
  obtain ⟨rfl, rfl, rfl⟩ := trodAll_nil r1
  obtain rfl : args = #[v0, v1] := by cases args; simp_all
  obtain ⟨rfl, rfl⟩ := trodVars_none hV
  have k0 := h0
  have k1 := h1
  have lt0 : ∀ x ∈ p0, x.block < W.heap.size := by obtain ⟨m, hm⟩ := k0; exact DataW.trod_lt m _ _ _ hm
  have lt1 : ∀ x ∈ p1, x.block < W.heap.size := by obtain ⟨m, hm⟩ := k1; exact DataW.trod_lt m _ _ _ hm
  obtain ⟨x0, hx0, rfl⟩ := cfgarg_of (hval 0 _ v0 rfl rfl) h0
  obtain ⟨os1, hos1, hat1, hr1⟩ := ops15arg_of (hval 1 _ v1 rfl rfl) h1
  have hul1 := hr1 _ _ 1 hsz rfl rfl
  clear hA0 hval0
  refine (KPlaysL_c x0 hx0 os1 hos1 v1 W hat1 hul1).mono fun e W' ⟨he, bel⟩ => ?_
  subst he
  exact ⟨_, rfl, _, _, _, [], _, [], hW', trodAll_mk1 (shut_bool Tryz.underlying4 _), (trodAll_cons_mk (Below.trod laidOut (by kernel_rfl) (of_decide_eq_true (by kernel_rfl)) k0 bel lt0) (trodAll_cons_mk (Below.trod laidOut (by kernel_rfl) (of_decide_eq_true (by kernel_rfl)) k1 bel lt1) trodAll_mk0)), rfl, bel.frame _, fun h => by cases h⟩
end Go.Proofs.YtfhdjekpdifajaaGreat
