/- Part. No condition. -/
import Derived.Test.YtfhdjekpdifajaaGreatL1
import Derived.Test.YtfhdjekpdifajaaGreatL11
import Derived.Test.YtfhdjekpdifajaaGreatL13
import Derived.Test.YtfhdjekpdifajaaGreatL6
import Derived.Test.YtfhdjekpdifajaaGreatL12
import Derived.Test.YtfhdjekpdifajaaGreatL3
import Derived.Test.YtfhdjekpdifajaaGreatL9

/- A row that is laid anew from its head on. -/
namespace Go.Proofs.YtfhdjekpdifajaaGreat
set_option linter.unusedVariables false
def mxL (l all : List Int) (n : Nat) : List Int := all.take n ++ l.drop n
theorem mxL_zero (l all : List Int) : mxL l all 0 = l := by simp [mxL]
theorem mxL_all {l all : List Int} (h : all.length = l.length) : mxL l all l.length = all := by
  unfold mxL
  rw [← h, List.take_length, h, List.drop_length, List.append_nil]
theorem mxL_len {l all : List Int} (h : all.length = l.length) {n : Nat} (hn : n ≤ l.length) : (mxL l all n).length = l.length := by
  unfold mxL
  rw [List.length_append, List.length_take, List.length_drop]
  omega
theorem mxL_set {l all : List Int} (h : all.length = l.length) {n : Nat} (hn : n < l.length) : (mxL l all n).set n (all.getD n 0) = mxL l all (n + 1) := by
  refine List.ext_getElem? (fun i => ?_)
  unfold mxL
  rw [List.getElem?_set]
  have hl : (all.take n).length = n := by rw [List.length_take]; omega
  have hl2 : (all.take (n + 1)).length = n + 1 := by rw [List.length_take]; omega
  by_cases e : n = i
  · subst e
    rw [if_pos rfl, if_pos (by rw [List.length_append, hl, List.length_drop]; omega), List.getElem?_append_left (by omega), List.getElem?_take_of_lt (by omega)]
    simp [List.getD, List.getElem?_eq_getElem (show n < all.length by omega)]
  · rw [if_neg e]
    by_cases h1 : i < n
    · rw [List.getElem?_append_left (by omega), List.getElem?_append_left (by omega), List.getElem?_take_of_lt h1, List.getElem?_take_of_lt (by omega)]
    · rw [List.getElem?_append_right (by omega), List.getElem?_append_right (by omega), hl, hl2, List.getElem?_drop, List.getElem?_drop]
      congr 1
      omega
theorem mxL_I {l all : List Int} (h1 : ∀ x ∈ l, -9223372036854775808 ≤ x ∧ x ≤ 9223372036854775807) (h2 : ∀ x ∈ all, -9223372036854775808 ≤ x ∧ x ≤ 9223372036854775807) (n : Nat) : ∀ x ∈ mxL l all n, -9223372036854775808 ≤ x ∧ x ≤ 9223372036854775807 := fun x hx => by
  rcases List.mem_append.1 hx with h | h
  · exact h2 x (List.mem_of_mem_take h)
  · exact h1 x (List.mem_of_mem_drop h)
end Go.Proofs.YtfhdjekpdifajaaGreat

/- gaugerref13.Load of an array. -/
namespace Go.Proofs.YtfhdjekpdifajaaGreat
set_option linter.unusedVariables false
open Go.RowKit
def RLLoadPost (w : World) (L : RLev) (C : Cfg) (lv : Int) (all : List Int) (e : Ending) (w' : World) : Prop :=
  e = .returned (.tuple #[]) ∧ ∃ L' : RLev, L'.p = L.p ∧ RLvAt w' L' C lv all ∧ (∀ k, L'.foot C lv k → L.foot C lv k ∨ w.heap.size ≤ k) ∧ Mod (L.foot C lv) w w'
set_option maxRecDepth 20000 in
set_option maxHeartbeats 4000000 in
theorem RLLoad_x (L : RLev) (C : Cfg) (lv : Int) (l all : List Int) (v : Value) (w : World) (h : RLvAt w L C lv l) (hx : isX C lv = true) (hv : IntsAt w v all) (hal : all.length = kN C lv) (hI : ∀ x ∈ all, I64 x) :
    Calls Tryz.prog 25 #[.pointer (some ⟨L.p, 0, none⟩), v] w (RLLoadPost w L C lv all) := by
  obtain ⟨hp, hA⟩ := h.x hx
  have hok := h.1
  have h0 := h.2.1
  have h1 := h.2.2.1
  have k1 := hA.k1
  have k2 := hA.k2
  obtain ⟨g, off, vc, rfl, hgl, hgc⟩ := hv.slice (by omega)
  obtain ⟨cap, hex, hcap⟩ := hA.ex
  have c0 := (cell_of hp 0).trans rfl
  have lp := lt_of hp
  have HP := Lib.hid hp
  have HEX := Lib.hid hex
  have hvc : ∃ vc', vc = vc' := ⟨_, rfl⟩
  have hcell : ∀ W : World, Ext w W → ∀ k, k < all.length → W.cell? ⟨g, off + k, none⟩ = some (.int .i64 (all.getD k 0)) := fun W hW k hk => by rw [(bcell hW).1 _ _ hgl]; exact hgc k hk
  have HC := Lib.hid hcell
  have la := hA.lta
  have HH := Lib.hid h
  have HI := Lib.hid hI
  have HAL := Lib.hid hal
  have HX := Lib.hid hx
  have hq1 : 0 < all.length := by omega
  have hq2 : all.length ≤ 128 := by omega
  clear hcell hp hex hv hgc hI h hA hx hal k1 k2
  go_enter Tryz.func25, Tryz.ntmps25
  go_wp2_with fail
  have hC0 := af_drew w
  refine pi_start (fun w' => ∃ z : After w, w' = z.w) [9] (by kernel_rfl) ?_
  refine pi_t 0 rfl (by kernel_rfl) (by kernel_rfl) (fun _ _ _ _ h => h) (fun K hK => ?_)
  go_big_quiet_op
  refine hK _ ?_
  clear hK K
  refine pi_t 1 rfl (by kernel_rfl) (by kernel_rfl) (fun _ _ _ _ h => h) (fun K hK => ?_)
  go_big_quiet_op
  refine hK _ ?_
  clear hK K
  refine pi_t 2 rfl (by kernel_rfl) (by kernel_rfl) (fun _ _ _ _ h => h) (fun K hK => ?_)
  go_big_quiet_op
  refine hK _ ?_
  clear hK K
  refine pi_t 5 rfl (by kernel_rfl) (by kernel_rfl) (fun _ _ _ _ h => h) (fun K hK => ?_)
  go_big_quiet_op
  refine hK _ ?_
  clear hK K
  refine pi_c 3 (by assumption) rfl (by kernel_rfl) (by kernel_rfl) (fun _ _ _ _ h => h) (fun K hK => ?_)
  go_big_quiet_op
  refine hK _ ?_
  clear hK K
  refine pi_l 4 rfl (by kernel_rfl) (fun K hK => ?_)
  go_wp2
  refine hK _ _ (fun _ h => af_step h (Ext.alloc' _ _)) ?_
  clear hK K
  have hE1 : Ext w (w.alloc (.cells #[] 2)).drew := ((Ext.refl w).allocR _).drewR
  have hown : (w.alloc (.cells #[] 2)).drew.ownsRow w.heap.size 2 1 (.slice (some ⟨w.heap.size, 0, none⟩) 0 0) ([] : List Int).length (ints []) := own_drew (own_empty w 2)
  generalize (w.alloc (.cells #[] 2)).drew = W at *
  refine pi_l 6 rfl (by kernel_rfl) (fun K hK => ?_)
  go_wp2_with (at_builtin; refine wpList_appl W all [] _ w.heap.size 2 hown 43 rfl _ _ rfl info_i64 Tryz.underlying43 (by rfl) g off all.length vc (by rfl) rfl (HC.out W hE1) ?a1 ?a2 ?_)
  case a1 => show 0 + all.length ≤ _; omega
  case a2 => exact hE1.size
  intro v' w' g1 g2 g3
  have hE2 : Ext w w' := ext_grown0 hE1 g2 (fun i hi => own_blk hown hi)
  have hE2' : ∃ z : After w, w' = z.w := ⟨⟨w', hE2⟩, rfl⟩
  obtain ⟨z, zc, cur, rfl, hzc, hz, hzh, hzcur⟩ := own_row1 g1 (by show 0 < all.length; omega)
  have HZ := Lib.hid (And.intro hzc (And.intro hz (And.intro hzh hzcur)))
  have hs2 := hE2.size
  clear g1 g2 g3 hown hzc hz hzh hzcur
  go_wp2
  refine hK _ _ (fun _ _ => hE2') ?_
  clear hK K
  refine pi_t 7 rfl (by kernel_rfl) (by kernel_rfl) (fun _ _ _ _ h => h) (fun K hK => ?_)
  go_big_quiet_op
  refine hK _ ?_
  clear hK K
  refine pi_t 8 rfl (by kernel_rfl) (by kernel_rfl) (fun _ _ _ _ h => h) (fun K hK => ?_)
  go_big_quiet_op
  refine hK _ ?_
  clear hK K
  have hex2 := hE2.keep HEX.out
  have e6 := (cell_of hex2 6).trans rfl
  have f6 := frozen_of hex2 6
  have l6 := lt_of hex2
  refine pi_l 9 rfl (by kernel_rfl) (fun K hK => ?_)
  go_wp2
  refine hK _ _ (by simp) ?_
  clear hK K
  refine pi_end (by kernel_rfl) ?_
  go_wp2
  refine bodyPost_ret (v := .tuple #[]) (by simp [results, Tryz.results25, go_sem]) rfl ⟨rfl, ?_⟩
  obtain ⟨q1, q2, q3, q4⟩ := HZ.out
  have hza : z ≠ L.a := by omega
  have hpa : L.p ≠ L.a := blk_ne HP.out HEX.out (by decide)
  refine ⟨⟨L.p, L.a, ⟨L.G.g, z, L.G.r, L.G.c⟩⟩, rfl, ⟨hok, h0, h1, .inl ⟨HX.out, ?_, ⟨⟨zc, ?_, by rw [← HAL.out]; exact q1⟩, ⟨cur, ?_, fun k hk => q4 k (by rw [HAL.out]; exact hk)⟩, HAL.out, by rw [← HAL.out]; exact hq1, by rw [← HAL.out]; exact hq2, HI.out⟩⟩⟩, ?_, ?_⟩
  · rw [setCell_other _ _ hpa]; exact hE2.keep HP.out
  · rw [← HAL.out]; exact (setCell_same (hE2.keep HEX.out) 6 _).trans rfl
  · rw [setCell_other _ _ hza]; exact q3
  · rintro k (rfl | ⟨hy, (rfl | rfl)⟩ | ⟨hy, _⟩)
    · exact .inl (.inl rfl)
    · exact .inl (.inr (.inl ⟨hy, .inl rfl⟩))
    · exact .inr q2
    · rw [HX.out] at hy; cases hy
  · exact ((hE2.mod (fun k => k = L.a)).trans (mod_set _ _ _ _)).wider (fun k hk => .inr (.inl ⟨HX.out, .inl hk⟩))
end Go.Proofs.YtfhdjekpdifajaaGreat

/- gaugerref13.Load of a sketch, and of any level. -/
namespace Go.Proofs.YtfhdjekpdifajaaGreat
set_option linter.unusedVariables false
open Go.RowKit
theorem rs_facts {w : World} {p a : Nat} {G : Gr} {C : Cfg} {lv : Int} {R W : Nat} {l : List Int} (hp : w.heap[p]? = some (.cells #[.pointer none, .pointer (some ⟨a, 0, none⟩)] 153 (0, 0))) (hS : RSAt w a G C lv R W l) {W' : World} (hM : Mod (G.foot R) w W') :
    W'.cell? ⟨p, 0, none⟩ = some (.pointer none) ∧ W'.cell? ⟨p, 1, none⟩ = some (.pointer (some ⟨a, 0, none⟩)) ∧ p < W'.heap.size ∧ W'.cell? ⟨a, 6, none⟩ = some (.pointer (some ⟨G.g, 0, none⟩)) ∧ a < W'.heap.size := by
  have hG := hS.g
  have hnp : ¬ G.foot R p := by
    rintro (e | e | ⟨r, hr, e⟩)
    · obtain ⟨cap, q, _⟩ := hG.ex; exact blk_ne hp q (by decide) e
    · obtain ⟨cap, q, _⟩ := hG.row; exact blk_ne hp q (by decide) e
    · obtain ⟨cur, q, _⟩ := hG.cells r hr; exact blk_ne hp q (by decide) e
  have h1 := hM.keep hp hnp
  have h2 := hM.keep hS.ex hS.ns
  exact ⟨(cell_of h1 0).trans rfl, (cell_of h1 1).trans rfl, lt_of h1, (cell_of h2 6).trans rfl, lt_of h2⟩
set_option maxRecDepth 20000 in
set_option maxHeartbeats 8000000 in
theorem RSLoad_c (p a : Nat) (G : Gr) (C : Cfg) (lv : Int) (R W : Nat) (l all : List Int) (v : Value) (w : World)
    (hp : w.heap[p]? = some (.cells #[.pointer none, .pointer (some ⟨a, 0, none⟩)] 153 (0, 0))) (hS : RSAt w a G C lv R W l) (hv : IntsAt w v all) (hal : all.length = R * W) (hI : ∀ x ∈ all, I64 x) (hnf : ∀ g off n cap, v = .slice (some ⟨g, off, none⟩) n cap → ¬ G.foot R g) :
    Calls Tryz.prog 25 #[.pointer (some ⟨p, 0, none⟩), v] w fun e w' => e = .returned (.tuple #[]) ∧ RSAt w' a G C lv R W all ∧ Mod (G.foot R) w w' := by
  have hG := hS.g
  have r1 := hG.r1
  have r2 := hG.r2
  have w1' := hG.w1
  have w2' := hG.w2
  have hlen := hG.len
  have hRW : 0 < R * W := Nat.mul_pos r1 w1'
  have hRW2 : R * W ≤ 1024 := Nat.le_trans (Nat.mul_le_mul r2 w2') (by decide)
  obtain ⟨g, off, vc, rfl, hgl, hgc⟩ := hv.slice (by rw [hal]; exact hRW)
  have hgf := hnf _ _ _ _ rfl
  obtain ⟨N, hN⟩ : ∃ N : Nat, N = R * W := ⟨_, rfl⟩
  have hal' : all.length = l.length := hal.trans hlen.symm
  rw [hal, ← hN] at hgc ⊢
  have hN1 : 0 < N := by rw [hN]; exact hRW
  have hN2 : N ≤ 1024 := by rw [hN]; exact hRW2
  have HFA := Lib.hid (fun (W' : World) (hM : Mod (G.foot R) w W') => rs_facts hp hS hM)
  have HV := Lib.hid (fun (W' : World) (hM : Mod (G.foot R) w W') (k : Nat) (hk : k < N) => show W'.cell? ⟨g, off + k, none⟩ = some (.int .i64 (all.getD k 0)) from by
    have e := hM.block g hgl hgf
    rw [show W'.cell? ⟨g, off + k, none⟩ = w.cell? ⟨g, off + k, none⟩ by simp [World.cell?, e]]
    exact hgc k hk)
  have HG := Lib.hid hG
  have HS := Lib.hid hS
  have HI := Lib.hid hI
  have HN := Lib.hid hN
  have HAL := Lib.hid hal'
  have HLE := Lib.hid hlen
  obtain ⟨f0, _, fl, _, _⟩ := HFA.out w (Mod.refl _ _)
  have HGL := Lib.hid hgl
  clear hp hS hv hal hI hnf hG hlen hRW hRW2 hgl hgc hgf hN hal'
  go_enter Tryz.func25, Tryz.ntmps25
  go_wp2_with fail
  clear f0 fl
  go_loopw [4, 5] (fun u4 u5 wr => ∃ r n : Nat, r ≤ R ∧ n = r * W ∧ u4 = .int .i64 n ∧ u5 = .int .i64 r ∧ RGAt wr G R W (mxL l all n) ∧ Mod (G.foot R) w wr) (fun _ u5 _ => R - (intOf u5).toNat)
  case atStart => exact ⟨0, 0, Nat.zero_le _, (Nat.zero_mul _).symm, rfl, rfl, by rw [mxL_zero]; exact HG.out, Mod.refl _ _⟩
  case round =>
    obtain ⟨r, n, hr, hn, rfl, rfl, hg, hM⟩ := hrel
    have HN' := Lib.hid hn
    have HGR := Lib.hid hg
    obtain ⟨_, p1, pl, a6, al⟩ := HFA.out _ hM
    obtain ⟨cap, cg, hcap⟩ := hg.cg
    have lg := hg.ltg
    have HM := Lib.hid hM
    clear hn hg hM
    by_cases hlt : r < R
    · have hkz : (r : Int) < (R : Int) := by omega
      have hnN : n + W ≤ N := by
        rw [HN'.out, HN.out]
        calc r * W + W = (r + 1) * W := by rw [Nat.add_mul, Nat.one_mul]
          _ ≤ R * W := Nat.mul_le_mul_right W hlt
      rename World => wo
      go_wp2_with fail
      clear p1 pl a6 al cg lg hcap
      go_loopw [4, 6] (fun u4 u6 wr => ∃ c m : Nat, c ≤ W ∧ m = n + c ∧ u4 = .int .i64 m ∧ u6 = .int .i64 c ∧ RGAt wr G R W (mxL l all m) ∧ Mod (G.foot R) w wr) (fun _ u6 _ => W - (intOf u6).toNat)
      case atStart => exact ⟨0, n, Nat.zero_le _, rfl, rfl, rfl, HGR.out, HM.out⟩
      case round =>
        clear HGR HM
        obtain ⟨c, m, hc, hm, rfl, rfl, hg, hM⟩ := hrel
        obtain ⟨_, p1, pl, a6, al⟩ := HFA.out _ hM
        obtain ⟨cap, cg, hcap⟩ := hg.cg
        have lg := hg.ltg
        have cm := hg.cm hlt
        have lm := hg.ltm
        have HGR := Lib.hid hg
        have HM := Lib.hid hM
        have hgl := Nat.lt_of_lt_of_le HGL.out hM.size
        have hcr := hg.capc r hlt
        by_cases hcl : c < W
        · have hcz : (c : Int) < (W : Int) := by omega
          have hmN : m < N := by omega
          have hmz : (m : Int) < (N : Int) := by omega
          have hxv := HV.out _ hM m hmN
          have fr := hg.fr hlt c
          have cr := hg.cr hlt hcl
          have lr := hg.ltr hlt
          have hix : I64 (all.getD m 0) := getD_i64 HI.out m
          have hset := mxL_set HAL.out (n := m) (by rw [HLE.out, ← HN.out]; exact hmN)
          have hgi := hg.set hlt hcl (all.getD m 0)
          have hmm := mod_rset (w := ‹World›) (G := G) (R := R) hlt c (.int .i64 (all.getD m 0))
          rw [show r * W + c = m by rw [← HN'.out]; exact hm.symm, hset] at hgi
          have HGI := Lib.hid hgi
          have HMM := Lib.hid (hM.trans hmm)
          generalize all.getD m 0 = x at *
          have HM' := Lib.hid hm
          clear hg hM hset hgi hmm hix hm
          rename World => wi
          go_wp2_with fail
          have hC0 := af_drew wi
          refine pi_start (fun w' => ∃ z : After wi, w' = z.w) [19] (by kernel_rfl) ?_
          refine pi_t 0 rfl (by kernel_rfl) (by kernel_rfl) (fun _ _ _ _ h => h) (fun K hK => ?_)
          go_big_quiet_op
          refine hK _ ?_
          clear hK K
          refine pi_t 1 rfl (by kernel_rfl) (by kernel_rfl) (fun _ _ _ _ h => h) (fun K hK => ?_)
          go_big_quiet_op
          refine hK _ ?_
          clear hK K
          refine pi_t 2 rfl (by kernel_rfl) (by kernel_rfl) (fun _ _ _ _ h => h) (fun K hK => ?_)
          go_big_quiet_op
          refine hK _ ?_
          clear hK K
          refine pi_t 10 rfl (by kernel_rfl) (by kernel_rfl) (fun _ _ _ _ h => h) (fun K hK => ?_)
          go_big_quiet_op
          refine hK _ ?_
          clear hK K
          refine pi_t 13 rfl (by kernel_rfl) (by kernel_rfl) (fun _ _ _ _ h => h) (fun K hK => ?_)
          go_big_quiet_op
          refine hK _ ?_
          clear hK K
          refine pi_t 14 rfl (by kernel_rfl) (by kernel_rfl) (fun _ _ _ _ h => h) (fun K hK => ?_)
          go_big_quiet_op
          refine hK _ ?_
          clear hK K
          refine pi_t 15 rfl (by kernel_rfl) (by kernel_rfl) (fun _ _ _ _ h => h) (fun K hK => ?_)
          go_big_quiet_op
          refine hK _ ?_
          clear hK K
          refine pi_t 16 rfl (by kernel_rfl) (by kernel_rfl) (fun _ _ _ _ h => h) (fun K hK => ?_)
          go_big_quiet_op
          refine hK _ ?_
          clear hK K
          refine pi_c 3 (by assumption) rfl (by kernel_rfl) (by kernel_rfl) (fun _ _ _ _ h => h) (fun K hK => ?_)
          go_big_quiet_op
          refine hK _ ?_
          clear hK K
          refine pi_t 4 rfl (by kernel_rfl) (by kernel_rfl) (fun _ _ _ _ h => h) (fun K hK => ?_)
          go_big_quiet_op
          refine hK _ ?_
          clear hK K
          refine pi_t 5 rfl (by kernel_rfl) (by kernel_rfl) (fun _ _ _ _ h => h) (fun K hK => ?_)
          go_big_quiet_op
          refine hK _ ?_
          clear hK K
          refine pi_c 6 (by assumption) rfl (by kernel_rfl) (by kernel_rfl) (fun _ _ _ _ h => h) (fun K hK => ?_)
          go_big_quiet_op
          refine hK _ ?_
          clear hK K
          refine pi_t 7 rfl (by kernel_rfl) (by kernel_rfl) (fun _ _ _ _ h => h) (fun K hK => ?_)
          go_big_quiet_op
          refine hK _ ?_
          clear hK K
          refine pi_t 8 rfl (by kernel_rfl) (by kernel_rfl) (fun _ _ _ _ h => h) (fun K hK => ?_)
          go_big_quiet_op
          refine hK _ ?_
          clear hK K
          refine pi_c 9 (by assumption) rfl (by kernel_rfl) (by kernel_rfl) (fun _ _ _ _ h => h) (fun K hK => ?_)
          go_big_quiet_op
          refine hK _ ?_
          clear hK K
          refine pi_t 11 rfl (by kernel_rfl) (by kernel_rfl) (fun _ _ _ _ h => h) (fun K hK => ?_)
          go_big_quiet_op
          refine hK _ ?_
          clear hK K
          refine pi_c 12 (by assumption) rfl (by kernel_rfl) (by kernel_rfl) (fun _ _ _ _ h => h) (fun K hK => ?_)
          go_big_quiet_op
          refine hK _ ?_
          clear hK K
          refine pi_c 17 (by assumption) rfl (by kernel_rfl) (by kernel_rfl) (fun _ _ _ _ h => h) (fun K hK => ?_)
          go_big_quiet_op
          refine hK _ ?_
          clear hK K
          refine pi_t 18 rfl (by kernel_rfl) (by kernel_rfl) (fun _ _ _ _ h => h) (fun K hK => ?_)
          go_big_quiet_op
          refine hK _ ?_
          clear hK K
          refine pi_l 19 rfl (by kernel_rfl) (fun K hK => ?_)
          go_wp2
          refine hK _ _ (by simp) ?_
          clear hK K
          refine pi_end (by kernel_rfl) ?_
          go_wp2
          go_roundw
          case rel => exact ⟨c + 1, m + 1, by omega, by rw [HM'.out]; omega, by go_num, by go_num, HGI.out.ext (Ext.refl _).drewR, HMM.out.trans ((Ext.refl _).drewR.mod _)⟩
          case measure => simp [intOf]; omega
        · obtain rfl : c = W := by omega
          clear hg hM
          go_wp2
          go_roundw
          case rel => exact ⟨r + 1, m, by omega, by rw [hm, HN'.out, Nat.add_mul, Nat.one_mul], rfl, by go_num, HGR.out, HM.out⟩
          case measure => simp [intOf]; omega
    · obtain rfl : r = R := by omega
      go_wp2
      refine bodyPost_end (v := .tuple #[]) (by simp [results, Tryz.results25, go_sem]) rfl ⟨rfl, ?_, HM.out⟩
      refine HS.out.putg ?_ HM.out HI.out
      have := HGR.out
      rw [HN'.out, ← HLE.out, mxL_all HAL.out] at this
      exact this
theorem RLLoad_c (L : RLev) (C : Cfg) (lv : Int) (l all : List Int) (v : Value) (w : World) (h : RLvAt w L C lv l) (hv : IntsAt w v all) (hal : all.length = lvN C lv) (hI : ∀ x ∈ all, I64 x) (hnf : ∀ g off n cap, v = .slice (some ⟨g, off, none⟩) n cap → ¬ L.foot C lv g) :
    Calls Tryz.prog 25 #[.pointer (some ⟨L.p, 0, none⟩), v] w (RLLoadPost w L C lv all) := by
  cases hx : isX C lv with
  | true => exact RLLoad_x L C lv l all v w h hx hv (by rw [hal]; unfold lvN; rw [hx]; rfl) hI
  | false =>
    obtain ⟨hp, hS⟩ := h.sk hx
    refine (RSLoad_c L.p L.a L.G C lv _ _ l all v w hp hS hv (by rw [hal]; unfold lvN; rw [hx]; rfl) hI (fun g off n cap e hf => hnf g off n cap e (.inr (.inr ⟨hx, .inr hf⟩)))).mono ?_
    rintro e w' ⟨rfl, hS', hM⟩
    have hp' : w'.heap[L.p]? = _ := hM.keep hp (by
      rintro (e | e | ⟨r, hr, e⟩)
      · obtain ⟨cap, q, _⟩ := hS.g.ex; exact blk_ne hp q (by decide) e
      · obtain ⟨cap, q, _⟩ := hS.g.row; exact blk_ne hp q (by decide) e
      · obtain ⟨cur, q, _⟩ := hS.g.cells r hr; exact blk_ne hp q (by decide) e)
    exact ⟨rfl, L, rfl, ⟨h.1, h.2.1, h.2.2.1, .inr ⟨hx, hp', hS'⟩⟩, fun k hk => .inl hk, hM.wider (fun k hk => .inr (.inr ⟨hx, .inr hk⟩))⟩
end Go.Proofs.YtfhdjekpdifajaaGreat

/- A stack of the program and one of the references among four things that lie apart: what each call does. -/
namespace Go.Proofs.YtfhdjekpdifajaaGreat
set_option linter.unusedVariables false
open Go.RowKit
/-- The blocks of a stack. -/
def kF (s g B : Nat) (L : Nat → Lev) (k : Nat) : Prop := k = s ∨ k = g ∨ ∃ n, n ≤ B ∧ (k = (L n).s ∨ k = (L n).b ∨ k = (L n).c)
theorem KAt.keep {w w' : World} {s g : Nat} {C : Cfg} {B : Nat} {L : Nat → Lev} {ls : Nat → List Int} (h : KAt w s g C B L ls) (hk : ∀ k, kF s g B L k → w'.heap[k]? = w.heap[k]?) : KAt w' s g C B L ls :=
  ⟨by rw [hk s (.inl rfl)]; exact h.ex, by rw [hk g (.inr (.inl rfl))]; exact h.row, fun n hn => (h.lev n hn).keep (hk _ (.inr (.inr ⟨n, hn, .inl rfl⟩))) (hk _ (.inr (.inr ⟨n, hn, .inr (.inl rfl)⟩))) (hk _ (.inr (.inr ⟨n, hn, .inr (.inr rfl)⟩))), h.sep, h.ok, h.hB⟩
theorem KAt.own {w : World} {s g : Nat} {C : Cfg} {B : Nat} {L : Nat → Lev} {ls : Nat → List Int} (h : KAt w s g C B L ls) : Own (kF s g B L) (fun w => KAt w s g C B L ls) w :=
  ⟨h, fun w w' h hk => h.keep hk, fun k hk => by
    rcases hk with rfl | rfl | ⟨n, hn, rfl | rfl | rfl⟩
    · exact h.lts
    · exact h.ltg
    · exact (h.lev n hn).lts
    · exact (h.lev n hn).ltb
    · exact (h.lev n hn).ltc⟩
theorem cellsOf_kF {s g B : Nat} {L : Nat → Lev} {k : Nat} (h : cellsOf B L k) : kF s g B L k := by
  obtain ⟨n, hn, rfl⟩ := h; exact .inr (.inr ⟨n, hn, .inr (.inr rfl)⟩)
theorem kF_fresh {N s g B : Nat} {L : Nat → Lev} (h1 : N ≤ s) (h2 : N ≤ g) (h3 : ∀ n, n ≤ B → N ≤ (L n).s ∧ N ≤ (L n).b ∧ N ≤ (L n).c) : ∀ k, kF s g B L k → N ≤ k := by
  rintro k (rfl | rfl | ⟨n, hn, rfl | rfl | rfl⟩)
  · exact h1
  · exact h2
  · exact (h3 n hn).1
  · exact (h3 n hn).2.1
  · exact (h3 n hn).2.2
/-- A stack one of whose levels lies elsewhere, and has other cells. -/
theorem RKAt.putL {w w' : World} {s t : Nat} {C : Cfg} {B : Nat} {L : Nat → RLev} {ls : Nat → List Int} (h : RKAt w s t C B L ls) {n : Nat} (hn : n ≤ B) {l : List Int} {K : RLev} (hp : K.p = (L n).p) (hm : Mod ((L n).foot C n) w w') (hl : RLvAt w' K C n l) (hF : ∀ k, K.foot C n k → (L n).foot C n k ∨ w.heap.size ≤ k) :
    RKAt w' s t C B (fun m => if m = n then K else L m) (fun m => if m = n then l else ls m) := by
  have ty : ∀ {k : Nat} {cur : Array Value} {T : TypeId} {f : Nat × Nat}, w.heap[k]? = some (.cells cur T f) → (T = 45 ∨ T = 48) → ¬ (L n).foot C n k := fun hb hT hf => by
    have := (h.lev n hn).ty hf hb
    rcases hT with rfl | rfl
    · exact this.1 rfl
    · exact this.2 rfl
  obtain ⟨cap, h1, h2⟩ := h.ex
  obtain ⟨cur, h3, h4⟩ := h.row
  have hd : ∀ m, m ≤ B → m ≠ n → Dj ((L m).foot C m) (K.foot C n) := fun m hm' e k hk hk2 => by
    rcases hF k hk2 with h5 | h5
    · exact h.sep m n hm' hn e k hk h5
    · have := (h.lev m hm').lt hk; omega
  refine ⟨⟨cap, hm.keep h1 (ty h1 (.inr rfl)), h2⟩, ⟨cur, hm.keep h3 (ty h3 (.inl rfl)), fun m hm' => ?_⟩, fun m hm' => ?_, fun m k hm' hk' e => ?_, h.ok, h.hB⟩
  · by_cases e : m = n
    · subst e; rw [if_pos rfl, hp]; exact h4 m hm'
    · rw [if_neg e]; exact h4 m hm'
  · by_cases e : m = n
    · subst e; rw [if_pos rfl, if_pos rfl]; exact hl
    · rw [if_neg e, if_neg e]; exact (h.lev m hm').mod hm (fun k hk hf => h.sep m n hm' hn e k hk hf)
  · by_cases e1 : m = n
    · subst e1
      rw [if_pos rfl, if_neg (Ne.symm e)]
      exact (hd k hk' (Ne.symm e)).symm
    · by_cases e2 : k = n
      · subst e2
        rw [if_pos rfl, if_neg e1]
        exact hd m hm' e1
      · rw [if_neg e1, if_neg e2]; exact h.sep m k hm' hk' e
set_option maxRecDepth 20000 in
/-- Point of any piece. -/
theorem KPoint_key (s g : Nat) (C : Cfg) (B : Nat) (L : Nat → Lev) (ls : Nat → List Int) (w : World) (h : KAt w s g C B L ls) (n : Nat) (hn : n ≤ B) (key : Int) (hk : U64 key) (hk1 : keys C n ≤ key) :
    Calls Tryz.prog 18 #[.pointer (some ⟨s, 0, none⟩), .agg #[.int .i64 n, .int .u64 key]] w fun e w' => e = .returned (.tuple #[.int .i64 0, .int .i64 2]) ∧ Ext w w' := by
  cases hx : isX C n with
  | true =>
    have HX := Lib.hid hx
    clear hx
    go_enter Tryz.func18, Tryz.ntmps18
    go_wp2_with fail
    refine (level_yes s g C B L ls _ (h.ext (Ext.alloc' _ _)) n hn).mono ?_
    rintro e w1 ⟨rfl, rfl⟩
    have hA := ((h.ext (Ext.alloc' _ (.cells #[.int .i64 n, .int .u64 key] 39))).lev n hn).x HX.out
    rw [lvV_x HX.out]
    go_wp2_with fail
    refine (EPoint_no _ _ _ C _ _ _ key _ hA hk hk1).mono ?_
    rintro e w1 ⟨rfl, rfl⟩
    go_wp2
    go_ret2
    exact ⟨rfl, Ext.alloc' _ _⟩
  | false =>
    have HX := Lib.hid hx
    clear hx
    go_enter Tryz.func18, Tryz.ntmps18
    go_wp2_with fail
    refine (level_yes s g C B L ls _ (h.ext (Ext.alloc' _ _)) n hn).mono ?_
    rintro e w1 ⟨rfl, rfl⟩
    have hA := ((h.ext (Ext.alloc' _ (.cells #[.int .i64 n, .int .u64 key] 39))).lev n hn).sk HX.out
    rw [lvV_s HX.out]
    go_wp2_with fail
    refine (SPoint_no _ _ _ C _ _ _ _ key _ hA hk1).mono ?_
    rintro e w1 ⟨rfl, hx1⟩
    go_wp2
    go_ret2
    exact ⟨rfl, (Ext.alloc' _ _).trans' hx1⟩
theorem KPointAny_c (s g : Nat) (C : Cfg) (B : Nat) (L : Nat → Lev) (ls : Nat → List Int) (w : World) (h : KAt w s g C B L ls) (lv key : Int) (hk : U64 key) :
    Calls Tryz.prog 18 #[.pointer (some ⟨s, 0, none⟩), .agg #[.int .i64 lv, .int .u64 key]] w fun e w' => ∃ x r, e = .returned (.tuple #[.int .i64 x, .int .i64 r]) ∧ ptP C B ls lv key x r ∧ Ext w w' := by
  by_cases hlv : lv < 0 ∨ (B : Int) < lv
  · refine (KPoint_lv s g C B L ls w h lv hlv key).mono ?_
    rintro e w' ⟨rfl, hE⟩
    exact ⟨0, 2, rfl, .inl ⟨hlv, rfl, rfl⟩, hE⟩
  · obtain ⟨n, rfl⟩ : ∃ n : Nat, lv = n := ⟨lv.toNat, by omega⟩
    have hn : n ≤ B := by omega
    by_cases hlt : key < keys C n
    · refine (KPoint_c s g C B L ls w h n hn key hk.1 hlt).mono ?_
      rintro e w' ⟨x, rfl, hp, hE⟩
      exact ⟨x, 0, rfl, .inr ⟨n, rfl, hn, .inr ⟨hlt, hp, rfl⟩⟩, hE⟩
    · refine (KPoint_key s g C B L ls w h n hn key hk (by omega)).mono ?_
      rintro e w' ⟨rfl, hE⟩
      exact ⟨0, 2, rfl, .inr ⟨n, rfl, hn, .inl ⟨by omega, rfl, rfl⟩⟩, hE⟩
section
variable {N : Nat} {w w' : World} {F1 F2 F3 F4 : Nat → Prop} {P1 P2 P3 P4 : World → Prop} {C : Cfg} {B s r : Nat} {g t : Nat} {L : Nat → Lev} {M : Nat → RLev} {l l' : Nat → List Int}
theorem o_upd (h : Own4 N w (kF s g B L) F2 F3 F4 (fun w => KAt w s g C B L l) P2 P3 P4) (key d : Int) (hk : U64 key) (hd : I64 d) :
    Calls Tryz.prog 26 #[.pointer (some ⟨s, 0, none⟩), .int .u64 key, .int .i64 d] w fun e w' => e = .returned (.int .i64 (errK C B l key d)) ∧ Own4 N w' (kF s g B L) F2 F3 F4 (fun w => KAt w s g C B L (nextK C B l key d)) P2 P3 P4 ∧ Below N w w' := by
  refine (KUpdate_c s g C B L l key d w h.o1.h hd hk).mono ?_
  rintro e w' ⟨rfl, hK, hM⟩
  exact ⟨rfl, h.step hM (fun k hk => cellsOf_kF hk) hK.own (fun k hk => .inl hk), h.low hM (fun k hk => cellsOf_kF hk)⟩
theorem o_rupd (h : Own4 N w F1 F2 (rkF r t C B M) F4 P1 P2 (fun w => RKAt w r t C B M l') P4) (key d : Int) (hk : U64 key) (hd : I64 d) :
    Calls Tryz.prog 27 #[.pointer (some ⟨r, 0, none⟩), .int .u64 key, .int .i64 d] w fun e w' => ∃ t' M', e = .returned (.int .i64 (errK C B l' key d)) ∧ Own4 N w' F1 F2 (rkF r t' C B M') F4 P1 P2 (fun w => RKAt w r t' C B M' (nextK C B l' key d)) P4 ∧ Below N w w' := by
  refine (RKUpdate_c r t C B M l' key d w h.o3.h hk hd).mono ?_
  rintro e w' ⟨rfl, (⟨h0, t', L', hR, hF, hM⟩ | ⟨h0, hE⟩)⟩
  · have e : nextK C B l' key d = updK C l' key d := by unfold nextK; rw [decide_eq_true h0]; rfl
    rw [e]
    refine ⟨t', L', rfl, (h.rot.step hM (fun k hk => by rw [hk]; exact .inl rfl) hR.own (fun k hk => (hF k hk).imp (fun e => by rw [e]; exact .inl rfl) id)).rot, h.rot.low hM (fun k hk => by rw [hk]; exact .inl rfl)⟩
  · have e : nextK C B l' key d = l' := by unfold nextK; rw [decide_eq_false h0]; rfl
    rw [e]
    exact ⟨t, M, rfl, h.ext hE, h.low (hE.mod (fun _ => False)) (fun k hk => hk.elim)⟩
theorem o_copy {u gu : Nat} {Lu : Nat → Lev} {lu : Nat → List Int} (h : Own4 N w F1 F2 F3 F4 P1 P2 P3 P4) (hu : KAt w u gu C B Lu lu) :
    Calls Tryz.prog 20 #[.pointer (some ⟨u, 0, none⟩)] w fun e w' => ∃ s' g' L', e = .returned (.pointer (some ⟨s', 0, none⟩)) ∧ Own4 N w' (kF s' g' B L') F2 F3 F4 (fun w => KAt w s' g' C B L' lu) P2 P3 P4 ∧ Ext w w' := by
  refine (KCopy_c u gu C B Lu lu w hu).mono ?_
  rintro e w' ⟨s', g', L', rfl, hK, h1, h2, h3, hE⟩
  exact ⟨s', g', L', rfl, h.step (hE.mod (fun _ => False)) (fun k hk => hk.elim) hK.own (fun k hk => .inr (kF_fresh h1 h2 h3 k hk)), hE⟩
theorem o_rcopy {u tu : Nat} {Mu : Nat → RLev} {lu : Nat → List Int} (h : Own4 N w F1 F2 F3 F4 P1 P2 P3 P4) (hu : RKAt w u tu C B Mu lu) :
    Calls Tryz.prog 21 #[.pointer (some ⟨u, 0, none⟩)] w fun e w' => ∃ r' t' M', e = .returned (.pointer (some ⟨r', 0, none⟩)) ∧ Own4 N w' F1 F2 (rkF r' t' C B M') F4 P1 P2 (fun w => RKAt w r' t' C B M' lu) P4 ∧ Ext w w' := by
  refine (RKCopy_c u tu C B Mu lu w hu).mono ?_
  rintro e w' ⟨r', t', M', rfl, hK, hF, hE⟩
  exact ⟨r', t', M', rfl, (h.rot.step (hE.mod (fun _ => False)) (fun k hk => hk.elim) hK.own (fun k hk => .inr (hF k hk))).rot, hE⟩
theorem o_load (h : Own4 N w (kF s g B L) F2 F3 F4 (fun w => KAt w s g C B L l) P2 P3 P4) {n : Nat} (hn : n ≤ B) (m : List Int) (v : Value) (hv : IntsAt w v m) (hI : allI m) (hl : m.length = lvN C n) (hne : ∀ g off k cap, v = .slice (some ⟨g, off, none⟩) k cap → g ≠ (L n).c) :
    Calls Tryz.prog 22 #[.pointer (some ⟨s, 0, none⟩), .int .i64 n, v] w fun e w' => e = .returned (.bool true) ∧ Own4 N w' (kF s g B L) F2 F3 F4 (fun w => KAt w s g C B L (fun k => if k = n then m else l k)) P2 P3 P4 ∧ Mod (fun k => k = (L n).c) w w' ∧ Below N w w' := by
  refine (KLoad_yes s g C B L l w h.o1.h n hn m v hv hI hl hne).mono ?_
  rintro e w' ⟨rfl, hK, hM⟩
  have hS : ∀ k, k = (L n).c → kF s g B L k := fun k hk => .inr (.inr ⟨n, hn, .inr (.inr hk)⟩)
  exact ⟨rfl, h.step hM hS hK.own (fun k hk => .inl hk), hM, h.low hM hS⟩
theorem o_rload (h : Own4 N w F1 F2 (rkF r t C B M) F4 P1 P2 (fun w => RKAt w r t C B M l') P4) {n : Nat} (hn : n ≤ B) (m : List Int) (v : Value) (hv : IntsAt w v m) (hI : allI m) (hl : m.length = lvN C n) (hne : ∀ g off k cap, v = .slice (some ⟨g, off, none⟩) k cap → ¬ (M n).foot C n g) :
    Calls Tryz.prog 25 #[.pointer (some ⟨(M n).p, 0, none⟩), v] w fun e w' => ∃ M', e = .returned (.tuple #[]) ∧ Own4 N w' F1 F2 (rkF r t C B M') F4 P1 P2 (fun w => RKAt w r t C B M' (fun k => if k = n then m else l' k)) P4 ∧ Mod ((M n).foot C n) w w' ∧ Below N w w' := by
  refine (RLLoad_c (M n) C n (l' n) m v w (h.o3.h.lev n hn) hv hl hI hne).mono ?_
  rintro e w' ⟨rfl, K, hp, hK, hF, hM⟩
  have hS : ∀ k, (M n).foot C n k → rkF r t C B M k := fun k hk => .inr (.inr ⟨n, hn, hk⟩)
  refine ⟨_, rfl, (h.rot.step hM hS (h.o3.h.putL hn hp hM hK hF).own (fun k hk => ?_)).rot, hM, h.rot.low hM hS⟩
  rcases hk with rfl | rfl | ⟨m, hm, hk⟩
  · exact .inl (.inl rfl)
  · exact .inl (.inr (.inl rfl))
  · by_cases e : m = n
    · subst e
      dsimp only at hk
      rw [if_pos rfl] at hk
      exact (hF k hk).imp (hS k) id
    · dsimp only at hk
      rw [if_neg e] at hk
      exact .inl (.inr (.inr ⟨m, hm, hk⟩))
theorem total_of (hok : C.Ok) (hB : C.bits = B) {x y : Int} (h : ptA C B (l B) 0 x y) : x = (l B).getD 0 0 := by
  rcases h with ⟨a, _, _⟩ | ⟨_, (⟨_, b⟩ | ⟨b, _⟩), _⟩
  · rw [keys_top hB] at a; omega
  · exact b
  · rw [isX_top hok hB] at b; cases b
end
theorem lvN_leU {C : Cfg} (h : C.Ok) (lv : Int) : lvN C lv ≤ 1024 := by
  have h1 := h.w1
  have h2 := h.w2
  have h3 := h.r1
  have h4 := h.r2
  unfold lvN
  cases hx : isX C lv with
  | true =>
    have h3 : keys C lv ≤ C.width := of_decide_eq_true hx
    show kN C lv ≤ 1024
    unfold kN; omega
  | false =>
    show rN C * wN C ≤ 1024
    have e1 : rN C ≤ 8 := by have := rN_eq h; omega
    have e2 : wN C ≤ 128 := by have := wN_eq h; omega
    exact Nat.le_trans (Nat.mul_le_mul e1 e2) (by decide)
theorem lvN_posU {C : Cfg} (hok : C.Ok) {lv : Int} (h0 : 0 ≤ lv) : 0 < lvN C lv := by
  unfold lvN
  cases isX C lv with
  | true => show 0 < kN C lv; have := kN_eq hok h0; have := (keys_bd C hok lv h0).1; omega
  | false => show 0 < rN C * wN C; have := rN_eq hok; have := wN_eq hok; have := hok.r1; have := hok.w1; exact Nat.mul_pos (by omega) (by omega)
set_option maxRecDepth 20000 in
set_option maxHeartbeats 8000000 in
theorem same15_c (s g : Nat) (L : Nat → Lev) (r t : Nat) (M : Nat → RLev) (C : Cfg) (B : Nat) (ls : Nat → List Int) (w : World) (hK : KAt w s g C B L ls) (hR : RKAt w r t C B M ls) :
    Calls Tryz.prog 30 #[.pointer (some ⟨s, 0, none⟩), .pointer (some ⟨r, 0, none⟩)] w fun e w' => e = .returned (.bool true) ∧ Ext w w' := by
  have hB := hK.hB
  have hok := hK.ok
  have hb2 := hok.b2
  have hbd : B ≤ 59 := by omega
  have HK := Lib.hid hK
  have HR := Lib.hid hR
  clear hK hR hB hb2
  have hnn : decide ((0 : Int) = 1) = false := rfl
  go_enter Tryz.func30, Tryz.ntmps30
  go_wp2_with fail
  go_loopw [5] (fun u5 wr => ∃ k : Nat, k ≤ B + 1 ∧ u5 = .int .i64 k ∧ Ext w wr) (fun u5 _ => B + 1 - (intOf u5).toNat)
  case atStart => exact ⟨0, Nat.zero_le _, rfl, Ext.refl _⟩
  case round =>
    obtain ⟨k, hk, rfl, hE⟩ := hrel
    have hRr := HR.out.ext hE
    have hKr := HK.out.ext hE
    obtain ⟨cap, hex, hcap⟩ := hRr.ex
    have e5 := (cell_of hex 5).trans rfl
    have el := hRr.lts
    have HE := Lib.hid hE
    by_cases hlt : k < B + 1
    · have ck := hRr.cell (show k ≤ B by omega)
      have lt0 := hRr.ltt
      have hkz : (k : Int) < (B : Int) + 1 := by omega
      have HLV := Lib.hid (hRr.lev k (by omega))
      have hlen := HLV.out.len
      have hle := lvN_leU hok (k : Int)
      have HLN := Lib.hid (show (ls k).length ≤ 1000000 by rw [hlen]; omega)
      have HKR := Lib.hid hKr
      clear hRr hKr hex hE hlen hle
      rename World => wo
      go_wp2_with fail
      have hC0 := af_drew wo
      refine pi_start (fun w' => ∃ x : After wo, w' = x.w) [] (by kernel_rfl) ?_
      refine pi_t 0 rfl (by kernel_rfl) (by kernel_rfl) (fun _ _ _ _ h => h) (fun K hK => ?_)
      go_big_quiet_op
      refine hK _ ?_
      clear hK K
      refine pi_t 1 rfl (by kernel_rfl) (by kernel_rfl) (fun _ _ _ _ h => h) (fun K hK => ?_)
      go_big_quiet_op
      refine hK _ ?_
      clear hK K
      refine pi_t 3 rfl (by kernel_rfl) (by kernel_rfl) (fun _ _ _ _ h => h) (fun K hK => ?_)
      go_big_quiet_op
      refine hK _ ?_
      clear hK K
      refine pi_t 4 rfl (by kernel_rfl) (by kernel_rfl) (fun _ _ _ _ h => h) (fun K hK => ?_)
      go_big_quiet_op
      refine hK _ ?_
      clear hK K
      refine pi_t 5 rfl (by kernel_rfl) (by kernel_rfl) (fun _ _ _ _ h => h) (fun K hK => ?_)
      go_big_quiet_op
      refine hK _ ?_
      clear hK K
      refine pi_t 7 rfl (by kernel_rfl) (by kernel_rfl) (fun _ _ _ _ h => h) (fun K hK => ?_)
      go_big_quiet_op
      refine hK _ ?_
      clear hK K
      refine pi_c 6 (by assumption) rfl (by kernel_rfl) (by kernel_rfl) (fun _ _ _ _ h => h) (fun K hK => ?_)
      go_big_quiet_op
      refine hK _ ?_
      clear hK K
      refine pi_t 8 rfl (by kernel_rfl) (by kernel_rfl) (fun _ _ _ _ h => h) (fun K hK => ?_)
      go_big_quiet_op
      refine hK _ ?_
      clear hK K
      refine pi_c 9 (by assumption) rfl (by kernel_rfl) (by kernel_rfl) (fun _ _ _ _ h => h) (fun K hK => ?_)
      go_big_quiet_op
      refine hK _ ?_
      clear hK K
      refine pi_l 2 rfl (by kernel_rfl) (fun K hK => ?_)
      go_wp2_with (go_at_call 23; refine (KCells_c s g C B L ls _ (HKR.out.ext (Below.drew (Ext.refl wo))) k (by omega)).mono ?_; rintro e wa ⟨v1, rfl, ho1, _, hxa⟩)
      have hEa : Ext wo wa := Ext.trans' (Below.drew (Ext.refl wo)) hxa
      refine hK _ _ (fun _ h => af_step h hxa) ?_
      clear hK K
      have HV1 := Lib.hid (IntsAt.of_row ho1)
      clear ho1 hxa
      refine pi_l 10 rfl (by kernel_rfl) (fun K hK => ?_)
      go_wp2_with (go_at_call 24; refine Calls.mono (RLCells_c (M k) C k (ls k) _ (HLV.out.ext hEa)) ?_; rintro e wb ⟨v2, rfl, ho2, hxb⟩)
      have hEb : Ext wo wb := hEa.trans' hxb
      refine hK _ _ (fun _ h => af_step h hxb) ?_
      clear hK K
      have HV2 := Lib.hid (IntsAt.of_row ho2)
      have HV1b := Lib.hid (HV1.out.ext hxb)
      clear ho2 hxb
      refine pi_l 11 rfl (by kernel_rfl) (fun K hK => ?_)
      go_wp2_with (go_at_call 47; refine Calls.mono (Same_c v1 v2 (ls k) (ls k) _ HV1b.out HV2.out HLN.out HLN.out) ?_; rintro e wc ⟨rfl, hxc⟩)
      have hEc : Ext wo wc := hEb.trans' hxc
      try rw [decide_eq_true (rfl : ls k = ls k)]
      refine hK _ _ (fun _ h => af_step h hxc) ?_
      clear hK K
      refine pi_t 12 rfl (by kernel_rfl) (by kernel_rfl) (fun _ _ _ _ h => h) (fun K hK => ?_)
      go_big_quiet_op
      refine hK _ ?_
      clear hK K
      refine pi_end (by kernel_rfl) ?_
      have hE9 := HE.out.trans' hEc
      go_wp2
      go_roundw
      case rel => exact ⟨k + 1, by omega, by go_num, hE9⟩
      case measure => simp [intOf]; omega
    · obtain rfl : k = B + 1 := by omega
      have HKR := Lib.hid hKr
      clear hRr hKr hex hE
      go_wp2_with fail
      refine (KCells_no s g C B L ls _ HKR.out ((B : Int) + 1) (.inr (by omega))).mono ?_
      rintro e wa ⟨rfl, rfl⟩
      go_wp2
      go_ret
      exact ⟨rfl, HE.out⟩
set_option maxRecDepth 20000 in
set_option maxHeartbeats 8000000 in
theorem same20_c (s g : Nat) (L : Nat → Lev) (r t : Nat) (M : Nat → RLev) (C : Cfg) (B : Nat) (ls : Nat → List Int) (w : World) (hK : KAt w s g C B L ls) (hR : RKAt w r t C B M ls) :
    Calls Tryz.prog 68 #[.pointer (some ⟨s, 0, none⟩), .pointer (some ⟨r, 0, none⟩)] w fun e w' => e = .returned (.bool true) ∧ Ext w w' := by
  have hB := hK.hB
  have hok := hK.ok
  have hb2 := hok.b2
  have hbd : B ≤ 59 := by omega
  have HK := Lib.hid hK
  have HR := Lib.hid hR
  clear hK hR hB hb2
  have hnn : decide ((0 : Int) = 1) = false := rfl
  go_enter Tryz.func68, Tryz.ntmps68
  go_wp2_with fail
  go_loopw [5] (fun u5 wr => ∃ k : Nat, k ≤ B + 1 ∧ u5 = .int .i64 k ∧ Ext w wr) (fun u5 _ => B + 1 - (intOf u5).toNat)
  case atStart => exact ⟨0, Nat.zero_le _, rfl, Ext.refl _⟩
  case round =>
    obtain ⟨k, hk, rfl, hE⟩ := hrel
    have hRr := HR.out.ext hE
    have hKr := HK.out.ext hE
    obtain ⟨cap, hex, hcap⟩ := hRr.ex
    have e5 := (cell_of hex 5).trans rfl
    have el := hRr.lts
    have HE := Lib.hid hE
    by_cases hlt : k < B + 1
    · have ck := hRr.cell (show k ≤ B by omega)
      have lt0 := hRr.ltt
      have hkz : (k : Int) < (B : Int) + 1 := by omega
      have HLV := Lib.hid (hRr.lev k (by omega))
      have hlen := HLV.out.len
      have hle := lvN_leU hok (k : Int)
      have HLN := Lib.hid (show (ls k).length ≤ 1000000 by rw [hlen]; omega)
      have HKR := Lib.hid hKr
      clear hRr hKr hex hE hlen hle
      rename World => wo
      go_wp2_with fail
      have hC0 := af_drew wo
      refine pi_start (fun w' => ∃ x : After wo, w' = x.w) [] (by kernel_rfl) ?_
      refine pi_t 0 rfl (by kernel_rfl) (by kernel_rfl) (fun _ _ _ _ h => h) (fun K hK => ?_)
      go_big_quiet_op
      refine hK _ ?_
      clear hK K
      refine pi_t 1 rfl (by kernel_rfl) (by kernel_rfl) (fun _ _ _ _ h => h) (fun K hK => ?_)
      go_big_quiet_op
      refine hK _ ?_
      clear hK K
      refine pi_t 3 rfl (by kernel_rfl) (by kernel_rfl) (fun _ _ _ _ h => h) (fun K hK => ?_)
      go_big_quiet_op
      refine hK _ ?_
      clear hK K
      refine pi_t 4 rfl (by kernel_rfl) (by kernel_rfl) (fun _ _ _ _ h => h) (fun K hK => ?_)
      go_big_quiet_op
      refine hK _ ?_
      clear hK K
      refine pi_t 5 rfl (by kernel_rfl) (by kernel_rfl) (fun _ _ _ _ h => h) (fun K hK => ?_)
      go_big_quiet_op
      refine hK _ ?_
      clear hK K
      refine pi_t 7 rfl (by kernel_rfl) (by kernel_rfl) (fun _ _ _ _ h => h) (fun K hK => ?_)
      go_big_quiet_op
      refine hK _ ?_
      clear hK K
      refine pi_c 6 (by assumption) rfl (by kernel_rfl) (by kernel_rfl) (fun _ _ _ _ h => h) (fun K hK => ?_)
      go_big_quiet_op
      refine hK _ ?_
      clear hK K
      refine pi_t 8 rfl (by kernel_rfl) (by kernel_rfl) (fun _ _ _ _ h => h) (fun K hK => ?_)
      go_big_quiet_op
      refine hK _ ?_
      clear hK K
      refine pi_c 9 (by assumption) rfl (by kernel_rfl) (by kernel_rfl) (fun _ _ _ _ h => h) (fun K hK => ?_)
      go_big_quiet_op
      refine hK _ ?_
      clear hK K
      refine pi_l 2 rfl (by kernel_rfl) (fun K hK => ?_)
      go_wp2_with (go_at_call 23; refine (KCells_c s g C B L ls _ (HKR.out.ext (Below.drew (Ext.refl wo))) k (by omega)).mono ?_; rintro e wa ⟨v1, rfl, ho1, _, hxa⟩)
      have hEa : Ext wo wa := Ext.trans' (Below.drew (Ext.refl wo)) hxa
      refine hK _ _ (fun _ h => af_step h hxa) ?_
      clear hK K
      have HV1 := Lib.hid (IntsAt.of_row ho1)
      clear ho1 hxa
      refine pi_l 10 rfl (by kernel_rfl) (fun K hK => ?_)
      go_wp2_with (go_at_call 24; refine Calls.mono (RLCells_c (M k) C k (ls k) _ (HLV.out.ext hEa)) ?_; rintro e wb ⟨v2, rfl, ho2, hxb⟩)
      have hEb : Ext wo wb := hEa.trans' hxb
      refine hK _ _ (fun _ h => af_step h hxb) ?_
      clear hK K
      have HV2 := Lib.hid (IntsAt.of_row ho2)
      have HV1b := Lib.hid (HV1.out.ext hxb)
      clear ho2 hxb
      refine pi_l 11 rfl (by kernel_rfl) (fun K hK => ?_)
      go_wp2_with (go_at_call 47; refine Calls.mono (Same_c v1 v2 (ls k) (ls k) _ HV1b.out HV2.out HLN.out HLN.out) ?_; rintro e wc ⟨rfl, hxc⟩)
      have hEc : Ext wo wc := hEb.trans' hxc
      try rw [decide_eq_true (rfl : ls k = ls k)]
      refine hK _ _ (fun _ h => af_step h hxc) ?_
      clear hK K
      refine pi_t 12 rfl (by kernel_rfl) (by kernel_rfl) (fun _ _ _ _ h => h) (fun K hK => ?_)
      go_big_quiet_op
      refine hK _ ?_
      clear hK K
      refine pi_end (by kernel_rfl) ?_
      have hE9 := HE.out.trans' hEc
      go_wp2
      go_roundw
      case rel => exact ⟨k + 1, by omega, by go_num, hE9⟩
      case measure => simp [intOf]; omega
    · obtain rfl : k = B + 1 := by omega
      have HKR := Lib.hid hKr
      clear hRr hKr hex hE
      go_wp2
      go_ret
      exact ⟨rfl, HE.out⟩
set_option maxRecDepth 20000 in
set_option maxHeartbeats 8000000 in
theorem same24_c (s g : Nat) (L : Nat → Lev) (r t : Nat) (M : Nat → RLev) (C : Cfg) (B : Nat) (ls : Nat → List Int) (w : World) (hK : KAt w s g C B L ls) (hR : RKAt w r t C B M ls) :
    Calls Tryz.prog 59 #[.pointer (some ⟨s, 0, none⟩), .pointer (some ⟨r, 0, none⟩)] w fun e w' => e = .returned (.bool true) ∧ Ext w w' := by
  have hB := hK.hB
  have hok := hK.ok
  have hb2 := hok.b2
  have hbd : B ≤ 59 := by omega
  have HK := Lib.hid hK
  have HR := Lib.hid hR
  clear hK hR hB hb2
  have hnn : decide ((0 : Int) = 1) = false := rfl
  go_enter Tryz.func59, Tryz.ntmps59
  go_wp2_with fail
  go_loopw [5] (fun u5 wr => ∃ k : Nat, k ≤ B + 1 ∧ u5 = .int .i64 k ∧ Ext w wr) (fun u5 _ => B + 1 - (intOf u5).toNat)
  case atStart => exact ⟨0, Nat.zero_le _, rfl, Ext.refl _⟩
  case round =>
    obtain ⟨k, hk, rfl, hE⟩ := hrel
    have hRr := HR.out.ext hE
    have hKr := HK.out.ext hE
    obtain ⟨cap, hex, hcap⟩ := hRr.ex
    have e5 := (cell_of hex 5).trans rfl
    have el := hRr.lts
    have HE := Lib.hid hE
    by_cases hlt : k < B + 1
    · have ck := hRr.cell (show k ≤ B by omega)
      have lt0 := hRr.ltt
      have hkz : (k : Int) < (B : Int) + 1 := by omega
      have HLV := Lib.hid (hRr.lev k (by omega))
      have hlen := HLV.out.len
      have hle := lvN_leU hok (k : Int)
      have HLN := Lib.hid (show (ls k).length ≤ 1000000 by rw [hlen]; omega)
      have HKR := Lib.hid hKr
      clear hRr hKr hex hE hlen hle
      rename World => wo
      go_wp2_with fail
      have hC0 := af_drew wo
      refine pi_start (fun w' => ∃ x : After wo, w' = x.w) [] (by kernel_rfl) ?_
      refine pi_t 0 rfl (by kernel_rfl) (by kernel_rfl) (fun _ _ _ _ h => h) (fun K hK => ?_)
      go_big_quiet_op
      refine hK _ ?_
      clear hK K
      refine pi_t 1 rfl (by kernel_rfl) (by kernel_rfl) (fun _ _ _ _ h => h) (fun K hK => ?_)
      go_big_quiet_op
      refine hK _ ?_
      clear hK K
      refine pi_t 3 rfl (by kernel_rfl) (by kernel_rfl) (fun _ _ _ _ h => h) (fun K hK => ?_)
      go_big_quiet_op
      refine hK _ ?_
      clear hK K
      refine pi_t 4 rfl (by kernel_rfl) (by kernel_rfl) (fun _ _ _ _ h => h) (fun K hK => ?_)
      go_big_quiet_op
      refine hK _ ?_
      clear hK K
      refine pi_t 5 rfl (by kernel_rfl) (by kernel_rfl) (fun _ _ _ _ h => h) (fun K hK => ?_)
      go_big_quiet_op
      refine hK _ ?_
      clear hK K
      refine pi_t 7 rfl (by kernel_rfl) (by kernel_rfl) (fun _ _ _ _ h => h) (fun K hK => ?_)
      go_big_quiet_op
      refine hK _ ?_
      clear hK K
      refine pi_c 6 (by assumption) rfl (by kernel_rfl) (by kernel_rfl) (fun _ _ _ _ h => h) (fun K hK => ?_)
      go_big_quiet_op
      refine hK _ ?_
      clear hK K
      refine pi_t 8 rfl (by kernel_rfl) (by kernel_rfl) (fun _ _ _ _ h => h) (fun K hK => ?_)
      go_big_quiet_op
      refine hK _ ?_
      clear hK K
      refine pi_c 9 (by assumption) rfl (by kernel_rfl) (by kernel_rfl) (fun _ _ _ _ h => h) (fun K hK => ?_)
      go_big_quiet_op
      refine hK _ ?_
      clear hK K
      refine pi_l 2 rfl (by kernel_rfl) (fun K hK => ?_)
      go_wp2_with (go_at_call 23; refine (KCells_c s g C B L ls _ (HKR.out.ext (Below.drew (Ext.refl wo))) k (by omega)).mono ?_; rintro e wa ⟨v1, rfl, ho1, _, hxa⟩)
      have hEa : Ext wo wa := Ext.trans' (Below.drew (Ext.refl wo)) hxa
      refine hK _ _ (fun _ h => af_step h hxa) ?_
      clear hK K
      have HV1 := Lib.hid (IntsAt.of_row ho1)
      clear ho1 hxa
      refine pi_l 10 rfl (by kernel_rfl) (fun K hK => ?_)
      go_wp2_with (go_at_call 24; refine Calls.mono (RLCells_c (M k) C k (ls k) _ (HLV.out.ext hEa)) ?_; rintro e wb ⟨v2, rfl, ho2, hxb⟩)
      have hEb : Ext wo wb := hEa.trans' hxb
      refine hK _ _ (fun _ h => af_step h hxb) ?_
      clear hK K
      have HV2 := Lib.hid (IntsAt.of_row ho2)
      have HV1b := Lib.hid (HV1.out.ext hxb)
      clear ho2 hxb
      refine pi_l 11 rfl (by kernel_rfl) (fun K hK => ?_)
      go_wp2_with (go_at_call 47; refine Calls.mono (Same_c v1 v2 (ls k) (ls k) _ HV1b.out HV2.out HLN.out HLN.out) ?_; rintro e wc ⟨rfl, hxc⟩)
      have hEc : Ext wo wc := hEb.trans' hxc
      try rw [decide_eq_true (rfl : ls k = ls k)]
      refine hK _ _ (fun _ h => af_step h hxc) ?_
      clear hK K
      refine pi_t 12 rfl (by kernel_rfl) (by kernel_rfl) (fun _ _ _ _ h => h) (fun K hK => ?_)
      go_big_quiet_op
      refine hK _ ?_
      clear hK K
      refine pi_end (by kernel_rfl) ?_
      have hE9 := HE.out.trans' hEc
      go_wp2
      go_roundw
      case rel => exact ⟨k + 1, by omega, by go_num, hE9⟩
      case measure => simp [intOf]; omega
    · obtain rfl : k = B + 1 := by omega
      have HKR := Lib.hid hKr
      clear hRr hKr hex hE
      go_wp2
      go_ret
      exact ⟨rfl, HE.out⟩
end Go.Proofs.YtfhdjekpdifajaaGreat

/- A stack of the program and one of the references that have the same cells. -/
namespace Go.Proofs.YtfhdjekpdifajaaGreat
set_option linter.unusedVariables false
open Go.RowKit
theorem own_none (w : World) : Own (fun _ => False) (fun _ => True) w := ⟨trivial, fun _ _ _ _ => trivial, fun _ h => h.elim⟩
/-- A stack of the program and one of the references that have the same cells. -/
def S2 (N : Nat) (w : World) (C : Cfg) (B : Nat) (v1 v2 : Value) : Prop :=
  ∃ s g L r t M l, v1 = .pointer (some ⟨s, 0, none⟩) ∧ v2 = .pointer (some ⟨r, 0, none⟩) ∧ Own4 N w (kF s g B L) (fun _ => False) (rkF r t C B M) (fun _ => False) (fun w => KAt w s g C B L l) (fun _ => True) (fun w => RKAt w r t C B M l) (fun _ => True)
theorem S2.mk {N : Nat} {w : World} {C : Cfg} {B s g r t : Nat} {L : Nat → Lev} {M : Nat → RLev} {l : Nat → List Int} (h : Own4 N w (kF s g B L) (fun _ => False) (rkF r t C B M) (fun _ => False) (fun w => KAt w s g C B L l) (fun _ => True) (fun w => RKAt w r t C B M l) (fun _ => True)) : S2 N w C B (.pointer (some ⟨s, 0, none⟩)) (.pointer (some ⟨r, 0, none⟩)) := ⟨s, g, L, r, t, M, l, rfl, rfl, h⟩
set_option maxRecDepth 20000 in
theorem KLoad_lv (s g : Nat) (C : Cfg) (B : Nat) (L : Nat → Lev) (ls : Nat → List Int) (w : World) (h : KAt w s g C B L ls) (n : Int) (hn : n < 0 ∨ (B : Int) < n) (v : Value) :
    Calls Tryz.prog 22 #[.pointer (some ⟨s, 0, none⟩), .int .i64 n, v] w fun e w' => e = .returned (.bool false) ∧ w = w' := by
  go_enter Tryz.func22, Tryz.ntmps22
  go_wp2_with fail
  refine (level_no s g C B L ls w h n hn).mono ?_
  rintro e w1 ⟨rfl, rfl⟩
  go_wp2
  go_ret
  exact ⟨rfl, rfl⟩
/-- A row of one's own, one cell of which is set. -/
theorem row_set {w : World} {z zc : Nat} {cur : Array Value} {l : List Int} {i : Nat} {d : Int} (hz : w.heap[z]? = some (.cells cur 2 (0, 0))) (hcur : ∀ j, j < l.length → cur[j]? = some (.int .i64 (l.getD j 0))) (hi : i < l.length) :
    IntsAt (w.setCell ⟨z, i, none⟩ (.int .i64 d)) (.slice (some ⟨z, 0, none⟩) l.length zc) (l.set i d) := by
  refine .inr ⟨z, 0, zc, by rw [List.length_set], by rw [size_setCell]; exact lt_of hz, fun k hk => ?_⟩
  rw [List.length_set] at hk
  rw [cell_of (setCell_same hz i _), Nat.zero_add]
  by_cases e : k = i
  · subst e
    have hsz : k < cur.size := by
      have := hcur k hk
      rw [Array.getElem?_eq_some_iff] at this
      exact this.1
    rw [Array.getElem?_setIfInBounds_self_of_lt hsz, List.getD_eq_getElem?_getD, List.getElem?_set_self hk]
    rfl
  · rw [Array.getElem?_setIfInBounds_ne (fun h => e h.symm), hcur k hk, List.getD_eq_getElem?_getD, List.getD_eq_getElem?_getD, List.getElem?_set_ne (fun h => e h.symm)]
theorem ext_above {w w1 : World} {z : Nat} (h : Ext w w1) (hz : w.heap.size ≤ z) (i : Nat) (u : Value) : Ext w (w1.setCell ⟨z, i, none⟩ u).drew := (h.setR (p := ⟨z, i, none⟩) hz u).drewR
theorem S2.eqs {N : Nat} {w : World} {C : Cfg} {B s r : Nat} (h : S2 N w C B (.pointer (some ⟨s, 0, none⟩)) (.pointer (some ⟨r, 0, none⟩))) : ∃ g L t M l, Own4 N w (kF s g B L) (fun _ => False) (rkF r t C B M) (fun _ => False) (fun w => KAt w s g C B L l) (fun _ => True) (fun w => RKAt w r t C B M l) (fun _ => True) := by
  obtain ⟨s', g, L, r', t, M, l, e1, e2, h⟩ := h
  injection e1 with e1; injection e1 with e1; injection e1 with e1
  injection e2 with e2; injection e2 with e2; injection e2 with e2
  subst e1 e2
  exact ⟨g, L, t, M, l, h⟩
end Go.Proofs.YtfhdjekpdifajaaGreat

/- quant.Quantile, walked; what the levels of a stack that was fed tell. -/
namespace Go.Proofs.YtfhdjekpdifajaaGreat
set_option linter.unusedVariables false
open Go.RowKit
theorem way_last (pt : Nat → Int → Int) : ∀ (n : Nat) (i k : Int), ((n, i) :: wayL pt n i k).getD n (0, 0) = (0, wayI pt n i k)
  | 0, i, k => rfl
  | n + 1, i, k => by
    rw [wayL_succ]
    unfold wayI
    rw [List.getD_cons_succ]
    split
    · exact way_last pt n _ _
    · exact way_last pt n _ _
def QuantPost (w : World) (B : Nat) (T : Int) (pt : Nat → Int → Int) (k : Int) (e : Ending) (w' : World) : Prop :=
  ((k < 1 ∨ T < k) ∧ e = .returned (.tuple #[.int .u64 0, .int .i64 6]) ∧ Ext w w') ∨
  ((1 ≤ k ∧ k ≤ T) ∧ e = .returned (.tuple #[.int .u64 (wayI pt B 0 k), .int .i64 0]) ∧ Ext w w')
set_option maxRecDepth 20000 in
set_option maxHeartbeats 4000000 in
theorem Quantile_c (s g : Nat) (C : Cfg) (B : Nat) (L : Nat → Lev) (ls : Nat → List Int) (w : World) (h : KAt w s g C B L ls) (k : Int) (hk : I64 k) (pt : Nat → Int → Int) (hT : Tells C B ls pt) :
    Calls Tryz.prog 33 #[.pointer (some ⟨s, 0, none⟩), .int .i64 k] w (QuantPost w B ((ls B).getD 0 0) pt k) := by
  have hBd : B ≤ 59 := by have := h.ok.b2; have := h.hB; omega
  have hW := fun W' (he : Ext w W') => Way_c s g C B L ls W' (h.ext he) k hk pt hT
  have HW := Lib.hid hW
  have hwl := way_last pt B 0 k
  have hwn := wayP_len pt B k
  have hwp : wayP pt B k = (B, 0) :: wayL pt B 0 k := rfl
  rw [← hwp] at hwl
  clear hW hwp
  go_enter Tryz.func33, Tryz.ntmps33
  go_wp2_with fail
  refine (HW.out _ (by (repeat' (first | exact Ext.refl _ | assumption | apply Ext.allocR | apply Ext.drewR | apply Ext.drewNR | (refine Ext.trans' ?_ (by assumption)))))).mono ?_
  rintro e w1 hp
  rcases hp with ⟨hr, rfl, hx⟩ | ⟨hr, v, base, rfl, hbs, ho, hx⟩
  · go_wp2
    go_ret2
    exact .inl ⟨hr, rfl, by (repeat' (first | exact Ext.refl _ | assumption | apply Ext.allocR | apply Ext.drewR | apply Ext.drewNR | (refine Ext.trans' ?_ (by assumption))))⟩
  · obtain ⟨g', cap, rfl, hgl, hpc⟩ := own_pieces ho (by omega)
    obtain ⟨_, q1⟩ := hpc B (by omega)
    rw [hwl, Nat.zero_add] at q1
    have hE : Ext w w1 := by (repeat' (first | exact Ext.refl _ | assumption | apply Ext.allocR | apply Ext.drewR | apply Ext.drewNR | (refine Ext.trans' ?_ (by assumption))))
    clear ho hpc hx hwl
    rw [hwn]
    clear hwn
    go_wp2
    go_ret2
    exact .inr ⟨hr, rfl, hE⟩
end Go.Proofs.YtfhdjekpdifajaaGreat

/- quant.Way of any stack: a rest may be too great. -/
namespace Go.Proofs.YtfhdjekpdifajaaGreat
set_option linter.unusedVariables false
open Go.RowKit
/-- The way down, if every rest fits. -/
def wayF (pt : Nat → Int → Int) : Nat → Int → Int → Option (List (Nat × Int))
  | 0, _, _ => some []
  | n + 1, i, k => if k ≤ pt n (2 * i) then (wayF pt n (2 * i) k).map (fun l => (n, 2 * i) :: l) else if fitB (k - pt n (2 * i)) = true then (wayF pt n (2 * i + 1) (k - pt n (2 * i))).map (fun l => (n, 2 * i + 1) :: l) else none
def wayFP (pt : Nat → Int → Int) (B : Nat) (k : Int) : Option (List (Nat × Int)) := (wayF pt B 0 k).map (fun l => (B, 0) :: l)
theorem wayF_len (pt : Nat → Int → Int) : ∀ (n : Nat) (i k : Int) (l : List (Nat × Int)), wayF pt n i k = some l → l.length = n
  | 0, _, _, l, h => by cases h; rfl
  | n + 1, i, k, l, h => by
    unfold wayF at h
    split at h
    · obtain ⟨m, hm, rfl⟩ := Option.map_eq_some_iff.1 h
      rw [List.length_cons, wayF_len pt n _ _ m hm]
    · split at h
      · obtain ⟨m, hm, rfl⟩ := Option.map_eq_some_iff.1 h
        rw [List.length_cons, wayF_len pt n _ _ m hm]
      · cases h
theorem wayFP_len {pt : Nat → Int → Int} {B : Nat} {k : Int} {l : List (Nat × Int)} (h : wayFP pt B k = some l) : l.length = B + 1 := by
  obtain ⟨m, hm, rfl⟩ := Option.map_eq_some_iff.1 h
  rw [List.length_cons, wayF_len pt B _ _ m hm]
/-- How far the way has come. -/
def WayAtR (w : World) (B : Nat) (C : Cfg) (b : Nat) (pt : Nat → Int → Int) (k : Int) (t : Nat) (k' : Int) (wr : World) (n : Nat) (i : Int) (dn : List (Nat × Int)) : Prop :=
  t + n = B ∧ dn.length = t + 1 ∧ dn.getD t (0, 0) = (n, i) ∧ wayFP pt B k = (wayF pt n i k').map (fun l => dn ++ l) ∧ 0 ≤ i ∧ i < keys C n ∧ 1 ≤ k' ∧ I64 k' ∧
  (∃ cur, wr.heap[b]? = some (.cells cur 232 (0, 0)) ∧ cur.size = 120) ∧ PCells wr b 0 dn ∧ Ext w wr
theorem way_nextR {w wr w6 : World} {B : Nat} {C : Cfg} {b : Nat} {pt : Nat → Int → Int} {k : Int} {t : Nat} {k' : Int} {m : Nat} {i : Int} {dn : List (Nat × Int)} (hW : WayAtR w B C b pt k t k' wr (m + 1) i dn) (hE : Ext wr w6) (hB : C.bits = B) (hBd : B ≤ 59) (hbw : w.heap.size ≤ b) {j k2 : Int}
    (hj : (j = 2 * i ∧ k' ≤ pt m (2 * i) ∧ k2 = k') ∨ (j = 2 * i + 1 ∧ pt m (2 * i) < k' ∧ I64 (k' - pt m (2 * i)) ∧ k2 = k' - pt m (2 * i))) :
    WayAtR w B C b pt k (t + 1) k2 ((w6.setCell ⟨b, (t + 1) * 2, none⟩ (.int .i64 m)).setCell ⟨b, (t + 1) * 2 + 1, none⟩ (.int .u64 j)) m j (dn ++ [(m, j)]) := by
  obtain ⟨a1, a2, a3, a4, a5, a6, a7, a8, ⟨cur, a9, a10⟩, a11, a12⟩ := hW
  have hkh := keys_half (C := C) (m := m) (by omega)
  have hs := way_set (hE.keep a9) a10 (a11.ext (lt_of a9) hE) (by omega) m j
  rw [a2] at hs
  refine ⟨by omega, by rw [List.length_append, a2]; rfl, ?_, ?_, ?_, ?_, ?_, ?_, hs.1, hs.2, ((a12.trans' hE).setR (p := ⟨b, (t + 1) * 2, none⟩) hbw _).setR (p := ⟨b, (t + 1) * 2 + 1, none⟩) hbw _⟩
  · rw [← a2]; simp
  · rw [a4]
    conv => lhs; unfold wayF
    rcases hj with ⟨rfl, h1, rfl⟩ | ⟨rfl, h1, h2, rfl⟩
    · rw [if_pos h1, Option.map_map]
      congr 1
      funext l
      simp
    · rw [if_neg (by omega), if_pos (fitB_yes h2), Option.map_map]
      congr 1
      funext l
      simp
  · rcases hj with ⟨rfl, _, _⟩ | ⟨rfl, _, _⟩ <;> omega
  · rcases hj with ⟨rfl, _, _⟩ | ⟨rfl, _, _⟩ <;> omega
  · rcases hj with ⟨_, h1, rfl⟩ | ⟨_, h1, _, rfl⟩ <;> omega
  · rcases hj with ⟨_, h1, rfl⟩ | ⟨_, h1, h2, rfl⟩
    · exact a8
    · exact h2
def WayRPost (w : World) (B : Nat) (T : Int) (pt : Nat → Int → Int) (k : Int) (e : Ending) (w' : World) : Prop :=
  ((k < 1 ∨ T < k) ∧ e = .returned (.tuple #[.slice none 0 0, .int .i64 6]) ∧ Ext w w') ∨
  ((1 ≤ k ∧ k ≤ T) ∧ wayFP pt B k = none ∧ e = .returned (.tuple #[.slice none 0 0, .int .i64 4]) ∧ Ext w w') ∨
  ((1 ≤ k ∧ k ≤ T) ∧ ∃ ps v base, wayFP pt B k = some ps ∧ e = .returned (.tuple #[v, .int .i64 0]) ∧ w.heap.size ≤ base ∧ w'.ownsRow base 39 2 v ps.length (pcV ps) ∧ Ext w w')
set_option maxRecDepth 20000 in
set_option maxHeartbeats 8000000 in
theorem WayR_c (s g : Nat) (C : Cfg) (B : Nat) (L : Nat → Lev) (ls : Nat → List Int) (w : World) (h : KAt w s g C B L ls) (k : Int) (hk : I64 k) (pt : Nat → Int → Int) (hT : Uniq C B ls pt) (hPI : ∀ n i, I64 (pt n i)) :
    Calls Tryz.prog 91 #[.pointer (some ⟨s, 0, none⟩), .int .i64 k] w (WayRPost w B ((ls B).getD 0 0) pt k) := by
  have hok := h.ok
  have hB := h.hB
  have hBd : B ≤ 59 := by have := hok.b2; omega
  by_cases hk1 : k < 1
  · go_enter Tryz.func91, Tryz.ntmps91
    go_wp2
    go_step3
    go_wp2
    go_ret2
    exact .inl ⟨.inl hk1, rfl, Ext.refl _⟩
  have hTot := fun W' (he : Ext w W') => KTotal_c s g C B L ls W' (h.ext he)
  generalize hTT : (ls B).getD 0 0 = T at *
  by_cases hk2 : T < k
  · go_enter Tryz.func91, Tryz.ntmps91
    go_wp2
    go_step3
    go_wp2_with fail
    refine (hTot _ (by (repeat' (first | exact Ext.refl _ | assumption | apply Ext.allocR | apply Ext.drewR | apply Ext.drewNR | (refine Ext.trans' ?_ (by assumption)))))).mono ?_
    rintro e w1 ⟨rfl, hx1⟩
    go_wp2
    go_ret2
    exact .inl ⟨.inr hk2, rfl, by (repeat' (first | exact Ext.refl _ | assumption | apply Ext.allocR | apply Ext.drewR | apply Ext.drewNR | (refine Ext.trans' ?_ (by assumption))))⟩
  have HB := Lib.hid hB
  have HTT := Lib.hid hTT
  clear hB hTT
  go_enter Tryz.func91, Tryz.ntmps91
  go_wp2
  go_step3
  go_wp2_with fail
  refine (hTot _ (by (repeat' (first | exact Ext.refl _ | assumption | apply Ext.allocR | apply Ext.drewR | apply Ext.drewNR | (refine Ext.trans' ?_ (by assumption)))))).mono ?_
  rintro e w1 ⟨rfl, hx1⟩
  have hE1 : Ext w w1 := by (repeat' (first | exact Ext.refl _ | assumption | apply Ext.allocR | apply Ext.drewR | apply Ext.drewNR | (refine Ext.trans' ?_ (by assumption))))
  clear hx1 hTot
  go_wp2_with fail
  refine (SKConfig_c s g C B L ls _ (h.ext ?hx)).mono ?_
  case hx => exact hE1.trans' (by (repeat' (first | exact Ext.refl _ | assumption | apply Ext.allocR | apply Ext.drewR | apply Ext.drewNR | (refine Ext.trans' ?_ (by assumption)))))
  rintro e w2 ⟨rfl, hx2⟩
  have hE2 : Ext w w2 := hE1.trans' (by (repeat' (first | exact Ext.refl _ | assumption | apply Ext.allocR | apply Ext.drewR | apply Ext.drewNR | (refine Ext.trans' ?_ (by assumption)))))
  clear hx2 hE1
  go_upto_region 5 with (fail)
  obtain ⟨w3, hw3⟩ : ∃ w3, w2.alloc (.cells Tryz.zeroCells232 232) = w3 := ⟨_, rfl⟩
  have hx3 : Ext w2 w3 := by rw [← hw3]; exact Ext.alloc' _ _
  have hb3 : w3.heap[w2.heap.size]? = some (.cells Tryz.zeroCells232 232 (0, 0)) := by rw [← hw3]; exact heap_at _ _ rfl
  rw [hw3]
  clear hw3
  have hE3 := hE2.trans' hx3
  have hzs : Tryz.zeroCells232.size = 120 := by kernel_rfl
  have hz0 : Tryz.zeroCells232[0]? = some (.int .i64 0) := by kernel_rfl
  have hz1 : Tryz.zeroCells232[1]? = some (.int .u64 0) := by kernel_rfl
  generalize Tryz.zeroCells232 = zc at *
  have z0 := (cell_of hb3 0).trans hz0
  have z1 := (cell_of hb3 1).trans hz1
  have f0 := frozen_of hb3 0
  have f1 := frozen_of hb3 1
  have zl := lt_of hb3
  have hbE := hE2.size
  generalize hbb : w2.heap.size = b at *
  have hw0 := way_set hb3 hzs (dn := []) (fun k hk => by simp at hk) (by simp) B 0
  simp only [List.length_nil, Nat.zero_mul, Nat.zero_add, List.nil_append] at hw0
  have hW0 : WayAtR w B C b pt k 0 k ((w3.setCell ⟨b, 0, none⟩ (.int .i64 (B : Nat))).setCell ⟨b, 1, none⟩ (.int .u64 0)) B 0 [(B, 0)] :=
    ⟨by omega, rfl, rfl, rfl, Int.le_refl 0, by have := keys_bd C hok B (Int.natCast_nonneg B); omega, by omega, hk, hw0.1, hw0.2, (hE3.setR (p := ⟨b, 0, none⟩) hbE _).setR (p := ⟨b, 1, none⟩) hbE _⟩
  rw [← HB.out] at hW0
  have HW0 := Lib.hid hW0
  clear hz0 hz1 hw0 hW0
  go_wp2
  go_step3
  go_wp2
  have HT := Lib.hid hT
  have HPI := Lib.hid hPI
  clear hT hPI
  go_loopw [1, 8] (fun u1 u8 wr => ∃ (t : Nat) (k' : Int) (n : Nat) (i : Int) (dn : List (Nat × Int)), u1 = .int .i64 k' ∧ u8 = .int .i64 t ∧ WayAtR w B C b pt k t k' wr n i dn) (fun _ u8 _ => B - (intOf u8).toNat)
  case atStart => exact ⟨0, k, B, 0, [(B, 0)], rfl, rfl, HW0.out⟩
  case round =>
    clear HW0
    obtain ⟨t, k', n, i, dn, rfl, rfl, hW⟩ := hrel
    obtain ⟨w1', w2', w3', w4', w5', w6', w7', w8', w9', w10', w11'⟩ := hW
    obtain ⟨cur, hcb, hcs⟩ := w9'
    have hp := w10' t (by omega)
    rw [w3', Nat.zero_add] at hp
    obtain ⟨q0, q1⟩ := hp
    have ql := lt_of hcb
    cases n with
    | zero =>
      have hdl : wayFP pt B k = some dn := by rw [w4']; simp [wayF]
      have hcl := fun W' (he : Ext wr W') => CloneP_c b (60 - 0) dn W' (w10'.ext ql he) (Nat.lt_of_lt_of_le ql he.size) (by omega)
      rw [w2'] at hcl
      have HDL := Lib.hid hdl
      have HCL := Lib.hid hcl
      have hsl := fun W' => run_slice60 b t (by omega) W'
      clear hdl hcl
      go_wp2_with fail
      refine (HCL.out _ (Ext.refl _)).mono ?_
      rintro e w5 ⟨v5, rfl, ho5, hx5⟩
      clear hsl
      go_wp2
      go_ret2
      exact .inr (.inr ⟨⟨by omega, by omega⟩, dn, v5, wr.heap.size, HDL.out, rfl, w11'.size, by rw [w2']; exact ho5, w11'.trans' hx5⟩)
    | succ m =>
      have hnn : ((m + 1 : Nat) : Int) = (m : Int) + 1 := by omega
      have hmb : ((m + 1 : Nat) : Int) ≤ C.bits := by have := HB.out; omega
      have hHV : ∀ W', Calls Tryz.prog 145 #[.int .i64 C.bits, .agg #[.int .i64 ((m : Int) + 1), .int .u64 i]] W' fun e w' => e = .returned (.tuple #[.agg #[.int .i64 m, .int .u64 (2 * i)], .agg #[.int .i64 m, .int .u64 (2 * i + 1)], .bool true]) ∧ Ext W' w' := fun W' => by
        have := Halves_c C hok m hmb i w5' w6' W'
        rw [hnn] at this
        exact this
      go_wp2_with fail
      refine (hHV _).mono ?_
      rintro e w4 ⟨rfl, hx4⟩
      clear hHV
      go_upto_region 9 with (fail)
      have hr4 : Ext wr w4 := by (repeat' (first | exact Ext.refl _ | assumption | apply Ext.allocR | apply Ext.drewR | apply Ext.drewNR | (refine Ext.trans' ?_ (by assumption))))
      have hkh := keys_half (C := C) (m := m) hmb
      have hl5 := (heap_old (w4.alloc (.cells #[.int .i64 m, .int .u64 (2 * i)] 39)) (.cells #[.int .i64 m, .int .u64 (2 * i + 1)] 39) (n := w4.heap.size) (by rw [size_alloc]; omega)).trans (heap_at w4 (.cells #[.int .i64 m, .int .u64 (2 * i)] 39) rfl)
      have hr5 := heap_at (w4.alloc (.cells #[.int .i64 m, .int .u64 (2 * i)] 39)) (.cells #[.int .i64 m, .int .u64 (2 * i + 1)] 39) (n := w4.heap.size + 1) (by rw [size_alloc])
      have hx5 : Ext w4 ((w4.alloc (.cells #[.int .i64 m, .int .u64 (2 * i)] 39)).alloc (.cells #[.int .i64 m, .int .u64 (2 * i + 1)] 39)) := (Ext.alloc' _ _).allocR _
      generalize (w4.alloc (.cells #[.int .i64 m, .int .u64 (2 * i)] 39)).alloc (.cells #[.int .i64 m, .int .u64 (2 * i + 1)] 39) = w5 at *
      have hE5 : Ext wr w5 := hr4.trans' hx5
      have v0 := (cell_of hl5 0).trans rfl
      have v1 := (cell_of hl5 1).trans rfl
      have vl := lt_of hl5
      clear hx4 hx5 hr4 q0 q1 ql
      have hK5 := h.ext (w11'.trans' hE5)
      have ht59 : t < 59 := by omega
      go_wp2_with fail
      refine Calls.mono (KPoint_c s g C B L ls _ hK5 m (by omega) (2 * i) (by omega) (by omega)) ?_
      rintro e w6 ⟨x, rfl, hpt, hx6⟩
      have hxp := HT.out m (2 * i) x (by omega) (by omega) (by omega) hpt
      have hpi := HPI.out m (2 * i)
      have hw4 := w4'
      have hE6 := hE5.trans' hx6
      have hl6 := hx6.keep hl5
      have hr6 := hx6.keep hr5
      have hc6 := hE6.keep hcb
      have hW : WayAtR w B C b pt k t k' wr (m + 1) i dn := ⟨w1', w2', w3', w4', w5', w6', w7', w8', ⟨cur, hcb, hcs⟩, w10', w11'⟩
      subst hxp
      have hn1 := fun (W' : World) (hE' : Ext wr W') (j k2 : Int) hj => way_nextR (j := j) (k2 := k2) hW hE' HB.out hBd hbE hj
      have HN1 := Lib.hid hn1
      obtain ⟨o0, ho0⟩ : ∃ o0, cur[(t + 1) * 2]? = some o0 := ⟨_, Array.getElem?_eq_getElem (by omega)⟩
      obtain ⟨o1, ho1⟩ : ∃ o1, cur[(t + 1) * 2 + 1]? = some o1 := ⟨_, Array.getElem?_eq_getElem (by omega)⟩
      have u0 := (cell_of hc6 ((t + 1) * 2)).trans ho0
      have u1 := (cell_of hc6 ((t + 1) * 2 + 1)).trans ho1
      have g0 := frozen_of hc6 ((t + 1) * 2)
      have g1 := frozen_of hc6 ((t + 1) * 2 + 1)
      have gl := lt_of hc6
      have v0 := (cell_of hl6 0).trans rfl
      have v1 := (cell_of hl6 1).trans rfl
      have vl := lt_of hl6
      have y0 := (cell_of hr6 0).trans rfl
      have y1 := (cell_of hr6 1).trans rfl
      have yl := lt_of hr6
      have HW4 := Lib.hid hw4
      clear hw4 w4' hn1 hW hpt hK5 hl5 hr5 w10' hcb hx6
      generalize hP : pt m (2 * i) = P at *
      by_cases hle : k' ≤ P
      · go_wp2_with fail
        go_roundw
        case rel => exact ⟨t + 1, k', m, 2 * i, dn ++ [(m, 2 * i)], rfl, by go_num, HN1.out _ hE6 _ _ (.inl ⟨rfl, hle, rfl⟩)⟩
        case measure => simp [intOf]; omega
      · have hkI : I64 k' := w8'
        have hM := Minus_c k' P hkI hpi
        by_cases hI : I64 (k' - P)
        rotate_left
        · rw [fitB_no hI] at hM
          have hno : wayFP pt B k = none := by
            rw [HW4.out]
            conv => lhs; unfold wayF
            rw [if_neg (by omega), if_neg (by rw [hP, fitB_no hI]; decide)]
            rfl
          have HNO := Lib.hid hno
          have HM := Lib.hid hM
          clear hM hno hI
          go_wp2_with fail
          refine (HM.out _).mono ?_
          rintro e w7 ⟨rfl, hx7⟩
          have hE7 : Ext w6 w7 := by (repeat' (first | exact Ext.refl _ | assumption | apply Ext.allocR | apply Ext.drewR | apply Ext.drewNR | (refine Ext.trans' ?_ (by assumption))))
          go_wp2
          go_ret2
          exact .inr (.inl ⟨⟨by omega, by omega⟩, HNO.out, rfl, w11'.trans' (hE6.trans' hE7)⟩)
        rw [fitB_yes hI, fitN_yes hI] at hM
        have HII := Lib.hid hI
        clear hI
        have HM := Lib.hid hM
        clear hM
        go_wp2_with fail
        refine (HM.out _).mono ?_
        rintro e w7 ⟨rfl, hx7⟩
        have hE7 : Ext w6 w7 := by (repeat' (first | exact Ext.refl _ | assumption | apply Ext.allocR | apply Ext.drewR | apply Ext.drewNR | (refine Ext.trans' ?_ (by assumption))))
        have hc7 := hE7.keep hc6
        have hr7 := hE7.keep hr6
        clear hx7 u0 u1 g0 g1 gl v0 v1 vl y0 y1 yl
        have u0 := (cell_of hc7 ((t + 1) * 2)).trans ho0
        have u1 := (cell_of hc7 ((t + 1) * 2 + 1)).trans ho1
        have g0 := frozen_of hc7 ((t + 1) * 2)
        have g1 := frozen_of hc7 ((t + 1) * 2 + 1)
        have gl := lt_of hc7
        have y0 := (cell_of hr7 0).trans rfl
        have y1 := (cell_of hr7 1).trans rfl
        have yl := lt_of hr7
        go_wp2_with fail
        go_roundw
        case rel => exact ⟨t + 1, k' - P, m, 2 * i + 1, dn ++ [(m, 2 * i + 1)], rfl, by go_num, HN1.out _ (hE6.trans' hE7) _ _ (.inr ⟨rfl, by omega, HII.out, rfl⟩)⟩
        case measure => simp [intOf]; omega
end Go.Proofs.YtfhdjekpdifajaaGreat

/- gaugerref17: Way, Quantile, walked. -/
namespace Go.Proofs.YtfhdjekpdifajaaGreat
set_option linter.unusedVariables false
open Go.RowKit
theorem RKTop_c (s t : Nat) (C : Cfg) (B : Nat) (L : Nat → RLev) (ls : Nat → List Int) (w : World) (h : RKAt w s t C B L ls) :
    Calls Tryz.prog 29 #[.pointer (some ⟨s, 0, none⟩)] w fun e w' => e = .returned (.int .i64 ((ls B).getD 0 0)) ∧ Ext w w' := by
  have hB := h.hB
  have hok := h.ok
  refine (RKTotal_c s t C B L ls w h).mono ?_
  rintro e w' ⟨x, r, rfl, hp, hE⟩
  rcases hp with ⟨hbad, _⟩ | ⟨_, (⟨_, rfl⟩ | ⟨hx, _⟩), _⟩
  · have := keys_bd C hok B (Int.natCast_nonneg B); omega
  · exact ⟨rfl, hE⟩
  · rw [isX_top hok hB] at hx; cases hx
set_option maxRecDepth 20000 in
set_option maxHeartbeats 8000000 in
theorem RWay_c (s t : Nat) (C : Cfg) (B : Nat) (L : Nat → RLev) (ls : Nat → List Int) (w : World) (h : RKAt w s t C B L ls) (k : Int) (hk : I64 k) (pt : Nat → Int → Int) (hU : Uniq C B ls pt) (hPI : ∀ n i, I64 (pt n i)) :
    Calls Tryz.prog 93 #[.pointer (some ⟨s, 0, none⟩), .int .i64 k] w (WayRPost w B ((ls B).getD 0 0) pt k) := by
  have hok := h.ok
  have hB := h.hB
  have hBd : B ≤ 59 := by have := hok.b2; omega
  by_cases hk1 : k < 1
  · go_enter Tryz.func93, Tryz.ntmps93
    go_wp2
    go_ret2
    exact .inl ⟨.inl hk1, rfl, Ext.refl _⟩
  have HTot := Lib.hid (RKTop_c s t C B L ls w h)
  generalize hTT : (ls B).getD 0 0 = T at *
  by_cases hk2 : T < k
  · clear hTT hB
    go_enter Tryz.func93, Tryz.ntmps93
    go_wp2_with fail
    refine HTot.out.mono ?_
    rintro e w1 ⟨rfl, hx1⟩
    go_wp2
    go_ret2
    exact .inl ⟨.inr hk2, rfl, hx1⟩
  have HB := Lib.hid hB
  have HH := Lib.hid h
  have HU := Lib.hid hU
  have HPI := Lib.hid hPI
  obtain ⟨i0, z0, hi0, hz0, hz1, hz2, hzs⟩ := info_pc
  obtain ⟨cap, hex, hcap⟩ := h.ex
  have HEX := Lib.hid hex
  clear hB h hU hPI hTT hex
  go_enter Tryz.func93, Tryz.ntmps93
  go_wp2_with fail
  refine HTot.out.mono ?_
  rintro e w1 ⟨rfl, hx1⟩
  have hex1 := hx1.keep HEX.out
  have c0 := (cell_of hex1 0).trans (show _ = some (Value.int .i64 B) by rw [← HB.out]; rfl)
  have hls := lt_of hex1
  have HX1 := Lib.hid hx1
  have ho0 : (w1.alloc (.cells #[.int .i64 B, .int .u64 0] 39)).ownsRow w.heap.size 39 2 (.slice (some ⟨w1.heap.size, 0, none⟩) 1 1) [((B : Nat), (0 : Int))].length (pcV [((B : Nat), (0 : Int))]) := ⟨rfl, .inr ⟨w1.heap.size, 1, #[.int .i64 B, .int .u64 0], rfl, HX1.out.size, heap_at _ _ rfl, Nat.le_refl _, by decide, rfl, rfl⟩⟩
  have HO0 := Lib.hid ho0
  have hE1 : Ext w (w1.alloc (.cells #[.int .i64 B, .int .u64 0] 39)) := HX1.out.allocR _
  have HE1 := Lib.hid hE1
  have hkb0 : (0 : Int) < keys C B := by have := keys_bd C hok B (Int.natCast_nonneg B); omega
  clear hx1 hex1 ho0 hE1 HTot
  go_wp2_with fail
  clear c0 hls
  go_loopw [1, 6, 7, 8] (fun u1 u6 u7 u8 wr => ∃ (k' : Int) (m : Nat) (i z : Int) (dn : List (Nat × Int)), u1 = .int .i64 k' ∧ u7 = .int .u64 i ∧ u8 = .int .i64 z ∧ z + 1 = m ∧ dn.length + m = B + 1 ∧ 1 ≤ dn.length ∧ wayFP pt B k = (wayF pt m i k').map (fun l => dn ++ l) ∧ 0 ≤ i ∧ i < keys C m ∧ I64 k' ∧ wr.ownsRow w.heap.size 39 2 u6 dn.length (pcV dn) ∧ Ext w wr) (fun _ _ _ u8 _ => (intOf u8 + 1).toNat)
  case atStart => exact ⟨k, B, 0, (B : Int) - 1, [(B, 0)], rfl, rfl, by first | rfl | go_num, by omega, by rw [List.length_singleton]; omega, Nat.le_refl _, rfl, Int.le_refl 0, hkb0, hk, HO0.out, HE1.out⟩
  case round =>
    clear HO0 HE1
    obtain ⟨k', m, i, z, dn, rfl, rfl, rfl, hz, hdl, hdl1, hway, hi0', hi1', hkI, hown, hE⟩ := hrel
    obtain ⟨pv, cv, rfl⟩ := own_sl hown
    have HO := Lib.hid hown
    have HW := Lib.hid hway
    have HE := Lib.hid hE
    have HDL := Lib.hid hdl
    clear hown hway
    cases m with
    | zero =>
      obtain rfl : z = -1 := by omega
      have hfin : wayFP pt B k = some dn := by rw [HW.out]; simp [wayF]
      have HF := Lib.hid hfin
      clear hfin hz hdl
      go_wp2
      go_ret2
      exact .inr (.inr ⟨⟨by omega, by omega⟩, dn, _, w.heap.size, HF.out, rfl, Nat.le_refl _, HO.out, HE.out⟩)
    | succ m =>
      obtain rfl : z = (m : Int) := by omega
      have hmb : ((m + 1 : Nat) : Int) ≤ C.bits := by have := HB.out; omega
      have hkh := keys_half (C := C) (m := m) hmb
      have hkk := keys_bd C hok m (Int.natCast_nonneg m)
      have hib : i < 576460752303423488 := by have := keys_bd C hok (m + 1 : Nat) (Int.natCast_nonneg _); omega
      have hcall := RKPoint_c s t C B L ls m (2 * i) (by unfold I64; omega) (by unfold U64; omega) wr (HH.out.ext hE)
      have hun := fun x (hx : lvPt C m (ls m) (2 * i) x) => HU.out m (2 * i) x (by omega) (by omega) (by omega) hx
      have hq2 : i * 2 = 2 * i := by omega
      rw [← hq2] at hcall
      have HCALL := Lib.hid hcall
      have HUN := Lib.hid hun
      have HKH := Lib.hid hkh
      have HQ2 := Lib.hid hq2
      have hz0' : (0 : Int) ≤ (m : Int) := by omega
      have HHZ := Lib.hid hz
      have hmB : m ≤ 58 := by have := HB.out; have := hok.b2; omega
      clear hcall hun hkh hq2 hkk hz hmb hdl
      go_wp2_with fail
      refine Calls.mono HCALL.out ?_
      rintro e w5 ⟨x, r, rfl, hp, hx5⟩
      have hxp : x = pt m (2 * i) := by
        rcases hp with ⟨hbad, _⟩ | ⟨n, hn, _, hpa⟩
        · have := HDL.out; omega
        · obtain rfl : m = n := by omega
          rw [HQ2.out] at hpa
          rcases hpa with ⟨hbad, _⟩ | ⟨_, hl, _⟩
          · have := HKH.out; omega
          · exact HUN.out x hl
      have hxI : I64 x := by rw [hxp]; exact HPI.out _ _
      have HXP := Lib.hid hxp
      have hE5 := HE.out.trans' hx5
      have ho5 := own_keepB HO.out (fun j hj => hx5.block j (own_lt HO.out hj))
      have HO5 := Lib.hid ho5
      have HE5 := Lib.hid hE5
      have hlen : dn.length ≤ 1000000000 := by have := HDL.out; omega
      clear hp hxp hx5 ho5 hE5 hE HCALL HUN
      by_cases hle : k' ≤ x
      · have hwn : wayFP pt B k = (wayF pt m (i * 2) k').map (fun l => (dn ++ [(m, i * 2)]) ++ l) := by
          rw [HW.out]
          conv => lhs; unfold wayF
          rw [← HXP.out, if_pos hle, Option.map_map, HQ2.out]
          congr 1
          funext l
          simp
        have HWN := Lib.hid hwn
        have hj1 : i * 2 < keys C m := by have := HKH.out; omega
        clear hwn
        go_wp2_with (at_builtin; refine wpList_appp w5 (m, i * 2) dn _ w.heap.size 39 39 HO5.out 165 rfl _ _ rfl i0 z0 hi0 hz0 hz1 hz2 hzs Tryz.underlying165 rfl rfl hlen HE5.out.size ?_)
        intro v' w6 hw1 hw2 hw3
        have hE6 : Ext w w6 := ext_grown HE5.out hw2 (fun j hj => own_blk HO5.out hj)
        obtain ⟨pv2, cv2, rfl⟩ := own_sl hw1
        have HW1 := Lib.hid hw1
        clear hw1 hw2 hw3
        go_wp2
        go_roundw
        case rel => exact ⟨k', m, i * 2, (m : Int) - 1, dn ++ [(m, i * 2)], rfl, rfl, by first | rfl | go_num, by omega, by rw [List.length_append, List.length_singleton]; have := HDL.out; omega, by rw [List.length_append, List.length_singleton]; omega, HWN.out, by omega, hj1, hkI, by rw [List.length_append]; exact HW1.out, hE6⟩
        case measure => simp [intOf] <;> omega
      · have hbig : -730750818665451459101842416358141509827966271488 ≤ k' + -x ∧ k' + -x < 730750818665451459101842416358141509827966271488 := by unfold I64 at hkI hxI; omega
        have HI := Lib.hid (fun W' => LInt_c (k' + -x) hbig.1 hbig.2 W')
        have HN1 := Lib.hid (fun W' => OfInt_c k' hkI W')
        have HN2 := Lib.hid (fun W' => OfInt_c x hxI W')
        have HKI := Lib.hid hkI
        clear hbig
        by_cases hf : I64 (k' + -x)
        · rw [fitB_yes hf, fitN_yes hf] at HI
          have hwn : wayFP pt B k = (wayF pt m (i * 2 + 1) (k' + -x)).map (fun l => (dn ++ [(m, i * 2 + 1)]) ++ l) := by
            rw [HW.out]
            conv => lhs; unfold wayF
            rw [← HXP.out, if_neg hle, if_pos (fitB_yes (by rw [Int.sub_eq_add_neg]; exact hf)), Option.map_map, HQ2.out, Int.sub_eq_add_neg]
            congr 1
            funext l
            simp
          have HWN := Lib.hid hwn
          have HFF := Lib.hid hf
          have hj1 : i * 2 + 1 < keys C m := by have := HKH.out; omega
          clear hwn hf
          go_wp2_with fail
          refine (HN1.out _).mono ?_
          rintro e wa ⟨rfl, hxa⟩
          go_wp2_with fail
          refine (HN2.out _).mono ?_
          rintro e wb ⟨rfl, hxb⟩
          go_wp2_with fail
          refine (LMinus_c x _).mono ?_
          rintro e wc ⟨rfl, hxc⟩
          go_wp2_with fail
          refine (LPlus_c k' (-x) _).mono ?_
          rintro e wd ⟨rfl, hxd⟩
          go_wp2_with fail
          refine (HI.out _).mono ?_
          rintro e wf ⟨rfl, hxf⟩
          have hE5f : Ext w5 wf := hxa.trans' (hxb.trans' (hxc.trans' (hxd.trans' hxf)))
          have ho6 := own_keepB HO5.out (fun j hj => hE5f.block j (own_lt HO5.out hj))
          have HO6 := Lib.hid ho6
          have HE6 := Lib.hid (HE5.out.trans' hE5f)
          generalize k' + -x = kn at *
          clear hxa hxb hxc hxd hxf ho6 hE5f
          go_wp2_with (at_builtin; refine wpList_appp wf (m, i * 2 + 1) dn _ w.heap.size 39 39 HO6.out 165 rfl _ _ rfl i0 z0 hi0 hz0 hz1 hz2 hzs Tryz.underlying165 rfl rfl hlen HE6.out.size ?_)
          intro v' w6 hw1 hw2 hw3
          have hE6 : Ext w w6 := ext_grown HE6.out hw2 (fun j hj => own_blk HO6.out hj)
          obtain ⟨pv2, cv2, rfl⟩ := own_sl hw1
          have HW1 := Lib.hid hw1
          clear hw1 hw2 hw3
          go_wp2
          go_roundw
          case rel => exact ⟨kn, m, i * 2 + 1, (m : Int) - 1, dn ++ [(m, i * 2 + 1)], rfl, rfl, by first | rfl | go_num, by omega, by rw [List.length_append, List.length_singleton]; have := HDL.out; omega, by rw [List.length_append, List.length_singleton]; omega, HWN.out, by omega, hj1, HFF.out, by rw [List.length_append]; exact HW1.out, hE6⟩
          case measure => simp [intOf] <;> omega
        · rw [fitB_no hf] at HI
          have hno : wayFP pt B k = none := by
            rw [HW.out]
            conv => lhs; unfold wayF
            rw [← HXP.out, if_neg hle, if_neg (by rw [fitB_no (by rw [Int.sub_eq_add_neg]; exact hf)]; decide)]
            rfl
          have HNO := Lib.hid hno
          clear hno hf
          go_wp2_with fail
          refine (HN1.out _).mono ?_
          rintro e wa ⟨rfl, hxa⟩
          go_wp2_with fail
          refine (HN2.out _).mono ?_
          rintro e wb ⟨rfl, hxb⟩
          go_wp2_with fail
          refine (LMinus_c x _).mono ?_
          rintro e wc ⟨rfl, hxc⟩
          go_wp2_with fail
          refine (LPlus_c k' (-x) _).mono ?_
          rintro e wd ⟨rfl, hxd⟩
          go_wp2_with fail
          refine (HI.out _).mono ?_
          rintro e wf ⟨rfl, hxf⟩
          have hE5f : Ext w5 wf := hxa.trans' (hxb.trans' (hxc.trans' (hxd.trans' hxf)))
          go_wp2
          go_ret2
          exact .inr (.inl ⟨⟨by omega, by omega⟩, HNO.out, rfl, HE5.out.trans' hE5f⟩)
end Go.Proofs.YtfhdjekpdifajaaGreat

/- gaugerref17.Quantile, and quant.Quantile of any stack. -/
namespace Go.Proofs.YtfhdjekpdifajaaGreat
set_option linter.unusedVariables false
open Go.RowKit
def quanR (pt : Nat → Int → Int) (B : Nat) (T k : Int) : Int × Int := if k < 1 ∨ T < k then (0, 6) else match wayFP pt B k with | none => (0, 4) | some ps => ((ps.getD B (0, 0)).2, 0)
def wayRR (pt : Nat → Int → Int) (B : Nat) (T k : Int) : List (Nat × Int) × Int := if k < 1 ∨ T < k then ([], 6) else match wayFP pt B k with | none => ([], 4) | some ps => (ps, 0)
set_option maxRecDepth 20000 in
set_option maxHeartbeats 4000000 in
theorem Quan_of (s : Nat) (B : Nat) (hBd : B ≤ 59) (pt : Nat → Int → Int) (T k : Int) (w : World) (h : ∀ W', Ext w W' → Calls Tryz.prog 91 #[.pointer (some ⟨s, 0, none⟩), .int .i64 k] W' (WayRPost W' B T pt k)) :
    Calls Tryz.prog 33 #[.pointer (some ⟨s, 0, none⟩), .int .i64 k] w fun e w' => e = .returned (.tuple #[.int .u64 (quanR pt B T k).1, .int .i64 (quanR pt B T k).2]) ∧ Ext w w' := by
  have HW := Lib.hid h
  clear h
  go_enter Tryz.func33, Tryz.ntmps33
  go_wp2_with fail
  refine (HW.out _ (by (repeat' (first | exact Ext.refl _ | assumption | apply Ext.allocR | apply Ext.drewR | apply Ext.drewNR | (refine Ext.trans' ?_ (by assumption)))))).mono ?_
  rintro e w1 (⟨hr, rfl, hx⟩ | ⟨hr, hn, rfl, hx⟩ | ⟨hr, ps, v, base, hsm, rfl, hbs, ho, hx⟩)
  · have HQ : Hid (quanR pt B T k = (0, 6)) := Lib.hid (by unfold quanR; rw [if_pos hr])
    clear hr
    go_wp2
    go_ret2
    exact ⟨by rw [HQ.out]; rfl, by (repeat' (first | exact Ext.refl _ | assumption | apply Ext.allocR | apply Ext.drewR | apply Ext.drewNR | (refine Ext.trans' ?_ (by assumption))))⟩
  · have HQ : Hid (quanR pt B T k = (0, 4)) := Lib.hid (by unfold quanR; rw [if_neg (by omega), hn])
    clear hr hn
    go_wp2
    go_ret2
    exact ⟨by rw [HQ.out]; rfl, by (repeat' (first | exact Ext.refl _ | assumption | apply Ext.allocR | apply Ext.drewR | apply Ext.drewNR | (refine Ext.trans' ?_ (by assumption))))⟩
  · have hlen := wayFP_len hsm
    have HQ : Hid (quanR pt B T k = ((ps.getD B (0, 0)).2, 0)) := Lib.hid (by unfold quanR; rw [if_neg (by omega), hsm])
    obtain ⟨g', cap, rfl, hgl, hpc⟩ := own_pieces ho (by omega)
    obtain ⟨_, q1⟩ := hpc B (by omega)
    rw [Nat.zero_add] at q1
    have hE : Ext w w1 := by (repeat' (first | exact Ext.refl _ | assumption | apply Ext.allocR | apply Ext.drewR | apply Ext.drewNR | (refine Ext.trans' ?_ (by assumption))))
    clear ho hpc hx hr hsm
    rw [hlen]
    clear hlen
    go_wp2
    go_ret2
    exact ⟨by rw [HQ.out]; rfl, hE⟩
set_option maxRecDepth 20000 in
set_option maxHeartbeats 4000000 in
theorem RQuan_of (s : Nat) (B : Nat) (hBd : B ≤ 59) (pt : Nat → Int → Int) (T k : Int) (w : World) (h : ∀ W', Ext w W' → Calls Tryz.prog 93 #[.pointer (some ⟨s, 0, none⟩), .int .i64 k] W' (WayRPost W' B T pt k)) :
    Calls Tryz.prog 34 #[.pointer (some ⟨s, 0, none⟩), .int .i64 k] w fun e w' => e = .returned (.tuple #[.int .u64 (quanR pt B T k).1, .int .i64 (quanR pt B T k).2]) ∧ Ext w w' := by
  have HW := Lib.hid h
  clear h
  go_enter Tryz.func34, Tryz.ntmps34
  go_wp2_with fail
  refine (HW.out _ (by (repeat' (first | exact Ext.refl _ | assumption | apply Ext.allocR | apply Ext.drewR | apply Ext.drewNR | (refine Ext.trans' ?_ (by assumption)))))).mono ?_
  rintro e w1 (⟨hr, rfl, hx⟩ | ⟨hr, hn, rfl, hx⟩ | ⟨hr, ps, v, base, hsm, rfl, hbs, ho, hx⟩)
  · have HQ : Hid (quanR pt B T k = (0, 6)) := Lib.hid (by unfold quanR; rw [if_pos hr])
    clear hr
    go_wp2
    go_ret2
    exact ⟨by rw [HQ.out]; rfl, by (repeat' (first | exact Ext.refl _ | assumption | apply Ext.allocR | apply Ext.drewR | apply Ext.drewNR | (refine Ext.trans' ?_ (by assumption))))⟩
  · have HQ : Hid (quanR pt B T k = (0, 4)) := Lib.hid (by unfold quanR; rw [if_neg (by omega), hn])
    clear hr hn
    go_wp2
    go_ret2
    exact ⟨by rw [HQ.out]; rfl, by (repeat' (first | exact Ext.refl _ | assumption | apply Ext.allocR | apply Ext.drewR | apply Ext.drewNR | (refine Ext.trans' ?_ (by assumption))))⟩
  · have hlen := wayFP_len hsm
    have HQ : Hid (quanR pt B T k = ((ps.getD B (0, 0)).2, 0)) := Lib.hid (by unfold quanR; rw [if_neg (by omega), hsm])
    obtain ⟨g', cap, rfl, hgl, hpc⟩ := own_pieces ho (by omega)
    obtain ⟨_, q1⟩ := hpc B (by omega)
    rw [Nat.zero_add] at q1
    have hE : Ext w w1 := by (repeat' (first | exact Ext.refl _ | assumption | apply Ext.allocR | apply Ext.drewR | apply Ext.drewNR | (refine Ext.trans' ?_ (by assumption))))
    clear ho hpc hx hr hsm
    rw [hlen]
    clear hlen
    go_wp2
    go_ret2
    exact ⟨by rw [HQ.out]; rfl, hE⟩
end Go.Proofs.YtfhdjekpdifajaaGreat

/- What the levels of a stack that was fed tell of pieces. -/
namespace Go.Proofs.YtfhdjekpdifajaaGreat
set_option linter.unusedVariables false
open Go.RowKit
/-- The pairs that a stack is told. -/
def psU (C : Cfg) (us : List (Int × Int)) : List (Int × Int) := stP C 0 (fus us 0 60)
open Classical in
/-- What a piece is told. -/
noncomputable def ptK (C : Cfg) (B : Nat) (us : List (Int × Int)) (n : Nat) (i : Int) : Int :=
  if h : n ≤ B ∧ 0 ≤ i ∧ i < keys C n ∧ ∃ x, lvPt C n (feedK C (fus us 0 60) n) i x then Classical.choose h.2.2.2 else pcS (psU C us) n i
theorem kth_mem {l : List Int} {k : Nat} {x : Int} (h : IsKth l k x) : x ∈ l := by
  obtain ⟨h1, h2⟩ := h
  have : 0 < sameN x l := by omega
  unfold sameN at this
  obtain ⟨y, hy⟩ := List.exists_mem_of_length_pos this
  simp only [List.mem_filter] at hy
  obtain ⟨hy1, hy2⟩ := hy
  have : y = x := by simpa using hy2
  rw [← this]; exact hy1
theorem fed_bnd (C : Cfg) (us : List (Int × Int)) (n : Nat) : Bnd 65970697666560 (feedK C (fus us 0 60) n) := by
  intro x hx
  have := feedK_bnd C (fus us 0 60) n x hx
  have hl := fus_len us 0 60
  omega
theorem lvPt_bnd {C : Cfg} {us : List (Int × Int)} {n : Nat} {i x : Int} (h : lvPt C n (feedK C (fus us 0 60) n) i x) : -65970697666560 ≤ x ∧ x ≤ 65970697666560 := by
  have hb := fed_bnd C us n
  rcases h with ⟨_, rfl⟩ | ⟨_, h⟩
  · exact hb.getD (by decide) _
  · have hm := kth_mem h
    unfold readL at hm
    simp only [List.mem_map, List.mem_range] at hm
    obtain ⟨r, _, rfl⟩ := hm
    exact hb.getD (by decide) _
theorem psU_bnd (C : Cfg) (us : List (Int × Int)) (p : Int → Bool) : -65970697666560 ≤ sumIf p (psU C us) ∧ sumIf p (psU C us) ≤ 65970697666560 := by
  have := sumIf_bnd p 1099511627776 (by decide) (psU C us) (stP_bnd C 0 _)
  have hl := fus_len us 0 60
  have hs : (psU C us).length = (fus us 0 60).length := stP_len C 0 _
  omega
theorem ptK_of {C : Cfg} {B : Nat} {us : List (Int × Int)} {n : Nat} {i x : Int} (hn : n ≤ B) (h0 : 0 ≤ i) (h1 : i < keys C n) (h : lvPt C n (feedK C (fus us 0 60) n) i x) : x = ptK C B us n i := by
  have hx : n ≤ B ∧ 0 ≤ i ∧ i < keys C n ∧ ∃ x, lvPt C n (feedK C (fus us 0 60) n) i x := ⟨hn, h0, h1, x, h⟩
  unfold ptK
  rw [dif_pos hx]
  exact lvPt_unique h (Classical.choose_spec hx.2.2.2)
theorem ptK_bnd (C : Cfg) (B : Nat) (us : List (Int × Int)) (n : Nat) (i : Int) : -65970697666560 ≤ ptK C B us n i ∧ ptK C B us n i ≤ 65970697666560 := by
  unfold ptK
  split
  · rename_i h
    exact lvPt_bnd (Classical.choose_spec h.2.2.2)
  · exact psU_bnd C us _
theorem tells_fed (C : Cfg) (B : Nat) (us : List (Int × Int)) : Tells C B (feedK C (fus us 0 60)) (ptK C B us) :=
  ⟨fun n i x hn h0 h1 h => ptK_of hn h0 h1 h, fun n i => (ptK_bnd C B us n i).1, fun n i => (ptK_bnd C B us n i).2⟩
theorem hasK_pc (C : Cfg) (us : List (Int × Int)) (n : Nat) (j : Int) : hasK C us 60 n j = pcS (psU C us) n j := by
  unfold hasK hasP pcS psU
  exact sumIf_stP C n _ _
/-- Of an exact level. -/
theorem ptK_x {C : Cfg} (hok : C.Ok) {B : Nat} (hB : C.bits = B) {us : List (Int × Int)} (hus : UpsOk us) {n : Nat} (hn : n ≤ B) {i : Int} (h0 : 0 ≤ i) (h1 : i < keys C n) (hx : isX C n = true) : ptK C B us n i = pcS (psU C us) n i := by
  have h : lvPt C n (feedK C (fus us 0 60) n) i ((feedK C (fus us 0 60) n).getD i.toNat 0) := .inl ⟨hx, rfl⟩
  rw [← ptK_of hn h0 h1 h, ← hasK_pc]
  exact pt_x hok (by omega) hus hx h0 h
/-- Where no key has less than 0, no piece is told less than it has. -/
theorem ptK_ge {C : Cfg} (hok : C.Ok) {B : Nat} (hB : C.bits = B) {us : List (Int × Int)} (hus : UpsOk us) (hm : C.mode ≠ 3) (hp : plK C us 60 = true) (n : Nat) (i : Int) : 0 ≤ i → pcS (psU C us) n i ≤ ptK C B us n i := by
  intro h0
  unfold ptK
  split
  · rename_i h
    have := over_law hok (n := n) (by omega) hus hm hp h0 (Classical.choose_spec h.2.2.2)
    rw [hasK_pc] at this
    exact this
  · exact Int.le_refl _
end Go.Proofs.YtfhdjekpdifajaaGreat
