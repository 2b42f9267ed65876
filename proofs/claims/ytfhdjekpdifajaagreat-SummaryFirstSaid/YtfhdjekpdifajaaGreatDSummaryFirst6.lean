/- Part. No condition. -/
import Derived.Test.YtfhdjekpdifajaaGreatDSummaryFirst5
import Derived.Test.YtfhdjekpdifajaaGreatDSummaryFirst1
import Derived.Test.YtfhdjekpdifajaaGreatDSummaryFirst4
import Derived.Test.YtfhdjekpdifajaaGreatDSummaryFirst3
import Derived.Laws.IdiomCopy
namespace Go.Proofs.YtfhdjekpdifajaaGreat
set_option linter.unusedVariables false
open Go.RowKit
structure Own4 (N : Nat) (w : World) (F1 F2 F3 F4 : Nat → Prop) (P1 P2 P3 P4 : World → Prop) : Prop where
  o1 : Own F1 P1 w
  o2 : Own F2 P2 w
  o3 : Own F3 P3 w
  o4 : Own F4 P4 w
  d12 : Dj F1 F2
  d13 : Dj F1 F3
  d14 : Dj F1 F4
  d23 : Dj F2 F3
  d24 : Dj F2 F4
  d34 : Dj F3 F4
  n1 : ∀ k, F1 k → N ≤ k
  n2 : ∀ k, F2 k → N ≤ k
  n3 : ∀ k, F3 k → N ≤ k
  n4 : ∀ k, F4 k → N ≤ k
  nw : N ≤ w.heap.size
section
variable {N : Nat} {w w' : World} {F1 F2 F3 F4 : Nat → Prop} {P1 P2 P3 P4 : World → Prop}
theorem Own4.ext (h : Own4 N w F1 F2 F3 F4 P1 P2 P3 P4) (he : Ext w w') : Own4 N w' F1 F2 F3 F4 P1 P2 P3 P4 :=
  ⟨h.o1.ext he, h.o2.ext he, h.o3.ext he, h.o4.ext he, h.d12, h.d13, h.d14, h.d23, h.d24, h.d34, h.n1, h.n2, h.n3, h.n4, Nat.le_trans h.nw he.size⟩
/-- The first is changed, or put anew. -/
theorem Own4.step {F1' S : Nat → Prop} {P1' : World → Prop} (h : Own4 N w F1 F2 F3 F4 P1 P2 P3 P4) (hm : Mod S w w') (hS : ∀ k, S k → F1 k) (h1 : Own F1' P1' w') (hF : ∀ k, F1' k → F1 k ∨ w.heap.size ≤ k) : Own4 N w' F1' F2 F3 F4 P1' P2 P3 P4 := by
  refine ⟨h1, h.o2.mod hm (fun k hk hs => h.d12 k (hS k hs) hk), h.o3.mod hm (fun k hk hs => h.d13 k (hS k hs) hk), h.o4.mod hm (fun k hk hs => h.d14 k (hS k hs) hk), ?_, ?_, ?_, h.d23, h.d24, h.d34, fun k hk => ?_, h.n2, h.n3, h.n4, Nat.le_trans h.nw hm.size⟩
  · exact (h.o2.grow h.d12.symm hF).symm
  · exact (h.o3.grow h.d13.symm hF).symm
  · exact (h.o4.grow h.d14.symm hF).symm
  · rcases hF k hk with h2 | h2
    · exact h.n1 k h2
    · exact Nat.le_trans h.nw h2
theorem Own4.low {S : Nat → Prop} (h : Own4 N w F1 F2 F3 F4 P1 P2 P3 P4) (hm : Mod S w w') (hS : ∀ k, S k → F1 k) : Below N w w' := hm.below h.nw (fun k hk => h.n1 k (hS k hk))
end
end Go.Proofs.YtfhdjekpdifajaaGreat
namespace Go.Proofs.YtfhdjekpdifajaaGreat
set_option linter.unusedVariables false
open Go.RowKit
/-- A stack, and one of the references. -/
def KP (N : Nat) (w : World) (C : Cfg) (B s r : Nat) (ls ls' : Nat → List Int) : Prop :=
  ∃ g L t L2 z, KAt w s g C B L ls ∧ KLow z s g B L ∧ KFresh N B L ∧ RKAt w r t C B L2 ls' ∧ (∀ k, rkF r t C B L2 k → z ≤ k) ∧ N ≤ z ∧ z ≤ w.heap.size
def rangR (B : Nat) (pt : Nat → Int → Int) (lo hi : Int) : Int × Int := if hi < lo then (0, 1) else if 2 ^ B ≤ hi then (0, 2) else (fitN (lsum (cvV pt B lo hi)), bif fitB (lsum (cvV pt B lo hi)) then 0 else 4)
theorem rang_of {w w' : World} {B : Nat} {pt : Nat → Int → Int} {lo hi : Int} {e : Ending} (h : RangePost w B pt lo hi e w') : e = .returned (.tuple #[.int .i64 (rangR B pt lo hi).1, .int .i64 (rangR B pt lo hi).2]) ∧ Ext w w' := by
  obtain ⟨h, hE⟩ := h
  refine ⟨?_, hE⟩
  unfold rangR
  rcases h with ⟨h1, rfl⟩ | ⟨⟨h1, h2⟩, rfl⟩ | ⟨⟨h1, h2⟩, h3, rfl⟩ | ⟨⟨h1, h2⟩, h3, rfl⟩
  · rw [if_pos h1]
  · rw [if_neg (by omega), if_pos h2]
  · rw [if_neg (by omega), if_neg (by omega), fitB_yes h3, fitN_yes h3]; rfl
  · rw [if_neg (by omega), if_neg (by omega), fitB_no h3, fitN, fitB_no h3]; rfl
section
variable {N : Nat} {w w' : World} {C : Cfg} {B s r : Nat} {ls ls' : Nat → List Int}
theorem KP.ext (h : KP N w C B s r ls ls') (he : Ext w w') : KP N w' C B s r ls ls' := by
  obtain ⟨g, L, t, L2, z, h1, h2, h3, h4, h5, h6, h7⟩ := h
  exact ⟨g, L, t, L2, z, h1.ext he, h2, h3, h4.ext he, h5, h6, Nat.le_trans h7 he.size⟩
end
end Go.Proofs.YtfhdjekpdifajaaGreat
namespace Go.Proofs.YtfhdjekpdifajaaGreat
set_option linter.unusedVariables false
open Go.RowKit
/-- The way down, if every rest fits. -/
def wayF (pt : Nat → Int → Int) : Nat → Int → Int → Option (List (Nat × Int))
  | 0, _, _ => some []
  | n + 1, i, k => if k ≤ pt n (2 * i) then (wayF pt n (2 * i) k).map (fun l => (n, 2 * i) :: l) else if fitB (k - pt n (2 * i)) = true then (wayF pt n (2 * i + 1) (k - pt n (2 * i))).map (fun l => (n, 2 * i + 1) :: l) else none
def wayFP (pt : Nat → Int → Int) (B : Nat) (k : Int) : Option (List (Nat × Int)) := (wayF pt B 0 k).map (fun l => (B, 0) :: l)
theorem wayF_len (pt : Nat → Int → Int) : ∀ (n : Nat) (i k : Int) (l : List (Nat × Int)), wayF pt n i k = some l → l.length = n
  | 0, _, _, l, h => by cases h; rfl
  | n + 1, i, k, l, h => by
    unfold wayF at h
    split at h
    · obtain ⟨m, hm, rfl⟩ := Option.map_eq_some_iff.1 h
      rw [List.length_cons, wayF_len pt n _ _ m hm]
    · split at h
      · obtain ⟨m, hm, rfl⟩ := Option.map_eq_some_iff.1 h
        rw [List.length_cons, wayF_len pt n _ _ m hm]
      · cases h
theorem wayFP_len {pt : Nat → Int → Int} {B : Nat} {k : Int} {l : List (Nat × Int)} (h : wayFP pt B k = some l) : l.length = B + 1 := by
  obtain ⟨m, hm, rfl⟩ := Option.map_eq_some_iff.1 h
  rw [List.length_cons, wayF_len pt B _ _ m hm]
/-- How far the way has come. -/
def WayAtR (w : World) (B : Nat) (C : Cfg) (b : Nat) (pt : Nat → Int → Int) (k : Int) (t : Nat) (k' : Int) (wr : World) (n : Nat) (i : Int) (dn : List (Nat × Int)) : Prop :=
  t + n = B ∧ dn.length = t + 1 ∧ dn.getD t (0, 0) = (n, i) ∧ wayFP pt B k = (wayF pt n i k').map (fun l => dn ++ l) ∧ 0 ≤ i ∧ i < keys C n ∧ 1 ≤ k' ∧ I64 k' ∧
  (∃ cur, wr.heap[b]? = some (.cells cur 232 (0, 0)) ∧ cur.size = 120) ∧ PCells wr b 0 dn ∧ Ext w wr
theorem way_nextR {w wr w6 : World} {B : Nat} {C : Cfg} {b : Nat} {pt : Nat → Int → Int} {k : Int} {t : Nat} {k' : Int} {m : Nat} {i : Int} {dn : List (Nat × Int)} (hW : WayAtR w B C b pt k t k' wr (m + 1) i dn) (hE : Ext wr w6) (hB : C.bits = B) (hBd : B ≤ 59) (hbw : w.heap.size ≤ b) {j k2 : Int}
    (hj : (j = 2 * i ∧ k' ≤ pt m (2 * i) ∧ k2 = k') ∨ (j = 2 * i + 1 ∧ pt m (2 * i) < k' ∧ I64 (k' - pt m (2 * i)) ∧ k2 = k' - pt m (2 * i))) :
    WayAtR w B C b pt k (t + 1) k2 ((w6.setCell ⟨b, (t + 1) * 2, none⟩ (.int .i64 m)).setCell ⟨b, (t + 1) * 2 + 1, none⟩ (.int .u64 j)) m j (dn ++ [(m, j)]) := by
  obtain ⟨a1, a2, a3, a4, a5, a6, a7, a8, ⟨cur, a9, a10⟩, a11, a12⟩ := hW
  have hkh := keys_half (C := C) (m := m) (by omega)
  have hs := way_set (hE.keep a9) a10 (a11.ext (lt_of a9) hE) (by omega) m j
  rw [a2] at hs
  refine ⟨by omega, by rw [List.length_append, a2]; rfl, ?_, ?_, ?_, ?_, ?_, ?_, hs.1, hs.2, ((a12.trans' hE).setR (p := ⟨b, (t + 1) * 2, none⟩) hbw _).setR (p := ⟨b, (t + 1) * 2 + 1, none⟩) hbw _⟩
  · rw [← a2]; simp
  · rw [a4]
    conv => lhs; unfold wayF
    rcases hj with ⟨rfl, h1, rfl⟩ | ⟨rfl, h1, h2, rfl⟩
    · rw [if_pos h1, Option.map_map]
      congr 1
      funext l
      simp
    · rw [if_neg (by omega), if_pos (fitB_yes h2), Option.map_map]
      congr 1
      funext l
      simp
  · rcases hj with ⟨rfl, _, _⟩ | ⟨rfl, _, _⟩ <;> omega
  · rcases hj with ⟨rfl, _, _⟩ | ⟨rfl, _, _⟩ <;> omega
  · rcases hj with ⟨_, h1, rfl⟩ | ⟨_, h1, _, rfl⟩ <;> omega
  · rcases hj with ⟨_, h1, rfl⟩ | ⟨_, h1, h2, rfl⟩
    · exact a8
    · exact h2
def WayRPost (w : World) (B : Nat) (T : Int) (pt : Nat → Int → Int) (k : Int) (e : Ending) (w' : World) : Prop :=
  ((k < 1 ∨ T < k) ∧ e = .returned (.tuple #[.slice none 0 0, .int .i64 6]) ∧ Ext w w') ∨
  ((1 ≤ k ∧ k ≤ T) ∧ wayFP pt B k = none ∧ e = .returned (.tuple #[.slice none 0 0, .int .i64 4]) ∧ Ext w w') ∨
  ((1 ≤ k ∧ k ≤ T) ∧ ∃ ps v base, wayFP pt B k = some ps ∧ e = .returned (.tuple #[v, .int .i64 0]) ∧ w.heap.size ≤ base ∧ w'.ownsRow base 39 2 v ps.length (pcV ps) ∧ Ext w w')
set_option maxRecDepth 20000 in
set_option maxHeartbeats 8000000 in
theorem WayR_c (s g : Nat) (C : Cfg) (B : Nat) (L : Nat → Lev) (ls : Nat → List Int) (w : World) (h : KAt w s g C B L ls) (k : Int) (hk : I64 k) (pt : Nat → Int → Int) (hT : Uniq C B ls pt) (hPI : ∀ n i, I64 (pt n i)) :
    Calls Tryz.prog 91 #[.pointer (some ⟨s, 0, none⟩), .int .i64 k] w (WayRPost w B ((ls B).getD 0 0) pt k) := by
  have hok := h.ok
  have hB := h.hB
  have hBd : B ≤ 59 := by have := hok.b2; omega
  by_cases hk1 : k < 1
  · go_enter Tryz.func91, Tryz.ntmps91
    go_wp2
    go_step3
    go_wp2
    go_ret2
    exact .inl ⟨.inl hk1, rfl, Ext.refl _⟩
  have hTot := fun W' (he : Ext w W') => KTotal_c s g C B L ls W' (h.ext he)
  generalize hTT : (ls B).getD 0 0 = T at *
  by_cases hk2 : T < k
  · go_enter Tryz.func91, Tryz.ntmps91
    go_wp2
    go_step3
    go_wp2_with fail
    refine (hTot _ (by (repeat' (first | exact Ext.refl _ | assumption | apply Ext.allocR | apply Ext.drewR | apply Ext.drewNR | (refine Ext.trans' ?_ (by assumption)))))).mono ?_
    rintro e w1 ⟨rfl, hx1⟩
    go_wp2
    go_ret2
    exact .inl ⟨.inr hk2, rfl, by (repeat' (first | exact Ext.refl _ | assumption | apply Ext.allocR | apply Ext.drewR | apply Ext.drewNR | (refine Ext.trans' ?_ (by assumption))))⟩
  have HB := Lib.hid hB
  have HTT := Lib.hid hTT
  clear hB hTT
  go_enter Tryz.func91, Tryz.ntmps91
  go_wp2
  go_step3
  go_wp2_with fail
  refine (hTot _ (by (repeat' (first | exact Ext.refl _ | assumption | apply Ext.allocR | apply Ext.drewR | apply Ext.drewNR | (refine Ext.trans' ?_ (by assumption)))))).mono ?_
  rintro e w1 ⟨rfl, hx1⟩
  have hE1 : Ext w w1 := by (repeat' (first | exact Ext.refl _ | assumption | apply Ext.allocR | apply Ext.drewR | apply Ext.drewNR | (refine Ext.trans' ?_ (by assumption))))
  clear hx1 hTot
  go_wp2_with fail
  refine (SKConfig_c s g C B L ls _ (h.ext ?hx)).mono ?_
  case hx => exact hE1.trans' (by (repeat' (first | exact Ext.refl _ | assumption | apply Ext.allocR | apply Ext.drewR | apply Ext.drewNR | (refine Ext.trans' ?_ (by assumption)))))
  rintro e w2 ⟨rfl, hx2⟩
  have hE2 : Ext w w2 := hE1.trans' (by (repeat' (first | exact Ext.refl _ | assumption | apply Ext.allocR | apply Ext.drewR | apply Ext.drewNR | (refine Ext.trans' ?_ (by assumption)))))
  clear hx2 hE1
  go_upto_region 5 with (fail)
  obtain ⟨w3, hw3⟩ : ∃ w3, w2.alloc (.cells Tryz.zeroCells232 232) = w3 := ⟨_, rfl⟩
  have hx3 : Ext w2 w3 := by rw [← hw3]; exact Ext.alloc' _ _
  have hb3 : w3.heap[w2.heap.size]? = some (.cells Tryz.zeroCells232 232 (0, 0)) := by rw [← hw3]; exact heap_at _ _ rfl
  rw [hw3]
  clear hw3
  have hE3 := hE2.trans' hx3
  have hzs : Tryz.zeroCells232.size = 120 := by kernel_rfl
  have hz0 : Tryz.zeroCells232[0]? = some (.int .i64 0) := by kernel_rfl
  have hz1 : Tryz.zeroCells232[1]? = some (.int .u64 0) := by kernel_rfl
  generalize Tryz.zeroCells232 = zc at *
  have z0 := (cell_of hb3 0).trans hz0
  have z1 := (cell_of hb3 1).trans hz1
  have f0 := frozen_of hb3 0
  have f1 := frozen_of hb3 1
  have zl := lt_of hb3
  have hbE := hE2.size
  generalize hbb : w2.heap.size = b at *
  have hw0 := way_set hb3 hzs (dn := []) (fun k hk => by simp at hk) (by simp) B 0
  simp only [List.length_nil, Nat.zero_mul, Nat.zero_add, List.nil_append] at hw0
  have hW0 : WayAtR w B C b pt k 0 k ((w3.setCell ⟨b, 0, none⟩ (.int .i64 (B : Nat))).setCell ⟨b, 1, none⟩ (.int .u64 0)) B 0 [(B, 0)] :=
    ⟨by omega, rfl, rfl, rfl, Int.le_refl 0, by have := keys_bd C hok B (Int.natCast_nonneg B); omega, by omega, hk, hw0.1, hw0.2, (hE3.setR (p := ⟨b, 0, none⟩) hbE _).setR (p := ⟨b, 1, none⟩) hbE _⟩
  rw [← HB.out] at hW0
  have HW0 := Lib.hid hW0
  clear hz0 hz1 hw0 hW0
  go_wp2
  go_step3
  go_wp2
  have HT := Lib.hid hT
  have HPI := Lib.hid hPI
  clear hT hPI
  go_loopw [1, 8] (fun u1 u8 wr => ∃ (t : Nat) (k' : Int) (n : Nat) (i : Int) (dn : List (Nat × Int)), u1 = .int .i64 k' ∧ u8 = .int .i64 t ∧ WayAtR w B C b pt k t k' wr n i dn) (fun _ u8 _ => B - (intOf u8).toNat)
  case atStart => exact ⟨0, k, B, 0, [(B, 0)], rfl, rfl, HW0.out⟩
  case round =>
    clear HW0
    obtain ⟨t, k', n, i, dn, rfl, rfl, hW⟩ := hrel
    obtain ⟨w1', w2', w3', w4', w5', w6', w7', w8', w9', w10', w11'⟩ := hW
    obtain ⟨cur, hcb, hcs⟩ := w9'
    have hp := w10' t (by omega)
    rw [w3', Nat.zero_add] at hp
    obtain ⟨q0, q1⟩ := hp
    have ql := lt_of hcb
    cases n with
    | zero =>
      have hdl : wayFP pt B k = some dn := by rw [w4']; simp [wayF]
      have hcl := fun W' (he : Ext wr W') => CloneP_c b (60 - 0) dn W' (w10'.ext ql he) (Nat.lt_of_lt_of_le ql he.size) (by omega)
      rw [w2'] at hcl
      have HDL := Lib.hid hdl
      have HCL := Lib.hid hcl
      have hsl := fun W' => run_slice60 b t (by omega) W'
      clear hdl hcl
      go_wp2_with fail
      refine (HCL.out _ (Ext.refl _)).mono ?_
      rintro e w5 ⟨v5, rfl, ho5, hx5⟩
      clear hsl
      go_wp2
      go_ret2
      exact .inr (.inr ⟨⟨by omega, by omega⟩, dn, v5, wr.heap.size, HDL.out, rfl, w11'.size, by rw [w2']; exact ho5, w11'.trans' hx5⟩)
    | succ m =>
      have hnn : ((m + 1 : Nat) : Int) = (m : Int) + 1 := by omega
      have hmb : ((m + 1 : Nat) : Int) ≤ C.bits := by have := HB.out; omega
      have hHV : ∀ W', Calls Tryz.prog 145 #[.int .i64 C.bits, .agg #[.int .i64 ((m : Int) + 1), .int .u64 i]] W' fun e w' => e = .returned (.tuple #[.agg #[.int .i64 m, .int .u64 (2 * i)], .agg #[.int .i64 m, .int .u64 (2 * i + 1)], .bool true]) ∧ Ext W' w' := fun W' => by
        have := Halves_c C hok m hmb i w5' w6' W'
        rw [hnn] at this
        exact this
      go_wp2_with fail
      refine (hHV _).mono ?_
      rintro e w4 ⟨rfl, hx4⟩
      clear hHV
      go_upto_region 9 with (fail)
      have hr4 : Ext wr w4 := by (repeat' (first | exact Ext.refl _ | assumption | apply Ext.allocR | apply Ext.drewR | apply Ext.drewNR | (refine Ext.trans' ?_ (by assumption))))
      have hkh := keys_half (C := C) (m := m) hmb
      have hl5 := (heap_old (w4.alloc (.cells #[.int .i64 m, .int .u64 (2 * i)] 39)) (.cells #[.int .i64 m, .int .u64 (2 * i + 1)] 39) (n := w4.heap.size) (by rw [size_alloc]; omega)).trans (heap_at w4 (.cells #[.int .i64 m, .int .u64 (2 * i)] 39) rfl)
      have hr5 := heap_at (w4.alloc (.cells #[.int .i64 m, .int .u64 (2 * i)] 39)) (.cells #[.int .i64 m, .int .u64 (2 * i + 1)] 39) (n := w4.heap.size + 1) (by rw [size_alloc])
      have hx5 : Ext w4 ((w4.alloc (.cells #[.int .i64 m, .int .u64 (2 * i)] 39)).alloc (.cells #[.int .i64 m, .int .u64 (2 * i + 1)] 39)) := (Ext.alloc' _ _).allocR _
      generalize (w4.alloc (.cells #[.int .i64 m, .int .u64 (2 * i)] 39)).alloc (.cells #[.int .i64 m, .int .u64 (2 * i + 1)] 39) = w5 at *
      have hE5 : Ext wr w5 := hr4.trans' hx5
      have v0 := (cell_of hl5 0).trans rfl
      have v1 := (cell_of hl5 1).trans rfl
      have vl := lt_of hl5
      clear hx4 hx5 hr4 q0 q1 ql
      have hK5 := h.ext (w11'.trans' hE5)
      have ht59 : t < 59 := by omega
      go_wp2_with fail
      refine Calls.mono (KPoint_c s g C B L ls _ hK5 m (by omega) (2 * i) (by omega) (by omega)) ?_
      rintro e w6 ⟨x, rfl, hpt, hx6⟩
      have hxp := HT.out m (2 * i) x (by omega) (by omega) (by omega) hpt
      have hpi := HPI.out m (2 * i)
      have hw4 := w4'
      have hE6 := hE5.trans' hx6
      have hl6 := hx6.keep hl5
      have hr6 := hx6.keep hr5
      have hc6 := hE6.keep hcb
      have hW : WayAtR w B C b pt k t k' wr (m + 1) i dn := ⟨w1', w2', w3', w4', w5', w6', w7', w8', ⟨cur, hcb, hcs⟩, w10', w11'⟩
      subst hxp
      have hn1 := fun (W' : World) (hE' : Ext wr W') (j k2 : Int) hj => way_nextR (j := j) (k2 := k2) hW hE' HB.out hBd hbE hj
      have HN1 := Lib.hid hn1
      obtain ⟨o0, ho0⟩ : ∃ o0, cur[(t + 1) * 2]? = some o0 := ⟨_, Array.getElem?_eq_getElem (by omega)⟩
      obtain ⟨o1, ho1⟩ : ∃ o1, cur[(t + 1) * 2 + 1]? = some o1 := ⟨_, Array.getElem?_eq_getElem (by omega)⟩
      have u0 := (cell_of hc6 ((t + 1) * 2)).trans ho0
      have u1 := (cell_of hc6 ((t + 1) * 2 + 1)).trans ho1
      have g0 := frozen_of hc6 ((t + 1) * 2)
      have g1 := frozen_of hc6 ((t + 1) * 2 + 1)
      have gl := lt_of hc6
      have v0 := (cell_of hl6 0).trans rfl
      have v1 := (cell_of hl6 1).trans rfl
      have vl := lt_of hl6
      have y0 := (cell_of hr6 0).trans rfl
      have y1 := (cell_of hr6 1).trans rfl
      have yl := lt_of hr6
      have HW4 := Lib.hid hw4
      clear hw4 w4' hn1 hW hpt hK5 hl5 hr5 w10' hcb hx6
      generalize hP : pt m (2 * i) = P at *
      by_cases hle : k' ≤ P
      · go_wp2_with fail
        go_roundw
        case rel => exact ⟨t + 1, k', m, 2 * i, dn ++ [(m, 2 * i)], rfl, by go_num, HN1.out _ hE6 _ _ (.inl ⟨rfl, hle, rfl⟩)⟩
        case measure => simp [intOf]; omega
      · have hkI : I64 k' := w8'
        have hM := Minus_c k' P hkI hpi
        by_cases hI : I64 (k' - P)
        rotate_left
        · rw [fitB_no hI] at hM
          have hno : wayFP pt B k = none := by
            rw [HW4.out]
            conv => lhs; unfold wayF
            rw [if_neg (by omega), if_neg (by rw [hP, fitB_no hI]; decide)]
            rfl
          have HNO := Lib.hid hno
          have HM := Lib.hid hM
          clear hM hno hI
          go_wp2_with fail
          refine (HM.out _).mono ?_
          rintro e w7 ⟨rfl, hx7⟩
          have hE7 : Ext w6 w7 := by (repeat' (first | exact Ext.refl _ | assumption | apply Ext.allocR | apply Ext.drewR | apply Ext.drewNR | (refine Ext.trans' ?_ (by assumption))))
          go_wp2
          go_ret2
          exact .inr (.inl ⟨⟨by omega, by omega⟩, HNO.out, rfl, w11'.trans' (hE6.trans' hE7)⟩)
        rw [fitB_yes hI, fitN_yes hI] at hM
        have HII := Lib.hid hI
        clear hI
        have HM := Lib.hid hM
        clear hM
        go_wp2_with fail
        refine (HM.out _).mono ?_
        rintro e w7 ⟨rfl, hx7⟩
        have hE7 : Ext w6 w7 := by (repeat' (first | exact Ext.refl _ | assumption | apply Ext.allocR | apply Ext.drewR | apply Ext.drewNR | (refine Ext.trans' ?_ (by assumption))))
        have hc7 := hE7.keep hc6
        have hr7 := hE7.keep hr6
        clear hx7 u0 u1 g0 g1 gl v0 v1 vl y0 y1 yl
        have u0 := (cell_of hc7 ((t + 1) * 2)).trans ho0
        have u1 := (cell_of hc7 ((t + 1) * 2 + 1)).trans ho1
        have g0 := frozen_of hc7 ((t + 1) * 2)
        have g1 := frozen_of hc7 ((t + 1) * 2 + 1)
        have gl := lt_of hc7
        have y0 := (cell_of hr7 0).trans rfl
        have y1 := (cell_of hr7 1).trans rfl
        have yl := lt_of hr7
        go_wp2_with fail
        go_roundw
        case rel => exact ⟨t + 1, k' - P, m, 2 * i + 1, dn ++ [(m, 2 * i + 1)], rfl, by go_num, HN1.out _ (hE6.trans' hE7) _ _ (.inr ⟨rfl, by omega, HII.out, rfl⟩)⟩
        case measure => simp [intOf]; omega
end Go.Proofs.YtfhdjekpdifajaaGreat
namespace Go.Proofs.YtfhdjekpdifajaaGreat
set_option linter.unusedVariables false
open Go.RowKit
def quanR (pt : Nat → Int → Int) (B : Nat) (T k : Int) : Int × Int := if k < 1 ∨ T < k then (0, 6) else match wayFP pt B k with | none => (0, 4) | some ps => ((ps.getD B (0, 0)).2, 0)
set_option maxRecDepth 20000 in
set_option maxHeartbeats 4000000 in
theorem Quan_of (s : Nat) (B : Nat) (hBd : B ≤ 59) (pt : Nat → Int → Int) (T k : Int) (w : World) (h : ∀ W', Ext w W' → Calls Tryz.prog 91 #[.pointer (some ⟨s, 0, none⟩), .int .i64 k] W' (WayRPost W' B T pt k)) :
    Calls Tryz.prog 33 #[.pointer (some ⟨s, 0, none⟩), .int .i64 k] w fun e w' => e = .returned (.tuple #[.int .u64 (quanR pt B T k).1, .int .i64 (quanR pt B T k).2]) ∧ Ext w w' := by
  have HW := Lib.hid h
  clear h
  go_enter Tryz.func33, Tryz.ntmps33
  go_wp2_with fail
  refine (HW.out _ (by (repeat' (first | exact Ext.refl _ | assumption | apply Ext.allocR | apply Ext.drewR | apply Ext.drewNR | (refine Ext.trans' ?_ (by assumption)))))).mono ?_
  rintro e w1 (⟨hr, rfl, hx⟩ | ⟨hr, hn, rfl, hx⟩ | ⟨hr, ps, v, base, hsm, rfl, hbs, ho, hx⟩)
  · have HQ : Hid (quanR pt B T k = (0, 6)) := Lib.hid (by unfold quanR; rw [if_pos hr])
    clear hr
    go_wp2
    go_ret2
    exact ⟨by rw [HQ.out]; rfl, by (repeat' (first | exact Ext.refl _ | assumption | apply Ext.allocR | apply Ext.drewR | apply Ext.drewNR | (refine Ext.trans' ?_ (by assumption))))⟩
  · have HQ : Hid (quanR pt B T k = (0, 4)) := Lib.hid (by unfold quanR; rw [if_neg (by omega), hn])
    clear hr hn
    go_wp2
    go_ret2
    exact ⟨by rw [HQ.out]; rfl, by (repeat' (first | exact Ext.refl _ | assumption | apply Ext.allocR | apply Ext.drewR | apply Ext.drewNR | (refine Ext.trans' ?_ (by assumption))))⟩
  · have hlen := wayFP_len hsm
    have HQ : Hid (quanR pt B T k = ((ps.getD B (0, 0)).2, 0)) := Lib.hid (by unfold quanR; rw [if_neg (by omega), hsm])
    obtain ⟨g', cap, rfl, hgl, hpc⟩ := own_pieces ho (by omega)
    obtain ⟨_, q1⟩ := hpc B (by omega)
    rw [Nat.zero_add] at q1
    have hE : Ext w w1 := by (repeat' (first | exact Ext.refl _ | assumption | apply Ext.allocR | apply Ext.drewR | apply Ext.drewNR | (refine Ext.trans' ?_ (by assumption))))
    clear ho hpc hx hr hsm
    rw [hlen]
    clear hlen
    go_wp2
    go_ret2
    exact ⟨by rw [HQ.out]; rfl, hE⟩
end Go.Proofs.YtfhdjekpdifajaaGreat
namespace Go.Proofs.YtfhdjekpdifajaaGreat
set_option linter.unusedVariables false
open Go.RowKit
/-- A way, or none. -/
def PAt (w : World) (v : Value) (ps : List (Nat × Int)) : Prop := (v = .slice none 0 0 ∧ ps = []) ∨ (0 < ps.length ∧ ps.length ≤ 60 ∧ ∃ g c, v = .slice (some ⟨g, 0, none⟩) ps.length c ∧ g < w.heap.size ∧ PCells w g 0 ps)
theorem PAt.ext {w w' : World} {v : Value} {ps : List (Nat × Int)} (h : PAt w v ps) (he : Ext w w') : PAt w' v ps :=
  h.imp id (fun ⟨h0, h1, g, c, hv, hg, hp⟩ => ⟨h0, h1, g, c, hv, Nat.lt_of_lt_of_le hg he.size, hp.ext hg he⟩)
section
variable {N : Nat} {w w' : World} {C : Cfg} {B s r : Nat} {ls : Nat → List Int}
end
end Go.Proofs.YtfhdjekpdifajaaGreat
namespace Go.Proofs.YtfhdjekpdifajaaGreat
set_option linter.unusedVariables false
open Go.RowKit
abbrev Opn := Int × Int × Int
def OpsAt (w : World) (v : Value) (os : List Opn) : Prop :=
  ((∃ p, v = .slice p 0 0) ∧ os = []) ∨ ∃ g off cap, v = .slice (some ⟨g, off, none⟩) os.length cap ∧ g < w.heap.size ∧
    ∀ k, k < os.length → w.cell? ⟨g, off + k * 3, none⟩ = some (.int .i64 (os.getD k (0, 0, 0)).1) ∧ w.cell? ⟨g, off + k * 3 + 1, none⟩ = some (.int .u64 (os.getD k (0, 0, 0)).2.1) ∧ w.cell? ⟨g, off + k * 3 + 2, none⟩ = some (.int .i64 (os.getD k (0, 0, 0)).2.2)
theorem OpsAt.ext {w w' : World} {v : Value} {os : List Opn} (h : OpsAt w v os) (he : Ext w w') : OpsAt w' v os := by
  rcases h with h | ⟨g, off, cap, h1, h2, h3⟩
  · exact .inl h
  · exact .inr ⟨g, off, cap, h1, Nat.lt_of_lt_of_le h2 he.size, fun k hk => ⟨((bcell he).1 _ _ h2).trans (h3 k hk).1, ((bcell he).1 _ _ h2).trans (h3 k hk).2.1, ((bcell he).1 _ _ h2).trans (h3 k hk).2.2⟩⟩
theorem OpsAt.sl {w : World} {v : Value} {os : List Opn} (h : OpsAt w v os) : ∃ p c, v = .slice p os.length c := by
  rcases h with ⟨⟨p, rfl⟩, rfl⟩ | ⟨g, off, cap, rfl, _⟩
  · exact ⟨p, 0, rfl⟩
  · exact ⟨_, cap, rfl⟩
theorem OpsAt.one {w : World} {p : Option Addr} {n c : Nat} {os : List Opn} (h : OpsAt w (.slice p n c) os) {k : Nat} (hk : k < os.length) :
    ∃ g off, p = some ⟨g, off, none⟩ ∧ g < w.heap.size ∧ w.cell? ⟨g, off + k * 3, none⟩ = some (.int .i64 os[k].1) ∧ w.cell? ⟨g, off + k * 3 + 1, none⟩ = some (.int .u64 os[k].2.1) ∧ w.cell? ⟨g, off + k * 3 + 2, none⟩ = some (.int .i64 os[k].2.2) := by
  rcases h with ⟨_, rfl⟩ | ⟨g, off, cap, h1, h2, h3⟩
  · exact absurd hk (Nat.not_lt_zero _)
  · have e := Value.slice.inj h1
    have hg : os.getD k (0, 0, 0) = os[k] := by simp [hk]
    have := h3 k hk
    rw [hg] at this
    exact ⟨g, off, e.1, h2, this⟩
end Go.Proofs.YtfhdjekpdifajaaGreat
namespace Go.Proofs.YtfhdjekpdifajaaGreat
set_option linter.unusedVariables false
open Go.RowKit
section
variable {P : Program}
/-- 's = append(s, ..)', the new ones in a block that was laid just now. -/
theorem wpList_appK (W : World) {ops : Array Oper} {rest : List Oper} {o : Oper} {a : Act} {Q : Exit → Act → World → Prop} (size by_ m : Nat) (hsz : 0 < size) (hby : by_ ≤ 64) (news : List Value) (hnl : news.length = m * size) (h1 : ∀ u ∈ news, u.oneCell' = true)
    (xs : List Value) (n : Nat) (v : Value) (base : Nat) (e e' : TypeId) (hown : W.ownsRow base e size v n xs) (t : TypeId)
    (hgd : o.guard = none) (s y : Operand) (ho : o.op = .call { callee := .builtin .append, args := #[s, y], argTypes := #[t, t] })
    (hinfo : ∃ i z, P.info? e = some i ∧ i.zero = some z ∧ i.size = size ∧ i.bytes = by_ ∧ z.cells.size = size) (ht : P.underlying t = some (.slice e))
    (cells : Array Value) (hcl : cells.toList = news)
    (hs : a.eval s = v) (hx : a.eval y = .slice (some ⟨W.heap.size, 0, none⟩) m m)
    (hl : n + m ≤ 1000000000) (hbase : base ≤ W.heap.size)
    (h : ∀ v' w', w'.ownsRow base e size v' (n + m) (xs ++ news) → (W.alloc (.cells cells e')).grownBy w' v.ownBlock → (v'.ownBlock = v.ownBlock ∨ v'.ownBlock = some (W.heap.size + 1)) → wpList P ops Q rest (a.put o.dst v') w') :
    wpList P ops Q (o :: rest) a (W.alloc (.cells cells e')) := by
  obtain ⟨i0, z, hi, hz0, hz1, hz2, hz3⟩ := hinfo
  refine wpList_append_sep _ hgd s y t ho base e i0 z size by_ ht hi hz0 hz1 hz2 hz3 hsz v n xs hs (hown.alloc _) ⟨W.heap.size, 0, none⟩ m m news hx hnl ?_ h1 (by unfold maxLen; omega) ?_ (by rw [size_alloc]; omega) ?_
  · intro j u hu
    rw [show (⟨W.heap.size, 0, none⟩ : Addr).add j = ⟨W.heap.size, j, none⟩ by (simp [Addr.add]; try omega), cell_of (heap_at W _ rfl) j, ← Array.getElem?_toList, hcl]
    exact hu
  · have h2 : (n + m) * by_ ≤ 1000000000 * 64 := Nat.mul_le_mul hl hby
    omega
  · intro v' w' h1 h2 h3
    rw [size_alloc] at h3
    exact h v' w' h1 h2 h3
end
theorem own_grownT {W W' : World} {bA bB nA nB sA sB : Nat} {eA eB : TypeId} {vA vB : Value} {xA xB : List Value} (hA : W.ownsRow bA eA sA vA nA xA) (hB : W.ownsRow bB eB sB vB nB xB) (hne : eA ≠ eB) (hg : W.grownBy W' vB.ownBlock) : W'.ownsRow bA eA sA vA nA xA :=
  own_keepB hA fun k hk => hg.block k (own_lt hA hk) fun e => by
    obtain ⟨c1, h1⟩ := own_type hA hk
    obtain ⟨c2, h2⟩ := own_type hB e.symm
    rw [h1] at h2
    cases h2
    exact hne rfl
/-- A row that was there before another one's base. -/
theorem own_grownL {W W' : World} {bA bB nA nB sA sB : Nat} {eA eB : TypeId} {vA vB : Value} {xA xB : List Value} (hA : W.ownsRow bA eA sA vA nA xA) (hB : W.ownsRow bB eB sB vB nB xB) (hlt : ∀ k, vA.ownBlock = some k → k < bB) (hg : W.grownBy W' vB.ownBlock) : W'.ownsRow bA eA sA vA nA xA :=
  own_keepB hA fun k hk => hg.block k (own_lt hA hk) fun e => by
    have h1 := hlt k hk
    rcases hB.2 with ⟨rfl, _⟩ | ⟨g, cap, cur, rfl, hb, _⟩
    · cases e
    · have : k = g := Option.some.inj e
      omega
theorem own_bmono {w : World} {base base' n size : Nat} {e : TypeId} {v : Value} {xs : List Value} (h : w.ownsRow base e size v n xs) (hb : base' ≤ base) : w.ownsRow base' e size v n xs := by
  obtain ⟨h1, h2⟩ := h
  refine ⟨h1, ?_⟩
  rcases h2 with h2 | ⟨g, cap, cur, h3, h4, h5⟩
  · exact .inl h2
  · exact .inr ⟨g, cap, cur, h3, Nat.le_trans hb h4, h5⟩
theorem own_geB {w : World} {base n size : Nat} {e : TypeId} {v : Value} {xs : List Value} (h : w.ownsRow base e size v n xs) {k : Nat} (hk : v.ownBlock = some k) : base ≤ k := by
  rcases h.2 with ⟨rfl, _⟩ | ⟨g, cap, cur, rfl, hb, _⟩
  · cases hk
  · have : g = k := Option.some.inj hk
    omega
/-- What is laid in one piece is a row. -/
theorem own_newK (w : World) (base : Nat) (hb : base ≤ w.heap.size) (e : TypeId) (size n : Nat) (cells : Array Value) (hn : n ≤ maxLen) (hc : cells.size = n * size) : (w.alloc (.cells cells e)).ownsRow base e size (.slice (some ⟨w.heap.size, 0, none⟩) n n) n cells.toList := by
  refine ⟨by rw [Array.length_toList]; exact hc, .inr ⟨w.heap.size, n, cells, rfl, hb, heap_at w _ rfl, Nat.le_refl _, hn, hc, ?_⟩⟩
  rw [← hc, ← Array.length_toList, List.take_length]
theorem own_row_cells {w : World} {base n size : Nat} {e : TypeId} {v : Value} {xs : List Value} (h : w.ownsRow base e size v n xs) (hn : 0 < n) : ∃ g cap, v = .slice (some ⟨g, 0, none⟩) n cap ∧ base ≤ g ∧ g < w.heap.size ∧ ∀ j, j < n * size → w.cell? ⟨g, j, none⟩ = xs[j]? := by
  rcases h.2 with ⟨_, h0⟩ | ⟨g, cap, cur, rfl, hb, hh, hc, hm, hs, ht⟩
  · omega
  · refine ⟨g, cap, rfl, hb, lt_of hh, fun j hj => ?_⟩
    rw [cell_of hh, ← ht, List.getElem?_take_of_lt hj, Array.getElem?_toList]
end Go.Proofs.YtfhdjekpdifajaaGreat
namespace Go.Proofs.YtfhdjekpdifajaaGreat
set_option linter.unusedVariables false
open Go.RowKit
/-- A piece that was found: its level, its number, and what is told of it. -/
abbrev Fd := Nat × Int × Int
def fdV (fs : List Fd) : List Value := fs.flatMap fun f => [.int .i64 (f.1 : Int), .int .u64 f.2.1, .int .i64 f.2.2]
theorem fdV_append (a b : List Fd) : fdV (a ++ b) = fdV a ++ fdV b := by unfold fdV; rw [List.flatMap_append]
theorem fdV_len (fs : List Fd) : (fdV fs).length = fs.length * 3 := by
  induction fs with
  | nil => rfl
  | cons u fs ih =>
    have : fdV (u :: fs) = .int .i64 (u.1 : Int) :: .int .u64 u.2.1 :: .int .i64 u.2.2 :: fdV fs := rfl
    rw [this]
    simp only [List.length_cons, ih]
    omega
theorem fdV_at {fs : List Fd} : ∀ {k : Nat} (h : k < fs.length), (fdV fs)[k * 3]? = some (.int .i64 ((fs.getD k (0, 0, 0)).1 : Int)) ∧ (fdV fs)[k * 3 + 1]? = some (.int .u64 (fs.getD k (0, 0, 0)).2.1) ∧ (fdV fs)[k * 3 + 2]? = some (.int .i64 (fs.getD k (0, 0, 0)).2.2) := by
  induction fs with
  | nil => intro k h; simp at h
  | cons u fs ih =>
    intro k h
    have e : fdV (u :: fs) = .int .i64 (u.1 : Int) :: .int .u64 u.2.1 :: .int .i64 u.2.2 :: fdV fs := rfl
    rw [e]
    cases k with
    | zero => exact ⟨rfl, rfl, rfl⟩
    | succ k =>
      have := ih (k := k) (by simpa using h)
      rw [show (k + 1) * 3 = k * 3 + 1 + 1 + 1 by omega]
      simp only [List.getElem?_cons_succ, List.getD_cons_succ]
      exact this
/-- A row of pieces of one level. -/
def lvl (n : Nat) (row : List Int) : List (Nat × Int) := row.map fun i => (n, i)
def hvF (pt : Nat → Int → Int) (least : Int) (n : Nat) (row : List Int) : List Fd := (row.filter fun i => decide (least ≤ pt n i)).map fun i => (n, i, pt n i)
def hvN (pt : Nat → Int → Int) (least : Int) (n : Nat) (row : List Int) : List Int := if n = 0 then [] else (row.filter fun i => decide (least ≤ pt n i)).flatMap fun i => [2 * i, 2 * i + 1]
/-- As many levels are left; how many were asked; what is to be asked; what was found. -/
def hvGo (pt : Nat → Int → Int) (least budget : Int) : Nat → Int → List Int → List Fd → Option (List Fd)
  | 0, _, _, out => some out
  | n + 1, asked, row, out => if budget < asked + row.length then none else hvGo pt least budget n (asked + row.length) (hvN pt least n row) (out ++ hvF pt least n row)
def heavyP (pt : Nat → Int → Int) (least budget : Int) (B : Nat) : List Fd × Int :=
  if least < 1 ∨ 4096 < budget then ([], 1) else
  match hvGo pt least budget (B + 1) 0 [0] [] with
  | none => ([], 7)
  | some l => (l, 0)
theorem hvF_snoc_yes {pt : Nat → Int → Int} {least : Int} {n : Nat} {row : List Int} {i : Int} (h : least ≤ pt n i) : hvF pt least n (row ++ [i]) = hvF pt least n row ++ [(n, i, pt n i)] := by
  unfold hvF; rw [List.filter_append, List.map_append]; simp [h]
theorem hvF_snoc_no {pt : Nat → Int → Int} {least : Int} {n : Nat} {row : List Int} {i : Int} (h : pt n i < least) : hvF pt least n (row ++ [i]) = hvF pt least n row := by
  unfold hvF; rw [List.filter_append, List.map_append]; simp; omega
theorem hvN_snoc_yes {pt : Nat → Int → Int} {least : Int} {n : Nat} {row : List Int} {i : Int} (h : least ≤ pt (n + 1) i) : hvN pt least (n + 1) (row ++ [i]) = hvN pt least (n + 1) row ++ [2 * i, 2 * i + 1] := by
  unfold hvN; rw [if_neg (by omega), if_neg (by omega), List.filter_append, List.flatMap_append]; simp [h]
theorem hvN_snoc_no {pt : Nat → Int → Int} {least : Int} {n : Nat} {row : List Int} {i : Int} (h : pt n i < least) : hvN pt least n (row ++ [i]) = hvN pt least n row := by
  unfold hvN
  by_cases h0 : n = 0
  · rw [if_pos h0, if_pos h0]
  · rw [if_neg h0, if_neg h0, List.filter_append, List.flatMap_append]; simp; omega
theorem hvF_len (pt : Nat → Int → Int) (least : Int) (n : Nat) (row : List Int) : (hvF pt least n row).length ≤ row.length := by
  unfold hvF; rw [List.length_map]; exact List.length_filter_le _ _
theorem hvN_len (pt : Nat → Int → Int) (least : Int) (n : Nat) (row : List Int) : (hvN pt least n row).length ≤ 2 * row.length := by
  unfold hvN
  split
  · simp
  · have h := List.length_filter_le (fun i => decide (least ≤ pt n i)) row
    have h2 : ∀ l : List Int, (l.flatMap fun i => [2 * i, 2 * i + 1]).length = 2 * l.length := by
      intro l
      induction l with
      | nil => rfl
      | cons a l ih => rw [List.flatMap_cons, List.length_append, ih]; simp; omega
    rw [h2]; omega
theorem hvN_mem {pt : Nat → Int → Int} {least : Int} {n : Nat} {row : List Int} {j : Int} (h : j ∈ hvN pt least (n + 1) row) : ∃ i ∈ row, least ≤ pt (n + 1) i ∧ (j = 2 * i ∨ j = 2 * i + 1) := by
  unfold hvN at h
  rw [if_neg (by omega), List.mem_flatMap] at h
  obtain ⟨i, hi, hj⟩ := h
  rw [List.mem_filter] at hi
  exact ⟨i, hi.1, by simpa using hi.2, by simpa using hj⟩
theorem lvl_len (n : Nat) (row : List Int) : (lvl n row).length = row.length := by unfold lvl; rw [List.length_map]
theorem pcV_lvl_append (n : Nat) (a b : List Int) : pcV (lvl n (a ++ b)) = pcV (lvl n a) ++ pcV (lvl n b) := by
  unfold pcV lvl; rw [List.map_append, List.flatMap_append]
theorem pcV_lvl {n : Nat} {row : List Int} {k : Nat} (h : k < row.length) : (pcV (lvl n row))[k * 2]? = some (.int .i64 n) ∧ (pcV (lvl n row))[k * 2 + 1]? = some (.int .u64 row[k]) := by
  have h1 := pcV_at (ps := lvl n row) (k := k) (by rw [lvl_len]; exact h)
  have h2 : (lvl n row).getD k (0, 0) = (n, row[k]) := by unfold lvl; simp [List.getD, h]
  rw [h2] at h1
  exact h1
theorem take_snocH {row : List Int} {k : Nat} (h : k < row.length) : row.take (k + 1) = row.take k ++ [row[k]] := by
  rw [List.take_add_one, List.getElem?_eq_getElem h]; rfl
end Go.Proofs.YtfhdjekpdifajaaGreat
namespace Go.Proofs.YtfhdjekpdifajaaGreat
set_option linter.unusedVariables false
open Go.RowKit
set_option maxRecDepth 20000 in
set_option maxHeartbeats 2000000 in
theorem Halves_0 (C : Cfg) (h : C.Ok) (j : Int) (hj0 : 0 ≤ j) (hj1 : j < keys C (0 : Nat)) (w : World) :
    Calls Tryz.prog 145 #[.int .i64 C.bits, .agg #[.int .i64 0, .int .u64 j]] w fun e w' => e = .returned (.tuple #[.agg #[.int .i64 0, .int .u64 0], .agg #[.int .i64 0, .int .u64 0], .bool false]) ∧ Ext w w' := by
  have b1 := h.b1
  have b2 := h.b2
  go_enter Tryz.func145, Tryz.ntmps145
  go_wp2_with fail
  refine (is_c C h 0 (by omega) j hj0 hj1 _).mono ?_
  rintro e w1 ⟨rfl, hb⟩
  have hE : Ext w w1 := by (repeat' (first | exact Ext.refl _ | assumption | apply Ext.allocR | apply Ext.drewR | apply Ext.drewNR | (refine Ext.trans' ?_ (by assumption))))
  have hbx : w1.heap[w.heap.size]? = some (.cells #[.int .i64 0, .int .u64 j] 39 (0, 0)) := by
    rw [hb.block _ (by simp only [size_alloc]; omega), heap_old _ _ (by simp only [size_alloc]; omega), heap_old _ _ (by rw [size_alloc]; omega)]
    exact heap_at _ _ rfl
  have hbl : w1.heap[w.heap.size + 1]? = some (.cells #[.int .i64 0, .int .u64 0] 39 (0, 0)) := by
    rw [hb.block _ (by simp only [size_alloc]; omega), heap_old _ _ (by simp only [size_alloc]; omega)]
    exact heap_at _ _ (by rw [size_alloc])
  have hbr : w1.heap[w.heap.size + 2]? = some (.cells #[.int .i64 0, .int .u64 0] 39 (0, 0)) := by
    rw [hb.block _ (by simp only [size_alloc]; omega)]
    exact heap_at _ _ (by simp only [size_alloc])
  have c0 := (cell_of hbx 0).trans rfl
  have c1 := (cell_of hbx 1).trans rfl
  have cl := lt_of hbx
  have l0 := (cell_of hbl 0).trans rfl
  have l1 := (cell_of hbl 1).trans rfl
  have ll := lt_of hbl
  have r0 := (cell_of hbr 0).trans rfl
  have r1 := (cell_of hbr 1).trans rfl
  have rl := lt_of hbr
  have fl0 := frozen_of hbl 0
  have fl1 := frozen_of hbl 1
  have fr0 := frozen_of hbr 0
  have fr1 := frozen_of hbr 1
  clear hb
  go_wp2
  have hEf : Ext w ((((w1.setCell ⟨w.heap.size + 1, 0, none⟩ (.int .i64 0)).setCell ⟨w.heap.size + 1, 1, none⟩ (.int .u64 0)).setCell ⟨w.heap.size + 1 + 1, 0, none⟩ (.int .i64 0)).setCell ⟨w.heap.size + 1 + 1, 1, none⟩ (.int .u64 0)) :=
    (((hE.setR (p := ⟨w.heap.size + 1, 0, none⟩) (by show w.heap.size ≤ w.heap.size + 1; omega) _).setR (p := ⟨w.heap.size + 1, 1, none⟩) (by show w.heap.size ≤ w.heap.size + 1; omega) _).setR (p := ⟨w.heap.size + 1 + 1, 0, none⟩) (by show w.heap.size ≤ w.heap.size + 1 + 1; omega) _).setR (p := ⟨w.heap.size + 1 + 1, 1, none⟩) (by show w.heap.size ≤ w.heap.size + 1 + 1; omega) _
  have e1 : ((((w1.setCell ⟨w.heap.size + 1, 0, none⟩ (.int .i64 0)).setCell ⟨w.heap.size + 1, 1, none⟩ (.int .u64 0)).setCell ⟨w.heap.size + 1 + 1, 0, none⟩ (.int .i64 0)).setCell ⟨w.heap.size + 1 + 1, 1, none⟩ (.int .u64 0)).heap[w.heap.size + 1]? = some (.cells #[.int .i64 0, .int .u64 0] 39 (0, 0)) := by
    rw [setCell_other _ _ (by omega), setCell_other _ _ (by omega)]
    exact set2 hbl _ _
  have e2 : ((((w1.setCell ⟨w.heap.size + 1, 0, none⟩ (.int .i64 0)).setCell ⟨w.heap.size + 1, 1, none⟩ (.int .u64 0)).setCell ⟨w.heap.size + 1 + 1, 0, none⟩ (.int .i64 0)).setCell ⟨w.heap.size + 1 + 1, 1, none⟩ (.int .u64 0)).heap[w.heap.size + 1 + 1]? = some (.cells #[.int .i64 0, .int .u64 0] 39 (0, 0)) :=
    set2 (by rw [setCell_other _ _ (by omega), setCell_other _ _ (by omega)]; exact hbr) _ _
  generalize (((w1.setCell ⟨w.heap.size + 1, 0, none⟩ (.int .i64 0)).setCell ⟨w.heap.size + 1, 1, none⟩ (.int .u64 0)).setCell ⟨w.heap.size + 1 + 1, 0, none⟩ (.int .i64 0)).setCell ⟨w.heap.size + 1 + 1, 1, none⟩ (.int .u64 0) = Wf at *
  have r0 := (cell_of e1 0).trans rfl
  have r1 := (cell_of e1 1).trans rfl
  have r2 := (cell_of e2 0).trans rfl
  have r3 := (cell_of e2 1).trans rfl
  exact bodyPost_ret (v := .tuple #[.agg #[.int .i64 0, .int .u64 0], .agg #[.int .i64 0, .int .u64 0], .bool false]) (by simp [results, Tryz.results145, go_sem, r0, r1, r2, r3]) rfl ⟨rfl, hEf⟩
/-- At any level: whether there are halves, and which. -/
theorem HalvesAny_c (C : Cfg) (h : C.Ok) (n : Nat) (hn : (n : Int) ≤ C.bits) (j : Int) (hj0 : 0 ≤ j) (hj1 : j < keys C n) (w : World) :
    Calls Tryz.prog 145 #[.int .i64 C.bits, .agg #[.int .i64 n, .int .u64 j]] w fun e w' => ∃ x u v : Int, e = .returned (.tuple #[.agg #[.int .i64 x, .int .u64 u], .agg #[.int .i64 x, .int .u64 v], .bool (decide (0 < n))]) ∧ (∀ m : Nat, n = m + 1 → x = m ∧ u = 2 * j ∧ v = 2 * j + 1) ∧ Ext w w' := by
  match n, hn, hj1 with
  | 0, hn, hj1 =>
    refine (Halves_0 C h j hj0 hj1 w).mono ?_
    rintro e w' ⟨rfl, hE⟩
    exact ⟨0, 0, 0, rfl, fun m hm => by omega, hE⟩
  | m + 1, hn, hj1 =>
    refine (Halves_c C h m hn j hj0 hj1 w).mono ?_
    rintro e w' ⟨rfl, hE⟩
    refine ⟨m, 2 * j, 2 * j + 1, by simp, fun m' hm => ?_, hE⟩
    obtain rfl : m = m' := by omega
    exact ⟨rfl, rfl, rfl⟩
end Go.Proofs.YtfhdjekpdifajaaGreat
namespace Go.Proofs.YtfhdjekpdifajaaGreat
set_option linter.unusedVariables false
open Go.RowKit
theorem info_fd : ∃ i z, Tryz.prog.info? 130 = some i ∧ i.zero = some z ∧ i.size = 3 ∧ i.bytes = 24 ∧ z.cells.size = 3 := by
  have h : (Tryz.prog.info? 130).map (fun i => (i.zero, i.size, i.bytes)) = some (some (.agg #[.int .i64 0, .int .u64 0, .int .i64 0]), 3, 24) := by kernel_rfl
  match hi : Tryz.prog.info? 130, h with
  | some i, h =>
    simp only [Option.map_some, Option.some.injEq, Prod.mk.injEq] at h
    exact ⟨i, _, rfl, h.1, h.2.1, h.2.2, rfl⟩
def hvRes (o : Option (List Fd)) : List Fd × Int := match o with | none => ([], 7) | some l => (l, 0)
theorem heavyP_bad {pt : Nat → Int → Int} {least budget : Int} {B : Nat} (h : least < 1 ∨ 4096 < budget) : heavyP pt least budget B = ([], 1) := by unfold heavyP; rw [if_pos h]
theorem heavyP_go {pt : Nat → Int → Int} {least budget : Int} {B : Nat} (h1 : 1 ≤ least) (h2 : budget ≤ 4096) : heavyP pt least budget B = hvRes (hvGo pt least budget (B + 1) 0 [0] []) := by
  unfold heavyP hvRes
  rw [if_neg (by omega)] <;> cases hvGo pt least budget (B + 1) 0 [0] [] <;> rfl
theorem hvGo_no {pt : Nat → Int → Int} {least budget : Int} {n : Nat} {asked : Int} {row : List Int} {out : List Fd} (h : budget < asked + row.length) : hvGo pt least budget (n + 1) asked row out = none := by
  show (if _ then _ else _) = _
  rw [if_pos h]
theorem hvGo_yes {pt : Nat → Int → Int} {least budget : Int} {n : Nat} {asked : Int} {row : List Int} {out : List Fd} (h : asked + row.length ≤ budget) : hvGo pt least budget (n + 1) asked row out = hvGo pt least budget n (asked + row.length) (hvN pt least n row) (out ++ hvF pt least n row) := by
  conv => lhs; unfold hvGo
  rw [if_neg (by omega)]
def HeavyPost (w : World) (B : Nat) (pt : Nat → Int → Int) (least budget : Int) (e : Ending) (w' : World) : Prop :=
  ∃ v, e = .returned (.tuple #[v, .int .i64 (heavyP pt least budget B).2]) ∧ w'.ownsRow w.heap.size 130 3 v (heavyP pt least budget B).1.length (fdV (heavyP pt least budget B).1) ∧ Ext w w'
set_option maxRecDepth 20000 in
set_option maxHeartbeats 8000000 in
theorem Heavy_c (s g : Nat) (C : Cfg) (B : Nat) (L : Nat → Lev) (ls : Nat → List Int) (w : World) (h : KAt w s g C B L ls) (pt : Nat → Int → Int) (hU : Uniq C B ls pt) (least budget : Int) :
    Calls Tryz.prog 83 #[.pointer (some ⟨s, 0, none⟩), .int .i64 least, .int .i64 budget] w (HeavyPost w B pt least budget) := by
  by_cases h1 : least < 1
  · go_enter Tryz.func83, Tryz.ntmps83
    go_wp2
    go_ret2
    refine ⟨.slice none 0 0, ?_, ?_, Ext.refl _⟩
    · rw [heavyP_bad (.inl h1)]; rfl
    · rw [heavyP_bad (.inl h1)]; exact ⟨rfl, .inl ⟨rfl, rfl⟩⟩
  by_cases h2 : 4096 < budget
  · go_enter Tryz.func83, Tryz.ntmps83
    go_wp2
    go_ret2
    refine ⟨.slice none 0 0, ?_, ?_, Ext.refl _⟩
    · rw [heavyP_bad (.inr h2)]; rfl
    · rw [heavyP_bad (.inr h2)]; exact ⟨rfl, .inl ⟨rfl, rfl⟩⟩
  have hP := heavyP_go (pt := pt) (B := B) (show 1 ≤ least by omega) (show budget ≤ 4096 by omega)
  have HP := Lib.hid hP
  have hB := h.hB
  have hok := h.ok
  have hBd : B ≤ 59 := by have := hok.b2; omega
  have HB := Lib.hid hB
  have HH := Lib.hid h
  have HU := Lib.hid hU
  have HOK := Lib.hid hok
  clear hP hB h hU hok
  go_enter Tryz.func83, Tryz.ntmps83
  go_wp2_with fail
  refine (SKConfig_c s g C B L ls _ HH.out).mono ?_
  rintro e w1 ⟨rfl, hx1⟩
  rw [HB.out]
  have hE1 := hx1
  clear hx1
  have hsz1 := hE1.size
  have hr1 : (w1.alloc (.cells #[.int .i64 (B : Nat), .int .u64 0] 39)).ownsRow w.heap.size 39 2 (.slice (some ⟨w1.heap.size, 0, none⟩) 1 1) 1 (pcV (lvl B [0])) := own_newK w1 w.heap.size hsz1 39 2 1 _ (by decide) rfl
  have hE2 : Ext w (w1.alloc (.cells #[.int .i64 (B : Nat), .int .u64 0] 39)) := hE1.allocR _
  have HR1 := Lib.hid hr1
  have HE2 := Lib.hid hE2
  clear hr1 hE2 hE1
  go_wp2_with fail
  generalize w1.alloc (.cells #[.int .i64 (B : Nat), .int .u64 0] 39) = wq at *
  go_loopw [9, 10, 11, 34] (fun u9 u10 u11 u34 wr => ∃ (r m : Nat) (asked : Int) (row : List Int) (out : List Fd), r + m = B + 1 ∧ u34 = .int .i64 r ∧ u9 = .int .i64 asked ∧ 0 ≤ asked ∧ asked ≤ 4096 ∧ (out.length : Int) ≤ asked ∧ row.length ≤ 8192 ∧ (∀ i ∈ row, 0 ≤ i ∧ i < keys C (m - 1 : Nat)) ∧ hvGo pt least budget (B + 1) 0 [0] [] = hvGo pt least budget m asked row out ∧ wr.ownsRow w.heap.size 130 3 u10 out.length (fdV out) ∧ wr.ownsRow w.heap.size 39 2 u11 row.length (pcV (lvl (m - 1) row)) ∧ Ext w wr) (fun _ _ _ u34 _ => B + 1 - (intOf u34).toNat)
  case atStart => exact ⟨0, B + 1, 0, [0], [], by omega, rfl, rfl, by omega, by omega, by simp, by simp, by
    intro i hi
    have : i = 0 := by simpa using hi
    subst this
    rw [show B + 1 - 1 = B by omega, keys_top HB.out]; decide, rfl, ⟨rfl, .inl ⟨rfl, rfl⟩⟩, HR1.out, HE2.out⟩
  case round =>
    clear HR1 HE2
    obtain ⟨r, m, asked, row, out, hrm, rfl, rfl, ha0, ha1, hol, hrl, hmem, hgo, howo, howr, hE⟩ := hrel
    obtain ⟨po, co, rfl⟩ := own_sl howo
    obtain ⟨pr, cr, rfl⟩ := own_sl howr
    have HO := Lib.hid howo
    have HR := Lib.hid howr
    have HGO := Lib.hid hgo
    have HM := Lib.hid hmem
    clear howo howr hgo hmem
    by_cases hlt : r < B + 1
    · obtain ⟨n, rfl⟩ : ∃ n, m = n + 1 := ⟨m - 1, by omega⟩
      rw [Nat.add_sub_cancel] at HR HM
      by_cases hbg : budget < asked + row.length
      · have hres : heavyP pt least budget B = ([], 7) := by rw [HP.out, HGO.out, hvGo_no hbg]; rfl
        have HRES := Lib.hid hres
        clear hres
        go_wp2
        go_ret2
        refine ⟨.slice none 0 0, ?_, ?_, hE⟩
        · rw [HRES.out]; rfl
        · rw [HRES.out]; exact ⟨rfl, .inl ⟨rfl, rfl⟩⟩
      · have hgo2 := HGO.out.trans (hvGo_yes (by omega))
        have HGO2 := Lib.hid hgo2
        clear hgo2 HGO
        obtain ⟨b1, hb1⟩ : ∃ b, b = wr.heap.size := ⟨_, rfl⟩
        have HBW := Lib.hid (show w.heap.size ≤ b1 by rw [hb1]; exact hE.size)
        go_wp2_with fail
        go_loopw [10, 12, 45] (fun u10 u12 u45 wi => ∃ k, k ≤ row.length ∧ u45 = .int .i64 k ∧ wi.ownsRow w.heap.size 130 3 u10 (out ++ hvF pt least n (row.take k)).length (fdV (out ++ hvF pt least n (row.take k))) ∧ wi.ownsRow b1 39 2 u12 (hvN pt least n (row.take k)).length (pcV (lvl (n - 1) (hvN pt least n (row.take k)))) ∧ wi.ownsRow w.heap.size 39 2 (.slice pr row.length cr) row.length (pcV (lvl n row)) ∧ (∀ j, (Value.slice pr row.length cr).ownBlock = some j → j < b1) ∧ Ext w wi ∧ b1 ≤ wi.heap.size) (fun _ _ u45 _ => row.length - (intOf u45).toNat)
        case atStart => exact ⟨0, Nat.zero_le _, rfl, by simpa [hvF] using HO.out, by simp [hvN]; exact ⟨rfl, .inl ⟨rfl, rfl⟩⟩, HR.out, fun j hj => by rw [hb1]; exact own_lt HR.out hj, hE, by omega⟩
        case round =>
          clear HO HR
          obtain ⟨k, hk, rfl, ho, hx, hr, hjl, hEi, hsi⟩ := hrel
          obtain ⟨po2, co2, rfl⟩ := own_sl ho
          obtain ⟨px, cx, rfl⟩ := own_sl hx
          by_cases hkl : k < row.length
          · obtain ⟨gr, cr', hv, hbr, hgl, hcell⟩ := own_row_cells hr (by omega)
            cases hv
            have hcs := pcV_lvl (n := n) hkl
            have c0 := (hcell (k * 2) (by omega)).trans hcs.1
            have c1 := (hcell (k * 2 + 1) (by omega)).trans hcs.2
            have hts := take_snocH hkl
            have hi := HM.out row[k] (List.getElem_mem hkl)
            have htl : (row.take k).length = k := by rw [List.length_take]; omega
            have HTS := Lib.hid hts
            have HTL := Lib.hid htl
            have HX := Lib.hid hx
            have HO := Lib.hid ho
            have HR := Lib.hid hr
            have HJL := Lib.hid hjl
            clear hts htl hx ho hr hcell hcs hjl hb1
            generalize row[k] = i at *
            generalize row.take k = pre at *
            generalize hlo : (out ++ hvF pt least n pre).length = lo at *
            generalize hlx : (hvN pt least n pre).length = lx at *
            have HLO := Lib.hid hlo
            have HLX := Lib.hid hlx
            clear hlo hlx
            go_wp2_with fail
            have hEq : Ext w (wr.alloc (.cells #[.int .i64 n, .int .u64 i] 39)) := hEi.allocR _
            have hnB : n ≤ B := by omega
            refine Calls.mono (KPoint_c s g C B L ls _ (HH.out.ext hEq) n hnB i hi.1 hi.2) ?_
            rintro e w3 ⟨x, rfl, hp, hx3⟩
            obtain rfl : x = pt n i := HU.out n i x hnB hi.1 hi.2 hp
            have hbp : w3.heap[wr.heap.size]? = some (.cells #[.int .i64 n, .int .u64 i] 39 (0, 0)) := hx3.keep (heap_at _ _ rfl)
            have HO3 := Lib.hid (own_ext (HO.out.alloc (.cells #[.int .i64 n, .int .u64 i] 39)) hx3)
            have HX3 := Lib.hid (own_ext (HX.out.alloc (.cells #[.int .i64 n, .int .u64 i] 39)) hx3)
            have HR3 := Lib.hid (own_ext (HR.out.alloc (.cells #[.int .i64 n, .int .u64 i] 39)) hx3)
            have hE3 := hEq.trans' hx3
            have hs3 := hx3.size
            rw [size_alloc] at hs3
            clear hx3 hp hEq HO HX HR
            by_cases hle : pt n i < least
            · go_wp2
              go_roundw
              case rel => exact ⟨k + 1, by omega, by go_num, by rw [HTS.out, hvF_snoc_no hle, HLO.out]; exact HO3.out, by rw [HTS.out, hvN_snoc_no hle, HLX.out]; exact HX3.out, HR3.out, HJL.out, hE3, by omega⟩
              case measure => simp [intOf]; omega
            · have hF := hvF_snoc_yes (pt := pt) (least := least) (n := n) (row := pre) (i := i) (by omega)
              have HF := Lib.hid hF
              have hln : lo ≤ 9000 := by
                have := hvF_len pt least n pre
                have := HTL.out
                rw [← HLO.out, List.length_append]
                omega
              have c0 := (cell_of hbp 0).trans rfl
              have c1 := (cell_of hbp 1).trans rfl
              have cl := lt_of hbp
              clear hF
              have hs1 := hE3.size
              go_wp2_with (at_builtin; refine wpList_appK w3 3 24 1 (by decide) (by decide) [.int .i64 n, .int .u64 i, .int .i64 (pt n i)] rfl (by simp [Value.oneCell']) _ _ _ w.heap.size 130 _ HO3.out 122 rfl _ _ rfl info_fd Tryz.underlying122 _ rfl (by rfl) (by rfl) ?a1 ?a2 ?_)
              case a1 => omega
              case a2 => exact hs1
              intro v' w4 g1 g2 _
              have hx4 := own_grownT (HX3.out.alloc _) (HO3.out.alloc _) (by decide) g2
              have hr4 := own_grownT (HR3.out.alloc _) (HO3.out.alloc _) (by decide) g2
              have hE4 : Ext w w4 := ext_grown hE3 g2 (fun j hj => own_geB HO3.out hj)
              have hbp4 : w4.heap[wr.heap.size]? = some (.cells #[.int .i64 n, .int .u64 i] 39 (0, 0)) := by
                rw [g2.block _ (by rw [size_alloc]; omega) (fun e => own_notB HO3.out hbp (by decide) e.symm), heap_old _ _ (by omega)]
                exact hbp
              have ho4 : w4.ownsRow w.heap.size 130 3 v' (out ++ hvF pt least n (pre ++ [i])).length (fdV (out ++ hvF pt least n (pre ++ [i]))) ∧ (out ++ hvF pt least n (pre ++ [i])).length = lo + 1 := by
                rw [HF.out, ← List.append_assoc, fdV_append, List.length_append (bs := [(n, i, pt n i)]), HLO.out]
                exact ⟨g1, rfl⟩
              have hs4 := g2.size
              rw [size_alloc] at hs4
              obtain ⟨po3, co3, rfl⟩ := own_sl g1
              have HO4 := Lib.hid ho4.1
              have HL4 := Lib.hid ho4.2
              have HX4 := Lib.hid hx4
              have HR4 := Lib.hid hr4
              have hHv : Calls Tryz.prog 145 #[.int .i64 B, .agg #[.int .i64 n, .int .u64 i]] w4 fun e w' => ∃ x u v : Int, e = .returned (.tuple #[.agg #[.int .i64 x, .int .u64 u], .agg #[.int .i64 x, .int .u64 v], .bool (decide (0 < n))]) ∧ (∀ m : Nat, n = m + 1 → x = m ∧ u = 2 * i ∧ v = 2 * i + 1) ∧ Ext w4 w' := by
                have := HalvesAny_c C HOK.out n (by have := HB.out; omega) i hi.1 hi.2 w4
                rw [HB.out] at this
                exact this
              have HHV := Lib.hid hHv
              have d0 := (cell_of hbp4 0).trans rfl
              have d1 := (cell_of hbp4 1).trans rfl
              have dl := lt_of hbp4
              clear g1 g2 hx4 hr4 ho4 hHv HO3 HX3 HR3 hbp hbp4 c0 c1 cl
              go_wp2_with fail
              refine Calls.mono HHV.out ?_
              rintro e w5 ⟨x, u, v, rfl, hxuv, hx5⟩
              have HO5 := Lib.hid (own_ext HO4.out hx5)
              have HX5 := Lib.hid (own_ext HX4.out hx5)
              have HR5 := Lib.hid (own_ext HR4.out hx5)
              have hE5 := hE4.trans' hx5
              have hs5 := hx5.size
              clear hx5 HHV HO4 HX4 HR4 d0 d1 dl
              by_cases hn0 : 0 < n
              · obtain ⟨m, rfl⟩ : ∃ m, n = m + 1 := ⟨n - 1, by omega⟩
                obtain ⟨rfl, rfl, rfl⟩ := hxuv m rfl
                rw [decide_eq_true hn0]
                have HO6 := Lib.hid ((HO5.out.alloc (.cells #[.int .i64 (m : Int), .int .u64 (2 * i)] 39)).alloc (.cells #[.int .i64 (m : Int), .int .u64 (2 * i + 1)] 39))
                have HX6 := Lib.hid ((HX5.out.alloc (.cells #[.int .i64 (m : Int), .int .u64 (2 * i)] 39)).alloc (.cells #[.int .i64 (m : Int), .int .u64 (2 * i + 1)] 39))
                have HR6 := Lib.hid ((HR5.out.alloc (.cells #[.int .i64 (m : Int), .int .u64 (2 * i)] 39)).alloc (.cells #[.int .i64 (m : Int), .int .u64 (2 * i + 1)] 39))
                have hE6 : Ext w ((w5.alloc (.cells #[.int .i64 (m : Int), .int .u64 (2 * i)] 39)).alloc (.cells #[.int .i64 (m : Int), .int .u64 (2 * i + 1)] 39)) := (hE5.allocR _).allocR _
                have hs6 : ((w5.alloc (.cells #[.int .i64 (m : Int), .int .u64 (2 * i)] 39)).alloc (.cells #[.int .i64 (m : Int), .int .u64 (2 * i + 1)] 39)).heap.size = w5.heap.size + 2 := by simp only [size_alloc]
                have hlx : lx ≤ 20000 := by
                  have := hvN_len pt least (m + 1) pre
                  have := HTL.out
                  have := HLX.out
                  omega
                clear HO5 HX5 HR5
                go_wp2_with (at_builtin; (refine wpList_appK ((w5.alloc (.cells #[.int .i64 (m : Int), .int .u64 (2 * i)] 39)).alloc (.cells #[.int .i64 (m : Int), .int .u64 (2 * i + 1)] 39)) 2 16 2 (by decide) (by decide) [.int .i64 m, .int .u64 (2 * i), .int .i64 m, .int .u64 (2 * i + 1)] rfl (by simp [Value.oneCell']) _ _ _ b1 39 _ HX6.out 165 rfl _ _ rfl info_pc Tryz.underlying165 _ rfl (by rfl) (by rw [hs6]; rfl) ?b1 ?b2 ?_))
                case b1 => omega
                case b2 => omega
                intro v2 w6 g3 g4 _
                have ho6 := own_grownT (HO6.out.alloc _) (HX6.out.alloc _) (by decide) g4
                have hr6 := own_grownL (HR6.out.alloc _) (HX6.out.alloc _) HJL.out g4
                have hE7 : Ext w w6 := ext_grown hE6 g4 (fun j hj => Nat.le_trans HBW.out (own_geB HX6.out hj))
                have hs7 := g4.size
                rw [size_alloc] at hs7
                obtain ⟨px2, cx2, rfl⟩ := own_sl g3
                have HO7 := Lib.hid ho6
                have HR7 := Lib.hid hr6
                have G3 := Lib.hid g3
                clear ho6 hr6 g3 g4 HO6 HX6 HR6
                go_wp2
                go_roundw
                case rel => exact ⟨k + 1, by omega, by go_num, by rw [HTS.out]; exact HO7.out, by rw [HTS.out, hvN_snoc_yes (by omega), List.length_append, pcV_lvl_append, HLX.out]; exact G3.out, HR7.out, HJL.out, hE7, by omega⟩
                case measure => simp [intOf]; omega
              · rw [decide_eq_false hn0]
                obtain rfl : n = 0 := by omega
                go_wp2
                go_roundw
                case rel => exact ⟨k + 1, by omega, by go_num, by rw [HTS.out]; exact (HO5.out.alloc _).alloc _, by rw [HTS.out, show hvN pt least 0 (pre ++ [i]) = hvN pt least 0 pre from rfl, HLX.out]; exact (HX5.out.alloc _).alloc _, (HR5.out.alloc _).alloc _, HJL.out, (hE5.allocR _).allocR _, by simp only [size_alloc]; omega⟩
                case measure => simp [intOf]; omega
          · obtain rfl : k = row.length := by omega
            have htk : row.take row.length = row := List.take_length
            rw [htk] at hx ho ⊢
            generalize hlo : (out ++ hvF pt least n row).length = lo at *
            generalize hlx : (hvN pt least n row).length = lx at *
            have HLO := Lib.hid hlo
            have HLX := Lib.hid hlx
            clear hlo hlx
            have HX := Lib.hid hx
            have HO := Lib.hid ho
            clear hx ho hr htk
            go_wp2
            go_roundw
            case rel =>
              have h1 := hvF_len pt least n row
              have h2 := hvN_len pt least n row
              refine ⟨r + 1, n, asked + row.length, hvN pt least n row, out ++ hvF pt least n row, by omega, by go_num, rfl, by omega, by omega, by rw [List.length_append]; omega, by omega, ?_, HGO2.out, by rw [HLO.out]; exact HO.out, by rw [HLX.out]; exact own_bmono HX.out HBW.out, hEi⟩
              intro j hj
              match n, hj with
              | 0, hj => simp [hvN] at hj
              | n' + 1, hj =>
                obtain ⟨i, hi, _, h3⟩ := hvN_mem hj
                have h4 := HM.out i hi
                have h5 := keys_half (C := C) (m := n') (by have := HB.out; omega)
                show 0 ≤ j ∧ j < keys C (n' : Nat)
                rcases h3 with rfl | rfl <;> omega
            case measure => simp [intOf]; omega
    · obtain rfl : m = 0 := by omega
      have hres : heavyP pt least budget B = (out, 0) := by rw [HP.out, HGO.out]; rfl
      have HRES := Lib.hid hres
      clear hres
      go_wp2
      go_ret2
      refine ⟨.slice po out.length co, ?_, ?_, hE⟩
      · rw [HRES.out]; rfl
      · rw [HRES.out]; exact HO.out
end Go.Proofs.YtfhdjekpdifajaaGreat
namespace Go.Proofs.YtfhdjekpdifajaaGreat
set_option linter.unusedVariables false
open Go.RowKit
theorem hvF_none (pt : Nat → Int → Int) (least : Int) (n : Nat) : hvF pt least n [] = [] := rfl
theorem hvN_none (pt : Nat → Int → Int) (least : Int) (n : Nat) : hvN pt least n [] = [] := by unfold hvN; split <;> rfl
/-- How the queue stands: what has been asked, what is to be asked, what was found. -/
def QInv (C : Cfg) (B : Nat) (pt : Nat → Int → Int) (least budget : Int) (k : Nat) (q : List (Nat × Int)) (out : List Fd) : Prop :=
  ∃ (n a r : Nat) (row : List Int) (out0 : List Fd), n ≤ B ∧ r ≤ row.length ∧ k = a + r ∧
    hvGo pt least budget (B + 1) 0 [0] [] = hvGo pt least budget (n + 1) a row out0 ∧
    q.length = a + row.length + (hvN pt least n (row.take r)).length ∧
    q.drop k = lvl n (row.drop r) ++ lvl (n - 1) (hvN pt least n (row.take r)) ∧
    out = out0 ++ hvF pt least n (row.take r) ∧ out.length ≤ k ∧ ∀ i ∈ row, 0 ≤ i ∧ i < keys C n
section
variable {C : Cfg} {B : Nat} {pt : Nat → Int → Int} {least budget : Int} {k : Nat} {q : List (Nat × Int)} {out : List Fd}
theorem QInv.len (h : QInv C B pt least budget k q out) : out.length ≤ k ∧ k ≤ q.length := by
  obtain ⟨n, a, r, row, out0, h1, h2, h3, h4, h5, h6, h7, h8, h9⟩ := h
  exact ⟨h8, by omega⟩
/-- What is asked next, and what that leads to. -/
theorem QInv.next (h : QInv C B pt least budget k q out) (hk : k < q.length) (ho : ¬ budget < q.length) (hB : C.bits = B) :
    ∃ (n : Nat) (i : Int), q.getD k (0, 0) = (n, i) ∧ n ≤ B ∧ 0 ≤ i ∧ i < keys C n ∧ (pt n i < least → QInv C B pt least budget (k + 1) q out) ∧ (least ≤ pt n i → (n = 0 → QInv C B pt least budget (k + 1) q (out ++ [(n, i, pt n i)])) ∧ ∀ m, n = m + 1 → QInv C B pt least budget (k + 1) (q ++ [(m, 2 * i), (m, 2 * i + 1)]) (out ++ [(n, i, pt n i)])) := by
  have hnorm : ∃ (n a r : Nat) (row : List Int) (out0 : List Fd), n ≤ B ∧ r < row.length ∧ k = a + r ∧
    hvGo pt least budget (B + 1) 0 [0] [] = hvGo pt least budget (n + 1) a row out0 ∧
    q.length = a + row.length + (hvN pt least n (row.take r)).length ∧
    q.drop k = lvl n (row.drop r) ++ lvl (n - 1) (hvN pt least n (row.take r)) ∧
    out = out0 ++ hvF pt least n (row.take r) ∧ out.length ≤ k ∧ ∀ i ∈ row, 0 ≤ i ∧ i < keys C n := by
    obtain ⟨n, a, r, row, out0, h1, h2, h3, h4, h5, h6, h7, h8, h9⟩ := h
    by_cases hr : r < row.length
    · exact ⟨n, a, r, row, out0, h1, hr, h3, h4, h5, h6, h7, h8, h9⟩
    · have hr : r = row.length := by omega
      subst hr
      rw [List.take_length] at h5 h6 h7
      match n, h1, h4, h5, h6, h7, h9 with
      | 0, h1, h4, h5, h6, h7, h9 =>
        have : (hvN pt least 0 row).length = 0 := rfl
        omega
      | m + 1, h1, h4, h5, h6, h7, h9 =>
        refine ⟨m, a + row.length, 0, hvN pt least (m + 1) row, out, by omega, by omega, by omega, ?_, ?_, ?_, ?_, h8, ?_⟩
        · rw [h4, hvGo_yes (by omega), ← h7, Int.natCast_add]
        · rw [List.take_zero, hvN_none]; simpa using h5
        · rw [List.take_zero, hvN_none, h6, List.drop_length]; simp [lvl]
        · rw [List.take_zero, hvF_none, List.append_nil]
        · intro j hj
          obtain ⟨i, hi, _, h10⟩ := hvN_mem hj
          have h11 := h9 i hi
          have h12 := keys_half (C := C) (m := m) (by omega)
          rcases h10 with rfl | rfl <;> omega
  obtain ⟨n, a, r, row, out0, h1, h2, h3, h4, h5, h6, h7, h8, h9⟩ := hnorm
  have hd : row.drop r = row[r] :: row.drop (r + 1) := List.drop_eq_getElem_cons h2
  rw [hd] at h6
  have hq : q.drop k = (n, row[r]) :: (lvl n (row.drop (r + 1)) ++ lvl (n - 1) (hvN pt least n (row.take r))) := h6
  have hts := take_snocH h2
  have hbd := h9 row[r] (List.getElem_mem h2)
  have hget : q.getD k (0, 0) = (n, row[r]) := by
    have := congrArg (fun l => l.getD 0 (0, 0)) hq
    simpa [List.getD] using this
  have hq1 : q.drop (k + 1) = lvl n (row.drop (r + 1)) ++ lvl (n - 1) (hvN pt least n (row.take r)) := by
    have := congrArg (fun l => l.drop 1) hq
    simpa [List.drop_drop] using this
  generalize row[r] = i at *
  refine ⟨n, i, hget, h1, hbd.1, hbd.2, fun hlt => ?_, fun hge => ⟨?_, ?_⟩⟩
  · exact ⟨n, a, r + 1, row, out0, h1, h2, by omega, h4, by rw [hts, hvN_snoc_no hlt]; exact h5, by rw [hts, hvN_snoc_no hlt]; exact hq1, by rw [hts, hvF_snoc_no hlt]; exact h7, by omega, h9⟩
  · rintro rfl
    exact ⟨0, a, r + 1, row, out0, h1, h2, by omega, h4, h5, hq1, by rw [hts, hvF_snoc_yes hge, h7, List.append_assoc], by rw [List.length_append]; simp; omega, h9⟩
  · rintro m rfl
    refine ⟨m + 1, a, r + 1, row, out0, h1, h2, by omega, h4, ?_, ?_, by rw [hts, hvF_snoc_yes hge, h7, List.append_assoc], by rw [List.length_append]; simp; omega, h9⟩
    · rw [hts, hvN_snoc_yes hge, List.length_append, List.length_append, h5]; rfl
    · rw [hts, hvN_snoc_yes hge, List.drop_append_of_le_length (by omega), hq1, List.append_assoc]
      congr 1
      unfold lvl
      rw [List.map_append]
      rfl
end
end Go.Proofs.YtfhdjekpdifajaaGreat
namespace Go.Proofs.YtfhdjekpdifajaaGreat
set_option linter.unusedVariables false
open Go.RowKit
/-- One cell of a row is written. -/
theorem own_set {w : World} {base n size g cap : Nat} {e : TypeId} {xs : List Value} (h : w.ownsRow base e size (.slice (some ⟨g, 0, none⟩) n cap) n xs) (j : Nat) (hj : j < n * size) (u : Value) : (w.setCell ⟨g, j, none⟩ u).ownsRow base e size (.slice (some ⟨g, 0, none⟩) n cap) n (xs.set j u) := by
  obtain ⟨h1, h2⟩ := h
  refine ⟨by rw [List.length_set]; exact h1, ?_⟩
  rcases h2 with ⟨hv, _⟩ | ⟨g', cap', cur, hv, hb, hh, hc, hm, hs, ht⟩
  · cases hv
  · cases hv
    refine .inr ⟨g, cap, cur.setIfInBounds j u, rfl, hb, setCell_same hh j u, hc, hm, by rw [Array.size_setIfInBounds]; exact hs, ?_⟩
    rw [Array.toList_setIfInBounds, ← ht, List.take_set]
theorem own_setCells {base n size g cap : Nat} {e : TypeId} : ∀ (vs : List Value) (o : Nat) {w : World} {xs : List Value} (h : w.ownsRow base e size (.slice (some ⟨g, 0, none⟩) n cap) n xs) (hj : o + vs.length ≤ n * size), ∃ ys, (w.setCells g o vs).ownsRow base e size (.slice (some ⟨g, 0, none⟩) n cap) n ys ∧ ys.take o = xs.take o
  | [], o, w, xs, h, _ => ⟨xs, h, rfl⟩
  | v :: r, o, w, xs, h, hj => by
    rw [List.length_cons] at hj
    obtain ⟨ys, h1, h2⟩ := own_setCells r (o + 1) (own_set h o (by omega) v) (by omega)
    refine ⟨ys, h1, ?_⟩
    have h3 := congrArg (List.take o) h2
    rw [List.take_take, List.take_take, Nat.min_eq_left (by omega)] at h3
    rw [h3, List.take_set_of_le (Nat.le_refl o)]
theorem own_cut {w : World} {base n size g cap m : Nat} {e : TypeId} {xs : List Value} (h : w.ownsRow base e size (.slice (some ⟨g, 0, none⟩) n cap) n xs) (hm : m ≤ n) : w.ownsRow base e size (.slice (some ⟨g, 0, none⟩) m cap) m (xs.take (m * size)) := by
  obtain ⟨h1, h2⟩ := h
  have h3 : m * size ≤ n * size := Nat.mul_le_mul_right _ hm
  refine ⟨by rw [List.length_take]; omega, ?_⟩
  rcases h2 with ⟨hv, _⟩ | ⟨g', cap', cur, hv, hb, hh, hc, hmx, hs, ht⟩
  · cases hv
  · cases hv
    exact .inr ⟨g, cap, cur, rfl, hb, hh, by omega, hmx, hs, by rw [← ht, List.take_take, Nat.min_eq_left h3]⟩
theorem ext_setCells {w0 : World} {g : Nat} (hg : w0.heap.size ≤ g) : ∀ (vs : List Value) (o : Nat) {w : World}, Ext w0 w → Ext w0 (w.setCells g o vs)
  | [], _, _, h => h
  | v :: r, o, _, h => ext_setCells hg r (o + 1) (h.setR (p := ⟨g, o, none⟩) hg v)
/-- 'clear(s)', s some elements of k cells each. -/
theorem run_clear_k {P : Program} (w : World) (t e : TypeId) (z : Value) (ht : P.underlying t = some (.slice e)) (hv : ∀ w, (zeroValue e).run P w = .ok z w) (k : Nat) (hk : z.cells.size = k) (b o n c : Nat) (hn : 0 < n)
    (hc : ∀ j, j < n * k → (w.cell? ⟨b, o + j, none⟩).isSome = true) (hf : ∀ j, j < n * k → w.frozen? ⟨b, o + j, none⟩ = false) (h2 : ∀ v ∈ (Builtin.zeroCells z.cells n).toList, v.oneCell' = true) :
    ∃ vs, vs.length = n * k ∧ ∀ ty, (Builtin.clear_ #[t] ty #[.slice (some ⟨b, o, none⟩) n c]).run P w = .ok (.tuple #[]) (w.setCells b o vs) := by
  have hl : (Builtin.zeroCells z.cells n).toList.length = n * k := by simp [Builtin.zeroCells, hk]
  refine ⟨_, hl, fun ty => ?_⟩
  have hst := run_storeCells_cells (P := P) b o (Builtin.zeroCells z.cells n).toList 0 w (by rw [hl]; simpa using hc) (by rw [hl]; simpa using hf) h2
  simp only [Nat.add_zero] at hst
  obtain ⟨m, rfl⟩ : ∃ m, n = m + 1 := ⟨n - 1, by omega⟩
  simp [Builtin.clear_, run_underlying ht, hv, hst]
/-- The first one that is not of level 0. -/
def hiFrom : List Fd → Nat → Int
  | [], _ => -1
  | f :: r, k => if 0 < f.1 then k else hiFrom r (k + 1)
theorem hiFrom_spec : ∀ (l : List Fd) (k : Nat), (hiFrom l k = -1 ∧ ∀ f ∈ l, f.1 = 0) ∨ ∃ j f r, l = (l.take j) ++ f :: r ∧ j < l.length ∧ hiFrom l k = ((k + j : Nat) : Int) ∧ 0 < f.1 ∧ ∀ f ∈ l.take j, f.1 = 0
  | [], _ => .inl ⟨rfl, by simp⟩
  | f :: r, k => by
    by_cases h : 0 < f.1
    · exact .inr ⟨0, f, r, rfl, by simp, by simp [hiFrom, h], h, by simp⟩
    · have h0 : f.1 = 0 := by omega
      have e : hiFrom (f :: r) k = hiFrom r (k + 1) := by show (if _ then _ else _) = _; rw [if_neg h]
      rcases hiFrom_spec r (k + 1) with ⟨h1, h2⟩ | ⟨j, f', r', h1, h2, h3, h4, h5⟩
      · refine .inl ⟨by rw [e, h1], fun x hx => ?_⟩
        rcases List.mem_cons.1 hx with rfl | hx
        · exact h0
        · exact h2 x hx
      · refine .inr ⟨j + 1, f', r', ?_, by rw [List.length_cons]; omega, by rw [e, h3]; congr 1; omega, h4, fun x hx => ?_⟩
        · rw [List.take_succ_cons, List.cons_append, ← h1]
        · rw [List.take_succ_cons] at hx
          rcases List.mem_cons.1 hx with rfl | hx
          · exact h0
          · exact h5 x hx
theorem hiFrom_step {D : List Fd} {k : Nat} (h : k < D.length) : hiFrom (D.drop k) k = if 0 < D[k].1 then (k : Int) else hiFrom (D.drop (k + 1)) (k + 1) := by
  rw [List.drop_eq_getElem_cons h]; rfl
theorem fdV_getAt {D : List Fd} {k : Nat} (h : k < D.length) : (fdV D)[k * 3]? = some (.int .i64 (D[k].1 : Int)) ∧ (fdV D)[k * 3 + 1]? = some (.int .u64 D[k].2.1) ∧ (fdV D)[k * 3 + 2]? = some (.int .i64 D[k].2.2) := by
  have h1 := fdV_at h
  rw [show D.getD k (0, 0, 0) = D[k] by simp [List.getD, h]] at h1
  exact h1
theorem fdV_set {D : List Fd} : ∀ {i : Nat} (h : i < D.length) (f : Fd), fdV (D.set i f) = (((fdV D).set (i * 3) (.int .i64 (f.1 : Int))).set (i * 3 + 1) (.int .u64 f.2.1)).set (i * 3 + 2) (.int .i64 f.2.2) := by
  induction D with
  | nil => intro i h; simp at h
  | cons u D ih =>
    intro i h f
    have e : fdV (u :: D) = .int .i64 (u.1 : Int) :: .int .u64 u.2.1 :: .int .i64 u.2.2 :: fdV D := rfl
    rw [e]
    cases i with
    | zero => rfl
    | succ i =>
      have := ih (i := i) (by simpa using h) f
      rw [show (i + 1) * 3 = i * 3 + 1 + 1 + 1 by omega, List.set_cons_succ]
      have e2 : fdV (u :: D.set i f) = .int .i64 (u.1 : Int) :: .int .u64 u.2.1 :: .int .i64 u.2.2 :: fdV (D.set i f) := rfl
      rw [e2, this]
      simp only [List.set_cons_succ]
theorem fdV_take (D : List Fd) : ∀ (i : Nat), (fdV D).take (i * 3) = fdV (D.take i) := by
  induction D with
  | nil => intro i; simp [fdV]
  | cons u D ih =>
    intro i
    have e : fdV (u :: D) = .int .i64 (u.1 : Int) :: .int .u64 u.2.1 :: .int .i64 u.2.2 :: fdV D := rfl
    cases i with
    | zero => simp [fdV]
    | succ i =>
      rw [e, show (i + 1) * 3 = i * 3 + 1 + 1 + 1 by omega, List.take_succ_cons, List.take_succ_cons, List.take_succ_cons, ih i]
      rfl
set_option maxRecDepth 20000 in
set_option maxHeartbeats 2000000 in
theorem TopLv_c (lv i n : Int) (w : World) :
    Calls Tryz.prog 135 #[.agg #[.int .i64 lv, .int .u64 i, .int .i64 n]] w fun e w' => e = .returned (.bool (decide (0 < lv))) ∧ Ext w w' := by
  go_enter Tryz.func135, Tryz.ntmps135
  go_wp2
  go_ret
  exact ⟨rfl, Ext.alloc' _ _⟩
set_option maxRecDepth 20000 in
set_option maxHeartbeats 4000000 in
theorem IndexHi_c (base : Nat) (p : Option Addr) (cap : Nat) (D : List Fd) (w : World) (h : w.ownsRow base 130 3 (.slice p D.length cap) D.length (fdV D)) (hl : D.length ≤ 100000) :
    Calls Tryz.prog 181 #[.slice p D.length cap, .func (.func 135) #[] #[]] w fun e w' => e = .returned (.int .i64 (hiFrom D 0)) ∧ Ext w w' := by
  have HH := Lib.hid h
  clear h
  generalize hn : D.length = n at *
  have HN := Lib.hid hn
  clear hn
  go_enter Tryz.func181, Tryz.ntmps181
  go_wp2_with fail
  go_loopw [8] (fun u8 wr => ∃ k, k ≤ n ∧ u8 = .int .i64 k ∧ hiFrom D 0 = hiFrom (D.drop k) k ∧ Ext w wr) (fun u8 _ => n - (intOf u8).toNat)
  case atStart => exact ⟨0, Nat.zero_le _, rfl, rfl, Ext.refl _⟩
  case round =>
    obtain ⟨k, hk, rfl, hf, hE⟩ := hrel
    by_cases hlt : k < n
    · have hkl : k < D.length := by rw [HN.out]; exact hlt
      obtain ⟨g, cap', hv, hb, hg, hcell⟩ := own_row_cells (own_ext HH.out hE) (by omega)
      cases hv
      have hcs := fdV_getAt hkl
      have c0 := (hcell (k * 3) (by omega)).trans hcs.1
      have c1 := (hcell (k * 3 + 1) (by omega)).trans hcs.2.1
      have c2 := (hcell (k * 3 + 2) (by omega)).trans hcs.2.2
      rw [hiFrom_step hkl] at hf
      have HF := Lib.hid hf
      clear hf hcell hcs
      generalize D[k] = f at *
      obtain ⟨lv, i, x⟩ := f
      dsimp only at c0 c1 c2 HF
      go_wp2_with fail
      refine Calls.mono (TopLv_c lv i x _) ?_
      rintro e w2 ⟨rfl, hx2⟩
      have hE2 := hE.trans' hx2
      by_cases hp : 0 < lv
      · rw [decide_eq_true (by omega)]
        have hf := HF.out
        rw [if_pos hp] at hf
        have HF2 := Lib.hid hf
        clear hf c0 c1 c2
        go_wp2
        go_ret
        exact ⟨by rw [HF2.out]; rfl, hE2⟩
      · rw [decide_eq_false (by omega)]
        have hf := HF.out
        rw [if_neg hp] at hf
        have HF2 := Lib.hid hf
        clear hf c0 c1 c2
        go_wp2
        go_roundw
        case rel => exact ⟨k + 1, by omega, by go_num, HF2.out, hE2⟩
        case measure => simp [intOf]; omega
    · obtain rfl : k = n := by omega
      have hf2 : hiFrom D 0 = -1 := by rw [hf, List.drop_of_length_le (by rw [HN.out]; exact Nat.le_refl _)]; rfl
      have HF2 := Lib.hid hf2
      clear hf hf2
      go_wp2
      go_ret
      exact ⟨by rw [HF2.out]; rfl, hE⟩
theorem take_snocG {α : Type} {row : List α} {k : Nat} (h : k < row.length) : row.take (k + 1) = row.take k ++ [row[k]] := by
  rw [List.take_add_one, List.getElem?_eq_getElem h]; rfl
def keepD (D : List Fd) : List Fd := D.filter fun f => decide (f.1 = 0)
theorem keepD_append (a b : List Fd) : keepD (a ++ b) = keepD a ++ keepD b := List.filter_append _ _
theorem keepD_all {D : List Fd} (h : ∀ f ∈ D, f.1 = 0) : keepD D = D := List.filter_eq_self.2 fun f hf => by simpa using h f hf
theorem zero_fd (n : Nat) : ∀ v ∈ (Builtin.zeroCells (Value.agg #[.int .i64 0, .int .u64 0, .int .i64 0]).cells n).toList, v.oneCell' = true := by
  intro v hv
  simp only [Builtin.zeroCells, Value.cells, Array.toList_map, List.mem_map] at hv
  obtain ⟨i, _, rfl⟩ := hv
  have h3 : i % 3 < 3 := Nat.mod_lt _ (by decide)
  show ((#[Value.int .i64 0, .int .u64 0, .int .i64 0] : Array Value)[i % 3]!).oneCell' = true
  generalize i % 3 = j at *
  match j, h3 with
  | 0, _ => rfl
  | 1, _ => rfl
  | 2, _ => rfl
def DelPost (w : World) (base : Nat) (D : List Fd) (e : Ending) (w' : World) : Prop :=
  ∃ p' cap', e = .returned (.slice p' (keepD D).length cap') ∧ w'.ownsRow base 130 3 (.slice p' (keepD D).length cap') (keepD D).length (fdV (keepD D)) ∧ ∀ w0 : World, Ext w0 w → w0.heap.size ≤ base → Ext w0 w'
set_option maxRecDepth 20000 in
set_option maxHeartbeats 8000000 in
theorem Delete_c (base : Nat) (p : Option Addr) (cap : Nat) (D : List Fd) (w : World) (h : w.ownsRow base 130 3 (.slice p D.length cap) D.length (fdV D)) (hl : D.length ≤ 100000) :
    Calls Tryz.prog 134 #[.slice p D.length cap, .func (.func 135) #[] #[]] w (DelPost w base D) := by
  have HI := Lib.hid (IndexHi_c base p cap D w h hl)
  have HH := Lib.hid h
  have hsp := hiFrom_spec D 0
  clear h
  rcases hsp with ⟨h1, h2⟩ | ⟨j, f, r, h1, h2, h3, h4, h5⟩
  · have hk := keepD_all h2
    have HK := Lib.hid hk
    rw [h1] at HI
    clear hk h1 h2
    generalize hn : D.length = n at *
    have HN := Lib.hid hn
    clear hn
    go_enter Tryz.func134, Tryz.ntmps134
    go_wp2_with fail
    refine Calls.mono HI.out ?_
    rintro e w1 ⟨rfl, hx1⟩
    go_wp2
    go_ret
    refine ⟨p, cap, ?_, ?_, fun w0 h0 _ => h0.trans' hx1⟩
    · rw [HK.out, HN.out]; rfl
    · rw [HK.out, HN.out]; exact own_ext HH.out hx1
  · rw [h3, Nat.zero_add] at HI
    have hst : D.take j = keepD (D.take (j + 1)) := by
      have h6 : D.take (j + 1) = D.take j ++ [f] := by
        conv => lhs; rw [h1]
        rw [List.take_append, List.length_take, Nat.min_eq_left (by omega), List.take_of_length_le (by rw [List.length_take]; omega), show j + 1 - j = 1 by omega]
        rfl
      rw [h6, keepD_append, keepD_all h5]
      have : keepD [f] = [] := by unfold keepD; simp; omega
      rw [this, List.append_nil]
    have HST := Lib.hid hst
    clear hst h1 h3 h4 h5
    generalize hn : D.length = n at *
    have HN := Lib.hid hn
    obtain ⟨g, cap', hv, hb, hg, _⟩ := own_row_cells HH.out (by omega)
    cases hv
    clear hn
    have hne1 : ((j : Int) == -1) = false := beq_eq_false_iff_ne.2 (by omega)
    go_enter Tryz.func134, Tryz.ntmps134
    go_wp2_with fail
    refine Calls.mono HI.out ?_
    rintro e w1 ⟨rfl, hx1⟩
    have HX1 := Lib.hid hx1
    have HO1 := Lib.hid (own_ext HH.out hx1)
    clear hx1 HH HI
    go_wp2_with fail
    go_loopw [5, 6, 7] (fun u5 u6 _ wr => ∃ (i jj : Nat) (E : List Fd), i < jj ∧ jj ≤ n ∧ u5 = .int .i64 i ∧ u6 = .int .i64 jj ∧ E.length = n ∧ E.take i = keepD (D.take jj) ∧ E.drop jj = D.drop jj ∧ wr.ownsRow base 130 3 (.slice (some ⟨g, 0, none⟩) n cap) n (fdV E) ∧ ∀ w0 : World, Ext w0 w → w0.heap.size ≤ base → Ext w0 wr) (fun _ u6 _ _ => n - (intOf u6).toNat)
    case atStart => exact ⟨j, j + 1, D, by omega, by omega, rfl, by go_num, HN.out, HST.out, rfl, HO1.out, fun w0 h0 _ => h0.trans' HX1.out⟩
    case round =>
      clear HX1 HO1 HST
      obtain ⟨i, jj, E, hij, hjn, rfl, rfl, hEl, hEt, hEd, hown, hext⟩ := hrel
      have HEX := Lib.hid hext
      have HOWN := Lib.hid hown
      have HET := Lib.hid hEt
      have HED := Lib.hid hEd
      have HEL := Lib.hid hEl
      clear hown hEt hEd hEl hext
      by_cases hlt : jj < n
      · have hjE : jj < E.length := by rw [HEL.out]; exact hlt
        obtain ⟨g', cap2, hv, _, hg', hcell⟩ := own_row_cells HOWN.out (by omega)
        cases hv
        have hcs := fdV_getAt hjE
        have c0 := (hcell (jj * 3) (by omega)).trans hcs.1
        have c1 := (hcell (jj * 3 + 1) (by omega)).trans hcs.2.1
        have c2 := (hcell (jj * 3 + 2) (by omega)).trans hcs.2.2
        have hts : D.take (jj + 1) = D.take jj ++ [E[jj]] := by
          have h1 : jj < D.length := by rw [HN.out]; exact hlt
          have h2 : D[jj] = E[jj] := by
            have := HED.out
            rw [List.drop_eq_getElem_cons hjE, List.drop_eq_getElem_cons h1] at this
            exact (List.cons.inj this).1.symm
          rw [take_snocG h1, h2]
        have HTS := Lib.hid hts
        have HJE := Lib.hid hjE
        clear hts hcs hcell
        generalize E[jj] = f at *
        obtain ⟨lv, ix, x⟩ := f
        dsimp only at c0 c1 c2
        go_wp2_with fail
        refine Calls.mono (TopLv_c lv ix x _) ?_
        rintro e w3 ⟨rfl, hx3⟩
        have hb7 : w3.heap[wr.heap.size]? = some (.cells #[.int .i64 (lv : Int), .int .u64 ix, .int .i64 x] 130 (0, 0)) := hx3.keep (heap_at _ _ rfl)
        have ho3 := own_ext (HOWN.out.alloc (.cells #[.int .i64 (lv : Int), .int .u64 ix, .int .i64 x] 130)) hx3
        have hE3 : ∀ w0 : World, Ext w0 w → w0.heap.size ≤ base → Ext w0 w3 := fun w0 h0 hb0 => ((HEX.out w0 h0 hb0).allocR _).trans' hx3
        have HO3 := Lib.hid ho3
        have HE3 := Lib.hid hE3
        have hEd2 : E.drop (jj + 1) = D.drop (jj + 1) := by
          have := congrArg (List.drop 1) HED.out
          rw [List.drop_drop, List.drop_drop] at this
          exact this
        have HED2 := Lib.hid hEd2
        clear hx3 ho3 hE3 hEd2 c0 c1 c2
        by_cases hp : 0 < lv
        · have hk : keepD (D.take (jj + 1)) = keepD (D.take jj) := by
            rw [HTS.out, keepD_append]
            have : keepD [(lv, ix, x)] = [] := by unfold keepD; simp; omega
            rw [this, List.append_nil]
          have HK := Lib.hid hk
          rw [decide_eq_true (show (0 : Int) < (lv : Int) by omega)]
          clear hk hb7
          go_wp2
          go_roundw
          case rel => exact ⟨i, jj + 1, E, by omega, by omega, rfl, by go_num, HEL.out, by rw [HK.out]; exact HET.out, HED2.out, HO3.out, HE3.out⟩
          case measure => simp [intOf]; omega
        · obtain rfl : lv = 0 := by omega
          have hk : keepD (D.take (jj + 1)) = keepD (D.take jj) ++ [(0, ix, x)] := by
            rw [HTS.out, keepD_append]; rfl
          have HK := Lib.hid hk
          rw [decide_eq_false (show ¬ (0 : Int) < ((0 : Nat) : Int) by decide)]
          have b0 := (cell_of hb7 0).trans rfl
          have b1 := (cell_of hb7 1).trans rfl
          have b2 := (cell_of hb7 2).trans rfl
          have bl := lt_of hb7
          have hne : wr.heap.size ≠ g := by omega
          obtain ⟨gg, cc, cur, hv2, _, hh, hcc, _, hcs, _⟩ := HO3.out.2.resolve_left (fun h => by cases h.1)
          cases hv2
          have r0 := cell_of hh (i * 3)
          have r1 := cell_of hh (i * 3 + 1)
          have r2 := cell_of hh (i * 3 + 2)
          rw [Array.getElem?_eq_getElem (by omega)] at r0 r1 r2
          have f0 := frozen_of hh (i * 3)
          have f1 := frozen_of hh (i * 3 + 1)
          have f2 := frozen_of hh (i * 3 + 2)
          have rl := lt_of hh
          clear hk hb7 hh
          generalize cur[i * 3] = q0 at r0
          generalize cur[i * 3 + 1] = q1 at r1
          generalize cur[i * 3 + 2] = q2 at r2
          go_wp2
          go_roundw
          case rel =>
            refine ⟨i + 1, jj + 1, E.set i (0, ix, x), by omega, by omega, by go_num, by go_num, by rw [List.length_set]; exact HEL.out, ?_, ?_, ?_, ?_⟩
            · rw [HK.out, ← HET.out, take_snocG (row := E.set i (0, ix, x)) (k := i) (by rw [List.length_set]; have := HEL.out; omega), List.take_set_of_le (Nat.le_refl _), List.getElem_set_self]
            · rw [List.drop_set_of_lt (by omega)]; exact HED2.out
            · rw [fdV_set (by have := HEL.out; omega)]
              exact own_set (own_set (own_set HO3.out (i * 3) (by omega) _) (i * 3 + 1) (by omega) _) (i * 3 + 2) (by omega) _
            · intro w0 h0 hb0
              have hgb : w0.heap.size ≤ g := by omega
              exact (((HE3.out w0 h0 hb0).setR (p := ⟨g, i * 3, none⟩) hgb _).setR (p := ⟨g, i * 3 + 1, none⟩) hgb _).setR (p := ⟨g, i * 3 + 2, none⟩) hgb _
          case measure => simp [intOf]; omega
      · obtain rfl : jj = n := by omega
        have hil : i < jj := hij
        obtain ⟨gg, cc, cur, hv2, _, hh, hcc, _, hcs, _⟩ := HOWN.out.2.resolve_left (fun h => by cases h.1)
        cases hv2
        have hz : ∀ W, (zeroValue 130).run Tryz.prog W = .ok (.agg #[.int .i64 0, .int .u64 0, .int .i64 0]) W := fun W => by kernel_rfl
        obtain ⟨vs, hvl, hcl⟩ := run_clear_k (P := Tryz.prog) wr 122 130 _ Tryz.underlying122 hz 3 rfl g (i * 3) (jj - i) (cap - i) (by omega) (fun j hj => by rw [cell_of hh, Array.getElem?_eq_getElem (by omega)]; rfl) (fun j hj => frozen_of hh _) (zero_fd _)
        clear hz hh
        have hfin : keepD D = E.take i := by rw [HET.out, List.take_of_length_le (by rw [HN.out]; exact Nat.le_refl _)]
        have HFIN := Lib.hid hfin
        have HVL := Lib.hid hvl
        clear hfin hvl
        go_wp2
        go_ret
        have hlen : (keepD D).length = i := by rw [HFIN.out, List.length_take, HEL.out]; omega
        obtain ⟨ys, hy1, hy2⟩ := own_setCells vs (i * 3) HOWN.out (by rw [HVL.out]; omega)
        have hcut := own_cut hy1 (show i ≤ jj by omega)
        rw [hy2, fdV_take, ← HFIN.out] at hcut
        refine ⟨some ⟨g, 0, none⟩, cap, ?_, ?_, ?_⟩
        · rw [hlen]; rfl
        · rw [hlen]; exact hcut
        · intro w0 h0 hb0
          exact ext_setCells (by omega) vs (i * 3) (HEX.out w0 h0 hb0)
end Go.Proofs.YtfhdjekpdifajaaGreat
namespace Go.Proofs.YtfhdjekpdifajaaGreat
set_option linter.unusedVariables false
open Go.RowKit
def cmpI (x y : Int) : Int := if x < y then -1 else if y < x then 1 else 0
set_option maxRecDepth 20000 in
set_option maxHeartbeats 2000000 in
theorem CompareI_c (x y : Int) (w : World) : Calls Tryz.prog 139 #[.int .i64 x, .int .i64 y] w fun e w' => e = .returned (.int .i64 (cmpI x y)) ∧ w' = w := by
  by_cases h1 : x < y
  · go_enter Tryz.func139, Tryz.ntmps139
    go_wp2
    go_ret
    exact ⟨by rw [cmpI, if_pos h1]; rfl, rfl⟩
  · by_cases h2 : y < x
    · go_enter Tryz.func139, Tryz.ntmps139
      go_wp2
      go_ret
      exact ⟨by rw [cmpI, if_neg (by omega), if_pos h2]; rfl, rfl⟩
    · go_enter Tryz.func139, Tryz.ntmps139
      go_wp2
      go_ret
      exact ⟨by rw [cmpI, if_neg (by omega), if_neg (by omega)]; rfl, rfl⟩
set_option maxRecDepth 20000 in
set_option maxHeartbeats 2000000 in
theorem CompareU_c (x y : Int) (w : World) : Calls Tryz.prog 140 #[.int .u64 x, .int .u64 y] w fun e w' => e = .returned (.int .i64 (cmpI x y)) ∧ w' = w := by
  by_cases h1 : x < y
  · go_enter Tryz.func140, Tryz.ntmps140
    go_wp2
    go_ret
    exact ⟨by rw [cmpI, if_pos h1]; rfl, rfl⟩
  · by_cases h2 : y < x
    · go_enter Tryz.func140, Tryz.ntmps140
      go_wp2
      go_ret
      exact ⟨by rw [cmpI, if_neg (by omega), if_pos h2]; rfl, rfl⟩
    · go_enter Tryz.func140, Tryz.ntmps140
      go_wp2
      go_ret
      exact ⟨by rw [cmpI, if_neg (by omega), if_neg (by omega)]; rfl, rfl⟩
set_option maxRecDepth 20000 in
set_option maxHeartbeats 2000000 in
theorem Or2_c (g : Nat) (a b : Int) (w : World) (hg : g < w.heap.size) (c0 : w.cell? ⟨g, 0, none⟩ = some (.int .i64 a)) (c1 : w.cell? ⟨g, 1, none⟩ = some (.int .i64 b)) :
    Calls Tryz.prog 138 #[.slice (some ⟨g, 0, none⟩) 2 2] w fun e w' => e = .returned (.int .i64 (if a = 0 then b else a)) ∧ Ext w w' := by
  by_cases ha : a = 0
  · subst ha
    rw [if_pos rfl]
    by_cases hb : b = 0
    · subst hb
      go_enter Tryz.func138, Tryz.ntmps138
      go_wp2_with fail
      go_loopw [8] (fun u8 wr => ∃ k : Nat, k ≤ 2 ∧ u8 = .int .i64 k ∧ wr = w) (fun u8 _ => 2 - (intOf u8).toNat)
      case atStart => exact ⟨0, by omega, rfl, by trivial⟩
      case round =>
        obtain ⟨k, hk, rfl, rfl⟩ := hrel
        match k, hk with
        | 0, _ =>
          go_wp2
          go_roundw
          case rel => exact ⟨1, by omega, rfl, by trivial⟩
          case measure => simp [intOf]
        | 1, _ =>
          go_wp2
          go_roundw
          case rel => exact ⟨2, by omega, rfl, by trivial⟩
          case measure => simp [intOf]
        | 2, _ =>
          go_wp2
          go_ret
          exact ⟨rfl, Ext.refl _⟩
    · have hb0 : (b == 0) = false := beq_eq_false_iff_ne.2 hb
      go_enter Tryz.func138, Tryz.ntmps138
      go_wp2_with fail
      go_loopw [8] (fun u8 wr => ∃ k : Nat, k ≤ 1 ∧ u8 = .int .i64 k ∧ wr = w) (fun u8 _ => 2 - (intOf u8).toNat)
      case atStart => exact ⟨0, by omega, rfl, by trivial⟩
      case round =>
        obtain ⟨k, hk, rfl, rfl⟩ := hrel
        match k, hk with
        | 0, _ =>
          go_wp2
          go_roundw
          case rel => exact ⟨1, by omega, rfl, by trivial⟩
          case measure => simp [intOf]
        | 1, _ =>
          go_wp2
          go_ret
          exact ⟨rfl, Ext.refl _⟩
  · have ha0 : (a == 0) = false := beq_eq_false_iff_ne.2 ha
    rw [if_neg ha]
    go_enter Tryz.func138, Tryz.ntmps138
    go_wp2_with fail
    go_loopw [8] (fun u8 wr => ∃ k : Nat, k ≤ 0 ∧ u8 = .int .i64 k ∧ wr = w) (fun u8 _ => 2 - (intOf u8).toNat)
    case atStart => exact ⟨0, by omega, rfl, by trivial⟩
    case round =>
      obtain ⟨k, hk, rfl, rfl⟩ := hrel
      match k, hk with
      | 0, _ =>
        go_wp2
        go_ret
        exact ⟨rfl, Ext.refl _⟩
/-- What the order says of two: numbers i, j; m, n what is told of them. -/
def cmpV (i m j n : Int) : Int := if cmpI n m = 0 then cmpI i j else cmpI n m
theorem OrCmp_c (g : Nat) (i m j n : Int) (w : World) (hg : g < w.heap.size) (c0 : w.cell? ⟨g, 0, none⟩ = some (.int .i64 (cmpI n m))) (c1 : w.cell? ⟨g, 1, none⟩ = some (.int .i64 (cmpI i j))) :
    Calls Tryz.prog 138 #[.slice (some ⟨g, 0, none⟩) 2 2] w fun e w' => e = .returned (.int .i64 (cmpV i m j n)) ∧ Ext w w' :=
  Or2_c g _ _ w hg c0 c1
set_option maxRecDepth 20000 in
set_option maxHeartbeats 4000000 in
theorem TopCmp_c (la i m lb j n : Int) (w : World) :
    Calls Tryz.prog 137 #[.agg #[.int .i64 la, .int .u64 i, .int .i64 m], .agg #[.int .i64 lb, .int .u64 j, .int .i64 n]] w fun e w' => e = .returned (.int .i64 (cmpV i m j n)) ∧ Ext w w' := by
  go_enter Tryz.func137, Tryz.ntmps137
  go_wp2
  obtain ⟨W, hW⟩ : ∃ W, (w.alloc (.cells #[.int .i64 la, .int .u64 i, .int .i64 m] 130)).alloc (.cells #[.int .i64 lb, .int .u64 j, .int .i64 n] 130) = W := ⟨_, rfl⟩
  have hE : Ext w W := by rw [← hW]; exact (Ext.alloc' _ _).allocR _
  have ha : W.heap[w.heap.size]? = some (.cells #[.int .i64 la, .int .u64 i, .int .i64 m] 130 (0, 0)) := by
    rw [← hW, heap_old _ _ (by rw [size_alloc]; omega)]; exact heap_at _ _ rfl
  have hb : W.heap[w.heap.size + 1]? = some (.cells #[.int .i64 lb, .int .u64 j, .int .i64 n] 130 (0, 0)) := by
    rw [← hW]; exact heap_at _ _ (by rw [size_alloc])
  rw [hW]
  clear hW
  have a1 := (cell_of ha 1).trans rfl
  have a2 := (cell_of ha 2).trans rfl
  have b1 := (cell_of hb 1).trans rfl
  have b2 := (cell_of hb 2).trans rfl
  have al := lt_of ha
  have bl := lt_of hb
  have hC0 := af_drew W
  clear ha hb
  refine pi_start (fun w' => ∃ x : After W, w' = x.w) [] (by kernel_rfl) ?_
  refine pi_t 0 rfl (by kernel_rfl) (by kernel_rfl) (fun _ _ _ _ h => h) (fun K hK => ?_)
  go_big_quiet_op
  refine hK _ ?_
  clear hK K
  refine pi_t 2 rfl (by kernel_rfl) (by kernel_rfl) (fun _ _ _ _ h => h) (fun K hK => ?_)
  go_big_quiet_op
  refine hK _ ?_
  clear hK K
  refine pi_t 5 rfl (by kernel_rfl) (by kernel_rfl) (fun _ _ _ _ h => h) (fun K hK => ?_)
  go_big_quiet_op
  refine hK _ ?_
  clear hK K
  refine pi_t 6 rfl (by kernel_rfl) (by kernel_rfl) (fun _ _ _ _ h => h) (fun K hK => ?_)
  go_big_quiet_op
  refine hK _ ?_
  clear hK K
  refine pi_t 8 rfl (by kernel_rfl) (by kernel_rfl) (fun _ _ _ _ h => h) (fun K hK => ?_)
  go_big_quiet_op
  refine hK _ ?_
  clear hK K
  refine pi_t 9 rfl (by kernel_rfl) (by kernel_rfl) (fun _ _ _ _ h => h) (fun K hK => ?_)
  go_big_quiet_op
  refine hK _ ?_
  clear hK K
  refine pi_c 1 (by assumption) rfl (by kernel_rfl) (by kernel_rfl) (fun _ _ _ _ h => h) (fun K hK => ?_)
  go_big_quiet_op
  refine hK _ ?_
  clear hK K
  refine pi_c 3 (by assumption) rfl (by kernel_rfl) (by kernel_rfl) (fun _ _ _ _ h => h) (fun K hK => ?_)
  go_big_quiet_op
  refine hK _ ?_
  clear hK K
  refine pi_c 7 (by assumption) rfl (by kernel_rfl) (by kernel_rfl) (fun _ _ _ _ h => h) (fun K hK => ?_)
  go_big_quiet_op
  refine hK _ ?_
  clear hK K
  refine pi_c 10 (by assumption) rfl (by kernel_rfl) (by kernel_rfl) (fun _ _ _ _ h => h) (fun K hK => ?_)
  go_big_quiet_op
  refine hK _ ?_
  clear hK K
  refine pi_l 4 rfl (by kernel_rfl) (fun K hK => ?_)
  go_wp2_with (go_at_call 139; refine (CompareI_c n m _).mono ?_; rintro e w1 ⟨rfl, rfl⟩)
  refine hK _ _ (fun _ h => h) ?_
  clear hK K
  refine pi_l 11 rfl (by kernel_rfl) (fun K hK => ?_)
  go_wp2_with (go_at_call 140; refine (CompareU_c i j _).mono ?_; rintro e w1 ⟨rfl, rfl⟩)
  refine hK _ _ (fun _ h => h) ?_
  clear hK K
  refine pi_l 12 rfl (by kernel_rfl) (fun K hK => ?_)
  go_wp2
  refine hK _ _ (fun _ h => af_step h (Ext.alloc' _ _)) ?_
  clear hK K
  refine pi_l 13 rfl (by kernel_rfl) (fun K hK => ?_)
  go_wp2_with (go_at_call 138; refine (OrCmp_c W.heap.size i m j n _ (by simp) (by simp) (by simp)).mono ?_; rintro e w1 ⟨rfl, hx1⟩)
  refine hK _ _ (fun _ h => af_step h hx1) ?_
  clear hK K
  refine pi_t 14 rfl (by kernel_rfl) (by kernel_rfl) (fun _ _ _ _ h => h) (fun K hK => ?_)
  go_big_quiet_op
  refine hK _ ?_
  clear hK K
  refine pi_end (by kernel_rfl) ?_
  go_wp2
  go_ret
  exact ⟨rfl, by (repeat' (first | exact Ext.refl _ | assumption | apply Ext.allocR | apply Ext.drewR | apply Ext.drewNR | (refine Ext.trans' ?_ (by assumption))))⟩
end Go.Proofs.YtfhdjekpdifajaaGreat
