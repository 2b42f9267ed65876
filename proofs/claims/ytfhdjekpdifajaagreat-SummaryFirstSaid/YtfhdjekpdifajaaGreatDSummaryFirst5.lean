/- Part. No condition. -/
import Derived.Test.YtfhdjekpdifajaaGreatDSummaryFirst4
import Derived.Test.YtfhdjekpdifajaaGreatDSummaryFirst2
import Derived.Test.YtfhdjekpdifajaaGreatDSummaryFirst3
import Derived.Test.YtfhdjekpdifajaaGreatDSummaryFirst1
import Derived.Defers
import Derived.WalkMore
import Derived.Laws.EntriesVeiled
namespace Go.Proofs.YtfhdjekpdifajaaGreat
set_option linter.unusedVariables false
open Go.RowKit
def CloPost (w W : World) (b6 : Nat) (pre suf : List (Nat × Int)) (e : Ending) (w' : World) : Prop :=
  e = .returned (.tuple #[]) ∧ ∃ v', w'.heap[b6]? = some (.cells #[v'] 165 (0, 0)) ∧ w'.ownsRow w.heap.size 39 2 v' (pre ++ suf.reverse).length (pcV (pre ++ suf.reverse)) ∧ Ext w w'
/-- What the row at b8 was is turned round. -/
theorem CovW.rev {w W w1 : World} {b6 b8 : Nat} {v6 v8 : Value} {pre suf : List (Nat × Int)} (h : CovW w W b6 b8 v6 v8 pre suf)
    (h1 : w1.ownsRow w.heap.size 39 2 v8 suf.length (pcV suf.reverse)) (hm : Mod (fun k => v8.ownBlock = some k) W w1) : CovW w w1 b6 b8 v6 v8 pre suf.reverse := by
  have k6 := (hm.block b6 (lt_of h.x6) (fun e => own_notB h.o8 h.x6 (by decide) e)).trans h.x6
  have k8 := (hm.block b8 (lt_of h.x8) (fun e => own_notB h.o8 h.x8 (by decide) e)).trans h.x8
  refine ⟨k6, k8, own_keepB h.o6 (fun k hk => hm.block k (own_lt h.o6 hk) (fun e => h.dj k hk e)), by rw [List.length_reverse]; exact h1, h.dj, h.g6, h.g8, h.ne, ?_⟩
  exact ⟨hm.os.trans h.ext.os, hm.tape.trans h.ext.tape, hm.output.trans h.ext.output, Nat.le_trans h.ext.size hm.size, fun k hk => (hm.block k (Nat.lt_of_lt_of_le hk h.ext.size) (fun e => by have := own_blk h.o8 e; omega)).trans (h.ext.block k hk)⟩
set_option maxRecDepth 20000 in
set_option maxHeartbeats 2000000 in
theorem CoverD_c (w W : World) (b6 b8 : Nat) (v6 v8 : Value) (pre suf : List (Nat × Int)) (u : FrameMode) (h : CovW w W b6 b8 v6 v8 pre suf) (hp : pre.length ≤ 100000) (hs : suf.length ≤ 100000) :
    CallsD Tryz.prog 214 #[.pointer (some ⟨b8, 0, none⟩), .pointer (some ⟨b6, 0, none⟩)] u W fun e u' w' => u' = u ∧ CloPost w W b6 pre suf e w' := by
  obtain ⟨i0, z0, hi, hz0, hz1, hz2, hzs⟩ := info_pc
  have c8 := (cell_of h.x8 0).trans rfl
  have l8 := lt_of h.x8
  have HH := Lib.hid h
  clear h
  go_enter_d Tryz.func214, Tryz.ntmps214
  go_wp2_with fail
  refine Calls.mono (Reverse_c suf v8 w.heap.size W HH.out.o8 (by omega)) ?_
  rintro e w1 ⟨rfl, ho, hm⟩
  have h1 := HH.out.rev ho hm
  clear c8 l8 ho hm
  have c6 := (cell_of h1.x6 0).trans rfl
  have c8 := (cell_of h1.x8 0).trans rfl
  have l6 := lt_of h1.x6
  have l8 := lt_of h1.x8
  have f6 := frozen_of h1.x6 0
  have H1 := Lib.hid h1
  clear h1
  go_wp2_with (at_builtin; refine wpList_apppz _ suf.reverse pre v6 w.heap.size 39 H1.out.o6 165 rfl _ _ rfl i0 z0 hi hz0 hz1 hz2 hzs Tryz.underlying165 rfl v8 rfl w.heap.size H1.out.o8 (by rw [List.length_reverse]; omega) H1.out.ext.size ?_)
  intro v' w2 hown hext hcells
  have k6 := hcells _ _ _ H1.out.x6 (by decide)
  have hE := hext w H1.out.ext (Nat.le_refl _)
  have HK := Lib.hid k6
  have c62 := (cell_of k6 0).trans rfl
  have l62 := lt_of k6
  have f62 := frozen_of k6 0
  obtain ⟨pv, cv, rfl⟩ := own_sl hown
  clear hext hcells k6
  go_wp2
  go_end0
  have hlen : (pre ++ suf.reverse).length = pre.length + suf.length := by simp
  refine ⟨rfl, _, by rw [setCell_same HK.out]; rfl, ?_, hE.setR (p := ⟨b6, 0, none⟩) H1.out.g6 _⟩
  rw [hlen]
  exact own_keepB hown (fun k hk => setCell_other _ _ (fun e => own_notB hown HK.out (by decide) (e ▸ hk)))
def CoverPost (w : World) (B : Nat) (lo hi : Int) (e : Ending) (w' : World) : Prop :=
  ((hi < lo ∨ 2 ^ B ≤ hi) ∧ e = .returned (.tuple #[.slice none 0 0, .bool false]) ∧ Ext w w') ∨
  ((lo ≤ hi ∧ hi < 2 ^ B) ∧ ∃ v, e = .returned (.tuple #[v, .bool true]) ∧ w'.ownsRow w.heap.size 39 2 v (covL B 0 lo hi).length (pcV (covL B 0 lo hi)) ∧ Ext w w')
theorem cov_step {B l : Nat} {a b : Int} (hl : l < B) (hne : a ≠ b) : covL (B - l) l a b = (if a % 2 = 1 then [(l, a)] else []) ++
    ((if (if b % 2 = 0 then b - 1 else b) < (if a % 2 = 1 then a + 1 else a) then [] else covL (B - (l + 1)) (l + 1) ((if a % 2 = 1 then a + 1 else a) / 2) ((if b % 2 = 0 then b - 1 else b) / 2)) ++ (if b % 2 = 0 then [(l, b)] else [])) := by
  rw [show B - l = (B - (l + 1)) + 1 by omega]
  conv => lhs; unfold covL
  rw [if_neg hne]
theorem rev_one (c : Prop) [Decidable c] (p : Nat × Int) : (if c then [p] else []).reverse = if c then [p] else [] := by split <;> rfl
set_option maxRecDepth 20000 in
set_option maxHeartbeats 4000000 in
theorem Cover_c (B : Nat) (hB1 : 1 ≤ B) (hB2 : B ≤ 59) (lo hi : Int) (hlo : U64 lo) (hhi : U64 hi) (w : World) :
    Calls Tryz.prog 186 #[.int .i64 B, .int .u64 lo, .int .u64 hi] w (CoverPost w B lo hi) := by
  have hmf : ∀ (fn : Fn) (first cap : Array Value) (w : World), (Instr.makeFunc fn first cap).run Tryz.prog w = .ok (.func fn first cap) w := fun _ _ _ _ => rfl
  obtain ⟨hlo0, hlo1⟩ := hlo
  obtain ⟨hhi0, hhi1⟩ := hhi
  have hpw := pow_bd B hB2
  by_cases h1 : hi < lo
  · go_enter_defers Tryz.func186, Tryz.ntmps186
    go_wp2
    exact ⟨.tuple #[.slice none 0 0, .bool false], by simp [results, Tryz.results186, go_sem], .inl ⟨.inl h1, rfl, Ext.alloc' _ _⟩⟩
  · by_cases h2 : 2 ^ B ≤ hi
    · go_enter_defers Tryz.func186, Tryz.ntmps186
      go_wp2
      exact ⟨.tuple #[.slice none 0 0, .bool false], by simp [results, Tryz.results186, go_sem], .inl ⟨.inr h2, rfl, Ext.alloc' _ _⟩⟩
    · have hcv : CovW w ((w.alloc (.cells #[.slice none 0 0] 165)).alloc (.cells #[.slice none 0 0] 165)) w.heap.size (w.heap.size + 1) (.slice none 0 0) (.slice none 0 0) [] [] :=
        ⟨by rw [heap_old _ _ (by rw [size_alloc]; omega)]; exact heap_at _ _ rfl, heap_at _ _ (size_alloc _ _).symm, ⟨rfl, .inl ⟨rfl, rfl⟩⟩, ⟨rfl, .inl ⟨rfl, rfl⟩⟩, (fun i hi => by simp [Value.ownBlock] at hi), Nat.le_refl _, by omega, by omega, (Ext.alloc' _ _).allocR _⟩
      have HCV := Lib.hid hcv
      have HF := Lib.hid (show (lo ≤ hi ∧ hi < 2 ^ B) from ⟨by omega, by omega⟩)
      obtain ⟨i0, z0, hi0, hz0, hz1, hz2, hzs⟩ := info_pc
      have door : ∀ (W : World) (v6 v8 : Value) (pre suf : List (Nat × Int)) (tm : Array Value), CovW w W w.heap.size (w.heap.size + 1) v6 v8 pre suf → pre.length ≤ 100 → suf.length ≤ 100 → covL B 0 lo hi = pre ++ suf.reverse → tm[6]? = some (.pointer (some ⟨w.heap.size, 0, none⟩)) → tm[7]? = some (.bool true) →
          bodyPostD Tryz.prog Tryz.f186 (CoverPost w B lo hi) .ret { tmps := tm, defers := [{ target := .fn (.func 214) #[.pointer (some ⟨w.heap.size + 1, 0, none⟩), .pointer (some ⟨w.heap.size, 0, none⟩)], args := #[] }] } W := by
        intro W v6 v8 pre suf tm h hp hs hcv t6 t7
        refine leaves_cons (f := 214) (args := #[.pointer (some ⟨w.heap.size + 1, 0, none⟩), .pointer (some ⟨w.heap.size, 0, none⟩)]) (by simp) (by simp [go_sem]) ?_
        refine (CoverD_c w W _ _ v6 v8 pre suf .returning h (by omega) (by omega)).mono ?_
        rintro e u' w'' ⟨rfl, rfl, v', hk, ho, hE⟩
        have hc := (cell_of hk 0).trans rfl
        exact ⟨.tuple #[v', .bool true], by simp [results, Tryz.results186, go_sem, t6, t7, hc], .inr ⟨HF.out, v', rfl, by rw [hcv]; exact ho, hE⟩⟩
      have HD := Lib.hid door
      clear door hcv
      go_enter_defers Tryz.func186, Tryz.ntmps186
      go_wp2_with fail
      go_loopw [1, 2, 9] (fun s1 s2 s9 wr => ∃ (a b : Int) (l : Nat) (pre suf : List (Nat × Int)) (v6 v8 : Value), s1 = .int .u64 a ∧ s2 = .int .u64 b ∧ s9 = .int .i64 l ∧ l ≤ B ∧ 0 ≤ a ∧ a ≤ b ∧ b < 2 ^ (B - l) ∧ pre.length ≤ l ∧ suf.length ≤ l ∧
        covL B 0 lo hi = pre ++ (covL (B - l) l a b ++ suf.reverse) ∧ CovW w wr w.heap.size (w.heap.size + 1) v6 v8 pre suf) (fun _ _ s9 _ => B - (intOf s9).toNat)
      case atStart => exact ⟨lo, hi, 0, [], [], _, _, rfl, rfl, rfl, Nat.zero_le _, hlo0, by omega, by rw [Nat.sub_zero]; omega, Nat.le_refl _, Nat.le_refl _, by simp, HCV.out⟩
      case round =>
        obtain ⟨a, b, l, pre, suf, v6, v8, rfl, rfl, rfl, hl, ha0, hab, hbb, hpl, hsl, hcov, hW⟩ := hrel
        have hpw2 := pow_bd (B - l) (by omega)
        have HC := Lib.hid hcov
        have c6 := (cell_of hW.x6 0).trans rfl
        have c8 := (cell_of hW.x8 0).trans rfl
        have l6 := lt_of hW.x6
        have l8 := lt_of hW.x8
        have f6 := frozen_of hW.x6 0
        have f8 := frozen_of hW.x8 0
        have hsz := hW.ext.size
        have HW := Lib.hid hW
        clear hcov hW
        by_cases he : a = b
        · subst he
          go_wp2_with (at_builtin; refine wpList_appp _ (l, a) pre v6 w.heap.size 39 39 HW.out.o6 165 rfl _ _ rfl i0 z0 hi0 hz0 hz1 hz2 hzs Tryz.underlying165 rfl rfl (by omega) HW.out.ext.size ?_)
          intro v' w' hw1 hw2 hw3
          have hW1 := HW.out.app hw1 hw2 hw3
          have hk0 := HW.out.app0 hw2
          obtain ⟨pv, cv, rfl⟩ := own_sl hw1
          have W1 := Lib.hid hW1
          have j6 := (cell_of hk0 0).trans rfl
          have j6l := lt_of hk0
          have j6f := frozen_of hk0 0
          have k6 := (cell_of hW1.x6 0).trans rfl
          have k6l := lt_of hW1.x6
          have k6f := frozen_of hW1.x6 0
          clear hw1 hw2 hw3 hW1 hk0
          go_wp2
          refine HD.out _ _ _ _ _ _ W1.out.set ?_ ?_ ?_ rfl rfl
          · rw [List.length_append, List.length_singleton]; omega
          · omega
          · rw [HC.out, cov_self, List.append_assoc]
        · have hl2 : l < B := by
            rcases Nat.lt_or_ge l B with h | h
            · exact h
            · rw [show B - l = 0 by omega] at hbb
              have : b < 1 := hbb
              omega
          have ha1 := and_1 a ha0 (by omega)
          have hb1 := and_1 b (by omega) (by omega)
          have hstep := cov_step hl2 he
          have h3 : (if a % 2 = 1 then a + 1 else a) % 2 = 0 ∧ a ≤ (if a % 2 = 1 then a + 1 else a) ∧ (if a % 2 = 1 then a + 1 else a) ≤ b := by split <;> omega
          have h4 : (if b % 2 = 0 then b - 1 else b) % 2 = 1 ∧ (if b % 2 = 0 then b - 1 else b) ≤ b ∧ a ≤ (if b % 2 = 0 then b - 1 else b) := by split <;> omega
          have h5 : (if a % 2 = 1 then a + 1 else a) ≤ (if b % 2 = 0 then b - 1 else b) + 1 := by split <;> split <;> omega
          have h6 : (if a % 2 = 1 then [(l, a)] else []).length ≤ 1 ∧ (if b % 2 = 0 then [(l, b)] else []).length ≤ 1 := by constructor <;> split <;> simp
          have h7 := rev_one (b % 2 = 0) (l, b)
          obtain ⟨a2, ha2⟩ : ∃ a2, (if a % 2 = 1 then a + 1 else a) = a2 := ⟨_, rfl⟩
          obtain ⟨b2, hb2⟩ : ∃ b2, (if b % 2 = 0 then b - 1 else b) = b2 := ⟨_, rfl⟩
          obtain ⟨L, hL⟩ : ∃ L, (if a % 2 = 1 then [(l, a)] else []) = L := ⟨_, rfl⟩
          obtain ⟨R, hR⟩ : ∃ R, (if b % 2 = 0 then [(l, b)] else []) = R := ⟨_, rfl⟩
          rw [ha2] at h3 h5
          rw [hb2] at h4 h5
          rw [hL, hR] at h6
          rw [hR] at h7
          rw [ha2, hb2, hL, hR] at hstep
          obtain ⟨h31, h32, h33⟩ := h3
          obtain ⟨h41, h42, h43⟩ := h4
          have HS := Lib.hid hstep
          have H6 := Lib.hid h6
          have H7 := Lib.hid h7
          have HA := Lib.hid ha2
          have HBB := Lib.hid hb2
          have HL := Lib.hid hL
          have HR := Lib.hid hR
          clear hstep h6 h7 ha2 hb2 hL hR
          go_upto_if 42 with (fail)
          go_cut [1] from 30 to 69 (fun s1 wx => ∃ v6' : Value, s1 = .int .u64 a2 ∧ CovW w wx w.heap.size (w.heap.size + 1) v6' v8 (pre ++ L) suf)
          case first =>
            have hA2 := HA.out
            have hL2 := HL.out
            by_cases ho : a % 2 = 1
            · rw [if_pos ho] at hA2 hL2
              subst hA2 hL2
              go_wp2_with (at_builtin; refine wpList_appp _ (l, a) pre v6 w.heap.size 39 39 HW.out.o6 165 rfl _ _ rfl i0 z0 hi0 hz0 hz1 hz2 hzs Tryz.underlying165 rfl rfl (by omega) HW.out.ext.size ?_)
              intro v' w' hw1 hw2 hw3
              have hW1 := HW.out.app hw1 hw2 hw3
              have hk0 := HW.out.app0 hw2
              obtain ⟨pv, cv, rfl⟩ := own_sl hw1
              have W1 := Lib.hid hW1
              have j6 := (cell_of hk0 0).trans rfl
              have j6l := lt_of hk0
              have j6f := frozen_of hk0 0
              clear hw1 hw2 hw3 hW1 hk0
              go_wp2
              go_meet
              exact ⟨_, rfl, W1.out⟩
            · rw [if_neg ho] at hA2 hL2
              subst hA2 hL2
              have ho2 : (a % 2 == 1) = false := by simp; omega
              go_wp2_with fail
              go_meet
              exact ⟨v6, rfl, by rw [List.append_nil]; exact HW.out⟩
          case rest =>
            obtain ⟨v6', rfl, hW2⟩ := hcut
            clear HW c6 c8 l6 l8 f6 f8 ha1
            have c8 := (cell_of hW2.x8 0).trans rfl
            have l8 := lt_of hW2.x8
            have f8 := frozen_of hW2.x8 0
            have HW2 := Lib.hid hW2
            clear hW2
            go_upto_if 53 with (fail)
            go_cut [2] from 30 to 69 (fun s2 wx => ∃ v8' : Value, s2 = .int .u64 b2 ∧ CovW w wx w.heap.size (w.heap.size + 1) v6' v8' (pre ++ L) (suf ++ R))
            case first =>
              have hB2 := HBB.out
              have hR2 := HR.out
              by_cases ho : b % 2 = 0
              · rw [if_pos ho] at hB2 hR2
                subst hB2 hR2
                go_wp2_with (at_builtin; refine wpList_appp _ (l, b) suf v8 w.heap.size 39 39 HW2.out.o8 165 rfl _ _ rfl i0 z0 hi0 hz0 hz1 hz2 hzs Tryz.underlying165 rfl rfl (by omega) HW2.out.ext.size ?_)
                intro v' w' hw1 hw2 hw3
                have hW1 := HW2.out.symm.app hw1 hw2 hw3
                have hk0 := HW2.out.symm.app0 hw2
                obtain ⟨pv, cv, rfl⟩ := own_sl hw1
                have W1 := Lib.hid hW1
                have j8 := (cell_of hk0 0).trans rfl
                have j8l := lt_of hk0
                have j8f := frozen_of hk0 0
                clear hw1 hw2 hw3 hW1 hk0
                go_wp2
                go_meet
                exact ⟨_, rfl, W1.out.symm⟩
              · rw [if_neg ho] at hB2 hR2
                subst hB2 hR2
                have ho2 : (b % 2 == 0) = false := by simp; omega
                go_wp2_with fail
                go_meet
                exact ⟨v8, rfl, by rw [List.append_nil]; exact HW2.out⟩
            case rest =>
              obtain ⟨v8', rfl, hW3⟩ := hcut
              clear HW2 c8 l8 f8 hb1
              have c6 := (cell_of hW3.x6 0).trans rfl
              have l6 := lt_of hW3.x6
              have f6 := frozen_of hW3.x6 0
              have HW3 := Lib.hid hW3
              clear hW3
              by_cases hlt : b2 < a2
              · obtain ⟨p6, n6, q6, hv6⟩ : ∃ p n c, v6' = .slice p n c := by obtain ⟨p, c, h⟩ := own_sl HW3.out.o6; exact ⟨p, _, c, h⟩
                subst hv6
                go_wp2_with fail
                refine HD.out _ _ _ _ _ _ HW3.out.set ?_ ?_ ?_ rfl rfl
                · rw [List.length_append]; have := H6.out.1; omega
                · rw [List.length_append]; have := H6.out.2; omega
                · rw [HC.out, HS.out, if_pos hlt, List.reverse_append, H7.out, List.nil_append, List.append_assoc, List.append_assoc]
              · go_wp2_with fail
                go_roundw
                case rel =>
                  refine ⟨a2 / 2, b2 / 2, l + 1, pre ++ L, suf ++ R, v6', v8', by go_num, by go_num, by go_num, by omega, by omega, by omega, ?_, ?_, ?_, ?_, HW3.out⟩
                  · have e : (2 : Int) ^ (B - l) = 2 * 2 ^ (B - (l + 1)) := by rw [show B - l = B - (l + 1) + 1 by omega]; exact pw_succ _
                    omega
                  · rw [List.length_append]; have := H6.out.1; omega
                  · rw [List.length_append]; have := H6.out.2; omega
                  · rw [HC.out, HS.out, if_neg hlt, List.reverse_append, H7.out]; simp only [List.append_assoc]
                case measure => simp [intOf]; omega
end Go.Proofs.YtfhdjekpdifajaaGreat
namespace Go.Proofs.YtfhdjekpdifajaaGreat
set_option linter.unusedVariables false
open Go.RowKit
def KFedPost (w : World) (C : Cfg) (us : List (Int × Int)) (i j : Nat) (e : Ending) (w' : World) : Prop :=
  ∃ (s g : Nat) (L : Nat → Lev), e = .returned (.tuple #[.pointer (some ⟨s, 0, none⟩), .agg #[.int .i64 C.bits, .int .i64 C.rows, .int .i64 C.width, .int .i64 C.mode, .int .u64 C.seed]]) ∧
    KAt w' s g C C.bits.toNat L (feedK C (fus us i j)) ∧ w.heap.size ≤ s ∧ w.heap.size ≤ g ∧ KFresh w.heap.size C.bits.toNat L ∧ Ext w w'
end Go.Proofs.YtfhdjekpdifajaaGreat
namespace Go.Proofs.YtfhdjekpdifajaaGreat
set_option linter.unusedVariables false
open Go.RowKit
theorem keys_pow (C : Cfg) (n : Nat) : keys C n = 2 ^ (C.bits - n).toNat := rfl
set_option maxRecDepth 20000 in
set_option maxHeartbeats 2000000 in
/-- There is such a piece. -/
theorem is_c (C : Cfg) (h : C.Ok) (n : Nat) (hn : (n : Int) ≤ C.bits) (j : Int) (hj0 : 0 ≤ j) (hj1 : j < keys C n) (w : World) :
    Calls Tryz.prog 190 #[.int .i64 C.bits, .agg #[.int .i64 n, .int .u64 j]] w fun e w' => e = .returned (.bool true) ∧ Ext w w' := by
  have b1 := h.b1
  have b2 := h.b2
  have hp := pow_bd (C.bits - n).toNat (by omega)
  rw [keys_pow] at hj1
  go_enter Tryz.func190, Tryz.ntmps190
  go_wp2
  have hsub : 0 ≤ C.bits - (n : Int) := by omega
  refine wp_region_after (by kernel_rfl) (by kernel_rfl) ?_
  repeat (go_big_quiet_step (fail))
  refine wpQuiet_nil ?_
  rintro _ ⟨xx, rfl⟩
  obtain ⟨w1, hb1⟩ := xx
  try dsimp only
  have e : decide (j < IntKind.u64.wrap (2 ^ (C.bits.toNat - n))) = true := by
    rw [show C.bits.toNat - n = (C.bits - n).toNat by omega, IntKind.wrap_u64]
    exact decide_eq_true (by omega)
  rw [e]
  have hE : Ext w w1 := by (repeat' (first | exact Ext.refl _ | assumption | apply Ext.allocR | apply Ext.drewR | apply Ext.drewNR | (refine Ext.trans' ?_ (by assumption))))
  clear hb1
  go_wp2
  go_ret
  exact ⟨rfl, hE⟩
def PB (b n : Nat) (j : Int) (W : World) : Prop := W.heap[b]? = some (.cells #[.int .i64 (n + 1 : Nat), .int .u64 j] 39 (0, 0))
theorem pb_set {b n : Nat} {j : Int} {W : World} (i o : Nat) (u : Value) (h : i ≠ b) (hb : PB b n j W) : PB b n j (W.setCell ⟨i, o, none⟩ u) := by
  unfold PB at *
  rw [setCell_other _ _ (Ne.symm h)]; exact hb
set_option maxRecDepth 20000 in
set_option maxHeartbeats 2000000 in
theorem Halves_c (C : Cfg) (h : C.Ok) (n : Nat) (hn : ((n + 1 : Nat) : Int) ≤ C.bits) (j : Int) (hj0 : 0 ≤ j) (hj1 : j < keys C (n + 1 : Nat)) (w : World) :
    Calls Tryz.prog 145 #[.int .i64 C.bits, .agg #[.int .i64 (n + 1 : Nat), .int .u64 j]] w fun e w' => e = .returned (.tuple #[.agg #[.int .i64 n, .int .u64 (2 * j)], .agg #[.int .i64 n, .int .u64 (2 * j + 1)], .bool true]) ∧ Ext w w' := by
  have b1 := h.b1
  have b2 := h.b2
  have hp := keys_bd C h (n + 1 : Nat) (Int.natCast_nonneg _)
  go_enter Tryz.func145, Tryz.ntmps145
  go_wp2_with fail
  refine (is_c C h (n + 1) hn j hj0 hj1 _).mono ?_
  rintro e w1 ⟨rfl, hb⟩
  have hE : Ext w w1 := by (repeat' (first | exact Ext.refl _ | assumption | apply Ext.allocR | apply Ext.drewR | apply Ext.drewNR | (refine Ext.trans' ?_ (by assumption))))
  have hbx : w1.heap[w.heap.size]? = some (.cells #[.int .i64 (n + 1 : Nat), .int .u64 j] 39 (0, 0)) := by
    rw [hb.block _ (by simp only [size_alloc]; omega), heap_old _ _ (by simp only [size_alloc]; omega), heap_old _ _ (by rw [size_alloc]; omega)]
    exact heap_at _ _ rfl
  have hbl : w1.heap[w.heap.size + 1]? = some (.cells #[.int .i64 0, .int .u64 0] 39 (0, 0)) := by
    rw [hb.block _ (by simp only [size_alloc]; omega), heap_old _ _ (by simp only [size_alloc]; omega)]
    exact heap_at _ _ (by rw [size_alloc])
  have hbr : w1.heap[w.heap.size + 2]? = some (.cells #[.int .i64 0, .int .u64 0] 39 (0, 0)) := by
    rw [hb.block _ (by simp only [size_alloc]; omega)]
    exact heap_at _ _ (by simp only [size_alloc])
  have c0 := (cell_of hbx 0).trans rfl
  have c1 := (cell_of hbx 1).trans rfl
  have cl := lt_of hbx
  have l0 := (cell_of hbl 0).trans rfl
  have l1 := (cell_of hbl 1).trans rfl
  have ll := lt_of hbl
  have r0 := (cell_of hbr 0).trans rfl
  have r1 := (cell_of hbr 1).trans rfl
  have rl := lt_of hbr
  have fl0 := frozen_of hbl 0
  have fl1 := frozen_of hbl 1
  have fr0 := frozen_of hbr 0
  have fr1 := frozen_of hbr 1
  clear hb
  go_wp2
  have hne : Nonempty (Holds (PB w.heap.size n j)) := ⟨⟨w1, hbx⟩⟩
  have hS0 : ∀ x : Holds (PB w.heap.size n j), x.w.cell? ⟨w.heap.size, 0, none⟩ = some (.int .i64 (n + 1 : Nat)) := fun x => (cell_of x.h 0).trans rfl
  have hS1 : ∀ x : Holds (PB w.heap.size n j), x.w.cell? ⟨w.heap.size, 1, none⟩ = some (.int .u64 j) := fun x => (cell_of x.h 1).trans rfl
  have hC0 : ∃ x : Holds (PB w.heap.size n j), w1.drew = x.w := hs_mk hbx
  refine pi_start (fun w' => ∃ x : Holds (PB w.heap.size n j), w' = x.w) [] (by kernel_rfl) ?_
  refine pi_t 0 rfl (by kernel_rfl) (by kernel_rfl) (fun _ _ _ _ h => h) (fun K hK => ?_)
  go_big_quiet_op
  refine hK _ ?_
  clear hK K
  refine pi_c 1 (by assumption) rfl (by kernel_rfl) (by kernel_rfl) (fun _ _ _ _ h => h) (fun K hK => ?_)
  go_big_quiet_op
  refine hK _ ?_
  clear hK K
  refine pi_t 2 rfl (by kernel_rfl) (by kernel_rfl) (fun _ _ _ _ h => h) (fun K hK => ?_)
  go_big_quiet_op
  refine hK _ ?_
  clear hK K
  refine pi_t 3 rfl (by kernel_rfl) (by kernel_rfl) (fun _ _ _ _ h => h) (fun K hK => ?_)
  go_big_quiet_op
  refine hK _ ?_
  clear hK K
  refine pi_c 4 (by assumption) rfl (by kernel_rfl) (by kernel_rfl) (fun _ _ _ _ h => h) (fun K hK => ?_)
  go_big_quiet_op
  refine hK _ ?_
  clear hK K
  refine pi_t 5 rfl (by kernel_rfl) (by kernel_rfl) (fun _ _ _ _ h => h) (fun K hK => ?_)
  go_big_quiet_op
  refine hK _ ?_
  clear hK K
  refine pi_t 6 rfl (by kernel_rfl) (by kernel_rfl) (fun _ _ _ _ h => h) (fun K hK => ?_)
  go_big_quiet_op
  refine hK _ ?_
  clear hK K
  refine pi_t 7 rfl (by kernel_rfl) (by kernel_rfl) (fun _ _ _ _ h => h) (fun K hK => ?_)
  go_big_quiet_op
  refine hK _ ?_
  clear hK K
  refine pi_c 8 (by assumption) rfl (by kernel_rfl) (by kernel_rfl) (fun _ _ _ _ h => h) (fun K hK => ?_)
  go_big_quiet_op
  refine hK _ ?_
  clear hK K
  refine pi_t 9 rfl (by kernel_rfl) (by kernel_rfl) (fun _ _ _ _ h => h) (fun K hK => ?_)
  go_big_quiet_op
  refine hK _ ?_
  clear hK K
  refine pi_t 10 rfl (by kernel_rfl) (by kernel_rfl) (fun _ _ _ _ h => h) (fun K hK => ?_)
  go_big_quiet_op
  refine hK _ ?_
  clear hK K
  refine pi_c 11 (by assumption) rfl (by kernel_rfl) (by kernel_rfl) (fun _ _ _ _ h => h) (fun K hK => ?_)
  go_big_quiet_op
  refine hK _ ?_
  clear hK K
  refine pi_t 12 rfl (by kernel_rfl) (by kernel_rfl) (fun _ _ _ _ h => h) (fun K hK => ?_)
  go_big_quiet_op
  refine hK _ ?_
  clear hK K
  refine pi_t 13 rfl (by kernel_rfl) (by kernel_rfl) (fun _ _ _ _ h => h) (fun K hK => ?_)
  go_big_quiet_op
  refine hK _ ?_
  clear hK K
  refine pi_t 14 rfl (by kernel_rfl) (by kernel_rfl) (fun _ _ _ _ h => h) (fun K hK => ?_)
  go_big_quiet_op
  refine hK _ ?_
  clear hK K
  refine pi_l 15 rfl (by kernel_rfl) (fun K hK => ?_)
  go_wp2
  refine hK _ _ (fun _ _ => hs_mk (pb_set _ _ _ (by omega) (pb_set _ _ _ (by omega) hbx))) ?_
  clear hK K
  refine pi_l 16 rfl (by kernel_rfl) (fun K hK => ?_)
  go_wp2
  refine hK _ _ (fun _ _ => hs_mk (pb_set _ _ _ (by omega) (pb_set _ _ _ (by omega) (pb_set _ _ _ (by omega) (pb_set _ _ _ (by omega) hbx))))) ?_
  clear hK K
  refine pi_t 17 rfl (by kernel_rfl) (by kernel_rfl) (fun _ _ _ _ h => h) (fun K hK => ?_)
  go_big_quiet_op
  refine hK _ ?_
  clear hK K
  refine pi_end (by kernel_rfl) ?_
  go_wp2_with fail
  have hEf : Ext w ((((w1.setCell ⟨w.heap.size + 1, 0, none⟩ (.int .i64 n)).setCell ⟨w.heap.size + 1, 1, none⟩ (.int .u64 (2 * j))).setCell ⟨w.heap.size + 1 + 1, 0, none⟩ (.int .i64 n)).setCell ⟨w.heap.size + 1 + 1, 1, none⟩ (.int .u64 (2 * j + 1))) :=
    (((hE.setR (p := ⟨w.heap.size + 1, 0, none⟩) (by show w.heap.size ≤ w.heap.size + 1; omega) _).setR (p := ⟨w.heap.size + 1, 1, none⟩) (by show w.heap.size ≤ w.heap.size + 1; omega) _).setR (p := ⟨w.heap.size + 1 + 1, 0, none⟩) (by show w.heap.size ≤ w.heap.size + 1 + 1; omega) _).setR (p := ⟨w.heap.size + 1 + 1, 1, none⟩) (by show w.heap.size ≤ w.heap.size + 1 + 1; omega) _
  have e1 : ((((w1.setCell ⟨w.heap.size + 1, 0, none⟩ (.int .i64 n)).setCell ⟨w.heap.size + 1, 1, none⟩ (.int .u64 (2 * j))).setCell ⟨w.heap.size + 1 + 1, 0, none⟩ (.int .i64 n)).setCell ⟨w.heap.size + 1 + 1, 1, none⟩ (.int .u64 (2 * j + 1))).heap[w.heap.size + 1]? = some (.cells #[.int .i64 n, .int .u64 (2 * j)] 39 (0, 0)) := by
    rw [setCell_other _ _ (by omega), setCell_other _ _ (by omega)]
    exact set2 hbl _ _
  have e2 : ((((w1.setCell ⟨w.heap.size + 1, 0, none⟩ (.int .i64 n)).setCell ⟨w.heap.size + 1, 1, none⟩ (.int .u64 (2 * j))).setCell ⟨w.heap.size + 1 + 1, 0, none⟩ (.int .i64 n)).setCell ⟨w.heap.size + 1 + 1, 1, none⟩ (.int .u64 (2 * j + 1))).heap[w.heap.size + 1 + 1]? = some (.cells #[.int .i64 n, .int .u64 (2 * j + 1)] 39 (0, 0)) :=
    set2 (by rw [setCell_other _ _ (by omega), setCell_other _ _ (by omega)]; exact hbr) _ _
  generalize (((w1.setCell ⟨w.heap.size + 1, 0, none⟩ (.int .i64 n)).setCell ⟨w.heap.size + 1, 1, none⟩ (.int .u64 (2 * j))).setCell ⟨w.heap.size + 1 + 1, 0, none⟩ (.int .i64 n)).setCell ⟨w.heap.size + 1 + 1, 1, none⟩ (.int .u64 (2 * j + 1)) = Wf at *
  have r0 := (cell_of e1 0).trans rfl
  have r1 := (cell_of e1 1).trans rfl
  have r2 := (cell_of e2 0).trans rfl
  have r3 := (cell_of e2 1).trans rfl
  exact bodyPost_ret (v := .tuple #[.agg #[.int .i64 n, .int .u64 (2 * j)], .agg #[.int .i64 n, .int .u64 (2 * j + 1)], .bool true]) (by simp [results, Tryz.results145, go_sem, r0, r1, r2, r3]) rfl ⟨rfl, Below.drew hEf⟩
end Go.Proofs.YtfhdjekpdifajaaGreat
namespace Go.Proofs.YtfhdjekpdifajaaGreat
set_option linter.unusedVariables false
open Go.RowKit
@[go_sem] theorem fld_bits (b r c m s : Int) (w : World) : (Instr.field 24 (.agg #[.int .i64 b, .int .i64 r, .int .i64 c, .int .i64 m, .int .u64 s]) 0).run Tryz.prog w = .ok (.int .i64 b) w := by kernel_rfl
theorem run_slice60 (b t : Nat) (ht : t ≤ 59) (w : World) : (Instr.sliceAt 232 (.pointer (some ⟨b, 0, none⟩)) none (some (.int .i64 ((t : Int) + 1))) none).run Tryz.prog w = .ok (.slice (some ⟨b, 0, none⟩) (t + 1) 60) w := by
  have hlen : Tryz.prog.arrayLen 232 = 60 := by kernel_rfl
  have hs : (sizeOf (Tryz.prog.elem 232)).run Tryz.prog w = .ok 2 w := by kernel_rfl
  rw [run_sliceAt_array_h w 232 ⟨b, 0, none⟩ (by kernel_rfl) .i64 _ (by omega) (by rw [hlen]; omega), hs, hlen]
  simp only [Result.andThen, slicedAt]
  rw [show ((t : Int) + 1).toNat = t + 1 by omega]
  rfl
/-- One more piece is laid into the way. -/
theorem way_set {W : World} {b : Nat} {cur : Array Value} {T : TypeId} {dn : List (Nat × Int)} (hb : W.heap[b]? = some (.cells cur T (0, 0))) (hs : cur.size = 120) (hp : PCells W b 0 dn) (hl : dn.length < 60) (m : Nat) (j : Int) :
    (∃ cur', ((W.setCell ⟨b, dn.length * 2, none⟩ (.int .i64 m)).setCell ⟨b, dn.length * 2 + 1, none⟩ (.int .u64 j)).heap[b]? = some (.cells cur' T (0, 0)) ∧ cur'.size = 120) ∧
    PCells ((W.setCell ⟨b, dn.length * 2, none⟩ (.int .i64 m)).setCell ⟨b, dn.length * 2 + 1, none⟩ (.int .u64 j)) b 0 (dn ++ [(m, j)]) := by
  have h2 := setCell_same (setCell_same hb (dn.length * 2) (.int .i64 m)) (dn.length * 2 + 1) (.int .u64 j)
  refine ⟨⟨_, h2, by simp [hs]⟩, fun k hk => ?_⟩
  rw [List.length_append] at hk
  simp only [List.length_cons, List.length_nil] at hk
  rw [cell_of h2, cell_of h2]
  by_cases h : k < dn.length
  · have e : (dn ++ [(m, j)]).getD k (0, 0) = dn.getD k (0, 0) := by
      rw [List.getD_eq_getElem?_getD, List.getD_eq_getElem?_getD, List.getElem?_append_left h]
    obtain ⟨a1, a2⟩ := hp k h
    rw [cell_of hb] at a1 a2
    rw [e]
    constructor
    · rw [Array.getElem?_setIfInBounds_ne (by omega), Array.getElem?_setIfInBounds_ne (by omega)]; exact a1
    · rw [Array.getElem?_setIfInBounds_ne (by omega), Array.getElem?_setIfInBounds_ne (by omega)]; exact a2
  · obtain rfl : k = dn.length := by omega
    have e : (dn ++ [(m, j)]).getD dn.length (0, 0) = (m, j) := by simp
    rw [e, Nat.zero_add]
    constructor
    · rw [Array.getElem?_setIfInBounds_ne (by omega), Array.getElem?_setIfInBounds_self_of_lt (by omega)]
    · rw [Array.getElem?_setIfInBounds_self_of_lt (by rw [Array.size_setIfInBounds]; omega)]
theorem keys_half {C : Cfg} {m : Nat} (h : ((m + 1 : Nat) : Int) ≤ C.bits) : keys C m = 2 * keys C (m + 1 : Nat) := by
  unfold keys
  rw [show (C.bits - (m : Int)).toNat = (C.bits - ((m + 1 : Nat) : Int)).toNat + 1 by omega, Int.pow_succ, Int.mul_comm]
end Go.Proofs.YtfhdjekpdifajaaGreat
namespace Go.Proofs.YtfhdjekpdifajaaGreat
set_option linter.unusedVariables false
open Go.RowKit
attribute [local go_sem] Oper.semAt_some
/-- What Point tells is one number. -/
def Uniq (C : Cfg) (B : Nat) (ls : Nat → List Int) (pt : Nat → Int → Int) : Prop := ∀ (n : Nat) (i x : Int), n ≤ B → 0 ≤ i → i < keys C n → lvPt C n (ls n) i x → x = pt n i
def cvV (pt : Nat → Int → Int) (B : Nat) (lo hi : Int) : List Int := (covL B 0 lo hi).map fun p => pt p.1 p.2
def PartsPost (w : World) (B : Nat) (pt : Nat → Int → Int) (lo hi : Int) (e : Ending) (w' : World) : Prop :=
  (hi < lo ∧ e = .returned (.tuple #[.slice none 0 0, .int .i64 1]) ∧ Ext w w') ∨
  ((lo ≤ hi ∧ 2 ^ B ≤ hi) ∧ e = .returned (.tuple #[.slice none 0 0, .int .i64 2]) ∧ Ext w w') ∨
  ((lo ≤ hi ∧ hi < 2 ^ B) ∧ ∃ v, e = .returned (.tuple #[v, .int .i64 0]) ∧ w'.ownsRow w.heap.size 2 1 v (cvV pt B lo hi).length (ints (cvV pt B lo hi)) ∧ Ext w w')
set_option maxRecDepth 20000 in
set_option maxHeartbeats 1000000 in
/-- The closure that asks for a piece. -/
theorem PartsAsk_c (s g : Nat) (C : Cfg) (B : Nat) (L : Nat → Lev) (ls : Nat → List Int) (pt : Nat → Int → Int) (hU : Uniq C B ls pt) (b : Nat) (n : Nat) (i : Int) (hn : n ≤ B) (h0 : 0 ≤ i) (h1 : i < keys C n) (w : World) (h : KAt w s g C B L ls)
    (hb : w.cell? ⟨b, 0, none⟩ = some (.pointer (some ⟨s, 0, none⟩))) (hbl : b < w.heap.size) :
    Calls Tryz.prog 187 #[.agg #[.int .i64 n, .int .u64 i], .pointer (some ⟨b, 0, none⟩)] w fun e w' => e = .returned (.int .i64 (pt n i)) ∧ Ext w w' := by
  have HH := Lib.hid h
  clear h
  go_enter Tryz.func187, Tryz.ntmps187
  go_wp2_with fail
  refine Calls.mono (KPoint_c s g C B L ls _ (HH.out.ext (Ext.alloc' _ _)) n hn i h0 h1) ?_
  rintro e w1 ⟨x, rfl, hx, hx1⟩
  have hE : Ext w w1 := (Ext.alloc' _ _).trans' hx1
  obtain rfl := hU n i x hn h0 h1 hx
  go_wp2
  go_ret
  exact ⟨rfl, hE⟩
set_option maxRecDepth 100000 in
set_option maxHeartbeats 4000000 in
theorem Parts_c (s g : Nat) (C : Cfg) (B : Nat) (L : Nat → Lev) (ls : Nat → List Int) (w : World) (h : KAt w s g C B L ls) (pt : Nat → Int → Int) (hU : Uniq C B ls pt) (lo hi : Int) (hlo : U64 lo) (hhi : U64 hi) :
    Calls Tryz.prog 143 #[.pointer (some ⟨s, 0, none⟩), .int .u64 lo, .int .u64 hi] w (PartsPost w B pt lo hi) := by
  have hmf : ∀ (fn : Fn) (first cap : Array Value) (w : World), (Instr.makeFunc fn first cap).run Tryz.prog w = .ok (.func fn first cap) w := fun _ _ _ _ => rfl
  have hok := h.ok
  have hB := h.hB
  have hb1 := hok.b1
  have hb2 := hok.b2
  have hls := h.lts
  have HH := Lib.hid h
  have hkk : ∀ n : Nat, n ≤ B → keys C n = 2 ^ (B - n) := fun n hn => by unfold keys; rw [hB]; congr 1; omega
  have HB := Lib.hid hB
  have HK := Lib.hid hkk
  clear h hkk
  refine (callsIn_wide (n := 5)).1 ?_
  refine callsIn_of_wp_marks Tryz.func143 rfl trivial ?_ rfl
  simp only [Tryz.ntmps143, List.size_toArray, List.length_cons, List.length_nil, Nat.reduceAdd, Nat.reduceSub, Array.replicate_succ, Array.replicate_zero, List.push_toArray, List.append_toArray, List.nil_append, List.cons_append]
  by_cases hlt : hi < lo
  · gi_wp2_with fail
    exact ⟨_, results_tmp2 rfl _ _ _, .inl ⟨hlt, rfl, Ext.alloc' _ _⟩⟩
  · gi_wp2_with fail
    refine ⟨trivial, (callsIn_wide.2 (SKConfig_c s g C B L ls _ (HH.out.ext (Ext.alloc' _ _)))).mono ?_⟩
    rintro e w1 ⟨rfl, hx1⟩
    have hE1 : Ext w w1 := (Ext.alloc' _ _).trans' hx1
    have hp1 := hx1.keep (heap_at w (.cells #[.pointer (some ⟨s, 0, none⟩)] 28) rfl)
    clear hx1
    rw [HB.out]
    gi_wp2_with fail
    refine ⟨trivial, (callsIn_wide.2 (Cover_c B (by omega) (by omega) lo hi hlo hhi _)).mono ?_⟩
    rintro e w2 (⟨hc, rfl, hx2⟩ | ⟨hc, v, rfl, ho, hx2⟩)
    · gi_wp2_with fail
      exact ⟨_, results_tmp2 rfl _ _ _, .inr (.inl ⟨by omega, rfl, hE1.trans' hx2⟩)⟩
    · have hE2 := hE1.trans' hx2
      have hp2 := hx2.keep hp1
      obtain ⟨pv, cv, rfl⟩ := own_sl ho
      have hsz2 := hE2.size
      have HO := Lib.hid ho
      clear ho hx2 hE1 hp1
      gi_wp2_with fail
      refine ⟨trivial, (callsIn_wide.2 (Values_c pv _ cv _)).mono ?_⟩
      rintro e w3 ⟨rfl, rfl⟩
      gi_wp2_with fail
      obtain ⟨W0, hW0⟩ : ∃ W0, ((w2.alloc (.cells #[.func (.func 187) #[] #[.pointer (some ⟨w.heap.size, 0, none⟩)]] 275)).alloc (.cells #[.slice none 0 0] 43)).alloc (.cells #[.slice pv (covL B 0 lo hi).length cv] 165) = W0 := ⟨_, rfl⟩
      have hsz0 : W0.heap.size = w2.heap.size + 3 := by rw [← hW0]; simp
      have hx0 : Ext w2 W0 := by rw [← hW0]; exact ((Ext.alloc' _ _).allocR _).allocR _
      have b0 : Boxed W0 w2.heap.size 275 (.func (.func 187) #[] #[.pointer (some ⟨w.heap.size, 0, none⟩)]) := by rw [← hW0]; exact ((Boxed.new w2 _ _).alloc _).alloc _
      have b1 : Boxed W0 (w2.heap.size + 1) 43 (.slice none 0 0) := by
        have := (Boxed.new (w2.alloc (.cells #[.func (.func 187) #[] #[.pointer (some ⟨w.heap.size, 0, none⟩)]] 275)) 43 (.slice none 0 0)).alloc (.cells #[.slice pv (covL B 0 lo hi).length cv] 165)
        rw [World.size_alloc] at this
        rw [← hW0]; exact this
      have b2 : W0.cell? ⟨w2.heap.size + 1 + 1, 0, none⟩ = some (.slice pv (covL B 0 lo hi).length cv) := by
        rw [← hW0]
        exact (cell_of (heap_at _ _ (by simp)) 0).trans rfl
      rw [hW0]
      clear hW0
      have hpcs : PcsAt w2.heap.size W0 (.slice pv (covL B 0 lo hi).length cv) (covL B 0 lo hi) := (PcsAt.of_own HO.out (Nat.le_refl _)).below hx0
      have hbd := cov_bd B 0 lo hi hlo.1 hc.1 hc.2
      have hlv := cov_lev B 0 lo hi
      have hlen := cov_len B 0 lo hi
      have HBD := Lib.hid hbd
      have HLV := Lib.hid hlv
      have HLEN := Lib.hid hlen
      have HC := Lib.hid hc
      clear hbd hlv hc hlen
      refine wpIn_rangeFunc_ownH rfl (by decide) (gf := 216) (lb := #[.pointer (some ⟨w2.heap.size + 1 + 1, 0, none⟩)]) rfl trivial (enters_of Tryz.func216 (by kernel_rfl) rfl)
        (values_stops 4 (w2.heap.size + 1 + 1) w2.heap.size _ (covL B 0 lo hi) (by have := HLEN.out; omega) W0 (by omega) (by omega) b2 hpcs) belowK_t (belowK_b (by omega)) (Below.refl _ _) (fun _ => rfl)
        (fun pre W => ((∃ v, Boxed W (w2.heap.size + 1) 43 v ∧ W.ownsRow w2.heap.size 2 1 v (pre.map (fun x => pt x.1.1 x.1.2)).length (ints (pre.map (fun x => pt x.1.1 x.1.2))) ∧ True) ∧ Boxed W w2.heap.size 275 (.func (.func 187) #[] #[.pointer (some ⟨w.heap.size, 0, none⟩)])) ∧ Below w2.heap.size w2 W)
        (fun _ _ _ => False)
        (OwnFrom.and (OwnFrom.and (Own.from (holdsRow_own w2.heap.size (w2.heap.size + 1) 43 2 1 (fun pre : List {p : Nat × Int // p ∈ covL B 0 lo hi} => (pre.map (fun x => pt x.1.1 x.1.2)).length) (fun pre => ints (pre.map (fun x => pt x.1.1 x.1.2))) (fun _ _ => True)) _) (Own.from (boxed_own _ _ _) _)) (ownFrom_below (Nat.le_refl _) (by omega)))
        (fun _ _ _ _ _ hs _ _ => hs)
        ⟨⟨⟨_, b1, ⟨rfl, .inl ⟨rfl, rfl⟩⟩, trivial⟩, b0⟩, hx0⟩
        (fun x a' W => ∃ Bx, w2.heap.size + 1 < Bx ∧ W.heap[Bx]? = some (.cells #[.int .i64 (x.1.1 : Int), .int .u64 x.1.2] 39 (0, 0)) ∧ a' = { tmps := #[.pointer (some ⟨s, 0, none⟩), .int .u64 lo, .int .u64 hi, .pointer (some ⟨w.heap.size, 0, none⟩), undef, undef, .slice none 0 0, .int .i64 0, .slice pv (covL B 0 lo hi).length cv, .bool true, .pointer (some ⟨w2.heap.size, 0, none⟩), .pointer (some ⟨w2.heap.size + 1, 0, none⟩), .pointer (some ⟨Bx, 0, none⟩), .int .u64 lo, .int .u64 hi, .bool false, .tuple #[.slice pv (covL B 0 lo hi).length cv, .bool true], .pointer (some ⟨s, 0, none⟩), .agg #[.int .i64 B, .int .i64 C.rows, .int .i64 C.width, .int .i64 C.mode, .int .u64 C.seed], .int .i64 B, .int .u64 lo, .int .u64 hi, .tuple #[.slice pv (covL B 0 lo hi).length cv, .bool true], .slice pv (covL B 0 lo hi).length cv, .bool true, .bool true, .bool false, .func (.func 187) #[] #[.pointer (some ⟨w.heap.size, 0, none⟩)], .slice pv (covL B 0 lo hi).length cv, .func (.func 216) #[] #[.pointer (some ⟨w2.heap.size + 1 + 1, 0, none⟩)], .agg #[.int .i64 (x.1.1 : Int), .int .u64 x.1.2], undef, undef, undef, undef, undef, undef, undef], defers := [] })
        (fun x a' _ X Y row hs hg hr => by
          obtain ⟨Bx, h1, h2, h3⟩ := hs
          refine ⟨Bx, h1, (hg.block Bx (lt_of h2) (fun e => ?_)).trans h2, h3⟩
          obtain ⟨_, o, ho, hc⟩ := hr Bx e.symm
          rw [h2] at ho; cases ho; cases hc)
        ?assign ?body ?done ?stop
      case assign =>
        rintro l pre x W K ⟨⟨⟨v, hv, hrow, _⟩, hf⟩, hB1⟩ hK
        have := hB1.size
        have := hv.lt
        dsimp only [pcEnc]
        gi_wp2
        exact hK _ _ ((KeepsOthers.alloc _ _).from _) ((Below.refl _ W).alloc hB1.size _) ⟨⟨⟨v, hv.alloc _, hrow.alloc _, trivial⟩, hf.alloc _⟩, hB1.alloc hB1.size _⟩ ⟨W.heap.size, hv.lt, heap_at _ _ rfl, rfl⟩
      case body =>
        rintro l pre x a' W hl _ ⟨⟨⟨v, hv, hrow, _⟩, hf⟩, hB1⟩ ⟨Bx, hBx, hx, rfl⟩ hlen
        have hlv := HLV.out x.1 x.2
        have hbd := HBD.out x.1 x.2
        have hlv2 : x.1.1 ≤ B := by omega
        have hlt2 : x.1.2 < keys C x.1.1 := by rw [HK.out _ hlv2]; rw [Nat.zero_add] at hbd; exact hbd.2
        have hK1 := (HH.out.ext hE2).ext hB1
        have hE4 : Ext w2 W := hB1
        have hp3 := hE4.keep hp2
        have hpl := lt_of hp3
        have hpc := (cell_of hp3 0).trans rfl
        have hvl := hv.lt
        have hvc := hv.cell
        have hfl := hf.lt
        have hfc := hf.cell
        have hxl := lt_of hx
        have x0 := (cell_of hx 0).trans rfl
        have x1 := (cell_of hx 1).trans rfl
        have hsW := hB1.size
        obtain ⟨pw, nw, cw, hvw⟩ : ∃ p n c, v = .slice p n c := by obtain ⟨p, c, h⟩ := own_sl hrow; exact ⟨p, _, c, h⟩
        subst hvw
        obtain ⟨S, hS⟩ : ∃ S : Nat → Prop, S = fun k => (Value.slice pw nw cw).ownBlock = some k := ⟨_, rfl⟩
        have nS1 : ¬ S (w2.heap.size + 1) := by rw [hS]; exact fun e => hv.not_row (by decide) hrow e.symm
        have nS0 : ¬ S w2.heap.size := by rw [hS]; exact fun e => hf.not_row (by decide) hrow e.symm
        have nSx : ¬ S Bx := by rw [hS]; exact own_notB hrow hx (by decide)
        have HS := Lib.hid hS
        clear hS
        have HV := Lib.hid hv
        have HF := Lib.hid hf
        have HR := Lib.hid hrow
        have HX := Lib.hid hx
        clear hv hf hrow hx hp3
        gi_wp2
        refine pi_startR (fun w' => ∃ x : AftS S W, w' = x.w) [6] (by kernel_rfl) (fun ⟨_, _, hh⟩ => hh) (by kernel_rfl) ?_
        have hC0 := afs_drew S W
        refine pi_c 0 (by assumption) rfl (by kernel_rfl) (by kernel_rfl) (fun _ _ _ _ h => h) (fun K hK => ?_)
        go_big_quiet_op
        refine hK _ ?_
        clear hK K
        refine pi_c 1 (by assumption) rfl (by kernel_rfl) (by kernel_rfl) (fun _ _ _ _ h => h) (fun K hK => ?_)
        go_big_quiet_op
        refine hK _ ?_
        clear hK K
        refine pi_c 2 (by assumption) rfl (by kernel_rfl) (by kernel_rfl) (fun _ _ _ _ h => h) (fun K hK => ?_)
        go_big_quiet_op
        refine hK _ ?_
        clear hK K
        refine pi_l 3 rfl (by kernel_rfl) (fun K hK => ?_)
        go_wp2_with fail
        refine Calls.mono (PartsAsk_c s g C B L ls pt hU w.heap.size x.1.1 x.1.2 hlv2 hbd.1 hlt2 _ (hK1.ext (Below.drew (Ext.refl W))) hpc hpl) ?_
        rintro e w3 ⟨rfl, hx3⟩
        go_wp2
        refine hK _ _ (fun _ h => afs_step h hx3) ?_
        clear hK K
        refine pi_l 4 rfl (by kernel_rfl) (fun K hK => ?_)
        go_wp2
        refine hK _ _ (fun _ h => afs_step h (Ext.alloc' _ _)) ?_
        clear hK K
        have hE3 : Ext W w3 := Ext.trans' (Below.drew (Ext.refl W)) hx3
        have hv3 : Boxed w3 (w2.heap.size + 1) 43 _ := hE3.keep HV.out
        have hr3 := own_ext HR.out hE3
        have hs3 := hE3.size
        refine pi_l 5 rfl (by kernel_rfl) (fun K hK => ?_)
        go_wp2_with (at_builtin; refine wpList_app1 w3 (pt x.1.1 x.1.2) _ _ w2.heap.size 2 hr3 43 rfl _ _ rfl info_i64 Tryz.underlying43 rfl rfl ?a1 ?a2 ?_)
        case a1 => have := HLEN.out; rw [List.length_map]; omega
        case a2 => omega
        intro v' w4 hown4 hg4 _
        obtain ⟨q1, q2, q3, q4, q5⟩ := Boxed.appended hv3 (by decide) hr3 (by omega) (by omega) hown4 hg4
        obtain ⟨pv4, nv4, cv4, hv4⟩ : ∃ p n c, v' = .slice p n c := by obtain ⟨p, c, h⟩ := own_sl hown4; exact ⟨p, _, c, h⟩
        subst hv4
        have q1c := q1.cell
        have q1l := q1.lt
        have q1f := q1.frozen
        have Q := Lib.hid (And.intro q2 (And.intro q3 (And.intro q4 q5)))
        have hf4 : Boxed w4 w2.heap.size 275 (.func (.func 187) #[] #[.pointer (some ⟨w.heap.size, 0, none⟩)]) := ((show Boxed w3 w2.heap.size _ _ from hE3.keep HF.out).alloc _).kept hg4 ((show Boxed w3 w2.heap.size _ _ from hE3.keep HF.out).not_row (by decide) hr3)
        have HF4 := Lib.hid hf4
        have hcl : ∃ x : AftS S W, w4 = x.w := ⟨⟨w4, mod_grown (hE3.mod S) hg4 (fun i hi => by rw [HS.out]; exact hi)⟩, rfl⟩
        clear hown4 hg4 q1 q2 q3 q4 q5 hf4
        go_wp2
        refine hK _ _ (fun _ _ => hcl) ?_
        clear hK K
        refine pi_l 6 rfl (by kernel_rfl) (fun K hK => ?_)
        go_wp2
        refine hK _ _ (by simp) ?_
        clear hK K
        refine pi_end (by kernel_rfl) ?_
        obtain ⟨q2, q3, q4, q5⟩ := Q.out
        have hbw : Below w2.heap.size W (w4.setCell ⟨w2.heap.size + 1, 0, none⟩ (.slice pv4 nv4 cv4)) := Below.trans (hE3.mono hsW) q5
        refine ⟨((keepsO_ext hE3).trans q4).from _, hbw, ⟨⟨_, q2, ?_, trivial⟩, HF4.out.other (by omega) _⟩, hB1.trans hbw⟩
        rw [List.map_append, List.length_append, List.length_map]
        exact q3
      case done =>
        rintro D xs W hD hxs ⟨⟨⟨v, hv, hrow, _⟩, hf⟩, hB1⟩ hK
        have hvl := hv.lt
        have hvc := hv.cell
        have hsW := hB1.size
        have HR := Lib.hid hrow
        clear hrow hv hf
        gi_wp2
        refine ⟨by simp, .inl ⟨_, _, rfl, run_takeDeferred hK, ?_⟩⟩
        have hcv : xs.map (fun x => pt x.1.1 x.1.2) = cvV pt B lo hi := by
          unfold cvV
          have hxs' : xs.map (fun x : {p : Nat × Int // p ∈ covL B 0 lo hi} => x.1) = covL B 0 lo hi := hxs
          conv => rhs; rw [← hxs']
          rw [List.map_map]; rfl
        have hr := ownsRow_putObj HR.out (.deferred none) hK rfl
        rw [hcv] at hr
        exact ⟨_, results_tmp2 rfl _ _ _, .inr (.inr ⟨HC.out, v, rfl, own_mono hr hsz2, (hE2.trans' hB1).trans (belowK_b (w := w) (Nat.le_refl _) W D _ _ (by omega) hK rfl rfl)⟩)⟩
      case stop =>
        rintro D c pre W _ _ h _
        exact h.elim
def RangePost (w : World) (B : Nat) (pt : Nat → Int → Int) (lo hi : Int) (e : Ending) (w' : World) : Prop :=
  ((hi < lo ∧ e = .returned (.tuple #[.int .i64 0, .int .i64 1])) ∨ ((lo ≤ hi ∧ 2 ^ B ≤ hi) ∧ e = .returned (.tuple #[.int .i64 0, .int .i64 2])) ∨
  ((lo ≤ hi ∧ hi < 2 ^ B) ∧ I64 (lsum (cvV pt B lo hi)) ∧ e = .returned (.tuple #[.int .i64 (lsum (cvV pt B lo hi)), .int .i64 0])) ∨
  ((lo ≤ hi ∧ hi < 2 ^ B) ∧ ¬ I64 (lsum (cvV pt B lo hi)) ∧ e = .returned (.tuple #[.int .i64 0, .int .i64 4]))) ∧ Ext w w'
set_option maxRecDepth 20000 in
set_option maxHeartbeats 2000000 in
theorem Range_c (s g : Nat) (C : Cfg) (B : Nat) (L : Nat → Lev) (ls : Nat → List Int) (w : World) (h : KAt w s g C B L ls) (pt : Nat → Int → Int) (hU : Uniq C B ls pt) (hI : ∀ n i, I64 (pt n i)) (lo hi : Int) (hlo : U64 lo) (hhi : U64 hi) :
    Calls Tryz.prog 80 #[.pointer (some ⟨s, 0, none⟩), .int .u64 lo, .int .u64 hi] w (RangePost w B pt lo hi) := by
  have hlen : (cvV pt B lo hi).length ≤ 1152921504606846976 := by
    unfold cvV
    rw [List.length_map]
    have := cov_len B 0 lo hi
    have h2 := h.ok.b2
    have h3 := h.hB
    omega
  have hall : ∀ x ∈ cvV pt B lo hi, I64 x := by
    intro x hx
    unfold cvV at hx
    simp only [List.mem_map] at hx
    obtain ⟨p, _, rfl⟩ := hx
    exact hI _ _
  have HH := Lib.hid h
  have HL := Lib.hid hlen
  have HA := Lib.hid hall
  clear h hlen hall
  go_enter Tryz.func80, Tryz.ntmps80
  go_wp2_with fail
  refine Calls.mono (Parts_c s g C B L ls _ HH.out pt hU lo hi hlo hhi) ?_
  rintro e w1 (⟨hc, rfl, hx⟩ | ⟨hc, rfl, hx⟩ | ⟨hc, v, rfl, ho, hx⟩)
  · go_wp2_with fail
    go_ret2
    exact ⟨.inl ⟨hc, rfl⟩, hx⟩
  · go_wp2_with fail
    go_ret2
    exact ⟨.inr (.inl ⟨hc, rfl⟩), hx⟩
  · have HC := Lib.hid hc
    clear hc
    go_wp2_with fail
    refine Calls.mono (Sum_c _ v w1 HA.out HL.out (IntsAt.of_row ho)) ?_
    rintro e w2 ⟨rfl, hx2⟩
    by_cases hT : I64 (lsum (cvV pt B lo hi))
    · rw [fitB_yes hT, fitN_yes hT]
      go_wp2_with fail
      go_ret2
      exact ⟨.inr (.inr (.inl ⟨HC.out, hT, rfl⟩)), hx.trans' hx2⟩
    · rw [fitB_no hT]
      go_wp2_with fail
      go_ret2
      exact ⟨.inr (.inr (.inr ⟨HC.out, hT, rfl⟩)), hx.trans' hx2⟩
end Go.Proofs.YtfhdjekpdifajaaGreat
namespace Go.Proofs.YtfhdjekpdifajaaGreat
set_option linter.unusedVariables false
open Go.RowKit
/-- The pairs that a stack is told. -/
def psU (C : Cfg) (us : List (Int × Int)) : List (Int × Int) := stP C 0 (fus us 0 60)
open Classical in
/-- What a piece is told. -/
noncomputable def ptK (C : Cfg) (B : Nat) (us : List (Int × Int)) (n : Nat) (i : Int) : Int :=
  if h : n ≤ B ∧ 0 ≤ i ∧ i < keys C n ∧ ∃ x, lvPt C n (feedK C (fus us 0 60) n) i x then Classical.choose h.2.2.2 else pcS (psU C us) n i
theorem ptK_of {C : Cfg} {B : Nat} {us : List (Int × Int)} {n : Nat} {i x : Int} (hn : n ≤ B) (h0 : 0 ≤ i) (h1 : i < keys C n) (h : lvPt C n (feedK C (fus us 0 60) n) i x) : x = ptK C B us n i := by
  have hx : n ≤ B ∧ 0 ≤ i ∧ i < keys C n ∧ ∃ x, lvPt C n (feedK C (fus us 0 60) n) i x := ⟨hn, h0, h1, x, h⟩
  unfold ptK
  rw [dif_pos hx]
  exact lvPt_unique h (Classical.choose_spec hx.2.2.2)
theorem hasK_pc (C : Cfg) (us : List (Int × Int)) (n : Nat) (j : Int) : hasK C us 60 n j = pcS (psU C us) n j := by
  unfold hasK hasP pcS psU
  exact sumIf_stP C n _ _
/-- Of an exact level. -/
theorem ptK_x {C : Cfg} (hok : C.Ok) {B : Nat} (hB : C.bits = B) {us : List (Int × Int)} (hus : UpsOk us) {n : Nat} (hn : n ≤ B) {i : Int} (h0 : 0 ≤ i) (h1 : i < keys C n) (hx : isX C n = true) : ptK C B us n i = pcS (psU C us) n i := by
  have h : lvPt C n (feedK C (fus us 0 60) n) i ((feedK C (fus us 0 60) n).getD i.toNat 0) := .inl ⟨hx, rfl⟩
  rw [← ptK_of hn h0 h1 h, ← hasK_pc]
  exact pt_x hok (by omega) hus hx h0 h
end Go.Proofs.YtfhdjekpdifajaaGreat
namespace Go.Proofs.YtfhdjekpdifajaaGreat
set_option linter.unusedVariables false
open Go.RowKit
theorem uniq_fed (C : Cfg) (B : Nat) (us : List (Int × Int)) : Uniq C B (feedK C (fus us 0 60)) (ptK C B us) := fun n i x hn h0 h1 h => ptK_of hn h0 h1 h
end Go.Proofs.YtfhdjekpdifajaaGreat
namespace Go.Proofs.YtfhdjekpdifajaaGreat
set_option linter.unusedVariables false
open Go.RowKit
set_option maxRecDepth 20000 in
set_option maxHeartbeats 4000000 in
theorem fed19_c (x : Cfg) (hx : x.Raw) (nb : Int) (hn1 : 1 ≤ nb) (hn2 : nb ≤ 20) (us : List (Int × Int)) (hus : UpsOk us) (v : Value) (w : World) (hv : UpsAt w v us) (hul : us.length ≤ 140737488355328) :
    Calls Tryz.prog 78 #[.agg #[.int .i64 x.bits, .int .i64 x.rows, .int .i64 x.width, .int .i64 x.mode, .int .u64 x.seed, v], .int .i64 nb] w (KFedPost w (mkC x nb 9) us 0 60) := by
  obtain ⟨vp, vc, rfl⟩ := hv.sl
  have HV := Lib.hid hv
  have hok := mkC_ok x hx.s (nb := nb) (nw := 9) hn1 hn2 (by decide) (by decide)
  have hbits1 := hok.b1
  have hbits2 := hok.b2
  clear hv
  go_enter Tryz.func78, Tryz.ntmps78
  go_wp2_with fail
  refine (Any_c x hx nb 9 hn1 hn2 (by decide) (by decide) _).mono ?_
  rintro e w1 ⟨rfl, hb1⟩
  have hs1 := hb1.size
  simp only [size_alloc] at hs1
  have kp : w1.heap[w.heap.size]? = some (.cells #[.int .i64 x.bits, .int .i64 x.rows, .int .i64 x.width, .int .i64 x.mode, .int .u64 x.seed, .slice vp us.length vc] 107 (0, 0)) := by
    rw [hb1.block _ (by simp only [size_alloc]; omega), heap_old _ _ (by rw [size_alloc]; omega)]
    exact heap_at _ _ rfl
  have kr : w1.heap[w.heap.size + 1]? = some (.cells #[.int .i64 0, .int .i64 0, .int .i64 0, .int .i64 0, .int .u64 0] 24 (0, 0)) := by
    rw [hb1.block _ (by simp only [size_alloc]; omega)]
    exact heap_at _ _ (by simp only [size_alloc])
  have hE1 : Ext w w1 := by (repeat' (first | exact Ext.refl _ | assumption | apply Ext.allocR | apply Ext.drewR | apply Ext.drewNR | (refine Ext.trans' ?_ (by assumption))))
  clear hb1
  generalize mkC x nb 9 = C at *
  go_upto_region 2 with (fail)
  obtain ⟨wc, hwc⟩ : ∃ wc, w1.alloc (.cells #[.int .i64 C.bits, .int .i64 C.rows, .int .i64 C.width, .int .i64 C.mode, .int .u64 C.seed] 24) = wc := ⟨_, rfl⟩
  have kc : wc.heap[w1.heap.size]? = some (.cells #[.int .i64 C.bits, .int .i64 C.rows, .int .i64 C.width, .int .i64 C.mode, .int .u64 C.seed] 24 (0, 0)) := by rw [← hwc]; exact heap_at _ _ rfl
  have hxc : Ext w1 wc := by rw [← hwc]; exact Ext.alloc' _ _
  try rw [hwc]
  clear hwc
  have hsc := hxc.size
  have hcl := lt_of kc
  have kp2 := hxc.keep kp
  have kr2 := hxc.keep kr
  have hEc : Ext w wc := hE1.trans' hxc
  have hCc := CfgAt.of kc
  have c0 := hCc.c0
  have c1 := hCc.c1
  have c2 := hCc.c2
  have c3 := hCc.c3
  have c4 := hCc.c4
  clear hCc kp kr hE1 hxc
  go_wp2_with fail
  refine (KNew_c C hok _).mono ?_
  rintro e w2 ⟨s, g, L, rfl, hK, hs, hg, hL, hx2⟩
  obtain ⟨B, hB⟩ : ∃ B : Nat, C.bits = B := ⟨C.bits.toNat, by omega⟩
  have hBt : C.bits.toNat = B := by omega
  rw [hBt] at hK hL
  have hBd : B ≤ 59 := by omega
  have HB := Lib.hid hB
  have HBT := Lib.hid hBt
  have hE2 : Ext w w2 := hEc.trans' hx2
  have hs2 := hx2.size
  have KP := Lib.hid (hx2.keep kp2)
  have KR := Lib.hid (hx2.keep kr2)
  have KC := Lib.hid (hx2.keep kc)
  have hF : KFresh wc.heap.size B L := hL
  have hnc : ∀ k, k < wc.heap.size → ¬ cellsOf B L k := fun k hk hc => by obtain ⟨n, hn, rfl⟩ := hc; have := (hF n hn).2.2; omega
  clear hx2 c0 c1 c2 c3 c4 hL hB hBt kp2 kr2 kc
  go_wp2
  have hM0 : Mod (cellsOf B L) w2 w2 := Mod.refl _ _
  have hK0 : KAt w2 s g C B L (feedK C (fus us 0 0)) := by rw [fus_self]; exact hK
  clear hK
  go_loopw [9] (fun u wr => ∃ k : Nat, 0 ≤ k ∧ (k = 0 ∨ (k ≤ 60 ∧ k ≤ us.length)) ∧ u = .int .i64 k ∧ Mod (cellsOf B L) w2 wr ∧ KAt wr s g C B L (feedK C (fus us 0 k))) (fun u _ => 60 - (intOf u).toNat)
  case atStart => exact ⟨0, Nat.le_refl _, .inl rfl, rfl, hM0, hK0⟩
  case round =>
    clear hM0 hK0
    obtain ⟨k, hik, hkj, rfl, hM, hK⟩ := hrel
    have hMs := hM.size
    have hsz1 := hEc.size
    have qp := hM.keep KP.out (hnc _ (by omega))
    have qc := hM.keep KC.out (hnc _ hcl)
    have q5 := (cell_of qp 5).trans rfl
    have lp := lt_of qp
    have lc := lt_of qc
    have hCq := CfgAt.of qc
    have c0 := hCq.c0
    have c1 := hCq.c1
    have c2 := hCq.c2
    have c3 := hCq.c3
    have c4 := hCq.c4
    clear hCq
    by_cases hgo : k < us.length ∧ k < 60
    · obtain ⟨hg1, hg2⟩ := hgo
      have hkj60 : k < 60 := by omega
      obtain ⟨ug, off, rfl, hul0, d0', d1'⟩ := HV.out.one hg1
      have hnu : ¬ cellsOf B L ug := hnc _ (by omega)
      have d0 := (mcell hM (b := ug) (by omega) hnu (off + k * 2)).trans (((bcell hE2).1 _ _ hul0).trans d0')
      have d1 := (mcell hM (b := ug) (by omega) hnu (off + k * 2 + 1)).trans (((bcell hE2).1 _ _ hul0).trans d1')
      have hgl2 : ug < wr.heap.size := by omega
      have hf := fus_snoc us (Nat.zero_le k) hg1
      have hu := hus _ (List.getElem_mem hg1)
      have hget : us.getD k (0, 0) = us[k] := by simp [hg1]
      rw [hget] at hf
      generalize us[k] = uu at *
      obtain ⟨uk, ud⟩ := uu
      have HF := Lib.hid hf
      clear hf hget d0' d1'
      have herr := feedK_ok C hok HB.out (fus us 0 k) (by have := fus_len us 0 k; omega) (uk, ud)
      have HERR := Lib.hid herr
      have HQ := Lib.hid qp
      have HK := Lib.hid hK
      clear herr qp qc hK
      go_upto_region 8 with (fail)
      go_cut [10] (fun s10 wx => ∃ bu : Nat, s10 = .pointer (some ⟨bu, 0, none⟩) ∧ wx.heap[bu]? = some (.cells #[.int .u64 (cutK C 0 uk), .int .i64 (cutD C.mode ud)] 138 (0, 0)) ∧ Ext wr wx ∧ wr.heap.size ≤ bu)
      case first =>
        have hC0 := af_drew wr
        refine pi_start (fun w' => ∃ x : After wr, w' = x.w) [] (by kernel_rfl) ?_
        refine pi_c 0 (by assumption) rfl (by kernel_rfl) (by kernel_rfl) (fun _ _ _ _ h => h) (fun K hK => ?_)
        go_big_quiet_op
        refine hK _ ?_
        clear hK K
        refine pi_t 1 rfl (by kernel_rfl) (by kernel_rfl) (fun _ _ _ _ h => h) (fun K hK => ?_)
        go_big_quiet_op
        refine hK _ ?_
        clear hK K
        refine pi_c 2 (by assumption) rfl (by kernel_rfl) (by kernel_rfl) (fun _ _ _ _ h => h) (fun K hK => ?_)
        go_big_quiet_op
        refine hK _ ?_
        clear hK K
        refine pi_t 3 rfl (by kernel_rfl) (by kernel_rfl) (fun _ _ _ _ h => h) (fun K hK => ?_)
        go_big_quiet_op
        refine hK _ ?_
        clear hK K
        refine pi_t 4 rfl (by kernel_rfl) (by kernel_rfl) (fun _ _ _ _ h => h) (fun K hK => ?_)
        go_big_quiet_op
        refine hK _ ?_
        clear hK K
        refine pi_c 5 (by assumption) rfl (by kernel_rfl) (by kernel_rfl) (fun _ _ _ _ h => h) (fun K hK => ?_)
        go_big_quiet_op
        refine hK _ ?_
        clear hK K
        refine pi_b 6 7 rfl rfl (by kernel_rfl) (fun K hK => ?_) (fun K hK => ?_)
        · go_wp2_with (go_at_call 81; refine (Cut15_c C hok uk ud hu.1 hu.2 _).mono ?_; rintro e w3 ⟨rfl, hx3⟩)
          have hx3' : Ext wr w3 := Ext.trans' (Below.drew (Ext.refl wr)) hx3
          have hs3 := hx3'.size
          refine hK _ _ (fun _ h => af_step h hx3) ?_
          clear hK K
          refine pi_l 7 rfl (by kernel_rfl) (fun K hK => ?_)
          go_wp2
          refine hK _ _ (fun _ h => af_step h (Ext.alloc' _ _)) ?_
          clear hK K
          refine pi_l 8 rfl (by kernel_rfl) (fun K hK => ?_)
          go_wp2
          refine hK _ _ (fun _ _ => ⟨⟨_, hx3'.allocR _⟩, rfl⟩) ?_
          clear hK K
          refine pi_end (by kernel_rfl) ?_
          go_wp2_with fail
          go_meet
          exact ⟨w3.heap.size, rfl, heap_at _ _ rfl, hx3'.allocR _, hs3⟩
        · go_wp2
          refine hK _ _ (fun _ h => af_step h (Ext.alloc' _ _)) ?_
          clear hK K
          refine pi_l 6 rfl (by kernel_rfl) (fun K hK => ?_)
          go_wp2_with (go_at_call 81; refine (Cut15_c C hok uk ud hu.1 hu.2 _).mono ?_; rintro e w3 ⟨rfl, hx3⟩)
          refine hK _ _ (fun _ h => af_step h hx3) ?_
          clear hK K
          have hs3 : (wr.alloc (.cells #[.int .u64 0, .int .i64 0] 138)).heap.size ≤ w3.heap.size := hx3.size
          rw [size_alloc] at hs3
          have hx3' : Ext wr w3 := Ext.trans' (Ext.alloc' wr _) (Ext.trans' (Below.drew (Ext.refl _)) hx3)
          have hbx : w3.heap[wr.heap.size]? = some (.cells #[.int .u64 0, .int .i64 0] 138 (0, 0)) := by
            rw [hx3.block _ (by show _ < (wr.alloc _).heap.size; rw [size_alloc]; exact Nat.lt_succ_self _)]
            exact heap_at wr _ rfl
          have p0 := (cell_of hbx 0).trans rfl
          have p1 := (cell_of hbx 1).trans rfl
          have f0 := frozen_of hbx 0
          have f1 := frozen_of hbx 1
          refine pi_l 8 rfl (by kernel_rfl) (fun K hK => ?_)
          go_wp2
          refine hK _ _ (fun _ _ => ⟨⟨_, (hx3'.setR (Nat.le_refl _) _).setR (Nat.le_refl _) _⟩, rfl⟩) ?_
          clear hK K
          refine pi_end (by kernel_rfl) ?_
          go_wp2_with fail
          go_meet
          exact ⟨wr.heap.size, rfl, set2 hbx _ _, (hx3'.setR (Nat.le_refl _) _).setR (Nat.le_refl _) _, Nat.le_refl _⟩
      case rest =>
        obtain ⟨bu, rfl, hbu, hxw, hbul⟩ := hcut
        have b0 := (cell_of hbu 0).trans rfl
        have b1 := (cell_of hbu 1).trans rfl
        have hdI : I64 (cutD C.mode ud) := by have := cutD_bd C.mode ud; unfold I64; omega
        have hkU : U64 (cutK C 0 uk) := by have := cutK_bd C hok 0 uk (Int.le_refl 0); have := keys_bd C hok 0 (Int.le_refl 0); unfold U64; omega
        clear c0 c1 c2 c3 c4 q5 d0 d1
        go_wp2_with fail
        refine Calls.mono (KUpdate_c s g C B L _ _ _ _ (HK.out.ext hxw) hdI hkU) ?_
        rintro e w4 ⟨rfl, hK4, hM4⟩
        rw [HERR.out] at hK4 ⊢
        go_wp2
        go_roundw
        case rel =>
          refine ⟨k + 1, by omega, .inr ⟨by omega, by omega⟩, by go_num, hM.trans ((hxw.mod _).trans hM4), ?_⟩
          rw [HF.out, feedK_snoc]
          exact hK4
        case measure => simp [intOf]; omega
    · have hfe := fus_end us (i := 0) (j := 60) (k := k) (by omega) (by omega) hkj hgo
      have HFE := Lib.hid hfe
      have qr := hM.keep KR.out (hnc _ (by omega))
      have p0 := (cell_of qr 0).trans rfl
      have p1 := (cell_of qr 1).trans rfl
      have p2 := (cell_of qr 2).trans rfl
      have p3 := (cell_of qr 3).trans rfl
      have p4 := (cell_of qr 4).trans rfl
      have f0 := frozen_of qr 0
      have f1 := frozen_of qr 1
      have f2 := frozen_of qr 2
      have f3 := frozen_of qr 3
      have f4 := frozen_of qr 4
      clear hfe
      have hEr : Ext w wr := Below.trans hE2 (hM.below (B := w.heap.size) (by omega) (fun k hk => by obtain ⟨n, hn, rfl⟩ := hk; have := (hF n hn).2.2; omega))
      have hend : ∀ Wf : World, Ext w Wf → (∀ j, j ≠ w.heap.size + 1 → Wf.heap[j]? = wr.heap[j]?) → KFedPost w C us 0 60 (.returned (.tuple #[.pointer (some ⟨s, 0, none⟩), .agg #[.int .i64 C.bits, .int .i64 C.rows, .int .i64 C.width, .int .i64 C.mode, .int .u64 C.seed]])) Wf := by
        intro Wf hEf hof
        refine ⟨s, g, L, rfl, ?_, by omega, by omega, fun n hn => ?_, hEf⟩
        · rw [HBT.out, ← HFE.out]
          have hlo : ∀ k, k ≠ w.heap.size + 1 → Wf.heap[k]? = wr.heap[k]? := hof
          refine ⟨by rw [hlo s (by omega)]; exact hK.ex, by rw [hlo g (by omega)]; exact hK.row, fun n hn => (hK.lev n hn).keep (hlo _ ?_) (hlo _ ?_) (hlo _ ?_), hK.sep, hK.ok, hK.hB⟩
          all_goals
            have := hF n hn
            omega
        · have := hF n (by rw [HBT.out] at hn; exact hn)
          omega
      have HEND := Lib.hid hend
      have HK := Lib.hid hK
      clear hend hK
      by_cases hg1 : k < us.length
      · have hg2 : ¬ k < 60 := fun h => hgo ⟨hg1, h⟩
        go_wp2
        have hC0 := af_drew wr
        refine pi_start (fun w' => ∃ x : After wr, w' = x.w) [3] (by kernel_rfl) ?_
        refine pi_t 0 rfl (by kernel_rfl) (by kernel_rfl) (fun _ _ _ _ h => h) (fun K hK => ?_)
        go_big_quiet_op
        refine hK _ ?_
        clear hK K
        refine pi_c 1 (by assumption) rfl (by kernel_rfl) (by kernel_rfl) (fun _ _ _ _ h => h) (fun K hK => ?_)
        go_big_quiet_op
        refine hK _ ?_
        clear hK K
        refine pi_t 2 rfl (by kernel_rfl) (by kernel_rfl) (fun _ _ _ _ h => h) (fun K hK => ?_)
        go_big_quiet_op
        refine hK _ ?_
        clear hK K
        refine pi_l 3 rfl (by kernel_rfl) (fun K hK => ?_)
        go_wp2
        refine hK _ _ (by simp) ?_
        clear hK K
        refine pi_end (by kernel_rfl) ?_
        go_wp2_with fail
        refine fin5 (Φ := fun W' => bodyPost _ _ _ _ _ W'.drew) (w := w) (W := wr) qr hEr (by omega) ?_
        intro Wf hf hE5 hof _
        have q0 := (cell_of hf 0).trans rfl
        have q1 := (cell_of hf 1).trans rfl
        have q2 := (cell_of hf 2).trans rfl
        have q3 := (cell_of hf 3).trans rfl
        have q4 := (cell_of hf 4).trans rfl
        exact bodyPost_ret (v := .tuple #[.pointer (some ⟨s, 0, none⟩), .agg #[.int .i64 C.bits, .int .i64 C.rows, .int .i64 C.width, .int .i64 C.mode, .int .u64 C.seed]]) (by simp [results, Tryz.results78, go_sem, q0, q1, q2, q3, q4]) rfl (HEND.out _ (Below.drew hE5) hof)
      · go_wp2
        have hC0 := af_drew wr
        refine pi_start (fun w' => ∃ x : After wr, w' = x.w) [3] (by kernel_rfl) ?_
        refine pi_t 0 rfl (by kernel_rfl) (by kernel_rfl) (fun _ _ _ _ h => h) (fun K hK => ?_)
        go_big_quiet_op
        refine hK _ ?_
        clear hK K
        refine pi_c 1 (by assumption) rfl (by kernel_rfl) (by kernel_rfl) (fun _ _ _ _ h => h) (fun K hK => ?_)
        go_big_quiet_op
        refine hK _ ?_
        clear hK K
        refine pi_t 2 rfl (by kernel_rfl) (by kernel_rfl) (fun _ _ _ _ h => h) (fun K hK => ?_)
        go_big_quiet_op
        refine hK _ ?_
        clear hK K
        refine pi_l 3 rfl (by kernel_rfl) (fun K hK => ?_)
        go_wp2
        refine hK _ _ (by simp) ?_
        clear hK K
        refine pi_end (by kernel_rfl) ?_
        go_wp2_with fail
        refine fin5 (Φ := fun W' => bodyPost _ _ _ _ _ W'.drew) (w := w) (W := wr) qr hEr (by omega) ?_
        intro Wf hf hE5 hof _
        have q0 := (cell_of hf 0).trans rfl
        have q1 := (cell_of hf 1).trans rfl
        have q2 := (cell_of hf 2).trans rfl
        have q3 := (cell_of hf 3).trans rfl
        have q4 := (cell_of hf 4).trans rfl
        exact bodyPost_ret (v := .tuple #[.pointer (some ⟨s, 0, none⟩), .agg #[.int .i64 C.bits, .int .i64 C.rows, .int .i64 C.width, .int .i64 C.mode, .int .u64 C.seed]]) (by simp [results, Tryz.results78, go_sem, q0, q1, q2, q3, q4]) rfl (HEND.out _ (Below.drew hE5) hof)
end Go.Proofs.YtfhdjekpdifajaaGreat
namespace Go.Proofs.YtfhdjekpdifajaaGreat
set_option linter.unusedVariables false
open Go.RowKit
/-- Where it lies: its block, its row of rows, its rows, and how many cells they could have. -/
structure Gr where
  g : Nat
  m : Nat
  r : Nat → Nat
  c : Nat → Nat
def Gr.foot (G : Gr) (R : Nat) (k : Nat) : Prop := k = G.g ∨ k = G.m ∨ ∃ r, r < R ∧ k = G.r r
def Gr.row (G : Gr) (W r : Nat) : Value := .slice (some ⟨G.r r, 0, none⟩) W (G.c r)
structure RGAt (w : World) (G : Gr) (R W : Nat) (l : List Int) : Prop where
  ex : ∃ cap, w.heap[G.g]? = some (.cells #[.slice (some ⟨G.m, 0, none⟩) R cap] 161 (0, 0)) ∧ R ≤ cap
  row : ∃ cur, w.heap[G.m]? = some (.cells cur 43 (0, 0)) ∧ ∀ r, r < R → cur[r]? = some (G.row W r)
  cells : ∀ r, r < R → ∃ cur, w.heap[G.r r]? = some (.cells cur 2 (0, 0)) ∧ ∀ k, k < W → cur[k]? = some (.int .i64 (l.getD (r * W + k) 0))
  capc : ∀ r, r < R → W ≤ G.c r
  sep : ∀ r q, r < R → q < R → r ≠ q → G.r r ≠ G.r q
  len : l.length = R * W
  r1 : 1 ≤ R
  r2 : R ≤ 8
  w1 : 1 ≤ W
  w2 : W ≤ 128
section
variable {w : World} {G : Gr} {R W : Nat} {l : List Int}
theorem RGAt.ltg (h : RGAt w G R W l) : G.g < w.heap.size := by obtain ⟨cap, h1, _⟩ := h.ex; exact lt_of h1
theorem RGAt.ltm (h : RGAt w G R W l) : G.m < w.heap.size := by obtain ⟨cur, h1, _⟩ := h.row; exact lt_of h1
theorem RGAt.ltr (h : RGAt w G R W l) {r : Nat} (hr : r < R) : G.r r < w.heap.size := by obtain ⟨cur, h1, _⟩ := h.cells r hr; exact lt_of h1
theorem RGAt.lt (h : RGAt w G R W l) {k : Nat} (hk : G.foot R k) : k < w.heap.size := by
  rcases hk with rfl | rfl | ⟨r, hr, rfl⟩
  · exact h.ltg
  · exact h.ltm
  · exact h.ltr hr
theorem RGAt.ngr (h : RGAt w G R W l) {r : Nat} (hr : r < R) : G.g ≠ G.r r := by
  obtain ⟨cap, h1, _⟩ := h.ex
  obtain ⟨cur, h2, _⟩ := h.cells r hr
  exact blk_ne h1 h2 (by decide)
theorem RGAt.nmr (h : RGAt w G R W l) {r : Nat} (hr : r < R) : G.m ≠ G.r r := by
  obtain ⟨c1, h1, _⟩ := h.row
  obtain ⟨cur, h2, _⟩ := h.cells r hr
  exact blk_ne h1 h2 (by decide)
theorem RGAt.keep {w' : World} (h : RGAt w G R W l) (hk : ∀ k, G.foot R k → w'.heap[k]? = w.heap[k]?) : RGAt w' G R W l :=
  ⟨by rw [hk _ (.inl rfl)]; exact h.ex, by rw [hk _ (.inr (.inl rfl))]; exact h.row, fun r hr => by rw [hk _ (.inr (.inr ⟨r, hr, rfl⟩))]; exact h.cells r hr, h.capc, h.sep, h.len, h.r1, h.r2, h.w1, h.w2⟩
theorem RGAt.ext {w' : World} (h : RGAt w G R W l) (he : Ext w w') : RGAt w' G R W l := h.keep fun k hk => he.block k (h.lt hk)
theorem RGAt.mod {S : Nat → Prop} {w' : World} (h : RGAt w G R W l) (he : Mod S w w') (hn : ∀ k, G.foot R k → ¬ S k) : RGAt w' G R W l := h.keep fun k hk => he.block k (h.lt hk) (hn k hk)
theorem RGAt.cr (h : RGAt w G R W l) {r k : Nat} (hr : r < R) (hk : k < W) : w.cell? ⟨G.r r, k, none⟩ = some (.int .i64 (l.getD (r * W + k) 0)) := by
  obtain ⟨cur, h1, h2⟩ := h.cells r hr
  rw [cell_of h1]; exact h2 k hk
/-- A row of its cells. -/
def rowL (l : List Int) (W r : Nat) : List Int := (List.range W).map fun k => l.getD (r * W + k) 0
theorem rowL_len (l : List Int) (W r : Nat) : (rowL l W r).length = W := by simp [rowL]
theorem rowL_get {l : List Int} {W r k : Nat} (hk : k < W) : (rowL l W r).getD k 0 = l.getD (r * W + k) 0 := by simp [rowL, hk]
theorem RGAt.ints (h : RGAt w G R W l) {r : Nat} (hr : r < R) : IntsAt w (.slice (some ⟨G.r r, 0, none⟩) W (G.c r)) (rowL l W r) :=
  .inr ⟨G.r r, 0, G.c r, by rw [rowL_len], h.ltr hr, fun k hk => by rw [rowL_len] at hk; rw [Nat.zero_add, rowL_get hk]; exact h.cr hr hk⟩
/-- One cell set. -/
theorem RGAt.set (h : RGAt w G R W l) {r k : Nat} (hr : r < R) (hk : k < W) (x : Int) : RGAt (w.setCell ⟨G.r r, k, none⟩ (.int .i64 x)) G R W (l.set (r * W + k) x) := by
  have hlt : r * W + k < l.length := by
    rw [h.len]
    calc r * W + k < r * W + W := by omega
      _ = (r + 1) * W := by rw [Nat.add_mul, Nat.one_mul]
      _ ≤ R * W := Nat.mul_le_mul_right W hr
  refine ⟨by rw [setCell_other _ _ (h.ngr hr)]; exact h.ex, by rw [setCell_other _ _ (h.nmr hr)]; exact h.row, fun q hq => ?_, h.capc, h.sep, by rw [List.length_set]; exact h.len, h.r1, h.r2, h.w1, h.w2⟩
  obtain ⟨cur, h1, h2⟩ := h.cells q hq
  by_cases e : q = r
  · subst e
    refine ⟨_, setCell_same h1 _ _, fun j hj => ?_⟩
    by_cases ej : j = k
    · subst ej
      have hsz : j < cur.size := by
        have := h2 j hj
        rw [Array.getElem?_eq_some_iff] at this
        exact this.1
      rw [Array.getElem?_setIfInBounds_self_of_lt hsz, List.getD_eq_getElem?_getD, List.getElem?_set_self hlt]
      rfl
    · rw [Array.getElem?_setIfInBounds_ne (fun e => ej e.symm), h2 j hj, List.getD_eq_getElem?_getD, List.getD_eq_getElem?_getD, List.getElem?_set_ne (by omega)]
  · refine ⟨cur, by rw [setCell_other _ _ (h.sep q r hq hr e)]; exact h1, fun j hj => ?_⟩
    rw [h2 j hj, List.getD_eq_getElem?_getD, List.getD_eq_getElem?_getD, List.getElem?_set_ne (at_ne hk hj (.inl fun e' => e e'.symm))]
end
/-- Rows that have been made. -/
structure GMade (w : World) (B0 : Nat) (G : Gr) (W k : Nat) (v : Value) (f : Nat → Nat → Int) : Prop where
  row : w.ownsRow B0 43 1 v ((List.range k).map (G.row W)).length ((List.range k).map (G.row W))
  cells : ∀ r, r < k → ∃ cur, w.heap[G.r r]? = some (.cells cur 2 (0, 0)) ∧ ∀ j, j < W → cur[j]? = some (.int .i64 (f r j))
  capc : ∀ r, r < k → W ≤ G.c r
  new : ∀ r, r < k → B0 ≤ G.r r
  sep : ∀ r q, r < k → q < k → r ≠ q → G.r r ≠ G.r q
theorem GMade.zero (w : World) (B0 : Nat) (G : Gr) (W : Nat) (f : Nat → Nat → Int) : GMade w B0 G W 0 (.slice none 0 0) f :=
  ⟨⟨rfl, .inl ⟨rfl, rfl⟩⟩, by intros; omega, by intros; omega, by intros; omega, by intros; omega⟩
theorem GMade.ext {w w' : World} {B0 W k : Nat} {G : Gr} {v : Value} {f : Nat → Nat → Int} (h : GMade w B0 G W k v f) (he : Ext w w') : GMade w' B0 G W k v f :=
  ⟨own_ext h.row he, fun r hr => by obtain ⟨cur, h1, h2⟩ := h.cells r hr; exact ⟨cur, he.keep h1, h2⟩, h.capc, h.new, h.sep⟩
theorem GMade.lt {w : World} {B0 W k : Nat} {G : Gr} {v : Value} {f : Nat → Nat → Int} (h : GMade w B0 G W k v f) {r : Nat} (hr : r < k) : G.r r < w.heap.size := by
  obtain ⟨cur, h1, _⟩ := h.cells r hr; exact lt_of h1
theorem GMade.setc {w : World} {B0 W k : Nat} {G : Gr} {v : Value} {f : Nat → Nat → Int} (h : GMade w B0 G W k v f) {b : Nat} (hb : b < B0) (o : Nat) (u : Value) : GMade (w.setCell ⟨b, o, none⟩ u) B0 G W k v f :=
  ⟨own_setc h.row hb o u, fun r hr => by obtain ⟨cur, h1, h2⟩ := h.cells r hr; exact ⟨cur, by rw [setCell_other _ _ (by have := h.new r hr; omega)]; exact h1, h2⟩, h.capc, h.new, h.sep⟩
/-- One more. -/
theorem GMade.next {w w' : World} {B0 W k N : Nat} {G : Gr} {v v' : Value} {f : Nat → Nat → Int} {z cap : Nat} {cur : Array Value} {o : Obj} (h : GMade w B0 G W k v f)
    (hz : w.heap[z]? = some (.cells cur 2 (0, 0))) (hf : ∀ j, j < W → cur[j]? = some (.int .i64 (f k j))) (hcap : W ≤ cap) (hN : ∀ r, r < k → G.r r < N) (hB : B0 ≤ N) (hzN : N ≤ z)
    (hown : w'.ownsRow B0 43 1 v' ((List.range k).map (G.row W) ++ [Value.slice (some ⟨z, 0, none⟩) W cap]).length ((List.range k).map (G.row W) ++ [Value.slice (some ⟨z, 0, none⟩) W cap])) (hg : (w.alloc o).grownBy w' v.ownBlock) :
    GMade w' B0 ⟨G.g, G.m, fun r => if r = k then z else G.r r, fun r => if r = k then cap else G.c r⟩ W (k + 1) v' f := by
  have hold : ∀ (j : Nat) (cu : Array Value), w.heap[j]? = some (Obj.cells cu 2 (0, 0)) → w'.heap[j]? = some (Obj.cells cu 2 (0, 0)) := fun j cu hj =>
    (grown_old hg (lt_of hj) (fun e => own_notB h.row hj (by decide) e.symm)).trans hj
  refine ⟨?_, fun r hr => ?_, fun r hr => ?_, fun r hr => ?_, fun r q hr hq hrq => ?_⟩
  · have e : (List.range (k + 1)).map (Gr.row ⟨G.g, G.m, fun r => if r = k then z else G.r r, fun r => if r = k then cap else G.c r⟩ W) = (List.range k).map (G.row W) ++ [Value.slice (some ⟨z, 0, none⟩) W cap] := by
      rw [List.range_succ, List.map_append]
      congr 1
      · apply List.map_congr_left
        intro i hi
        rw [List.mem_range] at hi
        simp only [Gr.row, if_neg (show ¬ i = k by omega)]
      · simp [Gr.row]
    rw [e]; exact hown
  · by_cases e : r = k
    · subst e
      refine ⟨cur, ?_, hf⟩
      simp only [if_pos]
      exact hold _ _ hz
    · obtain ⟨cu, h1, h2⟩ := h.cells r (by omega)
      refine ⟨cu, ?_, h2⟩
      simp only [if_neg e]
      exact hold _ _ h1
  · by_cases e : r = k
    · simp only [if_pos e]; exact hcap
    · simp only [if_neg e]; exact h.capc r (by omega)
  · by_cases e : r = k
    · simp only [if_pos e]; omega
    · simp only [if_neg e]; exact h.new r (by omega)
  · by_cases e : r = k
    · subst e
      simp only [if_pos, if_neg (show ¬ q = r by omega)]
      have := hN q (by omega)
      omega
    · by_cases e' : q = k
      · subst e'
        simp only [if_pos, if_neg e]
        have := hN r (by omega)
        omega
      · simp only [if_neg e, if_neg e']
        exact h.sep r q (by omega) (by omega) hrq
section
variable {P : Program}
end
end Go.Proofs.YtfhdjekpdifajaaGreat
namespace Go.Proofs.YtfhdjekpdifajaaGreat
set_option linter.unusedVariables false
open Go.RowKit
/-- P is told of the blocks F, which are there. -/
structure Own (F : Nat → Prop) (P : World → Prop) (w : World) : Prop where
  h : P w
  keep : ∀ w w' : World, P w → (∀ k, F k → w'.heap[k]? = w.heap[k]?) → P w'
  lt : ∀ k, F k → k < w.heap.size
theorem Own.mod {F S : Nat → Prop} {P : World → Prop} {w w' : World} (h : Own F P w) (hm : Mod S w w') (hn : ∀ k, F k → ¬ S k) : Own F P w' :=
  ⟨h.keep w w' h.h (fun k hk => hm.block k (h.lt k hk) (hn k hk)), h.keep, fun k hk => Nat.lt_of_lt_of_le (h.lt k hk) hm.size⟩
theorem Own.ext {F : Nat → Prop} {P : World → Prop} {w w' : World} (h : Own F P w) (he : Ext w w') : Own F P w' :=
  ⟨h.keep w w' h.h (fun k hk => he.block k (h.lt k hk)), h.keep, fun k hk => Nat.lt_of_lt_of_le (h.lt k hk) he.size⟩
/-- They have no block in common. -/
def Dj (F G : Nat → Prop) : Prop := ∀ k, F k → ¬ G k
theorem Dj.symm {F G : Nat → Prop} (h : Dj F G) : Dj G F := fun k hg hf => h k hf hg
/-- What came out of one of them, or is new. -/
theorem Own.grow {F G G' : Nat → Prop} {P : World → Prop} {w : World} (h : Own F P w) (hd : Dj F G) (hG : ∀ k, G' k → G k ∨ w.heap.size ≤ k) : Dj F G' := fun k hf hg => by
  rcases hG k hg with h1 | h1
  · exact hd k hf h1
  · have := h.lt k hf; omega
theorem Own.of {F : Nat → Prop} {P : World → Prop} {w : World} (h : P w) (keep : ∀ w w' : World, P w → (∀ k, F k → w'.heap[k]? = w.heap[k]?) → P w') (lt : ∀ k, F k → k < w.heap.size) : Own F P w := ⟨h, keep, lt⟩
end Go.Proofs.YtfhdjekpdifajaaGreat
namespace Go.Proofs.YtfhdjekpdifajaaGreat
set_option linter.unusedVariables false
open Go.RowKit
/-- A sketch of the references. -/
structure RSAt (w : World) (s : Nat) (G : Gr) (C : Cfg) (lv : Int) (R W : Nat) (l : List Int) : Prop where
  ex : w.heap[s]? = some (.cells #[.int .i64 C.bits, .int .i64 C.rows, .int .i64 C.width, .int .i64 C.mode, .int .u64 C.seed, .int .i64 lv, .pointer (some ⟨G.g, 0, none⟩)] 158 (0, 0))
  g : RGAt w G R W l
  ok : C.Ok
  lo : 0 ≤ lv
  hi : lv ≤ C.bits
  hr : C.rows = R
  hw : C.width = W
  fit : ∀ x ∈ l, I64 x
def rsF (s : Nat) (G : Gr) (R : Nat) (k : Nat) : Prop := k = s ∨ G.foot R k
section
variable {w : World} {s : Nat} {G : Gr} {C : Cfg} {lv : Int} {R W : Nat} {l : List Int}
theorem RSAt.lts (h : RSAt w s G C lv R W l) : s < w.heap.size := lt_of h.ex
theorem RSAt.keep {w' : World} (h : RSAt w s G C lv R W l) (hk : ∀ k, rsF s G R k → w'.heap[k]? = w.heap[k]?) : RSAt w' s G C lv R W l :=
  ⟨by rw [hk s (.inl rfl)]; exact h.ex, h.g.keep fun k hg => hk k (.inr hg), h.ok, h.lo, h.hi, h.hr, h.hw, h.fit⟩
theorem RSAt.lt (h : RSAt w s G C lv R W l) {k : Nat} (hk : rsF s G R k) : k < w.heap.size := by
  rcases hk with rfl | hk
  · exact h.lts
  · exact h.g.lt hk
theorem RSAt.ext {w' : World} (h : RSAt w s G C lv R W l) (he : Ext w w') : RSAt w' s G C lv R W l := h.keep fun k hk => he.block k (h.lt hk)
theorem RSAt.mod {S : Nat → Prop} {w' : World} (h : RSAt w s G C lv R W l) (he : Mod S w w') (hn : ∀ k, rsF s G R k → ¬ S k) : RSAt w' s G C lv R W l := h.keep fun k hk => he.block k (h.lt hk) (hn k hk)
theorem RSAt.own (h : RSAt w s G C lv R W l) : Own (rsF s G R) (fun w => RSAt w s G C lv R W l) w := ⟨h, fun w w' h hk => h.keep hk, fun k hk => h.lt hk⟩
end
/-- An array of the references. -/
structure RXAt (w : World) (a m : Nat) (C : Cfg) (lv : Int) (K : Nat) (l : List Int) : Prop where
  ex : ∃ cap, w.heap[a]? = some (.cells #[.int .i64 C.bits, .int .i64 C.rows, .int .i64 C.width, .int .i64 C.mode, .int .u64 C.seed, .int .i64 lv, .slice (some ⟨m, 0, none⟩) K cap] 155 (0, 0)) ∧ K ≤ cap
  cells : ∃ cur, w.heap[m]? = some (.cells cur 2 (0, 0)) ∧ ∀ k, k < K → cur[k]? = some (.int .i64 (l.getD k 0))
  len : l.length = K
  k1 : 1 ≤ K
  k2 : K ≤ 128
  fit : ∀ x ∈ l, I64 x
def rxF (a m : Nat) (k : Nat) : Prop := k = a ∨ k = m
section
variable {w : World} {a m : Nat} {C : Cfg} {lv : Int} {K : Nat} {l : List Int}
theorem RXAt.lta (h : RXAt w a m C lv K l) : a < w.heap.size := by obtain ⟨cap, h1, _⟩ := h.ex; exact lt_of h1
theorem RXAt.ltm (h : RXAt w a m C lv K l) : m < w.heap.size := by obtain ⟨cur, h1, _⟩ := h.cells; exact lt_of h1
theorem RXAt.ne (h : RXAt w a m C lv K l) : a ≠ m := by
  obtain ⟨cap, h1, _⟩ := h.ex
  obtain ⟨cur, h2, _⟩ := h.cells
  exact blk_ne h1 h2 (by decide)
theorem RXAt.lt (h : RXAt w a m C lv K l) {k : Nat} (hk : rxF a m k) : k < w.heap.size := by
  rcases hk with rfl | rfl
  · exact h.lta
  · exact h.ltm
theorem RXAt.keep {w' : World} (h : RXAt w a m C lv K l) (hk : ∀ k, rxF a m k → w'.heap[k]? = w.heap[k]?) : RXAt w' a m C lv K l :=
  ⟨by rw [hk a (.inl rfl)]; exact h.ex, by rw [hk m (.inr rfl)]; exact h.cells, h.len, h.k1, h.k2, h.fit⟩
theorem RXAt.ext {w' : World} (h : RXAt w a m C lv K l) (he : Ext w w') : RXAt w' a m C lv K l := h.keep fun k hk => he.block k (h.lt hk)
theorem RXAt.cell (h : RXAt w a m C lv K l) {k : Nat} (hk : k < K) : w.cell? ⟨m, k, none⟩ = some (.int .i64 (l.getD k 0)) := by
  obtain ⟨cur, h1, h2⟩ := h.cells; rw [cell_of h1]; exact h2 k hk
theorem RXAt.ints {cap : Nat} (h : RXAt w a m C lv K l) : IntsAt w (.slice (some ⟨m, 0, none⟩) K cap) l :=
  .inr ⟨m, 0, cap, by rw [h.len], h.ltm, fun k hk => by rw [h.len] at hk; rw [Nat.zero_add]; exact h.cell hk⟩
theorem RXAt.set (h : RXAt w a m C lv K l) {k : Nat} (hk : k < K) {x : Int} (hx : I64 x) : RXAt (w.setCell ⟨m, k, none⟩ (.int .i64 x)) a m C lv K (l.set k x) := by
  refine ⟨by rw [setCell_other _ _ h.ne]; exact h.ex, ?_, by rw [List.length_set]; exact h.len, h.k1, h.k2, fun y hy => ?_⟩
  · obtain ⟨cur, h1, h2⟩ := h.cells
    refine ⟨_, setCell_same h1 _ _, fun j hj => ?_⟩
    by_cases ej : j = k
    · subst ej
      have hsz : j < cur.size := by
        have := h2 j hj
        rw [Array.getElem?_eq_some_iff] at this
        exact this.1
      rw [Array.getElem?_setIfInBounds_self_of_lt hsz, List.getD_eq_getElem?_getD, List.getElem?_set_self (by rw [h.len]; exact hk)]
      rfl
    · rw [Array.getElem?_setIfInBounds_ne (fun e => ej e.symm), h2 j hj, List.getD_eq_getElem?_getD, List.getD_eq_getElem?_getD, List.getElem?_set_ne (fun e => ej e.symm)]
  · rcases List.mem_or_eq_of_mem_set hy with h1 | rfl
    · exact h.fit y h1
    · exact hx
end
/-- Where a level of the references lies. -/
structure RLev where
  p : Nat
  a : Nat
  G : Gr
def RLvAt (w : World) (L : RLev) (C : Cfg) (lv : Int) (l : List Int) : Prop :=
  C.Ok ∧ 0 ≤ lv ∧ lv ≤ C.bits ∧
    ((isX C lv = true ∧ w.heap[L.p]? = some (.cells #[.pointer (some ⟨L.a, 0, none⟩), .pointer none] 153 (0, 0)) ∧ RXAt w L.a L.G.m C lv (kN C lv) l) ∨
     (isX C lv = false ∧ w.heap[L.p]? = some (.cells #[.pointer none, .pointer (some ⟨L.a, 0, none⟩)] 153 (0, 0)) ∧ RSAt w L.a L.G C lv (rN C) (wN C) l))
def RLev.foot (C : Cfg) (lv : Int) (L : RLev) (k : Nat) : Prop := k = L.p ∨ (isX C lv = true ∧ rxF L.a L.G.m k) ∨ (isX C lv = false ∧ rsF L.a L.G (rN C) k)
section
variable {w : World} {L : RLev} {C : Cfg} {lv : Int} {l : List Int}
theorem RLvAt.fit (h : RLvAt w L C lv l) : ∀ x ∈ l, I64 x := by
  obtain ⟨_, _, _, ⟨_, _, h⟩ | ⟨_, _, h⟩⟩ := h
  · exact h.fit
  · exact h.fit
theorem RLvAt.len (h : RLvAt w L C lv l) : l.length = lvN C lv := by
  obtain ⟨_, _, _, ⟨hx, _, h⟩ | ⟨hx, _, h⟩⟩ := h
  · unfold lvN; rw [hx]; exact h.len
  · unfold lvN; rw [hx]; exact h.g.len
theorem RLvAt.x (h : RLvAt w L C lv l) (hx : isX C lv = true) : w.heap[L.p]? = some (.cells #[.pointer (some ⟨L.a, 0, none⟩), .pointer none] 153 (0, 0)) ∧ RXAt w L.a L.G.m C lv (kN C lv) l := by
  obtain ⟨_, _, _, ⟨_, h1, h2⟩ | ⟨hy, _⟩⟩ := h
  · exact ⟨h1, h2⟩
  · rw [hx] at hy; cases hy
theorem RLvAt.sk (h : RLvAt w L C lv l) (hx : isX C lv = false) : w.heap[L.p]? = some (.cells #[.pointer none, .pointer (some ⟨L.a, 0, none⟩)] 153 (0, 0)) ∧ RSAt w L.a L.G C lv (rN C) (wN C) l := by
  obtain ⟨_, _, _, ⟨hy, _⟩ | ⟨_, h1, h2⟩⟩ := h
  · rw [hx] at hy; cases hy
  · exact ⟨h1, h2⟩
theorem RLvAt.lt (h : RLvAt w L C lv l) {k : Nat} (hk : L.foot C lv k) : k < w.heap.size := by
  rcases hk with rfl | ⟨hx, hk⟩ | ⟨hx, hk⟩
  · obtain ⟨_, _, _, ⟨_, h1, _⟩ | ⟨_, h1, _⟩⟩ := h <;> exact lt_of h1
  · exact (h.x hx).2.lt hk
  · exact (h.sk hx).2.lt hk
theorem RLvAt.keep {w' : World} (h : RLvAt w L C lv l) (hk : ∀ k, L.foot C lv k → w'.heap[k]? = w.heap[k]?) : RLvAt w' L C lv l := by
  obtain ⟨h1, h2, h3, ⟨hx, h4, h5⟩ | ⟨hx, h4, h5⟩⟩ := h
  · exact ⟨h1, h2, h3, .inl ⟨hx, by rw [hk _ (.inl rfl)]; exact h4, h5.keep fun k hg => hk k (.inr (.inl ⟨hx, hg⟩))⟩⟩
  · exact ⟨h1, h2, h3, .inr ⟨hx, by rw [hk _ (.inl rfl)]; exact h4, h5.keep fun k hg => hk k (.inr (.inr ⟨hx, hg⟩))⟩⟩
theorem RLvAt.ext {w' : World} (h : RLvAt w L C lv l) (he : Ext w w') : RLvAt w' L C lv l := h.keep fun k hk => he.block k (h.lt hk)
theorem RLvAt.mod {S : Nat → Prop} {w' : World} (h : RLvAt w L C lv l) (he : Mod S w w') (hn : ∀ k, L.foot C lv k → ¬ S k) : RLvAt w' L C lv l := h.keep fun k hk => he.block k (h.lt hk) (hn k hk)
theorem RLvAt.own (h : RLvAt w L C lv l) : Own (L.foot C lv) (fun w => RLvAt w L C lv l) w := ⟨h, fun w w' h hk => h.keep hk, fun k hk => h.lt hk⟩
end
/-- A stack of the references. -/
structure RKAt (w : World) (s t : Nat) (C : Cfg) (B : Nat) (L : Nat → RLev) (ls : Nat → List Int) : Prop where
  ex : ∃ cap, w.heap[s]? = some (.cells #[.int .i64 C.bits, .int .i64 C.rows, .int .i64 C.width, .int .i64 C.mode, .int .u64 C.seed, .slice (some ⟨t, 0, none⟩) (B + 1) cap] 48 (0, 0)) ∧ B + 1 ≤ cap
  row : ∃ cur, w.heap[t]? = some (.cells cur 45 (0, 0)) ∧ ∀ n, n ≤ B → cur[n]? = some (.pointer (some ⟨(L n).p, 0, none⟩))
  lev : ∀ n, n ≤ B → RLvAt w (L n) C n (ls n)
  sep : ∀ m n, m ≤ B → n ≤ B → m ≠ n → Dj ((L m).foot C m) ((L n).foot C n)
  ok : C.Ok
  hB : C.bits = B
def rkF (s t : Nat) (C : Cfg) (B : Nat) (L : Nat → RLev) (k : Nat) : Prop := k = s ∨ k = t ∨ ∃ n, n ≤ B ∧ (L n).foot C n k
section
variable {w : World} {s t : Nat} {C : Cfg} {B : Nat} {L : Nat → RLev} {ls : Nat → List Int}
theorem RKAt.lts (h : RKAt w s t C B L ls) : s < w.heap.size := by obtain ⟨cap, h1, _⟩ := h.ex; exact lt_of h1
theorem RKAt.ltt (h : RKAt w s t C B L ls) : t < w.heap.size := by obtain ⟨cap, h1, _⟩ := h.row; exact lt_of h1
theorem RKAt.lt (h : RKAt w s t C B L ls) {k : Nat} (hk : rkF s t C B L k) : k < w.heap.size := by
  rcases hk with rfl | rfl | ⟨n, hn, hk⟩
  · exact h.lts
  · exact h.ltt
  · exact (h.lev n hn).lt hk
theorem RKAt.keep {w' : World} (h : RKAt w s t C B L ls) (hk : ∀ k, rkF s t C B L k → w'.heap[k]? = w.heap[k]?) : RKAt w' s t C B L ls :=
  ⟨by rw [hk s (.inl rfl)]; exact h.ex, by rw [hk t (.inr (.inl rfl))]; exact h.row, fun n hn => (h.lev n hn).keep fun k hg => hk k (.inr (.inr ⟨n, hn, hg⟩)), h.sep, h.ok, h.hB⟩
theorem RKAt.ext {w' : World} (h : RKAt w s t C B L ls) (he : Ext w w') : RKAt w' s t C B L ls := h.keep fun k hk => he.block k (h.lt hk)
theorem RKAt.own (h : RKAt w s t C B L ls) : Own (rkF s t C B L) (fun w => RKAt w s t C B L ls) w := ⟨h, fun w w' h hk => h.keep hk, fun k hk => h.lt hk⟩
theorem RKAt.cell (h : RKAt w s t C B L ls) {n : Nat} (hn : n ≤ B) : w.cell? ⟨t, n, none⟩ = some (.pointer (some ⟨(L n).p, 0, none⟩)) := by
  obtain ⟨cur, h1, h2⟩ := h.row; rw [cell_of h1]; exact h2 n hn
end
end Go.Proofs.YtfhdjekpdifajaaGreat
namespace Go.Proofs.YtfhdjekpdifajaaGreat
set_option linter.unusedVariables false
open Go.RowKit
def uu (a : Int) : Int := a % 18446744073709551616
end Go.Proofs.YtfhdjekpdifajaaGreat
namespace Go.Proofs.YtfhdjekpdifajaaGreat
set_option linter.unusedVariables false
open Go.RowKit
/-- The carry of a sum. -/
def cr (x y : Int) (i : Nat) : Int := (x % (65536 ^ i : Int) + y % (65536 ^ i : Int)) / (65536 ^ i : Int)
end Go.Proofs.YtfhdjekpdifajaaGreat
namespace Go.Proofs.YtfhdjekpdifajaaGreat
set_option linter.unusedVariables false
open Go.RowKit
theorem fillA_put (f : Nat → Int) (m : Nat) (v : Int) (hm : m < 10) : (fillA f 10 10).setIfInBounds m (.int .i64 v) = fillA (fun j => if j = m then v else f j) 10 10 := by
  apply Array.ext
  · simp [fillA]
  · intro i h1 h2
    have hi : i < 10 := by simpa [fillA] using h1
    by_cases he : m = i
    · subst he; simp [fillA]
    · have he' : ¬ i = m := fun h => he h.symm
      simp [fillA, hi, he, he']
/-- A box of ten digits. -/
def LongAt (w : World) (b : Nat) (a : Nat → Int) : Prop := w.heap[b]? = some (.cells (fillA a 10 10) 237 (0, 0))
theorem LongAt.cell {w : World} {b : Nat} {a : Nat → Int} (h : LongAt w b a) {k : Nat} (hk : k < 10) : w.cell? ⟨b, k, none⟩ = some (.int .i64 (a k)) := by
  rw [cell_of h, fillA_at a 10 10 k hk, if_pos hk]
theorem LongAt.keep {w w' : World} {b : Nat} {a : Nat → Int} (h : LongAt w b a) (he : w'.heap[b]? = w.heap[b]?) : LongAt w' b a := he.trans h
theorem LongAt.put {w : World} {b : Nat} {f : Nat → Int} (h : LongAt w b f) {m : Nat} (hm : m < 10) (v : Int) : LongAt (w.setCell ⟨b, m, none⟩ (.int .i64 v)) b (fun j => if j = m then v else f j) := by
  unfold LongAt at *
  rw [setCell_same h m, fillA_put f m v hm]
end Go.Proofs.YtfhdjekpdifajaaGreat
namespace Go.Proofs.YtfhdjekpdifajaaGreat
set_option linter.unusedVariables false
open Go.RowKit
set_option maxRecDepth 20000 in
set_option maxHeartbeats 4000000 in
@[go_sem] theorem eqLong (a0 a1 a2 a3 a4 a5 a6 a7 a8 a9 b0 b1 b2 b3 b4 b5 b6 b7 b8 b9 : Int) (w : World) : (Op.equalIn 10000 237 (.agg #[.int .i64 a0, .int .i64 a1, .int .i64 a2, .int .i64 a3, .int .i64 a4, .int .i64 a5, .int .i64 a6, .int .i64 a7, .int .i64 a8, .int .i64 a9]) (.agg #[.int .i64 b0, .int .i64 b1, .int .i64 b2, .int .i64 b3, .int .i64 b4, .int .i64 b5, .int .i64 b6, .int .i64 b7, .int .i64 b8, .int .i64 b9])).run Tryz.prog w = .ok (a0 == b0 && (a1 == b1 && (a2 == b2 && (a3 == b3 && (a4 == b4 && (a5 == b5 && (a6 == b6 && (a7 == b7 && (a8 == b8 && a9 == b9))))))))) w := by
  have u3 := Tryz.underlying3
  have a3' := Tryz.isAgg3
  have z3 := Tryz.sizeOf3
  rw [show (10000 : Nat) = 9999 + 1 from rfl, Op.equalIn]
  simp only [Sem.run_bind, run_underlying Tryz.underlying237, Result.andThen_ok]
  simp only [Std.Legacy.Range.forIn_eq_forIn_range', Std.Legacy.Range.size, Nat.sub_zero, Nat.add_sub_cancel, Nat.div_one, List.range'_succ, List.range'_zero, List.forIn_cons, List.forIn_nil]
  go_simp
  by_cases h0 : a0 = b0
  · by_cases h1 : a1 = b1
    · by_cases h2 : a2 = b2
      · by_cases h3 : a3 = b3
        · by_cases h4 : a4 = b4
          · by_cases h5 : a5 = b5
            · by_cases h6 : a6 = b6
              · by_cases h7 : a7 = b7
                · by_cases h8 : a8 = b8
                  · by_cases h9 : a9 = b9 <;> simp [h0, h1, h2, h3, h4, h5, h6, h7, h8, h9]
                  · simp [h0, h1, h2, h3, h4, h5, h6, h7, h8]
                · simp [h0, h1, h2, h3, h4, h5, h6, h7]
              · simp [h0, h1, h2, h3, h4, h5, h6]
            · simp [h0, h1, h2, h3, h4, h5]
          · simp [h0, h1, h2, h3, h4]
        · simp [h0, h1, h2, h3]
      · simp [h0, h1, h2]
    · simp [h0, h1]
  · simp [h0]
end Go.Proofs.YtfhdjekpdifajaaGreat
namespace Go.Proofs.YtfhdjekpdifajaaGreat
set_option linter.unusedVariables false
open Go.RowKit
theorem IntsAt.sl {w : World} {v : Value} {xs : List Int} (h : IntsAt w v xs) : ∃ p c, v = .slice p xs.length c := by
  rcases h with ⟨rfl, rfl⟩ | ⟨g, off, cap, rfl, _⟩
  · exact ⟨none, 0, rfl⟩
  · exact ⟨_, _, rfl⟩
theorem IntsAt.one {w : World} {p : Option Addr} {n c : Nat} {xs : List Int} (h : IntsAt w (.slice p n c) xs) {k : Nat} (hk : k < xs.length) :
    ∃ g off, p = some ⟨g, off, none⟩ ∧ g < w.heap.size ∧ w.cell? ⟨g, off + k, none⟩ = some (.int .i64 (xs.getD k 0)) := by
  rcases h with ⟨_, rfl⟩ | ⟨g, off, cap, hv, hg, hc⟩
  · simp at hk
  · cases hv
    exact ⟨g, off, rfl, hg, hc k hk⟩
end Go.Proofs.YtfhdjekpdifajaaGreat
namespace Go.Proofs.YtfhdjekpdifajaaGreat
set_option linter.unusedVariables false
open Go.RowKit
/-- Numbers that a slice may read. -/
def Src (W : World) (p : Option Addr) (l : List Int) : Prop := l = [] ∨ ∃ g off, p = some ⟨g, off, none⟩ ∧ g < W.heap.size ∧ ∀ k, k < l.length → W.cell? ⟨g, off + k, none⟩ = some (.int .i64 (l.getD k 0))
theorem Src.ext {W W' : World} {p : Option Addr} {l : List Int} (h : Src W p l) (he : Ext W W') : Src W' p l := by
  rcases h with h | ⟨g, off, h1, h2, h3⟩
  · exact .inl h
  · exact .inr ⟨g, off, h1, Nat.lt_of_lt_of_le h2 he.size, fun k hk => ((bcell he).1 _ _ h2).trans (h3 k hk)⟩
section
variable {P : Program}
end
end Go.Proofs.YtfhdjekpdifajaaGreat
namespace Go.Proofs.YtfhdjekpdifajaaGreat
set_option linter.unusedVariables false
open Go.RowKit
/-- A row of numbers in order, of the call's own. -/
structure SortAt (w W : World) (v : Value) (l s : List Int) : Prop where
  row : W.ownsRow w.heap.size 2 1 v s.length (ints s)
  sl : ∃ g cap, v = .slice (some ⟨g, 0, none⟩) s.length cap
  perm : s.Perm l
  ord : s.Pairwise (· ≤ ·)
theorem SortAt.ext {w W W' : World} {v : Value} {l s : List Int} (h : SortAt w W v l s) (he : Ext W W') : SortAt w W' v l s := ⟨own_ext h.row he, h.sl, h.perm, h.ord⟩
end Go.Proofs.YtfhdjekpdifajaaGreat
namespace Go.Proofs.YtfhdjekpdifajaaGreat
set_option linter.unusedVariables false
open Go.RowKit
theorem Mod.drewR {S : Nat → Prop} {a b : World} (h : Mod S a b) : Mod S a b.drew := h.trans (Ext.mod S (Below.drew (Ext.refl b)))
end Go.Proofs.YtfhdjekpdifajaaGreat
namespace Go.Proofs.YtfhdjekpdifajaaGreat
set_option linter.unusedVariables false
open Go.RowKit
theorem RGAt.cong {w : World} {G : Gr} {R W : Nat} {m m' : List Int} (h : RGAt w G R W m) (hl : m'.length = R * W) (he : ∀ r k, r < R → k < W → m'.getD (r * W + k) 0 = m.getD (r * W + k) 0) : RGAt w G R W m' :=
  ⟨h.ex, h.row, fun r hr => by obtain ⟨cur, h1, h2⟩ := h.cells r hr; exact ⟨cur, h1, fun k hk => by rw [h2 k hk, he r k hr hk]⟩, h.capc, h.sep, hl, h.r1, h.r2, h.w1, h.w2⟩
def Gr.put (G : Gr) (r z cap : Nat) : Gr := ⟨G.g, G.m, fun q => if q = r then z else G.r q, fun q => if q = r then cap else G.c q⟩
end Go.Proofs.YtfhdjekpdifajaaGreat
namespace Go.Proofs.YtfhdjekpdifajaaGreat
set_option linter.unusedVariables false
open Go.RowKit
def rp (L : Nat → RLev) (k : Nat) : List Value := (List.range k).map fun n => Value.pointer (some ⟨(L n).p, 0, none⟩)
theorem rp_len (L : Nat → RLev) (k : Nat) : (rp L k).length = k := by simp [rp]
theorem rp_succ (L : Nat → RLev) (k : Nat) : rp L (k + 1) = rp L k ++ [Value.pointer (some ⟨(L k).p, 0, none⟩)] := by unfold rp; rw [List.range_succ, List.map_append]; rfl
theorem rp_cong {L L' : Nat → RLev} {k : Nat} (h : ∀ n, n < k → L n = L' n) : rp L k = rp L' k := by
  unfold rp
  apply List.map_congr_left
  intro n hn
  rw [List.mem_range] at hn
  rw [h n hn]
theorem rp_get (L : Nat → RLev) {k n : Nat} (h : n < k) : (rp L k)[n]? = some (Value.pointer (some ⟨(L n).p, 0, none⟩)) := by unfold rp; rw [List.getElem?_map, List.getElem?_range h]; rfl
/-- A level's blocks are no row of levels, nor a stack. -/
theorem RLvAt.ty {w : World} {L : RLev} {C : Cfg} {lv : Int} {l : List Int} (h : RLvAt w L C lv l) {k : Nat} (hk : L.foot C lv k) {cur : Array Value} {T : TypeId} {f : Nat × Nat} (hb : w.heap[k]? = some (.cells cur T f)) : T ≠ 45 ∧ T ≠ 48 := by
  have key : ∀ (c2 : Array Value) (T2 : TypeId) (f2 : Nat × Nat), w.heap[k]? = some (.cells c2 T2 f2) → T2 ≠ 45 → T2 ≠ 48 → T ≠ 45 ∧ T ≠ 48 := fun c2 T2 f2 h2 n1 n2 => by
    rw [hb] at h2
    injection h2 with h2
    injection h2 with _ h2 _
    rw [h2]; exact ⟨n1, n2⟩
  rcases hk with rfl | ⟨hx, hk⟩ | ⟨hx, hk⟩
  · obtain ⟨_, _, _, ⟨_, h1, _⟩ | ⟨_, h1, _⟩⟩ := h <;> exact key _ _ _ h1 (by decide) (by decide)
  · obtain ⟨_, h2⟩ := h.x hx
    rcases hk with rfl | rfl
    · obtain ⟨cap, h3, _⟩ := h2.ex; exact key _ _ _ h3 (by decide) (by decide)
    · obtain ⟨cu, h3, _⟩ := h2.cells; exact key _ _ _ h3 (by decide) (by decide)
  · obtain ⟨_, h2⟩ := h.sk hx
    rcases hk with rfl | (rfl | rfl | ⟨r, hr, rfl⟩)
    · exact key _ _ _ h2.ex (by decide) (by decide)
    · obtain ⟨cap, h3, _⟩ := h2.g.ex; exact key _ _ _ h3 (by decide) (by decide)
    · obtain ⟨cap, h3, _⟩ := h2.g.row; exact key _ _ _ h3 (by decide) (by decide)
    · obtain ⟨cap, h3, _⟩ := h2.g.cells r hr; exact key _ _ _ h3 (by decide) (by decide)
/-- Some levels that have been made. -/
structure RMade (w : World) (B0 : Nat) (C : Cfg) (k : Nat) (L : Nat → RLev) (ls : Nat → List Int) (v : Value) : Prop where
  row : w.ownsRow B0 45 1 v (rp L k).length (rp L k)
  lev : ∀ n, n < k → RLvAt w (L n) C n (ls n)
  new : ∀ n, n < k → ∀ j, (L n).foot C n j → B0 ≤ j
  sep : ∀ m n, m < k → n < k → m ≠ n → Dj ((L m).foot C m) ((L n).foot C n)
theorem RMade.zero (w : World) (B0 : Nat) (C : Cfg) (L : Nat → RLev) (ls : Nat → List Int) : RMade w B0 C 0 L ls (.slice none 0 0) :=
  ⟨⟨rfl, .inl ⟨rfl, rfl⟩⟩, by intros; omega, by intros; omega, by intros; omega⟩
theorem RMade.ext {w w' : World} {B0 k : Nat} {C : Cfg} {L : Nat → RLev} {ls : Nat → List Int} {v : Value} (h : RMade w B0 C k L ls v) (he : Ext w w') : RMade w' B0 C k L ls v :=
  ⟨own_ext h.row he, fun n hn => (h.lev n hn).ext he, h.new, h.sep⟩
theorem RMade.setc {w : World} {B0 k : Nat} {C : Cfg} {L : Nat → RLev} {ls : Nat → List Int} {v : Value} (h : RMade w B0 C k L ls v) {b : Nat} (hb : b < B0) (o : Nat) (u : Value) : RMade (w.setCell ⟨b, o, none⟩ u) B0 C k L ls v :=
  ⟨own_setc h.row hb o u, fun n hn => (h.lev n hn).keep (fun j hj => setCell_other _ _ (by have := h.new n hn j hj; omega)), h.new, h.sep⟩
/-- One more. -/
theorem RMade.next {w0 w w' : World} {B0 k : Nat} {C : Cfg} {L : Nat → RLev} {ls : Nat → List Int} {v v' : Value} {M : RLev} {l : List Int} {o : Obj} (h : RMade w0 B0 C k L ls v) (he : Ext w0 w) (hB : B0 ≤ w0.heap.size) (hM : RLvAt w M C k l) (hN : ∀ j, M.foot C k j → w0.heap.size ≤ j) (hl : l = ls k)
    (hown : w'.ownsRow B0 45 1 v' (rp L k ++ [Value.pointer (some ⟨M.p, 0, none⟩)]).length (rp L k ++ [Value.pointer (some ⟨M.p, 0, none⟩)])) (hg : (w.alloc o).grownBy w' v.ownBlock) : RMade w' B0 C (k + 1) (fun n => if n = k then M else L n) ls v' := by
  subst hl
  have hw := h.ext he
  have hkeep : ∀ {n : Nat} {K : RLev} {l : List Int}, RLvAt w K C n l → RLvAt w' K C n l := fun {n K l} hK => hK.keep (fun j hj => grown_old hg (hK.lt hj) (fun e => by
    obtain ⟨cu, hc⟩ := own_type hw.row e.symm
    exact (hK.ty hj hc).1 rfl))
  refine ⟨?_, fun n hn => ?_, fun n hn j hj => ?_, fun m n hm hn hmn => ?_⟩
  · rw [rp_succ, if_pos rfl, rp_cong (L' := L) (fun i hi => if_neg (by omega))]
    exact hown
  · by_cases e : n = k
    · subst e; rw [if_pos rfl]; exact hkeep hM
    · rw [if_neg e]; exact hkeep (hw.lev n (by omega))
  · by_cases e : n = k
    · subst e; rw [if_pos rfl] at hj; exact Nat.le_trans hB (hN j hj)
    · rw [if_neg e] at hj; exact h.new n (by omega) j hj
  · by_cases e : m = k
    · subst e
      rw [if_pos rfl, if_neg (by omega)]
      intro j h1 h2
      have a := hN j h1
      have b := (h.lev n (by omega)).lt h2
      omega
    · rw [if_neg e]
      by_cases e' : n = k
      · subst e'
        rw [if_pos rfl]
        intro j h1 h2
        have a := hN j h2
        have b := (h.lev m (by omega)).lt h1
        omega
      · rw [if_neg e']; exact h.sep m n (by omega) (by omega) hmn
/-- All levels, and the stack's own block: a stack. -/
theorem RMade.stack {w : World} {s B0 B : Nat} {C : Cfg} {L : Nat → RLev} {ls : Nat → List Int} {v : Value} (h : RMade w B0 C (B + 1) L ls v) (hok : C.Ok) (hB : C.bits = B) (hs : w.heap[s]? = some (.cells #[.int .i64 C.bits, .int .i64 C.rows, .int .i64 C.width, .int .i64 C.mode, .int .u64 C.seed, v] 48 (0, 0))) :
    ∃ t, B0 ≤ t ∧ RKAt w s t C B L ls := by
  have hl := rp_len L (B + 1)
  rcases h.row.2 with ⟨_, h0⟩ | ⟨g, cap, cur, rfl, hbg, hg, hnc, hcm, hcs, htake⟩
  · rw [hl] at h0; omega
  · rw [hl] at hs hnc
    refine ⟨g, hbg, ⟨⟨cap, hs, hnc⟩, ⟨cur, hg, fun n hn => ?_⟩, fun n hn => h.lev n (by omega), fun m n hm hn => h.sep m n (by omega) (by omega), hok, hB⟩⟩
    have h1 := h.row.cells (g := g) rfl n _ (rp_get L (show n < B + 1 by omega))
    rw [show ((⟨g, 0, none⟩ : Addr).add n) = ⟨g, n, none⟩ by (simp [Addr.add]; intro e; exact e.symm), cell_of hg] at h1
    exact h1
def RKNewPost (w : World) (C : Cfg) (B : Nat) (ls : Nat → List Int) (e : Ending) (w' : World) : Prop :=
  ∃ (s t : Nat) (L : Nat → RLev), e = .returned (.pointer (some ⟨s, 0, none⟩)) ∧ RKAt w' s t C B L ls ∧ (∀ k, rkF s t C B L k → w.heap.size ≤ k) ∧ Ext w w'
theorem RMade.post {w wr : World} {s B0 B : Nat} {C : Cfg} {L : Nat → RLev} {ls : Nat → List Int} {v : Value} (h : RMade wr B0 C (B + 1) L ls v) (hok : C.Ok) (hB : C.bits = B) (hs : wr.heap[s]? = some (.cells #[.int .i64 C.bits, .int .i64 C.rows, .int .i64 C.width, .int .i64 C.mode, .int .u64 C.seed, v] 48 (0, 0))) (hsw : w.heap.size ≤ s) (hB0 : w.heap.size ≤ B0) (hE : Ext w wr) :
    RKNewPost w C B ls (.returned (.pointer (some ⟨s, 0, none⟩))) wr := by
  obtain ⟨t, ht, hK⟩ := h.stack hok hB hs
  refine ⟨s, t, L, rfl, hK, ?_, hE⟩
  rintro k (rfl | rfl | ⟨n, hn, hk⟩)
  · exact hsw
  · omega
  · exact Nat.le_trans hB0 (h.new n (by omega) k hk)
end Go.Proofs.YtfhdjekpdifajaaGreat
namespace Go.Proofs.YtfhdjekpdifajaaGreat
set_option linter.unusedVariables false
open Go.RowKit
/-- A stack in which some levels have been told of an update. -/
theorem RKAt.put {w w' : World} {s t : Nat} {C : Cfg} {B : Nat} {L : Nat → RLev} {ls : Nat → List Int} (h : RKAt w s t C B L ls) {n : Nat} (hn : n ≤ B) {l : List Int} (hm : Mod ((L n).foot C n) w w') (hl : RLvAt w' (L n) C n l) : RKAt w' s t C B L (fun m => if m = n then l else ls m) := by
  have ty : ∀ {k : Nat} {cur : Array Value} {T : TypeId} {f : Nat × Nat}, w.heap[k]? = some (.cells cur T f) → (T = 45 ∨ T = 48) → ¬ (L n).foot C n k := fun hb hT hf => by
    have := (h.lev n hn).ty hf hb
    rcases hT with rfl | rfl
    · exact this.1 rfl
    · exact this.2 rfl
  obtain ⟨cap, h1, h2⟩ := h.ex
  obtain ⟨cur, h3, h4⟩ := h.row
  refine ⟨⟨cap, hm.keep h1 (ty h1 (.inr rfl)), h2⟩, ⟨cur, hm.keep h3 (ty h3 (.inl rfl)), h4⟩, fun m hm' => ?_, h.sep, h.ok, h.hB⟩
  by_cases e : m = n
  · subst e; rw [if_pos rfl]; exact hl
  · rw [if_neg e]; exact (h.lev m hm').mod hm (fun k hk hf => h.sep m n hm' hn e k hk hf)
theorem RKAt.cong {w : World} {s t : Nat} {C : Cfg} {B : Nat} {L : Nat → RLev} {ls ls' : Nat → List Int} (h : RKAt w s t C B L ls) (he : ∀ n, n ≤ B → ls n = ls' n) : RKAt w s t C B L ls' :=
  ⟨h.ex, h.row, fun n hn => he n hn ▸ h.lev n hn, h.sep, h.ok, h.hB⟩
end Go.Proofs.YtfhdjekpdifajaaGreat
