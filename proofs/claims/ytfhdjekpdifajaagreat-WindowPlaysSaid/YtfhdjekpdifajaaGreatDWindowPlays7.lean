/- Part. No condition. -/
import Derived.Test.YtfhdjekpdifajaaGreatDWindowPlays3
import Derived.Test.YtfhdjekpdifajaaGreatDWindowPlays5
import Derived.Test.YtfhdjekpdifajaaGreatDWindowPlays6
import Derived.Test.YtfhdjekpdifajaaGreatDWindowPlays4
namespace Go.Proofs.YtfhdjekpdifajaaGreat
set_option linter.unusedVariables false
open Go.RowKit
theorem run_make_intsU {P : Program} (t e : TypeId) (i : TypeInfo) (ht : P.underlying t = some (.slice e)) (hi : P.info? e = some i) (hz : i.zero = some (.int .i64 0)) (hs : i.size = 1) (hb : i.bytes = 8)
    (n : Nat) (hn : n ≤ 1000000) (f : Nat → Int) (w : World) :
    (Instr.makeSlice t (.int .u64 (n : Int)) (.int .u64 (n : Int))).run P w = .ok (.slice (some ⟨w.heap.size, 0, none⟩) n n) (w.alloc (.cells (fillA f 0 n) e)) := by
  have h := run_make w t e i (.int .i64 0) ht hi hz .u64 .u64 n n (by omega) (by omega) (by rw [hb]; omega) (by omega)
  simp only [Int.toNat_natCast] at h
  rw [h, hs]
  congr 3
  apply Array.ext
  · rw [size_madeCells, fillA_size]; omega
  · intro j h1 h2
    rw [fillA_size] at h2
    simp [madeCells, fillA, Value.cells, Nat.mod_one]
def RXNewPost (w : World) (C : Cfg) (lv : Int) (N : Nat) (l : List Int) (e : Ending) (w' : World) : Prop :=
  ∃ a m, e = .returned (.pointer (some ⟨a, 0, none⟩)) ∧ RXAt w' a m C lv N l ∧ w.heap.size ≤ a ∧ w.heap.size ≤ m ∧ Ext w w'
set_option maxRecDepth 20000 in
set_option maxHeartbeats 4000000 in
theorem RXNew_c (C : Cfg) (lv : Int) (N : Nat) (h1 : 1 ≤ N) (h2 : N ≤ 128) (w : World) :
    Calls Tryz.prog 101 #[.agg #[.int .i64 C.bits, .int .i64 C.rows, .int .i64 C.width, .int .i64 C.mode, .int .u64 C.seed], .int .i64 lv, .int .u64 N] w (RXNewPost w C lv N (zs N)) := by
  obtain ⟨ii, hi, hz0, hz1, hz2⟩ := info_parts info_i64
  have hmk := fun (x : World) => run_make_intsU 43 2 ii Tryz.underlying43 hi hz0 hz1 hz2 N (by omega) (fun _ => 0) x
  have hm1 : ((128 : Int) < (N : Int)) = False := by simp; omega
  have hm2 : decide ((128 : Int) < (N : Int)) = false := by simp; omega
  have hm3 : (N : Int) ≤ 128 := by omega
  clear hi hz0 hz1 hz2
  obtain ⟨W, hW⟩ : ∃ W, w.alloc (.cells #[.int .i64 C.bits, .int .i64 C.rows, .int .i64 C.width, .int .i64 C.mode, .int .u64 C.seed] 24) = W := ⟨_, rfl⟩
  have hC : CfgAt W w.heap.size C := by rw [← hW]; exact CfgAt.box C _ rfl
  have hE : Ext w W := by rw [← hW]; exact Ext.alloc' _ _
  have c0 := hC.c0
  have c1 := hC.c1
  have c2 := hC.c2
  have c3 := hC.c3
  have c4 := hC.c4
  have cl := hC.lt
  have hsz := hE.size
  go_enter Tryz.func101, Tryz.ntmps101
  go_wp2_with fail
  try rw [hW]
  clear hW
  have hC0 := af_drew W
  refine pi_start (fun w' => ∃ z : After W, w' = z.w) [] (by kernel_rfl) ?_
  refine pi_t 1 rfl (by kernel_rfl) (by kernel_rfl) (fun _ _ _ _ h => h) (fun K hK => ?_)
  go_big_quiet_op
  refine hK _ ?_
  clear hK K
  refine pi_t 2 rfl (by kernel_rfl) (by kernel_rfl) (fun _ _ _ _ h => h) (fun K hK => ?_)
  go_big_quiet_op
  refine hK _ ?_
  clear hK K
  refine pi_t 3 rfl (by kernel_rfl) (by kernel_rfl) (fun _ _ _ _ h => h) (fun K hK => ?_)
  go_big_quiet_op
  refine hK _ ?_
  clear hK K
  refine pi_c 0 (by assumption) rfl (by kernel_rfl) (by kernel_rfl) (fun _ _ _ _ h => h) (fun K hK => ?_)
  go_big_quiet_op
  refine hK _ ?_
  clear hK K
  refine pi_l 4 rfl (by kernel_rfl) (fun K hK => ?_)
  go_wp2
  refine hK _ _ (fun _ h => af_step h (Ext.alloc' _ _)) ?_
  clear hK K
  refine pi_t 5 rfl (by kernel_rfl) (by kernel_rfl) (fun _ _ _ _ h => h) (fun K hK => ?_)
  go_big_quiet_op
  refine hK _ ?_
  clear hK K
  refine pi_l 6 rfl (by kernel_rfl) (fun K hK => ?_)
  go_wp2
  refine hK _ _ (fun _ h => af_step h (Ext.alloc' _ _)) ?_
  clear hK K
  refine pi_t 7 rfl (by kernel_rfl) (by kernel_rfl) (fun _ _ _ _ h => h) (fun K hK => ?_)
  go_big_quiet_op
  refine hK _ ?_
  clear hK K
  refine pi_end (by kernel_rfl) ?_
  go_wp2
  go_ret
  refine ⟨_, W.heap.size, rfl, ⟨⟨N, heap_at _ _ (size_alloc _ _).symm, Nat.le_refl _⟩, ⟨fillA (fun _ => 0) 0 N, ?_, fun k hk => ?_⟩, zs_len _, h1, h2, fun x hx => ?_⟩, ?_, hsz, ((hE.drewR).allocR _).allocR _⟩
  · show ((W.alloc _).alloc _).heap[_]? = _
    rw [heap_old _ _ (by rw [size_alloc]; exact Nat.lt_succ_self _)]
    exact heap_at _ _ rfl
  · rw [fillA_at _ _ _ _ hk, if_neg (Nat.not_lt_zero _), zs_get0]
  · simp only [zs, List.mem_replicate] at hx
    rw [hx.2]
    unfold I64; omega
  · exact Nat.le_trans hsz (Nat.le_succ _)
set_option maxRecDepth 20000 in
set_option maxHeartbeats 4000000 in
theorem RXCopy_c (a m : Nat) (C : Cfg) (lv : Int) (N : Nat) (l : List Int) (w : World) (h : RXAt w a m C lv N l) :
    Calls Tryz.prog 105 #[.pointer (some ⟨a, 0, none⟩)] w (RXNewPost w C lv N l) := by
  obtain ⟨cap, hex, hcap⟩ := h.ex
  have c0 := (cell_of hex 0).trans rfl
  have c1 := (cell_of hex 1).trans rfl
  have c2 := (cell_of hex 2).trans rfl
  have c3 := (cell_of hex 3).trans rfl
  have c4 := (cell_of hex 4).trans rfl
  have c5 := (cell_of hex 5).trans rfl
  have c6 := (cell_of hex 6).trans rfl
  have la := h.lta
  have lm := h.ltm
  have k1 := h.k1
  have k2 := h.k2
  have hlen := h.len
  have HF := Lib.hid h.fit
  have hcell : ∀ W : World, Ext w W → ∀ k, k < N → W.cell? ⟨m, 0 + k, none⟩ = some (.int .i64 (l.getD k 0)) := fun W hW k hk => by rw [(bcell hW).1 _ _ lm, Nat.zero_add]; exact h.cell hk
  have HC := Lib.hid hcell
  have HL := Lib.hid hlen
  clear hcell h hex hlen
  go_enter Tryz.func105, Tryz.ntmps105
  go_wp2_with fail
  have hC0 := af_drew w
  refine pi_start (fun w' => ∃ z : After w, w' = z.w) [] (by kernel_rfl) ?_
  refine pi_t 0 rfl (by kernel_rfl) (by kernel_rfl) (fun _ _ _ _ h => h) (fun K hK => ?_)
  go_big_quiet_op
  refine hK _ ?_
  clear hK K
  refine pi_t 1 rfl (by kernel_rfl) (by kernel_rfl) (fun _ _ _ _ h => h) (fun K hK => ?_)
  go_big_quiet_op
  refine hK _ ?_
  clear hK K
  refine pi_t 2 rfl (by kernel_rfl) (by kernel_rfl) (fun _ _ _ _ h => h) (fun K hK => ?_)
  go_big_quiet_op
  refine hK _ ?_
  clear hK K
  refine pi_t 4 rfl (by kernel_rfl) (by kernel_rfl) (fun _ _ _ _ h => h) (fun K hK => ?_)
  go_big_quiet_op
  refine hK _ ?_
  clear hK K
  refine pi_t 5 rfl (by kernel_rfl) (by kernel_rfl) (fun _ _ _ _ h => h) (fun K hK => ?_)
  go_big_quiet_op
  refine hK _ ?_
  clear hK K
  refine pi_t 6 rfl (by kernel_rfl) (by kernel_rfl) (fun _ _ _ _ h => h) (fun K hK => ?_)
  go_big_quiet_op
  refine hK _ ?_
  clear hK K
  refine pi_t 9 rfl (by kernel_rfl) (by kernel_rfl) (fun _ _ _ _ h => h) (fun K hK => ?_)
  go_big_quiet_op
  refine hK _ ?_
  clear hK K
  refine pi_t 10 rfl (by kernel_rfl) (by kernel_rfl) (fun _ _ _ _ h => h) (fun K hK => ?_)
  go_big_quiet_op
  refine hK _ ?_
  clear hK K
  refine pi_t 11 rfl (by kernel_rfl) (by kernel_rfl) (fun _ _ _ _ h => h) (fun K hK => ?_)
  go_big_quiet_op
  refine hK _ ?_
  clear hK K
  refine pi_c 3 (by assumption) rfl (by kernel_rfl) (by kernel_rfl) (fun _ _ _ _ h => h) (fun K hK => ?_)
  go_big_quiet_op
  refine hK _ ?_
  clear hK K
  refine pi_c 7 (by assumption) rfl (by kernel_rfl) (by kernel_rfl) (fun _ _ _ _ h => h) (fun K hK => ?_)
  go_big_quiet_op
  refine hK _ ?_
  clear hK K
  refine pi_c 12 (by assumption) rfl (by kernel_rfl) (by kernel_rfl) (fun _ _ _ _ h => h) (fun K hK => ?_)
  go_big_quiet_op
  refine hK _ ?_
  clear hK K
  refine pi_l 8 rfl (by kernel_rfl) (fun K hK => ?_)
  go_wp2
  refine hK _ _ (fun _ h => af_step h (Ext.alloc' _ _)) ?_
  clear hK K
  have hE1 : Ext w (w.alloc (.cells #[] 2)).drew := ((Ext.refl w).allocR _).drewR
  have hown : (w.alloc (.cells #[] 2)).drew.ownsRow w.heap.size 2 1 (.slice (some ⟨w.heap.size, 0, none⟩) 0 0) ([] : List Int).length (ints []) := own_drew (own_empty w 2)
  generalize (w.alloc (.cells #[] 2)).drew = W at *
  refine pi_l 13 rfl (by kernel_rfl) (fun K hK => ?_)
  go_wp2_with (at_builtin; refine wpList_appl W l [] _ w.heap.size 2 hown 43 rfl _ _ rfl info_i64 Tryz.underlying43 (by rfl) m 0 N cap (by rfl) HL.out.symm (HC.out W hE1) ?a1 ?a2 ?_)
  case a1 => show 0 + N ≤ _; omega
  case a2 => exact hE1.size
  intro v' w' g1 g2 g3
  have hE2 : Ext w w' := ext_grown0 hE1 g2 (fun i hi => own_blk hown hi)
  have hE2' : ∃ z : After w, w' = z.w := ⟨⟨w', hE2⟩, rfl⟩
  obtain ⟨z, zc, cur, rfl, hzc, hz, hzh, hzcur⟩ := own_row1 g1 (by show 0 < l.length; rw [HL.out]; omega)
  rw [HL.out] at hzc hzcur ⊢
  have HZ := Lib.hid (And.intro hzc (And.intro hz (And.intro hzh hzcur)))
  have hs2 := hE2.size
  clear g1 g2 g3 hown hzc hz hzh hzcur
  go_wp2
  refine hK _ _ (fun _ _ => hE2') ?_
  clear hK K
  refine pi_t 14 rfl (by kernel_rfl) (by kernel_rfl) (fun _ _ _ _ h => h) (fun K hK => ?_)
  go_big_quiet_op
  refine hK _ ?_
  clear hK K
  refine pi_l 15 rfl (by kernel_rfl) (fun K hK => ?_)
  go_wp2
  refine hK _ _ (fun _ h => af_step h (Ext.alloc' _ _)) ?_
  clear hK K
  refine pi_t 16 rfl (by kernel_rfl) (by kernel_rfl) (fun _ _ _ _ h => h) (fun K hK => ?_)
  go_big_quiet_op
  refine hK _ ?_
  clear hK K
  refine pi_end (by kernel_rfl) ?_
  go_wp2
  go_ret
  obtain ⟨q1, q2, q3, q4⟩ := HZ.out
  exact ⟨_, z, rfl, ⟨⟨zc, heap_at _ _ rfl, q1⟩, ⟨cur, (Ext.alloc' _ _).keep q3, fun k hk => q4 k hk⟩, HL.out, k1, k2, HF.out⟩, hs2, q2, hE2.allocR _⟩
theorem key_nat {key : Int} (h0 : 0 ≤ key) : ∃ k : Nat, key = k := ⟨key.toNat, by omega⟩
def RXUpdPost (w : World) (a m : Nat) (C : Cfg) (lv : Int) (N : Nat) (l : List Int) (key d : Int) (e : Ending) (w' : World) : Prop :=
  e = .returned (.int .i64 (errX C lv l key d)) ∧ ((errX C lv l key d = 0 ∧ RXAt w' a m C lv N (updX l key d) ∧ Mod (fun k => k = m) w w') ∨ (errX C lv l key d ≠ 0 ∧ Ext w w'))
set_option maxRecDepth 20000 in
set_option maxHeartbeats 4000000 in
theorem RXUpdate_c (a m : Nat) (C : Cfg) (lv : Int) (N : Nat) (l : List Int) (key d : Int) (w : World) (h : RXAt w a m C lv N l) (hkn : keys C lv = N) (hd : I64 d) (hk : U64 key) :
    Calls Tryz.prog 107 #[.pointer (some ⟨a, 0, none⟩), .int .u64 key, .int .i64 d] w (RXUpdPost w a m C lv N l key d) := by
  obtain ⟨hk0, hk1⟩ := hk
  obtain ⟨key, rfl⟩ := key_nat hk0
  obtain ⟨cap, hex, hcap⟩ := h.ex
  have c3 := (cell_of hex 3).trans rfl
  have c6 := (cell_of hex 6).trans rfl
  have la := h.lta
  have lm := h.ltm
  have k2 := h.k2
  have HH := Lib.hid h
  have HKK := Lib.hid hkn
  have HD := Lib.hid hd
  clear h hex hd
  by_cases hge : N ≤ key
  · have he : errX C lv l key d = 2 := errX_key (by omega)
    unfold RXUpdPost
    rw [he]
    have hge' : decide ((N : Int) ≤ (key : Int)) = true := by simp; omega
    clear hkn
    go_enter Tryz.func107, Tryz.ntmps107
    go_wp2
    go_ret
    exact ⟨rfl, by first | exact .inr ⟨by decide, Ext.refl _⟩ | exact Ext.refl _⟩
  · have hlt : key < N := by omega
    have cx := HH.out.cell hlt
    have fx := HH.out.frz key
    have hI := getD_i64 HH.out.fit key
    have hset := fun x (hx : I64 x) => HH.out.set hlt hx
    have HSET := Lib.hid hset
    have hne := HH.out.ne
    have HNE := Lib.hid hne
    have he := fun hn => errX_sum (C := C) (lv := lv) (l := l) (key := (key : Int)) (d := d) (by omega) hn
    have he2 := fun hm hn => errX_neg (C := C) (lv := lv) (l := l) (key := (key : Int)) (d := d) (by omega) hm hn
    have hu : updX l (key : Int) d = l.set key (l.getD key 0 + d) := by unfold updX; rw [Int.toNat_natCast]
    rw [Int.toNat_natCast] at he
    unfold RXUpdPost
    rw [hu]
    have HE := Lib.hid he
    have HE2 := Lib.hid he2
    have HI := Lib.hid hI
    generalize l.getD key 0 = x at *
    generalize errX C lv l key d = er at *
    have HLT := Lib.hid hlt
    have hlt3 : (key : Int) < (N : Int) := by omega
    have hlt4 : ¬ ((N : Int) ≤ (key : Int)) := by omega
    clear hge hu he he2 hset hne hI hkn hlt
    by_cases hmd : C.mode = 2 ∧ d < 0
    · obtain ⟨hm, hdn⟩ := hmd
      rw [HE2.out hm hdn]
      rw [hm] at c3
      clear hm
      go_enter Tryz.func107, Tryz.ntmps107
      go_wp2
      go_ret
      exact ⟨rfl, by first | exact .inr ⟨by decide, Ext.refl _⟩ | exact Ext.refl _⟩
    · have herr := HE.out hmd
      rw [herr]
      clear herr
      have hA : ∀ w', Calls Tryz.prog 159 #[.int .i64 x, .int .i64 d] w' fun e w'' => e = .returned (.tuple #[.int .i64 (fitN (x + d)), .bool (fitB (x + d))]) ∧ Ext w' w'' := fun w' => LAdd_c x d HI.out HD.out w'
      have HA := Lib.hid hA
      clear hA
      have fin : ∀ w1, Ext w w1 → w1.cell? ⟨a, 6, none⟩ = some (.slice (some ⟨m, 0, none⟩) N cap) ∧ w1.frozen? ⟨m, key, none⟩ = false ∧ (∃ v, w1.cell? ⟨m, key, none⟩ = some v) ∧ a < w1.heap.size ∧ m < w1.heap.size := fun w1 hx =>
        ⟨((bcell hx).1 _ _ la).trans c6, ((bcell hx).2 _ _ lm).trans fx, ⟨_, ((bcell hx).1 _ _ lm).trans cx⟩, Nat.lt_of_lt_of_le la hx.size, Nat.lt_of_lt_of_le lm hx.size⟩
      have HFIN := Lib.hid fin
      clear fin
      by_cases hfit : I64 (x + d)
      · have hfb := fitB_yes hfit
        have hfn := fitN_yes hfit
        rw [hfb, hfn] at HA
        rw [hfb]
        clear hfb hfn
        have hmode : (C.mode = 2) ∨ (C.mode ≠ 2) := by omega
        by_cases hm : C.mode = 2
        · have hdn : decide (d < 0) = false := by have := fun h => hmd ⟨hm, h⟩; simp; omega
          rw [hm] at c3
          clear hm hmd hmode
          go_enter Tryz.func107, Tryz.ntmps107
          go_wp2_with fail
          refine Calls.mono (HA.out _) ?_
          rintro e w1 ⟨rfl, hx1⟩
          obtain ⟨d6, fk, ⟨v0, ck⟩, l1, l2⟩ := HFIN.out w1 hx1
          clear c3 c6 cx fx la lm
          go_wp2
          go_ret
          have hX1 := HH.out.ext hx1
          exact ⟨rfl, by first | exact .inl ⟨rfl, hX1.set HLT.out hfit, (hx1.mod _).trans (mod_set _ _ _ _)⟩ | exact ⟨hX1.set HLT.out hfit, (hx1.mod _).trans (mod_set _ _ _ _)⟩⟩
        · have hmb : (C.mode == 2) = false := by simpa using hm
          clear hm hmd hmode
          go_enter Tryz.func107, Tryz.ntmps107
          go_wp2_with fail
          refine Calls.mono (HA.out _) ?_
          rintro e w1 ⟨rfl, hx1⟩
          obtain ⟨d6, fk, ⟨v0, ck⟩, l1, l2⟩ := HFIN.out w1 hx1
          clear c3 c6 cx fx la lm
          go_wp2
          go_ret
          have hX1 := HH.out.ext hx1
          exact ⟨rfl, by first | exact .inl ⟨rfl, hX1.set HLT.out hfit, (hx1.mod _).trans (mod_set _ _ _ _)⟩ | exact ⟨hX1.set HLT.out hfit, (hx1.mod _).trans (mod_set _ _ _ _)⟩⟩
      · have hfb := fitB_no hfit
        rw [hfb] at HA
        rw [hfb]
        clear hfb
        by_cases hm : C.mode = 2
        · have hdn : decide (d < 0) = false := by have := fun h => hmd ⟨hm, h⟩; simp; omega
          rw [hm] at c3
          clear hm hmd
          go_enter Tryz.func107, Tryz.ntmps107
          go_wp2_with fail
          refine Calls.mono (HA.out _) ?_
          rintro e w1 ⟨rfl, hx1⟩
          go_wp2
          go_ret
          exact ⟨rfl, by first | exact .inr ⟨by decide, hx1⟩ | exact hx1⟩
        · have hmb : (C.mode == 2) = false := by simpa using hm
          clear hm hmd
          go_enter Tryz.func107, Tryz.ntmps107
          go_wp2_with fail
          refine Calls.mono (HA.out _) ?_
          rintro e w1 ⟨rfl, hx1⟩
          go_wp2
          go_ret
          exact ⟨rfl, by first | exact .inr ⟨by decide, hx1⟩ | exact hx1⟩
end Go.Proofs.YtfhdjekpdifajaaGreat
namespace Go.Proofs.YtfhdjekpdifajaaGreat
set_option linter.unusedVariables false
open Go.RowKit
def RXJoinPost (w : World) (a : Nat) (C : Cfg) (lv : Int) (K : Nat) (ms : List Int) (e : Ending) (w' : World) : Prop :=
  (allI ms ∧ e = .returned (.int .i64 0) ∧ ∃ m' : Nat, RXAt w' a m' C lv K ms ∧ w.heap.size ≤ m' ∧ Mod (fun k => k = a) w w') ∨ (¬ allI ms ∧ e = .returned (.int .i64 4) ∧ Ext w w')
theorem rowF_all {K : Nat} {ms : List Int} (h : ms.length = K) : rowF (fun _ k => ms.getD k 0) 0 K = ms := by
  refine list_ext_getD ?_ (fun i hi => ?_)
  · rw [rowF_len, h]
  · rw [rowF_len] at hi
    rw [rowF_get hi]
set_option maxRecDepth 20000 in
set_option maxHeartbeats 16000000 in
theorem RXJoinMinus_c (a m a2 m2 : Nat) (C : Cfg) (lv : Int) (K : Nat) (l l2 : List Int) (w : World) (h : RXAt w a m C lv K l) (h2 : RXAt w a2 m2 C lv K l2) (hmd : "Minus" = "Minus" → C.mode ≠ 2) :
    Calls Tryz.prog 113 #[.pointer (some ⟨a, 0, none⟩), .pointer (some ⟨a2, 0, none⟩), .int .i64 (-1)] w (RXJoinPost w a C lv K (minusL l l2)) := by
  have HH := Lib.hid h
  have HH2 := Lib.hid h2
  have k1 := h.k1
  have k2 := h.k2
  have la := h.lta
  have la2 := h2.lta
  obtain ⟨cap, hex, hcap⟩ := h.ex
  obtain ⟨cap2, hex2, hcap2⟩ := h2.ex
  have c0 := (cell_of hex 0).trans rfl
  have c1 := (cell_of hex 1).trans rfl
  have c2 := (cell_of hex 2).trans rfl
  have c3 := (cell_of hex 3).trans rfl
  have c4 := (cell_of hex 4).trans rfl
  have c5 := (cell_of hex 5).trans rfl
  have d0 := (cell_of hex2 0).trans rfl
  have d1 := (cell_of hex2 1).trans rfl
  have d2 := (cell_of hex2 2).trans rfl
  have d3 := (cell_of hex2 3).trans rfl
  have d4 := (cell_of hex2 4).trans rfl
  have d5 := (cell_of hex2 5).trans rfl
  have HEX := Lib.hid hex
  have HEX2 := Lib.hid hex2
  have hmm : (C.mode == 2) = false := by have := hmd rfl; simpa using this
  have hml : (minusL l l2).length = K := by rw [minusL_len]; exact h.len
  have hfs : ∀ k, k < K → (minusL l l2).getD k 0 = l.getD k 0 - l2.getD k 0 := fun k hk => minusL_get (by rw [h.len]; exact hk)
  have HML := Lib.hid hml
  have HFS := Lib.hid hfs
  clear hml hfs h h2 hmd hex hex2
  generalize minusL l l2 = ms at *
  obtain ⟨f, hf⟩ : ∃ f : Nat → Nat → Int, f = fun _ k => ms.getD k 0 := ⟨_, rfl⟩
  have HF := Lib.hid hf
  clear hf
  go_enter Tryz.func113, Tryz.ntmps113
  go_wp2_with fail
  have hC0 := af_drew w
  refine pi_start (fun w' => ∃ z : After w, w' = z.w) [] (by kernel_rfl) ?_
  refine pi_t 0 rfl (by kernel_rfl) (by kernel_rfl) (fun _ _ _ _ h => h) (fun K hK => ?_)
  go_big_quiet_op
  refine hK _ ?_
  clear hK K
  refine pi_t 1 rfl (by kernel_rfl) (by kernel_rfl) (fun _ _ _ _ h => h) (fun K hK => ?_)
  go_big_quiet_op
  refine hK _ ?_
  clear hK K
  refine pi_t 2 rfl (by kernel_rfl) (by kernel_rfl) (fun _ _ _ _ h => h) (fun K hK => ?_)
  go_big_quiet_op
  refine hK _ ?_
  clear hK K
  refine pi_t 4 rfl (by kernel_rfl) (by kernel_rfl) (fun _ _ _ _ h => h) (fun K hK => ?_)
  go_big_quiet_op
  refine hK _ ?_
  clear hK K
  refine pi_t 5 rfl (by kernel_rfl) (by kernel_rfl) (fun _ _ _ _ h => h) (fun K hK => ?_)
  go_big_quiet_op
  refine hK _ ?_
  clear hK K
  refine pi_t 6 rfl (by kernel_rfl) (by kernel_rfl) (fun _ _ _ _ h => h) (fun K hK => ?_)
  go_big_quiet_op
  refine hK _ ?_
  clear hK K
  refine pi_c 3 (by assumption) rfl (by kernel_rfl) (by kernel_rfl) (fun _ _ _ _ h => h) (fun K hK => ?_)
  go_big_quiet_op
  refine hK _ ?_
  clear hK K
  refine pi_c 7 (by assumption) rfl (by kernel_rfl) (by kernel_rfl) (fun _ _ _ _ h => h) (fun K hK => ?_)
  go_big_quiet_op
  refine hK _ ?_
  clear hK K
  refine pi_t 8 rfl (by kernel_rfl) (by kernel_rfl) (fun _ _ _ _ h => h) (fun K hK => ?_)
  go_big_quiet_op
  refine hK _ ?_
  clear hK K
  refine pi_t 9 rfl (by kernel_rfl) (by kernel_rfl) (fun _ _ _ _ h => h) (fun K hK => ?_)
  go_big_quiet_op
  refine hK _ ?_
  clear hK K
  refine pi_t 10 rfl (by kernel_rfl) (by kernel_rfl) (fun _ _ _ _ h => h) (fun K hK => ?_)
  go_big_quiet_op
  refine hK _ ?_
  clear hK K
  refine pi_t 11 rfl (by kernel_rfl) (by kernel_rfl) (fun _ _ _ _ h => h) (fun K hK => ?_)
  go_big_quiet_op
  refine hK _ ?_
  clear hK K
  refine pi_t 12 rfl (by kernel_rfl) (by kernel_rfl) (fun _ _ _ _ h => h) (fun K hK => ?_)
  go_big_quiet_op
  refine hK _ ?_
  clear hK K
  refine pi_t 14 rfl (by kernel_rfl) (by kernel_rfl) (fun _ _ _ _ h => h) (fun K hK => ?_)
  go_big_quiet_op
  refine hK _ ?_
  clear hK K
  refine pi_t 15 rfl (by kernel_rfl) (by kernel_rfl) (fun _ _ _ _ h => h) (fun K hK => ?_)
  go_big_quiet_op
  refine hK _ ?_
  clear hK K
  refine pi_t 16 rfl (by kernel_rfl) (by kernel_rfl) (fun _ _ _ _ h => h) (fun K hK => ?_)
  go_big_quiet_op
  refine hK _ ?_
  clear hK K
  refine pi_c 13 (by assumption) rfl (by kernel_rfl) (by kernel_rfl) (fun _ _ _ _ h => h) (fun K hK => ?_)
  go_big_quiet_op
  refine hK _ ?_
  clear hK K
  refine pi_c 17 (by assumption) rfl (by kernel_rfl) (by kernel_rfl) (fun _ _ _ _ h => h) (fun K hK => ?_)
  go_big_quiet_op
  refine hK _ ?_
  clear hK K
  refine pi_t 18 rfl (by kernel_rfl) (by kernel_rfl) (fun _ _ _ _ h => h) (fun K hK => ?_)
  go_big_quiet_op
  refine hK _ ?_
  clear hK K
  refine pi_t 19 rfl (by kernel_rfl) (by kernel_rfl) (fun _ _ _ _ h => h) (fun K hK => ?_)
  go_big_quiet_op
  refine hK _ ?_
  clear hK K
  refine pi_end (by kernel_rfl) ?_
  have hE1 : Ext w w.drew := Below.drew (Ext.refl w)
  go_wp2_with fail
  clear c0 c1 c2 c3 c4 c5 d0 d1 d2 d3 d4 d5
  have hE2 : Ext w (w.drew.alloc (.cells #[] 2)) := hE1.allocR _
  have hro : (w.drew.alloc (.cells #[] 2)).ownsRow w.heap.size 2 1 (.slice (some ⟨w.heap.size, 0, none⟩) 0 0) 0 [] := own_empty w.drew _
  have HRO := Lib.hid hro
  have HE2 := Lib.hid hE2
  clear hE1 hE2 hro
  go_loopw [7, 8] (fun u7 u8 wr => ∃ j : Nat, j ≤ K ∧ u8 = .int .i64 j ∧ wr.ownsRow w.heap.size 2 1 u7 (rowF f 0 j).length (ints (rowF f 0 j)) ∧ Ext w wr ∧ ∀ c, c < j → I64 (f 0 c)) (fun _ u8 _ => K - (intOf u8).toNat)
  case atStart => exact ⟨0, Nat.zero_le _, rfl, by first | exact HRO.out | exact own_drew HRO.out, by first | exact HE2.out | exact HE2.out.drewR, fun c hc => absurd hc (Nat.not_lt_zero _)⟩
  case round =>
    clear HE2 HRO
    obtain ⟨j, hj, rfl, hown, hEo, hrow⟩ := hrel
    have HOWN := Lib.hid hown
    have HROW := Lib.hid hrow
    have e6 := (cell_of (hEo.keep HEX.out) 6).trans rfl
    have le := lt_of (hEo.keep HEX.out)
    clear hown hrow
    by_cases hjt : j < K
    · have hjz : (j : Int) < (K : Int) := by omega
      have hr1 := HH.out.ext hEo
      have hr2 := HH2.out.ext hEo
      have g6 := (cell_of (hEo.keep HEX2.out) 6).trans rfl
      have lg := lt_of (hEo.keep HEX2.out)
      have cr1 := hr1.cell hjt
      have lm1 := hr1.ltm
      have cr2 := hr2.cell hjt
      have lm2 := hr2.ltm
      have hix : I64 (l.getD j 0) := getD_i64 hr1.fit _
      have hiy : I64 (l2.getD j 0) := getD_i64 hr2.fit _
      have hfv := HFS.out j hjt
      have hfj : f 0 j = ms.getD j 0 := by rw [HF.out]
      rw [← hfj] at hfv
      generalize l.getD j 0 = x at *
      generalize l2.getD j 0 = y at *
      have hin := sum_in hix hiy
      have HIN := Lib.hid hin
      have HIX := Lib.hid hix
      have HIY := Lib.hid hiy
      have HFV := Lib.hid hfv
      have HEO := Lib.hid hEo
      have HRR := Lib.hid (And.intro e6 cr1)
      have hLT := Lib.hid (And.intro le lm1)
      clear hr1 hr2 hin hix hiy hfv hfj hEo
      rename World => wi
      go_wp2_with fail
      refine Calls.mono (OfInt_c y HIY.out _) ?_
      rintro e w1 ⟨rfl, hx1⟩
      unfold longV longA
      go_upto_region 10 with (fail)
      have hb1 : (w1.alloc (.cells #[.int .i64 (dg y 0), .int .i64 (dg y 1), .int .i64 (dg y 2), .int .i64 (dg y 3), .int .i64 (dg y 4), .int .i64 (dg y 5), .int .i64 (dg y 6), .int .i64 (dg y 7), .int .i64 (dg y 8), .int .i64 (dg y 9)] 237)).heap[w1.heap.size]? = some (.cells #[.int .i64 (dg y 0), .int .i64 (dg y 1), .int .i64 (dg y 2), .int .i64 (dg y 3), .int .i64 (dg y 4), .int .i64 (dg y 5), .int .i64 (dg y 6), .int .i64 (dg y 7), .int .i64 (dg y 8), .int .i64 (dg y 9)] 237 (0, 0)) := heap_at _ _ rfl
      have hx2 : Ext wi (w1.alloc (.cells #[.int .i64 (dg y 0), .int .i64 (dg y 1), .int .i64 (dg y 2), .int .i64 (dg y 3), .int .i64 (dg y 4), .int .i64 (dg y 5), .int .i64 (dg y 6), .int .i64 (dg y 7), .int .i64 (dg y 8), .int .i64 (dg y 9)] 237)) := hx1.allocR _
      have hbz := hx1.size
      generalize w1.alloc (.cells #[.int .i64 (dg y 0), .int .i64 (dg y 1), .int .i64 (dg y 2), .int .i64 (dg y 3), .int .i64 (dg y 4), .int .i64 (dg y 5), .int .i64 (dg y 6), .int .i64 (dg y 7), .int .i64 (dg y 8), .int .i64 (dg y 9)] 237) = w2 at *
      generalize w1.heap.size = bx at *
      have HX2 := Lib.hid hx2
      clear hx1 hx2 e6 le cr1 lm1 g6 lg cr2 lm2
      have x0 := (cell_of hb1 0).trans rfl
      have x1 := (cell_of hb1 1).trans rfl
      have x2 := (cell_of hb1 2).trans rfl
      have x3 := (cell_of hb1 3).trans rfl
      have x4 := (cell_of hb1 4).trans rfl
      have x5 := (cell_of hb1 5).trans rfl
      have x6 := (cell_of hb1 6).trans rfl
      have x7 := (cell_of hb1 7).trans rfl
      have x8 := (cell_of hb1 8).trans rfl
      have x9 := (cell_of hb1 9).trans rfl
      have lx := lt_of hb1
      go_upto_if 61 with (fail)
      go_cut [] (fun wx => LongAt wx bx (dg (-y)) ∧ Ext wi wx)
      case first =>
        have HB1 := Lib.hid hb1
        clear hb1
        have hMn : ∀ w' : World, Calls Tryz.prog 153 #[.agg #[.int .i64 (dg y 0), .int .i64 (dg y 1), .int .i64 (dg y 2), .int .i64 (dg y 3), .int .i64 (dg y 4), .int .i64 (dg y 5), .int .i64 (dg y 6), .int .i64 (dg y 7), .int .i64 (dg y 8), .int .i64 (dg y 9)]] w' fun e w'' => e = .returned (longV (-y)) ∧ Ext w' w'' := fun w' => LMinus_c y w'
        have HMN := Lib.hid hMn
        clear hMn
        go_wp2_with fail
        refine Calls.mono (HMN.out _) ?_
        rintro e w3 ⟨rfl, hx3⟩
        have hb3 := hx3.keep HB1.out
        have hE3 := HX2.out.trans' hx3
        clear x0 x1 x2 x3 x4 x5 x6 x7 x8 x9 lx
        have z0 := (cell_of hb3 0).trans rfl
        have f0 := frozen_of hb3 0
        have z1 := (cell_of hb3 1).trans rfl
        have f1 := frozen_of hb3 1
        have z2 := (cell_of hb3 2).trans rfl
        have f2 := frozen_of hb3 2
        have z3 := (cell_of hb3 3).trans rfl
        have f3 := frozen_of hb3 3
        have z4 := (cell_of hb3 4).trans rfl
        have f4 := frozen_of hb3 4
        have z5 := (cell_of hb3 5).trans rfl
        have f5 := frozen_of hb3 5
        have z6 := (cell_of hb3 6).trans rfl
        have f6 := frozen_of hb3 6
        have z7 := (cell_of hb3 7).trans rfl
        have f7 := frozen_of hb3 7
        have z8 := (cell_of hb3 8).trans rfl
        have f8 := frozen_of hb3 8
        have z9 := (cell_of hb3 9).trans rfl
        have f9 := frozen_of hb3 9
        have lz := lt_of hb3
        have HB3 := Lib.hid hb3
        clear hb3
        unfold longV longA
        go_wp2_with fail
        refine fin10 (Φ := fun W' => Met _ _ W') HB3.out hE3 hbz (fun W' hW hEW => ?_)
        go_meet
        exact ⟨long_mk hW, hEW⟩
      case rest =>
        obtain ⟨hL, hx4⟩ := hcut
        rename World => w4
        have hLc := long_cells hL
        have x0 := hLc 0 (by decide)
        have x1 := hLc 1 (by decide)
        have x2 := hLc 2 (by decide)
        have x3 := hLc 3 (by decide)
        have x4 := hLc 4 (by decide)
        have x5 := hLc 5 (by decide)
        have x6 := hLc 6 (by decide)
        have x7 := hLc 7 (by decide)
        have x8 := hLc 8 (by decide)
        have x9 := hLc 9 (by decide)
        have lx : bx < w4.heap.size := by unfold LongAt at hL; exact lt_of hL
        have e6 := ((bcell hx4).1 _ _ hLT.out.1).trans HRR.out.1
        have cr1 := ((bcell hx4).1 _ _ hLT.out.2).trans HRR.out.2
        have le := Nat.lt_of_lt_of_le hLT.out.1 hx4.size
        have lm1 := Nat.lt_of_lt_of_le hLT.out.2 hx4.size
        have hP : ∀ w' : World, Calls Tryz.prog 151 #[longV x, .agg #[.int .i64 (dg (-y) 0), .int .i64 (dg (-y) 1), .int .i64 (dg (-y) 2), .int .i64 (dg (-y) 3), .int .i64 (dg (-y) 4), .int .i64 (dg (-y) 5), .int .i64 (dg (-y) 6), .int .i64 (dg (-y) 7), .int .i64 (dg (-y) 8), .int .i64 (dg (-y) 9)]] w' fun e w'' => e = .returned (longV (x + -y)) ∧ Ext w' w'' := fun w' => LPlus_c x (-y) w'
        have HP := Lib.hid hP
        have hIn : ∀ w' : World, Calls Tryz.prog 150 #[longV (x + -y)] w' fun e w'' => e = .returned (.tuple #[.int .i64 (fitN (x + -y)), .bool (fitB (x + -y))]) ∧ Ext w' w'' := fun w' => LInt_c _ (by have := HIN.out; first | exact this.1.1 | exact this.2.1) (by have := HIN.out; first | exact this.1.2 | exact this.2.2) w'
        have HINT := Lib.hid hIn
        have hOf : ∀ w' : World, Calls Tryz.prog 152 #[.int .i64 x] w' fun e w'' => e = .returned (longV x) ∧ Ext w' w'' := fun w' => OfInt_c x HIX.out w'
        have HOF := Lib.hid hOf
        have hfv : f 0 j = x + -y := by have := HFV.out; omega
        have HFV2 := Lib.hid hfv
        clear hL hLc hP hIn hOf hfv
        generalize dg (-y) = dd at *
        generalize longV x = vx at *
        generalize longV (x + -y) = vs at *
        go_wp2_with fail
        refine wp_region_after (by kernel_rfl) (by kernel_rfl) ?_
        repeat (go_big_quiet_step ((first | (go_at_call 152; exact quiet_after (HOF.out _)) | (go_at_call 151; exact quiet_after (HP.out _)) | (go_at_call 150; exact quiet_after (HINT.out _)))))
        refine wpQuiet_nil ?_
        rintro _ ⟨xx, rfl⟩
        obtain ⟨w5, hb5⟩ := xx
        try dsimp only
        have hE5 := hx4.trans' hb5
        have HOWN5 := Lib.hid (own_ext HOWN.out hE5)
        have hEo5 := HEO.out.trans' hE5
        clear x0 x1 x2 x3 x4 x5 x6 x7 x8 x9 lx e6 cr1 le lm1 HP HINT HOF
        by_cases hfit : I64 (f 0 j)
        · have hfb : fitB (x + -y) = true := by rw [← HFV2.out]; exact fitB_yes hfit
          have hfn : fitN (x + -y) = f 0 j := by rw [← HFV2.out]; exact fitN_yes hfit
          rw [hfb, hfn]
          have HFIT := Lib.hid hfit
          have hrs := rowF_succ f 0 j
          have HRS := Lib.hid hrs
          have hrl := rowF_len f 0 j
          have HRL := Lib.hid hrl
          have hsz5 := hEo5.size
          clear hfb hfn hfit hrs hrl
          generalize hv : f 0 j = v at *
          have HV := Lib.hid hv
          clear hv
          go_wp2_with (at_builtin; refine wpList_app1 w5 v (rowF f 0 j) u7 w.heap.size 2 HOWN5.out 43 rfl _ _ rfl info_i64 Tryz.underlying43 (by rfl) (by rfl) ?a1 ?a2 ?_)
          case a1 => rw [HRL.out]; omega
          case a2 => exact hsz5
          intro v' w6 g1 g2 _
          have hE6 : Ext w w6 := ext_grown hEo5 g2 (fun i hi => own_blk HOWN5.out hi)
          have G1 := Lib.hid g1
          clear g1 g2
          go_wp2
          go_roundw
          case rel =>
            refine ⟨j + 1, by omega, by go_num, by rw [HRS.out, List.length_append]; exact G1.out, hE6, fun c hc => ?_⟩
            by_cases e : c = j
            · rw [e, HV.out]; exact HFIT.out
            · exact HROW.out c (by omega)
          case measure => simp [intOf]; omega
        · have hfb : fitB (x + -y) = false := by rw [← HFV2.out]; exact fitB_no hfit
          have hno : ¬ allI ms := fun ha => hfit (by rw [HF.out]; exact getD_i64 ha _)
          have HNO := Lib.hid hno
          rw [hfb]
          clear hfb hfit hno
          go_wp2
          go_ret
          exact .inr ⟨HNO.out, rfl, hEo5⟩
    · obtain rfl : j = K := by omega
      have hrl := rowF_len f 0 j
      obtain ⟨z, zc, cur, rfl, hzc, hz, hzh, hzcur⟩ := own_row1 HOWN.out (by rw [hrl]; omega)
      rw [hrl] at hzc hzcur ⊢
      have fz := frozen_of (hEo.keep HEX.out) 6
      have hall : allI ms := fun q hq => by
        obtain ⟨i, hi, rfl⟩ := List.getElem_of_mem hq
        have h5 := HROW.out i (by rw [← HML.out]; exact hi)
        rw [HF.out] at h5
        have e : ms.getD i 0 = ms[i] := by simp [hi]
        rw [← e]; exact h5
      have HA := Lib.hid hall
      have HC := Lib.hid (And.intro hzc (And.intro hz (And.intro hzh hzcur)))
      have hrf : rowF f 0 j = ms := by rw [HF.out]; exact rowF_all HML.out
      have HRF := Lib.hid hrf
      have HEO := Lib.hid hEo
      clear HOWN hrl hzc hz hzh hzcur hall hrf hEo
      go_wp2
      go_ret
      obtain ⟨q1, q2, q3, q4⟩ := HC.out
      rw [HRF.out] at q4
      have hEX := HEO.out.keep HEX.out
      have hza : z ≠ a := by omega
      refine .inl ⟨HA.out, rfl, z, ⟨⟨zc, (setCell_same hEX 6 _).trans rfl, q1⟩, ⟨cur, by rw [setCell_other _ _ hza]; exact q3, q4⟩, HML.out, k1, k2, HA.out⟩, q2, (HEO.out.mod _).trans (mod_set _ _ _ _)⟩
end Go.Proofs.YtfhdjekpdifajaaGreat
namespace Go.Proofs.YtfhdjekpdifajaaGreat
set_option linter.unusedVariables false
open Go.RowKit
def RSJoinPost (w : World) (s : Nat) (G : Gr) (C : Cfg) (lv : Int) (R W : Nat) (ms : List Int) (e : Ending) (w' : World) : Prop :=
  (allI ms ∧ e = .returned (.int .i64 0) ∧ ∃ G' : Gr, RSAt w' s G' C lv R W ms ∧ (∀ k, rsF s G' R k → rsF s G R k ∨ w.heap.size ≤ k) ∧ Mod (rsF s G R) w w') ∨ (¬ allI ms ∧ e = .returned (.int .i64 4) ∧ Ext w w')
set_option maxRecDepth 20000 in
set_option maxHeartbeats 8000000 in
theorem RSJoinMinus_c (s s2 : Nat) (G G2 : Gr) (C : Cfg) (lv : Int) (R W : Nat) (l l2 : List Int) (w : World) (h : RSAt w s G C lv R W l) (h2 : RSAt w s2 G2 C lv R W l2) (hmd : "Minus" = "Minus" → C.mode ≠ 2) :
    Calls Tryz.prog 114 #[.pointer (some ⟨s, 0, none⟩), .pointer (some ⟨s2, 0, none⟩), .int .i64 (-1)] w (RSJoinPost w s G C lv R W (minusL l l2)) := by
  have HH := Lib.hid h
  have HH2 := Lib.hid h2
  have ls := h.lts
  have hex := h.ex
  have c0 := (cell_of hex 0).trans rfl
  have c1 := (cell_of hex 1).trans rfl
  have c2 := (cell_of hex 2).trans rfl
  have c3 := (cell_of hex 3).trans rfl
  have c4 := (cell_of hex 4).trans rfl
  have c5 := (cell_of hex 5).trans rfl
  have ls2 := h2.lts
  have hex2 := h2.ex
  have d0 := (cell_of hex2 0).trans rfl
  have d1 := (cell_of hex2 1).trans rfl
  have d2 := (cell_of hex2 2).trans rfl
  have d3 := (cell_of hex2 3).trans rfl
  have d4 := (cell_of hex2 4).trans rfl
  have d5 := (cell_of hex2 5).trans rfl
  have hmm : (C.mode == 2) = false := by have := hmd rfl; simpa using this
  clear hex hex2 h h2 hmd
  go_enter Tryz.func114, Tryz.ntmps114
  go_wp2_with fail
  have hC0 := af_drew w
  refine pi_start (fun w' => ∃ z : After w, w' = z.w) [] (by kernel_rfl) ?_
  refine pi_t 0 rfl (by kernel_rfl) (by kernel_rfl) (fun _ _ _ _ h => h) (fun K hK => ?_)
  go_big_quiet_op
  refine hK _ ?_
  clear hK K
  refine pi_t 1 rfl (by kernel_rfl) (by kernel_rfl) (fun _ _ _ _ h => h) (fun K hK => ?_)
  go_big_quiet_op
  refine hK _ ?_
  clear hK K
  refine pi_t 2 rfl (by kernel_rfl) (by kernel_rfl) (fun _ _ _ _ h => h) (fun K hK => ?_)
  go_big_quiet_op
  refine hK _ ?_
  clear hK K
  refine pi_t 4 rfl (by kernel_rfl) (by kernel_rfl) (fun _ _ _ _ h => h) (fun K hK => ?_)
  go_big_quiet_op
  refine hK _ ?_
  clear hK K
  refine pi_t 5 rfl (by kernel_rfl) (by kernel_rfl) (fun _ _ _ _ h => h) (fun K hK => ?_)
  go_big_quiet_op
  refine hK _ ?_
  clear hK K
  refine pi_t 6 rfl (by kernel_rfl) (by kernel_rfl) (fun _ _ _ _ h => h) (fun K hK => ?_)
  go_big_quiet_op
  refine hK _ ?_
  clear hK K
  refine pi_c 3 (by assumption) rfl (by kernel_rfl) (by kernel_rfl) (fun _ _ _ _ h => h) (fun K hK => ?_)
  go_big_quiet_op
  refine hK _ ?_
  clear hK K
  refine pi_c 7 (by assumption) rfl (by kernel_rfl) (by kernel_rfl) (fun _ _ _ _ h => h) (fun K hK => ?_)
  go_big_quiet_op
  refine hK _ ?_
  clear hK K
  refine pi_t 8 rfl (by kernel_rfl) (by kernel_rfl) (fun _ _ _ _ h => h) (fun K hK => ?_)
  go_big_quiet_op
  refine hK _ ?_
  clear hK K
  refine pi_t 9 rfl (by kernel_rfl) (by kernel_rfl) (fun _ _ _ _ h => h) (fun K hK => ?_)
  go_big_quiet_op
  refine hK _ ?_
  clear hK K
  refine pi_t 10 rfl (by kernel_rfl) (by kernel_rfl) (fun _ _ _ _ h => h) (fun K hK => ?_)
  go_big_quiet_op
  refine hK _ ?_
  clear hK K
  refine pi_t 11 rfl (by kernel_rfl) (by kernel_rfl) (fun _ _ _ _ h => h) (fun K hK => ?_)
  go_big_quiet_op
  refine hK _ ?_
  clear hK K
  refine pi_t 12 rfl (by kernel_rfl) (by kernel_rfl) (fun _ _ _ _ h => h) (fun K hK => ?_)
  go_big_quiet_op
  refine hK _ ?_
  clear hK K
  refine pi_t 14 rfl (by kernel_rfl) (by kernel_rfl) (fun _ _ _ _ h => h) (fun K hK => ?_)
  go_big_quiet_op
  refine hK _ ?_
  clear hK K
  refine pi_t 15 rfl (by kernel_rfl) (by kernel_rfl) (fun _ _ _ _ h => h) (fun K hK => ?_)
  go_big_quiet_op
  refine hK _ ?_
  clear hK K
  refine pi_t 16 rfl (by kernel_rfl) (by kernel_rfl) (fun _ _ _ _ h => h) (fun K hK => ?_)
  go_big_quiet_op
  refine hK _ ?_
  clear hK K
  refine pi_c 13 (by assumption) rfl (by kernel_rfl) (by kernel_rfl) (fun _ _ _ _ h => h) (fun K hK => ?_)
  go_big_quiet_op
  refine hK _ ?_
  clear hK K
  refine pi_c 17 (by assumption) rfl (by kernel_rfl) (by kernel_rfl) (fun _ _ _ _ h => h) (fun K hK => ?_)
  go_big_quiet_op
  refine hK _ ?_
  clear hK K
  refine pi_t 18 rfl (by kernel_rfl) (by kernel_rfl) (fun _ _ _ _ h => h) (fun K hK => ?_)
  go_big_quiet_op
  refine hK _ ?_
  clear hK K
  refine pi_t 19 rfl (by kernel_rfl) (by kernel_rfl) (fun _ _ _ _ h => h) (fun K hK => ?_)
  go_big_quiet_op
  refine hK _ ?_
  clear hK K
  refine pi_end (by kernel_rfl) ?_
  have hE1 : Ext w w.drew := Below.drew (Ext.refl w)
  have HG := Lib.hid (fun W' (hW : Ext w W') => RGJoinMinus_c G G2 R W l l2 W' (HH.out.g.ext hW) (HH2.out.g.ext hW) HH.out.fit HH2.out.fit)
  have hex1 := HH.out.ex
  have hex2 := HH2.out.ex
  have c6 := (cell_of hex1 6).trans rfl
  have d6 := (cell_of hex2 6).trans rfl
  clear hex1 hex2
  go_wp2_with fail
  have hC0 : ∃ z : After w, w.drew.drew = z.w := ⟨⟨_, (Ext.refl w).drewR.drewR⟩, rfl⟩
  refine pi_start (fun w' => ∃ z : After w, w' = z.w) [9] (by kernel_rfl) ?_
  refine pi_t 0 rfl (by kernel_rfl) (by kernel_rfl) (fun _ _ _ _ h => h) (fun K hK => ?_)
  go_big_quiet_op
  refine hK _ ?_
  clear hK K
  refine pi_t 1 rfl (by kernel_rfl) (by kernel_rfl) (fun _ _ _ _ h => h) (fun K hK => ?_)
  go_big_quiet_op
  refine hK _ ?_
  clear hK K
  refine pi_t 2 rfl (by kernel_rfl) (by kernel_rfl) (fun _ _ _ _ h => h) (fun K hK => ?_)
  go_big_quiet_op
  refine hK _ ?_
  clear hK K
  refine pi_t 4 rfl (by kernel_rfl) (by kernel_rfl) (fun _ _ _ _ h => h) (fun K hK => ?_)
  go_big_quiet_op
  refine hK _ ?_
  clear hK K
  refine pi_t 5 rfl (by kernel_rfl) (by kernel_rfl) (fun _ _ _ _ h => h) (fun K hK => ?_)
  go_big_quiet_op
  refine hK _ ?_
  clear hK K
  refine pi_t 6 rfl (by kernel_rfl) (by kernel_rfl) (fun _ _ _ _ h => h) (fun K hK => ?_)
  go_big_quiet_op
  refine hK _ ?_
  clear hK K
  refine pi_t 8 rfl (by kernel_rfl) (by kernel_rfl) (fun _ _ _ _ h => h) (fun K hK => ?_)
  go_big_quiet_op
  refine hK _ ?_
  clear hK K
  refine pi_c 3 (by assumption) rfl (by kernel_rfl) (by kernel_rfl) (fun _ _ _ _ h => h) (fun K hK => ?_)
  go_big_quiet_op
  refine hK _ ?_
  clear hK K
  refine pi_c 7 (by assumption) rfl (by kernel_rfl) (by kernel_rfl) (fun _ _ _ _ h => h) (fun K hK => ?_)
  go_big_quiet_op
  refine hK _ ?_
  clear hK K
  refine pi_l 9 rfl (by kernel_rfl) (fun K hK => ?_)
  go_wp2_with (go_at_call 165; refine Calls.mono (HG.out _ (Ext.refl w).drewR.drewR) ?_; rintro e w1 (⟨ha, rfl, G', hg', hG', hF', hM'⟩ | ⟨ha, rfl, hx'⟩))
  · refine hK _ _ (by simp) ?_
    clear hK K
    have HA := Lib.hid ha
    have HGG := Lib.hid hg'
    have HG' := Lib.hid hG'
    have HF' := Lib.hid hF'
    have hM2 : Mod (fun k => k = G.g) w w1 := ((Ext.refl w).drewR.drewR.mod _).trans hM'
    clear ha hg' hG' hF' hM'
    refine pi_t 10 rfl (by kernel_rfl) (by kernel_rfl) (fun _ _ _ _ h => h) (fun K hK => ?_)
    go_big_quiet_op
    refine hK _ ?_
    clear hK K
    refine pi_end (by kernel_rfl) ?_
    go_wp2
    go_ret
    refine .inl ⟨HA.out, rfl, G', ⟨?_, HG'.out, HH.out.ok, HH.out.lo, HH.out.hi, HH.out.hr, HH.out.hw, HA.out⟩, ?_, hM2.wider (fun k hk => .inr (.inl hk))⟩
    · rw [HGG.out, hM2.block s ls (fun e => HH.out.ns (.inl e))]; exact HH.out.ex
    · rintro k (rfl | hk)
      · exact .inl (.inl rfl)
      · rcases HF'.out k hk with h1 | h1
        · exact .inl (.inr (.inl h1))
        · exact .inr h1
  · refine hK _ _ (by simp) ?_
    clear hK K
    have HA := Lib.hid ha
    have hE2 : Ext w w1 := (Ext.refl w).drewR.drewR.trans' hx'
    clear ha hx'
    refine pi_t 10 rfl (by kernel_rfl) (by kernel_rfl) (fun _ _ _ _ h => h) (fun K hK => ?_)
    go_big_quiet_op
    refine hK _ ?_
    clear hK K
    refine pi_end (by kernel_rfl) ?_
    go_wp2
    go_ret
    exact .inr ⟨HA.out, rfl, hE2⟩
end Go.Proofs.YtfhdjekpdifajaaGreat
namespace Go.Proofs.YtfhdjekpdifajaaGreat
set_option linter.unusedVariables false
open Go.RowKit
def KCopyPost (w : World) (C : Cfg) (B : Nat) (ls : Nat → List Int) (e : Ending) (w' : World) : Prop :=
  ∃ (s g : Nat) (L : Nat → Lev), e = .returned (.pointer (some ⟨s, 0, none⟩)) ∧ KAt w' s g C B L ls ∧ w.heap.size ≤ s ∧ w.heap.size ≤ g ∧ (∀ n, n ≤ B → w.heap.size ≤ (L n).s ∧ w.heap.size ≤ (L n).b ∧ w.heap.size ≤ (L n).c) ∧ Ext w w'
set_option maxRecDepth 20000 in
set_option maxHeartbeats 4000000 in
theorem KCopy_c (s g : Nat) (C : Cfg) (B : Nat) (L : Nat → Lev) (ls : Nat → List Int) (w : World) (h : KAt w s g C B L ls) :
    Calls Tryz.prog 20 #[.pointer (some ⟨s, 0, none⟩)] w (KCopyPost w C B ls) := by
  have hok := h.ok
  have hB := h.hB
  have hlt := h.lts
  obtain ⟨cap, hex, hcap⟩ := h.ex
  have c5 := (cell_of hex 5).trans rfl
  have hb2 : B ≤ 59 := by have := hok.b2; omega
  have HE := Lib.hid hex
  have HH := Lib.hid h
  have HB := Lib.hid hB
  clear h hex hB
  go_enter Tryz.func20, Tryz.ntmps20
  go_wp2
  go_loopw [3, 11] (fun u3 u11 wr => ∃ (k : Nat) (L' : Nat → Lev), k ≤ B + 1 ∧ u11 = .int .i64 k ∧ Ext w wr ∧ Made wr w.heap.size C k L' ls u3) (fun _ u11 _ => B + 1 - (intOf u11).toNat)
  case atStart =>
    refine ⟨0, fun _ => ⟨0, 0, 0⟩, Nat.zero_le _, rfl, Ext.refl _, ⟨⟨rfl, .inl ⟨rfl, rfl⟩⟩, ?_, ?_, ?_⟩⟩ <;> (intros; omega)
  case round =>
    obtain ⟨k, L', hk, rfl, hE, hM⟩ := hrel
    have hkr := HH.out.ext hE
    have hsz := hE.size
    have HM := Lib.hid hM
    clear hM
    by_cases hlt' : k < B + 1
    · have cn := hkr.cell (show k ≤ B by omega)
      have hL0 := hkr.lev k (by omega)
      have hltg := hkr.ltg
      clear hkr
      go_wp2_with fail
      refine (LCopy_c C k (L k) (ls k) _ hL0).mono ?_
      rintro e w2 ⟨M, rfl, hL, n1, n2, n3, hx2⟩
      have hown := own_ext HM.out.row hx2
      have hszz := hx2.size
      obtain ⟨T, hT⟩ : ∃ T, lvV C k M = .iface T (.pointer (some ⟨M.s, 0, none⟩)) := ⟨lvT C k, rfl⟩
      rw [hT]
      have HT := Lib.hid hT
      clear hT
      have hll := lvVs_len C L' k
      obtain ⟨i0, z0, hi0, hz0, hz1, hz2, hz3⟩ := info_lev
      go_wp2_with (at_builtin; refine wpList_appv w2 (.iface T (.pointer (some ⟨M.s, 0, none⟩))) rfl (lvVs C L' k) u3 w.heap.size 62 hown 147 rfl _ _ rfl i0 z0 hi0 hz0 hz1 hz2 hz3 Tryz.underlying147 rfl rfl ?a1 ?a2 ?_)
      case a1 => omega
      case a2 => omega
      intro v' w' hown' hgr
      have hmade := HM.out.ext hx2
      have hnext := hmade.next (N := wr.heap.size) (ls := ls) hL (fun n hn => HM.out.ltN n hn) (by omega) n1 n2 n3 rfl (by rw [HT.out, List.length_append, hll]; exact hown') hgr
      have hex : Ext w w' := ext_grown (hE.trans' hx2) hgr (fun i hi => own_blk hown hi)
      go_wp2
      go_roundw
      case rel => exact ⟨k + 1, _, by omega, by go_num, hex, hnext⟩
      case measure => simp [intOf]; omega
    · obtain rfl : k = B + 1 := by omega
      obtain ⟨p5, k5, c5, rfl⟩ := own_slice HM.out.row
      have hltr := hkr.lts
      obtain ⟨cap2, hex2, _⟩ := hkr.ex
      have d0 := (cell_of hex2 0).trans rfl
      have d1 := (cell_of hex2 1).trans rfl
      have d2 := (cell_of hex2 2).trans rfl
      have d3 := (cell_of hex2 3).trans rfl
      have d4 := (cell_of hex2 4).trans rfl
      clear hex2 hkr
      go_wp2
      go_ret
      obtain ⟨g', hg, hK⟩ := (HM.out.ext (Ext.alloc' wr (.cells #[.int .i64 C.bits, .int .i64 C.rows, .int .i64 C.width, .int .i64 C.mode, .int .u64 C.seed, .slice p5 k5 c5] 149))).stack hok HB.out (heap_at _ _ rfl)
      exact ⟨wr.heap.size, g', L', rfl, hK, hsz, hg, fun n hn => HM.out.new n (by omega), hE.allocR _⟩
set_option maxRecDepth 20000 in
theorem KAt_c (s g : Nat) (C : Cfg) (B : Nat) (L : Nat → Lev) (ls : Nat → List Int) (w : World) (h : KAt w s g C B L ls) (n : Nat) (hn : n ≤ B) :
    Calls Tryz.prog 84 #[.pointer (some ⟨s, 0, none⟩), .int .i64 n] w fun e w' => ∃ M : Lev, e = .returned (.tuple #[lvV C n M, .bool true]) ∧ LvAt w' M C n (ls n) ∧ w.heap.size ≤ M.s ∧ w.heap.size ≤ M.b ∧ w.heap.size ≤ M.c ∧ Ext w w' := by
  go_enter Tryz.func84, Tryz.ntmps84
  go_wp2_with fail
  refine (level_yes s g C B L ls w h n hn).mono ?_
  rintro e w1 ⟨rfl, rfl⟩
  go_wp2_with fail
  refine (LCopy_c C n (L n) (ls n) _ (h.lev n hn)).mono ?_
  rintro e w2 ⟨M, rfl, hL, n1, n2, n3, hx2⟩
  go_wp2
  go_ret2
  exact ⟨M, rfl, hL, n1, n2, n3, hx2⟩
end Go.Proofs.YtfhdjekpdifajaaGreat
namespace Go.Proofs.YtfhdjekpdifajaaGreat
set_option linter.unusedVariables false
open Go.RowKit
attribute [local go_sem] Oper.semAt_some
def KUpdPost (w : World) (s g : Nat) (C : Cfg) (B : Nat) (L : Nat → Lev) (ls : Nat → List Int) (key d : Int) (e : Ending) (w' : World) : Prop :=
  e = .returned (.int .i64 (errK C B ls key d)) ∧ KAt w' s g C B L (bif decide (errK C B ls key d = 0) then updK C ls key d else ls) ∧ Mod (cellsOf B L) w w'
set_option maxRecDepth 100000 in
set_option maxHeartbeats 4000000 in
theorem KUpdate_c (s g : Nat) (C : Cfg) (B : Nat) (L : Nat → Lev) (ls : Nat → List Int) (key d : Int) (w : World) (h : KAt w s g C B L ls) (hd : I64 d) (hk : U64 key) :
    Calls Tryz.prog 26 #[.pointer (some ⟨s, 0, none⟩), .int .u64 key, .int .i64 d] w (KUpdPost w s g C B L ls key d) := by
  have hok := h.ok
  have hlt := h.lts
  have hltg := h.ltg
  obtain ⟨cap, hex, hcap⟩ := h.ex
  have c0 := (cell_of hex 0).trans rfl
  have c1 := (cell_of hex 1).trans rfl
  have c2 := (cell_of hex 2).trans rfl
  have c3 := (cell_of hex 3).trans rfl
  have c4 := (cell_of hex 4).trans rfl
  have hb2 : C.bits ≤ 59 := hok.b2
  have hb1 : 1 ≤ C.bits := hok.b1
  have HE := Lib.hid hex
  have HH := Lib.hid h
  clear h hex
  refine (callsIn_wide (n := 5)).1 ?_
  refine callsIn_of_wp_marks Tryz.func26 rfl trivial ?_ rfl
  simp only [Tryz.ntmps26, List.size_toArray, List.length_cons, List.length_nil, Nat.reduceAdd, Nat.reduceSub, Array.replicate_succ, Array.replicate_zero, List.push_toArray, List.append_toArray, List.nil_append, List.cons_append]
  gi_wp2_with fail
  refine ⟨trivial, (callsIn_wide.2 (Keys_c C hok 0 (Int.le_refl 0) (by omega) _)).mono ?_⟩
  rintro e w1 ⟨rfl, hx1⟩
  have hE1 : Ext w w1 := (Ext.alloc' w _).trans' hx1
  have h1 := HH.out.ext hE1
  have db := hx1.keep (heap_at w (.cells #[.int .i64 d] 2) rfl)
  have hls := h1.lts
  by_cases hkey : keys C 0 ≤ key
  · have e1 : errK C B ls key d = 2 := by unfold errK; rw [decide_eq_true hkey]; rfl
    have hge : decide (keys C 0 ≤ key) = true := decide_eq_true hkey
    gi_wp2
    exact ⟨_, results_tmp rfl _ _ _, by rw [e1]; rfl, by rw [e1]; exact h1, hE1.mod _⟩
  · have hge : decide (keys C 0 ≤ key) = false := decide_eq_false hkey
    gi_wp2_with fail
    refine ⟨trivial, (callsIn_wide.2 (Kat_c s key _)).mono ?_⟩
    rintro e w2 ⟨rfl, rfl⟩
    gi_wp2
    obtain ⟨W0, hW0⟩ : ∃ W0, ((w1.alloc (.cells #[.int .i64 0] 29)).alloc (.cells #[.pointer (some ⟨s, 0, none⟩)] 28)).alloc (.cells #[.int .u64 key] 22) = W0 := ⟨_, rfl⟩
    have hsz : W0.heap.size = w1.heap.size + 3 := by rw [← hW0]; simp
    have hEW : Ext w1 W0 := by rw [← hW0]; exact ((Ext.alloc' _ _).allocR _).allocR _
    have hb0 : W0.heap[w1.heap.size]? = some (.cells #[.int .i64 0] 29 (0, 0)) := by rw [← hW0, heap_old _ _ (by simp; omega), heap_old _ _ (by simp)]; exact heap_at _ _ rfl
    have hb1' : W0.heap[w1.heap.size + 1]? = some (.cells #[.pointer (some ⟨s, 0, none⟩)] 28 (0, 0)) := by rw [← hW0, heap_old _ _ (by simp)]; exact heap_at _ _ (size_alloc _ _).symm
    have hb2' : W0.heap[w1.heap.size + 2]? = some (.cells #[.int .u64 key] 22 (0, 0)) := by rw [← hW0]; exact heap_at _ _ (by simp)
    rw [hW0]
    have h2 := h1.ext hEW
    obtain ⟨cap2, hex2, hcap2⟩ := h2.ex
    have H2 := Lib.hid h2
    have hBd : B ≤ 59 := by have := hok.b2; have := h2.hB; omega
    refine wpIn_rangeFunc_ownF rfl (by decide) (gf := 147) (lb := #[.pointer (some ⟨w1.heap.size + 1, 0, none⟩), .pointer (some ⟨w1.heap.size + 1 + 1, 0, none⟩)]) rfl trivial (enters_of Tryz.func147 (by kernel_rfl) rfl)
      (kat1_stops 4 (w1.heap.size + 1) (w1.heap.size + 2) W0.heap.size s g cap2 (fun k => k = w1.heap.size) C L B key hk hBd (by omega) (by omega) h2.lts h2.ltg (by omega) (by omega) (by omega) (by have := h1.ltg; omega) W0 (Nat.le_refl _)
        ((cell_of hb1' 0).trans rfl) ((cell_of hb2' 0).trans rfl) ((cell_of hex2 5).trans rfl) (fun n hn => h2.cell hn)) KpS.t (fun W l o o' hl ho hc hw => KpS.b (Nat.le_refl _) W l o o' hl ho hc hw) (Below.refl _ _) (fun _ => rfl)
      (fun pre W => W.heap[w1.heap.size]? = some (.cells #[.int .i64 (errF C ls key d (vals pre))] 29 (0, 0)) ∧ Mod (fun k => k = w1.heap.size) W0 W)
      (fun _ _ _ => False)
      (OwnFrom.and (ownFrom_box (by omega) _) (ownFrom_mod (Nat.le_refl _)))
      (fun _ _ _ _ _ hs _ _ => hs)
      ⟨hb0, Mod.refl _ _⟩
      (fun x => { tmps := #[.pointer (some ⟨s, 0, none⟩), .int .u64 key, .int .i64 d, undef, undef, .pointer (some ⟨w.heap.size, 0, none⟩), .int .i64 0, .pointer (some ⟨w1.heap.size, 0, none⟩), lvV C x.1 (L x.1), .int .u64 (sh x.1 key), undef, undef, .int .u64 key, .pointer (some ⟨s, 0, none⟩), .pointer (some ⟨s, 0, none⟩), .pointer (some ⟨s, 0, none⟩), .agg #[.int .i64 C.bits, .int .i64 C.rows, .int .i64 C.width, .int .i64 C.mode, .int .u64 C.seed], .int .u64 (keys C 0), .bool false, .pointer (some ⟨s, 0, none⟩), .int .u64 key, .func (.func 147) #[] #[.pointer (some ⟨w1.heap.size + 1, 0, none⟩), .pointer (some ⟨w1.heap.size + 1 + 1, 0, none⟩)], lvV C x.1 (L x.1), .int .u64 (sh x.1 key), undef, undef, undef, undef, undef, undef, undef, undef, undef, undef, undef, undef, undef, undef, undef, undef, undef, undef, undef], defers := [] }) ?assign ?body ?done ?stop
    case assign =>
      intro l x W K hK
      dsimp only [lvEnc]
      gi_wp2
      exact hK
    case body =>
      rintro l pre x W ⟨hbad, hM0⟩ hlen
      have hM := mod_new hEW hM0 (Nat.le_refl _)
      have hxn := x.2
      have h3 := h1.keepN h1.low (fun k hk _ => hM.block k hk (fun h => h))
      have hLx := h3.lev x.1 x.2
      have hbc := (cell_of hbad 0).trans rfl
      have hdW := hM.keep db (fun h => h)
      have hdc := (cell_of hdW 0).trans rfl
      have hbl := lt_of hbad
      have hdl := lt_of hdW
      have hkx := sh_u64 hk x.1
      gi_wp2
      cases hx : isX C x.1 with
      | true =>
        have hA := (hLx.x hx).ext (Below.drew (Ext.refl W))
        have HX := Lib.hid hx
        rw [lvV_x hx]
        clear hx
        refine pi_startR (fun w' => ∃ x : After W, w' = x.w) [7] (by kernel_rfl) (fun ⟨_, _, hh⟩ => hh) (by kernel_rfl) ?_
        have hC0 := af_drew W
        refine pi_c 0 (by assumption) rfl (by kernel_rfl) (by kernel_rfl) (fun _ _ _ _ h => h) (fun K hK => ?_)
        go_big_quiet_op
        refine hK _ ?_
        clear hK K
        refine pi_t 1 rfl (by kernel_rfl) (by kernel_rfl) (fun _ _ _ _ h => h) (fun K hK => ?_)
        go_big_quiet_op
        refine hK _ ?_
        clear hK K
        refine pi_t 2 rfl (by kernel_rfl) (by kernel_rfl) (fun _ _ _ _ h => h) (fun K hK => ?_)
        go_big_quiet_op
        refine hK _ ?_
        clear hK K
        refine pi_c 3 (by assumption) rfl (by kernel_rfl) (by kernel_rfl) (fun _ _ _ _ h => h) (fun K hK => ?_)
        go_big_quiet_op
        refine hK _ ?_
        clear hK K
        refine pi_l 4 rfl (by kernel_rfl) (fun K hK => ?_)
        go_wp2_with fail
        refine (ECheck_c _ _ _ C _ _ _ (sh x.1 key) d _ hA hd hkx).mono ?_
        rintro e w3 ⟨rfl, hx3⟩
        have hb3 := hx3.keep (show W.drew.heap[w1.heap.size]? = _ from hbad)
        have hbc3 := (cell_of hb3 0).trans rfl
        have hbl3 := lt_of hb3
        have hbf3 := frozen_of hb3 0
        go_wp2
        refine hK _ _ (fun _ h => af_step h hx3) ?_
        clear hK K
        refine pi_l 5 rfl (by kernel_rfl) (fun K hK => ?_)
        go_wp2
        refine hK _ _ (fun _ h => af_step h (Ext.alloc' _ _)) ?_
        clear hK K
        refine pi_l 6 rfl (by kernel_rfl) (fun K hK => ?_)
        go_wp2_with fail
        refine (first_c w3.heap.size 2 (errF C ls key d (vals pre)) (errX C x.1 (ls x.1) (sh x.1 key) d) _ ((cell_of (heap_at w3 _ rfl) 0).trans rfl) ((cell_of (heap_at w3 _ rfl) 1).trans rfl)).mono ?_
        rintro e w4 ⟨rfl, rfl⟩
        go_wp2
        refine hK _ _ (fun _ h => h) ?_
        clear hK K
        refine pi_l 7 rfl (by kernel_rfl) (fun K hK => ?_)
        go_wp2
        refine hK _ _ (by simp) ?_
        clear hK K
        refine pi_end (by kernel_rfl) ?_
        obtain ⟨r1, r2, r3, r4⟩ := chk_round (v := .int .i64 (fst_ (errF C ls key d (vals pre)) (errX C x.1 (ls x.1) (sh x.1 key) d))) (o := .cells #[.int .i64 (errF C ls key d (vals pre)), .int .i64 (errX C x.1 (ls x.1) (sh x.1 key) d)] 29) hbad (Ext.trans' (Below.drew (Ext.refl W)) hx3) hM0
        exact ⟨r1, r2, by rw [vals_snoc, errF_snoc, lvE_x HX.out]; exact r3, r4⟩
      | false =>
        have hA := (hLx.sk hx).ext (Below.drew (Ext.refl W))
        have HX := Lib.hid hx
        rw [lvV_s hx]
        clear hx
        refine pi_startR (fun w' => ∃ x : After W, w' = x.w) [7] (by kernel_rfl) (fun ⟨_, _, hh⟩ => hh) (by kernel_rfl) ?_
        have hC0 := af_drew W
        refine pi_c 0 (by assumption) rfl (by kernel_rfl) (by kernel_rfl) (fun _ _ _ _ h => h) (fun K hK => ?_)
        go_big_quiet_op
        refine hK _ ?_
        clear hK K
        refine pi_t 1 rfl (by kernel_rfl) (by kernel_rfl) (fun _ _ _ _ h => h) (fun K hK => ?_)
        go_big_quiet_op
        refine hK _ ?_
        clear hK K
        refine pi_t 2 rfl (by kernel_rfl) (by kernel_rfl) (fun _ _ _ _ h => h) (fun K hK => ?_)
        go_big_quiet_op
        refine hK _ ?_
        clear hK K
        refine pi_c 3 (by assumption) rfl (by kernel_rfl) (by kernel_rfl) (fun _ _ _ _ h => h) (fun K hK => ?_)
        go_big_quiet_op
        refine hK _ ?_
        clear hK K
        refine pi_l 4 rfl (by kernel_rfl) (fun K hK => ?_)
        go_wp2_with fail
        refine (Check_c _ _ _ C _ _ _ _ (sh x.1 key) d _ hA hd hkx.1).mono ?_
        rintro e w3 ⟨rfl, hx3⟩
        have hb3 := hx3.keep (show W.drew.heap[w1.heap.size]? = _ from hbad)
        have hbc3 := (cell_of hb3 0).trans rfl
        have hbl3 := lt_of hb3
        have hbf3 := frozen_of hb3 0
        go_wp2
        refine hK _ _ (fun _ h => af_step h hx3) ?_
        clear hK K
        refine pi_l 5 rfl (by kernel_rfl) (fun K hK => ?_)
        go_wp2
        refine hK _ _ (fun _ h => af_step h (Ext.alloc' _ _)) ?_
        clear hK K
        refine pi_l 6 rfl (by kernel_rfl) (fun K hK => ?_)
        go_wp2_with fail
        refine (first_c w3.heap.size 2 (errF C ls key d (vals pre)) (errU C x.1 (rN C) (wN C) (ls x.1) (sh x.1 key) d) _ ((cell_of (heap_at w3 _ rfl) 0).trans rfl) ((cell_of (heap_at w3 _ rfl) 1).trans rfl)).mono ?_
        rintro e w4 ⟨rfl, rfl⟩
        go_wp2
        refine hK _ _ (fun _ h => h) ?_
        clear hK K
        refine pi_l 7 rfl (by kernel_rfl) (fun K hK => ?_)
        go_wp2
        refine hK _ _ (by simp) ?_
        clear hK K
        refine pi_end (by kernel_rfl) ?_
        obtain ⟨r1, r2, r3, r4⟩ := chk_round (v := .int .i64 (fst_ (errF C ls key d (vals pre)) (errU C x.1 (rN C) (wN C) (ls x.1) (sh x.1 key) d))) (o := .cells #[.int .i64 (errF C ls key d (vals pre)), .int .i64 (errU C x.1 (rN C) (wN C) (ls x.1) (sh x.1 key) d)] 29) hbad (Ext.trans' (Below.drew (Ext.refl W)) hx3) hM0
        exact ⟨r1, r2, by rw [vals_snoc, errF_snoc, lvE_s HX.out]; exact r3, r4⟩
    case done =>
      rintro D xs W hD hxs ⟨hbad, hM0⟩ hdef
      have hM := mod_new hEW hM0 (Nat.le_refl _)
      have hz : errF C ls key d (vals xs) = errs C ls key d (B + 1) := by unfold vals; rw [hxs, errF_range]
      rw [hz] at hbad
      have hek : errK C B ls key d = errs C ls key d (B + 1) := by unfold errK; rw [hge]; rfl
      have h3 := h1.keepN h1.low (fun k hk _ => hM.block k hk (fun h => h))
      have hbc := (cell_of hbad 0).trans rfl
      have hdW := hM.keep db (fun h => h)
      have hdc := (cell_of hdW 0).trans rfl
      have hbl := lt_of hbad
      have hdl := lt_of hdW
      have HZ := Lib.hid hek
      have HXS := Lib.hid hz
      clear hek hz hxs
      by_cases hzz : errs C ls key d (B + 1) = 0
      · gi_wp2_with fail
        refine ⟨trivial, (callsIn_wide.2 (Kat_c s key _)).mono ?_⟩
        rintro e w2 ⟨rfl, rfl⟩
        gi_wp2
        obtain ⟨W2, hW2⟩ : ∃ W2, (W.alloc (.cells #[.pointer (some ⟨s, 0, none⟩)] 28)).alloc (.cells #[.int .u64 key] 22) = W2 := ⟨_, rfl⟩
        have hsz2 : W2.heap.size = W.heap.size + 2 := by rw [← hW2]; simp
        have hEW2 : Ext W W2 := by rw [← hW2]; exact (Ext.alloc' _ _).allocR _
        have hb1' : W2.heap[W.heap.size]? = some (.cells #[.pointer (some ⟨s, 0, none⟩)] 28 (0, 0)) := by rw [← hW2, heap_old _ _ (by simp)]; exact heap_at _ _ rfl
        have hb2' : W2.heap[W.heap.size + 1]? = some (.cells #[.int .u64 key] 22 (0, 0)) := by rw [← hW2]; exact heap_at _ _ (size_alloc _ _).symm
        have hdef2 := hEW2.keep hdef
        have hd2 := hEW2.keep hdW
        rw [hW2]
        have h4 := h3.ext hEW2
        obtain ⟨cap4, hex4, hcap4⟩ := h4.ex
        have hall : ∀ n, n ≤ B → lvE C n (ls n) (sh n key) d = 0 := fun n hn => errs_zero.1 hzz n (by omega)
        have hlt3 : ∀ k, cellsOf B L k → k < W.heap.size := fun k hk => h3.ltc hk
        have hlt0 : ∀ k, cellsOf B L k → k < w.heap.size := fun k hk => HH.out.ltc hk
        have hWl := hM.size
        have hDl := lt_of hdef
        refine wpIn_rangeFunc_ownF rfl (by decide) (gf := 147) (lb := #[.pointer (some ⟨W.heap.size, 0, none⟩), .pointer (some ⟨W.heap.size + 1, 0, none⟩)]) rfl trivial (enters_of Tryz.func147 (by kernel_rfl) rfl)
          (kat1_stops 4 W.heap.size (W.heap.size + 1) W2.heap.size s g cap4 (cellsOf B L) C L B key hk hBd (by omega) (by omega) h4.lts h4.ltg (fun h => absurd (hlt3 _ h) (by omega)) (fun h => absurd (hlt3 _ h) (by omega)) h3.nots h3.notg W2 (Nat.le_refl _)
            ((cell_of hb1' 0).trans rfl) ((cell_of hb2' 0).trans rfl) ((cell_of hex4 5).trans rfl) (fun n hn => h4.cell hn)) KpS.t (fun W l o o' hl ho hc hw => KpS.b (Nat.le_refl _) W l o o' hl ho hc hw) (Below.refl _ _) (fun _ => rfl)
          (fun pre W' => W'.heap[D]? = some (.deferred (some [])) ∧ (∃ ls', KAt W' s g C B L ls' ∧ ((vals pre).Nodup → ∀ n, ls' n = partK C ls key d (vals pre) n)) ∧ Mod (cellsOf B L) W2 W')
          (fun _ _ _ => False)
          (OwnFrom.and (ownFrom_box (by omega) (fun _ => _)) (OwnFrom.and (fun pre W' W'' row hs hg hr => by obtain ⟨ls', h, hp⟩ := hs; exact ⟨ls', h.keepN h4.low (fun k hk hN => grown_low hg (fun r e => (hr r e).1) hk hN), hp⟩) (ownFrom_mod (Nat.le_refl _))))
          (fun _ _ _ _ _ hs _ _ => hs)
          ⟨hdef2, ⟨ls, h4, fun _ n => rfl⟩, Mod.refl _ _⟩
          (fun x => { tmps := #[.pointer (some ⟨s, 0, none⟩), .int .u64 key, .int .i64 d, undef, undef, .pointer (some ⟨w.heap.size, 0, none⟩), .int .i64 0, .pointer (some ⟨w1.heap.size, 0, none⟩), undef, undef, lvV C x.1 (L x.1), .int .u64 (sh x.1 key), .int .u64 key, .pointer (some ⟨s, 0, none⟩), .pointer (some ⟨s, 0, none⟩), .pointer (some ⟨s, 0, none⟩), .agg #[.int .i64 C.bits, .int .i64 C.rows, .int .i64 C.width, .int .i64 C.mode, .int .u64 C.seed], .int .u64 (keys C 0), .bool false, .pointer (some ⟨s, 0, none⟩), .int .u64 key, .func (.func 147) #[] #[.pointer (some ⟨w1.heap.size + 1, 0, none⟩), .pointer (some ⟨w1.heap.size + 1 + 1, 0, none⟩)], undef, undef, undef, undef, undef, undef, undef, undef, undef, .int .i64 0, .bool false, undef, .pointer (some ⟨s, 0, none⟩), .int .u64 key, .func (.func 147) #[] #[.pointer (some ⟨W.heap.size, 0, none⟩), .pointer (some ⟨W.heap.size + 1, 0, none⟩)], lvV C x.1 (L x.1), .int .u64 (sh x.1 key), undef, undef, undef, undef], defers := [] }) ?assign2 ?body2 ?done2 ?stop2
        case assign2 =>
          intro l x W K hK
          dsimp only [lvEnc]
          gi_wp2
          exact hK
        case body2 =>
          rintro l pre x V ⟨hD5, ⟨ls', h5, hp5⟩, hM5⟩ hlen
          have hd5 := hM5.keep hd2 (fun h => absurd (hlt0 _ h) (by omega))
          have hdc5 := (cell_of hd5 0).trans rfl
          have hdl5 := lt_of hd5
          have hkx := sh_u64 hk x.1
          have hLx := h5.lev x.1 x.2
          have fin := fun w3 hres => upd_round (w3 := w3) (x := x) h5 hp5 hM5 hD5 hall hres
          cases hx : isX C x.1 with
          | true =>
            have hA := hLx.x hx
            have HX := Lib.hid hx
            rw [lvV_x hx]
            clear hx
            refine wpIn_block ?_
            refine region_plainR (fun ⟨_, _, hh⟩ => hh) (by kernel_rfl) ?_
            go_wp2_with fail
            refine Calls.mono (EUpdate_c _ _ _ C _ _ _ (sh x.1 key) d _ hA hd hkx) ?_
            rintro e w3 ⟨rfl, hres⟩
            gi_wp2
            rw [← lvE_x HX.out, ← lvU_x HX.out] at hres
            exact fin w3 (hres.imp (fun ⟨a, b, c⟩ => ⟨a, .inl ⟨HX.out, b⟩, c⟩) (fun h => h))
          | false =>
            have hA := hLx.sk hx
            have HX := Lib.hid hx
            rw [lvV_s hx]
            clear hx
            refine wpIn_block ?_
            refine region_plainR (fun ⟨_, _, hh⟩ => hh) (by kernel_rfl) ?_
            go_wp2_with fail
            refine Calls.mono (Update_c _ _ _ C _ _ _ _ (sh x.1 key) d _ hA hd hkx.1) ?_
            rintro e w3 ⟨rfl, hres⟩
            gi_wp2
            rw [← lvE_s HX.out, ← lvU_s HX.out] at hres
            exact fin w3 (hres.imp (fun ⟨a, b, c⟩ => ⟨a, .inr ⟨HX.out, b⟩, c⟩) (fun h => h))
        case done2 =>
          rintro D2 ys V hD2 hys ⟨hD5, ⟨ls', h5, hp5⟩, hM5⟩ hdef5
          gi_wp2
          have hne : D ≠ D2 := by omega
          refine ⟨by simp, .inl ⟨_, _, rfl, run_takeDeferred hdef5, ⟨by simp, .inl ⟨_, _, rfl, run_takeDeferred ((World.putObj_heap_other hne).trans hD5), ?_⟩⟩⟩⟩
          have hq : Mod (cellsOf B L) w V := (((hE1.mod _).trans (hM.mono (fun _ h _ => h.elim))).trans (hEW2.mod _)).trans hM5
          have hwl := hE1.size
          refine ⟨_, results_tmp rfl _ _ _, by rw [HZ.out, hzz]; rfl, ?_, mod_putD (mod_putD hq (by omega)) (by omega)⟩
          rw [HZ.out, hzz]
          refine KAt.cong (ls := ls') ?_ (part_end hys hp5)
          exact h5.keepN HH.out.low (fun k _ hN => (World.putObj_heap_other (by omega)).trans (World.putObj_heap_other (by omega)))
        case stop2 =>
          rintro D2 c pre V hD2 _ hh _
          exact hh.elim
      · gi_wp2
        refine ⟨by simp, .inl ⟨_, _, rfl, run_takeDeferred hdef, ?_⟩⟩
        have hp : Mod (fun _ => False) w1 (W.putObj D (.deferred none)) := mod_putD hM (by omega)
        refine ⟨_, results_tmp rfl _ _ _, by rw [HZ.out]; rfl, ?_, (hE1.mod _).trans (hp.mono (fun _ h _ => h.elim))⟩
        rw [HZ.out, decide_eq_false hzz]
        exact h1.keepN h1.low (fun k hk _ => hp.block k hk (fun h => h))
    case stop =>
      rintro D c pre W hD _ hh _
      exact hh.elim
end Go.Proofs.YtfhdjekpdifajaaGreat
namespace Go.Proofs.YtfhdjekpdifajaaGreat
set_option linter.unusedVariables false
open Go.RowKit
theorem zs_bnd (n : Nat) : Bnd 0 (zs n) := by
  intro x hx
  simp only [zs, List.mem_replicate] at hx
  omega
theorem lvE_ok {C : Cfg} {lv : Int} {l : List Int} {key d B T : Int} (h : Bnd B l) (hB : 0 ≤ B) (hT : 0 ≤ T) (hd : -T ≤ d ∧ d ≤ T) (hs : B + T ≤ 4611686018427387904) (hk : key < keys C lv) (hm : C.mode = 2 → 0 ≤ d) : lvE C lv l key d = 0 := by
  cases hx : isX C lv with
  | false => rw [lvE_s hx]; exact upd_ok h hB hT hd hs hk hm
  | true =>
    rw [lvE_x hx, errX_sum hk (fun hh => by have := hm hh.1; omega)]
    have h2 := h.getD hB key.toNat
    rw [fitB_yes (by unfold I64; omega)]
    rfl
theorem lvU_bnd {C : Cfg} {lv : Int} {l : List Int} {key d B T : Int} (h : Bnd B l) (hB : 0 ≤ B) (hT : 0 ≤ T) (hd : -T ≤ d ∧ d ≤ T) : Bnd (B + T) (lvU C lv l key d) := by
  cases hx : isX C lv with
  | false => rw [lvU_s hx]; exact upd_bnd h hB hT hd
  | true =>
    rw [lvU_x hx]
    intro x hx
    unfold updX at hx
    rcases List.mem_or_eq_of_mem_set hx with h1 | rfl
    · have := h x h1; omega
    · have h2 := h.getD hB key.toNat; omega
theorem updK_bnd {C : Cfg} {ls : Nat → List Int} {key d B' T : Int} {n : Nat} (h : Bnd B' (ls n)) (hB : 0 ≤ B') (hT : 0 ≤ T) (hd : -T ≤ d ∧ d ≤ T) : Bnd (B' + T) (updK C ls key d n) := lvU_bnd h hB hT hd
theorem errK_ok {C : Cfg} (hok : C.Ok) {B : Nat} (hBb : C.bits = B) {ls : Nat → List Int} {key d B' T : Int} (h : ∀ n, n ≤ B → Bnd B' (ls n)) (hB : 0 ≤ B') (hT : 0 ≤ T) (hd : -T ≤ d ∧ d ≤ T) (hs : B' + T ≤ 4611686018427387904) (hk0 : 0 ≤ key) (hk : key < keys C 0) (hm : C.mode = 2 → 0 ≤ d) : errK C B ls key d = 0 :=
  errK_zero.2 ⟨hk, fun n hn => lvE_ok (h n hn) hB hT hd hs (sh_lt hok (by omega) hk0 hk) hm⟩
theorem feedK_bnd (C : Cfg) (us : List (Int × Int)) (n : Nat) : Bnd (us.length * 1099511627776) (feedK C us n) := by
  refine snoc_ind (P := fun us => Bnd (us.length * 1099511627776) (feedK C us n)) ?_ ?_ us
  · exact zs_bnd _
  · intro us u ih
    rw [feedK_snoc]
    have := updK_bnd (C := C) (ls := feedK C us) (key := cutK C 0 u.1) (d := cutD C.mode u.2) (n := n) ih (by omega) (show (0 : Int) ≤ 1099511627776 by decide) (by have := cutD_bd C.mode u.2; omega)
    have e : ((us ++ [u]).length : Int) * 1099511627776 = us.length * 1099511627776 + 1099511627776 := by
      rw [List.length_append, List.length_singleton]; push_cast; omega
    rw [e]
    exact this
end Go.Proofs.YtfhdjekpdifajaaGreat
namespace Go.Proofs.YtfhdjekpdifajaaGreat
set_option linter.unusedVariables false
open Go.RowKit
def KFresh (N B : Nat) (L : Nat → Lev) : Prop := ∀ n, n ≤ B → N ≤ (L n).s ∧ N ≤ (L n).b ∧ N ≤ (L n).c
theorem KFresh.ext {w a b : World} {B : Nat} {L : Nat → Lev} (h : KFresh w.heap.size B L) (hE : Ext w a) (hM : Mod (cellsOf B L) a b) : Ext w b :=
  Below.trans hE (hM.below (B := w.heap.size) hE.size (fun k hk => by obtain ⟨n, hn, rfl⟩ := hk; exact (h n hn).2.2))
end Go.Proofs.YtfhdjekpdifajaaGreat
namespace Go.Proofs.YtfhdjekpdifajaaGreat
set_option linter.unusedVariables false
open Go.RowKit
set_option maxRecDepth 20000 in
set_option maxHeartbeats 2000000 in
theorem ExactR_c (C : Cfg) (h : C.Ok) (lv : Int) (h0 : 0 ≤ lv) (h1 : lv ≤ C.bits) (w : World) :
    Calls Tryz.prog 100 #[.agg #[.int .i64 C.bits, .int .i64 C.rows, .int .i64 C.width, .int .i64 C.mode, .int .u64 C.seed], .int .i64 lv] w fun e w' => e = .returned (.bool (isX C lv)) ∧ Ext w w' := by
  have hk := keys_bd C h lv h0
  have w1' := h.w1
  have w2' := h.w2
  have hI : isX C lv = decide (keys C lv ≤ C.width) := rfl
  go_enter Tryz.func100, Tryz.ntmps100
  go_wp2_with fail
  refine (KeysR_c C h lv h0 h1 _).mono ?_
  rintro e w1 ⟨rfl, hb⟩
  have hE : Ext w w1 := by (repeat' (first | exact Ext.refl _ | assumption | apply Ext.allocR | apply Ext.drewR | apply Ext.drewNR | (refine Ext.trans' ?_ (by assumption))))
  have hC := (CfgAt.box (w := w) C 24 rfl).ext hb
  have c2 := hC.c2
  have cl := hC.lt
  have HI := Lib.hid hI
  generalize keys C lv = N at *
  clear hb hI hC
  by_cases hx : N ≤ C.width
  · go_wp2
    go_ret
    exact ⟨by rw [HI.out, decide_eq_true hx]; rfl, hE⟩
  · go_wp2
    go_ret
    exact ⟨by rw [HI.out, decide_eq_false (by omega)]; rfl, hE⟩
end Go.Proofs.YtfhdjekpdifajaaGreat
namespace Go.Proofs.YtfhdjekpdifajaaGreat
set_option linter.unusedVariables false
open Go.RowKit
def RLNewPost (w : World) (C : Cfg) (lv : Int) (l : List Int) (e : Ending) (w' : World) : Prop :=
  ∃ L : RLev, e = .returned (.pointer (some ⟨L.p, 0, none⟩)) ∧ RLvAt w' L C lv l ∧ (∀ k, L.foot C lv k → w.heap.size ≤ k) ∧ Ext w w'
theorem RLNew_x {w w1 w' : World} {C : Cfg} {lv : Int} {a m p : Nat} {l : List Int} (hok : C.Ok) (h0 : 0 ≤ lv) (h1 : lv ≤ C.bits) (hx : isX C lv = true) (hA : RXAt w1 a m C lv (kN C lv) l) (ha : w.heap.size ≤ a) (hm : w.heap.size ≤ m) (hp : w.heap.size ≤ p) (hE : Ext w w') (hE1 : Ext w1 w')
    (hb : w'.heap[p]? = some (.cells #[.pointer (some ⟨a, 0, none⟩), .pointer none] 153 (0, 0))) : RLNewPost w C lv l (.returned (.pointer (some ⟨p, 0, none⟩))) w' := by
  refine ⟨⟨p, a, ⟨0, m, fun _ => 0, fun _ => 0⟩⟩, rfl, ⟨hok, h0, h1, .inl ⟨hx, hb, hA.ext hE1⟩⟩, ?_, hE⟩
  rintro k (rfl | ⟨_, (rfl | rfl)⟩ | ⟨hy, _⟩)
  · exact hp
  · exact ha
  · exact hm
  · rw [hx] at hy; cases hy
theorem RLNew_s {w w1 w' : World} {C : Cfg} {lv : Int} {a p : Nat} {G : Gr} {l : List Int} (hok : C.Ok) (h0 : 0 ≤ lv) (h1 : lv ≤ C.bits) (hx : isX C lv = false) (hA : RSAt w1 a G C lv (rN C) (wN C) l) (ha : ∀ k, rsF a G (rN C) k → w.heap.size ≤ k) (hp : w.heap.size ≤ p) (hE : Ext w w') (hE1 : Ext w1 w')
    (hb : w'.heap[p]? = some (.cells #[.pointer none, .pointer (some ⟨a, 0, none⟩)] 153 (0, 0))) : RLNewPost w C lv l (.returned (.pointer (some ⟨p, 0, none⟩))) w' := by
  refine ⟨⟨p, a, G⟩, rfl, ⟨hok, h0, h1, .inr ⟨hx, hb, hA.ext hE1⟩⟩, ?_, hE⟩
  rintro k (rfl | ⟨hy, _⟩ | ⟨_, hk⟩)
  · exact hp
  · rw [hx] at hy; cases hy
  · exact ha k hk
set_option maxRecDepth 20000 in
set_option maxHeartbeats 4000000 in
theorem RLNew_c (C : Cfg) (hok : C.Ok) (lv : Int) (h0 : 0 ≤ lv) (h1 : lv ≤ C.bits) (w : World) :
    Calls Tryz.prog 37 #[.agg #[.int .i64 C.bits, .int .i64 C.rows, .int .i64 C.width, .int .i64 C.mode, .int .u64 C.seed], .int .i64 lv] w (RLNewPost w C lv (zs (lvN C lv))) := by
  have hEX := fun W' => ExactR_c C hok lv h0 h1 W'
  obtain ⟨W0, hW0⟩ : ∃ W0, w.alloc (.cells #[.int .i64 C.bits, .int .i64 C.rows, .int .i64 C.width, .int .i64 C.mode, .int .u64 C.seed] 24) = W0 := ⟨_, rfl⟩
  have hCb : W0.heap[w.heap.size]? = some (.cells #[.int .i64 C.bits, .int .i64 C.rows, .int .i64 C.width, .int .i64 C.mode, .int .u64 C.seed] 24 (0, 0)) := by rw [← hW0]; exact heap_at _ _ rfl
  have hE : Ext w W0 := by rw [← hW0]; exact Ext.alloc' _ _
  have hC := CfgAt.of hCb
  have c0 := hC.c0
  have c1 := hC.c1
  have c2 := hC.c2
  have c3 := hC.c3
  have c4 := hC.c4
  have cl := hC.lt
  cases hx : isX C lv with
  | true =>
    have hlN : lvN C lv = kN C lv := by unfold lvN; rw [hx]; rfl
    rw [hx] at hEX
    rw [hlN]
    have hkn := kN_eq hok h0
    have hkb := keys_bd C hok lv h0
    have hkx : keys C lv ≤ 128 := by
      have h3 := hok.w2
      unfold isX at hx
      have := of_decide_eq_true hx
      omega
    have HX := Lib.hid hx
    have HEX := Lib.hid hEX
    have HCB := Lib.hid hCb
    have HKN := Lib.hid hkn
    clear hx hEX hC hlN hCb hkn
    go_enter Tryz.func37, Tryz.ntmps37
    go_wp2_with fail
    try rw [hW0]
    clear hW0
    refine Calls.mono (HEX.out _) ?_
    rintro e w1 ⟨rfl, hx1⟩
    have hC1 := CfgAt.of (hx1.keep HCB.out)
    have hE1 := hE.trans' hx1
    clear c0 c1 c2 c3 c4 cl hx1
    have c0 := hC1.c0
    have c1 := hC1.c1
    have c2 := hC1.c2
    have c3 := hC1.c3
    have c4 := hC1.c4
    have cl := hC1.lt
    clear hC1
    go_wp2_with fail
    have hC0 := af_drew w1
    refine pi_start (fun w' => ∃ z : After w1, w' = z.w) [] (by kernel_rfl) ?_
    refine pi_t 1 rfl (by kernel_rfl) (by kernel_rfl) (fun _ _ _ _ h => h) (fun K hK => ?_)
    go_big_quiet_op
    refine hK _ ?_
    clear hK K
    refine pi_t 3 rfl (by kernel_rfl) (by kernel_rfl) (fun _ _ _ _ h => h) (fun K hK => ?_)
    go_big_quiet_op
    refine hK _ ?_
    clear hK K
    refine pi_c 0 (by assumption) rfl (by kernel_rfl) (by kernel_rfl) (fun _ _ _ _ h => h) (fun K hK => ?_)
    go_big_quiet_op
    refine hK _ ?_
    clear hK K
    refine pi_c 2 (by assumption) rfl (by kernel_rfl) (by kernel_rfl) (fun _ _ _ _ h => h) (fun K hK => ?_)
    go_big_quiet_op
    refine hK _ ?_
    clear hK K
    refine pi_l 4 rfl (by kernel_rfl) (fun K hK => ?_)
    go_wp2_with (go_at_call 79; refine (KeysR_c C hok lv h0 h1 _).mono ?_; rintro e w2 ⟨rfl, hx2⟩)
    refine hK _ _ (fun _ h => af_step h hx2) ?_
    clear hK K
    have hE2 : Ext w1 w2 := Ext.trans' (Below.drew (Ext.refl w1)) hx2
    rw [HKN.out]
    refine pi_l 5 rfl (by kernel_rfl) (fun K hK => ?_)
    go_wp2_with (go_at_call 101; refine Calls.mono (RXNew_c C lv (kN C lv) (by have := HKN.out; omega) (by have := HKN.out; omega) _) ?_; rintro e w3 ⟨a, m, rfl, hA, ha, hm, hx3⟩)
    refine hK _ _ (fun _ h => af_step h hx3) ?_
    clear hK K
    have hE3 : Ext w1 w3 := hE2.trans' hx3
    have HA := Lib.hid hA
    have hz := hE1.size
    have hz2 := hE2.size
    clear hA
    refine pi_t 6 rfl (by kernel_rfl) (by kernel_rfl) (fun _ _ _ _ h => h) (fun K hK => ?_)
    go_big_quiet_op
    refine hK _ ?_
    clear hK K
    refine pi_l 7 rfl (by kernel_rfl) (fun K hK => ?_)
    go_wp2
    refine hK _ _ (fun _ h => af_step h (Ext.alloc' _ _)) ?_
    clear hK K
    refine pi_t 8 rfl (by kernel_rfl) (by kernel_rfl) (fun _ _ _ _ h => h) (fun K hK => ?_)
    go_big_quiet_op
    refine hK _ ?_
    clear hK K
    refine pi_end (by kernel_rfl) ?_
    have hz3 := hE3.size
    go_wp2
    go_ret
    exact RLNew_x hok h0 h1 HX.out HA.out (by omega) (by omega) (by omega) ((hE1.trans' hE3).allocR _) (Ext.alloc' _ _) (heap_at _ _ rfl)
  | false =>
    have hlN : lvN C lv = rN C * wN C := by unfold lvN; rw [hx]; rfl
    rw [hx] at hEX
    rw [hlN]
    have HX := Lib.hid hx
    have HEX := Lib.hid hEX
    have HCB := Lib.hid hCb
    have HS := Lib.hid (fun W' => RSNew_c C hok lv h0 h1 (rN C) (wN C) (rN_eq hok) (wN_eq hok) W')
    clear hx hEX hC hlN hCb
    go_enter Tryz.func37, Tryz.ntmps37
    go_wp2_with fail
    try rw [hW0]
    clear hW0
    refine Calls.mono (HEX.out _) ?_
    rintro e w1 ⟨rfl, hx1⟩
    have hC1 := CfgAt.of (hx1.keep HCB.out)
    have hE1 := hE.trans' hx1
    clear c0 c1 c2 c3 c4 cl hx1
    have c0 := hC1.c0
    have c1 := hC1.c1
    have c2 := hC1.c2
    have c3 := hC1.c3
    have c4 := hC1.c4
    have cl := hC1.lt
    clear hC1
    go_wp2_with fail
    refine Calls.mono (HS.out _) ?_
    rintro e w2 ⟨a, G, rfl, hA, hF, hx2⟩
    have HA := Lib.hid hA
    have HF := Lib.hid (show ∀ k, rsF a G (rN C) k → w1.heap.size ≤ k from hF)
    have hE2 := hE1.trans' hx2
    have hz := hE1.size
    have hz2 := hE2.size
    clear hA hF
    go_wp2
    go_ret
    exact RLNew_s hok h0 h1 HX.out HA.out (fun k hk => Nat.le_trans hz (HF.out k hk)) hz2 (hE2.allocR _) (Ext.alloc' _ _) (heap_at _ _ rfl)
set_option maxRecDepth 20000 in
set_option maxHeartbeats 4000000 in
theorem RLCopy_c (L : RLev) (C : Cfg) (lv : Int) (l : List Int) (w : World) (h : RLvAt w L C lv l) :
    Calls Tryz.prog 39 #[.pointer (some ⟨L.p, 0, none⟩)] w (RLNewPost w C lv l) := by
  have hok := h.1
  have h0 := h.2.1
  have h1 := h.2.2.1
  cases hx : isX C lv with
  | true =>
    obtain ⟨hb, hA⟩ := h.x hx
    have p0 := (cell_of hb 0).trans rfl
    have pl := lt_of hb
    have HA := Lib.hid hA
    have HX := Lib.hid hx
    clear hx hb hA h
    go_enter Tryz.func39, Tryz.ntmps39
    go_wp2_with fail
    refine Calls.mono (RXCopy_c _ _ C lv _ l _ HA.out) ?_
    rintro e w1 ⟨a, m, rfl, hA1, ha, hm, hx1⟩
    have HA1 := Lib.hid hA1
    have hz := hx1.size
    clear hA1
    go_wp2
    go_ret
    exact RLNew_x hok h0 h1 HX.out HA1.out ha hm hz (hx1.allocR _) (Ext.alloc' _ _) (heap_at _ _ rfl)
  | false =>
    obtain ⟨hb, hA⟩ := h.sk hx
    have p0 := (cell_of hb 0).trans rfl
    have p1 := (cell_of hb 1).trans rfl
    have pl := lt_of hb
    have HA := Lib.hid hA
    have HX := Lib.hid hx
    clear hx hb hA h
    go_enter Tryz.func39, Tryz.ntmps39
    go_wp2_with fail
    refine Calls.mono (RSCopy_c _ _ C lv _ _ l _ HA.out) ?_
    rintro e w1 ⟨a, G, rfl, hA1, hF, hx1⟩
    have HA1 := Lib.hid hA1
    have HF := Lib.hid (show ∀ k, rsF a G (rN C) k → w.heap.size ≤ k from hF)
    have hz := hx1.size
    clear hA1 hF
    go_wp2
    go_ret
    exact RLNew_s hok h0 h1 HX.out HA1.out HF.out hz (hx1.allocR _) (Ext.alloc' _ _) (heap_at _ _ rfl)
def RLUpdPost (w : World) (L : RLev) (C : Cfg) (lv : Int) (l : List Int) (key d : Int) (e : Ending) (w' : World) : Prop :=
  e = .returned (.int .i64 (lvE C lv l key d)) ∧ ((lvE C lv l key d = 0 ∧ RLvAt w' L C lv (lvU C lv l key d) ∧ Mod (L.foot C lv) w w') ∨ (lvE C lv l key d ≠ 0 ∧ Ext w w'))
set_option maxRecDepth 20000 in
set_option maxHeartbeats 4000000 in
theorem RLUpdate_c (L : RLev) (C : Cfg) (lv : Int) (l : List Int) (key d : Int) (w : World) (h : RLvAt w L C lv l) (hk : U64 key) (hd : I64 d) :
    Calls Tryz.prog 40 #[.pointer (some ⟨L.p, 0, none⟩), .int .u64 key, .int .i64 d] w (RLUpdPost w L C lv l key d) := by
  have hok := h.1
  have h0 := h.2.1
  have h1 := h.2.2.1
  cases hx : isX C lv with
  | true =>
    obtain ⟨hb, hA⟩ := h.x hx
    have p0 := (cell_of hb 0).trans rfl
    have pl := lt_of hb
    have HU := Lib.hid (RXUpdate_c _ _ C lv _ l key d w hA (kN_eq hok h0) hd hk)
    have HB := Lib.hid hb
    have HA := Lib.hid hA
    have HX := Lib.hid hx
    unfold RLUpdPost
    rw [lvE_x hx, lvU_x hx]
    clear hx hb hA h
    go_enter Tryz.func40, Tryz.ntmps40
    go_wp2_with fail
    refine Calls.mono HU.out ?_
    rintro e w1 ⟨rfl, hres⟩
    have HRES := Lib.hid hres
    clear hres HU
    go_wp2
    go_ret
    rcases HRES.out with ⟨e0, hA1, hM⟩ | ⟨e0, hE⟩
    · refine ⟨rfl, .inl ⟨e0, ⟨hok, h0, h1, .inl ⟨HX.out, ?_, hA1⟩⟩, hM.wider (fun k hk => .inr (.inl ⟨HX.out, .inr hk⟩))⟩⟩
      exact hM.keep HB.out (fun e => by obtain ⟨cu, q1, _⟩ := HA.out.cells; exact blk_ne HB.out q1 (by decide) e)
    · exact ⟨rfl, .inr ⟨e0, hE⟩⟩
  | false =>
    obtain ⟨hb, hA⟩ := h.sk hx
    have p0 := (cell_of hb 0).trans rfl
    have p1 := (cell_of hb 1).trans rfl
    have pl := lt_of hb
    have HU := Lib.hid (RSUpdate_c _ _ C lv _ _ l key d w hA hk hd)
    have HB := Lib.hid hb
    have HA := Lib.hid hA
    have HX := Lib.hid hx
    unfold RLUpdPost
    rw [lvE_s hx, lvU_s hx]
    clear hx hb hA h
    go_enter Tryz.func40, Tryz.ntmps40
    go_wp2_with fail
    refine Calls.mono HU.out ?_
    rintro e w1 ⟨rfl, hres⟩
    have HRES := Lib.hid hres
    clear hres HU
    go_wp2
    go_ret
    rcases HRES.out with ⟨e0, hA1, hM⟩ | ⟨e0, hE⟩
    · refine ⟨rfl, .inl ⟨e0, ⟨hok, h0, h1, .inr ⟨HX.out, ?_, hA1⟩⟩, hM.wider (fun k hk => .inr (.inr ⟨HX.out, .inr hk⟩))⟩⟩
      refine hM.keep HB.out (fun e => ?_)
      rcases e with e | e | ⟨r, hr, e⟩
      · obtain ⟨cp, q1, _⟩ := HA.out.g.ex; exact blk_ne HB.out q1 (by decide) e
      · obtain ⟨cp, q1, _⟩ := HA.out.g.row; exact blk_ne HB.out q1 (by decide) e
      · obtain ⟨cp, q1, _⟩ := HA.out.g.cells r hr; exact blk_ne HB.out q1 (by decide) e
    · exact ⟨rfl, .inr ⟨e0, hE⟩⟩
set_option maxRecDepth 20000 in
set_option maxHeartbeats 4000000 in
theorem RLCells_c (L : RLev) (C : Cfg) (lv : Int) (l : List Int) (w : World) (h : RLvAt w L C lv l) :
    Calls Tryz.prog 24 #[.pointer (some ⟨L.p, 0, none⟩)] w fun e w' => ∃ v, e = .returned v ∧ w'.ownsRow w.heap.size 2 1 v l.length (ints l) ∧ Ext w w' := by
  cases hx : isX C lv with
  | true =>
    obtain ⟨hb, hA⟩ := h.x hx
    have p0 := (cell_of hb 0).trans rfl
    have pl := lt_of hb
    obtain ⟨cap, hex, hcap⟩ := hA.ex
    have a6 := (cell_of hex 6).trans rfl
    have al := lt_of hex
    have lm := hA.ltm
    have k2 := hA.k2
    have hcell : ∀ W : World, Ext w W → ∀ k, k < kN C lv → W.cell? ⟨L.G.m, 0 + k, none⟩ = some (.int .i64 (l.getD k 0)) := fun W hW k hk => by rw [(bcell hW).1 _ _ lm, Nat.zero_add]; exact hA.cell hk
    have HC := Lib.hid hcell
    have HL := Lib.hid hA.len
    clear hx hb hA h hcell hex
    go_enter Tryz.func24, Tryz.ntmps24
    have hE1 : Ext w (w.alloc (.cells #[] 2)) := Ext.alloc' _ _
    have hown : (w.alloc (.cells #[] 2)).ownsRow w.heap.size 2 1 (.slice (some ⟨w.heap.size, 0, none⟩) 0 0) ([] : List Int).length (ints []) := own_empty w 2
    go_wp2_with (at_builtin; refine wpList_appl (w.alloc (.cells #[] 2)) l [] _ w.heap.size 2 hown 43 rfl _ _ rfl info_i64 Tryz.underlying43 (by rfl) L.G.m 0 (kN C lv) cap (by rfl) HL.out.symm (HC.out _ hE1) ?a1 ?a2 ?_)
    case a1 => show 0 + kN C lv ≤ _; omega
    case a2 => exact hE1.size
    intro v' w' g1 g2 g3
    have hE2 : Ext w w' := ext_grown0 hE1 g2 (fun i hi => own_blk hown hi)
    have G1 := Lib.hid g1
    obtain ⟨pv, cv, rfl⟩ := own_sl g1
    clear g1 g2 g3 hown
    go_wp2
    go_ret
    exact ⟨_, rfl, G1.out, hE2⟩
  | false =>
    obtain ⟨hb, hA⟩ := h.sk hx
    have p0 := (cell_of hb 0).trans rfl
    have p1 := (cell_of hb 1).trans rfl
    have pl := lt_of hb
    have a6 := (cell_of hA.ex 6).trans rfl
    have al := hA.lts
    have HU := Lib.hid (RGCells_c _ _ _ l w hA.g)
    clear hx hb hA h
    go_enter Tryz.func24, Tryz.ntmps24
    go_wp2_with fail
    refine Calls.mono HU.out ?_
    rintro e w1 ⟨v, rfl, ho, hx1⟩
    have HO := Lib.hid ho
    obtain ⟨pv, cv, rfl⟩ := own_sl ho
    clear ho HU
    go_wp2
    go_ret
    exact ⟨_, rfl, HO.out, hx1⟩
end Go.Proofs.YtfhdjekpdifajaaGreat
namespace Go.Proofs.YtfhdjekpdifajaaGreat
set_option linter.unusedVariables false
open Go.RowKit
def EMergePost (w : World) (s b c : Nat) (C : Cfg) (lv : Int) (N : Nat) (m : List Int) (e : Ending) (w' : World) : Prop :=
  (allI m ∧ e = .returned (.int .i64 0) ∧ EAt w' s b c C lv N m ∧ Mod (fun k => k = c) w w') ∨ (¬ allI m ∧ e = .returned (.int .i64 4) ∧ Ext w w')
theorem EAt.putg {w w' : World} {s b c : Nat} {C : Cfg} {lv : Int} {N : Nat} {l m : List Int} (h : EAt w s b c C lv N l) (hg : GAt w' b c 1 N m) (hm : Mod (fun k => k = c) w w') (hi : allI m) : EAt w' s b c C lv N m :=
  ⟨by rw [hm.block s h.lts h.nes]; exact h.ex, hg, h.ok, h.lo, h.hi, h.hk, hi⟩
set_option maxRecDepth 20000 in
set_option maxHeartbeats 4000000 in
theorem EJoinPlus_c (s b c s2 b2 c2 : Nat) (C : Cfg) (lv : Int) (N : Nat) (l l2 : List Int) (w : World) (h : EAt w s b c C lv N l) (h2 : EAt w s2 b2 c2 C lv N l2) :
    Calls Tryz.prog 164 #[.pointer (some ⟨s, 0, none⟩), .pointer (some ⟨s2, 0, none⟩), .func (.func 163) #[] #[], .bool true] w (EMergePost w s b c C lv N (plusL l l2)) := by
  have HH := Lib.hid h
  have H2 := Lib.hid h2
  have c0 := (cell_of h.ex 0).trans rfl
  have c1 := (cell_of h.ex 1).trans rfl
  have c2' := (cell_of h.ex 2).trans rfl
  have c3 := (cell_of h.ex 3).trans rfl
  have c4 := (cell_of h.ex 4).trans rfl
  have c5 := (cell_of h.ex 5).trans rfl
  have d0 := (cell_of h2.ex 0).trans rfl
  have d1 := (cell_of h2.ex 1).trans rfl
  have d2 := (cell_of h2.ex 2).trans rfl
  have d3 := (cell_of h2.ex 3).trans rfl
  have d4 := (cell_of h2.ex 4).trans rfl
  have d5 := (cell_of h2.ex 5).trans rfl
  have l1 := h.lts
  have l2' := h2.lts
  clear h h2
  go_enter Tryz.func164, Tryz.ntmps164
  go_wp2_with fail
  refine wp_region_after (by kernel_rfl) (by kernel_rfl) ?_
  repeat (go_big_quiet_step (fail))
  refine wpQuiet_nil ?_
  rintro _ ⟨xx, rfl⟩
  obtain ⟨w1, hb1⟩ := xx
  try dsimp only
  clear c0 c1 c2' c3 c4 c5 d0 d1 d2 d3 d4 d5 l1 l2'
  have h' := HH.out.ext hb1
  have h2' := H2.out.ext hb1
  have c6 := (cell_of h'.ex 6).trans rfl
  have d6 := (cell_of h2'.ex 6).trans rfl
  have l1 := h'.lts
  have l2' := h2'.lts
  have hG1 := h'.g.ext (Below.drew (Ext.refl w1))
  have hG2 := h2'.g.ext (Below.drew (Ext.refl w1))
  have hf1 := h'.fit
  have hf2 := h2'.fit
  clear h' h2'
  go_wp2_with fail
  have hC0 := af_drew w1
  refine pi_start (fun w' => ∃ x : After w1, w' = x.w) [9] (by kernel_rfl) ?_
  refine pi_t 0 rfl (by kernel_rfl) (by kernel_rfl) (fun _ _ _ _ h => h) (fun K hK => ?_)
  go_big_quiet_op
  refine hK _ ?_
  clear hK K
  refine pi_t 1 rfl (by kernel_rfl) (by kernel_rfl) (fun _ _ _ _ h => h) (fun K hK => ?_)
  go_big_quiet_op
  refine hK _ ?_
  clear hK K
  refine pi_t 2 rfl (by kernel_rfl) (by kernel_rfl) (fun _ _ _ _ h => h) (fun K hK => ?_)
  go_big_quiet_op
  refine hK _ ?_
  clear hK K
  refine pi_t 3 rfl (by kernel_rfl) (by kernel_rfl) (fun _ _ _ _ h => h) (fun K hK => ?_)
  go_big_quiet_op
  refine hK _ ?_
  clear hK K
  refine pi_t 5 rfl (by kernel_rfl) (by kernel_rfl) (fun _ _ _ _ h => h) (fun K hK => ?_)
  go_big_quiet_op
  refine hK _ ?_
  clear hK K
  refine pi_t 6 rfl (by kernel_rfl) (by kernel_rfl) (fun _ _ _ _ h => h) (fun K hK => ?_)
  go_big_quiet_op
  refine hK _ ?_
  clear hK K
  refine pi_t 7 rfl (by kernel_rfl) (by kernel_rfl) (fun _ _ _ _ h => h) (fun K hK => ?_)
  go_big_quiet_op
  refine hK _ ?_
  clear hK K
  refine pi_c 4 (by assumption) rfl (by kernel_rfl) (by kernel_rfl) (fun _ _ _ _ h => h) (fun K hK => ?_)
  go_big_quiet_op
  refine hK _ ?_
  clear hK K
  refine pi_c 8 (by assumption) rfl (by kernel_rfl) (by kernel_rfl) (fun _ _ _ _ h => h) (fun K hK => ?_)
  go_big_quiet_op
  refine hK _ ?_
  clear hK K
  refine pi_l 9 rfl (by kernel_rfl) (fun K hK => ?_)
  go_wp2_with fail
  refine Calls.mono (GPlus_c b c b2 c2 1 N l l2 _ hG1 hG2 hf1 hf2) ?_
  intro e w2 hr0
  obtain ⟨z, rfl, hr⟩ := join_ret hr0
  clear hr0
  go_wp2
  refine hK _ _ (by simp) ?_
  clear hK K
  refine pi_t 10 rfl (by kernel_rfl) (by kernel_rfl) (fun _ _ _ _ h => h) (fun K hK => ?_)
  go_big_quiet_op
  refine hK _ ?_
  clear hK K
  refine pi_end (by kernel_rfl) ?_
  go_wp2
  go_ret
  have hx2 : Ext w w1.drew := Below.drew hb1
  rcases hr with ⟨rfl, ha, hg, hm⟩ | ⟨rfl, ha, hx⟩
  · have hm' : Mod (fun k => k = c) w w2 := (hx2.mod _).trans hm
    exact .inl ⟨ha, rfl, HH.out.putg hg hm' ha, hm'⟩
  · exact .inr ⟨ha, rfl, hx2.trans' hx⟩
set_option maxRecDepth 20000 in
set_option maxHeartbeats 4000000 in
theorem EJoinMinus_c (s b c s2 b2 c2 : Nat) (C : Cfg) (lv : Int) (N : Nat) (l l2 : List Int) (w : World) (h : EAt w s b c C lv N l) (h2 : EAt w s2 b2 c2 C lv N l2) :
    Calls Tryz.prog 164 #[.pointer (some ⟨s, 0, none⟩), .pointer (some ⟨s2, 0, none⟩), .func (.func 166) #[] #[], .bool true] w (EMergePost w s b c C lv N (minusL l l2)) := by
  have HH := Lib.hid h
  have H2 := Lib.hid h2
  have c0 := (cell_of h.ex 0).trans rfl
  have c1 := (cell_of h.ex 1).trans rfl
  have c2' := (cell_of h.ex 2).trans rfl
  have c3 := (cell_of h.ex 3).trans rfl
  have c4 := (cell_of h.ex 4).trans rfl
  have c5 := (cell_of h.ex 5).trans rfl
  have d0 := (cell_of h2.ex 0).trans rfl
  have d1 := (cell_of h2.ex 1).trans rfl
  have d2 := (cell_of h2.ex 2).trans rfl
  have d3 := (cell_of h2.ex 3).trans rfl
  have d4 := (cell_of h2.ex 4).trans rfl
  have d5 := (cell_of h2.ex 5).trans rfl
  have l1 := h.lts
  have l2' := h2.lts
  clear h h2
  go_enter Tryz.func164, Tryz.ntmps164
  go_wp2_with fail
  refine wp_region_after (by kernel_rfl) (by kernel_rfl) ?_
  repeat (go_big_quiet_step (fail))
  refine wpQuiet_nil ?_
  rintro _ ⟨xx, rfl⟩
  obtain ⟨w1, hb1⟩ := xx
  try dsimp only
  clear c0 c1 c2' c3 c4 c5 d0 d1 d2 d3 d4 d5 l1 l2'
  have h' := HH.out.ext hb1
  have h2' := H2.out.ext hb1
  have c6 := (cell_of h'.ex 6).trans rfl
  have d6 := (cell_of h2'.ex 6).trans rfl
  have l1 := h'.lts
  have l2' := h2'.lts
  have hG1 := h'.g.ext (Below.drew (Ext.refl w1))
  have hG2 := h2'.g.ext (Below.drew (Ext.refl w1))
  have hf1 := h'.fit
  have hf2 := h2'.fit
  clear h' h2'
  go_wp2_with fail
  have hC0 := af_drew w1
  refine pi_start (fun w' => ∃ x : After w1, w' = x.w) [9] (by kernel_rfl) ?_
  refine pi_t 0 rfl (by kernel_rfl) (by kernel_rfl) (fun _ _ _ _ h => h) (fun K hK => ?_)
  go_big_quiet_op
  refine hK _ ?_
  clear hK K
  refine pi_t 1 rfl (by kernel_rfl) (by kernel_rfl) (fun _ _ _ _ h => h) (fun K hK => ?_)
  go_big_quiet_op
  refine hK _ ?_
  clear hK K
  refine pi_t 2 rfl (by kernel_rfl) (by kernel_rfl) (fun _ _ _ _ h => h) (fun K hK => ?_)
  go_big_quiet_op
  refine hK _ ?_
  clear hK K
  refine pi_t 3 rfl (by kernel_rfl) (by kernel_rfl) (fun _ _ _ _ h => h) (fun K hK => ?_)
  go_big_quiet_op
  refine hK _ ?_
  clear hK K
  refine pi_t 5 rfl (by kernel_rfl) (by kernel_rfl) (fun _ _ _ _ h => h) (fun K hK => ?_)
  go_big_quiet_op
  refine hK _ ?_
  clear hK K
  refine pi_t 6 rfl (by kernel_rfl) (by kernel_rfl) (fun _ _ _ _ h => h) (fun K hK => ?_)
  go_big_quiet_op
  refine hK _ ?_
  clear hK K
  refine pi_t 7 rfl (by kernel_rfl) (by kernel_rfl) (fun _ _ _ _ h => h) (fun K hK => ?_)
  go_big_quiet_op
  refine hK _ ?_
  clear hK K
  refine pi_c 4 (by assumption) rfl (by kernel_rfl) (by kernel_rfl) (fun _ _ _ _ h => h) (fun K hK => ?_)
  go_big_quiet_op
  refine hK _ ?_
  clear hK K
  refine pi_c 8 (by assumption) rfl (by kernel_rfl) (by kernel_rfl) (fun _ _ _ _ h => h) (fun K hK => ?_)
  go_big_quiet_op
  refine hK _ ?_
  clear hK K
  refine pi_l 9 rfl (by kernel_rfl) (fun K hK => ?_)
  go_wp2_with fail
  refine Calls.mono (GMinus_c b c b2 c2 1 N l l2 _ hG1 hG2 hf1 hf2) ?_
  intro e w2 hr0
  obtain ⟨z, rfl, hr⟩ := join_ret hr0
  clear hr0
  go_wp2
  refine hK _ _ (by simp) ?_
  clear hK K
  refine pi_t 10 rfl (by kernel_rfl) (by kernel_rfl) (fun _ _ _ _ h => h) (fun K hK => ?_)
  go_big_quiet_op
  refine hK _ ?_
  clear hK K
  refine pi_end (by kernel_rfl) ?_
  go_wp2
  go_ret
  have hx2 : Ext w w1.drew := Below.drew hb1
  rcases hr with ⟨rfl, ha, hg, hm⟩ | ⟨rfl, ha, hx⟩
  · have hm' : Mod (fun k => k = c) w w2 := (hx2.mod _).trans hm
    exact .inl ⟨ha, rfl, HH.out.putg hg hm' ha, hm'⟩
  · exact .inr ⟨ha, rfl, hx2.trans' hx⟩
set_option maxRecDepth 20000 in
set_option maxHeartbeats 4000000 in
theorem EMerge_c (s b c s2 b2 c2 : Nat) (C : Cfg) (lv : Int) (N : Nat) (l l2 : List Int) (w : World) (h : EAt w s b c C lv N l) (h2 : EAt w s2 b2 c2 C lv N l2) :
    Calls Tryz.prog 112 #[.pointer (some ⟨s, 0, none⟩), .pointer (some ⟨s2, 0, none⟩)] w (EMergePost w s b c C lv N (plusL l l2)) := by
  go_enter Tryz.func112, Tryz.ntmps112
  go_wp2_with fail
  refine Calls.mono (EJoinPlus_c s b c s2 b2 c2 C lv N l l2 w h h2) ?_
  rintro e w' (⟨ha, rfl, hg, hm⟩ | ⟨ha, rfl, hx⟩)
  · go_wp2
    go_ret
    exact .inl ⟨ha, rfl, hg, hm⟩
  · go_wp2
    go_ret
    exact .inr ⟨ha, rfl, hx⟩
set_option maxRecDepth 20000 in
set_option maxHeartbeats 4000000 in
theorem ESubtract_c (s b c s2 b2 c2 : Nat) (C : Cfg) (lv : Int) (N : Nat) (l l2 : List Int) (w : World) (h : EAt w s b c C lv N l) (h2 : EAt w s2 b2 c2 C lv N l2) (hm : C.mode ≠ 2) :
    Calls Tryz.prog 116 #[.pointer (some ⟨s, 0, none⟩), .pointer (some ⟨s2, 0, none⟩)] w (EMergePost w s b c C lv N (minusL l l2)) := by
  have hmb : (C.mode == 2) = false := by simpa using hm
  have hmb2 : (C.mode != 2) = true := by simpa using hm
  have c3 := (cell_of h.ex 3).trans rfl
  have l1 := h.lts
  have HJ := Lib.hid (EJoinMinus_c s b c s2 b2 c2 C lv N l l2 w h h2)
  clear hm h h2
  go_enter Tryz.func116, Tryz.ntmps116
  go_wp2_with fail
  refine Calls.mono HJ.out ?_
  rintro e w' (⟨ha, rfl, hg, hm⟩ | ⟨ha, rfl, hx⟩)
  · go_wp2
    go_ret
    exact .inl ⟨ha, rfl, hg, hm⟩
  · go_wp2
    go_ret
    exact .inr ⟨ha, rfl, hx⟩
end Go.Proofs.YtfhdjekpdifajaaGreat
namespace Go.Proofs.YtfhdjekpdifajaaGreat
set_option linter.unusedVariables false
open Go.RowKit
set_option maxRecDepth 20000 in
theorem sk_ss (s s2 : Nat) (w : World) :
    Calls Tryz.prog 109 #[.iface 170 (.pointer (some ⟨s, 0, none⟩)), .iface 170 (.pointer (some ⟨s2, 0, none⟩))] w fun e w' => e = .returned (.tuple #[.pointer (some ⟨s, 0, none⟩), .pointer (some ⟨s2, 0, none⟩), .bool true]) ∧ w = w' := by
  go_enter Tryz.func109, Tryz.ntmps109
  go_wp2_with fail
  refine (AsSketch_s s2 w).mono ?_
  rintro e w1 ⟨rfl, rfl⟩
  go_wp2_with fail
  refine (AsSketch_s s w).mono ?_
  rintro e w1 ⟨rfl, rfl⟩
  go_wp2_with fail
  refine (MustSketch_s s2 w).mono ?_
  rintro e w1 ⟨rfl, rfl⟩
  go_wp2
  go_ret3
  exact ⟨rfl, rfl⟩
set_option maxRecDepth 20000 in
theorem sk_ix (t : TypeId) (s s2 : Nat) (w : World) :
    Calls Tryz.prog 109 #[.iface t (.pointer (some ⟨s, 0, none⟩)), .iface 176 (.pointer (some ⟨s2, 0, none⟩))] w fun e w' => e = .returned (.tuple #[.pointer none, .pointer none, .bool false]) ∧ w = w' := by
  go_enter Tryz.func109, Tryz.ntmps109
  go_wp2_with fail
  refine (AsSketch_x s2 w).mono ?_
  rintro e w1 ⟨rfl, rfl⟩
  go_wp2
  go_ret3
  exact ⟨rfl, rfl⟩
set_option maxRecDepth 20000 in
theorem arr_xx (s s2 : Nat) (w : World) :
    Calls Tryz.prog 111 #[.iface 176 (.pointer (some ⟨s, 0, none⟩)), .iface 176 (.pointer (some ⟨s2, 0, none⟩))] w fun e w' => e = .returned (.tuple #[.pointer (some ⟨s, 0, none⟩), .pointer (some ⟨s2, 0, none⟩), .bool true]) ∧ w = w' := by
  go_enter Tryz.func111, Tryz.ntmps111
  go_wp2
  go_ret3
  exact ⟨rfl, rfl⟩
def LMergePost (w : World) (L : Lev) (C : Cfg) (lv : Int) (m : List Int) (e : Ending) (w' : World) : Prop :=
  (allI m ∧ e = .returned (.int .i64 0) ∧ LvAt w' L C lv m ∧ Mod (fun k => k = L.c) w w') ∨ (¬ allI m ∧ e = .returned (.int .i64 4) ∧ Ext w w')
set_option maxRecDepth 20000 in
set_option maxHeartbeats 4000000 in
theorem LMerge_c (C : Cfg) (lv : Int) (L L2 : Lev) (l l2 : List Int) (w : World) (h : LvAt w L C lv l) (h2 : LvAt w L2 C lv l2) :
    Calls Tryz.prog 41 #[lvV C lv L, lvV C lv L2] w (LMergePost w L C lv (plusL l l2)) := by
  cases hx : isX C lv with
  | true =>
    have HJ := Lib.hid (EMerge_c _ _ _ _ _ _ C lv _ l l2 w (h.x hx) (h2.x hx))
    have HX := Lib.hid hx
    rw [lvV_x hx, lvV_x hx]
    clear hx h h2
    go_enter Tryz.func41, Tryz.ntmps41
    go_wp2_with fail
    refine (sk_ix _ _ _ _).mono ?_
    rintro e w1 ⟨rfl, rfl⟩
    go_wp2_with fail
    refine (arr_xx _ _ _).mono ?_
    rintro e w1 ⟨rfl, rfl⟩
    go_wp2_with fail
    refine Calls.mono HJ.out ?_
    rintro e w' (⟨ha, rfl, hg, hm⟩ | ⟨ha, rfl, hx⟩)
    · go_wp2
      go_ret
      exact .inl ⟨ha, rfl, .inl ⟨HX.out, hg⟩, hm⟩
    · go_wp2
      go_ret
      exact .inr ⟨ha, rfl, hx⟩
  | false =>
    have HJ := Lib.hid (SMerge_c _ _ _ _ _ _ C lv _ _ l l2 w (h.sk hx) (h2.sk hx))
    have HX := Lib.hid hx
    rw [lvV_s hx, lvV_s hx]
    clear hx h h2
    go_enter Tryz.func41, Tryz.ntmps41
    go_wp2_with fail
    refine (sk_ss _ _ _).mono ?_
    rintro e w1 ⟨rfl, rfl⟩
    go_wp2_with fail
    refine Calls.mono HJ.out ?_
    rintro e w' (⟨ha, rfl, hg, hm⟩ | ⟨ha, rfl, hx⟩)
    · go_wp2
      go_ret
      exact .inl ⟨ha, rfl, .inr ⟨HX.out, hg⟩, hm⟩
    · go_wp2
      go_ret
      exact .inr ⟨ha, rfl, hx⟩
set_option maxRecDepth 20000 in
set_option maxHeartbeats 4000000 in
theorem LSubtract_c (C : Cfg) (lv : Int) (L L2 : Lev) (l l2 : List Int) (w : World) (h : LvAt w L C lv l) (h2 : LvAt w L2 C lv l2) (hm : C.mode ≠ 2) :
    Calls Tryz.prog 43 #[lvV C lv L, lvV C lv L2] w (LMergePost w L C lv (minusL l l2)) := by
  cases hx : isX C lv with
  | true =>
    have HJ := Lib.hid (ESubtract_c _ _ _ _ _ _ C lv _ l l2 w (h.x hx) (h2.x hx) hm)
    have HX := Lib.hid hx
    rw [lvV_x hx, lvV_x hx]
    clear hx h h2 hm
    go_enter Tryz.func43, Tryz.ntmps43
    go_wp2_with fail
    refine (sk_ix _ _ _ _).mono ?_
    rintro e w1 ⟨rfl, rfl⟩
    go_wp2_with fail
    refine (arr_xx _ _ _).mono ?_
    rintro e w1 ⟨rfl, rfl⟩
    go_wp2_with fail
    refine Calls.mono HJ.out ?_
    rintro e w' (⟨ha, rfl, hg, hm⟩ | ⟨ha, rfl, hx⟩)
    · go_wp2
      go_ret
      exact .inl ⟨ha, rfl, .inl ⟨HX.out, hg⟩, hm⟩
    · go_wp2
      go_ret
      exact .inr ⟨ha, rfl, hx⟩
  | false =>
    have HJ := Lib.hid (SSubtract_c _ _ _ _ _ _ C lv _ _ l l2 w (h.sk hx) (h2.sk hx) hm)
    have HX := Lib.hid hx
    rw [lvV_s hx, lvV_s hx]
    clear hx h h2 hm
    go_enter Tryz.func43, Tryz.ntmps43
    go_wp2_with fail
    refine (sk_ss _ _ _).mono ?_
    rintro e w1 ⟨rfl, rfl⟩
    go_wp2_with fail
    refine Calls.mono HJ.out ?_
    rintro e w' (⟨ha, rfl, hg, hm⟩ | ⟨ha, rfl, hx⟩)
    · go_wp2
      go_ret
      exact .inl ⟨ha, rfl, .inr ⟨HX.out, hg⟩, hm⟩
    · go_wp2
      go_ret
      exact .inr ⟨ha, rfl, hx⟩
end Go.Proofs.YtfhdjekpdifajaaGreat
namespace Go.Proofs.YtfhdjekpdifajaaGreat
set_option linter.unusedVariables false
open Go.RowKit
@[go_sem] theorem fld_mode (b r c m s : Int) (w : World) : (Instr.field 24 (.agg #[.int .i64 b, .int .i64 r, .int .i64 c, .int .i64 m, .int .u64 s]) 3).run Tryz.prog w = .ok (.int .i64 m) w := by kernel_rfl
end Go.Proofs.YtfhdjekpdifajaaGreat
