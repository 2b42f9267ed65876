/- Part. No condition. -/
import Derived.Test.YtfhdjekpdifajaaGreatDSummaryTop3
import Derived.Test.YtfhdjekpdifajaaGreatDSummaryTop5
import Derived.Test.YtfhdjekpdifajaaGreatDSummaryTop2
import Derived.Test.YtfhdjekpdifajaaGreatDSummaryTop1
import Derived.Test.YtfhdjekpdifajaaGreatDSummaryTop4
namespace Go.Proofs.YtfhdjekpdifajaaGreat
set_option linter.unusedVariables false
open Go.RowKit
theorem run_make_intsU {P : Program} (t e : TypeId) (i : TypeInfo) (ht : P.underlying t = some (.slice e)) (hi : P.info? e = some i) (hz : i.zero = some (.int .i64 0)) (hs : i.size = 1) (hb : i.bytes = 8)
    (n : Nat) (hn : n ≤ 1000000) (f : Nat → Int) (w : World) :
    (Instr.makeSlice t (.int .u64 (n : Int)) (.int .u64 (n : Int))).run P w = .ok (.slice (some ⟨w.heap.size, 0, none⟩) n n) (w.alloc (.cells (fillA f 0 n) e)) := by
  have h := run_make w t e i (.int .i64 0) ht hi hz .u64 .u64 n n (by omega) (by omega) (by rw [hb]; omega) (by omega)
  simp only [Int.toNat_natCast] at h
  rw [h, hs]
  congr 3
  apply Array.ext
  · rw [size_madeCells, fillA_size]; omega
  · intro j h1 h2
    rw [fillA_size] at h2
    simp [madeCells, fillA, Value.cells, Nat.mod_one]
def RXNewPost (w : World) (C : Cfg) (lv : Int) (N : Nat) (l : List Int) (e : Ending) (w' : World) : Prop :=
  ∃ a m, e = .returned (.pointer (some ⟨a, 0, none⟩)) ∧ RXAt w' a m C lv N l ∧ w.heap.size ≤ a ∧ w.heap.size ≤ m ∧ Ext w w'
set_option maxRecDepth 20000 in
set_option maxHeartbeats 4000000 in
theorem RXNew_c (C : Cfg) (lv : Int) (N : Nat) (h1 : 1 ≤ N) (h2 : N ≤ 128) (w : World) :
    Calls Tryz.prog 101 #[.agg #[.int .i64 C.bits, .int .i64 C.rows, .int .i64 C.width, .int .i64 C.mode, .int .u64 C.seed], .int .i64 lv, .int .u64 N] w (RXNewPost w C lv N (zs N)) := by
  obtain ⟨ii, hi, hz0, hz1, hz2⟩ := info_parts info_i64
  have hmk := fun (x : World) => run_make_intsU 43 2 ii Tryz.underlying43 hi hz0 hz1 hz2 N (by omega) (fun _ => 0) x
  have hm1 : ((128 : Int) < (N : Int)) = False := by simp; omega
  have hm2 : decide ((128 : Int) < (N : Int)) = false := by simp; omega
  have hm3 : (N : Int) ≤ 128 := by omega
  clear hi hz0 hz1 hz2
  obtain ⟨W, hW⟩ : ∃ W, w.alloc (.cells #[.int .i64 C.bits, .int .i64 C.rows, .int .i64 C.width, .int .i64 C.mode, .int .u64 C.seed] 24) = W := ⟨_, rfl⟩
  have hC : CfgAt W w.heap.size C := by rw [← hW]; exact CfgAt.box C _ rfl
  have hE : Ext w W := by rw [← hW]; exact Ext.alloc' _ _
  have c0 := hC.c0
  have c1 := hC.c1
  have c2 := hC.c2
  have c3 := hC.c3
  have c4 := hC.c4
  have cl := hC.lt
  have hsz := hE.size
  go_enter Tryz.func101, Tryz.ntmps101
  go_wp2_with fail
  try rw [hW]
  clear hW
  have hC0 := af_drew W
  refine pi_start (fun w' => ∃ z : After W, w' = z.w) [] (by kernel_rfl) ?_
  refine pi_t 1 rfl (by kernel_rfl) (by kernel_rfl) (fun _ _ _ _ h => h) (fun K hK => ?_)
  go_big_quiet_op
  refine hK _ ?_
  clear hK K
  refine pi_t 2 rfl (by kernel_rfl) (by kernel_rfl) (fun _ _ _ _ h => h) (fun K hK => ?_)
  go_big_quiet_op
  refine hK _ ?_
  clear hK K
  refine pi_t 3 rfl (by kernel_rfl) (by kernel_rfl) (fun _ _ _ _ h => h) (fun K hK => ?_)
  go_big_quiet_op
  refine hK _ ?_
  clear hK K
  refine pi_c 0 (by assumption) rfl (by kernel_rfl) (by kernel_rfl) (fun _ _ _ _ h => h) (fun K hK => ?_)
  go_big_quiet_op
  refine hK _ ?_
  clear hK K
  refine pi_l 4 rfl (by kernel_rfl) (fun K hK => ?_)
  go_wp2
  refine hK _ _ (fun _ h => af_step h (Ext.alloc' _ _)) ?_
  clear hK K
  refine pi_t 5 rfl (by kernel_rfl) (by kernel_rfl) (fun _ _ _ _ h => h) (fun K hK => ?_)
  go_big_quiet_op
  refine hK _ ?_
  clear hK K
  refine pi_l 6 rfl (by kernel_rfl) (fun K hK => ?_)
  go_wp2
  refine hK _ _ (fun _ h => af_step h (Ext.alloc' _ _)) ?_
  clear hK K
  refine pi_t 7 rfl (by kernel_rfl) (by kernel_rfl) (fun _ _ _ _ h => h) (fun K hK => ?_)
  go_big_quiet_op
  refine hK _ ?_
  clear hK K
  refine pi_end (by kernel_rfl) ?_
  go_wp2
  go_ret
  refine ⟨_, W.heap.size, rfl, ⟨⟨N, heap_at _ _ (size_alloc _ _).symm, Nat.le_refl _⟩, ⟨fillA (fun _ => 0) 0 N, ?_, fun k hk => ?_⟩, zs_len _, h1, h2, fun x hx => ?_⟩, ?_, hsz, ((hE.drewR).allocR _).allocR _⟩
  · show ((W.alloc _).alloc _).heap[_]? = _
    rw [heap_old _ _ (by rw [size_alloc]; exact Nat.lt_succ_self _)]
    exact heap_at _ _ rfl
  · rw [fillA_at _ _ _ _ hk, if_neg (Nat.not_lt_zero _), zs_get0]
  · simp only [zs, List.mem_replicate] at hx
    rw [hx.2]
    unfold I64; omega
  · exact Nat.le_trans hsz (Nat.le_succ _)
set_option maxRecDepth 20000 in
set_option maxHeartbeats 4000000 in
theorem RXCopy_c (a m : Nat) (C : Cfg) (lv : Int) (N : Nat) (l : List Int) (w : World) (h : RXAt w a m C lv N l) :
    Calls Tryz.prog 105 #[.pointer (some ⟨a, 0, none⟩)] w (RXNewPost w C lv N l) := by
  obtain ⟨cap, hex, hcap⟩ := h.ex
  have c0 := (cell_of hex 0).trans rfl
  have c1 := (cell_of hex 1).trans rfl
  have c2 := (cell_of hex 2).trans rfl
  have c3 := (cell_of hex 3).trans rfl
  have c4 := (cell_of hex 4).trans rfl
  have c5 := (cell_of hex 5).trans rfl
  have c6 := (cell_of hex 6).trans rfl
  have la := h.lta
  have lm := h.ltm
  have k1 := h.k1
  have k2 := h.k2
  have hlen := h.len
  have HF := Lib.hid h.fit
  have hcell : ∀ W : World, Ext w W → ∀ k, k < N → W.cell? ⟨m, 0 + k, none⟩ = some (.int .i64 (l.getD k 0)) := fun W hW k hk => by rw [(bcell hW).1 _ _ lm, Nat.zero_add]; exact h.cell hk
  have HC := Lib.hid hcell
  have HL := Lib.hid hlen
  clear hcell h hex hlen
  go_enter Tryz.func105, Tryz.ntmps105
  go_wp2_with fail
  have hC0 := af_drew w
  refine pi_start (fun w' => ∃ z : After w, w' = z.w) [] (by kernel_rfl) ?_
  refine pi_t 0 rfl (by kernel_rfl) (by kernel_rfl) (fun _ _ _ _ h => h) (fun K hK => ?_)
  go_big_quiet_op
  refine hK _ ?_
  clear hK K
  refine pi_t 1 rfl (by kernel_rfl) (by kernel_rfl) (fun _ _ _ _ h => h) (fun K hK => ?_)
  go_big_quiet_op
  refine hK _ ?_
  clear hK K
  refine pi_t 2 rfl (by kernel_rfl) (by kernel_rfl) (fun _ _ _ _ h => h) (fun K hK => ?_)
  go_big_quiet_op
  refine hK _ ?_
  clear hK K
  refine pi_t 4 rfl (by kernel_rfl) (by kernel_rfl) (fun _ _ _ _ h => h) (fun K hK => ?_)
  go_big_quiet_op
  refine hK _ ?_
  clear hK K
  refine pi_t 5 rfl (by kernel_rfl) (by kernel_rfl) (fun _ _ _ _ h => h) (fun K hK => ?_)
  go_big_quiet_op
  refine hK _ ?_
  clear hK K
  refine pi_t 6 rfl (by kernel_rfl) (by kernel_rfl) (fun _ _ _ _ h => h) (fun K hK => ?_)
  go_big_quiet_op
  refine hK _ ?_
  clear hK K
  refine pi_t 9 rfl (by kernel_rfl) (by kernel_rfl) (fun _ _ _ _ h => h) (fun K hK => ?_)
  go_big_quiet_op
  refine hK _ ?_
  clear hK K
  refine pi_t 10 rfl (by kernel_rfl) (by kernel_rfl) (fun _ _ _ _ h => h) (fun K hK => ?_)
  go_big_quiet_op
  refine hK _ ?_
  clear hK K
  refine pi_t 11 rfl (by kernel_rfl) (by kernel_rfl) (fun _ _ _ _ h => h) (fun K hK => ?_)
  go_big_quiet_op
  refine hK _ ?_
  clear hK K
  refine pi_c 3 (by assumption) rfl (by kernel_rfl) (by kernel_rfl) (fun _ _ _ _ h => h) (fun K hK => ?_)
  go_big_quiet_op
  refine hK _ ?_
  clear hK K
  refine pi_c 7 (by assumption) rfl (by kernel_rfl) (by kernel_rfl) (fun _ _ _ _ h => h) (fun K hK => ?_)
  go_big_quiet_op
  refine hK _ ?_
  clear hK K
  refine pi_c 12 (by assumption) rfl (by kernel_rfl) (by kernel_rfl) (fun _ _ _ _ h => h) (fun K hK => ?_)
  go_big_quiet_op
  refine hK _ ?_
  clear hK K
  refine pi_l 8 rfl (by kernel_rfl) (fun K hK => ?_)
  go_wp2
  refine hK _ _ (fun _ h => af_step h (Ext.alloc' _ _)) ?_
  clear hK K
  have hE1 : Ext w (w.alloc (.cells #[] 2)).drew := ((Ext.refl w).allocR _).drewR
  have hown : (w.alloc (.cells #[] 2)).drew.ownsRow w.heap.size 2 1 (.slice (some ⟨w.heap.size, 0, none⟩) 0 0) ([] : List Int).length (ints []) := own_drew (own_empty w 2)
  generalize (w.alloc (.cells #[] 2)).drew = W at *
  refine pi_l 13 rfl (by kernel_rfl) (fun K hK => ?_)
  go_wp2_with (at_builtin; refine wpList_appl W l [] _ w.heap.size 2 hown 43 rfl _ _ rfl info_i64 Tryz.underlying43 (by rfl) m 0 N cap (by rfl) HL.out.symm (HC.out W hE1) ?a1 ?a2 ?_)
  case a1 => show 0 + N ≤ _; omega
  case a2 => exact hE1.size
  intro v' w' g1 g2 g3
  have hE2 : Ext w w' := ext_grown0 hE1 g2 (fun i hi => own_blk hown hi)
  have hE2' : ∃ z : After w, w' = z.w := ⟨⟨w', hE2⟩, rfl⟩
  obtain ⟨z, zc, cur, rfl, hzc, hz, hzh, hzcur⟩ := own_row1 g1 (by show 0 < l.length; rw [HL.out]; omega)
  rw [HL.out] at hzc hzcur ⊢
  have HZ := Lib.hid (And.intro hzc (And.intro hz (And.intro hzh hzcur)))
  have hs2 := hE2.size
  clear g1 g2 g3 hown hzc hz hzh hzcur
  go_wp2
  refine hK _ _ (fun _ _ => hE2') ?_
  clear hK K
  refine pi_t 14 rfl (by kernel_rfl) (by kernel_rfl) (fun _ _ _ _ h => h) (fun K hK => ?_)
  go_big_quiet_op
  refine hK _ ?_
  clear hK K
  refine pi_l 15 rfl (by kernel_rfl) (fun K hK => ?_)
  go_wp2
  refine hK _ _ (fun _ h => af_step h (Ext.alloc' _ _)) ?_
  clear hK K
  refine pi_t 16 rfl (by kernel_rfl) (by kernel_rfl) (fun _ _ _ _ h => h) (fun K hK => ?_)
  go_big_quiet_op
  refine hK _ ?_
  clear hK K
  refine pi_end (by kernel_rfl) ?_
  go_wp2
  go_ret
  obtain ⟨q1, q2, q3, q4⟩ := HZ.out
  exact ⟨_, z, rfl, ⟨⟨zc, heap_at _ _ rfl, q1⟩, ⟨cur, (Ext.alloc' _ _).keep q3, fun k hk => q4 k hk⟩, HL.out, k1, k2, HF.out⟩, hs2, q2, hE2.allocR _⟩
theorem key_nat {key : Int} (h0 : 0 ≤ key) : ∃ k : Nat, key = k := ⟨key.toNat, by omega⟩
def RXUpdPost (w : World) (a m : Nat) (C : Cfg) (lv : Int) (N : Nat) (l : List Int) (key d : Int) (e : Ending) (w' : World) : Prop :=
  e = .returned (.int .i64 (errX C lv l key d)) ∧ ((errX C lv l key d = 0 ∧ RXAt w' a m C lv N (updX l key d) ∧ Mod (fun k => k = m) w w') ∨ (errX C lv l key d ≠ 0 ∧ Ext w w'))
set_option maxRecDepth 20000 in
set_option maxHeartbeats 4000000 in
theorem RXUpdate_c (a m : Nat) (C : Cfg) (lv : Int) (N : Nat) (l : List Int) (key d : Int) (w : World) (h : RXAt w a m C lv N l) (hkn : keys C lv = N) (hd : I64 d) (hk : U64 key) :
    Calls Tryz.prog 107 #[.pointer (some ⟨a, 0, none⟩), .int .u64 key, .int .i64 d] w (RXUpdPost w a m C lv N l key d) := by
  obtain ⟨hk0, hk1⟩ := hk
  obtain ⟨key, rfl⟩ := key_nat hk0
  obtain ⟨cap, hex, hcap⟩ := h.ex
  have c3 := (cell_of hex 3).trans rfl
  have c6 := (cell_of hex 6).trans rfl
  have la := h.lta
  have lm := h.ltm
  have k2 := h.k2
  have HH := Lib.hid h
  have HKK := Lib.hid hkn
  have HD := Lib.hid hd
  clear h hex hd
  by_cases hge : N ≤ key
  · have he : errX C lv l key d = 2 := errX_key (by omega)
    unfold RXUpdPost
    rw [he]
    have hge' : decide ((N : Int) ≤ (key : Int)) = true := by simp; omega
    clear hkn
    go_enter Tryz.func107, Tryz.ntmps107
    go_wp2
    go_ret
    exact ⟨rfl, by first | exact .inr ⟨by decide, Ext.refl _⟩ | exact Ext.refl _⟩
  · have hlt : key < N := by omega
    have cx := HH.out.cell hlt
    have fx := HH.out.frz key
    have hI := getD_i64 HH.out.fit key
    have hset := fun x (hx : I64 x) => HH.out.set hlt hx
    have HSET := Lib.hid hset
    have hne := HH.out.ne
    have HNE := Lib.hid hne
    have he := fun hn => errX_sum (C := C) (lv := lv) (l := l) (key := (key : Int)) (d := d) (by omega) hn
    have he2 := fun hm hn => errX_neg (C := C) (lv := lv) (l := l) (key := (key : Int)) (d := d) (by omega) hm hn
    have hu : updX l (key : Int) d = l.set key (l.getD key 0 + d) := by unfold updX; rw [Int.toNat_natCast]
    rw [Int.toNat_natCast] at he
    unfold RXUpdPost
    rw [hu]
    have HE := Lib.hid he
    have HE2 := Lib.hid he2
    have HI := Lib.hid hI
    generalize l.getD key 0 = x at *
    generalize errX C lv l key d = er at *
    have HLT := Lib.hid hlt
    have hlt3 : (key : Int) < (N : Int) := by omega
    have hlt4 : ¬ ((N : Int) ≤ (key : Int)) := by omega
    clear hge hu he he2 hset hne hI hkn hlt
    by_cases hmd : C.mode = 2 ∧ d < 0
    · obtain ⟨hm, hdn⟩ := hmd
      rw [HE2.out hm hdn]
      rw [hm] at c3
      clear hm
      go_enter Tryz.func107, Tryz.ntmps107
      go_wp2
      go_ret
      exact ⟨rfl, by first | exact .inr ⟨by decide, Ext.refl _⟩ | exact Ext.refl _⟩
    · have herr := HE.out hmd
      rw [herr]
      clear herr
      have hA : ∀ w', Calls Tryz.prog 159 #[.int .i64 x, .int .i64 d] w' fun e w'' => e = .returned (.tuple #[.int .i64 (fitN (x + d)), .bool (fitB (x + d))]) ∧ Ext w' w'' := fun w' => LAdd_c x d HI.out HD.out w'
      have HA := Lib.hid hA
      clear hA
      have fin : ∀ w1, Ext w w1 → w1.cell? ⟨a, 6, none⟩ = some (.slice (some ⟨m, 0, none⟩) N cap) ∧ w1.frozen? ⟨m, key, none⟩ = false ∧ (∃ v, w1.cell? ⟨m, key, none⟩ = some v) ∧ a < w1.heap.size ∧ m < w1.heap.size := fun w1 hx =>
        ⟨((bcell hx).1 _ _ la).trans c6, ((bcell hx).2 _ _ lm).trans fx, ⟨_, ((bcell hx).1 _ _ lm).trans cx⟩, Nat.lt_of_lt_of_le la hx.size, Nat.lt_of_lt_of_le lm hx.size⟩
      have HFIN := Lib.hid fin
      clear fin
      by_cases hfit : I64 (x + d)
      · have hfb := fitB_yes hfit
        have hfn := fitN_yes hfit
        rw [hfb, hfn] at HA
        rw [hfb]
        clear hfb hfn
        have hmode : (C.mode = 2) ∨ (C.mode ≠ 2) := by omega
        by_cases hm : C.mode = 2
        · have hdn : decide (d < 0) = false := by have := fun h => hmd ⟨hm, h⟩; simp; omega
          rw [hm] at c3
          clear hm hmd hmode
          go_enter Tryz.func107, Tryz.ntmps107
          go_wp2_with fail
          refine Calls.mono (HA.out _) ?_
          rintro e w1 ⟨rfl, hx1⟩
          obtain ⟨d6, fk, ⟨v0, ck⟩, l1, l2⟩ := HFIN.out w1 hx1
          clear c3 c6 cx fx la lm
          go_wp2
          go_ret
          have hX1 := HH.out.ext hx1
          exact ⟨rfl, by first | exact .inl ⟨rfl, hX1.set HLT.out hfit, (hx1.mod _).trans (mod_set _ _ _ _)⟩ | exact ⟨hX1.set HLT.out hfit, (hx1.mod _).trans (mod_set _ _ _ _)⟩⟩
        · have hmb : (C.mode == 2) = false := by simpa using hm
          clear hm hmd hmode
          go_enter Tryz.func107, Tryz.ntmps107
          go_wp2_with fail
          refine Calls.mono (HA.out _) ?_
          rintro e w1 ⟨rfl, hx1⟩
          obtain ⟨d6, fk, ⟨v0, ck⟩, l1, l2⟩ := HFIN.out w1 hx1
          clear c3 c6 cx fx la lm
          go_wp2
          go_ret
          have hX1 := HH.out.ext hx1
          exact ⟨rfl, by first | exact .inl ⟨rfl, hX1.set HLT.out hfit, (hx1.mod _).trans (mod_set _ _ _ _)⟩ | exact ⟨hX1.set HLT.out hfit, (hx1.mod _).trans (mod_set _ _ _ _)⟩⟩
      · have hfb := fitB_no hfit
        rw [hfb] at HA
        rw [hfb]
        clear hfb
        by_cases hm : C.mode = 2
        · have hdn : decide (d < 0) = false := by have := fun h => hmd ⟨hm, h⟩; simp; omega
          rw [hm] at c3
          clear hm hmd
          go_enter Tryz.func107, Tryz.ntmps107
          go_wp2_with fail
          refine Calls.mono (HA.out _) ?_
          rintro e w1 ⟨rfl, hx1⟩
          go_wp2
          go_ret
          exact ⟨rfl, by first | exact .inr ⟨by decide, hx1⟩ | exact hx1⟩
        · have hmb : (C.mode == 2) = false := by simpa using hm
          clear hm hmd
          go_enter Tryz.func107, Tryz.ntmps107
          go_wp2_with fail
          refine Calls.mono (HA.out _) ?_
          rintro e w1 ⟨rfl, hx1⟩
          go_wp2
          go_ret
          exact ⟨rfl, by first | exact .inr ⟨by decide, hx1⟩ | exact hx1⟩
def ptX (l : List Int) (N : Nat) (key : Int) : Value := if (N : Int) ≤ key then .tuple #[.int .i64 0, .int .i64 2] else .tuple #[.int .i64 (l.getD key.toNat 0), .int .i64 0]
set_option maxRecDepth 20000 in
set_option maxHeartbeats 2000000 in
theorem RXPoint_c (a m : Nat) (C : Cfg) (lv : Int) (N : Nat) (l : List Int) (key : Int) (w : World) (h : RXAt w a m C lv N l) (hk : U64 key) :
    Calls Tryz.prog 103 #[.pointer (some ⟨a, 0, none⟩), .int .u64 key] w fun e w' => e = .returned (ptX l N key) ∧ w = w' := by
  obtain ⟨hk0, hk1⟩ := hk
  obtain ⟨key, rfl⟩ := key_nat hk0
  obtain ⟨cap, hex, hcap⟩ := h.ex
  have c6 := (cell_of hex 6).trans rfl
  have la := h.lta
  have lm := h.ltm
  have k2 := h.k2
  unfold ptX
  rw [Int.toNat_natCast]
  by_cases hge : N ≤ key
  · rw [if_pos (by omega)]
    have hge' : decide ((N : Int) ≤ (key : Int)) = true := by simp; omega
    clear h hex
    go_enter Tryz.func103, Tryz.ntmps103
    go_wp2
    go_ret2
    exact ⟨rfl, rfl⟩
  · have hlt : key < N := by omega
    rw [if_neg (by omega)]
    have cx := h.cell hlt
    have hlt3 : (key : Int) < (N : Int) := by omega
    have hlt4 : ¬ ((N : Int) ≤ (key : Int)) := by omega
    generalize l.getD key 0 = x at *
    clear h hex hge hlt
    go_enter Tryz.func103, Tryz.ntmps103
    go_wp2
    go_ret2
    exact ⟨rfl, rfl⟩
end Go.Proofs.YtfhdjekpdifajaaGreat
namespace Go.Proofs.YtfhdjekpdifajaaGreat
set_option linter.unusedVariables false
theorem less_perm {x : Int} {a b : List Int} (h : a.Perm b) : (lessL x a).length = (lessL x b).length := (h.filter _).length_eq
theorem same_perm {x : Int} {a b : List Int} (h : a.Perm b) : sameN x a = sameN x b := (h.filter _).length_eq
theorem kth_perm {l s : List Int} {k : Nat} {x : Int} (h : s.Perm l) (hk : IsKth s k x) : IsKth l k x := by
  unfold IsKth at *
  rw [less_perm h, same_perm h] at hk
  exact hk
theorem less_none {x : Int} : ∀ {s : List Int}, (∀ y ∈ s, x ≤ y) → (lessL x s).length = 0
  | [], _ => rfl
  | z :: s, h => by
    rw [less_cons, if_neg (by have := h z (by simp); omega), less_none (fun y hy => h y (by simp [hy]))]
theorem kth_sorted : ∀ {s : List Int} (k : Nat) (h : k < s.length), s.Pairwise (· ≤ ·) → IsKth s k s[k]
  | [], k, h, _ => by simp at h
  | z :: s, 0, _, hp => by
    rw [List.pairwise_cons] at hp
    show (lessL z (z :: s)).length ≤ 0 ∧ 0 < (lessL z (z :: s)).length + sameN z (z :: s)
    rw [less_cons, same_cons, if_neg (Int.lt_irrefl z), if_pos rfl, less_none hp.1]
    omega
  | z :: s, k + 1, h, hp => by
    have hk : k < s.length := by simpa using h
    rw [List.pairwise_cons] at hp
    have ih := kth_sorted k hk hp.2
    have hz := hp.1 s[k] (List.getElem_mem hk)
    show IsKth (z :: s) (k + 1) s[k]
    unfold IsKth at *
    rw [less_cons, same_cons]
    by_cases e : z = s[k]
    · rw [if_neg (by omega), if_pos e]
      have h0 : (lessL s[k] s).length = 0 := less_none (fun y hy => by have := hp.1 y hy; omega)
      omega
    · rw [if_pos (by omega), if_neg e]; omega
/-- One number put into its place. -/
theorem ins_sorted {s : List Int} {x : Int} {a : Nat} (hs : s.Pairwise (· ≤ ·)) (ha : a ≤ s.length) (h1 : a = 0 ∨ s.getD (a - 1) 0 ≤ x) (h2 : ∀ j, a ≤ j → j < s.length → x < s.getD j 0) :
    (s.take a ++ [x] ++ s.drop a).Pairwise (· ≤ ·) ∧ (s.take a ++ [x] ++ s.drop a).Perm (s ++ [x]) := by
  have hcut : s.take a ++ s.drop a = s := List.take_append_drop a s
  refine ⟨?_, ?_⟩
  · rw [List.append_assoc, List.pairwise_append]
    rw [← hcut, List.pairwise_append] at hs
    obtain ⟨p1, p2, p3⟩ := hs
    have hlo : ∀ y ∈ s.take a, y ≤ x := by
      intro y hy
      obtain ⟨j, hj, rfl⟩ := List.getElem_of_mem hy
      rw [List.length_take] at hj
      rcases h1 with h1 | h1
      · omega
      · have hs' : s.Pairwise (· ≤ ·) := by rw [← hcut, List.pairwise_append]; exact ⟨p1, p2, p3⟩
        rw [List.getElem_take]
        have e : s.getD (a - 1) 0 = s[a - 1] := by simp [show a - 1 < s.length by omega]
        rw [e] at h1
        by_cases hj2 : j = a - 1
        · subst hj2; exact h1
        · have := List.pairwise_iff_getElem.1 hs' j (a - 1) (by omega) (by omega) (by omega)
          omega
    have hhi : ∀ y ∈ s.drop a, x ≤ y := by
      intro y hy
      obtain ⟨j, hj, rfl⟩ := List.getElem_of_mem hy
      rw [List.length_drop] at hj
      rw [List.getElem_drop]
      have := h2 (a + j) (by omega) (by omega)
      have e : s.getD (a + j) 0 = s[a + j] := by simp [show a + j < s.length by omega]
      omega
    refine ⟨p1, ?_, ?_⟩
    · rw [List.singleton_append, List.pairwise_cons]
      exact ⟨hhi, p2⟩
    · intro y hy z hz
      simp only [List.singleton_append, List.mem_cons] at hz
      rcases hz with rfl | hz
      · exact hlo y hy
      · have := hlo y hy; have := hhi z hz; omega
  · have h1 : (s.take a ++ [x] ++ s.drop a).Perm (s.take a ++ (s.drop a ++ [x])) := by
      rw [List.append_assoc]
      exact List.Perm.append_left _ List.perm_append_comm
    rw [← List.append_assoc, hcut] at h1
    exact h1
end Go.Proofs.YtfhdjekpdifajaaGreat
namespace Go.Proofs.YtfhdjekpdifajaaGreat
set_option linter.unusedVariables false
open Go.RowKit
set_option maxRecDepth 20000 in
set_option maxHeartbeats 4000000 in
theorem RMeet_c (G : Gr) (R W : Nat) (l cs : List Int) (v : Value) (w : World) (h : RGAt w G R W l) (hv : IntsAt w v cs) (hm : Meets R W cs) :
    Calls Tryz.prog 197 #[.pointer (some ⟨G.g, 0, none⟩), v] w fun e w' => e = .returned (.bool true) ∧ Ext w w' := by
  have r1 := h.r1
  have r2 := h.r2
  obtain ⟨vg, vo, vc, rfl, hg, hc⟩ := hv.slice (by rw [hm.len]; omega)
  rw [hm.len] at hc ⊢
  have HC := Lib.hid hc
  have HH := Lib.hid h
  have HM := Lib.hid hm
  obtain ⟨cap, cg, hcap⟩ := h.cg
  have lg := h.ltg
  have hz : ((R : Int) == 0) = false := by simp; omega
  clear hc hv h hm
  go_enter Tryz.func197, Tryz.ntmps197
  go_wp2_with fail
  clear cg lg hz
  go_loopw [5] (fun u wr => ∃ k : Nat, k ≤ R ∧ u = .int .i64 k ∧ Ext w wr) (fun u _ => R - (intOf u).toNat)
  case atStart => exact ⟨0, Nat.zero_le _, rfl, by (repeat' (first | exact Ext.refl _ | assumption | apply Ext.allocR | apply Ext.drewR | apply Ext.drewNR | (refine Ext.trans' ?_ (by assumption))))⟩
  case round =>
    obtain ⟨k, hk, rfl, hE⟩ := hrel
    by_cases hlt : k < R
    · have hr := HH.out.ext hE
      obtain ⟨cap2, cg, hcap2⟩ := hr.cg
      have lg := hr.ltg
      have cm := hr.cm hlt
      have lm := hr.ltm
      have d := ((bcell hE).1 _ _ hg).trans (HC.out k hlt)
      have ld : vg < wr.heap.size := Nat.lt_of_lt_of_le hg hE.size
      have l1 := HM.out.lo k hlt
      have l2 := HM.out.hi k hlt
      generalize cs.getD k 0 = y at *
      have g2 : decide (y < 0) = false := by simp; omega
      have g3 : decide ((W : Int) ≤ y) = false := by simp; omega
      clear hr
      go_wp2_with fail
      go_region
      go_wp2_with fail
      go_roundw
      case rel => exact ⟨k + 1, by omega, by go_num, by first | exact hE | exact hE.drewR⟩
      case measure => simp [intOf]; omega
    · go_wp2
      go_ret
      exact ⟨rfl, hE⟩
theorem readL_snoc {W : Nat} {l cs : List Int} {k : Nat} (hk : k < cs.length) : (readL W l cs).take (k + 1) = (readL W l cs).take k ++ [l.getD (k * W + (cs.getD k 0).toNat) 0] := by
  rw [take_snoc (by rw [readL_len]; exact hk), readL_get hk]; rfl
set_option maxRecDepth 20000 in
set_option maxHeartbeats 4000000 in
theorem RRead_c (G : Gr) (R W : Nat) (l cs : List Int) (v : Value) (w : World) (h : RGAt w G R W l) (hv : IntsAt w v cs) (hm : Meets R W cs) :
    Calls Tryz.prog 194 #[.pointer (some ⟨G.g, 0, none⟩), v] w (ReadPost w W l cs) := by
  have r1 := h.r1
  have r2 := h.r2
  have hml := hm.len
  obtain ⟨vg, vo, vc, rfl, hg, hc⟩ := hv.slice (by rw [hm.len]; omega)
  rw [hml] at hc hv ⊢
  have HL := Lib.hid hml
  have HC := Lib.hid hc
  have HV := Lib.hid hv
  have HH := Lib.hid h
  have HM := Lib.hid hm
  clear hc hv h hm hml
  go_enter Tryz.func194, Tryz.ntmps194
  go_wp2_with fail
  refine Calls.mono (RMeet_c G R W l cs _ _ (HH.out.ext (Ext.alloc' _ _)) (HV.out.ext (Ext.alloc' _ _)) HM.out) ?_
  rintro e w1 ⟨rfl, hx1⟩
  have hE1 : Ext w w1 := (Ext.alloc' _ _).trans' hx1
  have hown : w1.ownsRow w.heap.size 2 1 (.slice (some ⟨w.heap.size, 0, none⟩) 0 0) ((readL W l cs).take 0).length (ints ((readL W l cs).take 0)) := own_ext (own_empty w 2) hx1
  clear hx1
  go_wp2_with fail
  go_loopw [6, 7] (fun u6 u7 wr => ∃ k : Nat, k ≤ R ∧ u7 = .int .i64 k ∧ wr.ownsRow w.heap.size 2 1 u6 ((readL W l cs).take k).length (ints ((readL W l cs).take k)) ∧ Ext w wr) (fun _ u7 _ => R - (intOf u7).toNat)
  case atStart => exact ⟨0, Nat.zero_le _, rfl, hown, hE1⟩
  case round =>
    clear hown
    obtain ⟨k, hk, rfl, hown, hE⟩ := hrel
    by_cases hlt : k < R
    · have hr := HH.out.ext hE
      obtain ⟨cap2, cg, hcap2⟩ := hr.cg
      have lg := hr.ltg
      have cm := hr.cm hlt
      have lm := hr.ltm
      have d := ((bcell hE).1 _ _ hg).trans (HC.out k hlt)
      have ld : vg < wr.heap.size := Nat.lt_of_lt_of_le hg hE.size
      have l1 := HM.out.lo k hlt
      have l2 := HM.out.hi k hlt
      have hsn := readL_snoc (W := W) (l := l) (cs := cs) (k := k) (by rw [HL.out]; exact hlt)
      have HSN := Lib.hid hsn
      clear hsn
      generalize cs.getD k 0 = y at *
      obtain ⟨y, rfl⟩ := Int.eq_ofNat_of_zero_le l1
      have cr := hr.cr hlt (k := y) (by omega)
      have lr := hr.ltr hlt
      have HSN2 : Hid ((readL W l cs).take (k + 1) = (readL W l cs).take k ++ [l.getD (k * W + y) 0]) := Lib.hid HSN.out
      generalize l.getD (k * W + y) 0 = x at *
      have hl8 : ((readL W l cs).take k).length ≤ 8 := by rw [List.length_take, readL_len, HL.out]; omega
      generalize (readL W l cs).take k = pre at *
      have hy2 : y < W := by omega
      have hsE := hE.size
      obtain ⟨S, hSS⟩ : ∃ S : Nat → Prop, ∀ i, S i ↔ u6.ownBlock = some i := ⟨_, fun _ => Iff.rfl⟩
      have n1 : ¬ S G.g := fun h => by have := own_blk hown ((hSS _).1 h); have := HH.out.ltg; omega
      have n2 : ¬ S G.m := fun h => by have := own_blk hown ((hSS _).1 h); have := HH.out.ltm; omega
      have n3 : ¬ S (G.r k) := fun h => by have := own_blk hown ((hSS _).1 h); have := HH.out.ltr hlt; omega
      have n4 : ¬ S vg := fun h => by have := own_blk hown ((hSS _).1 h); omega
      have HSS := Lib.hid hSS
      clear hr HSN l1 l2 hSS
      go_wp2_with fail
      have hC0 := afs_drew S wr
      refine pi_start (fun w' => ∃ z : AftS S wr, w' = z.w) [] (by kernel_rfl) ?_
      refine pi_t 0 rfl (by kernel_rfl) (by kernel_rfl) (fun _ _ _ _ h => h) (fun K hK => ?_)
      go_big_quiet_op
      refine hK _ ?_
      clear hK K
      refine pi_t 1 rfl (by kernel_rfl) (by kernel_rfl) (fun _ _ _ _ h => h) (fun K hK => ?_)
      go_big_quiet_op
      refine hK _ ?_
      clear hK K
      refine pi_t 2 rfl (by kernel_rfl) (by kernel_rfl) (fun _ _ _ _ h => h) (fun K hK => ?_)
      go_big_quiet_op
      refine hK _ ?_
      clear hK K
      refine pi_t 3 rfl (by kernel_rfl) (by kernel_rfl) (fun _ _ _ _ h => h) (fun K hK => ?_)
      go_big_quiet_op
      refine hK _ ?_
      clear hK K
      refine pi_t 5 rfl (by kernel_rfl) (by kernel_rfl) (fun _ _ _ _ h => h) (fun K hK => ?_)
      go_big_quiet_op
      refine hK _ ?_
      clear hK K
      refine pi_t 8 rfl (by kernel_rfl) (by kernel_rfl) (fun _ _ _ _ h => h) (fun K hK => ?_)
      go_big_quiet_op
      refine hK _ ?_
      clear hK K
      refine pi_t 9 rfl (by kernel_rfl) (by kernel_rfl) (fun _ _ _ _ h => h) (fun K hK => ?_)
      go_big_quiet_op
      refine hK _ ?_
      clear hK K
      refine pi_t 10 rfl (by kernel_rfl) (by kernel_rfl) (fun _ _ _ _ h => h) (fun K hK => ?_)
      go_big_quiet_op
      refine hK _ ?_
      clear hK K
      refine pi_c 4 (by assumption) rfl (by kernel_rfl) (by kernel_rfl) (fun _ _ _ _ h => h) (fun K hK => ?_)
      go_big_quiet_op
      refine hK _ ?_
      clear hK K
      refine pi_t 6 rfl (by kernel_rfl) (by kernel_rfl) (fun _ _ _ _ h => h) (fun K hK => ?_)
      go_big_quiet_op
      refine hK _ ?_
      clear hK K
      refine pi_c 7 (by assumption) rfl (by kernel_rfl) (by kernel_rfl) (fun _ _ _ _ h => h) (fun K hK => ?_)
      go_big_quiet_op
      refine hK _ ?_
      clear hK K
      refine pi_c 11 (by assumption) rfl (by kernel_rfl) (by kernel_rfl) (fun _ _ _ _ h => h) (fun K hK => ?_)
      go_big_quiet_op
      refine hK _ ?_
      clear hK K
      refine pi_t 12 rfl (by kernel_rfl) (by kernel_rfl) (fun _ _ _ _ h => h) (fun K hK => ?_)
      go_big_quiet_op
      refine hK _ ?_
      clear hK K
      refine pi_c 13 (by assumption) rfl (by kernel_rfl) (by kernel_rfl) (fun _ _ _ _ h => h) (fun K hK => ?_)
      go_big_quiet_op
      refine hK _ ?_
      clear hK K
      refine pi_l 14 rfl (by kernel_rfl) (fun K hK => ?_)
      go_wp2
      refine hK _ _ (fun _ h => afs_step h (Ext.alloc' _ _)) ?_
      clear hK K
      have hown2 : wr.drew.ownsRow w.heap.size 2 1 u6 pre.length (ints pre) := own_drew hown
      refine pi_l 15 rfl (by kernel_rfl) (fun K hK => ?_)
      go_wp2_with (at_builtin; refine wpList_app1 wr.drew x pre u6 w.heap.size 2 hown2 43 rfl _ _ rfl info_i64 Tryz.underlying43 rfl rfl ?a1 ?a2 ?_)
      case a1 => omega
      case a2 => exact hsE
      intro v' w' g1 g2 g3
      have hE2 : Ext w w' := ext_grown hE.drewR g2 (fun i hi => own_blk hown hi)
      have hm2 : Mod S wr w' := mod_grown (Ext.mod _ (Below.drew (Ext.refl wr))) g2 (fun i hi => (HSS.out i).2 hi)
      have G1 := Lib.hid g1
      clear g1 g2 g3 hown hown2
      go_wp2
      refine hK _ _ (fun _ _ => ⟨⟨w', hm2⟩, rfl⟩) ?_
      clear hK K
      refine pi_t 16 rfl (by kernel_rfl) (by kernel_rfl) (fun _ _ _ _ h => h) (fun K hK => ?_)
      go_big_quiet_op
      refine hK _ ?_
      clear hK K
      refine pi_end (by kernel_rfl) ?_
      go_wp2_with fail
      go_roundw
      case rel => exact ⟨k + 1, by omega, by go_num, by rw [HSN2.out, List.length_append]; exact G1.out, hE2⟩
      case measure => simp [intOf]; omega
    · obtain rfl : k = R := by omega
      rw [List.take_of_length_le (by rw [readL_len, HL.out]; exact Nat.le_refl _)] at hown
      have HOWN := Lib.hid hown
      obtain ⟨p1, n1, c1, rfl⟩ := own_slice hown
      clear hown
      go_wp2
      go_ret2
      exact ⟨_, rfl, by have := HOWN.out; rw [readL_len] at this; exact this, hE⟩
set_option maxRecDepth 20000 in
set_option maxHeartbeats 4000000 in
theorem RMin_c (l : List Int) (v : Value) (w : World) (hv : IntsAt w v l) (h0 : 0 < l.length) (h1 : l.length ≤ 1000000) :
    Calls Tryz.prog 196 #[v] w fun e w' => e = .returned (.tuple #[.int .i64 (leastF (fun k => l.getD k 0) l.length), .bool true]) ∧ w = w' := by
  obtain ⟨g, off, cap, rfl, hg, hc⟩ := hv.slice h0
  obtain ⟨n, hn⟩ : ∃ n, l.length = n := ⟨_, rfl⟩
  rw [hn] at h0 h1 hc ⊢
  have HC := Lib.hid hc
  have HN := Lib.hid hn
  have d0 := hc 0 h0
  have hz : ((n : Int) == 0) = false := by simp; omega
  rw [Nat.add_zero] at d0
  obtain ⟨f, hf⟩ : ∃ f : Nat → Int, f = fun k => l.getD k 0 := ⟨_, rfl⟩
  have hf0 : l.getD 0 0 = f 0 := by rw [hf]
  have hfk : ∀ k, l.getD k 0 = f k := fun k => by rw [hf]
  rw [← hf]
  rw [hf0] at d0
  have HF := Lib.hid hfk
  clear hc hv hn hf hf0 hfk
  go_enter Tryz.func196, Tryz.ntmps196
  go_wp2
  go_loop [4, 5] (fun u4 u5 => ∃ k : Nat, k ≤ n ∧ u4 = .int .i64 (leastF f k) ∧ u5 = .int .i64 k) (fun _ u5 => n - (intOf u5).toNat)
  case atStart => exact ⟨0, Nat.zero_le _, rfl, rfl⟩
  case round =>
    obtain ⟨k, hk, rfl, rfl⟩ := hrel
    by_cases hlt : k < n
    · have d := HC.out k hlt
      rw [HF.out k] at d
      have hs := leastF_succ f k
      have HS := Lib.hid hs
      clear hs d0 hz
      generalize leastF f k = m at *
      generalize f k = y at *
      by_cases hy : y < m
      · have hmin : min m y = y := by omega
        rw [hmin] at HS
        go_wp2
        go_round
        case rel => exact ⟨k + 1, by omega, by rw [HS.out], by go_num⟩
        case measure => simp [intOf]; omega
      · have hmin : min m y = m := by omega
        have hy2 : decide (y < m) = false := by simp; omega
        have hy3 : m ≤ y := by omega
        rw [hmin] at HS
        clear hy
        go_wp2
        go_round
        case rel => exact ⟨k + 1, by omega, by rw [HS.out], by go_num⟩
        case measure => simp [intOf]; omega
    · obtain rfl : k = n := by omega
      clear d0 hz
      go_wp2
      go_ret2
      exact ⟨rfl, rfl⟩
theorem least_min {l : List Int} (h : 0 < l.length) : leastF (fun k => l.getD k 0) l.length = minL l := by
  obtain ⟨h1, h2⟩ := minL_spec l (by intro e; rw [e] at h; simp at h)
  obtain ⟨r, hr, hr2⟩ := leastF_mem (fun k => l.getD k 0) l.length h
  have h3 := h2 _ (getD_mem hr)
  obtain ⟨j, hj, hj2⟩ := List.getElem_of_mem h1
  have h4 := (leastF_le (fun k => l.getD k 0) l.length).2 j hj
  have h5 : l.getD j 0 = minL l := by simp [hj, hj2]
  rw [h5] at h4
  rw [hr2] at h4 ⊢
  omega
set_option maxRecDepth 20000 in
set_option maxHeartbeats 4000000 in
theorem RLeast_c (G : Gr) (R W : Nat) (l cs : List Int) (v : Value) (w : World) (h : RGAt w G R W l) (hv : IntsAt w v cs) (hm : Meets R W cs) :
    Calls Tryz.prog 158 #[.pointer (some ⟨G.g, 0, none⟩), v] w fun e w' => e = .returned (.tuple #[.int .i64 (minL (readL W l cs)), .int .i64 0]) ∧ Ext w w' := by
  have r1 := h.r1
  have r2 := h.r2
  have hlen : (readL W l cs).length = R := by rw [readL_len, hm.len]
  have HLEN := Lib.hid hlen
  have hle := least_min (l := readL W l cs) (by omega)
  have HLE := Lib.hid hle
  have hrl : cs.length = R := hm.len
  have HRL := Lib.hid hrl
  clear hlen hle hrl
  go_enter Tryz.func158, Tryz.ntmps158
  go_wp2_with fail
  refine Calls.mono (RRead_c G R W l cs v _ h hv hm) ?_
  rintro e w1 ⟨u, rfl, ho, hx1⟩
  rw [HRL.out] at ho
  have hi := IntsAt.of_row ho
  go_wp2_with fail
  refine Calls.mono (RMin_c _ u _ hi (by have := HLEN.out; omega) (by have := HLEN.out; omega)) ?_
  rintro e w2 ⟨rfl, rfl⟩
  rw [HLE.out]
  go_wp2_with fail
  go_ret2
  exact ⟨rfl, hx1⟩
end Go.Proofs.YtfhdjekpdifajaaGreat
namespace Go.Proofs.YtfhdjekpdifajaaGreat
set_option linter.unusedVariables false
open Go.RowKit
/-- Numbers that a slice may read. -/
def Src (W : World) (p : Option Addr) (l : List Int) : Prop := l = [] ∨ ∃ g off, p = some ⟨g, off, none⟩ ∧ g < W.heap.size ∧ ∀ k, k < l.length → W.cell? ⟨g, off + k, none⟩ = some (.int .i64 (l.getD k 0))
theorem Src.ext {W W' : World} {p : Option Addr} {l : List Int} (h : Src W p l) (he : Ext W W') : Src W' p l := by
  rcases h with h | ⟨g, off, h1, h2, h3⟩
  · exact .inl h
  · exact .inr ⟨g, off, h1, Nat.lt_of_lt_of_le h2 he.size, fun k hk => ((bcell he).1 _ _ h2).trans (h3 k hk)⟩
/-- What an append leaves. -/
structure AppRes (base : Nat) (e : TypeId) (W w' : World) (v v' : Value) (xs l : List Int) : Prop where
  row : w'.ownsRow base e 1 v' (xs ++ l).length (ints (xs ++ l))
  ext : ∀ W0 : World, Ext W0 W → W0.heap.size ≤ base → Ext W0 w'
  keep : ∀ k, k < W.heap.size → v.ownBlock ≠ some k → w'.heap[k]? = W.heap[k]?
  size : W.heap.size ≤ w'.heap.size
  sl : (∃ g c', v = .slice (some ⟨g, 0, none⟩) xs.length c') → ∃ g c', v' = .slice (some ⟨g, 0, none⟩) (xs ++ l).length c'
theorem Src.keepB {W W' : World} {g off : Nat} {l : List Int} (h : Src W (some ⟨g, off, none⟩) l) (hk : W'.heap[g]? = W.heap[g]?) (hs : W.heap.size ≤ W'.heap.size) : Src W' (some ⟨g, off, none⟩) l := by
  rcases h with h | ⟨g', off', h1, h2, h3⟩
  · exact .inl h
  · have e := Option.some.inj h1
    cases e
    exact .inr ⟨g, off, rfl, Nat.lt_of_lt_of_le h2 hs, fun k hk' => by rw [← h3 k hk']; unfold World.cell?; rw [hk]⟩
theorem src_one (W : World) (x : Int) : Src (W.alloc (.cells #[.int .i64 x] 2)) (some ⟨W.heap.size, 0, none⟩) [x] := by
  refine .inr ⟨_, 0, rfl, by rw [size_alloc]; omega, fun k hk => ?_⟩
  have hk0 : k = 0 := by simp at hk; exact hk
  subst hk0
  exact (cell_of (heap_at W _ rfl) 0).trans rfl
section
variable {P : Program}
theorem wpList_appS (W : World) {ops : Array Oper} {rest : List Oper} {o : Oper} {a : Act} {Q : Exit → Act → World → Prop} (l xs : List Int) (v : Value) (base : Nat) (e : TypeId) (hown : W.ownsRow base e 1 v xs.length (ints xs)) (t : TypeId)
    (hgd : o.guard = none) (s y : Operand) (ho : o.op = .call { callee := .builtin .append, args := #[s, y], argTypes := #[t, t] })
    (hinfo : (P.info? e).map (fun i => (i.zero, i.size, i.bytes)) = some (some (.int .i64 0), 1, 8)) (ht : P.underlying t = some (.slice e))
    (hs : a.eval s = v) (p : Option Addr) (m c : Nat) (hx : a.eval y = .slice p m c) (hm : m = l.length) (hc : Src W p l)
    (hl : xs.length + m ≤ 1000000000000) (hbase : base ≤ W.heap.size)
    (h : ∀ v' w', AppRes base e W w' v v' xs l → wpList P ops Q rest (a.put o.dst v') w') :
    wpList P ops Q (o :: rest) a W := by
  obtain ⟨i0, hi, hz0, hz1, hz2⟩ := info_parts hinfo
  by_cases hl0 : l = []
  · subst hl0
    subst hm
    refine wpList_append_zero hgd s y t ho base e i0 1 ht hi v xs.length (ints xs) hs hown p c hx ?_
    exact h v W ⟨by rw [List.append_nil]; exact hown, fun W0 h _ => h, fun _ _ _ => rfl, Nat.le_refl _, fun hv => by rw [List.append_nil]; exact hv⟩
  · obtain ⟨g, off, rfl, _, hcc⟩ := hc.resolve_left hl0
    refine wpList_appl W l xs v base e hown t hgd s y ho hinfo ht hs g off m c hx hm (by rw [hm]; exact hcc) hl hbase ?_
    intro v' w' h1 h2 h3
    refine h v' w' ⟨h1, fun W0 hE hb => ext_grown0 hE h2 fun k hk => Nat.le_trans hb (own_blk hown hk), fun k hk hn => h2.block k hk (fun e => hn e.symm), h2.size, fun _ => ?_⟩
    rcases h1.2 with ⟨_, h0⟩ | ⟨g', cap', cur', hv, _⟩
    · exfalso
      apply hl0
      have : (xs ++ l).length = 0 := h0
      rw [List.length_append] at this
      exact List.length_eq_zero_iff.1 (by omega)
    · exact ⟨g', cap', hv⟩
end
end Go.Proofs.YtfhdjekpdifajaaGreat
namespace Go.Proofs.YtfhdjekpdifajaaGreat
set_option linter.unusedVariables false
open Go.RowKit
theorem own_cells1 {w : World} {base g n cap : Nat} {e : TypeId} {s : List Int} (h : w.ownsRow base e 1 (.slice (some ⟨g, 0, none⟩) n cap) s.length (ints s)) : n = s.length ∧ s.length ≤ cap ∧ g < w.heap.size ∧ ∀ k, k < s.length → w.cell? ⟨g, k, none⟩ = some (.int .i64 (s.getD k 0)) := by
  rcases h.2 with ⟨hv, _⟩ | ⟨g', cap', cur, hv, hb, hh, hc, hm, hs, ht⟩
  · cases hv
  · simp only [Value.slice.injEq, Option.some.injEq, Addr.mk.injEq] at hv
    obtain ⟨⟨rfl, _, _⟩, rfl, rfl⟩ := hv
    refine ⟨rfl, hc, lt_of hh, fun k hk => ?_⟩
    rw [cell_of hh]
    have : (cur.toList.take (s.length * 1))[k]? = (ints s)[k]? := by rw [ht]
    rw [List.getElem?_take_of_lt (by omega)] at this
    simp only [Array.getElem?_toList] at this
    rw [this]
    simp [ints, hk]
/-- A row of numbers in order, of the call's own. -/
structure SortAt (w W : World) (v : Value) (l s : List Int) : Prop where
  row : W.ownsRow w.heap.size 2 1 v s.length (ints s)
  sl : ∃ g cap, v = .slice (some ⟨g, 0, none⟩) s.length cap
  perm : s.Perm l
  ord : s.Pairwise (· ≤ ·)
theorem SortAt.ext {w W W' : World} {v : Value} {l s : List Int} (h : SortAt w W v l s) (he : Ext W W') : SortAt w W' v l s := ⟨own_ext h.row he, h.sl, h.perm, h.ord⟩
def SortPost (w : World) (l : List Int) (e : Ending) (w' : World) : Prop := ∃ u s, e = .returned u ∧ SortAt w w' u l s ∧ Ext w w'
theorem sort_fin {w W : World} {base g c k : Nat} {l s T TA DR : List Int} {x : Int} (hr : W.ownsRow base 2 1 (.slice (some ⟨g, 0, none⟩) T.length c) T.length (ints T)) (hT : T = TA ++ [x] ++ DR)
    (h1 : (TA ++ [x] ++ DR).Pairwise (· ≤ ·)) (h2 : (TA ++ [x] ++ DR).Perm (s ++ [x])) (hp : s.Perm (l.take k)) (ht : l.take (k + 1) = l.take k ++ [x]) (hb : w.heap.size ≤ base) :
    SortAt w W (.slice (some ⟨g, 0, none⟩) T.length c) (l.take (k + 1)) T := by
  subst hT
  exact ⟨own_mono hr hb, ⟨g, c, rfl⟩, h2.trans (by rw [ht]; exact hp.append_right [x]), h1⟩
set_option maxRecDepth 20000 in
set_option maxHeartbeats 16000000 in
theorem RSorted_c (l : List Int) (v : Value) (w : World) (hv : IntsAt w v l) (h0 : 0 < l.length) (h1 : l.length ≤ 1000) :
    Calls Tryz.prog 220 #[v] w (SortPost w l) := by
  obtain ⟨vg, vo, vc, rfl, hg, hc⟩ := hv.slice h0
  obtain ⟨n, hn⟩ : ∃ n, l.length = n := ⟨_, rfl⟩
  rw [hn] at h0 h1 hc ⊢
  have HC := Lib.hid hc
  have HN := Lib.hid hn
  clear hc hv hn
  go_enter Tryz.func220, Tryz.ntmps220
  go_wp2_with fail
  go_loopw [3, 4] (fun u3 u4 wr => ∃ (k : Nat) (s : List Int), k ≤ n ∧ u4 = .int .i64 k ∧ SortAt w wr u3 (l.take k) s ∧ Ext w wr) (fun _ u4 _ => n - (intOf u4).toNat)
  case atStart => exact ⟨0, [], Nat.zero_le _, rfl, ⟨own_empty _ _, ⟨_, _, rfl⟩, by rw [List.take_zero], List.Pairwise.nil⟩, Ext.alloc' _ _⟩
  case round =>
    obtain ⟨k, s, hk, rfl, hS, hE⟩ := hrel
    have hsE := hE.size
    have hlen : s.length = k := by have := hS.perm.length_eq; rw [List.length_take, HN.out] at this; omega
    obtain ⟨sg, scap, rfl⟩ := hS.sl
    obtain ⟨_, hcap, hsg, hcell⟩ := own_cells1 hS.row
    have hsb := own_blk hS.row (k := sg) rfl
    have HS := Lib.hid hS
    have HCELL := Lib.hid hcell
    have HLEN := Lib.hid hlen
    rw [hlen]
    rw [hlen] at hcap
    clear hS hcell
    by_cases hlt : k < n
    · have dd := ((bcell hE).1 _ _ hg).trans (HC.out k hlt)
      have ld : vg < wr.heap.size := Nat.lt_of_lt_of_le hg hsE
      have hts : l.take (k + 1) = l.take k ++ [l.getD k 0] := by
        rw [List.take_succ_eq_append_getElem (by rw [HN.out]; exact hlt)]
        simp [show k < l.length by rw [HN.out]; exact hlt]
      have HTS := Lib.hid hts
      clear hts
      generalize l.getD k 0 = x at *
      rw [hlen] at HCELL
      clear hlen
      go_wp2_with fail
      rename World => w5
      go_loopw [5] (fun u5 wr => ∃ a : Nat, a ≤ k ∧ u5 = .int .i64 a ∧ (∀ j, a ≤ j → j < k → x < s.getD j 0) ∧ Ext w5 wr) (fun u5 _ => (intOf u5).toNat)
      case atStart => exact ⟨k, Nat.le_refl _, rfl, fun j h1 h2 => by omega, Ext.refl _⟩
      case round =>
        obtain ⟨a, ha, rfl, hgt, hE5⟩ := hrel
        have HGT := Lib.hid hgt
        have hsg' : sg < wr.heap.size := Nat.lt_of_lt_of_le hsg hE5.size
        have dd' := ((bcell hE5).1 _ _ ld).trans dd
        have ld' : vg < wr.heap.size := Nat.lt_of_lt_of_le ld hE5.size
        clear hgt
        by_cases hgo : 0 < a ∧ x < s.getD (a - 1) 0
        · obtain ⟨ha0, hax⟩ := hgo
          have da := ((bcell hE5).1 _ _ hsg).trans (HCELL.out (a - 1) (by omega))
          have HAX := Lib.hid hax
          obtain ⟨b, rfl⟩ : ∃ b, a = b + 1 := ⟨a - 1, by omega⟩
          rw [Nat.add_sub_cancel] at da HAX hax
          have hax' := hax
          generalize s.getD b 0 = y at da hax'
          clear hax dd
          go_wp2_with fail
          go_region
          go_wp2_with fail
          go_roundw
          case rel =>
            refine ⟨b, by omega, by go_num, fun j h1 h2 => ?_, hE5.drewR⟩
            by_cases e : j = b
            · rw [e]; exact HAX.out
            · exact HGT.out j (by omega) h2
          case measure => simp [intOf]
        · have hstop : a = 0 ∨ s.getD (a - 1) 0 ≤ x := by
            by_cases h : a = 0
            · exact .inl h
            · exact .inr (by have := fun h2 => hgo ⟨by omega, h2⟩; omega)
          have HST := Lib.hid hstop
          have HLE := Lib.hid (ins_sorted (x := x) HS.out.ord (a := a) (by rw [HLEN.out]; exact ha) hstop (fun j h1 h2 => HGT.out j h1 (by rw [← HLEN.out]; exact h2)))
          clear hgo hstop
          go_upto_region 6 with (fail)
          go_cut [29] (fun s29 wx => s29 = .bool false ∧ Ext wr wx)
          case first =>
            clear dd
            by_cases ha0 : a = 0
            · subst ha0
              go_wp2_with fail
              go_region
              go_wp2_with fail
              go_meet
              exact ⟨rfl, (Ext.refl _).drewR⟩
            · have hal : s.getD (a - 1) 0 ≤ x := HST.out.resolve_left ha0
              have da := ((bcell hE5).1 _ _ hsg).trans (HCELL.out (a - 1) (by omega))
              obtain ⟨b, rfl⟩ : ∃ b, a = b + 1 := ⟨a - 1, by omega⟩
              rw [Nat.add_sub_cancel] at da hal
              generalize s.getD b 0 = y at da hal
              have hb2 : decide (x < y) = false := by simp; omega
              clear ha0
              go_wp2_with fail
              go_region
              go_wp2_with fail
              go_meet
              exact ⟨by first | rfl | exact congrArg Value.bool (decide_eq_false (by omega)), (Ext.refl _).drewR⟩
          case rest =>
            obtain ⟨rfl, hx7⟩ := hcut
            rename World => w7
            have hE7 := hE5.trans' hx7
            have hsrc1 : Src w7 (some ⟨sg, a, none⟩) (s.drop a) := .inr ⟨sg, a, rfl, Nat.lt_of_lt_of_le hsg hE7.size, fun j hj => by
              rw [List.length_drop, HLEN.out] at hj
              rw [(bcell hE7).1 _ _ hsg, HCELL.out (a + j) (by omega)]
              simp [List.getElem?_drop]⟩
            have hsrc0 : Src w7 (some ⟨sg, 0, none⟩) (s.take a) := .inr ⟨sg, 0, rfl, Nat.lt_of_lt_of_le hsg hE7.size, fun j hj => by
              rw [List.length_take, HLEN.out] at hj
              rw [(bcell hE7).1 _ _ hsg, Nat.zero_add, HCELL.out j (by omega)]
              simp [List.getElem?_take_of_lt (show j < a by omega)]⟩
            have hld : (s.drop a).length = k - a := by rw [List.length_drop, HLEN.out]
            have hlt' : (s.take a).length = a := by rw [List.length_take, HLEN.out]; omega
            have HSRC1 := Lib.hid hsrc1
            have HSRC0 := Lib.hid hsrc0
            have HLD := Lib.hid hld
            have HLT := Lib.hid hlt'
            have dd7 := ((bcell hE7).1 _ _ ld).trans dd
            have ld7 : vg < w7.heap.size := Nat.lt_of_lt_of_le ld hE7.size
            have hE07 : Ext w w7 := hE.trans' hE7
            clear hsrc1 hsrc0 hld hlt' dd dd' ld ld' hE5 hx7 hsg' hE7 hsg
            go_upto_region 8 with (fail)
            go_cut [6] (fun s6 wx => ∃ (rg rc : Nat), s6 = .slice (some ⟨rg, 0, none⟩) (k - a) rc ∧ wx.ownsRow w7.heap.size 2 1 s6 (s.drop a).length (ints (s.drop a)) ∧ Ext w7 wx)
            case first =>
              have hE1 : Ext w7 (w7.alloc (.cells #[] 2)) := Ext.alloc' _ _
              have hown : (w7.alloc (.cells #[] 2)).ownsRow w7.heap.size 2 1 (.slice (some ⟨w7.heap.size, 0, none⟩) 0 0) ([] : List Int).length (ints []) := own_empty w7 _
              have hle : a ≤ scap := by omega
              by_cases hca : scap = a
              · subst hca
                have hd0 : s.drop scap = [] := List.drop_eq_nil_of_le (by rw [HLEN.out]; omega)
                have HD0 := Lib.hid hd0
                clear hd0 HSRC1 HSRC0 HLT HLE HST HGT
                go_wp2_with (at_builtin; go_loud (refine wpList_appS (w7.alloc (.cells #[] 2)) (s.drop scap) [] _ w7.heap.size 2 hown 43 rfl _ _ rfl info_i64 Tryz.underlying43 (by rfl) _ _ _ (by rfl) (by rw [HLD.out]; omega) (.inl HD0.out) ?a1 ?a2 ?_))
                case a1 => show 0 + 0 ≤ _; omega
                case a2 => exact hE1.size
                intro v' w' gg
                have hx := gg.ext w7 hE1 (Nat.le_refl _)
                obtain ⟨rg, rc, rfl⟩ := gg.sl ⟨_, _, rfl⟩
                have G1 := Lib.hid gg.row
                have HX := Lib.hid hx
                clear gg hx hown hE1
                go_wp2
                go_meet
                exact ⟨rg, rc, by first | rfl | (rw [List.nil_append, HLD.out]), by have := G1.out; rw [List.nil_append] at this; exact this, HX.out⟩
              · clear HSRC0 HLT HLE HST HGT
                have hs1 := HSRC1.out.ext hE1
                have HS1 := Lib.hid hs1
                clear hs1 HSRC1
                go_wp2_with (at_builtin; go_loud (refine wpList_appS (w7.alloc (.cells #[] 2)) (s.drop a) [] _ w7.heap.size 2 hown 43 rfl _ _ rfl info_i64 Tryz.underlying43 (by rfl) _ (k - a) _ (by rfl) HLD.out.symm HS1.out ?a1 ?a2 ?_))
                case a1 => show 0 + (k - a) ≤ _; omega
                case a2 => exact hE1.size
                intro v' w' gg
                have hx := gg.ext w7 hE1 (Nat.le_refl _)
                obtain ⟨rg, rc, rfl⟩ := gg.sl ⟨_, _, rfl⟩
                have G1 := Lib.hid gg.row
                have HX := Lib.hid hx
                clear gg hx hown hE1
                go_wp2
                go_meet
                exact ⟨rg, rc, by first | rfl | (rw [List.nil_append, HLD.out]), by have := G1.out; rw [List.nil_append] at this; exact this, HX.out⟩
            case rest =>
              obtain ⟨rg, rc, rfl, ho8, hx8⟩ := hcut
              rename World => w8
              have hb8 := own_blk ho8 (k := rg) rfl
              have hl8 := own_lt ho8 (k := rg) rfl
              have dd8 := ((bcell hx8).1 _ _ ld7).trans dd7
              have ld8 : vg < w8.heap.size := Nat.lt_of_lt_of_le ld7 hx8.size
              have HA := Lib.hid (HSRC0.out.ext hx8)
              have hsrcR : Src w8 (some ⟨rg, 0, none⟩) (s.drop a) := .inr ⟨rg, 0, rfl, hl8, fun j hj => by rw [Nat.zero_add]; have := own_cells1 (by rw [HLD.out] at ho8; rw [← HLD.out] at ho8; exact ho8); exact this.2.2.2 j hj⟩
              have HR := Lib.hid hsrcR
              have hE08 := hE07.trans' hx8
              obtain ⟨TA, hTA⟩ : ∃ TA, s.take a = TA := ⟨_, rfl⟩
              obtain ⟨DR, hDR⟩ : ∃ DR, s.drop a = DR := ⟨_, rfl⟩
              rw [hTA] at HA HLT HLE
              rw [hDR] at HR HLD HLE
              clear hTA hDR
              clear ho8 hsrcR HSRC0 HSRC1 dd7 ld7 hb8 hl8 hx8 hE07
              go_wp2_with fail
              have hC0 := af_drew w8
              refine pi_start (fun w' => ∃ x : After w8, w' = x.w) [] (by kernel_rfl) ?_
              refine pi_t 1 rfl (by kernel_rfl) (by kernel_rfl) (fun _ _ _ _ h => h) (fun K hK => ?_)
              go_big_quiet_op
              refine hK _ ?_
              clear hK K
              refine pi_t 2 rfl (by kernel_rfl) (by kernel_rfl) (fun _ _ _ _ h => h) (fun K hK => ?_)
              go_big_quiet_op
              refine hK _ ?_
              clear hK K
              refine pi_t 3 rfl (by kernel_rfl) (by kernel_rfl) (fun _ _ _ _ h => h) (fun K hK => ?_)
              go_big_quiet_op
              refine hK _ ?_
              clear hK K
              refine pi_t 5 rfl (by kernel_rfl) (by kernel_rfl) (fun _ _ _ _ h => h) (fun K hK => ?_)
              go_big_quiet_op
              refine hK _ ?_
              clear hK K
              refine pi_t 6 rfl (by kernel_rfl) (by kernel_rfl) (fun _ _ _ _ h => h) (fun K hK => ?_)
              go_big_quiet_op
              refine hK _ ?_
              clear hK K
              refine pi_t 7 rfl (by kernel_rfl) (by kernel_rfl) (fun _ _ _ _ h => h) (fun K hK => ?_)
              go_big_quiet_op
              refine hK _ ?_
              clear hK K
              refine pi_t 11 rfl (by kernel_rfl) (by kernel_rfl) (fun _ _ _ _ h => h) (fun K hK => ?_)
              go_big_quiet_op
              refine hK _ ?_
              clear hK K
              refine pi_c 8 (by assumption) rfl (by kernel_rfl) (by kernel_rfl) (fun _ _ _ _ h => h) (fun K hK => ?_)
              go_big_quiet_op
              refine hK _ ?_
              clear hK K
              refine pi_b 0 9 rfl rfl (by kernel_rfl) (fun K hK => ?_) (fun K hK => ?_)
              · go_wp2
                refine hK _ _ (fun _ h => af_step h (Ext.alloc' _ _)) ?_
                clear hK K
                have hEa : Ext w8 (w8.alloc (.cells #[] 2)).drew := ((Ext.refl w8).allocR _).drewR
                have hra : (w8.alloc (.cells #[] 2)).drew.ownsRow w8.heap.size 2 1 (.slice (some ⟨w8.heap.size, 0, none⟩) 0 0) ([] : List Int).length (ints []) := own_drew (own_empty w8 2)
                have hsa : w8.heap.size < (w8.alloc (.cells #[] 2)).drew.heap.size := by show w8.heap.size < (w8.alloc _).heap.size; rw [size_alloc]; exact Nat.lt_succ_self _
                generalize (w8.alloc (.cells #[] 2)).drew = WA at *
                have RA := Lib.hid hra
                clear hra
                refine pi_b 4 9 rfl rfl (by kernel_rfl) (fun K hK => ?_) (fun K hK => ?_)
                · go_wp2_with (at_builtin; refine wpList_appS WA TA [] _ w8.heap.size 2 RA.out 43 rfl _ _ rfl info_i64 Tryz.underlying43 (by rfl) _ _ _ (by rfl) HLT.out.symm (HA.out.ext hEa) ?a1 ?a2 ?_)
                  case a1 => first | (show 0 + a ≤ _; omega) | (have hh := HL2.out; omega) | (have hh := HL1.out; omega) | (have hh := HL2.out; simp only [List.length_singleton]; omega) | (have hh := HL1.out; simp only [List.length_singleton]; omega)
                  case a2 => exact hEa.size
                  intro v1 WB gg
                  have hE1 : Ext w8 WB := gg.ext w8 hEa (Nat.le_refl _)
                  have rr := gg.row
                  have ss := gg.sl ⟨_, _, rfl⟩
                  generalize hT : [] ++ TA = T1 at rr ss
                  obtain ⟨g1, c1, rfl⟩ := ss
                  have R1 := Lib.hid rr
                  have hl : T1.length = a := by rw [← hT, List.nil_append]; exact HLT.out
                  have HL1 := Lib.hid hl
                  have HT1 := Lib.hid hT
                  clear hl hT rr
                  clear gg
                  go_wp2
                  refine hK _ _ (fun _ _ => ⟨⟨WB, hE1⟩, rfl⟩) ?_
                  clear hK K
                  refine pi_l 9 rfl (by kernel_rfl) (fun K hK => ?_)
                  go_wp2
                  refine hK _ _ (fun _ h => af_step h (Ext.alloc' _ _)) ?_
                  clear hK K
                  have hs2 : Src (WB.alloc (.cells #[.int .i64 x] 2)) (some ⟨WB.heap.size, 0, none⟩) [x] := src_one WB x
                  have hE2 : Ext w8 (WB.alloc (.cells #[.int .i64 x] 2)) := hE1.allocR _
                  have R2 := Lib.hid (own_ext R1.out (Ext.alloc' WB (.cells #[.int .i64 x] 2)))
                  generalize WB.heap.size = lb at *
                  generalize WB.alloc (.cells #[.int .i64 x] 2) = WC at *
                  clear R1
                  refine pi_l 10 rfl (by kernel_rfl) (fun K hK => ?_)
                  go_wp2_with (at_builtin; refine wpList_appS WC [x] T1 _ w8.heap.size 2 R2.out 43 rfl _ _ rfl info_i64 Tryz.underlying43 (by rfl) _ _ _ (by rfl) rfl hs2 ?a1 ?a2 ?_)
                  case a1 => first | (show 0 + a ≤ _; omega) | (have hh := HL2.out; omega) | (have hh := HL1.out; omega) | (have hh := HL2.out; simp only [List.length_singleton]; omega) | (have hh := HL1.out; simp only [List.length_singleton]; omega)
                  case a2 => exact hE2.size
                  intro v8 WY gg
                  have hE8 : Ext w8 WY := gg.ext w8 hE2 (Nat.le_refl _)
                  have rr := gg.row
                  have ss := gg.sl ⟨_, _, rfl⟩
                  generalize hT : T1 ++ [x] = T2 at rr ss
                  obtain ⟨g8, c8, rfl⟩ := ss
                  have R8 := Lib.hid rr
                  have hl : T2.length = a + 1 := by rw [← hT, List.length_append, HL1.out]; rfl
                  have HL2 := Lib.hid hl
                  have HT2 := Lib.hid hT
                  clear hl hT rr
                  clear gg
                  go_wp2
                  refine hK _ _ (fun _ _ => ⟨⟨WY, hE8⟩, rfl⟩) ?_
                  clear hK K
                  refine pi_l 12 rfl (by kernel_rfl) (fun K hK => ?_)
                  go_wp2_with (at_builtin; refine wpList_appS WY DR T2 _ w8.heap.size 2 R8.out 43 rfl _ _ rfl info_i64 Tryz.underlying43 (by rfl) _ _ _ (by rfl) HLD.out.symm (HR.out.ext hE8) ?a1 ?a2 ?_)
                  case a1 => first | (show 0 + a ≤ _; omega) | (have hh := HL2.out; omega) | (have hh := HL1.out; omega) | (have hh := HL2.out; simp only [List.length_singleton]; omega) | (have hh := HL1.out; simp only [List.length_singleton]; omega)
                  case a2 => exact hE8.size
                  intro v9 WZ gg
                  have hE9 : Ext w8 WZ := gg.ext w8 hE8 (Nat.le_refl _)
                  have rr := gg.row
                  have ss := gg.sl ⟨_, _, rfl⟩
                  generalize hT : T2 ++ DR = T3 at rr ss
                  obtain ⟨g9, c9, rfl⟩ := ss
                  have R9 := Lib.hid rr
                  have HT3 := Lib.hid hT
                  clear hT rr
                  clear gg
                  go_wp2
                  refine hK _ _ (fun _ _ => ⟨⟨WZ, hE9⟩, rfl⟩) ?_
                  clear hK K
                  refine pi_t 13 rfl (by kernel_rfl) (by kernel_rfl) (fun _ _ _ _ h => h) (fun K hK => ?_)
                  go_big_quiet_op
                  refine hK _ ?_
                  clear hK K
                  refine pi_end (by kernel_rfl) ?_
                  go_wp2
                  have hfin := Lib.hid (sort_fin (w := w) R9.out (by rw [← HT3.out, ← HT2.out, ← HT1.out, List.nil_append]) HLE.out.1 HLE.out.2 HS.out.perm HTS.out hE08.size)
                  have hEf := hE08.trans' hE9
                  go_roundw
                  case rel => exact ⟨k + 1, _, by omega, by go_num, hfin.out, hEf⟩
                  case measure => simp [intOf]; omega
                · go_wp2
                  refine hK _ _ (fun _ h => af_step h (Ext.alloc' _ _)) ?_
                  clear hK K
                  have hsX : Src (WA.alloc (.cells #[.int .i64 x] 2)) (some ⟨WA.heap.size, 0, none⟩) [x] := src_one WA x
                  have hEx : Ext w8 (WA.alloc (.cells #[.int .i64 x] 2)) := hEa.allocR _
                  have RX := Lib.hid (own_ext RA.out (Ext.alloc' WA (.cells #[.int .i64 x] 2)))
                  have hlb : WA.heap.size < (WA.alloc (.cells #[.int .i64 x] 2)).heap.size := by rw [size_alloc]; exact Nat.lt_succ_self _
                  generalize WA.heap.size = lb at *
                  generalize WA.alloc (.cells #[.int .i64 x] 2) = WX at *
                  clear RA
                  refine pi_l 4 rfl (by kernel_rfl) (fun K hK => ?_)
                  go_wp2_with (at_builtin; refine wpList_appS WX TA [] _ w8.heap.size 2 RX.out 43 rfl _ _ rfl info_i64 Tryz.underlying43 (by rfl) _ _ _ (by rfl) HLT.out.symm (HA.out.ext hEx) ?a1 ?a2 ?_)
                  case a1 => first | (show 0 + a ≤ _; omega) | (have hh := HL2.out; omega) | (have hh := HL1.out; omega) | (have hh := HL2.out; simp only [List.length_singleton]; omega) | (have hh := HL1.out; simp only [List.length_singleton]; omega)
                  case a2 => exact hEx.size
                  intro v1 WC gg
                  have hE1 : Ext w8 WC := gg.ext w8 hEx (Nat.le_refl _)
                  have rr := gg.row
                  have ss := gg.sl ⟨_, _, rfl⟩
                  generalize hT : [] ++ TA = T1 at rr ss
                  obtain ⟨g1, c1, rfl⟩ := ss
                  have R1 := Lib.hid rr
                  have hl : T1.length = a := by rw [← hT, List.nil_append]; exact HLT.out
                  have HL1 := Lib.hid hl
                  have HT1 := Lib.hid hT
                  clear hl hT rr
                  have hs2 : Src WC (some ⟨lb, 0, none⟩) [x] := hsX.keepB (gg.keep lb hlb (fun e => by have e' : some w8.heap.size = some lb := e; have := Option.some.inj e'; omega)) gg.size
                  clear gg
                  go_wp2
                  refine hK _ _ (fun _ _ => ⟨⟨WC, hE1⟩, rfl⟩) ?_
                  clear hK K
                  refine pi_l 10 rfl (by kernel_rfl) (fun K hK => ?_)
                  go_wp2_with (at_builtin; refine wpList_appS WC [x] T1 _ w8.heap.size 2 R1.out 43 rfl _ _ rfl info_i64 Tryz.underlying43 (by rfl) _ _ _ (by rfl) rfl hs2 ?a1 ?a2 ?_)
                  case a1 => first | (show 0 + a ≤ _; omega) | (have hh := HL2.out; omega) | (have hh := HL1.out; omega) | (have hh := HL2.out; simp only [List.length_singleton]; omega) | (have hh := HL1.out; simp only [List.length_singleton]; omega)
                  case a2 => exact hE1.size
                  intro v8 WY gg
                  have hE8 : Ext w8 WY := gg.ext w8 hE1 (Nat.le_refl _)
                  have rr := gg.row
                  have ss := gg.sl ⟨_, _, rfl⟩
                  generalize hT : T1 ++ [x] = T2 at rr ss
                  obtain ⟨g8, c8, rfl⟩ := ss
                  have R8 := Lib.hid rr
                  have hl : T2.length = a + 1 := by rw [← hT, List.length_append, HL1.out]; rfl
                  have HL2 := Lib.hid hl
                  have HT2 := Lib.hid hT
                  clear hl hT rr
                  clear gg
                  go_wp2
                  refine hK _ _ (fun _ _ => ⟨⟨WY, hE8⟩, rfl⟩) ?_
                  clear hK K
                  refine pi_l 12 rfl (by kernel_rfl) (fun K hK => ?_)
                  go_wp2_with (at_builtin; refine wpList_appS WY DR T2 _ w8.heap.size 2 R8.out 43 rfl _ _ rfl info_i64 Tryz.underlying43 (by rfl) _ _ _ (by rfl) HLD.out.symm (HR.out.ext hE8) ?a1 ?a2 ?_)
                  case a1 => first | (show 0 + a ≤ _; omega) | (have hh := HL2.out; omega) | (have hh := HL1.out; omega) | (have hh := HL2.out; simp only [List.length_singleton]; omega) | (have hh := HL1.out; simp only [List.length_singleton]; omega)
                  case a2 => exact hE8.size
                  intro v9 WZ gg
                  have hE9 : Ext w8 WZ := gg.ext w8 hE8 (Nat.le_refl _)
                  have rr := gg.row
                  have ss := gg.sl ⟨_, _, rfl⟩
                  generalize hT : T2 ++ DR = T3 at rr ss
                  obtain ⟨g9, c9, rfl⟩ := ss
                  have R9 := Lib.hid rr
                  have HT3 := Lib.hid hT
                  clear hT rr
                  clear gg
                  go_wp2
                  refine hK _ _ (fun _ _ => ⟨⟨WZ, hE9⟩, rfl⟩) ?_
                  clear hK K
                  refine pi_t 13 rfl (by kernel_rfl) (by kernel_rfl) (fun _ _ _ _ h => h) (fun K hK => ?_)
                  go_big_quiet_op
                  refine hK _ ?_
                  clear hK K
                  refine pi_end (by kernel_rfl) ?_
                  go_wp2
                  have hfin := Lib.hid (sort_fin (w := w) R9.out (by rw [← HT3.out, ← HT2.out, ← HT1.out, List.nil_append]) HLE.out.1 HLE.out.2 HS.out.perm HTS.out hE08.size)
                  have hEf := hE08.trans' hE9
                  go_roundw
                  case rel => exact ⟨k + 1, _, by omega, by go_num, hfin.out, hEf⟩
                  case measure => simp [intOf]; omega
              · go_wp2
                refine hK _ _ (fun _ h => af_step h (Ext.alloc' _ _)) ?_
                clear hK K
                have hsX : Src (w8.alloc (.cells #[.int .i64 x] 2)).drew (some ⟨w8.heap.size, 0, none⟩) [x] := src_one w8 x
                have h80 : Ext w8 (w8.alloc (.cells #[.int .i64 x] 2)).drew := ((Ext.refl w8).allocR _).drewR
                obtain ⟨WX, hWX⟩ : ∃ WX, (w8.alloc (.cells #[.int .i64 x] 2)).drew = WX := ⟨_, rfl⟩
                rw [hWX] at hsX h80 ⊢
                clear hWX
                refine pi_l 0 rfl (by kernel_rfl) (fun K hK => ?_)
                go_wp2
                refine hK _ _ (fun _ h => af_step h (Ext.alloc' _ _)) ?_
                clear hK K
                have hEa : Ext WX (WX.alloc (.cells #[] 2)) := Ext.alloc' _ _
                have hra : (WX.alloc (.cells #[] 2)).ownsRow WX.heap.size 2 1 (.slice (some ⟨WX.heap.size, 0, none⟩) 0 0) ([] : List Int).length (ints []) := own_empty WX 2
                have RA := Lib.hid hra
                generalize WX.alloc (.cells #[] 2) = WA at *
                clear hra
                refine pi_l 4 rfl (by kernel_rfl) (fun K hK => ?_)
                go_wp2_with (at_builtin; refine wpList_appS WA TA [] _ WX.heap.size 2 RA.out 43 rfl _ _ rfl info_i64 Tryz.underlying43 (by rfl) _ _ _ (by rfl) HLT.out.symm (HA.out.ext (h80.trans' hEa)) ?a1 ?a2 ?_)
                case a1 => first | (show 0 + a ≤ _; omega) | (have hh := HL2.out; omega) | (have hh := HL1.out; omega) | (have hh := HL2.out; simp only [List.length_singleton]; omega) | (have hh := HL1.out; simp only [List.length_singleton]; omega)
                case a2 => exact hEa.size
                intro v1 WC gg
                have hE1 : Ext WX WC := gg.ext WX hEa (Nat.le_refl _)
                have rr := gg.row
                have ss := gg.sl ⟨_, _, rfl⟩
                generalize hT : [] ++ TA = T1 at rr ss
                obtain ⟨g1, c1, rfl⟩ := ss
                have R1 := Lib.hid rr
                have hl : T1.length = a := by rw [← hT, List.nil_append]; exact HLT.out
                have HL1 := Lib.hid hl
                have HT1 := Lib.hid hT
                clear hl hT rr
                clear gg
                go_wp2
                refine hK _ _ (fun _ _ => ⟨⟨WC, h80.trans' hE1⟩, rfl⟩) ?_
                clear hK K
                refine pi_l 10 rfl (by kernel_rfl) (fun K hK => ?_)
                go_wp2_with (at_builtin; refine wpList_appS WC [x] T1 _ WX.heap.size 2 R1.out 43 rfl _ _ rfl info_i64 Tryz.underlying43 (by rfl) _ _ _ (by rfl) rfl (hsX.ext hE1) ?a1 ?a2 ?_)
                case a1 => first | (show 0 + a ≤ _; omega) | (have hh := HL2.out; omega) | (have hh := HL1.out; omega) | (have hh := HL2.out; simp only [List.length_singleton]; omega) | (have hh := HL1.out; simp only [List.length_singleton]; omega)
                case a2 => exact hE1.size
                intro v8 WY gg
                have hE8 : Ext WX WY := gg.ext WX hE1 (Nat.le_refl _)
                have rr := gg.row
                have ss := gg.sl ⟨_, _, rfl⟩
                generalize hT : T1 ++ [x] = T2 at rr ss
                obtain ⟨g8, c8, rfl⟩ := ss
                have R8 := Lib.hid rr
                have hl : T2.length = a + 1 := by rw [← hT, List.length_append, HL1.out]; rfl
                have HL2 := Lib.hid hl
                have HT2 := Lib.hid hT
                clear hl hT rr
                clear gg
                go_wp2
                refine hK _ _ (fun _ _ => ⟨⟨WY, h80.trans' hE8⟩, rfl⟩) ?_
                clear hK K
                refine pi_l 12 rfl (by kernel_rfl) (fun K hK => ?_)
                go_wp2_with (at_builtin; refine wpList_appS WY DR T2 _ WX.heap.size 2 R8.out 43 rfl _ _ rfl info_i64 Tryz.underlying43 (by rfl) _ _ _ (by rfl) HLD.out.symm (HR.out.ext (h80.trans' hE8)) ?a1 ?a2 ?_)
                case a1 => first | (show 0 + a ≤ _; omega) | (have hh := HL2.out; omega) | (have hh := HL1.out; omega) | (have hh := HL2.out; simp only [List.length_singleton]; omega) | (have hh := HL1.out; simp only [List.length_singleton]; omega)
                case a2 => exact hE8.size
                intro v9 WZ gg
                have hE9 : Ext WX WZ := gg.ext WX hE8 (Nat.le_refl _)
                have rr := gg.row
                have ss := gg.sl ⟨_, _, rfl⟩
                generalize hT : T2 ++ DR = T3 at rr ss
                obtain ⟨g9, c9, rfl⟩ := ss
                have R9 := Lib.hid rr
                have HT3 := Lib.hid hT
                clear hT rr
                clear gg
                go_wp2
                refine hK _ _ (fun _ _ => ⟨⟨WZ, h80.trans' hE9⟩, rfl⟩) ?_
                clear hK K
                refine pi_t 13 rfl (by kernel_rfl) (by kernel_rfl) (fun _ _ _ _ h => h) (fun K hK => ?_)
                go_big_quiet_op
                refine hK _ ?_
                clear hK K
                refine pi_end (by kernel_rfl) ?_
                go_wp2
                have hfin := Lib.hid (sort_fin (w := w) R9.out (by rw [← HT3.out, ← HT2.out, ← HT1.out, List.nil_append]) HLE.out.1 HLE.out.2 HS.out.perm HTS.out (Nat.le_trans hE08.size h80.size))
                have hEf := hE08.trans' (h80.trans' hE9)
                go_roundw
                case rel => exact ⟨k + 1, _, by omega, by go_num, hfin.out, hEf⟩
                case measure => simp [intOf]; omega
    · obtain rfl : k = n := by omega
      rw [List.take_of_length_le (by rw [HN.out]; exact Nat.le_refl _)] at HS
      rw [HLEN.out] at HS
      go_wp2
      go_ret
      exact ⟨_, s, rfl, HS.out, hE⟩
set_option maxRecDepth 20000 in
set_option maxHeartbeats 4000000 in
theorem RMedian_c (l : List Int) (v : Value) (w : World) (hv : IntsAt w v l) (h0 : 0 < l.length) (h1 : l.length ≤ 1000) :
    Calls Tryz.prog 195 #[v] w fun e w' => ∃ x, e = .returned (.tuple #[.int .i64 x, .bool true]) ∧ IsKth l ((l.length - 1) / 2) x ∧ Ext w w' := by
  have HS := Lib.hid (RSorted_c l v w hv h0 h1)
  obtain ⟨vg, vo, vc, rfl, hg, hc⟩ := hv.slice h0
  obtain ⟨n, hn⟩ : ∃ n, l.length = n := ⟨_, rfl⟩
  rw [hn] at h0 h1 HS ⊢
  have HN := Lib.hid hn
  have hz : ((n : Int) == 0) = false := by simp; omega
  have hq : ((n : Int) - 1).tdiv 2 = (((n - 1) / 2 : Nat) : Int) := by rw [Int.tdiv_eq_ediv_of_nonneg (by omega)]; omega
  have hq2 : (n - 1) / 2 < n := by omega
  obtain ⟨m, hm⟩ : ∃ m, (n - 1) / 2 = m := ⟨_, rfl⟩
  rw [hm] at hq hq2 ⊢
  clear hc hv hn hm
  go_enter Tryz.func195, Tryz.ntmps195
  go_wp2_with fail
  refine Calls.mono HS.out ?_
  rintro e w1 ⟨u, s, rfl, hS, hx1⟩
  have hlen : s.length = n := by rw [hS.perm.length_eq]; exact HN.out
  obtain ⟨sg, scap, rfl⟩ := hS.sl
  obtain ⟨_, _, hsg, hcell⟩ := own_cells1 hS.row
  rw [hlen] at hcell ⊢
  have dm := hcell m hq2
  have hk := kth_perm hS.perm (kth_sorted m (by rw [hlen]; exact hq2) hS.ord)
  have e1 : s.getD m 0 = s[m]'(by rw [hlen]; exact hq2) := by simp [hlen, hq2]
  rw [← e1] at hk
  generalize s.getD m 0 = x at *
  have HK := Lib.hid hk
  have hmz : (m : Int) < (n : Int) := by omega
  clear hS hcell hk e1 hlen HS
  go_wp2
  go_ret2
  exact ⟨x, rfl, HK.out, hx1⟩
set_option maxRecDepth 20000 in
set_option maxHeartbeats 4000000 in
theorem RMiddle_c (G : Gr) (R W : Nat) (l cs : List Int) (v : Value) (w : World) (h : RGAt w G R W l) (hv : IntsAt w v cs) (hm : Meets R W cs) :
    Calls Tryz.prog 157 #[.pointer (some ⟨G.g, 0, none⟩), v] w fun e w' => ∃ x, e = .returned (.tuple #[.int .i64 x, .int .i64 0]) ∧ IsKth (readL W l cs) ((R - 1) / 2) x ∧ Ext w w' := by
  have r1 := h.r1
  have r2 := h.r2
  have hlen : (readL W l cs).length = R := by rw [readL_len, hm.len]
  have HLEN := Lib.hid hlen
  have hrl : cs.length = R := hm.len
  have HRL := Lib.hid hrl
  clear hlen hrl
  go_enter Tryz.func157, Tryz.ntmps157
  go_wp2_with fail
  refine Calls.mono (RRead_c G R W l cs v _ h hv hm) ?_
  rintro e w1 ⟨u, rfl, ho, hx1⟩
  rw [HRL.out] at ho
  have hi := IntsAt.of_row ho
  go_wp2_with fail
  refine Calls.mono (RMedian_c _ u _ hi (by have := HLEN.out; omega) (by have := HLEN.out; omega)) ?_
  rintro e w2 ⟨x, rfl, hk, hx2⟩
  rw [HLEN.out] at hk
  have HK := Lib.hid hk
  clear hk
  go_wp2_with fail
  go_ret2
  exact ⟨x, rfl, HK.out, hx1.trans' hx2⟩
end Go.Proofs.YtfhdjekpdifajaaGreat
namespace Go.Proofs.YtfhdjekpdifajaaGreat
set_option linter.unusedVariables false
open Go.RowKit
theorem Mod.drewR {S : Nat → Prop} {a b : World} (h : Mod S a b) : Mod S a b.drew := h.trans (Ext.mod S (Below.drew (Ext.refl b)))
def RChangePost (w : World) (G : Gr) (R W : Nat) (cs l : List Int) (d : Int) (e : Ending) (w' : World) : Prop :=
  (fitsAll W cs l d R ∧ e = .returned (.int .i64 0) ∧ RGAt w' G R W (putK W cs (fun k => l.getD (at_ W cs k) 0 + d) R l) ∧ Mod (G.foot R) w w') ∨
  (¬ fitsAll W cs l d R ∧ e = .returned (.int .i64 4) ∧ Ext w w')
theorem map_snoc (f : Nat → Int) (k : Nat) : (List.range (k + 1)).map f = (List.range k).map f ++ [f k] := by rw [List.range_succ, List.map_append]; rfl
set_option maxRecDepth 20000 in
set_option maxHeartbeats 8000000 in
theorem RChange_c (G : Gr) (R W : Nat) (l cs : List Int) (v : Value) (d : Int) (w : World) (h : RGAt w G R W l) (hI : ∀ x ∈ l, I64 x) (hd : I64 d) (hv : IntsAt w v cs) (hm : Meets R W cs)
    (hne : ∀ g off n cap, v = .slice (some ⟨g, off, none⟩) n cap → ¬ G.foot R g) :
    Calls Tryz.prog 161 #[.pointer (some ⟨G.g, 0, none⟩), v, .int .i64 d] w (RChangePost w G R W cs l d) := by
  have r1 := h.r1
  have r2 := h.r2
  have hml := hm.len
  obtain ⟨vg, vo, vc, rfl, hg, hc⟩ := hv.slice (by rw [hm.len]; omega)
  have hgc := hne _ _ _ _ rfl
  rw [hml] at hc hv ⊢
  have HL := Lib.hid hml
  have HC := Lib.hid hc
  have HV := Lib.hid hv
  have HH := Lib.hid h
  have HM := Lib.hid hm
  have HI := Lib.hid hI
  have HD := Lib.hid hd
  have HGC := Lib.hid hgc
  clear hc hv h hm hml hI hne hd hgc
  obtain ⟨f, hf⟩ : ∃ f : Nat → Int, f = fun k => l.getD (at_ W cs k) 0 + d := ⟨_, rfl⟩
  have hfk : ∀ k, l.getD (at_ W cs k) 0 + d = f k := fun k => by rw [hf]
  have HFK := Lib.hid hfk
  unfold RChangePost
  rw [← hf]
  clear hf hfk
  go_enter Tryz.func161, Tryz.ntmps161
  go_wp2_with fail
  refine Calls.mono (RMeet_c G R W l cs _ _ HH.out HV.out HM.out) ?_
  rintro e w1 ⟨rfl, hx1⟩
  go_wp2_with fail
  go_loopw [7, 8] (fun u7 u8 wr => ∃ k : Nat, k ≤ R ∧ u8 = .int .i64 k ∧ wr.ownsRow w.heap.size 2 1 u7 ((List.range k).map f).length (ints ((List.range k).map f)) ∧ Ext w wr ∧ ∀ j, j < k → I64 (f j)) (fun _ u8 _ => R - (intOf u8).toNat)
  case atStart => exact ⟨0, Nat.zero_le _, rfl, own_mono (own_empty w1 2) hx1.size, hx1.allocR _, fun j hj => absurd hj (Nat.not_lt_zero _)⟩
  case round =>
    obtain ⟨k, hk, rfl, hown, hE, hall⟩ := hrel
    have HALL := Lib.hid hall
    have hsE := hE.size
    clear hall
    by_cases hlt : k < R
    · have hr := HH.out.ext hE
      obtain ⟨cap2, cg, hcap2⟩ := hr.cg
      have lg := hr.ltg
      have cm := hr.cm hlt
      have lm := hr.ltm
      have dd := ((bcell hE).1 _ _ hg).trans (HC.out k hlt)
      have ld : vg < wr.heap.size := Nat.lt_of_lt_of_le hg hE.size
      have l1 := HM.out.lo k hlt
      have l2 := HM.out.hi k hlt
      have hat : at_ W cs k = k * W + (cs.getD k 0).toNat := rfl
      have hfk := HFK.out k
      rw [hat] at hfk
      have HSN := Lib.hid (map_snoc f k)
      clear hat
      generalize cs.getD k 0 = y at *
      obtain ⟨y, rfl⟩ := Int.eq_ofNat_of_zero_le l1
      have cr := hr.cr hlt (k := y) (by omega)
      have lr := hr.ltr hlt
      have hyI := getD_i64 HI.out (k * W + y)
      have hfk' : l.getD (k * W + y) 0 + d = f k := hfk
      generalize l.getD (k * W + y) 0 = x at *
      have hl8 : ((List.range k).map f).length ≤ 8 := by rw [List.length_map, List.length_range]; omega
      generalize (List.range k).map f = pre at *
      have hy2 : y < W := by omega
      have HF := Lib.hid hfk'
      have HYI := Lib.hid hyI
      have HOWN := Lib.hid hown
      clear hr l1 l2 hfk hfk' hyI hown
      go_wp2_with fail
      have hC0 := af_drew wr
      refine pi_start (fun w' => ∃ z : After wr, w' = z.w) [] (by kernel_rfl) ?_
      refine pi_t 0 rfl (by kernel_rfl) (by kernel_rfl) (fun _ _ _ _ h => h) (fun K hK => ?_)
      go_big_quiet_op
      refine hK _ ?_
      clear hK K
      refine pi_t 1 rfl (by kernel_rfl) (by kernel_rfl) (fun _ _ _ _ h => h) (fun K hK => ?_)
      go_big_quiet_op
      refine hK _ ?_
      clear hK K
      refine pi_t 2 rfl (by kernel_rfl) (by kernel_rfl) (fun _ _ _ _ h => h) (fun K hK => ?_)
      go_big_quiet_op
      refine hK _ ?_
      clear hK K
      refine pi_t 4 rfl (by kernel_rfl) (by kernel_rfl) (fun _ _ _ _ h => h) (fun K hK => ?_)
      go_big_quiet_op
      refine hK _ ?_
      clear hK K
      refine pi_t 7 rfl (by kernel_rfl) (by kernel_rfl) (fun _ _ _ _ h => h) (fun K hK => ?_)
      go_big_quiet_op
      refine hK _ ?_
      clear hK K
      refine pi_t 8 rfl (by kernel_rfl) (by kernel_rfl) (fun _ _ _ _ h => h) (fun K hK => ?_)
      go_big_quiet_op
      refine hK _ ?_
      clear hK K
      refine pi_t 9 rfl (by kernel_rfl) (by kernel_rfl) (fun _ _ _ _ h => h) (fun K hK => ?_)
      go_big_quiet_op
      refine hK _ ?_
      clear hK K
      refine pi_t 13 rfl (by kernel_rfl) (by kernel_rfl) (fun _ _ _ _ h => h) (fun K hK => ?_)
      go_big_quiet_op
      refine hK _ ?_
      clear hK K
      refine pi_c 3 (by assumption) rfl (by kernel_rfl) (by kernel_rfl) (fun _ _ _ _ h => h) (fun K hK => ?_)
      go_big_quiet_op
      refine hK _ ?_
      clear hK K
      refine pi_t 5 rfl (by kernel_rfl) (by kernel_rfl) (fun _ _ _ _ h => h) (fun K hK => ?_)
      go_big_quiet_op
      refine hK _ ?_
      clear hK K
      refine pi_c 6 (by assumption) rfl (by kernel_rfl) (by kernel_rfl) (fun _ _ _ _ h => h) (fun K hK => ?_)
      go_big_quiet_op
      refine hK _ ?_
      clear hK K
      refine pi_c 10 (by assumption) rfl (by kernel_rfl) (by kernel_rfl) (fun _ _ _ _ h => h) (fun K hK => ?_)
      go_big_quiet_op
      refine hK _ ?_
      clear hK K
      refine pi_t 11 rfl (by kernel_rfl) (by kernel_rfl) (fun _ _ _ _ h => h) (fun K hK => ?_)
      go_big_quiet_op
      refine hK _ ?_
      clear hK K
      refine pi_c 12 (by assumption) rfl (by kernel_rfl) (by kernel_rfl) (fun _ _ _ _ h => h) (fun K hK => ?_)
      go_big_quiet_op
      refine hK _ ?_
      clear hK K
      refine pi_l 14 rfl (by kernel_rfl) (fun K hK => ?_)
      go_wp2_with fail
      refine Calls.mono (LAdd_c x d HYI.out HD.out _) ?_
      rintro e w3 ⟨rfl, hx3⟩
      rw [HF.out]
      have hE3 : Ext wr w3 := Ext.trans' (Below.drew (Ext.refl wr)) hx3
      go_wp2
      refine hK _ _ (fun _ h => af_step h hx3) ?_
      clear hK K
      refine pi_t 15 rfl (by kernel_rfl) (by kernel_rfl) (fun _ _ _ _ h => h) (fun K hK => ?_)
      go_big_quiet_op
      refine hK _ ?_
      clear hK K
      refine pi_t 16 rfl (by kernel_rfl) (by kernel_rfl) (fun _ _ _ _ h => h) (fun K hK => ?_)
      go_big_quiet_op
      refine hK _ ?_
      clear hK K
      refine pi_t 17 rfl (by kernel_rfl) (by kernel_rfl) (fun _ _ _ _ h => h) (fun K hK => ?_)
      go_big_quiet_op
      refine hK _ ?_
      clear hK K
      refine pi_t 18 rfl (by kernel_rfl) (by kernel_rfl) (fun _ _ _ _ h => h) (fun K hK => ?_)
      go_big_quiet_op
      refine hK _ ?_
      clear hK K
      refine pi_t 19 rfl (by kernel_rfl) (by kernel_rfl) (fun _ _ _ _ h => h) (fun K hK => ?_)
      go_big_quiet_op
      refine hK _ ?_
      clear hK K
      refine pi_end (by kernel_rfl) ?_
      by_cases hfit : I64 (f k)
      · have fb := fitB_yes hfit
        have fn := fitN_yes hfit
        rw [fb, fn]
        have hs3 := hE3.size
        have hown3 := own_ext HOWN.out hE3
        clear fb fn
        go_wp2_with (at_builtin; refine wpList_app1 w3 (f k) pre u7 w.heap.size 2 hown3 43 rfl _ _ rfl info_i64 Tryz.underlying43 rfl rfl ?a1 ?a2 ?_)
        case a1 => omega
        case a2 => omega
        intro v' w' g1 g2 g3
        have hE4 : Ext w w' := ext_grown (hE.trans' hE3) g2 (fun i hi => own_blk hown3 hi)
        have G1 := Lib.hid g1
        clear g1 g2 g3 hown3
        go_wp2
        go_roundw
        case rel =>
          refine ⟨k + 1, by omega, by go_num, by rw [HSN.out, List.length_append]; exact G1.out, hE4, fun j hj => ?_⟩
          by_cases e : j = k
          · rw [e]; exact hfit
          · exact HALL.out j (by omega)
        case measure => simp [intOf]; omega
      · have fb := fitB_no hfit
        rw [fb]
        clear fb
        go_wp2
        go_ret
        exact .inr ⟨fun ha => hfit (by rw [← HFK.out k]; exact ha k hlt), rfl, hE.trans' hE3⟩
    · obtain rfl : k = R := by omega
      rename World => wo
      have hints := IntsAt.of_row hown
      have hlen : ((List.range k).map f).length = k := by simp
      obtain ⟨og, oo, oc, rfl, hog, hoc⟩ := hints.slice (by omega)
      have hob := own_blk hown (k := og) rfl
      rw [hlen] at hoc
      have HOC := Lib.hid hoc
      have HR0 := Lib.hid (HH.out.ext hE)
      rw [hlen]
      have HRG := Lib.hid (show ∀ j, j < k → ((List.range k).map f).getD j 0 = f j from fun j hj => by simp [hj])
      clear hown hints hoc hlen
      go_wp2_with fail
      go_loopw [11] (fun u wr => ∃ j : Nat, j ≤ k ∧ u = .int .i64 j ∧ RGAt wr G k W (putK W cs f j l) ∧ Mod (G.foot k) wo wr) (fun u _ => k - (intOf u).toNat)
      case atStart => exact ⟨0, Nat.zero_le _, rfl, HR0.out, Mod.refl _ _⟩
      case round =>
        obtain ⟨j, hj, rfl, hr, hM⟩ := hrel
        have hsM := hM.size
        by_cases hlt : j < k
        · obtain ⟨cap2, cg, hcap2⟩ := hr.cg
          have lg := hr.ltg
          have cm := hr.cm hlt
          have lm := hr.ltm
          have hgE : vg < wo.heap.size := Nat.lt_of_lt_of_le hg hsE
          have dd := (mcell hM hgE HGC.out _).trans (((bcell hE).1 _ _ hg).trans (HC.out j hlt))
          have ld : vg < wr.heap.size := Nat.lt_of_lt_of_le hgE hsM
          have hno : ¬ G.foot k og := fun hf => by have := HH.out.lt hf; omega
          have oo1 := (mcell hM hog hno _).trans (HOC.out j hlt)
          rw [HRG.out j hlt] at oo1
          have lo : og < wr.heap.size := Nat.lt_of_lt_of_le hog hsM
          have l1 := HM.out.lo j hlt
          have l2 := HM.out.hi j hlt
          have hat : at_ W cs j = j * W + (cs.getD j 0).toNat := rfl
          have hput : putK W cs f (j + 1) l = (putK W cs f j l).set (at_ W cs j) (f j) := rfl
          rw [hat] at hput
          clear hat
          generalize cs.getD j 0 = y at *
          obtain ⟨y, rfl⟩ := Int.eq_ofNat_of_zero_le l1
          have hy2 : y < W := by omega
          have cr := hr.cr hlt hy2
          have lr := hr.ltr hlt
          have fr := hr.fr hlt y
          have hput' : putK W cs f (j + 1) l = (putK W cs f j l).set (j * W + y) (f j) := hput
          have HPUT := Lib.hid hput'
          have HR := Lib.hid hr
          clear hput hput' hr l1 l2
          generalize f j = x at *
          generalize (putK W cs f j l).getD (j * W + y) 0 = x0 at *
          go_wp2_with fail
          have hC0 := af_drew wr
          refine pi_start (fun w' => ∃ z : After wr, w' = z.w) [16] (by kernel_rfl) ?_
          refine pi_t 0 rfl (by kernel_rfl) (by kernel_rfl) (fun _ _ _ _ h => h) (fun K hK => ?_)
          go_big_quiet_op
          refine hK _ ?_
          clear hK K
          refine pi_t 1 rfl (by kernel_rfl) (by kernel_rfl) (fun _ _ _ _ h => h) (fun K hK => ?_)
          go_big_quiet_op
          refine hK _ ?_
          clear hK K
          refine pi_t 2 rfl (by kernel_rfl) (by kernel_rfl) (fun _ _ _ _ h => h) (fun K hK => ?_)
          go_big_quiet_op
          refine hK _ ?_
          clear hK K
          refine pi_t 4 rfl (by kernel_rfl) (by kernel_rfl) (fun _ _ _ _ h => h) (fun K hK => ?_)
          go_big_quiet_op
          refine hK _ ?_
          clear hK K
          refine pi_t 7 rfl (by kernel_rfl) (by kernel_rfl) (fun _ _ _ _ h => h) (fun K hK => ?_)
          go_big_quiet_op
          refine hK _ ?_
          clear hK K
          refine pi_t 8 rfl (by kernel_rfl) (by kernel_rfl) (fun _ _ _ _ h => h) (fun K hK => ?_)
          go_big_quiet_op
          refine hK _ ?_
          clear hK K
          refine pi_t 9 rfl (by kernel_rfl) (by kernel_rfl) (fun _ _ _ _ h => h) (fun K hK => ?_)
          go_big_quiet_op
          refine hK _ ?_
          clear hK K
          refine pi_t 11 rfl (by kernel_rfl) (by kernel_rfl) (fun _ _ _ _ h => h) (fun K hK => ?_)
          go_big_quiet_op
          refine hK _ ?_
          clear hK K
          refine pi_t 12 rfl (by kernel_rfl) (by kernel_rfl) (fun _ _ _ _ h => h) (fun K hK => ?_)
          go_big_quiet_op
          refine hK _ ?_
          clear hK K
          refine pi_t 13 rfl (by kernel_rfl) (by kernel_rfl) (fun _ _ _ _ h => h) (fun K hK => ?_)
          go_big_quiet_op
          refine hK _ ?_
          clear hK K
          refine pi_c 3 (by assumption) rfl (by kernel_rfl) (by kernel_rfl) (fun _ _ _ _ h => h) (fun K hK => ?_)
          go_big_quiet_op
          refine hK _ ?_
          clear hK K
          refine pi_t 5 rfl (by kernel_rfl) (by kernel_rfl) (fun _ _ _ _ h => h) (fun K hK => ?_)
          go_big_quiet_op
          refine hK _ ?_
          clear hK K
          refine pi_c 6 (by assumption) rfl (by kernel_rfl) (by kernel_rfl) (fun _ _ _ _ h => h) (fun K hK => ?_)
          go_big_quiet_op
          refine hK _ ?_
          clear hK K
          refine pi_c 10 (by assumption) rfl (by kernel_rfl) (by kernel_rfl) (fun _ _ _ _ h => h) (fun K hK => ?_)
          go_big_quiet_op
          refine hK _ ?_
          clear hK K
          refine pi_c 14 (by assumption) rfl (by kernel_rfl) (by kernel_rfl) (fun _ _ _ _ h => h) (fun K hK => ?_)
          go_big_quiet_op
          refine hK _ ?_
          clear hK K
          refine pi_t 15 rfl (by kernel_rfl) (by kernel_rfl) (fun _ _ _ _ h => h) (fun K hK => ?_)
          go_big_quiet_op
          refine hK _ ?_
          clear hK K
          refine pi_l 16 rfl (by kernel_rfl) (fun K hK => ?_)
          go_wp2
          refine hK _ _ (by simp) ?_
          clear hK K
          refine pi_end (by kernel_rfl) ?_
          go_wp2_with fail
          go_roundw
          case rel =>
            refine ⟨j + 1, by omega, by go_num, ?_, (hM.trans (mod_rset hlt y _)).drewR⟩
            rw [HPUT.out]
            exact (HR.out.set hlt hy2 x).keep (fun _ _ => rfl)
          case measure => simp [intOf]; omega
        · obtain rfl : j = k := by omega
          go_wp2
          go_ret
          exact .inl ⟨fun i hi => by rw [HFK.out]; exact HALL.out i hi, rfl, hr, (hE.mod _).trans hM⟩
end Go.Proofs.YtfhdjekpdifajaaGreat
