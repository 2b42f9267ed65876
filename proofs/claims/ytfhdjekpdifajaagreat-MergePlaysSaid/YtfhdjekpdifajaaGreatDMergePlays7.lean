/- Part. No condition. -/
import Derived.Test.YtfhdjekpdifajaaGreatDMergePlays3
import Derived.Test.YtfhdjekpdifajaaGreatDMergePlays4
import Derived.Test.YtfhdjekpdifajaaGreatDMergePlays5
import Derived.Test.YtfhdjekpdifajaaGreatDMergePlays6
import Derived.Test.YtfhdjekpdifajaaGreatDMergePlays2
import Derived.Test.YtfhdjekpdifajaaGreatDMergePlays1
namespace Go.Proofs.YtfhdjekpdifajaaGreat
set_option linter.unusedVariables false
open Go.RowKit
theorem run_make_intsU {P : Program} (t e : TypeId) (i : TypeInfo) (ht : P.underlying t = some (.slice e)) (hi : P.info? e = some i) (hz : i.zero = some (.int .i64 0)) (hs : i.size = 1) (hb : i.bytes = 8)
    (n : Nat) (hn : n ≤ 1000000) (f : Nat → Int) (w : World) :
    (Instr.makeSlice t (.int .u64 (n : Int)) (.int .u64 (n : Int))).run P w = .ok (.slice (some ⟨w.heap.size, 0, none⟩) n n) (w.alloc (.cells (fillA f 0 n) e)) := by
  have h := run_make w t e i (.int .i64 0) ht hi hz .u64 .u64 n n (by omega) (by omega) (by rw [hb]; omega) (by omega)
  simp only [Int.toNat_natCast] at h
  rw [h, hs]
  congr 3
  apply Array.ext
  · rw [size_madeCells, fillA_size]; omega
  · intro j h1 h2
    rw [fillA_size] at h2
    simp [madeCells, fillA, Value.cells, Nat.mod_one]
def RXNewPost (w : World) (C : Cfg) (lv : Int) (N : Nat) (l : List Int) (e : Ending) (w' : World) : Prop :=
  ∃ a m, e = .returned (.pointer (some ⟨a, 0, none⟩)) ∧ RXAt w' a m C lv N l ∧ w.heap.size ≤ a ∧ w.heap.size ≤ m ∧ Ext w w'
set_option maxRecDepth 20000 in
set_option maxHeartbeats 4000000 in
theorem RXNew_c (C : Cfg) (lv : Int) (N : Nat) (h1 : 1 ≤ N) (h2 : N ≤ 128) (w : World) :
    Calls Tryz.prog 101 #[.agg #[.int .i64 C.bits, .int .i64 C.rows, .int .i64 C.width, .int .i64 C.mode, .int .u64 C.seed], .int .i64 lv, .int .u64 N] w (RXNewPost w C lv N (zs N)) := by
  obtain ⟨ii, hi, hz0, hz1, hz2⟩ := info_parts info_i64
  have hmk := fun (x : World) => run_make_intsU 43 2 ii Tryz.underlying43 hi hz0 hz1 hz2 N (by omega) (fun _ => 0) x
  have hm1 : ((128 : Int) < (N : Int)) = False := by simp; omega
  have hm2 : decide ((128 : Int) < (N : Int)) = false := by simp; omega
  have hm3 : (N : Int) ≤ 128 := by omega
  clear hi hz0 hz1 hz2
  obtain ⟨W, hW⟩ : ∃ W, w.alloc (.cells #[.int .i64 C.bits, .int .i64 C.rows, .int .i64 C.width, .int .i64 C.mode, .int .u64 C.seed] 24) = W := ⟨_, rfl⟩
  have hC : CfgAt W w.heap.size C := by rw [← hW]; exact CfgAt.box C _ rfl
  have hE : Ext w W := by rw [← hW]; exact Ext.alloc' _ _
  have c0 := hC.c0
  have c1 := hC.c1
  have c2 := hC.c2
  have c3 := hC.c3
  have c4 := hC.c4
  have cl := hC.lt
  have hsz := hE.size
  go_enter Tryz.func101, Tryz.ntmps101
  go_wp2_with fail
  try rw [hW]
  clear hW
  have hC0 := af_drew W
  refine pi_start (fun w' => ∃ z : After W, w' = z.w) [] (by kernel_rfl) ?_
  refine pi_t 1 rfl (by kernel_rfl) (by kernel_rfl) (fun _ _ _ _ h => h) (fun K hK => ?_)
  go_big_quiet_op
  refine hK _ ?_
  clear hK K
  refine pi_t 2 rfl (by kernel_rfl) (by kernel_rfl) (fun _ _ _ _ h => h) (fun K hK => ?_)
  go_big_quiet_op
  refine hK _ ?_
  clear hK K
  refine pi_t 3 rfl (by kernel_rfl) (by kernel_rfl) (fun _ _ _ _ h => h) (fun K hK => ?_)
  go_big_quiet_op
  refine hK _ ?_
  clear hK K
  refine pi_c 0 (by assumption) rfl (by kernel_rfl) (by kernel_rfl) (fun _ _ _ _ h => h) (fun K hK => ?_)
  go_big_quiet_op
  refine hK _ ?_
  clear hK K
  refine pi_l 4 rfl (by kernel_rfl) (fun K hK => ?_)
  go_wp2
  refine hK _ _ (fun _ h => af_step h (Ext.alloc' _ _)) ?_
  clear hK K
  refine pi_t 5 rfl (by kernel_rfl) (by kernel_rfl) (fun _ _ _ _ h => h) (fun K hK => ?_)
  go_big_quiet_op
  refine hK _ ?_
  clear hK K
  refine pi_l 6 rfl (by kernel_rfl) (fun K hK => ?_)
  go_wp2
  refine hK _ _ (fun _ h => af_step h (Ext.alloc' _ _)) ?_
  clear hK K
  refine pi_t 7 rfl (by kernel_rfl) (by kernel_rfl) (fun _ _ _ _ h => h) (fun K hK => ?_)
  go_big_quiet_op
  refine hK _ ?_
  clear hK K
  refine pi_end (by kernel_rfl) ?_
  go_wp2
  go_ret
  refine ⟨_, W.heap.size, rfl, ⟨⟨N, heap_at _ _ (size_alloc _ _).symm, Nat.le_refl _⟩, ⟨fillA (fun _ => 0) 0 N, ?_, fun k hk => ?_⟩, zs_len _, h1, h2, fun x hx => ?_⟩, ?_, hsz, ((hE.drewR).allocR _).allocR _⟩
  · show ((W.alloc _).alloc _).heap[_]? = _
    rw [heap_old _ _ (by rw [size_alloc]; exact Nat.lt_succ_self _)]
    exact heap_at _ _ rfl
  · rw [fillA_at _ _ _ _ hk, if_neg (Nat.not_lt_zero _), zs_get0]
  · simp only [zs, List.mem_replicate] at hx
    rw [hx.2]
    unfold I64; omega
  · exact Nat.le_trans hsz (Nat.le_succ _)
set_option maxRecDepth 20000 in
set_option maxHeartbeats 4000000 in
theorem RXCopy_c (a m : Nat) (C : Cfg) (lv : Int) (N : Nat) (l : List Int) (w : World) (h : RXAt w a m C lv N l) :
    Calls Tryz.prog 105 #[.pointer (some ⟨a, 0, none⟩)] w (RXNewPost w C lv N l) := by
  obtain ⟨cap, hex, hcap⟩ := h.ex
  have c0 := (cell_of hex 0).trans rfl
  have c1 := (cell_of hex 1).trans rfl
  have c2 := (cell_of hex 2).trans rfl
  have c3 := (cell_of hex 3).trans rfl
  have c4 := (cell_of hex 4).trans rfl
  have c5 := (cell_of hex 5).trans rfl
  have c6 := (cell_of hex 6).trans rfl
  have la := h.lta
  have lm := h.ltm
  have k1 := h.k1
  have k2 := h.k2
  have hlen := h.len
  have HF := Lib.hid h.fit
  have hcell : ∀ W : World, Ext w W → ∀ k, k < N → W.cell? ⟨m, 0 + k, none⟩ = some (.int .i64 (l.getD k 0)) := fun W hW k hk => by rw [(bcell hW).1 _ _ lm, Nat.zero_add]; exact h.cell hk
  have HC := Lib.hid hcell
  have HL := Lib.hid hlen
  clear hcell h hex hlen
  go_enter Tryz.func105, Tryz.ntmps105
  go_wp2_with fail
  have hC0 := af_drew w
  refine pi_start (fun w' => ∃ z : After w, w' = z.w) [] (by kernel_rfl) ?_
  refine pi_t 0 rfl (by kernel_rfl) (by kernel_rfl) (fun _ _ _ _ h => h) (fun K hK => ?_)
  go_big_quiet_op
  refine hK _ ?_
  clear hK K
  refine pi_t 1 rfl (by kernel_rfl) (by kernel_rfl) (fun _ _ _ _ h => h) (fun K hK => ?_)
  go_big_quiet_op
  refine hK _ ?_
  clear hK K
  refine pi_t 2 rfl (by kernel_rfl) (by kernel_rfl) (fun _ _ _ _ h => h) (fun K hK => ?_)
  go_big_quiet_op
  refine hK _ ?_
  clear hK K
  refine pi_t 4 rfl (by kernel_rfl) (by kernel_rfl) (fun _ _ _ _ h => h) (fun K hK => ?_)
  go_big_quiet_op
  refine hK _ ?_
  clear hK K
  refine pi_t 5 rfl (by kernel_rfl) (by kernel_rfl) (fun _ _ _ _ h => h) (fun K hK => ?_)
  go_big_quiet_op
  refine hK _ ?_
  clear hK K
  refine pi_t 6 rfl (by kernel_rfl) (by kernel_rfl) (fun _ _ _ _ h => h) (fun K hK => ?_)
  go_big_quiet_op
  refine hK _ ?_
  clear hK K
  refine pi_t 9 rfl (by kernel_rfl) (by kernel_rfl) (fun _ _ _ _ h => h) (fun K hK => ?_)
  go_big_quiet_op
  refine hK _ ?_
  clear hK K
  refine pi_t 10 rfl (by kernel_rfl) (by kernel_rfl) (fun _ _ _ _ h => h) (fun K hK => ?_)
  go_big_quiet_op
  refine hK _ ?_
  clear hK K
  refine pi_t 11 rfl (by kernel_rfl) (by kernel_rfl) (fun _ _ _ _ h => h) (fun K hK => ?_)
  go_big_quiet_op
  refine hK _ ?_
  clear hK K
  refine pi_c 3 (by assumption) rfl (by kernel_rfl) (by kernel_rfl) (fun _ _ _ _ h => h) (fun K hK => ?_)
  go_big_quiet_op
  refine hK _ ?_
  clear hK K
  refine pi_c 7 (by assumption) rfl (by kernel_rfl) (by kernel_rfl) (fun _ _ _ _ h => h) (fun K hK => ?_)
  go_big_quiet_op
  refine hK _ ?_
  clear hK K
  refine pi_c 12 (by assumption) rfl (by kernel_rfl) (by kernel_rfl) (fun _ _ _ _ h => h) (fun K hK => ?_)
  go_big_quiet_op
  refine hK _ ?_
  clear hK K
  refine pi_l 8 rfl (by kernel_rfl) (fun K hK => ?_)
  go_wp2
  refine hK _ _ (fun _ h => af_step h (Ext.alloc' _ _)) ?_
  clear hK K
  have hE1 : Ext w (w.alloc (.cells #[] 2)).drew := ((Ext.refl w).allocR _).drewR
  have hown : (w.alloc (.cells #[] 2)).drew.ownsRow w.heap.size 2 1 (.slice (some ⟨w.heap.size, 0, none⟩) 0 0) ([] : List Int).length (ints []) := own_drew (own_empty w 2)
  generalize (w.alloc (.cells #[] 2)).drew = W at *
  refine pi_l 13 rfl (by kernel_rfl) (fun K hK => ?_)
  go_wp2_with (at_builtin; refine wpList_appl W l [] _ w.heap.size 2 hown 43 rfl _ _ rfl info_i64 Tryz.underlying43 (by rfl) m 0 N cap (by rfl) HL.out.symm (HC.out W hE1) ?a1 ?a2 ?_)
  case a1 => show 0 + N ≤ _; omega
  case a2 => exact hE1.size
  intro v' w' g1 g2 g3
  have hE2 : Ext w w' := ext_grown0 hE1 g2 (fun i hi => own_blk hown hi)
  have hE2' : ∃ z : After w, w' = z.w := ⟨⟨w', hE2⟩, rfl⟩
  obtain ⟨z, zc, cur, rfl, hzc, hz, hzh, hzcur⟩ := own_row1 g1 (by show 0 < l.length; rw [HL.out]; omega)
  rw [HL.out] at hzc hzcur ⊢
  have HZ := Lib.hid (And.intro hzc (And.intro hz (And.intro hzh hzcur)))
  have hs2 := hE2.size
  clear g1 g2 g3 hown hzc hz hzh hzcur
  go_wp2
  refine hK _ _ (fun _ _ => hE2') ?_
  clear hK K
  refine pi_t 14 rfl (by kernel_rfl) (by kernel_rfl) (fun _ _ _ _ h => h) (fun K hK => ?_)
  go_big_quiet_op
  refine hK _ ?_
  clear hK K
  refine pi_l 15 rfl (by kernel_rfl) (fun K hK => ?_)
  go_wp2
  refine hK _ _ (fun _ h => af_step h (Ext.alloc' _ _)) ?_
  clear hK K
  refine pi_t 16 rfl (by kernel_rfl) (by kernel_rfl) (fun _ _ _ _ h => h) (fun K hK => ?_)
  go_big_quiet_op
  refine hK _ ?_
  clear hK K
  refine pi_end (by kernel_rfl) ?_
  go_wp2
  go_ret
  obtain ⟨q1, q2, q3, q4⟩ := HZ.out
  exact ⟨_, z, rfl, ⟨⟨zc, heap_at _ _ rfl, q1⟩, ⟨cur, (Ext.alloc' _ _).keep q3, fun k hk => q4 k hk⟩, HL.out, k1, k2, HF.out⟩, hs2, q2, hE2.allocR _⟩
theorem key_nat {key : Int} (h0 : 0 ≤ key) : ∃ k : Nat, key = k := ⟨key.toNat, by omega⟩
def RXUpdPost (w : World) (a m : Nat) (C : Cfg) (lv : Int) (N : Nat) (l : List Int) (key d : Int) (e : Ending) (w' : World) : Prop :=
  e = .returned (.int .i64 (errX C lv l key d)) ∧ ((errX C lv l key d = 0 ∧ RXAt w' a m C lv N (updX l key d) ∧ Mod (fun k => k = m) w w') ∨ (errX C lv l key d ≠ 0 ∧ Ext w w'))
set_option maxRecDepth 20000 in
set_option maxHeartbeats 4000000 in
theorem RXUpdate_c (a m : Nat) (C : Cfg) (lv : Int) (N : Nat) (l : List Int) (key d : Int) (w : World) (h : RXAt w a m C lv N l) (hkn : keys C lv = N) (hd : I64 d) (hk : U64 key) :
    Calls Tryz.prog 107 #[.pointer (some ⟨a, 0, none⟩), .int .u64 key, .int .i64 d] w (RXUpdPost w a m C lv N l key d) := by
  obtain ⟨hk0, hk1⟩ := hk
  obtain ⟨key, rfl⟩ := key_nat hk0
  obtain ⟨cap, hex, hcap⟩ := h.ex
  have c3 := (cell_of hex 3).trans rfl
  have c6 := (cell_of hex 6).trans rfl
  have la := h.lta
  have lm := h.ltm
  have k2 := h.k2
  have HH := Lib.hid h
  have HKK := Lib.hid hkn
  have HD := Lib.hid hd
  clear h hex hd
  by_cases hge : N ≤ key
  · have he : errX C lv l key d = 2 := errX_key (by omega)
    unfold RXUpdPost
    rw [he]
    have hge' : decide ((N : Int) ≤ (key : Int)) = true := by simp; omega
    clear hkn
    go_enter Tryz.func107, Tryz.ntmps107
    go_wp2
    go_ret
    exact ⟨rfl, by first | exact .inr ⟨by decide, Ext.refl _⟩ | exact Ext.refl _⟩
  · have hlt : key < N := by omega
    have cx := HH.out.cell hlt
    have fx := HH.out.frz key
    have hI := getD_i64 HH.out.fit key
    have hset := fun x (hx : I64 x) => HH.out.set hlt hx
    have HSET := Lib.hid hset
    have hne := HH.out.ne
    have HNE := Lib.hid hne
    have he := fun hn => errX_sum (C := C) (lv := lv) (l := l) (key := (key : Int)) (d := d) (by omega) hn
    have he2 := fun hm hn => errX_neg (C := C) (lv := lv) (l := l) (key := (key : Int)) (d := d) (by omega) hm hn
    have hu : updX l (key : Int) d = l.set key (l.getD key 0 + d) := by unfold updX; rw [Int.toNat_natCast]
    rw [Int.toNat_natCast] at he
    unfold RXUpdPost
    rw [hu]
    have HE := Lib.hid he
    have HE2 := Lib.hid he2
    have HI := Lib.hid hI
    generalize l.getD key 0 = x at *
    generalize errX C lv l key d = er at *
    have HLT := Lib.hid hlt
    have hlt3 : (key : Int) < (N : Int) := by omega
    have hlt4 : ¬ ((N : Int) ≤ (key : Int)) := by omega
    clear hge hu he he2 hset hne hI hkn hlt
    by_cases hmd : C.mode = 2 ∧ d < 0
    · obtain ⟨hm, hdn⟩ := hmd
      rw [HE2.out hm hdn]
      rw [hm] at c3
      clear hm
      go_enter Tryz.func107, Tryz.ntmps107
      go_wp2
      go_ret
      exact ⟨rfl, by first | exact .inr ⟨by decide, Ext.refl _⟩ | exact Ext.refl _⟩
    · have herr := HE.out hmd
      rw [herr]
      clear herr
      have hA : ∀ w', Calls Tryz.prog 159 #[.int .i64 x, .int .i64 d] w' fun e w'' => e = .returned (.tuple #[.int .i64 (fitN (x + d)), .bool (fitB (x + d))]) ∧ Ext w' w'' := fun w' => LAdd_c x d HI.out HD.out w'
      have HA := Lib.hid hA
      clear hA
      have fin : ∀ w1, Ext w w1 → w1.cell? ⟨a, 6, none⟩ = some (.slice (some ⟨m, 0, none⟩) N cap) ∧ w1.frozen? ⟨m, key, none⟩ = false ∧ (∃ v, w1.cell? ⟨m, key, none⟩ = some v) ∧ a < w1.heap.size ∧ m < w1.heap.size := fun w1 hx =>
        ⟨((bcell hx).1 _ _ la).trans c6, ((bcell hx).2 _ _ lm).trans fx, ⟨_, ((bcell hx).1 _ _ lm).trans cx⟩, Nat.lt_of_lt_of_le la hx.size, Nat.lt_of_lt_of_le lm hx.size⟩
      have HFIN := Lib.hid fin
      clear fin
      by_cases hfit : I64 (x + d)
      · have hfb := fitB_yes hfit
        have hfn := fitN_yes hfit
        rw [hfb, hfn] at HA
        rw [hfb]
        clear hfb hfn
        have hmode : (C.mode = 2) ∨ (C.mode ≠ 2) := by omega
        by_cases hm : C.mode = 2
        · have hdn : decide (d < 0) = false := by have := fun h => hmd ⟨hm, h⟩; simp; omega
          rw [hm] at c3
          clear hm hmd hmode
          go_enter Tryz.func107, Tryz.ntmps107
          go_wp2_with fail
          refine Calls.mono (HA.out _) ?_
          rintro e w1 ⟨rfl, hx1⟩
          obtain ⟨d6, fk, ⟨v0, ck⟩, l1, l2⟩ := HFIN.out w1 hx1
          clear c3 c6 cx fx la lm
          go_wp2
          go_ret
          have hX1 := HH.out.ext hx1
          exact ⟨rfl, by first | exact .inl ⟨rfl, hX1.set HLT.out hfit, (hx1.mod _).trans (mod_set _ _ _ _)⟩ | exact ⟨hX1.set HLT.out hfit, (hx1.mod _).trans (mod_set _ _ _ _)⟩⟩
        · have hmb : (C.mode == 2) = false := by simpa using hm
          clear hm hmd hmode
          go_enter Tryz.func107, Tryz.ntmps107
          go_wp2_with fail
          refine Calls.mono (HA.out _) ?_
          rintro e w1 ⟨rfl, hx1⟩
          obtain ⟨d6, fk, ⟨v0, ck⟩, l1, l2⟩ := HFIN.out w1 hx1
          clear c3 c6 cx fx la lm
          go_wp2
          go_ret
          have hX1 := HH.out.ext hx1
          exact ⟨rfl, by first | exact .inl ⟨rfl, hX1.set HLT.out hfit, (hx1.mod _).trans (mod_set _ _ _ _)⟩ | exact ⟨hX1.set HLT.out hfit, (hx1.mod _).trans (mod_set _ _ _ _)⟩⟩
      · have hfb := fitB_no hfit
        rw [hfb] at HA
        rw [hfb]
        clear hfb
        by_cases hm : C.mode = 2
        · have hdn : decide (d < 0) = false := by have := fun h => hmd ⟨hm, h⟩; simp; omega
          rw [hm] at c3
          clear hm hmd
          go_enter Tryz.func107, Tryz.ntmps107
          go_wp2_with fail
          refine Calls.mono (HA.out _) ?_
          rintro e w1 ⟨rfl, hx1⟩
          go_wp2
          go_ret
          exact ⟨rfl, by first | exact .inr ⟨by decide, hx1⟩ | exact hx1⟩
        · have hmb : (C.mode == 2) = false := by simpa using hm
          clear hm hmd
          go_enter Tryz.func107, Tryz.ntmps107
          go_wp2_with fail
          refine Calls.mono (HA.out _) ?_
          rintro e w1 ⟨rfl, hx1⟩
          go_wp2
          go_ret
          exact ⟨rfl, by first | exact .inr ⟨by decide, hx1⟩ | exact hx1⟩
end Go.Proofs.YtfhdjekpdifajaaGreat
namespace Go.Proofs.YtfhdjekpdifajaaGreat
set_option linter.unusedVariables false
open Go.RowKit
set_option maxRecDepth 20000 in
set_option maxHeartbeats 4000000 in
theorem RMeet_c (G : Gr) (R W : Nat) (l cs : List Int) (v : Value) (w : World) (h : RGAt w G R W l) (hv : IntsAt w v cs) (hm : Meets R W cs) :
    Calls Tryz.prog 197 #[.pointer (some ⟨G.g, 0, none⟩), v] w fun e w' => e = .returned (.bool true) ∧ Ext w w' := by
  have r1 := h.r1
  have r2 := h.r2
  obtain ⟨vg, vo, vc, rfl, hg, hc⟩ := hv.slice (by rw [hm.len]; omega)
  rw [hm.len] at hc ⊢
  have HC := Lib.hid hc
  have HH := Lib.hid h
  have HM := Lib.hid hm
  obtain ⟨cap, cg, hcap⟩ := h.cg
  have lg := h.ltg
  have hz : ((R : Int) == 0) = false := by simp; omega
  clear hc hv h hm
  go_enter Tryz.func197, Tryz.ntmps197
  go_wp2_with fail
  clear cg lg hz
  go_loopw [5] (fun u wr => ∃ k : Nat, k ≤ R ∧ u = .int .i64 k ∧ Ext w wr) (fun u _ => R - (intOf u).toNat)
  case atStart => exact ⟨0, Nat.zero_le _, rfl, by (repeat' (first | exact Ext.refl _ | assumption | apply Ext.allocR | apply Ext.drewR | apply Ext.drewNR | (refine Ext.trans' ?_ (by assumption))))⟩
  case round =>
    obtain ⟨k, hk, rfl, hE⟩ := hrel
    by_cases hlt : k < R
    · have hr := HH.out.ext hE
      obtain ⟨cap2, cg, hcap2⟩ := hr.cg
      have lg := hr.ltg
      have cm := hr.cm hlt
      have lm := hr.ltm
      have d := ((bcell hE).1 _ _ hg).trans (HC.out k hlt)
      have ld : vg < wr.heap.size := Nat.lt_of_lt_of_le hg hE.size
      have l1 := HM.out.lo k hlt
      have l2 := HM.out.hi k hlt
      generalize cs.getD k 0 = y at *
      have g2 : decide (y < 0) = false := by simp; omega
      have g3 : decide ((W : Int) ≤ y) = false := by simp; omega
      clear hr
      go_wp2_with fail
      go_region
      go_wp2_with fail
      go_roundw
      case rel => exact ⟨k + 1, by omega, by go_num, by first | exact hE | exact hE.drewR⟩
      case measure => simp [intOf]; omega
    · go_wp2
      go_ret
      exact ⟨rfl, hE⟩
theorem readL_snoc {W : Nat} {l cs : List Int} {k : Nat} (hk : k < cs.length) : (readL W l cs).take (k + 1) = (readL W l cs).take k ++ [l.getD (k * W + (cs.getD k 0).toNat) 0] := by
  rw [take_snoc (by rw [readL_len]; exact hk), readL_get hk]; rfl
set_option maxRecDepth 20000 in
set_option maxHeartbeats 4000000 in
theorem RRead_c (G : Gr) (R W : Nat) (l cs : List Int) (v : Value) (w : World) (h : RGAt w G R W l) (hv : IntsAt w v cs) (hm : Meets R W cs) :
    Calls Tryz.prog 194 #[.pointer (some ⟨G.g, 0, none⟩), v] w (ReadPost w W l cs) := by
  have r1 := h.r1
  have r2 := h.r2
  have hml := hm.len
  obtain ⟨vg, vo, vc, rfl, hg, hc⟩ := hv.slice (by rw [hm.len]; omega)
  rw [hml] at hc hv ⊢
  have HL := Lib.hid hml
  have HC := Lib.hid hc
  have HV := Lib.hid hv
  have HH := Lib.hid h
  have HM := Lib.hid hm
  clear hc hv h hm hml
  go_enter Tryz.func194, Tryz.ntmps194
  go_wp2_with fail
  refine Calls.mono (RMeet_c G R W l cs _ _ (HH.out.ext (Ext.alloc' _ _)) (HV.out.ext (Ext.alloc' _ _)) HM.out) ?_
  rintro e w1 ⟨rfl, hx1⟩
  have hE1 : Ext w w1 := (Ext.alloc' _ _).trans' hx1
  have hown : w1.ownsRow w.heap.size 2 1 (.slice (some ⟨w.heap.size, 0, none⟩) 0 0) ((readL W l cs).take 0).length (ints ((readL W l cs).take 0)) := own_ext (own_empty w 2) hx1
  clear hx1
  go_wp2_with fail
  go_loopw [6, 7] (fun u6 u7 wr => ∃ k : Nat, k ≤ R ∧ u7 = .int .i64 k ∧ wr.ownsRow w.heap.size 2 1 u6 ((readL W l cs).take k).length (ints ((readL W l cs).take k)) ∧ Ext w wr) (fun _ u7 _ => R - (intOf u7).toNat)
  case atStart => exact ⟨0, Nat.zero_le _, rfl, hown, hE1⟩
  case round =>
    clear hown
    obtain ⟨k, hk, rfl, hown, hE⟩ := hrel
    by_cases hlt : k < R
    · have hr := HH.out.ext hE
      obtain ⟨cap2, cg, hcap2⟩ := hr.cg
      have lg := hr.ltg
      have cm := hr.cm hlt
      have lm := hr.ltm
      have d := ((bcell hE).1 _ _ hg).trans (HC.out k hlt)
      have ld : vg < wr.heap.size := Nat.lt_of_lt_of_le hg hE.size
      have l1 := HM.out.lo k hlt
      have l2 := HM.out.hi k hlt
      have hsn := readL_snoc (W := W) (l := l) (cs := cs) (k := k) (by rw [HL.out]; exact hlt)
      have HSN := Lib.hid hsn
      clear hsn
      generalize cs.getD k 0 = y at *
      obtain ⟨y, rfl⟩ := Int.eq_ofNat_of_zero_le l1
      have cr := hr.cr hlt (k := y) (by omega)
      have lr := hr.ltr hlt
      have HSN2 : Hid ((readL W l cs).take (k + 1) = (readL W l cs).take k ++ [l.getD (k * W + y) 0]) := Lib.hid HSN.out
      generalize l.getD (k * W + y) 0 = x at *
      have hl8 : ((readL W l cs).take k).length ≤ 8 := by rw [List.length_take, readL_len, HL.out]; omega
      generalize (readL W l cs).take k = pre at *
      have hy2 : y < W := by omega
      have hsE := hE.size
      obtain ⟨S, hSS⟩ : ∃ S : Nat → Prop, ∀ i, S i ↔ u6.ownBlock = some i := ⟨_, fun _ => Iff.rfl⟩
      have n1 : ¬ S G.g := fun h => by have := own_blk hown ((hSS _).1 h); have := HH.out.ltg; omega
      have n2 : ¬ S G.m := fun h => by have := own_blk hown ((hSS _).1 h); have := HH.out.ltm; omega
      have n3 : ¬ S (G.r k) := fun h => by have := own_blk hown ((hSS _).1 h); have := HH.out.ltr hlt; omega
      have n4 : ¬ S vg := fun h => by have := own_blk hown ((hSS _).1 h); omega
      have HSS := Lib.hid hSS
      clear hr HSN l1 l2 hSS
      go_wp2_with fail
      have hC0 := afs_drew S wr
      refine pi_start (fun w' => ∃ z : AftS S wr, w' = z.w) [] (by kernel_rfl) ?_
      refine pi_t 0 rfl (by kernel_rfl) (by kernel_rfl) (fun _ _ _ _ h => h) (fun K hK => ?_)
      go_big_quiet_op
      refine hK _ ?_
      clear hK K
      refine pi_t 1 rfl (by kernel_rfl) (by kernel_rfl) (fun _ _ _ _ h => h) (fun K hK => ?_)
      go_big_quiet_op
      refine hK _ ?_
      clear hK K
      refine pi_t 2 rfl (by kernel_rfl) (by kernel_rfl) (fun _ _ _ _ h => h) (fun K hK => ?_)
      go_big_quiet_op
      refine hK _ ?_
      clear hK K
      refine pi_t 3 rfl (by kernel_rfl) (by kernel_rfl) (fun _ _ _ _ h => h) (fun K hK => ?_)
      go_big_quiet_op
      refine hK _ ?_
      clear hK K
      refine pi_t 5 rfl (by kernel_rfl) (by kernel_rfl) (fun _ _ _ _ h => h) (fun K hK => ?_)
      go_big_quiet_op
      refine hK _ ?_
      clear hK K
      refine pi_t 8 rfl (by kernel_rfl) (by kernel_rfl) (fun _ _ _ _ h => h) (fun K hK => ?_)
      go_big_quiet_op
      refine hK _ ?_
      clear hK K
      refine pi_t 9 rfl (by kernel_rfl) (by kernel_rfl) (fun _ _ _ _ h => h) (fun K hK => ?_)
      go_big_quiet_op
      refine hK _ ?_
      clear hK K
      refine pi_t 10 rfl (by kernel_rfl) (by kernel_rfl) (fun _ _ _ _ h => h) (fun K hK => ?_)
      go_big_quiet_op
      refine hK _ ?_
      clear hK K
      refine pi_c 4 (by assumption) rfl (by kernel_rfl) (by kernel_rfl) (fun _ _ _ _ h => h) (fun K hK => ?_)
      go_big_quiet_op
      refine hK _ ?_
      clear hK K
      refine pi_t 6 rfl (by kernel_rfl) (by kernel_rfl) (fun _ _ _ _ h => h) (fun K hK => ?_)
      go_big_quiet_op
      refine hK _ ?_
      clear hK K
      refine pi_c 7 (by assumption) rfl (by kernel_rfl) (by kernel_rfl) (fun _ _ _ _ h => h) (fun K hK => ?_)
      go_big_quiet_op
      refine hK _ ?_
      clear hK K
      refine pi_c 11 (by assumption) rfl (by kernel_rfl) (by kernel_rfl) (fun _ _ _ _ h => h) (fun K hK => ?_)
      go_big_quiet_op
      refine hK _ ?_
      clear hK K
      refine pi_t 12 rfl (by kernel_rfl) (by kernel_rfl) (fun _ _ _ _ h => h) (fun K hK => ?_)
      go_big_quiet_op
      refine hK _ ?_
      clear hK K
      refine pi_c 13 (by assumption) rfl (by kernel_rfl) (by kernel_rfl) (fun _ _ _ _ h => h) (fun K hK => ?_)
      go_big_quiet_op
      refine hK _ ?_
      clear hK K
      refine pi_l 14 rfl (by kernel_rfl) (fun K hK => ?_)
      go_wp2
      refine hK _ _ (fun _ h => afs_step h (Ext.alloc' _ _)) ?_
      clear hK K
      have hown2 : wr.drew.ownsRow w.heap.size 2 1 u6 pre.length (ints pre) := own_drew hown
      refine pi_l 15 rfl (by kernel_rfl) (fun K hK => ?_)
      go_wp2_with (at_builtin; refine wpList_app1 wr.drew x pre u6 w.heap.size 2 hown2 43 rfl _ _ rfl info_i64 Tryz.underlying43 rfl rfl ?a1 ?a2 ?_)
      case a1 => omega
      case a2 => exact hsE
      intro v' w' g1 g2 g3
      have hE2 : Ext w w' := ext_grown hE.drewR g2 (fun i hi => own_blk hown hi)
      have hm2 : Mod S wr w' := mod_grown (Ext.mod _ (Below.drew (Ext.refl wr))) g2 (fun i hi => (HSS.out i).2 hi)
      have G1 := Lib.hid g1
      clear g1 g2 g3 hown hown2
      go_wp2
      refine hK _ _ (fun _ _ => ⟨⟨w', hm2⟩, rfl⟩) ?_
      clear hK K
      refine pi_t 16 rfl (by kernel_rfl) (by kernel_rfl) (fun _ _ _ _ h => h) (fun K hK => ?_)
      go_big_quiet_op
      refine hK _ ?_
      clear hK K
      refine pi_end (by kernel_rfl) ?_
      go_wp2_with fail
      go_roundw
      case rel => exact ⟨k + 1, by omega, by go_num, by rw [HSN2.out, List.length_append]; exact G1.out, hE2⟩
      case measure => simp [intOf]; omega
    · obtain rfl : k = R := by omega
      rw [List.take_of_length_le (by rw [readL_len, HL.out]; exact Nat.le_refl _)] at hown
      have HOWN := Lib.hid hown
      obtain ⟨p1, n1, c1, rfl⟩ := own_slice hown
      clear hown
      go_wp2
      go_ret2
      exact ⟨_, rfl, by have := HOWN.out; rw [readL_len] at this; exact this, hE⟩
set_option maxRecDepth 20000 in
set_option maxHeartbeats 4000000 in
theorem RMin_c (l : List Int) (v : Value) (w : World) (hv : IntsAt w v l) (h0 : 0 < l.length) (h1 : l.length ≤ 1000000) :
    Calls Tryz.prog 196 #[v] w fun e w' => e = .returned (.tuple #[.int .i64 (leastF (fun k => l.getD k 0) l.length), .bool true]) ∧ w = w' := by
  obtain ⟨g, off, cap, rfl, hg, hc⟩ := hv.slice h0
  obtain ⟨n, hn⟩ : ∃ n, l.length = n := ⟨_, rfl⟩
  rw [hn] at h0 h1 hc ⊢
  have HC := Lib.hid hc
  have HN := Lib.hid hn
  have d0 := hc 0 h0
  have hz : ((n : Int) == 0) = false := by simp; omega
  rw [Nat.add_zero] at d0
  obtain ⟨f, hf⟩ : ∃ f : Nat → Int, f = fun k => l.getD k 0 := ⟨_, rfl⟩
  have hf0 : l.getD 0 0 = f 0 := by rw [hf]
  have hfk : ∀ k, l.getD k 0 = f k := fun k => by rw [hf]
  rw [← hf]
  rw [hf0] at d0
  have HF := Lib.hid hfk
  clear hc hv hn hf hf0 hfk
  go_enter Tryz.func196, Tryz.ntmps196
  go_wp2
  go_loop [4, 5] (fun u4 u5 => ∃ k : Nat, k ≤ n ∧ u4 = .int .i64 (leastF f k) ∧ u5 = .int .i64 k) (fun _ u5 => n - (intOf u5).toNat)
  case atStart => exact ⟨0, Nat.zero_le _, rfl, rfl⟩
  case round =>
    obtain ⟨k, hk, rfl, rfl⟩ := hrel
    by_cases hlt : k < n
    · have d := HC.out k hlt
      rw [HF.out k] at d
      have hs := leastF_succ f k
      have HS := Lib.hid hs
      clear hs d0 hz
      generalize leastF f k = m at *
      generalize f k = y at *
      by_cases hy : y < m
      · have hmin : min m y = y := by omega
        rw [hmin] at HS
        go_wp2
        go_round
        case rel => exact ⟨k + 1, by omega, by rw [HS.out], by go_num⟩
        case measure => simp [intOf]; omega
      · have hmin : min m y = m := by omega
        have hy2 : decide (y < m) = false := by simp; omega
        have hy3 : m ≤ y := by omega
        rw [hmin] at HS
        clear hy
        go_wp2
        go_round
        case rel => exact ⟨k + 1, by omega, by rw [HS.out], by go_num⟩
        case measure => simp [intOf]; omega
    · obtain rfl : k = n := by omega
      clear d0 hz
      go_wp2
      go_ret2
      exact ⟨rfl, rfl⟩
theorem least_min {l : List Int} (h : 0 < l.length) : leastF (fun k => l.getD k 0) l.length = minL l := by
  obtain ⟨h1, h2⟩ := minL_spec l (by intro e; rw [e] at h; simp at h)
  obtain ⟨r, hr, hr2⟩ := leastF_mem (fun k => l.getD k 0) l.length h
  have h3 := h2 _ (getD_mem hr)
  obtain ⟨j, hj, hj2⟩ := List.getElem_of_mem h1
  have h4 := (leastF_le (fun k => l.getD k 0) l.length).2 j hj
  have h5 : l.getD j 0 = minL l := by simp [hj, hj2]
  rw [h5] at h4
  rw [hr2] at h4 ⊢
  omega
set_option maxRecDepth 20000 in
set_option maxHeartbeats 4000000 in
theorem RLeast_c (G : Gr) (R W : Nat) (l cs : List Int) (v : Value) (w : World) (h : RGAt w G R W l) (hv : IntsAt w v cs) (hm : Meets R W cs) :
    Calls Tryz.prog 158 #[.pointer (some ⟨G.g, 0, none⟩), v] w fun e w' => e = .returned (.tuple #[.int .i64 (minL (readL W l cs)), .int .i64 0]) ∧ Ext w w' := by
  have r1 := h.r1
  have r2 := h.r2
  have hlen : (readL W l cs).length = R := by rw [readL_len, hm.len]
  have HLEN := Lib.hid hlen
  have hle := least_min (l := readL W l cs) (by omega)
  have HLE := Lib.hid hle
  have hrl : cs.length = R := hm.len
  have HRL := Lib.hid hrl
  clear hlen hle hrl
  go_enter Tryz.func158, Tryz.ntmps158
  go_wp2_with fail
  refine Calls.mono (RRead_c G R W l cs v _ h hv hm) ?_
  rintro e w1 ⟨u, rfl, ho, hx1⟩
  rw [HRL.out] at ho
  have hi := IntsAt.of_row ho
  go_wp2_with fail
  refine Calls.mono (RMin_c _ u _ hi (by have := HLEN.out; omega) (by have := HLEN.out; omega)) ?_
  rintro e w2 ⟨rfl, rfl⟩
  rw [HLE.out]
  go_wp2_with fail
  go_ret2
  exact ⟨rfl, hx1⟩
end Go.Proofs.YtfhdjekpdifajaaGreat
namespace Go.Proofs.YtfhdjekpdifajaaGreat
set_option linter.unusedVariables false
open Go.RowKit
/-- Numbers that a slice may read. -/
def Src (W : World) (p : Option Addr) (l : List Int) : Prop := l = [] ∨ ∃ g off, p = some ⟨g, off, none⟩ ∧ g < W.heap.size ∧ ∀ k, k < l.length → W.cell? ⟨g, off + k, none⟩ = some (.int .i64 (l.getD k 0))
theorem Src.ext {W W' : World} {p : Option Addr} {l : List Int} (h : Src W p l) (he : Ext W W') : Src W' p l := by
  rcases h with h | ⟨g, off, h1, h2, h3⟩
  · exact .inl h
  · exact .inr ⟨g, off, h1, Nat.lt_of_lt_of_le h2 he.size, fun k hk => ((bcell he).1 _ _ h2).trans (h3 k hk)⟩
section
variable {P : Program}
end
end Go.Proofs.YtfhdjekpdifajaaGreat
namespace Go.Proofs.YtfhdjekpdifajaaGreat
set_option linter.unusedVariables false
open Go.RowKit
/-- A row of numbers in order, of the call's own. -/
structure SortAt (w W : World) (v : Value) (l s : List Int) : Prop where
  row : W.ownsRow w.heap.size 2 1 v s.length (ints s)
  sl : ∃ g cap, v = .slice (some ⟨g, 0, none⟩) s.length cap
  perm : s.Perm l
  ord : s.Pairwise (· ≤ ·)
theorem SortAt.ext {w W W' : World} {v : Value} {l s : List Int} (h : SortAt w W v l s) (he : Ext W W') : SortAt w W' v l s := ⟨own_ext h.row he, h.sl, h.perm, h.ord⟩
end Go.Proofs.YtfhdjekpdifajaaGreat
namespace Go.Proofs.YtfhdjekpdifajaaGreat
set_option linter.unusedVariables false
open Go.RowKit
theorem Mod.drewR {S : Nat → Prop} {a b : World} (h : Mod S a b) : Mod S a b.drew := h.trans (Ext.mod S (Below.drew (Ext.refl b)))
def RChangePost (w : World) (G : Gr) (R W : Nat) (cs l : List Int) (d : Int) (e : Ending) (w' : World) : Prop :=
  (fitsAll W cs l d R ∧ e = .returned (.int .i64 0) ∧ RGAt w' G R W (putK W cs (fun k => l.getD (at_ W cs k) 0 + d) R l) ∧ Mod (G.foot R) w w') ∨
  (¬ fitsAll W cs l d R ∧ e = .returned (.int .i64 4) ∧ Ext w w')
theorem map_snoc (f : Nat → Int) (k : Nat) : (List.range (k + 1)).map f = (List.range k).map f ++ [f k] := by rw [List.range_succ, List.map_append]; rfl
set_option maxRecDepth 20000 in
set_option maxHeartbeats 8000000 in
theorem RChange_c (G : Gr) (R W : Nat) (l cs : List Int) (v : Value) (d : Int) (w : World) (h : RGAt w G R W l) (hI : ∀ x ∈ l, I64 x) (hd : I64 d) (hv : IntsAt w v cs) (hm : Meets R W cs)
    (hne : ∀ g off n cap, v = .slice (some ⟨g, off, none⟩) n cap → ¬ G.foot R g) :
    Calls Tryz.prog 161 #[.pointer (some ⟨G.g, 0, none⟩), v, .int .i64 d] w (RChangePost w G R W cs l d) := by
  have r1 := h.r1
  have r2 := h.r2
  have hml := hm.len
  obtain ⟨vg, vo, vc, rfl, hg, hc⟩ := hv.slice (by rw [hm.len]; omega)
  have hgc := hne _ _ _ _ rfl
  rw [hml] at hc hv ⊢
  have HL := Lib.hid hml
  have HC := Lib.hid hc
  have HV := Lib.hid hv
  have HH := Lib.hid h
  have HM := Lib.hid hm
  have HI := Lib.hid hI
  have HD := Lib.hid hd
  have HGC := Lib.hid hgc
  clear hc hv h hm hml hI hne hd hgc
  obtain ⟨f, hf⟩ : ∃ f : Nat → Int, f = fun k => l.getD (at_ W cs k) 0 + d := ⟨_, rfl⟩
  have hfk : ∀ k, l.getD (at_ W cs k) 0 + d = f k := fun k => by rw [hf]
  have HFK := Lib.hid hfk
  unfold RChangePost
  rw [← hf]
  clear hf hfk
  go_enter Tryz.func161, Tryz.ntmps161
  go_wp2_with fail
  refine Calls.mono (RMeet_c G R W l cs _ _ HH.out HV.out HM.out) ?_
  rintro e w1 ⟨rfl, hx1⟩
  go_wp2_with fail
  go_loopw [7, 8] (fun u7 u8 wr => ∃ k : Nat, k ≤ R ∧ u8 = .int .i64 k ∧ wr.ownsRow w.heap.size 2 1 u7 ((List.range k).map f).length (ints ((List.range k).map f)) ∧ Ext w wr ∧ ∀ j, j < k → I64 (f j)) (fun _ u8 _ => R - (intOf u8).toNat)
  case atStart => exact ⟨0, Nat.zero_le _, rfl, own_mono (own_empty w1 2) hx1.size, hx1.allocR _, fun j hj => absurd hj (Nat.not_lt_zero _)⟩
  case round =>
    obtain ⟨k, hk, rfl, hown, hE, hall⟩ := hrel
    have HALL := Lib.hid hall
    have hsE := hE.size
    clear hall
    by_cases hlt : k < R
    · have hr := HH.out.ext hE
      obtain ⟨cap2, cg, hcap2⟩ := hr.cg
      have lg := hr.ltg
      have cm := hr.cm hlt
      have lm := hr.ltm
      have dd := ((bcell hE).1 _ _ hg).trans (HC.out k hlt)
      have ld : vg < wr.heap.size := Nat.lt_of_lt_of_le hg hE.size
      have l1 := HM.out.lo k hlt
      have l2 := HM.out.hi k hlt
      have hat : at_ W cs k = k * W + (cs.getD k 0).toNat := rfl
      have hfk := HFK.out k
      rw [hat] at hfk
      have HSN := Lib.hid (map_snoc f k)
      clear hat
      generalize cs.getD k 0 = y at *
      obtain ⟨y, rfl⟩ := Int.eq_ofNat_of_zero_le l1
      have cr := hr.cr hlt (k := y) (by omega)
      have lr := hr.ltr hlt
      have hyI := getD_i64 HI.out (k * W + y)
      have hfk' : l.getD (k * W + y) 0 + d = f k := hfk
      generalize l.getD (k * W + y) 0 = x at *
      have hl8 : ((List.range k).map f).length ≤ 8 := by rw [List.length_map, List.length_range]; omega
      generalize (List.range k).map f = pre at *
      have hy2 : y < W := by omega
      have HF := Lib.hid hfk'
      have HYI := Lib.hid hyI
      have HOWN := Lib.hid hown
      clear hr l1 l2 hfk hfk' hyI hown
      go_wp2_with fail
      have hC0 := af_drew wr
      refine pi_start (fun w' => ∃ z : After wr, w' = z.w) [] (by kernel_rfl) ?_
      refine pi_t 0 rfl (by kernel_rfl) (by kernel_rfl) (fun _ _ _ _ h => h) (fun K hK => ?_)
      go_big_quiet_op
      refine hK _ ?_
      clear hK K
      refine pi_t 1 rfl (by kernel_rfl) (by kernel_rfl) (fun _ _ _ _ h => h) (fun K hK => ?_)
      go_big_quiet_op
      refine hK _ ?_
      clear hK K
      refine pi_t 2 rfl (by kernel_rfl) (by kernel_rfl) (fun _ _ _ _ h => h) (fun K hK => ?_)
      go_big_quiet_op
      refine hK _ ?_
      clear hK K
      refine pi_t 4 rfl (by kernel_rfl) (by kernel_rfl) (fun _ _ _ _ h => h) (fun K hK => ?_)
      go_big_quiet_op
      refine hK _ ?_
      clear hK K
      refine pi_t 7 rfl (by kernel_rfl) (by kernel_rfl) (fun _ _ _ _ h => h) (fun K hK => ?_)
      go_big_quiet_op
      refine hK _ ?_
      clear hK K
      refine pi_t 8 rfl (by kernel_rfl) (by kernel_rfl) (fun _ _ _ _ h => h) (fun K hK => ?_)
      go_big_quiet_op
      refine hK _ ?_
      clear hK K
      refine pi_t 9 rfl (by kernel_rfl) (by kernel_rfl) (fun _ _ _ _ h => h) (fun K hK => ?_)
      go_big_quiet_op
      refine hK _ ?_
      clear hK K
      refine pi_t 13 rfl (by kernel_rfl) (by kernel_rfl) (fun _ _ _ _ h => h) (fun K hK => ?_)
      go_big_quiet_op
      refine hK _ ?_
      clear hK K
      refine pi_c 3 (by assumption) rfl (by kernel_rfl) (by kernel_rfl) (fun _ _ _ _ h => h) (fun K hK => ?_)
      go_big_quiet_op
      refine hK _ ?_
      clear hK K
      refine pi_t 5 rfl (by kernel_rfl) (by kernel_rfl) (fun _ _ _ _ h => h) (fun K hK => ?_)
      go_big_quiet_op
      refine hK _ ?_
      clear hK K
      refine pi_c 6 (by assumption) rfl (by kernel_rfl) (by kernel_rfl) (fun _ _ _ _ h => h) (fun K hK => ?_)
      go_big_quiet_op
      refine hK _ ?_
      clear hK K
      refine pi_c 10 (by assumption) rfl (by kernel_rfl) (by kernel_rfl) (fun _ _ _ _ h => h) (fun K hK => ?_)
      go_big_quiet_op
      refine hK _ ?_
      clear hK K
      refine pi_t 11 rfl (by kernel_rfl) (by kernel_rfl) (fun _ _ _ _ h => h) (fun K hK => ?_)
      go_big_quiet_op
      refine hK _ ?_
      clear hK K
      refine pi_c 12 (by assumption) rfl (by kernel_rfl) (by kernel_rfl) (fun _ _ _ _ h => h) (fun K hK => ?_)
      go_big_quiet_op
      refine hK _ ?_
      clear hK K
      refine pi_l 14 rfl (by kernel_rfl) (fun K hK => ?_)
      go_wp2_with fail
      refine Calls.mono (LAdd_c x d HYI.out HD.out _) ?_
      rintro e w3 ⟨rfl, hx3⟩
      rw [HF.out]
      have hE3 : Ext wr w3 := Ext.trans' (Below.drew (Ext.refl wr)) hx3
      go_wp2
      refine hK _ _ (fun _ h => af_step h hx3) ?_
      clear hK K
      refine pi_t 15 rfl (by kernel_rfl) (by kernel_rfl) (fun _ _ _ _ h => h) (fun K hK => ?_)
      go_big_quiet_op
      refine hK _ ?_
      clear hK K
      refine pi_t 16 rfl (by kernel_rfl) (by kernel_rfl) (fun _ _ _ _ h => h) (fun K hK => ?_)
      go_big_quiet_op
      refine hK _ ?_
      clear hK K
      refine pi_t 17 rfl (by kernel_rfl) (by kernel_rfl) (fun _ _ _ _ h => h) (fun K hK => ?_)
      go_big_quiet_op
      refine hK _ ?_
      clear hK K
      refine pi_t 18 rfl (by kernel_rfl) (by kernel_rfl) (fun _ _ _ _ h => h) (fun K hK => ?_)
      go_big_quiet_op
      refine hK _ ?_
      clear hK K
      refine pi_t 19 rfl (by kernel_rfl) (by kernel_rfl) (fun _ _ _ _ h => h) (fun K hK => ?_)
      go_big_quiet_op
      refine hK _ ?_
      clear hK K
      refine pi_end (by kernel_rfl) ?_
      by_cases hfit : I64 (f k)
      · have fb := fitB_yes hfit
        have fn := fitN_yes hfit
        rw [fb, fn]
        have hs3 := hE3.size
        have hown3 := own_ext HOWN.out hE3
        clear fb fn
        go_wp2_with (at_builtin; refine wpList_app1 w3 (f k) pre u7 w.heap.size 2 hown3 43 rfl _ _ rfl info_i64 Tryz.underlying43 rfl rfl ?a1 ?a2 ?_)
        case a1 => omega
        case a2 => omega
        intro v' w' g1 g2 g3
        have hE4 : Ext w w' := ext_grown (hE.trans' hE3) g2 (fun i hi => own_blk hown3 hi)
        have G1 := Lib.hid g1
        clear g1 g2 g3 hown3
        go_wp2
        go_roundw
        case rel =>
          refine ⟨k + 1, by omega, by go_num, by rw [HSN.out, List.length_append]; exact G1.out, hE4, fun j hj => ?_⟩
          by_cases e : j = k
          · rw [e]; exact hfit
          · exact HALL.out j (by omega)
        case measure => simp [intOf]; omega
      · have fb := fitB_no hfit
        rw [fb]
        clear fb
        go_wp2
        go_ret
        exact .inr ⟨fun ha => hfit (by rw [← HFK.out k]; exact ha k hlt), rfl, hE.trans' hE3⟩
    · obtain rfl : k = R := by omega
      rename World => wo
      have hints := IntsAt.of_row hown
      have hlen : ((List.range k).map f).length = k := by simp
      obtain ⟨og, oo, oc, rfl, hog, hoc⟩ := hints.slice (by omega)
      have hob := own_blk hown (k := og) rfl
      rw [hlen] at hoc
      have HOC := Lib.hid hoc
      have HR0 := Lib.hid (HH.out.ext hE)
      rw [hlen]
      have HRG := Lib.hid (show ∀ j, j < k → ((List.range k).map f).getD j 0 = f j from fun j hj => by simp [hj])
      clear hown hints hoc hlen
      go_wp2_with fail
      go_loopw [11] (fun u wr => ∃ j : Nat, j ≤ k ∧ u = .int .i64 j ∧ RGAt wr G k W (putK W cs f j l) ∧ Mod (G.foot k) wo wr) (fun u _ => k - (intOf u).toNat)
      case atStart => exact ⟨0, Nat.zero_le _, rfl, HR0.out, Mod.refl _ _⟩
      case round =>
        obtain ⟨j, hj, rfl, hr, hM⟩ := hrel
        have hsM := hM.size
        by_cases hlt : j < k
        · obtain ⟨cap2, cg, hcap2⟩ := hr.cg
          have lg := hr.ltg
          have cm := hr.cm hlt
          have lm := hr.ltm
          have hgE : vg < wo.heap.size := Nat.lt_of_lt_of_le hg hsE
          have dd := (mcell hM hgE HGC.out _).trans (((bcell hE).1 _ _ hg).trans (HC.out j hlt))
          have ld : vg < wr.heap.size := Nat.lt_of_lt_of_le hgE hsM
          have hno : ¬ G.foot k og := fun hf => by have := HH.out.lt hf; omega
          have oo1 := (mcell hM hog hno _).trans (HOC.out j hlt)
          rw [HRG.out j hlt] at oo1
          have lo : og < wr.heap.size := Nat.lt_of_lt_of_le hog hsM
          have l1 := HM.out.lo j hlt
          have l2 := HM.out.hi j hlt
          have hat : at_ W cs j = j * W + (cs.getD j 0).toNat := rfl
          have hput : putK W cs f (j + 1) l = (putK W cs f j l).set (at_ W cs j) (f j) := rfl
          rw [hat] at hput
          clear hat
          generalize cs.getD j 0 = y at *
          obtain ⟨y, rfl⟩ := Int.eq_ofNat_of_zero_le l1
          have hy2 : y < W := by omega
          have cr := hr.cr hlt hy2
          have lr := hr.ltr hlt
          have fr := hr.fr hlt y
          have hput' : putK W cs f (j + 1) l = (putK W cs f j l).set (j * W + y) (f j) := hput
          have HPUT := Lib.hid hput'
          have HR := Lib.hid hr
          clear hput hput' hr l1 l2
          generalize f j = x at *
          generalize (putK W cs f j l).getD (j * W + y) 0 = x0 at *
          go_wp2_with fail
          have hC0 := af_drew wr
          refine pi_start (fun w' => ∃ z : After wr, w' = z.w) [16] (by kernel_rfl) ?_
          refine pi_t 0 rfl (by kernel_rfl) (by kernel_rfl) (fun _ _ _ _ h => h) (fun K hK => ?_)
          go_big_quiet_op
          refine hK _ ?_
          clear hK K
          refine pi_t 1 rfl (by kernel_rfl) (by kernel_rfl) (fun _ _ _ _ h => h) (fun K hK => ?_)
          go_big_quiet_op
          refine hK _ ?_
          clear hK K
          refine pi_t 2 rfl (by kernel_rfl) (by kernel_rfl) (fun _ _ _ _ h => h) (fun K hK => ?_)
          go_big_quiet_op
          refine hK _ ?_
          clear hK K
          refine pi_t 4 rfl (by kernel_rfl) (by kernel_rfl) (fun _ _ _ _ h => h) (fun K hK => ?_)
          go_big_quiet_op
          refine hK _ ?_
          clear hK K
          refine pi_t 7 rfl (by kernel_rfl) (by kernel_rfl) (fun _ _ _ _ h => h) (fun K hK => ?_)
          go_big_quiet_op
          refine hK _ ?_
          clear hK K
          refine pi_t 8 rfl (by kernel_rfl) (by kernel_rfl) (fun _ _ _ _ h => h) (fun K hK => ?_)
          go_big_quiet_op
          refine hK _ ?_
          clear hK K
          refine pi_t 9 rfl (by kernel_rfl) (by kernel_rfl) (fun _ _ _ _ h => h) (fun K hK => ?_)
          go_big_quiet_op
          refine hK _ ?_
          clear hK K
          refine pi_t 11 rfl (by kernel_rfl) (by kernel_rfl) (fun _ _ _ _ h => h) (fun K hK => ?_)
          go_big_quiet_op
          refine hK _ ?_
          clear hK K
          refine pi_t 12 rfl (by kernel_rfl) (by kernel_rfl) (fun _ _ _ _ h => h) (fun K hK => ?_)
          go_big_quiet_op
          refine hK _ ?_
          clear hK K
          refine pi_t 13 rfl (by kernel_rfl) (by kernel_rfl) (fun _ _ _ _ h => h) (fun K hK => ?_)
          go_big_quiet_op
          refine hK _ ?_
          clear hK K
          refine pi_c 3 (by assumption) rfl (by kernel_rfl) (by kernel_rfl) (fun _ _ _ _ h => h) (fun K hK => ?_)
          go_big_quiet_op
          refine hK _ ?_
          clear hK K
          refine pi_t 5 rfl (by kernel_rfl) (by kernel_rfl) (fun _ _ _ _ h => h) (fun K hK => ?_)
          go_big_quiet_op
          refine hK _ ?_
          clear hK K
          refine pi_c 6 (by assumption) rfl (by kernel_rfl) (by kernel_rfl) (fun _ _ _ _ h => h) (fun K hK => ?_)
          go_big_quiet_op
          refine hK _ ?_
          clear hK K
          refine pi_c 10 (by assumption) rfl (by kernel_rfl) (by kernel_rfl) (fun _ _ _ _ h => h) (fun K hK => ?_)
          go_big_quiet_op
          refine hK _ ?_
          clear hK K
          refine pi_c 14 (by assumption) rfl (by kernel_rfl) (by kernel_rfl) (fun _ _ _ _ h => h) (fun K hK => ?_)
          go_big_quiet_op
          refine hK _ ?_
          clear hK K
          refine pi_t 15 rfl (by kernel_rfl) (by kernel_rfl) (fun _ _ _ _ h => h) (fun K hK => ?_)
          go_big_quiet_op
          refine hK _ ?_
          clear hK K
          refine pi_l 16 rfl (by kernel_rfl) (fun K hK => ?_)
          go_wp2
          refine hK _ _ (by simp) ?_
          clear hK K
          refine pi_end (by kernel_rfl) ?_
          go_wp2_with fail
          go_roundw
          case rel =>
            refine ⟨j + 1, by omega, by go_num, ?_, (hM.trans (mod_rset hlt y _)).drewR⟩
            rw [HPUT.out]
            exact (HR.out.set hlt hy2 x).keep (fun _ _ => rfl)
          case measure => simp [intOf]; omega
        · obtain rfl : j = k := by omega
          go_wp2
          go_ret
          exact .inl ⟨fun i hi => by rw [HFK.out]; exact HALL.out i hi, rfl, hr, (hE.mod _).trans hM⟩
end Go.Proofs.YtfhdjekpdifajaaGreat
namespace Go.Proofs.YtfhdjekpdifajaaGreat
set_option linter.unusedVariables false
open Go.RowKit
def RRaisePost (w : World) (G : Gr) (R W : Nat) (cs l : List Int) (d : Int) (e : Ending) (w' : World) : Prop :=
  (d < 0 ∧ e = .returned (.int .i64 3) ∧ Ext w w') ∨
  (0 ≤ d ∧ ((I64 (minL (readL W l cs) + d) ∧ e = .returned (.int .i64 0) ∧ RGAt w' G R W (putK W cs (fun k => max (l.getD (at_ W cs k) 0) (minL (readL W l cs) + d)) R l) ∧ Mod (G.foot R) w w') ∨
    (¬ I64 (minL (readL W l cs) + d) ∧ e = .returned (.int .i64 4) ∧ Ext w w')))
set_option maxRecDepth 20000 in
set_option maxHeartbeats 8000000 in
theorem RRaise_c (G : Gr) (R W : Nat) (l cs : List Int) (v : Value) (d : Int) (w : World) (h : RGAt w G R W l) (hI : ∀ x ∈ l, I64 x) (hd : I64 d) (hv : IntsAt w v cs) (hm : Meets R W cs)
    (hne : ∀ g off n cap, v = .slice (some ⟨g, off, none⟩) n cap → ¬ G.foot R g) :
    Calls Tryz.prog 160 #[.pointer (some ⟨G.g, 0, none⟩), v, .int .i64 d] w (RRaisePost w G R W cs l d) := by
  have r1 := h.r1
  have r2 := h.r2
  have hml := hm.len
  obtain ⟨vg, vo, vc, rfl, hg, hc⟩ := hv.slice (by rw [hm.len]; omega)
  have hgc := hne _ _ _ _ rfl
  rw [hml] at hc hv ⊢
  have hmI : I64 (minL (readL W l cs)) := by
    have hne' : readL W l cs ≠ [] := by
      intro e
      have := readL_len W l cs
      rw [e, hml] at this
      simp at this; omega
    have := (minL_spec _ hne').1
    simp only [readL, List.mem_map] at this
    obtain ⟨j, _, hj⟩ := this
    rw [← show l.getD (at_ W cs j) 0 = minL (readL W l cs) from hj]
    exact getD_i64 hI _
  have HC := Lib.hid hc
  have HV := Lib.hid hv
  have HH := Lib.hid h
  have HM := Lib.hid hm
  have HD := Lib.hid hd
  have HGC := Lib.hid hgc
  have HMI := Lib.hid hmI
  have HLE := Lib.hid (show ∀ w' : World, Ext w w' → Calls Tryz.prog 158 #[.pointer (some ⟨G.g, 0, none⟩), .slice (some ⟨vg, vo, none⟩) R vc] w' fun e w'' => e = .returned (.tuple #[.int .i64 (minL (readL W l cs)), .int .i64 0]) ∧ Ext w' w'' from
    fun w' hw => RLeast_c G R W l cs _ w' (h.ext hw) (hv.ext hw) hm)
  unfold RRaisePost
  generalize minL (readL W l cs) = mn at *
  clear hc hv h hm hml hI hne hd hgc hmI
  go_enter Tryz.func160, Tryz.ntmps160
  go_wp2_with fail
  refine Calls.mono (HLE.out _ (Ext.refl _)) ?_
  rintro e w1 ⟨rfl, hx1⟩
  clear HLE
  by_cases hdn : d < 0
  · go_wp2
    go_ret
    exact .inl ⟨hdn, rfl, hx1⟩
  · have hd0 : 0 ≤ d := by omega
    have hdb : decide (d < 0) = false := by simp; omega
    clear hdn
    go_wp2_with fail
    refine Calls.mono (LAdd_c mn d HMI.out HD.out _) ?_
    rintro e w2 ⟨rfl, hx2⟩
    have hE2 : Ext w w2 := hx1.trans' hx2
    by_cases hfit : I64 (mn + d)
    · have fb := fitB_yes hfit
      have fn := fitN_yes hfit
      rw [fb, fn]
      have HFIT := Lib.hid hfit
      have HN : Hid (∀ j, j < R → (putK W cs (fun k => max (l.getD (at_ W cs k) 0) (mn + d)) j l).getD (at_ W cs j) 0 = l.getD (at_ W cs j) 0) := Lib.hid fun j hj => putK_far HM.out l hj j (Nat.le_refl _)
      obtain ⟨f, hf⟩ : ∃ f : Nat → Int, f = fun k => max (l.getD (at_ W cs k) 0) (mn + d) := ⟨_, rfl⟩
      have HFK := Lib.hid (show ∀ k, f k = max (l.getD (at_ W cs k) 0) (mn + d) from fun k => by rw [hf])
      rw [← hf] at HN
      have HFD := Lib.hid hf
      obtain ⟨n, hn⟩ : ∃ n, mn + d = n := ⟨_, rfl⟩
      have HNN := Lib.hid hn
      rw [hn]
      rw [hn] at HFK
      clear fb fn hx1 hx2 hf hfit hn
      go_wp2_with fail
      go_loopw [11] (fun u wr => ∃ j : Nat, j ≤ R ∧ u = .int .i64 j ∧ RGAt wr G R W (putK W cs f j l) ∧ Mod (G.foot R) w wr) (fun u _ => R - (intOf u).toNat)
      case atStart => exact ⟨0, Nat.zero_le _, rfl, HH.out.ext hE2, hE2.mod _⟩
      case round =>
        obtain ⟨j, hj, rfl, hr, hM⟩ := hrel
        have hsM := hM.size
        by_cases hlt : j < R
        · obtain ⟨cap2, cg, hcap2⟩ := hr.cg
          have lg := hr.ltg
          have cm := hr.cm hlt
          have lm := hr.ltm
          have dd := (mcell hM hg HGC.out _).trans (HC.out j hlt)
          have ld : vg < wr.heap.size := Nat.lt_of_lt_of_le hg hsM
          have l1 := HM.out.lo j hlt
          have l2 := HM.out.hi j hlt
          have hat : at_ W cs j = j * W + (cs.getD j 0).toNat := rfl
          have hput : putK W cs f (j + 1) l = (putK W cs f j l).set (at_ W cs j) (f j) := rfl
          have hfar := HN.out j hlt
          have hfk := HFK.out j
          rw [← hfar, hat] at hfk
          rw [hat] at hput
          clear hat hfar
          generalize cs.getD j 0 = y at *
          obtain ⟨y, rfl⟩ := Int.eq_ofNat_of_zero_le l1
          have hy2 : y < W := by omega
          have cr := hr.cr hlt hy2
          have lr := hr.ltr hlt
          have fr := hr.fr hlt y
          have HPUT := Lib.hid (show putK W cs f (j + 1) l = (putK W cs f j l).set (j * W + y) (f j) from hput)
          have hfk' : f j = max ((putK W cs f j l).getD (j * W + y) 0) n := hfk
          have HF := Lib.hid hfk'
          have HR := Lib.hid hr
          clear hput hr l1 l2 hfk hfk'
          generalize f j = x at *
          generalize (putK W cs f j l).getD (j * W + y) 0 = x0 at *
          by_cases hlx : x0 < n
          · have hmx : x = n := by rw [HF.out]; omega
            have hb : decide (x0 < n) = true := by simp [hlx]
            have hb2 : (n < x0) = False := by simp; omega
            have HMX := Lib.hid hmx
            clear hmx
            go_wp2_with fail
            have hC0 := af_drew wr
            refine pi_start (fun w' => ∃ z : After wr, w' = z.w) [27] (by kernel_rfl) ?_
            refine pi_t 0 rfl (by kernel_rfl) (by kernel_rfl) (fun _ _ _ _ h => h) (fun K hK => ?_)
            go_big_quiet_op
            refine hK _ ?_
            clear hK K
            refine pi_t 1 rfl (by kernel_rfl) (by kernel_rfl) (fun _ _ _ _ h => h) (fun K hK => ?_)
            go_big_quiet_op
            refine hK _ ?_
            clear hK K
            refine pi_t 2 rfl (by kernel_rfl) (by kernel_rfl) (fun _ _ _ _ h => h) (fun K hK => ?_)
            go_big_quiet_op
            refine hK _ ?_
            clear hK K
            refine pi_t 4 rfl (by kernel_rfl) (by kernel_rfl) (fun _ _ _ _ h => h) (fun K hK => ?_)
            go_big_quiet_op
            refine hK _ ?_
            clear hK K
            refine pi_t 7 rfl (by kernel_rfl) (by kernel_rfl) (fun _ _ _ _ h => h) (fun K hK => ?_)
            go_big_quiet_op
            refine hK _ ?_
            clear hK K
            refine pi_t 8 rfl (by kernel_rfl) (by kernel_rfl) (fun _ _ _ _ h => h) (fun K hK => ?_)
            go_big_quiet_op
            refine hK _ ?_
            clear hK K
            refine pi_t 9 rfl (by kernel_rfl) (by kernel_rfl) (fun _ _ _ _ h => h) (fun K hK => ?_)
            go_big_quiet_op
            refine hK _ ?_
            clear hK K
            refine pi_t 11 rfl (by kernel_rfl) (by kernel_rfl) (fun _ _ _ _ h => h) (fun K hK => ?_)
            go_big_quiet_op
            refine hK _ ?_
            clear hK K
            refine pi_t 12 rfl (by kernel_rfl) (by kernel_rfl) (fun _ _ _ _ h => h) (fun K hK => ?_)
            go_big_quiet_op
            refine hK _ ?_
            clear hK K
            refine pi_t 13 rfl (by kernel_rfl) (by kernel_rfl) (fun _ _ _ _ h => h) (fun K hK => ?_)
            go_big_quiet_op
            refine hK _ ?_
            clear hK K
            refine pi_t 15 rfl (by kernel_rfl) (by kernel_rfl) (fun _ _ _ _ h => h) (fun K hK => ?_)
            go_big_quiet_op
            refine hK _ ?_
            clear hK K
            refine pi_t 18 rfl (by kernel_rfl) (by kernel_rfl) (fun _ _ _ _ h => h) (fun K hK => ?_)
            go_big_quiet_op
            refine hK _ ?_
            clear hK K
            refine pi_t 19 rfl (by kernel_rfl) (by kernel_rfl) (fun _ _ _ _ h => h) (fun K hK => ?_)
            go_big_quiet_op
            refine hK _ ?_
            clear hK K
            refine pi_t 20 rfl (by kernel_rfl) (by kernel_rfl) (fun _ _ _ _ h => h) (fun K hK => ?_)
            go_big_quiet_op
            refine hK _ ?_
            clear hK K
            refine pi_t 24 rfl (by kernel_rfl) (by kernel_rfl) (fun _ _ _ _ h => h) (fun K hK => ?_)
            go_big_quiet_op
            refine hK _ ?_
            clear hK K
            refine pi_c 3 (by assumption) rfl (by kernel_rfl) (by kernel_rfl) (fun _ _ _ _ h => h) (fun K hK => ?_)
            go_big_quiet_op
            refine hK _ ?_
            clear hK K
            refine pi_t 5 rfl (by kernel_rfl) (by kernel_rfl) (fun _ _ _ _ h => h) (fun K hK => ?_)
            go_big_quiet_op
            refine hK _ ?_
            clear hK K
            refine pi_c 6 (by assumption) rfl (by kernel_rfl) (by kernel_rfl) (fun _ _ _ _ h => h) (fun K hK => ?_)
            go_big_quiet_op
            refine hK _ ?_
            clear hK K
            refine pi_c 10 (by assumption) rfl (by kernel_rfl) (by kernel_rfl) (fun _ _ _ _ h => h) (fun K hK => ?_)
            go_big_quiet_op
            refine hK _ ?_
            clear hK K
            refine pi_c 14 (by assumption) rfl (by kernel_rfl) (by kernel_rfl) (fun _ _ _ _ h => h) (fun K hK => ?_)
            go_big_quiet_op
            refine hK _ ?_
            clear hK K
            refine pi_t 16 rfl (by kernel_rfl) (by kernel_rfl) (fun _ _ _ _ h => h) (fun K hK => ?_)
            go_big_quiet_op
            refine hK _ ?_
            clear hK K
            refine pi_c 17 (by assumption) rfl (by kernel_rfl) (by kernel_rfl) (fun _ _ _ _ h => h) (fun K hK => ?_)
            go_big_quiet_op
            refine hK _ ?_
            clear hK K
            refine pi_c 21 (by assumption) rfl (by kernel_rfl) (by kernel_rfl) (fun _ _ _ _ h => h) (fun K hK => ?_)
            go_big_quiet_op
            refine hK _ ?_
            clear hK K
            refine pi_t 22 rfl (by kernel_rfl) (by kernel_rfl) (fun _ _ _ _ h => h) (fun K hK => ?_)
            go_big_quiet_op
            refine hK _ ?_
            clear hK K
            refine pi_c 23 (by assumption) rfl (by kernel_rfl) (by kernel_rfl) (fun _ _ _ _ h => h) (fun K hK => ?_)
            go_big_quiet_op
            refine hK _ ?_
            clear hK K
            refine pi_t 25 rfl (by kernel_rfl) (by kernel_rfl) (fun _ _ _ _ h => h) (fun K hK => ?_)
            go_big_quiet_op
            refine hK _ ?_
            clear hK K
            refine pi_t 26 rfl (by kernel_rfl) (by kernel_rfl) (fun _ _ _ _ h => h) (fun K hK => ?_)
            go_big_quiet_op
            refine hK _ ?_
            clear hK K
            refine pi_l 27 rfl (by kernel_rfl) (fun K hK => ?_)
            go_wp2
            refine hK _ _ (by simp) ?_
            clear hK K
            refine pi_end (by kernel_rfl) ?_
            go_wp2_with fail
            go_roundw
            case rel =>
              refine ⟨j + 1, by omega, by go_num, ?_, (hM.trans (mod_rset hlt y _)).drewR⟩
              rw [HPUT.out, HMX.out]
              exact (HR.out.set hlt hy2 n).keep (fun _ _ => rfl)
            case measure => simp [intOf]; omega
          · have hmx : x = x0 := by rw [HF.out]; omega
            have hb : decide (x0 < n) = false := by simp; omega
            have hb2 : (x0 < n) = False := by simp; omega
            have hb3 : n ≤ x0 := by omega
            have HMX := Lib.hid hmx
            clear hmx hlx
            go_wp2_with fail
            have hC0 := af_drew wr
            refine pi_start (fun w' => ∃ z : After wr, w' = z.w) [27] (by kernel_rfl) ?_
            refine pi_t 0 rfl (by kernel_rfl) (by kernel_rfl) (fun _ _ _ _ h => h) (fun K hK => ?_)
            go_big_quiet_op
            refine hK _ ?_
            clear hK K
            refine pi_t 1 rfl (by kernel_rfl) (by kernel_rfl) (fun _ _ _ _ h => h) (fun K hK => ?_)
            go_big_quiet_op
            refine hK _ ?_
            clear hK K
            refine pi_t 2 rfl (by kernel_rfl) (by kernel_rfl) (fun _ _ _ _ h => h) (fun K hK => ?_)
            go_big_quiet_op
            refine hK _ ?_
            clear hK K
            refine pi_t 4 rfl (by kernel_rfl) (by kernel_rfl) (fun _ _ _ _ h => h) (fun K hK => ?_)
            go_big_quiet_op
            refine hK _ ?_
            clear hK K
            refine pi_t 7 rfl (by kernel_rfl) (by kernel_rfl) (fun _ _ _ _ h => h) (fun K hK => ?_)
            go_big_quiet_op
            refine hK _ ?_
            clear hK K
            refine pi_t 8 rfl (by kernel_rfl) (by kernel_rfl) (fun _ _ _ _ h => h) (fun K hK => ?_)
            go_big_quiet_op
            refine hK _ ?_
            clear hK K
            refine pi_t 9 rfl (by kernel_rfl) (by kernel_rfl) (fun _ _ _ _ h => h) (fun K hK => ?_)
            go_big_quiet_op
            refine hK _ ?_
            clear hK K
            refine pi_t 11 rfl (by kernel_rfl) (by kernel_rfl) (fun _ _ _ _ h => h) (fun K hK => ?_)
            go_big_quiet_op
            refine hK _ ?_
            clear hK K
            refine pi_t 12 rfl (by kernel_rfl) (by kernel_rfl) (fun _ _ _ _ h => h) (fun K hK => ?_)
            go_big_quiet_op
            refine hK _ ?_
            clear hK K
            refine pi_t 13 rfl (by kernel_rfl) (by kernel_rfl) (fun _ _ _ _ h => h) (fun K hK => ?_)
            go_big_quiet_op
            refine hK _ ?_
            clear hK K
            refine pi_t 15 rfl (by kernel_rfl) (by kernel_rfl) (fun _ _ _ _ h => h) (fun K hK => ?_)
            go_big_quiet_op
            refine hK _ ?_
            clear hK K
            refine pi_t 18 rfl (by kernel_rfl) (by kernel_rfl) (fun _ _ _ _ h => h) (fun K hK => ?_)
            go_big_quiet_op
            refine hK _ ?_
            clear hK K
            refine pi_t 19 rfl (by kernel_rfl) (by kernel_rfl) (fun _ _ _ _ h => h) (fun K hK => ?_)
            go_big_quiet_op
            refine hK _ ?_
            clear hK K
            refine pi_t 20 rfl (by kernel_rfl) (by kernel_rfl) (fun _ _ _ _ h => h) (fun K hK => ?_)
            go_big_quiet_op
            refine hK _ ?_
            clear hK K
            refine pi_t 24 rfl (by kernel_rfl) (by kernel_rfl) (fun _ _ _ _ h => h) (fun K hK => ?_)
            go_big_quiet_op
            refine hK _ ?_
            clear hK K
            refine pi_c 3 (by assumption) rfl (by kernel_rfl) (by kernel_rfl) (fun _ _ _ _ h => h) (fun K hK => ?_)
            go_big_quiet_op
            refine hK _ ?_
            clear hK K
            refine pi_t 5 rfl (by kernel_rfl) (by kernel_rfl) (fun _ _ _ _ h => h) (fun K hK => ?_)
            go_big_quiet_op
            refine hK _ ?_
            clear hK K
            refine pi_c 6 (by assumption) rfl (by kernel_rfl) (by kernel_rfl) (fun _ _ _ _ h => h) (fun K hK => ?_)
            go_big_quiet_op
            refine hK _ ?_
            clear hK K
            refine pi_c 10 (by assumption) rfl (by kernel_rfl) (by kernel_rfl) (fun _ _ _ _ h => h) (fun K hK => ?_)
            go_big_quiet_op
            refine hK _ ?_
            clear hK K
            refine pi_c 14 (by assumption) rfl (by kernel_rfl) (by kernel_rfl) (fun _ _ _ _ h => h) (fun K hK => ?_)
            go_big_quiet_op
            refine hK _ ?_
            clear hK K
            refine pi_t 16 rfl (by kernel_rfl) (by kernel_rfl) (fun _ _ _ _ h => h) (fun K hK => ?_)
            go_big_quiet_op
            refine hK _ ?_
            clear hK K
            refine pi_c 17 (by assumption) rfl (by kernel_rfl) (by kernel_rfl) (fun _ _ _ _ h => h) (fun K hK => ?_)
            go_big_quiet_op
            refine hK _ ?_
            clear hK K
            refine pi_c 21 (by assumption) rfl (by kernel_rfl) (by kernel_rfl) (fun _ _ _ _ h => h) (fun K hK => ?_)
            go_big_quiet_op
            refine hK _ ?_
            clear hK K
            refine pi_t 22 rfl (by kernel_rfl) (by kernel_rfl) (fun _ _ _ _ h => h) (fun K hK => ?_)
            go_big_quiet_op
            refine hK _ ?_
            clear hK K
            refine pi_c 23 (by assumption) rfl (by kernel_rfl) (by kernel_rfl) (fun _ _ _ _ h => h) (fun K hK => ?_)
            go_big_quiet_op
            refine hK _ ?_
            clear hK K
            refine pi_t 25 rfl (by kernel_rfl) (by kernel_rfl) (fun _ _ _ _ h => h) (fun K hK => ?_)
            go_big_quiet_op
            refine hK _ ?_
            clear hK K
            refine pi_t 26 rfl (by kernel_rfl) (by kernel_rfl) (fun _ _ _ _ h => h) (fun K hK => ?_)
            go_big_quiet_op
            refine hK _ ?_
            clear hK K
            refine pi_l 27 rfl (by kernel_rfl) (fun K hK => ?_)
            go_wp2
            refine hK _ _ (by simp) ?_
            clear hK K
            refine pi_end (by kernel_rfl) ?_
            go_wp2_with fail
            go_roundw
            case rel =>
              refine ⟨j + 1, by omega, by go_num, ?_, (hM.trans (mod_rset hlt y _)).drewR⟩
              rw [HPUT.out, HMX.out]
              exact (HR.out.set hlt hy2 x0).keep (fun _ _ => rfl)
            case measure => simp [intOf]; omega
        · obtain rfl : j = R := by omega
          go_wp2
          go_ret
          rw [HFD.out] at hr
          exact .inr ⟨hd0, .inl ⟨HFIT.out, rfl, hr, hM⟩⟩
    · have fb := fitB_no hfit
      rw [fb]
      clear fb
      go_wp2
      go_ret
      exact .inr ⟨hd0, .inr ⟨hfit, rfl, hE2⟩⟩
end Go.Proofs.YtfhdjekpdifajaaGreat
namespace Go.Proofs.YtfhdjekpdifajaaGreat
set_option linter.unusedVariables false
open Go.RowKit
theorem times_odd {o x y A B : Int} (hy : y % 2 = 1) (h : (o + x * y) % 18446744073709551616 = (A * B) % 18446744073709551616) :
    ((o + x) % 18446744073709551616 + (x + x) % 18446744073709551616 * (y / 2)) % 18446744073709551616 = (A * B) % 18446744073709551616 := by
  rw [← h, Int.add_emod, Int.emod_emod_of_dvd _ (Int.dvd_refl _), Int.mul_emod, Int.emod_emod_of_dvd _ (Int.dvd_refl _), ← Int.mul_emod, ← Int.add_emod]
  congr 1
  have : y = 2 * (y / 2) + 1 := by omega
  generalize y / 2 = q at *
  subst this
  rw [Int.mul_add, Int.mul_one, ← Int.mul_assoc, Int.mul_comm x 2, Int.add_assoc, Int.add_comm x, show x + x = 2 * x by omega]
theorem times_even {o x y A B : Int} (hy : y % 2 = 0) (h : (o + x * y) % 18446744073709551616 = (A * B) % 18446744073709551616) :
    (o + (x + x) % 18446744073709551616 * (y / 2)) % 18446744073709551616 = (A * B) % 18446744073709551616 := by
  rw [← h, Int.add_emod, Int.mul_emod, Int.emod_emod_of_dvd _ (Int.dvd_refl _), ← Int.mul_emod, ← Int.add_emod]
  congr 1
  have : y = 2 * (y / 2) := by omega
  generalize y / 2 = q at *
  subst this
  rw [← Int.mul_assoc, Int.mul_comm x 2, show x + x = 2 * x by omega]
set_option maxRecDepth 20000 in
set_option maxHeartbeats 2000000 in
theorem times_c (A B : Int) (hA : U64 A) (hB : U64 B) (w : World) :
    Calls Tryz.prog 228 #[.int .u64 A, .int .u64 B] w fun e w' => e = .returned (.int .u64 (wu (A * B))) ∧ Ext w w' := by
  have hAB : wu (A * B) = (A * B) % 18446744073709551616 := by unfold wu; rw [IntKind.wrap_u64]
  have HAB := Lib.hid hAB
  clear hAB
  go_enter Tryz.func228, Tryz.ntmps228
  go_wp2
  go_loop [5, 0, 1] (fun p u v => ∃ (o x y : Int), p = .int .u64 o ∧ u = .int .u64 x ∧ v = .int .u64 y ∧ U64 o ∧ U64 x ∧ U64 y ∧ (o + x * y) % 18446744073709551616 = (A * B) % 18446744073709551616) (fun _ _ v => (intOf v).toNat)
  case atStart => exact ⟨0, A, B, rfl, rfl, rfl, by unfold U64; omega, hA, hB, by rw [Int.zero_add]⟩
  case round =>
    obtain ⟨o, x, y, rfl, rfl, rfl, ho, hx, hy, hI⟩ := hrel
    have HI := Lib.hid hI
    clear hI
    obtain ⟨o0, o1⟩ := ho
    obtain ⟨x0, x1⟩ := hx
    obtain ⟨y0, y1⟩ := hy
    by_cases hgo : 0 < y
    · rcases (by omega : y % 2 = 0 ∨ y % 2 = 1) with hp | hp
      · have hpt : y.tmod 2 = 0 := by rw [Int.tmod_eq_emod_of_nonneg y0]; exact hp
        go_wp2
        go_round
        case rel =>
          refine ⟨o, _, _, rfl, rfl, rfl, ⟨o0, o1⟩, wu_u _, ?_, ?_⟩
          · unfold U64; omega
          · have := times_even hp HI.out
            simpa only [IntKind.wrap_u64] using this
        case measure => simp [intOf]; omega
      · have hpt : y.tmod 2 = 1 := by rw [Int.tmod_eq_emod_of_nonneg y0]; exact hp
        go_wp2
        go_round
        case rel =>
          refine ⟨_, _, _, rfl, rfl, rfl, wu_u _, wu_u _, ?_, ?_⟩
          · unfold U64; omega
          · have := times_odd hp HI.out
            simpa only [IntKind.wrap_u64] using this
        case measure => simp [intOf]; omega
    · go_wp2
      go_ret
      have : y = 0 := by omega
      subst this
      have h2 := HI.out
      rw [Int.mul_zero, Int.add_zero, Int.emod_eq_of_lt o0 (by omega)] at h2
      exact ⟨by rw [HAB.out, ← h2]; rfl, Ext.refl _⟩
end Go.Proofs.YtfhdjekpdifajaaGreat
namespace Go.Proofs.YtfhdjekpdifajaaGreat
set_option linter.unusedVariables false
open Go.RowKit
theorem or_swap (x y : Int) : bits BinOp.or IntKind.u64 x y = bits BinOp.or IntKind.u64 y x := by
  show IntKind.u64.wrap ((BitVec.ofInt 64 x ||| BitVec.ofInt 64 y).toNat : Int) = IntKind.u64.wrap ((BitVec.ofInt 64 y ||| BitVec.ofInt 64 x).toNat : Int)
  rw [BitVec.or_comm]
theorem bit_and {Z : Nat} (hZ : Z < 18446744073709551616) (i : Nat) : bits BinOp.and IntKind.u64 ((Z : Int) / 2 ^ i) 1 = ((Z.testBit i).toNat : Nat) := by
  have e : (Z : Int) / 2 ^ i = ((Z / 2 ^ i : Nat) : Int) := by push_cast; rfl
  have h : Z / 2 ^ i ≤ Z := Nat.div_le_self _ _
  rw [e, Nat.toNat_testBit]
  generalize Z / 2 ^ i = q at *
  rw [and_1 _ (by omega) (by omega)]
  omega
theorem xor_bit (a b : Bool) : bits BinOp.xor IntKind.u64 ((a.toNat : Nat) : Int) ((b.toNat : Nat) : Int) = (((a ^^ b).toNat : Nat) : Int) := by
  cases a <;> cases b <;> decide
theorem or_bit {O i : Nat} (hO : O < 2 ^ i) (hi : i < 64) (t : Bool) : bits BinOp.or IntKind.u64 (O : Int) (IntKind.u64.wrap (((t.toNat : Nat) : Int) * 2 ^ i)) = ((O + 2 ^ i * t.toNat : Nat) : Int) := by
  have hp : 2 ^ i < 2 ^ 64 := Nat.pow_lt_pow_right (by decide) hi
  have h64 : (2 : Nat) ^ 64 = 18446744073709551616 := by decide
  have e : ((t.toNat : Nat) : Int) * 2 ^ i = ((2 ^ i * t.toNat : Nat) : Int) := by push_cast; rw [Int.mul_comm]
  have hb : 2 ^ i * t.toNat ≤ 2 ^ i := by cases t <;> simp
  rw [e, IntWalk.u64_in _ (by omega), or_swap, or_add _ _ i (by omega) (by omega) (by omega) ?_ (by omega) (by exact_mod_cast hO)]
  · push_cast; omega
  · exact ⟨((t.toNat : Nat) : Int), by push_cast; rfl⟩
theorem shake_step {Z b i : Nat} (hZ : Z < 18446744073709551616) (hi : i < 64) {O : Nat} (hO : (Z ^^^ (Z >>> b)) % 2 ^ i = O) :
    bits BinOp.or IntKind.u64 (O : Int) (IntKind.u64.wrap (bits BinOp.xor IntKind.u64 (bits BinOp.and IntKind.u64 ((Z : Int) / 2 ^ i) 1) (bits BinOp.and IntKind.u64 ((Z : Int) / 2 ^ (i + b)) 1) * 2 ^ i)) = (((Z ^^^ (Z >>> b)) % 2 ^ (i + 1) : Nat) : Int) := by
  rw [bit_and hZ, bit_and hZ, xor_bit, or_bit (by rw [← hO]; exact Nat.mod_lt _ (Nat.two_pow_pos i)) hi, Nat.mod_pow_succ, ← Nat.toNat_testBit, hO, Nat.testBit_xor, Nat.testBit_shiftRight, Nat.add_comm b i]
theorem shake_top {Z b i : Nat} (hZ : Z < 18446744073709551616) (hi : i < 64) (hb : 64 ≤ i + b) {O : Nat} (hO : (Z ^^^ (Z >>> b)) % 2 ^ i = O) :
    bits BinOp.or IntKind.u64 (O : Int) (IntKind.u64.wrap (bits BinOp.and IntKind.u64 ((Z : Int) / 2 ^ i) 1 * 2 ^ i)) = (((Z ^^^ (Z >>> b)) % 2 ^ (i + 1) : Nat) : Int) := by
  have h2 : Z.testBit (b + i) = false := Nat.testBit_lt_two_pow (Nat.lt_of_lt_of_le (show Z < 2 ^ 64 from hZ) (Nat.pow_le_pow_right (by decide) (by omega)))
  rw [bit_and hZ, or_bit (by rw [← hO]; exact Nat.mod_lt _ (Nat.two_pow_pos i)) hi, Nat.mod_pow_succ, ← Nat.toNat_testBit, hO, Nat.testBit_xor, Nat.testBit_shiftRight, h2, Bool.xor_false]
theorem xsh_nat {Z : Nat} (hZ : Z < 18446744073709551616) (b : Nat) : xsh (Z : Int) ((2 : Int) ^ b) = ((Z ^^^ (Z >>> b) : Nat) : Int) := by
  have e : (Z : Int) / 2 ^ b = ((Z / 2 ^ b : Nat) : Int) := by push_cast; rfl
  have h : Z / 2 ^ b ≤ Z := Nat.div_le_self _ _
  unfold xsh
  rw [e]
  show IntKind.u64.wrap ((BitVec.ofInt 64 (Z : Int) ^^^ BitVec.ofInt 64 ((Z / 2 ^ b : Nat) : Int)).toNat : Int) = _
  rw [BitVec.toNat_xor, BitVec.ofInt_natCast, BitVec.ofInt_natCast, BitVec.toNat_ofNat, BitVec.toNat_ofNat, Nat.mod_eq_of_lt (a := Z) hZ, Nat.mod_eq_of_lt (a := Z / 2 ^ b) (by omega), Nat.shiftRight_eq_div_pow]
  have : Z ^^^ (Z / 2 ^ b) < 2 ^ 64 := Nat.xor_lt_two_pow hZ (by omega)
  exact IntWalk.u64_in _ (by omega)
end Go.Proofs.YtfhdjekpdifajaaGreat
namespace Go.Proofs.YtfhdjekpdifajaaGreat
set_option linter.unusedVariables false
open Go.RowKit
set_option maxRecDepth 20000 in
set_option maxHeartbeats 4000000 in
theorem shaken_c (Z b : Nat) (hZ : Z < 18446744073709551616) (hb : 0 < b) (hb2 : b < 64) (w : World) :
    Calls Tryz.prog 232 #[.int .u64 Z, .int .i64 b] w fun e w' => e = .returned (.int .u64 ((Z ^^^ (Z >>> b) : Nat) : Int)) ∧ Ext w w' := by
  go_enter Tryz.func232, Tryz.ntmps232
  go_wp2
  go_loop [5, 6] (fun p u => ∃ (i : Nat), i ≤ 64 ∧ p = .int .u64 (((Z ^^^ (Z >>> b)) % 2 ^ i : Nat) : Int) ∧ u = .int .i64 i) (fun _ u => 64 - (intOf u).toNat)
  case atStart => exact ⟨0, by omega, by simp [Nat.mod_one], rfl⟩
  case round =>
    obtain ⟨i, hi, rfl, rfl⟩ := hrel
    obtain ⟨O, hO⟩ : ∃ O : Nat, (Z ^^^ (Z >>> b)) % 2 ^ i = O := ⟨_, rfl⟩
    rw [hO]
    have HO := Lib.hid hO
    clear hO
    by_cases hgo : i < 64
    · by_cases hgb : i + b < 64
      · have hgb' : ((i : Int) + b) < 64 := by omega
        go_wp2
        go_round
        case rel => exact ⟨i + 1, by omega, by rw [shake_step hZ hgo HO.out], by push_cast; rfl⟩
        case measure => simp [intOf]; omega
      · have hgb' : 64 ≤ (i : Int) + b := by omega
        have hgb2 : decide ((i : Int) + b < 64) = false := by simp; omega
        go_wp2
        go_round
        case rel => exact ⟨i + 1, by omega, by rw [shake_top hZ hgo (by omega) HO.out], by push_cast; rfl⟩
        case measure => simp [intOf]; omega
    · go_wp2
      go_ret
      obtain rfl : i = 64 := by omega
      have h2 := HO.out
      have h3 : Z >>> b ≤ Z := by rw [Nat.shiftRight_eq_div_pow]; exact Nat.div_le_self _ _
      have h4 : Z ^^^ (Z >>> b) < 2 ^ 64 := Nat.xor_lt_two_pow hZ (by omega)
      rw [Nat.mod_eq_of_lt h4] at h2
      exact ⟨by rw [h2]; rfl, Ext.refl _⟩
end Go.Proofs.YtfhdjekpdifajaaGreat
namespace Go.Proofs.YtfhdjekpdifajaaGreat
set_option linter.unusedVariables false
open Go.RowKit
theorem shaken_z (z : Int) (hz : U64 z) (b : Nat) (d : Int) (hd : (2 : Int) ^ b = d) (hb : 0 < b) (hb2 : b < 64) (w : World) :
    Calls Tryz.prog 232 #[.int .u64 z, .int .i64 (b : Int)] w fun e w' => e = .returned (.int .u64 (xsh z d)) ∧ Ext w w' := by
  obtain ⟨Z, rfl⟩ := Int.eq_ofNat_of_zero_le hz.1
  have hZ : Z < 18446744073709551616 := by have := hz.2; omega
  rw [← hd, xsh_nat hZ]
  exact shaken_c Z b hZ hb hb2 w
set_option maxRecDepth 20000 in
set_option maxHeartbeats 2000000 in
theorem MixR_c (z : Int) (h : U64 z) (w : World) :
    Calls Tryz.prog 227 #[.int .u64 z] w fun e w' => e = .returned (.int .u64 (mix z)) ∧ Ext w w' := by
  go_enter Tryz.func227, Tryz.ntmps227
  go_wp2_with fail
  refine Calls.mono (shaken_z z h 30 1073741824 (by decide) (by decide) (by decide) _) ?_
  rintro e w1 ⟨rfl, hx1⟩
  go_wp2_with fail
  refine Calls.mono (times_c _ C1 (xsh_u _ _) (by unfold U64 C1; omega) _) ?_
  rintro e w2 ⟨rfl, hx2⟩
  go_wp2_with fail
  refine Calls.mono (shaken_z _ (wu_u _) 27 134217728 (by decide) (by decide) (by decide) _) ?_
  rintro e w3 ⟨rfl, hx3⟩
  go_wp2_with fail
  refine Calls.mono (times_c _ C2 (xsh_u _ _) (by unfold U64 C2; omega) _) ?_
  rintro e w4 ⟨rfl, hx4⟩
  go_wp2_with fail
  refine Calls.mono (shaken_z _ (wu_u _) 31 2147483648 (by decide) (by decide) (by decide) _) ?_
  rintro e w5 ⟨rfl, hx5⟩
  go_wp2
  go_ret
  exact ⟨rfl, hx1.trans' (hx2.trans' (hx3.trans' (hx4.trans' hx5)))⟩
set_option maxRecDepth 20000 in
set_option maxHeartbeats 2000000 in
theorem DrawR_c (s i : Int) (hs : U64 s) (hi : 0 ≤ i) (hi' : i < 10000) (w : World) :
    Calls Tryz.prog 218 #[.int .u64 s, .int .u64 i] w fun e w' => e = .returned (.int .u64 (drw s i)) ∧ Ext w w' := by
  have e1 : drw s i = mix (wu (s + wu ((i + 1) * GD))) := by
    unfold drw; rw [show wu (i + 1) = i + 1 from IntWalk.u64_in _ (by omega)]
  have HE := Lib.hid e1
  clear e1
  go_enter Tryz.func218, Tryz.ntmps218
  go_wp2_with fail
  refine Calls.mono (times_c (i + 1) GD (by unfold U64; omega) (by unfold U64 GD; omega) _) ?_
  rintro e w1 ⟨rfl, hx1⟩
  go_wp2_with fail
  refine Calls.mono (MixR_c _ (wu_u _) _) ?_
  rintro e w2 ⟨rfl, hx2⟩
  go_wp2
  go_ret
  exact ⟨by rw [HE.out]; rfl, hx1.trans' hx2⟩
set_option maxRecDepth 20000 in
set_option maxHeartbeats 2000000 in
theorem PairR_c (s l r : Int) (hs : U64 s) (hl : 0 ≤ l) (hl' : l ≤ 59) (hr : 0 ≤ r) (hr' : r < 8) (w : World) :
    Calls Tryz.prog 192 #[.int .u64 s, .int .i64 l, .int .i64 r] w fun e w' => e = .returned (.tuple #[.int .u64 (prA s l r), .int .u64 (prB s l r)]) ∧ Ext w w' := by
  have g1 : decide (l < 0) = false := by simp; omega
  have g2 : decide (59 < l) = false := by simp; omega
  have g3 : decide (r < 0) = false := by simp; omega
  have g4 : decide (7 < r) = false := by simp; omega
  have e1 : prA s l r = 1 + drw s (16 * l + 2 * r) % 2305843009213693950 := by unfold prA; rw [show 2 * (l * 8 + r) = 16 * l + 2 * r by omega]
  have e2 : prB s l r = drw s (16 * l + 2 * r + 1) % 2305843009213693951 := by unfold prB; rw [show 2 * (l * 8 + r) = 16 * l + 2 * r by omega]
  have H1 := Lib.hid e1
  have H2 := Lib.hid e2
  have b1 := drw_u s (16 * l + 2 * r)
  have b2 := drw_u s (16 * l + 2 * r + 1)
  obtain ⟨b11, b12⟩ := b1
  obtain ⟨b21, b22⟩ := b2
  clear e1 e2
  go_enter Tryz.func192, Tryz.ntmps192
  go_wp2_with fail
  refine Calls.mono (DrawR_c _ _ hs (by omega) (by omega) _) ?_
  rintro e w1 ⟨rfl, hb1⟩
  go_wp2_with fail
  refine Calls.mono (DrawR_c _ _ hs (by omega) (by omega) _) ?_
  rintro e w2 ⟨rfl, hb2⟩
  go_wp2
  go_ret2
  exact ⟨by rw [H1.out, H2.out]; rfl, hb1.trans' hb2⟩
end Go.Proofs.YtfhdjekpdifajaaGreat
namespace Go.Proofs.YtfhdjekpdifajaaGreat
set_option linter.unusedVariables false
open Go.RowKit
theorem fmul_mod (a b : Int) : fmul a b = (fold a * fold b) % 2305843009213693951 := by
  unfold fmul fadd fold
  generalize a % 2305843009213693951 * (b % 2305843009213693951) = n
  omega
theorem fmul_swap (a b : Int) : fmul a b = fmul b a := by rw [fmul_mod, fmul_mod, Int.mul_comm]
theorem mulp_odd {o x y A B : Int} (hy : y % 2 = 1) (h : (o + x * y) % 2305843009213693951 = (A * B) % 2305843009213693951) :
    ((o + x) % 2305843009213693951 + (x + x) % 2305843009213693951 * (y / 2)) % 2305843009213693951 = (A * B) % 2305843009213693951 := by
  rw [← h, Int.add_emod, Int.emod_emod_of_dvd _ (Int.dvd_refl _), Int.mul_emod, Int.emod_emod_of_dvd _ (Int.dvd_refl _), ← Int.mul_emod, ← Int.add_emod]
  congr 1
  have : y = 2 * (y / 2) + 1 := by omega
  generalize y / 2 = q at *
  subst this
  rw [Int.mul_add, Int.mul_one, ← Int.mul_assoc, Int.mul_comm x 2, Int.add_assoc, Int.add_comm x, show x + x = 2 * x by omega]
theorem mulp_even {o x y A B : Int} (hy : y % 2 = 0) (h : (o + x * y) % 2305843009213693951 = (A * B) % 2305843009213693951) :
    (o + (x + x) % 2305843009213693951 * (y / 2)) % 2305843009213693951 = (A * B) % 2305843009213693951 := by
  rw [← h, Int.add_emod, Int.mul_emod, Int.emod_emod_of_dvd _ (Int.dvd_refl _), ← Int.mul_emod, ← Int.add_emod]
  congr 1
  have : y = 2 * (y / 2) := by omega
  generalize y / 2 = q at *
  subst this
  rw [← Int.mul_assoc, Int.mul_comm x 2, show x + x = 2 * x by omega]
set_option maxRecDepth 20000 in
set_option maxHeartbeats 2000000 in
theorem MulR_c (a b : Int) (ha : U64 a) (hb : U64 b) (w : World) :
    Calls Tryz.prog 230 #[.int .u64 a, .int .u64 b] w fun e w' => e = .returned (.int .u64 (fmul a b)) ∧ Ext w w' := by
  obtain ⟨a0, a1⟩ := ha
  obtain ⟨b0, b1⟩ := hb
  have HF := Lib.hid (fmul_mod a b)
  have hfa := fold_bd a
  have hfb := fold_bd b
  have HA := Lib.hid (show fold a = a % 2305843009213693951 from rfl)
  have HB := Lib.hid (show fold b = b % 2305843009213693951 from rfl)
  go_enter Tryz.func230, Tryz.ntmps230
  go_wp2
  rw [← HA.out, ← HB.out]
  generalize fold a = A at *
  generalize fold b = B at *
  go_loop [7, 5, 6] (fun p u v => ∃ (o x y : Int), p = .int .u64 o ∧ u = .int .u64 x ∧ v = .int .u64 y ∧ (0 ≤ o ∧ o < 2305843009213693951) ∧ (0 ≤ x ∧ x < 2305843009213693951) ∧ U64 y ∧ (o + x * y) % 2305843009213693951 = (A * B) % 2305843009213693951) (fun _ _ v => (intOf v).toNat)
  case atStart => exact ⟨0, A, B, rfl, rfl, rfl, by omega, hfa, by unfold U64; omega, by rw [Int.zero_add]⟩
  case round =>
    obtain ⟨o, x, y, rfl, rfl, rfl, ho, hx, hy, hI⟩ := hrel
    have HI := Lib.hid hI
    clear hI
    obtain ⟨o0, o1⟩ := ho
    obtain ⟨x0, x1⟩ := hx
    obtain ⟨y0, y1⟩ := hy
    by_cases hgo : 0 < y
    · rcases (by omega : y % 2 = 0 ∨ y % 2 = 1) with hp | hp
      · have hpt : y.tmod 2 = 0 := by rw [Int.tmod_eq_emod_of_nonneg y0]; exact hp
        go_wp2
        go_round
        case rel => exact ⟨o, _, _, rfl, rfl, rfl, ⟨o0, o1⟩, by omega, by unfold U64; omega, mulp_even hp HI.out⟩
        case measure => simp [intOf]; omega
      · have hpt : y.tmod 2 = 1 := by rw [Int.tmod_eq_emod_of_nonneg y0]; exact hp
        go_wp2
        go_round
        case rel => exact ⟨_, _, _, rfl, rfl, rfl, by omega, by omega, by unfold U64; omega, mulp_odd hp HI.out⟩
        case measure => simp [intOf]; omega
    · go_wp2
      go_ret
      have : y = 0 := by omega
      subst this
      have h2 := HI.out
      rw [Int.mul_zero, Int.add_zero, Int.emod_eq_of_lt o0 (by omega)] at h2
      exact ⟨by rw [HF.out, ← h2]; rfl, Ext.refl _⟩
set_option maxRecDepth 20000 in
set_option maxHeartbeats 2000000 in
theorem AddR_c (a b : Int) (ha : U64 a) (hb : U64 b) (w : World) :
    Calls Tryz.prog 229 #[.int .u64 a, .int .u64 b] w fun e w' => e = .returned (.int .u64 (fadd a b)) ∧ Ext w w' := by
  obtain ⟨a0, a1⟩ := ha
  obtain ⟨b0, b1⟩ := hb
  go_enter Tryz.func229, Tryz.ntmps229
  go_wp2
  go_ret
  exact ⟨rfl, Ext.refl _⟩
set_option maxRecDepth 20000 in
set_option maxHeartbeats 2000000 in
theorem LineR_c (a b x : Int) (ha : U64 a) (hb : U64 b) (hx : U64 x) (w : World) :
    Calls Tryz.prog 219 #[.int .u64 a, .int .u64 b, .int .u64 x] w fun e w' => e = .returned (.int .u64 (lineAt a b x)) ∧ Ext w w' := by
  go_enter Tryz.func219, Tryz.ntmps219
  go_wp2_with fail
  refine Calls.mono (MulR_c x a hx ha _) ?_
  rintro e w1 ⟨rfl, h1⟩
  go_wp2_with fail
  refine Calls.mono (AddR_c _ b (fmul_u _ _) hb _) ?_
  rintro e w2 ⟨rfl, h2⟩
  go_wp2
  go_ret
  exact ⟨by unfold lineAt; rw [fmul_swap a x]; rfl, h1.trans' h2⟩
set_option maxRecDepth 20000 in
set_option maxHeartbeats 2000000 in
theorem BucketR_c (a b x wd : Int) (ha : U64 a) (hb : U64 b) (hx : U64 x) (h1 : 1 ≤ wd) (h2 : wd ≤ 1000000) (w : World) :
    Calls Tryz.prog 193 #[.int .u64 a, .int .u64 b, .int .u64 x, .int .i64 wd] w fun e w' => e = .returned (.int .i64 (bkt a b x wd)) ∧ Ext w w' := by
  have g : decide (wd < 1) = false := by simp; omega
  have hu : U64 (lineAt a b x) := fadd_u _ _
  obtain ⟨u1, u2⟩ := hu
  have hb1 := bkt_bd a b x wd h1
  unfold bkt at hb1
  go_enter Tryz.func193, Tryz.ntmps193
  go_wp2_with fail
  refine Calls.mono (LineR_c _ _ _ ha hb hx _) ?_
  rintro e w1 ⟨rfl, hb⟩
  go_wp2
  go_ret
  exact ⟨rfl, hb⟩
end Go.Proofs.YtfhdjekpdifajaaGreat
namespace Go.Proofs.YtfhdjekpdifajaaGreat
set_option linter.unusedVariables false
open Go.RowKit
theorem cols_take {c : Cfg} {l key : Int} {k : Nat} (hk : k < c.rows.toNat) : (cols c l key).take (k + 1) = (cols c l key).take k ++ [col c l key k] := by
  unfold cols
  rw [← List.map_take, ← List.map_take, List.take_range, List.take_range, Nat.min_eq_left (by omega), Nat.min_eq_left (by omega), List.range_succ, List.map_append]
  rfl
set_option maxRecDepth 20000 in
set_option maxHeartbeats 4000000 in
theorem ColumnsR_c (c : Cfg) (h : c.Ok) (l key : Int) (h0 : 0 ≤ l) (h1 : l ≤ c.bits) (hk0 : 0 ≤ key) (hk1 : key < keys c l) (w : World) :
    Calls Tryz.prog 156 #[.agg #[.int .i64 c.bits, .int .i64 c.rows, .int .i64 c.width, .int .i64 c.mode, .int .u64 c.seed], .int .i64 l, .int .u64 key] w fun e w' =>
      ∃ v, e = .returned v ∧ w'.ownsRow w.heap.size 3 1 v c.rows.toNat (ints (cols c l key)) ∧ Ext w w' := by
  have hkb := keys_bd c h l h0
  have hg : decide (keys c l ≤ key) = false := by simp; omega
  have hl59 : l ≤ 59 := by have := h.b2; omega
  have hw1 := h.w1
  have hw2 := h.w2
  have hr1 := h.r1
  have hr2 := h.r2
  have hsd := h.s
  obtain ⟨R, hR⟩ : ∃ R : Nat, c.rows = R := ⟨c.rows.toNat, by omega⟩
  have hRt : c.rows.toNat = R := by omega
  have hR8 : R ≤ 8 := by omega
  have HR := Lib.hid hR
  have HRT := Lib.hid hRt
  have HKU := Lib.hid (show U64 key by unfold U64; omega)
  rw [hRt]
  clear hRt hR
  go_enter Tryz.func156, Tryz.ntmps156
  go_wp2_with fail
  refine Calls.mono (KeysR_c c h l h0 h1 _) ?_
  rintro e w1 ⟨rfl, hb1⟩
  have hbx : w1.heap[w.heap.size]? = some (.cells #[.int .i64 c.bits, .int .i64 c.rows, .int .i64 c.width, .int .i64 c.mode, .int .u64 c.seed] 24 (0, 0)) := by
    rw [hb1.block _ (by simp only [size_alloc]; omega), heap_old _ _ (by rw [size_alloc]; omega)]
    exact heap_at _ _ rfl
  have hrw : w1.heap[w.heap.size + 1]? = some (.cells #[] 3 (0, 0)) := by
    rw [hb1.block _ (by simp only [size_alloc]; omega)]
    exact heap_at _ _ (by rw [size_alloc])
  have hE1 : Ext w w1 := by (repeat' (first | exact Ext.refl _ | assumption | apply Ext.allocR | apply Ext.drewR | apply Ext.drewNR | (refine Ext.trans' ?_ (by assumption))))
  have hl1 := lt_of hrw
  have hown : w1.ownsRow (w.heap.size + 1) 3 1 (.slice (some ⟨w.heap.size + 1, 0, none⟩) 0 0) ((cols c l key).take 0).length (ints ((cols c l key).take 0)) :=
    ⟨rfl, .inr ⟨w.heap.size + 1, 0, #[], rfl, Nat.le_refl _, hrw, Nat.le_refl _, Nat.zero_le _, rfl, rfl⟩⟩
  clear hb1 hrw
  go_wp2
  go_loopw [7, 8] (fun p u wr => ∃ k : Nat, k ≤ R ∧ u = .int .i64 k ∧ wr.ownsRow (w.heap.size + 1) 3 1 p ((cols c l key).take k).length (ints ((cols c l key).take k)) ∧ wr.heap[w.heap.size]? = some (.cells #[.int .i64 c.bits, .int .i64 c.rows, .int .i64 c.width, .int .i64 c.mode, .int .u64 c.seed] 24 (0, 0)) ∧ Ext w wr) (fun _ u _ => R - (intOf u).toNat)
  case atStart => exact ⟨0, Nat.zero_le _, rfl, hown, hbx, hE1⟩
  case round =>
    clear hown hbx hE1
    obtain ⟨k, hk, rfl, hown, hbx, hE⟩ := hrel
    have c1 := (cell_of hbx 1).trans rfl
    have c2 := (cell_of hbx 2).trans rfl
    have c4 := (cell_of hbx 4).trans rfl
    have cl := lt_of hbx
    by_cases hlt : k < R
    · have hd : decide ((k : Int) < c.rows) = true := by have := HR.out; simp; omega
      have hts := cols_take (c := c) (l := l) (key := key) (k := k) (by rw [HRT.out]; exact hlt)
      have hcd : col c l key k = bkt (prA c.seed l k) (prB c.seed l k) key c.width := rfl
      have HTS := Lib.hid hts
      have HCD := Lib.hid hcd
      have hlen : ((cols c l key).take k).length ≤ 8 := by rw [List.length_take, cols_len, HRT.out]; omega
      have HLEN := Lib.hid hlen
      clear hts hcd hlen
      generalize (cols c l key).take k = pre at *
      go_wp2_with fail
      refine Calls.mono (PairR_c c.seed l k hsd h0 hl59 (by omega) (by omega) _) ?_
      rintro e w2 ⟨rfl, hx2⟩
      have hbx2 := hx2.keep hbx
      have hown2 := own_ext hown hx2
      have hE2 := hE.trans' hx2
      have d2 := (cell_of hbx2 2).trans rfl
      have dl := lt_of hbx2
      clear c1 c2 c4 cl hbx hown hE hx2
      go_wp2_with fail
      refine Calls.mono (BucketR_c _ _ key c.width (prA_u _ _ _) (prB_u _ _ _) HKU.out hw1 (by omega) _) ?_
      rw [← HCD.out]
      rintro e w3 ⟨rfl, hx3⟩
      have hbx3 := hx3.keep hbx2
      have hown3 := own_ext hown2 hx3
      have hE3 := hE2.trans' hx3
      have hl3 := lt_of hbx3
      clear d2 dl hbx2 hown2 hE2 hx3
      go_wp2_with (at_builtin; refine wpList_app1 w3 (col c l key k) pre _ (w.heap.size + 1) 3 hown3 250 rfl _ _ rfl info_int Tryz.underlying250 rfl rfl ?a1 ?a2 ?_)
      case a1 => have := HLEN.out; omega
      case a2 => omega
      intro v' w4 g1 g2 g3
      have hbx4 := grown_old g2 (j := w.heap.size) (by omega) (own_ge hown3 (by omega))
      rw [hbx3] at hbx4
      have hE4 : Ext w w4 := ext_grown hE3 g2 (fun k hk => by have := own_blk hown3 hk; omega)
      obtain ⟨p', n', c', rfl⟩ := own_slice g1
      rw [← HTS.out] at g1
      have HPL := Lib.hid (show ((cols c l key).take (k + 1)).length = pre.length + 1 by rw [HTS.out, List.length_append]; rfl)
      clear hbx3 hown3 hE3 g2 g3
      go_wp2
      go_roundw
      case rel => exact ⟨k + 1, by omega, by go_num, by rw [HPL.out]; exact g1, hbx4, hE4⟩
      case measure => simp [intOf]; omega
    · have hd : decide ((k : Int) < c.rows) = false := by have := HR.out; simp; omega
      obtain rfl : k = R := by omega
      have htk : (cols c l key).take k = cols c l key := List.take_of_length_le (by rw [cols_len, HRT.out]; omega)
      rw [htk, cols_len, HRT.out] at hown
      go_wp2
      go_ret
      exact ⟨_, rfl, ⟨hown.1, hown.2.imp id (fun ⟨g, cap, cur, a, b, c⟩ => ⟨g, cap, cur, a, by omega, c⟩)⟩, hE⟩
end Go.Proofs.YtfhdjekpdifajaaGreat
