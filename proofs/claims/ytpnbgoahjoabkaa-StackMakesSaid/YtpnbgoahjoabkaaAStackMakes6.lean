/- Package stack: Copy, At. -/
import Derived.Test.YtpnbgoahjoabkaaAStackMakes5
import Derived.ProofKit
import Derived.OpenShut
import Derived.ChangeOld
import Derived.Below
import Derived.SizedLaws
import Derived.Deep.Slices
import Derived.Deep.Fields

/- Package stack: Copy, At. -/
namespace Go.Proofs.Ytpnbgoahjoabkaa
set_option linter.unusedVariables false
open Go.RowKit
def KCopyPost (w : World) (C : Cfg) (B : Nat) (ls : Nat → List Int) (e : Ending) (w' : World) : Prop :=
  ∃ (s g : Nat) (L : Nat → Lev), e = .returned (.pointer (some ⟨s, 0, none⟩)) ∧ KAt w' s g C B L ls ∧ w.heap.size ≤ s ∧ w.heap.size ≤ g ∧ (∀ n, n ≤ B → w.heap.size ≤ (L n).s ∧ w.heap.size ≤ (L n).b ∧ w.heap.size ≤ (L n).c) ∧ Ext w w'
set_option maxRecDepth 20000 in
set_option maxHeartbeats 4000000 in
theorem KCopy_c (s g : Nat) (C : Cfg) (B : Nat) (L : Nat → Lev) (ls : Nat → List Int) (w : World) (h : KAt w s g C B L ls) :
    Calls Try.prog 61 #[.pointer (some ⟨s, 0, none⟩)] w (KCopyPost w C B ls) := by
  have hok := h.ok
  have hB := h.hB
  have hlt := h.lts
  obtain ⟨cap, hex, hcap⟩ := h.ex
  have c5 := (cell_of hex 5).trans rfl
  have hb2 : B ≤ 59 := by have := hok.b2; omega
  have HE := Lib.hid hex
  have HH := Lib.hid h
  have HB := Lib.hid hB
  clear h hex hB
  go_enter Try.func61, Try.ntmps61
  go_wp2
  go_loopw [3, 11] (fun u3 u11 wr => ∃ (k : Nat) (L' : Nat → Lev), k ≤ B + 1 ∧ u11 = .int .i64 k ∧ Ext w wr ∧ Made wr w.heap.size C k L' ls u3) (fun _ u11 _ => B + 1 - (intOf u11).toNat)
  case atStart =>
    refine ⟨0, fun _ => ⟨0, 0, 0⟩, Nat.zero_le _, rfl, Ext.refl _, ⟨⟨rfl, .inl ⟨rfl, rfl⟩⟩, ?_, ?_, ?_⟩⟩ <;> (intros; omega)
  case round =>
    obtain ⟨k, L', hk, rfl, hE, hM⟩ := hrel
    have hkr := HH.out.ext hE
    have hsz := hE.size
    have HM := Lib.hid hM
    clear hM
    by_cases hlt' : k < B + 1
    · have cn := hkr.cell (show k ≤ B by omega)
      have hL0 := hkr.lev k (by omega)
      have hltg := hkr.ltg
      clear hkr
      go_wp2_with fail
      refine (LCopy_c C k (L k) (ls k) _ hL0).mono ?_
      rintro e w2 ⟨M, rfl, hL, n1, n2, n3, hx2⟩
      have hown := own_ext HM.out.row hx2
      have hszz := hx2.size
      obtain ⟨T, hT⟩ : ∃ T, lvV C k M = .iface T (.pointer (some ⟨M.s, 0, none⟩)) := ⟨lvT C k, rfl⟩
      rw [hT]
      have HT := Lib.hid hT
      clear hT
      have hll := lvVs_len C L' k
      obtain ⟨i0, z0, hi0, hz0, hz1, hz2, hz3⟩ := info_lev
      go_wp2_with (at_builtin; refine wpList_appv w2 (.iface T (.pointer (some ⟨M.s, 0, none⟩))) rfl (lvVs C L' k) u3 w.heap.size 88 hown 168 rfl _ _ rfl i0 z0 hi0 hz0 hz1 hz2 hz3 Try.underlying168 rfl rfl ?a1 ?a2 ?_)
      case a1 => omega
      case a2 => omega
      intro v' w' hown' hgr
      have hmade := HM.out.ext hx2
      have hnext := hmade.next (N := wr.heap.size) (ls := ls) hL (fun n hn => HM.out.ltN n hn) (by omega) n1 n2 n3 rfl (by rw [HT.out, List.length_append, hll]; exact hown') hgr
      have hex : Ext w w' := ext_grown (hE.trans' hx2) hgr (fun i hi => own_blk hown hi)
      go_wp2
      go_roundw
      case rel => exact ⟨k + 1, _, by omega, by go_num, hex, hnext⟩
      case measure => simp [intOf]; omega
    · obtain rfl : k = B + 1 := by omega
      obtain ⟨p5, k5, c5, rfl⟩ := own_slice HM.out.row
      have hltr := hkr.lts
      obtain ⟨cap2, hex2, _⟩ := hkr.ex
      have d0 := (cell_of hex2 0).trans rfl
      have d1 := (cell_of hex2 1).trans rfl
      have d2 := (cell_of hex2 2).trans rfl
      have d3 := (cell_of hex2 3).trans rfl
      have d4 := (cell_of hex2 4).trans rfl
      clear hex2 hkr
      go_wp2
      go_ret
      obtain ⟨g', hg, hK⟩ := (HM.out.ext (Ext.alloc' wr (.cells #[.int .i64 C.bits, .int .i64 C.rows, .int .i64 C.width, .int .i64 C.mode, .int .u64 C.seed, .slice p5 k5 c5] 170))).stack hok HB.out (heap_at _ _ rfl)
      exact ⟨wr.heap.size, g', L', rfl, hK, hsz, hg, fun n hn => HM.out.new n (by omega), hE.allocR _⟩
set_option maxRecDepth 20000 in
theorem KAt_c (s g : Nat) (C : Cfg) (B : Nat) (L : Nat → Lev) (ls : Nat → List Int) (w : World) (h : KAt w s g C B L ls) (n : Nat) (hn : n ≤ B) :
    Calls Try.prog 63 #[.pointer (some ⟨s, 0, none⟩), .int .i64 n] w fun e w' => ∃ M : Lev, e = .returned (.tuple #[lvV C n M, .bool true]) ∧ LvAt w' M C n (ls n) ∧ w.heap.size ≤ M.s ∧ w.heap.size ≤ M.b ∧ w.heap.size ≤ M.c ∧ Ext w w' := by
  go_enter Try.func63, Try.ntmps63
  go_wp2_with fail
  refine (level_yes s g C B L ls w h n hn).mono ?_
  rintro e w1 ⟨rfl, rfl⟩
  go_wp2_with fail
  refine (LCopy_c C n (L n) (ls n) _ (h.lev n hn)).mono ?_
  rintro e w2 ⟨M, rfl, hL, n1, n2, n3, hx2⟩
  go_wp2
  go_ret2
  exact ⟨M, rfl, hL, n1, n2, n3, hx2⟩
set_option maxRecDepth 20000 in
theorem KAt_no (s g : Nat) (C : Cfg) (B : Nat) (L : Nat → Lev) (ls : Nat → List Int) (w : World) (h : KAt w s g C B L ls) (n : Int) (hn : n < 0 ∨ (B : Int) < n) :
    Calls Try.prog 63 #[.pointer (some ⟨s, 0, none⟩), .int .i64 n] w fun e w' => e = .returned (.tuple #[.nilIface, .bool false]) ∧ w = w' := by
  go_enter Try.func63, Try.ntmps63
  go_wp2_with fail
  refine (level_no s g C B L ls w h n hn).mono ?_
  rintro e w1 ⟨rfl, rfl⟩
  go_wp2
  go_ret2
  exact ⟨rfl, rfl⟩
end Go.Proofs.Ytpnbgoahjoabkaa

/- Package stack: Update. -/
namespace Go.Proofs.Ytpnbgoahjoabkaa
set_option linter.unusedVariables false
open Go.RowKit
attribute [local go_sem] Oper.semAt_some
def KUpdPost (w : World) (s g : Nat) (C : Cfg) (B : Nat) (L : Nat → Lev) (ls : Nat → List Int) (key d : Int) (e : Ending) (w' : World) : Prop :=
  e = .returned (.int .i64 (errK C B ls key d)) ∧ KAt w' s g C B L (bif decide (errK C B ls key d = 0) then updK C ls key d else ls) ∧ Mod (cellsOf B L) w w'
set_option maxRecDepth 100000 in
set_option maxHeartbeats 4000000 in
theorem KUpdate_c (s g : Nat) (C : Cfg) (B : Nat) (L : Nat → Lev) (ls : Nat → List Int) (key d : Int) (w : World) (h : KAt w s g C B L ls) (hd : I64 d) (hk : U64 key) :
    Calls Try.prog 62 #[.pointer (some ⟨s, 0, none⟩), .int .u64 key, .int .i64 d] w (KUpdPost w s g C B L ls key d) := by
  have hok := h.ok
  have hlt := h.lts
  have hltg := h.ltg
  obtain ⟨cap, hex, hcap⟩ := h.ex
  have c0 := (cell_of hex 0).trans rfl
  have c1 := (cell_of hex 1).trans rfl
  have c2 := (cell_of hex 2).trans rfl
  have c3 := (cell_of hex 3).trans rfl
  have c4 := (cell_of hex 4).trans rfl
  have hb2 : C.bits ≤ 59 := hok.b2
  have hb1 : 1 ≤ C.bits := hok.b1
  have HE := Lib.hid hex
  have HH := Lib.hid h
  clear h hex
  refine (callsIn_wide (n := 5)).1 ?_
  refine callsIn_of_wp_marks Try.func62 rfl trivial ?_ rfl
  simp only [Try.ntmps62, List.size_toArray, List.length_cons, List.length_nil, Nat.reduceAdd, Nat.reduceSub, Array.replicate_succ, Array.replicate_zero, List.push_toArray, List.append_toArray, List.nil_append, List.cons_append]
  gi_wp2_with fail
  refine ⟨trivial, (callsIn_wide.2 (Keys_c C hok 0 (Int.le_refl 0) (by omega) _)).mono ?_⟩
  rintro e w1 ⟨rfl, hx1⟩
  have hE1 : Ext w w1 := (Ext.alloc' w _).trans' hx1
  have h1 := HH.out.ext hE1
  have db := hx1.keep (heap_at w (.cells #[.int .i64 d] 2) rfl)
  have hls := h1.lts
  by_cases hkey : keys C 0 ≤ key
  · have e1 : errK C B ls key d = 2 := by unfold errK; rw [decide_eq_true hkey]; rfl
    have hge : decide (keys C 0 ≤ key) = true := decide_eq_true hkey
    gi_wp2
    exact ⟨_, results_tmp rfl _ _ _, by rw [e1]; rfl, by rw [e1]; exact h1, hE1.mod _⟩
  · have hge : decide (keys C 0 ≤ key) = false := decide_eq_false hkey
    gi_wp2_with fail
    refine ⟨trivial, (callsIn_wide.2 (Kat_c s key _)).mono ?_⟩
    rintro e w2 ⟨rfl, rfl⟩
    gi_wp2
    obtain ⟨W0, hW0⟩ : ∃ W0, ((w1.alloc (.cells #[.int .i64 0] 31)).alloc (.cells #[.pointer (some ⟨s, 0, none⟩)] 65)).alloc (.cells #[.int .u64 key] 22) = W0 := ⟨_, rfl⟩
    have hsz : W0.heap.size = w1.heap.size + 3 := by rw [← hW0]; simp
    have hEW : Ext w1 W0 := by rw [← hW0]; exact ((Ext.alloc' _ _).allocR _).allocR _
    have hb0 : W0.heap[w1.heap.size]? = some (.cells #[.int .i64 0] 31 (0, 0)) := by rw [← hW0, heap_old _ _ (by simp; omega), heap_old _ _ (by simp)]; exact heap_at _ _ rfl
    have hb1' : W0.heap[w1.heap.size + 1]? = some (.cells #[.pointer (some ⟨s, 0, none⟩)] 65 (0, 0)) := by rw [← hW0, heap_old _ _ (by simp)]; exact heap_at _ _ (size_alloc _ _).symm
    have hb2' : W0.heap[w1.heap.size + 2]? = some (.cells #[.int .u64 key] 22 (0, 0)) := by rw [← hW0]; exact heap_at _ _ (by simp)
    rw [hW0]
    have h2 := h1.ext hEW
    obtain ⟨cap2, hex2, hcap2⟩ := h2.ex
    have H2 := Lib.hid h2
    have hBd : B ≤ 59 := by have := hok.b2; have := h2.hB; omega
    refine wpIn_rangeFunc_ownF rfl (by decide) (gf := 166) (lb := #[.pointer (some ⟨w1.heap.size + 1, 0, none⟩), .pointer (some ⟨w1.heap.size + 1 + 1, 0, none⟩)]) rfl trivial (enters_of Try.func166 (by kernel_rfl) rfl)
      (kat1_stops 4 (w1.heap.size + 1) (w1.heap.size + 2) W0.heap.size s g cap2 (fun k => k = w1.heap.size) C L B key hk hBd (by omega) (by omega) h2.lts h2.ltg (by omega) (by omega) (by omega) (by have := h1.ltg; omega) W0 (Nat.le_refl _)
        ((cell_of hb1' 0).trans rfl) ((cell_of hb2' 0).trans rfl) ((cell_of hex2 5).trans rfl) (fun n hn => h2.cell hn)) KpS.t (fun W l o o' hl ho hc hw => KpS.b (Nat.le_refl _) W l o o' hl ho hc hw) (Below.refl _ _) (fun _ => rfl)
      (fun pre W => W.heap[w1.heap.size]? = some (.cells #[.int .i64 (errF C ls key d (vals pre))] 31 (0, 0)) ∧ Mod (fun k => k = w1.heap.size) W0 W)
      (fun _ _ _ => False)
      (OwnFrom.and (ownFrom_box (by omega) _) (ownFrom_mod (Nat.le_refl _)))
      (fun _ _ _ _ _ hs _ _ => hs)
      ⟨hb0, Mod.refl _ _⟩
      (fun x => { tmps := #[.pointer (some ⟨s, 0, none⟩), .int .u64 key, .int .i64 d, undef, undef, .pointer (some ⟨w.heap.size, 0, none⟩), .int .i64 0, .pointer (some ⟨w1.heap.size, 0, none⟩), lvV C x.1 (L x.1), .int .u64 (sh x.1 key), undef, undef, .int .u64 key, .pointer (some ⟨s, 0, none⟩), .pointer (some ⟨s, 0, none⟩), .pointer (some ⟨s, 0, none⟩), .agg #[.int .i64 C.bits, .int .i64 C.rows, .int .i64 C.width, .int .i64 C.mode, .int .u64 C.seed], .int .u64 (keys C 0), .bool false, .pointer (some ⟨s, 0, none⟩), .int .u64 key, .func (.func 166) #[] #[.pointer (some ⟨w1.heap.size + 1, 0, none⟩), .pointer (some ⟨w1.heap.size + 1 + 1, 0, none⟩)], lvV C x.1 (L x.1), .int .u64 (sh x.1 key), undef, undef, undef, undef, undef, undef, undef, undef, undef, undef, undef, undef, undef, undef, undef, undef, undef, undef, undef], defers := [] }) ?assign ?body ?done ?stop
    case assign =>
      intro l x W K hK
      dsimp only [lvEnc]
      gi_wp2
      exact hK
    case body =>
      rintro l pre x W ⟨hbad, hM0⟩ hlen
      have hM := mod_new hEW hM0 (Nat.le_refl _)
      have hxn := x.2
      have h3 := h1.keepN h1.low (fun k hk _ => hM.block k hk (fun h => h))
      have hLx := h3.lev x.1 x.2
      have hbc := (cell_of hbad 0).trans rfl
      have hdW := hM.keep db (fun h => h)
      have hdc := (cell_of hdW 0).trans rfl
      have hbl := lt_of hbad
      have hdl := lt_of hdW
      have hkx := sh_u64 hk x.1
      gi_wp2
      cases hx : isX C x.1 with
      | true =>
        have hA := (hLx.x hx).ext (Below.drew (Ext.refl W))
        have HX := Lib.hid hx
        rw [lvV_x hx]
        clear hx
        refine pi_startR (fun w' => ∃ x : After W, w' = x.w) [7] (by kernel_rfl) (fun ⟨_, _, hh⟩ => hh) (by kernel_rfl) ?_
        have hC0 := af_drew W
        refine pi_c 0 (by assumption) rfl (by kernel_rfl) (by kernel_rfl) (fun _ _ _ _ h => h) (fun K hK => ?_)
        go_big_quiet_op
        refine hK _ ?_
        clear hK K
        refine pi_t 1 rfl (by kernel_rfl) (by kernel_rfl) (fun _ _ _ _ h => h) (fun K hK => ?_)
        go_big_quiet_op
        refine hK _ ?_
        clear hK K
        refine pi_t 2 rfl (by kernel_rfl) (by kernel_rfl) (fun _ _ _ _ h => h) (fun K hK => ?_)
        go_big_quiet_op
        refine hK _ ?_
        clear hK K
        refine pi_c 3 (by assumption) rfl (by kernel_rfl) (by kernel_rfl) (fun _ _ _ _ h => h) (fun K hK => ?_)
        go_big_quiet_op
        refine hK _ ?_
        clear hK K
        refine pi_l 4 rfl (by kernel_rfl) (fun K hK => ?_)
        go_wp2_with fail
        refine (ECheck_c _ _ _ C _ _ _ (sh x.1 key) d _ hA hd hkx).mono ?_
        rintro e w3 ⟨rfl, hx3⟩
        have hb3 := hx3.keep (show W.drew.heap[w1.heap.size]? = _ from hbad)
        have hbc3 := (cell_of hb3 0).trans rfl
        have hbl3 := lt_of hb3
        have hbf3 := frozen_of hb3 0
        go_wp2
        refine hK _ _ (fun _ h => af_step h hx3) ?_
        clear hK K
        refine pi_l 5 rfl (by kernel_rfl) (fun K hK => ?_)
        go_wp2
        refine hK _ _ (fun _ h => af_step h (Ext.alloc' _ _)) ?_
        clear hK K
        refine pi_l 6 rfl (by kernel_rfl) (fun K hK => ?_)
        go_wp2_with fail
        refine (first_c w3.heap.size 2 (errF C ls key d (vals pre)) (errX C x.1 (ls x.1) (sh x.1 key) d) _ ((cell_of (heap_at w3 _ rfl) 0).trans rfl) ((cell_of (heap_at w3 _ rfl) 1).trans rfl)).mono ?_
        rintro e w4 ⟨rfl, rfl⟩
        go_wp2
        refine hK _ _ (fun _ h => h) ?_
        clear hK K
        refine pi_l 7 rfl (by kernel_rfl) (fun K hK => ?_)
        go_wp2
        refine hK _ _ (by simp) ?_
        clear hK K
        refine pi_end (by kernel_rfl) ?_
        obtain ⟨r1, r2, r3, r4⟩ := chk_round (v := .int .i64 (fst_ (errF C ls key d (vals pre)) (errX C x.1 (ls x.1) (sh x.1 key) d))) (o := .cells #[.int .i64 (errF C ls key d (vals pre)), .int .i64 (errX C x.1 (ls x.1) (sh x.1 key) d)] 31) hbad (Ext.trans' (Below.drew (Ext.refl W)) hx3) hM0
        exact ⟨r1, r2, by rw [vals_snoc, errF_snoc, lvE_x HX.out]; exact r3, r4⟩
      | false =>
        have hA := (hLx.sk hx).ext (Below.drew (Ext.refl W))
        have HX := Lib.hid hx
        rw [lvV_s hx]
        clear hx
        refine pi_startR (fun w' => ∃ x : After W, w' = x.w) [7] (by kernel_rfl) (fun ⟨_, _, hh⟩ => hh) (by kernel_rfl) ?_
        have hC0 := af_drew W
        refine pi_c 0 (by assumption) rfl (by kernel_rfl) (by kernel_rfl) (fun _ _ _ _ h => h) (fun K hK => ?_)
        go_big_quiet_op
        refine hK _ ?_
        clear hK K
        refine pi_t 1 rfl (by kernel_rfl) (by kernel_rfl) (fun _ _ _ _ h => h) (fun K hK => ?_)
        go_big_quiet_op
        refine hK _ ?_
        clear hK K
        refine pi_t 2 rfl (by kernel_rfl) (by kernel_rfl) (fun _ _ _ _ h => h) (fun K hK => ?_)
        go_big_quiet_op
        refine hK _ ?_
        clear hK K
        refine pi_c 3 (by assumption) rfl (by kernel_rfl) (by kernel_rfl) (fun _ _ _ _ h => h) (fun K hK => ?_)
        go_big_quiet_op
        refine hK _ ?_
        clear hK K
        refine pi_l 4 rfl (by kernel_rfl) (fun K hK => ?_)
        go_wp2_with fail
        refine (Check_c _ _ _ C _ _ _ _ (sh x.1 key) d _ hA hd hkx.1).mono ?_
        rintro e w3 ⟨rfl, hx3⟩
        have hb3 := hx3.keep (show W.drew.heap[w1.heap.size]? = _ from hbad)
        have hbc3 := (cell_of hb3 0).trans rfl
        have hbl3 := lt_of hb3
        have hbf3 := frozen_of hb3 0
        go_wp2
        refine hK _ _ (fun _ h => af_step h hx3) ?_
        clear hK K
        refine pi_l 5 rfl (by kernel_rfl) (fun K hK => ?_)
        go_wp2
        refine hK _ _ (fun _ h => af_step h (Ext.alloc' _ _)) ?_
        clear hK K
        refine pi_l 6 rfl (by kernel_rfl) (fun K hK => ?_)
        go_wp2_with fail
        refine (first_c w3.heap.size 2 (errF C ls key d (vals pre)) (errU C x.1 (rN C) (wN C) (ls x.1) (sh x.1 key) d) _ ((cell_of (heap_at w3 _ rfl) 0).trans rfl) ((cell_of (heap_at w3 _ rfl) 1).trans rfl)).mono ?_
        rintro e w4 ⟨rfl, rfl⟩
        go_wp2
        refine hK _ _ (fun _ h => h) ?_
        clear hK K
        refine pi_l 7 rfl (by kernel_rfl) (fun K hK => ?_)
        go_wp2
        refine hK _ _ (by simp) ?_
        clear hK K
        refine pi_end (by kernel_rfl) ?_
        obtain ⟨r1, r2, r3, r4⟩ := chk_round (v := .int .i64 (fst_ (errF C ls key d (vals pre)) (errU C x.1 (rN C) (wN C) (ls x.1) (sh x.1 key) d))) (o := .cells #[.int .i64 (errF C ls key d (vals pre)), .int .i64 (errU C x.1 (rN C) (wN C) (ls x.1) (sh x.1 key) d)] 31) hbad (Ext.trans' (Below.drew (Ext.refl W)) hx3) hM0
        exact ⟨r1, r2, by rw [vals_snoc, errF_snoc, lvE_s HX.out]; exact r3, r4⟩
    case done =>
      rintro D xs W hD hxs ⟨hbad, hM0⟩ hdef
      have hM := mod_new hEW hM0 (Nat.le_refl _)
      have hz : errF C ls key d (vals xs) = errs C ls key d (B + 1) := by unfold vals; rw [hxs, errF_range]
      rw [hz] at hbad
      have hek : errK C B ls key d = errs C ls key d (B + 1) := by unfold errK; rw [hge]; rfl
      have h3 := h1.keepN h1.low (fun k hk _ => hM.block k hk (fun h => h))
      have hbc := (cell_of hbad 0).trans rfl
      have hdW := hM.keep db (fun h => h)
      have hdc := (cell_of hdW 0).trans rfl
      have hbl := lt_of hbad
      have hdl := lt_of hdW
      have HZ := Lib.hid hek
      have HXS := Lib.hid hz
      clear hek hz hxs
      by_cases hzz : errs C ls key d (B + 1) = 0
      · gi_wp2_with fail
        refine ⟨trivial, (callsIn_wide.2 (Kat_c s key _)).mono ?_⟩
        rintro e w2 ⟨rfl, rfl⟩
        gi_wp2
        obtain ⟨W2, hW2⟩ : ∃ W2, (W.alloc (.cells #[.pointer (some ⟨s, 0, none⟩)] 65)).alloc (.cells #[.int .u64 key] 22) = W2 := ⟨_, rfl⟩
        have hsz2 : W2.heap.size = W.heap.size + 2 := by rw [← hW2]; simp
        have hEW2 : Ext W W2 := by rw [← hW2]; exact (Ext.alloc' _ _).allocR _
        have hb1' : W2.heap[W.heap.size]? = some (.cells #[.pointer (some ⟨s, 0, none⟩)] 65 (0, 0)) := by rw [← hW2, heap_old _ _ (by simp)]; exact heap_at _ _ rfl
        have hb2' : W2.heap[W.heap.size + 1]? = some (.cells #[.int .u64 key] 22 (0, 0)) := by rw [← hW2]; exact heap_at _ _ (size_alloc _ _).symm
        have hdef2 := hEW2.keep hdef
        have hd2 := hEW2.keep hdW
        rw [hW2]
        have h4 := h3.ext hEW2
        obtain ⟨cap4, hex4, hcap4⟩ := h4.ex
        have hall : ∀ n, n ≤ B → lvE C n (ls n) (sh n key) d = 0 := fun n hn => errs_zero.1 hzz n (by omega)
        have hlt3 : ∀ k, cellsOf B L k → k < W.heap.size := fun k hk => h3.ltc hk
        have hlt0 : ∀ k, cellsOf B L k → k < w.heap.size := fun k hk => HH.out.ltc hk
        have hWl := hM.size
        have hDl := lt_of hdef
        refine wpIn_rangeFunc_ownF rfl (by decide) (gf := 166) (lb := #[.pointer (some ⟨W.heap.size, 0, none⟩), .pointer (some ⟨W.heap.size + 1, 0, none⟩)]) rfl trivial (enters_of Try.func166 (by kernel_rfl) rfl)
          (kat1_stops 4 W.heap.size (W.heap.size + 1) W2.heap.size s g cap4 (cellsOf B L) C L B key hk hBd (by omega) (by omega) h4.lts h4.ltg (fun h => absurd (hlt3 _ h) (by omega)) (fun h => absurd (hlt3 _ h) (by omega)) h3.nots h3.notg W2 (Nat.le_refl _)
            ((cell_of hb1' 0).trans rfl) ((cell_of hb2' 0).trans rfl) ((cell_of hex4 5).trans rfl) (fun n hn => h4.cell hn)) KpS.t (fun W l o o' hl ho hc hw => KpS.b (Nat.le_refl _) W l o o' hl ho hc hw) (Below.refl _ _) (fun _ => rfl)
          (fun pre W' => W'.heap[D]? = some (.deferred (some [])) ∧ (∃ ls', KAt W' s g C B L ls' ∧ ((vals pre).Nodup → ∀ n, ls' n = partK C ls key d (vals pre) n)) ∧ Mod (cellsOf B L) W2 W')
          (fun _ _ _ => False)
          (OwnFrom.and (ownFrom_box (by omega) (fun _ => _)) (OwnFrom.and (fun pre W' W'' row hs hg hr => by obtain ⟨ls', h, hp⟩ := hs; exact ⟨ls', h.keepN h4.low (fun k hk hN => grown_low hg (fun r e => (hr r e).1) hk hN), hp⟩) (ownFrom_mod (Nat.le_refl _))))
          (fun _ _ _ _ _ hs _ _ => hs)
          ⟨hdef2, ⟨ls, h4, fun _ n => rfl⟩, Mod.refl _ _⟩
          (fun x => { tmps := #[.pointer (some ⟨s, 0, none⟩), .int .u64 key, .int .i64 d, undef, undef, .pointer (some ⟨w.heap.size, 0, none⟩), .int .i64 0, .pointer (some ⟨w1.heap.size, 0, none⟩), undef, undef, lvV C x.1 (L x.1), .int .u64 (sh x.1 key), .int .u64 key, .pointer (some ⟨s, 0, none⟩), .pointer (some ⟨s, 0, none⟩), .pointer (some ⟨s, 0, none⟩), .agg #[.int .i64 C.bits, .int .i64 C.rows, .int .i64 C.width, .int .i64 C.mode, .int .u64 C.seed], .int .u64 (keys C 0), .bool false, .pointer (some ⟨s, 0, none⟩), .int .u64 key, .func (.func 166) #[] #[.pointer (some ⟨w1.heap.size + 1, 0, none⟩), .pointer (some ⟨w1.heap.size + 1 + 1, 0, none⟩)], undef, undef, undef, undef, undef, undef, undef, undef, undef, .int .i64 0, .bool false, undef, .pointer (some ⟨s, 0, none⟩), .int .u64 key, .func (.func 166) #[] #[.pointer (some ⟨W.heap.size, 0, none⟩), .pointer (some ⟨W.heap.size + 1, 0, none⟩)], lvV C x.1 (L x.1), .int .u64 (sh x.1 key), undef, undef, undef, undef], defers := [] }) ?assign2 ?body2 ?done2 ?stop2
        case assign2 =>
          intro l x W K hK
          dsimp only [lvEnc]
          gi_wp2
          exact hK
        case body2 =>
          rintro l pre x V ⟨hD5, ⟨ls', h5, hp5⟩, hM5⟩ hlen
          have hd5 := hM5.keep hd2 (fun h => absurd (hlt0 _ h) (by omega))
          have hdc5 := (cell_of hd5 0).trans rfl
          have hdl5 := lt_of hd5
          have hkx := sh_u64 hk x.1
          have hLx := h5.lev x.1 x.2
          have fin := fun w3 hres => upd_round (w3 := w3) (x := x) h5 hp5 hM5 hD5 hall hres
          cases hx : isX C x.1 with
          | true =>
            have hA := hLx.x hx
            have HX := Lib.hid hx
            rw [lvV_x hx]
            clear hx
            refine wpIn_block ?_
            refine region_plainR (fun ⟨_, _, hh⟩ => hh) (by kernel_rfl) ?_
            go_wp2_with fail
            refine Calls.mono (EUpdate_c _ _ _ C _ _ _ (sh x.1 key) d _ hA hd hkx) ?_
            rintro e w3 ⟨rfl, hres⟩
            gi_wp2
            rw [← lvE_x HX.out, ← lvU_x HX.out] at hres
            exact fin w3 (hres.imp (fun ⟨a, b, c⟩ => ⟨a, .inl ⟨HX.out, b⟩, c⟩) (fun h => h))
          | false =>
            have hA := hLx.sk hx
            have HX := Lib.hid hx
            rw [lvV_s hx]
            clear hx
            refine wpIn_block ?_
            refine region_plainR (fun ⟨_, _, hh⟩ => hh) (by kernel_rfl) ?_
            go_wp2_with fail
            refine Calls.mono (Update_c _ _ _ C _ _ _ _ (sh x.1 key) d _ hA hd hkx.1) ?_
            rintro e w3 ⟨rfl, hres⟩
            gi_wp2
            rw [← lvE_s HX.out, ← lvU_s HX.out] at hres
            exact fin w3 (hres.imp (fun ⟨a, b, c⟩ => ⟨a, .inr ⟨HX.out, b⟩, c⟩) (fun h => h))
        case done2 =>
          rintro D2 ys V hD2 hys ⟨hD5, ⟨ls', h5, hp5⟩, hM5⟩ hdef5
          gi_wp2
          have hne : D ≠ D2 := by omega
          refine ⟨by simp, .inl ⟨_, _, rfl, run_takeDeferred hdef5, ⟨by simp, .inl ⟨_, _, rfl, run_takeDeferred ((World.putObj_heap_other hne).trans hD5), ?_⟩⟩⟩⟩
          have hq : Mod (cellsOf B L) w V := (((hE1.mod _).trans (hM.mono (fun _ h _ => h.elim))).trans (hEW2.mod _)).trans hM5
          have hwl := hE1.size
          refine ⟨_, results_tmp rfl _ _ _, by rw [HZ.out, hzz]; rfl, ?_, mod_putD (mod_putD hq (by omega)) (by omega)⟩
          rw [HZ.out, hzz]
          refine KAt.cong (ls := ls') ?_ (part_end hys hp5)
          exact h5.keepN HH.out.low (fun k _ hN => (World.putObj_heap_other (by omega)).trans (World.putObj_heap_other (by omega)))
        case stop2 =>
          rintro D2 c pre V hD2 _ hh _
          exact hh.elim
      · gi_wp2
        refine ⟨by simp, .inl ⟨_, _, rfl, run_takeDeferred hdef, ?_⟩⟩
        have hp : Mod (fun _ => False) w1 (W.putObj D (.deferred none)) := mod_putD hM (by omega)
        refine ⟨_, results_tmp rfl _ _ _, by rw [HZ.out]; rfl, ?_, (hE1.mod _).trans (hp.mono (fun _ h _ => h.elim))⟩
        rw [HZ.out, decide_eq_false hzz]
        exact h1.keepN h1.low (fun k hk _ => hp.block k hk (fun h => h))
    case stop =>
      rintro D c pre W hD _ hh _
      exact hh.elim
end Go.Proofs.Ytpnbgoahjoabkaa

/- A config that may not be. -/
namespace Go.Proofs.Ytpnbgoahjoabkaa
set_option linter.unusedVariables false
open Go.RowKit

set_option maxRecDepth 100000 in
set_option maxHeartbeats 2000000 in
theorem within_no01 (a b c d : Int) (s : Nat) (w : World)
    (f0 : decide (a < 1) = true)
    (hs : w.heap[s]? = some (.cells #[.int .i64 a, .int .i64 59, .int .i64 b, .int .i64 8, .int .i64 c, .int .i64 128, .int .i64 d, .int .i64 3] 219 (0, 0))) :
    Calls Try.prog 165 #[.slice (some ⟨s, 0, none⟩) 4 4] w fun e w' => e = .returned (.bool false) ∧ Ext w w' := by
  have hlt := lt_of hs
  have l1 : s < w.heap.size + 1 := by omega
  have l2 : s < w.heap.size + 1 + 1 := by omega
  have l3 : s < w.heap.size + 1 + 1 + 1 := by omega
  have k0 := cell_of hs 0
  have k1 := cell_of hs 1
  have k2 := cell_of hs 2
  have k3 := cell_of hs 3
  have k4 := cell_of hs 4
  have k5 := cell_of hs 5
  have k6 := cell_of hs 6
  have k7 := cell_of hs 7
  simp at k0 k1 k2 k3 k4 k5 k6 k7
  clear hs
  go_enter Try.func165, Try.ntmps165
  go_wp2
  refine wp_loop_rounds 1 ?_
  iterate 1 (rw [rounds_succ]; go_wp2)
  go_ret
  exact ⟨rfl, by (repeat' (first | exact Ext.refl _ | assumption | apply Ext.allocR | apply Ext.drewR | apply Ext.drewNR | (refine Ext.trans' ?_ (by assumption))))⟩
set_option maxRecDepth 100000 in
set_option maxHeartbeats 2000000 in
theorem within_no02 (a b c d : Int) (s : Nat) (w : World)
    (f0 : decide (a < 1) = false) (g0 : decide (59 < a) = true)
    (hs : w.heap[s]? = some (.cells #[.int .i64 a, .int .i64 59, .int .i64 b, .int .i64 8, .int .i64 c, .int .i64 128, .int .i64 d, .int .i64 3] 219 (0, 0))) :
    Calls Try.prog 165 #[.slice (some ⟨s, 0, none⟩) 4 4] w fun e w' => e = .returned (.bool false) ∧ Ext w w' := by
  have hlt := lt_of hs
  have l1 : s < w.heap.size + 1 := by omega
  have l2 : s < w.heap.size + 1 + 1 := by omega
  have l3 : s < w.heap.size + 1 + 1 + 1 := by omega
  have k0 := cell_of hs 0
  have k1 := cell_of hs 1
  have k2 := cell_of hs 2
  have k3 := cell_of hs 3
  have k4 := cell_of hs 4
  have k5 := cell_of hs 5
  have k6 := cell_of hs 6
  have k7 := cell_of hs 7
  simp at k0 k1 k2 k3 k4 k5 k6 k7
  clear hs
  go_enter Try.func165, Try.ntmps165
  go_wp2
  refine wp_loop_rounds 1 ?_
  iterate 1 (rw [rounds_succ]; go_wp2)
  go_ret
  exact ⟨rfl, by (repeat' (first | exact Ext.refl _ | assumption | apply Ext.allocR | apply Ext.drewR | apply Ext.drewNR | (refine Ext.trans' ?_ (by assumption))))⟩
set_option maxRecDepth 100000 in
set_option maxHeartbeats 2000000 in
theorem within_no11 (a b c d : Int) (s : Nat) (w : World)
    (f0 : decide (a < 1) = false) (g0 : decide (59 < a) = false) (f1 : decide (b < 1) = true)
    (hs : w.heap[s]? = some (.cells #[.int .i64 a, .int .i64 59, .int .i64 b, .int .i64 8, .int .i64 c, .int .i64 128, .int .i64 d, .int .i64 3] 219 (0, 0))) :
    Calls Try.prog 165 #[.slice (some ⟨s, 0, none⟩) 4 4] w fun e w' => e = .returned (.bool false) ∧ Ext w w' := by
  have hlt := lt_of hs
  have l1 : s < w.heap.size + 1 := by omega
  have l2 : s < w.heap.size + 1 + 1 := by omega
  have l3 : s < w.heap.size + 1 + 1 + 1 := by omega
  have k0 := cell_of hs 0
  have k1 := cell_of hs 1
  have k2 := cell_of hs 2
  have k3 := cell_of hs 3
  have k4 := cell_of hs 4
  have k5 := cell_of hs 5
  have k6 := cell_of hs 6
  have k7 := cell_of hs 7
  simp at k0 k1 k2 k3 k4 k5 k6 k7
  clear hs
  go_enter Try.func165, Try.ntmps165
  go_wp2
  refine wp_loop_rounds 2 ?_
  iterate 2 (rw [rounds_succ]; go_wp2)
  go_ret
  exact ⟨rfl, by (repeat' (first | exact Ext.refl _ | assumption | apply Ext.allocR | apply Ext.drewR | apply Ext.drewNR | (refine Ext.trans' ?_ (by assumption))))⟩
set_option maxRecDepth 100000 in
set_option maxHeartbeats 2000000 in
theorem within_no12 (a b c d : Int) (s : Nat) (w : World)
    (f0 : decide (a < 1) = false) (g0 : decide (59 < a) = false) (f1 : decide (b < 1) = false) (g1 : decide (8 < b) = true)
    (hs : w.heap[s]? = some (.cells #[.int .i64 a, .int .i64 59, .int .i64 b, .int .i64 8, .int .i64 c, .int .i64 128, .int .i64 d, .int .i64 3] 219 (0, 0))) :
    Calls Try.prog 165 #[.slice (some ⟨s, 0, none⟩) 4 4] w fun e w' => e = .returned (.bool false) ∧ Ext w w' := by
  have hlt := lt_of hs
  have l1 : s < w.heap.size + 1 := by omega
  have l2 : s < w.heap.size + 1 + 1 := by omega
  have l3 : s < w.heap.size + 1 + 1 + 1 := by omega
  have k0 := cell_of hs 0
  have k1 := cell_of hs 1
  have k2 := cell_of hs 2
  have k3 := cell_of hs 3
  have k4 := cell_of hs 4
  have k5 := cell_of hs 5
  have k6 := cell_of hs 6
  have k7 := cell_of hs 7
  simp at k0 k1 k2 k3 k4 k5 k6 k7
  clear hs
  go_enter Try.func165, Try.ntmps165
  go_wp2
  refine wp_loop_rounds 2 ?_
  iterate 2 (rw [rounds_succ]; go_wp2)
  go_ret
  exact ⟨rfl, by (repeat' (first | exact Ext.refl _ | assumption | apply Ext.allocR | apply Ext.drewR | apply Ext.drewNR | (refine Ext.trans' ?_ (by assumption))))⟩
set_option maxRecDepth 100000 in
set_option maxHeartbeats 2000000 in
theorem within_no21 (a b c d : Int) (s : Nat) (w : World)
    (f0 : decide (a < 1) = false) (g0 : decide (59 < a) = false) (f1 : decide (b < 1) = false) (g1 : decide (8 < b) = false) (f2 : decide (c < 1) = true)
    (hs : w.heap[s]? = some (.cells #[.int .i64 a, .int .i64 59, .int .i64 b, .int .i64 8, .int .i64 c, .int .i64 128, .int .i64 d, .int .i64 3] 219 (0, 0))) :
    Calls Try.prog 165 #[.slice (some ⟨s, 0, none⟩) 4 4] w fun e w' => e = .returned (.bool false) ∧ Ext w w' := by
  have hlt := lt_of hs
  have l1 : s < w.heap.size + 1 := by omega
  have l2 : s < w.heap.size + 1 + 1 := by omega
  have l3 : s < w.heap.size + 1 + 1 + 1 := by omega
  have k0 := cell_of hs 0
  have k1 := cell_of hs 1
  have k2 := cell_of hs 2
  have k3 := cell_of hs 3
  have k4 := cell_of hs 4
  have k5 := cell_of hs 5
  have k6 := cell_of hs 6
  have k7 := cell_of hs 7
  simp at k0 k1 k2 k3 k4 k5 k6 k7
  clear hs
  go_enter Try.func165, Try.ntmps165
  go_wp2
  refine wp_loop_rounds 3 ?_
  iterate 3 (rw [rounds_succ]; go_wp2)
  go_ret
  exact ⟨rfl, by (repeat' (first | exact Ext.refl _ | assumption | apply Ext.allocR | apply Ext.drewR | apply Ext.drewNR | (refine Ext.trans' ?_ (by assumption))))⟩
set_option maxRecDepth 100000 in
set_option maxHeartbeats 2000000 in
theorem within_no22 (a b c d : Int) (s : Nat) (w : World)
    (f0 : decide (a < 1) = false) (g0 : decide (59 < a) = false) (f1 : decide (b < 1) = false) (g1 : decide (8 < b) = false) (f2 : decide (c < 1) = false) (g2 : decide (128 < c) = true)
    (hs : w.heap[s]? = some (.cells #[.int .i64 a, .int .i64 59, .int .i64 b, .int .i64 8, .int .i64 c, .int .i64 128, .int .i64 d, .int .i64 3] 219 (0, 0))) :
    Calls Try.prog 165 #[.slice (some ⟨s, 0, none⟩) 4 4] w fun e w' => e = .returned (.bool false) ∧ Ext w w' := by
  have hlt := lt_of hs
  have l1 : s < w.heap.size + 1 := by omega
  have l2 : s < w.heap.size + 1 + 1 := by omega
  have l3 : s < w.heap.size + 1 + 1 + 1 := by omega
  have k0 := cell_of hs 0
  have k1 := cell_of hs 1
  have k2 := cell_of hs 2
  have k3 := cell_of hs 3
  have k4 := cell_of hs 4
  have k5 := cell_of hs 5
  have k6 := cell_of hs 6
  have k7 := cell_of hs 7
  simp at k0 k1 k2 k3 k4 k5 k6 k7
  clear hs
  go_enter Try.func165, Try.ntmps165
  go_wp2
  refine wp_loop_rounds 3 ?_
  iterate 3 (rw [rounds_succ]; go_wp2)
  go_ret
  exact ⟨rfl, by (repeat' (first | exact Ext.refl _ | assumption | apply Ext.allocR | apply Ext.drewR | apply Ext.drewNR | (refine Ext.trans' ?_ (by assumption))))⟩
set_option maxRecDepth 100000 in
set_option maxHeartbeats 2000000 in
theorem within_no31 (a b c d : Int) (s : Nat) (w : World)
    (f0 : decide (a < 1) = false) (g0 : decide (59 < a) = false) (f1 : decide (b < 1) = false) (g1 : decide (8 < b) = false) (f2 : decide (c < 1) = false) (g2 : decide (128 < c) = false) (f3 : decide (d < 1) = true)
    (hs : w.heap[s]? = some (.cells #[.int .i64 a, .int .i64 59, .int .i64 b, .int .i64 8, .int .i64 c, .int .i64 128, .int .i64 d, .int .i64 3] 219 (0, 0))) :
    Calls Try.prog 165 #[.slice (some ⟨s, 0, none⟩) 4 4] w fun e w' => e = .returned (.bool false) ∧ Ext w w' := by
  have hlt := lt_of hs
  have l1 : s < w.heap.size + 1 := by omega
  have l2 : s < w.heap.size + 1 + 1 := by omega
  have l3 : s < w.heap.size + 1 + 1 + 1 := by omega
  have k0 := cell_of hs 0
  have k1 := cell_of hs 1
  have k2 := cell_of hs 2
  have k3 := cell_of hs 3
  have k4 := cell_of hs 4
  have k5 := cell_of hs 5
  have k6 := cell_of hs 6
  have k7 := cell_of hs 7
  simp at k0 k1 k2 k3 k4 k5 k6 k7
  clear hs
  go_enter Try.func165, Try.ntmps165
  go_wp2
  refine wp_loop_rounds 4 ?_
  iterate 4 (rw [rounds_succ]; go_wp2)
  go_ret
  exact ⟨rfl, by (repeat' (first | exact Ext.refl _ | assumption | apply Ext.allocR | apply Ext.drewR | apply Ext.drewNR | (refine Ext.trans' ?_ (by assumption))))⟩
set_option maxRecDepth 100000 in
set_option maxHeartbeats 2000000 in
theorem within_no32 (a b c d : Int) (s : Nat) (w : World)
    (f0 : decide (a < 1) = false) (g0 : decide (59 < a) = false) (f1 : decide (b < 1) = false) (g1 : decide (8 < b) = false) (f2 : decide (c < 1) = false) (g2 : decide (128 < c) = false) (f3 : decide (d < 1) = false) (g3 : decide (3 < d) = true)
    (hs : w.heap[s]? = some (.cells #[.int .i64 a, .int .i64 59, .int .i64 b, .int .i64 8, .int .i64 c, .int .i64 128, .int .i64 d, .int .i64 3] 219 (0, 0))) :
    Calls Try.prog 165 #[.slice (some ⟨s, 0, none⟩) 4 4] w fun e w' => e = .returned (.bool false) ∧ Ext w w' := by
  have hlt := lt_of hs
  have l1 : s < w.heap.size + 1 := by omega
  have l2 : s < w.heap.size + 1 + 1 := by omega
  have l3 : s < w.heap.size + 1 + 1 + 1 := by omega
  have k0 := cell_of hs 0
  have k1 := cell_of hs 1
  have k2 := cell_of hs 2
  have k3 := cell_of hs 3
  have k4 := cell_of hs 4
  have k5 := cell_of hs 5
  have k6 := cell_of hs 6
  have k7 := cell_of hs 7
  simp at k0 k1 k2 k3 k4 k5 k6 k7
  clear hs
  go_enter Try.func165, Try.ntmps165
  go_wp2
  refine wp_loop_rounds 4 ?_
  iterate 4 (rw [rounds_succ]; go_wp2)
  go_ret
  exact ⟨rfl, by (repeat' (first | exact Ext.refl _ | assumption | apply Ext.allocR | apply Ext.drewR | apply Ext.drewNR | (refine Ext.trans' ?_ (by assumption))))⟩
def okB (c : Cfg) : Bool := decide (1 ≤ c.bits ∧ c.bits ≤ 59 ∧ 1 ≤ c.rows ∧ c.rows ≤ 8 ∧ 1 ≤ c.width ∧ c.width ≤ 128 ∧ 1 ≤ c.mode ∧ c.mode ≤ 3)
theorem okB_true {c : Cfg} (h : c.Ok) : okB c = true := by
  obtain ⟨b1, b2, r1, r2, w1, w2, m1, m2, s⟩ := h
  unfold okB; exact decide_eq_true ⟨b1, b2, r1, r2, w1, w2, m1, m2⟩
theorem okB_ok {c : Cfg} (h : okB c = true) (hs : U64 c.seed) : c.Ok := by
  have := of_decide_eq_true h
  exact ⟨this.1, this.2.1, this.2.2.1, this.2.2.2.1, this.2.2.2.2.1, this.2.2.2.2.2.1, this.2.2.2.2.2.2.1, this.2.2.2.2.2.2.2, hs⟩
theorem within_bad (c : Cfg) (h : okB c = false) (s : Nat) (w : World)
    (hs : w.heap[s]? = some (.cells #[.int .i64 c.bits, .int .i64 59, .int .i64 c.rows, .int .i64 8, .int .i64 c.width, .int .i64 128, .int .i64 c.mode, .int .i64 3] 219 (0, 0))) :
    Calls Try.prog 165 #[.slice (some ⟨s, 0, none⟩) 4 4] w fun e w' => e = .returned (.bool false) ∧ Ext w w' := by
  have h' := of_decide_eq_false h
  by_cases a1 : c.bits < 1
  · exact within_no01 _ _ _ _ s w (decide_eq_true a1) hs
  by_cases a2 : 59 < c.bits
  · exact within_no02 _ _ _ _ s w (decide_eq_false a1) (decide_eq_true a2) hs
  by_cases b1 : c.rows < 1
  · exact within_no11 _ _ _ _ s w (decide_eq_false a1) (decide_eq_false a2) (decide_eq_true b1) hs
  by_cases b2 : 8 < c.rows
  · exact within_no12 _ _ _ _ s w (decide_eq_false a1) (decide_eq_false a2) (decide_eq_false b1) (decide_eq_true b2) hs
  by_cases c1 : c.width < 1
  · exact within_no21 _ _ _ _ s w (decide_eq_false a1) (decide_eq_false a2) (decide_eq_false b1) (decide_eq_false b2) (decide_eq_true c1) hs
  by_cases c2 : 128 < c.width
  · exact within_no22 _ _ _ _ s w (decide_eq_false a1) (decide_eq_false a2) (decide_eq_false b1) (decide_eq_false b2) (decide_eq_false c1) (decide_eq_true c2) hs
  by_cases d1 : c.mode < 1
  · exact within_no31 _ _ _ _ s w (decide_eq_false a1) (decide_eq_false a2) (decide_eq_false b1) (decide_eq_false b2) (decide_eq_false c1) (decide_eq_false c2) (decide_eq_true d1) hs
  by_cases d2 : 3 < c.mode
  · exact within_no32 _ _ _ _ s w (decide_eq_false a1) (decide_eq_false a2) (decide_eq_false b1) (decide_eq_false b2) (decide_eq_false c1) (decide_eq_false c2) (decide_eq_false d1) (decide_eq_true d2) hs
  exact absurd ⟨by omega, by omega, by omega, by omega, by omega, by omega, by omega, by omega⟩ h'
set_option maxHeartbeats 1000000 in
theorem Right_no (c : Cfg) (h : okB c = false) (w : World) :
    Calls Try.prog 120 #[.agg #[.int .i64 c.bits, .int .i64 c.rows, .int .i64 c.width, .int .i64 c.mode, .int .u64 c.seed]] w fun e w' => e = .returned (.bool false) ∧ Ext w w' := by
  go_enter Try.func120, Try.ntmps120
  go_wp2_with (go_at_call 165; refine (within_bad c h _ _ ?hs).mono ?_)
  · skip
    exact heap_at _ _ (by simp only [size_alloc])
  rintro e w1 ⟨rfl, hb⟩
  go_wp2
  go_ret
  refine ⟨rfl, ?_⟩
  (repeat' (first | exact Ext.refl _ | assumption | apply Ext.allocR | apply Ext.drewR | apply Ext.drewNR | (refine Ext.trans' ?_ (by assumption))))
set_option maxRecDepth 20000 in
set_option maxHeartbeats 1000000 in
theorem KNew_no (C : Cfg) (h : okB C = false) (w : World) :
    Calls Try.prog 59 #[.agg #[.int .i64 C.bits, .int .i64 C.rows, .int .i64 C.width, .int .i64 C.mode, .int .u64 C.seed]] w fun e w' => e = .returned (.tuple #[.pointer none, .int .i64 1]) ∧ Ext w w' := by
  go_enter Try.func59, Try.ntmps59
  go_wp2_with fail
  refine (Right_no C h _).mono ?_
  rintro e w1 ⟨rfl, hb⟩
  go_wp2
  go_ret2
  refine ⟨rfl, ?_⟩
  (repeat' (first | exact Ext.refl _ | assumption | apply Ext.allocR | apply Ext.drewR | apply Ext.drewNR | (refine Ext.trans' ?_ (by assumption))))
end Go.Proofs.Ytpnbgoahjoabkaa

/- Plain law: small updates made to a stack of noughts are never refused. -/
namespace Go.Proofs.Ytpnbgoahjoabkaa
set_option linter.unusedVariables false
open Go.RowKit

theorem zs_bnd (n : Nat) : Bnd 0 (zs n) := by
  intro x hx
  simp only [zs, List.mem_replicate] at hx
  omega
theorem lvE_ok {C : Cfg} {lv : Int} {l : List Int} {key d B T : Int} (h : Bnd B l) (hB : 0 ≤ B) (hT : 0 ≤ T) (hd : -T ≤ d ∧ d ≤ T) (hs : B + T ≤ 4611686018427387904) (hk : key < keys C lv) (hm : C.mode = 2 → 0 ≤ d) : lvE C lv l key d = 0 := by
  cases hx : isX C lv with
  | false => rw [lvE_s hx]; exact upd_ok h hB hT hd hs hk hm
  | true =>
    rw [lvE_x hx, errX_sum hk (fun hh => by have := hm hh.1; omega)]
    have h2 := h.getD hB key.toNat
    rw [fitB_yes (by unfold I64; omega)]
    rfl
theorem lvU_bnd {C : Cfg} {lv : Int} {l : List Int} {key d B T : Int} (h : Bnd B l) (hB : 0 ≤ B) (hT : 0 ≤ T) (hd : -T ≤ d ∧ d ≤ T) : Bnd (B + T) (lvU C lv l key d) := by
  cases hx : isX C lv with
  | false => rw [lvU_s hx]; exact upd_bnd h hB hT hd
  | true =>
    rw [lvU_x hx]
    intro x hx
    unfold updX at hx
    rcases List.mem_or_eq_of_mem_set hx with h1 | rfl
    · have := h x h1; omega
    · have h2 := h.getD hB key.toNat; omega
theorem updK_bnd {C : Cfg} {ls : Nat → List Int} {key d B' T : Int} {n : Nat} (h : Bnd B' (ls n)) (hB : 0 ≤ B') (hT : 0 ≤ T) (hd : -T ≤ d ∧ d ≤ T) : Bnd (B' + T) (updK C ls key d n) := lvU_bnd h hB hT hd
theorem errK_ok {C : Cfg} (hok : C.Ok) {B : Nat} (hBb : C.bits = B) {ls : Nat → List Int} {key d B' T : Int} (h : ∀ n, n ≤ B → Bnd B' (ls n)) (hB : 0 ≤ B') (hT : 0 ≤ T) (hd : -T ≤ d ∧ d ≤ T) (hs : B' + T ≤ 4611686018427387904) (hk0 : 0 ≤ key) (hk : key < keys C 0) (hm : C.mode = 2 → 0 ≤ d) : errK C B ls key d = 0 :=
  errK_zero.2 ⟨hk, fun n hn => lvE_ok (h n hn) hB hT hd hs (sh_lt hok (by omega) hk0 hk) hm⟩
theorem feedK_bnd (C : Cfg) (us : List (Int × Int)) (n : Nat) : Bnd (us.length * 1099511627776) (feedK C us n) := by
  refine snoc_ind (P := fun us => Bnd (us.length * 1099511627776) (feedK C us n)) ?_ ?_ us
  · exact zs_bnd _
  · intro us u ih
    rw [feedK_snoc]
    have := updK_bnd (C := C) (ls := feedK C us) (key := cutK C 0 u.1) (d := cutD C.mode u.2) (n := n) ih (by omega) (show (0 : Int) ≤ 1099511627776 by decide) (by have := cutD_bd C.mode u.2; omega)
    have e : ((us ++ [u]).length : Int) * 1099511627776 = us.length * 1099511627776 + 1099511627776 := by
      rw [List.length_append, List.length_singleton]; push_cast; omega
    rw [e]
    exact this
theorem feedK_ok (C : Cfg) (hok : C.Ok) {B : Nat} (hBb : C.bits = B) (us : List (Int × Int)) (hl : us.length ≤ 1000) (u : Int × Int) : errK C B (feedK C us) (cutK C 0 u.1) (cutD C.mode u.2) = 0 := by
  have hk := cutK_bd C hok 0 u.1 (Int.le_refl 0)
  refine errK_ok hok hBb (fun n _ => feedK_bnd C us n) (by omega) (show (0 : Int) ≤ 1099511627776 by decide) (by have := cutD_bd C.mode u.2; omega) (by omega) hk.1 hk.2 (fun h => cutD_nn h)
end Go.Proofs.Ytpnbgoahjoabkaa

/- gaugerlaw15.shown: what the law shows of one small stack. -/
namespace Go.Proofs.Ytpnbgoahjoabkaa
set_option linter.unusedVariables false
open Go.RowKit

def K0 : Cfg := ⟨2, 2, 2, 1, 0⟩
theorem K0_ok : K0.Ok := by constructor <;> simp [K0, U64]
theorem K0_x1 : isX K0 1 = true := by decide
theorem K0_x2 : isX K0 2 = true := by decide
theorem K0_x0 : isX K0 0 = false := by decide
def K0a : Nat → List Int := updK K0 (fun n => zs (lvN K0 n)) 3 5
def K0b : Nat → List Int := updK K0 K0a 0 (-2)
theorem K0_e1 : errK K0 2 (fun n => zs (lvN K0 n)) 3 5 = 0 := errK_ok K0_ok rfl (B' := 0) (T := 5) (fun n _ => zs_bnd _) (by decide) (by decide) (by decide) (by decide) (by decide) (by decide) (by decide)
theorem K0_e2 : errK K0 2 K0a 0 (-2) = 0 := errK_ok K0_ok rfl (B' := 5) (T := 5) (fun n hn => updK_bnd (B' := 0) (T := 5) (zs_bnd _) (by decide) (by decide) (by decide)) (by decide) (by decide) (by decide) (by decide) (by decide) (by decide) (by decide)
theorem K0_e3 : errK K0 2 K0b 4 1 = 2 := by unfold errK; rfl
theorem K0_l1 : K0b 1 = [-2, 5] := by
  unfold K0b K0a updK
  rw [show ((1 : Nat) : Int) = 1 from rfl, lvU_x K0_x1, lvU_x K0_x1]
  rfl
theorem K0_l2 : K0b 2 = [3] := by
  unfold K0b K0a updK
  rw [show ((2 : Nat) : Int) = 2 from rfl, lvU_x K0_x2, lvU_x K0_x2]
  rfl
theorem K0_l0 : (K0b 0).length = 4 := by
  unfold K0b K0a updK
  rw [lvU_len, lvU_len]
  rfl
def KFresh (N B : Nat) (L : Nat → Lev) : Prop := ∀ n, n ≤ B → N ≤ (L n).s ∧ N ≤ (L n).b ∧ N ≤ (L n).c
theorem KFresh.ext {w a b : World} {B : Nat} {L : Nat → Lev} (h : KFresh w.heap.size B L) (hE : Ext w a) (hM : Mod (cellsOf B L) a b) : Ext w b :=
  Below.trans hE (hM.below (B := w.heap.size) hE.size (fun k hk => by obtain ⟨n, hn, rfl⟩ := hk; exact (h n hn).2.2))
theorem ints2 (w : World) (a b : Int) (t : TypeId) : IntsAt (w.alloc (.cells #[.int .i64 a, .int .i64 b] t)) (.slice (some ⟨w.heap.size, 0, none⟩) 2 2) [a, b] := by
  have h0 := (cell_of (heap_at w (.cells #[.int .i64 a, .int .i64 b] t) rfl) 0).trans rfl
  have h1 := (cell_of (heap_at w (.cells #[.int .i64 a, .int .i64 b] t) rfl) 1).trans rfl
  refine .inr ⟨w.heap.size, 0, 2, rfl, by rw [size_alloc]; omega, fun k hk => ?_⟩
  match k, hk with
  | 0, _ => exact h0
  | 1, _ => exact h1
set_option maxRecDepth 20000 in
set_option maxHeartbeats 4000000 in
theorem shownK_c (w : World) : Calls Try.prog 46 #[] w fun e w' => e = .returned (.bool true) ∧ Ext w w' := by
  go_enter Try.func46, Try.ntmps46
  go_wp2_with fail
  refine (KNew_c K0 K0_ok _).mono ?_
  rintro e w1 ⟨s, g, L, rfl, hK, hs, hg, hL, hx1⟩
  have hE1 : Ext w w1 := by (repeat' (first | exact Ext.refl _ | assumption | apply Ext.allocR | apply Ext.drewR | apply Ext.drewNR | (refine Ext.trans' ?_ (by assumption))))
  have hF : KFresh w.heap.size 2 L := hL
  replace hK : KAt w1 s g K0 2 L (fun n => zs (lvN K0 n)) := hK
  clear hx1 hL hg hs
  go_wp2_with fail
  refine (KNew_no ⟨0, 0, 0, 0, 0⟩ rfl _).mono ?_
  rintro e w2 ⟨rfl, hx2⟩
  have hE2 : Ext w w2 := by (repeat' (first | exact Ext.refl _ | assumption | apply Ext.allocR | apply Ext.drewR | apply Ext.drewNR | (refine Ext.trans' ?_ (by assumption))))
  have hK2 := hK.ext (w' := w2) (by (repeat' (first | exact Ext.refl _ | assumption | apply Ext.allocR | apply Ext.drewR | apply Ext.drewNR | (refine Ext.trans' ?_ (by assumption)))))
  clear hK hx2 hE1
  go_wp2_with fail
  refine Calls.mono (KUpdate_c s g K0 2 L _ 3 5 _ (hK2.ext ?hx) (by unfold I64; omega) (by unfold U64; omega)) ?_
  case hx => (repeat' (first | exact Ext.refl _ | assumption | apply Ext.allocR | apply Ext.drewR | apply Ext.drewNR | (refine Ext.trans' ?_ (by assumption))))
  rintro e w3 ⟨rfl, hK3, hM3⟩
  have hE3 : Ext w w3 := hF.ext (by (repeat' (first | exact Ext.refl _ | assumption | apply Ext.allocR | apply Ext.drewR | apply Ext.drewNR | (refine Ext.trans' ?_ (by assumption))))) hM3
  rw [K0_e1] at hK3 ⊢
  replace hK3 : KAt w3 s g K0 2 L K0a := hK3
  clear hM3 hE2 hK2
  go_wp2_with fail
  refine Calls.mono (KUpdate_c s g K0 2 L _ 0 (-2) _ (hK3.ext ?hx) (by unfold I64; omega) (by unfold U64; omega)) ?_
  case hx => (repeat' (first | exact Ext.refl _ | assumption | apply Ext.allocR | apply Ext.drewR | apply Ext.drewNR | (refine Ext.trans' ?_ (by assumption))))
  rintro e w4 ⟨rfl, hK4, hM4⟩
  have hE4 : Ext w w4 := hF.ext (by (repeat' (first | exact Ext.refl _ | assumption | apply Ext.allocR | apply Ext.drewR | apply Ext.drewNR | (refine Ext.trans' ?_ (by assumption))))) hM4
  rw [K0_e2] at hK4 ⊢
  replace hK4 : KAt w4 s g K0 2 L K0b := hK4
  clear hM4 hE3 hK3
  go_wp2_with fail
  refine Calls.mono (KUpdate_c s g K0 2 L _ 4 1 _ (hK4.ext ?hx) (by unfold I64; omega) (by unfold U64; omega)) ?_
  case hx => (repeat' (first | exact Ext.refl _ | assumption | apply Ext.allocR | apply Ext.drewR | apply Ext.drewNR | (refine Ext.trans' ?_ (by assumption))))
  rintro e w5 ⟨rfl, hK5, hM5⟩
  have hE5 : Ext w w5 := hF.ext (by (repeat' (first | exact Ext.refl _ | assumption | apply Ext.allocR | apply Ext.drewR | apply Ext.drewNR | (refine Ext.trans' ?_ (by assumption))))) hM5
  rw [K0_e3] at hK5 ⊢
  replace hK5 : KAt w5 s g K0 2 L K0b := hK5
  clear hM5 hE4 hK4
  go_wp2_with fail
  refine Calls.mono (KPoint_c s g K0 2 L _ _ (hK5.ext ?hx) 1 (by decide) 1 (by decide) (by decide)) ?_
  case hx => (repeat' (first | exact Ext.refl _ | assumption | apply Ext.allocR | apply Ext.drewR | apply Ext.drewNR | (refine Ext.trans' ?_ (by assumption))))
  rintro e w6 ⟨x, rfl, hp, hx6⟩
  obtain rfl : x = 5 := by
    rcases hp with ⟨_, h⟩ | ⟨h, _⟩
    · rw [K0_l1] at h; exact h
    · exact absurd h (by rw [show ((1 : Nat) : Int) = 1 from rfl, K0_x1]; decide)
  have hE6 : Ext w w6 := by (repeat' (first | exact Ext.refl _ | assumption | apply Ext.allocR | apply Ext.drewR | apply Ext.drewNR | (refine Ext.trans' ?_ (by assumption))))
  have hK6 := hK5.ext (w' := w6) (by (repeat' (first | exact Ext.refl _ | assumption | apply Ext.allocR | apply Ext.drewR | apply Ext.drewNR | (refine Ext.trans' ?_ (by assumption)))))
  clear hK5 hx6 hE5 hp
  go_wp2_with fail
  refine Calls.mono (KPoint_lv s g K0 2 L _ _ (hK6.ext ?hx) 3 (.inr (by decide)) 0) ?_
  case hx => (repeat' (first | exact Ext.refl _ | assumption | apply Ext.allocR | apply Ext.drewR | apply Ext.drewNR | (refine Ext.trans' ?_ (by assumption))))
  rintro e w7 ⟨rfl, hx7⟩
  have hE7 : Ext w w7 := by (repeat' (first | exact Ext.refl _ | assumption | apply Ext.allocR | apply Ext.drewR | apply Ext.drewNR | (refine Ext.trans' ?_ (by assumption))))
  have hK7 := hK6.ext (w' := w7) (by (repeat' (first | exact Ext.refl _ | assumption | apply Ext.allocR | apply Ext.drewR | apply Ext.drewNR | (refine Ext.trans' ?_ (by assumption)))))
  clear hK6 hx7 hE6
  go_wp2_with fail
  refine Calls.mono (KAt_c s g K0 2 L _ _ (hK7.ext ?hx) 1 (by decide)) ?_
  case hx => (repeat' (first | exact Ext.refl _ | assumption | apply Ext.allocR | apply Ext.drewR | apply Ext.drewNR | (refine Ext.trans' ?_ (by assumption))))
  rintro e w8 ⟨M, rfl, _, _, _, _, hx8⟩
  have hE8 : Ext w w8 := by (repeat' (first | exact Ext.refl _ | assumption | apply Ext.allocR | apply Ext.drewR | apply Ext.drewNR | (refine Ext.trans' ?_ (by assumption))))
  have hK8 := hK7.ext (w' := w8) (by (repeat' (first | exact Ext.refl _ | assumption | apply Ext.allocR | apply Ext.drewR | apply Ext.drewNR | (refine Ext.trans' ?_ (by assumption)))))
  clear hK7 hx8 hE7
  rw [show lvV K0 (1 : Nat) M = .iface 174 (.pointer (some ⟨M.s, 0, none⟩)) from lvV_x K0_x1 M]
  go_wp2_with fail
  refine Calls.mono (KTotal_c s g K0 2 L _ _ (hK8.ext ?hx)) ?_
  case hx => (repeat' (first | exact Ext.refl _ | assumption | apply Ext.allocR | apply Ext.drewR | apply Ext.drewNR | (refine Ext.trans' ?_ (by assumption))))
  rintro e w9 ⟨rfl, hx9⟩
  have hE9 : Ext w w9 := by (repeat' (first | exact Ext.refl _ | assumption | apply Ext.allocR | apply Ext.drewR | apply Ext.drewNR | (refine Ext.trans' ?_ (by assumption))))
  have hK9 := hK8.ext (w' := w9) (by (repeat' (first | exact Ext.refl _ | assumption | apply Ext.allocR | apply Ext.drewR | apply Ext.drewNR | (refine Ext.trans' ?_ (by assumption)))))
  clear hK8 hx9 hE8
  rw [K0_l2]
  go_wp2_with fail
  refine Calls.mono (KCells_c s g K0 2 L _ _ (hK9.ext ?hx) 0 (by decide)) ?_
  case hx => (repeat' (first | exact Ext.refl _ | assumption | apply Ext.allocR | apply Ext.drewR | apply Ext.drewNR | (refine Ext.trans' ?_ (by assumption))))
  rintro e w10 ⟨v, rfl, ho, hne, hx10⟩
  have hE10 : Ext w w10 := by (repeat' (first | exact Ext.refl _ | assumption | apply Ext.allocR | apply Ext.drewR | apply Ext.drewNR | (refine Ext.trans' ?_ (by assumption))))
  have hK10 := hK9.ext (w' := w10) (by (repeat' (first | exact Ext.refl _ | assumption | apply Ext.allocR | apply Ext.drewR | apply Ext.drewNR | (refine Ext.trans' ?_ (by assumption)))))
  obtain ⟨p0, q0, rfl⟩ := own_len ho
  rw [K0_l0]
  clear hK9 hx10 hE9 ho hne
  go_wp2_with fail
  refine Calls.mono (KCells_c s g K0 2 L _ _ (hK10.ext ?hx) 1 (by decide)) ?_
  case hx => (repeat' (first | exact Ext.refl _ | assumption | apply Ext.allocR | apply Ext.drewR | apply Ext.drewNR | (refine Ext.trans' ?_ (by assumption))))
  rintro e w11 ⟨v, rfl, ho, hne, hx11⟩
  have hE11 : Ext w w11 := by (repeat' (first | exact Ext.refl _ | assumption | apply Ext.allocR | apply Ext.drewR | apply Ext.drewNR | (refine Ext.trans' ?_ (by assumption))))
  have hv := IntsAt.of_row ho
  rw [K0_l1] at hv
  clear hK10 hx11 hE10 ho hne
  go_wp2_with fail
  refine Calls.mono (Same_c _ _ _ _ _ (hv.ext (Ext.alloc' _ _)) (ints2 w11 (-2) 5 _) (by decide) (by decide)) ?_
  rintro e w12 ⟨rfl, hx12⟩
  go_wp2
  go_ret
  exact ⟨rfl, by (repeat' (first | exact Ext.refl _ | assumption | apply Ext.allocR | apply Ext.drewR | apply Ext.drewNR | (refine Ext.trans' ?_ (by assumption))))⟩
end Go.Proofs.Ytpnbgoahjoabkaa

/- gaugerref07.Right of any config. -/
namespace Go.Proofs.Ytpnbgoahjoabkaa
set_option linter.unusedVariables false
open Go.RowKit
set_option maxRecDepth 20000 in
set_option maxHeartbeats 2000000 in
theorem RightR_raw (c : Cfg) (w : World) :
    Calls Try.prog 58 #[.agg #[.int .i64 c.bits, .int .i64 c.rows, .int .i64 c.width, .int .i64 c.mode, .int .u64 c.seed]] w fun e w' => e = .returned (.bool (okB c)) ∧ Ext w w' := by
  have hO : okB c = (decide (1 ≤ c.bits ∧ c.bits ≤ 59) && (decide (1 ≤ c.rows ∧ c.rows ≤ 8) && (decide (1 ≤ c.width ∧ c.width ≤ 128) && decide (1 ≤ c.mode ∧ c.mode ≤ 3)))) := by
    unfold okB; simp only [Bool.decide_and, Bool.and_assoc]
  rw [hO]
  clear hO
  obtain ⟨B1, hB1⟩ : ∃ B, decide (1 ≤ c.bits ∧ c.bits ≤ 59) = B := ⟨_, rfl⟩
  obtain ⟨B2, hB2⟩ : ∃ B, decide (1 ≤ c.rows ∧ c.rows ≤ 8) = B := ⟨_, rfl⟩
  obtain ⟨B3, hB3⟩ : ∃ B, decide (1 ≤ c.width ∧ c.width ≤ 128) = B := ⟨_, rfl⟩
  rw [hB1, hB2, hB3]
  have H1 := Lib.hid hB1
  have H2 := Lib.hid hB2
  have H3 := Lib.hid hB3
  clear hB1 hB2 hB3
  go_enter Try.func58, Try.ntmps58
  go_upto_region 1 with (fail)
  go_cut [3] (fun s3 wx => s3 = .bool B1 ∧ wx = w.alloc (.cells #[.int .i64 c.bits, .int .i64 c.rows, .int .i64 c.width, .int .i64 c.mode, .int .u64 c.seed] 24))
  case first =>
    by_cases h1 : 1 ≤ c.bits
    · by_cases h2 : c.bits ≤ 59
      · go_wp2
        go_meet
        exact ⟨by rw [← H1.out, decide_eq_true (by omega)], rfl⟩
      · go_wp2
        go_meet
        exact ⟨by rw [← H1.out, decide_eq_false (by omega)], rfl⟩
    · go_wp2
      go_meet
      exact ⟨by rw [← H1.out, decide_eq_false (by omega)], rfl⟩
  case rest =>
    obtain ⟨rfl, rfl⟩ := hcut
    go_upto_region 2 with (fail)
    go_cut [4] (fun s3 wx => s3 = .bool B2 ∧ wx = w.alloc (.cells #[.int .i64 c.bits, .int .i64 c.rows, .int .i64 c.width, .int .i64 c.mode, .int .u64 c.seed] 24))
    case first =>
      by_cases h1 : 1 ≤ c.rows
      · by_cases h2 : c.rows ≤ 8
        · go_wp2
          go_meet
          exact ⟨by rw [← H2.out, decide_eq_true (by omega)], rfl⟩
        · go_wp2
          go_meet
          exact ⟨by rw [← H2.out, decide_eq_false (by omega)], rfl⟩
      · go_wp2
        go_meet
        exact ⟨by rw [← H2.out, decide_eq_false (by omega)], rfl⟩
    case rest =>
      obtain ⟨rfl, rfl⟩ := hcut
      go_upto_region 3 with (fail)
      go_cut [5] (fun s3 wx => s3 = .bool B3 ∧ wx = w.alloc (.cells #[.int .i64 c.bits, .int .i64 c.rows, .int .i64 c.width, .int .i64 c.mode, .int .u64 c.seed] 24))
      case first =>
        by_cases h1 : 1 ≤ c.width
        · by_cases h2 : c.width ≤ 128
          · go_wp2
            go_meet
            exact ⟨by rw [← H3.out, decide_eq_true (by omega)], rfl⟩
          · go_wp2
            go_meet
            exact ⟨by rw [← H3.out, decide_eq_false (by omega)], rfl⟩
        · go_wp2
          go_meet
          exact ⟨by rw [← H3.out, decide_eq_false (by omega)], rfl⟩
      case rest =>
        obtain ⟨rfl, rfl⟩ := hcut
        cases B1 with
        | false => go_wp2; go_ret; exact ⟨rfl, Ext.alloc' _ _⟩
        | true =>
          cases B2 with
          | false => go_wp2; go_ret; exact ⟨rfl, Ext.alloc' _ _⟩
          | true =>
            cases B3 with
            | false => go_wp2; go_ret; exact ⟨rfl, Ext.alloc' _ _⟩
            | true =>
              by_cases hm1 : c.mode = 1
              · have k1 : (c.mode == 1) = true := by simp [hm1]
                have hd : decide (1 ≤ c.mode ∧ c.mode ≤ 3) = true := decide_eq_true (by omega)
                clear hm1
                go_wp2; go_ret; exact ⟨by rw [hd]; rfl, Ext.alloc' _ _⟩
              · have k1 : (c.mode == 1) = false := by simpa using hm1
                by_cases hm2 : c.mode = 2
                · have k2 : (c.mode == 2) = true := by simp [hm2]
                  have hd : decide (1 ≤ c.mode ∧ c.mode ≤ 3) = true := decide_eq_true (by omega)
                  clear hm1 hm2
                  go_wp2; go_ret; exact ⟨by rw [hd]; rfl, Ext.alloc' _ _⟩
                · have k2 : (c.mode == 2) = false := by simpa using hm2
                  by_cases hm3 : c.mode = 3
                  · have k3 : (c.mode == 3) = true := by simp [hm3]
                    have hd : decide (1 ≤ c.mode ∧ c.mode ≤ 3) = true := decide_eq_true (by omega)
                    clear hm1 hm2 hm3
                    go_wp2; go_ret; exact ⟨by rw [hd]; rfl, Ext.alloc' _ _⟩
                  · have k3 : (c.mode == 3) = false := by simpa using hm3
                    have hd : decide (1 ≤ c.mode ∧ c.mode ≤ 3) = false := decide_eq_false (by omega)
                    clear hm1 hm2 hm3
                    go_wp2; go_ret; exact ⟨by rw [hd]; rfl, Ext.alloc' _ _⟩
end Go.Proofs.Ytpnbgoahjoabkaa

/- gaugerlaw15.StackMakes, walked. -/
namespace Go.Proofs.Ytpnbgoahjoabkaa
set_option linter.unusedVariables false
open Go.RowKit
def cut20 (x : Cfg) : Cfg := { x with bits := 1 + (x.bits - 1) % 20 }
theorem cut20_b (x : Cfg) : 0 ≤ (x.bits - 1) % 20 ∧ (x.bits - 1) % 20 < 20 :=
  ⟨Int.emod_nonneg _ (by decide), Int.emod_lt_of_pos _ (by decide)⟩
theorem cut20_ok {x : Cfg} (h : x.Ok) : (cut20 x).Ok := by
  obtain ⟨b1, b2, r1, r2, w1, w2, m1, m2, s⟩ := h
  have := cut20_b x
  refine ⟨?_, ?_, r1, r2, w1, w2, m1, m2, s⟩
  · show 1 ≤ 1 + (x.bits - 1) % 20; omega
  · show 1 + (x.bits - 1) % 20 ≤ 59; omega
theorem lvN_top {C : Cfg} (h : C.Ok) {B : Nat} (hB : C.bits = B) : lvN C B = 1 := by
  unfold lvN; rw [isX_top h hB]; show kN C B = 1; unfold kN; rw [keys_top hB]; rfl
set_option maxRecDepth 20000 in
set_option maxHeartbeats 4000000 in
theorem MakesL_c (x : Cfg) (hx : x.Raw) (w : World) :
    Calls Try.prog 9 #[.agg #[.int .i64 x.bits, .int .i64 x.rows, .int .i64 x.width, .int .i64 x.mode, .int .u64 x.seed]] w fun e w' => e = .returned (.bool true) ∧ Ext w w' := by
  cases hO : okB x with
  | false =>
    have HO := Lib.hid hO
    clear hO
    go_enter Try.func9, Try.ntmps9
    go_wp2_with fail
    refine (shownK_c _).mono ?_
    rintro e w1 ⟨rfl, hx1⟩
    have hE1 : Ext w w1 := by (repeat' (first | exact Ext.refl _ | assumption | apply Ext.allocR | apply Ext.drewR | apply Ext.drewNR | (refine Ext.trans' ?_ (by assumption))))
    have hC := (CfgAt.box (w := w) x 24 rfl).ext hx1
    have c0 := hC.c0
    have c1 := hC.c1
    have c2 := hC.c2
    have c3 := hC.c3
    have c4 := hC.c4
    have cl := hC.lt
    clear hC hx1
    go_wp2_with fail
    refine (RightR_raw x _).mono ?_
    rintro e w2 ⟨rfl, hx2⟩
    rw [HO.out]
    have hE2 : Ext w w2 := by (repeat' (first | exact Ext.refl _ | assumption | apply Ext.allocR | apply Ext.drewR | apply Ext.drewNR | (refine Ext.trans' ?_ (by assumption))))
    have d := (bcell hx2).1
    have d0 := (d _ _ cl).trans c0
    have d1 := (d _ _ cl).trans c1
    have d2 := (d _ _ cl).trans c2
    have d3 := (d _ _ cl).trans c3
    have d4 := (d _ _ cl).trans c4
    have dl : w.heap.size < w2.heap.size := Nat.lt_of_lt_of_le cl hx2.size
    clear d c0 c1 c2 c3 c4 cl hx2 hE1
    go_wp2_with fail
    refine (KNew_no x HO.out _).mono ?_
    rintro e w3 ⟨rfl, hx3⟩
    have hE3 : Ext w w3 := by (repeat' (first | exact Ext.refl _ | assumption | apply Ext.allocR | apply Ext.drewR | apply Ext.drewNR | (refine Ext.trans' ?_ (by assumption))))
    have d := (bcell hx3).1
    have e0 := (d _ _ dl).trans d0
    have e1 := (d _ _ dl).trans d1
    have e2 := (d _ _ dl).trans d2
    have e3 := (d _ _ dl).trans d3
    have e4 := (d _ _ dl).trans d4
    have el : w.heap.size < w3.heap.size := Nat.lt_of_lt_of_le dl hx3.size
    clear d d0 d1 d2 d3 d4 dl hx3 hE2
    go_wp2_with fail
    refine (RightR_raw x _).mono ?_
    rintro e w4 ⟨rfl, hx4⟩
    rw [HO.out]
    go_wp2
    go_ret
    exact ⟨rfl, by (repeat' (first | exact Ext.refl _ | assumption | apply Ext.allocR | apply Ext.drewR | apply Ext.drewNR | (refine Ext.trans' ?_ (by assumption))))⟩
  | true =>
    have hok := okB_ok hO hx.s
    have hok' := cut20_ok hok
    have hbb := cut20_b x
    have hb1 := hok.b1
    have hb2 := hok.b2
    have hO' := okB_true hok'
    have HO' := Lib.hid hO'
    have HO := Lib.hid hO
    clear hO hO'
    go_enter Try.func9, Try.ntmps9
    go_wp2_with fail
    refine (shownK_c _).mono ?_
    rintro e w1 ⟨rfl, hx1⟩
    have hE1 : Ext w w1 := by (repeat' (first | exact Ext.refl _ | assumption | apply Ext.allocR | apply Ext.drewR | apply Ext.drewNR | (refine Ext.trans' ?_ (by assumption))))
    have hcb := hx1.keep (heap_at w (.cells #[.int .i64 x.bits, .int .i64 x.rows, .int .i64 x.width, .int .i64 x.mode, .int .u64 x.seed] 24) rfl)
    have hC := CfgAt.of hcb
    have c0 := hC.c0
    have c1 := hC.c1
    have c2 := hC.c2
    have c3 := hC.c3
    have c4 := hC.c4
    have cl := hC.lt
    clear hC hx1
    go_wp2_with fail
    refine (RightR_raw x _).mono ?_
    rintro e w2 ⟨rfl, hx2⟩
    rw [HO.out]
    have hE2 : Ext w w2 := by (repeat' (first | exact Ext.refl _ | assumption | apply Ext.allocR | apply Ext.drewR | apply Ext.drewNR | (refine Ext.trans' ?_ (by assumption))))
    have hcb2 := hx2.keep hcb
    have hC := CfgAt.of hcb2
    have hfz := frozen_of hcb2 0
    have d0 := hC.c0
    have dl := hC.lt
    clear c0 c1 c2 c3 c4 cl hx2 hE1 hcb hC
    go_upto_region 4 with (fail)
    obtain ⟨w3, hw3⟩ : ∃ w3, w2.setCell ⟨w.heap.size, 0, none⟩ (.int .i64 (1 + (x.bits - 1) % 20)) = w3 := ⟨_, rfl⟩
    have hE3 : Ext w w3 := by rw [← hw3]; exact hE2.setR (p := ⟨w.heap.size, 0, none⟩) (Nat.le_refl _) _
    have hcb3 : w3.heap[w.heap.size]? = some (.cells #[.int .i64 (cut20 x).bits, .int .i64 (cut20 x).rows, .int .i64 (cut20 x).width, .int .i64 (cut20 x).mode, .int .u64 (cut20 x).seed] 24 (0, 0)) := by rw [← hw3]; exact (setCell_same hcb2 0 _).trans rfl
    rw [hw3]
    have hsz3 := hE3.size
    clear hw3 hcb2 hE2 d0 dl hfz
    have hC := CfgAt.of (C := cut20 x) hcb3
    have c0 := hC.c0
    have c1 := hC.c1
    have c2 := hC.c2
    have c3 := hC.c3
    have c4 := hC.c4
    have cl := hC.lt
    obtain ⟨B, hB⟩ : ∃ B : Nat, (cut20 x).bits = B := ⟨(cut20 x).bits.toNat, by have := hok'.b1; omega⟩
    have HBB := Lib.hid hB
    have HBD := Lib.hid hbb
    generalize cut20 x = C at *
    clear hB hbb hC
    go_wp2_with fail
    refine (KNew_c C hok' _).mono ?_
    rintro e w4 ⟨s, g, L, rfl, hK, hs, hg, hL, hx4⟩
    rw [show C.bits.toNat = B by have := HBB.out; omega] at hK
    have hE4 : Ext w w4 := by (repeat' (first | exact Ext.refl _ | assumption | apply Ext.allocR | apply Ext.drewR | apply Ext.drewNR | (refine Ext.trans' ?_ (by assumption))))
    have hC4 := (CfgAt.of hcb3).ext hx4
    have d0 := hC4.c0
    have d1 := hC4.c1
    have d2 := hC4.c2
    have d3 := hC4.c3
    have d4 := hC4.c4
    have dl := hC4.lt
    clear c0 c1 c2 c3 c4 cl hL
    go_wp2_with fail
    refine (RightR_raw C _).mono ?_
    rintro e w5 ⟨rfl, hx5⟩
    rw [HO'.out]
    have hE5 : Ext w w5 := by (repeat' (first | exact Ext.refl _ | assumption | apply Ext.allocR | apply Ext.drewR | apply Ext.drewNR | (refine Ext.trans' ?_ (by assumption))))
    have hC5 := hC4.ext hx5
    have c0 := hC5.c0
    have c1 := hC5.c1
    have c2 := hC5.c2
    have c3 := hC5.c3
    have c4 := hC5.c4
    have cl := hC5.lt
    have hK5 := hK.ext hx5
    clear d0 d1 d2 d3 d4 dl hC4 hC5 hK
    go_wp2
    have hC0 := af_drew w5
    refine pi_start (fun w' => ∃ x : After w5, w' = x.w) [] (by kernel_rfl) ?_
    refine pi_t 0 rfl (by kernel_rfl) (by kernel_rfl) (fun _ _ _ _ h => h) (fun K hK => ?_)
    go_big_quiet_op
    refine hK _ ?_
    clear hK K
    refine pi_t 1 rfl (by kernel_rfl) (by kernel_rfl) (fun _ _ _ _ h => h) (fun K hK => ?_)
    go_big_quiet_op
    refine hK _ ?_
    clear hK K
    refine pi_t 2 rfl (by kernel_rfl) (by kernel_rfl) (fun _ _ _ _ h => h) (fun K hK => ?_)
    go_big_quiet_op
    refine hK _ ?_
    clear hK K
    refine pi_t 3 rfl (by kernel_rfl) (by kernel_rfl) (fun _ _ _ _ h => h) (fun K hK => ?_)
    go_big_quiet_op
    refine hK _ ?_
    clear hK K
    refine pi_t 4 rfl (by kernel_rfl) (by kernel_rfl) (fun _ _ _ _ h => h) (fun K hK => ?_)
    go_big_quiet_op
    refine hK _ ?_
    clear hK K
    refine pi_t 5 rfl (by kernel_rfl) (by kernel_rfl) (fun _ _ _ _ h => h) (fun K hK => ?_)
    go_big_quiet_op
    refine hK _ ?_
    clear hK K
    refine pi_t 6 rfl (by kernel_rfl) (by kernel_rfl) (fun _ _ _ _ h => h) (fun K hK => ?_)
    go_big_quiet_op
    refine hK _ ?_
    clear hK K
    refine pi_c 8 (by assumption) rfl (by kernel_rfl) (by kernel_rfl) (fun _ _ _ _ h => h) (fun K hK => ?_)
    go_big_quiet_op
    refine hK _ ?_
    clear hK K
    refine pi_l 7 rfl (by kernel_rfl) (fun K hK => ?_)
    go_wp2_with fail
    refine Calls.mono (SKConfig_c s g C B L _ _ (hK5.ext ?hx)) ?_
    case hx => (repeat' (first | exact Ext.refl _ | assumption | apply Ext.allocR | apply Ext.drewR | apply Ext.drewNR | (refine Ext.trans' ?_ (by assumption))))
    rintro e w6 ⟨rfl, hx6⟩
    go_wp2
    refine hK _ _ (fun _ h => af_step h hx6) ?_
    clear hK K
    have hE6 : Ext w5 w6 := by (repeat' (first | exact Ext.refl _ | assumption | apply Ext.allocR | apply Ext.drewR | apply Ext.drewNR | (refine Ext.trans' ?_ (by assumption))))
    refine pi_t 9 rfl (by kernel_rfl) (by kernel_rfl) (fun _ _ _ _ h => h) (fun K hK => ?_)
    go_big_quiet_op
    refine hK _ ?_
    clear hK K
    refine pi_t 10 rfl (by kernel_rfl) (by kernel_rfl) (fun _ _ _ _ h => h) (fun K hK => ?_)
    go_big_quiet_op
    refine hK _ ?_
    clear hK K
    refine pi_t 11 rfl (by kernel_rfl) (by kernel_rfl) (fun _ _ _ _ h => h) (fun K hK => ?_)
    go_big_quiet_op
    refine hK _ ?_
    clear hK K
    refine pi_t 12 rfl (by kernel_rfl) (by kernel_rfl) (fun _ _ _ _ h => h) (fun K hK => ?_)
    go_big_quiet_op
    refine hK _ ?_
    clear hK K
    refine pi_l 13 rfl (by kernel_rfl) (fun K hK => ?_)
    go_wp2_with fail
    refine Calls.mono (KTotal_c s g C B L _ _ (hK5.ext hE6)) ?_
    rintro e w7 ⟨rfl, hx7⟩
    rw [zs_get0]
    go_wp2
    refine hK _ _ (fun _ h => af_step h hx7) ?_
    clear hK K
    have hE7 : Ext w5 w7 := by (repeat' (first | exact Ext.refl _ | assumption | apply Ext.allocR | apply Ext.drewR | apply Ext.drewNR | (refine Ext.trans' ?_ (by assumption))))
    have hC7 : ∃ x : After w5, w7 = x.w := ⟨⟨w7, hE7⟩, rfl⟩
    refine pi_t 14 rfl (by kernel_rfl) (by kernel_rfl) (fun _ _ _ _ h => h) (fun K hK => ?_)
    go_big_quiet_op
    refine hK _ ?_
    clear hK K
    refine pi_t 15 rfl (by kernel_rfl) (by kernel_rfl) (fun _ _ _ _ h => h) (fun K hK => ?_)
    go_big_quiet_op
    refine hK _ ?_
    clear hK K
    refine pi_t 16 rfl (by kernel_rfl) (by kernel_rfl) (fun _ _ _ _ h => h) (fun K hK => ?_)
    go_big_quiet_op
    refine hK _ ?_
    clear hK K
    refine pi_t 17 rfl (by kernel_rfl) (by kernel_rfl) (fun _ _ _ _ h => h) (fun K hK => ?_)
    go_big_quiet_op
    refine hK _ ?_
    clear hK K
    refine pi_t 18 rfl (by kernel_rfl) (by kernel_rfl) (fun _ _ _ _ h => h) (fun K hK => ?_)
    go_big_quiet_op
    refine hK _ ?_
    clear hK K
    refine pi_c 19 (by assumption) rfl (by kernel_rfl) (by kernel_rfl) (fun _ _ _ _ h => h) (fun K hK => ?_)
    go_big_quiet_op
    refine hK _ ?_
    clear hK K
    refine pi_l 20 rfl (by kernel_rfl) (fun K hK => ?_)
    go_wp2_with fail
    rw [HBB.out]
    refine Calls.mono (KCells_c s g C B L _ _ (hK5.ext hE7) B (Nat.le_refl B)) ?_
    rintro e w8 ⟨v, rfl, ho, _, hx8⟩
    obtain ⟨p0, q0, rfl⟩ := own_len ho
    rw [zs_len, lvN_top hok' HBB.out]
    clear ho
    go_wp2
    refine hK _ _ (fun _ h => af_step h hx8) ?_
    clear hK K
    have hE8 : Ext w5 w8 := by (repeat' (first | exact Ext.refl _ | assumption | apply Ext.allocR | apply Ext.drewR | apply Ext.drewNR | (refine Ext.trans' ?_ (by assumption))))
    have hC8 : ∃ x : After w5, w8 = x.w := ⟨⟨w8, hE8⟩, rfl⟩
    have hBd : B ≤ 59 := by have := HBB.out; have := hok'.b2; omega
    refine pi_t 21 rfl (by kernel_rfl) (by kernel_rfl) (fun _ _ _ _ h => h) (fun K hK => ?_)
    go_big_quiet_op
    refine hK _ ?_
    clear hK K
    refine pi_t 22 rfl (by kernel_rfl) (by kernel_rfl) (fun _ _ _ _ h => h) (fun K hK => ?_)
    go_big_quiet_op
    refine hK _ ?_
    clear hK K
    refine pi_t 23 rfl (by kernel_rfl) (by kernel_rfl) (fun _ _ _ _ h => h) (fun K hK => ?_)
    go_big_quiet_op
    refine hK _ ?_
    clear hK K
    refine pi_t 24 rfl (by kernel_rfl) (by kernel_rfl) (fun _ _ _ _ h => h) (fun K hK => ?_)
    go_big_quiet_op
    refine hK _ ?_
    clear hK K
    refine pi_t 25 rfl (by kernel_rfl) (by kernel_rfl) (fun _ _ _ _ h => h) (fun K hK => ?_)
    go_big_quiet_op
    refine hK _ ?_
    clear hK K
    refine pi_t 26 rfl (by kernel_rfl) (by kernel_rfl) (fun _ _ _ _ h => h) (fun K hK => ?_)
    go_big_quiet_op
    refine hK _ ?_
    clear hK K
    refine pi_c 27 (by assumption) rfl (by kernel_rfl) (by kernel_rfl) (fun _ _ _ _ h => h) (fun K hK => ?_)
    go_big_quiet_op
    refine hK _ ?_
    clear hK K
    rw [HBB.out]
    refine pi_t 28 rfl (by kernel_rfl) (by kernel_rfl) (fun _ _ _ _ h => h) (fun K hK => ?_)
    go_big_quiet_op
    refine hK _ ?_
    clear hK K
    refine pi_l 29 rfl (by kernel_rfl) (fun K hK => ?_)
    go_wp2_with fail
    refine Calls.mono (KCells_no s g C B L _ _ (hK5.ext hE8) _ (.inr (by omega))) ?_
    rintro e w9 ⟨rfl, rfl⟩
    go_wp2
    refine hK _ _ (fun _ h => h) ?_
    clear hK K
    refine pi_t 30 rfl (by kernel_rfl) (by kernel_rfl) (fun _ _ _ _ h => h) (fun K hK => ?_)
    go_big_quiet_op
    refine hK _ ?_
    clear hK K
    refine pi_t 31 rfl (by kernel_rfl) (by kernel_rfl) (fun _ _ _ _ h => h) (fun K hK => ?_)
    go_big_quiet_op
    refine hK _ ?_
    clear hK K
    refine pi_t 32 rfl (by kernel_rfl) (by kernel_rfl) (fun _ _ _ _ h => h) (fun K hK => ?_)
    go_big_quiet_op
    refine hK _ ?_
    clear hK K
    refine pi_t 33 rfl (by kernel_rfl) (by kernel_rfl) (fun _ _ _ _ h => h) (fun K hK => ?_)
    go_big_quiet_op
    refine hK _ ?_
    clear hK K
    refine pi_t 34 rfl (by kernel_rfl) (by kernel_rfl) (fun _ _ _ _ h => h) (fun K hK => ?_)
    go_big_quiet_op
    refine hK _ ?_
    clear hK K
    refine pi_l 35 rfl (by kernel_rfl) (fun K hK => ?_)
    go_wp2_with fail
    refine Calls.mono (KCells_no s g C B L _ _ (hK5.ext hE8) _ (.inl (by decide))) ?_
    rintro e w9 ⟨rfl, rfl⟩
    go_wp2
    refine hK _ _ (fun _ h => h) ?_
    clear hK K
    refine pi_t 36 rfl (by kernel_rfl) (by kernel_rfl) (fun _ _ _ _ h => h) (fun K hK => ?_)
    go_big_quiet_op
    refine hK _ ?_
    clear hK K
    refine pi_t 37 rfl (by kernel_rfl) (by kernel_rfl) (fun _ _ _ _ h => h) (fun K hK => ?_)
    go_big_quiet_op
    refine hK _ ?_
    clear hK K
    refine pi_t 38 rfl (by kernel_rfl) (by kernel_rfl) (fun _ _ _ _ h => h) (fun K hK => ?_)
    go_big_quiet_op
    refine hK _ ?_
    clear hK K
    refine pi_t 39 rfl (by kernel_rfl) (by kernel_rfl) (fun _ _ _ _ h => h) (fun K hK => ?_)
    go_big_quiet_op
    refine hK _ ?_
    clear hK K
    refine pi_end (by kernel_rfl) ?_
    go_wp2
    go_ret
    exact ⟨rfl, hE5.trans' hE8⟩
end Go.Proofs.Ytpnbgoahjoabkaa

/- What the arguments of the statements read as: a config, updates, a play. No condition. -/
namespace Go.Proofs.Ytpnbgoahjoabkaa
set_option linter.unusedVariables false
open Go.ChangeShapes Go.WideShapes Go.ChangeAt Go.RowKit Go.Deep

theorem wf_u64 {x : Int} (h : (Lit.int IntKind.u64 x).wf = true) : U64 x := by
  have := bounds_u64 h
  exact ⟨this.1, by omega⟩
theorem wf_i64 {x : Int} (h : (Lit.int IntKind.i64 x).wf = true) : I64 x := by
  have := bounds_i64 h
  exact ⟨this.1, by omega⟩
section
variable {H : Type} {enc : TypeId × Value → H} {w : World} {base : Nat} {spare : Nat → Bool} {held : Bool}
set_option maxRecDepth 100000 in
/-- Five cells that read as a config. -/
theorem cfg_of {n : Nat} {cs : List Value} {y : DataW H × List MemPlace} (h : DataW.trod enc Try.prog w base spare held n 24 cs = some y) :
    ∃ C : Cfg, C.Raw ∧ cs = [.int .i64 C.bits, .int .i64 C.rows, .int .i64 C.width, .int .i64 C.mode, .int .u64 C.seed] := by
  obtain ⟨xs, n, _, _, hl, hx, hg⟩ := DataW.trod_struct Try.underlying24 h
  have hl' : cs.length = 5 := hl.trans (by kernel_rfl)
  match cs, hl' with
  | [c0, c1, c2, c3, c4], _ =>
    have hx' : xs.length = 5 := hx.trans (by kernel_rfl)
    match xs, hx' with
    | [x0, x1, x2, x3, x4], _ =>
      have e0 : DataW.trod enc Try.prog w base spare held n 3 [c0] = some x0 := hg 0 _ rfl
      have e1 : DataW.trod enc Try.prog w base spare held n 3 [c1] = some x1 := hg 1 _ rfl
      have e2 : DataW.trod enc Try.prog w base spare held n 3 [c2] = some x2 := hg 2 _ rfl
      have e3 : DataW.trod enc Try.prog w base spare held n 3 [c3] = some x3 := hg 3 _ rfl
      have e4 : DataW.trod enc Try.prog w base spare held n 22 [c4] = some x4 := hg 4 _ rfl
      obtain ⟨a0, h0, _, w0⟩ := DataW.trod_int Try.underlying3 e0
      obtain ⟨a1, h1, _, w1⟩ := DataW.trod_int Try.underlying3 e1
      obtain ⟨a2, h2, _, w2⟩ := DataW.trod_int Try.underlying3 e2
      obtain ⟨a3, h3, _, w3⟩ := DataW.trod_int Try.underlying3 e3
      obtain ⟨a4, h4, _, w4⟩ := DataW.trod_int Try.underlying22 e4
      simp only [List.cons.injEq, and_true] at h0 h1 h2 h3 h4
      exact ⟨⟨a0, a1, a2, a3, a4⟩, ⟨wf_i64 w0, wf_i64 w1, wf_i64 w2, wf_i64 w3, wf_u64 w4⟩, by rw [h0, h1, h2, h3, h4]⟩
set_option maxRecDepth 100000 in
/-- Two cells that read as an update. -/
theorem upd_of {n : Nat} {cs : List Value} {y : DataW H × List MemPlace} (h : DataW.trod enc Try.prog w base spare held n 38 cs = some y) :
    ∃ u : Int × Int, (U64 u.1 ∧ I64 u.2) ∧ cs = [.int .u64 u.1, .int .i64 u.2] := by
  obtain ⟨xs, n, _, _, hl, hx, hg⟩ := DataW.trod_struct Try.underlying38 h
  have hl' : cs.length = 2 := hl.trans (by kernel_rfl)
  match cs, hl' with
  | [c0, c1], _ =>
    have hx' : xs.length = 2 := hx.trans (by kernel_rfl)
    match xs, hx' with
    | [x0, x1], _ =>
      have e0 : DataW.trod enc Try.prog w base spare held n 22 [c0] = some x0 := hg 0 _ rfl
      have e1 : DataW.trod enc Try.prog w base spare held n 2 [c1] = some x1 := hg 1 _ rfl
      obtain ⟨a0, h0, _, w0⟩ := DataW.trod_int Try.underlying22 e0
      obtain ⟨a1, h1, _, w1⟩ := DataW.trod_int Try.underlying2 e1
      simp only [List.cons.injEq, and_true] at h0 h1
      exact ⟨(a0, a1), ⟨wf_u64 w0, wf_i64 w1⟩, by rw [h0, h1]⟩
theorem add_plain0 (b off i : Nat) : (Addr.add ⟨b, off, none⟩ i) = ⟨b, off + i, none⟩ := by
  unfold Addr.add
  by_cases h : i = 0
  · subst h; simp
  · simp [h]
theorem choose_list {α : Type} (P : Nat → α → Prop) : ∀ n, (∀ i, i < n → ∃ x, P i x) → ∃ l : List α, l.length = n ∧ ∀ i (h : i < l.length), P i l[i] := by
  intro n
  induction n with
  | zero => intro _; exact ⟨[], rfl, fun i h => by simp at h⟩
  | succ n ih =>
    intro h
    obtain ⟨l, hl, hP⟩ := ih (fun i hi => h i (by omega))
    obtain ⟨x, hx⟩ := h n (by omega)
    refine ⟨l ++ [x], by simp [hl], fun i hi => ?_⟩
    by_cases e : i < l.length
    · rw [List.getElem_append_left e]; exact hP i e
    · have : i = n := by simp at hi; omega
      subst this
      rw [List.getElem_append_right (by omega)]
      simp [hl, hx]
/-- A cell that reads as a slice of updates. -/
theorem ups_of {n : Nat} {v : Value} {y : DataW H × List MemPlace} (h : DataW.trod enc Try.prog w 0 (fun _ => true) held n 25 [v] = some y) :
    ∃ us : List (Int × Int), UpsOk us ∧ UpsAt w v us ∧ (us = [] ∨ ∃ el sp : List (DataW H), y.1 = .slice el sp ∧ el.length = us.length) := by
  rcases open_slice Try.underlying25 h with ⟨hcs, _⟩ | ⟨a, len, cap, m, n', D, Pl, hcs, _, hlc, hcm, hm, hx, hi⟩
  · simp only [List.cons.injEq, and_true] at hcs
    subst hcs
    exact ⟨[], (by intro u hu; cases hu), .inl ⟨⟨_, rfl⟩, rfl⟩, .inl rfl⟩
  · simp only [List.cons.injEq, and_true] at hcs
    subst hcs
    simp only [if_true] at hm
    rw [hm] at hi hx
    clear hm
    have hC : Try.prog.cellsOf 38 = 2 := by kernel_rfl
    rw [hC] at hi
    have key : ∀ i, i < len → ∃ u : Int × Int, (U64 u.1 ∧ I64 u.2) ∧ w.cell? (a.add (i * 2)) = some (.int .u64 u.1) ∧ w.cell? (a.add (i * 2 + 1)) = some (.int .i64 u.2) := by
      intro i hil
      obtain ⟨cs', hc, ht⟩ := hi i (by omega)
      obtain ⟨u, hu, rfl⟩ := upd_of ht
      obtain ⟨_, _, hat⟩ := World.cells?_some hc
      refine ⟨u, hu, ?_, ?_⟩
      · have := hat 0 (by omega); rw [add_add, Nat.add_zero] at this; exact this
      · have := hat 1 (by omega); rw [add_add] at this; exact this
    obtain ⟨us, hul, hus⟩ := choose_list _ len key
    by_cases h0 : cap = 0
    · have hl0 : len = 0 := by omega
      subst hl0 h0
      obtain rfl : us = [] := List.length_eq_zero_iff.1 hul
      exact ⟨[], (by intro u hu; cases hu), .inl ⟨⟨_, rfl⟩, rfl⟩, .inl rfl⟩
    · obtain ⟨cs', hc, ht⟩ := hi 0 (by omega)
      obtain ⟨u, _, rfl⟩ := upd_of ht
      obtain ⟨_, _, hat⟩ := World.cells?_some hc
      have h1 := hat 0 (by omega)
      obtain ⟨b, off, spot⟩ := a
      have hspot : spot = none := by simpa [Addr.add] using World.cell?_spot h1
      subst hspot
      have hb : b < w.heap.size := by
        rcases Nat.lt_or_ge b w.heap.size with h' | h'
        · exact h'
        · simp [World.cell?, Addr.add, Array.getElem?_eq_none h'] at h1
      refine ⟨us, ?_, .inr ⟨b, off, cap, by rw [hul], hb, fun k hk => ?_⟩, .inr ⟨_, _, by rw [hx], by simp [hul]⟩⟩
      · intro u hu
        obtain ⟨i, hi', rfl⟩ := List.getElem_of_mem hu
        exact (hus i hi').1
      · have := (hus k hk).2
        have hg : us.getD k (0, 0) = us[k] := by simp [hk]
        rw [hg]
        rw [add_plain0, add_plain0] at this
        simpa only [Nat.add_assoc] using this
theorem reach_of {ts : List TypeId} {ds : List (DataW H)} {j : Nat} {t : TypeId} {d : DataW H} (hsz : (DataW.weightsEach Try.prog ts ds).all (· ≤ reachBytes) = true) (ht : ts[j]? = some t) (hd : ds[j]? = some d) {n : Nat} (hn : n ∈ d.weights Try.prog t) : n ≤ reachBytes := by
  have := List.all_eq_true.1 hsz _ (DataW.weights_mem_each ht hd n hn)
  simpa using this
end
end Go.Proofs.Ytpnbgoahjoabkaa

/- What a play of the later laws reads as. No condition. -/
namespace Go.Proofs.Ytpnbgoahjoabkaa
set_option linter.unusedVariables false
open Go.ChangeShapes Go.WideShapes Go.ChangeAt Go.RowKit Go.Deep

theorem own : ownKnob Try.prog.godebug = none := by kernel_rfl
theorem laidOut : laidOutB Try.prog = true := by kernel_rfl
section
variable {H : Type} {enc : TypeId × Value → H} {w : World} {held : Bool}
set_option maxRecDepth 100000 in
theorem cfgarg_of {r : Reach} {b0 : Nat} {v : Value} {d : DataW H} {p : List MemPlace} (hv : Value.okWide Try.prog w r b0 24 v) (h : DataW.Trod enc Try.prog w 0 (fun _ => true) held 24 v d p) :
    ∃ (x : Cfg), x.Raw ∧ v = .agg #[.int .i64 x.bits, .int .i64 x.rows, .int .i64 x.width, .int .i64 x.mode, .int .u64 x.seed] := by
  obtain ⟨cs, rfl, hsz⟩ := okWide_struct Try.underlying24 hv
  obtain ⟨fuel, hf⟩ := h
  obtain ⟨l⟩ := cs
  obtain ⟨x, hxr, hc⟩ := cfg_of hf
  have hc' : l = _ := hc
  subst hc'
  exact ⟨x, hxr, rfl⟩
set_option maxRecDepth 100000 in
theorem play15_of {r : Reach} {b0 : Nat} {v : Value} {d : DataW H} {p : List MemPlace} (hv : Value.okWide Try.prog w r b0 64 v) (h : DataW.Trod enc Try.prog w 0 (fun _ => true) held 64 v d p) :
    ∃ (x : Cfg) (us : List (Int × Int)) (u : Value), x.Raw ∧ UpsOk us ∧ UpsAt w u us ∧ v = .agg #[.int .i64 x.bits, .int .i64 x.rows, .int .i64 x.width, .int .i64 x.mode, .int .u64 x.seed, u] ∧
      ∀ (ts : List TypeId) (ds : List (DataW H)) (j : Nat), (DataW.weightsEach Try.prog ts ds).all (· ≤ reachBytes) = true → ts[j]? = some 64 → ds[j]? = some d → us.length ≤ 140737488355328 := by
  obtain ⟨cs, rfl, hsz⟩ := okWide_struct Try.underlying64 hv
  obtain ⟨fuel, hf⟩ := h
  obtain ⟨l⟩ := cs
  obtain ⟨xs, n, _, hd, hl, hx, hg⟩ := DataW.trod_struct Try.underlying64 hf
  have hl' : l.length = 6 := hsz.trans (by kernel_rfl)
  match l, hl' with
  | [c0, c1, c2, c3, c4, c6], _ =>
    have hx' : xs.length = 2 := hx.trans (by kernel_rfl)
    match xs, hx' with
    | [x0, x2], _ =>
      have e0 : DataW.trod enc Try.prog w 0 (fun _ => true) held n 24 [c0, c1, c2, c3, c4] = some x0 := hg 0 _ rfl
      have e2 : DataW.trod enc Try.prog w 0 (fun _ => true) held n 25 [c6] = some x2 := hg 1 _ rfl
      obtain ⟨x, hxr, hc⟩ := cfg_of e0
      obtain ⟨us, hu, hat, hlen⟩ := ups_of e2
      simp only [List.cons.injEq, and_true] at hc
      obtain ⟨rfl, rfl, rfl, rfl, rfl⟩ := hc
      simp only [Prod.mk.injEq] at hd
      refine ⟨x, us, c6, hxr, hu, hat, rfl, fun ts ds j hs ht hj => ?_⟩
      rcases hlen with rfl | ⟨el, sp, hx2, hel⟩
      · simp
      · have hb : Try.prog.bytesOf 38 = 16 := by kernel_rfl
        have := reach_of hs ht hj (n := (el.length + sp.length) * Try.prog.bytesOf 38) (by
          rw [hd.1]
          simp [DataW.weights, DataW.weightsEach, hx2, Try.underlying64, Try.underlying25])
        rw [hb] at this
        simp only [reachBytes] at this
        omega
set_option maxRecDepth 100000 in
theorem play16_of {r : Reach} {b0 : Nat} {v : Value} {d : DataW H} {p : List MemPlace} (hv : Value.okWide Try.prog w r b0 97 v) (h : DataW.Trod enc Try.prog w 0 (fun _ => true) held 97 v d p) :
    ∃ (x : Cfg) (us : List (Int × Int)) (u : Value), x.Raw ∧ UpsOk us ∧ UpsAt w u us ∧ v = .agg #[.int .i64 x.bits, .int .i64 x.rows, .int .i64 x.width, .int .i64 x.mode, .int .u64 x.seed, u] ∧
      ∀ (ts : List TypeId) (ds : List (DataW H)) (j : Nat), (DataW.weightsEach Try.prog ts ds).all (· ≤ reachBytes) = true → ts[j]? = some 97 → ds[j]? = some d → us.length ≤ 140737488355328 := by
  obtain ⟨cs, rfl, hsz⟩ := okWide_struct Try.underlying97 hv
  obtain ⟨fuel, hf⟩ := h
  obtain ⟨l⟩ := cs
  obtain ⟨xs, n, _, hd, hl, hx, hg⟩ := DataW.trod_struct Try.underlying97 hf
  have hl' : l.length = 6 := hsz.trans (by kernel_rfl)
  match l, hl' with
  | [c0, c1, c2, c3, c4, c6], _ =>
    have hx' : xs.length = 2 := hx.trans (by kernel_rfl)
    match xs, hx' with
    | [x0, x2], _ =>
      have e0 : DataW.trod enc Try.prog w 0 (fun _ => true) held n 24 [c0, c1, c2, c3, c4] = some x0 := hg 0 _ rfl
      have e2 : DataW.trod enc Try.prog w 0 (fun _ => true) held n 25 [c6] = some x2 := hg 1 _ rfl
      obtain ⟨x, hxr, hc⟩ := cfg_of e0
      obtain ⟨us, hu, hat, hlen⟩ := ups_of e2
      simp only [List.cons.injEq, and_true] at hc
      obtain ⟨rfl, rfl, rfl, rfl, rfl⟩ := hc
      simp only [Prod.mk.injEq] at hd
      refine ⟨x, us, c6, hxr, hu, hat, rfl, fun ts ds j hs ht hj => ?_⟩
      rcases hlen with rfl | ⟨el, sp, hx2, hel⟩
      · simp
      · have hb : Try.prog.bytesOf 38 = 16 := by kernel_rfl
        have := reach_of hs ht hj (n := (el.length + sp.length) * Try.prog.bytesOf 38) (by
          rw [hd.1]
          simp [DataW.weights, DataW.weightsEach, hx2, Try.underlying97, Try.underlying25])
        rw [hb] at this
        simp only [reachBytes] at this
        omega
set_option maxRecDepth 100000 in
theorem play17_of {r : Reach} {b0 : Nat} {v : Value} {d : DataW H} {p : List MemPlace} (hv : Value.okWide Try.prog w r b0 109 v) (h : DataW.Trod enc Try.prog w 0 (fun _ => true) held 109 v d p) :
    ∃ (x : Cfg) (us : List (Int × Int)) (u : Value), x.Raw ∧ UpsOk us ∧ UpsAt w u us ∧ v = .agg #[.int .i64 x.bits, .int .i64 x.rows, .int .i64 x.width, .int .i64 x.mode, .int .u64 x.seed, u] ∧
      ∀ (ts : List TypeId) (ds : List (DataW H)) (j : Nat), (DataW.weightsEach Try.prog ts ds).all (· ≤ reachBytes) = true → ts[j]? = some 109 → ds[j]? = some d → us.length ≤ 140737488355328 := by
  obtain ⟨cs, rfl, hsz⟩ := okWide_struct Try.underlying109 hv
  obtain ⟨fuel, hf⟩ := h
  obtain ⟨l⟩ := cs
  obtain ⟨xs, n, _, hd, hl, hx, hg⟩ := DataW.trod_struct Try.underlying109 hf
  have hl' : l.length = 6 := hsz.trans (by kernel_rfl)
  match l, hl' with
  | [c0, c1, c2, c3, c4, c6], _ =>
    have hx' : xs.length = 2 := hx.trans (by kernel_rfl)
    match xs, hx' with
    | [x0, x2], _ =>
      have e0 : DataW.trod enc Try.prog w 0 (fun _ => true) held n 24 [c0, c1, c2, c3, c4] = some x0 := hg 0 _ rfl
      have e2 : DataW.trod enc Try.prog w 0 (fun _ => true) held n 25 [c6] = some x2 := hg 1 _ rfl
      obtain ⟨x, hxr, hc⟩ := cfg_of e0
      obtain ⟨us, hu, hat, hlen⟩ := ups_of e2
      simp only [List.cons.injEq, and_true] at hc
      obtain ⟨rfl, rfl, rfl, rfl, rfl⟩ := hc
      simp only [Prod.mk.injEq] at hd
      refine ⟨x, us, c6, hxr, hu, hat, rfl, fun ts ds j hs ht hj => ?_⟩
      rcases hlen with rfl | ⟨el, sp, hx2, hel⟩
      · simp
      · have hb : Try.prog.bytesOf 38 = 16 := by kernel_rfl
        have := reach_of hs ht hj (n := (el.length + sp.length) * Try.prog.bytesOf 38) (by
          rw [hd.1]
          simp [DataW.weights, DataW.weightsEach, hx2, Try.underlying109, Try.underlying25])
        rw [hb] at this
        simp only [reachBytes] at this
        omega
set_option maxRecDepth 100000 in
theorem play13_of {r : Reach} {b0 : Nat} {v : Value} {d : DataW H} {p : List MemPlace} (hv : Value.okWide Try.prog w r b0 118 v) (h : DataW.Trod enc Try.prog w 0 (fun _ => true) held 118 v d p) :
    ∃ (x : Cfg) (lv : Int) (us : List (Int × Int)) (u : Value), x.Raw ∧ I64 lv ∧ UpsOk us ∧ UpsAt w u us ∧ v = .agg #[.int .i64 x.bits, .int .i64 x.rows, .int .i64 x.width, .int .i64 x.mode, .int .u64 x.seed, .int .i64 lv, u] ∧
      ∀ (ts : List TypeId) (ds : List (DataW H)) (j : Nat), (DataW.weightsEach Try.prog ts ds).all (· ≤ reachBytes) = true → ts[j]? = some 118 → ds[j]? = some d → us.length ≤ 140737488355328 := by
  obtain ⟨cs, rfl, hsz⟩ := okWide_struct Try.underlying118 hv
  obtain ⟨fuel, hf⟩ := h
  obtain ⟨l⟩ := cs
  obtain ⟨xs, n, _, hd, hl, hx, hg⟩ := DataW.trod_struct Try.underlying118 hf
  have hl' : l.length = 7 := hsz.trans (by kernel_rfl)
  match l, hl' with
  | [c0, c1, c2, c3, c4, c5, c6], _ =>
    have hx' : xs.length = 3 := hx.trans (by kernel_rfl)
    match xs, hx' with
    | [x0, x1, x2], _ =>
      have e0 : DataW.trod enc Try.prog w 0 (fun _ => true) held n 24 [c0, c1, c2, c3, c4] = some x0 := hg 0 _ rfl
      have e1 : DataW.trod enc Try.prog w 0 (fun _ => true) held n 3 [c5] = some x1 := hg 1 _ rfl
      have e2 : DataW.trod enc Try.prog w 0 (fun _ => true) held n 25 [c6] = some x2 := hg 2 _ rfl
      obtain ⟨x, hxr, hc⟩ := cfg_of e0
      obtain ⟨lv, h1, _, w1⟩ := DataW.trod_int Try.underlying3 e1
      obtain ⟨us, hu, hat, hlen⟩ := ups_of e2
      simp only [List.cons.injEq, and_true] at hc h1
      obtain ⟨rfl, rfl, rfl, rfl, rfl⟩ := hc
      subst h1
      simp only [Prod.mk.injEq] at hd
      refine ⟨x, lv, us, c6, hxr, wf_i64 w1, hu, hat, rfl, fun ts ds j hs ht hj => ?_⟩
      rcases hlen with rfl | ⟨el, sp, hx2, hel⟩
      · simp
      · have hb : Try.prog.bytesOf 38 = 16 := by kernel_rfl
        have := reach_of hs ht hj (n := (el.length + sp.length) * Try.prog.bytesOf 38) (by
          rw [hd.1]
          simp [DataW.weights, DataW.weightsEach, hx2, Try.underlying118, Try.underlying25])
        rw [hb] at this
        simp only [reachBytes] at this
        omega
end
end Go.Proofs.Ytpnbgoahjoabkaa

/- StackMakes: there is a stack just of a right config; it has the levels from 0 to Bits. No condition: every input. -/
namespace Go.Proofs.Ytpnbgoahjoabkaa
set_option linter.unusedVariables false
open Go.ChangeShapes Go.WideShapes Go.ChangeAt Go.RowKit

set_option maxRecDepth 100000 in
theorem stackMakes_lifted (os : Os) (started : os.Started) (H : Type) (enc : TypeId × Value → H) :
    ReturnsInHanded {} Try.checked os 9 .any (Rows.stackMakesSpec.pre6 enc Try.prog Try.f9 Rows.stackMakesRow.domain false) (Rows.stackMakesSpec.post enc Try.prog Try.f9 false true false false) := by
  refine returnsInHanded_of_change_sized (C := Try.checked) own started (by kernel_rfl) Try.func9
    (ChangeSpec.witness6 (enc := enc) (C := Try.checked) false ⟨#[], #[.agg #[.int .i64 0, .int .i64 0, .int .i64 0, .int .i64 0, .int .u64 0]], []⟩ 8 (by kernel_rfl) (by kernel_rfl) (by kernel_rfl) (by kernel_rfl)) ?_
  intro W base args ds gs before hval0 hW hcnd hsz0 _
  have hval : ∀ (j : Nat) t v, Try.f9.params[j]? = some t → args[j]? = some v → Value.okWide Try.prog W .any base t v := hval0
  have hW' := hW
  obtain ⟨p, q, hA0, hV, rfl, hfz, hnd⟩ := hW
  have hA : DataW.TrodAll enc Try.prog W 0 (fun _ => true) true Try.f9.params.toList args.toList ds p := hA0
  have hsz : (DataW.weightsEach Try.prog (Try.f9.params.toList ++ Rows.stackMakesSpec.plain.varTypes Try.prog) (ds ++ gs)).all (· ≤ reachBytes) = true := hsz0
  rw [Try.params9] at hA hval hsz
  obtain ⟨v0, vs0, d0, ds0, p0, q0, hargs, rfl, rfl, h0, r0⟩ := trodAll_cons hA
  obtain ⟨rfl, rfl, rfl⟩ := trodAll_nil r0
  obtain rfl : args = #[v0] := by cases args; simp_all
  obtain ⟨rfl, rfl⟩ := trodVars_none hV
  have k0 := h0
  have lt0 : ∀ x ∈ p0, x.block < W.heap.size := by obtain ⟨m, hm⟩ := k0; exact DataW.trod_lt m _ _ _ hm
  obtain ⟨x0, hx0, rfl⟩ := cfgarg_of (hval 0 _ v0 rfl rfl) h0
  clear hA0 hval0
  refine (MakesL_c x0 hx0 W).mono fun e W' ⟨he, bel⟩ => ?_
  subst he
  exact ⟨_, rfl, _, _, _, [], _, [], hW', trodAll_mk1 (shut_bool Try.underlying4 _), (trodAll_cons_mk (Below.trod laidOut (by kernel_rfl) (of_decide_eq_true (by kernel_rfl)) k0 bel lt0) trodAll_mk0), rfl, bel.frame _, fun h => by cases h⟩
end Go.Proofs.Ytpnbgoahjoabkaa
