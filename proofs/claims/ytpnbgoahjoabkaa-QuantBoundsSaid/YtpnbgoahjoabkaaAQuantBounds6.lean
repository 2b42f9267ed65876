/- Package stack: Copy, At. -/
import Derived.Test.YtpnbgoahjoabkaaAQuantBounds5

/- Package stack: Copy, At. -/
namespace Go.Proofs.Ytpnbgoahjoabkaa
set_option linter.unusedVariables false
open Go.RowKit
def KCopyPost (w : World) (C : Cfg) (B : Nat) (ls : Nat → List Int) (e : Ending) (w' : World) : Prop :=
  ∃ (s g : Nat) (L : Nat → Lev), e = .returned (.pointer (some ⟨s, 0, none⟩)) ∧ KAt w' s g C B L ls ∧ w.heap.size ≤ s ∧ w.heap.size ≤ g ∧ (∀ n, n ≤ B → w.heap.size ≤ (L n).s ∧ w.heap.size ≤ (L n).b ∧ w.heap.size ≤ (L n).c) ∧ Ext w w'
set_option maxRecDepth 20000 in
set_option maxHeartbeats 4000000 in
theorem KCopy_c (s g : Nat) (C : Cfg) (B : Nat) (L : Nat → Lev) (ls : Nat → List Int) (w : World) (h : KAt w s g C B L ls) :
    Calls Try.prog 61 #[.pointer (some ⟨s, 0, none⟩)] w (KCopyPost w C B ls) := by
  have hok := h.ok
  have hB := h.hB
  have hlt := h.lts
  obtain ⟨cap, hex, hcap⟩ := h.ex
  have c5 := (cell_of hex 5).trans rfl
  have hb2 : B ≤ 59 := by have := hok.b2; omega
  have HE := Lib.hid hex
  have HH := Lib.hid h
  have HB := Lib.hid hB
  clear h hex hB
  go_enter Try.func61, Try.ntmps61
  go_wp2
  go_loopw [3, 11] (fun u3 u11 wr => ∃ (k : Nat) (L' : Nat → Lev), k ≤ B + 1 ∧ u11 = .int .i64 k ∧ Ext w wr ∧ Made wr w.heap.size C k L' ls u3) (fun _ u11 _ => B + 1 - (intOf u11).toNat)
  case atStart =>
    refine ⟨0, fun _ => ⟨0, 0, 0⟩, Nat.zero_le _, rfl, Ext.refl _, ⟨⟨rfl, .inl ⟨rfl, rfl⟩⟩, ?_, ?_, ?_⟩⟩ <;> (intros; omega)
  case round =>
    obtain ⟨k, L', hk, rfl, hE, hM⟩ := hrel
    have hkr := HH.out.ext hE
    have hsz := hE.size
    have HM := Lib.hid hM
    clear hM
    by_cases hlt' : k < B + 1
    · have cn := hkr.cell (show k ≤ B by omega)
      have hL0 := hkr.lev k (by omega)
      have hltg := hkr.ltg
      clear hkr
      go_wp2_with fail
      refine (LCopy_c C k (L k) (ls k) _ hL0).mono ?_
      rintro e w2 ⟨M, rfl, hL, n1, n2, n3, hx2⟩
      have hown := own_ext HM.out.row hx2
      have hszz := hx2.size
      obtain ⟨T, hT⟩ : ∃ T, lvV C k M = .iface T (.pointer (some ⟨M.s, 0, none⟩)) := ⟨lvT C k, rfl⟩
      rw [hT]
      have HT := Lib.hid hT
      clear hT
      have hll := lvVs_len C L' k
      obtain ⟨i0, z0, hi0, hz0, hz1, hz2, hz3⟩ := info_lev
      go_wp2_with (at_builtin; refine wpList_appv w2 (.iface T (.pointer (some ⟨M.s, 0, none⟩))) rfl (lvVs C L' k) u3 w.heap.size 88 hown 168 rfl _ _ rfl i0 z0 hi0 hz0 hz1 hz2 hz3 Try.underlying168 rfl rfl ?a1 ?a2 ?_)
      case a1 => omega
      case a2 => omega
      intro v' w' hown' hgr
      have hmade := HM.out.ext hx2
      have hnext := hmade.next (N := wr.heap.size) (ls := ls) hL (fun n hn => HM.out.ltN n hn) (by omega) n1 n2 n3 rfl (by rw [HT.out, List.length_append, hll]; exact hown') hgr
      have hex : Ext w w' := ext_grown (hE.trans' hx2) hgr (fun i hi => own_blk hown hi)
      go_wp2
      go_roundw
      case rel => exact ⟨k + 1, _, by omega, by go_num, hex, hnext⟩
      case measure => simp [intOf]; omega
    · obtain rfl : k = B + 1 := by omega
      obtain ⟨p5, k5, c5, rfl⟩ := own_slice HM.out.row
      have hltr := hkr.lts
      obtain ⟨cap2, hex2, _⟩ := hkr.ex
      have d0 := (cell_of hex2 0).trans rfl
      have d1 := (cell_of hex2 1).trans rfl
      have d2 := (cell_of hex2 2).trans rfl
      have d3 := (cell_of hex2 3).trans rfl
      have d4 := (cell_of hex2 4).trans rfl
      clear hex2 hkr
      go_wp2
      go_ret
      obtain ⟨g', hg, hK⟩ := (HM.out.ext (Ext.alloc' wr (.cells #[.int .i64 C.bits, .int .i64 C.rows, .int .i64 C.width, .int .i64 C.mode, .int .u64 C.seed, .slice p5 k5 c5] 170))).stack hok HB.out (heap_at _ _ rfl)
      exact ⟨wr.heap.size, g', L', rfl, hK, hsz, hg, fun n hn => HM.out.new n (by omega), hE.allocR _⟩
set_option maxRecDepth 20000 in
theorem KAt_c (s g : Nat) (C : Cfg) (B : Nat) (L : Nat → Lev) (ls : Nat → List Int) (w : World) (h : KAt w s g C B L ls) (n : Nat) (hn : n ≤ B) :
    Calls Try.prog 63 #[.pointer (some ⟨s, 0, none⟩), .int .i64 n] w fun e w' => ∃ M : Lev, e = .returned (.tuple #[lvV C n M, .bool true]) ∧ LvAt w' M C n (ls n) ∧ w.heap.size ≤ M.s ∧ w.heap.size ≤ M.b ∧ w.heap.size ≤ M.c ∧ Ext w w' := by
  go_enter Try.func63, Try.ntmps63
  go_wp2_with fail
  refine (level_yes s g C B L ls w h n hn).mono ?_
  rintro e w1 ⟨rfl, rfl⟩
  go_wp2_with fail
  refine (LCopy_c C n (L n) (ls n) _ (h.lev n hn)).mono ?_
  rintro e w2 ⟨M, rfl, hL, n1, n2, n3, hx2⟩
  go_wp2
  go_ret2
  exact ⟨M, rfl, hL, n1, n2, n3, hx2⟩
set_option maxRecDepth 20000 in
theorem KAt_no (s g : Nat) (C : Cfg) (B : Nat) (L : Nat → Lev) (ls : Nat → List Int) (w : World) (h : KAt w s g C B L ls) (n : Int) (hn : n < 0 ∨ (B : Int) < n) :
    Calls Try.prog 63 #[.pointer (some ⟨s, 0, none⟩), .int .i64 n] w fun e w' => e = .returned (.tuple #[.nilIface, .bool false]) ∧ w = w' := by
  go_enter Try.func63, Try.ntmps63
  go_wp2_with fail
  refine (level_no s g C B L ls w h n hn).mono ?_
  rintro e w1 ⟨rfl, rfl⟩
  go_wp2
  go_ret2
  exact ⟨rfl, rfl⟩
end Go.Proofs.Ytpnbgoahjoabkaa

/- Package stack: Update. -/
namespace Go.Proofs.Ytpnbgoahjoabkaa
set_option linter.unusedVariables false
open Go.RowKit
attribute [local go_sem] Oper.semAt_some
def KUpdPost (w : World) (s g : Nat) (C : Cfg) (B : Nat) (L : Nat → Lev) (ls : Nat → List Int) (key d : Int) (e : Ending) (w' : World) : Prop :=
  e = .returned (.int .i64 (errK C B ls key d)) ∧ KAt w' s g C B L (bif decide (errK C B ls key d = 0) then updK C ls key d else ls) ∧ Mod (cellsOf B L) w w'
set_option maxRecDepth 100000 in
set_option maxHeartbeats 4000000 in
theorem KUpdate_c (s g : Nat) (C : Cfg) (B : Nat) (L : Nat → Lev) (ls : Nat → List Int) (key d : Int) (w : World) (h : KAt w s g C B L ls) (hd : I64 d) (hk : U64 key) :
    Calls Try.prog 62 #[.pointer (some ⟨s, 0, none⟩), .int .u64 key, .int .i64 d] w (KUpdPost w s g C B L ls key d) := by
  have hok := h.ok
  have hlt := h.lts
  have hltg := h.ltg
  obtain ⟨cap, hex, hcap⟩ := h.ex
  have c0 := (cell_of hex 0).trans rfl
  have c1 := (cell_of hex 1).trans rfl
  have c2 := (cell_of hex 2).trans rfl
  have c3 := (cell_of hex 3).trans rfl
  have c4 := (cell_of hex 4).trans rfl
  have hb2 : C.bits ≤ 59 := hok.b2
  have hb1 : 1 ≤ C.bits := hok.b1
  have HE := Lib.hid hex
  have HH := Lib.hid h
  clear h hex
  refine (callsIn_wide (n := 5)).1 ?_
  refine callsIn_of_wp_marks Try.func62 rfl trivial ?_ rfl
  simp only [Try.ntmps62, List.size_toArray, List.length_cons, List.length_nil, Nat.reduceAdd, Nat.reduceSub, Array.replicate_succ, Array.replicate_zero, List.push_toArray, List.append_toArray, List.nil_append, List.cons_append]
  gi_wp2_with fail
  refine ⟨trivial, (callsIn_wide.2 (Keys_c C hok 0 (Int.le_refl 0) (by omega) _)).mono ?_⟩
  rintro e w1 ⟨rfl, hx1⟩
  have hE1 : Ext w w1 := (Ext.alloc' w _).trans' hx1
  have h1 := HH.out.ext hE1
  have db := hx1.keep (heap_at w (.cells #[.int .i64 d] 2) rfl)
  have hls := h1.lts
  by_cases hkey : keys C 0 ≤ key
  · have e1 : errK C B ls key d = 2 := by unfold errK; rw [decide_eq_true hkey]; rfl
    have hge : decide (keys C 0 ≤ key) = true := decide_eq_true hkey
    gi_wp2
    exact ⟨_, results_tmp rfl _ _ _, by rw [e1]; rfl, by rw [e1]; exact h1, hE1.mod _⟩
  · have hge : decide (keys C 0 ≤ key) = false := decide_eq_false hkey
    gi_wp2_with fail
    refine ⟨trivial, (callsIn_wide.2 (Kat_c s key _)).mono ?_⟩
    rintro e w2 ⟨rfl, rfl⟩
    gi_wp2
    obtain ⟨W0, hW0⟩ : ∃ W0, ((w1.alloc (.cells #[.int .i64 0] 31)).alloc (.cells #[.pointer (some ⟨s, 0, none⟩)] 65)).alloc (.cells #[.int .u64 key] 22) = W0 := ⟨_, rfl⟩
    have hsz : W0.heap.size = w1.heap.size + 3 := by rw [← hW0]; simp
    have hEW : Ext w1 W0 := by rw [← hW0]; exact ((Ext.alloc' _ _).allocR _).allocR _
    have hb0 : W0.heap[w1.heap.size]? = some (.cells #[.int .i64 0] 31 (0, 0)) := by rw [← hW0, heap_old _ _ (by simp; omega), heap_old _ _ (by simp)]; exact heap_at _ _ rfl
    have hb1' : W0.heap[w1.heap.size + 1]? = some (.cells #[.pointer (some ⟨s, 0, none⟩)] 65 (0, 0)) := by rw [← hW0, heap_old _ _ (by simp)]; exact heap_at _ _ (size_alloc _ _).symm
    have hb2' : W0.heap[w1.heap.size + 2]? = some (.cells #[.int .u64 key] 22 (0, 0)) := by rw [← hW0]; exact heap_at _ _ (by simp)
    rw [hW0]
    have h2 := h1.ext hEW
    obtain ⟨cap2, hex2, hcap2⟩ := h2.ex
    have H2 := Lib.hid h2
    have hBd : B ≤ 59 := by have := hok.b2; have := h2.hB; omega
    refine wpIn_rangeFunc_ownF rfl (by decide) (gf := 166) (lb := #[.pointer (some ⟨w1.heap.size + 1, 0, none⟩), .pointer (some ⟨w1.heap.size + 1 + 1, 0, none⟩)]) rfl trivial (enters_of Try.func166 (by kernel_rfl) rfl)
      (kat1_stops 4 (w1.heap.size + 1) (w1.heap.size + 2) W0.heap.size s g cap2 (fun k => k = w1.heap.size) C L B key hk hBd (by omega) (by omega) h2.lts h2.ltg (by omega) (by omega) (by omega) (by have := h1.ltg; omega) W0 (Nat.le_refl _)
        ((cell_of hb1' 0).trans rfl) ((cell_of hb2' 0).trans rfl) ((cell_of hex2 5).trans rfl) (fun n hn => h2.cell hn)) KpS.t (fun W l o o' hl ho hc hw => KpS.b (Nat.le_refl _) W l o o' hl ho hc hw) (Below.refl _ _) (fun _ => rfl)
      (fun pre W => W.heap[w1.heap.size]? = some (.cells #[.int .i64 (errF C ls key d (vals pre))] 31 (0, 0)) ∧ Mod (fun k => k = w1.heap.size) W0 W)
      (fun _ _ _ => False)
      (OwnFrom.and (ownFrom_box (by omega) _) (ownFrom_mod (Nat.le_refl _)))
      (fun _ _ _ _ _ hs _ _ => hs)
      ⟨hb0, Mod.refl _ _⟩
      (fun x => { tmps := #[.pointer (some ⟨s, 0, none⟩), .int .u64 key, .int .i64 d, undef, undef, .pointer (some ⟨w.heap.size, 0, none⟩), .int .i64 0, .pointer (some ⟨w1.heap.size, 0, none⟩), lvV C x.1 (L x.1), .int .u64 (sh x.1 key), undef, undef, .int .u64 key, .pointer (some ⟨s, 0, none⟩), .pointer (some ⟨s, 0, none⟩), .pointer (some ⟨s, 0, none⟩), .agg #[.int .i64 C.bits, .int .i64 C.rows, .int .i64 C.width, .int .i64 C.mode, .int .u64 C.seed], .int .u64 (keys C 0), .bool false, .pointer (some ⟨s, 0, none⟩), .int .u64 key, .func (.func 166) #[] #[.pointer (some ⟨w1.heap.size + 1, 0, none⟩), .pointer (some ⟨w1.heap.size + 1 + 1, 0, none⟩)], lvV C x.1 (L x.1), .int .u64 (sh x.1 key), undef, undef, undef, undef, undef, undef, undef, undef, undef, undef, undef, undef, undef, undef, undef, undef, undef, undef, undef], defers := [] }) ?assign ?body ?done ?stop
    case assign =>
      intro l x W K hK
      dsimp only [lvEnc]
      gi_wp2
      exact hK
    case body =>
      rintro l pre x W ⟨hbad, hM0⟩ hlen
      have hM := mod_new hEW hM0 (Nat.le_refl _)
      have hxn := x.2
      have h3 := h1.keepN h1.low (fun k hk _ => hM.block k hk (fun h => h))
      have hLx := h3.lev x.1 x.2
      have hbc := (cell_of hbad 0).trans rfl
      have hdW := hM.keep db (fun h => h)
      have hdc := (cell_of hdW 0).trans rfl
      have hbl := lt_of hbad
      have hdl := lt_of hdW
      have hkx := sh_u64 hk x.1
      gi_wp2
      cases hx : isX C x.1 with
      | true =>
        have hA := (hLx.x hx).ext (Below.drew (Ext.refl W))
        have HX := Lib.hid hx
        rw [lvV_x hx]
        clear hx
        refine pi_startR (fun w' => ∃ x : After W, w' = x.w) [7] (by kernel_rfl) (fun ⟨_, _, hh⟩ => hh) (by kernel_rfl) ?_
        have hC0 := af_drew W
        refine pi_c 0 (by assumption) rfl (by kernel_rfl) (by kernel_rfl) (fun _ _ _ _ h => h) (fun K hK => ?_)
        go_big_quiet_op
        refine hK _ ?_
        clear hK K
        refine pi_t 1 rfl (by kernel_rfl) (by kernel_rfl) (fun _ _ _ _ h => h) (fun K hK => ?_)
        go_big_quiet_op
        refine hK _ ?_
        clear hK K
        refine pi_t 2 rfl (by kernel_rfl) (by kernel_rfl) (fun _ _ _ _ h => h) (fun K hK => ?_)
        go_big_quiet_op
        refine hK _ ?_
        clear hK K
        refine pi_c 3 (by assumption) rfl (by kernel_rfl) (by kernel_rfl) (fun _ _ _ _ h => h) (fun K hK => ?_)
        go_big_quiet_op
        refine hK _ ?_
        clear hK K
        refine pi_l 4 rfl (by kernel_rfl) (fun K hK => ?_)
        go_wp2_with fail
        refine (ECheck_c _ _ _ C _ _ _ (sh x.1 key) d _ hA hd hkx).mono ?_
        rintro e w3 ⟨rfl, hx3⟩
        have hb3 := hx3.keep (show W.drew.heap[w1.heap.size]? = _ from hbad)
        have hbc3 := (cell_of hb3 0).trans rfl
        have hbl3 := lt_of hb3
        have hbf3 := frozen_of hb3 0
        go_wp2
        refine hK _ _ (fun _ h => af_step h hx3) ?_
        clear hK K
        refine pi_l 5 rfl (by kernel_rfl) (fun K hK => ?_)
        go_wp2
        refine hK _ _ (fun _ h => af_step h (Ext.alloc' _ _)) ?_
        clear hK K
        refine pi_l 6 rfl (by kernel_rfl) (fun K hK => ?_)
        go_wp2_with fail
        refine (first_c w3.heap.size 2 (errF C ls key d (vals pre)) (errX C x.1 (ls x.1) (sh x.1 key) d) _ ((cell_of (heap_at w3 _ rfl) 0).trans rfl) ((cell_of (heap_at w3 _ rfl) 1).trans rfl)).mono ?_
        rintro e w4 ⟨rfl, rfl⟩
        go_wp2
        refine hK _ _ (fun _ h => h) ?_
        clear hK K
        refine pi_l 7 rfl (by kernel_rfl) (fun K hK => ?_)
        go_wp2
        refine hK _ _ (by simp) ?_
        clear hK K
        refine pi_end (by kernel_rfl) ?_
        obtain ⟨r1, r2, r3, r4⟩ := chk_round (v := .int .i64 (fst_ (errF C ls key d (vals pre)) (errX C x.1 (ls x.1) (sh x.1 key) d))) (o := .cells #[.int .i64 (errF C ls key d (vals pre)), .int .i64 (errX C x.1 (ls x.1) (sh x.1 key) d)] 31) hbad (Ext.trans' (Below.drew (Ext.refl W)) hx3) hM0
        exact ⟨r1, r2, by rw [vals_snoc, errF_snoc, lvE_x HX.out]; exact r3, r4⟩
      | false =>
        have hA := (hLx.sk hx).ext (Below.drew (Ext.refl W))
        have HX := Lib.hid hx
        rw [lvV_s hx]
        clear hx
        refine pi_startR (fun w' => ∃ x : After W, w' = x.w) [7] (by kernel_rfl) (fun ⟨_, _, hh⟩ => hh) (by kernel_rfl) ?_
        have hC0 := af_drew W
        refine pi_c 0 (by assumption) rfl (by kernel_rfl) (by kernel_rfl) (fun _ _ _ _ h => h) (fun K hK => ?_)
        go_big_quiet_op
        refine hK _ ?_
        clear hK K
        refine pi_t 1 rfl (by kernel_rfl) (by kernel_rfl) (fun _ _ _ _ h => h) (fun K hK => ?_)
        go_big_quiet_op
        refine hK _ ?_
        clear hK K
        refine pi_t 2 rfl (by kernel_rfl) (by kernel_rfl) (fun _ _ _ _ h => h) (fun K hK => ?_)
        go_big_quiet_op
        refine hK _ ?_
        clear hK K
        refine pi_c 3 (by assumption) rfl (by kernel_rfl) (by kernel_rfl) (fun _ _ _ _ h => h) (fun K hK => ?_)
        go_big_quiet_op
        refine hK _ ?_
        clear hK K
        refine pi_l 4 rfl (by kernel_rfl) (fun K hK => ?_)
        go_wp2_with fail
        refine (Check_c _ _ _ C _ _ _ _ (sh x.1 key) d _ hA hd hkx.1).mono ?_
        rintro e w3 ⟨rfl, hx3⟩
        have hb3 := hx3.keep (show W.drew.heap[w1.heap.size]? = _ from hbad)
        have hbc3 := (cell_of hb3 0).trans rfl
        have hbl3 := lt_of hb3
        have hbf3 := frozen_of hb3 0
        go_wp2
        refine hK _ _ (fun _ h => af_step h hx3) ?_
        clear hK K
        refine pi_l 5 rfl (by kernel_rfl) (fun K hK => ?_)
        go_wp2
        refine hK _ _ (fun _ h => af_step h (Ext.alloc' _ _)) ?_
        clear hK K
        refine pi_l 6 rfl (by kernel_rfl) (fun K hK => ?_)
        go_wp2_with fail
        refine (first_c w3.heap.size 2 (errF C ls key d (vals pre)) (errU C x.1 (rN C) (wN C) (ls x.1) (sh x.1 key) d) _ ((cell_of (heap_at w3 _ rfl) 0).trans rfl) ((cell_of (heap_at w3 _ rfl) 1).trans rfl)).mono ?_
        rintro e w4 ⟨rfl, rfl⟩
        go_wp2
        refine hK _ _ (fun _ h => h) ?_
        clear hK K
        refine pi_l 7 rfl (by kernel_rfl) (fun K hK => ?_)
        go_wp2
        refine hK _ _ (by simp) ?_
        clear hK K
        refine pi_end (by kernel_rfl) ?_
        obtain ⟨r1, r2, r3, r4⟩ := chk_round (v := .int .i64 (fst_ (errF C ls key d (vals pre)) (errU C x.1 (rN C) (wN C) (ls x.1) (sh x.1 key) d))) (o := .cells #[.int .i64 (errF C ls key d (vals pre)), .int .i64 (errU C x.1 (rN C) (wN C) (ls x.1) (sh x.1 key) d)] 31) hbad (Ext.trans' (Below.drew (Ext.refl W)) hx3) hM0
        exact ⟨r1, r2, by rw [vals_snoc, errF_snoc, lvE_s HX.out]; exact r3, r4⟩
    case done =>
      rintro D xs W hD hxs ⟨hbad, hM0⟩ hdef
      have hM := mod_new hEW hM0 (Nat.le_refl _)
      have hz : errF C ls key d (vals xs) = errs C ls key d (B + 1) := by unfold vals; rw [hxs, errF_range]
      rw [hz] at hbad
      have hek : errK C B ls key d = errs C ls key d (B + 1) := by unfold errK; rw [hge]; rfl
      have h3 := h1.keepN h1.low (fun k hk _ => hM.block k hk (fun h => h))
      have hbc := (cell_of hbad 0).trans rfl
      have hdW := hM.keep db (fun h => h)
      have hdc := (cell_of hdW 0).trans rfl
      have hbl := lt_of hbad
      have hdl := lt_of hdW
      have HZ := Lib.hid hek
      have HXS := Lib.hid hz
      clear hek hz hxs
      by_cases hzz : errs C ls key d (B + 1) = 0
      · gi_wp2_with fail
        refine ⟨trivial, (callsIn_wide.2 (Kat_c s key _)).mono ?_⟩
        rintro e w2 ⟨rfl, rfl⟩
        gi_wp2
        obtain ⟨W2, hW2⟩ : ∃ W2, (W.alloc (.cells #[.pointer (some ⟨s, 0, none⟩)] 65)).alloc (.cells #[.int .u64 key] 22) = W2 := ⟨_, rfl⟩
        have hsz2 : W2.heap.size = W.heap.size + 2 := by rw [← hW2]; simp
        have hEW2 : Ext W W2 := by rw [← hW2]; exact (Ext.alloc' _ _).allocR _
        have hb1' : W2.heap[W.heap.size]? = some (.cells #[.pointer (some ⟨s, 0, none⟩)] 65 (0, 0)) := by rw [← hW2, heap_old _ _ (by simp)]; exact heap_at _ _ rfl
        have hb2' : W2.heap[W.heap.size + 1]? = some (.cells #[.int .u64 key] 22 (0, 0)) := by rw [← hW2]; exact heap_at _ _ (size_alloc _ _).symm
        have hdef2 := hEW2.keep hdef
        have hd2 := hEW2.keep hdW
        rw [hW2]
        have h4 := h3.ext hEW2
        obtain ⟨cap4, hex4, hcap4⟩ := h4.ex
        have hall : ∀ n, n ≤ B → lvE C n (ls n) (sh n key) d = 0 := fun n hn => errs_zero.1 hzz n (by omega)
        have hlt3 : ∀ k, cellsOf B L k → k < W.heap.size := fun k hk => h3.ltc hk
        have hlt0 : ∀ k, cellsOf B L k → k < w.heap.size := fun k hk => HH.out.ltc hk
        have hWl := hM.size
        have hDl := lt_of hdef
        refine wpIn_rangeFunc_ownF rfl (by decide) (gf := 166) (lb := #[.pointer (some ⟨W.heap.size, 0, none⟩), .pointer (some ⟨W.heap.size + 1, 0, none⟩)]) rfl trivial (enters_of Try.func166 (by kernel_rfl) rfl)
          (kat1_stops 4 W.heap.size (W.heap.size + 1) W2.heap.size s g cap4 (cellsOf B L) C L B key hk hBd (by omega) (by omega) h4.lts h4.ltg (fun h => absurd (hlt3 _ h) (by omega)) (fun h => absurd (hlt3 _ h) (by omega)) h3.nots h3.notg W2 (Nat.le_refl _)
            ((cell_of hb1' 0).trans rfl) ((cell_of hb2' 0).trans rfl) ((cell_of hex4 5).trans rfl) (fun n hn => h4.cell hn)) KpS.t (fun W l o o' hl ho hc hw => KpS.b (Nat.le_refl _) W l o o' hl ho hc hw) (Below.refl _ _) (fun _ => rfl)
          (fun pre W' => W'.heap[D]? = some (.deferred (some [])) ∧ (∃ ls', KAt W' s g C B L ls' ∧ ((vals pre).Nodup → ∀ n, ls' n = partK C ls key d (vals pre) n)) ∧ Mod (cellsOf B L) W2 W')
          (fun _ _ _ => False)
          (OwnFrom.and (ownFrom_box (by omega) (fun _ => _)) (OwnFrom.and (fun pre W' W'' row hs hg hr => by obtain ⟨ls', h, hp⟩ := hs; exact ⟨ls', h.keepN h4.low (fun k hk hN => grown_low hg (fun r e => (hr r e).1) hk hN), hp⟩) (ownFrom_mod (Nat.le_refl _))))
          (fun _ _ _ _ _ hs _ _ => hs)
          ⟨hdef2, ⟨ls, h4, fun _ n => rfl⟩, Mod.refl _ _⟩
          (fun x => { tmps := #[.pointer (some ⟨s, 0, none⟩), .int .u64 key, .int .i64 d, undef, undef, .pointer (some ⟨w.heap.size, 0, none⟩), .int .i64 0, .pointer (some ⟨w1.heap.size, 0, none⟩), undef, undef, lvV C x.1 (L x.1), .int .u64 (sh x.1 key), .int .u64 key, .pointer (some ⟨s, 0, none⟩), .pointer (some ⟨s, 0, none⟩), .pointer (some ⟨s, 0, none⟩), .agg #[.int .i64 C.bits, .int .i64 C.rows, .int .i64 C.width, .int .i64 C.mode, .int .u64 C.seed], .int .u64 (keys C 0), .bool false, .pointer (some ⟨s, 0, none⟩), .int .u64 key, .func (.func 166) #[] #[.pointer (some ⟨w1.heap.size + 1, 0, none⟩), .pointer (some ⟨w1.heap.size + 1 + 1, 0, none⟩)], undef, undef, undef, undef, undef, undef, undef, undef, undef, .int .i64 0, .bool false, undef, .pointer (some ⟨s, 0, none⟩), .int .u64 key, .func (.func 166) #[] #[.pointer (some ⟨W.heap.size, 0, none⟩), .pointer (some ⟨W.heap.size + 1, 0, none⟩)], lvV C x.1 (L x.1), .int .u64 (sh x.1 key), undef, undef, undef, undef], defers := [] }) ?assign2 ?body2 ?done2 ?stop2
        case assign2 =>
          intro l x W K hK
          dsimp only [lvEnc]
          gi_wp2
          exact hK
        case body2 =>
          rintro l pre x V ⟨hD5, ⟨ls', h5, hp5⟩, hM5⟩ hlen
          have hd5 := hM5.keep hd2 (fun h => absurd (hlt0 _ h) (by omega))
          have hdc5 := (cell_of hd5 0).trans rfl
          have hdl5 := lt_of hd5
          have hkx := sh_u64 hk x.1
          have hLx := h5.lev x.1 x.2
          have fin := fun w3 hres => upd_round (w3 := w3) (x := x) h5 hp5 hM5 hD5 hall hres
          cases hx : isX C x.1 with
          | true =>
            have hA := hLx.x hx
            have HX := Lib.hid hx
            rw [lvV_x hx]
            clear hx
            refine wpIn_block ?_
            refine region_plainR (fun ⟨_, _, hh⟩ => hh) (by kernel_rfl) ?_
            go_wp2_with fail
            refine Calls.mono (EUpdate_c _ _ _ C _ _ _ (sh x.1 key) d _ hA hd hkx) ?_
            rintro e w3 ⟨rfl, hres⟩
            gi_wp2
            rw [← lvE_x HX.out, ← lvU_x HX.out] at hres
            exact fin w3 (hres.imp (fun ⟨a, b, c⟩ => ⟨a, .inl ⟨HX.out, b⟩, c⟩) (fun h => h))
          | false =>
            have hA := hLx.sk hx
            have HX := Lib.hid hx
            rw [lvV_s hx]
            clear hx
            refine wpIn_block ?_
            refine region_plainR (fun ⟨_, _, hh⟩ => hh) (by kernel_rfl) ?_
            go_wp2_with fail
            refine Calls.mono (Update_c _ _ _ C _ _ _ _ (sh x.1 key) d _ hA hd hkx.1) ?_
            rintro e w3 ⟨rfl, hres⟩
            gi_wp2
            rw [← lvE_s HX.out, ← lvU_s HX.out] at hres
            exact fin w3 (hres.imp (fun ⟨a, b, c⟩ => ⟨a, .inr ⟨HX.out, b⟩, c⟩) (fun h => h))
        case done2 =>
          rintro D2 ys V hD2 hys ⟨hD5, ⟨ls', h5, hp5⟩, hM5⟩ hdef5
          gi_wp2
          have hne : D ≠ D2 := by omega
          refine ⟨by simp, .inl ⟨_, _, rfl, run_takeDeferred hdef5, ⟨by simp, .inl ⟨_, _, rfl, run_takeDeferred ((World.putObj_heap_other hne).trans hD5), ?_⟩⟩⟩⟩
          have hq : Mod (cellsOf B L) w V := (((hE1.mod _).trans (hM.mono (fun _ h _ => h.elim))).trans (hEW2.mod _)).trans hM5
          have hwl := hE1.size
          refine ⟨_, results_tmp rfl _ _ _, by rw [HZ.out, hzz]; rfl, ?_, mod_putD (mod_putD hq (by omega)) (by omega)⟩
          rw [HZ.out, hzz]
          refine KAt.cong (ls := ls') ?_ (part_end hys hp5)
          exact h5.keepN HH.out.low (fun k _ hN => (World.putObj_heap_other (by omega)).trans (World.putObj_heap_other (by omega)))
        case stop2 =>
          rintro D2 c pre V hD2 _ hh _
          exact hh.elim
      · gi_wp2
        refine ⟨by simp, .inl ⟨_, _, rfl, run_takeDeferred hdef, ?_⟩⟩
        have hp : Mod (fun _ => False) w1 (W.putObj D (.deferred none)) := mod_putD hM (by omega)
        refine ⟨_, results_tmp rfl _ _ _, by rw [HZ.out]; rfl, ?_, (hE1.mod _).trans (hp.mono (fun _ h _ => h.elim))⟩
        rw [HZ.out, decide_eq_false hzz]
        exact h1.keepN h1.low (fun k hk _ => hp.block k hk (fun h => h))
    case stop =>
      rintro D c pre W hD _ hh _
      exact hh.elim
end Go.Proofs.Ytpnbgoahjoabkaa

/- A config that may not be. -/
namespace Go.Proofs.Ytpnbgoahjoabkaa
set_option linter.unusedVariables false
open Go.RowKit

set_option maxRecDepth 100000 in
set_option maxHeartbeats 2000000 in
theorem within_no01 (a b c d : Int) (s : Nat) (w : World)
    (f0 : decide (a < 1) = true)
    (hs : w.heap[s]? = some (.cells #[.int .i64 a, .int .i64 59, .int .i64 b, .int .i64 8, .int .i64 c, .int .i64 128, .int .i64 d, .int .i64 3] 219 (0, 0))) :
    Calls Try.prog 165 #[.slice (some ⟨s, 0, none⟩) 4 4] w fun e w' => e = .returned (.bool false) ∧ Ext w w' := by
  have hlt := lt_of hs
  have l1 : s < w.heap.size + 1 := by omega
  have l2 : s < w.heap.size + 1 + 1 := by omega
  have l3 : s < w.heap.size + 1 + 1 + 1 := by omega
  have k0 := cell_of hs 0
  have k1 := cell_of hs 1
  have k2 := cell_of hs 2
  have k3 := cell_of hs 3
  have k4 := cell_of hs 4
  have k5 := cell_of hs 5
  have k6 := cell_of hs 6
  have k7 := cell_of hs 7
  simp at k0 k1 k2 k3 k4 k5 k6 k7
  clear hs
  go_enter Try.func165, Try.ntmps165
  go_wp2
  refine wp_loop_rounds 1 ?_
  iterate 1 (rw [rounds_succ]; go_wp2)
  go_ret
  exact ⟨rfl, by (repeat' (first | exact Ext.refl _ | assumption | apply Ext.allocR | apply Ext.drewR | apply Ext.drewNR | (refine Ext.trans' ?_ (by assumption))))⟩
set_option maxRecDepth 100000 in
set_option maxHeartbeats 2000000 in
theorem within_no02 (a b c d : Int) (s : Nat) (w : World)
    (f0 : decide (a < 1) = false) (g0 : decide (59 < a) = true)
    (hs : w.heap[s]? = some (.cells #[.int .i64 a, .int .i64 59, .int .i64 b, .int .i64 8, .int .i64 c, .int .i64 128, .int .i64 d, .int .i64 3] 219 (0, 0))) :
    Calls Try.prog 165 #[.slice (some ⟨s, 0, none⟩) 4 4] w fun e w' => e = .returned (.bool false) ∧ Ext w w' := by
  have hlt := lt_of hs
  have l1 : s < w.heap.size + 1 := by omega
  have l2 : s < w.heap.size + 1 + 1 := by omega
  have l3 : s < w.heap.size + 1 + 1 + 1 := by omega
  have k0 := cell_of hs 0
  have k1 := cell_of hs 1
  have k2 := cell_of hs 2
  have k3 := cell_of hs 3
  have k4 := cell_of hs 4
  have k5 := cell_of hs 5
  have k6 := cell_of hs 6
  have k7 := cell_of hs 7
  simp at k0 k1 k2 k3 k4 k5 k6 k7
  clear hs
  go_enter Try.func165, Try.ntmps165
  go_wp2
  refine wp_loop_rounds 1 ?_
  iterate 1 (rw [rounds_succ]; go_wp2)
  go_ret
  exact ⟨rfl, by (repeat' (first | exact Ext.refl _ | assumption | apply Ext.allocR | apply Ext.drewR | apply Ext.drewNR | (refine Ext.trans' ?_ (by assumption))))⟩
set_option maxRecDepth 100000 in
set_option maxHeartbeats 2000000 in
theorem within_no11 (a b c d : Int) (s : Nat) (w : World)
    (f0 : decide (a < 1) = false) (g0 : decide (59 < a) = false) (f1 : decide (b < 1) = true)
    (hs : w.heap[s]? = some (.cells #[.int .i64 a, .int .i64 59, .int .i64 b, .int .i64 8, .int .i64 c, .int .i64 128, .int .i64 d, .int .i64 3] 219 (0, 0))) :
    Calls Try.prog 165 #[.slice (some ⟨s, 0, none⟩) 4 4] w fun e w' => e = .returned (.bool false) ∧ Ext w w' := by
  have hlt := lt_of hs
  have l1 : s < w.heap.size + 1 := by omega
  have l2 : s < w.heap.size + 1 + 1 := by omega
  have l3 : s < w.heap.size + 1 + 1 + 1 := by omega
  have k0 := cell_of hs 0
  have k1 := cell_of hs 1
  have k2 := cell_of hs 2
  have k3 := cell_of hs 3
  have k4 := cell_of hs 4
  have k5 := cell_of hs 5
  have k6 := cell_of hs 6
  have k7 := cell_of hs 7
  simp at k0 k1 k2 k3 k4 k5 k6 k7
  clear hs
  go_enter Try.func165, Try.ntmps165
  go_wp2
  refine wp_loop_rounds 2 ?_
  iterate 2 (rw [rounds_succ]; go_wp2)
  go_ret
  exact ⟨rfl, by (repeat' (first | exact Ext.refl _ | assumption | apply Ext.allocR | apply Ext.drewR | apply Ext.drewNR | (refine Ext.trans' ?_ (by assumption))))⟩
set_option maxRecDepth 100000 in
set_option maxHeartbeats 2000000 in
theorem within_no12 (a b c d : Int) (s : Nat) (w : World)
    (f0 : decide (a < 1) = false) (g0 : decide (59 < a) = false) (f1 : decide (b < 1) = false) (g1 : decide (8 < b) = true)
    (hs : w.heap[s]? = some (.cells #[.int .i64 a, .int .i64 59, .int .i64 b, .int .i64 8, .int .i64 c, .int .i64 128, .int .i64 d, .int .i64 3] 219 (0, 0))) :
    Calls Try.prog 165 #[.slice (some ⟨s, 0, none⟩) 4 4] w fun e w' => e = .returned (.bool false) ∧ Ext w w' := by
  have hlt := lt_of hs
  have l1 : s < w.heap.size + 1 := by omega
  have l2 : s < w.heap.size + 1 + 1 := by omega
  have l3 : s < w.heap.size + 1 + 1 + 1 := by omega
  have k0 := cell_of hs 0
  have k1 := cell_of hs 1
  have k2 := cell_of hs 2
  have k3 := cell_of hs 3
  have k4 := cell_of hs 4
  have k5 := cell_of hs 5
  have k6 := cell_of hs 6
  have k7 := cell_of hs 7
  simp at k0 k1 k2 k3 k4 k5 k6 k7
  clear hs
  go_enter Try.func165, Try.ntmps165
  go_wp2
  refine wp_loop_rounds 2 ?_
  iterate 2 (rw [rounds_succ]; go_wp2)
  go_ret
  exact ⟨rfl, by (repeat' (first | exact Ext.refl _ | assumption | apply Ext.allocR | apply Ext.drewR | apply Ext.drewNR | (refine Ext.trans' ?_ (by assumption))))⟩
set_option maxRecDepth 100000 in
set_option maxHeartbeats 2000000 in
theorem within_no21 (a b c d : Int) (s : Nat) (w : World)
    (f0 : decide (a < 1) = false) (g0 : decide (59 < a) = false) (f1 : decide (b < 1) = false) (g1 : decide (8 < b) = false) (f2 : decide (c < 1) = true)
    (hs : w.heap[s]? = some (.cells #[.int .i64 a, .int .i64 59, .int .i64 b, .int .i64 8, .int .i64 c, .int .i64 128, .int .i64 d, .int .i64 3] 219 (0, 0))) :
    Calls Try.prog 165 #[.slice (some ⟨s, 0, none⟩) 4 4] w fun e w' => e = .returned (.bool false) ∧ Ext w w' := by
  have hlt := lt_of hs
  have l1 : s < w.heap.size + 1 := by omega
  have l2 : s < w.heap.size + 1 + 1 := by omega
  have l3 : s < w.heap.size + 1 + 1 + 1 := by omega
  have k0 := cell_of hs 0
  have k1 := cell_of hs 1
  have k2 := cell_of hs 2
  have k3 := cell_of hs 3
  have k4 := cell_of hs 4
  have k5 := cell_of hs 5
  have k6 := cell_of hs 6
  have k7 := cell_of hs 7
  simp at k0 k1 k2 k3 k4 k5 k6 k7
  clear hs
  go_enter Try.func165, Try.ntmps165
  go_wp2
  refine wp_loop_rounds 3 ?_
  iterate 3 (rw [rounds_succ]; go_wp2)
  go_ret
  exact ⟨rfl, by (repeat' (first | exact Ext.refl _ | assumption | apply Ext.allocR | apply Ext.drewR | apply Ext.drewNR | (refine Ext.trans' ?_ (by assumption))))⟩
set_option maxRecDepth 100000 in
set_option maxHeartbeats 2000000 in
theorem within_no22 (a b c d : Int) (s : Nat) (w : World)
    (f0 : decide (a < 1) = false) (g0 : decide (59 < a) = false) (f1 : decide (b < 1) = false) (g1 : decide (8 < b) = false) (f2 : decide (c < 1) = false) (g2 : decide (128 < c) = true)
    (hs : w.heap[s]? = some (.cells #[.int .i64 a, .int .i64 59, .int .i64 b, .int .i64 8, .int .i64 c, .int .i64 128, .int .i64 d, .int .i64 3] 219 (0, 0))) :
    Calls Try.prog 165 #[.slice (some ⟨s, 0, none⟩) 4 4] w fun e w' => e = .returned (.bool false) ∧ Ext w w' := by
  have hlt := lt_of hs
  have l1 : s < w.heap.size + 1 := by omega
  have l2 : s < w.heap.size + 1 + 1 := by omega
  have l3 : s < w.heap.size + 1 + 1 + 1 := by omega
  have k0 := cell_of hs 0
  have k1 := cell_of hs 1
  have k2 := cell_of hs 2
  have k3 := cell_of hs 3
  have k4 := cell_of hs 4
  have k5 := cell_of hs 5
  have k6 := cell_of hs 6
  have k7 := cell_of hs 7
  simp at k0 k1 k2 k3 k4 k5 k6 k7
  clear hs
  go_enter Try.func165, Try.ntmps165
  go_wp2
  refine wp_loop_rounds 3 ?_
  iterate 3 (rw [rounds_succ]; go_wp2)
  go_ret
  exact ⟨rfl, by (repeat' (first | exact Ext.refl _ | assumption | apply Ext.allocR | apply Ext.drewR | apply Ext.drewNR | (refine Ext.trans' ?_ (by assumption))))⟩
set_option maxRecDepth 100000 in
set_option maxHeartbeats 2000000 in
theorem within_no31 (a b c d : Int) (s : Nat) (w : World)
    (f0 : decide (a < 1) = false) (g0 : decide (59 < a) = false) (f1 : decide (b < 1) = false) (g1 : decide (8 < b) = false) (f2 : decide (c < 1) = false) (g2 : decide (128 < c) = false) (f3 : decide (d < 1) = true)
    (hs : w.heap[s]? = some (.cells #[.int .i64 a, .int .i64 59, .int .i64 b, .int .i64 8, .int .i64 c, .int .i64 128, .int .i64 d, .int .i64 3] 219 (0, 0))) :
    Calls Try.prog 165 #[.slice (some ⟨s, 0, none⟩) 4 4] w fun e w' => e = .returned (.bool false) ∧ Ext w w' := by
  have hlt := lt_of hs
  have l1 : s < w.heap.size + 1 := by omega
  have l2 : s < w.heap.size + 1 + 1 := by omega
  have l3 : s < w.heap.size + 1 + 1 + 1 := by omega
  have k0 := cell_of hs 0
  have k1 := cell_of hs 1
  have k2 := cell_of hs 2
  have k3 := cell_of hs 3
  have k4 := cell_of hs 4
  have k5 := cell_of hs 5
  have k6 := cell_of hs 6
  have k7 := cell_of hs 7
  simp at k0 k1 k2 k3 k4 k5 k6 k7
  clear hs
  go_enter Try.func165, Try.ntmps165
  go_wp2
  refine wp_loop_rounds 4 ?_
  iterate 4 (rw [rounds_succ]; go_wp2)
  go_ret
  exact ⟨rfl, by (repeat' (first | exact Ext.refl _ | assumption | apply Ext.allocR | apply Ext.drewR | apply Ext.drewNR | (refine Ext.trans' ?_ (by assumption))))⟩
set_option maxRecDepth 100000 in
set_option maxHeartbeats 2000000 in
theorem within_no32 (a b c d : Int) (s : Nat) (w : World)
    (f0 : decide (a < 1) = false) (g0 : decide (59 < a) = false) (f1 : decide (b < 1) = false) (g1 : decide (8 < b) = false) (f2 : decide (c < 1) = false) (g2 : decide (128 < c) = false) (f3 : decide (d < 1) = false) (g3 : decide (3 < d) = true)
    (hs : w.heap[s]? = some (.cells #[.int .i64 a, .int .i64 59, .int .i64 b, .int .i64 8, .int .i64 c, .int .i64 128, .int .i64 d, .int .i64 3] 219 (0, 0))) :
    Calls Try.prog 165 #[.slice (some ⟨s, 0, none⟩) 4 4] w fun e w' => e = .returned (.bool false) ∧ Ext w w' := by
  have hlt := lt_of hs
  have l1 : s < w.heap.size + 1 := by omega
  have l2 : s < w.heap.size + 1 + 1 := by omega
  have l3 : s < w.heap.size + 1 + 1 + 1 := by omega
  have k0 := cell_of hs 0
  have k1 := cell_of hs 1
  have k2 := cell_of hs 2
  have k3 := cell_of hs 3
  have k4 := cell_of hs 4
  have k5 := cell_of hs 5
  have k6 := cell_of hs 6
  have k7 := cell_of hs 7
  simp at k0 k1 k2 k3 k4 k5 k6 k7
  clear hs
  go_enter Try.func165, Try.ntmps165
  go_wp2
  refine wp_loop_rounds 4 ?_
  iterate 4 (rw [rounds_succ]; go_wp2)
  go_ret
  exact ⟨rfl, by (repeat' (first | exact Ext.refl _ | assumption | apply Ext.allocR | apply Ext.drewR | apply Ext.drewNR | (refine Ext.trans' ?_ (by assumption))))⟩
def okB (c : Cfg) : Bool := decide (1 ≤ c.bits ∧ c.bits ≤ 59 ∧ 1 ≤ c.rows ∧ c.rows ≤ 8 ∧ 1 ≤ c.width ∧ c.width ≤ 128 ∧ 1 ≤ c.mode ∧ c.mode ≤ 3)
theorem okB_true {c : Cfg} (h : c.Ok) : okB c = true := by
  obtain ⟨b1, b2, r1, r2, w1, w2, m1, m2, s⟩ := h
  unfold okB; exact decide_eq_true ⟨b1, b2, r1, r2, w1, w2, m1, m2⟩
theorem okB_ok {c : Cfg} (h : okB c = true) (hs : U64 c.seed) : c.Ok := by
  have := of_decide_eq_true h
  exact ⟨this.1, this.2.1, this.2.2.1, this.2.2.2.1, this.2.2.2.2.1, this.2.2.2.2.2.1, this.2.2.2.2.2.2.1, this.2.2.2.2.2.2.2, hs⟩
theorem within_bad (c : Cfg) (h : okB c = false) (s : Nat) (w : World)
    (hs : w.heap[s]? = some (.cells #[.int .i64 c.bits, .int .i64 59, .int .i64 c.rows, .int .i64 8, .int .i64 c.width, .int .i64 128, .int .i64 c.mode, .int .i64 3] 219 (0, 0))) :
    Calls Try.prog 165 #[.slice (some ⟨s, 0, none⟩) 4 4] w fun e w' => e = .returned (.bool false) ∧ Ext w w' := by
  have h' := of_decide_eq_false h
  by_cases a1 : c.bits < 1
  · exact within_no01 _ _ _ _ s w (decide_eq_true a1) hs
  by_cases a2 : 59 < c.bits
  · exact within_no02 _ _ _ _ s w (decide_eq_false a1) (decide_eq_true a2) hs
  by_cases b1 : c.rows < 1
  · exact within_no11 _ _ _ _ s w (decide_eq_false a1) (decide_eq_false a2) (decide_eq_true b1) hs
  by_cases b2 : 8 < c.rows
  · exact within_no12 _ _ _ _ s w (decide_eq_false a1) (decide_eq_false a2) (decide_eq_false b1) (decide_eq_true b2) hs
  by_cases c1 : c.width < 1
  · exact within_no21 _ _ _ _ s w (decide_eq_false a1) (decide_eq_false a2) (decide_eq_false b1) (decide_eq_false b2) (decide_eq_true c1) hs
  by_cases c2 : 128 < c.width
  · exact within_no22 _ _ _ _ s w (decide_eq_false a1) (decide_eq_false a2) (decide_eq_false b1) (decide_eq_false b2) (decide_eq_false c1) (decide_eq_true c2) hs
  by_cases d1 : c.mode < 1
  · exact within_no31 _ _ _ _ s w (decide_eq_false a1) (decide_eq_false a2) (decide_eq_false b1) (decide_eq_false b2) (decide_eq_false c1) (decide_eq_false c2) (decide_eq_true d1) hs
  by_cases d2 : 3 < c.mode
  · exact within_no32 _ _ _ _ s w (decide_eq_false a1) (decide_eq_false a2) (decide_eq_false b1) (decide_eq_false b2) (decide_eq_false c1) (decide_eq_false c2) (decide_eq_false d1) (decide_eq_true d2) hs
  exact absurd ⟨by omega, by omega, by omega, by omega, by omega, by omega, by omega, by omega⟩ h'
set_option maxHeartbeats 1000000 in
theorem Right_no (c : Cfg) (h : okB c = false) (w : World) :
    Calls Try.prog 120 #[.agg #[.int .i64 c.bits, .int .i64 c.rows, .int .i64 c.width, .int .i64 c.mode, .int .u64 c.seed]] w fun e w' => e = .returned (.bool false) ∧ Ext w w' := by
  go_enter Try.func120, Try.ntmps120
  go_wp2_with (go_at_call 165; refine (within_bad c h _ _ ?hs).mono ?_)
  · skip
    exact heap_at _ _ (by simp only [size_alloc])
  rintro e w1 ⟨rfl, hb⟩
  go_wp2
  go_ret
  refine ⟨rfl, ?_⟩
  (repeat' (first | exact Ext.refl _ | assumption | apply Ext.allocR | apply Ext.drewR | apply Ext.drewNR | (refine Ext.trans' ?_ (by assumption))))
set_option maxRecDepth 20000 in
set_option maxHeartbeats 1000000 in
theorem KNew_no (C : Cfg) (h : okB C = false) (w : World) :
    Calls Try.prog 59 #[.agg #[.int .i64 C.bits, .int .i64 C.rows, .int .i64 C.width, .int .i64 C.mode, .int .u64 C.seed]] w fun e w' => e = .returned (.tuple #[.pointer none, .int .i64 1]) ∧ Ext w w' := by
  go_enter Try.func59, Try.ntmps59
  go_wp2_with fail
  refine (Right_no C h _).mono ?_
  rintro e w1 ⟨rfl, hb⟩
  go_wp2
  go_ret2
  refine ⟨rfl, ?_⟩
  (repeat' (first | exact Ext.refl _ | assumption | apply Ext.allocR | apply Ext.drewR | apply Ext.drewNR | (refine Ext.trans' ?_ (by assumption))))
end Go.Proofs.Ytpnbgoahjoabkaa

/- Plain law: small updates made to a stack of noughts are never refused. -/
namespace Go.Proofs.Ytpnbgoahjoabkaa
set_option linter.unusedVariables false
open Go.RowKit

theorem zs_bnd (n : Nat) : Bnd 0 (zs n) := by
  intro x hx
  simp only [zs, List.mem_replicate] at hx
  omega
theorem lvE_ok {C : Cfg} {lv : Int} {l : List Int} {key d B T : Int} (h : Bnd B l) (hB : 0 ≤ B) (hT : 0 ≤ T) (hd : -T ≤ d ∧ d ≤ T) (hs : B + T ≤ 4611686018427387904) (hk : key < keys C lv) (hm : C.mode = 2 → 0 ≤ d) : lvE C lv l key d = 0 := by
  cases hx : isX C lv with
  | false => rw [lvE_s hx]; exact upd_ok h hB hT hd hs hk hm
  | true =>
    rw [lvE_x hx, errX_sum hk (fun hh => by have := hm hh.1; omega)]
    have h2 := h.getD hB key.toNat
    rw [fitB_yes (by unfold I64; omega)]
    rfl
theorem lvU_bnd {C : Cfg} {lv : Int} {l : List Int} {key d B T : Int} (h : Bnd B l) (hB : 0 ≤ B) (hT : 0 ≤ T) (hd : -T ≤ d ∧ d ≤ T) : Bnd (B + T) (lvU C lv l key d) := by
  cases hx : isX C lv with
  | false => rw [lvU_s hx]; exact upd_bnd h hB hT hd
  | true =>
    rw [lvU_x hx]
    intro x hx
    unfold updX at hx
    rcases List.mem_or_eq_of_mem_set hx with h1 | rfl
    · have := h x h1; omega
    · have h2 := h.getD hB key.toNat; omega
theorem updK_bnd {C : Cfg} {ls : Nat → List Int} {key d B' T : Int} {n : Nat} (h : Bnd B' (ls n)) (hB : 0 ≤ B') (hT : 0 ≤ T) (hd : -T ≤ d ∧ d ≤ T) : Bnd (B' + T) (updK C ls key d n) := lvU_bnd h hB hT hd
theorem errK_ok {C : Cfg} (hok : C.Ok) {B : Nat} (hBb : C.bits = B) {ls : Nat → List Int} {key d B' T : Int} (h : ∀ n, n ≤ B → Bnd B' (ls n)) (hB : 0 ≤ B') (hT : 0 ≤ T) (hd : -T ≤ d ∧ d ≤ T) (hs : B' + T ≤ 4611686018427387904) (hk0 : 0 ≤ key) (hk : key < keys C 0) (hm : C.mode = 2 → 0 ≤ d) : errK C B ls key d = 0 :=
  errK_zero.2 ⟨hk, fun n hn => lvE_ok (h n hn) hB hT hd hs (sh_lt hok (by omega) hk0 hk) hm⟩
theorem feedK_bnd (C : Cfg) (us : List (Int × Int)) (n : Nat) : Bnd (us.length * 1099511627776) (feedK C us n) := by
  refine snoc_ind (P := fun us => Bnd (us.length * 1099511627776) (feedK C us n)) ?_ ?_ us
  · exact zs_bnd _
  · intro us u ih
    rw [feedK_snoc]
    have := updK_bnd (C := C) (ls := feedK C us) (key := cutK C 0 u.1) (d := cutD C.mode u.2) (n := n) ih (by omega) (show (0 : Int) ≤ 1099511627776 by decide) (by have := cutD_bd C.mode u.2; omega)
    have e : ((us ++ [u]).length : Int) * 1099511627776 = us.length * 1099511627776 + 1099511627776 := by
      rw [List.length_append, List.length_singleton]; push_cast; omega
    rw [e]
    exact this
theorem feedK_ok (C : Cfg) (hok : C.Ok) {B : Nat} (hBb : C.bits = B) (us : List (Int × Int)) (hl : us.length ≤ 1000) (u : Int × Int) : errK C B (feedK C us) (cutK C 0 u.1) (cutD C.mode u.2) = 0 := by
  have hk := cutK_bd C hok 0 u.1 (Int.le_refl 0)
  refine errK_ok hok hBb (fun n _ => feedK_bnd C us n) (by omega) (show (0 : Int) ≤ 1099511627776 by decide) (by have := cutD_bd C.mode u.2; omega) (by omega) hk.1 hk.2 (fun h => cutD_nn h)
end Go.Proofs.Ytpnbgoahjoabkaa

/- gaugerlaw15.shown: what the law shows of one small stack. -/
namespace Go.Proofs.Ytpnbgoahjoabkaa
set_option linter.unusedVariables false
open Go.RowKit

def K0 : Cfg := ⟨2, 2, 2, 1, 0⟩
theorem K0_ok : K0.Ok := by constructor <;> simp [K0, U64]
theorem K0_x1 : isX K0 1 = true := by decide
theorem K0_x2 : isX K0 2 = true := by decide
theorem K0_x0 : isX K0 0 = false := by decide
def K0a : Nat → List Int := updK K0 (fun n => zs (lvN K0 n)) 3 5
def K0b : Nat → List Int := updK K0 K0a 0 (-2)
theorem K0_e1 : errK K0 2 (fun n => zs (lvN K0 n)) 3 5 = 0 := errK_ok K0_ok rfl (B' := 0) (T := 5) (fun n _ => zs_bnd _) (by decide) (by decide) (by decide) (by decide) (by decide) (by decide) (by decide)
theorem K0_e2 : errK K0 2 K0a 0 (-2) = 0 := errK_ok K0_ok rfl (B' := 5) (T := 5) (fun n hn => updK_bnd (B' := 0) (T := 5) (zs_bnd _) (by decide) (by decide) (by decide)) (by decide) (by decide) (by decide) (by decide) (by decide) (by decide) (by decide)
theorem K0_e3 : errK K0 2 K0b 4 1 = 2 := by unfold errK; rfl
theorem K0_l1 : K0b 1 = [-2, 5] := by
  unfold K0b K0a updK
  rw [show ((1 : Nat) : Int) = 1 from rfl, lvU_x K0_x1, lvU_x K0_x1]
  rfl
theorem K0_l2 : K0b 2 = [3] := by
  unfold K0b K0a updK
  rw [show ((2 : Nat) : Int) = 2 from rfl, lvU_x K0_x2, lvU_x K0_x2]
  rfl
theorem K0_l0 : (K0b 0).length = 4 := by
  unfold K0b K0a updK
  rw [lvU_len, lvU_len]
  rfl
def KFresh (N B : Nat) (L : Nat → Lev) : Prop := ∀ n, n ≤ B → N ≤ (L n).s ∧ N ≤ (L n).b ∧ N ≤ (L n).c
theorem KFresh.ext {w a b : World} {B : Nat} {L : Nat → Lev} (h : KFresh w.heap.size B L) (hE : Ext w a) (hM : Mod (cellsOf B L) a b) : Ext w b :=
  Below.trans hE (hM.below (B := w.heap.size) hE.size (fun k hk => by obtain ⟨n, hn, rfl⟩ := hk; exact (h n hn).2.2))
theorem ints2 (w : World) (a b : Int) (t : TypeId) : IntsAt (w.alloc (.cells #[.int .i64 a, .int .i64 b] t)) (.slice (some ⟨w.heap.size, 0, none⟩) 2 2) [a, b] := by
  have h0 := (cell_of (heap_at w (.cells #[.int .i64 a, .int .i64 b] t) rfl) 0).trans rfl
  have h1 := (cell_of (heap_at w (.cells #[.int .i64 a, .int .i64 b] t) rfl) 1).trans rfl
  refine .inr ⟨w.heap.size, 0, 2, rfl, by rw [size_alloc]; omega, fun k hk => ?_⟩
  match k, hk with
  | 0, _ => exact h0
  | 1, _ => exact h1
set_option maxRecDepth 20000 in
set_option maxHeartbeats 4000000 in
theorem shownK_c (w : World) : Calls Try.prog 46 #[] w fun e w' => e = .returned (.bool true) ∧ Ext w w' := by
  go_enter Try.func46, Try.ntmps46
  go_wp2_with fail
  refine (KNew_c K0 K0_ok _).mono ?_
  rintro e w1 ⟨s, g, L, rfl, hK, hs, hg, hL, hx1⟩
  have hE1 : Ext w w1 := by (repeat' (first | exact Ext.refl _ | assumption | apply Ext.allocR | apply Ext.drewR | apply Ext.drewNR | (refine Ext.trans' ?_ (by assumption))))
  have hF : KFresh w.heap.size 2 L := hL
  replace hK : KAt w1 s g K0 2 L (fun n => zs (lvN K0 n)) := hK
  clear hx1 hL hg hs
  go_wp2_with fail
  refine (KNew_no ⟨0, 0, 0, 0, 0⟩ rfl _).mono ?_
  rintro e w2 ⟨rfl, hx2⟩
  have hE2 : Ext w w2 := by (repeat' (first | exact Ext.refl _ | assumption | apply Ext.allocR | apply Ext.drewR | apply Ext.drewNR | (refine Ext.trans' ?_ (by assumption))))
  have hK2 := hK.ext (w' := w2) (by (repeat' (first | exact Ext.refl _ | assumption | apply Ext.allocR | apply Ext.drewR | apply Ext.drewNR | (refine Ext.trans' ?_ (by assumption)))))
  clear hK hx2 hE1
  go_wp2_with fail
  refine Calls.mono (KUpdate_c s g K0 2 L _ 3 5 _ (hK2.ext ?hx) (by unfold I64; omega) (by unfold U64; omega)) ?_
  case hx => (repeat' (first | exact Ext.refl _ | assumption | apply Ext.allocR | apply Ext.drewR | apply Ext.drewNR | (refine Ext.trans' ?_ (by assumption))))
  rintro e w3 ⟨rfl, hK3, hM3⟩
  have hE3 : Ext w w3 := hF.ext (by (repeat' (first | exact Ext.refl _ | assumption | apply Ext.allocR | apply Ext.drewR | apply Ext.drewNR | (refine Ext.trans' ?_ (by assumption))))) hM3
  rw [K0_e1] at hK3 ⊢
  replace hK3 : KAt w3 s g K0 2 L K0a := hK3
  clear hM3 hE2 hK2
  go_wp2_with fail
  refine Calls.mono (KUpdate_c s g K0 2 L _ 0 (-2) _ (hK3.ext ?hx) (by unfold I64; omega) (by unfold U64; omega)) ?_
  case hx => (repeat' (first | exact Ext.refl _ | assumption | apply Ext.allocR | apply Ext.drewR | apply Ext.drewNR | (refine Ext.trans' ?_ (by assumption))))
  rintro e w4 ⟨rfl, hK4, hM4⟩
  have hE4 : Ext w w4 := hF.ext (by (repeat' (first | exact Ext.refl _ | assumption | apply Ext.allocR | apply Ext.drewR | apply Ext.drewNR | (refine Ext.trans' ?_ (by assumption))))) hM4
  rw [K0_e2] at hK4 ⊢
  replace hK4 : KAt w4 s g K0 2 L K0b := hK4
  clear hM4 hE3 hK3
  go_wp2_with fail
  refine Calls.mono (KUpdate_c s g K0 2 L _ 4 1 _ (hK4.ext ?hx) (by unfold I64; omega) (by unfold U64; omega)) ?_
  case hx => (repeat' (first | exact Ext.refl _ | assumption | apply Ext.allocR | apply Ext.drewR | apply Ext.drewNR | (refine Ext.trans' ?_ (by assumption))))
  rintro e w5 ⟨rfl, hK5, hM5⟩
  have hE5 : Ext w w5 := hF.ext (by (repeat' (first | exact Ext.refl _ | assumption | apply Ext.allocR | apply Ext.drewR | apply Ext.drewNR | (refine Ext.trans' ?_ (by assumption))))) hM5
  rw [K0_e3] at hK5 ⊢
  replace hK5 : KAt w5 s g K0 2 L K0b := hK5
  clear hM5 hE4 hK4
  go_wp2_with fail
  refine Calls.mono (KPoint_c s g K0 2 L _ _ (hK5.ext ?hx) 1 (by decide) 1 (by decide) (by decide)) ?_
  case hx => (repeat' (first | exact Ext.refl _ | assumption | apply Ext.allocR | apply Ext.drewR | apply Ext.drewNR | (refine Ext.trans' ?_ (by assumption))))
  rintro e w6 ⟨x, rfl, hp, hx6⟩
  obtain rfl : x = 5 := by
    rcases hp with ⟨_, h⟩ | ⟨h, _⟩
    · rw [K0_l1] at h; exact h
    · exact absurd h (by rw [show ((1 : Nat) : Int) = 1 from rfl, K0_x1]; decide)
  have hE6 : Ext w w6 := by (repeat' (first | exact Ext.refl _ | assumption | apply Ext.allocR | apply Ext.drewR | apply Ext.drewNR | (refine Ext.trans' ?_ (by assumption))))
  have hK6 := hK5.ext (w' := w6) (by (repeat' (first | exact Ext.refl _ | assumption | apply Ext.allocR | apply Ext.drewR | apply Ext.drewNR | (refine Ext.trans' ?_ (by assumption)))))
  clear hK5 hx6 hE5 hp
  go_wp2_with fail
  refine Calls.mono (KPoint_lv s g K0 2 L _ _ (hK6.ext ?hx) 3 (.inr (by decide)) 0) ?_
  case hx => (repeat' (first | exact Ext.refl _ | assumption | apply Ext.allocR | apply Ext.drewR | apply Ext.drewNR | (refine Ext.trans' ?_ (by assumption))))
  rintro e w7 ⟨rfl, hx7⟩
  have hE7 : Ext w w7 := by (repeat' (first | exact Ext.refl _ | assumption | apply Ext.allocR | apply Ext.drewR | apply Ext.drewNR | (refine Ext.trans' ?_ (by assumption))))
  have hK7 := hK6.ext (w' := w7) (by (repeat' (first | exact Ext.refl _ | assumption | apply Ext.allocR | apply Ext.drewR | apply Ext.drewNR | (refine Ext.trans' ?_ (by assumption)))))
  clear hK6 hx7 hE6
  go_wp2_with fail
  refine Calls.mono (KAt_c s g K0 2 L _ _ (hK7.ext ?hx) 1 (by decide)) ?_
  case hx => (repeat' (first | exact Ext.refl _ | assumption | apply Ext.allocR | apply Ext.drewR | apply Ext.drewNR | (refine Ext.trans' ?_ (by assumption))))
  rintro e w8 ⟨M, rfl, _, _, _, _, hx8⟩
  have hE8 : Ext w w8 := by (repeat' (first | exact Ext.refl _ | assumption | apply Ext.allocR | apply Ext.drewR | apply Ext.drewNR | (refine Ext.trans' ?_ (by assumption))))
  have hK8 := hK7.ext (w' := w8) (by (repeat' (first | exact Ext.refl _ | assumption | apply Ext.allocR | apply Ext.drewR | apply Ext.drewNR | (refine Ext.trans' ?_ (by assumption)))))
  clear hK7 hx8 hE7
  rw [show lvV K0 (1 : Nat) M = .iface 174 (.pointer (some ⟨M.s, 0, none⟩)) from lvV_x K0_x1 M]
  go_wp2_with fail
  refine Calls.mono (KTotal_c s g K0 2 L _ _ (hK8.ext ?hx)) ?_
  case hx => (repeat' (first | exact Ext.refl _ | assumption | apply Ext.allocR | apply Ext.drewR | apply Ext.drewNR | (refine Ext.trans' ?_ (by assumption))))
  rintro e w9 ⟨rfl, hx9⟩
  have hE9 : Ext w w9 := by (repeat' (first | exact Ext.refl _ | assumption | apply Ext.allocR | apply Ext.drewR | apply Ext.drewNR | (refine Ext.trans' ?_ (by assumption))))
  have hK9 := hK8.ext (w' := w9) (by (repeat' (first | exact Ext.refl _ | assumption | apply Ext.allocR | apply Ext.drewR | apply Ext.drewNR | (refine Ext.trans' ?_ (by assumption)))))
  clear hK8 hx9 hE8
  rw [K0_l2]
  go_wp2_with fail
  refine Calls.mono (KCells_c s g K0 2 L _ _ (hK9.ext ?hx) 0 (by decide)) ?_
  case hx => (repeat' (first | exact Ext.refl _ | assumption | apply Ext.allocR | apply Ext.drewR | apply Ext.drewNR | (refine Ext.trans' ?_ (by assumption))))
  rintro e w10 ⟨v, rfl, ho, hne, hx10⟩
  have hE10 : Ext w w10 := by (repeat' (first | exact Ext.refl _ | assumption | apply Ext.allocR | apply Ext.drewR | apply Ext.drewNR | (refine Ext.trans' ?_ (by assumption))))
  have hK10 := hK9.ext (w' := w10) (by (repeat' (first | exact Ext.refl _ | assumption | apply Ext.allocR | apply Ext.drewR | apply Ext.drewNR | (refine Ext.trans' ?_ (by assumption)))))
  obtain ⟨p0, q0, rfl⟩ := own_len ho
  rw [K0_l0]
  clear hK9 hx10 hE9 ho hne
  go_wp2_with fail
  refine Calls.mono (KCells_c s g K0 2 L _ _ (hK10.ext ?hx) 1 (by decide)) ?_
  case hx => (repeat' (first | exact Ext.refl _ | assumption | apply Ext.allocR | apply Ext.drewR | apply Ext.drewNR | (refine Ext.trans' ?_ (by assumption))))
  rintro e w11 ⟨v, rfl, ho, hne, hx11⟩
  have hE11 : Ext w w11 := by (repeat' (first | exact Ext.refl _ | assumption | apply Ext.allocR | apply Ext.drewR | apply Ext.drewNR | (refine Ext.trans' ?_ (by assumption))))
  have hv := IntsAt.of_row ho
  rw [K0_l1] at hv
  clear hK10 hx11 hE10 ho hne
  go_wp2_with fail
  refine Calls.mono (Same_c _ _ _ _ _ (hv.ext (Ext.alloc' _ _)) (ints2 w11 (-2) 5 _) (by decide) (by decide)) ?_
  rintro e w12 ⟨rfl, hx12⟩
  go_wp2
  go_ret
  exact ⟨rfl, by (repeat' (first | exact Ext.refl _ | assumption | apply Ext.allocR | apply Ext.drewR | apply Ext.drewNR | (refine Ext.trans' ?_ (by assumption))))⟩
end Go.Proofs.Ytpnbgoahjoabkaa

/- gaugerref15.Cut: an update of a key that there is. -/
namespace Go.Proofs.Ytpnbgoahjoabkaa
set_option linter.unusedVariables false
open Go.RowKit

set_option maxRecDepth 20000 in
set_option maxHeartbeats 2000000 in
theorem Cut15_c (c : Cfg) (hok : c.Ok) (key d : Int) (hk : U64 key) (hd : I64 d) (w : World) :
    Calls Try.prog 50 #[.agg #[.int .i64 c.bits, .int .i64 c.rows, .int .i64 c.width, .int .i64 c.mode, .int .u64 c.seed], .agg #[.int .u64 key, .int .i64 d]] w fun e w' => e = .returned (.agg #[.int .u64 (cutK c 0 key), .int .i64 (cutD c.mode d)]) ∧ Ext w w' := by
  obtain ⟨t1, t2⟩ := tmod_bd d
  obtain ⟨k1, k2⟩ := hk
  obtain ⟨kb1, kb2⟩ := keys_bd c hok 0 (Int.le_refl 0)
  obtain ⟨d1, d2⟩ := hd
  have kz : (keys c 0 == 0) = false := by simp; omega
  have kz2 : (keys c 0 = 0) = False := by simp; omega
  have hcd : cutD c.mode d = bif decide (c.mode = 2) then max (d.tmod 1099511627776) (-(d.tmod 1099511627776)) else d.tmod 1099511627776 := rfl
  have HCD := Lib.hid hcd
  have hck : cutK c 0 key = key % keys c 0 := rfl
  have HCK := Lib.hid hck
  clear hcd hck
  by_cases hm : c.mode = 2
  · have hmb : (c.mode == 2) = true := by simp [hm]
    have HM := Lib.hid hm
    clear hm
    by_cases hs0 : d.tmod 1099511627776 < 0
    · have hv : cutD c.mode d = -(d.tmod 1099511627776) := by rw [HCD.out, decide_eq_true HM.out]; show max _ _ = _; omega
      have HV := Lib.hid hv
      clear hv
      go_enter Try.func50, Try.ntmps50
      go_wp2
      refine wp_region_after_tail 7 (by kernel_rfl) (by kernel_rfl) ?_
      simp only [List.take_succ_cons, List.take_zero, List.drop_succ_cons, List.drop_zero]
      repeat (go_big_quiet_step ((go_at_call 49; exact quiet_after (KeysR_c c hok 0 (Int.le_refl 0) (by have := hok.b1; omega) _))))
      refine wpQuiet_nil ?_
      rintro _ ⟨xx, rfl⟩
      obtain ⟨w1, hb1⟩ := xx
      try dsimp only
      have hs := hb1.size
      simp only [size_alloc] at hs
      have hcell : w1.heap[w.heap.size + 1 + 1]? = some (.cells #[.int .u64 0, .int .i64 0] 38 (0, 0)) := by
        rw [hb1.block _ (by simp only [size_alloc]; omega)]
        exact heap_at _ _ (by simp only [size_alloc])
      have p0 := (cell_of hcell 0).trans rfl
      have p1 := (cell_of hcell 1).trans rfl
      have f0 := frozen_of hcell 0
      have f1 := frozen_of hcell 1
      have hE : Ext w w1 := by (repeat' (first | exact Ext.refl _ | assumption | apply Ext.allocR | apply Ext.drewR | apply Ext.drewNR | (refine Ext.trans' ?_ (by assumption))))
      clear hb1
      go_wp2
      have r0 := set2_0 hcell (.int .u64 (key % keys c 0))
      have r1 := set2_1 hcell (.int .u64 (key % keys c 0)) (.int .i64 (-(d.tmod 1099511627776)))
      refine bodyPost_ret (v := .agg #[.int .u64 (key % keys c 0), .int .i64 (-(d.tmod 1099511627776))]) (by simp [results, Try.results50, go_sem, r0, r1]) rfl ⟨by rw [HV.out, HCK.out], ?_⟩
      exact (hE.setR (by show w.heap.size ≤ w.heap.size + 1 + 1; omega) _).setR (by show w.heap.size ≤ w.heap.size + 1 + 1; omega) _
    · have hv : cutD c.mode d = d.tmod 1099511627776 := by rw [HCD.out, decide_eq_true HM.out]; show max _ _ = _; omega
      have HV := Lib.hid hv
      clear hv
      go_enter Try.func50, Try.ntmps50
      go_wp2
      refine wp_region_after_tail 7 (by kernel_rfl) (by kernel_rfl) ?_
      simp only [List.take_succ_cons, List.take_zero, List.drop_succ_cons, List.drop_zero]
      repeat (go_big_quiet_step ((go_at_call 49; exact quiet_after (KeysR_c c hok 0 (Int.le_refl 0) (by have := hok.b1; omega) _))))
      refine wpQuiet_nil ?_
      rintro _ ⟨xx, rfl⟩
      obtain ⟨w1, hb1⟩ := xx
      try dsimp only
      have hs := hb1.size
      simp only [size_alloc] at hs
      have hcell : w1.heap[w.heap.size + 1 + 1]? = some (.cells #[.int .u64 0, .int .i64 0] 38 (0, 0)) := by
        rw [hb1.block _ (by simp only [size_alloc]; omega)]
        exact heap_at _ _ (by simp only [size_alloc])
      have p0 := (cell_of hcell 0).trans rfl
      have p1 := (cell_of hcell 1).trans rfl
      have f0 := frozen_of hcell 0
      have f1 := frozen_of hcell 1
      have hE : Ext w w1 := by (repeat' (first | exact Ext.refl _ | assumption | apply Ext.allocR | apply Ext.drewR | apply Ext.drewNR | (refine Ext.trans' ?_ (by assumption))))
      clear hb1
      go_wp2
      have r0 := set2_0 hcell (.int .u64 (key % keys c 0))
      have r1 := set2_1 hcell (.int .u64 (key % keys c 0)) (.int .i64 (d.tmod 1099511627776))
      refine bodyPost_ret (v := .agg #[.int .u64 (key % keys c 0), .int .i64 (d.tmod 1099511627776)]) (by simp [results, Try.results50, go_sem, r0, r1]) rfl ⟨by rw [HV.out, HCK.out], ?_⟩
      exact (hE.setR (by show w.heap.size ≤ w.heap.size + 1 + 1; omega) _).setR (by show w.heap.size ≤ w.heap.size + 1 + 1; omega) _
  · have hmb : (c.mode == 2) = false := by simp [hm]
    have hv : cutD c.mode d = d.tmod 1099511627776 := by rw [HCD.out, decide_eq_false hm]; rfl
    have HV := Lib.hid hv
    clear hv hm
    go_enter Try.func50, Try.ntmps50
    go_wp2
    refine wp_region_after_tail 7 (by kernel_rfl) (by kernel_rfl) ?_
    simp only [List.take_succ_cons, List.take_zero, List.drop_succ_cons, List.drop_zero]
    repeat (go_big_quiet_step ((go_at_call 49; exact quiet_after (KeysR_c c hok 0 (Int.le_refl 0) (by have := hok.b1; omega) _))))
    refine wpQuiet_nil ?_
    rintro _ ⟨xx, rfl⟩
    obtain ⟨w1, hb1⟩ := xx
    try dsimp only
    have hs := hb1.size
    simp only [size_alloc] at hs
    have hcell : w1.heap[w.heap.size + 1 + 1]? = some (.cells #[.int .u64 0, .int .i64 0] 38 (0, 0)) := by
      rw [hb1.block _ (by simp only [size_alloc]; omega)]
      exact heap_at _ _ (by simp only [size_alloc])
    have p0 := (cell_of hcell 0).trans rfl
    have p1 := (cell_of hcell 1).trans rfl
    have f0 := frozen_of hcell 0
    have f1 := frozen_of hcell 1
    have hE : Ext w w1 := by (repeat' (first | exact Ext.refl _ | assumption | apply Ext.allocR | apply Ext.drewR | apply Ext.drewNR | (refine Ext.trans' ?_ (by assumption))))
    clear hb1
    go_wp2
    have r0 := set2_0 hcell (.int .u64 (key % keys c 0))
    have r1 := set2_1 hcell (.int .u64 (key % keys c 0)) (.int .i64 (d.tmod 1099511627776))
    refine bodyPost_ret (v := .agg #[.int .u64 (key % keys c 0), .int .i64 (d.tmod 1099511627776)]) (by simp [results, Try.results50, go_sem, r0, r1]) rfl ⟨by rw [HV.out, HCK.out], ?_⟩
    exact (hE.setR (by show w.heap.size ≤ w.heap.size + 1 + 1; omega) _).setR (by show w.heap.size ≤ w.heap.size + 1 + 1; omega) _
end Go.Proofs.Ytpnbgoahjoabkaa

/- gaugerref15.Has, walked: what the keys of a piece have of updates. -/
namespace Go.Proofs.Ytpnbgoahjoabkaa
set_option linter.unusedVariables false
open Go.RowKit

/-- What the keys of a piece have of sixty updates. -/
def hasK (C : Cfg) (us : List (Int × Int)) (k n : Nat) (j : Int) : Int := hasP j (stP C n (fus us 0 k))
theorem stP_len (C : Cfg) (n : Nat) (us : List (Int × Int)) : (stP C n us).length = us.length := by simp [stP]
theorem stP_bnd (C : Cfg) (n : Nat) (us : List (Int × Int)) : ∀ u ∈ stP C n us, -1099511627776 ≤ u.2 ∧ u.2 ≤ 1099511627776 := by
  intro u hu
  simp only [stP, List.mem_map] at hu
  obtain ⟨p, _, rfl⟩ := hu
  have := cutD_bd C.mode p.2
  show _ ≤ cutD C.mode p.2 ∧ _
  omega
theorem hasK_bd (C : Cfg) (us : List (Int × Int)) {k : Nat} (hk : k ≤ 60) (n : Nat) (j : Int) : -65970697666560 ≤ hasK C us k n j ∧ hasK C us k n j ≤ 65970697666560 := by
  have := sumIf_bnd (fun x => x == j) 1099511627776 (by decide) (stP C n (fus us 0 k)) (stP_bnd C n _)
  have hl := fus_len us 0 k
  rw [stP_len] at this
  unfold hasK hasP
  omega
theorem hasK_zero (C : Cfg) (us : List (Int × Int)) (n : Nat) (j : Int) : hasK C us 0 n j = 0 := by unfold hasK; rw [fus_self]; rfl
theorem hasK_succ (C : Cfg) (us : List (Int × Int)) {k : Nat} (hk : k < us.length) (n : Nat) (j : Int) :
    hasK C us (k + 1) n j = hasK C us k n j + (bif sh n (cutK C 0 us[k].1) == j then cutD C.mode us[k].2 else 0) := by
  have hget : us.getD k (0, 0) = us[k] := by simp [hk]
  unfold hasK
  rw [fus_snoc us (Nat.zero_le k) hk, stP_snoc, hget]
  exact sumIf_snoc _ _ _
set_option maxRecDepth 20000 in
set_option maxHeartbeats 4000000 in
theorem Has15_c (us : List (Int × Int)) (hus : UpsOk us) (v : Value) (C : Cfg) (hok : C.Ok) (n : Nat) (hn : n ≤ 63) (j : Int) (hj : U64 j) (w : World) (hv : UpsAt w v us) (hul : us.length ≤ 140737488355328) :
    Calls Try.prog 55 #[.agg #[.int .i64 C.bits, .int .i64 C.rows, .int .i64 C.width, .int .i64 C.mode, .int .u64 C.seed], v, .agg #[.int .i64 n, .int .u64 j]] w
      fun e w' => e = .returned (.int .i64 (hasK C us 60 n j)) ∧ Ext w w' := by
  obtain ⟨vp, vc, rfl⟩ := hv.sl
  have HV := Lib.hid hv
  clear hv
  go_enter Try.func55, Try.ntmps55
  go_wp2_with fail
  go_loopw [7, 8] (fun u7 u8 wr => ∃ k : Nat, k ≤ 60 ∧ k ≤ us.length ∧ u7 = .int .i64 (hasK C us k n j) ∧ u8 = .int .i64 k ∧ Ext w wr ∧ CfgAt wr w.heap.size C ∧ wr.heap[w.heap.size + 1]? = some (.cells #[.int .i64 n, .int .u64 j] 77 (0, 0))) (fun _ u8 _ => 60 - (intOf u8).toNat)
  case atStart =>
    refine ⟨0, Nat.zero_le _, Nat.zero_le _, by rw [hasK_zero], rfl, by (repeat' (first | exact Ext.refl _ | assumption | apply Ext.allocR | apply Ext.drewR | apply Ext.drewNR | (refine Ext.trans' ?_ (by assumption)))), (CfgAt.box C _ rfl).ext (Ext.alloc' _ _), heap_at _ _ (by rw [size_alloc])⟩
  case round =>
    obtain ⟨k, hk60, hkl, rfl, rfl, hE, hC, hP⟩ := hrel
    have l1 := hC.lt
    have l2 := lt_of hP
    obtain ⟨hsb1, hsb2⟩ := hasK_bd C us hk60 n j
    by_cases hgo : k < us.length ∧ k < 60
    · obtain ⟨hg1, hg2⟩ := hgo
      obtain ⟨ug, off, rfl, hul0, d0, d1⟩ := (UpsAt.ext HV.out hE).one hg1
      have hu := hus _ (List.getElem_mem hg1)
      have hsn := hasK_succ C us hg1 n j
      have c0 := hC.c0
      have c1 := hC.c1
      have c2 := hC.c2
      have c3 := hC.c3
      have c4 := hC.c4
      generalize us[k] = uu at *
      obtain ⟨uk, ud⟩ := uu
      generalize hasK C us k n j = s at *
      have HSN := Lib.hid hsn
      have HP := Lib.hid hP
      have HC := Lib.hid hC
      clear hsn hP hC
      go_upto_region 5 with (fail)
      go_cut [9] (fun s9 wx => ∃ bu : Nat, s9 = .pointer (some ⟨bu, 0, none⟩) ∧ wx.heap[bu]? = some (.cells #[.int .u64 (cutK C 0 uk), .int .i64 (cutD C.mode ud)] 38 (0, 0)) ∧ Ext wr wx ∧ wr.heap.size ≤ bu)
      case first =>
        have hC0 := af_drew wr
        refine pi_start (fun w' => ∃ x : After wr, w' = x.w) [] (by kernel_rfl) ?_
        refine pi_c 0 (by assumption) rfl (by kernel_rfl) (by kernel_rfl) (fun _ _ _ _ h => h) (fun K hK => ?_)
        go_big_quiet_op
        refine hK _ ?_
        clear hK K
        refine pi_t 1 rfl (by kernel_rfl) (by kernel_rfl) (fun _ _ _ _ h => h) (fun K hK => ?_)
        go_big_quiet_op
        refine hK _ ?_
        clear hK K
        refine pi_t 2 rfl (by kernel_rfl) (by kernel_rfl) (fun _ _ _ _ h => h) (fun K hK => ?_)
        go_big_quiet_op
        refine hK _ ?_
        clear hK K
        refine pi_t 3 rfl (by kernel_rfl) (by kernel_rfl) (fun _ _ _ _ h => h) (fun K hK => ?_)
        go_big_quiet_op
        refine hK _ ?_
        clear hK K
        refine pi_c 4 (by assumption) rfl (by kernel_rfl) (by kernel_rfl) (fun _ _ _ _ h => h) (fun K hK => ?_)
        go_big_quiet_op
        refine hK _ ?_
        clear hK K
        refine pi_b 5 6 rfl rfl (by kernel_rfl) (fun K hK => ?_) (fun K hK => ?_)
        · go_wp2_with (go_at_call 50; refine (Cut15_c C hok uk ud hu.1 hu.2 _).mono ?_; rintro e w3 ⟨rfl, hx3⟩)
          have hx3' : Ext wr w3 := Ext.trans' (Below.drew (Ext.refl wr)) hx3
          have hs3 := hx3'.size
          refine hK _ _ (fun _ h => af_step h hx3) ?_
          clear hK K
          refine pi_l 6 rfl (by kernel_rfl) (fun K hK => ?_)
          go_wp2
          refine hK _ _ (fun _ h => af_step h (Ext.alloc' _ _)) ?_
          clear hK K
          refine pi_l 7 rfl (by kernel_rfl) (fun K hK => ?_)
          go_wp2
          refine hK _ _ (fun _ _ => ⟨⟨_, hx3'.allocR _⟩, rfl⟩) ?_
          clear hK K
          refine pi_end (by kernel_rfl) ?_
          go_wp2_with fail
          go_meet
          exact ⟨w3.heap.size, rfl, heap_at _ _ rfl, hx3'.allocR _, hs3⟩
        · go_wp2
          refine hK _ _ (fun _ h => af_step h (Ext.alloc' _ _)) ?_
          clear hK K
          refine pi_l 5 rfl (by kernel_rfl) (fun K hK => ?_)
          go_wp2_with (go_at_call 50; refine (Cut15_c C hok uk ud hu.1 hu.2 _).mono ?_; rintro e w3 ⟨rfl, hx3⟩)
          refine hK _ _ (fun _ h => af_step h hx3) ?_
          clear hK K
          have hs3 : (wr.alloc (.cells #[.int .u64 0, .int .i64 0] 38)).heap.size ≤ w3.heap.size := hx3.size
          rw [size_alloc] at hs3
          have hx3' : Ext wr w3 := Ext.trans' (Ext.alloc' wr _) (Ext.trans' (Below.drew (Ext.refl _)) hx3)
          have hbx : w3.heap[wr.heap.size]? = some (.cells #[.int .u64 0, .int .i64 0] 38 (0, 0)) := by
            rw [hx3.block _ (by show _ < (wr.alloc _).heap.size; rw [size_alloc]; exact Nat.lt_succ_self _)]
            exact heap_at wr _ rfl
          have p0 := (cell_of hbx 0).trans rfl
          have p1 := (cell_of hbx 1).trans rfl
          have f0 := frozen_of hbx 0
          have f1 := frozen_of hbx 1
          refine pi_l 7 rfl (by kernel_rfl) (fun K hK => ?_)
          go_wp2
          refine hK _ _ (fun _ _ => ⟨⟨_, (hx3'.setR (Nat.le_refl _) _).setR (Nat.le_refl _) _⟩, rfl⟩) ?_
          clear hK K
          refine pi_end (by kernel_rfl) ?_
          go_wp2_with fail
          go_meet
          exact ⟨wr.heap.size, rfl, set2 hbx _ _, (hx3'.setR (Nat.le_refl _) _).setR (Nat.le_refl _) _, Nat.le_refl _⟩
      case rest =>
        obtain ⟨bu, rfl, hbu, hxw, hbul⟩ := hcut
        have hdb := cutD_bd C.mode ud
        have b1 := (cell_of hbu 1).trans rfl
        have b0 := (cell_of hbu 0).trans rfl
        have hE' : Ext w wc := hE.trans' hxw
        have hP' := hxw.keep HP.out
        have hC' := HC.out.ext hxw
        have p0 := (cell_of hP' 0).trans rfl
        have p1 := (cell_of hP' 1).trans rfl
        have pl := lt_of hP'
        clear d0 d1 c0 c1 c2 c3 c4 hE hxw
        have hkk0 := (cutK_bd C hok 0 uk (Int.le_refl 0)).1
        generalize cutK C 0 uk = kk at *
        generalize cutD C.mode ud = dd at *
        by_cases hkk : sh n kk = j
        · have g1 : (sh n kk == j) = true := by simpa using hkk
          have hs' := HSN.out
          rw [g1] at hs'
          have HS := Lib.hid hs'
          have g2 : (kk / 2 ^ n == j) = true := g1
          clear hs' HSN hkk g1
          go_wp2_with fail
          go_roundw
          case rel => exact ⟨k + 1, by omega, by omega, by rw [HS.out]; rfl, by go_num, hE', hC', hP'⟩
          case measure => simp [intOf]; omega
        · have g1 : (sh n kk == j) = false := by simpa using hkk
          have hs' := HSN.out
          rw [g1] at hs'
          have HS := Lib.hid hs'
          have g2 : (kk / 2 ^ n == j) = false := g1
          clear hs' HSN hkk g1
          go_wp2_with fail
          go_roundw
          case rel => exact ⟨k + 1, by omega, by omega, by rw [HS.out]; exact congrArg _ (Int.add_zero _).symm, by go_num, hE', hC', hP'⟩
          case measure => simp [intOf]; omega
    · have hfe := fus_end us (i := 0) (j := 60) (k := k) (by omega) (by omega) (.inr ⟨hk60, hkl⟩) hgo
      have hfe' : hasK C us k n j = hasK C us 60 n j := by unfold hasK; rw [hfe]
      rw [hfe']
      go_wp2_with fail
      all_goals
        go_ret
        exact ⟨rfl, hE⟩
end Go.Proofs.Ytpnbgoahjoabkaa

/- gaugerlaw15.fed makes a stack and feeds it: it never refuses. -/
namespace Go.Proofs.Ytpnbgoahjoabkaa
set_option linter.unusedVariables false
open Go.RowKit

/-- The config that a play of a stack stands for. -/
def kcfg (x : Cfg) (nb m : Int) : Cfg := if 0 < m then { mkC x nb 9 with mode := m } else mkC x nb 9
theorem kcfg_ok (x : Cfg) (hs : U64 x.seed) {nb m : Int} (h1 : 1 ≤ nb) (h2 : nb ≤ 20) (h3 : m ≤ 3) : (kcfg x nb m).Ok := by
  have h := mkC_ok x hs (nb := nb) (nw := 9) h1 h2 (by decide) (by decide)
  unfold kcfg
  split
  · exact ⟨h.b1, h.b2, h.r1, h.r2, h.w1, h.w2, by show 1 ≤ m; omega, h3, h.s⟩
  · exact h
theorem kcfg_bits (x : Cfg) (nb m : Int) : (kcfg x nb m).bits = 1 + x.bits % 65536 % nb := by unfold kcfg; split <;> rfl
theorem kcfg_pos (x : Cfg) (nb : Int) {m : Int} (h : 0 < m) : (mkC x nb 9).bits = (kcfg x nb m).bits ∧ (mkC x nb 9).rows = (kcfg x nb m).rows ∧ (mkC x nb 9).width = (kcfg x nb m).width ∧ (mkC x nb 9).seed = (kcfg x nb m).seed ∧ m = (kcfg x nb m).mode := by
  unfold kcfg; rw [if_pos h]; exact ⟨rfl, rfl, rfl, rfl, rfl⟩
theorem kcfg_none (x : Cfg) (nb : Int) {m : Int} (h : ¬ 0 < m) : mkC x nb 9 = kcfg x nb m := by
  unfold kcfg; rw [if_neg h]
def KFedPost (w : World) (C : Cfg) (us : List (Int × Int)) (i j : Nat) (e : Ending) (w' : World) : Prop :=
  ∃ (s g : Nat) (L : Nat → Lev), e = .returned (.tuple #[.pointer (some ⟨s, 0, none⟩), .agg #[.int .i64 C.bits, .int .i64 C.rows, .int .i64 C.width, .int .i64 C.mode, .int .u64 C.seed]]) ∧
    KAt w' s g C C.bits.toNat L (feedK C (fus us i j)) ∧ w.heap.size ≤ s ∧ w.heap.size ≤ g ∧ KFresh w.heap.size C.bits.toNat L ∧ Ext w w'
set_option maxRecDepth 20000 in
set_option maxHeartbeats 4000000 in
theorem fed15_c (x : Cfg) (hx : x.Raw) (nb : Int) (hn1 : 1 ≤ nb) (hn2 : nb ≤ 20) (m : Int) (hm1 : 0 ≤ m) (hm2 : m ≤ 3) (us : List (Int × Int)) (hus : UpsOk us) (v : Value) (i j : Nat) (hij : i ≤ j) (hj : j ≤ 60) (w : World) (hv : UpsAt w v us) (hul : us.length ≤ 140737488355328) :
    Calls Try.prog 47 #[.agg #[.int .i64 x.bits, .int .i64 x.rows, .int .i64 x.width, .int .i64 x.mode, .int .u64 x.seed, v], .int .i64 nb, .int .i64 m, .int .i64 i, .int .i64 j] w (KFedPost w (kcfg x nb m) us i j) := by
  obtain ⟨vp, vc, rfl⟩ := hv.sl
  have HV := Lib.hid hv
  have hok := kcfg_ok x hx.s (m := m) hn1 hn2 hm2
  have hbits1 := hok.b1
  have hbits2 := hok.b2
  clear hv
  go_enter Try.func47, Try.ntmps47
  go_wp2_with fail
  refine (Any_c x hx nb 9 hn1 hn2 (by decide) (by decide) _).mono ?_
  rintro e w1 ⟨rfl, hb1⟩
  have hs1 := hb1.size
  simp only [size_alloc] at hs1
  have kp : w1.heap[w.heap.size]? = some (.cells #[.int .i64 x.bits, .int .i64 x.rows, .int .i64 x.width, .int .i64 x.mode, .int .u64 x.seed, .slice vp us.length vc] 64 (0, 0)) := by
    rw [hb1.block _ (by simp only [size_alloc]; omega), heap_old _ _ (by rw [size_alloc]; omega)]
    exact heap_at _ _ rfl
  have kr : w1.heap[w.heap.size + 1]? = some (.cells #[.int .i64 0, .int .i64 0, .int .i64 0, .int .i64 0, .int .u64 0] 24 (0, 0)) := by
    rw [hb1.block _ (by simp only [size_alloc]; omega)]
    exact heap_at _ _ (by simp only [size_alloc])
  have hE1 : Ext w w1 := by (repeat' (first | exact Ext.refl _ | assumption | apply Ext.allocR | apply Ext.drewR | apply Ext.drewNR | (refine Ext.trans' ?_ (by assumption))))
  clear hb1
  have hmk : (mkC x nb 9).bits = 1 + x.bits % 65536 % nb := rfl
  generalize hC : kcfg x nb m = C at *
  generalize hA : mkC x nb 9 = A at *
  have HCA := Lib.hid (And.intro hC hA)
  clear hC hA hmk
  go_upto_if 22 with (fail)
  go_cut [] (fun wx => wx.heap[w1.heap.size]? = some (.cells #[.int .i64 C.bits, .int .i64 C.rows, .int .i64 C.width, .int .i64 C.mode, .int .u64 C.seed] 24 (0, 0)) ∧ Ext w1 wx)
  case first =>
    have hbx := heap_at w1 (.cells #[.int .i64 A.bits, .int .i64 A.rows, .int .i64 A.width, .int .i64 A.mode, .int .u64 A.seed] 24) rfl
    by_cases hm : 0 < m
    · have hp := kcfg_pos x nb hm
      rw [HCA.out.1, HCA.out.2] at hp
      have HP := Lib.hid hp
      have p3 := (cell_of hbx 3).trans rfl
      have f3 := frozen_of hbx 3
      clear hp
      go_wp2
      go_meet
      refine ⟨(heap_at w1 _ rfl).trans ?_, Ext.alloc' _ _⟩
      rw [← HP.out.1, ← HP.out.2.1, ← HP.out.2.2.1, ← HP.out.2.2.2.1, ← HP.out.2.2.2.2]
    · have hp := kcfg_none x nb hm
      rw [HCA.out.1, HCA.out.2] at hp
      subst hp
      clear HCA
      go_wp2
      go_meet
      exact ⟨hbx, Ext.alloc' _ _⟩
  case rest =>
    obtain ⟨kc, hxc⟩ := hcut
    have hsc := hxc.size
    have hcl := lt_of kc
    have kp2 := hxc.keep kp
    have kr2 := hxc.keep kr
    have hEc : Ext w wc := hE1.trans' hxc
    have hCc := CfgAt.of kc
    have c0 := hCc.c0
    have c1 := hCc.c1
    have c2 := hCc.c2
    have c3 := hCc.c3
    have c4 := hCc.c4
    clear hCc HCA kp kr hE1 hxc
    go_wp2_with fail
    refine (KNew_c C hok _).mono ?_
    rintro e w2 ⟨s, g, L, rfl, hK, hs, hg, hL, hx2⟩
    obtain ⟨B, hB⟩ : ∃ B : Nat, C.bits = B := ⟨C.bits.toNat, by omega⟩
    have hBt : C.bits.toNat = B := by omega
    rw [hBt] at hK hL
    have hBd : B ≤ 59 := by omega
    have HB := Lib.hid hB
    have HBT := Lib.hid hBt
    have hE2 : Ext w w2 := hEc.trans' hx2
    have hs2 := hx2.size
    have KP := Lib.hid (hx2.keep kp2)
    have KR := Lib.hid (hx2.keep kr2)
    have KC := Lib.hid (hx2.keep kc)
    have hF : KFresh wc.heap.size B L := hL
    have hnc : ∀ k, k < wc.heap.size → ¬ cellsOf B L k := fun k hk hc => by obtain ⟨n, hn, rfl⟩ := hc; have := (hF n hn).2.2; omega
    clear hx2 c0 c1 c2 c3 c4 hL hB hBt kp2 kr2 kc
    go_wp2
    have hM0 : Mod (cellsOf B L) w2 w2 := Mod.refl _ _
    have hK0 : KAt w2 s g C B L (feedK C (fus us i i)) := by rw [fus_self]; exact hK
    clear hK
    go_loopw [15] (fun u wr => ∃ k : Nat, i ≤ k ∧ (k = i ∨ (k ≤ j ∧ k ≤ us.length)) ∧ u = .int .i64 k ∧ Mod (cellsOf B L) w2 wr ∧ KAt wr s g C B L (feedK C (fus us i k))) (fun u _ => j - (intOf u).toNat)
    case atStart => exact ⟨i, Nat.le_refl _, .inl rfl, rfl, hM0, hK0⟩
    case round =>
      clear hM0 hK0
      obtain ⟨k, hik, hkj, rfl, hM, hK⟩ := hrel
      have hMs := hM.size
      have hsz1 := hEc.size
      have qp := hM.keep KP.out (hnc _ (by omega))
      have qc := hM.keep KC.out (hnc _ hcl)
      have q5 := (cell_of qp 5).trans rfl
      have lp := lt_of qp
      have lc := lt_of qc
      have hCq := CfgAt.of qc
      have c0 := hCq.c0
      have c1 := hCq.c1
      have c2 := hCq.c2
      have c3 := hCq.c3
      have c4 := hCq.c4
      clear hCq
      by_cases hgo : k < us.length ∧ k < j
      · obtain ⟨hg1, hg2⟩ := hgo
        have hkj60 : k < 60 := by omega
        obtain ⟨ug, off, rfl, hul0, d0', d1'⟩ := HV.out.one hg1
        have hnu : ¬ cellsOf B L ug := hnc _ (by omega)
        have d0 := (mcell hM (b := ug) (by omega) hnu (off + k * 2)).trans (((bcell hE2).1 _ _ hul0).trans d0')
        have d1 := (mcell hM (b := ug) (by omega) hnu (off + k * 2 + 1)).trans (((bcell hE2).1 _ _ hul0).trans d1')
        have hgl2 : ug < wr.heap.size := by omega
        have hf := fus_snoc us hik hg1
        have hu := hus _ (List.getElem_mem hg1)
        have hget : us.getD k (0, 0) = us[k] := by simp [hg1]
        rw [hget] at hf
        generalize us[k] = uu at *
        obtain ⟨uk, ud⟩ := uu
        have HF := Lib.hid hf
        clear hf hget d0' d1'
        have herr := feedK_ok C hok HB.out (fus us i k) (by have := fus_len us i k; omega) (uk, ud)
        have HERR := Lib.hid herr
        have HQ := Lib.hid qp
        have HK := Lib.hid hK
        clear herr qp qc hK
        go_upto_region 10 with (fail)
        go_cut [16] (fun s16 wx => ∃ bu : Nat, s16 = .pointer (some ⟨bu, 0, none⟩) ∧ wx.heap[bu]? = some (.cells #[.int .u64 (cutK C 0 uk), .int .i64 (cutD C.mode ud)] 38 (0, 0)) ∧ Ext wr wx ∧ wr.heap.size ≤ bu)
        case first =>
          have hC0 := af_drew wr
          refine pi_start (fun w' => ∃ x : After wr, w' = x.w) [] (by kernel_rfl) ?_
          refine pi_c 0 (by assumption) rfl (by kernel_rfl) (by kernel_rfl) (fun _ _ _ _ h => h) (fun K hK => ?_)
          go_big_quiet_op
          refine hK _ ?_
          clear hK K
          refine pi_t 1 rfl (by kernel_rfl) (by kernel_rfl) (fun _ _ _ _ h => h) (fun K hK => ?_)
          go_big_quiet_op
          refine hK _ ?_
          clear hK K
          refine pi_c 2 (by assumption) rfl (by kernel_rfl) (by kernel_rfl) (fun _ _ _ _ h => h) (fun K hK => ?_)
          go_big_quiet_op
          refine hK _ ?_
          clear hK K
          refine pi_t 3 rfl (by kernel_rfl) (by kernel_rfl) (fun _ _ _ _ h => h) (fun K hK => ?_)
          go_big_quiet_op
          refine hK _ ?_
          clear hK K
          refine pi_t 4 rfl (by kernel_rfl) (by kernel_rfl) (fun _ _ _ _ h => h) (fun K hK => ?_)
          go_big_quiet_op
          refine hK _ ?_
          clear hK K
          refine pi_c 5 (by assumption) rfl (by kernel_rfl) (by kernel_rfl) (fun _ _ _ _ h => h) (fun K hK => ?_)
          go_big_quiet_op
          refine hK _ ?_
          clear hK K
          refine pi_b 6 7 rfl rfl (by kernel_rfl) (fun K hK => ?_) (fun K hK => ?_)
          · go_wp2_with (go_at_call 50; refine (Cut15_c C hok uk ud hu.1 hu.2 _).mono ?_; rintro e w3 ⟨rfl, hx3⟩)
            have hx3' : Ext wr w3 := Ext.trans' (Below.drew (Ext.refl wr)) hx3
            have hs3 := hx3'.size
            refine hK _ _ (fun _ h => af_step h hx3) ?_
            clear hK K
            refine pi_l 7 rfl (by kernel_rfl) (fun K hK => ?_)
            go_wp2
            refine hK _ _ (fun _ h => af_step h (Ext.alloc' _ _)) ?_
            clear hK K
            refine pi_l 8 rfl (by kernel_rfl) (fun K hK => ?_)
            go_wp2
            refine hK _ _ (fun _ _ => ⟨⟨_, hx3'.allocR _⟩, rfl⟩) ?_
            clear hK K
            refine pi_end (by kernel_rfl) ?_
            go_wp2_with fail
            go_meet
            exact ⟨w3.heap.size, rfl, heap_at _ _ rfl, hx3'.allocR _, hs3⟩
          · go_wp2
            refine hK _ _ (fun _ h => af_step h (Ext.alloc' _ _)) ?_
            clear hK K
            refine pi_l 6 rfl (by kernel_rfl) (fun K hK => ?_)
            go_wp2_with (go_at_call 50; refine (Cut15_c C hok uk ud hu.1 hu.2 _).mono ?_; rintro e w3 ⟨rfl, hx3⟩)
            refine hK _ _ (fun _ h => af_step h hx3) ?_
            clear hK K
            have hs3 : (wr.alloc (.cells #[.int .u64 0, .int .i64 0] 38)).heap.size ≤ w3.heap.size := hx3.size
            rw [size_alloc] at hs3
            have hx3' : Ext wr w3 := Ext.trans' (Ext.alloc' wr _) (Ext.trans' (Below.drew (Ext.refl _)) hx3)
            have hbx : w3.heap[wr.heap.size]? = some (.cells #[.int .u64 0, .int .i64 0] 38 (0, 0)) := by
              rw [hx3.block _ (by show _ < (wr.alloc _).heap.size; rw [size_alloc]; exact Nat.lt_succ_self _)]
              exact heap_at wr _ rfl
            have p0 := (cell_of hbx 0).trans rfl
            have p1 := (cell_of hbx 1).trans rfl
            have f0 := frozen_of hbx 0
            have f1 := frozen_of hbx 1
            refine pi_l 8 rfl (by kernel_rfl) (fun K hK => ?_)
            go_wp2
            refine hK _ _ (fun _ _ => ⟨⟨_, (hx3'.setR (Nat.le_refl _) _).setR (Nat.le_refl _) _⟩, rfl⟩) ?_
            clear hK K
            refine pi_end (by kernel_rfl) ?_
            go_wp2_with fail
            go_meet
            exact ⟨wr.heap.size, rfl, set2 hbx _ _, (hx3'.setR (Nat.le_refl _) _).setR (Nat.le_refl _) _, Nat.le_refl _⟩
        case rest =>
          obtain ⟨bu, rfl, hbu, hxw, hbul⟩ := hcut
          have b0 := (cell_of hbu 0).trans rfl
          have b1 := (cell_of hbu 1).trans rfl
          have hdI : I64 (cutD C.mode ud) := by have := cutD_bd C.mode ud; unfold I64; omega
          have hkU : U64 (cutK C 0 uk) := by have := cutK_bd C hok 0 uk (Int.le_refl 0); have := keys_bd C hok 0 (Int.le_refl 0); unfold U64; omega
          clear c0 c1 c2 c3 c4 q5 d0 d1
          go_wp2_with fail
          refine Calls.mono (KUpdate_c s g C B L _ _ _ _ (HK.out.ext hxw) hdI hkU) ?_
          rintro e w4 ⟨rfl, hK4, hM4⟩
          rw [HERR.out] at hK4 ⊢
          go_wp2
          go_roundw
          case rel =>
            refine ⟨k + 1, by omega, .inr ⟨by omega, by omega⟩, by go_num, hM.trans ((hxw.mod _).trans hM4), ?_⟩
            rw [HF.out, feedK_snoc]
            exact hK4
          case measure => simp [intOf]; omega
      · have hfe := fus_end us hij hik hkj hgo
        have HFE := Lib.hid hfe
        have qr := hM.keep KR.out (hnc _ (by omega))
        have p0 := (cell_of qr 0).trans rfl
        have p1 := (cell_of qr 1).trans rfl
        have p2 := (cell_of qr 2).trans rfl
        have p3 := (cell_of qr 3).trans rfl
        have p4 := (cell_of qr 4).trans rfl
        have f0 := frozen_of qr 0
        have f1 := frozen_of qr 1
        have f2 := frozen_of qr 2
        have f3 := frozen_of qr 3
        have f4 := frozen_of qr 4
        clear hfe
        have hEr : Ext w wr := Below.trans hE2 (hM.below (B := w.heap.size) (by omega) (fun k hk => by obtain ⟨n, hn, rfl⟩ := hk; have := (hF n hn).2.2; omega))
        have hend : ∀ Wf : World, Ext w Wf → (∀ j, j ≠ w.heap.size + 1 → Wf.heap[j]? = wr.heap[j]?) → KFedPost w C us i j (.returned (.tuple #[.pointer (some ⟨s, 0, none⟩), .agg #[.int .i64 C.bits, .int .i64 C.rows, .int .i64 C.width, .int .i64 C.mode, .int .u64 C.seed]])) Wf := by
          intro Wf hEf hof
          refine ⟨s, g, L, rfl, ?_, by omega, by omega, fun n hn => ?_, hEf⟩
          · rw [HBT.out, ← HFE.out]
            have hlo : ∀ k, k ≠ w.heap.size + 1 → Wf.heap[k]? = wr.heap[k]? := hof
            refine ⟨by rw [hlo s (by omega)]; exact hK.ex, by rw [hlo g (by omega)]; exact hK.row, fun n hn => (hK.lev n hn).keep (hlo _ ?_) (hlo _ ?_) (hlo _ ?_), hK.sep, hK.ok, hK.hB⟩
            all_goals
              have := hF n hn
              omega
          · have := hF n (by rw [HBT.out] at hn; exact hn)
            omega
        have HEND := Lib.hid hend
        have HK := Lib.hid hK
        clear hend hK
        by_cases hg1 : k < us.length
        · have hg2 : ¬ k < j := fun h => hgo ⟨hg1, h⟩
          go_wp2
          have hC0 := af_drew wr
          refine pi_start (fun w' => ∃ x : After wr, w' = x.w) [3] (by kernel_rfl) ?_
          refine pi_t 0 rfl (by kernel_rfl) (by kernel_rfl) (fun _ _ _ _ h => h) (fun K hK => ?_)
          go_big_quiet_op
          refine hK _ ?_
          clear hK K
          refine pi_c 1 (by assumption) rfl (by kernel_rfl) (by kernel_rfl) (fun _ _ _ _ h => h) (fun K hK => ?_)
          go_big_quiet_op
          refine hK _ ?_
          clear hK K
          refine pi_t 2 rfl (by kernel_rfl) (by kernel_rfl) (fun _ _ _ _ h => h) (fun K hK => ?_)
          go_big_quiet_op
          refine hK _ ?_
          clear hK K
          refine pi_l 3 rfl (by kernel_rfl) (fun K hK => ?_)
          go_wp2
          refine hK _ _ (by simp) ?_
          clear hK K
          refine pi_end (by kernel_rfl) ?_
          go_wp2_with fail
          refine fin5 (Φ := fun W' => bodyPost _ _ _ _ _ W'.drew) (w := w) (W := wr) qr hEr (by omega) ?_
          intro Wf hf hE5 hof _
          have q0 := (cell_of hf 0).trans rfl
          have q1 := (cell_of hf 1).trans rfl
          have q2 := (cell_of hf 2).trans rfl
          have q3 := (cell_of hf 3).trans rfl
          have q4 := (cell_of hf 4).trans rfl
          exact bodyPost_ret (v := .tuple #[.pointer (some ⟨s, 0, none⟩), .agg #[.int .i64 C.bits, .int .i64 C.rows, .int .i64 C.width, .int .i64 C.mode, .int .u64 C.seed]]) (by simp [results, Try.results47, go_sem, q0, q1, q2, q3, q4]) rfl (HEND.out _ (Below.drew hE5) hof)
        · go_wp2
          have hC0 := af_drew wr
          refine pi_start (fun w' => ∃ x : After wr, w' = x.w) [3] (by kernel_rfl) ?_
          refine pi_t 0 rfl (by kernel_rfl) (by kernel_rfl) (fun _ _ _ _ h => h) (fun K hK => ?_)
          go_big_quiet_op
          refine hK _ ?_
          clear hK K
          refine pi_c 1 (by assumption) rfl (by kernel_rfl) (by kernel_rfl) (fun _ _ _ _ h => h) (fun K hK => ?_)
          go_big_quiet_op
          refine hK _ ?_
          clear hK K
          refine pi_t 2 rfl (by kernel_rfl) (by kernel_rfl) (fun _ _ _ _ h => h) (fun K hK => ?_)
          go_big_quiet_op
          refine hK _ ?_
          clear hK K
          refine pi_l 3 rfl (by kernel_rfl) (fun K hK => ?_)
          go_wp2
          refine hK _ _ (by simp) ?_
          clear hK K
          refine pi_end (by kernel_rfl) ?_
          go_wp2_with fail
          refine fin5 (Φ := fun W' => bodyPost _ _ _ _ _ W'.drew) (w := w) (W := wr) qr hEr (by omega) ?_
          intro Wf hf hE5 hof _
          have q0 := (cell_of hf 0).trans rfl
          have q1 := (cell_of hf 1).trans rfl
          have q2 := (cell_of hf 2).trans rfl
          have q3 := (cell_of hf 3).trans rfl
          have q4 := (cell_of hf 4).trans rfl
          exact bodyPost_ret (v := .tuple #[.pointer (some ⟨s, 0, none⟩), .agg #[.int .i64 C.bits, .int .i64 C.rows, .int .i64 C.width, .int .i64 C.mode, .int .u64 C.seed]]) (by simp [results, Try.results47, go_sem, q0, q1, q2, q3, q4]) rfl (HEND.out _ (Below.drew hE5) hof)
end Go.Proofs.Ytpnbgoahjoabkaa
