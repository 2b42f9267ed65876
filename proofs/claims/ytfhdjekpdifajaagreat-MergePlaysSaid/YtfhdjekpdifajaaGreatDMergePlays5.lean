/- Part. No condition. -/
import Derived.Test.YtfhdjekpdifajaaGreatDMergePlays4
import Derived.Test.YtfhdjekpdifajaaGreatDMergePlays3
import Derived.Test.YtfhdjekpdifajaaGreatDMergePlays1
namespace Go.Proofs.YtfhdjekpdifajaaGreat
set_option linter.unusedVariables false
open Go.RowKit
attribute [local go_sem] Oper.semAt_some
def KUpdPost (w : World) (s g : Nat) (C : Cfg) (B : Nat) (L : Nat → Lev) (ls : Nat → List Int) (key d : Int) (e : Ending) (w' : World) : Prop :=
  e = .returned (.int .i64 (errK C B ls key d)) ∧ KAt w' s g C B L (bif decide (errK C B ls key d = 0) then updK C ls key d else ls) ∧ Mod (cellsOf B L) w w'
set_option maxRecDepth 100000 in
set_option maxHeartbeats 4000000 in
theorem KUpdate_c (s g : Nat) (C : Cfg) (B : Nat) (L : Nat → Lev) (ls : Nat → List Int) (key d : Int) (w : World) (h : KAt w s g C B L ls) (hd : I64 d) (hk : U64 key) :
    Calls Tryz.prog 26 #[.pointer (some ⟨s, 0, none⟩), .int .u64 key, .int .i64 d] w (KUpdPost w s g C B L ls key d) := by
  have hok := h.ok
  have hlt := h.lts
  have hltg := h.ltg
  obtain ⟨cap, hex, hcap⟩ := h.ex
  have c0 := (cell_of hex 0).trans rfl
  have c1 := (cell_of hex 1).trans rfl
  have c2 := (cell_of hex 2).trans rfl
  have c3 := (cell_of hex 3).trans rfl
  have c4 := (cell_of hex 4).trans rfl
  have hb2 : C.bits ≤ 59 := hok.b2
  have hb1 : 1 ≤ C.bits := hok.b1
  have HE := Lib.hid hex
  have HH := Lib.hid h
  clear h hex
  refine (callsIn_wide (n := 5)).1 ?_
  refine callsIn_of_wp_marks Tryz.func26 rfl trivial ?_ rfl
  simp only [Tryz.ntmps26, List.size_toArray, List.length_cons, List.length_nil, Nat.reduceAdd, Nat.reduceSub, Array.replicate_succ, Array.replicate_zero, List.push_toArray, List.append_toArray, List.nil_append, List.cons_append]
  gi_wp2_with fail
  refine ⟨trivial, (callsIn_wide.2 (Keys_c C hok 0 (Int.le_refl 0) (by omega) _)).mono ?_⟩
  rintro e w1 ⟨rfl, hx1⟩
  have hE1 : Ext w w1 := (Ext.alloc' w _).trans' hx1
  have h1 := HH.out.ext hE1
  have db := hx1.keep (heap_at w (.cells #[.int .i64 d] 2) rfl)
  have hls := h1.lts
  by_cases hkey : keys C 0 ≤ key
  · have e1 : errK C B ls key d = 2 := by unfold errK; rw [decide_eq_true hkey]; rfl
    have hge : decide (keys C 0 ≤ key) = true := decide_eq_true hkey
    gi_wp2
    exact ⟨_, results_tmp rfl _ _ _, by rw [e1]; rfl, by rw [e1]; exact h1, hE1.mod _⟩
  · have hge : decide (keys C 0 ≤ key) = false := decide_eq_false hkey
    gi_wp2_with fail
    refine ⟨trivial, (callsIn_wide.2 (Kat_c s key _)).mono ?_⟩
    rintro e w2 ⟨rfl, rfl⟩
    gi_wp2
    obtain ⟨W0, hW0⟩ : ∃ W0, ((w1.alloc (.cells #[.int .i64 0] 29)).alloc (.cells #[.pointer (some ⟨s, 0, none⟩)] 28)).alloc (.cells #[.int .u64 key] 22) = W0 := ⟨_, rfl⟩
    have hsz : W0.heap.size = w1.heap.size + 3 := by rw [← hW0]; simp
    have hEW : Ext w1 W0 := by rw [← hW0]; exact ((Ext.alloc' _ _).allocR _).allocR _
    have hb0 : W0.heap[w1.heap.size]? = some (.cells #[.int .i64 0] 29 (0, 0)) := by rw [← hW0, heap_old _ _ (by simp; omega), heap_old _ _ (by simp)]; exact heap_at _ _ rfl
    have hb1' : W0.heap[w1.heap.size + 1]? = some (.cells #[.pointer (some ⟨s, 0, none⟩)] 28 (0, 0)) := by rw [← hW0, heap_old _ _ (by simp)]; exact heap_at _ _ (size_alloc _ _).symm
    have hb2' : W0.heap[w1.heap.size + 2]? = some (.cells #[.int .u64 key] 22 (0, 0)) := by rw [← hW0]; exact heap_at _ _ (by simp)
    rw [hW0]
    have h2 := h1.ext hEW
    obtain ⟨cap2, hex2, hcap2⟩ := h2.ex
    have H2 := Lib.hid h2
    have hBd : B ≤ 59 := by have := hok.b2; have := h2.hB; omega
    refine wpIn_rangeFunc_ownF rfl (by decide) (gf := 147) (lb := #[.pointer (some ⟨w1.heap.size + 1, 0, none⟩), .pointer (some ⟨w1.heap.size + 1 + 1, 0, none⟩)]) rfl trivial (enters_of Tryz.func147 (by kernel_rfl) rfl)
      (kat1_stops 4 (w1.heap.size + 1) (w1.heap.size + 2) W0.heap.size s g cap2 (fun k => k = w1.heap.size) C L B key hk hBd (by omega) (by omega) h2.lts h2.ltg (by omega) (by omega) (by omega) (by have := h1.ltg; omega) W0 (Nat.le_refl _)
        ((cell_of hb1' 0).trans rfl) ((cell_of hb2' 0).trans rfl) ((cell_of hex2 5).trans rfl) (fun n hn => h2.cell hn)) KpS.t (fun W l o o' hl ho hc hw => KpS.b (Nat.le_refl _) W l o o' hl ho hc hw) (Below.refl _ _) (fun _ => rfl)
      (fun pre W => W.heap[w1.heap.size]? = some (.cells #[.int .i64 (errF C ls key d (vals pre))] 29 (0, 0)) ∧ Mod (fun k => k = w1.heap.size) W0 W)
      (fun _ _ _ => False)
      (OwnFrom.and (ownFrom_box (by omega) _) (ownFrom_mod (Nat.le_refl _)))
      (fun _ _ _ _ _ hs _ _ => hs)
      ⟨hb0, Mod.refl _ _⟩
      (fun x => { tmps := #[.pointer (some ⟨s, 0, none⟩), .int .u64 key, .int .i64 d, undef, undef, .pointer (some ⟨w.heap.size, 0, none⟩), .int .i64 0, .pointer (some ⟨w1.heap.size, 0, none⟩), lvV C x.1 (L x.1), .int .u64 (sh x.1 key), undef, undef, .int .u64 key, .pointer (some ⟨s, 0, none⟩), .pointer (some ⟨s, 0, none⟩), .pointer (some ⟨s, 0, none⟩), .agg #[.int .i64 C.bits, .int .i64 C.rows, .int .i64 C.width, .int .i64 C.mode, .int .u64 C.seed], .int .u64 (keys C 0), .bool false, .pointer (some ⟨s, 0, none⟩), .int .u64 key, .func (.func 147) #[] #[.pointer (some ⟨w1.heap.size + 1, 0, none⟩), .pointer (some ⟨w1.heap.size + 1 + 1, 0, none⟩)], lvV C x.1 (L x.1), .int .u64 (sh x.1 key), undef, undef, undef, undef, undef, undef, undef, undef, undef, undef, undef, undef, undef, undef, undef, undef, undef, undef, undef], defers := [] }) ?assign ?body ?done ?stop
    case assign =>
      intro l x W K hK
      dsimp only [lvEnc]
      gi_wp2
      exact hK
    case body =>
      rintro l pre x W ⟨hbad, hM0⟩ hlen
      have hM := mod_new hEW hM0 (Nat.le_refl _)
      have hxn := x.2
      have h3 := h1.keepN h1.low (fun k hk _ => hM.block k hk (fun h => h))
      have hLx := h3.lev x.1 x.2
      have hbc := (cell_of hbad 0).trans rfl
      have hdW := hM.keep db (fun h => h)
      have hdc := (cell_of hdW 0).trans rfl
      have hbl := lt_of hbad
      have hdl := lt_of hdW
      have hkx := sh_u64 hk x.1
      gi_wp2
      cases hx : isX C x.1 with
      | true =>
        have hA := (hLx.x hx).ext (Below.drew (Ext.refl W))
        have HX := Lib.hid hx
        rw [lvV_x hx]
        clear hx
        refine pi_startR (fun w' => ∃ x : After W, w' = x.w) [7] (by kernel_rfl) (fun ⟨_, _, hh⟩ => hh) (by kernel_rfl) ?_
        have hC0 := af_drew W
        refine pi_c 0 (by assumption) rfl (by kernel_rfl) (by kernel_rfl) (fun _ _ _ _ h => h) (fun K hK => ?_)
        go_big_quiet_op
        refine hK _ ?_
        clear hK K
        refine pi_t 1 rfl (by kernel_rfl) (by kernel_rfl) (fun _ _ _ _ h => h) (fun K hK => ?_)
        go_big_quiet_op
        refine hK _ ?_
        clear hK K
        refine pi_t 2 rfl (by kernel_rfl) (by kernel_rfl) (fun _ _ _ _ h => h) (fun K hK => ?_)
        go_big_quiet_op
        refine hK _ ?_
        clear hK K
        refine pi_c 3 (by assumption) rfl (by kernel_rfl) (by kernel_rfl) (fun _ _ _ _ h => h) (fun K hK => ?_)
        go_big_quiet_op
        refine hK _ ?_
        clear hK K
        refine pi_l 4 rfl (by kernel_rfl) (fun K hK => ?_)
        go_wp2_with fail
        refine (ECheck_c _ _ _ C _ _ _ (sh x.1 key) d _ hA hd hkx).mono ?_
        rintro e w3 ⟨rfl, hx3⟩
        have hb3 := hx3.keep (show W.drew.heap[w1.heap.size]? = _ from hbad)
        have hbc3 := (cell_of hb3 0).trans rfl
        have hbl3 := lt_of hb3
        have hbf3 := frozen_of hb3 0
        go_wp2
        refine hK _ _ (fun _ h => af_step h hx3) ?_
        clear hK K
        refine pi_l 5 rfl (by kernel_rfl) (fun K hK => ?_)
        go_wp2
        refine hK _ _ (fun _ h => af_step h (Ext.alloc' _ _)) ?_
        clear hK K
        refine pi_l 6 rfl (by kernel_rfl) (fun K hK => ?_)
        go_wp2_with fail
        refine (first_c w3.heap.size 2 (errF C ls key d (vals pre)) (errX C x.1 (ls x.1) (sh x.1 key) d) _ ((cell_of (heap_at w3 _ rfl) 0).trans rfl) ((cell_of (heap_at w3 _ rfl) 1).trans rfl)).mono ?_
        rintro e w4 ⟨rfl, rfl⟩
        go_wp2
        refine hK _ _ (fun _ h => h) ?_
        clear hK K
        refine pi_l 7 rfl (by kernel_rfl) (fun K hK => ?_)
        go_wp2
        refine hK _ _ (by simp) ?_
        clear hK K
        refine pi_end (by kernel_rfl) ?_
        obtain ⟨r1, r2, r3, r4⟩ := chk_round (v := .int .i64 (fst_ (errF C ls key d (vals pre)) (errX C x.1 (ls x.1) (sh x.1 key) d))) (o := .cells #[.int .i64 (errF C ls key d (vals pre)), .int .i64 (errX C x.1 (ls x.1) (sh x.1 key) d)] 29) hbad (Ext.trans' (Below.drew (Ext.refl W)) hx3) hM0
        exact ⟨r1, r2, by rw [vals_snoc, errF_snoc, lvE_x HX.out]; exact r3, r4⟩
      | false =>
        have hA := (hLx.sk hx).ext (Below.drew (Ext.refl W))
        have HX := Lib.hid hx
        rw [lvV_s hx]
        clear hx
        refine pi_startR (fun w' => ∃ x : After W, w' = x.w) [7] (by kernel_rfl) (fun ⟨_, _, hh⟩ => hh) (by kernel_rfl) ?_
        have hC0 := af_drew W
        refine pi_c 0 (by assumption) rfl (by kernel_rfl) (by kernel_rfl) (fun _ _ _ _ h => h) (fun K hK => ?_)
        go_big_quiet_op
        refine hK _ ?_
        clear hK K
        refine pi_t 1 rfl (by kernel_rfl) (by kernel_rfl) (fun _ _ _ _ h => h) (fun K hK => ?_)
        go_big_quiet_op
        refine hK _ ?_
        clear hK K
        refine pi_t 2 rfl (by kernel_rfl) (by kernel_rfl) (fun _ _ _ _ h => h) (fun K hK => ?_)
        go_big_quiet_op
        refine hK _ ?_
        clear hK K
        refine pi_c 3 (by assumption) rfl (by kernel_rfl) (by kernel_rfl) (fun _ _ _ _ h => h) (fun K hK => ?_)
        go_big_quiet_op
        refine hK _ ?_
        clear hK K
        refine pi_l 4 rfl (by kernel_rfl) (fun K hK => ?_)
        go_wp2_with fail
        refine (Check_c _ _ _ C _ _ _ _ (sh x.1 key) d _ hA hd hkx.1).mono ?_
        rintro e w3 ⟨rfl, hx3⟩
        have hb3 := hx3.keep (show W.drew.heap[w1.heap.size]? = _ from hbad)
        have hbc3 := (cell_of hb3 0).trans rfl
        have hbl3 := lt_of hb3
        have hbf3 := frozen_of hb3 0
        go_wp2
        refine hK _ _ (fun _ h => af_step h hx3) ?_
        clear hK K
        refine pi_l 5 rfl (by kernel_rfl) (fun K hK => ?_)
        go_wp2
        refine hK _ _ (fun _ h => af_step h (Ext.alloc' _ _)) ?_
        clear hK K
        refine pi_l 6 rfl (by kernel_rfl) (fun K hK => ?_)
        go_wp2_with fail
        refine (first_c w3.heap.size 2 (errF C ls key d (vals pre)) (errU C x.1 (rN C) (wN C) (ls x.1) (sh x.1 key) d) _ ((cell_of (heap_at w3 _ rfl) 0).trans rfl) ((cell_of (heap_at w3 _ rfl) 1).trans rfl)).mono ?_
        rintro e w4 ⟨rfl, rfl⟩
        go_wp2
        refine hK _ _ (fun _ h => h) ?_
        clear hK K
        refine pi_l 7 rfl (by kernel_rfl) (fun K hK => ?_)
        go_wp2
        refine hK _ _ (by simp) ?_
        clear hK K
        refine pi_end (by kernel_rfl) ?_
        obtain ⟨r1, r2, r3, r4⟩ := chk_round (v := .int .i64 (fst_ (errF C ls key d (vals pre)) (errU C x.1 (rN C) (wN C) (ls x.1) (sh x.1 key) d))) (o := .cells #[.int .i64 (errF C ls key d (vals pre)), .int .i64 (errU C x.1 (rN C) (wN C) (ls x.1) (sh x.1 key) d)] 29) hbad (Ext.trans' (Below.drew (Ext.refl W)) hx3) hM0
        exact ⟨r1, r2, by rw [vals_snoc, errF_snoc, lvE_s HX.out]; exact r3, r4⟩
    case done =>
      rintro D xs W hD hxs ⟨hbad, hM0⟩ hdef
      have hM := mod_new hEW hM0 (Nat.le_refl _)
      have hz : errF C ls key d (vals xs) = errs C ls key d (B + 1) := by unfold vals; rw [hxs, errF_range]
      rw [hz] at hbad
      have hek : errK C B ls key d = errs C ls key d (B + 1) := by unfold errK; rw [hge]; rfl
      have h3 := h1.keepN h1.low (fun k hk _ => hM.block k hk (fun h => h))
      have hbc := (cell_of hbad 0).trans rfl
      have hdW := hM.keep db (fun h => h)
      have hdc := (cell_of hdW 0).trans rfl
      have hbl := lt_of hbad
      have hdl := lt_of hdW
      have HZ := Lib.hid hek
      have HXS := Lib.hid hz
      clear hek hz hxs
      by_cases hzz : errs C ls key d (B + 1) = 0
      · gi_wp2_with fail
        refine ⟨trivial, (callsIn_wide.2 (Kat_c s key _)).mono ?_⟩
        rintro e w2 ⟨rfl, rfl⟩
        gi_wp2
        obtain ⟨W2, hW2⟩ : ∃ W2, (W.alloc (.cells #[.pointer (some ⟨s, 0, none⟩)] 28)).alloc (.cells #[.int .u64 key] 22) = W2 := ⟨_, rfl⟩
        have hsz2 : W2.heap.size = W.heap.size + 2 := by rw [← hW2]; simp
        have hEW2 : Ext W W2 := by rw [← hW2]; exact (Ext.alloc' _ _).allocR _
        have hb1' : W2.heap[W.heap.size]? = some (.cells #[.pointer (some ⟨s, 0, none⟩)] 28 (0, 0)) := by rw [← hW2, heap_old _ _ (by simp)]; exact heap_at _ _ rfl
        have hb2' : W2.heap[W.heap.size + 1]? = some (.cells #[.int .u64 key] 22 (0, 0)) := by rw [← hW2]; exact heap_at _ _ (size_alloc _ _).symm
        have hdef2 := hEW2.keep hdef
        have hd2 := hEW2.keep hdW
        rw [hW2]
        have h4 := h3.ext hEW2
        obtain ⟨cap4, hex4, hcap4⟩ := h4.ex
        have hall : ∀ n, n ≤ B → lvE C n (ls n) (sh n key) d = 0 := fun n hn => errs_zero.1 hzz n (by omega)
        have hlt3 : ∀ k, cellsOf B L k → k < W.heap.size := fun k hk => h3.ltc hk
        have hlt0 : ∀ k, cellsOf B L k → k < w.heap.size := fun k hk => HH.out.ltc hk
        have hWl := hM.size
        have hDl := lt_of hdef
        refine wpIn_rangeFunc_ownF rfl (by decide) (gf := 147) (lb := #[.pointer (some ⟨W.heap.size, 0, none⟩), .pointer (some ⟨W.heap.size + 1, 0, none⟩)]) rfl trivial (enters_of Tryz.func147 (by kernel_rfl) rfl)
          (kat1_stops 4 W.heap.size (W.heap.size + 1) W2.heap.size s g cap4 (cellsOf B L) C L B key hk hBd (by omega) (by omega) h4.lts h4.ltg (fun h => absurd (hlt3 _ h) (by omega)) (fun h => absurd (hlt3 _ h) (by omega)) h3.nots h3.notg W2 (Nat.le_refl _)
            ((cell_of hb1' 0).trans rfl) ((cell_of hb2' 0).trans rfl) ((cell_of hex4 5).trans rfl) (fun n hn => h4.cell hn)) KpS.t (fun W l o o' hl ho hc hw => KpS.b (Nat.le_refl _) W l o o' hl ho hc hw) (Below.refl _ _) (fun _ => rfl)
          (fun pre W' => W'.heap[D]? = some (.deferred (some [])) ∧ (∃ ls', KAt W' s g C B L ls' ∧ ((vals pre).Nodup → ∀ n, ls' n = partK C ls key d (vals pre) n)) ∧ Mod (cellsOf B L) W2 W')
          (fun _ _ _ => False)
          (OwnFrom.and (ownFrom_box (by omega) (fun _ => _)) (OwnFrom.and (fun pre W' W'' row hs hg hr => by obtain ⟨ls', h, hp⟩ := hs; exact ⟨ls', h.keepN h4.low (fun k hk hN => grown_low hg (fun r e => (hr r e).1) hk hN), hp⟩) (ownFrom_mod (Nat.le_refl _))))
          (fun _ _ _ _ _ hs _ _ => hs)
          ⟨hdef2, ⟨ls, h4, fun _ n => rfl⟩, Mod.refl _ _⟩
          (fun x => { tmps := #[.pointer (some ⟨s, 0, none⟩), .int .u64 key, .int .i64 d, undef, undef, .pointer (some ⟨w.heap.size, 0, none⟩), .int .i64 0, .pointer (some ⟨w1.heap.size, 0, none⟩), undef, undef, lvV C x.1 (L x.1), .int .u64 (sh x.1 key), .int .u64 key, .pointer (some ⟨s, 0, none⟩), .pointer (some ⟨s, 0, none⟩), .pointer (some ⟨s, 0, none⟩), .agg #[.int .i64 C.bits, .int .i64 C.rows, .int .i64 C.width, .int .i64 C.mode, .int .u64 C.seed], .int .u64 (keys C 0), .bool false, .pointer (some ⟨s, 0, none⟩), .int .u64 key, .func (.func 147) #[] #[.pointer (some ⟨w1.heap.size + 1, 0, none⟩), .pointer (some ⟨w1.heap.size + 1 + 1, 0, none⟩)], undef, undef, undef, undef, undef, undef, undef, undef, undef, .int .i64 0, .bool false, undef, .pointer (some ⟨s, 0, none⟩), .int .u64 key, .func (.func 147) #[] #[.pointer (some ⟨W.heap.size, 0, none⟩), .pointer (some ⟨W.heap.size + 1, 0, none⟩)], lvV C x.1 (L x.1), .int .u64 (sh x.1 key), undef, undef, undef, undef], defers := [] }) ?assign2 ?body2 ?done2 ?stop2
        case assign2 =>
          intro l x W K hK
          dsimp only [lvEnc]
          gi_wp2
          exact hK
        case body2 =>
          rintro l pre x V ⟨hD5, ⟨ls', h5, hp5⟩, hM5⟩ hlen
          have hd5 := hM5.keep hd2 (fun h => absurd (hlt0 _ h) (by omega))
          have hdc5 := (cell_of hd5 0).trans rfl
          have hdl5 := lt_of hd5
          have hkx := sh_u64 hk x.1
          have hLx := h5.lev x.1 x.2
          have fin := fun w3 hres => upd_round (w3 := w3) (x := x) h5 hp5 hM5 hD5 hall hres
          cases hx : isX C x.1 with
          | true =>
            have hA := hLx.x hx
            have HX := Lib.hid hx
            rw [lvV_x hx]
            clear hx
            refine wpIn_block ?_
            refine region_plainR (fun ⟨_, _, hh⟩ => hh) (by kernel_rfl) ?_
            go_wp2_with fail
            refine Calls.mono (EUpdate_c _ _ _ C _ _ _ (sh x.1 key) d _ hA hd hkx) ?_
            rintro e w3 ⟨rfl, hres⟩
            gi_wp2
            rw [← lvE_x HX.out, ← lvU_x HX.out] at hres
            exact fin w3 (hres.imp (fun ⟨a, b, c⟩ => ⟨a, .inl ⟨HX.out, b⟩, c⟩) (fun h => h))
          | false =>
            have hA := hLx.sk hx
            have HX := Lib.hid hx
            rw [lvV_s hx]
            clear hx
            refine wpIn_block ?_
            refine region_plainR (fun ⟨_, _, hh⟩ => hh) (by kernel_rfl) ?_
            go_wp2_with fail
            refine Calls.mono (Update_c _ _ _ C _ _ _ _ (sh x.1 key) d _ hA hd hkx.1) ?_
            rintro e w3 ⟨rfl, hres⟩
            gi_wp2
            rw [← lvE_s HX.out, ← lvU_s HX.out] at hres
            exact fin w3 (hres.imp (fun ⟨a, b, c⟩ => ⟨a, .inr ⟨HX.out, b⟩, c⟩) (fun h => h))
        case done2 =>
          rintro D2 ys V hD2 hys ⟨hD5, ⟨ls', h5, hp5⟩, hM5⟩ hdef5
          gi_wp2
          have hne : D ≠ D2 := by omega
          refine ⟨by simp, .inl ⟨_, _, rfl, run_takeDeferred hdef5, ⟨by simp, .inl ⟨_, _, rfl, run_takeDeferred ((World.putObj_heap_other hne).trans hD5), ?_⟩⟩⟩⟩
          have hq : Mod (cellsOf B L) w V := (((hE1.mod _).trans (hM.mono (fun _ h _ => h.elim))).trans (hEW2.mod _)).trans hM5
          have hwl := hE1.size
          refine ⟨_, results_tmp rfl _ _ _, by rw [HZ.out, hzz]; rfl, ?_, mod_putD (mod_putD hq (by omega)) (by omega)⟩
          rw [HZ.out, hzz]
          refine KAt.cong (ls := ls') ?_ (part_end hys hp5)
          exact h5.keepN HH.out.low (fun k _ hN => (World.putObj_heap_other (by omega)).trans (World.putObj_heap_other (by omega)))
        case stop2 =>
          rintro D2 c pre V hD2 _ hh _
          exact hh.elim
      · gi_wp2
        refine ⟨by simp, .inl ⟨_, _, rfl, run_takeDeferred hdef, ?_⟩⟩
        have hp : Mod (fun _ => False) w1 (W.putObj D (.deferred none)) := mod_putD hM (by omega)
        refine ⟨_, results_tmp rfl _ _ _, by rw [HZ.out]; rfl, ?_, (hE1.mod _).trans (hp.mono (fun _ h _ => h.elim))⟩
        rw [HZ.out, decide_eq_false hzz]
        exact h1.keepN h1.low (fun k hk _ => hp.block k hk (fun h => h))
    case stop =>
      rintro D c pre W hD _ hh _
      exact hh.elim
end Go.Proofs.YtfhdjekpdifajaaGreat
namespace Go.Proofs.YtfhdjekpdifajaaGreat
set_option linter.unusedVariables false
open Go.RowKit
theorem zs_bnd (n : Nat) : Bnd 0 (zs n) := by
  intro x hx
  simp only [zs, List.mem_replicate] at hx
  omega
theorem lvE_ok {C : Cfg} {lv : Int} {l : List Int} {key d B T : Int} (h : Bnd B l) (hB : 0 ≤ B) (hT : 0 ≤ T) (hd : -T ≤ d ∧ d ≤ T) (hs : B + T ≤ 4611686018427387904) (hk : key < keys C lv) (hm : C.mode = 2 → 0 ≤ d) : lvE C lv l key d = 0 := by
  cases hx : isX C lv with
  | false => rw [lvE_s hx]; exact upd_ok h hB hT hd hs hk hm
  | true =>
    rw [lvE_x hx, errX_sum hk (fun hh => by have := hm hh.1; omega)]
    have h2 := h.getD hB key.toNat
    rw [fitB_yes (by unfold I64; omega)]
    rfl
theorem lvU_bnd {C : Cfg} {lv : Int} {l : List Int} {key d B T : Int} (h : Bnd B l) (hB : 0 ≤ B) (hT : 0 ≤ T) (hd : -T ≤ d ∧ d ≤ T) : Bnd (B + T) (lvU C lv l key d) := by
  cases hx : isX C lv with
  | false => rw [lvU_s hx]; exact upd_bnd h hB hT hd
  | true =>
    rw [lvU_x hx]
    intro x hx
    unfold updX at hx
    rcases List.mem_or_eq_of_mem_set hx with h1 | rfl
    · have := h x h1; omega
    · have h2 := h.getD hB key.toNat; omega
theorem updK_bnd {C : Cfg} {ls : Nat → List Int} {key d B' T : Int} {n : Nat} (h : Bnd B' (ls n)) (hB : 0 ≤ B') (hT : 0 ≤ T) (hd : -T ≤ d ∧ d ≤ T) : Bnd (B' + T) (updK C ls key d n) := lvU_bnd h hB hT hd
theorem errK_ok {C : Cfg} (hok : C.Ok) {B : Nat} (hBb : C.bits = B) {ls : Nat → List Int} {key d B' T : Int} (h : ∀ n, n ≤ B → Bnd B' (ls n)) (hB : 0 ≤ B') (hT : 0 ≤ T) (hd : -T ≤ d ∧ d ≤ T) (hs : B' + T ≤ 4611686018427387904) (hk0 : 0 ≤ key) (hk : key < keys C 0) (hm : C.mode = 2 → 0 ≤ d) : errK C B ls key d = 0 :=
  errK_zero.2 ⟨hk, fun n hn => lvE_ok (h n hn) hB hT hd hs (sh_lt hok (by omega) hk0 hk) hm⟩
end Go.Proofs.YtfhdjekpdifajaaGreat
namespace Go.Proofs.YtfhdjekpdifajaaGreat
set_option linter.unusedVariables false
open Go.RowKit
def KFresh (N B : Nat) (L : Nat → Lev) : Prop := ∀ n, n ≤ B → N ≤ (L n).s ∧ N ≤ (L n).b ∧ N ≤ (L n).c
theorem KFresh.ext {w a b : World} {B : Nat} {L : Nat → Lev} (h : KFresh w.heap.size B L) (hE : Ext w a) (hM : Mod (cellsOf B L) a b) : Ext w b :=
  Below.trans hE (hM.below (B := w.heap.size) hE.size (fun k hk => by obtain ⟨n, hn, rfl⟩ := hk; exact (h n hn).2.2))
end Go.Proofs.YtfhdjekpdifajaaGreat
namespace Go.Proofs.YtfhdjekpdifajaaGreat
set_option linter.unusedVariables false
open Go.RowKit
set_option maxRecDepth 20000 in
set_option maxHeartbeats 2000000 in
theorem ExactR_c (C : Cfg) (h : C.Ok) (lv : Int) (h0 : 0 ≤ lv) (h1 : lv ≤ C.bits) (w : World) :
    Calls Tryz.prog 100 #[.agg #[.int .i64 C.bits, .int .i64 C.rows, .int .i64 C.width, .int .i64 C.mode, .int .u64 C.seed], .int .i64 lv] w fun e w' => e = .returned (.bool (isX C lv)) ∧ Ext w w' := by
  have hk := keys_bd C h lv h0
  have w1' := h.w1
  have w2' := h.w2
  have hI : isX C lv = decide (keys C lv ≤ C.width) := rfl
  go_enter Tryz.func100, Tryz.ntmps100
  go_wp2_with fail
  refine (KeysR_c C h lv h0 h1 _).mono ?_
  rintro e w1 ⟨rfl, hb⟩
  have hE : Ext w w1 := by (repeat' (first | exact Ext.refl _ | assumption | apply Ext.allocR | apply Ext.drewR | apply Ext.drewNR | (refine Ext.trans' ?_ (by assumption))))
  have hC := (CfgAt.box (w := w) C 24 rfl).ext hb
  have c2 := hC.c2
  have cl := hC.lt
  have HI := Lib.hid hI
  generalize keys C lv = N at *
  clear hb hI hC
  by_cases hx : N ≤ C.width
  · go_wp2
    go_ret
    exact ⟨by rw [HI.out, decide_eq_true hx]; rfl, hE⟩
  · go_wp2
    go_ret
    exact ⟨by rw [HI.out, decide_eq_false (by omega)]; rfl, hE⟩
end Go.Proofs.YtfhdjekpdifajaaGreat
namespace Go.Proofs.YtfhdjekpdifajaaGreat
set_option linter.unusedVariables false
open Go.RowKit
/-- Where it lies: its block, its row of rows, its rows, and how many cells they could have. -/
structure Gr where
  g : Nat
  m : Nat
  r : Nat → Nat
  c : Nat → Nat
def Gr.foot (G : Gr) (R : Nat) (k : Nat) : Prop := k = G.g ∨ k = G.m ∨ ∃ r, r < R ∧ k = G.r r
def Gr.row (G : Gr) (W r : Nat) : Value := .slice (some ⟨G.r r, 0, none⟩) W (G.c r)
structure RGAt (w : World) (G : Gr) (R W : Nat) (l : List Int) : Prop where
  ex : ∃ cap, w.heap[G.g]? = some (.cells #[.slice (some ⟨G.m, 0, none⟩) R cap] 161 (0, 0)) ∧ R ≤ cap
  row : ∃ cur, w.heap[G.m]? = some (.cells cur 43 (0, 0)) ∧ ∀ r, r < R → cur[r]? = some (G.row W r)
  cells : ∀ r, r < R → ∃ cur, w.heap[G.r r]? = some (.cells cur 2 (0, 0)) ∧ ∀ k, k < W → cur[k]? = some (.int .i64 (l.getD (r * W + k) 0))
  capc : ∀ r, r < R → W ≤ G.c r
  sep : ∀ r q, r < R → q < R → r ≠ q → G.r r ≠ G.r q
  len : l.length = R * W
  r1 : 1 ≤ R
  r2 : R ≤ 8
  w1 : 1 ≤ W
  w2 : W ≤ 128
section
variable {w : World} {G : Gr} {R W : Nat} {l : List Int}
theorem RGAt.ltg (h : RGAt w G R W l) : G.g < w.heap.size := by obtain ⟨cap, h1, _⟩ := h.ex; exact lt_of h1
theorem RGAt.ltm (h : RGAt w G R W l) : G.m < w.heap.size := by obtain ⟨cur, h1, _⟩ := h.row; exact lt_of h1
theorem RGAt.ltr (h : RGAt w G R W l) {r : Nat} (hr : r < R) : G.r r < w.heap.size := by obtain ⟨cur, h1, _⟩ := h.cells r hr; exact lt_of h1
theorem RGAt.lt (h : RGAt w G R W l) {k : Nat} (hk : G.foot R k) : k < w.heap.size := by
  rcases hk with rfl | rfl | ⟨r, hr, rfl⟩
  · exact h.ltg
  · exact h.ltm
  · exact h.ltr hr
theorem RGAt.ngr (h : RGAt w G R W l) {r : Nat} (hr : r < R) : G.g ≠ G.r r := by
  obtain ⟨cap, h1, _⟩ := h.ex
  obtain ⟨cur, h2, _⟩ := h.cells r hr
  exact blk_ne h1 h2 (by decide)
theorem RGAt.nmr (h : RGAt w G R W l) {r : Nat} (hr : r < R) : G.m ≠ G.r r := by
  obtain ⟨c1, h1, _⟩ := h.row
  obtain ⟨cur, h2, _⟩ := h.cells r hr
  exact blk_ne h1 h2 (by decide)
theorem RGAt.ngm (h : RGAt w G R W l) : G.g ≠ G.m := by
  obtain ⟨cap, h1, _⟩ := h.ex
  obtain ⟨cur, h2, _⟩ := h.row
  exact blk_ne h1 h2 (by decide)
theorem RGAt.keep {w' : World} (h : RGAt w G R W l) (hk : ∀ k, G.foot R k → w'.heap[k]? = w.heap[k]?) : RGAt w' G R W l :=
  ⟨by rw [hk _ (.inl rfl)]; exact h.ex, by rw [hk _ (.inr (.inl rfl))]; exact h.row, fun r hr => by rw [hk _ (.inr (.inr ⟨r, hr, rfl⟩))]; exact h.cells r hr, h.capc, h.sep, h.len, h.r1, h.r2, h.w1, h.w2⟩
theorem RGAt.ext {w' : World} (h : RGAt w G R W l) (he : Ext w w') : RGAt w' G R W l := h.keep fun k hk => he.block k (h.lt hk)
theorem RGAt.mod {S : Nat → Prop} {w' : World} (h : RGAt w G R W l) (he : Mod S w w') (hn : ∀ k, G.foot R k → ¬ S k) : RGAt w' G R W l := h.keep fun k hk => he.block k (h.lt hk) (hn k hk)
theorem RGAt.cg (h : RGAt w G R W l) : ∃ cap, w.cell? ⟨G.g, 0, none⟩ = some (.slice (some ⟨G.m, 0, none⟩) R cap) ∧ R ≤ cap := by
  obtain ⟨cap, h1, h2⟩ := h.ex
  exact ⟨cap, (cell_of h1 0).trans rfl, h2⟩
theorem RGAt.cm (h : RGAt w G R W l) {r : Nat} (hr : r < R) : w.cell? ⟨G.m, r, none⟩ = some (.slice (some ⟨G.r r, 0, none⟩) W (G.c r)) := by
  obtain ⟨cur, h1, h2⟩ := h.row
  rw [cell_of h1]; exact h2 r hr
theorem RGAt.fm (h : RGAt w G R W l) (r : Nat) : w.frozen? ⟨G.m, r, none⟩ = false := by
  obtain ⟨cur, h1, h2⟩ := h.row
  exact frozen_of h1 r
theorem RGAt.cr (h : RGAt w G R W l) {r k : Nat} (hr : r < R) (hk : k < W) : w.cell? ⟨G.r r, k, none⟩ = some (.int .i64 (l.getD (r * W + k) 0)) := by
  obtain ⟨cur, h1, h2⟩ := h.cells r hr
  rw [cell_of h1]; exact h2 k hk
theorem RGAt.fr (h : RGAt w G R W l) {r : Nat} (hr : r < R) (k : Nat) : w.frozen? ⟨G.r r, k, none⟩ = false := by
  obtain ⟨cur, h1, h2⟩ := h.cells r hr
  exact frozen_of h1 k
/-- A row of its cells. -/
def rowL (l : List Int) (W r : Nat) : List Int := (List.range W).map fun k => l.getD (r * W + k) 0
theorem rowL_len (l : List Int) (W r : Nat) : (rowL l W r).length = W := by simp [rowL]
theorem rowL_get {l : List Int} {W r k : Nat} (hk : k < W) : (rowL l W r).getD k 0 = l.getD (r * W + k) 0 := by simp [rowL, hk]
theorem RGAt.ints (h : RGAt w G R W l) {r : Nat} (hr : r < R) : IntsAt w (.slice (some ⟨G.r r, 0, none⟩) W (G.c r)) (rowL l W r) :=
  .inr ⟨G.r r, 0, G.c r, by rw [rowL_len], h.ltr hr, fun k hk => by rw [rowL_len] at hk; rw [Nat.zero_add, rowL_get hk]; exact h.cr hr hk⟩
/-- One cell set. -/
theorem RGAt.set (h : RGAt w G R W l) {r k : Nat} (hr : r < R) (hk : k < W) (x : Int) : RGAt (w.setCell ⟨G.r r, k, none⟩ (.int .i64 x)) G R W (l.set (r * W + k) x) := by
  have hlt : r * W + k < l.length := by
    rw [h.len]
    calc r * W + k < r * W + W := by omega
      _ = (r + 1) * W := by rw [Nat.add_mul, Nat.one_mul]
      _ ≤ R * W := Nat.mul_le_mul_right W hr
  refine ⟨by rw [setCell_other _ _ (h.ngr hr)]; exact h.ex, by rw [setCell_other _ _ (h.nmr hr)]; exact h.row, fun q hq => ?_, h.capc, h.sep, by rw [List.length_set]; exact h.len, h.r1, h.r2, h.w1, h.w2⟩
  obtain ⟨cur, h1, h2⟩ := h.cells q hq
  by_cases e : q = r
  · subst e
    refine ⟨_, setCell_same h1 _ _, fun j hj => ?_⟩
    by_cases ej : j = k
    · subst ej
      have hsz : j < cur.size := by
        have := h2 j hj
        rw [Array.getElem?_eq_some_iff] at this
        exact this.1
      rw [Array.getElem?_setIfInBounds_self_of_lt hsz, List.getD_eq_getElem?_getD, List.getElem?_set_self hlt]
      rfl
    · rw [Array.getElem?_setIfInBounds_ne (fun e => ej e.symm), h2 j hj, List.getD_eq_getElem?_getD, List.getD_eq_getElem?_getD, List.getElem?_set_ne (by omega)]
  · refine ⟨cur, by rw [setCell_other _ _ (h.sep q r hq hr e)]; exact h1, fun j hj => ?_⟩
    rw [h2 j hj, List.getD_eq_getElem?_getD, List.getD_eq_getElem?_getD, List.getElem?_set_ne (at_ne hk hj (.inl fun e' => e e'.symm))]
theorem mod_rset {w : World} {G : Gr} {R r : Nat} (hr : r < R) (k : Nat) (v : Value) : Mod (G.foot R) w (w.setCell ⟨G.r r, k, none⟩ v) :=
  ⟨rfl, rfl, rfl, by rw [size_setCell]; exact Nat.le_refl _, fun j _ hj => setCell_other _ _ (fun e => hj (.inr (.inr ⟨r, hr, e⟩)))⟩
end
/-- Rows that have been made. -/
structure GMade (w : World) (B0 : Nat) (G : Gr) (W k : Nat) (v : Value) (f : Nat → Nat → Int) : Prop where
  row : w.ownsRow B0 43 1 v ((List.range k).map (G.row W)).length ((List.range k).map (G.row W))
  cells : ∀ r, r < k → ∃ cur, w.heap[G.r r]? = some (.cells cur 2 (0, 0)) ∧ ∀ j, j < W → cur[j]? = some (.int .i64 (f r j))
  capc : ∀ r, r < k → W ≤ G.c r
  new : ∀ r, r < k → B0 ≤ G.r r
  sep : ∀ r q, r < k → q < k → r ≠ q → G.r r ≠ G.r q
theorem GMade.zero (w : World) (B0 : Nat) (G : Gr) (W : Nat) (f : Nat → Nat → Int) : GMade w B0 G W 0 (.slice none 0 0) f :=
  ⟨⟨rfl, .inl ⟨rfl, rfl⟩⟩, by intros; omega, by intros; omega, by intros; omega, by intros; omega⟩
theorem GMade.ext {w w' : World} {B0 W k : Nat} {G : Gr} {v : Value} {f : Nat → Nat → Int} (h : GMade w B0 G W k v f) (he : Ext w w') : GMade w' B0 G W k v f :=
  ⟨own_ext h.row he, fun r hr => by obtain ⟨cur, h1, h2⟩ := h.cells r hr; exact ⟨cur, he.keep h1, h2⟩, h.capc, h.new, h.sep⟩
theorem GMade.lt {w : World} {B0 W k : Nat} {G : Gr} {v : Value} {f : Nat → Nat → Int} (h : GMade w B0 G W k v f) {r : Nat} (hr : r < k) : G.r r < w.heap.size := by
  obtain ⟨cur, h1, _⟩ := h.cells r hr; exact lt_of h1
theorem GMade.setc {w : World} {B0 W k : Nat} {G : Gr} {v : Value} {f : Nat → Nat → Int} (h : GMade w B0 G W k v f) {b : Nat} (hb : b < B0) (o : Nat) (u : Value) : GMade (w.setCell ⟨b, o, none⟩ u) B0 G W k v f :=
  ⟨own_setc h.row hb o u, fun r hr => by obtain ⟨cur, h1, h2⟩ := h.cells r hr; exact ⟨cur, by rw [setCell_other _ _ (by have := h.new r hr; omega)]; exact h1, h2⟩, h.capc, h.new, h.sep⟩
/-- A row that the call has made. -/
theorem own_row1 {w : World} {N : Nat} {u : Value} {xs : List Int} (h : w.ownsRow N 2 1 u xs.length (ints xs)) (hx : 0 < xs.length) :
    ∃ z cap cur, u = .slice (some ⟨z, 0, none⟩) xs.length cap ∧ xs.length ≤ cap ∧ N ≤ z ∧ w.heap[z]? = some (.cells cur 2 (0, 0)) ∧ ∀ j, j < xs.length → cur[j]? = some (.int .i64 (xs.getD j 0)) := by
  obtain ⟨z, cap, hv, hz, hc⟩ := CAt.of_row h hx
  obtain ⟨cur, h1, h2, h3⟩ := hc.ex
  exact ⟨z, cap, cur, hv, hc.le, hz, h1, fun j hj => by rw [← cell_of h1]; exact hc.cell hj⟩
/-- One more. -/
theorem GMade.next {w w' : World} {B0 W k N : Nat} {G : Gr} {v v' : Value} {f : Nat → Nat → Int} {z cap : Nat} {cur : Array Value} {o : Obj} (h : GMade w B0 G W k v f)
    (hz : w.heap[z]? = some (.cells cur 2 (0, 0))) (hf : ∀ j, j < W → cur[j]? = some (.int .i64 (f k j))) (hcap : W ≤ cap) (hN : ∀ r, r < k → G.r r < N) (hB : B0 ≤ N) (hzN : N ≤ z)
    (hown : w'.ownsRow B0 43 1 v' ((List.range k).map (G.row W) ++ [Value.slice (some ⟨z, 0, none⟩) W cap]).length ((List.range k).map (G.row W) ++ [Value.slice (some ⟨z, 0, none⟩) W cap])) (hg : (w.alloc o).grownBy w' v.ownBlock) :
    GMade w' B0 ⟨G.g, G.m, fun r => if r = k then z else G.r r, fun r => if r = k then cap else G.c r⟩ W (k + 1) v' f := by
  have hold : ∀ (j : Nat) (cu : Array Value), w.heap[j]? = some (Obj.cells cu 2 (0, 0)) → w'.heap[j]? = some (Obj.cells cu 2 (0, 0)) := fun j cu hj =>
    (grown_old hg (lt_of hj) (fun e => own_notB h.row hj (by decide) e.symm)).trans hj
  refine ⟨?_, fun r hr => ?_, fun r hr => ?_, fun r hr => ?_, fun r q hr hq hrq => ?_⟩
  · have e : (List.range (k + 1)).map (Gr.row ⟨G.g, G.m, fun r => if r = k then z else G.r r, fun r => if r = k then cap else G.c r⟩ W) = (List.range k).map (G.row W) ++ [Value.slice (some ⟨z, 0, none⟩) W cap] := by
      rw [List.range_succ, List.map_append]
      congr 1
      · apply List.map_congr_left
        intro i hi
        rw [List.mem_range] at hi
        simp only [Gr.row, if_neg (show ¬ i = k by omega)]
      · simp [Gr.row]
    rw [e]; exact hown
  · by_cases e : r = k
    · subst e
      refine ⟨cur, ?_, hf⟩
      simp only [if_pos]
      exact hold _ _ hz
    · obtain ⟨cu, h1, h2⟩ := h.cells r (by omega)
      refine ⟨cu, ?_, h2⟩
      simp only [if_neg e]
      exact hold _ _ h1
  · by_cases e : r = k
    · simp only [if_pos e]; exact hcap
    · simp only [if_neg e]; exact h.capc r (by omega)
  · by_cases e : r = k
    · simp only [if_pos e]; omega
    · simp only [if_neg e]; exact h.new r (by omega)
  · by_cases e : r = k
    · subst e
      simp only [if_pos, if_neg (show ¬ q = r by omega)]
      have := hN q (by omega)
      omega
    · by_cases e' : q = k
      · subst e'
        simp only [if_pos, if_neg e]
        have := hN r (by omega)
        omega
      · simp only [if_neg e, if_neg e']
        exact h.sep r q (by omega) (by omega) hrq
/-- All rows, and the grid's own block: a grid. -/
theorem GMade.grid {w : World} {B0 R W g : Nat} {G : Gr} {v : Value} {f : Nat → Nat → Int} {l : List Int} (h : GMade w B0 G W R v f) (hg : w.heap[g]? = some (.cells #[v] 161 (0, 0)))
    (hl : l.length = R * W) (hf : ∀ r k, r < R → k < W → f r k = l.getD (r * W + k) 0) (r1 : 1 ≤ R) (r2 : R ≤ 8) (w1 : 1 ≤ W) (w2 : W ≤ 128) :
    ∃ m, B0 ≤ m ∧ RGAt w ⟨g, m, G.r, G.c⟩ R W l := by
  have hlen : ((List.range R).map (G.row W)).length = R := by simp
  rcases h.row.2 with ⟨_, h0⟩ | ⟨m, cap, cur, rfl, hbg, hm, hnc, hcm, hcs, htake⟩
  · rw [hlen] at h0; omega
  · rw [hlen] at hg hnc
    refine ⟨m, hbg, ⟨⟨cap, hg, hnc⟩, ⟨cur, hm, fun r hr => ?_⟩, fun r hr => ?_, h.capc, h.sep, hl, r1, r2, w1, w2⟩⟩
    · have hget : ((List.range R).map (G.row W))[r]? = some (G.row W r) := by rw [List.getElem?_map, List.getElem?_range hr]; rfl
      have h1 := h.row.cells (g := m) rfl r _ hget
      rw [show ((⟨m, 0, none⟩ : Addr).add r) = ⟨m, r, none⟩ by (simp [Addr.add]; intro e; exact e.symm), cell_of hm] at h1
      exact h1
    · obtain ⟨cu, h1, h2⟩ := h.cells r hr
      exact ⟨cu, h1, fun k hk => by rw [h2 k hk, hf r k hr hk]⟩
theorem info_row : ∃ i z, Tryz.prog.info? 43 = some i ∧ i.zero = some z ∧ i.size = 1 ∧ i.bytes = 24 ∧ z.cells.size = 1 := by
  have h : (Tryz.prog.info? 43).map (fun i => (i.zero, i.size, i.bytes)) = some (some (.slice none 0 0), 1, 24) := by kernel_rfl
  match hi : Tryz.prog.info? 43, h with
  | some i, h =>
    simp only [Option.map_some, Option.some.injEq, Prod.mk.injEq] at h
    exact ⟨i, .slice none 0 0, rfl, h.1, h.2.1, h.2.2, rfl⟩
section
variable {P : Program}
/-- 's = append(s, x)', x of one cell and so many bytes, s a row of the call's own. -/
theorem wpList_appB (W : World) {ops : Array Oper} {rest : List Oper} {o : Oper} {a : Act} {Q : Exit → Act → World → Prop} (by_ : Nat) (hby : by_ ≤ 64) (x : Value) (hx1 : x.oneCell' = true) (xs : List Value) (v : Value) (base : Nat) (e : TypeId) (hown : W.ownsRow base e 1 v xs.length xs) (t : TypeId)
    (hgd : o.guard = none) (s y : Operand) (ho : o.op = .call { callee := .builtin .append, args := #[s, y], argTypes := #[t, t] })
    (i0 : TypeInfo) (z0 : Value) (hi : P.info? e = some i0) (hz0 : i0.zero = some z0) (hz1 : i0.size = 1) (hz2 : i0.bytes = by_) (hz3 : z0.cells.size = 1) (ht : P.underlying t = some (.slice e))
    (hs : a.eval s = v) (hx : a.eval y = .slice (some ⟨W.heap.size, 0, none⟩) 1 1)
    (hl : xs.length ≤ 1000000) (hbase : base ≤ W.heap.size)
    (h : ∀ v' w', w'.ownsRow base e 1 v' (xs ++ [x]).length (xs ++ [x]) → (W.alloc (.cells #[x] e)).grownBy w' v.ownBlock → wpList P ops Q rest (a.put o.dst v') w') :
    wpList P ops Q (o :: rest) a (W.alloc (.cells #[x] e)) := by
  refine wpList_append_sep _ hgd s y t ho base e i0 z0 1 by_ ht hi hz0 hz1 hz2 hz3 (by decide) v xs.length xs hs (hown.alloc _) ⟨W.heap.size, 0, none⟩ 1 1 [x] hx rfl ?_ ?_ (by unfold maxLen; omega) ?_ (by rw [size_alloc]; omega) ?_
  · intro j u hu
    have hj : j = 0 := by
      have := (List.getElem?_eq_some_iff.1 hu).1
      simp at this; exact this
    subst hj
    rw [show (⟨W.heap.size, 0, none⟩ : Addr).add 0 = ⟨W.heap.size, 0, none⟩ by simp [Addr.add], cell_of (heap_at W _ rfl) 0]
    exact hu
  · intro u hu
    simp at hu
    subst hu
    exact hx1
  · have : (xs.length + 1) * by_ ≤ 1000001 * 64 := Nat.mul_le_mul (by omega) hby
    omega
  · intro v' w' h1 h2 h3
    refine h v' w' ?_ h2
    rw [List.length_append]
    exact h1
end
end Go.Proofs.YtfhdjekpdifajaaGreat
namespace Go.Proofs.YtfhdjekpdifajaaGreat
set_option linter.unusedVariables false
open Go.RowKit
/-- P is told of the blocks F, which are there. -/
structure Own (F : Nat → Prop) (P : World → Prop) (w : World) : Prop where
  h : P w
  keep : ∀ w w' : World, P w → (∀ k, F k → w'.heap[k]? = w.heap[k]?) → P w'
  lt : ∀ k, F k → k < w.heap.size
theorem Own.mod {F S : Nat → Prop} {P : World → Prop} {w w' : World} (h : Own F P w) (hm : Mod S w w') (hn : ∀ k, F k → ¬ S k) : Own F P w' :=
  ⟨h.keep w w' h.h (fun k hk => hm.block k (h.lt k hk) (hn k hk)), h.keep, fun k hk => Nat.lt_of_lt_of_le (h.lt k hk) hm.size⟩
theorem Own.ext {F : Nat → Prop} {P : World → Prop} {w w' : World} (h : Own F P w) (he : Ext w w') : Own F P w' :=
  ⟨h.keep w w' h.h (fun k hk => he.block k (h.lt k hk)), h.keep, fun k hk => Nat.lt_of_lt_of_le (h.lt k hk) he.size⟩
/-- They have no block in common. -/
def Dj (F G : Nat → Prop) : Prop := ∀ k, F k → ¬ G k
theorem Dj.symm {F G : Nat → Prop} (h : Dj F G) : Dj G F := fun k hg hf => h k hf hg
/-- What came out of one of them, or is new. -/
theorem Own.grow {F G G' : Nat → Prop} {P : World → Prop} {w : World} (h : Own F P w) (hd : Dj F G) (hG : ∀ k, G' k → G k ∨ w.heap.size ≤ k) : Dj F G' := fun k hf hg => by
  rcases hG k hg with h1 | h1
  · exact hd k hf h1
  · have := h.lt k hf; omega
theorem Own.of {F : Nat → Prop} {P : World → Prop} {w : World} (h : P w) (keep : ∀ w w' : World, P w → (∀ k, F k → w'.heap[k]? = w.heap[k]?) → P w') (lt : ∀ k, F k → k < w.heap.size) : Own F P w := ⟨h, keep, lt⟩
theorem Mod.wider {S T : Nat → Prop} {w w' : World} (h : Mod S w w') (hs : ∀ k, S k → T k) : Mod T w w' := ⟨h.os, h.tape, h.output, h.size, fun k hk hn => h.block k hk (fun hk2 => hn (hs k hk2))⟩
end Go.Proofs.YtfhdjekpdifajaaGreat
namespace Go.Proofs.YtfhdjekpdifajaaGreat
set_option linter.unusedVariables false
open Go.RowKit
/-- A sketch of the references. -/
structure RSAt (w : World) (s : Nat) (G : Gr) (C : Cfg) (lv : Int) (R W : Nat) (l : List Int) : Prop where
  ex : w.heap[s]? = some (.cells #[.int .i64 C.bits, .int .i64 C.rows, .int .i64 C.width, .int .i64 C.mode, .int .u64 C.seed, .int .i64 lv, .pointer (some ⟨G.g, 0, none⟩)] 158 (0, 0))
  g : RGAt w G R W l
  ok : C.Ok
  lo : 0 ≤ lv
  hi : lv ≤ C.bits
  hr : C.rows = R
  hw : C.width = W
  fit : ∀ x ∈ l, I64 x
def rsF (s : Nat) (G : Gr) (R : Nat) (k : Nat) : Prop := k = s ∨ G.foot R k
section
variable {w : World} {s : Nat} {G : Gr} {C : Cfg} {lv : Int} {R W : Nat} {l : List Int}
theorem RSAt.lts (h : RSAt w s G C lv R W l) : s < w.heap.size := lt_of h.ex
theorem RSAt.keep {w' : World} (h : RSAt w s G C lv R W l) (hk : ∀ k, rsF s G R k → w'.heap[k]? = w.heap[k]?) : RSAt w' s G C lv R W l :=
  ⟨by rw [hk s (.inl rfl)]; exact h.ex, h.g.keep fun k hg => hk k (.inr hg), h.ok, h.lo, h.hi, h.hr, h.hw, h.fit⟩
theorem RSAt.lt (h : RSAt w s G C lv R W l) {k : Nat} (hk : rsF s G R k) : k < w.heap.size := by
  rcases hk with rfl | hk
  · exact h.lts
  · exact h.g.lt hk
theorem RSAt.ext {w' : World} (h : RSAt w s G C lv R W l) (he : Ext w w') : RSAt w' s G C lv R W l := h.keep fun k hk => he.block k (h.lt hk)
theorem RSAt.mod {S : Nat → Prop} {w' : World} (h : RSAt w s G C lv R W l) (he : Mod S w w') (hn : ∀ k, rsF s G R k → ¬ S k) : RSAt w' s G C lv R W l := h.keep fun k hk => he.block k (h.lt hk) (hn k hk)
theorem RSAt.ns (h : RSAt w s G C lv R W l) : ¬ G.foot R s := by
  rintro (e | e | ⟨r, hr, e⟩)
  · obtain ⟨cap, h1, _⟩ := h.g.ex; exact blk_ne h.ex h1 (by decide) e
  · obtain ⟨cap, h1, _⟩ := h.g.row; exact blk_ne h.ex h1 (by decide) e
  · obtain ⟨cur, h1, _⟩ := h.g.cells r hr; exact blk_ne h.ex h1 (by decide) e
theorem RSAt.own (h : RSAt w s G C lv R W l) : Own (rsF s G R) (fun w => RSAt w s G C lv R W l) w := ⟨h, fun w w' h hk => h.keep hk, fun k hk => h.lt hk⟩
/-- Its cells are others. -/
theorem RSAt.putg {w' : World} {m : List Int} (h : RSAt w s G C lv R W l) (hg : RGAt w' G R W m) (hm : Mod (G.foot R) w w') (hi : ∀ x ∈ m, I64 x) : RSAt w' s G C lv R W m :=
  ⟨by rw [hm.block s h.lts h.ns]; exact h.ex, hg, h.ok, h.lo, h.hi, h.hr, h.hw, hi⟩
end
/-- An array of the references. -/
structure RXAt (w : World) (a m : Nat) (C : Cfg) (lv : Int) (K : Nat) (l : List Int) : Prop where
  ex : ∃ cap, w.heap[a]? = some (.cells #[.int .i64 C.bits, .int .i64 C.rows, .int .i64 C.width, .int .i64 C.mode, .int .u64 C.seed, .int .i64 lv, .slice (some ⟨m, 0, none⟩) K cap] 155 (0, 0)) ∧ K ≤ cap
  cells : ∃ cur, w.heap[m]? = some (.cells cur 2 (0, 0)) ∧ ∀ k, k < K → cur[k]? = some (.int .i64 (l.getD k 0))
  len : l.length = K
  k1 : 1 ≤ K
  k2 : K ≤ 128
  fit : ∀ x ∈ l, I64 x
def rxF (a m : Nat) (k : Nat) : Prop := k = a ∨ k = m
section
variable {w : World} {a m : Nat} {C : Cfg} {lv : Int} {K : Nat} {l : List Int}
theorem RXAt.lta (h : RXAt w a m C lv K l) : a < w.heap.size := by obtain ⟨cap, h1, _⟩ := h.ex; exact lt_of h1
theorem RXAt.ltm (h : RXAt w a m C lv K l) : m < w.heap.size := by obtain ⟨cur, h1, _⟩ := h.cells; exact lt_of h1
theorem RXAt.ne (h : RXAt w a m C lv K l) : a ≠ m := by
  obtain ⟨cap, h1, _⟩ := h.ex
  obtain ⟨cur, h2, _⟩ := h.cells
  exact blk_ne h1 h2 (by decide)
theorem RXAt.lt (h : RXAt w a m C lv K l) {k : Nat} (hk : rxF a m k) : k < w.heap.size := by
  rcases hk with rfl | rfl
  · exact h.lta
  · exact h.ltm
theorem RXAt.keep {w' : World} (h : RXAt w a m C lv K l) (hk : ∀ k, rxF a m k → w'.heap[k]? = w.heap[k]?) : RXAt w' a m C lv K l :=
  ⟨by rw [hk a (.inl rfl)]; exact h.ex, by rw [hk m (.inr rfl)]; exact h.cells, h.len, h.k1, h.k2, h.fit⟩
theorem RXAt.ext {w' : World} (h : RXAt w a m C lv K l) (he : Ext w w') : RXAt w' a m C lv K l := h.keep fun k hk => he.block k (h.lt hk)
theorem RXAt.cell (h : RXAt w a m C lv K l) {k : Nat} (hk : k < K) : w.cell? ⟨m, k, none⟩ = some (.int .i64 (l.getD k 0)) := by
  obtain ⟨cur, h1, h2⟩ := h.cells; rw [cell_of h1]; exact h2 k hk
theorem RXAt.frz (h : RXAt w a m C lv K l) (k : Nat) : w.frozen? ⟨m, k, none⟩ = false := by
  obtain ⟨cur, h1, h2⟩ := h.cells; exact frozen_of h1 k
theorem RXAt.ints {cap : Nat} (h : RXAt w a m C lv K l) : IntsAt w (.slice (some ⟨m, 0, none⟩) K cap) l :=
  .inr ⟨m, 0, cap, by rw [h.len], h.ltm, fun k hk => by rw [h.len] at hk; rw [Nat.zero_add]; exact h.cell hk⟩
theorem RXAt.set (h : RXAt w a m C lv K l) {k : Nat} (hk : k < K) {x : Int} (hx : I64 x) : RXAt (w.setCell ⟨m, k, none⟩ (.int .i64 x)) a m C lv K (l.set k x) := by
  refine ⟨by rw [setCell_other _ _ h.ne]; exact h.ex, ?_, by rw [List.length_set]; exact h.len, h.k1, h.k2, fun y hy => ?_⟩
  · obtain ⟨cur, h1, h2⟩ := h.cells
    refine ⟨_, setCell_same h1 _ _, fun j hj => ?_⟩
    by_cases ej : j = k
    · subst ej
      have hsz : j < cur.size := by
        have := h2 j hj
        rw [Array.getElem?_eq_some_iff] at this
        exact this.1
      rw [Array.getElem?_setIfInBounds_self_of_lt hsz, List.getD_eq_getElem?_getD, List.getElem?_set_self (by rw [h.len]; exact hk)]
      rfl
    · rw [Array.getElem?_setIfInBounds_ne (fun e => ej e.symm), h2 j hj, List.getD_eq_getElem?_getD, List.getD_eq_getElem?_getD, List.getElem?_set_ne (fun e => ej e.symm)]
  · rcases List.mem_or_eq_of_mem_set hy with h1 | rfl
    · exact h.fit y h1
    · exact hx
end
/-- Where a level of the references lies. -/
structure RLev where
  p : Nat
  a : Nat
  G : Gr
def RLvAt (w : World) (L : RLev) (C : Cfg) (lv : Int) (l : List Int) : Prop :=
  C.Ok ∧ 0 ≤ lv ∧ lv ≤ C.bits ∧
    ((isX C lv = true ∧ w.heap[L.p]? = some (.cells #[.pointer (some ⟨L.a, 0, none⟩), .pointer none] 153 (0, 0)) ∧ RXAt w L.a L.G.m C lv (kN C lv) l) ∨
     (isX C lv = false ∧ w.heap[L.p]? = some (.cells #[.pointer none, .pointer (some ⟨L.a, 0, none⟩)] 153 (0, 0)) ∧ RSAt w L.a L.G C lv (rN C) (wN C) l))
def RLev.foot (C : Cfg) (lv : Int) (L : RLev) (k : Nat) : Prop := k = L.p ∨ (isX C lv = true ∧ rxF L.a L.G.m k) ∨ (isX C lv = false ∧ rsF L.a L.G (rN C) k)
section
variable {w : World} {L : RLev} {C : Cfg} {lv : Int} {l : List Int}
theorem RLvAt.fit (h : RLvAt w L C lv l) : ∀ x ∈ l, I64 x := by
  obtain ⟨_, _, _, ⟨_, _, h⟩ | ⟨_, _, h⟩⟩ := h
  · exact h.fit
  · exact h.fit
theorem RLvAt.len (h : RLvAt w L C lv l) : l.length = lvN C lv := by
  obtain ⟨_, _, _, ⟨hx, _, h⟩ | ⟨hx, _, h⟩⟩ := h
  · unfold lvN; rw [hx]; exact h.len
  · unfold lvN; rw [hx]; exact h.g.len
theorem RLvAt.x (h : RLvAt w L C lv l) (hx : isX C lv = true) : w.heap[L.p]? = some (.cells #[.pointer (some ⟨L.a, 0, none⟩), .pointer none] 153 (0, 0)) ∧ RXAt w L.a L.G.m C lv (kN C lv) l := by
  obtain ⟨_, _, _, ⟨_, h1, h2⟩ | ⟨hy, _⟩⟩ := h
  · exact ⟨h1, h2⟩
  · rw [hx] at hy; cases hy
theorem RLvAt.sk (h : RLvAt w L C lv l) (hx : isX C lv = false) : w.heap[L.p]? = some (.cells #[.pointer none, .pointer (some ⟨L.a, 0, none⟩)] 153 (0, 0)) ∧ RSAt w L.a L.G C lv (rN C) (wN C) l := by
  obtain ⟨_, _, _, ⟨hy, _⟩ | ⟨_, h1, h2⟩⟩ := h
  · rw [hx] at hy; cases hy
  · exact ⟨h1, h2⟩
theorem RLvAt.lt (h : RLvAt w L C lv l) {k : Nat} (hk : L.foot C lv k) : k < w.heap.size := by
  rcases hk with rfl | ⟨hx, hk⟩ | ⟨hx, hk⟩
  · obtain ⟨_, _, _, ⟨_, h1, _⟩ | ⟨_, h1, _⟩⟩ := h <;> exact lt_of h1
  · exact (h.x hx).2.lt hk
  · exact (h.sk hx).2.lt hk
theorem RLvAt.keep {w' : World} (h : RLvAt w L C lv l) (hk : ∀ k, L.foot C lv k → w'.heap[k]? = w.heap[k]?) : RLvAt w' L C lv l := by
  obtain ⟨h1, h2, h3, ⟨hx, h4, h5⟩ | ⟨hx, h4, h5⟩⟩ := h
  · exact ⟨h1, h2, h3, .inl ⟨hx, by rw [hk _ (.inl rfl)]; exact h4, h5.keep fun k hg => hk k (.inr (.inl ⟨hx, hg⟩))⟩⟩
  · exact ⟨h1, h2, h3, .inr ⟨hx, by rw [hk _ (.inl rfl)]; exact h4, h5.keep fun k hg => hk k (.inr (.inr ⟨hx, hg⟩))⟩⟩
theorem RLvAt.ext {w' : World} (h : RLvAt w L C lv l) (he : Ext w w') : RLvAt w' L C lv l := h.keep fun k hk => he.block k (h.lt hk)
theorem RLvAt.mod {S : Nat → Prop} {w' : World} (h : RLvAt w L C lv l) (he : Mod S w w') (hn : ∀ k, L.foot C lv k → ¬ S k) : RLvAt w' L C lv l := h.keep fun k hk => he.block k (h.lt hk) (hn k hk)
theorem RLvAt.own (h : RLvAt w L C lv l) : Own (L.foot C lv) (fun w => RLvAt w L C lv l) w := ⟨h, fun w w' h hk => h.keep hk, fun k hk => h.lt hk⟩
end
/-- A stack of the references. -/
structure RKAt (w : World) (s t : Nat) (C : Cfg) (B : Nat) (L : Nat → RLev) (ls : Nat → List Int) : Prop where
  ex : ∃ cap, w.heap[s]? = some (.cells #[.int .i64 C.bits, .int .i64 C.rows, .int .i64 C.width, .int .i64 C.mode, .int .u64 C.seed, .slice (some ⟨t, 0, none⟩) (B + 1) cap] 48 (0, 0)) ∧ B + 1 ≤ cap
  row : ∃ cur, w.heap[t]? = some (.cells cur 45 (0, 0)) ∧ ∀ n, n ≤ B → cur[n]? = some (.pointer (some ⟨(L n).p, 0, none⟩))
  lev : ∀ n, n ≤ B → RLvAt w (L n) C n (ls n)
  sep : ∀ m n, m ≤ B → n ≤ B → m ≠ n → Dj ((L m).foot C m) ((L n).foot C n)
  ok : C.Ok
  hB : C.bits = B
def rkF (s t : Nat) (C : Cfg) (B : Nat) (L : Nat → RLev) (k : Nat) : Prop := k = s ∨ k = t ∨ ∃ n, n ≤ B ∧ (L n).foot C n k
section
variable {w : World} {s t : Nat} {C : Cfg} {B : Nat} {L : Nat → RLev} {ls : Nat → List Int}
theorem RKAt.lts (h : RKAt w s t C B L ls) : s < w.heap.size := by obtain ⟨cap, h1, _⟩ := h.ex; exact lt_of h1
theorem RKAt.ltt (h : RKAt w s t C B L ls) : t < w.heap.size := by obtain ⟨cap, h1, _⟩ := h.row; exact lt_of h1
theorem RKAt.lt (h : RKAt w s t C B L ls) {k : Nat} (hk : rkF s t C B L k) : k < w.heap.size := by
  rcases hk with rfl | rfl | ⟨n, hn, hk⟩
  · exact h.lts
  · exact h.ltt
  · exact (h.lev n hn).lt hk
theorem RKAt.keep {w' : World} (h : RKAt w s t C B L ls) (hk : ∀ k, rkF s t C B L k → w'.heap[k]? = w.heap[k]?) : RKAt w' s t C B L ls :=
  ⟨by rw [hk s (.inl rfl)]; exact h.ex, by rw [hk t (.inr (.inl rfl))]; exact h.row, fun n hn => (h.lev n hn).keep fun k hg => hk k (.inr (.inr ⟨n, hn, hg⟩)), h.sep, h.ok, h.hB⟩
theorem RKAt.ext {w' : World} (h : RKAt w s t C B L ls) (he : Ext w w') : RKAt w' s t C B L ls := h.keep fun k hk => he.block k (h.lt hk)
theorem RKAt.own (h : RKAt w s t C B L ls) : Own (rkF s t C B L) (fun w => RKAt w s t C B L ls) w := ⟨h, fun w w' h hk => h.keep hk, fun k hk => h.lt hk⟩
theorem RKAt.cell (h : RKAt w s t C B L ls) {n : Nat} (hn : n ≤ B) : w.cell? ⟨t, n, none⟩ = some (.pointer (some ⟨(L n).p, 0, none⟩)) := by
  obtain ⟨cur, h1, h2⟩ := h.row; rw [cell_of h1]; exact h2 n hn
end
end Go.Proofs.YtfhdjekpdifajaaGreat
namespace Go.Proofs.YtfhdjekpdifajaaGreat
set_option linter.unusedVariables false
open Go.RowKit
theorem own_empty (w : World) (e : TypeId) : (w.alloc (.cells #[] e)).ownsRow w.heap.size e 1 (.slice (some ⟨w.heap.size, 0, none⟩) 0 0) 0 [] :=
  ⟨rfl, .inr ⟨w.heap.size, 0, #[], rfl, Nat.le_refl _, heap_at _ _ rfl, Nat.le_refl _, Nat.zero_le _, rfl, rfl⟩⟩
theorem zs_succ (n : Nat) : zs (n + 1) = zs n ++ [0] := List.replicate_succ'
set_option maxRecDepth 20000 in
set_option maxHeartbeats 4000000 in
theorem RGNew_c (R W : Nat) (r1 : 1 ≤ R) (r2 : R ≤ 8) (w1 : 1 ≤ W) (w2 : W ≤ 128) (w : World) :
    Calls Tryz.prog 155 #[.int .i64 R, .int .i64 W] w fun e w' => ∃ G : Gr, e = .returned (.pointer (some ⟨G.g, 0, none⟩)) ∧ RGAt w' G R W (zs (R * W)) ∧ (∀ k, G.foot R k → w.heap.size ≤ k) ∧ Ext w w' := by
  go_enter Tryz.func155, Tryz.ntmps155
  go_wp2_with fail
  go_loopw [6] (fun u6 wr => ∃ (k : Nat) (G : Gr) (v : Value), k ≤ R ∧ u6 = .int .i64 k ∧ Ext w wr ∧ wr.heap[w.heap.size]? = some (.cells #[v] 161 (0, 0)) ∧ GMade wr (w.heap.size + 1) G W k v (fun _ _ => 0)) (fun u6 _ => R - (intOf u6).toNat)
  case atStart => exact ⟨0, ⟨0, 0, fun _ => 0, fun _ => 0⟩, _, Nat.zero_le _, rfl, Ext.alloc' _ _, heap_at _ _ rfl, GMade.zero _ _ _ _ _⟩
  case round =>
    obtain ⟨k, G, v, hk, rfl, hE, hb, hM⟩ := hrel
    rename World => wo
    have hbl := lt_of hb
    have hsz := hE.size
    have HB := Lib.hid hb
    have HM := Lib.hid hM
    clear hb hM
    by_cases hlt : k < R
    · have hk8 : (k : Int) < 8 := by omega
      have hk8b : decide ((k : Int) < 8) = true := by simp; omega
      go_wp2_with fail
      go_loopw [7, 8] (fun u7 u8 wr => ∃ j : Nat, j ≤ W ∧ u8 = .int .i64 j ∧ wr.ownsRow wo.heap.size 2 1 u7 (zs j).length (ints (zs j)) ∧ Ext wo wr) (fun _ u8 _ => W - (intOf u8).toNat)
      case atStart => exact ⟨0, Nat.zero_le _, rfl, own_empty _ _, Ext.alloc' _ _⟩
      case round =>
        obtain ⟨j, hj, rfl, hown, hx⟩ := hrel
        have hxs := hx.size
        by_cases hjl : j < W
        · have hj128 : (j : Int) < 128 := by omega
          have hj128b : decide ((j : Int) < 128) = true := by simp; omega
          go_wp2_with (at_builtin; refine wpList_app1 wr 0 (zs j) _ wo.heap.size 2 hown 43 rfl _ _ rfl info_i64 Tryz.underlying43 rfl rfl ?a1 ?a2 ?_)
          case a1 => rw [zs_len]; omega
          case a2 => exact hxs
          intro v' w' g1 g2 g3
          have hx' : Ext wo w' := ext_grown hx g2 (fun i hi => own_blk hown hi)
          rw [← zs_succ] at g1
          have G1 := Lib.hid g1
          clear g1 g2 g3 hown
          go_wp2
          go_roundw
          case rel => exact ⟨j + 1, by omega, by go_num, G1.out, hx'⟩
          case measure => simp [intOf]; omega
        · obtain rfl : j = W := by omega
          obtain ⟨z, cap, cur, hu, hcap, hz, hzc, hcur⟩ := own_row1 hown (by rw [zs_len]; omega)
          rw [zs_len] at hu hcap hcur
          subst hu
          have hbx := hx.keep HB.out
          have hMx := HM.out.ext hx
          have c0 := (cell_of hbx 0).trans rfl
          have lb := lt_of hbx
          obtain ⟨i0, z0, hi0, hz0, hz1, hz2, hz3⟩ := info_row
          have HC := Lib.hid (And.intro hcap (And.intro hz (And.intro hzc hcur)))
          have HBX := Lib.hid hbx
          have HMX := Lib.hid hMx
          clear hown hcap hz hzc hcur hbx hMx
          go_wp2_with (at_builtin; refine wpList_appB wr 24 (by decide) (.slice (some ⟨z, 0, none⟩) j cap) rfl ((List.range k).map (G.row j)) v (w.heap.size + 1) 43 HMX.out.row 159 rfl _ _ rfl i0 z0 hi0 hz0 hz1 hz2 hz3 Tryz.underlying159 rfl rfl ?b1 ?b2 ?_)
          case b1 => rw [List.length_map, List.length_range]; omega
          case b2 => omega
          intro v' w' g1 g2
          obtain ⟨q1, q2, q3, q4⟩ := HC.out
          have hnext := HMX.out.next q3 (fun i hi => by rw [q4 i hi, zs_get0]) q1 (fun r hr => HM.out.lt hr) (by omega) q2 (by rw [List.length_append, List.length_map, List.length_range]; exact g1) g2
          have hbw := (grown_old g2 lb (fun e => by have := own_blk HMX.out.row e.symm; omega)).trans HBX.out
          have hEw : Ext w w' := ext_grown (hE.trans' hx) g2 (fun i hi => by have := own_blk HMX.out.row hi; omega)
          have d0 := (cell_of hbw 0).trans rfl
          have f0 := frozen_of hbw 0
          have l0 := lt_of hbw
          obtain ⟨pv, nv, cv, rfl⟩ := own_slice g1
          have HN := Lib.hid hnext
          have HBW := Lib.hid hbw
          clear hnext hbw g1 g2 c0
          go_wp2
          go_roundw
          case rel => exact ⟨k + 1, _, _, by omega, by go_num, hEw.setR (p := ⟨w.heap.size, 0, none⟩) (Nat.le_refl _) _, (setCell_same HBW.out 0 _).trans rfl, HN.out.setc (by omega) _ _⟩
          case measure => simp [intOf]; omega
    · obtain rfl : k = R := by omega
      go_wp2
      go_ret
      obtain ⟨m, hm, hG⟩ := HM.out.grid (l := zs (k * W)) HB.out (zs_len _) (fun r c _ _ => (zs_get0 _ _).symm) r1 r2 w1 w2
      refine ⟨_, rfl, hG, ?_, hE⟩
      rintro i (rfl | rfl | ⟨r, hr, rfl⟩)
      · exact Nat.le_refl _
      · exact Nat.le_trans (Nat.le_succ _) hm
      · exact Nat.le_trans (Nat.le_succ _) (HM.out.new r hr)
theorem take_row {l : List Int} {R W k : Nat} (hl : l.length = R * W) (hk : k < R) : l.take ((k + 1) * W) = l.take (k * W) ++ rowL l W k := by
  have h1 : (k + 1) * W ≤ R * W := Nat.mul_le_mul_right W hk
  have e : (k + 1) * W = k * W + W := by rw [Nat.add_mul, Nat.one_mul]
  apply list_ext_getD
  · rw [List.length_append, List.length_take, List.length_take, rowL_len]; omega
  · intro i hi
    rw [List.length_take] at hi
    have g : ∀ n, i < n → (l.take n).getD i 0 = l.getD i 0 := fun n hn => by
      rw [List.getD_eq_getElem?_getD, List.getD_eq_getElem?_getD, List.getElem?_take_of_lt hn]
    rw [g _ (by omega)]
    by_cases h : i < k * W
    · rw [List.getD_eq_getElem?_getD (l := l.take (k * W) ++ rowL l W k), List.getElem?_append_left (by rw [List.length_take]; omega), ← List.getD_eq_getElem?_getD, g _ h]
    · have hlen : (l.take (k * W)).length = k * W := by rw [List.length_take]; omega
      rw [List.getD_eq_getElem?_getD (l := l.take (k * W) ++ rowL l W k), List.getElem?_append_right (by omega), ← List.getD_eq_getElem?_getD, hlen, rowL_get (by omega)]
      congr 1
      omega
set_option maxRecDepth 20000 in
set_option maxHeartbeats 4000000 in
theorem RGCells_c (G : Gr) (R W : Nat) (l : List Int) (w : World) (h : RGAt w G R W l) :
    Calls Tryz.prog 87 #[.pointer (some ⟨G.g, 0, none⟩)] w fun e w' => ∃ v, e = .returned v ∧ w'.ownsRow w.heap.size 2 1 v l.length (ints l) ∧ Ext w w' := by
  have HH := Lib.hid h
  clear h
  go_enter Tryz.func87, Tryz.ntmps87
  go_wp2_with fail
  go_loopw [3, 4] (fun u3 u4 wr => ∃ k : Nat, k ≤ R ∧ u4 = .int .i64 k ∧ wr.ownsRow w.heap.size 2 1 u3 (l.take (k * W)).length (ints (l.take (k * W))) ∧ Ext w wr) (fun _ u4 _ => R - (intOf u4).toNat)
  case atStart =>
    refine ⟨0, Nat.zero_le _, rfl, ?_, Ext.alloc' _ _⟩
    rw [Nat.zero_mul, List.take_zero]
    exact own_empty _ _
  case round =>
    obtain ⟨k, hk, rfl, hown, hE⟩ := hrel
    have hr := HH.out.ext hE
    have hr8 := hr.r2
    have hw128 := hr.w2
    obtain ⟨cap, cg, hcap⟩ := hr.cg
    have lg := hr.ltg
    by_cases hlt : k < R
    · have cm := hr.cm hlt
      have lm := hr.ltm
      have hints := hr.ints hlt
      have hrow := take_row hr.len hlt
      have hl2 : (l.take (k * W)).length ≤ 1024 := by
        rw [List.length_take]
        have : k * W ≤ 8 * 128 := Nat.mul_le_mul (by omega) hw128
        omega
      have HROW := Lib.hid hrow
      have HOWN := Lib.hid hown
      have hcr : ∀ j, j < W → wr.cell? ⟨G.r k, 0 + j, none⟩ = some (.int .i64 ((rowL l W k).getD j 0)) := fun j hj => by rw [Nat.zero_add, rowL_get hj]; exact hr.cr hlt hj
      have HCR := Lib.hid hcr
      have hlen := rowL_len l W k
      have HLEN := Lib.hid hlen
      generalize l.take (k * W) = pre at *
      generalize rowL l W k = row at *
      clear hrow hints hown hr hcr hlen
      go_wp2_with (at_builtin; refine wpList_appl wr row pre u3 w.heap.size 2 HOWN.out 43 rfl _ _ rfl info_i64 Tryz.underlying43 rfl (G.r k) 0 W (G.c k) rfl HLEN.out.symm HCR.out ?a1 ?a2 ?_)
      case a1 => omega
      case a2 => exact hE.size
      intro v' w' g1 g2 g3
      have hx' : Ext w w' := ext_grown0 hE g2 (fun i hi => own_blk HOWN.out hi)
      have G1 := Lib.hid g1
      obtain ⟨p1, n1, c1, rfl⟩ := own_slice g1
      clear g1 g2 g3
      go_wp2
      go_roundw
      case rel => exact ⟨k + 1, by omega, by go_num, by rw [HROW.out, List.length_append]; exact G1.out, hx'⟩
      case measure => simp [intOf]; omega
    · obtain rfl : k = R := by omega
      rw [List.take_of_length_le (by rw [hr.len]; exact Nat.le_refl _)] at hown
      have HOWN := Lib.hid hown
      obtain ⟨p1, n1, c1, rfl⟩ := own_slice hown
      clear hown hr
      go_wp2
      go_ret
      exact ⟨_, rfl, HOWN.out, hE⟩
end Go.Proofs.YtfhdjekpdifajaaGreat
namespace Go.Proofs.YtfhdjekpdifajaaGreat
set_option linter.unusedVariables false
open Go.RowKit
theorem mul_abs {a b A B : Int} (ha : -A ≤ a ∧ a ≤ A) (hb : -B ≤ b ∧ b ≤ B) : -(A * B) ≤ a * b ∧ a * b ≤ A * B := by
  have h1 : 0 ≤ (A - a) * (B + b) := Int.mul_nonneg (by omega) (by omega)
  have h2 : 0 ≤ (A + a) * (B - b) := Int.mul_nonneg (by omega) (by omega)
  have h3 : 0 ≤ (A - a) * (B - b) := Int.mul_nonneg (by omega) (by omega)
  have h4 : 0 ≤ (A + a) * (B + b) := Int.mul_nonneg (by omega) (by omega)
  simp only [Int.mul_add, Int.add_mul, Int.sub_mul, Int.mul_sub] at h1 h2 h3 h4
  omega
theorem mul_w {a b : Int} (ha : I64 a) (hb : I64 b) : W128 (a * b) := by
  unfold I64 at ha hb
  have := mul_abs (A := 9223372036854775808) (B := 9223372036854775808) (a := a) (b := b) (by omega) (by omega)
  unfold W128; omega
def uu (a : Int) : Int := a % 18446744073709551616
theorem uu_u (a : Int) : U64 (uu a) := by unfold uu U64; omega
def tmH (a b : Int) (b1 b2 : Bool) : Int :=
  let p := uu a * uu b / 18446744073709551616
  let q := bif b1 then IntKind.u64.wrap (p - uu b) else p
  wrap64 (bif b2 then IntKind.u64.wrap (q - uu a) else q)
theorem tm_hi {a b : Int} (ha : I64 a) (hb : I64 b) {b1 b2 : Bool} (d1 : decide (a < 0) = b1) (d2 : decide (b < 0) = b2) : tmH a b b1 b2 = hi (a * b) := by
  have hw := mul_abs (A := 9223372036854775808) (B := 9223372036854775808) (a := a) (b := b) (by unfold I64 at ha; omega) (by unfold I64 at hb; omega)
  have e2 : (a + 18446744073709551616) * b = a * b + 18446744073709551616 * b := Int.add_mul _ _ _
  have e3 : a * (b + 18446744073709551616) = a * b + a * 18446744073709551616 := Int.mul_add _ _ _
  have e4 : (a + 18446744073709551616) * (b + 18446744073709551616) = a * b + a * 18446744073709551616 + (18446744073709551616 * b + 18446744073709551616 * 18446744073709551616) := by
    rw [Int.add_mul, Int.mul_add, Int.mul_add]
  have ua0 : ¬ a < 0 → uu a = a := fun h => by unfold uu; unfold I64 at ha; omega
  have ua1 : a < 0 → uu a = a + 18446744073709551616 := fun h => by unfold uu; unfold I64 at ha; omega
  have ub0 : ¬ b < 0 → uu b = b := fun h => by unfold uu; unfold I64 at hb; omega
  have ub1 : b < 0 → uu b = b + 18446744073709551616 := fun h => by unfold uu; unfold I64 at hb; omega
  subst d1 d2
  unfold tmH hi wrap64
  simp only [IntKind.wrap_u64]
  unfold I64 at ha hb
  by_cases h1 : a < 0 <;> by_cases h2 : b < 0
  · rw [ua1 h1, ub1 h2, e4]; simp only [h1, h2, decide_true, cond_true]; generalize a * b = t at *; omega
  · rw [ua1 h1, ub0 h2, e2]; simp only [h1, h2, decide_true, decide_false, cond_true, cond_false]; generalize a * b = t at *; omega
  · rw [ua0 h1, ub1 h2, e3]; simp only [h1, h2, decide_true, decide_false, cond_true, cond_false]; generalize a * b = t at *; omega
  · rw [ua0 h1, ub0 h2]; simp only [h1, h2, decide_false, cond_false]; generalize a * b = t at *; omega
theorem tm_lo (a b : Int) : uu a * uu b % 18446744073709551616 = lo (a * b) := by
  unfold uu lo
  rw [← Int.mul_emod]
theorem u64_wrap (a : Int) : IntKind.u64.wrap a = uu a := by rw [IntKind.wrap_u64]; rfl
set_option maxHeartbeats 1000000 in
theorem Times_core (a b : Int) (b1 b2 : Bool) (d1 : decide (a < 0) = b1) (d2 : decide (b < 0) = b2) (w : World) :
    Calls Tryz.prog 173 #[.int .i64 a, .int .i64 b] w fun e w' => e = .returned (.agg #[.int .i64 (tmH a b b1 b2), .int .u64 (uu a * uu b % 18446744073709551616)]) ∧ Ext w w' := by
  have e1 := u64_wrap a
  have e2 := u64_wrap b
  cases b1 <;> cases b2
  all_goals
    go_enter Tryz.func173, Tryz.ntmps173
    go_wp2_with (go_at_call 202; refine (mul64 _ _ (uu_u a) (uu_u b) _).mono ?_; rintro e w' ⟨rfl, rfl⟩)
    exact bodyPost_ret (v := .agg #[.int .i64 (tmH a b _ _), .int .u64 (uu a * uu b % 18446744073709551616)]) (by simp [results, Tryz.results173, go_sem, tmH]) rfl ⟨rfl, by (repeat' (first | exact Ext.refl _ | assumption | apply Ext.allocR | apply Ext.drewR | apply Ext.drewNR | (refine Ext.trans' ?_ (by assumption))))⟩
theorem Times_c (a b : Int) (ha : I64 a) (hb : I64 b) (w : World) :
    Calls Tryz.prog 173 #[.int .i64 a, .int .i64 b] w fun e w' => e = .returned (.agg #[.int .i64 (hi (a * b)), .int .u64 (lo (a * b))]) ∧ Ext w w' := by
  have := Times_core a b _ _ rfl rfl w
  rwa [tm_hi ha hb rfl rfl, tm_lo] at this
theorem less_bool (x y : Int) : (decide (hi x < hi y) || ((hi x == hi y) && decide (lo x < lo y))) = decide (x < y) := by
  have hx := hilo x
  have hy := hilo y
  have lx := lo_u x
  have ly := lo_u y
  unfold U64 at lx ly
  rw [Bool.eq_iff_iff]
  simp only [Bool.or_eq_true, Bool.and_eq_true, decide_eq_true_eq, beq_iff_eq]
  omega
set_option maxHeartbeats 1000000 in
theorem Less_core (x y : Int) (b1 b2 b3 : Bool) (d1 : decide (hi x < hi y) = b1) (d2 : (hi x == hi y) = b2) (d3 : decide (lo x < lo y) = b3) (w : World) :
    Calls Tryz.prog 171 #[.agg #[.int .i64 (hi x), .int .u64 (lo x)], .agg #[.int .i64 (hi y), .int .u64 (lo y)]] w fun e w' => e = .returned (.bool (b1 || (b2 && b3))) ∧ Ext w w' := by
  cases b1 <;> cases b2 <;> cases b3
  all_goals
    go_enter Tryz.func171, Tryz.ntmps171
    go_wp2
    go_ret
    exact ⟨rfl, by (repeat' (first | exact Ext.refl _ | assumption | apply Ext.allocR | apply Ext.drewR | apply Ext.drewNR | (refine Ext.trans' ?_ (by assumption))))⟩
theorem Less_c (x y : Int) (w : World) :
    Calls Tryz.prog 171 #[.agg #[.int .i64 (hi x), .int .u64 (lo x)], .agg #[.int .i64 (hi y), .int .u64 (lo y)]] w fun e w' => e = .returned (.bool (decide (x < y))) ∧ Ext w w' := by
  have := Less_core x y _ _ _ rfl rfl rfl w
  rwa [less_bool] at this
end Go.Proofs.YtfhdjekpdifajaaGreat
namespace Go.Proofs.YtfhdjekpdifajaaGreat
set_option linter.unusedVariables false
open Go.RowKit
theorem and_16 (x : Int) (h0 : 0 ≤ x) (h1 : x < 18446744073709551616) : bits BinOp.and IntKind.u64 x 65535 = x % 65536 := and_mask x 16 (by decide) h0 h1
theorem w16 (x : Int) : wrap64 (x % 65536) = x % 65536 := by unfold wrap64; omega
theorem wa16 (x : Int) (h : U64 x) : wrap64 (bits BinOp.and IntKind.u64 x 65535) = x % 65536 := by rw [and_16 x h.1 h.2, w16]
/-- A number's digit to base 65536. -/
def dg (x : Int) (i : Nat) : Int := x / (65536 ^ i : Int) % 65536
theorem dg_bd (x : Int) (i : Nat) : 0 ≤ dg x i ∧ dg x i ≤ 65535 := by unfold dg; omega
theorem dg0 (x : Int) : dg x 0 = x % 65536 := by unfold dg; rw [show (65536 : Int) ^ 0 = 1 from rfl]; omega
theorem dg1 (x : Int) : dg x 1 = x / 65536 % 65536 := rfl
theorem dg2 (x : Int) : dg x 2 = x / 4294967296 % 65536 := rfl
theorem dg3 (x : Int) : dg x 3 = x / 281474976710656 % 65536 := rfl
theorem dg4 (x : Int) : dg x 4 = x / 18446744073709551616 % 65536 := rfl
theorem dg5 (x : Int) : dg x 5 = x / 1208925819614629174706176 % 65536 := rfl
theorem dg6 (x : Int) : dg x 6 = x / 79228162514264337593543950336 % 65536 := rfl
theorem dg7 (x : Int) : dg x 7 = x / 5192296858534827628530496329220096 % 65536 := rfl
theorem dg8 (x : Int) : dg x 8 = x / 340282366920938463463374607431768211456 % 65536 := rfl
theorem dg9 (x : Int) : dg x 9 = x / 22300745198530623141535718272648361505980416 % 65536 := rfl
def longA (d : Nat → Int) : Value := .agg #[.int .i64 (d 0), .int .i64 (d 1), .int .i64 (d 2), .int .i64 (d 3), .int .i64 (d 4), .int .i64 (d 5), .int .i64 (d 6), .int .i64 (d 7), .int .i64 (d 8), .int .i64 (d 9)]
def longV (x : Int) : Value := longA (dg x)
theorem hid_lo (x : Int) : lo x % 65536 = dg x 0 ∧ lo x / 65536 % 65536 = dg x 1 ∧ lo x / 4294967296 % 65536 = dg x 2 ∧ lo x / 281474976710656 % 65536 = dg x 3 := by
  rw [dg0, dg1, dg2, dg3]; unfold lo
  refine ⟨?_, ?_, ?_, ?_⟩ <;> omega
theorem hid_hi (x : Int) : uu (hi x) % 65536 = dg x 4 ∧ uu (hi x) / 65536 % 65536 = dg x 5 ∧ uu (hi x) / 4294967296 % 65536 = dg x 6 ∧ uu (hi x) / 281474976710656 % 65536 = dg x 7 := by
  rw [dg4, dg5, dg6, dg7]; unfold uu hi
  refine ⟨?_, ?_, ?_, ?_⟩ <;> omega
theorem hid_top (x : Int) (h : W128 x) : dg x 8 = (bif decide (hi x < 0) then 65535 else 0) ∧ dg x 9 = (bif decide (hi x < 0) then 65535 else 0) := by
  rw [dg8, dg9]
  simp only [hi_neg]
  unfold W128 at h
  by_cases hx : x < 0 <;> simp only [hx, decide_true, decide_false, cond_true, cond_false] <;> omega
theorem div_u {x k : Int} (h : U64 x) (hk : 1 ≤ k) : U64 (x / k) := by
  refine ⟨Int.ediv_nonneg h.1 (by omega), ?_⟩
  have := Int.ediv_le_self k h.1
  have := h.2
  omega
set_option maxRecDepth 20000 in
set_option maxHeartbeats 4000000 in
theorem Of_core (x : Int) (b : Bool) (hb : decide (hi x < 0) = b) (h8 : dg x 8 = (bif b then 65535 else 0)) (h9 : dg x 9 = (bif b then 65535 else 0)) (w : World) :
    Calls Tryz.prog 176 #[.agg #[.int .i64 (hi x), .int .u64 (lo x)]] w fun e w' => e = .returned (longV x) ∧ Ext w w' := by
  have hl := lo_u x
  have hh := uu_u (hi x)
  obtain ⟨x1, x2⟩ := hl
  obtain ⟨y1, y2⟩ := hh
  have e1 := u64_wrap (hi x)
  obtain ⟨l0, l1, l2, l3⟩ := hid_lo x
  obtain ⟨g0, g1, g2, g3⟩ := hid_hi x
  have a0 := (wa16 (lo x) (lo_u x)).trans l0
  have a1 := (wa16 (lo x / 65536) (div_u (lo_u x) (by decide))).trans l1
  have a2 := (wa16 (lo x / 4294967296) (div_u (lo_u x) (by decide))).trans l2
  have a3 := (wa16 (lo x / 281474976710656) (div_u (lo_u x) (by decide))).trans l3
  have a4 := (wa16 (uu (hi x)) (uu_u _)).trans g0
  have a5 := (wa16 (uu (hi x) / 65536) (div_u (uu_u _) (by decide))).trans g1
  have a6 := (wa16 (uu (hi x) / 4294967296) (div_u (uu_u _) (by decide))).trans g2
  have a7 := (wa16 (uu (hi x) / 281474976710656) (div_u (uu_u _) (by decide))).trans g3
  have H8 := Lib.hid h8
  have H9 := Lib.hid h9
  clear h8 h9 l0 l1 l2 l3 g0 g1 g2 g3
  go_enter Tryz.func176, Tryz.ntmps176
  go_wp2
  refine wp_loop_rounds 5 ?_
  rw [rounds_succ]
  go_wp2_with fail
  rw [rounds_succ]
  go_wp2_with fail
  rw [rounds_succ]
  go_wp2_with fail
  rw [rounds_succ]
  go_wp2_with fail
  rw [rounds_succ]
  cases b
  all_goals
    go_wp2_with fail
    refine bodyPost_ret (v := longV x) ?_ rfl ⟨rfl, by (repeat' (first | exact Ext.refl _ | assumption | apply Ext.allocR | apply Ext.drewR | apply Ext.drewNR | (refine Ext.trans' ?_ (by assumption))))⟩
    unfold longV longA
    rw [H8.out, H9.out]
    simp [results, Tryz.results176, go_sem]
theorem LOf_c (x : Int) (h : W128 x) (w : World) :
    Calls Tryz.prog 176 #[.agg #[.int .i64 (hi x), .int .u64 (lo x)]] w fun e w' => e = .returned (longV x) ∧ Ext w w' :=
  Of_core x _ rfl (hid_top x h).1 (hid_top x h).2 w
set_option maxHeartbeats 1000000 in
theorem Below_c (d : Nat → Int) (h0 : 0 ≤ d 9) (h1 : d 9 ≤ 65535) (w : World) :
    Calls Tryz.prog 175 #[longA d] w fun e w' => e = .returned (.bool (decide (32768 ≤ d 9))) ∧ Ext w w' := by
  unfold longA
  go_enter Tryz.func175, Tryz.ntmps175
  go_wp2
  go_ret
  exact ⟨rfl, by (repeat' (first | exact Ext.refl _ | assumption | apply Ext.allocR | apply Ext.drewR | apply Ext.drewNR | (refine Ext.trans' ?_ (by assumption))))⟩
end Go.Proofs.YtfhdjekpdifajaaGreat
namespace Go.Proofs.YtfhdjekpdifajaaGreat
set_option linter.unusedVariables false
open Go.RowKit
theorem uu_dg (n : Int) : uu n % 65536 = dg n 0 ∧ uu n / 65536 % 65536 = dg n 1 ∧ uu n / 4294967296 % 65536 = dg n 2 ∧ uu n / 281474976710656 % 65536 = dg n 3 := hid_lo n
theorem hi_dg (n : Int) (h : I64 n) : ∀ i, 4 ≤ i → i < 10 → dg n i = (bif decide (n < 0) then 65535 else 0) := by
  intro i h1 h2
  unfold I64 at h
  have hc : i = 4 ∨ i = 5 ∨ i = 6 ∨ i = 7 ∨ i = 8 ∨ i = 9 := by omega
  by_cases hx : n < 0 <;> simp only [hx, decide_true, decide_false, cond_true, cond_false] <;> rcases hc with rfl | rfl | rfl | rfl | rfl | rfl
  all_goals first | rw [dg4] | rw [dg5] | rw [dg6] | rw [dg7] | rw [dg8] | rw [dg9]
  all_goals omega
set_option maxRecDepth 20000 in
set_option maxHeartbeats 4000000 in
theorem OfInt_core (n : Int) (b : Bool) (hb : decide (n < 0) = b) (hd : ∀ i, 4 ≤ i → i < 10 → dg n i = (bif b then 65535 else 0)) (w : World) :
    Calls Tryz.prog 152 #[.int .i64 n] w fun e w' => e = .returned (longV n) ∧ Ext w w' := by
  obtain ⟨y1, y2⟩ := uu_u n
  have e1 := u64_wrap n
  obtain ⟨g0, g1, g2, g3⟩ := uu_dg n
  have a4 := (wa16 (uu n) (uu_u _)).trans g0
  have a5 := (wa16 (uu n / 65536) (div_u (uu_u _) (by decide))).trans g1
  have a6 := (wa16 (uu n / 4294967296) (div_u (uu_u _) (by decide))).trans g2
  have a7 := (wa16 (uu n / 281474976710656) (div_u (uu_u _) (by decide))).trans g3
  have HD := Lib.hid hd
  clear hd g0 g1 g2 g3
  cases b
  all_goals
    go_enter Tryz.func152, Tryz.ntmps152
    go_wp2
    refine wp_loop_rounds 11 ?_
    iterate 10
      rw [rounds_succ]
      go_wp2_with fail
    rw [rounds_succ]
    go_wp2_with fail
    refine bodyPost_ret (v := longV n) ?_ rfl ⟨rfl, by (repeat' (first | exact Ext.refl _ | assumption | apply Ext.allocR | apply Ext.drewR | apply Ext.drewNR | (refine Ext.trans' ?_ (by assumption))))⟩
    unfold longV longA
    rw [HD.out 4 (by decide) (by decide), HD.out 5 (by decide) (by decide), HD.out 6 (by decide) (by decide), HD.out 7 (by decide) (by decide), HD.out 8 (by decide) (by decide), HD.out 9 (by decide) (by decide)]
    simp [results, Tryz.results152, go_sem]
theorem OfInt_c (n : Int) (h : I64 n) (w : World) :
    Calls Tryz.prog 152 #[.int .i64 n] w fun e w' => e = .returned (longV n) ∧ Ext w w' := OfInt_core n _ rfl (hi_dg n h) w
end Go.Proofs.YtfhdjekpdifajaaGreat
namespace Go.Proofs.YtfhdjekpdifajaaGreat
set_option linter.unusedVariables false
open Go.RowKit
theorem fill10 (s : Nat → Int) : fillA s 10 10 = #[.int .i64 (s 0), .int .i64 (s 1), .int .i64 (s 2), .int .i64 (s 3), .int .i64 (s 4), .int .i64 (s 5), .int .i64 (s 6), .int .i64 (s 7), .int .i64 (s 8), .int .i64 (s 9)] := by
  apply Array.ext
  · simp [fillA]
  · intro i h1 h2
    have hi : i < 10 := by simpa [fillA] using h1
    have hc : i = 0 ∨ i = 1 ∨ i = 2 ∨ i = 3 ∨ i = 4 ∨ i = 5 ∨ i = 6 ∨ i = 7 ∨ i = 8 ∨ i = 9 := by omega
    rcases hc with rfl | rfl | rfl | rfl | rfl | rfl | rfl | rfl | rfl | rfl <;> simp [fillA]
set_option maxRecDepth 20000 in
set_option maxHeartbeats 8000000 in
theorem Plus_core (a b s c : Nat → Int) (ha : ∀ i, i < 10 → 0 ≤ a i ∧ a i ≤ 65535) (hb : ∀ i, i < 10 → 0 ≤ b i ∧ b i ≤ 65535) (hc : ∀ i, i < 10 → 0 ≤ c i ∧ c i ≤ 1) (h0 : c 0 = 0)
    (hs : ∀ i, i < 10 → (a i + b i + c i) % 65536 = s i) (hn : ∀ i, i < 10 → (a i + b i + c i) / 65536 = c (i + 1)) (w : World) :
    Calls Tryz.prog 151 #[longA a, longA b] w fun e w' => e = .returned (longA s) ∧ Ext w w' := by
  obtain ⟨a0l, a0h⟩ := ha 0 (by decide)
  obtain ⟨b0l, b0h⟩ := hb 0 (by decide)
  obtain ⟨c0l, c0h⟩ := hc 0 (by decide)
  have s0 := hs 0 (by decide)
  have n0 := hn 0 (by decide)
  obtain ⟨a1l, a1h⟩ := ha 1 (by decide)
  obtain ⟨b1l, b1h⟩ := hb 1 (by decide)
  obtain ⟨c1l, c1h⟩ := hc 1 (by decide)
  have s1 := hs 1 (by decide)
  have n1 := hn 1 (by decide)
  obtain ⟨a2l, a2h⟩ := ha 2 (by decide)
  obtain ⟨b2l, b2h⟩ := hb 2 (by decide)
  obtain ⟨c2l, c2h⟩ := hc 2 (by decide)
  have s2 := hs 2 (by decide)
  have n2 := hn 2 (by decide)
  obtain ⟨a3l, a3h⟩ := ha 3 (by decide)
  obtain ⟨b3l, b3h⟩ := hb 3 (by decide)
  obtain ⟨c3l, c3h⟩ := hc 3 (by decide)
  have s3 := hs 3 (by decide)
  have n3 := hn 3 (by decide)
  obtain ⟨a4l, a4h⟩ := ha 4 (by decide)
  obtain ⟨b4l, b4h⟩ := hb 4 (by decide)
  obtain ⟨c4l, c4h⟩ := hc 4 (by decide)
  have s4 := hs 4 (by decide)
  have n4 := hn 4 (by decide)
  obtain ⟨a5l, a5h⟩ := ha 5 (by decide)
  obtain ⟨b5l, b5h⟩ := hb 5 (by decide)
  obtain ⟨c5l, c5h⟩ := hc 5 (by decide)
  have s5 := hs 5 (by decide)
  have n5 := hn 5 (by decide)
  obtain ⟨a6l, a6h⟩ := ha 6 (by decide)
  obtain ⟨b6l, b6h⟩ := hb 6 (by decide)
  obtain ⟨c6l, c6h⟩ := hc 6 (by decide)
  have s6 := hs 6 (by decide)
  have n6 := hn 6 (by decide)
  obtain ⟨a7l, a7h⟩ := ha 7 (by decide)
  obtain ⟨b7l, b7h⟩ := hb 7 (by decide)
  obtain ⟨c7l, c7h⟩ := hc 7 (by decide)
  have s7 := hs 7 (by decide)
  have n7 := hn 7 (by decide)
  obtain ⟨a8l, a8h⟩ := ha 8 (by decide)
  obtain ⟨b8l, b8h⟩ := hb 8 (by decide)
  obtain ⟨c8l, c8h⟩ := hc 8 (by decide)
  have s8 := hs 8 (by decide)
  have n8 := hn 8 (by decide)
  obtain ⟨a9l, a9h⟩ := ha 9 (by decide)
  obtain ⟨b9l, b9h⟩ := hb 9 (by decide)
  obtain ⟨c9l, c9h⟩ := hc 9 (by decide)
  have s9 := hs 9 (by decide)
  have n9 := hn 9 (by decide)
  rw [h0, Int.add_zero] at s0 n0
  simp only [Nat.reduceAdd] at n0 n1 n2 n3 n4 n5 n6 n7 n8 n9
  unfold longA
  clear ha hb hc hs hn h0 c0l c0h
  generalize a 0 = A0 at *
  generalize b 0 = B0 at *
  generalize s 0 = S0 at *
  generalize a 1 = A1 at *
  generalize b 1 = B1 at *
  generalize s 1 = S1 at *
  generalize a 2 = A2 at *
  generalize b 2 = B2 at *
  generalize s 2 = S2 at *
  generalize a 3 = A3 at *
  generalize b 3 = B3 at *
  generalize s 3 = S3 at *
  generalize a 4 = A4 at *
  generalize b 4 = B4 at *
  generalize s 4 = S4 at *
  generalize a 5 = A5 at *
  generalize b 5 = B5 at *
  generalize s 5 = S5 at *
  generalize a 6 = A6 at *
  generalize b 6 = B6 at *
  generalize s 6 = S6 at *
  generalize a 7 = A7 at *
  generalize b 7 = B7 at *
  generalize s 7 = S7 at *
  generalize a 8 = A8 at *
  generalize b 8 = B8 at *
  generalize s 8 = S8 at *
  generalize a 9 = A9 at *
  generalize b 9 = B9 at *
  generalize s 9 = S9 at *
  generalize c 1 = C1 at *
  generalize c 2 = C2 at *
  generalize c 3 = C3 at *
  generalize c 4 = C4 at *
  generalize c 5 = C5 at *
  generalize c 6 = C6 at *
  generalize c 7 = C7 at *
  generalize c 8 = C8 at *
  generalize c 9 = C9 at *
  generalize c 10 = C10 at *
  go_enter Tryz.func151, Tryz.ntmps151
  go_wp2_with fail
  refine wp_loop_rounds 11 ?_
  iterate 10
    rw [rounds_succ]
    go_wp2_with fail
    go_region
    go_wp2_with fail
  rw [rounds_succ]
  go_wp2_with fail
  refine bodyPost_ret (v := .agg #[.int .i64 S0, .int .i64 S1, .int .i64 S2, .int .i64 S3, .int .i64 S4, .int .i64 S5, .int .i64 S6, .int .i64 S7, .int .i64 S8, .int .i64 S9]) ?_ rfl ⟨rfl, by (repeat' (first | exact Ext.refl _ | assumption | apply Ext.allocR | apply Ext.drewR | apply Ext.drewNR | (refine Ext.trans' ?_ (by assumption))))⟩
  simp [results, Tryz.results151, go_sem]
/-- The carry of a sum. -/
def cr (x y : Int) (i : Nat) : Int := (x % (65536 ^ i : Int) + y % (65536 ^ i : Int)) / (65536 ^ i : Int)
theorem pw_pos (i : Nat) : 0 < (65536 ^ i : Int) := Int.pow_pos (by decide)
theorem cr_bd (x y : Int) (i : Nat) : 0 ≤ cr x y i ∧ cr x y i ≤ 1 := by
  have hp := pw_pos i
  unfold cr
  generalize (65536 ^ i : Int) = M at *
  have h1 := Int.emod_nonneg x (show M ≠ 0 by omega)
  have h2 := Int.emod_lt_of_pos x hp
  have h3 := Int.emod_nonneg y (show M ≠ 0 by omega)
  have h4 := Int.emod_lt_of_pos y hp
  refine ⟨Int.ediv_nonneg (by omega) (by omega), ?_⟩
  have : (x % M + y % M) / M < 2 := Int.ediv_lt_of_lt_mul hp (by omega)
  omega
theorem mod_mul' (x M : Int) (hM : 0 < M) : x % (M * 65536) = x % M + M * (x / M % 65536) := by
  have h1 := Int.emod_add_mul_ediv x M
  have h2 := Int.emod_add_mul_ediv (x / M) 65536
  have h3 : x / M / 65536 = x / (M * 65536) := by rw [Int.ediv_ediv_of_nonneg (by omega)]
  have h4 := Int.emod_add_mul_ediv x (M * 65536)
  rw [← h3] at h4
  have h5 : M * 65536 * (x / M / 65536) = M * (65536 * (x / M / 65536)) := Int.mul_assoc _ _ _
  have h6 : M * (x / M) = M * (x / M % 65536) + M * (65536 * (x / M / 65536)) := by rw [← Int.mul_add, h2]
  omega
theorem plus_step (x y : Int) (i : Nat) : (dg x i + dg y i + cr x y i) % 65536 = dg (x + y) i ∧ (dg x i + dg y i + cr x y i) / 65536 = cr x y (i + 1) := by
  have hp := pw_pos i
  unfold dg cr
  rw [Int.pow_succ]
  generalize (65536 ^ i : Int) = M at *
  rw [mod_mul' x M hp, mod_mul' y M hp]
  have ex := Int.emod_add_mul_ediv x M
  have ey := Int.emod_add_mul_ediv y M
  have hd : x + y = (x % M + y % M) + M * (x / M + y / M) := by rw [Int.mul_add]; omega
  constructor
  · rw [hd, Int.add_mul_ediv_left _ _ (show M ≠ 0 by omega)]
    generalize (x % M + y % M) / M = c
    omega
  · have e1 : x % M + M * (x / M % 65536) + (y % M + M * (y / M % 65536)) = (x % M + y % M) + M * (x / M % 65536 + y / M % 65536) := by rw [Int.mul_add]; omega
    rw [e1, ← Int.ediv_ediv_of_nonneg (by omega), Int.add_mul_ediv_left _ _ (show M ≠ 0 by omega)]
    congr 1
    omega
theorem cr0 (x y : Int) : cr x y 0 = 0 := by
  unfold cr
  rw [show ((65536 : Int) ^ 0) = 1 from rfl]
  omega
theorem LPlus_c (x y : Int) (w : World) : Calls Tryz.prog 151 #[longV x, longV y] w fun e w' => e = .returned (longV (x + y)) ∧ Ext w w' :=
  Plus_core (dg x) (dg y) (dg (x + y)) (cr x y) (fun i _ => dg_bd x i) (fun i _ => dg_bd y i) (fun i _ => cr_bd x y i) (cr0 x y) (fun i _ => (plus_step x y i).1) (fun i _ => (plus_step x y i).2) w
end Go.Proofs.YtfhdjekpdifajaaGreat
