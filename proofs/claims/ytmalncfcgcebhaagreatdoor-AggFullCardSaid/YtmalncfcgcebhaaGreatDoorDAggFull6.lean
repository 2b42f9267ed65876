/- Part. No condition. -/
import Derived.Test.YtmalncfcgcebhaaGreatDoorDAggFull3
import Derived.Test.YtmalncfcgcebhaaGreatDoorDAggFull5
import Derived.Test.YtmalncfcgcebhaaGreatDoorDAggFull1
import Derived.Test.YtmalncfcgcebhaaGreatDoorDAggFull2
import Derived.Test.YtmalncfcgcebhaaGreatDoorDAggFull4
import Derived.Laws.MakeOwn
import Derived.Laws.CopyOwn
import Derived.Lib.ItoaLen
import Derived.Carry
import Derived.Shelf.Strings.BuilderK
namespace Go.Proofs.YtmalncfcgcebhaaGreatDoor
set_option linter.unusedVariables false
open Go.RowKit
attribute [local go_sem] Oper.semAt_some
def KUpdPost (w : World) (s g : Nat) (C : Cfg) (B : Nat) (L : Nat → Lev) (ls : Nat → List Int) (key d : Int) (e : Ending) (w' : World) : Prop :=
  e = .returned (.int .i64 (errK C B ls key d)) ∧ KAt w' s g C B L (bif decide (errK C B ls key d = 0) then updK C ls key d else ls) ∧ Mod (cellsOf B L) w w'
set_option maxRecDepth 100000 in
set_option maxHeartbeats 4000000 in
theorem KUpdate_c (s g : Nat) (C : Cfg) (B : Nat) (L : Nat → Lev) (ls : Nat → List Int) (key d : Int) (w : World) (h : KAt w s g C B L ls) (hd : I64 d) (hk : U64 key) :
    Calls Tryz.prog 126 #[.pointer (some ⟨s, 0, none⟩), .int .u64 key, .int .i64 d] w (KUpdPost w s g C B L ls key d) := by
  have hok := h.ok
  have hlt := h.lts
  have hltg := h.ltg
  obtain ⟨cap, hex, hcap⟩ := h.ex
  have c0 := (cell_of hex 0).trans rfl
  have c1 := (cell_of hex 1).trans rfl
  have c2 := (cell_of hex 2).trans rfl
  have c3 := (cell_of hex 3).trans rfl
  have c4 := (cell_of hex 4).trans rfl
  have hb2 : C.bits ≤ 59 := hok.b2
  have hb1 : 1 ≤ C.bits := hok.b1
  have HE := Lib.hid hex
  have HH := Lib.hid h
  clear h hex
  refine (callsIn_wide (n := 5)).1 ?_
  refine callsIn_of_wp_marks Tryz.func126 rfl trivial ?_ rfl
  simp only [Tryz.ntmps126, List.size_toArray, List.length_cons, List.length_nil, Nat.reduceAdd, Nat.reduceSub, Array.replicate_succ, Array.replicate_zero, List.push_toArray, List.append_toArray, List.nil_append, List.cons_append]
  gi_wp2_with fail
  refine ⟨trivial, (callsIn_wide.2 (Keys_c C hok 0 (Int.le_refl 0) (by omega) _)).mono ?_⟩
  rintro e w1 ⟨rfl, hx1⟩
  have hE1 : Ext w w1 := (Ext.alloc' w _).trans' hx1
  have h1 := HH.out.ext hE1
  have db := hx1.keep (heap_at w (.cells #[.int .i64 d] 2) rfl)
  have hls := h1.lts
  by_cases hkey : keys C 0 ≤ key
  · have e1 : errK C B ls key d = 2 := by unfold errK; rw [decide_eq_true hkey]; rfl
    have hge : decide (keys C 0 ≤ key) = true := decide_eq_true hkey
    gi_wp2
    exact ⟨_, results_tmp rfl _ _ _, by rw [e1]; rfl, by rw [e1]; exact h1, hE1.mod _⟩
  · have hge : decide (keys C 0 ≤ key) = false := decide_eq_false hkey
    gi_wp2_with fail
    refine ⟨trivial, (callsIn_wide.2 (Kat_c s key _)).mono ?_⟩
    rintro e w2 ⟨rfl, rfl⟩
    gi_wp2
    obtain ⟨W0, hW0⟩ : ∃ W0, ((w1.alloc (.cells #[.int .i64 0] 41)).alloc (.cells #[.pointer (some ⟨s, 0, none⟩)] 40)).alloc (.cells #[.int .u64 key] 22) = W0 := ⟨_, rfl⟩
    have hsz : W0.heap.size = w1.heap.size + 3 := by rw [← hW0]; simp
    have hEW : Ext w1 W0 := by rw [← hW0]; exact ((Ext.alloc' _ _).allocR _).allocR _
    have hb0 : W0.heap[w1.heap.size]? = some (.cells #[.int .i64 0] 41 (0, 0)) := by rw [← hW0, heap_old _ _ (by simp; omega), heap_old _ _ (by simp)]; exact heap_at _ _ rfl
    have hb1' : W0.heap[w1.heap.size + 1]? = some (.cells #[.pointer (some ⟨s, 0, none⟩)] 40 (0, 0)) := by rw [← hW0, heap_old _ _ (by simp)]; exact heap_at _ _ (size_alloc _ _).symm
    have hb2' : W0.heap[w1.heap.size + 2]? = some (.cells #[.int .u64 key] 22 (0, 0)) := by rw [← hW0]; exact heap_at _ _ (by simp)
    rw [hW0]
    have h2 := h1.ext hEW
    obtain ⟨cap2, hex2, hcap2⟩ := h2.ex
    have H2 := Lib.hid h2
    have hBd : B ≤ 59 := by have := hok.b2; have := h2.hB; omega
    refine wpIn_rangeFunc_ownF rfl (by decide) (gf := 207) (lb := #[.pointer (some ⟨w1.heap.size + 1, 0, none⟩), .pointer (some ⟨w1.heap.size + 1 + 1, 0, none⟩)]) rfl trivial (enters_of Tryz.func207 (by kernel_rfl) rfl)
      (kat1_stops 4 (w1.heap.size + 1) (w1.heap.size + 2) W0.heap.size s g cap2 (fun k => k = w1.heap.size) C L B key hk hBd (by omega) (by omega) h2.lts h2.ltg (by omega) (by omega) (by omega) (by have := h1.ltg; omega) W0 (Nat.le_refl _)
        ((cell_of hb1' 0).trans rfl) ((cell_of hb2' 0).trans rfl) ((cell_of hex2 5).trans rfl) (fun n hn => h2.cell hn)) KpS.t (fun W l o o' hl ho hc hw => KpS.b (Nat.le_refl _) W l o o' hl ho hc hw) (Below.refl _ _) (fun _ => rfl)
      (fun pre W => W.heap[w1.heap.size]? = some (.cells #[.int .i64 (errF C ls key d (vals pre))] 41 (0, 0)) ∧ Mod (fun k => k = w1.heap.size) W0 W)
      (fun _ _ _ => False)
      (OwnFrom.and (ownFrom_box (by omega) _) (ownFrom_mod (Nat.le_refl _)))
      (fun _ _ _ _ _ hs _ _ => hs)
      ⟨hb0, Mod.refl _ _⟩
      (fun x => { tmps := #[.pointer (some ⟨s, 0, none⟩), .int .u64 key, .int .i64 d, undef, undef, .pointer (some ⟨w.heap.size, 0, none⟩), .int .i64 0, .pointer (some ⟨w1.heap.size, 0, none⟩), lvV C x.1 (L x.1), .int .u64 (sh x.1 key), undef, undef, .int .u64 key, .pointer (some ⟨s, 0, none⟩), .pointer (some ⟨s, 0, none⟩), .pointer (some ⟨s, 0, none⟩), .agg #[.int .i64 C.bits, .int .i64 C.rows, .int .i64 C.width, .int .i64 C.mode, .int .u64 C.seed], .int .u64 (keys C 0), .bool false, .pointer (some ⟨s, 0, none⟩), .int .u64 key, .func (.func 207) #[] #[.pointer (some ⟨w1.heap.size + 1, 0, none⟩), .pointer (some ⟨w1.heap.size + 1 + 1, 0, none⟩)], lvV C x.1 (L x.1), .int .u64 (sh x.1 key), undef, undef, undef, undef, undef, undef, undef, undef, undef, undef, undef, undef, undef, undef, undef, undef, undef, undef, undef], defers := [] }) ?assign ?body ?done ?stop
    case assign =>
      intro l x W K hK
      dsimp only [lvEnc]
      gi_wp2
      exact hK
    case body =>
      rintro l pre x W ⟨hbad, hM0⟩ hlen
      have hM := mod_new hEW hM0 (Nat.le_refl _)
      have hxn := x.2
      have h3 := h1.keepN h1.low (fun k hk _ => hM.block k hk (fun h => h))
      have hLx := h3.lev x.1 x.2
      have hbc := (cell_of hbad 0).trans rfl
      have hdW := hM.keep db (fun h => h)
      have hdc := (cell_of hdW 0).trans rfl
      have hbl := lt_of hbad
      have hdl := lt_of hdW
      have hkx := sh_u64 hk x.1
      gi_wp2
      cases hx : isX C x.1 with
      | true =>
        have hA := (hLx.x hx).ext (Below.drew (Ext.refl W))
        have HX := Lib.hid hx
        rw [lvV_x hx]
        clear hx
        refine pi_startR (fun w' => ∃ x : After W, w' = x.w) [7] (by kernel_rfl) (fun ⟨_, _, hh⟩ => hh) (by kernel_rfl) ?_
        have hC0 := af_drew W
        refine pi_c 0 (by assumption) rfl (by kernel_rfl) (by kernel_rfl) (fun _ _ _ _ h => h) (fun K hK => ?_)
        go_big_quiet_op
        refine hK _ ?_
        clear hK K
        refine pi_t 1 rfl (by kernel_rfl) (by kernel_rfl) (fun _ _ _ _ h => h) (fun K hK => ?_)
        go_big_quiet_op
        refine hK _ ?_
        clear hK K
        refine pi_t 2 rfl (by kernel_rfl) (by kernel_rfl) (fun _ _ _ _ h => h) (fun K hK => ?_)
        go_big_quiet_op
        refine hK _ ?_
        clear hK K
        refine pi_c 3 (by assumption) rfl (by kernel_rfl) (by kernel_rfl) (fun _ _ _ _ h => h) (fun K hK => ?_)
        go_big_quiet_op
        refine hK _ ?_
        clear hK K
        refine pi_l 4 rfl (by kernel_rfl) (fun K hK => ?_)
        go_wp2_with fail
        refine (ECheck_c _ _ _ C _ _ _ (sh x.1 key) d _ hA hd hkx).mono ?_
        rintro e w3 ⟨rfl, hx3⟩
        have hb3 := hx3.keep (show W.drew.heap[w1.heap.size]? = _ from hbad)
        have hbc3 := (cell_of hb3 0).trans rfl
        have hbl3 := lt_of hb3
        have hbf3 := frozen_of hb3 0
        go_wp2
        refine hK _ _ (fun _ h => af_step h hx3) ?_
        clear hK K
        refine pi_l 5 rfl (by kernel_rfl) (fun K hK => ?_)
        go_wp2
        refine hK _ _ (fun _ h => af_step h (Ext.alloc' _ _)) ?_
        clear hK K
        refine pi_l 6 rfl (by kernel_rfl) (fun K hK => ?_)
        go_wp2_with fail
        refine (first_c w3.heap.size 2 (errF C ls key d (vals pre)) (errX C x.1 (ls x.1) (sh x.1 key) d) _ ((cell_of (heap_at w3 _ rfl) 0).trans rfl) ((cell_of (heap_at w3 _ rfl) 1).trans rfl)).mono ?_
        rintro e w4 ⟨rfl, rfl⟩
        go_wp2
        refine hK _ _ (fun _ h => h) ?_
        clear hK K
        refine pi_l 7 rfl (by kernel_rfl) (fun K hK => ?_)
        go_wp2
        refine hK _ _ (by simp) ?_
        clear hK K
        refine pi_end (by kernel_rfl) ?_
        obtain ⟨r1, r2, r3, r4⟩ := chk_round (v := .int .i64 (fst_ (errF C ls key d (vals pre)) (errX C x.1 (ls x.1) (sh x.1 key) d))) (o := .cells #[.int .i64 (errF C ls key d (vals pre)), .int .i64 (errX C x.1 (ls x.1) (sh x.1 key) d)] 41) hbad (Ext.trans' (Below.drew (Ext.refl W)) hx3) hM0
        exact ⟨r1, r2, by rw [vals_snoc, errF_snoc, lvE_x HX.out]; exact r3, r4⟩
      | false =>
        have hA := (hLx.sk hx).ext (Below.drew (Ext.refl W))
        have HX := Lib.hid hx
        rw [lvV_s hx]
        clear hx
        refine pi_startR (fun w' => ∃ x : After W, w' = x.w) [7] (by kernel_rfl) (fun ⟨_, _, hh⟩ => hh) (by kernel_rfl) ?_
        have hC0 := af_drew W
        refine pi_c 0 (by assumption) rfl (by kernel_rfl) (by kernel_rfl) (fun _ _ _ _ h => h) (fun K hK => ?_)
        go_big_quiet_op
        refine hK _ ?_
        clear hK K
        refine pi_t 1 rfl (by kernel_rfl) (by kernel_rfl) (fun _ _ _ _ h => h) (fun K hK => ?_)
        go_big_quiet_op
        refine hK _ ?_
        clear hK K
        refine pi_t 2 rfl (by kernel_rfl) (by kernel_rfl) (fun _ _ _ _ h => h) (fun K hK => ?_)
        go_big_quiet_op
        refine hK _ ?_
        clear hK K
        refine pi_c 3 (by assumption) rfl (by kernel_rfl) (by kernel_rfl) (fun _ _ _ _ h => h) (fun K hK => ?_)
        go_big_quiet_op
        refine hK _ ?_
        clear hK K
        refine pi_l 4 rfl (by kernel_rfl) (fun K hK => ?_)
        go_wp2_with fail
        refine (Check_c _ _ _ C _ _ _ _ (sh x.1 key) d _ hA hd hkx.1).mono ?_
        rintro e w3 ⟨rfl, hx3⟩
        have hb3 := hx3.keep (show W.drew.heap[w1.heap.size]? = _ from hbad)
        have hbc3 := (cell_of hb3 0).trans rfl
        have hbl3 := lt_of hb3
        have hbf3 := frozen_of hb3 0
        go_wp2
        refine hK _ _ (fun _ h => af_step h hx3) ?_
        clear hK K
        refine pi_l 5 rfl (by kernel_rfl) (fun K hK => ?_)
        go_wp2
        refine hK _ _ (fun _ h => af_step h (Ext.alloc' _ _)) ?_
        clear hK K
        refine pi_l 6 rfl (by kernel_rfl) (fun K hK => ?_)
        go_wp2_with fail
        refine (first_c w3.heap.size 2 (errF C ls key d (vals pre)) (errU C x.1 (rN C) (wN C) (ls x.1) (sh x.1 key) d) _ ((cell_of (heap_at w3 _ rfl) 0).trans rfl) ((cell_of (heap_at w3 _ rfl) 1).trans rfl)).mono ?_
        rintro e w4 ⟨rfl, rfl⟩
        go_wp2
        refine hK _ _ (fun _ h => h) ?_
        clear hK K
        refine pi_l 7 rfl (by kernel_rfl) (fun K hK => ?_)
        go_wp2
        refine hK _ _ (by simp) ?_
        clear hK K
        refine pi_end (by kernel_rfl) ?_
        obtain ⟨r1, r2, r3, r4⟩ := chk_round (v := .int .i64 (fst_ (errF C ls key d (vals pre)) (errU C x.1 (rN C) (wN C) (ls x.1) (sh x.1 key) d))) (o := .cells #[.int .i64 (errF C ls key d (vals pre)), .int .i64 (errU C x.1 (rN C) (wN C) (ls x.1) (sh x.1 key) d)] 41) hbad (Ext.trans' (Below.drew (Ext.refl W)) hx3) hM0
        exact ⟨r1, r2, by rw [vals_snoc, errF_snoc, lvE_s HX.out]; exact r3, r4⟩
    case done =>
      rintro D xs W hD hxs ⟨hbad, hM0⟩ hdef
      have hM := mod_new hEW hM0 (Nat.le_refl _)
      have hz : errF C ls key d (vals xs) = errs C ls key d (B + 1) := by unfold vals; rw [hxs, errF_range]
      rw [hz] at hbad
      have hek : errK C B ls key d = errs C ls key d (B + 1) := by unfold errK; rw [hge]; rfl
      have h3 := h1.keepN h1.low (fun k hk _ => hM.block k hk (fun h => h))
      have hbc := (cell_of hbad 0).trans rfl
      have hdW := hM.keep db (fun h => h)
      have hdc := (cell_of hdW 0).trans rfl
      have hbl := lt_of hbad
      have hdl := lt_of hdW
      have HZ := Lib.hid hek
      have HXS := Lib.hid hz
      clear hek hz hxs
      by_cases hzz : errs C ls key d (B + 1) = 0
      · gi_wp2_with fail
        refine ⟨trivial, (callsIn_wide.2 (Kat_c s key _)).mono ?_⟩
        rintro e w2 ⟨rfl, rfl⟩
        gi_wp2
        obtain ⟨W2, hW2⟩ : ∃ W2, (W.alloc (.cells #[.pointer (some ⟨s, 0, none⟩)] 40)).alloc (.cells #[.int .u64 key] 22) = W2 := ⟨_, rfl⟩
        have hsz2 : W2.heap.size = W.heap.size + 2 := by rw [← hW2]; simp
        have hEW2 : Ext W W2 := by rw [← hW2]; exact (Ext.alloc' _ _).allocR _
        have hb1' : W2.heap[W.heap.size]? = some (.cells #[.pointer (some ⟨s, 0, none⟩)] 40 (0, 0)) := by rw [← hW2, heap_old _ _ (by simp)]; exact heap_at _ _ rfl
        have hb2' : W2.heap[W.heap.size + 1]? = some (.cells #[.int .u64 key] 22 (0, 0)) := by rw [← hW2]; exact heap_at _ _ (size_alloc _ _).symm
        have hdef2 := hEW2.keep hdef
        have hd2 := hEW2.keep hdW
        rw [hW2]
        have h4 := h3.ext hEW2
        obtain ⟨cap4, hex4, hcap4⟩ := h4.ex
        have hall : ∀ n, n ≤ B → lvE C n (ls n) (sh n key) d = 0 := fun n hn => errs_zero.1 hzz n (by omega)
        have hlt3 : ∀ k, cellsOf B L k → k < W.heap.size := fun k hk => h3.ltc hk
        have hlt0 : ∀ k, cellsOf B L k → k < w.heap.size := fun k hk => HH.out.ltc hk
        have hWl := hM.size
        have hDl := lt_of hdef
        refine wpIn_rangeFunc_ownF rfl (by decide) (gf := 207) (lb := #[.pointer (some ⟨W.heap.size, 0, none⟩), .pointer (some ⟨W.heap.size + 1, 0, none⟩)]) rfl trivial (enters_of Tryz.func207 (by kernel_rfl) rfl)
          (kat1_stops 4 W.heap.size (W.heap.size + 1) W2.heap.size s g cap4 (cellsOf B L) C L B key hk hBd (by omega) (by omega) h4.lts h4.ltg (fun h => absurd (hlt3 _ h) (by omega)) (fun h => absurd (hlt3 _ h) (by omega)) h3.nots h3.notg W2 (Nat.le_refl _)
            ((cell_of hb1' 0).trans rfl) ((cell_of hb2' 0).trans rfl) ((cell_of hex4 5).trans rfl) (fun n hn => h4.cell hn)) KpS.t (fun W l o o' hl ho hc hw => KpS.b (Nat.le_refl _) W l o o' hl ho hc hw) (Below.refl _ _) (fun _ => rfl)
          (fun pre W' => W'.heap[D]? = some (.deferred (some [])) ∧ (∃ ls', KAt W' s g C B L ls' ∧ ((vals pre).Nodup → ∀ n, ls' n = partK C ls key d (vals pre) n)) ∧ Mod (cellsOf B L) W2 W')
          (fun _ _ _ => False)
          (OwnFrom.and (ownFrom_box (by omega) (fun _ => _)) (OwnFrom.and (fun pre W' W'' row hs hg hr => by obtain ⟨ls', h, hp⟩ := hs; exact ⟨ls', h.keepN h4.low (fun k hk hN => grown_low hg (fun r e => (hr r e).1) hk hN), hp⟩) (ownFrom_mod (Nat.le_refl _))))
          (fun _ _ _ _ _ hs _ _ => hs)
          ⟨hdef2, ⟨ls, h4, fun _ n => rfl⟩, Mod.refl _ _⟩
          (fun x => { tmps := #[.pointer (some ⟨s, 0, none⟩), .int .u64 key, .int .i64 d, undef, undef, .pointer (some ⟨w.heap.size, 0, none⟩), .int .i64 0, .pointer (some ⟨w1.heap.size, 0, none⟩), undef, undef, lvV C x.1 (L x.1), .int .u64 (sh x.1 key), .int .u64 key, .pointer (some ⟨s, 0, none⟩), .pointer (some ⟨s, 0, none⟩), .pointer (some ⟨s, 0, none⟩), .agg #[.int .i64 C.bits, .int .i64 C.rows, .int .i64 C.width, .int .i64 C.mode, .int .u64 C.seed], .int .u64 (keys C 0), .bool false, .pointer (some ⟨s, 0, none⟩), .int .u64 key, .func (.func 207) #[] #[.pointer (some ⟨w1.heap.size + 1, 0, none⟩), .pointer (some ⟨w1.heap.size + 1 + 1, 0, none⟩)], undef, undef, undef, undef, undef, undef, undef, undef, undef, .int .i64 0, .bool false, undef, .pointer (some ⟨s, 0, none⟩), .int .u64 key, .func (.func 207) #[] #[.pointer (some ⟨W.heap.size, 0, none⟩), .pointer (some ⟨W.heap.size + 1, 0, none⟩)], lvV C x.1 (L x.1), .int .u64 (sh x.1 key), undef, undef, undef, undef], defers := [] }) ?assign2 ?body2 ?done2 ?stop2
        case assign2 =>
          intro l x W K hK
          dsimp only [lvEnc]
          gi_wp2
          exact hK
        case body2 =>
          rintro l pre x V ⟨hD5, ⟨ls', h5, hp5⟩, hM5⟩ hlen
          have hd5 := hM5.keep hd2 (fun h => absurd (hlt0 _ h) (by omega))
          have hdc5 := (cell_of hd5 0).trans rfl
          have hdl5 := lt_of hd5
          have hkx := sh_u64 hk x.1
          have hLx := h5.lev x.1 x.2
          have fin := fun w3 hres => upd_round (w3 := w3) (x := x) h5 hp5 hM5 hD5 hall hres
          cases hx : isX C x.1 with
          | true =>
            have hA := hLx.x hx
            have HX := Lib.hid hx
            rw [lvV_x hx]
            clear hx
            refine wpIn_block ?_
            refine region_plainR (fun ⟨_, _, hh⟩ => hh) (by kernel_rfl) ?_
            go_wp2_with fail
            refine Calls.mono (EUpdate_c _ _ _ C _ _ _ (sh x.1 key) d _ hA hd hkx) ?_
            rintro e w3 ⟨rfl, hres⟩
            gi_wp2
            rw [← lvE_x HX.out, ← lvU_x HX.out] at hres
            exact fin w3 (hres.imp (fun ⟨a, b, c⟩ => ⟨a, .inl ⟨HX.out, b⟩, c⟩) (fun h => h))
          | false =>
            have hA := hLx.sk hx
            have HX := Lib.hid hx
            rw [lvV_s hx]
            clear hx
            refine wpIn_block ?_
            refine region_plainR (fun ⟨_, _, hh⟩ => hh) (by kernel_rfl) ?_
            go_wp2_with fail
            refine Calls.mono (Update_c _ _ _ C _ _ _ _ (sh x.1 key) d _ hA hd hkx.1) ?_
            rintro e w3 ⟨rfl, hres⟩
            gi_wp2
            rw [← lvE_s HX.out, ← lvU_s HX.out] at hres
            exact fin w3 (hres.imp (fun ⟨a, b, c⟩ => ⟨a, .inr ⟨HX.out, b⟩, c⟩) (fun h => h))
        case done2 =>
          rintro D2 ys V hD2 hys ⟨hD5, ⟨ls', h5, hp5⟩, hM5⟩ hdef5
          gi_wp2
          have hne : D ≠ D2 := by omega
          refine ⟨by simp, .inl ⟨_, _, rfl, run_takeDeferred hdef5, ⟨by simp, .inl ⟨_, _, rfl, run_takeDeferred ((World.putObj_heap_other hne).trans hD5), ?_⟩⟩⟩⟩
          have hq : Mod (cellsOf B L) w V := (((hE1.mod _).trans (hM.mono (fun _ h _ => h.elim))).trans (hEW2.mod _)).trans hM5
          have hwl := hE1.size
          refine ⟨_, results_tmp rfl _ _ _, by rw [HZ.out, hzz]; rfl, ?_, mod_putD (mod_putD hq (by omega)) (by omega)⟩
          rw [HZ.out, hzz]
          refine KAt.cong (ls := ls') ?_ (part_end hys hp5)
          exact h5.keepN HH.out.low (fun k _ hN => (World.putObj_heap_other (by omega)).trans (World.putObj_heap_other (by omega)))
        case stop2 =>
          rintro D2 c pre V hD2 _ hh _
          exact hh.elim
      · gi_wp2
        refine ⟨by simp, .inl ⟨_, _, rfl, run_takeDeferred hdef, ?_⟩⟩
        have hp : Mod (fun _ => False) w1 (W.putObj D (.deferred none)) := mod_putD hM (by omega)
        refine ⟨_, results_tmp rfl _ _ _, by rw [HZ.out]; rfl, ?_, (hE1.mod _).trans (hp.mono (fun _ h _ => h.elim))⟩
        rw [HZ.out, decide_eq_false hzz]
        exact h1.keepN h1.low (fun k hk _ => hp.block k hk (fun h => h))
    case stop =>
      rintro D c pre W hD _ hh _
      exact hh.elim
end Go.Proofs.YtmalncfcgcebhaaGreatDoor
namespace Go.Proofs.YtmalncfcgcebhaaGreatDoor
set_option linter.unusedVariables false
open Go.RowKit
set_option maxRecDepth 100000 in
set_option maxHeartbeats 2000000 in
theorem within_no01 (a b c d : Int) (s : Nat) (w : World)
    (f0 : decide (a < 1) = true)
    (hs : w.heap[s]? = some (.cells #[.int .i64 a, .int .i64 59, .int .i64 b, .int .i64 8, .int .i64 c, .int .i64 128, .int .i64 d, .int .i64 3] 266 (0, 0))) :
    Calls Tryz.prog 148 #[.slice (some ⟨s, 0, none⟩) 4 4] w fun e w' => e = .returned (.bool false) ∧ Ext w w' := by
  have hlt := lt_of hs
  have l1 : s < w.heap.size + 1 := by omega
  have l2 : s < w.heap.size + 1 + 1 := by omega
  have l3 : s < w.heap.size + 1 + 1 + 1 := by omega
  have k0 := cell_of hs 0
  have k1 := cell_of hs 1
  have k2 := cell_of hs 2
  have k3 := cell_of hs 3
  have k4 := cell_of hs 4
  have k5 := cell_of hs 5
  have k6 := cell_of hs 6
  have k7 := cell_of hs 7
  simp at k0 k1 k2 k3 k4 k5 k6 k7
  clear hs
  go_enter Tryz.func148, Tryz.ntmps148
  go_wp2
  refine wp_loop_rounds 1 ?_
  iterate 1 (rw [rounds_succ]; go_wp2)
  go_ret
  exact ⟨rfl, by (repeat' (first | exact Ext.refl _ | assumption | apply Ext.allocR | apply Ext.drewR | apply Ext.drewNR | (refine Ext.trans' ?_ (by assumption))))⟩
set_option maxRecDepth 100000 in
set_option maxHeartbeats 2000000 in
theorem within_no02 (a b c d : Int) (s : Nat) (w : World)
    (f0 : decide (a < 1) = false) (g0 : decide (59 < a) = true)
    (hs : w.heap[s]? = some (.cells #[.int .i64 a, .int .i64 59, .int .i64 b, .int .i64 8, .int .i64 c, .int .i64 128, .int .i64 d, .int .i64 3] 266 (0, 0))) :
    Calls Tryz.prog 148 #[.slice (some ⟨s, 0, none⟩) 4 4] w fun e w' => e = .returned (.bool false) ∧ Ext w w' := by
  have hlt := lt_of hs
  have l1 : s < w.heap.size + 1 := by omega
  have l2 : s < w.heap.size + 1 + 1 := by omega
  have l3 : s < w.heap.size + 1 + 1 + 1 := by omega
  have k0 := cell_of hs 0
  have k1 := cell_of hs 1
  have k2 := cell_of hs 2
  have k3 := cell_of hs 3
  have k4 := cell_of hs 4
  have k5 := cell_of hs 5
  have k6 := cell_of hs 6
  have k7 := cell_of hs 7
  simp at k0 k1 k2 k3 k4 k5 k6 k7
  clear hs
  go_enter Tryz.func148, Tryz.ntmps148
  go_wp2
  refine wp_loop_rounds 1 ?_
  iterate 1 (rw [rounds_succ]; go_wp2)
  go_ret
  exact ⟨rfl, by (repeat' (first | exact Ext.refl _ | assumption | apply Ext.allocR | apply Ext.drewR | apply Ext.drewNR | (refine Ext.trans' ?_ (by assumption))))⟩
set_option maxRecDepth 100000 in
set_option maxHeartbeats 2000000 in
theorem within_no11 (a b c d : Int) (s : Nat) (w : World)
    (f0 : decide (a < 1) = false) (g0 : decide (59 < a) = false) (f1 : decide (b < 1) = true)
    (hs : w.heap[s]? = some (.cells #[.int .i64 a, .int .i64 59, .int .i64 b, .int .i64 8, .int .i64 c, .int .i64 128, .int .i64 d, .int .i64 3] 266 (0, 0))) :
    Calls Tryz.prog 148 #[.slice (some ⟨s, 0, none⟩) 4 4] w fun e w' => e = .returned (.bool false) ∧ Ext w w' := by
  have hlt := lt_of hs
  have l1 : s < w.heap.size + 1 := by omega
  have l2 : s < w.heap.size + 1 + 1 := by omega
  have l3 : s < w.heap.size + 1 + 1 + 1 := by omega
  have k0 := cell_of hs 0
  have k1 := cell_of hs 1
  have k2 := cell_of hs 2
  have k3 := cell_of hs 3
  have k4 := cell_of hs 4
  have k5 := cell_of hs 5
  have k6 := cell_of hs 6
  have k7 := cell_of hs 7
  simp at k0 k1 k2 k3 k4 k5 k6 k7
  clear hs
  go_enter Tryz.func148, Tryz.ntmps148
  go_wp2
  refine wp_loop_rounds 2 ?_
  iterate 2 (rw [rounds_succ]; go_wp2)
  go_ret
  exact ⟨rfl, by (repeat' (first | exact Ext.refl _ | assumption | apply Ext.allocR | apply Ext.drewR | apply Ext.drewNR | (refine Ext.trans' ?_ (by assumption))))⟩
set_option maxRecDepth 100000 in
set_option maxHeartbeats 2000000 in
theorem within_no12 (a b c d : Int) (s : Nat) (w : World)
    (f0 : decide (a < 1) = false) (g0 : decide (59 < a) = false) (f1 : decide (b < 1) = false) (g1 : decide (8 < b) = true)
    (hs : w.heap[s]? = some (.cells #[.int .i64 a, .int .i64 59, .int .i64 b, .int .i64 8, .int .i64 c, .int .i64 128, .int .i64 d, .int .i64 3] 266 (0, 0))) :
    Calls Tryz.prog 148 #[.slice (some ⟨s, 0, none⟩) 4 4] w fun e w' => e = .returned (.bool false) ∧ Ext w w' := by
  have hlt := lt_of hs
  have l1 : s < w.heap.size + 1 := by omega
  have l2 : s < w.heap.size + 1 + 1 := by omega
  have l3 : s < w.heap.size + 1 + 1 + 1 := by omega
  have k0 := cell_of hs 0
  have k1 := cell_of hs 1
  have k2 := cell_of hs 2
  have k3 := cell_of hs 3
  have k4 := cell_of hs 4
  have k5 := cell_of hs 5
  have k6 := cell_of hs 6
  have k7 := cell_of hs 7
  simp at k0 k1 k2 k3 k4 k5 k6 k7
  clear hs
  go_enter Tryz.func148, Tryz.ntmps148
  go_wp2
  refine wp_loop_rounds 2 ?_
  iterate 2 (rw [rounds_succ]; go_wp2)
  go_ret
  exact ⟨rfl, by (repeat' (first | exact Ext.refl _ | assumption | apply Ext.allocR | apply Ext.drewR | apply Ext.drewNR | (refine Ext.trans' ?_ (by assumption))))⟩
set_option maxRecDepth 100000 in
set_option maxHeartbeats 2000000 in
theorem within_no21 (a b c d : Int) (s : Nat) (w : World)
    (f0 : decide (a < 1) = false) (g0 : decide (59 < a) = false) (f1 : decide (b < 1) = false) (g1 : decide (8 < b) = false) (f2 : decide (c < 1) = true)
    (hs : w.heap[s]? = some (.cells #[.int .i64 a, .int .i64 59, .int .i64 b, .int .i64 8, .int .i64 c, .int .i64 128, .int .i64 d, .int .i64 3] 266 (0, 0))) :
    Calls Tryz.prog 148 #[.slice (some ⟨s, 0, none⟩) 4 4] w fun e w' => e = .returned (.bool false) ∧ Ext w w' := by
  have hlt := lt_of hs
  have l1 : s < w.heap.size + 1 := by omega
  have l2 : s < w.heap.size + 1 + 1 := by omega
  have l3 : s < w.heap.size + 1 + 1 + 1 := by omega
  have k0 := cell_of hs 0
  have k1 := cell_of hs 1
  have k2 := cell_of hs 2
  have k3 := cell_of hs 3
  have k4 := cell_of hs 4
  have k5 := cell_of hs 5
  have k6 := cell_of hs 6
  have k7 := cell_of hs 7
  simp at k0 k1 k2 k3 k4 k5 k6 k7
  clear hs
  go_enter Tryz.func148, Tryz.ntmps148
  go_wp2
  refine wp_loop_rounds 3 ?_
  iterate 3 (rw [rounds_succ]; go_wp2)
  go_ret
  exact ⟨rfl, by (repeat' (first | exact Ext.refl _ | assumption | apply Ext.allocR | apply Ext.drewR | apply Ext.drewNR | (refine Ext.trans' ?_ (by assumption))))⟩
set_option maxRecDepth 100000 in
set_option maxHeartbeats 2000000 in
theorem within_no22 (a b c d : Int) (s : Nat) (w : World)
    (f0 : decide (a < 1) = false) (g0 : decide (59 < a) = false) (f1 : decide (b < 1) = false) (g1 : decide (8 < b) = false) (f2 : decide (c < 1) = false) (g2 : decide (128 < c) = true)
    (hs : w.heap[s]? = some (.cells #[.int .i64 a, .int .i64 59, .int .i64 b, .int .i64 8, .int .i64 c, .int .i64 128, .int .i64 d, .int .i64 3] 266 (0, 0))) :
    Calls Tryz.prog 148 #[.slice (some ⟨s, 0, none⟩) 4 4] w fun e w' => e = .returned (.bool false) ∧ Ext w w' := by
  have hlt := lt_of hs
  have l1 : s < w.heap.size + 1 := by omega
  have l2 : s < w.heap.size + 1 + 1 := by omega
  have l3 : s < w.heap.size + 1 + 1 + 1 := by omega
  have k0 := cell_of hs 0
  have k1 := cell_of hs 1
  have k2 := cell_of hs 2
  have k3 := cell_of hs 3
  have k4 := cell_of hs 4
  have k5 := cell_of hs 5
  have k6 := cell_of hs 6
  have k7 := cell_of hs 7
  simp at k0 k1 k2 k3 k4 k5 k6 k7
  clear hs
  go_enter Tryz.func148, Tryz.ntmps148
  go_wp2
  refine wp_loop_rounds 3 ?_
  iterate 3 (rw [rounds_succ]; go_wp2)
  go_ret
  exact ⟨rfl, by (repeat' (first | exact Ext.refl _ | assumption | apply Ext.allocR | apply Ext.drewR | apply Ext.drewNR | (refine Ext.trans' ?_ (by assumption))))⟩
set_option maxRecDepth 100000 in
set_option maxHeartbeats 2000000 in
theorem within_no31 (a b c d : Int) (s : Nat) (w : World)
    (f0 : decide (a < 1) = false) (g0 : decide (59 < a) = false) (f1 : decide (b < 1) = false) (g1 : decide (8 < b) = false) (f2 : decide (c < 1) = false) (g2 : decide (128 < c) = false) (f3 : decide (d < 1) = true)
    (hs : w.heap[s]? = some (.cells #[.int .i64 a, .int .i64 59, .int .i64 b, .int .i64 8, .int .i64 c, .int .i64 128, .int .i64 d, .int .i64 3] 266 (0, 0))) :
    Calls Tryz.prog 148 #[.slice (some ⟨s, 0, none⟩) 4 4] w fun e w' => e = .returned (.bool false) ∧ Ext w w' := by
  have hlt := lt_of hs
  have l1 : s < w.heap.size + 1 := by omega
  have l2 : s < w.heap.size + 1 + 1 := by omega
  have l3 : s < w.heap.size + 1 + 1 + 1 := by omega
  have k0 := cell_of hs 0
  have k1 := cell_of hs 1
  have k2 := cell_of hs 2
  have k3 := cell_of hs 3
  have k4 := cell_of hs 4
  have k5 := cell_of hs 5
  have k6 := cell_of hs 6
  have k7 := cell_of hs 7
  simp at k0 k1 k2 k3 k4 k5 k6 k7
  clear hs
  go_enter Tryz.func148, Tryz.ntmps148
  go_wp2
  refine wp_loop_rounds 4 ?_
  iterate 4 (rw [rounds_succ]; go_wp2)
  go_ret
  exact ⟨rfl, by (repeat' (first | exact Ext.refl _ | assumption | apply Ext.allocR | apply Ext.drewR | apply Ext.drewNR | (refine Ext.trans' ?_ (by assumption))))⟩
set_option maxRecDepth 100000 in
set_option maxHeartbeats 2000000 in
theorem within_no32 (a b c d : Int) (s : Nat) (w : World)
    (f0 : decide (a < 1) = false) (g0 : decide (59 < a) = false) (f1 : decide (b < 1) = false) (g1 : decide (8 < b) = false) (f2 : decide (c < 1) = false) (g2 : decide (128 < c) = false) (f3 : decide (d < 1) = false) (g3 : decide (3 < d) = true)
    (hs : w.heap[s]? = some (.cells #[.int .i64 a, .int .i64 59, .int .i64 b, .int .i64 8, .int .i64 c, .int .i64 128, .int .i64 d, .int .i64 3] 266 (0, 0))) :
    Calls Tryz.prog 148 #[.slice (some ⟨s, 0, none⟩) 4 4] w fun e w' => e = .returned (.bool false) ∧ Ext w w' := by
  have hlt := lt_of hs
  have l1 : s < w.heap.size + 1 := by omega
  have l2 : s < w.heap.size + 1 + 1 := by omega
  have l3 : s < w.heap.size + 1 + 1 + 1 := by omega
  have k0 := cell_of hs 0
  have k1 := cell_of hs 1
  have k2 := cell_of hs 2
  have k3 := cell_of hs 3
  have k4 := cell_of hs 4
  have k5 := cell_of hs 5
  have k6 := cell_of hs 6
  have k7 := cell_of hs 7
  simp at k0 k1 k2 k3 k4 k5 k6 k7
  clear hs
  go_enter Tryz.func148, Tryz.ntmps148
  go_wp2
  refine wp_loop_rounds 4 ?_
  iterate 4 (rw [rounds_succ]; go_wp2)
  go_ret
  exact ⟨rfl, by (repeat' (first | exact Ext.refl _ | assumption | apply Ext.allocR | apply Ext.drewR | apply Ext.drewNR | (refine Ext.trans' ?_ (by assumption))))⟩
def okB (c : Cfg) : Bool := decide (1 ≤ c.bits ∧ c.bits ≤ 59 ∧ 1 ≤ c.rows ∧ c.rows ≤ 8 ∧ 1 ≤ c.width ∧ c.width ≤ 128 ∧ 1 ≤ c.mode ∧ c.mode ≤ 3)
theorem okB_ok {c : Cfg} (h : okB c = true) (hs : U64 c.seed) : c.Ok := by
  have := of_decide_eq_true h
  exact ⟨this.1, this.2.1, this.2.2.1, this.2.2.2.1, this.2.2.2.2.1, this.2.2.2.2.2.1, this.2.2.2.2.2.2.1, this.2.2.2.2.2.2.2, hs⟩
theorem within_bad (c : Cfg) (h : okB c = false) (s : Nat) (w : World)
    (hs : w.heap[s]? = some (.cells #[.int .i64 c.bits, .int .i64 59, .int .i64 c.rows, .int .i64 8, .int .i64 c.width, .int .i64 128, .int .i64 c.mode, .int .i64 3] 266 (0, 0))) :
    Calls Tryz.prog 148 #[.slice (some ⟨s, 0, none⟩) 4 4] w fun e w' => e = .returned (.bool false) ∧ Ext w w' := by
  have h' := of_decide_eq_false h
  by_cases a1 : c.bits < 1
  · exact within_no01 _ _ _ _ s w (decide_eq_true a1) hs
  by_cases a2 : 59 < c.bits
  · exact within_no02 _ _ _ _ s w (decide_eq_false a1) (decide_eq_true a2) hs
  by_cases b1 : c.rows < 1
  · exact within_no11 _ _ _ _ s w (decide_eq_false a1) (decide_eq_false a2) (decide_eq_true b1) hs
  by_cases b2 : 8 < c.rows
  · exact within_no12 _ _ _ _ s w (decide_eq_false a1) (decide_eq_false a2) (decide_eq_false b1) (decide_eq_true b2) hs
  by_cases c1 : c.width < 1
  · exact within_no21 _ _ _ _ s w (decide_eq_false a1) (decide_eq_false a2) (decide_eq_false b1) (decide_eq_false b2) (decide_eq_true c1) hs
  by_cases c2 : 128 < c.width
  · exact within_no22 _ _ _ _ s w (decide_eq_false a1) (decide_eq_false a2) (decide_eq_false b1) (decide_eq_false b2) (decide_eq_false c1) (decide_eq_true c2) hs
  by_cases d1 : c.mode < 1
  · exact within_no31 _ _ _ _ s w (decide_eq_false a1) (decide_eq_false a2) (decide_eq_false b1) (decide_eq_false b2) (decide_eq_false c1) (decide_eq_false c2) (decide_eq_true d1) hs
  by_cases d2 : 3 < c.mode
  · exact within_no32 _ _ _ _ s w (decide_eq_false a1) (decide_eq_false a2) (decide_eq_false b1) (decide_eq_false b2) (decide_eq_false c1) (decide_eq_false c2) (decide_eq_false d1) (decide_eq_true d2) hs
  exact absurd ⟨by omega, by omega, by omega, by omega, by omega, by omega, by omega, by omega⟩ h'
set_option maxHeartbeats 1000000 in
theorem Right_no (c : Cfg) (h : okB c = false) (w : World) :
    Calls Tryz.prog 100 #[.agg #[.int .i64 c.bits, .int .i64 c.rows, .int .i64 c.width, .int .i64 c.mode, .int .u64 c.seed]] w fun e w' => e = .returned (.bool false) ∧ Ext w w' := by
  go_enter Tryz.func100, Tryz.ntmps100
  go_wp2_with (go_at_call 148; refine (within_bad c h _ _ ?hs).mono ?_)
  · skip
    exact heap_at _ _ (by simp only [size_alloc])
  rintro e w1 ⟨rfl, hb⟩
  go_wp2
  go_ret
  refine ⟨rfl, ?_⟩
  (repeat' (first | exact Ext.refl _ | assumption | apply Ext.allocR | apply Ext.drewR | apply Ext.drewNR | (refine Ext.trans' ?_ (by assumption))))
set_option maxRecDepth 20000 in
set_option maxHeartbeats 1000000 in
theorem KNew_no (C : Cfg) (h : okB C = false) (w : World) :
    Calls Tryz.prog 55 #[.agg #[.int .i64 C.bits, .int .i64 C.rows, .int .i64 C.width, .int .i64 C.mode, .int .u64 C.seed]] w fun e w' => e = .returned (.tuple #[.pointer none, .int .i64 1]) ∧ Ext w w' := by
  go_enter Tryz.func55, Tryz.ntmps55
  go_wp2_with fail
  refine (Right_no C h _).mono ?_
  rintro e w1 ⟨rfl, hb⟩
  go_wp2
  go_ret2
  refine ⟨rfl, ?_⟩
  (repeat' (first | exact Ext.refl _ | assumption | apply Ext.allocR | apply Ext.drewR | apply Ext.drewNR | (refine Ext.trans' ?_ (by assumption))))
end Go.Proofs.YtmalncfcgcebhaaGreatDoor
namespace Go.Proofs.YtmalncfcgcebhaaGreatDoor
set_option linter.unusedVariables false
open Go.RowKit
def KFresh (N B : Nat) (L : Nat → Lev) : Prop := ∀ n, n ≤ B → N ≤ (L n).s ∧ N ≤ (L n).b ∧ N ≤ (L n).c
theorem KFresh.ext {w a b : World} {B : Nat} {L : Nat → Lev} (h : KFresh w.heap.size B L) (hE : Ext w a) (hM : Mod (cellsOf B L) a b) : Ext w b :=
  Below.trans hE (hM.below (B := w.heap.size) hE.size (fun k hk => by obtain ⟨n, hn, rfl⟩ := hk; exact (h n hn).2.2))
end Go.Proofs.YtmalncfcgcebhaaGreatDoor
namespace Go.Proofs.YtmalncfcgcebhaaGreatDoor
set_option linter.unusedVariables false
open Go.RowKit
/-- All cells of a stack lie between two bounds. -/
def KIn (N M B : Nat) (L : Nat → Lev) : Prop := ∀ n, n ≤ B → N ≤ (L n).c ∧ (L n).c < M
theorem KIn.cells {N M B : Nat} {L : Nat → Lev} (h : KIn N M B L) {k : Nat} (hk : cellsOf B L k) : N ≤ k ∧ k < M := by obtain ⟨n, hn, rfl⟩ := hk; exact h n hn
/-- A block that is no cell of a stack. -/
theorem KAt.blk {w w' : World} {s g : Nat} {C : Cfg} {B : Nat} {L : Nat → Lev} {ls : Nat → List Int} (h : KAt w s g C B L ls) (hm : Mod (cellsOf B L) w w') {b : Nat} {cur : Array Value} {t : TypeId} (hb : w.heap[b]? = some (.cells cur t (0, 0))) (ht : t ≠ 2) :
    w'.heap[b]? = some (.cells cur t (0, 0)) :=
  hm.keep hb (fun hc => by obtain ⟨c2, h2⟩ := h.isc hc; exact blk_ne hb h2 ht rfl)
end Go.Proofs.YtmalncfcgcebhaaGreatDoor
namespace Go.Proofs.YtmalncfcgcebhaaGreatDoor
set_option linter.unusedVariables false
open Go.RowKit
def D0 : Cfg := ⟨2, 2, 1, 1, 0⟩
end Go.Proofs.YtmalncfcgcebhaaGreatDoor
namespace Go.Proofs.YtmalncfcgcebhaaGreatDoor
set_option linter.unusedVariables false
open Go.RowKit
/-- A stack: where it lies, and what it has. -/
structure Bk where
  s : Nat
  g : Nat
  L : Nat → Lev
  ls : Nat → List Int
def Bk.At (k : Bk) (w : World) (C : Cfg) (B : Nat) : Prop := KAt w k.s k.g C B k.L k.ls
structure WAt (w : World) (N p b : Nat) (C : Cfg) (B n : Nat) (sm : Bk) (bk : Nat → Bk) : Prop where
  st : ∃ cap, w.heap[p]? = some (.cells #[.pointer (some ⟨sm.s, 0, none⟩), .slice (some ⟨b, 0, none⟩) n cap] 240 (0, 0)) ∧ cap = n
  row : ∃ cur, w.heap[b]? = some (.cells cur 40 (0, 0)) ∧ ∀ i, i < n → cur[i]? = some (.pointer (some ⟨(bk i).s, 0, none⟩))
  sum : sm.At w C B
  bks : ∀ i, i < n → (bk i).At w C B
  sepS : ∀ i, i < n → ∀ m, m ≤ B → ¬ cellsOf B (bk i).L (sm.L m).c
  sepB : ∀ i j, i < n → j < n → i ≠ j → ∀ m, m ≤ B → ¬ cellsOf B (bk i).L ((bk j).L m).c
  n1 : 1 ≤ n
  n2 : n ≤ 16
  md : C.mode = 1
  loP : N ≤ p
  loB : N ≤ b
  loC : ∀ i, i < n → ∀ m, m ≤ B → N ≤ ((bk i).L m).c
section
variable {w w' : World} {N p b : Nat} {C : Cfg} {B n : Nat} {sm : Bk} {bk : Nat → Bk}
theorem WAt.ltp (h : WAt w N p b C B n sm bk) : p < w.heap.size := by obtain ⟨_, h1, _⟩ := h.st; exact lt_of h1
theorem WAt.ltb (h : WAt w N p b C B n sm bk) : b < w.heap.size := by obtain ⟨_, h1, _⟩ := h.row; exact lt_of h1
theorem WAt.ext (h : WAt w N p b C B n sm bk) (he : Ext w w') : WAt w' N p b C B n sm bk := by
  refine ⟨?_, ?_, KAt.ext h.sum he, fun i hi => KAt.ext (h.bks i hi) he, h.sepS, h.sepB, h.n1, h.n2, h.md, h.loP, h.loB, h.loC⟩
  · obtain ⟨cap, h1, h2⟩ := h.st; exact ⟨cap, he.keep h1, h2⟩
  · obtain ⟨cur, h1, h2⟩ := h.row; exact ⟨cur, he.keep h1, h2⟩
end
set_option maxRecDepth 20000 in
set_option maxHeartbeats 4000000 in
theorem WSum_c {N p b : Nat} {C : Cfg} {B n : Nat} {sm : Bk} {bk : Nat → Bk} {w : World} (h : WAt w N p b C B n sm bk) :
    Calls Tryz.prog 123 #[.pointer (some ⟨p, 0, none⟩)] w (KCopyPost w C B sm.ls) := by
  obtain ⟨cap, hst, hcap⟩ := h.st
  have p0 := (cell_of hst 0).trans rfl
  have pl := lt_of hst
  have HC := Lib.hid (KCopy_c sm.s sm.g C B sm.L sm.ls w h.sum)
  clear hst h
  go_enter Tryz.func123, Tryz.ntmps123
  go_wp2_with fail
  refine Calls.mono HC.out ?_
  rintro e w1 ⟨s, g, L, rfl, h1, h2, h3, h4, h5⟩
  go_wp2
  go_ret
  exact ⟨s, g, L, rfl, h1, h2, h3, h4, h5⟩
end Go.Proofs.YtmalncfcgcebhaaGreatDoor
namespace Go.Proofs.YtmalncfcgcebhaaGreatDoor
set_option linter.unusedVariables false
open Go.RowKit
/-- What a window's own changes may touch. -/
def WFoot (p b B n : Nat) (bk : Nat → Bk) (k : Nat) : Prop := k = p ∨ k = b ∨ ∃ i, i < n ∧ cellsOf B (bk i).L k
def Bk.upd (k : Bk) (C : Cfg) (key d : Int) : Bk := ⟨k.s, k.g, k.L, updK C k.ls key d⟩
def setB (bk : Nat → Bk) (i : Nat) (x : Bk) : Nat → Bk := fun j => if j = i then x else bk j
theorem setB_same (bk : Nat → Bk) (i : Nat) (x : Bk) : setB bk i x i = x := if_pos rfl
theorem setB_ne (bk : Nat → Bk) {i j : Nat} (x : Bk) (h : j ≠ i) : setB bk i x j = bk j := if_neg h
section
variable {w w' : World} {N p b : Nat} {C : Cfg} {B n : Nat} {sm : Bk} {bk : Nat → Bk}
/-- One bucket is changed. -/
theorem WAt.mod1 {x : Bk} {m : Nat} (h : WAt w N p b C B n sm bk) (hm : m < n) (hM : Mod (cellsOf B (bk m).L) w w') (hx : x.At w' C B) (hxs : x.s = (bk m).s) (hxL : x.L = (bk m).L) : WAt w' N p b C B n sm (setB bk m x) := by
  have hL : ∀ i, (setB bk m x i).L = (bk i).L := fun i => by
    by_cases h2 : i = m
    · rw [h2, setB_same, hxL]
    · rw [setB_ne _ _ h2]
  have hS : ∀ i, (setB bk m x i).s = (bk i).s := fun i => by
    by_cases h2 : i = m
    · rw [h2, setB_same, hxs]
    · rw [setB_ne _ _ h2]
  refine ⟨?_, ?_, ?_, fun i hi => ?_, fun i hi k hk => ?_, fun i j hi hj hij k hk => ?_, h.n1, h.n2, h.md, h.loP, h.loB, fun i hi k hk => ?_⟩
  · obtain ⟨cap, h1, h2⟩ := h.st; exact ⟨cap, KAt.blk (h.bks m hm) hM h1 (by decide), h2⟩
  · obtain ⟨cur, h1, h2⟩ := h.row; exact ⟨cur, KAt.blk (h.bks m hm) hM h1 (by decide), fun i hi => by rw [hS]; exact h2 i hi⟩
  · exact KAt.mod h.sum hM (fun k hk _ => KAt.isc (h.bks m hm) hk) (fun k hk => h.sepS m hm k hk)
  · by_cases h2 : i = m
    · rw [h2, setB_same]; exact hx
    · rw [setB_ne _ _ h2]; exact KAt.mod (h.bks i hi) hM (fun k hk _ => KAt.isc (h.bks m hm) hk) (fun k hk => h.sepB m i hm hi (fun e => h2 e.symm) k hk)
  · rw [hL]; exact h.sepS i hi k hk
  · rw [hL, hL]; exact h.sepB i j hi hj hij k hk
  · rw [hL]; exact h.loC i hi k hk
end
end Go.Proofs.YtmalncfcgcebhaaGreatDoor
namespace Go.Proofs.YtmalncfcgcebhaaGreatDoor
set_option linter.unusedVariables false
open Go.RowKit
/-- A window at p, whose buckets were fed US (the oldest first). -/
def WS (w : World) (N p : Nat) (C : Cfg) (B n : Nat) (US : List (List (Int × Int))) : Prop :=
  ∃ b sm bk, WAt w N p b C B n sm bk ∧ US.length = n ∧ (∀ k, k ≤ B → sm.ls k = feedK C US.flatten k) ∧ ∀ i, i < n → ∀ k, k ≤ B → (bk i).ls k = feedK C (US.getD i []) k
theorem WS.ext {w w' : World} {N p : Nat} {C : Cfg} {B n : Nat} {US : List (List (Int × Int))} (h : WS w N p C B n US) (he : Ext w w') : WS w' N p C B n US := by
  obtain ⟨b, sm, bk, h1, h2, h3, h4⟩ := h
  exact ⟨b, sm, bk, h1.ext he, h2, h3, h4⟩
/-- The same, with a bound above all that a change may touch. -/
def WSM (w : World) (N M p : Nat) (C : Cfg) (B n : Nat) (US : List (List (Int × Int))) : Prop :=
  ∃ b sm bk, WAt w N p b C B n sm bk ∧ US.length = n ∧ (∀ k, k ≤ B → sm.ls k = feedK C US.flatten k) ∧ (∀ i, i < n → ∀ k, k ≤ B → (bk i).ls k = feedK C (US.getD i []) k) ∧ ∀ k, WFoot p b B n bk k → k < M
theorem WSM.ext {w w' : World} {N M p : Nat} {C : Cfg} {B n : Nat} {US : List (List (Int × Int))} (h : WSM w N M p C B n US) (he : Ext w w') : WSM w' N M p C B n US := by
  obtain ⟨b, sm, bk, h1, h2, h3, h4, h5⟩ := h
  exact ⟨b, sm, bk, h1.ext he, h2, h3, h4, h5⟩
end Go.Proofs.YtmalncfcgcebhaaGreatDoor
namespace Go.Proofs.YtmalncfcgcebhaaGreatDoor
set_option linter.unusedVariables false
open Go.Proofs Go.RowKit
/-- What a handle stands for: a stack, or a window. -/
inductive Th where
  | st (k : Bk) (C : Cfg) (B : Nat)
  | wi (p b : Nat) (C : Cfg) (B n : Nat) (sm : Bk) (bk : Nat → Bk)
/-- The same without its places. -/
inductive AT where
  | st (C : Cfg) (B : Nat) (ls : Nat → List Int)
  | wi (C : Cfg) (B n : Nat) (sm : Nat → List Int) (bk : Nat → Nat → List Int)
def Th.v : Th → Value
  | .st k C B => .agg #[.pointer (some ⟨k.s, 0, none⟩), .pointer none]
  | .wi p b C B n sm bk => .agg #[.pointer none, .pointer (some ⟨p, 0, none⟩)]
def Th.At (w : World) : Th → Prop
  | .st k C B => k.At w C B
  | .wi p b C B n sm bk => WAt w 0 p b C B n sm bk
/-- The blocks that what is done to a thing may touch, and those of its cells. -/
def Th.cs : Th → Nat → Prop
  | .st k C B => cellsOf B k.L
  | .wi p b C B n sm bk => fun i => i = p ∨ i = b ∨ cellsOf B sm.L i ∨ ∃ j, j < n ∧ cellsOf B (bk j).L i
def Th.ab : Th → AT
  | .st k C B => .st C B k.ls
  | .wi p b C B n sm bk => .wi C B n sm.ls (fun i => (bk i).ls)
/-- A block that is written: cells, a window's own, the agg's own; texts and their rows; what is no cells. -/
def Wr (w : World) (k : Nat) : Prop := (∃ cur t f, w.heap[k]? = some (.cells cur t f) ∧ (t = 2 ∨ t = 240 ∨ t = 40 ∨ t = 144 ∨ t = 9 ∨ t = 75)) ∨ ∃ o, w.heap[k]? = some o ∧ o.isCells = false
theorem Wr.ne {w : World} {k j : Nat} (h : Wr w k) {cur : Array Value} {t : TypeId} {f : Nat × Nat} (hj : w.heap[j]? = some (.cells cur t f)) (h1 : t ≠ 2) (h2 : t ≠ 240) (h3 : t ≠ 40) (h4 : t ≠ 144) (h5 : t ≠ 9) (h6 : t ≠ 75) : k ≠ j := by
  rintro rfl
  rcases h with ⟨cur', t', f', hk, ht⟩ | ⟨o, hk, ho⟩
  · rw [hk] at hj
    injection hj with hj
    injection hj with _ hj
    subst hj
    rcases ht with h | h | h | h | h | h
    · exact h1 h
    · exact h2 h
    · exact h3 h
    · exact h4 h
    · exact h5 h
    · exact h6 h
  · rw [hk] at hj; cases hj; cases ho
theorem LvAt.keepS {S : Nat → Prop} {w w' : World} {L : Lev} {C : Cfg} {lv : Int} {l : List Int} (h : LvAt w L C lv l) (hM : Mod S w w') (hS : ∀ k, S k → k < w.heap.size → Wr w k) (hc : ¬ S L.c) : LvAt w' L C lv l := by
  refine h.keep (hM.block _ h.lts fun hs => ?_) (hM.block _ h.ltb fun hs => ?_) (hM.block _ h.ltc hc)
  · have hw := hS _ hs h.lts
    rcases h with ⟨_, h⟩ | ⟨_, h⟩ <;> exact hw.ne h.ex (by decide) (by decide) (by decide) (by decide) (by decide) (by decide) rfl
  · have hw := hS _ hs h.ltb
    rcases h with ⟨_, h⟩ | ⟨_, h⟩ <;> (obtain ⟨cap, h1, _⟩ := h.g.ex; exact hw.ne h1 (by decide) (by decide) (by decide) (by decide) (by decide) (by decide) rfl)
theorem KAt.keepS {S : Nat → Prop} {w w' : World} {s g : Nat} {C : Cfg} {B : Nat} {L : Nat → Lev} {ls : Nat → List Int} (h : KAt w s g C B L ls) (hM : Mod S w w') (hS : ∀ k, S k → k < w.heap.size → Wr w k) (hc : ∀ k, cellsOf B L k → ¬ S k) : KAt w' s g C B L ls := by
  refine ⟨?_, ?_, fun n hn => (h.lev n hn).keepS hM hS (hc _ ⟨n, hn, rfl⟩), h.sep, h.ok, h.hB⟩
  · obtain ⟨cap, h1, h2⟩ := h.ex
    exact ⟨cap, hM.keep h1 (fun hs => (hS _ hs h.lts).ne h1 (by decide) (by decide) (by decide) (by decide) (by decide) (by decide) rfl), h2⟩
  · obtain ⟨cur, h1, h2⟩ := h.row
    exact ⟨cur, hM.keep h1 (fun hs => (hS _ hs h.ltg).ne h1 (by decide) (by decide) (by decide) (by decide) (by decide) (by decide) rfl), h2⟩
theorem WAt.keepS {S : Nat → Prop} {w w' : World} {N p b : Nat} {C : Cfg} {B n : Nat} {sm : Bk} {bk : Nat → Bk} (h : WAt w N p b C B n sm bk) (hM : Mod S w w') (hS : ∀ k, S k → k < w.heap.size → Wr w k) (hc : ∀ k, Th.cs (.wi p b C B n sm bk) k → ¬ S k) : WAt w' N p b C B n sm bk := by
  refine ⟨?_, ?_, ?_, fun i hi => ?_, h.sepS, h.sepB, h.n1, h.n2, h.md, h.loP, h.loB, h.loC⟩
  · obtain ⟨cap, h1, h2⟩ := h.st
    exact ⟨cap, hM.keep h1 (hc p (.inl rfl)), h2⟩
  · obtain ⟨cur, h1, h2⟩ := h.row
    exact ⟨cur, hM.keep h1 (hc b (.inr (.inl rfl))), h2⟩
  · exact KAt.keepS h.sum hM hS (fun k hk => hc k (.inr (.inr (.inl hk))))
  · exact KAt.keepS (h.bks i hi) hM hS (fun k hk => hc k (.inr (.inr (.inr ⟨i, hi, hk⟩))))
theorem WAt.mono {w : World} {N M p b : Nat} {C : Cfg} {B n : Nat} {sm : Bk} {bk : Nat → Bk} (h : WAt w N p b C B n sm bk) (hM : M ≤ N) : WAt w M p b C B n sm bk :=
  ⟨h.st, h.row, h.sum, h.bks, h.sepS, h.sepB, h.n1, h.n2, h.md, Nat.le_trans hM h.loP, Nat.le_trans hM h.loB, fun i hi m hm => Nat.le_trans hM (h.loC i hi m hm)⟩
theorem Th.At.keepS {S : Nat → Prop} {w w' : World} {T : Th} (h : T.At w) (hM : Mod S w w') (hS : ∀ k, S k → k < w.heap.size → Wr w k) (hc : ∀ k, T.cs k → ¬ S k) : T.At w' := by
  cases T with
  | st k C B => exact KAt.keepS h hM hS hc
  | wi p b C B n sm bk => exact WAt.keepS h hM hS hc
theorem Th.At.ext {w w' : World} {T : Th} (h : T.At w) (hx : Ext w w') : T.At w' := by
  cases T with
  | st k C B => exact KAt.ext h hx
  | wi p b C B n sm bk => exact WAt.ext h hx
theorem Th.At.wr {w : World} {T : Th} (h : T.At w) {k : Nat} (hk : T.cs k) : Wr w k := by
  have key : ∀ {s g : Nat} {C : Cfg} {B : Nat} {L : Nat → Lev} {ls : Nat → List Int}, KAt w s g C B L ls → cellsOf B L k → Wr w k := fun h hk => by
    obtain ⟨cur, h1⟩ := h.isc hk
    exact .inl ⟨cur, _, _, h1, .inl rfl⟩
  cases T with
  | st k C B => exact key h hk
  | wi p b C B n sm bk =>
    rcases hk with rfl | rfl | hk | ⟨j, hj, hk⟩
    · obtain ⟨cap, h1, _⟩ := h.st; exact .inl ⟨_, _, _, h1, .inr (.inl rfl)⟩
    · obtain ⟨cur, h1, _⟩ := h.row; exact .inl ⟨_, _, _, h1, .inr (.inr (.inl rfl))⟩
    · exact key h.sum hk
    · exact key (h.bks j hj) hk
theorem Wr.lt {w : World} {k : Nat} (h : Wr w k) : k < w.heap.size := by
  rcases h with ⟨_, _, _, h, _⟩ | ⟨_, h, _⟩ <;> exact lt_of h
theorem Th.At.lt {w : World} {T : Th} (h : T.At w) {k : Nat} (hk : T.cs k) : k < w.heap.size := (h.wr hk).lt
/-- An agg at p: its map in block m, its things in rising order, the last number; all that it may touch lies from N on. -/
structure AgAt (w : World) (N p m : Nat) (l : List (Nat × Th)) (last : Nat) : Prop where
  hp : w.heap[p]? = some (.cells #[.map (some m), .int .i64 (last : Int)] 144 (0, 0))
  hm : ∃ n, w.ownsMap Tryz.prog 3 Rh m n (hD (l.map fun x => (x.1, x.2.v))) ∧ n ≤ last
  th : ∀ x ∈ l, x.2.At w
  sep : l.Pairwise fun a b => ∀ k, a.2.cs k → ¬ b.2.cs k
  up : l.Pairwise fun a b => a.1 < b.1
  le : ∀ x ∈ l, x.1 ≤ last
  len : l.length ≤ 32
  lo : N ≤ p ∧ N ≤ m ∧ ∀ x ∈ l, ∀ k, x.2.cs k → N ≤ k
/-- What is done to an agg may touch this. -/
def AgF (p m : Nat) (l : List (Nat × Th)) (k : Nat) : Prop := k = p ∨ k = m ∨ ∃ x ∈ l, x.2.cs k
section
variable {w w' : World} {N p m : Nat} {l : List (Nat × Th)} {last : Nat}
theorem AgAt.ism (h : AgAt w N p m l last) : ∃ es c, w.heap[m]? = some (.map es c) := by
  obtain ⟨n, ⟨es, c, h1, _⟩, _⟩ := h.hm
  exact ⟨es, c, h1⟩
theorem AgAt.wr (h : AgAt w N p m l last) {k : Nat} (hk : AgF p m l k) : Wr w k := by
  rcases hk with rfl | rfl | ⟨x, hx, hk⟩
  · exact .inl ⟨_, _, _, h.hp, .inr (.inr (.inr (.inl rfl)))⟩
  · obtain ⟨es, c, h1⟩ := h.ism; exact .inr ⟨_, h1, rfl⟩
  · exact (h.th x hx).wr hk
theorem AgAt.flt (h : AgAt w N p m l last) {k : Nat} (hk : AgF p m l k) : k < w.heap.size := (h.wr hk).lt
theorem AgAt.flo (h : AgAt w N p m l last) {k : Nat} (hk : AgF p m l k) : N ≤ k := by
  rcases hk with rfl | rfl | ⟨x, hx, hk⟩
  · exact h.lo.1
  · exact h.lo.2.1
  · exact h.lo.2.2 x hx k hk
theorem owns_keep {P : Program} {kt : TypeId} {R : Value → Option (DataW Value × List MemPlace)} {b n : Nat} {D : DataW Value} (h : w.ownsMap P kt R b n D) (hb : w'.heap[b]? = w.heap[b]?) : w'.ownsMap P kt R b n D := by
  obtain ⟨es, c, h1, h2⟩ := h
  exact ⟨es, c, hb.trans h1, h2⟩
/-- What is done elsewhere leaves an agg. -/
theorem AgAt.keepS {S : Nat → Prop} (h : AgAt w N p m l last) (hM : Mod S w w') (hS : ∀ k, S k → k < w.heap.size → Wr w k) (hc : ∀ k, AgF p m l k → ¬ S k) : AgAt w' N p m l last := by
  refine ⟨hM.keep h.hp (hc p (.inl rfl)), ?_, fun x hx => (h.th x hx).keepS hM hS (fun k hk => hc k (.inr (.inr ⟨x, hx, hk⟩))), h.sep, h.up, h.le, h.len, h.lo⟩
  obtain ⟨n, h1, h2⟩ := h.hm
  exact ⟨n, owns_keep h1 (hM.block _ h1.lt (hc m (.inr (.inl rfl)))), h2⟩
theorem AgAt.ext (h : AgAt w N p m l last) (hx : Ext w w') : AgAt w' N p m l last :=
  h.keepS (hx.mod fun _ => False) (fun _ hf => hf.elim) (fun _ _ hf => hf)
theorem AgAt.ltp (h : AgAt w N p m l last) : p < w.heap.size := lt_of h.hp
theorem AgAt.below (h : AgAt w N p m l last) (hM : Mod (AgF p m l) w w') : Below N w w' :=
  hM.below (Nat.le_trans h.lo.1 (Nat.le_of_lt h.ltp)) (fun k hk => h.flo hk)
end
/-- The state of an agg, without its places. -/
structure St where
  l : List (Nat × AT)
  last : Nat
def stOf (l : List (Nat × Th)) (last : Nat) : St := ⟨l.map fun x => (x.1, x.2.ab), last⟩
/-- A thing of a handle. -/
def fnd (l : List (Nat × Th)) (k : Int) : Option (Nat × Th) := l.find? fun x => decide ((x.1 : Int) = k)
theorem fnd_map (l : List (Nat × Th)) (k : Int) : (l.map fun x => (x.1, x.2.v)).find? (keyB k) = (fnd l k).map fun x => (x.1, x.2.v) := by
  unfold fnd
  rw [List.find?_map]
  rfl
theorem fnd_ab (l : List (Nat × Th)) (k : Int) : (l.map fun x => (x.1, x.2.ab)).find? (fun x => decide ((x.1 : Int) = k)) = (fnd l k).map fun x => (x.1, x.2.ab) := by
  unfold fnd
  rw [List.find?_map]
  rfl
theorem fnd_mem {l : List (Nat × Th)} {k : Int} {x : Nat × Th} (h : fnd l k = some x) : x ∈ l ∧ (x.1 : Int) = k :=
  ⟨List.mem_of_find?_eq_some h, by simpa using List.find?_some h⟩
def zT : Value := .agg #[.pointer none, .pointer none]
theorem zT_run (w : World) : (zeroValue 152).run Tryz.prog w = .ok zT w := Tryz.zeroValue152 w
section
variable {w w' : World} {N p m : Nat} {l : List (Nat × Th)} {last : Nat}
theorem AgAt.look (h : AgAt w N p m l last) {k : Int} (hk : I64 k) {x : Nat × Th} (hx : fnd l k = some x) :
    (Instr.lookup 142 (.map (some m)) (.int .i64 k) true).run Tryz.prog w = .ok (.tuple #[x.2.v, .bool true]) w ∧ (Instr.lookup 142 (.map (some m)) (.int .i64 k) false).run Tryz.prog w = .ok x.2.v w := by
  obtain ⟨n, h1, _⟩ := h.hm
  exact look_yes h1 Tryz.underlying3 Tryz.underlying142 (zT_run w) hk (x := (x.1, x.2.v)) (by rw [fnd_map, hx]; rfl)
theorem AgAt.lookno (h : AgAt w N p m l last) {k : Int} (hk : I64 k) (hx : fnd l k = none) :
    (Instr.lookup 142 (.map (some m)) (.int .i64 k) true).run Tryz.prog w = .ok (.tuple #[zT, .bool false]) w := by
  obtain ⟨n, h1, _⟩ := h.hm
  exact look_no h1 Tryz.underlying3 Tryz.underlying142 (zT_run w) hk (by rw [fnd_map, hx]; rfl)
end
end Go.Proofs.YtmalncfcgcebhaaGreatDoor
namespace Go.Proofs.YtmalncfcgcebhaaGreatDoor
set_option linter.unusedVariables false
open Go.Proofs Go.RowKit
/-- A block of a thing is one of cells, and not the agg's own. -/
theorem Th.At.csT {w : World} {T : Th} (h : T.At w) {k : Nat} (hk : T.cs k) : ∃ cur t f, w.heap[k]? = some (.cells cur t f) ∧ t ≠ 144 := by
  have key : ∀ {s g : Nat} {C : Cfg} {B : Nat} {L : Nat → Lev} {ls : Nat → List Int}, KAt w s g C B L ls → cellsOf B L k → ∃ cur t f, w.heap[k]? = some (.cells cur t f) ∧ t ≠ 144 := fun h hk => by
    obtain ⟨cur, h1⟩ := h.isc hk
    exact ⟨cur, _, _, h1, by decide⟩
  cases T with
  | st kk C B => exact key h hk
  | wi p b C B n sm bk =>
    rcases hk with rfl | rfl | hk | ⟨j, hj, hk⟩
    · obtain ⟨cap, h1, _⟩ := h.st; exact ⟨_, _, _, h1, by decide⟩
    · obtain ⟨cur, h1, _⟩ := h.row; exact ⟨_, _, _, h1, by decide⟩
    · exact key h.sum hk
    · exact key (h.bks j hj) hk
theorem vs_app (l : List (Nat × Th)) (k : Nat) (T : Th) : (l ++ [(k, T)]).map (fun x => (x.1, x.2.v)) = l.map (fun x => (x.1, x.2.v)) ++ [(k, T.v)] := by simp
section
variable {w w' : World} {N p m : Nat} {l : List (Nat × Th)} {last : Nat}
theorem AgAt.apart (h : AgAt w N p m l last) {T : Th} (hT : T.At w) {k : Nat} (hk : T.cs k) : k ≠ p ∧ k ≠ m := by
  obtain ⟨cur, t, f, h1, h2⟩ := hT.csT hk
  obtain ⟨es, c, hm⟩ := h.ism
  refine ⟨?_, ?_⟩
  · rintro rfl
    exact blk_ne h1 h.hp h2 rfl
  · rintro rfl
    rw [h1] at hm; cases hm
theorem AgAt.pm (h : AgAt w N p m l last) : p ≠ m := by
  rintro rfl
  obtain ⟨es, c, hm⟩ := h.ism
  have := h.hp
  rw [hm] at this; cases this
/-- A thing more. -/
theorem AgAt.more {T : Th} (h : AgAt w N p m l last) (hT : T.At w) (hf : ∀ k, T.cs k → ¬ AgF p m l k) (hN : ∀ k, T.cs k → N ≤ k) (hlen : l.length < 32) {n : Nat}
    (hp : w'.heap[p]? = some (.cells #[.map (some m), .int .i64 ((last + 1 : Nat) : Int)] 144 (0, 0)))
    (hm : w'.ownsMap Tryz.prog 3 Rh m n ((hD (l.map fun x => (x.1, x.2.v))).put (.int .i64 ((last + 1 : Nat) : Int)) (.held T.v))) (hn : n ≤ last + 1) (hM : Mod (fun k => k = p ∨ k = m) w w') :
    AgAt w' N p m (l ++ [(last + 1, T)]) (last + 1) := by
  have hS : ∀ k, (k = p ∨ k = m) → k < w.heap.size → Wr w k := by
    rintro k hk _
    rcases hk with rfl | rfl
    · exact h.wr (.inl rfl)
    · exact h.wr (.inr (.inl rfl))
  rw [hD_put _ _ _ (by
    intro x hx
    obtain ⟨y, hy, rfl⟩ := List.mem_map.1 hx
    have := h.le y hy
    show y.1 < last + 1
    omega), ← vs_app] at hm
  refine ⟨hp, ⟨n, hm, hn⟩, ?_, ?_, ?_, ?_, ?_, h.lo.1, h.lo.2.1, ?_⟩
  · intro x hx
    rcases List.mem_append.1 hx with hx | hx
    · exact (h.th x hx).keepS hM hS (fun k hk hkk => by have := h.apart (h.th x hx) hk; omega)
    · simp only [List.mem_singleton] at hx
      subst hx
      exact Th.At.keepS hT hM hS (fun k hk hkk => by have := h.apart hT hk; omega)
  · rw [List.pairwise_append]
    refine ⟨h.sep, List.pairwise_singleton _ _, fun a ha b hb k h1 h2 => ?_⟩
    simp only [List.mem_singleton] at hb
    subst hb
    exact hf k h2 (.inr (.inr ⟨a, ha, h1⟩))
  · rw [List.pairwise_append]
    refine ⟨h.up, List.pairwise_singleton _ _, fun a ha b hb => ?_⟩
    simp only [List.mem_singleton] at hb
    subst hb
    have := h.le a ha
    show a.1 < last + 1
    omega
  · intro x hx
    rcases List.mem_append.1 hx with hx | hx
    · have := h.le x hx; omega
    · simp only [List.mem_singleton] at hx
      subst hx
      exact Nat.le_refl _
  · simp; omega
  · intro x hx k hk
    rcases List.mem_append.1 hx with hx | hx
    · exact h.lo.2.2 x hx k hk
    · simp only [List.mem_singleton] at hx
      subst hx
      exact hN k hk
/-- The things but one. -/
def dropL {α : Type} (l : List (Nat × α)) (k : Int) : List (Nat × α) := l.filter fun x => !decide ((x.1 : Int) = k)
theorem vs_drop (l : List (Nat × Th)) (k : Int) : (dropL l k).map (fun x => (x.1, x.2.v)) = (l.map fun x => (x.1, x.2.v)).filter fun x => !keyB k x := by
  unfold dropL
  rw [List.filter_map]
  rfl
theorem ab_drop (l : List (Nat × Th)) (k : Int) : (dropL l k).map (fun x => (x.1, x.2.ab)) = dropL (l.map fun x => (x.1, x.2.ab)) k := by
  unfold dropL
  rw [List.filter_map]
  rfl
theorem AgAt.less {k : Int} (h : AgAt w N p m l last) {n : Nat} (hm : w'.ownsMap Tryz.prog 3 Rh m n ((hD (l.map fun x => (x.1, x.2.v))).del (.int .i64 k))) (hn : n ≤ last) (hM : Mod (fun k => k = m) w w') : AgAt w' N p m (dropL l k) last := by
  rw [hD_del, ← vs_drop] at hm
  have hsub : ∀ x ∈ dropL l k, x ∈ l := fun x hx => (List.mem_filter.1 hx).1
  have hS : ∀ k, k = m → k < w.heap.size → Wr w k := by
    rintro k rfl _; exact h.wr (.inr (.inl rfl))
  exact ⟨hM.keep h.hp h.pm, ⟨n, hm, hn⟩, fun x hx => (h.th x (hsub x hx)).keepS hM hS (fun k hk => (h.apart (h.th x (hsub x hx)) hk).2), h.sep.sublist List.filter_sublist, h.up.sublist List.filter_sublist, fun x hx => h.le x (hsub x hx), Nat.le_trans (List.length_filter_le _ _) h.len, h.lo.1, h.lo.2.1, fun x hx => h.lo.2.2 x (hsub x hx)⟩
theorem agF_drop {k : Int} {i : Nat} (h : AgF p m (dropL l k) i) : AgF p m l i := by
  rcases h with h | h | ⟨x, hx, h⟩
  · exact .inl h
  · exact .inr (.inl h)
  · exact .inr (.inr ⟨x, (List.mem_filter.1 hx).1, h⟩)
/-- One thing is changed in its place. -/
def setL {α : Type} (l : List (Nat × α)) (h : Nat) (x : α) : List (Nat × α) := l.map fun y => if y.1 = h then (h, x) else y
theorem setL_at {α : Type} {a b : List (Nat × α)} {h : Nat} {y x : α} (hu : (a ++ (h, y) :: b).Pairwise fun u v => u.1 < v.1) : setL (a ++ (h, y) :: b) h x = a ++ (h, x) :: b := by
  rw [List.pairwise_append, List.pairwise_cons] at hu
  obtain ⟨_, ⟨h2, _⟩, h3⟩ := hu
  unfold setL
  rw [List.map_append, List.map_cons, if_pos rfl]
  congr 1
  · conv => rhs; rw [← List.map_id a]
    apply List.map_congr_left
    intro z hz
    have := h3 z hz (h, y) (by simp)
    rw [if_neg (by show z.1 ≠ h; have : z.1 < h := this; omega)]
    rfl
  · congr 1
    conv => rhs; rw [← List.map_id b]
    apply List.map_congr_left
    intro z hz
    have := h2 z hz
    rw [if_neg (by show z.1 ≠ h; have : h < z.1 := this; omega)]
    rfl
theorem setL_ab (l : List (Nat × Th)) (h : Nat) (T : Th) : (setL l h T).map (fun x => (x.1, x.2.ab)) = setL (l.map fun x => (x.1, x.2.ab)) h T.ab := by
  unfold setL
  rw [List.map_map, List.map_map]
  apply List.map_congr_left
  intro x _
  show (fun x : Nat × Th => (x.1, x.2.ab)) (if x.1 = h then (h, T) else x) = (if x.1 = h then (h, T.ab) else (x.1, x.2.ab))
  by_cases e : x.1 = h
  · rw [if_pos e, if_pos e]
  · rw [if_neg e, if_neg e]
theorem fnd_split {l : List (Nat × Th)} {k : Int} {x : Nat × Th} (h : fnd l k = some x) : ∃ a b, l = a ++ x :: b := by
  obtain ⟨h1, _⟩ := fnd_mem h
  obtain ⟨a, b, rfl⟩ := List.append_of_mem h1
  exact ⟨a, b, rfl⟩
theorem AgAt.chg {h0 : Nat} {T0 T : Th} {a b : List (Nat × Th)} (h : AgAt w N p m (a ++ (h0, T0) :: b) last) (hv : T.v = T0.v) (hT : T.At w') (hM : Mod T0.cs w w') (hf : ∀ k, T.cs k → T0.cs k ∨ w.heap.size ≤ k) : AgAt w' N p m (a ++ (h0, T) :: b) last := by
  have hT0 := h.th (h0, T0) (by simp)
  have hS : ∀ k, T0.cs k → k < w.heap.size → Wr w k := fun k hk _ => hT0.wr hk
  have hsep := h.sep
  rw [List.pairwise_append, List.pairwise_cons] at hsep
  obtain ⟨s1, ⟨s2, s3⟩, s4⟩ := hsep
  have hold : ∀ x, x ∈ a ∨ x ∈ b → x.2.At w ∧ ∀ k, x.2.cs k → ¬ T0.cs k := by
    rintro x (hx | hx)
    · exact ⟨h.th x (by simp [hx]), fun k hk hk0 => s4 x hx (h0, T0) (by simp) k hk hk0⟩
    · exact ⟨h.th x (by simp [hx]), fun k hk hk0 => s2 x hx k hk0 hk⟩
  have hnew : ∀ x, x ∈ a ∨ x ∈ b → ∀ k, x.2.cs k → ¬ T.cs k := fun x hx k hk hk2 => by
    rcases hf k hk2 with h5 | h5
    · exact (hold x hx).2 k hk h5
    · have := (hold x hx).1.lt hk; omega
  have hup := h.up
  rw [List.pairwise_append, List.pairwise_cons] at hup
  obtain ⟨u1, ⟨u2, u3⟩, u4⟩ := hup
  obtain ⟨n, hm, hn⟩ := h.hm
  have evs : (a ++ (h0, T) :: b).map (fun x => (x.1, x.2.v)) = (a ++ (h0, T0) :: b).map fun x => (x.1, x.2.v) := by simp [hv]
  refine ⟨hM.keep h.hp (fun e => (h.apart hT0 e).1 rfl), ⟨n, ?_, hn⟩, ?_, ?_, ?_, ?_, by have := h.len; simpa using this, h.lo.1, h.lo.2.1, ?_⟩
  · rw [evs]
    exact owns_keep hm (hM.block _ hm.lt (fun e => (h.apart hT0 e).2 rfl))
  · intro x hx
    rcases List.mem_append.1 hx with hx | hx
    · exact (hold x (.inl hx)).1.keepS hM hS (hold x (.inl hx)).2
    · rcases List.mem_cons.1 hx with rfl | hx
      · exact hT
      · exact (hold x (.inr hx)).1.keepS hM hS (hold x (.inr hx)).2
  · rw [List.pairwise_append, List.pairwise_cons]
    refine ⟨s1, ⟨fun x hx k hk hk2 => hnew x (.inr hx) k hk2 hk, s3⟩, fun x hx y hy => ?_⟩
    rcases List.mem_cons.1 hy with rfl | hy
    · exact hnew x (.inl hx)
    · exact s4 x hx y (by simp [hy])
  · rw [List.pairwise_append, List.pairwise_cons]
    refine ⟨u1, ⟨u2, u3⟩, fun x hx y hy => ?_⟩
    rcases List.mem_cons.1 hy with rfl | hy
    · exact u4 x hx (h0, T0) (by simp)
    · exact u4 x hx y (by simp [hy])
  · intro x hx
    rcases List.mem_append.1 hx with hx | hx
    · exact h.le x (by simp [hx])
    · rcases List.mem_cons.1 hx with rfl | hx
      · exact h.le (h0, T0) (by simp)
      · exact h.le x (by simp [hx])
  · intro x hx k hk
    rcases List.mem_append.1 hx with hx | hx
    · exact h.lo.2.2 x (by simp [hx]) k hk
    · rcases List.mem_cons.1 hx with rfl | hx
      · rcases hf k hk with h5 | h5
        · exact h.lo.2.2 (h0, T0) (by simp) k h5
        · have := h.ltp; have := h.lo.1; omega
      · exact h.lo.2.2 x (by simp [hx]) k hk
end
end Go.Proofs.YtmalncfcgcebhaaGreatDoor
namespace Go.Proofs.YtmalncfcgcebhaaGreatDoor
set_option linter.unusedVariables false
open Go.RowKit
/-- A piece that was found: its level, its number, and what is told of it. -/
abbrev Fd := Nat × Int × Int
def fdV (fs : List Fd) : List Value := fs.flatMap fun f => [.int .i64 (f.1 : Int), .int .u64 f.2.1, .int .i64 f.2.2]
end Go.Proofs.YtmalncfcgcebhaaGreatDoor
namespace Go.Proofs.YtmalncfcgcebhaaGreatDoor
set_option linter.unusedVariables false
open Go.Proofs Go.RowKit
/-- A reply. -/
inductive Rep where
  | done
  | handle (h : Int)
  | number (n : Int)
  | key (k : Int)
  | wide (x : Int)
  | list (D : List Fd)
  | bytes (bs : List Int)
/-- A reply in memory: its slices lie from base on. -/
def RepAt (base : Nat) (w : World) (v : Value) : Rep → Prop
  | .done => v = .iface 134 (.agg #[])
  | .handle h => v = .iface 190 (.agg #[.int .i64 h])
  | .number n => v = .iface 132 (.agg #[.int .i64 n])
  | .key k => v = .iface 137 (.agg #[.int .u64 k])
  | .wide x => v = .iface 196 (.agg #[.int .i64 (hi x), .int .u64 (lo x)])
  | .list D => ∃ s, v = .iface 141 (.agg #[s]) ∧ w.ownsRow base 203 3 s D.length (fdV D)
  | .bytes bs => ∃ s, v = .iface 204 (.agg #[s]) ∧ w.ownsRow base 5 1 s bs.length (u8V bs)
def RepOAt (base : Nat) (w : World) (v : Value) : Option Rep → Prop
  | none => v = .nilIface
  | some r => RepAt base w v r
theorem RepAt.ext {base : Nat} {w w' : World} {v : Value} {r : Rep} (h : RepAt base w v r) (hx : Ext w w') : RepAt base w' v r := by
  cases r with
  | list D => obtain ⟨s, h1, h2⟩ := h; exact ⟨s, h1, own_ext h2 hx⟩
  | bytes bs => obtain ⟨s, h1, h2⟩ := h; exact ⟨s, h1, own_ext h2 hx⟩
  | done => exact h
  | handle => exact h
  | number => exact h
  | key => exact h
  | wide => exact h
theorem RepOAt.ext {base : Nat} {w w' : World} {v : Value} {r : Option Rep} (h : RepOAt base w v r) (hx : Ext w w') : RepOAt base w' v r := by
  cases r with
  | none => exact h
  | some r => exact RepAt.ext h hx
/-- A command is done: the reply, the error, what is left. -/
structure DoPost (w : World) (N p m : Nat) (l : List (Nat × Th)) (last : Nat) (R : (Option Rep × Int) × St) (e : Ending) (w' : World) : Prop where
  ex : ∃ v l' last', e = .returned (.tuple #[v, .int .i64 R.1.2]) ∧ RepOAt w.heap.size w' v R.1.1 ∧ AgAt w' N p m l' last' ∧ stOf l' last' = R.2 ∧ ∀ k, AgF p m l' k → AgF p m l k ∨ w.heap.size ≤ k
  md : Mod (AgF p m l) w w'
/-- A thing has a handle from now on. -/
def madeF (S : St) (T : AT) : (Option Rep × Int) × St :=
  if 32 ≤ S.l.length then ((none, 11), S) else ((some (.handle ((S.last + 1 : Nat) : Int)), 0), ⟨S.l ++ [(S.last + 1, T)], S.last + 1⟩)
/-- The reply of what has nothing to tell. -/
def doneF (e : Int) : Option Rep × Int := if e = 0 then (some .done, 0) else (none, e)
theorem stOf_app (l : List (Nat × Th)) (last : Nat) (T : Th) : stOf (l ++ [(last + 1, T)]) (last + 1) = ⟨(stOf l last).l ++ [(last + 1, T.ab)], last + 1⟩ := by unfold stOf; simp
theorem stOf_len (l : List (Nat × Th)) (last : Nat) : (stOf l last).l.length = l.length := by unfold stOf; simp
theorem agF_more {p m : Nat} {l : List (Nat × Th)} {h : Nat} {T : Th} {k : Nat} (hk : AgF p m (l ++ [(h, T)]) k) : AgF p m l k ∨ T.cs k := by
  rcases hk with h | h | ⟨x, hx, h⟩
  · exact .inl (.inl h)
  · exact .inl (.inr (.inl h))
  · rcases List.mem_append.1 hx with hx | hx
    · exact .inl (.inr (.inr ⟨x, hx, h⟩))
    · simp only [List.mem_singleton] at hx
      subst hx
      exact .inr h
theorem DoPost.same {w w' : World} {N p m : Nat} {l : List (Nat × Th)} {last : Nat} (h : AgAt w N p m l last) (hx : Ext w w') {v : Value} {r : Option Rep} {c : Int} (hv : RepOAt w.heap.size w' v r) : DoPost w N p m l last ((r, c), stOf l last) (.returned (.tuple #[v, .int .i64 c])) w' :=
  ⟨⟨v, l, last, rfl, hv, h.ext hx, rfl, fun k hk => .inl hk⟩, hx.mod _⟩
end Go.Proofs.YtmalncfcgcebhaaGreatDoor
namespace Go.Proofs.YtmalncfcgcebhaaGreatDoor
set_option linter.unusedVariables false
open Go.Proofs Go.RowKit
theorem cat_data (x y : ByteArray) : (x ++ y).data.toList = x.data.toList ++ y.data.toList := by
  rw [ByteArray.data_append, Array.toList_append]
theorem cat_str (a b : List UInt8) : (⟨a.toArray⟩ ++ ⟨b.toArray⟩ : ByteArray) = ⟨(a ++ b).toArray⟩ := by
  have h := cat_data ⟨a.toArray⟩ ⟨b.toArray⟩
  simp only [List.toList_toArray] at h
  generalize (⟨a.toArray⟩ ++ ⟨b.toArray⟩ : ByteArray) = z at *
  obtain ⟨z⟩ := z
  rw [← h]
/-- 'error ' and a number. -/
def errT (e : Int) : List UInt8 := [101, 114, 114, 111, 114, 32] ++ Lib.itoa e
theorem Error_c (e : Int) (he : I64 e) (w : World) (hT : Tabs w) :
    Calls Tryz.prog 44 #[.int .i64 e] w fun r w' => r = .returned (strV (errT e)) ∧ Ext w w' := by
  have HI := Lib.hid (Itoa_c e he w hT)
  have hil := Lib.itoa_length_le e he.1 he.2
  go_enter Tryz.func44, Tryz.ntmps44
  go_wp2_with fail
  refine Calls.mono HI.out ?_
  rintro r w1 ⟨rfl, hx⟩
  unfold strV
  go_wp2
  go_ret
  exact ⟨by unfold strV errT; rw [← cat_str]; rfl, hx⟩
theorem ADone_c (e : Int) (w : World) :
    Calls Tryz.prog 124 #[.int .i64 e] w fun r w' => ∃ v, r = .returned (.tuple #[v, .int .i64 (doneF e).2]) ∧ (∀ base w2, RepOAt base w2 v (doneF e).1) ∧ Ext w w' := by
  by_cases h : e = 0
  · subst h
    go_enter Tryz.func124, Tryz.ntmps124
    go_wp2
    go_ret2
    exact ⟨_, rfl, fun _ _ => rfl, Ext.refl w⟩
  · have hf : doneF e = (none, e) := by unfold doneF; rw [if_neg h]
    rw [hf]
    have hn : (e != 0) = true := by simpa using h
    clear h hf
    go_enter Tryz.func124, Tryz.ntmps124
    go_wp2
    go_ret2
    exact ⟨_, rfl, fun _ _ => rfl, Ext.refl w⟩
theorem agN_new (w : World) (N : Nat) (hN : N ≤ w.heap.size) : AgAt ((w.alloc (.map #[] 0)).alloc (.cells #[.map (some w.heap.size), .int .i64 0] 144)) N (w.heap.size + 1) w.heap.size [] 0 := by
  refine ⟨heap_at _ _ (by simp), ⟨0, ?_, Nat.le_refl _⟩, fun x hx => by simp at hx, List.Pairwise.nil, List.Pairwise.nil, fun x hx => by simp at hx, by simp, by omega, by omega, fun x hx => by simp at hx⟩
  exact (World.ownsMap_made w _ _ _).alloc _
theorem ANew_c (w : World) :
    Calls Tryz.prog 34 #[] w fun r w' => r = .returned (.pointer (some ⟨w.heap.size + 1, 0, none⟩)) ∧ AgAt w' w.heap.size (w.heap.size + 1) w.heap.size [] 0 ∧ Ext w w' := by
  have hmm := run_makeMap (P := Tryz.prog) 142 w
  go_enter Tryz.func34, Tryz.ntmps34
  go_wp2
  go_ret
  exact ⟨rfl, agN_new w _ (Nat.le_refl _), (Ext.alloc' _ _).allocR _⟩
end Go.Proofs.YtmalncfcgcebhaaGreatDoor
namespace Go.Proofs.YtmalncfcgcebhaaGreatDoor
set_option linter.unusedVariables false
open Go.Proofs Go.RowKit
theorem Th.v_two (T : Th) : ∃ x y, T.v = .agg #[.pointer x, .pointer y] := by cases T <;> exact ⟨_, _, rfl⟩
theorem turn_mod {w w' : World} {b : Nat} (h : w.mapTurned w' b) : Mod (fun k => k = b) w w' := by
  have hg := h.grown
  exact ⟨hg.os, hg.tape, hg.output, hg.size, fun k hk hn => hg.block k hk (fun e => hn (by cases e; rfl))⟩
theorem AMade_err (p : Nat) (x y : Option Addr) (c : Int) (hc : c ≠ 0) (w : World) :
    Calls Tryz.prog 82 #[.pointer (some ⟨p, 0, none⟩), .agg #[.pointer x, .pointer y], .int .i64 c] w fun e w' => e = .returned (.tuple #[.nilIface, .int .i64 c]) ∧ Ext w w' := by
  have hn : (c != 0) = true := by simpa using hc
  clear hc
  go_enter Tryz.func82, Tryz.ntmps82
  go_wp2
  go_ret2
  exact ⟨rfl, Ext.alloc' _ _⟩
set_option maxRecDepth 20000 in
set_option maxHeartbeats 4000000 in
theorem AMade_c {w : World} {N p m : Nat} {l : List (Nat × Th)} {last : Nat} (h : AgAt w N p m l last) (T : Th) (hT : T.At w) (hf : ∀ k, T.cs k → ¬ AgF p m l k) (hN : ∀ k, T.cs k → N ≤ k) (hl : last < 1000000) :
    Calls Tryz.prog 82 #[.pointer (some ⟨p, 0, none⟩), T.v, .int .i64 0] w (fun e w' => ∃ v l' last', e = .returned (.tuple #[v, .int .i64 (madeF (stOf l last) T.ab).1.2]) ∧ (∀ base w2, RepOAt base w2 v (madeF (stOf l last) T.ab).1.1) ∧ AgAt w' N p m l' last' ∧ stOf l' last' = (madeF (stOf l last) T.ab).2 ∧ (∀ k, AgF p m l' k → AgF p m l k ∨ T.cs k) ∧ Mod (AgF p m l) w w') := by
  obtain ⟨x, y, hv⟩ := T.v_two
  have HL := Lib.hid h
  have hpl := h.ltp
  obtain ⟨nn, hown, hnn⟩ := h.hm
  have hml := hown.lt
  have c0 := (cell_of h.hp 0).trans rfl
  have c1 := (cell_of h.hp 1).trans rfl
  have f1 := frozen_of h.hp 1
  have hsz : Maps.size (hD (l.map fun x => (x.1, x.2.v))) = l.length := by rw [hD_size, List.length_map]
  have HW := Lib.hid hown
  have HT := Lib.hid hT
  clear h hown hT
  by_cases hlen : 32 ≤ l.length
  · have hm : madeF (stOf l last) T.ab = ((none, 11), stOf l last) := by unfold madeF; rw [stOf_len, if_pos hlen]
    rw [hm]
    rw [hv]
    have hge : decide ((32 : Int) ≤ (l.length : Int)) = true := decide_eq_true (by omega)
    clear hm
    go_enter Tryz.func82, Tryz.ntmps82
    go_wp2_with (at_len; refine wpList_len_own _ rfl _ 142 rfl 3 152 Tryz.underlying142 Rh m nn _ rfl (HW.out.alloc _) ?_; rw [hsz])
    go_ret2
    exact ⟨_, l, last, rfl, fun _ _ => rfl, HL.out.ext (Ext.alloc' _ _), rfl, fun k hk => .inl hk, (Ext.alloc' _ _).mod _⟩
  · have hm : madeF (stOf l last) T.ab = ((some (.handle ((last + 1 : Nat) : Int)), 0), stOf (l ++ [(last + 1, T)]) (last + 1)) := by
      unfold madeF; rw [stOf_len, if_neg hlen, stOf_app]; rfl
    rw [hm]
    rw [hv]
    have hge : decide ((32 : Int) ≤ (l.length : Int)) = false := decide_eq_false (by omega)
    clear hm
    obtain ⟨k, hk⟩ : ∃ k : Nat, (last : Int) + 1 = (k : Int) := ⟨last + 1, by omega⟩
    have HKL := Lib.hid (show k = last + 1 by omega)
    have hkl : (k : Int) ≤ 2000000 := by omega
    go_enter Tryz.func82, Tryz.ntmps82
    go_wp2_with (at_len; refine wpList_len_own _ rfl _ 142 rfl 3 152 Tryz.underlying142 Rh m nn _ rfl (HW.out.alloc _) ?_; rw [hsz])
    obtain ⟨W0, hW0⟩ : ∃ W0, w.setCell ⟨p, 1, none⟩ (.int .i64 (k : Int)) = W0 := ⟨_, rfl⟩
    have hs0 : W0.heap.size = w.heap.size := by rw [← hW0, size_setCell]
    have hp0 : W0.heap[p]? = some (.cells #[.map (some m), .int .i64 (k : Int)] 144 (0, 0)) := by rw [← hW0]; exact setCell_same HL.out.hp 1 _
    have hm0 : Mod (fun k => k = p) w W0 := by rw [← hW0]; exact ⟨rfl, rfl, rfl, by rw [size_setCell]; exact Nat.le_refl _, fun k hk hn => setCell_other _ _ hn⟩
    obtain ⟨W1, hW1⟩ : ∃ W1, W0.alloc (.cells #[.pointer x, .pointer y] 152) = W1 := ⟨_, rfl⟩
    have hx1 : Ext W0 W1 := by rw [← hW1]; exact Ext.alloc' _ _
    have hp1 := hx1.keep hp0
    have hb1 : W1.heap[w.heap.size]? = some (.cells #[.pointer x, .pointer y] 152 (0, 0)) := by rw [← hW1, ← hs0]; exact heap_at _ _ rfl
    have hm1 : Mod (fun k => k = p) w W1 := hm0.extR hx1
    have hown1 : W1.ownsMap Tryz.prog 3 Rh m nn (hD (l.map fun x => (x.1, x.2.v))) := owns_keep HW.out (hm1.block m hml (fun e => HL.out.pm e.symm))
    rw [hW0, hW1]
    have p0 := (cell_of hp1 0).trans rfl
    have p1 := (cell_of hp1 1).trans rfl
    have pl1 := lt_of hp1
    have b0 := (cell_of hb1 0).trans rfl
    have b1 := (cell_of hb1 1).trans rfl
    have bl1 := lt_of hb1
    have HP1 := Lib.hid hp1
    have HM1 := Lib.hid hm1
    have HO1 := Lib.hid hown1
    clear hx1 hp0 hm0 hm1 hown1 hs0 hW0 hW1 c0 c1 f1 hp1 hb1
    have hC0 := af_drew W1
    refine pi_start (fun w' => ∃ x : After W1, w' = x.w) [9] (by kernel_rfl) ?_
    refine pi_t 0 rfl (by kernel_rfl) (by kernel_rfl) (fun _ _ _ _ h => h) (fun K hK => ?_)
    go_big_quiet_op
    refine hK _ ?_
    clear hK K
    refine pi_t 1 rfl (by kernel_rfl) (by kernel_rfl) (fun _ _ _ _ h => h) (fun K hK => ?_)
    go_big_quiet_op
    refine hK _ ?_
    clear hK K
    refine pi_t 2 rfl (by kernel_rfl) (by kernel_rfl) (fun _ _ _ _ h => h) (fun K hK => ?_)
    go_big_quiet_op
    refine hK _ ?_
    clear hK K
    refine pi_t 4 rfl (by kernel_rfl) (by kernel_rfl) (fun _ _ _ _ h => h) (fun K hK => ?_)
    go_big_quiet_op
    refine hK _ ?_
    clear hK K
    refine pi_t 5 rfl (by kernel_rfl) (by kernel_rfl) (fun _ _ _ _ h => h) (fun K hK => ?_)
    go_big_quiet_op
    refine hK _ ?_
    clear hK K
    refine pi_t 6 rfl (by kernel_rfl) (by kernel_rfl) (fun _ _ _ _ h => h) (fun K hK => ?_)
    go_big_quiet_op
    refine hK _ ?_
    clear hK K
    refine pi_c 3 (by assumption) rfl (by kernel_rfl) (by kernel_rfl) (fun _ _ _ _ h => h) (fun K hK => ?_)
    go_big_quiet_op
    refine hK _ ?_
    clear hK K
    refine pi_c 7 (by assumption) rfl (by kernel_rfl) (by kernel_rfl) (fun _ _ _ _ h => h) (fun K hK => ?_)
    go_big_quiet_op
    refine hK _ ?_
    clear hK K
    refine pi_c 8 (by assumption) rfl (by kernel_rfl) (by kernel_rfl) (fun _ _ _ _ h => h) (fun K hK => ?_)
    go_big_quiet_op
    refine hK _ ?_
    clear hK K
    refine pi_l 9 rfl (by kernel_rfl) (fun K hK => ?_)
    refine wpList_mapUpdate_in _ rfl _ _ _ 142 rfl 3 152 (Maps.int_keyed Tryz.underlying3) Tryz.underlying142 Rh m nn _ rfl HO1.out.drew (by unfold maxLen; omega) _ _ _ rfl rfl (key_int _ _ Tryz.underlying3 _ ⟨by omega, by omega⟩) _ [] rfl ?_
    intro w2 hown2 hturn
    have hM2 : Mod (fun k => k = m) W1 w2 := ⟨(turn_mod hturn).os, (turn_mod hturn).tape, (turn_mod hturn).output, (turn_mod hturn).size, (turn_mod hturn).block⟩
    have hp2 := hM2.keep HP1.out HL.out.pm
    have q1 := (cell_of hp2 1).trans rfl
    have ql := lt_of hp2
    have HP2 := Lib.hid hp2
    have HM2 := Lib.hid hM2
    have HO2 := Lib.hid hown2
    clear hown2 hturn hM2 hp2 p0 p1 pl1 b0 b1 bl1
    go_wp2
    refine hK _ _ (by simp) ?_
    clear hK K
    refine pi_end (by kernel_rfl) ?_
    go_wp2
    go_ret2
    have hkk := HKL.out
    subst hkk
    have hM : Mod (fun k => k = p ∨ k = m) w w2 := (HM1.out.mono (fun k hk _ => .inl hk)).trans (HM2.out.mono (fun k hk _ => .inr hk))
    have hO := HO2.out
    rw [← hv] at hO
    refine ⟨_, l ++ [(last + 1, T)], last + 1, rfl, fun _ _ => rfl, HL.out.more HT.out hf hN (by omega) HP2.out hO (by omega) hM, rfl, fun k hk => agF_more hk, hM.mono fun k hk _ => ?_⟩
    rcases hk with rfl | rfl
    · exact .inl rfl
    · exact .inr (.inl rfl)
end Go.Proofs.YtmalncfcgcebhaaGreatDoor
namespace Go.Proofs.YtmalncfcgcebhaaGreatDoor
set_option linter.unusedVariables false
open Go.Proofs Go.RowKit
@[go_sem] theorem ta_c00 (v : Value) (w : World) : (Instr.typeAssert (.iface 167 v) 85 167 true).run Tryz.prog w = .ok (.tuple #[v, .bool true]) w := by kernel_rfl
@[go_sem] theorem ta_c10 (v : Value) (w : World) : (Instr.typeAssert (.iface 170 v) 85 167 true).run Tryz.prog w = .ok (.tuple #[.agg #[.int .i64 0, .int .i64 0, .int .i64 0, .int .i64 0, .int .u64 0], .bool false]) w := by kernel_rfl
@[go_sem] theorem ta_c11 (v : Value) (w : World) : (Instr.typeAssert (.iface 170 v) 85 170 true).run Tryz.prog w = .ok (.tuple #[v, .bool true]) w := by kernel_rfl
@[go_sem] theorem ta_c20 (v : Value) (w : World) : (Instr.typeAssert (.iface 174 v) 85 167 true).run Tryz.prog w = .ok (.tuple #[.agg #[.int .i64 0, .int .i64 0, .int .i64 0, .int .i64 0, .int .u64 0], .bool false]) w := by kernel_rfl
@[go_sem] theorem ta_c21 (v : Value) (w : World) : (Instr.typeAssert (.iface 174 v) 85 170 true).run Tryz.prog w = .ok (.tuple #[.agg #[.int .i64 0, .int .i64 0, .int .i64 0, .int .i64 0, .int .u64 0, .int .i64 0], .bool false]) w := by kernel_rfl
@[go_sem] theorem ta_c22 (v : Value) (w : World) : (Instr.typeAssert (.iface 174 v) 85 174 true).run Tryz.prog w = .ok (.tuple #[v, .bool true]) w := by kernel_rfl
@[go_sem] theorem ta_c30 (v : Value) (w : World) : (Instr.typeAssert (.iface 176 v) 85 167 true).run Tryz.prog w = .ok (.tuple #[.agg #[.int .i64 0, .int .i64 0, .int .i64 0, .int .i64 0, .int .u64 0], .bool false]) w := by kernel_rfl
@[go_sem] theorem ta_c31 (v : Value) (w : World) : (Instr.typeAssert (.iface 176 v) 85 170 true).run Tryz.prog w = .ok (.tuple #[.agg #[.int .i64 0, .int .i64 0, .int .i64 0, .int .i64 0, .int .u64 0, .int .i64 0], .bool false]) w := by kernel_rfl
@[go_sem] theorem ta_c32 (v : Value) (w : World) : (Instr.typeAssert (.iface 176 v) 85 174 true).run Tryz.prog w = .ok (.tuple #[.agg #[.int .i64 0, .bool false, .string ⟨#[]⟩, .int .u64 0, .int .i64 0], .bool false]) w := by kernel_rfl
@[go_sem] theorem ta_c33 (v : Value) (w : World) : (Instr.typeAssert (.iface 176 v) 85 176 true).run Tryz.prog w = .ok (.tuple #[v, .bool true]) w := by kernel_rfl
@[go_sem] theorem ta_c40 (v : Value) (w : World) : (Instr.typeAssert (.iface 179 v) 85 167 true).run Tryz.prog w = .ok (.tuple #[.agg #[.int .i64 0, .int .i64 0, .int .i64 0, .int .i64 0, .int .u64 0], .bool false]) w := by kernel_rfl
@[go_sem] theorem ta_c41 (v : Value) (w : World) : (Instr.typeAssert (.iface 179 v) 85 170 true).run Tryz.prog w = .ok (.tuple #[.agg #[.int .i64 0, .int .i64 0, .int .i64 0, .int .i64 0, .int .u64 0, .int .i64 0], .bool false]) w := by kernel_rfl
@[go_sem] theorem ta_c42 (v : Value) (w : World) : (Instr.typeAssert (.iface 179 v) 85 174 true).run Tryz.prog w = .ok (.tuple #[.agg #[.int .i64 0, .bool false, .string ⟨#[]⟩, .int .u64 0, .int .i64 0], .bool false]) w := by kernel_rfl
@[go_sem] theorem ta_c43 (v : Value) (w : World) : (Instr.typeAssert (.iface 179 v) 85 176 true).run Tryz.prog w = .ok (.tuple #[.agg #[], .bool false]) w := by kernel_rfl
@[go_sem] theorem ta_c44 (v : Value) (w : World) : (Instr.typeAssert (.iface 179 v) 85 179 true).run Tryz.prog w = .ok (.tuple #[v, .bool true]) w := by kernel_rfl
@[go_sem] theorem ta_c50 (v : Value) (w : World) : (Instr.typeAssert (.iface 182 v) 85 167 true).run Tryz.prog w = .ok (.tuple #[.agg #[.int .i64 0, .int .i64 0, .int .i64 0, .int .i64 0, .int .u64 0], .bool false]) w := by kernel_rfl
@[go_sem] theorem ta_c51 (v : Value) (w : World) : (Instr.typeAssert (.iface 182 v) 85 170 true).run Tryz.prog w = .ok (.tuple #[.agg #[.int .i64 0, .int .i64 0, .int .i64 0, .int .i64 0, .int .u64 0, .int .i64 0], .bool false]) w := by kernel_rfl
@[go_sem] theorem ta_c52 (v : Value) (w : World) : (Instr.typeAssert (.iface 182 v) 85 174 true).run Tryz.prog w = .ok (.tuple #[.agg #[.int .i64 0, .bool false, .string ⟨#[]⟩, .int .u64 0, .int .i64 0], .bool false]) w := by kernel_rfl
@[go_sem] theorem ta_c53 (v : Value) (w : World) : (Instr.typeAssert (.iface 182 v) 85 176 true).run Tryz.prog w = .ok (.tuple #[.agg #[], .bool false]) w := by kernel_rfl
@[go_sem] theorem ta_c54 (v : Value) (w : World) : (Instr.typeAssert (.iface 182 v) 85 179 true).run Tryz.prog w = .ok (.tuple #[.agg #[.string ⟨#[]⟩, .int .i64 0, .slice none 0 0], .bool false]) w := by kernel_rfl
@[go_sem] theorem ta_c55 (v : Value) (w : World) : (Instr.typeAssert (.iface 182 v) 85 182 true).run Tryz.prog w = .ok (.tuple #[v, .bool true]) w := by kernel_rfl
@[go_sem] theorem ta_c60 (v : Value) (w : World) : (Instr.typeAssert (.iface 185 v) 85 167 true).run Tryz.prog w = .ok (.tuple #[.agg #[.int .i64 0, .int .i64 0, .int .i64 0, .int .i64 0, .int .u64 0], .bool false]) w := by kernel_rfl
@[go_sem] theorem ta_c61 (v : Value) (w : World) : (Instr.typeAssert (.iface 185 v) 85 170 true).run Tryz.prog w = .ok (.tuple #[.agg #[.int .i64 0, .int .i64 0, .int .i64 0, .int .i64 0, .int .u64 0, .int .i64 0], .bool false]) w := by kernel_rfl
@[go_sem] theorem ta_c62 (v : Value) (w : World) : (Instr.typeAssert (.iface 185 v) 85 174 true).run Tryz.prog w = .ok (.tuple #[.agg #[.int .i64 0, .bool false, .string ⟨#[]⟩, .int .u64 0, .int .i64 0], .bool false]) w := by kernel_rfl
@[go_sem] theorem ta_c63 (v : Value) (w : World) : (Instr.typeAssert (.iface 185 v) 85 176 true).run Tryz.prog w = .ok (.tuple #[.agg #[], .bool false]) w := by kernel_rfl
@[go_sem] theorem ta_c64 (v : Value) (w : World) : (Instr.typeAssert (.iface 185 v) 85 179 true).run Tryz.prog w = .ok (.tuple #[.agg #[.string ⟨#[]⟩, .int .i64 0, .slice none 0 0], .bool false]) w := by kernel_rfl
@[go_sem] theorem ta_c65 (v : Value) (w : World) : (Instr.typeAssert (.iface 185 v) 85 182 true).run Tryz.prog w = .ok (.tuple #[.agg #[.string ⟨#[]⟩, .int .i64 0, .int .i64 0], .bool false]) w := by kernel_rfl
@[go_sem] theorem ta_c66 (v : Value) (w : World) : (Instr.typeAssert (.iface 185 v) 85 185 true).run Tryz.prog w = .ok (.tuple #[v, .bool true]) w := by kernel_rfl
@[go_sem] theorem ta_r00 (v : Value) (w : World) : (Instr.typeAssert (.iface 134 v) 89 134 true).run Tryz.prog w = .ok (.tuple #[v, .bool true]) w := by kernel_rfl
@[go_sem] theorem ta_r10 (v : Value) (w : World) : (Instr.typeAssert (.iface 190 v) 89 134 true).run Tryz.prog w = .ok (.tuple #[.agg #[], .bool false]) w := by kernel_rfl
@[go_sem] theorem ta_r11 (v : Value) (w : World) : (Instr.typeAssert (.iface 190 v) 89 190 true).run Tryz.prog w = .ok (.tuple #[v, .bool true]) w := by kernel_rfl
@[go_sem] theorem ta_r20 (v : Value) (w : World) : (Instr.typeAssert (.iface 132 v) 89 134 true).run Tryz.prog w = .ok (.tuple #[.agg #[], .bool false]) w := by kernel_rfl
@[go_sem] theorem ta_r21 (v : Value) (w : World) : (Instr.typeAssert (.iface 132 v) 89 190 true).run Tryz.prog w = .ok (.tuple #[.agg #[.int .i64 0], .bool false]) w := by kernel_rfl
@[go_sem] theorem ta_r22 (v : Value) (w : World) : (Instr.typeAssert (.iface 132 v) 89 132 true).run Tryz.prog w = .ok (.tuple #[v, .bool true]) w := by kernel_rfl
@[go_sem] theorem ta_r30 (v : Value) (w : World) : (Instr.typeAssert (.iface 137 v) 89 134 true).run Tryz.prog w = .ok (.tuple #[.agg #[], .bool false]) w := by kernel_rfl
@[go_sem] theorem ta_r31 (v : Value) (w : World) : (Instr.typeAssert (.iface 137 v) 89 190 true).run Tryz.prog w = .ok (.tuple #[.agg #[.int .i64 0], .bool false]) w := by kernel_rfl
@[go_sem] theorem ta_r32 (v : Value) (w : World) : (Instr.typeAssert (.iface 137 v) 89 132 true).run Tryz.prog w = .ok (.tuple #[.agg #[.int .i64 0], .bool false]) w := by kernel_rfl
@[go_sem] theorem ta_r33 (v : Value) (w : World) : (Instr.typeAssert (.iface 137 v) 89 137 true).run Tryz.prog w = .ok (.tuple #[v, .bool true]) w := by kernel_rfl
@[go_sem] theorem ta_r40 (v : Value) (w : World) : (Instr.typeAssert (.iface 196 v) 89 134 true).run Tryz.prog w = .ok (.tuple #[.agg #[], .bool false]) w := by kernel_rfl
@[go_sem] theorem ta_r41 (v : Value) (w : World) : (Instr.typeAssert (.iface 196 v) 89 190 true).run Tryz.prog w = .ok (.tuple #[.agg #[.int .i64 0], .bool false]) w := by kernel_rfl
@[go_sem] theorem ta_r42 (v : Value) (w : World) : (Instr.typeAssert (.iface 196 v) 89 132 true).run Tryz.prog w = .ok (.tuple #[.agg #[.int .i64 0], .bool false]) w := by kernel_rfl
@[go_sem] theorem ta_r43 (v : Value) (w : World) : (Instr.typeAssert (.iface 196 v) 89 137 true).run Tryz.prog w = .ok (.tuple #[.agg #[.int .u64 0], .bool false]) w := by kernel_rfl
@[go_sem] theorem ta_r44 (v : Value) (w : World) : (Instr.typeAssert (.iface 196 v) 89 196 true).run Tryz.prog w = .ok (.tuple #[v, .bool true]) w := by kernel_rfl
@[go_sem] theorem ta_r50 (v : Value) (w : World) : (Instr.typeAssert (.iface 141 v) 89 134 true).run Tryz.prog w = .ok (.tuple #[.agg #[], .bool false]) w := by kernel_rfl
@[go_sem] theorem ta_r51 (v : Value) (w : World) : (Instr.typeAssert (.iface 141 v) 89 190 true).run Tryz.prog w = .ok (.tuple #[.agg #[.int .i64 0], .bool false]) w := by kernel_rfl
@[go_sem] theorem ta_r52 (v : Value) (w : World) : (Instr.typeAssert (.iface 141 v) 89 132 true).run Tryz.prog w = .ok (.tuple #[.agg #[.int .i64 0], .bool false]) w := by kernel_rfl
@[go_sem] theorem ta_r53 (v : Value) (w : World) : (Instr.typeAssert (.iface 141 v) 89 137 true).run Tryz.prog w = .ok (.tuple #[.agg #[.int .u64 0], .bool false]) w := by kernel_rfl
@[go_sem] theorem ta_r54 (v : Value) (w : World) : (Instr.typeAssert (.iface 141 v) 89 196 true).run Tryz.prog w = .ok (.tuple #[.agg #[.int .i64 0, .int .u64 0], .bool false]) w := by kernel_rfl
@[go_sem] theorem ta_r55 (v : Value) (w : World) : (Instr.typeAssert (.iface 141 v) 89 141 true).run Tryz.prog w = .ok (.tuple #[v, .bool true]) w := by kernel_rfl
@[go_sem] theorem ta_r60 (v : Value) (w : World) : (Instr.typeAssert (.iface 204 v) 89 134 true).run Tryz.prog w = .ok (.tuple #[.agg #[], .bool false]) w := by kernel_rfl
@[go_sem] theorem ta_r61 (v : Value) (w : World) : (Instr.typeAssert (.iface 204 v) 89 190 true).run Tryz.prog w = .ok (.tuple #[.agg #[.int .i64 0], .bool false]) w := by kernel_rfl
@[go_sem] theorem ta_r62 (v : Value) (w : World) : (Instr.typeAssert (.iface 204 v) 89 132 true).run Tryz.prog w = .ok (.tuple #[.agg #[.int .i64 0], .bool false]) w := by kernel_rfl
@[go_sem] theorem ta_r63 (v : Value) (w : World) : (Instr.typeAssert (.iface 204 v) 89 137 true).run Tryz.prog w = .ok (.tuple #[.agg #[.int .u64 0], .bool false]) w := by kernel_rfl
@[go_sem] theorem ta_r64 (v : Value) (w : World) : (Instr.typeAssert (.iface 204 v) 89 196 true).run Tryz.prog w = .ok (.tuple #[.agg #[.int .i64 0, .int .u64 0], .bool false]) w := by kernel_rfl
@[go_sem] theorem ta_r65 (v : Value) (w : World) : (Instr.typeAssert (.iface 204 v) 89 141 true).run Tryz.prog w = .ok (.tuple #[.agg #[.slice none 0 0], .bool false]) w := by kernel_rfl
@[go_sem] theorem ta_r66 (v : Value) (w : World) : (Instr.typeAssert (.iface 204 v) 89 204 true).run Tryz.prog w = .ok (.tuple #[v, .bool true]) w := by kernel_rfl
end Go.Proofs.YtmalncfcgcebhaaGreatDoor
namespace Go.Proofs.YtmalncfcgcebhaaGreatDoor
set_option linter.unusedVariables false
open Go.Proofs Go.Shelf Go.RowKit
/-- A builder at b that holds bytes. -/
def BldAt (B b : Nat) (l : List UInt8) (w : World) : Prop := Lib.IsBuilderF 188 5 B b (Lib.byteCells l) w
set_option maxRecDepth 100000 in
theorem bldU (b : Nat) (w : World) (h0 : w.cell? ⟨b, 0, none⟩ = some (.pointer (some ⟨b, 0, none⟩))) :
    Calls Tryz.prog 145 #[.pointer (some ⟨b, 0, none⟩)] w fun e w' => e = .returned (.tuple #[]) ∧ w' = w := by
  have hsz : (Tryz.prog.info? 188).map (·.size) = some 2 := by kernel_rfl
  obtain ⟨j, hj, hjs⟩ := Option.map_eq_some_iff.1 hsz
  go_enter Tryz.func145, Tryz.ntmps145
  go_wp2
  rw [Lib.run_neq_ptr_same w _ Tryz.underlying186 hj]
  go_wp2
  go_end0
  exact ⟨rfl, rfl⟩
set_option maxRecDepth 100000 in
theorem bldF (b : Nat) (w : World) (h0 : w.cell? ⟨b, 0, none⟩ = some (.pointer none)) (hsh : w.shape? b = some (188, 2)) (hfz : w.frozen? ⟨b, 0, none⟩ = false) :
    Calls Tryz.prog 145 #[.pointer (some ⟨b, 0, none⟩)] w fun e w' => e = .returned (.tuple #[]) ∧ w' = w.setCell ⟨b, 0, none⟩ (.pointer (some ⟨b, 0, none⟩)) := by
  have hsz : (Tryz.prog.info? 188).map (·.size) = some 2 := by kernel_rfl
  obtain ⟨j, hj, hjs⟩ := Option.map_eq_some_iff.1 hsz
  go_enter Tryz.func145, Tryz.ntmps145
  go_wp2
  rw [Lib.run_to_unsafe w ⟨b, 0, none⟩ Tryz.underlying186 Tryz.underlying304 hj (by rw [hjs]; decide) hsh (Nat.zero_lt_succ 1)]
  simp only [Result.andThen]
  rw [Oper.upon_value]
  go_wp2
  rw [run_callFunc_extern Tryz.func188 (by kernel_rfl) (by kernel_rfl) (by kernel_rfl) (e := Extern.AbiNoEscape.same) (by kernel_rfl)]
  rw [Lib.run_noEscape]
  simp only [Result.andThen]
  rw [Oper.upon_value]
  go_wp2
  rw [Lib.run_from_unsafe w ⟨b, 0, none⟩ Tryz.underlying304 Tryz.underlying186 hj hsh Tryz.bstX.liesBuilder]
  simp only [Result.andThen]
  rw [Oper.upon_value]
  go_wp2
  go_end0
  exact ⟨rfl, rfl⟩
theorem bldC (B b : Nat) (bs : List Value) (w : World) (h : Lib.IsBuilderF 188 5 B b bs w) :
    Calls Tryz.prog 145 #[.pointer (some ⟨b, 0, none⟩)] w fun e w' => e = .returned (.tuple #[]) ∧ Lib.BuilderAtF 188 5 B b (.pointer (some ⟨b, 0, none⟩)) bs w' ∧ Below B w w' ∧ Lib.OthersKept 5 (some b) w w' := by
  rcases h with h | h
  · refine (bldF b w h.cell0 h.shape h.frozen0).mono ?_
    rintro e w' ⟨rfl, rfl⟩
    exact ⟨rfl, h.used _, (Below.refl B w).setCell (p := ⟨b, 0, none⟩) h.1 _, (Lib.OthersKept.refl _ _ w).setCell ⟨b, 0, none⟩ rfl _⟩
  · refine (bldU b w h.cell0).mono ?_
    rintro e w' ⟨rfl, rfl⟩
    exact ⟨rfl, h, Below.refl B _, Lib.OthersKept.refl _ _ _⟩
theorem info_byte : ∃ i, Tryz.prog.info? 5 = some i ∧ i.zero = some (.int .u8 0) ∧ i.size = 1 ∧ i.bytes = 1 := by
  obtain ⟨i, h1, h2, h3, h4⟩ := info_parts Tryz.bstX.infoByte
  exact ⟨i, h1, h2, h3, h4⟩
set_option maxRecDepth 100000 in
set_option maxHeartbeats 2000000 in
theorem BWriteString_c (B b : Nat) (l : List UInt8) (s : ByteArray) (w : World) (h : BldAt B b l w) (hlen : l.length + s.size ≤ 140737488355328) (hBw : B ≤ w.heap.size) :
    Calls Tryz.prog 92 #[.pointer (some ⟨b, 0, none⟩), .string s] w fun e w' => e = .returned (.tuple #[.int .i64 s.size, .nilIface]) ∧ BldAt B b (l ++ s.data.toList) w' ∧ Below B w w' ∧ Lib.OthersKept 5 (some b) w w' := by
  obtain ⟨i0, hi, hz0, hz1, hz2⟩ := info_byte
  have HC := Lib.hid (bldC B b _ w h)
  clear h
  go_enter Tryz.func92, Tryz.ntmps92
  go_wp2_with fail
  refine Calls.mono HC.out ?_
  rintro e w1 ⟨rfl, h1, hb1, hk1⟩
  have HK1 := Lib.hid hk1
  clear hk1
  obtain ⟨hB, v, hbk, hown, hne⟩ := h1
  have c0 : w1.cell? ⟨b, 0, none⟩ = some (.pointer (some ⟨b, 0, none⟩)) := by rw [Lib.cell_of_heap hbk]; rfl
  have c1 : w1.cell? ⟨b, 1, none⟩ = some v := by rw [Lib.cell_of_heap hbk]; rfl
  have hlt := lt_of hbk
  rw [Lib.byteCells_length] at hown
  go_wp2_with (at_builtin; refine Lib.wpList_append_own_stringF _ rfl _ _ 44 9 rfl B 5 i0 Tryz.underlying44 Tryz.underlying9 hi hz0 hz1 hz2 _ _ _ rfl hown s rfl ?c3 ?c4 ?c5 ?_)
  case c3 => unfold maxLen; omega
  case c4 => omega
  case c5 => have := hb1.size; omega
  intro v' w2 hown' hgrow _
  have hb2 : w2.heap[b]? = some (.cells #[.pointer (some ⟨b, 0, none⟩), v] 188 (0, 0)) := by
    rw [hgrow.block b hlt (fun e => hne e.symm)]
    exact hbk
  have d0 : w2.cell? ⟨b, 0, none⟩ = some (.pointer (some ⟨b, 0, none⟩)) := by rw [Lib.cell_of_heap hb2]; rfl
  have d1 : w2.cell? ⟨b, 1, none⟩ = some v := by rw [Lib.cell_of_heap hb2]; rfl
  have f1 : w2.frozen? ⟨b, 1, none⟩ = false := Lib.frozen_of_heap hb2 1
  obtain ⟨ao, n', cap, rfl⟩ : ∃ ao n' cap, v' = .slice ao n' cap := by
    rcases hown'.2 with ⟨hv, _⟩ | ⟨g, cap, cur, fz, hv, _⟩
    · exact ⟨_, _, _, hv⟩
    · exact ⟨_, _, _, hv⟩
  clear c0 c1 hlt
  have HO := Lib.hid hown'
  have HG := Lib.hid hgrow
  have HB2 := Lib.hid hb2
  have HOW := Lib.hid hown
  have HB1 := Lib.hid hb1
  clear hown' hgrow hb2 hown hbk hb1
  go_wp2
  go_ret2
  have e1 : Lib.byteCells l ++ Lib.strCells s = Lib.byteCells (l ++ s.data.toList) := by
    simp [Lib.byteCells, Lib.strCells]
  refine ⟨rfl, .inr ?_, ?_, (HK1.out.grown HG.out (Lib.ownsRowF_kind HOW.out)).setCell ⟨b, 1, none⟩ rfl _⟩
  · rw [← e1]
    exact Lib.BuilderAtF.put (T := 188) (e := 5) hB HB2.out (bs' := Lib.byteCells l ++ Lib.strCells s) (by simpa [Lib.strCells_length, Lib.byteCells_length] using HO.out) Tryz.bstX.neB5
  · exact (HB1.out.grown HG.out (by have := HB1.out.size; omega) (fun k hk => (HOW.out.lt k hk).1)).setCell (p := ⟨b, 1, none⟩) hB _
theorem BString_c (B b : Nat) (l : List UInt8) (w : World) (h : BldAt B b l w) (h0 : l ≠ []) :
    Calls Tryz.prog 94 #[.pointer (some ⟨b, 0, none⟩)] w fun e w' => e = .returned (strV l) ∧ Below B w w' :=
  (Any.Builder_String_k Tryz.bstL Tryz.bstX B b l w h h0).mono fun e w' h => ⟨h.1, h.2.2.1⟩
end Go.Proofs.YtmalncfcgcebhaaGreatDoor
namespace Go.Proofs.YtmalncfcgcebhaaGreatDoor
set_option linter.unusedVariables false
open Go.Proofs Go.RowKit
theorem AText_done (w : World) : Calls Tryz.prog 46 #[.iface 134 (.agg #[])] w fun e w' => e = .returned (strV [100, 111, 110, 101]) ∧ Ext w w' := by
  go_enter Tryz.func46, Tryz.ntmps46
  go_wp2_with fail
  go_ret
  exact ⟨rfl, by (repeat' (first | exact Ext.refl _ | assumption | apply Ext.allocR | apply Ext.drewR | apply Ext.drewNR | (refine Ext.trans' ?_ (by assumption))))⟩
theorem AText_handle (h : Int) (hh : I64 h) (w : World) (hT : Tabs w) : Calls Tryz.prog 46 #[.iface 190 (.agg #[.int .i64 h])] w fun e w' => e = .returned (strV ([104, 97, 110, 100, 108, 101, 32] ++ Lib.itoa h)) ∧ Ext w w' := by
  have HI := fun w' (hx : Ext w w') => Lib.hid (Itoa_c h hh w' (hT.ext hx))
  have hil := Lib.itoa_length_le h hh.1 hh.2
  go_enter Tryz.func46, Tryz.ntmps46
  go_wp2_with fail
  refine Calls.mono (HI _ (by (repeat' (first | exact Ext.refl _ | assumption | apply Ext.allocR | apply Ext.drewR | apply Ext.drewNR | (refine Ext.trans' ?_ (by assumption)))))).out ?_
  rintro r w1 ⟨rfl, hx⟩
  have HX := Lib.hid (show Ext w w1 from Ext.trans' (by (repeat' (first | exact Ext.refl _ | assumption | apply Ext.allocR | apply Ext.drewR | apply Ext.drewNR | (refine Ext.trans' ?_ (by assumption))))) hx)
  clear hx
  unfold strV
  go_wp2
  go_ret
  exact ⟨congrArg Ending.returned (congrArg Value.string (cat_str _ _)), HX.out⟩
theorem AText_num (h : Int) (hh : I64 h) (w : World) (hT : Tabs w) : Calls Tryz.prog 46 #[.iface 132 (.agg #[.int .i64 h])] w fun e w' => e = .returned (strV ([110, 117, 109, 98, 101, 114, 32] ++ Lib.itoa h)) ∧ Ext w w' := by
  have HI := fun w' (hx : Ext w w') => Lib.hid (FormatInt_c h hh w' (hT.ext hx))
  have hil := Lib.itoa_length_le h hh.1 hh.2
  go_enter Tryz.func46, Tryz.ntmps46
  go_wp2_with fail
  refine Calls.mono (HI _ (by (repeat' (first | exact Ext.refl _ | assumption | apply Ext.allocR | apply Ext.drewR | apply Ext.drewNR | (refine Ext.trans' ?_ (by assumption)))))).out ?_
  rintro r w1 ⟨rfl, hx⟩
  have HX := Lib.hid (show Ext w w1 from Ext.trans' (by (repeat' (first | exact Ext.refl _ | assumption | apply Ext.allocR | apply Ext.drewR | apply Ext.drewNR | (refine Ext.trans' ?_ (by assumption))))) hx)
  clear hx
  unfold strV
  go_wp2
  go_ret
  exact ⟨congrArg Ending.returned (congrArg Value.string (cat_str _ _)), HX.out⟩
set_option maxRecDepth 20000 in
theorem AText_list0 (w : World) : Calls Tryz.prog 46 #[.iface 141 (.agg #[.slice none 0 0])] w fun e w' => e = .returned (strV [108, 105, 115, 116]) ∧ Ext w w' := by
  go_enter Tryz.func46, Tryz.ntmps46
  go_wp2_with fail
  obtain ⟨W1, hW1⟩ : ∃ W1, (w.alloc (.cells #[.pointer none, .slice none 0 0] 188)).alloc (.cells #[.slice none 0 0] 141) = W1 := ⟨_, rfl⟩
  have hB : BldAt w.heap.size w.heap.size [] W1 := by
    rw [← hW1]
    exact .inl ⟨Nat.le_refl _, .slice none 0 0, (heap_old _ _ (by simp)).trans (heap_at _ _ rfl), ⟨rfl, .inl ⟨rfl, rfl⟩⟩, by simp [Value.ownBlock]⟩
  have hx1 : Ext w W1 := by rw [← hW1]; exact (Ext.alloc' _ _).allocR _
  have hl : W1.heap[w.heap.size + 1]? = some (.cells #[.slice none 0 0] 141 (0, 0)) := by rw [← hW1]; exact heap_at _ _ (by simp)
  have hs1 := hx1.size
  rw [hW1]
  refine Calls.mono (BWriteString_c _ _ _ _ _ hB (by decide) hs1) ?_
  rintro e w2 ⟨rfl, hB2, hb2, hk2⟩
  have hl2 := hk2 _ _ hl (by simp) (by rintro c fz ⟨⟩)
  have l0 := (cell_of hl2 0).trans rfl
  have ll := lt_of hl2
  have HX2 := Lib.hid (show Ext w w2 from Below.trans hx1 hb2)
  have HB2 := Lib.hid hB2
  clear hB hx1 hl hs1 hW1 hB2 hb2 hk2 hl2
  go_wp2_with fail
  refine wp_loop_rounds 1 ?_
  rw [rounds_succ]
  go_wp2_with fail
  refine Calls.mono (BString_c _ _ _ _ HB2.out (by decide)) ?_
  rintro e w3 ⟨rfl, hb3⟩
  have HX3 := Lib.hid (show Ext w w3 from Below.trans HX2.out hb3)
  clear hb3 l0 ll
  go_wp2
  go_ret
  exact ⟨rfl, HX3.out⟩
/-- What the type switches on numbers find. -/
@[go_sem] theorem ta_n_yes (v : Value) (w : World) : (Instr.typeAssert (.iface 132 v) 89 132 false).run Tryz.prog w = .ok v w := by kernel_rfl
@[go_sem] theorem ta_n_k (v : Value) (w : World) : (Instr.typeAssert (.iface 137 v) 89 132 true).run Tryz.prog w = .ok (.tuple #[.agg #[.int .i64 0], .bool false]) w := by kernel_rfl
theorem AsNumber_yes (n : Int) (w : World) : Calls Tryz.prog 68 #[.iface 132 (.agg #[.int .i64 n])] w fun e w' => e = .returned (.tuple #[.int .i64 n, .bool true]) ∧ Ext w w' := by
  go_enter Tryz.func68, Tryz.ntmps68
  go_wp2_with fail
  go_ret2
  exact ⟨rfl, by (repeat' (first | exact Ext.refl _ | assumption | apply Ext.allocR | apply Ext.drewR | apply Ext.drewNR | (refine Ext.trans' ?_ (by assumption))))⟩
theorem AsNumber_key (k : Int) (w : World) : Calls Tryz.prog 68 #[.iface 137 (.agg #[.int .u64 k])] w fun e w' => e = .returned (.tuple #[.int .i64 0, .bool false]) ∧ Ext w w' := by
  go_enter Tryz.func68, Tryz.ntmps68
  go_wp2_with fail
  go_ret2
  exact ⟨rfl, by (repeat' (first | exact Ext.refl _ | assumption | apply Ext.allocR | apply Ext.drewR | apply Ext.drewNR | (refine Ext.trans' ?_ (by assumption))))⟩
theorem MustNumber_yes (n : Int) (w : World) : Calls Tryz.prog 69 #[.iface 132 (.agg #[.int .i64 n])] w fun e w' => e = .returned (.int .i64 n) ∧ w' = w := by
  have hfd : ∀ w, (Instr.field 132 (.agg #[.int .i64 n]) 0).run Tryz.prog w = .ok (.int .i64 n) w := fun _ => by kernel_rfl
  go_enter Tryz.func69, Tryz.ntmps69
  go_wp2_with fail
  go_ret
  exact ⟨rfl, rfl⟩
end Go.Proofs.YtmalncfcgcebhaaGreatDoor
