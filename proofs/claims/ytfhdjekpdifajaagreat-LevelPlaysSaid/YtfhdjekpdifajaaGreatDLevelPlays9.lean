/- Part. No condition. -/
import Derived.Test.YtfhdjekpdifajaaGreatDLevelPlays3
import Derived.Test.YtfhdjekpdifajaaGreatDLevelPlays8
import Derived.Test.YtfhdjekpdifajaaGreatDLevelPlays4
import Derived.Test.YtfhdjekpdifajaaGreatDLevelPlays1
import Derived.Test.YtfhdjekpdifajaaGreatDLevelPlays5
namespace Go.Proofs.YtfhdjekpdifajaaGreat
set_option linter.unusedVariables false
open Go.RowKit
def RLNewPost (w : World) (C : Cfg) (lv : Int) (l : List Int) (e : Ending) (w' : World) : Prop :=
  ∃ L : RLev, e = .returned (.pointer (some ⟨L.p, 0, none⟩)) ∧ RLvAt w' L C lv l ∧ (∀ k, L.foot C lv k → w.heap.size ≤ k) ∧ Ext w w'
theorem RLNew_x {w w1 w' : World} {C : Cfg} {lv : Int} {a m p : Nat} {l : List Int} (hok : C.Ok) (h0 : 0 ≤ lv) (h1 : lv ≤ C.bits) (hx : isX C lv = true) (hA : RXAt w1 a m C lv (kN C lv) l) (ha : w.heap.size ≤ a) (hm : w.heap.size ≤ m) (hp : w.heap.size ≤ p) (hE : Ext w w') (hE1 : Ext w1 w')
    (hb : w'.heap[p]? = some (.cells #[.pointer (some ⟨a, 0, none⟩), .pointer none] 153 (0, 0))) : RLNewPost w C lv l (.returned (.pointer (some ⟨p, 0, none⟩))) w' := by
  refine ⟨⟨p, a, ⟨0, m, fun _ => 0, fun _ => 0⟩⟩, rfl, ⟨hok, h0, h1, .inl ⟨hx, hb, hA.ext hE1⟩⟩, ?_, hE⟩
  rintro k (rfl | ⟨_, (rfl | rfl)⟩ | ⟨hy, _⟩)
  · exact hp
  · exact ha
  · exact hm
  · rw [hx] at hy; cases hy
theorem RLNew_s {w w1 w' : World} {C : Cfg} {lv : Int} {a p : Nat} {G : Gr} {l : List Int} (hok : C.Ok) (h0 : 0 ≤ lv) (h1 : lv ≤ C.bits) (hx : isX C lv = false) (hA : RSAt w1 a G C lv (rN C) (wN C) l) (ha : ∀ k, rsF a G (rN C) k → w.heap.size ≤ k) (hp : w.heap.size ≤ p) (hE : Ext w w') (hE1 : Ext w1 w')
    (hb : w'.heap[p]? = some (.cells #[.pointer none, .pointer (some ⟨a, 0, none⟩)] 153 (0, 0))) : RLNewPost w C lv l (.returned (.pointer (some ⟨p, 0, none⟩))) w' := by
  refine ⟨⟨p, a, G⟩, rfl, ⟨hok, h0, h1, .inr ⟨hx, hb, hA.ext hE1⟩⟩, ?_, hE⟩
  rintro k (rfl | ⟨hy, _⟩ | ⟨_, hk⟩)
  · exact hp
  · rw [hx] at hy; cases hy
  · exact ha k hk
set_option maxRecDepth 20000 in
set_option maxHeartbeats 4000000 in
theorem RLNew_c (C : Cfg) (hok : C.Ok) (lv : Int) (h0 : 0 ≤ lv) (h1 : lv ≤ C.bits) (w : World) :
    Calls Tryz.prog 37 #[.agg #[.int .i64 C.bits, .int .i64 C.rows, .int .i64 C.width, .int .i64 C.mode, .int .u64 C.seed], .int .i64 lv] w (RLNewPost w C lv (zs (lvN C lv))) := by
  have hEX := fun W' => ExactR_c C hok lv h0 h1 W'
  obtain ⟨W0, hW0⟩ : ∃ W0, w.alloc (.cells #[.int .i64 C.bits, .int .i64 C.rows, .int .i64 C.width, .int .i64 C.mode, .int .u64 C.seed] 24) = W0 := ⟨_, rfl⟩
  have hCb : W0.heap[w.heap.size]? = some (.cells #[.int .i64 C.bits, .int .i64 C.rows, .int .i64 C.width, .int .i64 C.mode, .int .u64 C.seed] 24 (0, 0)) := by rw [← hW0]; exact heap_at _ _ rfl
  have hE : Ext w W0 := by rw [← hW0]; exact Ext.alloc' _ _
  have hC := CfgAt.of hCb
  have c0 := hC.c0
  have c1 := hC.c1
  have c2 := hC.c2
  have c3 := hC.c3
  have c4 := hC.c4
  have cl := hC.lt
  cases hx : isX C lv with
  | true =>
    have hlN : lvN C lv = kN C lv := by unfold lvN; rw [hx]; rfl
    rw [hx] at hEX
    rw [hlN]
    have hkn := kN_eq hok h0
    have hkb := keys_bd C hok lv h0
    have hkx : keys C lv ≤ 128 := by
      have h3 := hok.w2
      unfold isX at hx
      have := of_decide_eq_true hx
      omega
    have HX := Lib.hid hx
    have HEX := Lib.hid hEX
    have HCB := Lib.hid hCb
    have HKN := Lib.hid hkn
    clear hx hEX hC hlN hCb hkn
    go_enter Tryz.func37, Tryz.ntmps37
    go_wp2_with fail
    try rw [hW0]
    clear hW0
    refine Calls.mono (HEX.out _) ?_
    rintro e w1 ⟨rfl, hx1⟩
    have hC1 := CfgAt.of (hx1.keep HCB.out)
    have hE1 := hE.trans' hx1
    clear c0 c1 c2 c3 c4 cl hx1
    have c0 := hC1.c0
    have c1 := hC1.c1
    have c2 := hC1.c2
    have c3 := hC1.c3
    have c4 := hC1.c4
    have cl := hC1.lt
    clear hC1
    go_wp2_with fail
    have hC0 := af_drew w1
    refine pi_start (fun w' => ∃ z : After w1, w' = z.w) [] (by kernel_rfl) ?_
    refine pi_t 1 rfl (by kernel_rfl) (by kernel_rfl) (fun _ _ _ _ h => h) (fun K hK => ?_)
    go_big_quiet_op
    refine hK _ ?_
    clear hK K
    refine pi_t 3 rfl (by kernel_rfl) (by kernel_rfl) (fun _ _ _ _ h => h) (fun K hK => ?_)
    go_big_quiet_op
    refine hK _ ?_
    clear hK K
    refine pi_c 0 (by assumption) rfl (by kernel_rfl) (by kernel_rfl) (fun _ _ _ _ h => h) (fun K hK => ?_)
    go_big_quiet_op
    refine hK _ ?_
    clear hK K
    refine pi_c 2 (by assumption) rfl (by kernel_rfl) (by kernel_rfl) (fun _ _ _ _ h => h) (fun K hK => ?_)
    go_big_quiet_op
    refine hK _ ?_
    clear hK K
    refine pi_l 4 rfl (by kernel_rfl) (fun K hK => ?_)
    go_wp2_with (go_at_call 79; refine (KeysR_c C hok lv h0 h1 _).mono ?_; rintro e w2 ⟨rfl, hx2⟩)
    refine hK _ _ (fun _ h => af_step h hx2) ?_
    clear hK K
    have hE2 : Ext w1 w2 := Ext.trans' (Below.drew (Ext.refl w1)) hx2
    rw [HKN.out]
    refine pi_l 5 rfl (by kernel_rfl) (fun K hK => ?_)
    go_wp2_with (go_at_call 101; refine Calls.mono (RXNew_c C lv (kN C lv) (by have := HKN.out; omega) (by have := HKN.out; omega) _) ?_; rintro e w3 ⟨a, m, rfl, hA, ha, hm, hx3⟩)
    refine hK _ _ (fun _ h => af_step h hx3) ?_
    clear hK K
    have hE3 : Ext w1 w3 := hE2.trans' hx3
    have HA := Lib.hid hA
    have hz := hE1.size
    have hz2 := hE2.size
    clear hA
    refine pi_t 6 rfl (by kernel_rfl) (by kernel_rfl) (fun _ _ _ _ h => h) (fun K hK => ?_)
    go_big_quiet_op
    refine hK _ ?_
    clear hK K
    refine pi_l 7 rfl (by kernel_rfl) (fun K hK => ?_)
    go_wp2
    refine hK _ _ (fun _ h => af_step h (Ext.alloc' _ _)) ?_
    clear hK K
    refine pi_t 8 rfl (by kernel_rfl) (by kernel_rfl) (fun _ _ _ _ h => h) (fun K hK => ?_)
    go_big_quiet_op
    refine hK _ ?_
    clear hK K
    refine pi_end (by kernel_rfl) ?_
    have hz3 := hE3.size
    go_wp2
    go_ret
    exact RLNew_x hok h0 h1 HX.out HA.out (by omega) (by omega) (by omega) ((hE1.trans' hE3).allocR _) (Ext.alloc' _ _) (heap_at _ _ rfl)
  | false =>
    have hlN : lvN C lv = rN C * wN C := by unfold lvN; rw [hx]; rfl
    rw [hx] at hEX
    rw [hlN]
    have HX := Lib.hid hx
    have HEX := Lib.hid hEX
    have HCB := Lib.hid hCb
    have HS := Lib.hid (fun W' => RSNew_c C hok lv h0 h1 (rN C) (wN C) (rN_eq hok) (wN_eq hok) W')
    clear hx hEX hC hlN hCb
    go_enter Tryz.func37, Tryz.ntmps37
    go_wp2_with fail
    try rw [hW0]
    clear hW0
    refine Calls.mono (HEX.out _) ?_
    rintro e w1 ⟨rfl, hx1⟩
    have hC1 := CfgAt.of (hx1.keep HCB.out)
    have hE1 := hE.trans' hx1
    clear c0 c1 c2 c3 c4 cl hx1
    have c0 := hC1.c0
    have c1 := hC1.c1
    have c2 := hC1.c2
    have c3 := hC1.c3
    have c4 := hC1.c4
    have cl := hC1.lt
    clear hC1
    go_wp2_with fail
    refine Calls.mono (HS.out _) ?_
    rintro e w2 ⟨a, G, rfl, hA, hF, hx2⟩
    have HA := Lib.hid hA
    have HF := Lib.hid (show ∀ k, rsF a G (rN C) k → w1.heap.size ≤ k from hF)
    have hE2 := hE1.trans' hx2
    have hz := hE1.size
    have hz2 := hE2.size
    clear hA hF
    go_wp2
    go_ret
    exact RLNew_s hok h0 h1 HX.out HA.out (fun k hk => Nat.le_trans hz (HF.out k hk)) hz2 (hE2.allocR _) (Ext.alloc' _ _) (heap_at _ _ rfl)
set_option maxRecDepth 20000 in
set_option maxHeartbeats 4000000 in
theorem RLCopy_c (L : RLev) (C : Cfg) (lv : Int) (l : List Int) (w : World) (h : RLvAt w L C lv l) :
    Calls Tryz.prog 39 #[.pointer (some ⟨L.p, 0, none⟩)] w (RLNewPost w C lv l) := by
  have hok := h.1
  have h0 := h.2.1
  have h1 := h.2.2.1
  cases hx : isX C lv with
  | true =>
    obtain ⟨hb, hA⟩ := h.x hx
    have p0 := (cell_of hb 0).trans rfl
    have pl := lt_of hb
    have HA := Lib.hid hA
    have HX := Lib.hid hx
    clear hx hb hA h
    go_enter Tryz.func39, Tryz.ntmps39
    go_wp2_with fail
    refine Calls.mono (RXCopy_c _ _ C lv _ l _ HA.out) ?_
    rintro e w1 ⟨a, m, rfl, hA1, ha, hm, hx1⟩
    have HA1 := Lib.hid hA1
    have hz := hx1.size
    clear hA1
    go_wp2
    go_ret
    exact RLNew_x hok h0 h1 HX.out HA1.out ha hm hz (hx1.allocR _) (Ext.alloc' _ _) (heap_at _ _ rfl)
  | false =>
    obtain ⟨hb, hA⟩ := h.sk hx
    have p0 := (cell_of hb 0).trans rfl
    have p1 := (cell_of hb 1).trans rfl
    have pl := lt_of hb
    have HA := Lib.hid hA
    have HX := Lib.hid hx
    clear hx hb hA h
    go_enter Tryz.func39, Tryz.ntmps39
    go_wp2_with fail
    refine Calls.mono (RSCopy_c _ _ C lv _ _ l _ HA.out) ?_
    rintro e w1 ⟨a, G, rfl, hA1, hF, hx1⟩
    have HA1 := Lib.hid hA1
    have HF := Lib.hid (show ∀ k, rsF a G (rN C) k → w.heap.size ≤ k from hF)
    have hz := hx1.size
    clear hA1 hF
    go_wp2
    go_ret
    exact RLNew_s hok h0 h1 HX.out HA1.out HF.out hz (hx1.allocR _) (Ext.alloc' _ _) (heap_at _ _ rfl)
def RLUpdPost (w : World) (L : RLev) (C : Cfg) (lv : Int) (l : List Int) (key d : Int) (e : Ending) (w' : World) : Prop :=
  e = .returned (.int .i64 (lvE C lv l key d)) ∧ ((lvE C lv l key d = 0 ∧ RLvAt w' L C lv (lvU C lv l key d) ∧ Mod (L.foot C lv) w w') ∨ (lvE C lv l key d ≠ 0 ∧ Ext w w'))
set_option maxRecDepth 20000 in
set_option maxHeartbeats 4000000 in
theorem RLUpdate_c (L : RLev) (C : Cfg) (lv : Int) (l : List Int) (key d : Int) (w : World) (h : RLvAt w L C lv l) (hk : U64 key) (hd : I64 d) :
    Calls Tryz.prog 40 #[.pointer (some ⟨L.p, 0, none⟩), .int .u64 key, .int .i64 d] w (RLUpdPost w L C lv l key d) := by
  have hok := h.1
  have h0 := h.2.1
  have h1 := h.2.2.1
  cases hx : isX C lv with
  | true =>
    obtain ⟨hb, hA⟩ := h.x hx
    have p0 := (cell_of hb 0).trans rfl
    have pl := lt_of hb
    have HU := Lib.hid (RXUpdate_c _ _ C lv _ l key d w hA (kN_eq hok h0) hd hk)
    have HB := Lib.hid hb
    have HA := Lib.hid hA
    have HX := Lib.hid hx
    unfold RLUpdPost
    rw [lvE_x hx, lvU_x hx]
    clear hx hb hA h
    go_enter Tryz.func40, Tryz.ntmps40
    go_wp2_with fail
    refine Calls.mono HU.out ?_
    rintro e w1 ⟨rfl, hres⟩
    have HRES := Lib.hid hres
    clear hres HU
    go_wp2
    go_ret
    rcases HRES.out with ⟨e0, hA1, hM⟩ | ⟨e0, hE⟩
    · refine ⟨rfl, .inl ⟨e0, ⟨hok, h0, h1, .inl ⟨HX.out, ?_, hA1⟩⟩, hM.wider (fun k hk => .inr (.inl ⟨HX.out, .inr hk⟩))⟩⟩
      exact hM.keep HB.out (fun e => by obtain ⟨cu, q1, _⟩ := HA.out.cells; exact blk_ne HB.out q1 (by decide) e)
    · exact ⟨rfl, .inr ⟨e0, hE⟩⟩
  | false =>
    obtain ⟨hb, hA⟩ := h.sk hx
    have p0 := (cell_of hb 0).trans rfl
    have p1 := (cell_of hb 1).trans rfl
    have pl := lt_of hb
    have HU := Lib.hid (RSUpdate_c _ _ C lv _ _ l key d w hA hk hd)
    have HB := Lib.hid hb
    have HA := Lib.hid hA
    have HX := Lib.hid hx
    unfold RLUpdPost
    rw [lvE_s hx, lvU_s hx]
    clear hx hb hA h
    go_enter Tryz.func40, Tryz.ntmps40
    go_wp2_with fail
    refine Calls.mono HU.out ?_
    rintro e w1 ⟨rfl, hres⟩
    have HRES := Lib.hid hres
    clear hres HU
    go_wp2
    go_ret
    rcases HRES.out with ⟨e0, hA1, hM⟩ | ⟨e0, hE⟩
    · refine ⟨rfl, .inl ⟨e0, ⟨hok, h0, h1, .inr ⟨HX.out, ?_, hA1⟩⟩, hM.wider (fun k hk => .inr (.inr ⟨HX.out, .inr hk⟩))⟩⟩
      refine hM.keep HB.out (fun e => ?_)
      rcases e with e | e | ⟨r, hr, e⟩
      · obtain ⟨cp, q1, _⟩ := HA.out.g.ex; exact blk_ne HB.out q1 (by decide) e
      · obtain ⟨cp, q1, _⟩ := HA.out.g.row; exact blk_ne HB.out q1 (by decide) e
      · obtain ⟨cp, q1, _⟩ := HA.out.g.cells r hr; exact blk_ne HB.out q1 (by decide) e
    · exact ⟨rfl, .inr ⟨e0, hE⟩⟩
/-- What Point tells of a key of any kind, of a level. -/
def ptA (C : Cfg) (lv : Int) (l : List Int) (key x r : Int) : Prop :=
  (keys C lv ≤ key ∧ x = 0 ∧ r = 2) ∨ (key < keys C lv ∧ lvPt C lv l key x ∧ r = 0)
theorem ptA_unique {C : Cfg} {lv : Int} {l : List Int} {key x r y t : Int} (h : ptA C lv l key x r) (h2 : ptA C lv l key y t) : x = y ∧ r = t := by
  rcases h with ⟨a, rfl, rfl⟩ | ⟨a, b, rfl⟩ <;> rcases h2 with ⟨a2, rfl, rfl⟩ | ⟨a2, b2, rfl⟩
  · exact ⟨rfl, rfl⟩
  · omega
  · omega
  · exact ⟨lvPt_unique b b2, rfl⟩
set_option maxRecDepth 20000 in
set_option maxHeartbeats 4000000 in
theorem RLPoint_c (L : RLev) (C : Cfg) (lv : Int) (l : List Int) (key : Int) (w : World) (h : RLvAt w L C lv l) (hk : U64 key) :
    Calls Tryz.prog 38 #[.pointer (some ⟨L.p, 0, none⟩), .int .u64 key] w fun e w' => ∃ x r, e = .returned (.tuple #[.int .i64 x, .int .i64 r]) ∧ ptA C lv l key x r ∧ Ext w w' := by
  have hok := h.1
  have h0 := h.2.1
  have h1 := h.2.2.1
  cases hx : isX C lv with
  | true =>
    obtain ⟨hb, hA⟩ := h.x hx
    have p0 := (cell_of hb 0).trans rfl
    have pl := lt_of hb
    have hkn := kN_eq hok h0
    have hU : ∃ x r, Calls Tryz.prog 103 #[.pointer (some ⟨L.a, 0, none⟩), .int .u64 key] w (fun e w' => e = .returned (.tuple #[.int .i64 x, .int .i64 r]) ∧ w = w') ∧ ptA C lv l key x r := by
      have h2 := RXPoint_c _ _ C lv _ l key w hA hk
      unfold ptX at h2
      by_cases hge : ((kN C lv : Nat) : Int) ≤ key
      · rw [if_pos hge] at h2
        exact ⟨0, 2, h2, .inl ⟨by omega, rfl, rfl⟩⟩
      · rw [if_neg hge] at h2
        exact ⟨_, 0, h2, .inr ⟨by omega, .inl ⟨hx, rfl⟩, rfl⟩⟩
    obtain ⟨x, r, hU, hp⟩ := hU
    have HU := Lib.hid hU
    have HP := Lib.hid hp
    clear hx hb hA h hU hp hkn
    go_enter Tryz.func38, Tryz.ntmps38
    go_wp2_with fail
    refine Calls.mono HU.out ?_
    rintro e w1 ⟨rfl, rfl⟩
    go_wp2
    go_ret2
    exact ⟨x, r, rfl, HP.out, Ext.refl _⟩
  | false =>
    obtain ⟨hb, hA⟩ := h.sk hx
    have p0 := (cell_of hb 0).trans rfl
    have p1 := (cell_of hb 1).trans rfl
    have pl := lt_of hb
    have HU := Lib.hid (RSPoint_c _ _ C lv _ _ l key w hA hk)
    have HX := Lib.hid hx
    clear hx hb hA h
    go_enter Tryz.func38, Tryz.ntmps38
    go_wp2_with fail
    refine Calls.mono HU.out ?_
    rintro e w1 ⟨x, r, rfl, hp, hx1⟩
    have HP := Lib.hid hp
    clear hp HU
    go_wp2
    go_ret2
    refine ⟨x, r, rfl, ?_, hx1⟩
    rcases HP.out with ⟨a, b, c⟩ | ⟨a, b, c⟩
    · exact .inl ⟨a, b, c⟩
    · exact .inr ⟨a, .inr ⟨HX.out, b⟩, c⟩
set_option maxRecDepth 20000 in
set_option maxHeartbeats 4000000 in
theorem RLCells_c (L : RLev) (C : Cfg) (lv : Int) (l : List Int) (w : World) (h : RLvAt w L C lv l) :
    Calls Tryz.prog 24 #[.pointer (some ⟨L.p, 0, none⟩)] w fun e w' => ∃ v, e = .returned v ∧ w'.ownsRow w.heap.size 2 1 v l.length (ints l) ∧ Ext w w' := by
  cases hx : isX C lv with
  | true =>
    obtain ⟨hb, hA⟩ := h.x hx
    have p0 := (cell_of hb 0).trans rfl
    have pl := lt_of hb
    obtain ⟨cap, hex, hcap⟩ := hA.ex
    have a6 := (cell_of hex 6).trans rfl
    have al := lt_of hex
    have lm := hA.ltm
    have k2 := hA.k2
    have hcell : ∀ W : World, Ext w W → ∀ k, k < kN C lv → W.cell? ⟨L.G.m, 0 + k, none⟩ = some (.int .i64 (l.getD k 0)) := fun W hW k hk => by rw [(bcell hW).1 _ _ lm, Nat.zero_add]; exact hA.cell hk
    have HC := Lib.hid hcell
    have HL := Lib.hid hA.len
    clear hx hb hA h hcell hex
    go_enter Tryz.func24, Tryz.ntmps24
    have hE1 : Ext w (w.alloc (.cells #[] 2)) := Ext.alloc' _ _
    have hown : (w.alloc (.cells #[] 2)).ownsRow w.heap.size 2 1 (.slice (some ⟨w.heap.size, 0, none⟩) 0 0) ([] : List Int).length (ints []) := own_empty w 2
    go_wp2_with (at_builtin; refine wpList_appl (w.alloc (.cells #[] 2)) l [] _ w.heap.size 2 hown 43 rfl _ _ rfl info_i64 Tryz.underlying43 (by rfl) L.G.m 0 (kN C lv) cap (by rfl) HL.out.symm (HC.out _ hE1) ?a1 ?a2 ?_)
    case a1 => show 0 + kN C lv ≤ _; omega
    case a2 => exact hE1.size
    intro v' w' g1 g2 g3
    have hE2 : Ext w w' := ext_grown0 hE1 g2 (fun i hi => own_blk hown hi)
    have G1 := Lib.hid g1
    obtain ⟨pv, cv, rfl⟩ := own_sl g1
    clear g1 g2 g3 hown
    go_wp2
    go_ret
    exact ⟨_, rfl, G1.out, hE2⟩
  | false =>
    obtain ⟨hb, hA⟩ := h.sk hx
    have p0 := (cell_of hb 0).trans rfl
    have p1 := (cell_of hb 1).trans rfl
    have pl := lt_of hb
    have a6 := (cell_of hA.ex 6).trans rfl
    have al := hA.lts
    have HU := Lib.hid (RGCells_c _ _ _ l w hA.g)
    clear hx hb hA h
    go_enter Tryz.func24, Tryz.ntmps24
    go_wp2_with fail
    refine Calls.mono HU.out ?_
    rintro e w1 ⟨v, rfl, ho, hx1⟩
    have HO := Lib.hid ho
    obtain ⟨pv, cv, rfl⟩ := own_sl ho
    clear ho HU
    go_wp2
    go_ret
    exact ⟨_, rfl, HO.out, hx1⟩
end Go.Proofs.YtfhdjekpdifajaaGreat
namespace Go.Proofs.YtfhdjekpdifajaaGreat
set_option linter.unusedVariables false
open Go.RowKit
theorem lvm_Point (C : Cfg) (lv : Int) (p : Option Addr) (w : World) : Sem.run Tryz.prog (method 457 (lvT C lv) (.pointer p) "Point") w = .ok (lvF C lv 284 252, .pointer p) w := by
  unfold lvT lvF
  cases isX C lv with
  | true => kernel_rfl
  | false => kernel_rfl
theorem lve_Point (C : Cfg) (lv : Int) (args : Array Value) (w : World) : (callFunc (lvF C lv 284 252) args).run Tryz.prog w = .ok (.enter (lvF C lv 284 252) args) w := by
  unfold lvF
  cases isX C lv with
  | true => kernel_rfl
  | false => kernel_rfl
theorem lvm_Check (C : Cfg) (lv : Int) (p : Option Addr) (w : World) : Sem.run Tryz.prog (method 457 (lvT C lv) (.pointer p) "Check") w = .ok (lvF C lv 282 250, .pointer p) w := by
  unfold lvT lvF
  cases isX C lv with
  | true => kernel_rfl
  | false => kernel_rfl
theorem lve_Check (C : Cfg) (lv : Int) (args : Array Value) (w : World) : (callFunc (lvF C lv 282 250) args).run Tryz.prog w = .ok (.enter (lvF C lv 282 250) args) w := by
  unfold lvF
  cases isX C lv with
  | true => kernel_rfl
  | false => kernel_rfl
theorem lvm_Load (C : Cfg) (lv : Int) (p : Option Addr) (w : World) : Sem.run Tryz.prog (method 457 (lvT C lv) (.pointer p) "Load") w = .ok (lvF C lv 283 251, .pointer p) w := by
  unfold lvT lvF
  cases isX C lv with
  | true => kernel_rfl
  | false => kernel_rfl
theorem lve_Load (C : Cfg) (lv : Int) (args : Array Value) (w : World) : (callFunc (lvF C lv 283 251) args).run Tryz.prog w = .ok (.enter (lvF C lv 283 251) args) w := by
  unfold lvF
  cases isX C lv with
  | true => kernel_rfl
  | false => kernel_rfl
theorem lvn_Point (C : Cfg) (lv : Int) (a : Addr) (w : World) : Sem.run Tryz.prog (nilAhead 457 (lvT C lv) (.pointer (some a)) "Point") w = .ok (some false) w := by
  unfold lvT
  cases isX C lv with
  | true => kernel_rfl
  | false => kernel_rfl
theorem lvn_Check (C : Cfg) (lv : Int) (a : Addr) (w : World) : Sem.run Tryz.prog (nilAhead 457 (lvT C lv) (.pointer (some a)) "Check") w = .ok (some false) w := by
  unfold lvT
  cases isX C lv with
  | true => kernel_rfl
  | false => kernel_rfl
theorem lvn_Load (C : Cfg) (lv : Int) (a : Addr) (w : World) : Sem.run Tryz.prog (nilAhead 457 (lvT C lv) (.pointer (some a)) "Load") w = .ok (some false) w := by
  unfold lvT
  cases isX C lv with
  | true => kernel_rfl
  | false => kernel_rfl
theorem lvn_Update (C : Cfg) (lv : Int) (a : Addr) (w : World) : Sem.run Tryz.prog (nilAhead 457 (lvT C lv) (.pointer (some a)) "Update") w = .ok (some false) w := by
  unfold lvT
  cases isX C lv with
  | true => kernel_rfl
  | false => kernel_rfl
theorem LPoint_c (C : Cfg) (lv : Int) (L : Lev) (l : List Int) (key : Int) (w : World) (h : LvAt w L C lv l) (hk : U64 key) :
    Calls Tryz.prog (lvF C lv 284 252) #[.pointer (some ⟨L.s, 0, none⟩), .int .u64 key] w fun e w' => ∃ x r, e = .returned (.tuple #[.int .i64 x, .int .i64 r]) ∧ ptA C lv l key x r ∧ Ext w w' := by
  cases hx : isX C lv with
  | true =>
    rw [lvF_x hx]
    by_cases hlt : key < keys C lv
    · refine (EPoint_c _ _ _ C lv _ l key w (h.x hx) hk.1 hlt).mono ?_
      rintro e w' ⟨rfl, rfl⟩
      exact ⟨_, 0, rfl, .inr ⟨hlt, .inl ⟨hx, rfl⟩, rfl⟩, Ext.refl _⟩
    · refine (EPoint_no _ _ _ C lv _ l key w (h.x hx) hk (by omega)).mono ?_
      rintro e w' ⟨rfl, rfl⟩
      exact ⟨0, 2, rfl, .inl ⟨by omega, rfl, rfl⟩, Ext.refl _⟩
  | false =>
    rw [lvF_s hx]
    refine (SPointAny_c _ _ _ C lv _ _ l key w (h.sk hx) hk).mono ?_
    rintro e w' ⟨x, r, rfl, hp, hE⟩
    refine ⟨x, r, rfl, ?_, hE⟩
    rcases hp with ⟨a, b, c⟩ | ⟨a, b, c⟩
    · exact .inl ⟨a, b, c⟩
    · exact .inr ⟨a, .inr ⟨hx, b⟩, c⟩
theorem LCheck_c (C : Cfg) (lv : Int) (L : Lev) (l : List Int) (key d : Int) (w : World) (h : LvAt w L C lv l) (hd : I64 d) (hk : U64 key) :
    Calls Tryz.prog (lvF C lv 282 250) #[.pointer (some ⟨L.s, 0, none⟩), .int .u64 key, .int .i64 d] w fun e w' => e = .returned (.int .i64 (lvE C lv l key d)) ∧ Ext w w' := by
  cases hx : isX C lv with
  | true => rw [lvF_x hx, lvE_x hx]; exact ECheck_c _ _ _ C lv _ l key d w (h.x hx) hd hk
  | false => rw [lvF_s hx, lvE_s hx]; exact Check_c _ _ _ C lv _ _ l key d w (h.sk hx) hd hk.1
theorem LLoad_c (C : Cfg) (lv : Int) (L : Lev) (l m : List Int) (v : Value) (w : World) (h : LvAt w L C lv l) (hv : IntsAt w v m) (hI : allI m) (hl : m.length = lvN C lv) (hne : ∀ g off n cap, v = .slice (some ⟨g, off, none⟩) n cap → g ≠ L.c) :
    Calls Tryz.prog (lvF C lv 283 251) #[.pointer (some ⟨L.s, 0, none⟩), v] w fun e w' => e = .returned (.bool true) ∧ LvAt w' L C lv m ∧ Mod (fun k => k = L.c) w w' := by
  cases hx : isX C lv with
  | true =>
    rw [lvF_x hx]
    refine (ELoad_yes _ _ _ C lv _ l m v w (h.x hx) hv hI (by rw [hl]; unfold lvN; rw [hx]; rfl) hne).mono ?_
    rintro e w' ⟨rfl, hA, hM⟩
    exact ⟨rfl, .inl ⟨hx, hA⟩, hM⟩
  | false =>
    rw [lvF_s hx]
    refine (Load_yes _ _ _ C lv _ _ l m v w (h.sk hx) hv hI (by rw [hl]; unfold lvN; rw [hx]; rfl) hne).mono ?_
    rintro e w' ⟨rfl, hA, hM⟩
    exact ⟨rfl, .inr ⟨hx, hA⟩, hM⟩
end Go.Proofs.YtfhdjekpdifajaaGreat
namespace Go.Proofs.YtfhdjekpdifajaaGreat
set_option linter.unusedVariables false
def mxL (l all : List Int) (n : Nat) : List Int := all.take n ++ l.drop n
theorem mxL_zero (l all : List Int) : mxL l all 0 = l := by simp [mxL]
theorem mxL_all {l all : List Int} (h : all.length = l.length) : mxL l all l.length = all := by
  unfold mxL
  rw [← h, List.take_length, h, List.drop_length, List.append_nil]
theorem mxL_set {l all : List Int} (h : all.length = l.length) {n : Nat} (hn : n < l.length) : (mxL l all n).set n (all.getD n 0) = mxL l all (n + 1) := by
  refine List.ext_getElem? (fun i => ?_)
  unfold mxL
  rw [List.getElem?_set]
  have hl : (all.take n).length = n := by rw [List.length_take]; omega
  have hl2 : (all.take (n + 1)).length = n + 1 := by rw [List.length_take]; omega
  by_cases e : n = i
  · subst e
    rw [if_pos rfl, if_pos (by rw [List.length_append, hl, List.length_drop]; omega), List.getElem?_append_left (by omega), List.getElem?_take_of_lt (by omega)]
    simp [List.getD, List.getElem?_eq_getElem (show n < all.length by omega)]
  · rw [if_neg e]
    by_cases h1 : i < n
    · rw [List.getElem?_append_left (by omega), List.getElem?_append_left (by omega), List.getElem?_take_of_lt h1, List.getElem?_take_of_lt (by omega)]
    · rw [List.getElem?_append_right (by omega), List.getElem?_append_right (by omega), hl, hl2, List.getElem?_drop, List.getElem?_drop]
      congr 1
      omega
end Go.Proofs.YtfhdjekpdifajaaGreat
namespace Go.Proofs.YtfhdjekpdifajaaGreat
set_option linter.unusedVariables false
open Go.RowKit
def RLLoadPost (w : World) (L : RLev) (C : Cfg) (lv : Int) (all : List Int) (e : Ending) (w' : World) : Prop :=
  e = .returned (.tuple #[]) ∧ ∃ L' : RLev, L'.p = L.p ∧ RLvAt w' L' C lv all ∧ (∀ k, L'.foot C lv k → L.foot C lv k ∨ w.heap.size ≤ k) ∧ Mod (L.foot C lv) w w'
set_option maxRecDepth 20000 in
set_option maxHeartbeats 4000000 in
theorem RLLoad_x (L : RLev) (C : Cfg) (lv : Int) (l all : List Int) (v : Value) (w : World) (h : RLvAt w L C lv l) (hx : isX C lv = true) (hv : IntsAt w v all) (hal : all.length = kN C lv) (hI : ∀ x ∈ all, I64 x) :
    Calls Tryz.prog 25 #[.pointer (some ⟨L.p, 0, none⟩), v] w (RLLoadPost w L C lv all) := by
  obtain ⟨hp, hA⟩ := h.x hx
  have hok := h.1
  have h0 := h.2.1
  have h1 := h.2.2.1
  have k1 := hA.k1
  have k2 := hA.k2
  obtain ⟨g, off, vc, rfl, hgl, hgc⟩ := hv.slice (by omega)
  obtain ⟨cap, hex, hcap⟩ := hA.ex
  have c0 := (cell_of hp 0).trans rfl
  have lp := lt_of hp
  have HP := Lib.hid hp
  have HEX := Lib.hid hex
  have hvc : ∃ vc', vc = vc' := ⟨_, rfl⟩
  have hcell : ∀ W : World, Ext w W → ∀ k, k < all.length → W.cell? ⟨g, off + k, none⟩ = some (.int .i64 (all.getD k 0)) := fun W hW k hk => by rw [(bcell hW).1 _ _ hgl]; exact hgc k hk
  have HC := Lib.hid hcell
  have la := hA.lta
  have HH := Lib.hid h
  have HI := Lib.hid hI
  have HAL := Lib.hid hal
  have HX := Lib.hid hx
  have hq1 : 0 < all.length := by omega
  have hq2 : all.length ≤ 128 := by omega
  clear hcell hp hex hv hgc hI h hA hx hal k1 k2
  go_enter Tryz.func25, Tryz.ntmps25
  go_wp2_with fail
  have hC0 := af_drew w
  refine pi_start (fun w' => ∃ z : After w, w' = z.w) [9] (by kernel_rfl) ?_
  refine pi_t 0 rfl (by kernel_rfl) (by kernel_rfl) (fun _ _ _ _ h => h) (fun K hK => ?_)
  go_big_quiet_op
  refine hK _ ?_
  clear hK K
  refine pi_t 1 rfl (by kernel_rfl) (by kernel_rfl) (fun _ _ _ _ h => h) (fun K hK => ?_)
  go_big_quiet_op
  refine hK _ ?_
  clear hK K
  refine pi_t 2 rfl (by kernel_rfl) (by kernel_rfl) (fun _ _ _ _ h => h) (fun K hK => ?_)
  go_big_quiet_op
  refine hK _ ?_
  clear hK K
  refine pi_t 5 rfl (by kernel_rfl) (by kernel_rfl) (fun _ _ _ _ h => h) (fun K hK => ?_)
  go_big_quiet_op
  refine hK _ ?_
  clear hK K
  refine pi_c 3 (by assumption) rfl (by kernel_rfl) (by kernel_rfl) (fun _ _ _ _ h => h) (fun K hK => ?_)
  go_big_quiet_op
  refine hK _ ?_
  clear hK K
  refine pi_l 4 rfl (by kernel_rfl) (fun K hK => ?_)
  go_wp2
  refine hK _ _ (fun _ h => af_step h (Ext.alloc' _ _)) ?_
  clear hK K
  have hE1 : Ext w (w.alloc (.cells #[] 2)).drew := ((Ext.refl w).allocR _).drewR
  have hown : (w.alloc (.cells #[] 2)).drew.ownsRow w.heap.size 2 1 (.slice (some ⟨w.heap.size, 0, none⟩) 0 0) ([] : List Int).length (ints []) := own_drew (own_empty w 2)
  generalize (w.alloc (.cells #[] 2)).drew = W at *
  refine pi_l 6 rfl (by kernel_rfl) (fun K hK => ?_)
  go_wp2_with (at_builtin; refine wpList_appl W all [] _ w.heap.size 2 hown 43 rfl _ _ rfl info_i64 Tryz.underlying43 (by rfl) g off all.length vc (by rfl) rfl (HC.out W hE1) ?a1 ?a2 ?_)
  case a1 => show 0 + all.length ≤ _; omega
  case a2 => exact hE1.size
  intro v' w' g1 g2 g3
  have hE2 : Ext w w' := ext_grown0 hE1 g2 (fun i hi => own_blk hown hi)
  have hE2' : ∃ z : After w, w' = z.w := ⟨⟨w', hE2⟩, rfl⟩
  obtain ⟨z, zc, cur, rfl, hzc, hz, hzh, hzcur⟩ := own_row1 g1 (by show 0 < all.length; omega)
  have HZ := Lib.hid (And.intro hzc (And.intro hz (And.intro hzh hzcur)))
  have hs2 := hE2.size
  clear g1 g2 g3 hown hzc hz hzh hzcur
  go_wp2
  refine hK _ _ (fun _ _ => hE2') ?_
  clear hK K
  refine pi_t 7 rfl (by kernel_rfl) (by kernel_rfl) (fun _ _ _ _ h => h) (fun K hK => ?_)
  go_big_quiet_op
  refine hK _ ?_
  clear hK K
  refine pi_t 8 rfl (by kernel_rfl) (by kernel_rfl) (fun _ _ _ _ h => h) (fun K hK => ?_)
  go_big_quiet_op
  refine hK _ ?_
  clear hK K
  have hex2 := hE2.keep HEX.out
  have e6 := (cell_of hex2 6).trans rfl
  have f6 := frozen_of hex2 6
  have l6 := lt_of hex2
  refine pi_l 9 rfl (by kernel_rfl) (fun K hK => ?_)
  go_wp2
  refine hK _ _ (by simp) ?_
  clear hK K
  refine pi_end (by kernel_rfl) ?_
  go_wp2
  refine bodyPost_ret (v := .tuple #[]) (by simp [results, Tryz.results25, go_sem]) rfl ⟨rfl, ?_⟩
  obtain ⟨q1, q2, q3, q4⟩ := HZ.out
  have hza : z ≠ L.a := by omega
  have hpa : L.p ≠ L.a := blk_ne HP.out HEX.out (by decide)
  refine ⟨⟨L.p, L.a, ⟨L.G.g, z, L.G.r, L.G.c⟩⟩, rfl, ⟨hok, h0, h1, .inl ⟨HX.out, ?_, ⟨⟨zc, ?_, by rw [← HAL.out]; exact q1⟩, ⟨cur, ?_, fun k hk => q4 k (by rw [HAL.out]; exact hk)⟩, HAL.out, by rw [← HAL.out]; exact hq1, by rw [← HAL.out]; exact hq2, HI.out⟩⟩⟩, ?_, ?_⟩
  · rw [setCell_other _ _ hpa]; exact hE2.keep HP.out
  · rw [← HAL.out]; exact (setCell_same (hE2.keep HEX.out) 6 _).trans rfl
  · rw [setCell_other _ _ hza]; exact q3
  · rintro k (rfl | ⟨hy, (rfl | rfl)⟩ | ⟨hy, _⟩)
    · exact .inl (.inl rfl)
    · exact .inl (.inr (.inl ⟨hy, .inl rfl⟩))
    · exact .inr q2
    · rw [HX.out] at hy; cases hy
  · exact ((hE2.mod (fun k => k = L.a)).trans (mod_set _ _ _ _)).wider (fun k hk => .inr (.inl ⟨HX.out, .inl hk⟩))
end Go.Proofs.YtfhdjekpdifajaaGreat
namespace Go.Proofs.YtfhdjekpdifajaaGreat
set_option linter.unusedVariables false
open Go.RowKit
theorem rs_facts {w : World} {p a : Nat} {G : Gr} {C : Cfg} {lv : Int} {R W : Nat} {l : List Int} (hp : w.heap[p]? = some (.cells #[.pointer none, .pointer (some ⟨a, 0, none⟩)] 153 (0, 0))) (hS : RSAt w a G C lv R W l) {W' : World} (hM : Mod (G.foot R) w W') :
    W'.cell? ⟨p, 0, none⟩ = some (.pointer none) ∧ W'.cell? ⟨p, 1, none⟩ = some (.pointer (some ⟨a, 0, none⟩)) ∧ p < W'.heap.size ∧ W'.cell? ⟨a, 6, none⟩ = some (.pointer (some ⟨G.g, 0, none⟩)) ∧ a < W'.heap.size := by
  have hG := hS.g
  have hnp : ¬ G.foot R p := by
    rintro (e | e | ⟨r, hr, e⟩)
    · obtain ⟨cap, q, _⟩ := hG.ex; exact blk_ne hp q (by decide) e
    · obtain ⟨cap, q, _⟩ := hG.row; exact blk_ne hp q (by decide) e
    · obtain ⟨cur, q, _⟩ := hG.cells r hr; exact blk_ne hp q (by decide) e
  have h1 := hM.keep hp hnp
  have h2 := hM.keep hS.ex hS.ns
  exact ⟨(cell_of h1 0).trans rfl, (cell_of h1 1).trans rfl, lt_of h1, (cell_of h2 6).trans rfl, lt_of h2⟩
set_option maxRecDepth 20000 in
set_option maxHeartbeats 8000000 in
theorem RSLoad_c (p a : Nat) (G : Gr) (C : Cfg) (lv : Int) (R W : Nat) (l all : List Int) (v : Value) (w : World)
    (hp : w.heap[p]? = some (.cells #[.pointer none, .pointer (some ⟨a, 0, none⟩)] 153 (0, 0))) (hS : RSAt w a G C lv R W l) (hv : IntsAt w v all) (hal : all.length = R * W) (hI : ∀ x ∈ all, I64 x) (hnf : ∀ g off n cap, v = .slice (some ⟨g, off, none⟩) n cap → ¬ G.foot R g) :
    Calls Tryz.prog 25 #[.pointer (some ⟨p, 0, none⟩), v] w fun e w' => e = .returned (.tuple #[]) ∧ RSAt w' a G C lv R W all ∧ Mod (G.foot R) w w' := by
  have hG := hS.g
  have r1 := hG.r1
  have r2 := hG.r2
  have w1' := hG.w1
  have w2' := hG.w2
  have hlen := hG.len
  have hRW : 0 < R * W := Nat.mul_pos r1 w1'
  have hRW2 : R * W ≤ 1024 := Nat.le_trans (Nat.mul_le_mul r2 w2') (by decide)
  obtain ⟨g, off, vc, rfl, hgl, hgc⟩ := hv.slice (by rw [hal]; exact hRW)
  have hgf := hnf _ _ _ _ rfl
  obtain ⟨N, hN⟩ : ∃ N : Nat, N = R * W := ⟨_, rfl⟩
  have hal' : all.length = l.length := hal.trans hlen.symm
  rw [hal, ← hN] at hgc ⊢
  have hN1 : 0 < N := by rw [hN]; exact hRW
  have hN2 : N ≤ 1024 := by rw [hN]; exact hRW2
  have HFA := Lib.hid (fun (W' : World) (hM : Mod (G.foot R) w W') => rs_facts hp hS hM)
  have HV := Lib.hid (fun (W' : World) (hM : Mod (G.foot R) w W') (k : Nat) (hk : k < N) => show W'.cell? ⟨g, off + k, none⟩ = some (.int .i64 (all.getD k 0)) from by
    have e := hM.block g hgl hgf
    rw [show W'.cell? ⟨g, off + k, none⟩ = w.cell? ⟨g, off + k, none⟩ by simp [World.cell?, e]]
    exact hgc k hk)
  have HG := Lib.hid hG
  have HS := Lib.hid hS
  have HI := Lib.hid hI
  have HN := Lib.hid hN
  have HAL := Lib.hid hal'
  have HLE := Lib.hid hlen
  obtain ⟨f0, _, fl, _, _⟩ := HFA.out w (Mod.refl _ _)
  have HGL := Lib.hid hgl
  clear hp hS hv hal hI hnf hG hlen hRW hRW2 hgl hgc hgf hN hal'
  go_enter Tryz.func25, Tryz.ntmps25
  go_wp2_with fail
  clear f0 fl
  go_loopw [4, 5] (fun u4 u5 wr => ∃ r n : Nat, r ≤ R ∧ n = r * W ∧ u4 = .int .i64 n ∧ u5 = .int .i64 r ∧ RGAt wr G R W (mxL l all n) ∧ Mod (G.foot R) w wr) (fun _ u5 _ => R - (intOf u5).toNat)
  case atStart => exact ⟨0, 0, Nat.zero_le _, (Nat.zero_mul _).symm, rfl, rfl, by rw [mxL_zero]; exact HG.out, Mod.refl _ _⟩
  case round =>
    obtain ⟨r, n, hr, hn, rfl, rfl, hg, hM⟩ := hrel
    have HN' := Lib.hid hn
    have HGR := Lib.hid hg
    obtain ⟨_, p1, pl, a6, al⟩ := HFA.out _ hM
    obtain ⟨cap, cg, hcap⟩ := hg.cg
    have lg := hg.ltg
    have HM := Lib.hid hM
    clear hn hg hM
    by_cases hlt : r < R
    · have hkz : (r : Int) < (R : Int) := by omega
      have hnN : n + W ≤ N := by
        rw [HN'.out, HN.out]
        calc r * W + W = (r + 1) * W := by rw [Nat.add_mul, Nat.one_mul]
          _ ≤ R * W := Nat.mul_le_mul_right W hlt
      rename World => wo
      go_wp2_with fail
      clear p1 pl a6 al cg lg hcap
      go_loopw [4, 6] (fun u4 u6 wr => ∃ c m : Nat, c ≤ W ∧ m = n + c ∧ u4 = .int .i64 m ∧ u6 = .int .i64 c ∧ RGAt wr G R W (mxL l all m) ∧ Mod (G.foot R) w wr) (fun _ u6 _ => W - (intOf u6).toNat)
      case atStart => exact ⟨0, n, Nat.zero_le _, rfl, rfl, rfl, HGR.out, HM.out⟩
      case round =>
        clear HGR HM
        obtain ⟨c, m, hc, hm, rfl, rfl, hg, hM⟩ := hrel
        obtain ⟨_, p1, pl, a6, al⟩ := HFA.out _ hM
        obtain ⟨cap, cg, hcap⟩ := hg.cg
        have lg := hg.ltg
        have cm := hg.cm hlt
        have lm := hg.ltm
        have HGR := Lib.hid hg
        have HM := Lib.hid hM
        have hgl := Nat.lt_of_lt_of_le HGL.out hM.size
        have hcr := hg.capc r hlt
        by_cases hcl : c < W
        · have hcz : (c : Int) < (W : Int) := by omega
          have hmN : m < N := by omega
          have hmz : (m : Int) < (N : Int) := by omega
          have hxv := HV.out _ hM m hmN
          have fr := hg.fr hlt c
          have cr := hg.cr hlt hcl
          have lr := hg.ltr hlt
          have hix : I64 (all.getD m 0) := getD_i64 HI.out m
          have hset := mxL_set HAL.out (n := m) (by rw [HLE.out, ← HN.out]; exact hmN)
          have hgi := hg.set hlt hcl (all.getD m 0)
          have hmm := mod_rset (w := ‹World›) (G := G) (R := R) hlt c (.int .i64 (all.getD m 0))
          rw [show r * W + c = m by rw [← HN'.out]; exact hm.symm, hset] at hgi
          have HGI := Lib.hid hgi
          have HMM := Lib.hid (hM.trans hmm)
          generalize all.getD m 0 = x at *
          have HM' := Lib.hid hm
          clear hg hM hset hgi hmm hix hm
          rename World => wi
          go_wp2_with fail
          have hC0 := af_drew wi
          refine pi_start (fun w' => ∃ z : After wi, w' = z.w) [19] (by kernel_rfl) ?_
          refine pi_t 0 rfl (by kernel_rfl) (by kernel_rfl) (fun _ _ _ _ h => h) (fun K hK => ?_)
          go_big_quiet_op
          refine hK _ ?_
          clear hK K
          refine pi_t 1 rfl (by kernel_rfl) (by kernel_rfl) (fun _ _ _ _ h => h) (fun K hK => ?_)
          go_big_quiet_op
          refine hK _ ?_
          clear hK K
          refine pi_t 2 rfl (by kernel_rfl) (by kernel_rfl) (fun _ _ _ _ h => h) (fun K hK => ?_)
          go_big_quiet_op
          refine hK _ ?_
          clear hK K
          refine pi_t 10 rfl (by kernel_rfl) (by kernel_rfl) (fun _ _ _ _ h => h) (fun K hK => ?_)
          go_big_quiet_op
          refine hK _ ?_
          clear hK K
          refine pi_t 13 rfl (by kernel_rfl) (by kernel_rfl) (fun _ _ _ _ h => h) (fun K hK => ?_)
          go_big_quiet_op
          refine hK _ ?_
          clear hK K
          refine pi_t 14 rfl (by kernel_rfl) (by kernel_rfl) (fun _ _ _ _ h => h) (fun K hK => ?_)
          go_big_quiet_op
          refine hK _ ?_
          clear hK K
          refine pi_t 15 rfl (by kernel_rfl) (by kernel_rfl) (fun _ _ _ _ h => h) (fun K hK => ?_)
          go_big_quiet_op
          refine hK _ ?_
          clear hK K
          refine pi_t 16 rfl (by kernel_rfl) (by kernel_rfl) (fun _ _ _ _ h => h) (fun K hK => ?_)
          go_big_quiet_op
          refine hK _ ?_
          clear hK K
          refine pi_c 3 (by assumption) rfl (by kernel_rfl) (by kernel_rfl) (fun _ _ _ _ h => h) (fun K hK => ?_)
          go_big_quiet_op
          refine hK _ ?_
          clear hK K
          refine pi_t 4 rfl (by kernel_rfl) (by kernel_rfl) (fun _ _ _ _ h => h) (fun K hK => ?_)
          go_big_quiet_op
          refine hK _ ?_
          clear hK K
          refine pi_t 5 rfl (by kernel_rfl) (by kernel_rfl) (fun _ _ _ _ h => h) (fun K hK => ?_)
          go_big_quiet_op
          refine hK _ ?_
          clear hK K
          refine pi_c 6 (by assumption) rfl (by kernel_rfl) (by kernel_rfl) (fun _ _ _ _ h => h) (fun K hK => ?_)
          go_big_quiet_op
          refine hK _ ?_
          clear hK K
          refine pi_t 7 rfl (by kernel_rfl) (by kernel_rfl) (fun _ _ _ _ h => h) (fun K hK => ?_)
          go_big_quiet_op
          refine hK _ ?_
          clear hK K
          refine pi_t 8 rfl (by kernel_rfl) (by kernel_rfl) (fun _ _ _ _ h => h) (fun K hK => ?_)
          go_big_quiet_op
          refine hK _ ?_
          clear hK K
          refine pi_c 9 (by assumption) rfl (by kernel_rfl) (by kernel_rfl) (fun _ _ _ _ h => h) (fun K hK => ?_)
          go_big_quiet_op
          refine hK _ ?_
          clear hK K
          refine pi_t 11 rfl (by kernel_rfl) (by kernel_rfl) (fun _ _ _ _ h => h) (fun K hK => ?_)
          go_big_quiet_op
          refine hK _ ?_
          clear hK K
          refine pi_c 12 (by assumption) rfl (by kernel_rfl) (by kernel_rfl) (fun _ _ _ _ h => h) (fun K hK => ?_)
          go_big_quiet_op
          refine hK _ ?_
          clear hK K
          refine pi_c 17 (by assumption) rfl (by kernel_rfl) (by kernel_rfl) (fun _ _ _ _ h => h) (fun K hK => ?_)
          go_big_quiet_op
          refine hK _ ?_
          clear hK K
          refine pi_t 18 rfl (by kernel_rfl) (by kernel_rfl) (fun _ _ _ _ h => h) (fun K hK => ?_)
          go_big_quiet_op
          refine hK _ ?_
          clear hK K
          refine pi_l 19 rfl (by kernel_rfl) (fun K hK => ?_)
          go_wp2
          refine hK _ _ (by simp) ?_
          clear hK K
          refine pi_end (by kernel_rfl) ?_
          go_wp2
          go_roundw
          case rel => exact ⟨c + 1, m + 1, by omega, by rw [HM'.out]; omega, by go_num, by go_num, HGI.out.ext (Ext.refl _).drewR, HMM.out.trans ((Ext.refl _).drewR.mod _)⟩
          case measure => simp [intOf]; omega
        · obtain rfl : c = W := by omega
          clear hg hM
          go_wp2
          go_roundw
          case rel => exact ⟨r + 1, m, by omega, by rw [hm, HN'.out, Nat.add_mul, Nat.one_mul], rfl, by go_num, HGR.out, HM.out⟩
          case measure => simp [intOf]; omega
    · obtain rfl : r = R := by omega
      go_wp2
      refine bodyPost_end (v := .tuple #[]) (by simp [results, Tryz.results25, go_sem]) rfl ⟨rfl, ?_, HM.out⟩
      refine HS.out.putg ?_ HM.out HI.out
      have := HGR.out
      rw [HN'.out, ← HLE.out, mxL_all HAL.out] at this
      exact this
theorem RLLoad_c (L : RLev) (C : Cfg) (lv : Int) (l all : List Int) (v : Value) (w : World) (h : RLvAt w L C lv l) (hv : IntsAt w v all) (hal : all.length = lvN C lv) (hI : ∀ x ∈ all, I64 x) (hnf : ∀ g off n cap, v = .slice (some ⟨g, off, none⟩) n cap → ¬ L.foot C lv g) :
    Calls Tryz.prog 25 #[.pointer (some ⟨L.p, 0, none⟩), v] w (RLLoadPost w L C lv all) := by
  cases hx : isX C lv with
  | true => exact RLLoad_x L C lv l all v w h hx hv (by rw [hal]; unfold lvN; rw [hx]; rfl) hI
  | false =>
    obtain ⟨hp, hS⟩ := h.sk hx
    refine (RSLoad_c L.p L.a L.G C lv _ _ l all v w hp hS hv (by rw [hal]; unfold lvN; rw [hx]; rfl) hI (fun g off n cap e hf => hnf g off n cap e (.inr (.inr ⟨hx, .inr hf⟩)))).mono ?_
    rintro e w' ⟨rfl, hS', hM⟩
    have hp' : w'.heap[L.p]? = _ := hM.keep hp (by
      rintro (e | e | ⟨r, hr, e⟩)
      · obtain ⟨cap, q, _⟩ := hS.g.ex; exact blk_ne hp q (by decide) e
      · obtain ⟨cap, q, _⟩ := hS.g.row; exact blk_ne hp q (by decide) e
      · obtain ⟨cur, q, _⟩ := hS.g.cells r hr; exact blk_ne hp q (by decide) e)
    exact ⟨rfl, L, rfl, ⟨h.1, h.2.1, h.2.2.1, .inr ⟨hx, hp', hS'⟩⟩, fun k hk => .inl hk, hM.wider (fun k hk => .inr (.inr ⟨hx, .inr hk⟩))⟩
end Go.Proofs.YtfhdjekpdifajaaGreat
namespace Go.Proofs.YtfhdjekpdifajaaGreat
set_option linter.unusedVariables false
open Go.RowKit
def RXJoinPost (w : World) (a : Nat) (C : Cfg) (lv : Int) (K : Nat) (ms : List Int) (e : Ending) (w' : World) : Prop :=
  (allI ms ∧ e = .returned (.int .i64 0) ∧ ∃ m' : Nat, RXAt w' a m' C lv K ms ∧ w.heap.size ≤ m' ∧ Mod (fun k => k = a) w w') ∨ (¬ allI ms ∧ e = .returned (.int .i64 4) ∧ Ext w w')
theorem rowF_all {K : Nat} {ms : List Int} (h : ms.length = K) : rowF (fun _ k => ms.getD k 0) 0 K = ms := by
  refine list_ext_getD ?_ (fun i hi => ?_)
  · rw [rowF_len, h]
  · rw [rowF_len] at hi
    rw [rowF_get hi]
set_option maxRecDepth 20000 in
set_option maxHeartbeats 16000000 in
theorem RXJoinPlus_c (a m a2 m2 : Nat) (C : Cfg) (lv : Int) (K : Nat) (l l2 : List Int) (w : World) (h : RXAt w a m C lv K l) (h2 : RXAt w a2 m2 C lv K l2) (hmd : "Plus" = "Minus" → C.mode ≠ 2) :
    Calls Tryz.prog 113 #[.pointer (some ⟨a, 0, none⟩), .pointer (some ⟨a2, 0, none⟩), .int .i64 1] w (RXJoinPost w a C lv K (plusL l l2)) := by
  have HH := Lib.hid h
  have HH2 := Lib.hid h2
  have k1 := h.k1
  have k2 := h.k2
  have la := h.lta
  have la2 := h2.lta
  obtain ⟨cap, hex, hcap⟩ := h.ex
  obtain ⟨cap2, hex2, hcap2⟩ := h2.ex
  have c0 := (cell_of hex 0).trans rfl
  have c1 := (cell_of hex 1).trans rfl
  have c2 := (cell_of hex 2).trans rfl
  have c3 := (cell_of hex 3).trans rfl
  have c4 := (cell_of hex 4).trans rfl
  have c5 := (cell_of hex 5).trans rfl
  have d0 := (cell_of hex2 0).trans rfl
  have d1 := (cell_of hex2 1).trans rfl
  have d2 := (cell_of hex2 2).trans rfl
  have d3 := (cell_of hex2 3).trans rfl
  have d4 := (cell_of hex2 4).trans rfl
  have d5 := (cell_of hex2 5).trans rfl
  have HEX := Lib.hid hex
  have HEX2 := Lib.hid hex2
  have hml : (plusL l l2).length = K := by rw [plusL_len]; exact h.len
  have hfs : ∀ k, k < K → (plusL l l2).getD k 0 = l.getD k 0 + l2.getD k 0 := fun k hk => plusL_get (by rw [h.len]; exact hk)
  have HML := Lib.hid hml
  have HFS := Lib.hid hfs
  clear hml hfs h h2 hmd hex hex2
  generalize plusL l l2 = ms at *
  obtain ⟨f, hf⟩ : ∃ f : Nat → Nat → Int, f = fun _ k => ms.getD k 0 := ⟨_, rfl⟩
  have HF := Lib.hid hf
  clear hf
  go_enter Tryz.func113, Tryz.ntmps113
  go_wp2_with fail
  have hC0 := af_drew w
  refine pi_start (fun w' => ∃ z : After w, w' = z.w) [] (by kernel_rfl) ?_
  refine pi_t 0 rfl (by kernel_rfl) (by kernel_rfl) (fun _ _ _ _ h => h) (fun K hK => ?_)
  go_big_quiet_op
  refine hK _ ?_
  clear hK K
  refine pi_t 1 rfl (by kernel_rfl) (by kernel_rfl) (fun _ _ _ _ h => h) (fun K hK => ?_)
  go_big_quiet_op
  refine hK _ ?_
  clear hK K
  refine pi_t 2 rfl (by kernel_rfl) (by kernel_rfl) (fun _ _ _ _ h => h) (fun K hK => ?_)
  go_big_quiet_op
  refine hK _ ?_
  clear hK K
  refine pi_t 4 rfl (by kernel_rfl) (by kernel_rfl) (fun _ _ _ _ h => h) (fun K hK => ?_)
  go_big_quiet_op
  refine hK _ ?_
  clear hK K
  refine pi_t 5 rfl (by kernel_rfl) (by kernel_rfl) (fun _ _ _ _ h => h) (fun K hK => ?_)
  go_big_quiet_op
  refine hK _ ?_
  clear hK K
  refine pi_t 6 rfl (by kernel_rfl) (by kernel_rfl) (fun _ _ _ _ h => h) (fun K hK => ?_)
  go_big_quiet_op
  refine hK _ ?_
  clear hK K
  refine pi_c 3 (by assumption) rfl (by kernel_rfl) (by kernel_rfl) (fun _ _ _ _ h => h) (fun K hK => ?_)
  go_big_quiet_op
  refine hK _ ?_
  clear hK K
  refine pi_c 7 (by assumption) rfl (by kernel_rfl) (by kernel_rfl) (fun _ _ _ _ h => h) (fun K hK => ?_)
  go_big_quiet_op
  refine hK _ ?_
  clear hK K
  refine pi_t 8 rfl (by kernel_rfl) (by kernel_rfl) (fun _ _ _ _ h => h) (fun K hK => ?_)
  go_big_quiet_op
  refine hK _ ?_
  clear hK K
  refine pi_t 9 rfl (by kernel_rfl) (by kernel_rfl) (fun _ _ _ _ h => h) (fun K hK => ?_)
  go_big_quiet_op
  refine hK _ ?_
  clear hK K
  refine pi_t 10 rfl (by kernel_rfl) (by kernel_rfl) (fun _ _ _ _ h => h) (fun K hK => ?_)
  go_big_quiet_op
  refine hK _ ?_
  clear hK K
  refine pi_t 11 rfl (by kernel_rfl) (by kernel_rfl) (fun _ _ _ _ h => h) (fun K hK => ?_)
  go_big_quiet_op
  refine hK _ ?_
  clear hK K
  refine pi_t 12 rfl (by kernel_rfl) (by kernel_rfl) (fun _ _ _ _ h => h) (fun K hK => ?_)
  go_big_quiet_op
  refine hK _ ?_
  clear hK K
  refine pi_t 14 rfl (by kernel_rfl) (by kernel_rfl) (fun _ _ _ _ h => h) (fun K hK => ?_)
  go_big_quiet_op
  refine hK _ ?_
  clear hK K
  refine pi_t 15 rfl (by kernel_rfl) (by kernel_rfl) (fun _ _ _ _ h => h) (fun K hK => ?_)
  go_big_quiet_op
  refine hK _ ?_
  clear hK K
  refine pi_t 16 rfl (by kernel_rfl) (by kernel_rfl) (fun _ _ _ _ h => h) (fun K hK => ?_)
  go_big_quiet_op
  refine hK _ ?_
  clear hK K
  refine pi_c 13 (by assumption) rfl (by kernel_rfl) (by kernel_rfl) (fun _ _ _ _ h => h) (fun K hK => ?_)
  go_big_quiet_op
  refine hK _ ?_
  clear hK K
  refine pi_c 17 (by assumption) rfl (by kernel_rfl) (by kernel_rfl) (fun _ _ _ _ h => h) (fun K hK => ?_)
  go_big_quiet_op
  refine hK _ ?_
  clear hK K
  refine pi_t 18 rfl (by kernel_rfl) (by kernel_rfl) (fun _ _ _ _ h => h) (fun K hK => ?_)
  go_big_quiet_op
  refine hK _ ?_
  clear hK K
  refine pi_t 19 rfl (by kernel_rfl) (by kernel_rfl) (fun _ _ _ _ h => h) (fun K hK => ?_)
  go_big_quiet_op
  refine hK _ ?_
  clear hK K
  refine pi_end (by kernel_rfl) ?_
  have hE1 : Ext w w.drew := Below.drew (Ext.refl w)
  go_wp2_with fail
  clear c0 c1 c2 c3 c4 c5 d0 d1 d2 d3 d4 d5
  have hE2 : Ext w (w.drew.alloc (.cells #[] 2)) := hE1.allocR _
  have hro : (w.drew.alloc (.cells #[] 2)).ownsRow w.heap.size 2 1 (.slice (some ⟨w.heap.size, 0, none⟩) 0 0) 0 [] := own_empty w.drew _
  have HRO := Lib.hid hro
  have HE2 := Lib.hid hE2
  clear hE1 hE2 hro
  go_loopw [7, 8] (fun u7 u8 wr => ∃ j : Nat, j ≤ K ∧ u8 = .int .i64 j ∧ wr.ownsRow w.heap.size 2 1 u7 (rowF f 0 j).length (ints (rowF f 0 j)) ∧ Ext w wr ∧ ∀ c, c < j → I64 (f 0 c)) (fun _ u8 _ => K - (intOf u8).toNat)
  case atStart => exact ⟨0, Nat.zero_le _, rfl, by first | exact HRO.out | exact own_drew HRO.out, by first | exact HE2.out | exact HE2.out.drewR, fun c hc => absurd hc (Nat.not_lt_zero _)⟩
  case round =>
    clear HE2 HRO
    obtain ⟨j, hj, rfl, hown, hEo, hrow⟩ := hrel
    have HOWN := Lib.hid hown
    have HROW := Lib.hid hrow
    have e6 := (cell_of (hEo.keep HEX.out) 6).trans rfl
    have le := lt_of (hEo.keep HEX.out)
    clear hown hrow
    by_cases hjt : j < K
    · have hjz : (j : Int) < (K : Int) := by omega
      have hr1 := HH.out.ext hEo
      have hr2 := HH2.out.ext hEo
      have g6 := (cell_of (hEo.keep HEX2.out) 6).trans rfl
      have lg := lt_of (hEo.keep HEX2.out)
      have cr1 := hr1.cell hjt
      have lm1 := hr1.ltm
      have cr2 := hr2.cell hjt
      have lm2 := hr2.ltm
      have hix : I64 (l.getD j 0) := getD_i64 hr1.fit _
      have hiy : I64 (l2.getD j 0) := getD_i64 hr2.fit _
      have hfv := HFS.out j hjt
      have hfj : f 0 j = ms.getD j 0 := by rw [HF.out]
      rw [← hfj] at hfv
      generalize l.getD j 0 = x at *
      generalize l2.getD j 0 = y at *
      have hin := sum_in hix hiy
      have HIN := Lib.hid hin
      have HIX := Lib.hid hix
      have HIY := Lib.hid hiy
      have HFV := Lib.hid hfv
      have HEO := Lib.hid hEo
      have HRR := Lib.hid (And.intro e6 cr1)
      have hLT := Lib.hid (And.intro le lm1)
      clear hr1 hr2 hin hix hiy hfv hfj hEo
      rename World => wi
      go_wp2_with fail
      refine Calls.mono (OfInt_c y HIY.out _) ?_
      rintro e w1 ⟨rfl, hx1⟩
      unfold longV longA
      go_upto_region 10 with (fail)
      have hb1 : (w1.alloc (.cells #[.int .i64 (dg y 0), .int .i64 (dg y 1), .int .i64 (dg y 2), .int .i64 (dg y 3), .int .i64 (dg y 4), .int .i64 (dg y 5), .int .i64 (dg y 6), .int .i64 (dg y 7), .int .i64 (dg y 8), .int .i64 (dg y 9)] 237)).heap[w1.heap.size]? = some (.cells #[.int .i64 (dg y 0), .int .i64 (dg y 1), .int .i64 (dg y 2), .int .i64 (dg y 3), .int .i64 (dg y 4), .int .i64 (dg y 5), .int .i64 (dg y 6), .int .i64 (dg y 7), .int .i64 (dg y 8), .int .i64 (dg y 9)] 237 (0, 0)) := heap_at _ _ rfl
      have hx2 : Ext wi (w1.alloc (.cells #[.int .i64 (dg y 0), .int .i64 (dg y 1), .int .i64 (dg y 2), .int .i64 (dg y 3), .int .i64 (dg y 4), .int .i64 (dg y 5), .int .i64 (dg y 6), .int .i64 (dg y 7), .int .i64 (dg y 8), .int .i64 (dg y 9)] 237)) := hx1.allocR _
      have hbz := hx1.size
      generalize w1.alloc (.cells #[.int .i64 (dg y 0), .int .i64 (dg y 1), .int .i64 (dg y 2), .int .i64 (dg y 3), .int .i64 (dg y 4), .int .i64 (dg y 5), .int .i64 (dg y 6), .int .i64 (dg y 7), .int .i64 (dg y 8), .int .i64 (dg y 9)] 237) = w2 at *
      generalize w1.heap.size = bx at *
      have HX2 := Lib.hid hx2
      clear hx1 hx2 e6 le cr1 lm1 g6 lg cr2 lm2
      go_upto_if 61 with (fail)
      go_cut [] (fun wx => LongAt wx bx (dg (y)) ∧ Ext wi wx)
      case first =>
        go_wp2_with fail
        go_meet
        exact ⟨long_mk hb1, HX2.out⟩
      case rest =>
        obtain ⟨hL, hx4⟩ := hcut
        rename World => w4
        have hLc := long_cells hL
        have x0 := hLc 0 (by decide)
        have x1 := hLc 1 (by decide)
        have x2 := hLc 2 (by decide)
        have x3 := hLc 3 (by decide)
        have x4 := hLc 4 (by decide)
        have x5 := hLc 5 (by decide)
        have x6 := hLc 6 (by decide)
        have x7 := hLc 7 (by decide)
        have x8 := hLc 8 (by decide)
        have x9 := hLc 9 (by decide)
        have lx : bx < w4.heap.size := by unfold LongAt at hL; exact lt_of hL
        have e6 := ((bcell hx4).1 _ _ hLT.out.1).trans HRR.out.1
        have cr1 := ((bcell hx4).1 _ _ hLT.out.2).trans HRR.out.2
        have le := Nat.lt_of_lt_of_le hLT.out.1 hx4.size
        have lm1 := Nat.lt_of_lt_of_le hLT.out.2 hx4.size
        have hP : ∀ w' : World, Calls Tryz.prog 151 #[longV x, .agg #[.int .i64 (dg (y) 0), .int .i64 (dg (y) 1), .int .i64 (dg (y) 2), .int .i64 (dg (y) 3), .int .i64 (dg (y) 4), .int .i64 (dg (y) 5), .int .i64 (dg (y) 6), .int .i64 (dg (y) 7), .int .i64 (dg (y) 8), .int .i64 (dg (y) 9)]] w' fun e w'' => e = .returned (longV (x + y)) ∧ Ext w' w'' := fun w' => LPlus_c x (y) w'
        have HP := Lib.hid hP
        have hIn : ∀ w' : World, Calls Tryz.prog 150 #[longV (x + y)] w' fun e w'' => e = .returned (.tuple #[.int .i64 (fitN (x + y)), .bool (fitB (x + y))]) ∧ Ext w' w'' := fun w' => LInt_c _ (by have := HIN.out; first | exact this.1.1 | exact this.2.1) (by have := HIN.out; first | exact this.1.2 | exact this.2.2) w'
        have HINT := Lib.hid hIn
        have hOf : ∀ w' : World, Calls Tryz.prog 152 #[.int .i64 x] w' fun e w'' => e = .returned (longV x) ∧ Ext w' w'' := fun w' => OfInt_c x HIX.out w'
        have HOF := Lib.hid hOf
        have hfv : f 0 j = x + y := by have := HFV.out; omega
        have HFV2 := Lib.hid hfv
        clear hL hLc hP hIn hOf hfv
        generalize dg (y) = dd at *
        generalize longV x = vx at *
        generalize longV (x + y) = vs at *
        go_wp2_with fail
        refine wp_region_after (by kernel_rfl) (by kernel_rfl) ?_
        repeat (go_big_quiet_step ((first | (go_at_call 152; exact quiet_after (HOF.out _)) | (go_at_call 151; exact quiet_after (HP.out _)) | (go_at_call 150; exact quiet_after (HINT.out _)))))
        refine wpQuiet_nil ?_
        rintro _ ⟨xx, rfl⟩
        obtain ⟨w5, hb5⟩ := xx
        try dsimp only
        have hE5 := hx4.trans' hb5
        have HOWN5 := Lib.hid (own_ext HOWN.out hE5)
        have hEo5 := HEO.out.trans' hE5
        clear x0 x1 x2 x3 x4 x5 x6 x7 x8 x9 lx e6 cr1 le lm1 HP HINT HOF
        by_cases hfit : I64 (f 0 j)
        · have hfb : fitB (x + y) = true := by rw [← HFV2.out]; exact fitB_yes hfit
          have hfn : fitN (x + y) = f 0 j := by rw [← HFV2.out]; exact fitN_yes hfit
          rw [hfb, hfn]
          have HFIT := Lib.hid hfit
          have hrs := rowF_succ f 0 j
          have HRS := Lib.hid hrs
          have hrl := rowF_len f 0 j
          have HRL := Lib.hid hrl
          have hsz5 := hEo5.size
          clear hfb hfn hfit hrs hrl
          generalize hv : f 0 j = v at *
          have HV := Lib.hid hv
          clear hv
          go_wp2_with (at_builtin; refine wpList_app1 w5 v (rowF f 0 j) u7 w.heap.size 2 HOWN5.out 43 rfl _ _ rfl info_i64 Tryz.underlying43 (by rfl) (by rfl) ?a1 ?a2 ?_)
          case a1 => rw [HRL.out]; omega
          case a2 => exact hsz5
          intro v' w6 g1 g2 _
          have hE6 : Ext w w6 := ext_grown hEo5 g2 (fun i hi => own_blk HOWN5.out hi)
          have G1 := Lib.hid g1
          clear g1 g2
          go_wp2
          go_roundw
          case rel =>
            refine ⟨j + 1, by omega, by go_num, by rw [HRS.out, List.length_append]; exact G1.out, hE6, fun c hc => ?_⟩
            by_cases e : c = j
            · rw [e, HV.out]; exact HFIT.out
            · exact HROW.out c (by omega)
          case measure => simp [intOf]; omega
        · have hfb : fitB (x + y) = false := by rw [← HFV2.out]; exact fitB_no hfit
          have hno : ¬ allI ms := fun ha => hfit (by rw [HF.out]; exact getD_i64 ha _)
          have HNO := Lib.hid hno
          rw [hfb]
          clear hfb hfit hno
          go_wp2
          go_ret
          exact .inr ⟨HNO.out, rfl, hEo5⟩
    · obtain rfl : j = K := by omega
      have hrl := rowF_len f 0 j
      obtain ⟨z, zc, cur, rfl, hzc, hz, hzh, hzcur⟩ := own_row1 HOWN.out (by rw [hrl]; omega)
      rw [hrl] at hzc hzcur ⊢
      have fz := frozen_of (hEo.keep HEX.out) 6
      have hall : allI ms := fun q hq => by
        obtain ⟨i, hi, rfl⟩ := List.getElem_of_mem hq
        have h5 := HROW.out i (by rw [← HML.out]; exact hi)
        rw [HF.out] at h5
        have e : ms.getD i 0 = ms[i] := by simp [hi]
        rw [← e]; exact h5
      have HA := Lib.hid hall
      have HC := Lib.hid (And.intro hzc (And.intro hz (And.intro hzh hzcur)))
      have hrf : rowF f 0 j = ms := by rw [HF.out]; exact rowF_all HML.out
      have HRF := Lib.hid hrf
      have HEO := Lib.hid hEo
      clear HOWN hrl hzc hz hzh hzcur hall hrf hEo
      go_wp2
      go_ret
      obtain ⟨q1, q2, q3, q4⟩ := HC.out
      rw [HRF.out] at q4
      have hEX := HEO.out.keep HEX.out
      have hza : z ≠ a := by omega
      refine .inl ⟨HA.out, rfl, z, ⟨⟨zc, (setCell_same hEX 6 _).trans rfl, q1⟩, ⟨cur, by rw [setCell_other _ _ hza]; exact q3, q4⟩, HML.out, k1, k2, HA.out⟩, q2, (HEO.out.mod _).trans (mod_set _ _ _ _)⟩
set_option maxRecDepth 20000 in
set_option maxHeartbeats 16000000 in
theorem RXJoinMinus_c (a m a2 m2 : Nat) (C : Cfg) (lv : Int) (K : Nat) (l l2 : List Int) (w : World) (h : RXAt w a m C lv K l) (h2 : RXAt w a2 m2 C lv K l2) (hmd : "Minus" = "Minus" → C.mode ≠ 2) :
    Calls Tryz.prog 113 #[.pointer (some ⟨a, 0, none⟩), .pointer (some ⟨a2, 0, none⟩), .int .i64 (-1)] w (RXJoinPost w a C lv K (minusL l l2)) := by
  have HH := Lib.hid h
  have HH2 := Lib.hid h2
  have k1 := h.k1
  have k2 := h.k2
  have la := h.lta
  have la2 := h2.lta
  obtain ⟨cap, hex, hcap⟩ := h.ex
  obtain ⟨cap2, hex2, hcap2⟩ := h2.ex
  have c0 := (cell_of hex 0).trans rfl
  have c1 := (cell_of hex 1).trans rfl
  have c2 := (cell_of hex 2).trans rfl
  have c3 := (cell_of hex 3).trans rfl
  have c4 := (cell_of hex 4).trans rfl
  have c5 := (cell_of hex 5).trans rfl
  have d0 := (cell_of hex2 0).trans rfl
  have d1 := (cell_of hex2 1).trans rfl
  have d2 := (cell_of hex2 2).trans rfl
  have d3 := (cell_of hex2 3).trans rfl
  have d4 := (cell_of hex2 4).trans rfl
  have d5 := (cell_of hex2 5).trans rfl
  have HEX := Lib.hid hex
  have HEX2 := Lib.hid hex2
  have hmm : (C.mode == 2) = false := by have := hmd rfl; simpa using this
  have hml : (minusL l l2).length = K := by rw [minusL_len]; exact h.len
  have hfs : ∀ k, k < K → (minusL l l2).getD k 0 = l.getD k 0 - l2.getD k 0 := fun k hk => minusL_get (by rw [h.len]; exact hk)
  have HML := Lib.hid hml
  have HFS := Lib.hid hfs
  clear hml hfs h h2 hmd hex hex2
  generalize minusL l l2 = ms at *
  obtain ⟨f, hf⟩ : ∃ f : Nat → Nat → Int, f = fun _ k => ms.getD k 0 := ⟨_, rfl⟩
  have HF := Lib.hid hf
  clear hf
  go_enter Tryz.func113, Tryz.ntmps113
  go_wp2_with fail
  have hC0 := af_drew w
  refine pi_start (fun w' => ∃ z : After w, w' = z.w) [] (by kernel_rfl) ?_
  refine pi_t 0 rfl (by kernel_rfl) (by kernel_rfl) (fun _ _ _ _ h => h) (fun K hK => ?_)
  go_big_quiet_op
  refine hK _ ?_
  clear hK K
  refine pi_t 1 rfl (by kernel_rfl) (by kernel_rfl) (fun _ _ _ _ h => h) (fun K hK => ?_)
  go_big_quiet_op
  refine hK _ ?_
  clear hK K
  refine pi_t 2 rfl (by kernel_rfl) (by kernel_rfl) (fun _ _ _ _ h => h) (fun K hK => ?_)
  go_big_quiet_op
  refine hK _ ?_
  clear hK K
  refine pi_t 4 rfl (by kernel_rfl) (by kernel_rfl) (fun _ _ _ _ h => h) (fun K hK => ?_)
  go_big_quiet_op
  refine hK _ ?_
  clear hK K
  refine pi_t 5 rfl (by kernel_rfl) (by kernel_rfl) (fun _ _ _ _ h => h) (fun K hK => ?_)
  go_big_quiet_op
  refine hK _ ?_
  clear hK K
  refine pi_t 6 rfl (by kernel_rfl) (by kernel_rfl) (fun _ _ _ _ h => h) (fun K hK => ?_)
  go_big_quiet_op
  refine hK _ ?_
  clear hK K
  refine pi_c 3 (by assumption) rfl (by kernel_rfl) (by kernel_rfl) (fun _ _ _ _ h => h) (fun K hK => ?_)
  go_big_quiet_op
  refine hK _ ?_
  clear hK K
  refine pi_c 7 (by assumption) rfl (by kernel_rfl) (by kernel_rfl) (fun _ _ _ _ h => h) (fun K hK => ?_)
  go_big_quiet_op
  refine hK _ ?_
  clear hK K
  refine pi_t 8 rfl (by kernel_rfl) (by kernel_rfl) (fun _ _ _ _ h => h) (fun K hK => ?_)
  go_big_quiet_op
  refine hK _ ?_
  clear hK K
  refine pi_t 9 rfl (by kernel_rfl) (by kernel_rfl) (fun _ _ _ _ h => h) (fun K hK => ?_)
  go_big_quiet_op
  refine hK _ ?_
  clear hK K
  refine pi_t 10 rfl (by kernel_rfl) (by kernel_rfl) (fun _ _ _ _ h => h) (fun K hK => ?_)
  go_big_quiet_op
  refine hK _ ?_
  clear hK K
  refine pi_t 11 rfl (by kernel_rfl) (by kernel_rfl) (fun _ _ _ _ h => h) (fun K hK => ?_)
  go_big_quiet_op
  refine hK _ ?_
  clear hK K
  refine pi_t 12 rfl (by kernel_rfl) (by kernel_rfl) (fun _ _ _ _ h => h) (fun K hK => ?_)
  go_big_quiet_op
  refine hK _ ?_
  clear hK K
  refine pi_t 14 rfl (by kernel_rfl) (by kernel_rfl) (fun _ _ _ _ h => h) (fun K hK => ?_)
  go_big_quiet_op
  refine hK _ ?_
  clear hK K
  refine pi_t 15 rfl (by kernel_rfl) (by kernel_rfl) (fun _ _ _ _ h => h) (fun K hK => ?_)
  go_big_quiet_op
  refine hK _ ?_
  clear hK K
  refine pi_t 16 rfl (by kernel_rfl) (by kernel_rfl) (fun _ _ _ _ h => h) (fun K hK => ?_)
  go_big_quiet_op
  refine hK _ ?_
  clear hK K
  refine pi_c 13 (by assumption) rfl (by kernel_rfl) (by kernel_rfl) (fun _ _ _ _ h => h) (fun K hK => ?_)
  go_big_quiet_op
  refine hK _ ?_
  clear hK K
  refine pi_c 17 (by assumption) rfl (by kernel_rfl) (by kernel_rfl) (fun _ _ _ _ h => h) (fun K hK => ?_)
  go_big_quiet_op
  refine hK _ ?_
  clear hK K
  refine pi_t 18 rfl (by kernel_rfl) (by kernel_rfl) (fun _ _ _ _ h => h) (fun K hK => ?_)
  go_big_quiet_op
  refine hK _ ?_
  clear hK K
  refine pi_t 19 rfl (by kernel_rfl) (by kernel_rfl) (fun _ _ _ _ h => h) (fun K hK => ?_)
  go_big_quiet_op
  refine hK _ ?_
  clear hK K
  refine pi_end (by kernel_rfl) ?_
  have hE1 : Ext w w.drew := Below.drew (Ext.refl w)
  go_wp2_with fail
  clear c0 c1 c2 c3 c4 c5 d0 d1 d2 d3 d4 d5
  have hE2 : Ext w (w.drew.alloc (.cells #[] 2)) := hE1.allocR _
  have hro : (w.drew.alloc (.cells #[] 2)).ownsRow w.heap.size 2 1 (.slice (some ⟨w.heap.size, 0, none⟩) 0 0) 0 [] := own_empty w.drew _
  have HRO := Lib.hid hro
  have HE2 := Lib.hid hE2
  clear hE1 hE2 hro
  go_loopw [7, 8] (fun u7 u8 wr => ∃ j : Nat, j ≤ K ∧ u8 = .int .i64 j ∧ wr.ownsRow w.heap.size 2 1 u7 (rowF f 0 j).length (ints (rowF f 0 j)) ∧ Ext w wr ∧ ∀ c, c < j → I64 (f 0 c)) (fun _ u8 _ => K - (intOf u8).toNat)
  case atStart => exact ⟨0, Nat.zero_le _, rfl, by first | exact HRO.out | exact own_drew HRO.out, by first | exact HE2.out | exact HE2.out.drewR, fun c hc => absurd hc (Nat.not_lt_zero _)⟩
  case round =>
    clear HE2 HRO
    obtain ⟨j, hj, rfl, hown, hEo, hrow⟩ := hrel
    have HOWN := Lib.hid hown
    have HROW := Lib.hid hrow
    have e6 := (cell_of (hEo.keep HEX.out) 6).trans rfl
    have le := lt_of (hEo.keep HEX.out)
    clear hown hrow
    by_cases hjt : j < K
    · have hjz : (j : Int) < (K : Int) := by omega
      have hr1 := HH.out.ext hEo
      have hr2 := HH2.out.ext hEo
      have g6 := (cell_of (hEo.keep HEX2.out) 6).trans rfl
      have lg := lt_of (hEo.keep HEX2.out)
      have cr1 := hr1.cell hjt
      have lm1 := hr1.ltm
      have cr2 := hr2.cell hjt
      have lm2 := hr2.ltm
      have hix : I64 (l.getD j 0) := getD_i64 hr1.fit _
      have hiy : I64 (l2.getD j 0) := getD_i64 hr2.fit _
      have hfv := HFS.out j hjt
      have hfj : f 0 j = ms.getD j 0 := by rw [HF.out]
      rw [← hfj] at hfv
      generalize l.getD j 0 = x at *
      generalize l2.getD j 0 = y at *
      have hin := sum_in hix hiy
      have HIN := Lib.hid hin
      have HIX := Lib.hid hix
      have HIY := Lib.hid hiy
      have HFV := Lib.hid hfv
      have HEO := Lib.hid hEo
      have HRR := Lib.hid (And.intro e6 cr1)
      have hLT := Lib.hid (And.intro le lm1)
      clear hr1 hr2 hin hix hiy hfv hfj hEo
      rename World => wi
      go_wp2_with fail
      refine Calls.mono (OfInt_c y HIY.out _) ?_
      rintro e w1 ⟨rfl, hx1⟩
      unfold longV longA
      go_upto_region 10 with (fail)
      have hb1 : (w1.alloc (.cells #[.int .i64 (dg y 0), .int .i64 (dg y 1), .int .i64 (dg y 2), .int .i64 (dg y 3), .int .i64 (dg y 4), .int .i64 (dg y 5), .int .i64 (dg y 6), .int .i64 (dg y 7), .int .i64 (dg y 8), .int .i64 (dg y 9)] 237)).heap[w1.heap.size]? = some (.cells #[.int .i64 (dg y 0), .int .i64 (dg y 1), .int .i64 (dg y 2), .int .i64 (dg y 3), .int .i64 (dg y 4), .int .i64 (dg y 5), .int .i64 (dg y 6), .int .i64 (dg y 7), .int .i64 (dg y 8), .int .i64 (dg y 9)] 237 (0, 0)) := heap_at _ _ rfl
      have hx2 : Ext wi (w1.alloc (.cells #[.int .i64 (dg y 0), .int .i64 (dg y 1), .int .i64 (dg y 2), .int .i64 (dg y 3), .int .i64 (dg y 4), .int .i64 (dg y 5), .int .i64 (dg y 6), .int .i64 (dg y 7), .int .i64 (dg y 8), .int .i64 (dg y 9)] 237)) := hx1.allocR _
      have hbz := hx1.size
      generalize w1.alloc (.cells #[.int .i64 (dg y 0), .int .i64 (dg y 1), .int .i64 (dg y 2), .int .i64 (dg y 3), .int .i64 (dg y 4), .int .i64 (dg y 5), .int .i64 (dg y 6), .int .i64 (dg y 7), .int .i64 (dg y 8), .int .i64 (dg y 9)] 237) = w2 at *
      generalize w1.heap.size = bx at *
      have HX2 := Lib.hid hx2
      clear hx1 hx2 e6 le cr1 lm1 g6 lg cr2 lm2
      have x0 := (cell_of hb1 0).trans rfl
      have x1 := (cell_of hb1 1).trans rfl
      have x2 := (cell_of hb1 2).trans rfl
      have x3 := (cell_of hb1 3).trans rfl
      have x4 := (cell_of hb1 4).trans rfl
      have x5 := (cell_of hb1 5).trans rfl
      have x6 := (cell_of hb1 6).trans rfl
      have x7 := (cell_of hb1 7).trans rfl
      have x8 := (cell_of hb1 8).trans rfl
      have x9 := (cell_of hb1 9).trans rfl
      have lx := lt_of hb1
      go_upto_if 61 with (fail)
      go_cut [] (fun wx => LongAt wx bx (dg (-y)) ∧ Ext wi wx)
      case first =>
        have HB1 := Lib.hid hb1
        clear hb1
        have hMn : ∀ w' : World, Calls Tryz.prog 153 #[.agg #[.int .i64 (dg y 0), .int .i64 (dg y 1), .int .i64 (dg y 2), .int .i64 (dg y 3), .int .i64 (dg y 4), .int .i64 (dg y 5), .int .i64 (dg y 6), .int .i64 (dg y 7), .int .i64 (dg y 8), .int .i64 (dg y 9)]] w' fun e w'' => e = .returned (longV (-y)) ∧ Ext w' w'' := fun w' => LMinus_c y w'
        have HMN := Lib.hid hMn
        clear hMn
        go_wp2_with fail
        refine Calls.mono (HMN.out _) ?_
        rintro e w3 ⟨rfl, hx3⟩
        have hb3 := hx3.keep HB1.out
        have hE3 := HX2.out.trans' hx3
        clear x0 x1 x2 x3 x4 x5 x6 x7 x8 x9 lx
        have z0 := (cell_of hb3 0).trans rfl
        have f0 := frozen_of hb3 0
        have z1 := (cell_of hb3 1).trans rfl
        have f1 := frozen_of hb3 1
        have z2 := (cell_of hb3 2).trans rfl
        have f2 := frozen_of hb3 2
        have z3 := (cell_of hb3 3).trans rfl
        have f3 := frozen_of hb3 3
        have z4 := (cell_of hb3 4).trans rfl
        have f4 := frozen_of hb3 4
        have z5 := (cell_of hb3 5).trans rfl
        have f5 := frozen_of hb3 5
        have z6 := (cell_of hb3 6).trans rfl
        have f6 := frozen_of hb3 6
        have z7 := (cell_of hb3 7).trans rfl
        have f7 := frozen_of hb3 7
        have z8 := (cell_of hb3 8).trans rfl
        have f8 := frozen_of hb3 8
        have z9 := (cell_of hb3 9).trans rfl
        have f9 := frozen_of hb3 9
        have lz := lt_of hb3
        have HB3 := Lib.hid hb3
        clear hb3
        unfold longV longA
        go_wp2_with fail
        refine fin10 (Φ := fun W' => Met _ _ W') HB3.out hE3 hbz (fun W' hW hEW => ?_)
        go_meet
        exact ⟨long_mk hW, hEW⟩
      case rest =>
        obtain ⟨hL, hx4⟩ := hcut
        rename World => w4
        have hLc := long_cells hL
        have x0 := hLc 0 (by decide)
        have x1 := hLc 1 (by decide)
        have x2 := hLc 2 (by decide)
        have x3 := hLc 3 (by decide)
        have x4 := hLc 4 (by decide)
        have x5 := hLc 5 (by decide)
        have x6 := hLc 6 (by decide)
        have x7 := hLc 7 (by decide)
        have x8 := hLc 8 (by decide)
        have x9 := hLc 9 (by decide)
        have lx : bx < w4.heap.size := by unfold LongAt at hL; exact lt_of hL
        have e6 := ((bcell hx4).1 _ _ hLT.out.1).trans HRR.out.1
        have cr1 := ((bcell hx4).1 _ _ hLT.out.2).trans HRR.out.2
        have le := Nat.lt_of_lt_of_le hLT.out.1 hx4.size
        have lm1 := Nat.lt_of_lt_of_le hLT.out.2 hx4.size
        have hP : ∀ w' : World, Calls Tryz.prog 151 #[longV x, .agg #[.int .i64 (dg (-y) 0), .int .i64 (dg (-y) 1), .int .i64 (dg (-y) 2), .int .i64 (dg (-y) 3), .int .i64 (dg (-y) 4), .int .i64 (dg (-y) 5), .int .i64 (dg (-y) 6), .int .i64 (dg (-y) 7), .int .i64 (dg (-y) 8), .int .i64 (dg (-y) 9)]] w' fun e w'' => e = .returned (longV (x + -y)) ∧ Ext w' w'' := fun w' => LPlus_c x (-y) w'
        have HP := Lib.hid hP
        have hIn : ∀ w' : World, Calls Tryz.prog 150 #[longV (x + -y)] w' fun e w'' => e = .returned (.tuple #[.int .i64 (fitN (x + -y)), .bool (fitB (x + -y))]) ∧ Ext w' w'' := fun w' => LInt_c _ (by have := HIN.out; first | exact this.1.1 | exact this.2.1) (by have := HIN.out; first | exact this.1.2 | exact this.2.2) w'
        have HINT := Lib.hid hIn
        have hOf : ∀ w' : World, Calls Tryz.prog 152 #[.int .i64 x] w' fun e w'' => e = .returned (longV x) ∧ Ext w' w'' := fun w' => OfInt_c x HIX.out w'
        have HOF := Lib.hid hOf
        have hfv : f 0 j = x + -y := by have := HFV.out; omega
        have HFV2 := Lib.hid hfv
        clear hL hLc hP hIn hOf hfv
        generalize dg (-y) = dd at *
        generalize longV x = vx at *
        generalize longV (x + -y) = vs at *
        go_wp2_with fail
        refine wp_region_after (by kernel_rfl) (by kernel_rfl) ?_
        repeat (go_big_quiet_step ((first | (go_at_call 152; exact quiet_after (HOF.out _)) | (go_at_call 151; exact quiet_after (HP.out _)) | (go_at_call 150; exact quiet_after (HINT.out _)))))
        refine wpQuiet_nil ?_
        rintro _ ⟨xx, rfl⟩
        obtain ⟨w5, hb5⟩ := xx
        try dsimp only
        have hE5 := hx4.trans' hb5
        have HOWN5 := Lib.hid (own_ext HOWN.out hE5)
        have hEo5 := HEO.out.trans' hE5
        clear x0 x1 x2 x3 x4 x5 x6 x7 x8 x9 lx e6 cr1 le lm1 HP HINT HOF
        by_cases hfit : I64 (f 0 j)
        · have hfb : fitB (x + -y) = true := by rw [← HFV2.out]; exact fitB_yes hfit
          have hfn : fitN (x + -y) = f 0 j := by rw [← HFV2.out]; exact fitN_yes hfit
          rw [hfb, hfn]
          have HFIT := Lib.hid hfit
          have hrs := rowF_succ f 0 j
          have HRS := Lib.hid hrs
          have hrl := rowF_len f 0 j
          have HRL := Lib.hid hrl
          have hsz5 := hEo5.size
          clear hfb hfn hfit hrs hrl
          generalize hv : f 0 j = v at *
          have HV := Lib.hid hv
          clear hv
          go_wp2_with (at_builtin; refine wpList_app1 w5 v (rowF f 0 j) u7 w.heap.size 2 HOWN5.out 43 rfl _ _ rfl info_i64 Tryz.underlying43 (by rfl) (by rfl) ?a1 ?a2 ?_)
          case a1 => rw [HRL.out]; omega
          case a2 => exact hsz5
          intro v' w6 g1 g2 _
          have hE6 : Ext w w6 := ext_grown hEo5 g2 (fun i hi => own_blk HOWN5.out hi)
          have G1 := Lib.hid g1
          clear g1 g2
          go_wp2
          go_roundw
          case rel =>
            refine ⟨j + 1, by omega, by go_num, by rw [HRS.out, List.length_append]; exact G1.out, hE6, fun c hc => ?_⟩
            by_cases e : c = j
            · rw [e, HV.out]; exact HFIT.out
            · exact HROW.out c (by omega)
          case measure => simp [intOf]; omega
        · have hfb : fitB (x + -y) = false := by rw [← HFV2.out]; exact fitB_no hfit
          have hno : ¬ allI ms := fun ha => hfit (by rw [HF.out]; exact getD_i64 ha _)
          have HNO := Lib.hid hno
          rw [hfb]
          clear hfb hfit hno
          go_wp2
          go_ret
          exact .inr ⟨HNO.out, rfl, hEo5⟩
    · obtain rfl : j = K := by omega
      have hrl := rowF_len f 0 j
      obtain ⟨z, zc, cur, rfl, hzc, hz, hzh, hzcur⟩ := own_row1 HOWN.out (by rw [hrl]; omega)
      rw [hrl] at hzc hzcur ⊢
      have fz := frozen_of (hEo.keep HEX.out) 6
      have hall : allI ms := fun q hq => by
        obtain ⟨i, hi, rfl⟩ := List.getElem_of_mem hq
        have h5 := HROW.out i (by rw [← HML.out]; exact hi)
        rw [HF.out] at h5
        have e : ms.getD i 0 = ms[i] := by simp [hi]
        rw [← e]; exact h5
      have HA := Lib.hid hall
      have HC := Lib.hid (And.intro hzc (And.intro hz (And.intro hzh hzcur)))
      have hrf : rowF f 0 j = ms := by rw [HF.out]; exact rowF_all HML.out
      have HRF := Lib.hid hrf
      have HEO := Lib.hid hEo
      clear HOWN hrl hzc hz hzh hzcur hall hrf hEo
      go_wp2
      go_ret
      obtain ⟨q1, q2, q3, q4⟩ := HC.out
      rw [HRF.out] at q4
      have hEX := HEO.out.keep HEX.out
      have hza : z ≠ a := by omega
      refine .inl ⟨HA.out, rfl, z, ⟨⟨zc, (setCell_same hEX 6 _).trans rfl, q1⟩, ⟨cur, by rw [setCell_other _ _ hza]; exact q3, q4⟩, HML.out, k1, k2, HA.out⟩, q2, (HEO.out.mod _).trans (mod_set _ _ _ _)⟩
set_option maxRecDepth 20000 in
set_option maxHeartbeats 8000000 in
theorem RXJoin_mode (a m a2 m2 : Nat) (C : Cfg) (lv : Int) (K : Nat) (l l2 : List Int) (w : World) (h : RXAt w a m C lv K l) (h2 : RXAt w a2 m2 C lv K l2) (hmd : C.mode = 2) :
    Calls Tryz.prog 113 #[.pointer (some ⟨a, 0, none⟩), .pointer (some ⟨a2, 0, none⟩), .int .i64 (-1)] w fun e w' => e = .returned (.int .i64 3) ∧ Ext w w' := by
  have la := h.lta
  have la2 := h2.lta
  obtain ⟨cap, hex, hcap⟩ := h.ex
  obtain ⟨cap2, hex2, hcap2⟩ := h2.ex
  have c0 := (cell_of hex 0).trans rfl
  have c1 := (cell_of hex 1).trans rfl
  have c2 := (cell_of hex 2).trans rfl
  have c3 := (cell_of hex 3).trans rfl
  have c4 := (cell_of hex 4).trans rfl
  have c5 := (cell_of hex 5).trans rfl
  have d0 := (cell_of hex2 0).trans rfl
  have d1 := (cell_of hex2 1).trans rfl
  have d2 := (cell_of hex2 2).trans rfl
  have d3 := (cell_of hex2 3).trans rfl
  have d4 := (cell_of hex2 4).trans rfl
  have d5 := (cell_of hex2 5).trans rfl
  have hmm : (C.mode == 2) = true := by simpa using hmd
  clear hex hex2 h h2 hmd
  go_enter Tryz.func113, Tryz.ntmps113
  go_wp2_with fail
  have hC0 := af_drew w
  refine pi_start (fun w' => ∃ z : After w, w' = z.w) [] (by kernel_rfl) ?_
  refine pi_t 0 rfl (by kernel_rfl) (by kernel_rfl) (fun _ _ _ _ h => h) (fun K hK => ?_)
  go_big_quiet_op
  refine hK _ ?_
  clear hK K
  refine pi_t 1 rfl (by kernel_rfl) (by kernel_rfl) (fun _ _ _ _ h => h) (fun K hK => ?_)
  go_big_quiet_op
  refine hK _ ?_
  clear hK K
  refine pi_t 2 rfl (by kernel_rfl) (by kernel_rfl) (fun _ _ _ _ h => h) (fun K hK => ?_)
  go_big_quiet_op
  refine hK _ ?_
  clear hK K
  refine pi_t 4 rfl (by kernel_rfl) (by kernel_rfl) (fun _ _ _ _ h => h) (fun K hK => ?_)
  go_big_quiet_op
  refine hK _ ?_
  clear hK K
  refine pi_t 5 rfl (by kernel_rfl) (by kernel_rfl) (fun _ _ _ _ h => h) (fun K hK => ?_)
  go_big_quiet_op
  refine hK _ ?_
  clear hK K
  refine pi_t 6 rfl (by kernel_rfl) (by kernel_rfl) (fun _ _ _ _ h => h) (fun K hK => ?_)
  go_big_quiet_op
  refine hK _ ?_
  clear hK K
  refine pi_c 3 (by assumption) rfl (by kernel_rfl) (by kernel_rfl) (fun _ _ _ _ h => h) (fun K hK => ?_)
  go_big_quiet_op
  refine hK _ ?_
  clear hK K
  refine pi_c 7 (by assumption) rfl (by kernel_rfl) (by kernel_rfl) (fun _ _ _ _ h => h) (fun K hK => ?_)
  go_big_quiet_op
  refine hK _ ?_
  clear hK K
  refine pi_t 8 rfl (by kernel_rfl) (by kernel_rfl) (fun _ _ _ _ h => h) (fun K hK => ?_)
  go_big_quiet_op
  refine hK _ ?_
  clear hK K
  refine pi_t 9 rfl (by kernel_rfl) (by kernel_rfl) (fun _ _ _ _ h => h) (fun K hK => ?_)
  go_big_quiet_op
  refine hK _ ?_
  clear hK K
  refine pi_t 10 rfl (by kernel_rfl) (by kernel_rfl) (fun _ _ _ _ h => h) (fun K hK => ?_)
  go_big_quiet_op
  refine hK _ ?_
  clear hK K
  refine pi_t 11 rfl (by kernel_rfl) (by kernel_rfl) (fun _ _ _ _ h => h) (fun K hK => ?_)
  go_big_quiet_op
  refine hK _ ?_
  clear hK K
  refine pi_t 12 rfl (by kernel_rfl) (by kernel_rfl) (fun _ _ _ _ h => h) (fun K hK => ?_)
  go_big_quiet_op
  refine hK _ ?_
  clear hK K
  refine pi_t 14 rfl (by kernel_rfl) (by kernel_rfl) (fun _ _ _ _ h => h) (fun K hK => ?_)
  go_big_quiet_op
  refine hK _ ?_
  clear hK K
  refine pi_t 15 rfl (by kernel_rfl) (by kernel_rfl) (fun _ _ _ _ h => h) (fun K hK => ?_)
  go_big_quiet_op
  refine hK _ ?_
  clear hK K
  refine pi_t 16 rfl (by kernel_rfl) (by kernel_rfl) (fun _ _ _ _ h => h) (fun K hK => ?_)
  go_big_quiet_op
  refine hK _ ?_
  clear hK K
  refine pi_c 13 (by assumption) rfl (by kernel_rfl) (by kernel_rfl) (fun _ _ _ _ h => h) (fun K hK => ?_)
  go_big_quiet_op
  refine hK _ ?_
  clear hK K
  refine pi_c 17 (by assumption) rfl (by kernel_rfl) (by kernel_rfl) (fun _ _ _ _ h => h) (fun K hK => ?_)
  go_big_quiet_op
  refine hK _ ?_
  clear hK K
  refine pi_t 18 rfl (by kernel_rfl) (by kernel_rfl) (fun _ _ _ _ h => h) (fun K hK => ?_)
  go_big_quiet_op
  refine hK _ ?_
  clear hK K
  refine pi_t 19 rfl (by kernel_rfl) (by kernel_rfl) (fun _ _ _ _ h => h) (fun K hK => ?_)
  go_big_quiet_op
  refine hK _ ?_
  clear hK K
  refine pi_end (by kernel_rfl) ?_
  go_wp2
  go_ret
  exact ⟨rfl, Below.drew (Ext.refl w)⟩
end Go.Proofs.YtfhdjekpdifajaaGreat
namespace Go.Proofs.YtfhdjekpdifajaaGreat
set_option linter.unusedVariables false
open Go.RowKit
def rowP (l : List Int) (W r : Nat) : List Int := (List.range W).map fun k => l.getD (r * W + k) 0
theorem rowP_len (l : List Int) (W r : Nat) : (rowP l W r).length = W := by simp [rowP]
theorem rowP_get (l : List Int) {W r k : Nat} (h : k < W) : (rowP l W r).getD k 0 = l.getD (r * W + k) 0 := by simp [rowP, h]
theorem rowP_all {l : List Int} (h : allI l) (W r : Nat) : ∀ x ∈ rowP l W r, I64 x := by
  intro x hx
  simp only [rowP, List.mem_map, List.mem_range] at hx
  obtain ⟨k, _, rfl⟩ := hx
  exact getD_i64 h _
/-- The least of the products of the first r rows, if each fits. -/
def innF (l m : List Int) (W : Nat) : Nat → Option Int
  | 0 => some 0
  | r + 1 => (innF l m W r).bind fun best => (dotF (rowP l W r) (rowP m W r) W).bind fun n => some (bif decide (r = 0) || decide (n < best) then n else best)
theorem innF_w {l m : List Int} {W : Nat} : ∀ {r : Nat} {s : Int}, innF l m W r = some s → W128 s := by
  intro r
  induction r with
  | zero => intro s h; cases h; unfold W128; omega
  | succ r ih =>
    intro s h
    simp only [innF] at h
    cases hb : innF l m W r with
    | none => rw [hb] at h; cases h
    | some best =>
      cases hd : dotF (rowP l W r) (rowP m W r) W with
      | none => rw [hb, hd] at h; cases h
      | some n =>
        rw [hb, hd] at h
        simp only [Option.bind_some] at h
        cases hc : (decide (r = 0) || decide (n < best)) with
        | false => rw [hc] at h; cases h; exact ih hb
        | true => rw [hc] at h; cases h; exact dotF_w hd
theorem innF_none {l m : List Int} {W r : Nat} (h : innF l m W r = none) : ∀ {n : Nat}, r ≤ n → innF l m W n = none := by
  intro n hn
  induction n with
  | zero => obtain rfl : r = 0 := by omega
            exact h
  | succ n ih =>
    rcases Nat.lt_or_ge n r with h1 | h1
    · obtain rfl : r = n + 1 := by omega
      exact h
    · simp only [innF, ih h1, Option.bind_none]
def innV : Option Int → Value
  | some s => .tuple #[.agg #[.int .i64 (hi s), .int .u64 (lo s)], .int .i64 0]
  | none => .tuple #[.agg #[.int .i64 0, .int .u64 0], .int .i64 4]
theorem zbox {w0 wx : World} {b : Nat} (h : w0.heap[b]? = some (.cells #[.int .i64 0, .int .u64 0] 75 (0, 0))) (hE : Ext w0 wx) :
    wx.cell? ⟨b, 0, none⟩ = some (.int .i64 0) ∧ wx.cell? ⟨b, 1, none⟩ = some (.int .u64 0) ∧ wx.frozen? ⟨b, 0, none⟩ = false ∧ wx.frozen? ⟨b, 1, none⟩ = false ∧ b < wx.heap.size :=
  have h' := hE.keep h
  ⟨(cell_of h' 0).trans rfl, (cell_of h' 1).trans rfl, frozen_of h' 0, frozen_of h' 1, lt_of h'⟩
set_option maxRecDepth 20000 in
set_option maxHeartbeats 4000000 in
theorem Inner_mode (s b c s2 b2 c2 : Nat) (C : Cfg) (lv : Int) (R W : Nat) (l l2 : List Int) (w : World) (h : SAt w s b c C lv R W l) (h2 : SAt w s2 b2 c2 C lv R W l2) (hm : C.mode ≠ 1) :
    Calls Tryz.prog 119 #[.pointer (some ⟨s, 0, none⟩), .pointer (some ⟨s2, 0, none⟩)] w fun e w' => e = .returned (.tuple #[.agg #[.int .i64 0, .int .u64 0], .int .i64 3]) ∧ Ext w w' := by
  have H := Lib.hid h
  have H2 := Lib.hid h2
  have hm' : (C.mode != 1) = true := by simpa using hm
  clear h h2 hm
  go_enter Tryz.func119, Tryz.ntmps119
  go_upto_region 1 with (fail)
  have hz0 := heap_at w (.cells #[.int .i64 0, .int .u64 0] 75) rfl
  have hE0 : Ext w (w.alloc (.cells #[.int .i64 0, .int .u64 0] 75)) := Ext.alloc' _ _
  generalize w.alloc (.cells #[.int .i64 0, .int .u64 0] 75) = w0 at *
  have HZ0 := Lib.hid hz0
  clear hz0
  go_cut [34] (fun s34 wx => s34 = .bool false ∧ Ext w0 wx)
  case first =>
    go_wp2_with (first | (go_at_call 168; refine (SConfig_c s b c C lv R W l _ (H.out.ext (by (repeat' (first | exact Ext.refl _ | assumption | apply Ext.allocR | apply Ext.drewR | apply Ext.drewNR | (refine Ext.trans' ?_ (by assumption))))))).mono ?_; rintro e w1 ⟨rfl, hb1⟩) | (go_at_call 168; refine (SConfig_c s2 b2 c2 C lv R W l2 _ (H2.out.ext (by (repeat' (first | exact Ext.refl _ | assumption | apply Ext.allocR | apply Ext.drewR | apply Ext.drewNR | (refine Ext.trans' ?_ (by assumption))))))).mono ?_; rintro e w2 ⟨rfl, hb2⟩) | (go_at_call 169; refine (SLevel_c s b c C lv R W l _ (H.out.ext (by (repeat' (first | exact Ext.refl _ | assumption | apply Ext.allocR | apply Ext.drewR | apply Ext.drewNR | (refine Ext.trans' ?_ (by assumption))))))).mono ?_; rintro e w3 ⟨rfl, rfl⟩) | (go_at_call 169; refine (SLevel_c s2 b2 c2 C lv R W l2 _ (H2.out.ext (by (repeat' (first | exact Ext.refl _ | assumption | apply Ext.allocR | apply Ext.drewR | apply Ext.drewNR | (refine Ext.trans' ?_ (by assumption))))))).mono ?_; rintro e w4 ⟨rfl, rfl⟩))
    go_meet
    exact ⟨by first | rfl | simp, by (repeat' (first | exact Ext.refl _ | assumption | apply Ext.allocR | apply Ext.drewR | apply Ext.drewNR | (refine Ext.trans' ?_ (by assumption))))⟩
  case rest =>
    obtain ⟨rfl, hEc⟩ := hcut
    go_wp2_with fail
    refine Calls.mono (SConfig_c s b c C lv R W l _ (H.out.ext ?hx)) ?_
    case hx => (repeat' (first | exact Ext.refl _ | assumption | apply Ext.allocR | apply Ext.drewR | apply Ext.drewNR | (refine Ext.trans' ?_ (by assumption))))
    rintro e w1 ⟨rfl, hb1⟩
    have hE1 : Ext w0 w1 := by (repeat' (first | exact Ext.refl _ | assumption | apply Ext.allocR | apply Ext.drewR | apply Ext.drewNR | (refine Ext.trans' ?_ (by assumption))))
    obtain ⟨p0, p1, f0, f1, hl⟩ := zbox HZ0.out hE1
    go_wp2_with fail
    refine bodyPost_ret (v := .tuple #[.agg #[.int .i64 0, .int .u64 0], .int .i64 3]) (by simp [results, Tryz.results119, go_sem, *]) rfl ⟨rfl, ?_⟩
    exact (((hE0.trans' hE1).setR (p := ⟨w.heap.size, 0, none⟩) (Nat.le_refl _) _).setR (p := ⟨w.heap.size, 1, none⟩) (Nat.le_refl _) _).allocR _
end Go.Proofs.YtfhdjekpdifajaaGreat
