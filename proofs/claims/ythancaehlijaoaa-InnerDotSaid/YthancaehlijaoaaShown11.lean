/- gaugerlaw11.shown. -/
import Derived.Test.YthancaehlijaoaaInner2
import Derived.Test.YthancaehlijaoaaShown
namespace Go.Proofs.Ythancaehlijaoaa
set_option linter.unusedVariables false
open Go.RowKit

def D0 : Cfg := ⟨2, 2, 1, 1, 0⟩
theorem D0_ok : D0.Ok := by constructor <;> simp [D0, U64]
theorem D0_cols (k : Int) : cols D0 0 k = [0, 0] := by
  have h0 := col_bd D0 (by simp [D0]) 0 k (0 : Nat)
  have h1 := col_bd D0 (by simp [D0]) 0 k (1 : Nat)
  have e0 : col D0 0 k (0 : Nat) = 0 := by have : D0.width = 1 := rfl; omega
  have e1 : col D0 0 k (1 : Nat) = 0 := by have : D0.width = 1 := rfl; omega
  show (List.range 2).map _ = _
  rw [show List.range 2 = [0, 1] from rfl]
  simp only [List.map_cons, List.map_nil]
  rw [e0, e1]
theorem D0_keys : keys D0 0 = 4 := by simp [keys, D0]
theorem D0_e1 : errU D0 0 2 1 [0, 0] 1 5 = 0 := by unfold errU; rw [D0_cols, D0_keys]; rfl
theorem D0_u1 : updL D0 0 2 1 [0, 0] 1 5 = [5, 5] := by unfold updL; rw [D0_cols]; rfl
theorem D0_e2 : errU D0 0 2 1 [0, 0] 2 7 = 0 := by unfold errU; rw [D0_cols, D0_keys]; rfl
theorem D0_u2 : updL D0 0 2 1 [0, 0] 2 7 = [7, 7] := by unfold updL; rw [D0_cols]; rfl
theorem D0_in : innF [5, 5] [7, 7] 1 2 = some 35 := by decide
theorem D_m5 : dotF [1, 2] [3, -4] 2 = some (-5) := by decide
theorem V35 : innV (some 35) = .tuple #[.agg #[.int .i64 0, .int .u64 35], .int .i64 0] := rfl
theorem Vm5 : dotV (some (-5)) = .tuple #[.agg #[.int .i64 (-1), .int .u64 18446744073709551611], .bool true] := rfl
theorem Of35 (w : World) : Calls Try.prog 40 #[.int .i64 35] w fun e w' => e = .returned (.agg #[.int .i64 0, .int .u64 35]) ∧ Ext w w' := Of_c 35 (by unfold I64; omega) w
theorem Ofm5 (w : World) : Calls Try.prog 40 #[.int .i64 (-5)] w fun e w' => e = .returned (.agg #[.int .i64 (-1), .int .u64 18446744073709551611]) ∧ Ext w w' := Of_c (-5) (by unfold I64; omega) w
theorem wbox {w0 wx : World} {b : Nat} {x y : Value} (h : w0.heap[b]? = some (.cells #[x, y] 56 (0, 0))) (hE : Ext w0 wx) :
    wx.cell? ⟨b, 0, none⟩ = some x ∧ wx.cell? ⟨b, 1, none⟩ = some y ∧ b < wx.heap.size :=
  have h' := hE.keep h
  ⟨(cell_of h' 0).trans rfl, (cell_of h' 1).trans rfl, lt_of h'⟩
theorem updpost {w w' : World} {s b c : Nat} {C : Cfg} {lv : Int} {R W : Nat} {l : List Int} {key d : Int} {e : Ending} (h : UpdPost w s b c C lv R W l key d e w') (he : errU C lv R W l key d = 0) :
    e = .returned (.int .i64 0) ∧ SAt w' s b c C lv R W (updL C lv R W l key d) ∧ Mod (fun k => k = c) w w' := by
  obtain ⟨h1, h2⟩ := h
  obtain ⟨_, hS, hM⟩ := h2.resolve_right (fun h => h.1 he)
  rw [he] at h1
  exact ⟨h1, hS, hM⟩
set_option maxRecDepth 20000 in
set_option maxHeartbeats 4000000 in
theorem shown11_c (w : World) : Calls Try.prog 30 #[] w fun e w' => e = .returned (.bool true) ∧ Ext w w' := by
  go_enter Try.func30, Try.ntmps30
  go_wp2_with fail
  have hCb : CfgAt (w.alloc (.cells #[.int .i64 2, .int .i64 2, .int .i64 1, .int .i64 1, .int .u64 0] 24)) w.heap.size D0 := CfgAt.box D0 _ rfl
  have hE0 : Ext w (w.alloc (.cells #[.int .i64 2, .int .i64 2, .int .i64 1, .int .i64 1, .int .u64 0] 24)) := Ext.alloc' _ _
  generalize w.alloc (.cells #[.int .i64 2, .int .i64 2, .int .i64 1, .int .i64 1, .int .u64 0] 24) = w0 at *
  refine (SNew_c D0 D0_ok 0 (by decide) (by decide) 2 1 rfl rfl _).mono ?_
  rintro e w1 ⟨s, b, c, rfl, hS, hs, hb, hc, hx1⟩
  have hE1 : Ext w0 w1 := by (repeat' (first | exact Ext.refl _ | assumption | apply Ext.allocR | apply Ext.drewR | apply Ext.drewNR | (refine Ext.trans' ?_ (by assumption))))
  have hC1 := hCb.ext hE1
  have d0 : w1.cell? ⟨w.heap.size, 0, none⟩ = some (.int .i64 2) := hC1.c0
  have d1 : w1.cell? ⟨w.heap.size, 1, none⟩ = some (.int .i64 2) := hC1.c1
  have d2 : w1.cell? ⟨w.heap.size, 2, none⟩ = some (.int .i64 1) := hC1.c2
  have d3 : w1.cell? ⟨w.heap.size, 3, none⟩ = some (.int .i64 1) := hC1.c3
  have d4 : w1.cell? ⟨w.heap.size, 4, none⟩ = some (.int .u64 0) := hC1.c4
  have dl := hC1.lt
  have hlt1 := hS.lts
  have hlt2 := hS.g.ltb
  have hlt3 := hS.g.ltc
  have hsz0 := hE0.size
  have hsz1 := hE1.size
  have HS := Lib.hid hS
  clear hx1 hC1 hCb hS
  go_wp2_with fail
  refine (SNew_c D0 D0_ok 0 (by decide) (by decide) 2 1 rfl rfl _).mono ?_
  rintro e w2 ⟨s2, b2, c2, rfl, hS2, hs2, hb2, hc2, hx2⟩
  have hE2 : Ext w1 w2 := by (repeat' (first | exact Ext.refl _ | assumption | apply Ext.allocR | apply Ext.drewR | apply Ext.drewNR | (refine Ext.trans' ?_ (by assumption))))
  have hsz2 := hE2.size
  have hlt4 := hS2.lts
  have hlt5 := hS2.g.ltb
  have hlt6 := hS2.g.ltc
  have HS2 := Lib.hid hS2
  clear hx2 d0 d1 d2 d3 d4 dl hS2
  go_wp2_with fail
  refine Calls.mono (Update_c s b c D0 0 2 1 _ 1 5 _ ((HS.out.ext hE2).ext ?hx) (by unfold I64; omega) (by decide)) ?_
  case hx => (repeat' (first | exact Ext.refl _ | assumption | apply Ext.allocR | apply Ext.drewR | apply Ext.drewNR | (refine Ext.trans' ?_ (by assumption))))
  intro e w3 hup
  obtain ⟨rfl, hS3, hM3⟩ := updpost hup D0_e1
  rw [show updL D0 0 2 1 (zs (2 * 1)) 1 5 = [5, 5] from D0_u1] at hS3
  have hT3 := HS2.out.mod hM3 (by omega) (by omega) (by omega)
  have hE3 : Ext w w3 := Below.trans (hE0.trans' (hE1.trans' hE2)) (hM3.below (B := w.heap.size) (by show _ ≤ w2.heap.size; omega) (fun i hi => by omega))
  have hsz3 := hM3.size
  have HS3 := Lib.hid hS3
  have HT3 := Lib.hid hT3
  clear hM3 hup hS3 hT3 HS HS2 hE0 hE1 hE2
  go_wp2_with fail
  refine Calls.mono (Update_c s2 b2 c2 D0 0 2 1 _ 2 7 _ (HT3.out.ext ?hx) (by unfold I64; omega) (by decide)) ?_
  case hx => (repeat' (first | exact Ext.refl _ | assumption | apply Ext.allocR | apply Ext.drewR | apply Ext.drewNR | (refine Ext.trans' ?_ (by assumption))))
  intro e w4 hup
  obtain ⟨rfl, hT4, hM4⟩ := updpost hup D0_e2
  rw [show updL D0 0 2 1 (zs (2 * 1)) 2 7 = [7, 7] from D0_u2] at hT4
  have hS4 := HS3.out.mod hM4 (by omega) (by omega) (by omega)
  have hE4 : Ext w w4 := Below.trans hE3 (hM4.below (B := w.heap.size) (by have := hE3.size; omega) (fun i hi => by omega))
  have HS4 := Lib.hid hS4
  have HT4 := Lib.hid hT4
  clear hM4 hup hS4 hT4 HS3 HT3 hE3
  go_wp2_with fail
  refine Calls.mono (Inner_c s b c s2 b2 c2 D0 0 2 1 [5, 5] [7, 7] _ (HS4.out.ext ?hx) (HT4.out.ext ?hy) rfl) ?_
  case hx => (repeat' (first | exact Ext.refl _ | assumption | apply Ext.allocR | apply Ext.drewR | apply Ext.drewNR | (refine Ext.trans' ?_ (by assumption))))
  case hy => (repeat' (first | exact Ext.refl _ | assumption | apply Ext.allocR | apply Ext.drewR | apply Ext.drewNR | (refine Ext.trans' ?_ (by assumption))))
  rw [D0_in, V35]
  rintro e w5 ⟨rfl, hx5⟩
  have hE5 : Ext w4 w5 := by (repeat' (first | exact Ext.refl _ | assumption | apply Ext.allocR | apply Ext.drewR | apply Ext.drewNR | (refine Ext.trans' ?_ (by assumption))))
  have hnb := heap_at w5 (.cells #[.int .i64 0, .int .u64 35] 56) rfl
  have hE5b : Ext w5 (w5.alloc (.cells #[.int .i64 0, .int .u64 35] 56)) := Ext.alloc' _ _
  go_wp2_with fail
  generalize w5.alloc (.cells #[.int .i64 0, .int .u64 35] 56) = w5b at *
  refine Calls.mono (Inner_nil2 s _) ?_
  rintro e w6 ⟨rfl, hx6⟩
  have hE6 : Ext w5b w6 := by (repeat' (first | exact Ext.refl _ | assumption | apply Ext.allocR | apply Ext.drewR | apply Ext.drewNR | (refine Ext.trans' ?_ (by assumption))))
  clear hx5 hx6
  go_wp2_with fail
  refine Calls.mono (Dot_c [1, 2] [3, -4] _ _ _ (by intro x hx; simp at hx; unfold I64; omega) (by intro x hx; simp at hx; unfold I64; omega) rfl (by simp) (.inr ⟨_, 0, 2, rfl, ?q1, ?q2⟩) (.inr ⟨_, 0, 2, rfl, ?q3, ?q4⟩)) ?_
  case q1 => simp only [size_alloc]; omega
  case q3 => simp only [size_alloc]; omega
  case q2 =>
    intro k hk
    have : k = 0 ∨ k = 1 := by simp at hk; omega
    rcases this with rfl | rfl <;> simp [go_sem]
  case q4 =>
    intro k hk
    have : k = 0 ∨ k = 1 := by simp at hk; omega
    rcases this with rfl | rfl <;> simp [go_sem]
  rw [show ([1, 2] : List Int).length = 2 from rfl, D_m5, Vm5]
  rintro e w7 ⟨rfl, hx7⟩
  have hE7 : Ext w6 w7 := by (repeat' (first | exact Ext.refl _ | assumption | apply Ext.allocR | apply Ext.drewR | apply Ext.drewNR | (refine Ext.trans' ?_ (by assumption))))
  have hdb := heap_at w7 (.cells #[.int .i64 (-1), .int .u64 18446744073709551611] 56) rfl
  have hE7b : Ext w7 (w7.alloc (.cells #[.int .i64 (-1), .int .u64 18446744073709551611] 56)) := Ext.alloc' _ _
  clear hx7
  go_wp2_with fail
  generalize w7.alloc (.cells #[.int .i64 (-1), .int .u64 18446744073709551611] 56) = w7b at *
  refine Calls.mono (Dot_no _ _ 1 1 0 0 _ (by decide) (by decide) (by decide)) ?_
  rintro e w8 ⟨rfl, hx8⟩
  have hE8 : Ext w7b w8 := by (repeat' (first | exact Ext.refl _ | assumption | apply Ext.allocR | apply Ext.drewR | apply Ext.drewNR | (refine Ext.trans' ?_ (by assumption))))
  obtain ⟨a0, a1, al⟩ := wbox hnb (hE6.trans' (hE7.trans' (hE7b.trans' hE8)))
  obtain ⟨b0, b1, bl⟩ := wbox hdb hE8
  have hEw : Ext w w8 := hE4.trans' (hE5.trans' (hE5b.trans' (hE6.trans' (hE7.trans' (hE7b.trans' hE8)))))
  clear hx8 hnb hdb hE4 hE5 hE5b hE6 hE7 hE7b hE8 HS4 HT4
  go_wp2_with fail
  refine wp_region_after (by kernel_rfl) (by kernel_rfl) ?_
  repeat (go_big_quiet_step ((first | (go_at_call 40; exact quiet_after (Of35 _)) | (go_at_call 40; exact quiet_after (Ofm5 _)))))
  refine wpQuiet_nil ?_
  rintro _ ⟨xx, rfl⟩
  obtain ⟨wq, hq⟩ := xx
  try dsimp only
  go_wp2
  go_ret
  exact ⟨rfl, (hEw.allocR _).trans' hq⟩
end Go.Proofs.Ythancaehlijaoaa
