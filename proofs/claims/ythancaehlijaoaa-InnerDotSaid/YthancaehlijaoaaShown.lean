/- gaugerlaw10.shown: what the law shows of one small sketch. -/
import Derived.Test.YthancaehlijaoaaFed
namespace Go.Proofs.Ythancaehlijaoaa
open Go.RowKit

set_option maxHeartbeats 1000000 in
theorem Keys_no (c : Cfg) (h : c.Ok) (l : Int) (h0 : 0 ≤ l) (h1 : c.bits < l) (w : World) :
    Calls Try.prog 55 #[.agg #[.int .i64 c.bits, .int .i64 c.rows, .int .i64 c.width, .int .i64 c.mode, .int .u64 c.seed], .int .i64 l] w fun e w' => e = .returned (.int .u64 0) ∧ Ext w w' := by
  have hk := h
  obtain ⟨b1, b2, r1, r2, w1, w2, m1, m2, s⟩ := h
  have g1 : decide (l < 0) = false := by simp; omega
  have g2 : decide (c.bits < l) = true := by simp; omega
  go_enter Try.func55, Try.ntmps55
  go_wp2_with fail
  refine (Right_c c hk _).mono ?_
  rintro e w1 ⟨rfl, hb⟩
  have hc := bcell hb
  go_wp2
  go_ret
  refine ⟨rfl, ?_⟩
  (repeat' (first | exact Ext.refl _ | assumption | apply Ext.allocR | apply Ext.drewR | apply Ext.drewNR | (refine Ext.trans' ?_ (by assumption))))
set_option maxHeartbeats 1000000 in
theorem SNew_no (C : Cfg) (h : C.Ok) (lv : Int) (h0 : 0 ≤ lv) (h1 : C.bits < lv) (w : World) :
    Calls Try.prog 27 #[.agg #[.int .i64 C.bits, .int .i64 C.rows, .int .i64 C.width, .int .i64 C.mode, .int .u64 C.seed], .int .i64 lv] w fun e w' => e = .returned (.tuple #[.pointer none, .int .i64 1]) ∧ Ext w w' := by
  go_enter Try.func27, Try.ntmps27
  go_wp2_with fail
  refine (Keys_no C h lv h0 h1 _).mono ?_
  rintro e w1 ⟨rfl, hb⟩
  go_wp2
  go_ret2
  refine ⟨rfl, ?_⟩
  (repeat' (first | exact Ext.refl _ | assumption | apply Ext.allocR | apply Ext.drewR | apply Ext.drewNR | (refine Ext.trans' ?_ (by assumption))))
def C0 : Cfg := ⟨3, 2, 1, 1, 0⟩
theorem C0_ok : C0.Ok := by constructor <;> simp [C0, U64]
theorem C0_cols (k : Int) : cols C0 0 k = [0, 0] := by
  have h0 := col_bd C0 (by simp [C0]) 0 k (0 : Nat)
  have h1 := col_bd C0 (by simp [C0]) 0 k (1 : Nat)
  have e0 : col C0 0 k (0 : Nat) = 0 := by have : C0.width = 1 := rfl; omega
  have e1 : col C0 0 k (1 : Nat) = 0 := by have : C0.width = 1 := rfl; omega
  show (List.range 2).map _ = _
  rw [show List.range 2 = [0, 1] from rfl]
  simp only [List.map_cons, List.map_nil]
  rw [e0, e1]
theorem C0_keys : keys C0 0 = 8 := by simp [keys, C0]
theorem C0_e1 : errU C0 0 2 1 [0, 0] 0 5 = 0 := by unfold errU; rw [C0_cols, C0_keys]; rfl
theorem C0_u1 : updL C0 0 2 1 [0, 0] 0 5 = [5, 5] := by unfold updL; rw [C0_cols]; rfl
theorem C0_e2 : errU C0 0 2 1 [5, 5] 1 2 = 0 := by unfold errU; rw [C0_cols, C0_keys]; rfl
theorem C0_u2 : updL C0 0 2 1 [5, 5] 1 2 = [7, 7] := by unfold updL; rw [C0_cols]; rfl
theorem C0_e3 : errU C0 0 2 1 [7, 7] 8 2 = 2 := by unfold errU; rw [C0_keys]; rfl
theorem C0_p {x : Int} (h : IsKth (readL 1 [7, 7] (cols C0 0 0)) (if C0.mode = 3 then (2 - 1) / 2 else 0) x) : x = 7 := by
  rw [C0_cols] at h
  have h' : IsKth [7, 7] 0 x := h
  have := h'.2
  have := h'.1
  have hm : x ∈ [7, 7] := sameN_pos (by omega)
  simpa using hm
set_option maxRecDepth 20000 in
set_option maxHeartbeats 4000000 in
theorem shown_c (w : World) : Calls Try.prog 17 #[] w fun e w' => e = .returned (.bool true) ∧ Ext w w' := by
  go_enter Try.func17, Try.ntmps17
  go_wp2_with fail
  refine (SNew_c C0 C0_ok 0 (by decide) (by decide) 2 1 rfl rfl _).mono ?_
  rintro e w1 ⟨s, b, c, rfl, hS, hs, hb, hc, hx1⟩
  have hE1 : Ext w w1 := by (repeat' (first | exact Ext.refl _ | assumption | apply Ext.allocR | apply Ext.drewR | apply Ext.drewNR | (refine Ext.trans' ?_ (by assumption))))
  have hs1 := hE1.size
  replace hs : w.heap.size ≤ s := hs
  replace hb : w.heap.size ≤ b := hb
  replace hc : w.heap.size ≤ c := hc
  clear hx1
  go_wp2_with fail
  refine (SNew_no C0 C0_ok 4 (by decide) (by decide) _).mono ?_
  rintro e w2 ⟨rfl, hx2⟩
  have hE2 : Ext w w2 := by (repeat' (first | exact Ext.refl _ | assumption | apply Ext.allocR | apply Ext.drewR | apply Ext.drewNR | (refine Ext.trans' ?_ (by assumption))))
  have hS2 := hS.ext (w' := w2) (by (repeat' (first | exact Ext.refl _ | assumption | apply Ext.allocR | apply Ext.drewR | apply Ext.drewNR | (refine Ext.trans' ?_ (by assumption)))))
  clear hS hx2
  go_wp2_with fail
  refine Calls.mono (Update_c s b c C0 0 2 1 _ 0 5 _ (hS2.ext ?hx) (by unfold I64; omega) (by decide)) ?_
  case hx => (repeat' (first | exact Ext.refl _ | assumption | apply Ext.allocR | apply Ext.drewR | apply Ext.drewNR | (refine Ext.trans' ?_ (by assumption))))
  rintro e w3 ⟨rfl, hup⟩
  have he : errU C0 0 2 1 (zs (2 * 1)) 0 5 = 0 := C0_e1
  obtain ⟨_, hS3, hM3⟩ := hup.resolve_right (fun h => h.1 he)
  rw [he]
  rw [show updL C0 0 2 1 (zs (2 * 1)) 0 5 = [5, 5] from C0_u1] at hS3
  have hE2' : Ext w w2.drew := Below.drew hE2
  have hs2 := hE2'.size
  have hE3 : Ext w w3 := Below.trans (by first | exact hE2 | exact hE2') (hM3.below (B := w.heap.size) (by first | exact hE2.size | exact hs2) (fun i hi => by omega))
  clear hM3 hup he hS2 hE2 hE2' hs2
  go_wp2_with fail
  refine Calls.mono (Update_c s b c C0 0 2 1 _ 1 2 _ (hS3.ext ?hx) (by unfold I64; omega) (by decide)) ?_
  case hx => (repeat' (first | exact Ext.refl _ | assumption | apply Ext.allocR | apply Ext.drewR | apply Ext.drewNR | (refine Ext.trans' ?_ (by assumption))))
  rintro e w4 ⟨rfl, hup⟩
  obtain ⟨_, hS4, hM4⟩ := hup.resolve_right (fun h => h.1 C0_e2)
  rw [C0_e2]
  rw [C0_u2] at hS4
  have hE3' : Ext w w3.drew := Below.drew hE3
  have hs3 := hE3'.size
  have hE4 : Ext w w4 := Below.trans (by first | exact hE3 | exact hE3') (hM4.below (B := w.heap.size) (by first | exact hE3.size | exact hs3) (fun i hi => by omega))
  clear hM4 hup hS3 hE3 hE3' hs3
  go_wp2_with fail
  refine Calls.mono (Update_c s b c C0 0 2 1 _ 8 2 _ (hS4.ext ?hx) (by unfold I64; omega) (by decide)) ?_
  case hx => (repeat' (first | exact Ext.refl _ | assumption | apply Ext.allocR | apply Ext.drewR | apply Ext.drewNR | (refine Ext.trans' ?_ (by assumption))))
  rintro e w5 ⟨rfl, hup⟩
  have hx5 := (hup.resolve_left (fun h => by rw [C0_e3] at h; exact absurd h.1 (by decide))).2
  rw [C0_e3]
  have hE5 : Ext w w5 := by (repeat' (first | exact Ext.refl _ | assumption | apply Ext.allocR | apply Ext.drewR | apply Ext.drewNR | (refine Ext.trans' ?_ (by assumption))))
  have hS5 := hS4.ext (w' := w5) (by (repeat' (first | exact Ext.refl _ | assumption | apply Ext.allocR | apply Ext.drewR | apply Ext.drewNR | (refine Ext.trans' ?_ (by assumption)))))
  clear hS4 hx5 hup hE4
  go_wp2_with fail
  refine Calls.mono (Point_c s b c C0 0 2 1 _ 0 _ (hS5.ext ?hx) (by decide) (by rw [C0_keys]; decide)) ?_
  case hx => (repeat' (first | exact Ext.refl _ | assumption | apply Ext.allocR | apply Ext.drewR | apply Ext.drewNR | (refine Ext.trans' ?_ (by assumption))))
  rintro e w6 ⟨x, rfl, hp, hx6⟩
  obtain rfl := C0_p hp
  have hE6 : Ext w w6 := by (repeat' (first | exact Ext.refl _ | assumption | apply Ext.allocR | apply Ext.drewR | apply Ext.drewNR | (refine Ext.trans' ?_ (by assumption))))
  have hS6 := hS5.ext (w' := w6) (by (repeat' (first | exact Ext.refl _ | assumption | apply Ext.allocR | apply Ext.drewR | apply Ext.drewNR | (refine Ext.trans' ?_ (by assumption)))))
  clear hS5 hx6 hp hE5
  go_wp2_with fail
  refine Calls.mono (SCells_c s b c C0 0 2 1 _ _ (hS6.ext ?hx)) ?_
  case hx => (repeat' (first | exact Ext.refl _ | assumption | apply Ext.allocR | apply Ext.drewR | apply Ext.drewNR | (refine Ext.trans' ?_ (by assumption))))
  rintro e w7 ⟨v, rfl, ho, hne, hx7⟩
  have hE7 : Ext w w7 := by (repeat' (first | exact Ext.refl _ | assumption | apply Ext.allocR | apply Ext.drewR | apply Ext.drewNR | (refine Ext.trans' ?_ (by assumption))))
  have hS7 := hS6.ext (w' := w7) (by (repeat' (first | exact Ext.refl _ | assumption | apply Ext.allocR | apply Ext.drewR | apply Ext.drewNR | (refine Ext.trans' ?_ (by assumption)))))
  have hv := IntsAt.of_row ho
  obtain ⟨vg, vo, vc, rfl, hvl, hvk⟩ := hv.slice (by simp)
  have k1 := hvk 1 (by simp)
  clear hS6 hx7 hE6 ho hne hv hvk
  have k1' : w7.cell? ⟨vg, vo + 1, none⟩ = some (.int .i64 7) := k1
  clear k1
  go_wp2_with fail
  refine Calls.mono (SLevel_c s b c C0 0 2 1 _ _ (hS7.ext ?hx)) ?_
  case hx => (repeat' (first | exact Ext.refl _ | assumption | apply Ext.allocR | apply Ext.drewR | apply Ext.drewNR | (refine Ext.trans' ?_ (by assumption))))
  rintro e w8 ⟨rfl, rfl⟩
  go_wp2_with fail
  refine Calls.mono (SConfig_c s b c C0 0 2 1 _ _ (hS7.ext ?hx)) ?_
  case hx => (repeat' (first | exact Ext.refl _ | assumption | apply Ext.allocR | apply Ext.drewR | apply Ext.drewNR | (refine Ext.trans' ?_ (by assumption))))
  rintro e w8 ⟨he, hb8⟩
  replace he : e = .returned (.agg #[.int .i64 3, .int .i64 2, .int .i64 1, .int .i64 1, .int .u64 0]) := he
  subst he
  have hfd : ∀ w : World, (Instr.field 24 (.agg #[.int .i64 3, .int .i64 2, .int .i64 1, .int .i64 1, .int .u64 0]) 1).run Try.prog w = .ok (.int .i64 2) w := fun _ => by kernel_rfl
  have hE8 : Ext w w8 := by (repeat' (first | exact Ext.refl _ | assumption | apply Ext.allocR | apply Ext.drewR | apply Ext.drewNR | (refine Ext.trans' ?_ (by assumption))))
  clear hb8
  go_wp2
  go_ret
  exact ⟨rfl, by (repeat' (first | exact Ext.refl _ | assumption | apply Ext.allocR | apply Ext.drewR | apply Ext.drewNR | (refine Ext.trans' ?_ (by assumption))))⟩
end Go.Proofs.Ythancaehlijaoaa
