/- More calls of package grid: New, Cells, Copy. -/
import Derived.Test.YthancaehlijaoaaGrid
import Derived.Lib.SliceRun
namespace Go.Proofs.Ythancaehlijaoaa
open Go.RowKit

def zs (n : Nat) : List Int := List.replicate n 0
theorem zs_len (n : Nat) : (zs n).length = n := by simp [zs]
theorem fill0 (f : Nat → Int) (n : Nat) : (fillA f 0 n).toList = ints (zs n) := by
  apply List.ext_getElem
  · simp [fillA, ints, zs]
  · intro i h1 h2
    simp [fillA, ints, zs]
set_option maxRecDepth 20000 in
set_option maxHeartbeats 1000000 in
theorem GNew_c (R W : Nat) (w : World) (r1 : 1 ≤ R) (r2 : R ≤ 8) (w1 : 1 ≤ W) (w2 : W ≤ 128) :
    Calls Try.prog 63 #[.int .i64 R, .int .i64 W] w fun e w' => ∃ b c, e = .returned (.pointer (some ⟨b, 0, none⟩)) ∧ GAt w' b c R W (zs (R * W)) ∧ w.heap.size ≤ b ∧ w.heap.size ≤ c ∧ Ext w w' := by
  obtain ⟨ii, hi, hz0, hz1, hz2⟩ := info_parts info_i64
  have hrw : R * W ≤ 1024 := Nat.mul_le_mul r2 w2
  have hmk := fun (x : World) => run_make_ints 32 2 ii Try.underlying32 hi hz0 hz1 hz2 (R * W) (by omega) (fun _ => 0) x
  have e1 : IntKind.i64.wrap ((R : Int) * W) = (R : Int) * W := IntWalk.i64_in _ (by rw [← Int.natCast_mul]; omega)
  rw [Int.natCast_mul] at hmk
  have m1 : max (R : Int) 0 = R := by omega
  have m2 : min (R : Int) 8 = R := by omega
  have m3 : max (W : Int) 0 = W := by omega
  have m4 : min (W : Int) 128 = W := by omega
  clear hi hz0 hz1 hz2
  go_enter Try.func63, Try.ntmps63
  go_wp2
  go_ret
  refine ⟨_, w.heap.size, rfl, ?_, by omega, Nat.le_refl _, by (repeat' (first | exact Ext.refl _ | assumption | apply Ext.allocR | apply Ext.drewR | apply Ext.drewNR | (refine Ext.trans' ?_ (by assumption))))⟩
  have hk : CAt (w.alloc (.cells (fillA (fun _ => 0) 0 (R * W)) 2)) w.heap.size (R * W) (zs (R * W)) :=
    ⟨⟨_, heap_at _ _ rfl, fillA_size _ _ _, by rw [fill0, zs_len]; exact List.take_of_length_le (by rw [ints_len, zs_len]; exact Nat.le_refl _)⟩, by rw [zs_len]; exact Nat.le_refl _, by unfold maxLen; omega⟩
  refine ⟨⟨R * W, ?_, hk.keep (heap_old _ _ (by simp only [size_alloc]; omega))⟩, r1, r2, w1, w2, zs_len _⟩
  rw [zs_len]
  exact heap_at _ _ (by simp only [size_alloc])

set_option maxRecDepth 20000 in
set_option maxHeartbeats 1000000 in
theorem Clone_c (c cap : Nat) (l : List Int) (w : World) (h : CAt w c cap l) (hl : l.length ≤ 100000) :
    Calls Try.prog 90 #[.slice (some ⟨c, 0, none⟩) l.length cap] w fun e w' => ∃ v, e = .returned v ∧ w'.ownsRow w.heap.size 2 1 v l.length (ints l) ∧ (v = .slice none 0 0 → False) ∧ Ext w w' := by
  obtain ⟨i0, hi, hz0, hz1, hz2⟩ := info_parts info_i64
  have hnil := fun (x : World) (n k : Nat) => Lib.run_eql_slice_nil (P := Try.prog) x 32 2 (some ⟨c, 0, none⟩) n k 0 0 Try.underlying32
  have hcell := fun i (hi : i < l.length) => h.cell hi
  have hlt := h.lt
  have HC := Lib.hid hcell
  have HL := Lib.hid hl
  generalize hn : l.length = n at *
  have HN := Lib.hid hn
  clear hcell h hn hl
  go_enter Try.func90, Try.ntmps90
  have hown : (w.alloc (.cells #[] 2)).ownsRow w.heap.size 2 1 (.slice (some ⟨w.heap.size, 0, none⟩) 0 0) 0 [] :=
    ownsRow_of (heap_at _ _ rfl) (Nat.le_refl _) (Nat.le_refl _) (by unfold maxLen; omega) rfl rfl
  go_wp2_with (at_builtin; refine wpList_append_own _ rfl _ _ 32 rfl w.heap.size 2 i0 (.int .i64 0) 1 8 Try.underlying32 hi hz0 hz1 hz2 rfl (by decide) _ _ _ rfl hown ⟨c, 0, none⟩ n cap (ints l) rfl ?c1 ?c2 ?c3 ?c4 ?c5 ?c6 ?_)
  case c1 => rw [ints_len, HN.out, Nat.mul_one]
  case c2 =>
    intro j u hu
    simp only [ints, List.getElem?_map, Option.map_eq_some_iff] at hu
    obtain ⟨x, hx, rfl⟩ := hu
    have hj : j < l.length := (List.getElem?_eq_some_iff.1 hx).1
    have := HC.out j (by rw [← HN.out]; exact hj)
    rw [show (⟨c, 0, none⟩ : Addr).add j = ⟨c, j, none⟩ by (simp [Addr.add]; omega), World.cell?_alloc_lt _ _ _ hlt, this]
    simp [hx]
  case c3 =>
    intro u hu
    simp only [ints, List.mem_map] at hu
    obtain ⟨x, _, rfl⟩ := hu
    rfl
  case c4 => have := HL.out; unfold maxLen; omega
  case c5 => have := HL.out; omega
  case c6 => simp only [size_alloc]; omega
  intro v' w' h1 h2 h3
  go_wp2
  go_ret
  refine ⟨v', rfl, ?_, ?_, ?_⟩
  · exact h1
  · exact h3
  · exact (Ext.alloc' w (.cells #[] 2)).grown h2 (by simp only [size_alloc]; omega) (by intro k hk; simp [Value.ownBlock] at hk; omega)

set_option maxHeartbeats 400000 in
theorem GCells_c (b c R W : Nat) (l : List Int) (w : World) (h : GAt w b c R W l) :
    Calls Try.prog 59 #[.pointer (some ⟨b, 0, none⟩)] w fun e w' => ∃ v, e = .returned v ∧ w'.ownsRow w.heap.size 2 1 v l.length (ints l) ∧ (v = .slice none 0 0 → False) ∧ Ext w w' := by
  have hl : l.length ≤ 1024 := by rw [h.len]; exact Nat.mul_le_mul h.r2 h.w2
  obtain ⟨cap, h1, h2⟩ := h.ex
  have c2 := cell_of h1 2
  simp at c2
  clear h1 h
  go_enter Try.func59, Try.ntmps59
  go_wp2_with fail
  refine (Clone_c c cap l _ h2 (by omega)).mono ?_
  rintro e w1 ⟨v, rfl, h3, h4, h5⟩
  go_wp2
  go_ret
  exact ⟨v, rfl, h3, h4, h5⟩
set_option maxHeartbeats 1000000 in
theorem GCopy_c (b c R W : Nat) (l : List Int) (w : World) (h : GAt w b c R W l) :
    Calls Try.prog 86 #[.pointer (some ⟨b, 0, none⟩)] w fun e w' => ∃ b' c', e = .returned (.pointer (some ⟨b', 0, none⟩)) ∧ GAt w' b' c' R W l ∧ w.heap.size ≤ b' ∧ w.heap.size ≤ c' ∧ Ext w w' := by
  have hG := h
  have hl : l.length ≤ 1024 := by rw [h.len]; exact Nat.mul_le_mul h.r2 h.w2
  have hl0 : 0 < l.length := by rw [h.len]; exact Nat.mul_pos (by have := h.r1; omega) (by have := h.w1; omega)
  have hb := h.ltb
  obtain ⟨cap, h1, h2⟩ := h.ex
  have c0 := cell_of h1 0
  have c1 := cell_of h1 1
  have c2 := cell_of h1 2
  simp at c0 c1 c2
  clear h1 h
  go_enter Try.func86, Try.ntmps86
  go_wp2
  have hC0 := af_drew w
  refine pi_start (fun w' => ∃ x : After w, w' = x.w) [] (by kernel_rfl) ?_
  refine pi_t 0 rfl (by kernel_rfl) (by kernel_rfl) (fun _ _ _ _ h => h) (fun K hK => ?_)
  go_big_quiet_op
  refine hK _ ?_
  clear hK K
  refine pi_t 1 rfl (by kernel_rfl) (by kernel_rfl) (fun _ _ _ _ h => h) (fun K hK => ?_)
  go_big_quiet_op
  refine hK _ ?_
  clear hK K
  refine pi_t 2 rfl (by kernel_rfl) (by kernel_rfl) (fun _ _ _ _ h => h) (fun K hK => ?_)
  go_big_quiet_op
  refine hK _ ?_
  clear hK K
  refine pi_c 3 (by assumption) rfl (by kernel_rfl) (by kernel_rfl) (fun _ _ _ _ h => h) (fun K hK => ?_)
  go_big_quiet_op
  refine hK _ ?_
  clear hK K
  refine pi_t 4 rfl (by kernel_rfl) (by kernel_rfl) (fun _ _ _ _ h => h) (fun K hK => ?_)
  go_big_quiet_op
  refine hK _ ?_
  clear hK K
  refine pi_t 5 rfl (by kernel_rfl) (by kernel_rfl) (fun _ _ _ _ h => h) (fun K hK => ?_)
  go_big_quiet_op
  refine hK _ ?_
  clear hK K
  refine pi_t 6 rfl (by kernel_rfl) (by kernel_rfl) (fun _ _ _ _ h => h) (fun K hK => ?_)
  go_big_quiet_op
  refine hK _ ?_
  clear hK K
  refine pi_c 7 (by assumption) rfl (by kernel_rfl) (by kernel_rfl) (fun _ _ _ _ h => h) (fun K hK => ?_)
  go_big_quiet_op
  refine hK _ ?_
  clear hK K
  refine pi_t 8 rfl (by kernel_rfl) (by kernel_rfl) (fun _ _ _ _ h => h) (fun K hK => ?_)
  go_big_quiet_op
  refine hK _ ?_
  clear hK K
  refine pi_t 9 rfl (by kernel_rfl) (by kernel_rfl) (fun _ _ _ _ h => h) (fun K hK => ?_)
  go_big_quiet_op
  refine hK _ ?_
  clear hK K
  refine pi_t 10 rfl (by kernel_rfl) (by kernel_rfl) (fun _ _ _ _ h => h) (fun K hK => ?_)
  go_big_quiet_op
  refine hK _ ?_
  clear hK K
  refine pi_c 11 (by assumption) rfl (by kernel_rfl) (by kernel_rfl) (fun _ _ _ _ h => h) (fun K hK => ?_)
  go_big_quiet_op
  refine hK _ ?_
  clear hK K
  refine pi_l 12 rfl (by kernel_rfl) (fun K hK => ?_)
  go_wp2_with (go_at_call 90; refine (Clone_c c cap l _ (by exact h2.keep rfl) (by omega)).mono ?_; rintro e w1 ⟨v, rfl, h3, h4, h5⟩; obtain ⟨cc, cap2, rfl, hbc, hca⟩ := CAt.of_row h3 hl0)
  refine hK _ _ (fun _ h => af_step h h5) ?_
  clear hK K
  refine pi_t 13 rfl (by kernel_rfl) (by kernel_rfl) (fun _ _ _ _ h => h) (fun K hK => ?_)
  go_big_quiet_op
  refine hK _ ?_
  clear hK K
  refine pi_l 14 rfl (by kernel_rfl) (fun K hK => ?_)
  go_wp2
  refine hK _ _ (fun _ h => af_step h (Ext.alloc' _ _)) ?_
  clear hK K
  refine pi_t 15 rfl (by kernel_rfl) (by kernel_rfl) (fun _ _ _ _ h => h) (fun K hK => ?_)
  go_big_quiet_op
  refine hK _ ?_
  clear hK K
  refine pi_end (by kernel_rfl) ?_
  go_wp2
  go_ret

  have hsz := h5.size
  refine ⟨w1.heap.size, cc, rfl, ⟨⟨cap2, heap_at _ _ rfl, hca.keep (heap_old _ _ hca.lt)⟩, hG.r1, hG.r2, hG.w1, hG.w2, hG.len⟩, hsz, hbc, ?_⟩
  have : Ext w w1 := Ext.trans' (Below.drew (Ext.refl w)) h5
  (repeat' (first | exact Ext.refl _ | assumption | apply Ext.allocR | apply Ext.drewR | apply Ext.drewNR | (refine Ext.trans' ?_ (by assumption))))
end Go.Proofs.Ythancaehlijaoaa
