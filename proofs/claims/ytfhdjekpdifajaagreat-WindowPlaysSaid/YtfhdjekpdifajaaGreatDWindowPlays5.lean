/- Part. No condition. -/
import Derived.Test.YtfhdjekpdifajaaGreatDWindowPlays4
import Derived.Test.YtfhdjekpdifajaaGreatDWindowPlays1
import Derived.Test.YtfhdjekpdifajaaGreatDWindowPlays2
import Derived.Test.YtfhdjekpdifajaaGreatDWindowPlays3
namespace Go.Proofs.YtfhdjekpdifajaaGreat
set_option linter.unusedVariables false
open Go.RowKit
theorem own_empty (w : World) (e : TypeId) : (w.alloc (.cells #[] e)).ownsRow w.heap.size e 1 (.slice (some ⟨w.heap.size, 0, none⟩) 0 0) 0 [] :=
  ⟨rfl, .inr ⟨w.heap.size, 0, #[], rfl, Nat.le_refl _, heap_at _ _ rfl, Nat.le_refl _, Nat.zero_le _, rfl, rfl⟩⟩
theorem zs_succ (n : Nat) : zs (n + 1) = zs n ++ [0] := List.replicate_succ'
set_option maxRecDepth 20000 in
set_option maxHeartbeats 4000000 in
theorem RGNew_c (R W : Nat) (r1 : 1 ≤ R) (r2 : R ≤ 8) (w1 : 1 ≤ W) (w2 : W ≤ 128) (w : World) :
    Calls Tryz.prog 155 #[.int .i64 R, .int .i64 W] w fun e w' => ∃ G : Gr, e = .returned (.pointer (some ⟨G.g, 0, none⟩)) ∧ RGAt w' G R W (zs (R * W)) ∧ (∀ k, G.foot R k → w.heap.size ≤ k) ∧ Ext w w' := by
  go_enter Tryz.func155, Tryz.ntmps155
  go_wp2_with fail
  go_loopw [6] (fun u6 wr => ∃ (k : Nat) (G : Gr) (v : Value), k ≤ R ∧ u6 = .int .i64 k ∧ Ext w wr ∧ wr.heap[w.heap.size]? = some (.cells #[v] 161 (0, 0)) ∧ GMade wr (w.heap.size + 1) G W k v (fun _ _ => 0)) (fun u6 _ => R - (intOf u6).toNat)
  case atStart => exact ⟨0, ⟨0, 0, fun _ => 0, fun _ => 0⟩, _, Nat.zero_le _, rfl, Ext.alloc' _ _, heap_at _ _ rfl, GMade.zero _ _ _ _ _⟩
  case round =>
    obtain ⟨k, G, v, hk, rfl, hE, hb, hM⟩ := hrel
    rename World => wo
    have hbl := lt_of hb
    have hsz := hE.size
    have HB := Lib.hid hb
    have HM := Lib.hid hM
    clear hb hM
    by_cases hlt : k < R
    · have hk8 : (k : Int) < 8 := by omega
      have hk8b : decide ((k : Int) < 8) = true := by simp; omega
      go_wp2_with fail
      go_loopw [7, 8] (fun u7 u8 wr => ∃ j : Nat, j ≤ W ∧ u8 = .int .i64 j ∧ wr.ownsRow wo.heap.size 2 1 u7 (zs j).length (ints (zs j)) ∧ Ext wo wr) (fun _ u8 _ => W - (intOf u8).toNat)
      case atStart => exact ⟨0, Nat.zero_le _, rfl, own_empty _ _, Ext.alloc' _ _⟩
      case round =>
        obtain ⟨j, hj, rfl, hown, hx⟩ := hrel
        have hxs := hx.size
        by_cases hjl : j < W
        · have hj128 : (j : Int) < 128 := by omega
          have hj128b : decide ((j : Int) < 128) = true := by simp; omega
          go_wp2_with (at_builtin; refine wpList_app1 wr 0 (zs j) _ wo.heap.size 2 hown 43 rfl _ _ rfl info_i64 Tryz.underlying43 rfl rfl ?a1 ?a2 ?_)
          case a1 => rw [zs_len]; omega
          case a2 => exact hxs
          intro v' w' g1 g2 g3
          have hx' : Ext wo w' := ext_grown hx g2 (fun i hi => own_blk hown hi)
          rw [← zs_succ] at g1
          have G1 := Lib.hid g1
          clear g1 g2 g3 hown
          go_wp2
          go_roundw
          case rel => exact ⟨j + 1, by omega, by go_num, G1.out, hx'⟩
          case measure => simp [intOf]; omega
        · obtain rfl : j = W := by omega
          obtain ⟨z, cap, cur, hu, hcap, hz, hzc, hcur⟩ := own_row1 hown (by rw [zs_len]; omega)
          rw [zs_len] at hu hcap hcur
          subst hu
          have hbx := hx.keep HB.out
          have hMx := HM.out.ext hx
          have c0 := (cell_of hbx 0).trans rfl
          have lb := lt_of hbx
          obtain ⟨i0, z0, hi0, hz0, hz1, hz2, hz3⟩ := info_row
          have HC := Lib.hid (And.intro hcap (And.intro hz (And.intro hzc hcur)))
          have HBX := Lib.hid hbx
          have HMX := Lib.hid hMx
          clear hown hcap hz hzc hcur hbx hMx
          go_wp2_with (at_builtin; refine wpList_appB wr 24 (by decide) (.slice (some ⟨z, 0, none⟩) j cap) rfl ((List.range k).map (G.row j)) v (w.heap.size + 1) 43 HMX.out.row 159 rfl _ _ rfl i0 z0 hi0 hz0 hz1 hz2 hz3 Tryz.underlying159 rfl rfl ?b1 ?b2 ?_)
          case b1 => rw [List.length_map, List.length_range]; omega
          case b2 => omega
          intro v' w' g1 g2
          obtain ⟨q1, q2, q3, q4⟩ := HC.out
          have hnext := HMX.out.next q3 (fun i hi => by rw [q4 i hi, zs_get0]) q1 (fun r hr => HM.out.lt hr) (by omega) q2 (by rw [List.length_append, List.length_map, List.length_range]; exact g1) g2
          have hbw := (grown_old g2 lb (fun e => by have := own_blk HMX.out.row e.symm; omega)).trans HBX.out
          have hEw : Ext w w' := ext_grown (hE.trans' hx) g2 (fun i hi => by have := own_blk HMX.out.row hi; omega)
          have d0 := (cell_of hbw 0).trans rfl
          have f0 := frozen_of hbw 0
          have l0 := lt_of hbw
          obtain ⟨pv, nv, cv, rfl⟩ := own_slice g1
          have HN := Lib.hid hnext
          have HBW := Lib.hid hbw
          clear hnext hbw g1 g2 c0
          go_wp2
          go_roundw
          case rel => exact ⟨k + 1, _, _, by omega, by go_num, hEw.setR (p := ⟨w.heap.size, 0, none⟩) (Nat.le_refl _) _, (setCell_same HBW.out 0 _).trans rfl, HN.out.setc (by omega) _ _⟩
          case measure => simp [intOf]; omega
    · obtain rfl : k = R := by omega
      go_wp2
      go_ret
      obtain ⟨m, hm, hG⟩ := HM.out.grid (l := zs (k * W)) HB.out (zs_len _) (fun r c _ _ => (zs_get0 _ _).symm) r1 r2 w1 w2
      refine ⟨_, rfl, hG, ?_, hE⟩
      rintro i (rfl | rfl | ⟨r, hr, rfl⟩)
      · exact Nat.le_refl _
      · exact Nat.le_trans (Nat.le_succ _) hm
      · exact Nat.le_trans (Nat.le_succ _) (HM.out.new r hr)
theorem take_row {l : List Int} {R W k : Nat} (hl : l.length = R * W) (hk : k < R) : l.take ((k + 1) * W) = l.take (k * W) ++ rowL l W k := by
  have h1 : (k + 1) * W ≤ R * W := Nat.mul_le_mul_right W hk
  have e : (k + 1) * W = k * W + W := by rw [Nat.add_mul, Nat.one_mul]
  apply list_ext_getD
  · rw [List.length_append, List.length_take, List.length_take, rowL_len]; omega
  · intro i hi
    rw [List.length_take] at hi
    have g : ∀ n, i < n → (l.take n).getD i 0 = l.getD i 0 := fun n hn => by
      rw [List.getD_eq_getElem?_getD, List.getD_eq_getElem?_getD, List.getElem?_take_of_lt hn]
    rw [g _ (by omega)]
    by_cases h : i < k * W
    · rw [List.getD_eq_getElem?_getD (l := l.take (k * W) ++ rowL l W k), List.getElem?_append_left (by rw [List.length_take]; omega), ← List.getD_eq_getElem?_getD, g _ h]
    · have hlen : (l.take (k * W)).length = k * W := by rw [List.length_take]; omega
      rw [List.getD_eq_getElem?_getD (l := l.take (k * W) ++ rowL l W k), List.getElem?_append_right (by omega), ← List.getD_eq_getElem?_getD, hlen, rowL_get (by omega)]
      congr 1
      omega
set_option maxRecDepth 20000 in
set_option maxHeartbeats 4000000 in
theorem RGCells_c (G : Gr) (R W : Nat) (l : List Int) (w : World) (h : RGAt w G R W l) :
    Calls Tryz.prog 87 #[.pointer (some ⟨G.g, 0, none⟩)] w fun e w' => ∃ v, e = .returned v ∧ w'.ownsRow w.heap.size 2 1 v l.length (ints l) ∧ Ext w w' := by
  have HH := Lib.hid h
  clear h
  go_enter Tryz.func87, Tryz.ntmps87
  go_wp2_with fail
  go_loopw [3, 4] (fun u3 u4 wr => ∃ k : Nat, k ≤ R ∧ u4 = .int .i64 k ∧ wr.ownsRow w.heap.size 2 1 u3 (l.take (k * W)).length (ints (l.take (k * W))) ∧ Ext w wr) (fun _ u4 _ => R - (intOf u4).toNat)
  case atStart =>
    refine ⟨0, Nat.zero_le _, rfl, ?_, Ext.alloc' _ _⟩
    rw [Nat.zero_mul, List.take_zero]
    exact own_empty _ _
  case round =>
    obtain ⟨k, hk, rfl, hown, hE⟩ := hrel
    have hr := HH.out.ext hE
    have hr8 := hr.r2
    have hw128 := hr.w2
    obtain ⟨cap, cg, hcap⟩ := hr.cg
    have lg := hr.ltg
    by_cases hlt : k < R
    · have cm := hr.cm hlt
      have lm := hr.ltm
      have hints := hr.ints hlt
      have hrow := take_row hr.len hlt
      have hl2 : (l.take (k * W)).length ≤ 1024 := by
        rw [List.length_take]
        have : k * W ≤ 8 * 128 := Nat.mul_le_mul (by omega) hw128
        omega
      have HROW := Lib.hid hrow
      have HOWN := Lib.hid hown
      have hcr : ∀ j, j < W → wr.cell? ⟨G.r k, 0 + j, none⟩ = some (.int .i64 ((rowL l W k).getD j 0)) := fun j hj => by rw [Nat.zero_add, rowL_get hj]; exact hr.cr hlt hj
      have HCR := Lib.hid hcr
      have hlen := rowL_len l W k
      have HLEN := Lib.hid hlen
      generalize l.take (k * W) = pre at *
      generalize rowL l W k = row at *
      clear hrow hints hown hr hcr hlen
      go_wp2_with (at_builtin; refine wpList_appl wr row pre u3 w.heap.size 2 HOWN.out 43 rfl _ _ rfl info_i64 Tryz.underlying43 rfl (G.r k) 0 W (G.c k) rfl HLEN.out.symm HCR.out ?a1 ?a2 ?_)
      case a1 => omega
      case a2 => exact hE.size
      intro v' w' g1 g2 g3
      have hx' : Ext w w' := ext_grown0 hE g2 (fun i hi => own_blk HOWN.out hi)
      have G1 := Lib.hid g1
      obtain ⟨p1, n1, c1, rfl⟩ := own_slice g1
      clear g1 g2 g3
      go_wp2
      go_roundw
      case rel => exact ⟨k + 1, by omega, by go_num, by rw [HROW.out, List.length_append]; exact G1.out, hx'⟩
      case measure => simp [intOf]; omega
    · obtain rfl : k = R := by omega
      rw [List.take_of_length_le (by rw [hr.len]; exact Nat.le_refl _)] at hown
      have HOWN := Lib.hid hown
      obtain ⟨p1, n1, c1, rfl⟩ := own_slice hown
      clear hown hr
      go_wp2
      go_ret
      exact ⟨_, rfl, HOWN.out, hE⟩
end Go.Proofs.YtfhdjekpdifajaaGreat
namespace Go.Proofs.YtfhdjekpdifajaaGreat
set_option linter.unusedVariables false
open Go.RowKit
def uu (a : Int) : Int := a % 18446744073709551616
theorem uu_u (a : Int) : U64 (uu a) := by unfold uu U64; omega
theorem u64_wrap (a : Int) : IntKind.u64.wrap a = uu a := by rw [IntKind.wrap_u64]; rfl
end Go.Proofs.YtfhdjekpdifajaaGreat
namespace Go.Proofs.YtfhdjekpdifajaaGreat
set_option linter.unusedVariables false
open Go.RowKit
theorem IntsAt.sl {w : World} {v : Value} {xs : List Int} (h : IntsAt w v xs) : ∃ p c, v = .slice p xs.length c := by
  rcases h with ⟨rfl, rfl⟩ | ⟨g, off, cap, rfl, _⟩
  · exact ⟨none, 0, rfl⟩
  · exact ⟨_, _, rfl⟩
theorem IntsAt.one {w : World} {p : Option Addr} {n c : Nat} {xs : List Int} (h : IntsAt w (.slice p n c) xs) {k : Nat} (hk : k < xs.length) :
    ∃ g off, p = some ⟨g, off, none⟩ ∧ g < w.heap.size ∧ w.cell? ⟨g, off + k, none⟩ = some (.int .i64 (xs.getD k 0)) := by
  rcases h with ⟨_, rfl⟩ | ⟨g, off, cap, hv, hg, hc⟩
  · simp at hk
  · cases hv
    exact ⟨g, off, rfl, hg, hc k hk⟩
end Go.Proofs.YtfhdjekpdifajaaGreat
namespace Go.Proofs.YtfhdjekpdifajaaGreat
set_option linter.unusedVariables false
open Go.RowKit
set_option maxRecDepth 20000 in
set_option maxHeartbeats 4000000 in
theorem RMeet_c (G : Gr) (R W : Nat) (l cs : List Int) (v : Value) (w : World) (h : RGAt w G R W l) (hv : IntsAt w v cs) (hm : Meets R W cs) :
    Calls Tryz.prog 197 #[.pointer (some ⟨G.g, 0, none⟩), v] w fun e w' => e = .returned (.bool true) ∧ Ext w w' := by
  have r1 := h.r1
  have r2 := h.r2
  obtain ⟨vg, vo, vc, rfl, hg, hc⟩ := hv.slice (by rw [hm.len]; omega)
  rw [hm.len] at hc ⊢
  have HC := Lib.hid hc
  have HH := Lib.hid h
  have HM := Lib.hid hm
  obtain ⟨cap, cg, hcap⟩ := h.cg
  have lg := h.ltg
  have hz : ((R : Int) == 0) = false := by simp; omega
  clear hc hv h hm
  go_enter Tryz.func197, Tryz.ntmps197
  go_wp2_with fail
  clear cg lg hz
  go_loopw [5] (fun u wr => ∃ k : Nat, k ≤ R ∧ u = .int .i64 k ∧ Ext w wr) (fun u _ => R - (intOf u).toNat)
  case atStart => exact ⟨0, Nat.zero_le _, rfl, by (repeat' (first | exact Ext.refl _ | assumption | apply Ext.allocR | apply Ext.drewR | apply Ext.drewNR | (refine Ext.trans' ?_ (by assumption))))⟩
  case round =>
    obtain ⟨k, hk, rfl, hE⟩ := hrel
    by_cases hlt : k < R
    · have hr := HH.out.ext hE
      obtain ⟨cap2, cg, hcap2⟩ := hr.cg
      have lg := hr.ltg
      have cm := hr.cm hlt
      have lm := hr.ltm
      have d := ((bcell hE).1 _ _ hg).trans (HC.out k hlt)
      have ld : vg < wr.heap.size := Nat.lt_of_lt_of_le hg hE.size
      have l1 := HM.out.lo k hlt
      have l2 := HM.out.hi k hlt
      generalize cs.getD k 0 = y at *
      have g2 : decide (y < 0) = false := by simp; omega
      have g3 : decide ((W : Int) ≤ y) = false := by simp; omega
      clear hr
      go_wp2_with fail
      go_region
      go_wp2_with fail
      go_roundw
      case rel => exact ⟨k + 1, by omega, by go_num, by first | exact hE | exact hE.drewR⟩
      case measure => simp [intOf]; omega
    · go_wp2
      go_ret
      exact ⟨rfl, hE⟩
theorem readL_snoc {W : Nat} {l cs : List Int} {k : Nat} (hk : k < cs.length) : (readL W l cs).take (k + 1) = (readL W l cs).take k ++ [l.getD (k * W + (cs.getD k 0).toNat) 0] := by
  rw [take_snoc (by rw [readL_len]; exact hk), readL_get hk]; rfl
set_option maxRecDepth 20000 in
set_option maxHeartbeats 4000000 in
theorem RRead_c (G : Gr) (R W : Nat) (l cs : List Int) (v : Value) (w : World) (h : RGAt w G R W l) (hv : IntsAt w v cs) (hm : Meets R W cs) :
    Calls Tryz.prog 194 #[.pointer (some ⟨G.g, 0, none⟩), v] w (ReadPost w W l cs) := by
  have r1 := h.r1
  have r2 := h.r2
  have hml := hm.len
  obtain ⟨vg, vo, vc, rfl, hg, hc⟩ := hv.slice (by rw [hm.len]; omega)
  rw [hml] at hc hv ⊢
  have HL := Lib.hid hml
  have HC := Lib.hid hc
  have HV := Lib.hid hv
  have HH := Lib.hid h
  have HM := Lib.hid hm
  clear hc hv h hm hml
  go_enter Tryz.func194, Tryz.ntmps194
  go_wp2_with fail
  refine Calls.mono (RMeet_c G R W l cs _ _ (HH.out.ext (Ext.alloc' _ _)) (HV.out.ext (Ext.alloc' _ _)) HM.out) ?_
  rintro e w1 ⟨rfl, hx1⟩
  have hE1 : Ext w w1 := (Ext.alloc' _ _).trans' hx1
  have hown : w1.ownsRow w.heap.size 2 1 (.slice (some ⟨w.heap.size, 0, none⟩) 0 0) ((readL W l cs).take 0).length (ints ((readL W l cs).take 0)) := own_ext (own_empty w 2) hx1
  clear hx1
  go_wp2_with fail
  go_loopw [6, 7] (fun u6 u7 wr => ∃ k : Nat, k ≤ R ∧ u7 = .int .i64 k ∧ wr.ownsRow w.heap.size 2 1 u6 ((readL W l cs).take k).length (ints ((readL W l cs).take k)) ∧ Ext w wr) (fun _ u7 _ => R - (intOf u7).toNat)
  case atStart => exact ⟨0, Nat.zero_le _, rfl, hown, hE1⟩
  case round =>
    clear hown
    obtain ⟨k, hk, rfl, hown, hE⟩ := hrel
    by_cases hlt : k < R
    · have hr := HH.out.ext hE
      obtain ⟨cap2, cg, hcap2⟩ := hr.cg
      have lg := hr.ltg
      have cm := hr.cm hlt
      have lm := hr.ltm
      have d := ((bcell hE).1 _ _ hg).trans (HC.out k hlt)
      have ld : vg < wr.heap.size := Nat.lt_of_lt_of_le hg hE.size
      have l1 := HM.out.lo k hlt
      have l2 := HM.out.hi k hlt
      have hsn := readL_snoc (W := W) (l := l) (cs := cs) (k := k) (by rw [HL.out]; exact hlt)
      have HSN := Lib.hid hsn
      clear hsn
      generalize cs.getD k 0 = y at *
      obtain ⟨y, rfl⟩ := Int.eq_ofNat_of_zero_le l1
      have cr := hr.cr hlt (k := y) (by omega)
      have lr := hr.ltr hlt
      have HSN2 : Hid ((readL W l cs).take (k + 1) = (readL W l cs).take k ++ [l.getD (k * W + y) 0]) := Lib.hid HSN.out
      generalize l.getD (k * W + y) 0 = x at *
      have hl8 : ((readL W l cs).take k).length ≤ 8 := by rw [List.length_take, readL_len, HL.out]; omega
      generalize (readL W l cs).take k = pre at *
      have hy2 : y < W := by omega
      have hsE := hE.size
      obtain ⟨S, hSS⟩ : ∃ S : Nat → Prop, ∀ i, S i ↔ u6.ownBlock = some i := ⟨_, fun _ => Iff.rfl⟩
      have n1 : ¬ S G.g := fun h => by have := own_blk hown ((hSS _).1 h); have := HH.out.ltg; omega
      have n2 : ¬ S G.m := fun h => by have := own_blk hown ((hSS _).1 h); have := HH.out.ltm; omega
      have n3 : ¬ S (G.r k) := fun h => by have := own_blk hown ((hSS _).1 h); have := HH.out.ltr hlt; omega
      have n4 : ¬ S vg := fun h => by have := own_blk hown ((hSS _).1 h); omega
      have HSS := Lib.hid hSS
      clear hr HSN l1 l2 hSS
      go_wp2_with fail
      have hC0 := afs_drew S wr
      refine pi_start (fun w' => ∃ z : AftS S wr, w' = z.w) [] (by kernel_rfl) ?_
      refine pi_t 0 rfl (by kernel_rfl) (by kernel_rfl) (fun _ _ _ _ h => h) (fun K hK => ?_)
      go_big_quiet_op
      refine hK _ ?_
      clear hK K
      refine pi_t 1 rfl (by kernel_rfl) (by kernel_rfl) (fun _ _ _ _ h => h) (fun K hK => ?_)
      go_big_quiet_op
      refine hK _ ?_
      clear hK K
      refine pi_t 2 rfl (by kernel_rfl) (by kernel_rfl) (fun _ _ _ _ h => h) (fun K hK => ?_)
      go_big_quiet_op
      refine hK _ ?_
      clear hK K
      refine pi_t 3 rfl (by kernel_rfl) (by kernel_rfl) (fun _ _ _ _ h => h) (fun K hK => ?_)
      go_big_quiet_op
      refine hK _ ?_
      clear hK K
      refine pi_t 5 rfl (by kernel_rfl) (by kernel_rfl) (fun _ _ _ _ h => h) (fun K hK => ?_)
      go_big_quiet_op
      refine hK _ ?_
      clear hK K
      refine pi_t 8 rfl (by kernel_rfl) (by kernel_rfl) (fun _ _ _ _ h => h) (fun K hK => ?_)
      go_big_quiet_op
      refine hK _ ?_
      clear hK K
      refine pi_t 9 rfl (by kernel_rfl) (by kernel_rfl) (fun _ _ _ _ h => h) (fun K hK => ?_)
      go_big_quiet_op
      refine hK _ ?_
      clear hK K
      refine pi_t 10 rfl (by kernel_rfl) (by kernel_rfl) (fun _ _ _ _ h => h) (fun K hK => ?_)
      go_big_quiet_op
      refine hK _ ?_
      clear hK K
      refine pi_c 4 (by assumption) rfl (by kernel_rfl) (by kernel_rfl) (fun _ _ _ _ h => h) (fun K hK => ?_)
      go_big_quiet_op
      refine hK _ ?_
      clear hK K
      refine pi_t 6 rfl (by kernel_rfl) (by kernel_rfl) (fun _ _ _ _ h => h) (fun K hK => ?_)
      go_big_quiet_op
      refine hK _ ?_
      clear hK K
      refine pi_c 7 (by assumption) rfl (by kernel_rfl) (by kernel_rfl) (fun _ _ _ _ h => h) (fun K hK => ?_)
      go_big_quiet_op
      refine hK _ ?_
      clear hK K
      refine pi_c 11 (by assumption) rfl (by kernel_rfl) (by kernel_rfl) (fun _ _ _ _ h => h) (fun K hK => ?_)
      go_big_quiet_op
      refine hK _ ?_
      clear hK K
      refine pi_t 12 rfl (by kernel_rfl) (by kernel_rfl) (fun _ _ _ _ h => h) (fun K hK => ?_)
      go_big_quiet_op
      refine hK _ ?_
      clear hK K
      refine pi_c 13 (by assumption) rfl (by kernel_rfl) (by kernel_rfl) (fun _ _ _ _ h => h) (fun K hK => ?_)
      go_big_quiet_op
      refine hK _ ?_
      clear hK K
      refine pi_l 14 rfl (by kernel_rfl) (fun K hK => ?_)
      go_wp2
      refine hK _ _ (fun _ h => afs_step h (Ext.alloc' _ _)) ?_
      clear hK K
      have hown2 : wr.drew.ownsRow w.heap.size 2 1 u6 pre.length (ints pre) := own_drew hown
      refine pi_l 15 rfl (by kernel_rfl) (fun K hK => ?_)
      go_wp2_with (at_builtin; refine wpList_app1 wr.drew x pre u6 w.heap.size 2 hown2 43 rfl _ _ rfl info_i64 Tryz.underlying43 rfl rfl ?a1 ?a2 ?_)
      case a1 => omega
      case a2 => exact hsE
      intro v' w' g1 g2 g3
      have hE2 : Ext w w' := ext_grown hE.drewR g2 (fun i hi => own_blk hown hi)
      have hm2 : Mod S wr w' := mod_grown (Ext.mod _ (Below.drew (Ext.refl wr))) g2 (fun i hi => (HSS.out i).2 hi)
      have G1 := Lib.hid g1
      clear g1 g2 g3 hown hown2
      go_wp2
      refine hK _ _ (fun _ _ => ⟨⟨w', hm2⟩, rfl⟩) ?_
      clear hK K
      refine pi_t 16 rfl (by kernel_rfl) (by kernel_rfl) (fun _ _ _ _ h => h) (fun K hK => ?_)
      go_big_quiet_op
      refine hK _ ?_
      clear hK K
      refine pi_end (by kernel_rfl) ?_
      go_wp2_with fail
      go_roundw
      case rel => exact ⟨k + 1, by omega, by go_num, by rw [HSN2.out, List.length_append]; exact G1.out, hE2⟩
      case measure => simp [intOf]; omega
    · obtain rfl : k = R := by omega
      rw [List.take_of_length_le (by rw [readL_len, HL.out]; exact Nat.le_refl _)] at hown
      have HOWN := Lib.hid hown
      obtain ⟨p1, n1, c1, rfl⟩ := own_slice hown
      clear hown
      go_wp2
      go_ret2
      exact ⟨_, rfl, by have := HOWN.out; rw [readL_len] at this; exact this, hE⟩
set_option maxRecDepth 20000 in
set_option maxHeartbeats 4000000 in
theorem RMin_c (l : List Int) (v : Value) (w : World) (hv : IntsAt w v l) (h0 : 0 < l.length) (h1 : l.length ≤ 1000000) :
    Calls Tryz.prog 196 #[v] w fun e w' => e = .returned (.tuple #[.int .i64 (leastF (fun k => l.getD k 0) l.length), .bool true]) ∧ w = w' := by
  obtain ⟨g, off, cap, rfl, hg, hc⟩ := hv.slice h0
  obtain ⟨n, hn⟩ : ∃ n, l.length = n := ⟨_, rfl⟩
  rw [hn] at h0 h1 hc ⊢
  have HC := Lib.hid hc
  have HN := Lib.hid hn
  have d0 := hc 0 h0
  have hz : ((n : Int) == 0) = false := by simp; omega
  rw [Nat.add_zero] at d0
  obtain ⟨f, hf⟩ : ∃ f : Nat → Int, f = fun k => l.getD k 0 := ⟨_, rfl⟩
  have hf0 : l.getD 0 0 = f 0 := by rw [hf]
  have hfk : ∀ k, l.getD k 0 = f k := fun k => by rw [hf]
  rw [← hf]
  rw [hf0] at d0
  have HF := Lib.hid hfk
  clear hc hv hn hf hf0 hfk
  go_enter Tryz.func196, Tryz.ntmps196
  go_wp2
  go_loop [4, 5] (fun u4 u5 => ∃ k : Nat, k ≤ n ∧ u4 = .int .i64 (leastF f k) ∧ u5 = .int .i64 k) (fun _ u5 => n - (intOf u5).toNat)
  case atStart => exact ⟨0, Nat.zero_le _, rfl, rfl⟩
  case round =>
    obtain ⟨k, hk, rfl, rfl⟩ := hrel
    by_cases hlt : k < n
    · have d := HC.out k hlt
      rw [HF.out k] at d
      have hs := leastF_succ f k
      have HS := Lib.hid hs
      clear hs d0 hz
      generalize leastF f k = m at *
      generalize f k = y at *
      by_cases hy : y < m
      · have hmin : min m y = y := by omega
        rw [hmin] at HS
        go_wp2
        go_round
        case rel => exact ⟨k + 1, by omega, by rw [HS.out], by go_num⟩
        case measure => simp [intOf]; omega
      · have hmin : min m y = m := by omega
        have hy2 : decide (y < m) = false := by simp; omega
        have hy3 : m ≤ y := by omega
        rw [hmin] at HS
        clear hy
        go_wp2
        go_round
        case rel => exact ⟨k + 1, by omega, by rw [HS.out], by go_num⟩
        case measure => simp [intOf]; omega
    · obtain rfl : k = n := by omega
      clear d0 hz
      go_wp2
      go_ret2
      exact ⟨rfl, rfl⟩
theorem least_min {l : List Int} (h : 0 < l.length) : leastF (fun k => l.getD k 0) l.length = minL l := by
  obtain ⟨h1, h2⟩ := minL_spec l (by intro e; rw [e] at h; simp at h)
  obtain ⟨r, hr, hr2⟩ := leastF_mem (fun k => l.getD k 0) l.length h
  have h3 := h2 _ (getD_mem hr)
  obtain ⟨j, hj, hj2⟩ := List.getElem_of_mem h1
  have h4 := (leastF_le (fun k => l.getD k 0) l.length).2 j hj
  have h5 : l.getD j 0 = minL l := by simp [hj, hj2]
  rw [h5] at h4
  rw [hr2] at h4 ⊢
  omega
set_option maxRecDepth 20000 in
set_option maxHeartbeats 4000000 in
theorem RLeast_c (G : Gr) (R W : Nat) (l cs : List Int) (v : Value) (w : World) (h : RGAt w G R W l) (hv : IntsAt w v cs) (hm : Meets R W cs) :
    Calls Tryz.prog 158 #[.pointer (some ⟨G.g, 0, none⟩), v] w fun e w' => e = .returned (.tuple #[.int .i64 (minL (readL W l cs)), .int .i64 0]) ∧ Ext w w' := by
  have r1 := h.r1
  have r2 := h.r2
  have hlen : (readL W l cs).length = R := by rw [readL_len, hm.len]
  have HLEN := Lib.hid hlen
  have hle := least_min (l := readL W l cs) (by omega)
  have HLE := Lib.hid hle
  have hrl : cs.length = R := hm.len
  have HRL := Lib.hid hrl
  clear hlen hle hrl
  go_enter Tryz.func158, Tryz.ntmps158
  go_wp2_with fail
  refine Calls.mono (RRead_c G R W l cs v _ h hv hm) ?_
  rintro e w1 ⟨u, rfl, ho, hx1⟩
  rw [HRL.out] at ho
  have hi := IntsAt.of_row ho
  go_wp2_with fail
  refine Calls.mono (RMin_c _ u _ hi (by have := HLEN.out; omega) (by have := HLEN.out; omega)) ?_
  rintro e w2 ⟨rfl, rfl⟩
  rw [HLE.out]
  go_wp2_with fail
  go_ret2
  exact ⟨rfl, hx1⟩
end Go.Proofs.YtfhdjekpdifajaaGreat
namespace Go.Proofs.YtfhdjekpdifajaaGreat
set_option linter.unusedVariables false
open Go.RowKit
/-- Numbers that a slice may read. -/
def Src (W : World) (p : Option Addr) (l : List Int) : Prop := l = [] ∨ ∃ g off, p = some ⟨g, off, none⟩ ∧ g < W.heap.size ∧ ∀ k, k < l.length → W.cell? ⟨g, off + k, none⟩ = some (.int .i64 (l.getD k 0))
theorem Src.ext {W W' : World} {p : Option Addr} {l : List Int} (h : Src W p l) (he : Ext W W') : Src W' p l := by
  rcases h with h | ⟨g, off, h1, h2, h3⟩
  · exact .inl h
  · exact .inr ⟨g, off, h1, Nat.lt_of_lt_of_le h2 he.size, fun k hk => ((bcell he).1 _ _ h2).trans (h3 k hk)⟩
section
variable {P : Program}
end
end Go.Proofs.YtfhdjekpdifajaaGreat
namespace Go.Proofs.YtfhdjekpdifajaaGreat
set_option linter.unusedVariables false
open Go.RowKit
/-- A row of numbers in order, of the call's own. -/
structure SortAt (w W : World) (v : Value) (l s : List Int) : Prop where
  row : W.ownsRow w.heap.size 2 1 v s.length (ints s)
  sl : ∃ g cap, v = .slice (some ⟨g, 0, none⟩) s.length cap
  perm : s.Perm l
  ord : s.Pairwise (· ≤ ·)
theorem SortAt.ext {w W W' : World} {v : Value} {l s : List Int} (h : SortAt w W v l s) (he : Ext W W') : SortAt w W' v l s := ⟨own_ext h.row he, h.sl, h.perm, h.ord⟩
end Go.Proofs.YtfhdjekpdifajaaGreat
namespace Go.Proofs.YtfhdjekpdifajaaGreat
set_option linter.unusedVariables false
open Go.RowKit
theorem and_16 (x : Int) (h0 : 0 ≤ x) (h1 : x < 18446744073709551616) : bits BinOp.and IntKind.u64 x 65535 = x % 65536 := and_mask x 16 (by decide) h0 h1
theorem w16 (x : Int) : wrap64 (x % 65536) = x % 65536 := by unfold wrap64; omega
theorem wa16 (x : Int) (h : U64 x) : wrap64 (bits BinOp.and IntKind.u64 x 65535) = x % 65536 := by rw [and_16 x h.1 h.2, w16]
/-- A number's digit to base 65536. -/
def dg (x : Int) (i : Nat) : Int := x / (65536 ^ i : Int) % 65536
theorem dg_bd (x : Int) (i : Nat) : 0 ≤ dg x i ∧ dg x i ≤ 65535 := by unfold dg; omega
theorem dg0 (x : Int) : dg x 0 = x % 65536 := by unfold dg; rw [show (65536 : Int) ^ 0 = 1 from rfl]; omega
theorem dg1 (x : Int) : dg x 1 = x / 65536 % 65536 := rfl
theorem dg2 (x : Int) : dg x 2 = x / 4294967296 % 65536 := rfl
theorem dg3 (x : Int) : dg x 3 = x / 281474976710656 % 65536 := rfl
theorem dg4 (x : Int) : dg x 4 = x / 18446744073709551616 % 65536 := rfl
theorem dg5 (x : Int) : dg x 5 = x / 1208925819614629174706176 % 65536 := rfl
theorem dg6 (x : Int) : dg x 6 = x / 79228162514264337593543950336 % 65536 := rfl
theorem dg7 (x : Int) : dg x 7 = x / 5192296858534827628530496329220096 % 65536 := rfl
theorem dg8 (x : Int) : dg x 8 = x / 340282366920938463463374607431768211456 % 65536 := rfl
theorem dg9 (x : Int) : dg x 9 = x / 22300745198530623141535718272648361505980416 % 65536 := rfl
def longA (d : Nat → Int) : Value := .agg #[.int .i64 (d 0), .int .i64 (d 1), .int .i64 (d 2), .int .i64 (d 3), .int .i64 (d 4), .int .i64 (d 5), .int .i64 (d 6), .int .i64 (d 7), .int .i64 (d 8), .int .i64 (d 9)]
def longV (x : Int) : Value := longA (dg x)
theorem hid_lo (x : Int) : lo x % 65536 = dg x 0 ∧ lo x / 65536 % 65536 = dg x 1 ∧ lo x / 4294967296 % 65536 = dg x 2 ∧ lo x / 281474976710656 % 65536 = dg x 3 := by
  rw [dg0, dg1, dg2, dg3]; unfold lo
  refine ⟨?_, ?_, ?_, ?_⟩ <;> omega
theorem div_u {x k : Int} (h : U64 x) (hk : 1 ≤ k) : U64 (x / k) := by
  refine ⟨Int.ediv_nonneg h.1 (by omega), ?_⟩
  have := Int.ediv_le_self k h.1
  have := h.2
  omega
end Go.Proofs.YtfhdjekpdifajaaGreat
namespace Go.Proofs.YtfhdjekpdifajaaGreat
set_option linter.unusedVariables false
open Go.RowKit
theorem uu_dg (n : Int) : uu n % 65536 = dg n 0 ∧ uu n / 65536 % 65536 = dg n 1 ∧ uu n / 4294967296 % 65536 = dg n 2 ∧ uu n / 281474976710656 % 65536 = dg n 3 := hid_lo n
theorem hi_dg (n : Int) (h : I64 n) : ∀ i, 4 ≤ i → i < 10 → dg n i = (bif decide (n < 0) then 65535 else 0) := by
  intro i h1 h2
  unfold I64 at h
  have hc : i = 4 ∨ i = 5 ∨ i = 6 ∨ i = 7 ∨ i = 8 ∨ i = 9 := by omega
  by_cases hx : n < 0 <;> simp only [hx, decide_true, decide_false, cond_true, cond_false] <;> rcases hc with rfl | rfl | rfl | rfl | rfl | rfl
  all_goals first | rw [dg4] | rw [dg5] | rw [dg6] | rw [dg7] | rw [dg8] | rw [dg9]
  all_goals omega
set_option maxRecDepth 20000 in
set_option maxHeartbeats 4000000 in
theorem OfInt_core (n : Int) (b : Bool) (hb : decide (n < 0) = b) (hd : ∀ i, 4 ≤ i → i < 10 → dg n i = (bif b then 65535 else 0)) (w : World) :
    Calls Tryz.prog 152 #[.int .i64 n] w fun e w' => e = .returned (longV n) ∧ Ext w w' := by
  obtain ⟨y1, y2⟩ := uu_u n
  have e1 := u64_wrap n
  obtain ⟨g0, g1, g2, g3⟩ := uu_dg n
  have a4 := (wa16 (uu n) (uu_u _)).trans g0
  have a5 := (wa16 (uu n / 65536) (div_u (uu_u _) (by decide))).trans g1
  have a6 := (wa16 (uu n / 4294967296) (div_u (uu_u _) (by decide))).trans g2
  have a7 := (wa16 (uu n / 281474976710656) (div_u (uu_u _) (by decide))).trans g3
  have HD := Lib.hid hd
  clear hd g0 g1 g2 g3
  cases b
  all_goals
    go_enter Tryz.func152, Tryz.ntmps152
    go_wp2
    refine wp_loop_rounds 11 ?_
    iterate 10
      rw [rounds_succ]
      go_wp2_with fail
    rw [rounds_succ]
    go_wp2_with fail
    refine bodyPost_ret (v := longV n) ?_ rfl ⟨rfl, by (repeat' (first | exact Ext.refl _ | assumption | apply Ext.allocR | apply Ext.drewR | apply Ext.drewNR | (refine Ext.trans' ?_ (by assumption))))⟩
    unfold longV longA
    rw [HD.out 4 (by decide) (by decide), HD.out 5 (by decide) (by decide), HD.out 6 (by decide) (by decide), HD.out 7 (by decide) (by decide), HD.out 8 (by decide) (by decide), HD.out 9 (by decide) (by decide)]
    simp [results, Tryz.results152, go_sem]
theorem OfInt_c (n : Int) (h : I64 n) (w : World) :
    Calls Tryz.prog 152 #[.int .i64 n] w fun e w' => e = .returned (longV n) ∧ Ext w w' := OfInt_core n _ rfl (hi_dg n h) w
end Go.Proofs.YtfhdjekpdifajaaGreat
namespace Go.Proofs.YtfhdjekpdifajaaGreat
set_option linter.unusedVariables false
open Go.RowKit
theorem fill10 (s : Nat → Int) : fillA s 10 10 = #[.int .i64 (s 0), .int .i64 (s 1), .int .i64 (s 2), .int .i64 (s 3), .int .i64 (s 4), .int .i64 (s 5), .int .i64 (s 6), .int .i64 (s 7), .int .i64 (s 8), .int .i64 (s 9)] := by
  apply Array.ext
  · simp [fillA]
  · intro i h1 h2
    have hi : i < 10 := by simpa [fillA] using h1
    have hc : i = 0 ∨ i = 1 ∨ i = 2 ∨ i = 3 ∨ i = 4 ∨ i = 5 ∨ i = 6 ∨ i = 7 ∨ i = 8 ∨ i = 9 := by omega
    rcases hc with rfl | rfl | rfl | rfl | rfl | rfl | rfl | rfl | rfl | rfl <;> simp [fillA]
set_option maxRecDepth 20000 in
set_option maxHeartbeats 8000000 in
theorem Plus_core (a b s c : Nat → Int) (ha : ∀ i, i < 10 → 0 ≤ a i ∧ a i ≤ 65535) (hb : ∀ i, i < 10 → 0 ≤ b i ∧ b i ≤ 65535) (hc : ∀ i, i < 10 → 0 ≤ c i ∧ c i ≤ 1) (h0 : c 0 = 0)
    (hs : ∀ i, i < 10 → (a i + b i + c i) % 65536 = s i) (hn : ∀ i, i < 10 → (a i + b i + c i) / 65536 = c (i + 1)) (w : World) :
    Calls Tryz.prog 151 #[longA a, longA b] w fun e w' => e = .returned (longA s) ∧ Ext w w' := by
  obtain ⟨a0l, a0h⟩ := ha 0 (by decide)
  obtain ⟨b0l, b0h⟩ := hb 0 (by decide)
  obtain ⟨c0l, c0h⟩ := hc 0 (by decide)
  have s0 := hs 0 (by decide)
  have n0 := hn 0 (by decide)
  obtain ⟨a1l, a1h⟩ := ha 1 (by decide)
  obtain ⟨b1l, b1h⟩ := hb 1 (by decide)
  obtain ⟨c1l, c1h⟩ := hc 1 (by decide)
  have s1 := hs 1 (by decide)
  have n1 := hn 1 (by decide)
  obtain ⟨a2l, a2h⟩ := ha 2 (by decide)
  obtain ⟨b2l, b2h⟩ := hb 2 (by decide)
  obtain ⟨c2l, c2h⟩ := hc 2 (by decide)
  have s2 := hs 2 (by decide)
  have n2 := hn 2 (by decide)
  obtain ⟨a3l, a3h⟩ := ha 3 (by decide)
  obtain ⟨b3l, b3h⟩ := hb 3 (by decide)
  obtain ⟨c3l, c3h⟩ := hc 3 (by decide)
  have s3 := hs 3 (by decide)
  have n3 := hn 3 (by decide)
  obtain ⟨a4l, a4h⟩ := ha 4 (by decide)
  obtain ⟨b4l, b4h⟩ := hb 4 (by decide)
  obtain ⟨c4l, c4h⟩ := hc 4 (by decide)
  have s4 := hs 4 (by decide)
  have n4 := hn 4 (by decide)
  obtain ⟨a5l, a5h⟩ := ha 5 (by decide)
  obtain ⟨b5l, b5h⟩ := hb 5 (by decide)
  obtain ⟨c5l, c5h⟩ := hc 5 (by decide)
  have s5 := hs 5 (by decide)
  have n5 := hn 5 (by decide)
  obtain ⟨a6l, a6h⟩ := ha 6 (by decide)
  obtain ⟨b6l, b6h⟩ := hb 6 (by decide)
  obtain ⟨c6l, c6h⟩ := hc 6 (by decide)
  have s6 := hs 6 (by decide)
  have n6 := hn 6 (by decide)
  obtain ⟨a7l, a7h⟩ := ha 7 (by decide)
  obtain ⟨b7l, b7h⟩ := hb 7 (by decide)
  obtain ⟨c7l, c7h⟩ := hc 7 (by decide)
  have s7 := hs 7 (by decide)
  have n7 := hn 7 (by decide)
  obtain ⟨a8l, a8h⟩ := ha 8 (by decide)
  obtain ⟨b8l, b8h⟩ := hb 8 (by decide)
  obtain ⟨c8l, c8h⟩ := hc 8 (by decide)
  have s8 := hs 8 (by decide)
  have n8 := hn 8 (by decide)
  obtain ⟨a9l, a9h⟩ := ha 9 (by decide)
  obtain ⟨b9l, b9h⟩ := hb 9 (by decide)
  obtain ⟨c9l, c9h⟩ := hc 9 (by decide)
  have s9 := hs 9 (by decide)
  have n9 := hn 9 (by decide)
  rw [h0, Int.add_zero] at s0 n0
  simp only [Nat.reduceAdd] at n0 n1 n2 n3 n4 n5 n6 n7 n8 n9
  unfold longA
  clear ha hb hc hs hn h0 c0l c0h
  generalize a 0 = A0 at *
  generalize b 0 = B0 at *
  generalize s 0 = S0 at *
  generalize a 1 = A1 at *
  generalize b 1 = B1 at *
  generalize s 1 = S1 at *
  generalize a 2 = A2 at *
  generalize b 2 = B2 at *
  generalize s 2 = S2 at *
  generalize a 3 = A3 at *
  generalize b 3 = B3 at *
  generalize s 3 = S3 at *
  generalize a 4 = A4 at *
  generalize b 4 = B4 at *
  generalize s 4 = S4 at *
  generalize a 5 = A5 at *
  generalize b 5 = B5 at *
  generalize s 5 = S5 at *
  generalize a 6 = A6 at *
  generalize b 6 = B6 at *
  generalize s 6 = S6 at *
  generalize a 7 = A7 at *
  generalize b 7 = B7 at *
  generalize s 7 = S7 at *
  generalize a 8 = A8 at *
  generalize b 8 = B8 at *
  generalize s 8 = S8 at *
  generalize a 9 = A9 at *
  generalize b 9 = B9 at *
  generalize s 9 = S9 at *
  generalize c 1 = C1 at *
  generalize c 2 = C2 at *
  generalize c 3 = C3 at *
  generalize c 4 = C4 at *
  generalize c 5 = C5 at *
  generalize c 6 = C6 at *
  generalize c 7 = C7 at *
  generalize c 8 = C8 at *
  generalize c 9 = C9 at *
  generalize c 10 = C10 at *
  go_enter Tryz.func151, Tryz.ntmps151
  go_wp2_with fail
  refine wp_loop_rounds 11 ?_
  iterate 10
    rw [rounds_succ]
    go_wp2_with fail
    go_region
    go_wp2_with fail
  rw [rounds_succ]
  go_wp2_with fail
  refine bodyPost_ret (v := .agg #[.int .i64 S0, .int .i64 S1, .int .i64 S2, .int .i64 S3, .int .i64 S4, .int .i64 S5, .int .i64 S6, .int .i64 S7, .int .i64 S8, .int .i64 S9]) ?_ rfl ⟨rfl, by (repeat' (first | exact Ext.refl _ | assumption | apply Ext.allocR | apply Ext.drewR | apply Ext.drewNR | (refine Ext.trans' ?_ (by assumption))))⟩
  simp [results, Tryz.results151, go_sem]
/-- The carry of a sum. -/
def cr (x y : Int) (i : Nat) : Int := (x % (65536 ^ i : Int) + y % (65536 ^ i : Int)) / (65536 ^ i : Int)
theorem pw_pos (i : Nat) : 0 < (65536 ^ i : Int) := Int.pow_pos (by decide)
theorem cr_bd (x y : Int) (i : Nat) : 0 ≤ cr x y i ∧ cr x y i ≤ 1 := by
  have hp := pw_pos i
  unfold cr
  generalize (65536 ^ i : Int) = M at *
  have h1 := Int.emod_nonneg x (show M ≠ 0 by omega)
  have h2 := Int.emod_lt_of_pos x hp
  have h3 := Int.emod_nonneg y (show M ≠ 0 by omega)
  have h4 := Int.emod_lt_of_pos y hp
  refine ⟨Int.ediv_nonneg (by omega) (by omega), ?_⟩
  have : (x % M + y % M) / M < 2 := Int.ediv_lt_of_lt_mul hp (by omega)
  omega
theorem mod_mul' (x M : Int) (hM : 0 < M) : x % (M * 65536) = x % M + M * (x / M % 65536) := by
  have h1 := Int.emod_add_mul_ediv x M
  have h2 := Int.emod_add_mul_ediv (x / M) 65536
  have h3 : x / M / 65536 = x / (M * 65536) := by rw [Int.ediv_ediv_of_nonneg (by omega)]
  have h4 := Int.emod_add_mul_ediv x (M * 65536)
  rw [← h3] at h4
  have h5 : M * 65536 * (x / M / 65536) = M * (65536 * (x / M / 65536)) := Int.mul_assoc _ _ _
  have h6 : M * (x / M) = M * (x / M % 65536) + M * (65536 * (x / M / 65536)) := by rw [← Int.mul_add, h2]
  omega
theorem plus_step (x y : Int) (i : Nat) : (dg x i + dg y i + cr x y i) % 65536 = dg (x + y) i ∧ (dg x i + dg y i + cr x y i) / 65536 = cr x y (i + 1) := by
  have hp := pw_pos i
  unfold dg cr
  rw [Int.pow_succ]
  generalize (65536 ^ i : Int) = M at *
  rw [mod_mul' x M hp, mod_mul' y M hp]
  have ex := Int.emod_add_mul_ediv x M
  have ey := Int.emod_add_mul_ediv y M
  have hd : x + y = (x % M + y % M) + M * (x / M + y / M) := by rw [Int.mul_add]; omega
  constructor
  · rw [hd, Int.add_mul_ediv_left _ _ (show M ≠ 0 by omega)]
    generalize (x % M + y % M) / M = c
    omega
  · have e1 : x % M + M * (x / M % 65536) + (y % M + M * (y / M % 65536)) = (x % M + y % M) + M * (x / M % 65536 + y / M % 65536) := by rw [Int.mul_add]; omega
    rw [e1, ← Int.ediv_ediv_of_nonneg (by omega), Int.add_mul_ediv_left _ _ (show M ≠ 0 by omega)]
    congr 1
    omega
theorem cr0 (x y : Int) : cr x y 0 = 0 := by
  unfold cr
  rw [show ((65536 : Int) ^ 0) = 1 from rfl]
  omega
theorem LPlus_c (x y : Int) (w : World) : Calls Tryz.prog 151 #[longV x, longV y] w fun e w' => e = .returned (longV (x + y)) ∧ Ext w w' :=
  Plus_core (dg x) (dg y) (dg (x + y)) (cr x y) (fun i _ => dg_bd x i) (fun i _ => dg_bd y i) (fun i _ => cr_bd x y i) (cr0 x y) (fun i _ => (plus_step x y i).1) (fun i _ => (plus_step x y i).2) w
end Go.Proofs.YtfhdjekpdifajaaGreat
namespace Go.Proofs.YtfhdjekpdifajaaGreat
set_option linter.unusedVariables false
open Go.RowKit
theorem fillA_congr {f g : Nat → Int} (h : ∀ j, j < 10 → f j = g j) : fillA f 10 10 = fillA g 10 10 := by
  apply Array.ext
  · simp [fillA]
  · intro i h1 h2
    have hi : i < 10 := by simpa [fillA] using h1
    simp [fillA, h i hi]
theorem fillA_put (f : Nat → Int) (m : Nat) (v : Int) (hm : m < 10) : (fillA f 10 10).setIfInBounds m (.int .i64 v) = fillA (fun j => if j = m then v else f j) 10 10 := by
  apply Array.ext
  · simp [fillA]
  · intro i h1 h2
    have hi : i < 10 := by simpa [fillA] using h1
    by_cases he : m = i
    · subst he; simp [fillA]
    · have he' : ¬ i = m := fun h => he h.symm
      simp [fillA, hi, he, he']
/-- A box of ten digits. -/
def LongAt (w : World) (b : Nat) (a : Nat → Int) : Prop := w.heap[b]? = some (.cells (fillA a 10 10) 237 (0, 0))
theorem LongAt.cell {w : World} {b : Nat} {a : Nat → Int} (h : LongAt w b a) {k : Nat} (hk : k < 10) : w.cell? ⟨b, k, none⟩ = some (.int .i64 (a k)) := by
  rw [cell_of h, fillA_at a 10 10 k hk, if_pos hk]
theorem LongAt.keep {w w' : World} {b : Nat} {a : Nat → Int} (h : LongAt w b a) (he : w'.heap[b]? = w.heap[b]?) : LongAt w' b a := he.trans h
theorem LongAt.congr {w : World} {b : Nat} {f g : Nat → Int} (h : LongAt w b f) (he : ∀ j, j < 10 → f j = g j) : LongAt w b g := by
  unfold LongAt at *; rw [← fillA_congr he]; exact h
theorem LongAt.put {w : World} {b : Nat} {f : Nat → Int} (h : LongAt w b f) {m : Nat} (hm : m < 10) (v : Int) : LongAt (w.setCell ⟨b, m, none⟩ (.int .i64 v)) b (fun j => if j = m then v else f j) := by
  unfold LongAt at *
  rw [setCell_same h m, fillA_put f m v hm]
theorem fin10 {Φ : World → Prop} {w W : World} {b : Nat} {x0 x1 x2 x3 x4 x5 x6 x7 x8 x9 : Value} {t : TypeId} (h : W.heap[b]? = some (.cells #[x0, x1, x2, x3, x4, x5, x6, x7, x8, x9] t (0, 0))) (hE : Ext w W) (hb : w.heap.size ≤ b) {u0 u1 u2 u3 u4 u5 u6 u7 u8 u9 : Value}
    (hΦ : ∀ W' : World, W'.heap[b]? = some (.cells #[u0, u1, u2, u3, u4, u5, u6, u7, u8, u9] t (0, 0)) → Ext w W' → Φ W') : Φ ((((((((((W.setCell ⟨b, 0, none⟩ u0).setCell ⟨b, 1, none⟩ u1).setCell ⟨b, 2, none⟩ u2).setCell ⟨b, 3, none⟩ u3).setCell ⟨b, 4, none⟩ u4).setCell ⟨b, 5, none⟩ u5).setCell ⟨b, 6, none⟩ u6).setCell ⟨b, 7, none⟩ u7).setCell ⟨b, 8, none⟩ u8).setCell ⟨b, 9, none⟩ u9) := by
  have h0 : (W.setCell ⟨b, 0, none⟩ u0).heap[b]? = some (.cells #[u0, x1, x2, x3, x4, x5, x6, x7, x8, x9] t (0, 0)) := setCell_same h 0 u0
  have h1 : ((W.setCell ⟨b, 0, none⟩ u0).setCell ⟨b, 1, none⟩ u1).heap[b]? = some (.cells #[u0, u1, x2, x3, x4, x5, x6, x7, x8, x9] t (0, 0)) := setCell_same h0 1 u1
  have h2 : (((W.setCell ⟨b, 0, none⟩ u0).setCell ⟨b, 1, none⟩ u1).setCell ⟨b, 2, none⟩ u2).heap[b]? = some (.cells #[u0, u1, u2, x3, x4, x5, x6, x7, x8, x9] t (0, 0)) := setCell_same h1 2 u2
  have h3 : ((((W.setCell ⟨b, 0, none⟩ u0).setCell ⟨b, 1, none⟩ u1).setCell ⟨b, 2, none⟩ u2).setCell ⟨b, 3, none⟩ u3).heap[b]? = some (.cells #[u0, u1, u2, u3, x4, x5, x6, x7, x8, x9] t (0, 0)) := setCell_same h2 3 u3
  have h4 : (((((W.setCell ⟨b, 0, none⟩ u0).setCell ⟨b, 1, none⟩ u1).setCell ⟨b, 2, none⟩ u2).setCell ⟨b, 3, none⟩ u3).setCell ⟨b, 4, none⟩ u4).heap[b]? = some (.cells #[u0, u1, u2, u3, u4, x5, x6, x7, x8, x9] t (0, 0)) := setCell_same h3 4 u4
  have h5 : ((((((W.setCell ⟨b, 0, none⟩ u0).setCell ⟨b, 1, none⟩ u1).setCell ⟨b, 2, none⟩ u2).setCell ⟨b, 3, none⟩ u3).setCell ⟨b, 4, none⟩ u4).setCell ⟨b, 5, none⟩ u5).heap[b]? = some (.cells #[u0, u1, u2, u3, u4, u5, x6, x7, x8, x9] t (0, 0)) := setCell_same h4 5 u5
  have h6 : (((((((W.setCell ⟨b, 0, none⟩ u0).setCell ⟨b, 1, none⟩ u1).setCell ⟨b, 2, none⟩ u2).setCell ⟨b, 3, none⟩ u3).setCell ⟨b, 4, none⟩ u4).setCell ⟨b, 5, none⟩ u5).setCell ⟨b, 6, none⟩ u6).heap[b]? = some (.cells #[u0, u1, u2, u3, u4, u5, u6, x7, x8, x9] t (0, 0)) := setCell_same h5 6 u6
  have h7 : ((((((((W.setCell ⟨b, 0, none⟩ u0).setCell ⟨b, 1, none⟩ u1).setCell ⟨b, 2, none⟩ u2).setCell ⟨b, 3, none⟩ u3).setCell ⟨b, 4, none⟩ u4).setCell ⟨b, 5, none⟩ u5).setCell ⟨b, 6, none⟩ u6).setCell ⟨b, 7, none⟩ u7).heap[b]? = some (.cells #[u0, u1, u2, u3, u4, u5, u6, u7, x8, x9] t (0, 0)) := setCell_same h6 7 u7
  have h8 : (((((((((W.setCell ⟨b, 0, none⟩ u0).setCell ⟨b, 1, none⟩ u1).setCell ⟨b, 2, none⟩ u2).setCell ⟨b, 3, none⟩ u3).setCell ⟨b, 4, none⟩ u4).setCell ⟨b, 5, none⟩ u5).setCell ⟨b, 6, none⟩ u6).setCell ⟨b, 7, none⟩ u7).setCell ⟨b, 8, none⟩ u8).heap[b]? = some (.cells #[u0, u1, u2, u3, u4, u5, u6, u7, u8, x9] t (0, 0)) := setCell_same h7 8 u8
  have h9 : ((((((((((W.setCell ⟨b, 0, none⟩ u0).setCell ⟨b, 1, none⟩ u1).setCell ⟨b, 2, none⟩ u2).setCell ⟨b, 3, none⟩ u3).setCell ⟨b, 4, none⟩ u4).setCell ⟨b, 5, none⟩ u5).setCell ⟨b, 6, none⟩ u6).setCell ⟨b, 7, none⟩ u7).setCell ⟨b, 8, none⟩ u8).setCell ⟨b, 9, none⟩ u9).heap[b]? = some (.cells #[u0, u1, u2, u3, u4, u5, u6, u7, u8, u9] t (0, 0)) := setCell_same h8 9 u9
  exact hΦ _ h9 ((((((((((hE.setR (p := ⟨b, 0, none⟩) hb _).setR (p := ⟨b, 1, none⟩) hb _).setR (p := ⟨b, 2, none⟩) hb _).setR (p := ⟨b, 3, none⟩) hb _).setR (p := ⟨b, 4, none⟩) hb _).setR (p := ⟨b, 5, none⟩) hb _).setR (p := ⟨b, 6, none⟩) hb _).setR (p := ⟨b, 7, none⟩) hb _).setR (p := ⟨b, 8, none⟩) hb _).setR (p := ⟨b, 9, none⟩) hb _)
def mC (x y : Int) (i k : Nat) : Int := ((x % (65536 ^ i : Int) * y) % (65536 ^ (i + k) : Int) + dg x i * (65536 ^ i : Int) * (y % (65536 ^ k : Int))) / (65536 ^ (i + k) : Int)
theorem dg_add (P z : Int) {i j : Nat} (h : j < i) : dg (P + (65536 ^ i : Int) * z) j = dg P j := by
  obtain ⟨m, rfl⟩ : ∃ m, i = j + 1 + m := ⟨i - (j + 1), by omega⟩
  unfold dg
  rw [Int.pow_add, Int.pow_succ]
  have hB := pw_pos j
  generalize (65536 ^ m : Int) = Q
  generalize (65536 ^ j : Int) = B at *
  have e : B * 65536 * Q * z = B * (65536 * (Q * z)) := by rw [Int.mul_assoc, Int.mul_assoc]
  rw [e, Int.add_mul_ediv_left _ _ (show B ≠ 0 by omega)]
  omega
end Go.Proofs.YtfhdjekpdifajaaGreat
namespace Go.Proofs.YtfhdjekpdifajaaGreat
set_option linter.unusedVariables false
open Go.RowKit
set_option maxRecDepth 20000 in
set_option maxHeartbeats 4000000 in
@[go_sem] theorem eqLong (a0 a1 a2 a3 a4 a5 a6 a7 a8 a9 b0 b1 b2 b3 b4 b5 b6 b7 b8 b9 : Int) (w : World) : (Op.equalIn 10000 237 (.agg #[.int .i64 a0, .int .i64 a1, .int .i64 a2, .int .i64 a3, .int .i64 a4, .int .i64 a5, .int .i64 a6, .int .i64 a7, .int .i64 a8, .int .i64 a9]) (.agg #[.int .i64 b0, .int .i64 b1, .int .i64 b2, .int .i64 b3, .int .i64 b4, .int .i64 b5, .int .i64 b6, .int .i64 b7, .int .i64 b8, .int .i64 b9])).run Tryz.prog w = .ok (a0 == b0 && (a1 == b1 && (a2 == b2 && (a3 == b3 && (a4 == b4 && (a5 == b5 && (a6 == b6 && (a7 == b7 && (a8 == b8 && a9 == b9))))))))) w := by
  have u3 := Tryz.underlying3
  have a3' := Tryz.isAgg3
  have z3 := Tryz.sizeOf3
  rw [show (10000 : Nat) = 9999 + 1 from rfl, Op.equalIn]
  simp only [Sem.run_bind, run_underlying Tryz.underlying237, Result.andThen_ok]
  simp only [Std.Legacy.Range.forIn_eq_forIn_range', Std.Legacy.Range.size, Nat.sub_zero, Nat.add_sub_cancel, Nat.div_one, List.range'_succ, List.range'_zero, List.forIn_cons, List.forIn_nil]
  go_simp
  by_cases h0 : a0 = b0
  · by_cases h1 : a1 = b1
    · by_cases h2 : a2 = b2
      · by_cases h3 : a3 = b3
        · by_cases h4 : a4 = b4
          · by_cases h5 : a5 = b5
            · by_cases h6 : a6 = b6
              · by_cases h7 : a7 = b7
                · by_cases h8 : a8 = b8
                  · by_cases h9 : a9 = b9 <;> simp [h0, h1, h2, h3, h4, h5, h6, h7, h8, h9]
                  · simp [h0, h1, h2, h3, h4, h5, h6, h7, h8]
                · simp [h0, h1, h2, h3, h4, h5, h6, h7]
              · simp [h0, h1, h2, h3, h4, h5, h6]
            · simp [h0, h1, h2, h3, h4, h5]
          · simp [h0, h1, h2, h3, h4]
        · simp [h0, h1, h2, h3]
      · simp [h0, h1, h2]
    · simp [h0, h1]
  · simp [h0]
end Go.Proofs.YtfhdjekpdifajaaGreat
namespace Go.Proofs.YtfhdjekpdifajaaGreat
set_option linter.unusedVariables false
open Go.RowKit
theorem or_flip (x y : Int) : bits BinOp.or IntKind.u64 x y = bits BinOp.or IntKind.u64 y x := by
  show IntKind.u64.wrap ((BitVec.ofInt 64 x ||| BitVec.ofInt 64 y).toNat : Int) = IntKind.u64.wrap ((BitVec.ofInt 64 y ||| BitVec.ofInt 64 x).toNat : Int)
  rw [BitVec.or_comm]
theorem or_at (y d : Int) (k : Nat) (hk : k ≤ 48) (hd : 0 ≤ d ∧ d ≤ 65535) (hy0 : 0 ≤ y) (hy : y < ((2 ^ k : Nat) : Int)) : bits BinOp.or IntKind.u64 y (d * ((2 ^ k : Nat) : Int)) = y + d * ((2 ^ k : Nat) : Int) := by
  have hp : ((2 ^ k : Nat) : Int) ≤ 281474976710656 := by
    have := Nat.pow_le_pow_right (show 0 < 2 by decide) hk
    have e : (2 : Nat) ^ 48 = 281474976710656 := by decide
    omega
  have hq : d * ((2 ^ k : Nat) : Int) ≤ 65535 * ((2 ^ k : Nat) : Int) := Int.mul_le_mul_of_nonneg_right hd.2 (by omega)
  have h0 : 0 ≤ d * ((2 ^ k : Nat) : Int) := Int.mul_nonneg hd.1 (by omega)
  rw [or_flip, or_add _ y k (by omega) h0 (by omega) (Int.dvd_mul_left _ _) hy0 hy, Int.add_comm]
theorem or0 (x : Int) : bits BinOp.or IntKind.u64 (x % 1) (dg x 0) = x % 65536 := by
  have := or_at (x % 1) (dg x 0) 0 (by decide) (dg_bd x 0) (by omega) (by show x % 1 < 1; omega)
  rw [show (((2 ^ 0 : Nat) : Nat) : Int) = 1 from rfl, Int.mul_one] at this
  rw [this, dg0]; omega
theorem or1 (x : Int) : bits BinOp.or IntKind.u64 (x % 65536) (dg x 1 * 65536) = x % 4294967296 := by
  have := or_at (x % 65536) (dg x 1) 16 (by decide) (dg_bd x 1) (by omega) (by show x % 65536 < 65536; omega)
  rw [show (((2 ^ 16 : Nat) : Nat) : Int) = 65536 from rfl] at this
  rw [this, dg1]; omega
theorem or2 (x : Int) : bits BinOp.or IntKind.u64 (x % 4294967296) (dg x 2 * 4294967296) = x % 281474976710656 := by
  have := or_at (x % 4294967296) (dg x 2) 32 (by decide) (dg_bd x 2) (by omega) (by show x % 4294967296 < 4294967296; omega)
  rw [show (((2 ^ 32 : Nat) : Nat) : Int) = 4294967296 from rfl] at this
  rw [this, dg2]; omega
theorem or3 (x : Int) : bits BinOp.or IntKind.u64 (x % 281474976710656) (dg x 3 * 281474976710656) = x % 18446744073709551616 := by
  have := or_at (x % 281474976710656) (dg x 3) 48 (by decide) (dg_bd x 3) (by omega) (by show x % 281474976710656 < 281474976710656; omega)
  rw [show (((2 ^ 48 : Nat) : Nat) : Int) = 281474976710656 from rfl] at this
  rw [this, dg3]; omega
def LL (x : Int) : Nat → Int
  | 0 => x % 1
  | 1 => x % 65536
  | 2 => x % 4294967296
  | 3 => x % 281474976710656
  | _ => x % 18446744073709551616
end Go.Proofs.YtfhdjekpdifajaaGreat
namespace Go.Proofs.YtfhdjekpdifajaaGreat
set_option linter.unusedVariables false
open Go.RowKit
theorem not_dg (x : Int) (i : Nat) : 65535 - dg x i = dg (-1 - x) i := by
  have hp := pw_pos i
  unfold dg
  generalize (65536 ^ i : Int) = M at *
  have e : (-1 - x) / M = -1 - x / M := by
    have h1 := Int.emod_add_mul_ediv x M
    have h2 := Int.emod_nonneg x (show M ≠ 0 by omega)
    have h3 := Int.emod_lt_of_pos x hp
    have h4 : -1 - x = (M - 1 - x % M) + M * (-1 - x / M) := by rw [Int.mul_sub]; omega
    rw [h4, Int.add_mul_ediv_left _ _ (show M ≠ 0 by omega), Int.ediv_eq_zero_of_lt (by omega) (by omega)]
    omega
  rw [e]
  omega
theorem fitB_I {x : Int} (h : fitB x = true) : I64 x := of_decide_eq_true (p := -9223372036854775808 ≤ x ∧ x ≤ 9223372036854775807) h
theorem one_dg : longV 1 = .agg #[.int .i64 1, .int .i64 0, .int .i64 0, .int .i64 0, .int .i64 0, .int .i64 0, .int .i64 0, .int .i64 0, .int .i64 0, .int .i64 0] := by
  unfold longV longA
  rw [show dg 1 0 = 1 from by decide, show dg 1 1 = 0 from by decide, show dg 1 2 = 0 from by decide, show dg 1 3 = 0 from by decide, show dg 1 4 = 0 from by decide, show dg 1 5 = 0 from by decide, show dg 1 6 = 0 from by decide, show dg 1 7 = 0 from by decide, show dg 1 8 = 0 from by decide, show dg 1 9 = 0 from by decide]
set_option maxRecDepth 20000 in
set_option maxHeartbeats 8000000 in
theorem Minus_core (d S T : Nat → Int) (hd : ∀ i, 0 ≤ d i ∧ d i ≤ 65535) (hS : ∀ i, 65535 - d i = S i)
    (hP : ∀ w' : World, Calls Tryz.prog 151 #[longA S, longV 1] w' fun e w'' => e = .returned (longA T) ∧ Ext w' w'') (w : World) :
    Calls Tryz.prog 153 #[longA d] w fun e w' => e = .returned (longA T) ∧ Ext w w' := by
  rw [one_dg] at hP
  unfold longA at hP ⊢
  have HD := Lib.hid hd
  have HS := Lib.hid hS
  have HP := Lib.hid hP
  clear hd hS hP
  go_enter Tryz.func153, Tryz.ntmps153
  go_wp2_with fail
  go_loopw [4] (fun u wr => ∃ i : Nat, i ≤ 10 ∧ u = .int .i64 i ∧ Ext w wr ∧ LongAt wr w.heap.size d ∧ LongAt wr (w.heap.size + 1) (fun _ => 0) ∧ LongAt wr (w.heap.size + 1 + 1) (fun j => if j < i then S j else 0)) (fun u _ => 10 - (intOf u).toNat)
  case atStart =>
    refine ⟨0, Nat.zero_le _, rfl, ((Ext.alloc' _ _).allocR _).allocR _, ?_, ?_, ?_⟩
    · unfold LongAt
      rw [fill10, heap_old _ _ (by simp only [size_alloc]; omega), heap_old _ _ (by simp only [size_alloc]; omega)]
      exact heap_at _ _ rfl
    · unfold LongAt
      rw [fill10, heap_old _ _ (by simp only [size_alloc]; omega)]
      exact heap_at _ _ (by simp only [size_alloc])
    · unfold LongAt
      rw [fill10]
      exact heap_at _ _ (by simp only [size_alloc])
  case round =>
    obtain ⟨i, hi, rfl, hE, hA, hR, hO⟩ := hrel
    by_cases hlt : i < 10
    · have x0 := hA.cell hlt
      have hb := HD.out i
      have hs := HS.out i
      have y0 := hO.cell hlt
      have f0 : wr.frozen? ⟨w.heap.size + 1 + 1, i, none⟩ = false := frozen_of hO i
      have l0 := lt_of hA
      have l2 := lt_of hO
      obtain ⟨hb1, hb2⟩ := hb
      generalize hdi : d i = di at *
      have HA := Lib.hid hA
      have HR := Lib.hid hR
      have HO := Lib.hid hO
      have HSI := Lib.hid hs
      clear hA hR hO hs hdi
      go_wp2
      go_roundw
      case rel =>
        refine ⟨i + 1, by omega, by go_num, hE.setR (p := ⟨w.heap.size + 1 + 1, i, none⟩) (by show _ ≤ w.heap.size + 1 + 1; omega) _, HA.out.keep (setCell_other _ _ (by omega)), HR.out.keep (setCell_other _ _ (by omega)), ?_⟩
        rw [HSI.out]
        refine (HO.out.put hlt (S i)).congr (fun j hj => ?_)
        by_cases e : j = i
        · subst e; rw [if_pos rfl, if_pos (by omega)]
        · rw [if_neg e]
          by_cases h : j < i
          · rw [if_pos h, if_pos (by omega)]
          · rw [if_neg h, if_neg (by omega)]
      case measure => simp [intOf]; omega
    · obtain rfl : i = 10 := by omega
      have hO' : LongAt wr (w.heap.size + 1 + 1) S := hO.congr (fun j hj => if_pos hj)
      have z0 := hO'.cell (k := 0) (by decide)
      have z1 := hO'.cell (k := 1) (by decide)
      have z2 := hO'.cell (k := 2) (by decide)
      have z3 := hO'.cell (k := 3) (by decide)
      have z4 := hO'.cell (k := 4) (by decide)
      have z5 := hO'.cell (k := 5) (by decide)
      have z6 := hO'.cell (k := 6) (by decide)
      have z7 := hO'.cell (k := 7) (by decide)
      have z8 := hO'.cell (k := 8) (by decide)
      have z9 := hO'.cell (k := 9) (by decide)
      have l2 := lt_of hO'
      have lR := lt_of hR
      have HR := Lib.hid hR
      clear hA hO hO' hR
      go_wp2_with fail
      refine Calls.mono (HP.out _) ?_
      rintro e w5 ⟨rfl, hx5⟩
      have hR5 : w5.heap[w.heap.size + 1]? = some (.cells (fillA (fun _ => 0) 10 10) 237 (0, 0)) := by
        refine hx5.keep ?_
        rw [heap_old _ _ lR]
        exact HR.out
      have hE5 : Ext w w5 := by
        exact (hE.allocR _).trans' hx5
      rw [fill10] at hR5
      have p0 := (cell_of hR5 0).trans rfl
      have f0 := frozen_of hR5 0
      have p1 := (cell_of hR5 1).trans rfl
      have f1 := frozen_of hR5 1
      have p2 := (cell_of hR5 2).trans rfl
      have f2 := frozen_of hR5 2
      have p3 := (cell_of hR5 3).trans rfl
      have f3 := frozen_of hR5 3
      have p4 := (cell_of hR5 4).trans rfl
      have f4 := frozen_of hR5 4
      have p5 := (cell_of hR5 5).trans rfl
      have f5 := frozen_of hR5 5
      have p6 := (cell_of hR5 6).trans rfl
      have f6 := frozen_of hR5 6
      have p7 := (cell_of hR5 7).trans rfl
      have f7 := frozen_of hR5 7
      have p8 := (cell_of hR5 8).trans rfl
      have f8 := frozen_of hR5 8
      have p9 := (cell_of hR5 9).trans rfl
      have f9 := frozen_of hR5 9
      have l5 := lt_of hR5
      have HR5 := Lib.hid hR5
      clear hR5 hx5 z0 z1 z2 z3 z4 z5 z6 z7 z8 z9
      go_wp2_with fail
      refine fin10 (Φ := fun W' => bodyPost _ _ _ _ _ W') HR5.out hE5 (Nat.le_succ _) (fun W' hW hEW => ?_)
      clear p0 f0 p1 f1 p2 f2 p3 f3 p4 f4 p5 f5 p6 f6 p7 f7 p8 f8 p9 f9
      have r0 := (cell_of hW 0).trans rfl
      have r1 := (cell_of hW 1).trans rfl
      have r2 := (cell_of hW 2).trans rfl
      have r3 := (cell_of hW 3).trans rfl
      have r4 := (cell_of hW 4).trans rfl
      have r5 := (cell_of hW 5).trans rfl
      have r6 := (cell_of hW 6).trans rfl
      have r7 := (cell_of hW 7).trans rfl
      have r8 := (cell_of hW 8).trans rfl
      have r9 := (cell_of hW 9).trans rfl
      refine bodyPost_ret (v := .agg #[.int .i64 (T 0), .int .i64 (T 1), .int .i64 (T 2), .int .i64 (T 3), .int .i64 (T 4), .int .i64 (T 5), .int .i64 (T 6), .int .i64 (T 7), .int .i64 (T 8), .int .i64 (T 9)]) ?_ rfl ⟨rfl, hEW⟩
      simp [results, Tryz.results153, go_sem, r0, r1, r2, r3, r4, r5, r6, r7, r8, r9]
theorem LMinus_c (x : Int) (w : World) : Calls Tryz.prog 153 #[longV x] w fun e w' => e = .returned (longV (-x)) ∧ Ext w w' :=
  Minus_core (dg x) (dg (-1 - x)) (dg (-x)) (dg_bd x) (not_dg x) (fun w' => by have := LPlus_c (-1 - x) 1 w'; rw [show -1 - x + 1 = -x by omega] at this; exact this) w
set_option maxRecDepth 20000 in
set_option maxHeartbeats 8000000 in
theorem Int_core (d D : Nat → Int) (hd : ∀ i, 0 ≤ d i ∧ d i ≤ 65535) (L : Nat → Int) (ok : Bool) (l0 : L 0 = 0)
    (hl0 : bits BinOp.or IntKind.u64 (L 0) (d 0) = L 1) (hl1 : bits BinOp.or IntKind.u64 (L 1) (d 1 * 65536) = L 2) (hl2 : bits BinOp.or IntKind.u64 (L 2) (d 2 * 4294967296) = L 3) (hl3 : bits BinOp.or IntKind.u64 (L 3) (d 3 * 281474976710656) = L 4)
    (z : Int) (hw : wrap64 (L 4) = z)
    (hOf : ∀ w' : World, Calls Tryz.prog 152 #[.int .i64 z] w' fun e w'' => e = .returned (longA D) ∧ Ext w' w'')
    (hcmp : ((∀ j, j < 10 → D j = d j) ∧ ok = true) ∨ ((∀ j, j < 4 → D j = d j) ∧ ok = false ∧ ((D 4 == d 4 && (D 5 == d 5 && (D 6 == d 6 && (D 7 == d 7 && (D 8 == d 8 && D 9 == d 9))))) = false))) (w : World) :
    Calls Tryz.prog 150 #[longA d] w fun e w' => e = .returned (bif ok then .tuple #[.int .i64 z, .bool true] else .tuple #[.int .i64 0, .bool false]) ∧ Ext w w' := by
  have HD := Lib.hid hd
  have HL0 := Lib.hid hl0
  have HL1 := Lib.hid hl1
  have HL2 := Lib.hid hl2
  have HL3 := Lib.hid hl3
  have HW := Lib.hid hw
  have L0 := Lib.hid l0
  have HCMP := Lib.hid hcmp
  unfold longA at hOf ⊢
  have HOF := Lib.hid hOf
  clear hd hl0 hl1 hl2 hl3 hw l0 hOf hcmp
  go_enter Tryz.func150, Tryz.ntmps150
  go_wp2_with fail
  go_loopw [4, 5] (fun u4 u5 wr => ∃ i : Nat, i ≤ 4 ∧ u4 = .int .u64 (L i) ∧ u5 = .int .i64 i ∧ Ext w wr ∧ LongAt wr w.heap.size d) (fun _ u5 _ => 4 - (intOf u5).toNat)
  case atStart =>
    refine ⟨0, Nat.zero_le _, by rw [L0.out], rfl, Ext.alloc' _ _, ?_⟩
    unfold LongAt
    rw [fill10]
    exact heap_at _ _ rfl
  case round =>
    obtain ⟨i, hi, rfl, rfl, hE, hA⟩ := hrel
    have l0 := lt_of hA
    have hc : i = 0 ∨ i = 1 ∨ i = 2 ∨ i = 3 ∨ i = 4 := by omega
    rcases hc with rfl | rfl | rfl | rfl | rfl
    · have x0 := hA.cell (k := 0) (by decide)
      obtain ⟨d1l, d1h⟩ := HD.out 0
      have hl := HL0.out
      generalize d 0 = d1 at *
      generalize L 0 = L1 at *
      have HLf := Lib.hid hl
      have HA := Lib.hid hA
      clear hl hA
      go_wp2_with fail
      go_roundw
      case rel => exact ⟨1, by decide, congrArg _ HLf.out, by go_num, hE, HA.out⟩
      case measure => simp [intOf]
    · have x0 := hA.cell (k := 1) (by decide)
      obtain ⟨d1l, d1h⟩ := HD.out 1
      have hl := HL1.out
      generalize d 1 = d1 at *
      generalize L 1 = L1 at *
      have HLf := Lib.hid hl
      have HA := Lib.hid hA
      clear hl hA
      go_wp2_with fail
      go_roundw
      case rel => exact ⟨2, by decide, congrArg _ HLf.out, by go_num, hE, HA.out⟩
      case measure => simp [intOf]
    · have x0 := hA.cell (k := 2) (by decide)
      obtain ⟨d1l, d1h⟩ := HD.out 2
      have hl := HL2.out
      generalize d 2 = d1 at *
      generalize L 2 = L1 at *
      have HLf := Lib.hid hl
      have HA := Lib.hid hA
      clear hl hA
      go_wp2_with fail
      go_roundw
      case rel => exact ⟨3, by decide, congrArg _ HLf.out, by go_num, hE, HA.out⟩
      case measure => simp [intOf]
    · have x0 := hA.cell (k := 3) (by decide)
      obtain ⟨d1l, d1h⟩ := HD.out 3
      have hl := HL3.out
      generalize d 3 = d1 at *
      generalize L 3 = L1 at *
      have HLf := Lib.hid hl
      have HA := Lib.hid hA
      clear hl hA
      go_wp2_with fail
      go_roundw
      case rel => exact ⟨4, by decide, congrArg _ HLf.out, by go_num, hE, HA.out⟩
      case measure => simp [intOf]
    · have z0 := hA.cell (k := 0) (by decide)
      have z1 := hA.cell (k := 1) (by decide)
      have z2 := hA.cell (k := 2) (by decide)
      have z3 := hA.cell (k := 3) (by decide)
      have z4 := hA.cell (k := 4) (by decide)
      have z5 := hA.cell (k := 5) (by decide)
      have z6 := hA.cell (k := 6) (by decide)
      have z7 := hA.cell (k := 7) (by decide)
      have z8 := hA.cell (k := 8) (by decide)
      have z9 := hA.cell (k := 9) (by decide)
      have hwf := HW.out
      have HA := Lib.hid hA
      rcases HCMP.out with ⟨hall, rfl⟩ | ⟨hall, rfl, hne⟩
      · have g0 := hall 0 (by decide)
        have g1 := hall 1 (by decide)
        have g2 := hall 2 (by decide)
        have g3 := hall 3 (by decide)
        have g4 := hall 4 (by decide)
        have g5 := hall 5 (by decide)
        have g6 := hall 6 (by decide)
        have g7 := hall 7 (by decide)
        have g8 := hall 8 (by decide)
        have g9 := hall 9 (by decide)
        clear hall hA
        go_wp2_with fail
        refine wp_region_after (by kernel_rfl) (by kernel_rfl) ?_
        repeat (go_big_quiet_step ((go_at_call 152; exact quiet_after (HOF.out _))))
        refine wpQuiet_nil ?_
        rintro _ ⟨xx, rfl⟩
        obtain ⟨wq, hq⟩ := xx
        try dsimp only
        go_wp2_with fail
        refine bodyPost_ret (v := .tuple #[.int .i64 z, .bool true]) (by simp [results, Tryz.results150, go_sem, *]) rfl ⟨rfl, hE.trans' hq⟩
      · have g0 := hall 0 (by decide)
        have g1 := hall 1 (by decide)
        have g2 := hall 2 (by decide)
        have g3 := hall 3 (by decide)
        clear hall hA
        go_wp2_with fail
        refine wp_region_after (by kernel_rfl) (by kernel_rfl) ?_
        repeat (go_big_quiet_step ((go_at_call 152; exact quiet_after (HOF.out _))))
        refine wpQuiet_nil ?_
        rintro _ ⟨xx, rfl⟩
        obtain ⟨wq, hq⟩ := xx
        try dsimp only
        go_wp2_with fail
        refine bodyPost_ret (v := .tuple #[.int .i64 0, .bool false]) (by simp [results, Tryz.results150, go_sem, *]) rfl ⟨rfl, hE.trans' hq⟩
theorem int_top (x : Int) (h1 : -730750818665451459101842416358141509827966271488 ≤ x) (h2 : x < 730750818665451459101842416358141509827966271488) (z : Int) (hz : z = wrap64 (x % 18446744073709551616))
    (h : ∀ i, 4 ≤ i → i < 10 → dg z i = dg x i) : I64 x := by
  have hz' : I64 z := by rw [hz]; unfold wrap64 I64; omega
  have hh := hi_dg z hz'
  have e4 := (h 4 (by decide) (by decide)).symm.trans (hh 4 (by decide) (by decide))
  have e5 := (h 5 (by decide) (by decide)).symm.trans (hh 5 (by decide) (by decide))
  have e6 := (h 6 (by decide) (by decide)).symm.trans (hh 6 (by decide) (by decide))
  have e7 := (h 7 (by decide) (by decide)).symm.trans (hh 7 (by decide) (by decide))
  have e8 := (h 8 (by decide) (by decide)).symm.trans (hh 8 (by decide) (by decide))
  have e9 := (h 9 (by decide) (by decide)).symm.trans (hh 9 (by decide) (by decide))
  rw [dg4] at e4
  rw [dg5] at e5
  rw [dg6] at e6
  rw [dg7] at e7
  rw [dg8] at e8
  rw [dg9] at e9
  have q5 : x / 1208925819614629174706176 = x / 18446744073709551616 / 65536 := by rw [Int.ediv_ediv_of_nonneg (by omega)]; rfl
  have q6 : x / 79228162514264337593543950336 = x / 18446744073709551616 / 65536 / 65536 := by rw [Int.ediv_ediv_of_nonneg (by omega), Int.ediv_ediv_of_nonneg (by omega)]; rfl
  have q7 : x / 5192296858534827628530496329220096 = x / 18446744073709551616 / 65536 / 65536 / 65536 := by rw [Int.ediv_ediv_of_nonneg (by omega), Int.ediv_ediv_of_nonneg (by omega), Int.ediv_ediv_of_nonneg (by omega)]; rfl
  have q8 : x / 340282366920938463463374607431768211456 = x / 18446744073709551616 / 65536 / 65536 / 65536 / 65536 := by rw [Int.ediv_ediv_of_nonneg (by omega), Int.ediv_ediv_of_nonneg (by omega), Int.ediv_ediv_of_nonneg (by omega), Int.ediv_ediv_of_nonneg (by omega)]; rfl
  have q9 : x / 22300745198530623141535718272648361505980416 = x / 18446744073709551616 / 65536 / 65536 / 65536 / 65536 / 65536 := by rw [Int.ediv_ediv_of_nonneg (by omega), Int.ediv_ediv_of_nonneg (by omega), Int.ediv_ediv_of_nonneg (by omega), Int.ediv_ediv_of_nonneg (by omega), Int.ediv_ediv_of_nonneg (by omega)]; rfl
  rw [q5] at e5
  rw [q6] at e6
  rw [q7] at e7
  rw [q8] at e8
  rw [q9] at e9
  have ht : -39614081257132168796771975168 ≤ x / 18446744073709551616 ∧ x / 18446744073709551616 < 39614081257132168796771975168 := by omega
  have hx := Int.emod_add_mul_ediv x 18446744073709551616
  have hm1 := Int.emod_nonneg x (show (18446744073709551616 : Int) ≠ 0 by decide)
  have hm2 := Int.emod_lt_of_pos x (show (0 : Int) < 18446744073709551616 by decide)
  generalize x / 18446744073709551616 = t at *
  generalize x % 18446744073709551616 = m at *
  by_cases hn : z < 0
  · simp only [hn, decide_true, cond_true] at e4 e5 e6 e7 e8 e9
    have : t = -1 := by omega
    unfold wrap64 at hz
    unfold I64
    omega
  · simp only [hn, decide_false, cond_false] at e4 e5 e6 e7 e8 e9
    have : t = 0 := by omega
    unfold wrap64 at hz
    unfold I64
    omega
theorem wrap_lo (x : Int) {j : Nat} (h : j < 4) : dg (wrap64 (x % 18446744073709551616)) j = dg x j := by
  have e : wrap64 (x % 18446744073709551616) + (65536 ^ 4 : Int) * ((x + 9223372036854775808) / 18446744073709551616) = x := by
    rw [show (65536 ^ 4 : Int) = 18446744073709551616 from rfl]; unfold wrap64; omega
  have := dg_add (wrap64 (x % 18446744073709551616)) ((x + 9223372036854775808) / 18446744073709551616) h
  rw [e] at this
  exact this.symm
/-- A long number as one of sixty-four bits, if it fits. -/
theorem LInt_c (x : Int) (h1 : -730750818665451459101842416358141509827966271488 ≤ x) (h2 : x < 730750818665451459101842416358141509827966271488) (w : World) :
    Calls Tryz.prog 150 #[longV x] w fun e w' => e = .returned (.tuple #[.int .i64 (fitN x), .bool (fitB x)]) ∧ Ext w w' := by
  have hz : I64 (wrap64 (x % 18446744073709551616)) := by unfold wrap64 I64; omega
  have heq : I64 x → wrap64 (x % 18446744073709551616) = x := fun h => by unfold I64 at h; unfold wrap64; omega
  have hb : ∀ ok : Bool, fitB x = ok → ((∀ j, j < 10 → dg (wrap64 (x % 18446744073709551616)) j = dg x j) ∧ ok = true) ∨ ((∀ j, j < 4 → dg (wrap64 (x % 18446744073709551616)) j = dg x j) ∧ ok = false ∧
      ((dg (wrap64 (x % 18446744073709551616)) 4 == dg x 4 && (dg (wrap64 (x % 18446744073709551616)) 5 == dg x 5 && (dg (wrap64 (x % 18446744073709551616)) 6 == dg x 6 && (dg (wrap64 (x % 18446744073709551616)) 7 == dg x 7 && (dg (wrap64 (x % 18446744073709551616)) 8 == dg x 8 && dg (wrap64 (x % 18446744073709551616)) 9 == dg x 9))))) = false)) := by
    intro ok hok
    cases ok with
    | true => left; exact ⟨fun j _ => by rw [heq (fitB_I hok)], rfl⟩
    | false =>
      right
      refine ⟨fun j hj => wrap_lo x hj, rfl, ?_⟩
      cases hall : (dg (wrap64 (x % 18446744073709551616)) 4 == dg x 4 && (dg (wrap64 (x % 18446744073709551616)) 5 == dg x 5 && (dg (wrap64 (x % 18446744073709551616)) 6 == dg x 6 && (dg (wrap64 (x % 18446744073709551616)) 7 == dg x 7 && (dg (wrap64 (x % 18446744073709551616)) 8 == dg x 8 && dg (wrap64 (x % 18446744073709551616)) 9 == dg x 9))))) with
      | false => rfl
      | true =>
        exfalso
        simp only [Bool.and_eq_true, beq_iff_eq] at hall
        obtain ⟨a4, a5, a6, a7, a8, a9⟩ := hall
        have hI := int_top x h1 h2 _ rfl (fun i h3 h4 => by
          have hc : i = 4 ∨ i = 5 ∨ i = 6 ∨ i = 7 ∨ i = 8 ∨ i = 9 := by omega
          rcases hc with rfl | rfl | rfl | rfl | rfl | rfl
          · exact a4
          · exact a5
          · exact a6
          · exact a7
          · exact a8
          · exact a9)
        rw [fitB_yes hI] at hok
        cases hok
  have := Int_core (dg x) (dg (wrap64 (x % 18446744073709551616))) (dg_bd x) (LL x) (fitB x) (Int.emod_one x) (or0 x) (or1 x) (or2 x) (or3 x) _ rfl (fun w' => OfInt_c _ hz w') (hb _ rfl) w
  refine this.mono ?_
  rintro e w' ⟨rfl, hE⟩
  refine ⟨?_, hE⟩
  unfold fitN
  cases hf : fitB x with
  | false => rfl
  | true =>
    show Ending.returned (.tuple #[.int .i64 (wrap64 (LL x 4)), .bool true]) = _
    have : wrap64 (LL x 4) = x := heq (fitB_I hf)
    rw [this]; rfl
set_option maxRecDepth 20000 in
set_option maxHeartbeats 2000000 in
theorem LAdd_c (x y : Int) (hx : I64 x) (hy : I64 y) (w : World) :
    Calls Tryz.prog 159 #[.int .i64 x, .int .i64 y] w fun e w' => e = .returned (.tuple #[.int .i64 (fitN (x + y)), .bool (fitB (x + y))]) ∧ Ext w w' := by
  have hb : -730750818665451459101842416358141509827966271488 ≤ x + y ∧ x + y < 730750818665451459101842416358141509827966271488 := by unfold I64 at hx hy; omega
  have HB := Lib.hid hb
  have HX := Lib.hid hx
  have HY := Lib.hid hy
  have hP : ∀ w' : World, Calls Tryz.prog 151 #[longV x, longV y] w' fun e w'' => e = .returned (longV (x + y)) ∧ Ext w' w'' := LPlus_c x y
  have hI : ∀ w' : World, Calls Tryz.prog 150 #[longV (x + y)] w' fun e w'' => e = .returned (.tuple #[.int .i64 (fitN (x + y)), .bool (fitB (x + y))]) ∧ Ext w' w'' := LInt_c _ hb.1 hb.2
  have HP := Lib.hid hP
  have HI := Lib.hid hI
  generalize fitN (x + y) = fn at *
  generalize fitB (x + y) = fb at *
  generalize x + y = s at *
  clear hb hx hy hP hI
  go_enter Tryz.func159, Tryz.ntmps159
  go_wp2_with fail
  refine Calls.mono (OfInt_c x HX.out _) ?_
  rintro e w1 ⟨rfl, h1⟩
  generalize longV x = vx at *
  go_wp2_with fail
  refine Calls.mono (OfInt_c y HY.out _) ?_
  rintro e w2 ⟨rfl, h2⟩
  generalize longV y = vy at *
  go_wp2_with fail
  refine Calls.mono (HP.out _) ?_
  rintro e w3 ⟨rfl, h3⟩
  generalize longV s = vs at *
  go_wp2_with fail
  refine Calls.mono (HI.out _) ?_
  rintro e w4 ⟨rfl, h4⟩
  go_wp2_with fail
  go_ret2
  exact ⟨rfl, ((h1.trans' h2).trans' h3).trans' h4⟩
end Go.Proofs.YtfhdjekpdifajaaGreat
namespace Go.Proofs.YtfhdjekpdifajaaGreat
set_option linter.unusedVariables false
open Go.RowKit
theorem Mod.drewR {S : Nat → Prop} {a b : World} (h : Mod S a b) : Mod S a b.drew := h.trans (Ext.mod S (Below.drew (Ext.refl b)))
def RChangePost (w : World) (G : Gr) (R W : Nat) (cs l : List Int) (d : Int) (e : Ending) (w' : World) : Prop :=
  (fitsAll W cs l d R ∧ e = .returned (.int .i64 0) ∧ RGAt w' G R W (putK W cs (fun k => l.getD (at_ W cs k) 0 + d) R l) ∧ Mod (G.foot R) w w') ∨
  (¬ fitsAll W cs l d R ∧ e = .returned (.int .i64 4) ∧ Ext w w')
theorem map_snoc (f : Nat → Int) (k : Nat) : (List.range (k + 1)).map f = (List.range k).map f ++ [f k] := by rw [List.range_succ, List.map_append]; rfl
set_option maxRecDepth 20000 in
set_option maxHeartbeats 8000000 in
theorem RChange_c (G : Gr) (R W : Nat) (l cs : List Int) (v : Value) (d : Int) (w : World) (h : RGAt w G R W l) (hI : ∀ x ∈ l, I64 x) (hd : I64 d) (hv : IntsAt w v cs) (hm : Meets R W cs)
    (hne : ∀ g off n cap, v = .slice (some ⟨g, off, none⟩) n cap → ¬ G.foot R g) :
    Calls Tryz.prog 161 #[.pointer (some ⟨G.g, 0, none⟩), v, .int .i64 d] w (RChangePost w G R W cs l d) := by
  have r1 := h.r1
  have r2 := h.r2
  have hml := hm.len
  obtain ⟨vg, vo, vc, rfl, hg, hc⟩ := hv.slice (by rw [hm.len]; omega)
  have hgc := hne _ _ _ _ rfl
  rw [hml] at hc hv ⊢
  have HL := Lib.hid hml
  have HC := Lib.hid hc
  have HV := Lib.hid hv
  have HH := Lib.hid h
  have HM := Lib.hid hm
  have HI := Lib.hid hI
  have HD := Lib.hid hd
  have HGC := Lib.hid hgc
  clear hc hv h hm hml hI hne hd hgc
  obtain ⟨f, hf⟩ : ∃ f : Nat → Int, f = fun k => l.getD (at_ W cs k) 0 + d := ⟨_, rfl⟩
  have hfk : ∀ k, l.getD (at_ W cs k) 0 + d = f k := fun k => by rw [hf]
  have HFK := Lib.hid hfk
  unfold RChangePost
  rw [← hf]
  clear hf hfk
  go_enter Tryz.func161, Tryz.ntmps161
  go_wp2_with fail
  refine Calls.mono (RMeet_c G R W l cs _ _ HH.out HV.out HM.out) ?_
  rintro e w1 ⟨rfl, hx1⟩
  go_wp2_with fail
  go_loopw [7, 8] (fun u7 u8 wr => ∃ k : Nat, k ≤ R ∧ u8 = .int .i64 k ∧ wr.ownsRow w.heap.size 2 1 u7 ((List.range k).map f).length (ints ((List.range k).map f)) ∧ Ext w wr ∧ ∀ j, j < k → I64 (f j)) (fun _ u8 _ => R - (intOf u8).toNat)
  case atStart => exact ⟨0, Nat.zero_le _, rfl, own_mono (own_empty w1 2) hx1.size, hx1.allocR _, fun j hj => absurd hj (Nat.not_lt_zero _)⟩
  case round =>
    obtain ⟨k, hk, rfl, hown, hE, hall⟩ := hrel
    have HALL := Lib.hid hall
    have hsE := hE.size
    clear hall
    by_cases hlt : k < R
    · have hr := HH.out.ext hE
      obtain ⟨cap2, cg, hcap2⟩ := hr.cg
      have lg := hr.ltg
      have cm := hr.cm hlt
      have lm := hr.ltm
      have dd := ((bcell hE).1 _ _ hg).trans (HC.out k hlt)
      have ld : vg < wr.heap.size := Nat.lt_of_lt_of_le hg hE.size
      have l1 := HM.out.lo k hlt
      have l2 := HM.out.hi k hlt
      have hat : at_ W cs k = k * W + (cs.getD k 0).toNat := rfl
      have hfk := HFK.out k
      rw [hat] at hfk
      have HSN := Lib.hid (map_snoc f k)
      clear hat
      generalize cs.getD k 0 = y at *
      obtain ⟨y, rfl⟩ := Int.eq_ofNat_of_zero_le l1
      have cr := hr.cr hlt (k := y) (by omega)
      have lr := hr.ltr hlt
      have hyI := getD_i64 HI.out (k * W + y)
      have hfk' : l.getD (k * W + y) 0 + d = f k := hfk
      generalize l.getD (k * W + y) 0 = x at *
      have hl8 : ((List.range k).map f).length ≤ 8 := by rw [List.length_map, List.length_range]; omega
      generalize (List.range k).map f = pre at *
      have hy2 : y < W := by omega
      have HF := Lib.hid hfk'
      have HYI := Lib.hid hyI
      have HOWN := Lib.hid hown
      clear hr l1 l2 hfk hfk' hyI hown
      go_wp2_with fail
      have hC0 := af_drew wr
      refine pi_start (fun w' => ∃ z : After wr, w' = z.w) [] (by kernel_rfl) ?_
      refine pi_t 0 rfl (by kernel_rfl) (by kernel_rfl) (fun _ _ _ _ h => h) (fun K hK => ?_)
      go_big_quiet_op
      refine hK _ ?_
      clear hK K
      refine pi_t 1 rfl (by kernel_rfl) (by kernel_rfl) (fun _ _ _ _ h => h) (fun K hK => ?_)
      go_big_quiet_op
      refine hK _ ?_
      clear hK K
      refine pi_t 2 rfl (by kernel_rfl) (by kernel_rfl) (fun _ _ _ _ h => h) (fun K hK => ?_)
      go_big_quiet_op
      refine hK _ ?_
      clear hK K
      refine pi_t 4 rfl (by kernel_rfl) (by kernel_rfl) (fun _ _ _ _ h => h) (fun K hK => ?_)
      go_big_quiet_op
      refine hK _ ?_
      clear hK K
      refine pi_t 7 rfl (by kernel_rfl) (by kernel_rfl) (fun _ _ _ _ h => h) (fun K hK => ?_)
      go_big_quiet_op
      refine hK _ ?_
      clear hK K
      refine pi_t 8 rfl (by kernel_rfl) (by kernel_rfl) (fun _ _ _ _ h => h) (fun K hK => ?_)
      go_big_quiet_op
      refine hK _ ?_
      clear hK K
      refine pi_t 9 rfl (by kernel_rfl) (by kernel_rfl) (fun _ _ _ _ h => h) (fun K hK => ?_)
      go_big_quiet_op
      refine hK _ ?_
      clear hK K
      refine pi_t 13 rfl (by kernel_rfl) (by kernel_rfl) (fun _ _ _ _ h => h) (fun K hK => ?_)
      go_big_quiet_op
      refine hK _ ?_
      clear hK K
      refine pi_c 3 (by assumption) rfl (by kernel_rfl) (by kernel_rfl) (fun _ _ _ _ h => h) (fun K hK => ?_)
      go_big_quiet_op
      refine hK _ ?_
      clear hK K
      refine pi_t 5 rfl (by kernel_rfl) (by kernel_rfl) (fun _ _ _ _ h => h) (fun K hK => ?_)
      go_big_quiet_op
      refine hK _ ?_
      clear hK K
      refine pi_c 6 (by assumption) rfl (by kernel_rfl) (by kernel_rfl) (fun _ _ _ _ h => h) (fun K hK => ?_)
      go_big_quiet_op
      refine hK _ ?_
      clear hK K
      refine pi_c 10 (by assumption) rfl (by kernel_rfl) (by kernel_rfl) (fun _ _ _ _ h => h) (fun K hK => ?_)
      go_big_quiet_op
      refine hK _ ?_
      clear hK K
      refine pi_t 11 rfl (by kernel_rfl) (by kernel_rfl) (fun _ _ _ _ h => h) (fun K hK => ?_)
      go_big_quiet_op
      refine hK _ ?_
      clear hK K
      refine pi_c 12 (by assumption) rfl (by kernel_rfl) (by kernel_rfl) (fun _ _ _ _ h => h) (fun K hK => ?_)
      go_big_quiet_op
      refine hK _ ?_
      clear hK K
      refine pi_l 14 rfl (by kernel_rfl) (fun K hK => ?_)
      go_wp2_with fail
      refine Calls.mono (LAdd_c x d HYI.out HD.out _) ?_
      rintro e w3 ⟨rfl, hx3⟩
      rw [HF.out]
      have hE3 : Ext wr w3 := Ext.trans' (Below.drew (Ext.refl wr)) hx3
      go_wp2
      refine hK _ _ (fun _ h => af_step h hx3) ?_
      clear hK K
      refine pi_t 15 rfl (by kernel_rfl) (by kernel_rfl) (fun _ _ _ _ h => h) (fun K hK => ?_)
      go_big_quiet_op
      refine hK _ ?_
      clear hK K
      refine pi_t 16 rfl (by kernel_rfl) (by kernel_rfl) (fun _ _ _ _ h => h) (fun K hK => ?_)
      go_big_quiet_op
      refine hK _ ?_
      clear hK K
      refine pi_t 17 rfl (by kernel_rfl) (by kernel_rfl) (fun _ _ _ _ h => h) (fun K hK => ?_)
      go_big_quiet_op
      refine hK _ ?_
      clear hK K
      refine pi_t 18 rfl (by kernel_rfl) (by kernel_rfl) (fun _ _ _ _ h => h) (fun K hK => ?_)
      go_big_quiet_op
      refine hK _ ?_
      clear hK K
      refine pi_t 19 rfl (by kernel_rfl) (by kernel_rfl) (fun _ _ _ _ h => h) (fun K hK => ?_)
      go_big_quiet_op
      refine hK _ ?_
      clear hK K
      refine pi_end (by kernel_rfl) ?_
      by_cases hfit : I64 (f k)
      · have fb := fitB_yes hfit
        have fn := fitN_yes hfit
        rw [fb, fn]
        have hs3 := hE3.size
        have hown3 := own_ext HOWN.out hE3
        clear fb fn
        go_wp2_with (at_builtin; refine wpList_app1 w3 (f k) pre u7 w.heap.size 2 hown3 43 rfl _ _ rfl info_i64 Tryz.underlying43 rfl rfl ?a1 ?a2 ?_)
        case a1 => omega
        case a2 => omega
        intro v' w' g1 g2 g3
        have hE4 : Ext w w' := ext_grown (hE.trans' hE3) g2 (fun i hi => own_blk hown3 hi)
        have G1 := Lib.hid g1
        clear g1 g2 g3 hown3
        go_wp2
        go_roundw
        case rel =>
          refine ⟨k + 1, by omega, by go_num, by rw [HSN.out, List.length_append]; exact G1.out, hE4, fun j hj => ?_⟩
          by_cases e : j = k
          · rw [e]; exact hfit
          · exact HALL.out j (by omega)
        case measure => simp [intOf]; omega
      · have fb := fitB_no hfit
        rw [fb]
        clear fb
        go_wp2
        go_ret
        exact .inr ⟨fun ha => hfit (by rw [← HFK.out k]; exact ha k hlt), rfl, hE.trans' hE3⟩
    · obtain rfl : k = R := by omega
      rename World => wo
      have hints := IntsAt.of_row hown
      have hlen : ((List.range k).map f).length = k := by simp
      obtain ⟨og, oo, oc, rfl, hog, hoc⟩ := hints.slice (by omega)
      have hob := own_blk hown (k := og) rfl
      rw [hlen] at hoc
      have HOC := Lib.hid hoc
      have HR0 := Lib.hid (HH.out.ext hE)
      rw [hlen]
      have HRG := Lib.hid (show ∀ j, j < k → ((List.range k).map f).getD j 0 = f j from fun j hj => by simp [hj])
      clear hown hints hoc hlen
      go_wp2_with fail
      go_loopw [11] (fun u wr => ∃ j : Nat, j ≤ k ∧ u = .int .i64 j ∧ RGAt wr G k W (putK W cs f j l) ∧ Mod (G.foot k) wo wr) (fun u _ => k - (intOf u).toNat)
      case atStart => exact ⟨0, Nat.zero_le _, rfl, HR0.out, Mod.refl _ _⟩
      case round =>
        obtain ⟨j, hj, rfl, hr, hM⟩ := hrel
        have hsM := hM.size
        by_cases hlt : j < k
        · obtain ⟨cap2, cg, hcap2⟩ := hr.cg
          have lg := hr.ltg
          have cm := hr.cm hlt
          have lm := hr.ltm
          have hgE : vg < wo.heap.size := Nat.lt_of_lt_of_le hg hsE
          have dd := (mcell hM hgE HGC.out _).trans (((bcell hE).1 _ _ hg).trans (HC.out j hlt))
          have ld : vg < wr.heap.size := Nat.lt_of_lt_of_le hgE hsM
          have hno : ¬ G.foot k og := fun hf => by have := HH.out.lt hf; omega
          have oo1 := (mcell hM hog hno _).trans (HOC.out j hlt)
          rw [HRG.out j hlt] at oo1
          have lo : og < wr.heap.size := Nat.lt_of_lt_of_le hog hsM
          have l1 := HM.out.lo j hlt
          have l2 := HM.out.hi j hlt
          have hat : at_ W cs j = j * W + (cs.getD j 0).toNat := rfl
          have hput : putK W cs f (j + 1) l = (putK W cs f j l).set (at_ W cs j) (f j) := rfl
          rw [hat] at hput
          clear hat
          generalize cs.getD j 0 = y at *
          obtain ⟨y, rfl⟩ := Int.eq_ofNat_of_zero_le l1
          have hy2 : y < W := by omega
          have cr := hr.cr hlt hy2
          have lr := hr.ltr hlt
          have fr := hr.fr hlt y
          have hput' : putK W cs f (j + 1) l = (putK W cs f j l).set (j * W + y) (f j) := hput
          have HPUT := Lib.hid hput'
          have HR := Lib.hid hr
          clear hput hput' hr l1 l2
          generalize f j = x at *
          generalize (putK W cs f j l).getD (j * W + y) 0 = x0 at *
          go_wp2_with fail
          have hC0 := af_drew wr
          refine pi_start (fun w' => ∃ z : After wr, w' = z.w) [16] (by kernel_rfl) ?_
          refine pi_t 0 rfl (by kernel_rfl) (by kernel_rfl) (fun _ _ _ _ h => h) (fun K hK => ?_)
          go_big_quiet_op
          refine hK _ ?_
          clear hK K
          refine pi_t 1 rfl (by kernel_rfl) (by kernel_rfl) (fun _ _ _ _ h => h) (fun K hK => ?_)
          go_big_quiet_op
          refine hK _ ?_
          clear hK K
          refine pi_t 2 rfl (by kernel_rfl) (by kernel_rfl) (fun _ _ _ _ h => h) (fun K hK => ?_)
          go_big_quiet_op
          refine hK _ ?_
          clear hK K
          refine pi_t 4 rfl (by kernel_rfl) (by kernel_rfl) (fun _ _ _ _ h => h) (fun K hK => ?_)
          go_big_quiet_op
          refine hK _ ?_
          clear hK K
          refine pi_t 7 rfl (by kernel_rfl) (by kernel_rfl) (fun _ _ _ _ h => h) (fun K hK => ?_)
          go_big_quiet_op
          refine hK _ ?_
          clear hK K
          refine pi_t 8 rfl (by kernel_rfl) (by kernel_rfl) (fun _ _ _ _ h => h) (fun K hK => ?_)
          go_big_quiet_op
          refine hK _ ?_
          clear hK K
          refine pi_t 9 rfl (by kernel_rfl) (by kernel_rfl) (fun _ _ _ _ h => h) (fun K hK => ?_)
          go_big_quiet_op
          refine hK _ ?_
          clear hK K
          refine pi_t 11 rfl (by kernel_rfl) (by kernel_rfl) (fun _ _ _ _ h => h) (fun K hK => ?_)
          go_big_quiet_op
          refine hK _ ?_
          clear hK K
          refine pi_t 12 rfl (by kernel_rfl) (by kernel_rfl) (fun _ _ _ _ h => h) (fun K hK => ?_)
          go_big_quiet_op
          refine hK _ ?_
          clear hK K
          refine pi_t 13 rfl (by kernel_rfl) (by kernel_rfl) (fun _ _ _ _ h => h) (fun K hK => ?_)
          go_big_quiet_op
          refine hK _ ?_
          clear hK K
          refine pi_c 3 (by assumption) rfl (by kernel_rfl) (by kernel_rfl) (fun _ _ _ _ h => h) (fun K hK => ?_)
          go_big_quiet_op
          refine hK _ ?_
          clear hK K
          refine pi_t 5 rfl (by kernel_rfl) (by kernel_rfl) (fun _ _ _ _ h => h) (fun K hK => ?_)
          go_big_quiet_op
          refine hK _ ?_
          clear hK K
          refine pi_c 6 (by assumption) rfl (by kernel_rfl) (by kernel_rfl) (fun _ _ _ _ h => h) (fun K hK => ?_)
          go_big_quiet_op
          refine hK _ ?_
          clear hK K
          refine pi_c 10 (by assumption) rfl (by kernel_rfl) (by kernel_rfl) (fun _ _ _ _ h => h) (fun K hK => ?_)
          go_big_quiet_op
          refine hK _ ?_
          clear hK K
          refine pi_c 14 (by assumption) rfl (by kernel_rfl) (by kernel_rfl) (fun _ _ _ _ h => h) (fun K hK => ?_)
          go_big_quiet_op
          refine hK _ ?_
          clear hK K
          refine pi_t 15 rfl (by kernel_rfl) (by kernel_rfl) (fun _ _ _ _ h => h) (fun K hK => ?_)
          go_big_quiet_op
          refine hK _ ?_
          clear hK K
          refine pi_l 16 rfl (by kernel_rfl) (fun K hK => ?_)
          go_wp2
          refine hK _ _ (by simp) ?_
          clear hK K
          refine pi_end (by kernel_rfl) ?_
          go_wp2_with fail
          go_roundw
          case rel =>
            refine ⟨j + 1, by omega, by go_num, ?_, (hM.trans (mod_rset hlt y _)).drewR⟩
            rw [HPUT.out]
            exact (HR.out.set hlt hy2 x).keep (fun _ _ => rfl)
          case measure => simp [intOf]; omega
        · obtain rfl : j = k := by omega
          go_wp2
          go_ret
          exact .inl ⟨fun i hi => by rw [HFK.out]; exact HALL.out i hi, rfl, hr, (hE.mod _).trans hM⟩
end Go.Proofs.YtfhdjekpdifajaaGreat
namespace Go.Proofs.YtfhdjekpdifajaaGreat
set_option linter.unusedVariables false
open Go.RowKit
def RRaisePost (w : World) (G : Gr) (R W : Nat) (cs l : List Int) (d : Int) (e : Ending) (w' : World) : Prop :=
  (d < 0 ∧ e = .returned (.int .i64 3) ∧ Ext w w') ∨
  (0 ≤ d ∧ ((I64 (minL (readL W l cs) + d) ∧ e = .returned (.int .i64 0) ∧ RGAt w' G R W (putK W cs (fun k => max (l.getD (at_ W cs k) 0) (minL (readL W l cs) + d)) R l) ∧ Mod (G.foot R) w w') ∨
    (¬ I64 (minL (readL W l cs) + d) ∧ e = .returned (.int .i64 4) ∧ Ext w w')))
set_option maxRecDepth 20000 in
set_option maxHeartbeats 8000000 in
theorem RRaise_c (G : Gr) (R W : Nat) (l cs : List Int) (v : Value) (d : Int) (w : World) (h : RGAt w G R W l) (hI : ∀ x ∈ l, I64 x) (hd : I64 d) (hv : IntsAt w v cs) (hm : Meets R W cs)
    (hne : ∀ g off n cap, v = .slice (some ⟨g, off, none⟩) n cap → ¬ G.foot R g) :
    Calls Tryz.prog 160 #[.pointer (some ⟨G.g, 0, none⟩), v, .int .i64 d] w (RRaisePost w G R W cs l d) := by
  have r1 := h.r1
  have r2 := h.r2
  have hml := hm.len
  obtain ⟨vg, vo, vc, rfl, hg, hc⟩ := hv.slice (by rw [hm.len]; omega)
  have hgc := hne _ _ _ _ rfl
  rw [hml] at hc hv ⊢
  have hmI : I64 (minL (readL W l cs)) := by
    have hne' : readL W l cs ≠ [] := by
      intro e
      have := readL_len W l cs
      rw [e, hml] at this
      simp at this; omega
    have := (minL_spec _ hne').1
    simp only [readL, List.mem_map] at this
    obtain ⟨j, _, hj⟩ := this
    rw [← show l.getD (at_ W cs j) 0 = minL (readL W l cs) from hj]
    exact getD_i64 hI _
  have HC := Lib.hid hc
  have HV := Lib.hid hv
  have HH := Lib.hid h
  have HM := Lib.hid hm
  have HD := Lib.hid hd
  have HGC := Lib.hid hgc
  have HMI := Lib.hid hmI
  have HLE := Lib.hid (show ∀ w' : World, Ext w w' → Calls Tryz.prog 158 #[.pointer (some ⟨G.g, 0, none⟩), .slice (some ⟨vg, vo, none⟩) R vc] w' fun e w'' => e = .returned (.tuple #[.int .i64 (minL (readL W l cs)), .int .i64 0]) ∧ Ext w' w'' from
    fun w' hw => RLeast_c G R W l cs _ w' (h.ext hw) (hv.ext hw) hm)
  unfold RRaisePost
  generalize minL (readL W l cs) = mn at *
  clear hc hv h hm hml hI hne hd hgc hmI
  go_enter Tryz.func160, Tryz.ntmps160
  go_wp2_with fail
  refine Calls.mono (HLE.out _ (Ext.refl _)) ?_
  rintro e w1 ⟨rfl, hx1⟩
  clear HLE
  by_cases hdn : d < 0
  · go_wp2
    go_ret
    exact .inl ⟨hdn, rfl, hx1⟩
  · have hd0 : 0 ≤ d := by omega
    have hdb : decide (d < 0) = false := by simp; omega
    clear hdn
    go_wp2_with fail
    refine Calls.mono (LAdd_c mn d HMI.out HD.out _) ?_
    rintro e w2 ⟨rfl, hx2⟩
    have hE2 : Ext w w2 := hx1.trans' hx2
    by_cases hfit : I64 (mn + d)
    · have fb := fitB_yes hfit
      have fn := fitN_yes hfit
      rw [fb, fn]
      have HFIT := Lib.hid hfit
      have HN : Hid (∀ j, j < R → (putK W cs (fun k => max (l.getD (at_ W cs k) 0) (mn + d)) j l).getD (at_ W cs j) 0 = l.getD (at_ W cs j) 0) := Lib.hid fun j hj => putK_far HM.out l hj j (Nat.le_refl _)
      obtain ⟨f, hf⟩ : ∃ f : Nat → Int, f = fun k => max (l.getD (at_ W cs k) 0) (mn + d) := ⟨_, rfl⟩
      have HFK := Lib.hid (show ∀ k, f k = max (l.getD (at_ W cs k) 0) (mn + d) from fun k => by rw [hf])
      rw [← hf] at HN
      have HFD := Lib.hid hf
      obtain ⟨n, hn⟩ : ∃ n, mn + d = n := ⟨_, rfl⟩
      have HNN := Lib.hid hn
      rw [hn]
      rw [hn] at HFK
      clear fb fn hx1 hx2 hf hfit hn
      go_wp2_with fail
      go_loopw [11] (fun u wr => ∃ j : Nat, j ≤ R ∧ u = .int .i64 j ∧ RGAt wr G R W (putK W cs f j l) ∧ Mod (G.foot R) w wr) (fun u _ => R - (intOf u).toNat)
      case atStart => exact ⟨0, Nat.zero_le _, rfl, HH.out.ext hE2, hE2.mod _⟩
      case round =>
        obtain ⟨j, hj, rfl, hr, hM⟩ := hrel
        have hsM := hM.size
        by_cases hlt : j < R
        · obtain ⟨cap2, cg, hcap2⟩ := hr.cg
          have lg := hr.ltg
          have cm := hr.cm hlt
          have lm := hr.ltm
          have dd := (mcell hM hg HGC.out _).trans (HC.out j hlt)
          have ld : vg < wr.heap.size := Nat.lt_of_lt_of_le hg hsM
          have l1 := HM.out.lo j hlt
          have l2 := HM.out.hi j hlt
          have hat : at_ W cs j = j * W + (cs.getD j 0).toNat := rfl
          have hput : putK W cs f (j + 1) l = (putK W cs f j l).set (at_ W cs j) (f j) := rfl
          have hfar := HN.out j hlt
          have hfk := HFK.out j
          rw [← hfar, hat] at hfk
          rw [hat] at hput
          clear hat hfar
          generalize cs.getD j 0 = y at *
          obtain ⟨y, rfl⟩ := Int.eq_ofNat_of_zero_le l1
          have hy2 : y < W := by omega
          have cr := hr.cr hlt hy2
          have lr := hr.ltr hlt
          have fr := hr.fr hlt y
          have HPUT := Lib.hid (show putK W cs f (j + 1) l = (putK W cs f j l).set (j * W + y) (f j) from hput)
          have hfk' : f j = max ((putK W cs f j l).getD (j * W + y) 0) n := hfk
          have HF := Lib.hid hfk'
          have HR := Lib.hid hr
          clear hput hr l1 l2 hfk hfk'
          generalize f j = x at *
          generalize (putK W cs f j l).getD (j * W + y) 0 = x0 at *
          by_cases hlx : x0 < n
          · have hmx : x = n := by rw [HF.out]; omega
            have hb : decide (x0 < n) = true := by simp [hlx]
            have hb2 : (n < x0) = False := by simp; omega
            have HMX := Lib.hid hmx
            clear hmx
            go_wp2_with fail
            have hC0 := af_drew wr
            refine pi_start (fun w' => ∃ z : After wr, w' = z.w) [27] (by kernel_rfl) ?_
            refine pi_t 0 rfl (by kernel_rfl) (by kernel_rfl) (fun _ _ _ _ h => h) (fun K hK => ?_)
            go_big_quiet_op
            refine hK _ ?_
            clear hK K
            refine pi_t 1 rfl (by kernel_rfl) (by kernel_rfl) (fun _ _ _ _ h => h) (fun K hK => ?_)
            go_big_quiet_op
            refine hK _ ?_
            clear hK K
            refine pi_t 2 rfl (by kernel_rfl) (by kernel_rfl) (fun _ _ _ _ h => h) (fun K hK => ?_)
            go_big_quiet_op
            refine hK _ ?_
            clear hK K
            refine pi_t 4 rfl (by kernel_rfl) (by kernel_rfl) (fun _ _ _ _ h => h) (fun K hK => ?_)
            go_big_quiet_op
            refine hK _ ?_
            clear hK K
            refine pi_t 7 rfl (by kernel_rfl) (by kernel_rfl) (fun _ _ _ _ h => h) (fun K hK => ?_)
            go_big_quiet_op
            refine hK _ ?_
            clear hK K
            refine pi_t 8 rfl (by kernel_rfl) (by kernel_rfl) (fun _ _ _ _ h => h) (fun K hK => ?_)
            go_big_quiet_op
            refine hK _ ?_
            clear hK K
            refine pi_t 9 rfl (by kernel_rfl) (by kernel_rfl) (fun _ _ _ _ h => h) (fun K hK => ?_)
            go_big_quiet_op
            refine hK _ ?_
            clear hK K
            refine pi_t 11 rfl (by kernel_rfl) (by kernel_rfl) (fun _ _ _ _ h => h) (fun K hK => ?_)
            go_big_quiet_op
            refine hK _ ?_
            clear hK K
            refine pi_t 12 rfl (by kernel_rfl) (by kernel_rfl) (fun _ _ _ _ h => h) (fun K hK => ?_)
            go_big_quiet_op
            refine hK _ ?_
            clear hK K
            refine pi_t 13 rfl (by kernel_rfl) (by kernel_rfl) (fun _ _ _ _ h => h) (fun K hK => ?_)
            go_big_quiet_op
            refine hK _ ?_
            clear hK K
            refine pi_t 15 rfl (by kernel_rfl) (by kernel_rfl) (fun _ _ _ _ h => h) (fun K hK => ?_)
            go_big_quiet_op
            refine hK _ ?_
            clear hK K
            refine pi_t 18 rfl (by kernel_rfl) (by kernel_rfl) (fun _ _ _ _ h => h) (fun K hK => ?_)
            go_big_quiet_op
            refine hK _ ?_
            clear hK K
            refine pi_t 19 rfl (by kernel_rfl) (by kernel_rfl) (fun _ _ _ _ h => h) (fun K hK => ?_)
            go_big_quiet_op
            refine hK _ ?_
            clear hK K
            refine pi_t 20 rfl (by kernel_rfl) (by kernel_rfl) (fun _ _ _ _ h => h) (fun K hK => ?_)
            go_big_quiet_op
            refine hK _ ?_
            clear hK K
            refine pi_t 24 rfl (by kernel_rfl) (by kernel_rfl) (fun _ _ _ _ h => h) (fun K hK => ?_)
            go_big_quiet_op
            refine hK _ ?_
            clear hK K
            refine pi_c 3 (by assumption) rfl (by kernel_rfl) (by kernel_rfl) (fun _ _ _ _ h => h) (fun K hK => ?_)
            go_big_quiet_op
            refine hK _ ?_
            clear hK K
            refine pi_t 5 rfl (by kernel_rfl) (by kernel_rfl) (fun _ _ _ _ h => h) (fun K hK => ?_)
            go_big_quiet_op
            refine hK _ ?_
            clear hK K
            refine pi_c 6 (by assumption) rfl (by kernel_rfl) (by kernel_rfl) (fun _ _ _ _ h => h) (fun K hK => ?_)
            go_big_quiet_op
            refine hK _ ?_
            clear hK K
            refine pi_c 10 (by assumption) rfl (by kernel_rfl) (by kernel_rfl) (fun _ _ _ _ h => h) (fun K hK => ?_)
            go_big_quiet_op
            refine hK _ ?_
            clear hK K
            refine pi_c 14 (by assumption) rfl (by kernel_rfl) (by kernel_rfl) (fun _ _ _ _ h => h) (fun K hK => ?_)
            go_big_quiet_op
            refine hK _ ?_
            clear hK K
            refine pi_t 16 rfl (by kernel_rfl) (by kernel_rfl) (fun _ _ _ _ h => h) (fun K hK => ?_)
            go_big_quiet_op
            refine hK _ ?_
            clear hK K
            refine pi_c 17 (by assumption) rfl (by kernel_rfl) (by kernel_rfl) (fun _ _ _ _ h => h) (fun K hK => ?_)
            go_big_quiet_op
            refine hK _ ?_
            clear hK K
            refine pi_c 21 (by assumption) rfl (by kernel_rfl) (by kernel_rfl) (fun _ _ _ _ h => h) (fun K hK => ?_)
            go_big_quiet_op
            refine hK _ ?_
            clear hK K
            refine pi_t 22 rfl (by kernel_rfl) (by kernel_rfl) (fun _ _ _ _ h => h) (fun K hK => ?_)
            go_big_quiet_op
            refine hK _ ?_
            clear hK K
            refine pi_c 23 (by assumption) rfl (by kernel_rfl) (by kernel_rfl) (fun _ _ _ _ h => h) (fun K hK => ?_)
            go_big_quiet_op
            refine hK _ ?_
            clear hK K
            refine pi_t 25 rfl (by kernel_rfl) (by kernel_rfl) (fun _ _ _ _ h => h) (fun K hK => ?_)
            go_big_quiet_op
            refine hK _ ?_
            clear hK K
            refine pi_t 26 rfl (by kernel_rfl) (by kernel_rfl) (fun _ _ _ _ h => h) (fun K hK => ?_)
            go_big_quiet_op
            refine hK _ ?_
            clear hK K
            refine pi_l 27 rfl (by kernel_rfl) (fun K hK => ?_)
            go_wp2
            refine hK _ _ (by simp) ?_
            clear hK K
            refine pi_end (by kernel_rfl) ?_
            go_wp2_with fail
            go_roundw
            case rel =>
              refine ⟨j + 1, by omega, by go_num, ?_, (hM.trans (mod_rset hlt y _)).drewR⟩
              rw [HPUT.out, HMX.out]
              exact (HR.out.set hlt hy2 n).keep (fun _ _ => rfl)
            case measure => simp [intOf]; omega
          · have hmx : x = x0 := by rw [HF.out]; omega
            have hb : decide (x0 < n) = false := by simp; omega
            have hb2 : (x0 < n) = False := by simp; omega
            have hb3 : n ≤ x0 := by omega
            have HMX := Lib.hid hmx
            clear hmx hlx
            go_wp2_with fail
            have hC0 := af_drew wr
            refine pi_start (fun w' => ∃ z : After wr, w' = z.w) [27] (by kernel_rfl) ?_
            refine pi_t 0 rfl (by kernel_rfl) (by kernel_rfl) (fun _ _ _ _ h => h) (fun K hK => ?_)
            go_big_quiet_op
            refine hK _ ?_
            clear hK K
            refine pi_t 1 rfl (by kernel_rfl) (by kernel_rfl) (fun _ _ _ _ h => h) (fun K hK => ?_)
            go_big_quiet_op
            refine hK _ ?_
            clear hK K
            refine pi_t 2 rfl (by kernel_rfl) (by kernel_rfl) (fun _ _ _ _ h => h) (fun K hK => ?_)
            go_big_quiet_op
            refine hK _ ?_
            clear hK K
            refine pi_t 4 rfl (by kernel_rfl) (by kernel_rfl) (fun _ _ _ _ h => h) (fun K hK => ?_)
            go_big_quiet_op
            refine hK _ ?_
            clear hK K
            refine pi_t 7 rfl (by kernel_rfl) (by kernel_rfl) (fun _ _ _ _ h => h) (fun K hK => ?_)
            go_big_quiet_op
            refine hK _ ?_
            clear hK K
            refine pi_t 8 rfl (by kernel_rfl) (by kernel_rfl) (fun _ _ _ _ h => h) (fun K hK => ?_)
            go_big_quiet_op
            refine hK _ ?_
            clear hK K
            refine pi_t 9 rfl (by kernel_rfl) (by kernel_rfl) (fun _ _ _ _ h => h) (fun K hK => ?_)
            go_big_quiet_op
            refine hK _ ?_
            clear hK K
            refine pi_t 11 rfl (by kernel_rfl) (by kernel_rfl) (fun _ _ _ _ h => h) (fun K hK => ?_)
            go_big_quiet_op
            refine hK _ ?_
            clear hK K
            refine pi_t 12 rfl (by kernel_rfl) (by kernel_rfl) (fun _ _ _ _ h => h) (fun K hK => ?_)
            go_big_quiet_op
            refine hK _ ?_
            clear hK K
            refine pi_t 13 rfl (by kernel_rfl) (by kernel_rfl) (fun _ _ _ _ h => h) (fun K hK => ?_)
            go_big_quiet_op
            refine hK _ ?_
            clear hK K
            refine pi_t 15 rfl (by kernel_rfl) (by kernel_rfl) (fun _ _ _ _ h => h) (fun K hK => ?_)
            go_big_quiet_op
            refine hK _ ?_
            clear hK K
            refine pi_t 18 rfl (by kernel_rfl) (by kernel_rfl) (fun _ _ _ _ h => h) (fun K hK => ?_)
            go_big_quiet_op
            refine hK _ ?_
            clear hK K
            refine pi_t 19 rfl (by kernel_rfl) (by kernel_rfl) (fun _ _ _ _ h => h) (fun K hK => ?_)
            go_big_quiet_op
            refine hK _ ?_
            clear hK K
            refine pi_t 20 rfl (by kernel_rfl) (by kernel_rfl) (fun _ _ _ _ h => h) (fun K hK => ?_)
            go_big_quiet_op
            refine hK _ ?_
            clear hK K
            refine pi_t 24 rfl (by kernel_rfl) (by kernel_rfl) (fun _ _ _ _ h => h) (fun K hK => ?_)
            go_big_quiet_op
            refine hK _ ?_
            clear hK K
            refine pi_c 3 (by assumption) rfl (by kernel_rfl) (by kernel_rfl) (fun _ _ _ _ h => h) (fun K hK => ?_)
            go_big_quiet_op
            refine hK _ ?_
            clear hK K
            refine pi_t 5 rfl (by kernel_rfl) (by kernel_rfl) (fun _ _ _ _ h => h) (fun K hK => ?_)
            go_big_quiet_op
            refine hK _ ?_
            clear hK K
            refine pi_c 6 (by assumption) rfl (by kernel_rfl) (by kernel_rfl) (fun _ _ _ _ h => h) (fun K hK => ?_)
            go_big_quiet_op
            refine hK _ ?_
            clear hK K
            refine pi_c 10 (by assumption) rfl (by kernel_rfl) (by kernel_rfl) (fun _ _ _ _ h => h) (fun K hK => ?_)
            go_big_quiet_op
            refine hK _ ?_
            clear hK K
            refine pi_c 14 (by assumption) rfl (by kernel_rfl) (by kernel_rfl) (fun _ _ _ _ h => h) (fun K hK => ?_)
            go_big_quiet_op
            refine hK _ ?_
            clear hK K
            refine pi_t 16 rfl (by kernel_rfl) (by kernel_rfl) (fun _ _ _ _ h => h) (fun K hK => ?_)
            go_big_quiet_op
            refine hK _ ?_
            clear hK K
            refine pi_c 17 (by assumption) rfl (by kernel_rfl) (by kernel_rfl) (fun _ _ _ _ h => h) (fun K hK => ?_)
            go_big_quiet_op
            refine hK _ ?_
            clear hK K
            refine pi_c 21 (by assumption) rfl (by kernel_rfl) (by kernel_rfl) (fun _ _ _ _ h => h) (fun K hK => ?_)
            go_big_quiet_op
            refine hK _ ?_
            clear hK K
            refine pi_t 22 rfl (by kernel_rfl) (by kernel_rfl) (fun _ _ _ _ h => h) (fun K hK => ?_)
            go_big_quiet_op
            refine hK _ ?_
            clear hK K
            refine pi_c 23 (by assumption) rfl (by kernel_rfl) (by kernel_rfl) (fun _ _ _ _ h => h) (fun K hK => ?_)
            go_big_quiet_op
            refine hK _ ?_
            clear hK K
            refine pi_t 25 rfl (by kernel_rfl) (by kernel_rfl) (fun _ _ _ _ h => h) (fun K hK => ?_)
            go_big_quiet_op
            refine hK _ ?_
            clear hK K
            refine pi_t 26 rfl (by kernel_rfl) (by kernel_rfl) (fun _ _ _ _ h => h) (fun K hK => ?_)
            go_big_quiet_op
            refine hK _ ?_
            clear hK K
            refine pi_l 27 rfl (by kernel_rfl) (fun K hK => ?_)
            go_wp2
            refine hK _ _ (by simp) ?_
            clear hK K
            refine pi_end (by kernel_rfl) ?_
            go_wp2_with fail
            go_roundw
            case rel =>
              refine ⟨j + 1, by omega, by go_num, ?_, (hM.trans (mod_rset hlt y _)).drewR⟩
              rw [HPUT.out, HMX.out]
              exact (HR.out.set hlt hy2 x0).keep (fun _ _ => rfl)
            case measure => simp [intOf]; omega
        · obtain rfl : j = R := by omega
          go_wp2
          go_ret
          rw [HFD.out] at hr
          exact .inr ⟨hd0, .inl ⟨HFIT.out, rfl, hr, hM⟩⟩
    · have fb := fitB_no hfit
      rw [fb]
      clear fb
      go_wp2
      go_ret
      exact .inr ⟨hd0, .inr ⟨hfit, rfl, hE2⟩⟩
end Go.Proofs.YtfhdjekpdifajaaGreat
