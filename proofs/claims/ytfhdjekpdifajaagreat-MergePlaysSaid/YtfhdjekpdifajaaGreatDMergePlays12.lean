/- Part. No condition. -/
import Derived.Test.YtfhdjekpdifajaaGreatDMergePlays4
import Derived.Test.YtfhdjekpdifajaaGreatDMergePlays5
import Derived.Test.YtfhdjekpdifajaaGreatDMergePlays9
import Derived.Test.YtfhdjekpdifajaaGreatDMergePlays10
import Derived.Test.YtfhdjekpdifajaaGreatDMergePlays11
import Derived.Test.YtfhdjekpdifajaaGreatDMergePlays3
import Derived.Laws.EntriesVeiled
import Derived.WalkMore
import Derived.Deep.CutBlock
import Derived.ProofKit
import Derived.OpenShut
import Derived.ChangeOld
import Derived.Below
import Derived.SizedLaws
import Derived.Deep.Slices
import Derived.Deep.Fields
namespace Go.Proofs.YtfhdjekpdifajaaGreat
set_option linter.unusedVariables false
open Go.RowKit
/-- A row of numbers of its own. -/
def RowIs (w : World) (B0 : Nat) (u : Value) (xs : List Int) : Prop :=
  ∃ z cap cur, u = .slice (some ⟨z, 0, none⟩) xs.length cap ∧ xs.length ≤ cap ∧ B0 ≤ z ∧ w.heap[z]? = some (.cells cur 2 (0, 0)) ∧ ∀ j, j < xs.length → cur[j]? = some (.int .i64 (xs.getD j 0))
theorem RowIs.ext {w w' : World} {B0 : Nat} {u : Value} {xs : List Int} (h : RowIs w B0 u xs) (he : Ext w w') : RowIs w' B0 u xs := by
  obtain ⟨z, cap, cur, h1, h2, h3, h4, h5⟩ := h
  exact ⟨z, cap, cur, h1, h2, h3, he.keep h4, h5⟩
theorem RowIs.mod {S : Nat → Prop} {w w' : World} {B0 : Nat} {u : Value} {xs : List Int} (h : RowIs w B0 u xs) (he : Mod S w w') (hS : ∀ k, S k → k < B0) : RowIs w' B0 u xs := by
  obtain ⟨z, cap, cur, h1, h2, h3, h4, h5⟩ := h
  exact ⟨z, cap, cur, h1, h2, h3, he.keep h4 (fun hs => by have := hS z hs; omega), h5⟩
theorem RowIs.ints {w : World} {B0 : Nat} {u : Value} {xs : List Int} (h : RowIs w B0 u xs) : IntsAt w u xs := by
  obtain ⟨z, cap, cur, h1, h2, h3, h4, h5⟩ := h
  exact .inr ⟨z, 0, cap, h1, lt_of h4, fun k hk => by rw [Nat.zero_add, cell_of h4]; exact h5 k hk⟩
/-- Rows of numbers that have been made. -/
structure RowsAt (w : World) (B0 k : Nat) (v : Value) (rv : Nat → Value) (ms : Nat → List Int) : Prop where
  row : w.ownsRow B0 43 1 v ((List.range k).map rv).length ((List.range k).map rv)
  is : ∀ r, r < k → RowIs w B0 (rv r) (ms r)
theorem RowsAt.zero (w : World) (B0 : Nat) (rv : Nat → Value) (ms : Nat → List Int) : RowsAt w B0 0 (.slice none 0 0) rv ms := ⟨⟨rfl, .inl ⟨rfl, rfl⟩⟩, by intros; omega⟩
theorem RowsAt.ext {w w' : World} {B0 k : Nat} {v : Value} {rv : Nat → Value} {ms : Nat → List Int} (h : RowsAt w B0 k v rv ms) (he : Ext w w') : RowsAt w' B0 k v rv ms := ⟨own_ext h.row he, fun r hr => (h.is r hr).ext he⟩
theorem RowsAt.mod {S : Nat → Prop} {w w' : World} {B0 k : Nat} {v : Value} {rv : Nat → Value} {ms : Nat → List Int} (h : RowsAt w B0 k v rv ms) (he : Mod S w w') (hS : ∀ i, S i → i < B0) : RowsAt w' B0 k v rv ms :=
  ⟨own_keepB h.row (fun i hi => he.block i (own_lt h.row hi) (fun hs => by have := hS i hs; have := own_blk h.row hi; omega)), fun r hr => (h.is r hr).mod he hS⟩
theorem RowsAt.next {w w' : World} {B0 k : Nat} {v v' : Value} {rv : Nat → Value} {ms : Nat → List Int} {u : Value} {o : Obj} (h : RowsAt w B0 k v rv ms) (hu : RowIs w B0 u (ms k))
    (hown : w'.ownsRow B0 43 1 v' ((List.range k).map rv ++ [u]).length ((List.range k).map rv ++ [u])) (hg : (w.alloc o).grownBy w' v.ownBlock) : RowsAt w' B0 (k + 1) v' (fun r => if r = k then u else rv r) ms := by
  have hold : ∀ u xs, RowIs w B0 u xs → RowIs w' B0 u xs := by
    rintro u xs ⟨z, cap, cur, h1, h2, h3, h4, h5⟩
    exact ⟨z, cap, cur, h1, h2, h3, (grown_old hg (lt_of h4) (fun e => own_notB h.row h4 (by decide) e.symm)).trans h4, h5⟩
  refine ⟨?_, fun r hr => ?_⟩
  · have e : (List.range (k + 1)).map (fun r => if r = k then u else rv r) = (List.range k).map rv ++ [u] := by
      rw [List.range_succ, List.map_append]
      congr 1
      · apply List.map_congr_left
        intro i hi
        rw [List.mem_range] at hi
        rw [if_neg (by omega)]
      · simp
    rw [e]; exact hown
  · by_cases e : r = k
    · rw [if_pos e, e]; exact hold _ _ hu
    · rw [if_neg e]; exact hold _ _ (h.is r (by omega))
/-- Its cells, once there is one. -/
theorem RowsAt.cells {w : World} {B0 k : Nat} {v : Value} {rv : Nat → Value} {ms : Nat → List Int} (h : RowsAt w B0 k v rv ms) (hk : 0 < k) : ∃ m cap, v = .slice (some ⟨m, 0, none⟩) k cap ∧ B0 ≤ m ∧ m < w.heap.size ∧ ∀ r, r < k → w.cell? ⟨m, r, none⟩ = some (rv r) := by
  have hlen : ((List.range k).map rv).length = k := by simp
  rcases h.row.2 with ⟨_, h0⟩ | ⟨m, cap, cur, rfl, hbg, hm, hnc, hcm, hcs, htake⟩
  · rw [hlen] at h0; omega
  · refine ⟨m, cap, by rw [hlen], hbg, lt_of hm, fun r hr => ?_⟩
    have hget : ((List.range k).map rv)[r]? = some (rv r) := by rw [List.getElem?_map, List.getElem?_range hr]; rfl
    have h1 := h.row.cells (g := m) rfl r _ hget
    rw [show ((⟨m, 0, none⟩ : Addr).add r) = ⟨m, r, none⟩ by (simp [Addr.add]; intro e; exact e.symm)] at h1
    exact h1
theorem lvN_pos {C : Cfg} (hok : C.Ok) {lv : Int} (h0 : 0 ≤ lv) : 0 < lvN C lv := by
  unfold lvN
  cases isX C lv with
  | true => show 0 < kN C lv; have := kN_eq hok h0; have := (keys_bd C hok lv h0).1; omega
  | false => show 0 < rN C * wN C; have := rN_eq hok; have := wN_eq hok; have := hok.r1; have := hok.w1; exact Nat.mul_pos (by omega) (by omega)
set_option maxRecDepth 20000 in
set_option maxHeartbeats 4000000 in
theorem KAlike_yes (s g s2 g2 : Nat) (C : Cfg) (B : Nat) (L L2 : Nat → Lev) (ls ls2 : Nat → List Int) (w : World) (h : KAt w s g C B L ls) (h2 : KAt w s2 g2 C B L2 ls2) :
    Calls Tryz.prog 128 #[.pointer (some ⟨s, 0, none⟩), .pointer (some ⟨s2, 0, none⟩)] w fun e w' => e = .returned (.bool true) ∧ Ext w w' := by
  go_enter Tryz.func128, Tryz.ntmps128
  go_wp2_with fail
  refine Calls.mono (SKConfig_c s g C B L ls _ h) ?_
  rintro e w1 ⟨rfl, hx1⟩
  go_wp2_with fail
  refine Calls.mono (SKConfig_c s2 g2 C B L2 ls2 _ (h2.ext hx1)) ?_
  rintro e w2 ⟨rfl, hx2⟩
  go_wp2
  go_ret
  exact ⟨by first | rfl | simp, hx1.trans' hx2⟩
theorem KAlike_nil2 (s : Nat) (w : World) :
    Calls Tryz.prog 128 #[.pointer (some ⟨s, 0, none⟩), .pointer none] w fun e w' => e = .returned (.bool false) ∧ w = w' := by
  go_enter Tryz.func128, Tryz.ntmps128
  go_wp2
  go_ret
  exact ⟨rfl, rfl⟩
def KJoinPost (w : World) (s g : Nat) (C : Cfg) (B : Nat) (L : Nat → Lev) (ms : Nat → List Int) (e : Ending) (w' : World) : Prop :=
  ((∀ n, n ≤ B → allI (ms n)) ∧ e = .returned (.int .i64 0) ∧ KAt w' s g C B L ms ∧ Mod (cellsOf B L) w w') ∨ ((¬ ∀ n, n ≤ B → allI (ms n)) ∧ e = .returned (.int .i64 4) ∧ Ext w w')
set_option maxRecDepth 20000 in
set_option maxHeartbeats 8000000 in
theorem KAllMerge_c (s g s2 g2 : Nat) (C : Cfg) (B : Nat) (L L2 : Nat → Lev) (ls ls2 : Nat → List Int) (w : World) (h : KAt w s g C B L ls) (h2 : KAt w s2 g2 C B L2 ls2) (hmd : "Merge" = "Subtract" → C.mode ≠ 2) :
    Calls Tryz.prog 127 #[.agg #[.func (.func 41) #[] #[]], .pointer (some ⟨s, 0, none⟩), .pointer (some ⟨s2, 0, none⟩)] w (KJoinPost w s g C B L (fun n => plusL (ls n) (ls2 n))) := by
  have HH := Lib.hid h
  have HH2 := Lib.hid h2
  have hok := h.ok
  have hB := h.hB
  have hb1 := hok.b1
  have hb2 := hok.b2
  have hB59 : B ≤ 59 := by omega
  have HB := Lib.hid hB
  have HMD := Lib.hid hmd
  have hlen : ∀ n, n ≤ B → (plusL (ls n) (ls2 n)).length = lvN C n := fun n hn => by rw [plusL_len]; exact (h.lev n hn).len
  have HLEN := Lib.hid hlen
  obtain ⟨ms, hms⟩ : ∃ ms : Nat → List Int, ms = fun n => plusL (ls n) (ls2 n) := ⟨_, rfl⟩
  have HMS := Lib.hid (show ∀ n, plusL (ls n) (ls2 n) = ms n from fun n => by rw [hms])
  rw [← hms]
  clear h h2 hB hmd hlen hms
  go_enter Tryz.func127, Tryz.ntmps127
  go_wp2
  go_step3
  go_wp2_with fail
  refine Calls.mono (KAlike_yes s g s2 g2 C B L L2 ls ls2 _ (HH.out.ext (Ext.alloc' _ _)) (HH2.out.ext (Ext.alloc' _ _))) ?_
  rintro e w1 ⟨rfl, hx1⟩
  have hj1 := hx1.keep (heap_at w (.cells #[.func (.func 41) #[] #[]] 204) rfl)
  have hE1 : Ext w w1 := (Ext.alloc' _ _).trans' hx1
  clear hx1
  go_wp2
  go_step3
  go_wp2_with fail
  refine Calls.mono (SKConfig_c s g C B L ls _ (HH.out.ext hE1)) ?_
  rintro e w2 ⟨rfl, hx2⟩
  have hj2 := hx2.keep hj1
  have hE2 : Ext w w2 := hE1.trans' hx2
  clear hj1 hx2 hE1
  have hfd : ∀ w, (Instr.field 24 (.agg #[.int .i64 C.bits, .int .i64 C.rows, .int .i64 C.width, .int .i64 C.mode, .int .u64 C.seed]) 0).run Tryz.prog w = .ok (.int .i64 C.bits) w := fun _ => by kernel_rfl
  go_wp2
  go_loopw [7, 8, 24] (fun u7 u8 u24 wr => ∃ (k : Nat) (rv : Nat → Value), k ≤ B + 1 ∧ u24 = .int .i64 k ∧ u8 = .int .i64 0 ∧ RowsAt wr w.heap.size k u7 rv ms ∧ Ext w wr ∧ wr.heap[w.heap.size]? = some (.cells #[.func (.func 41) #[] #[]] 204 (0, 0)) ∧ ∀ n, n < k → allI (ms n)) (fun _ _ u24 _ => B + 1 - (intOf u24).toNat)
  case atStart => exact ⟨0, fun _ => undef, Nat.zero_le _, rfl, rfl, RowsAt.zero _ _ _ _, hE2, hj2, fun n hn => absurd hn (Nat.not_lt_zero _)⟩
  case round =>
    clear hE2 hj2
    obtain ⟨k, rv, hk, rfl, rfl, hR, hE, hj, hall⟩ := hrel
    have HALL := Lib.hid hall
    have HR := Lib.hid hR
    have HJ := Lib.hid hj
    have hsE := hE.size
    clear hall hR hj
    by_cases hlt : k < B + 1
    · have hlt' : (k : Int) < C.bits + 1 := by have := HB.out; omega
      go_wp2_with fail
      refine Calls.mono (KAt_c s g C B L ls _ (HH.out.ext hE) k (by omega)) ?_
      rintro e w3 ⟨M, rfl, hL, m1, m2, m3, hx3⟩
      have hE3 := hE.trans' hx3
      have hs3 := hx3.size
      rw [lvV_eq]
      have HL := Lib.hid hL
      clear hL
      go_wp2_with fail
      refine Calls.mono (KAt_c s2 g2 C B L2 ls2 _ (HH2.out.ext hE3) k (by omega)) ?_
      rintro e w4 ⟨M2, rfl, hL2, n1, n2, n3, hx4⟩
      have hE4 := hE3.trans' hx4
      rw [lvV_eq]
      have HL4 := Lib.hid (HL.out.ext hx4)
      have HL2 := Lib.hid hL2
      have hj4 := (hx3.trans' hx4).keep HJ.out
      have c0 := (cell_of hj4 0).trans rfl
      have l0 := lt_of hj4
      clear hL2 HL
      have hcall : Calls Tryz.prog 41 #[.iface (lvT C k) (.pointer (some ⟨M.s, 0, none⟩)), .iface (lvT C k) (.pointer (some ⟨M2.s, 0, none⟩))] w4 (LMergePost w4 M C k (ms k)) := by
        rw [← HMS.out k]
        first | exact LMerge_c C k M M2 _ _ w4 HL4.out HL2.out | exact LSubtract_c C k M M2 _ _ w4 HL4.out HL2.out (HMD.out (by first | rfl | trivial))
      have HCALL := Lib.hid hcall
      clear hcall
      have hs4 := hx4.size
      go_wp2_with fail
      refine Calls.mono HCALL.out ?_
      rintro e w5 (⟨ha, rfl, hL5, hm5⟩ | ⟨ha, rfl, hx5⟩)
      · have hE5 : Ext wr w5 := Below.trans (hx3.trans' hx4) (hm5.below (by omega) (fun i hi => by rw [hi]; exact m3))
        have hj5 := hE5.keep HJ.out
        have HL5 := Lib.hid hL5
        have HA := Lib.hid ha
        have HJ5 := Lib.hid hj5
        have mC := lvm_Cells C k (some ⟨M.s, 0, none⟩)
        have eC := lve_Cells C k
        clear hL5 hm5 ha hj5 hj4 c0 l0 hx3 hx4 hE3 hE4
        go_wp2_with fail
        refine Calls.mono (LCells_c C k M _ _ HL5.out) ?_
        rintro e w6 ⟨v, rfl, ho, _, hx6⟩
        have hE6 := hE5.trans' hx6
        have hpos : 0 < (ms k).length := by rw [HL5.out.len]; exact lvN_pos hok (Int.natCast_nonneg k)
        have hu : RowIs w6 w.heap.size v (ms k) := by
          obtain ⟨z, cap, cur, r1, r2, r3, r4, r5⟩ := own_row1 ho hpos
          exact ⟨z, cap, cur, r1, r2, by have := hE5.size; omega, r4, r5⟩
        have hR6 := HR.out.ext hE6
        have hj6 := hx6.keep HJ5.out
        have HU := Lib.hid hu
        have HR6 := Lib.hid hR6
        have HJ6 := Lib.hid hj6
        obtain ⟨vp, vc, rfl⟩ : ∃ p c, v = .slice p (ms k).length c := by obtain ⟨z, cap, cur, r1, _⟩ := hu; exact ⟨_, _, r1⟩
        have hs6 := hE6.size
        obtain ⟨i0, z0, hi0, hz0, hz1, hz2, hz3⟩ := info_row
        clear mC eC hu hR6 hj6 ho hx6 hE5
        go_wp2_with (at_builtin; refine wpList_appB w6 24 (by decide) (.slice vp (ms k).length vc) rfl ((List.range k).map rv) u7 w.heap.size 43 HR6.out.row 159 rfl _ _ rfl i0 z0 hi0 hz0 hz1 hz2 hz3 Tryz.underlying159 rfl rfl ?b1 ?b2 ?_)
        case b1 => rw [List.length_map, List.length_range]; omega
        case b2 => omega
        intro v' w' g1 g2
        have hown' := g1
        have hnext := HR6.out.next HU.out (by rw [List.length_append, List.length_map, List.length_range]; exact hown') g2
        have hEw : Ext w w' := ext_grown (hE.trans' hE6) g2 (fun i hi => own_blk HR6.out.row hi)
        have hjw := (grown_old g2 (lt_of HJ6.out) (fun e => own_notB HR6.out.row HJ6.out (by decide) e.symm)).trans HJ6.out
        obtain ⟨pv, nv, cv, rfl⟩ := own_slice g1
        have HN := Lib.hid hnext
        have HJW := Lib.hid hjw
        clear g1 g2 hnext hown' hjw
        go_wp2
        go_roundw
        case rel =>
          refine ⟨k + 1, _, by omega, by go_num, rfl, HN.out, hEw, HJW.out, fun n hn => ?_⟩
          by_cases e : n = k
          · rw [e]; exact HA.out
          · exact HALL.out n (by omega)
        case measure => simp [intOf]; omega
      · go_wp2
        try rw [Exit.noGoto_ret]
        go_ret
        exact .inr ⟨fun h => ha (h k (by omega)), rfl, hE4.trans' hx5⟩
    · obtain rfl : k = B + 1 := by omega
      have hlt' : ¬ (((B + 1 : Nat) : Int) < C.bits + 1) := by have := HB.out; omega
      rename World => wo
      obtain ⟨m, mc, rfl, hmB, hml, hmc⟩ := HR.out.cells (by omega)
      have HMC := Lib.hid hmc
      have hlc : ∀ i, cellsOf B L i → i < w.heap.size := fun i hi => HH.out.ltc hi
      have HLC := Lib.hid hlc
      have HK0 := Lib.hid (HH.out.ext hE)
      clear hmc hlc
      go_wp2
      go_loopw [57] (fun u57 wr => ∃ j : Nat, j ≤ B + 1 ∧ u57 = .int .i64 j ∧ Mod (cellsOf B L) wo wr ∧ KAt wr s g C B L (fun n => if n < j then ms n else ls n)) (fun u57 _ => B + 1 - (intOf u57).toNat)
      case atStart => exact ⟨0, Nat.zero_le _, rfl, Mod.refl _ _, HK0.out.cong (fun n _ => by rw [if_neg (Nat.not_lt_zero _)])⟩
      case round =>
        obtain ⟨j, hj, rfl, hM, hK⟩ := hrel
        have hsM := hM.size
        by_cases hjl : j < B + 1
        · have hRj := (HR.out.is j hjl).mod hM HLC.out
          have hcj := (mcell hM hml (fun h => by have := HLC.out _ h; omega) _).trans (HMC.out j hjl)
          have lm : m < wr.heap.size := Nat.lt_of_lt_of_le hml hsM
          have HK := Lib.hid hK
          have HRJ := Lib.hid hRj
          obtain ⟨zp, zc, hzz⟩ : ∃ p c, rv j = .slice p (ms j).length c := by obtain ⟨z, cap, cur, r1, _⟩ := hRj; exact ⟨_, _, r1⟩
          rw [hzz] at hcj HRJ
          clear hK hRj hzz
          go_wp2_with fail
          refine Calls.mono (KLoad_yes s g C B L _ _ HK.out j (by omega) (ms j) _ HRJ.out.ints (HALL.out j hjl) (by rw [← HMS.out j]; exact HLEN.out j (by omega)) ?_) ?_
          · rintro g' off k' cap' he e
            obtain ⟨z, cap, cur, r1, r2, r3, _⟩ := HRJ.out
            rw [he] at r1
            have : g' = z := by
              have h1 := (Value.slice.inj r1).1
              simp at h1
              exact h1.1
            have := HLC.out _ ⟨j, by omega, rfl⟩
            omega
          rintro e w5 ⟨rfl, hK5, hm5⟩
          go_wp2
          go_roundw
          case rel =>
            refine ⟨j + 1, by omega, by go_num, hM.trans (hm5.mono (fun i hi _ => ⟨j, by omega, hi⟩)), hK5.cong (fun n _ => ?_)⟩
            by_cases e : n = j
            · rw [if_pos e, if_pos (by omega), e]
            · rw [if_neg e]
              by_cases h : n < j
              · rw [if_pos h, if_pos (by omega)]
              · rw [if_neg h, if_neg (by omega)]
          case measure => simp [intOf]; omega
        · obtain rfl : j = B + 1 := by omega
          go_wp2
          try rw [Exit.noGoto_ret]
          go_ret
          exact .inl ⟨fun n hn => HALL.out n (by omega), rfl, hK.cong (fun n hn => if_pos (by omega)), (hE.mod _).trans hM⟩
set_option maxRecDepth 20000 in
set_option maxHeartbeats 8000000 in
theorem KAllSubtract_c (s g s2 g2 : Nat) (C : Cfg) (B : Nat) (L L2 : Nat → Lev) (ls ls2 : Nat → List Int) (w : World) (h : KAt w s g C B L ls) (h2 : KAt w s2 g2 C B L2 ls2) (hmd : "Subtract" = "Subtract" → C.mode ≠ 2) :
    Calls Tryz.prog 127 #[.agg #[.func (.func 43) #[] #[]], .pointer (some ⟨s, 0, none⟩), .pointer (some ⟨s2, 0, none⟩)] w (KJoinPost w s g C B L (fun n => minusL (ls n) (ls2 n))) := by
  have HH := Lib.hid h
  have HH2 := Lib.hid h2
  have hok := h.ok
  have hB := h.hB
  have hb1 := hok.b1
  have hb2 := hok.b2
  have hB59 : B ≤ 59 := by omega
  have HB := Lib.hid hB
  have HMD := Lib.hid hmd
  have hlen : ∀ n, n ≤ B → (minusL (ls n) (ls2 n)).length = lvN C n := fun n hn => by rw [minusL_len]; exact (h.lev n hn).len
  have HLEN := Lib.hid hlen
  obtain ⟨ms, hms⟩ : ∃ ms : Nat → List Int, ms = fun n => minusL (ls n) (ls2 n) := ⟨_, rfl⟩
  have HMS := Lib.hid (show ∀ n, minusL (ls n) (ls2 n) = ms n from fun n => by rw [hms])
  rw [← hms]
  clear h h2 hB hmd hlen hms
  go_enter Tryz.func127, Tryz.ntmps127
  go_wp2
  go_step3
  go_wp2_with fail
  refine Calls.mono (KAlike_yes s g s2 g2 C B L L2 ls ls2 _ (HH.out.ext (Ext.alloc' _ _)) (HH2.out.ext (Ext.alloc' _ _))) ?_
  rintro e w1 ⟨rfl, hx1⟩
  have hj1 := hx1.keep (heap_at w (.cells #[.func (.func 43) #[] #[]] 204) rfl)
  have hE1 : Ext w w1 := (Ext.alloc' _ _).trans' hx1
  clear hx1
  go_wp2
  go_step3
  go_wp2_with fail
  refine Calls.mono (SKConfig_c s g C B L ls _ (HH.out.ext hE1)) ?_
  rintro e w2 ⟨rfl, hx2⟩
  have hj2 := hx2.keep hj1
  have hE2 : Ext w w2 := hE1.trans' hx2
  clear hj1 hx2 hE1
  have hfd : ∀ w, (Instr.field 24 (.agg #[.int .i64 C.bits, .int .i64 C.rows, .int .i64 C.width, .int .i64 C.mode, .int .u64 C.seed]) 0).run Tryz.prog w = .ok (.int .i64 C.bits) w := fun _ => by kernel_rfl
  go_wp2
  go_loopw [7, 8, 24] (fun u7 u8 u24 wr => ∃ (k : Nat) (rv : Nat → Value), k ≤ B + 1 ∧ u24 = .int .i64 k ∧ u8 = .int .i64 0 ∧ RowsAt wr w.heap.size k u7 rv ms ∧ Ext w wr ∧ wr.heap[w.heap.size]? = some (.cells #[.func (.func 43) #[] #[]] 204 (0, 0)) ∧ ∀ n, n < k → allI (ms n)) (fun _ _ u24 _ => B + 1 - (intOf u24).toNat)
  case atStart => exact ⟨0, fun _ => undef, Nat.zero_le _, rfl, rfl, RowsAt.zero _ _ _ _, hE2, hj2, fun n hn => absurd hn (Nat.not_lt_zero _)⟩
  case round =>
    clear hE2 hj2
    obtain ⟨k, rv, hk, rfl, rfl, hR, hE, hj, hall⟩ := hrel
    have HALL := Lib.hid hall
    have HR := Lib.hid hR
    have HJ := Lib.hid hj
    have hsE := hE.size
    clear hall hR hj
    by_cases hlt : k < B + 1
    · have hlt' : (k : Int) < C.bits + 1 := by have := HB.out; omega
      go_wp2_with fail
      refine Calls.mono (KAt_c s g C B L ls _ (HH.out.ext hE) k (by omega)) ?_
      rintro e w3 ⟨M, rfl, hL, m1, m2, m3, hx3⟩
      have hE3 := hE.trans' hx3
      have hs3 := hx3.size
      rw [lvV_eq]
      have HL := Lib.hid hL
      clear hL
      go_wp2_with fail
      refine Calls.mono (KAt_c s2 g2 C B L2 ls2 _ (HH2.out.ext hE3) k (by omega)) ?_
      rintro e w4 ⟨M2, rfl, hL2, n1, n2, n3, hx4⟩
      have hE4 := hE3.trans' hx4
      rw [lvV_eq]
      have HL4 := Lib.hid (HL.out.ext hx4)
      have HL2 := Lib.hid hL2
      have hj4 := (hx3.trans' hx4).keep HJ.out
      have c0 := (cell_of hj4 0).trans rfl
      have l0 := lt_of hj4
      clear hL2 HL
      have hcall : Calls Tryz.prog 43 #[.iface (lvT C k) (.pointer (some ⟨M.s, 0, none⟩)), .iface (lvT C k) (.pointer (some ⟨M2.s, 0, none⟩))] w4 (LMergePost w4 M C k (ms k)) := by
        rw [← HMS.out k]
        first | exact LMerge_c C k M M2 _ _ w4 HL4.out HL2.out | exact LSubtract_c C k M M2 _ _ w4 HL4.out HL2.out (HMD.out (by first | rfl | trivial))
      have HCALL := Lib.hid hcall
      clear hcall
      have hs4 := hx4.size
      go_wp2_with fail
      refine Calls.mono HCALL.out ?_
      rintro e w5 (⟨ha, rfl, hL5, hm5⟩ | ⟨ha, rfl, hx5⟩)
      · have hE5 : Ext wr w5 := Below.trans (hx3.trans' hx4) (hm5.below (by omega) (fun i hi => by rw [hi]; exact m3))
        have hj5 := hE5.keep HJ.out
        have HL5 := Lib.hid hL5
        have HA := Lib.hid ha
        have HJ5 := Lib.hid hj5
        have mC := lvm_Cells C k (some ⟨M.s, 0, none⟩)
        have eC := lve_Cells C k
        clear hL5 hm5 ha hj5 hj4 c0 l0 hx3 hx4 hE3 hE4
        go_wp2_with fail
        refine Calls.mono (LCells_c C k M _ _ HL5.out) ?_
        rintro e w6 ⟨v, rfl, ho, _, hx6⟩
        have hE6 := hE5.trans' hx6
        have hpos : 0 < (ms k).length := by rw [HL5.out.len]; exact lvN_pos hok (Int.natCast_nonneg k)
        have hu : RowIs w6 w.heap.size v (ms k) := by
          obtain ⟨z, cap, cur, r1, r2, r3, r4, r5⟩ := own_row1 ho hpos
          exact ⟨z, cap, cur, r1, r2, by have := hE5.size; omega, r4, r5⟩
        have hR6 := HR.out.ext hE6
        have hj6 := hx6.keep HJ5.out
        have HU := Lib.hid hu
        have HR6 := Lib.hid hR6
        have HJ6 := Lib.hid hj6
        obtain ⟨vp, vc, rfl⟩ : ∃ p c, v = .slice p (ms k).length c := by obtain ⟨z, cap, cur, r1, _⟩ := hu; exact ⟨_, _, r1⟩
        have hs6 := hE6.size
        obtain ⟨i0, z0, hi0, hz0, hz1, hz2, hz3⟩ := info_row
        clear mC eC hu hR6 hj6 ho hx6 hE5
        go_wp2_with (at_builtin; refine wpList_appB w6 24 (by decide) (.slice vp (ms k).length vc) rfl ((List.range k).map rv) u7 w.heap.size 43 HR6.out.row 159 rfl _ _ rfl i0 z0 hi0 hz0 hz1 hz2 hz3 Tryz.underlying159 rfl rfl ?b1 ?b2 ?_)
        case b1 => rw [List.length_map, List.length_range]; omega
        case b2 => omega
        intro v' w' g1 g2
        have hown' := g1
        have hnext := HR6.out.next HU.out (by rw [List.length_append, List.length_map, List.length_range]; exact hown') g2
        have hEw : Ext w w' := ext_grown (hE.trans' hE6) g2 (fun i hi => own_blk HR6.out.row hi)
        have hjw := (grown_old g2 (lt_of HJ6.out) (fun e => own_notB HR6.out.row HJ6.out (by decide) e.symm)).trans HJ6.out
        obtain ⟨pv, nv, cv, rfl⟩ := own_slice g1
        have HN := Lib.hid hnext
        have HJW := Lib.hid hjw
        clear g1 g2 hnext hown' hjw
        go_wp2
        go_roundw
        case rel =>
          refine ⟨k + 1, _, by omega, by go_num, rfl, HN.out, hEw, HJW.out, fun n hn => ?_⟩
          by_cases e : n = k
          · rw [e]; exact HA.out
          · exact HALL.out n (by omega)
        case measure => simp [intOf]; omega
      · go_wp2
        try rw [Exit.noGoto_ret]
        go_ret
        exact .inr ⟨fun h => ha (h k (by omega)), rfl, hE4.trans' hx5⟩
    · obtain rfl : k = B + 1 := by omega
      have hlt' : ¬ (((B + 1 : Nat) : Int) < C.bits + 1) := by have := HB.out; omega
      rename World => wo
      obtain ⟨m, mc, rfl, hmB, hml, hmc⟩ := HR.out.cells (by omega)
      have HMC := Lib.hid hmc
      have hlc : ∀ i, cellsOf B L i → i < w.heap.size := fun i hi => HH.out.ltc hi
      have HLC := Lib.hid hlc
      have HK0 := Lib.hid (HH.out.ext hE)
      clear hmc hlc
      go_wp2
      go_loopw [57] (fun u57 wr => ∃ j : Nat, j ≤ B + 1 ∧ u57 = .int .i64 j ∧ Mod (cellsOf B L) wo wr ∧ KAt wr s g C B L (fun n => if n < j then ms n else ls n)) (fun u57 _ => B + 1 - (intOf u57).toNat)
      case atStart => exact ⟨0, Nat.zero_le _, rfl, Mod.refl _ _, HK0.out.cong (fun n _ => by rw [if_neg (Nat.not_lt_zero _)])⟩
      case round =>
        obtain ⟨j, hj, rfl, hM, hK⟩ := hrel
        have hsM := hM.size
        by_cases hjl : j < B + 1
        · have hRj := (HR.out.is j hjl).mod hM HLC.out
          have hcj := (mcell hM hml (fun h => by have := HLC.out _ h; omega) _).trans (HMC.out j hjl)
          have lm : m < wr.heap.size := Nat.lt_of_lt_of_le hml hsM
          have HK := Lib.hid hK
          have HRJ := Lib.hid hRj
          obtain ⟨zp, zc, hzz⟩ : ∃ p c, rv j = .slice p (ms j).length c := by obtain ⟨z, cap, cur, r1, _⟩ := hRj; exact ⟨_, _, r1⟩
          rw [hzz] at hcj HRJ
          clear hK hRj hzz
          go_wp2_with fail
          refine Calls.mono (KLoad_yes s g C B L _ _ HK.out j (by omega) (ms j) _ HRJ.out.ints (HALL.out j hjl) (by rw [← HMS.out j]; exact HLEN.out j (by omega)) ?_) ?_
          · rintro g' off k' cap' he e
            obtain ⟨z, cap, cur, r1, r2, r3, _⟩ := HRJ.out
            rw [he] at r1
            have : g' = z := by
              have h1 := (Value.slice.inj r1).1
              simp at h1
              exact h1.1
            have := HLC.out _ ⟨j, by omega, rfl⟩
            omega
          rintro e w5 ⟨rfl, hK5, hm5⟩
          go_wp2
          go_roundw
          case rel =>
            refine ⟨j + 1, by omega, by go_num, hM.trans (hm5.mono (fun i hi _ => ⟨j, by omega, hi⟩)), hK5.cong (fun n _ => ?_)⟩
            by_cases e : n = j
            · rw [if_pos e, if_pos (by omega), e]
            · rw [if_neg e]
              by_cases h : n < j
              · rw [if_pos h, if_pos (by omega)]
              · rw [if_neg h, if_neg (by omega)]
          case measure => simp [intOf]; omega
        · obtain rfl : j = B + 1 := by omega
          go_wp2
          try rw [Exit.noGoto_ret]
          go_ret
          exact .inl ⟨fun n hn => HALL.out n (by omega), rfl, hK.cong (fun n hn => if_pos (by omega)), (hE.mod _).trans hM⟩
end Go.Proofs.YtfhdjekpdifajaaGreat
namespace Go.Proofs.YtfhdjekpdifajaaGreat
set_option linter.unusedVariables false
open Go.RowKit
set_option maxRecDepth 20000 in
set_option maxHeartbeats 4000000 in
theorem KMerge_c (s g s2 g2 : Nat) (C : Cfg) (B : Nat) (L L2 : Nat → Lev) (ls ls2 : Nat → List Int) (w : World) (h : KAt w s g C B L ls) (h2 : KAt w s2 g2 C B L2 ls2) (hmd : "Merge" = "Subtract" → C.mode ≠ 2) :
    Calls Tryz.prog 63 #[.pointer (some ⟨s, 0, none⟩), .pointer (some ⟨s2, 0, none⟩)] w (KJoinPost w s g C B L (fun n => plusL (ls n) (ls2 n))) := by
  have HA := Lib.hid (KAllMerge_c s g s2 g2 C B L L2 ls ls2 w h h2 hmd)
  clear h h2 hmd
  go_enter Tryz.func63, Tryz.ntmps63
  go_wp2_with fail
  refine Calls.mono HA.out ?_
  rintro e w1 (⟨h1, rfl, h2, h3⟩ | ⟨h1, rfl, h2⟩)
  · go_wp2
    go_ret
    exact .inl ⟨h1, rfl, h2, h3⟩
  · go_wp2
    go_ret
    exact .inr ⟨h1, rfl, h2⟩
set_option maxRecDepth 20000 in
set_option maxHeartbeats 4000000 in
theorem KMerge_nil2 (s : Nat) (w : World) :
    Calls Tryz.prog 63 #[.pointer (some ⟨s, 0, none⟩), .pointer none] w fun e w' => e = .returned (.int .i64 5) ∧ Ext w w' := by
  have hall : Calls Tryz.prog 127 #[.agg #[.func (.func 41) #[] #[]], .pointer (some ⟨s, 0, none⟩), .pointer none] w fun e w' => e = .returned (.int .i64 5) ∧ Ext w w' := by
    go_enter Tryz.func127, Tryz.ntmps127
    go_wp2
    go_step3
    go_wp2_with fail
    refine Calls.mono (KAlike_nil2 s _) ?_
    rintro e w1 ⟨rfl, rfl⟩
    go_wp2
    try rw [Exit.noGoto_ret]
    go_ret
    exact ⟨rfl, Ext.alloc' _ _⟩
  have HALL := Lib.hid hall
  clear hall
  go_enter Tryz.func63, Tryz.ntmps63
  go_wp2_with fail
  refine Calls.mono HALL.out ?_
  rintro e w1 ⟨rfl, hx1⟩
  go_wp2
  go_ret
  exact ⟨rfl, hx1⟩
set_option maxRecDepth 20000 in
set_option maxHeartbeats 4000000 in
theorem KSubtract_c (s g s2 g2 : Nat) (C : Cfg) (B : Nat) (L L2 : Nat → Lev) (ls ls2 : Nat → List Int) (w : World) (h : KAt w s g C B L ls) (h2 : KAt w s2 g2 C B L2 ls2) (hmd : "Subtract" = "Subtract" → C.mode ≠ 2) :
    Calls Tryz.prog 65 #[.pointer (some ⟨s, 0, none⟩), .pointer (some ⟨s2, 0, none⟩)] w (KJoinPost w s g C B L (fun n => minusL (ls n) (ls2 n))) := by
  have HA := Lib.hid (KAllSubtract_c s g s2 g2 C B L L2 ls ls2 w h h2 hmd)
  clear h h2 hmd
  go_enter Tryz.func65, Tryz.ntmps65
  go_wp2_with fail
  refine Calls.mono HA.out ?_
  rintro e w1 (⟨h1, rfl, h2, h3⟩ | ⟨h1, rfl, h2⟩)
  · go_wp2
    go_ret
    exact .inl ⟨h1, rfl, h2, h3⟩
  · go_wp2
    go_ret
    exact .inr ⟨h1, rfl, h2⟩
set_option maxRecDepth 20000 in
set_option maxHeartbeats 8000000 in
/-- In the mode Conservative nothing is taken away. -/
theorem KSubtract_mode (s g s2 g2 : Nat) (C : Cfg) (B : Nat) (L L2 : Nat → Lev) (ls ls2 : Nat → List Int) (w : World) (h : KAt w s g C B L ls) (h2 : KAt w s2 g2 C B L2 ls2) (hm : C.mode = 2) :
    Calls Tryz.prog 65 #[.pointer (some ⟨s, 0, none⟩), .pointer (some ⟨s2, 0, none⟩)] w fun e w' => e = .returned (.int .i64 3) ∧ Ext w w' := by
  have HH := Lib.hid h
  have HH2 := Lib.hid h2
  have hok := h.ok
  have hb1 := hok.b1
  have hb2 := hok.b2
  have HM := Lib.hid hm
  clear h h2 hm
  have hall : Calls Tryz.prog 127 #[.agg #[.func (.func 43) #[] #[]], .pointer (some ⟨s, 0, none⟩), .pointer (some ⟨s2, 0, none⟩)] w fun e w' => e = .returned (.int .i64 3) ∧ Ext w w' := by
    go_enter Tryz.func127, Tryz.ntmps127
    go_wp2
    go_step3
    go_wp2_with fail
    refine Calls.mono (KAlike_yes s g s2 g2 C B L L2 ls ls2 _ (HH.out.ext (Ext.alloc' _ _)) (HH2.out.ext (Ext.alloc' _ _))) ?_
    rintro e w1 ⟨rfl, hx1⟩
    have hj1 := hx1.keep (heap_at w (.cells #[.func (.func 43) #[] #[]] 204) rfl)
    have hE1 : Ext w w1 := (Ext.alloc' _ _).trans' hx1
    clear hx1
    go_wp2
    go_step3
    go_wp2_with fail
    refine Calls.mono (SKConfig_c s g C B L ls _ (HH.out.ext hE1)) ?_
    rintro e w2 ⟨rfl, hx2⟩
    have hj2 := hx2.keep hj1
    have hE2 : Ext w w2 := hE1.trans' hx2
    clear hj1 hx2 hE1
    have hfd : ∀ w, (Instr.field 24 (.agg #[.int .i64 C.bits, .int .i64 C.rows, .int .i64 C.width, .int .i64 C.mode, .int .u64 C.seed]) 0).run Tryz.prog w = .ok (.int .i64 C.bits) w := fun _ => by kernel_rfl
    have hlt' : (0 : Int) < C.bits + 1 := by omega
    go_wp2
    refine wp_loop_rounds 1 ?_
    rw [rounds_succ]
    go_wp2_with fail
    refine Calls.mono (KAt_c s g C B L ls _ (HH.out.ext hE2) 0 (Nat.zero_le _)) ?_
    rintro e w3 ⟨M, rfl, hL, m1, m2, m3, hx3⟩
    have hE3 := hE2.trans' hx3
    rw [lvV_eq]
    have HL := Lib.hid hL
    clear hL
    go_wp2_with fail
    refine Calls.mono (KAt_c s2 g2 C B L2 ls2 _ (HH2.out.ext hE3) 0 (Nat.zero_le _)) ?_
    rintro e w4 ⟨M2, rfl, hL2, n1, n2, n3, hx4⟩
    have hE4 := hE3.trans' hx4
    rw [lvV_eq]
    have HL4 := Lib.hid (HL.out.ext hx4)
    have HL2 := Lib.hid hL2
    have hj4 := (hx3.trans' hx4).keep hj2
    have c0 := (cell_of hj4 0).trans rfl
    have l0 := lt_of hj4
    clear hL2 HL
    have hcall : Calls Tryz.prog 43 #[.iface (lvT C (0 : Nat)) (.pointer (some ⟨M.s, 0, none⟩)), .iface (lvT C (0 : Nat)) (.pointer (some ⟨M2.s, 0, none⟩))] w4 (fun e w' => e = .returned (.int .i64 3) ∧ Ext w4 w') :=
      LSubtract_mode C (0 : Nat) M M2 _ _ w4 HL4.out HL2.out HM.out
    have HCALL := Lib.hid hcall
    clear hcall
    go_wp2_with fail
    refine Calls.mono HCALL.out ?_
    rintro e w5 ⟨rfl, hx5⟩
    go_wp2
    try rw [Exit.noGoto_ret]
    go_ret
    exact ⟨rfl, hE4.trans' hx5⟩
  have HALL := Lib.hid hall
  clear hall
  go_enter Tryz.func65, Tryz.ntmps65
  go_wp2_with fail
  refine Calls.mono HALL.out ?_
  rintro e w1 ⟨rfl, hx1⟩
  go_wp2
  go_ret
  exact ⟨rfl, hx1⟩
theorem wz2 {w w' : World} (h : Ext w w') {c : Array Value} {t : TypeId} (hb : w'.heap[w.heap.size]? = some (.cells c t (0, 0))) (u v : Value) : Ext w ((w'.setCell ⟨w.heap.size, 0, none⟩ u).setCell ⟨w.heap.size, 1, none⟩ v) :=
  (h.setR (p := ⟨w.heap.size, 0, none⟩) (Nat.le_refl _) u).setR (p := ⟨w.heap.size, 1, none⟩) (Nat.le_refl _) v
set_option maxRecDepth 20000 in
set_option maxHeartbeats 8000000 in
/-- The product of two stacks is that of their lowest levels. -/
theorem KInner_c (s g s2 g2 : Nat) (C : Cfg) (B : Nat) (L L2 : Nat → Lev) (ls ls2 : Nat → List Int) (w : World) (h : KAt w s g C B L ls) (h2 : KAt w s2 g2 C B L2 ls2) (H : Int) (l : Int) (k : Int)
    (hI : ∀ (M M2 : Lev) (W : World), LvAt W M C 0 (ls 0) → LvAt W M2 C 0 (ls2 0) → Calls Tryz.prog 45 #[lvV C 0 M, lvV C 0 M2] W fun e w' => e = .returned (.tuple #[.agg #[.int .i64 H, .int .u64 l], .int .i64 k]) ∧ Ext W w') :
    Calls Tryz.prog 66 #[.pointer (some ⟨s, 0, none⟩), .pointer (some ⟨s2, 0, none⟩)] w fun e w' => e = .returned (.tuple #[.agg #[.int .i64 H, .int .u64 l], .int .i64 k]) ∧ Ext w w' := by
  have HH := Lib.hid h
  have HH2 := Lib.hid h2
  have HI := Lib.hid hI
  clear h h2 hI
  go_enter Tryz.func66, Tryz.ntmps66
  go_wp2_with fail
  refine Calls.mono (KAlike_yes s g s2 g2 C B L L2 ls ls2 _ (HH.out.ext (Ext.alloc' _ _)) (HH2.out.ext (Ext.alloc' _ _))) ?_
  rintro e w1 ⟨rfl, hx1⟩
  have hb1 := hx1.keep (heap_at w (.cells #[.int .i64 0, .int .u64 0] 75) rfl)
  have hE1 : Ext w w1 := (Ext.alloc' _ _).trans' hx1
  clear hx1
  go_wp2_with fail
  refine Calls.mono (KAt_c s g C B L ls _ (HH.out.ext hE1) 0 (Nat.zero_le _)) ?_
  rintro e w3 ⟨M, rfl, hL, m1, m2, m3, hx3⟩
  have hE3 := hE1.trans' hx3
  rw [lvV_eq]
  have HL := Lib.hid hL
  clear hL
  go_wp2_with fail
  refine Calls.mono (KAt_c s2 g2 C B L2 ls2 _ (HH2.out.ext hE3) 0 (Nat.zero_le _)) ?_
  rintro e w4 ⟨M2, rfl, hL2, n1, n2, n3, hx4⟩
  have hE4 := hE3.trans' hx4
  rw [lvV_eq]
  have hcall := HI.out M M2 w4 (HL.out.ext hx4) hL2
  have hb4 := (hx3.trans' hx4).keep hb1
  rw [lvV_eq, lvV_eq] at hcall
  have HCALL := Lib.hid hcall
  clear hcall hL2 HL hb1 hx3 hx4
  go_wp2_with fail
  refine Calls.mono HCALL.out ?_
  rintro e w5 ⟨rfl, hx5⟩
  have hb5 := hx5.keep hb4
  have hE5 := hE4.trans' hx5
  have p0 := (cell_of hb5 0).trans rfl
  have p1 := (cell_of hb5 1).trans rfl
  have f0 := frozen_of hb5 0
  have f1 := frozen_of hb5 1
  have l5 := lt_of hb5
  have HB5 := Lib.hid hb5
  clear hb4 hb5
  go_wp2_with fail
  refine bodyPost_ret (v := .tuple #[.agg #[.int .i64 H, .int .u64 l], .int .i64 k]) (by simp [results, Tryz.results66, go_sem, *]) rfl ⟨rfl, wz2 hE5 HB5.out _ _⟩
end Go.Proofs.YtfhdjekpdifajaaGreat
namespace Go.Proofs.YtfhdjekpdifajaaGreat
set_option linter.unusedVariables false
open Go.RowKit
noncomputable def jEK (B : Nat) (ms : Nat → List Int) : Int := by classical exact if ∀ n, n ≤ B → allI (ms n) then 0 else 4
noncomputable def jLK (B : Nat) (ms l : Nat → List Int) : Nat → List Int := by classical exact if ∀ n, n ≤ B → allI (ms n) then ms else l
theorem jEK_yes {B : Nat} {ms : Nat → List Int} (h : ∀ n, n ≤ B → allI (ms n)) : jEK B ms = 0 := by unfold jEK; exact if_pos h
theorem jEK_no {B : Nat} {ms : Nat → List Int} (h : ¬ ∀ n, n ≤ B → allI (ms n)) : jEK B ms = 4 := by unfold jEK; exact if_neg h
theorem jLK_yes {B : Nat} {ms l : Nat → List Int} (h : ∀ n, n ≤ B → allI (ms n)) : jLK B ms l = ms := by unfold jLK; exact if_pos h
theorem jLK_no {B : Nat} {ms l : Nat → List Int} (h : ¬ ∀ n, n ≤ B → allI (ms n)) : jLK B ms l = l := by unfold jLK; exact if_neg h
noncomputable def subEK (C : Cfg) (B : Nat) (l m : Nat → List Int) : Int := if C.mode = 2 then 3 else jEK B (fun n => minusL (l n) (m n))
noncomputable def subLK (C : Cfg) (B : Nat) (l m : Nat → List Int) : Nat → List Int := if C.mode = 2 then l else jLK B (fun n => minusL (l n) (m n)) l
section
variable {N : Nat} {w w' : World} {F1 F2 F3 F4 : Nat → Prop} {P1 P2 P3 P4 : World → Prop} {C : Cfg} {B s r o q : Nat} {g t g2 t2 : Nat} {L L2 : Nat → Lev} {M M2 : Nat → RLev} {l l' m m' : Nat → List Int}
theorem o_merge (h : Own4 N w (kF s g B L) F2 F3 F4 (fun w => KAt w s g C B L l) P2 P3 P4) (h2 : KAt w o g2 C B L2 m) :
    Calls Tryz.prog 63 #[.pointer (some ⟨s, 0, none⟩), .pointer (some ⟨o, 0, none⟩)] w fun e w' => e = .returned (.int .i64 (jEK B (fun n => plusL (l n) (m n)))) ∧ Own4 N w' (kF s g B L) F2 F3 F4 (fun w => KAt w s g C B L (jLK B (fun n => plusL (l n) (m n)) l)) P2 P3 P4 ∧ Below N w w' := by
  refine (KMerge_c s g o g2 C B L L2 l m w h.o1.h h2 (fun h => absurd h (by decide))).mono ?_
  rintro e w' (⟨ha, rfl, hK, hM⟩ | ⟨ha, rfl, hE⟩)
  · rw [jEK_yes ha, jLK_yes ha]
    exact ⟨rfl, h.step hM (fun k hk => cellsOf_kF hk) hK.own (fun k hk => .inl hk), h.low hM (fun k hk => cellsOf_kF hk)⟩
  · rw [jEK_no ha, jLK_no ha]
    exact ⟨rfl, h.ext hE, h.low (hE.mod (fun _ => False)) (fun k hk => hk.elim)⟩
theorem o_sub (h : Own4 N w (kF s g B L) F2 F3 F4 (fun w => KAt w s g C B L l) P2 P3 P4) (h2 : KAt w o g2 C B L2 m) :
    Calls Tryz.prog 65 #[.pointer (some ⟨s, 0, none⟩), .pointer (some ⟨o, 0, none⟩)] w fun e w' => e = .returned (.int .i64 (subEK C B l m)) ∧ Own4 N w' (kF s g B L) F2 F3 F4 (fun w => KAt w s g C B L (subLK C B l m)) P2 P3 P4 ∧ Below N w w' := by
  unfold subEK subLK
  by_cases hmd : C.mode = 2
  · rw [if_pos hmd, if_pos hmd]
    refine (KSubtract_mode s g o g2 C B L L2 l m w h.o1.h h2 hmd).mono ?_
    rintro e w' ⟨rfl, hE⟩
    exact ⟨rfl, h.ext hE, h.low (hE.mod (fun _ => False)) (fun k hk => hk.elim)⟩
  · rw [if_neg hmd, if_neg hmd]
    refine (KSubtract_c s g o g2 C B L L2 l m w h.o1.h h2 (fun _ => hmd)).mono ?_
    rintro e w' (⟨ha, rfl, hK, hM⟩ | ⟨ha, rfl, hE⟩)
    · rw [jEK_yes ha, jLK_yes ha]
      exact ⟨rfl, h.step hM (fun k hk => cellsOf_kF hk) hK.own (fun k hk => .inl hk), h.low hM (fun k hk => cellsOf_kF hk)⟩
    · rw [jEK_no ha, jLK_no ha]
      exact ⟨rfl, h.ext hE, h.low (hE.mod (fun _ => False)) (fun k hk => hk.elim)⟩
theorem o_rjoin (h : Own4 N w F1 F2 (rkF r t C B M) F4 P1 P2 (fun w => RKAt w r t C B M l') P4) (h2 : RKAt w q t2 C B M2 m') :
    Calls Tryz.prog 64 #[.pointer (some ⟨r, 0, none⟩), .pointer (some ⟨q, 0, none⟩), .int .i64 1] w fun e w' => ∃ t' M', e = .returned (.int .i64 (jEK B (fun n => plusL (l' n) (m' n)))) ∧ Own4 N w' F1 F2 (rkF r t' C B M') F4 P1 P2 (fun w => RKAt w r t' C B M' (jLK B (fun n => plusL (l' n) (m' n)) l')) P4 ∧ Below N w w' := by
  have hS : ∀ k, k = r → rkF r t C B M k := fun k hk => by rw [hk]; exact .inl rfl
  refine (RKJoinPlus_c r t q t2 C B M M2 l' m' w h.o3.h h2 (fun h => absurd h (by decide))).mono ?_
  rintro e w' (⟨ha, rfl, t', L', hR, hF, hM⟩ | ⟨ha, rfl, hE⟩)
  · rw [jEK_yes ha, jLK_yes ha]
    exact ⟨t', L', rfl, (h.rot.step hM hS hR.own (fun k hk => (hF k hk).imp (hS k) id)).rot, h.rot.low hM hS⟩
  · rw [jEK_no ha, jLK_no ha]
    exact ⟨t, M, rfl, h.ext hE, h.low (hE.mod (fun _ => False)) (fun k hk => hk.elim)⟩
theorem o_rsub (h : Own4 N w F1 F2 (rkF r t C B M) F4 P1 P2 (fun w => RKAt w r t C B M l') P4) (h2 : RKAt w q t2 C B M2 m') :
    Calls Tryz.prog 64 #[.pointer (some ⟨r, 0, none⟩), .pointer (some ⟨q, 0, none⟩), .int .i64 (-1)] w fun e w' => ∃ t' M', e = .returned (.int .i64 (subEK C B l' m')) ∧ Own4 N w' F1 F2 (rkF r t' C B M') F4 P1 P2 (fun w => RKAt w r t' C B M' (subLK C B l' m')) P4 ∧ Below N w w' := by
  have hS : ∀ k, k = r → rkF r t C B M k := fun k hk => by rw [hk]; exact .inl rfl
  unfold subEK subLK
  by_cases hmd : C.mode = 2
  · rw [if_pos hmd, if_pos hmd]
    refine (RKJoin_mode r t q t2 C B M M2 l' m' w h.o3.h h2 hmd).mono ?_
    rintro e w' ⟨rfl, hE⟩
    exact ⟨t, M, rfl, h.ext hE, h.low (hE.mod (fun _ => False)) (fun k hk => hk.elim)⟩
  · rw [if_neg hmd, if_neg hmd]
    refine (RKJoinMinus_c r t q t2 C B M M2 l' m' w h.o3.h h2 (fun _ => hmd)).mono ?_
    rintro e w' (⟨ha, rfl, t', L', hR, hF, hM⟩ | ⟨ha, rfl, hE⟩)
    · rw [jEK_yes ha, jLK_yes ha]
      exact ⟨t', L', rfl, (h.rot.step hM hS hR.own (fun k hk => (hF k hk).imp (hS k) id)).rot, h.rot.low hM hS⟩
    · rw [jEK_no ha, jLK_no ha]
      exact ⟨t, M, rfl, h.ext hE, h.low (hE.mod (fun _ => False)) (fun k hk => hk.elim)⟩
theorem KInnerAny_c (h : KAt w s g C B L l) (h2 : KAt w o g2 C B L2 m) :
    Calls Tryz.prog 66 #[.pointer (some ⟨s, 0, none⟩), .pointer (some ⟨o, 0, none⟩)] w fun e w' => e = .returned (.tuple #[.agg #[.int .i64 (inV C 0 (l 0) (m 0)).1, .int .u64 (inV C 0 (l 0) (m 0)).2.1], .int .i64 (inV C 0 (l 0) (m 0)).2.2]) ∧ Ext w w' :=
  KInner_c s g o g2 C B L L2 l m w h h2 _ _ _ (fun M M2 W h1 h3 => LInnerAny_c C 0 M M2 (l 0) (m 0) W h1 h3)
end
/-- Two and two stacks that have the same cells. -/
def S4K (N : Nat) (w : World) (C : Cfg) (B : Nat) (v1 v2 v3 v4 : Value) : Prop :=
  ∃ s g L o g2 L2 r t M q t2 M2 l m, v1 = .pointer (some ⟨s, 0, none⟩) ∧ v2 = .pointer (some ⟨o, 0, none⟩) ∧ v3 = .pointer (some ⟨r, 0, none⟩) ∧ v4 = .pointer (some ⟨q, 0, none⟩) ∧
    Own4 N w (kF s g B L) (kF o g2 B L2) (rkF r t C B M) (rkF q t2 C B M2) (fun w => KAt w s g C B L l) (fun w => KAt w o g2 C B L2 m) (fun w => RKAt w r t C B M l) (fun w => RKAt w q t2 C B M2 m)
theorem S4K.mk {N : Nat} {w : World} {C : Cfg} {B s g o g2 r t q t2 : Nat} {L L2 : Nat → Lev} {M M2 : Nat → RLev} {l m : Nat → List Int}
    (h : Own4 N w (kF s g B L) (kF o g2 B L2) (rkF r t C B M) (rkF q t2 C B M2) (fun w => KAt w s g C B L l) (fun w => KAt w o g2 C B L2 m) (fun w => RKAt w r t C B M l) (fun w => RKAt w q t2 C B M2 m)) :
    S4K N w C B (.pointer (some ⟨s, 0, none⟩)) (.pointer (some ⟨o, 0, none⟩)) (.pointer (some ⟨r, 0, none⟩)) (.pointer (some ⟨q, 0, none⟩)) := ⟨s, g, L, o, g2, L2, r, t, M, q, t2, M2, l, m, rfl, rfl, rfl, rfl, h⟩
end Go.Proofs.YtfhdjekpdifajaaGreat
namespace Go.Proofs.YtfhdjekpdifajaaGreat
set_option linter.unusedVariables false
open Go.RowKit
theorem plusL_bnd {A B : Int} {a b : List Int} (ha : Bnd A a) (hb : Bnd B b) (hB : 0 ≤ B) : Bnd (A + B) (plusL a b) := by
  intro x hx
  simp only [plusL, List.mem_map, List.mem_range] at hx
  obtain ⟨i, hi, rfl⟩ := hx
  have h1 := ha (a.getD i 0) (getD_mem hi)
  have h2 := hb.getD hB i
  omega
theorem Bnd.allI {A : Int} {l : List Int} (h : Bnd A l) (hA : A ≤ 9223372036854775807) : allI l := by
  intro x hx
  have := h x hx
  unfold I64; constructor <;> omega
end Go.Proofs.YtfhdjekpdifajaaGreat
namespace Go.Proofs.YtfhdjekpdifajaaGreat
set_option linter.unusedVariables false
open Go.RowKit
def K1 : Cfg := ⟨2, 1, 4, 1, 0⟩
theorem K1_ok : K1.Ok := by constructor <;> simp [K1, U64]
theorem K1_x (n : Nat) : isX K1 n = true := by
  have : keys K1 n ≤ 4 := by
    unfold keys
    have h : (2 : Nat) ^ ((2 : Int) - (n : Int)).toNat ≤ 2 ^ 2 := Nat.pow_le_pow_right (by decide) (by omega)
    show (2 : Int) ^ ((2 : Int) - (n : Int)).toNat ≤ 4
    exact_mod_cast h
  unfold isX
  exact decide_eq_true this
def K1z : Nat → List Int := fun n => zs (lvN K1 n)
def K1a : Nat → List Int := updK K1 K1z 1 5
def K1b : Nat → List Int := updK K1 K1z 1 2
def K1c : Nat → List Int := updK K1 K1b 3 4
theorem K1a_bnd (n : Nat) : Bnd 5 (K1a n) := updK_bnd (B' := 0) (T := 5) (zs_bnd _) (by decide) (by decide) (by decide)
theorem K1b_bnd (n : Nat) : Bnd 4 (K1b n) := updK_bnd (B' := 0) (T := 4) (zs_bnd _) (by decide) (by decide) (by decide)
theorem K1c_bnd (n : Nat) : Bnd 8 (K1c n) := updK_bnd (B' := 4) (T := 4) (K1b_bnd n) (by decide) (by decide) (by decide)
theorem K1_e1 : errK K1 2 K1z 1 5 = 0 := errK_ok K1_ok rfl (B' := 0) (T := 5) (fun n _ => zs_bnd _) (by decide) (by decide) (by decide) (by decide) (by decide) (by decide) (by decide)
theorem K1_e2 : errK K1 2 K1z 1 2 = 0 := errK_ok K1_ok rfl (B' := 0) (T := 4) (fun n _ => zs_bnd _) (by decide) (by decide) (by decide) (by decide) (by decide) (by decide) (by decide)
theorem K1_e3 : errK K1 2 K1b 3 4 = 0 := errK_ok K1_ok rfl (B' := 4) (T := 4) (fun n _ => K1b_bnd n) (by decide) (by decide) (by decide) (by decide) (by decide) (by decide) (by decide)
theorem K1a_0 : K1a 0 = [0, 5, 0, 0] := by
  unfold K1a updK
  rw [lvU_x (K1_x 0)]
  rfl
theorem K1c_0 : K1c 0 = [0, 2, 0, 4] := by
  unfold K1c K1b updK
  rw [lvU_x (K1_x 0), lvU_x (K1_x 0)]
  rfl
def K1s : Nat → List Int := fun n => plusL (K1a n) (K1c n)
theorem K1s_0 : K1s 0 = [0, 7, 0, 4] := by unfold K1s; rw [K1a_0, K1c_0]; rfl
theorem K1s_all : ∀ n, n ≤ 2 → allI (K1s n) := fun n _ => (plusL_bnd (K1a_bnd n) (K1c_bnd n) (by decide)).allI (by decide)
theorem K1_len (n : Nat) : (K1a n).length = (K1c n).length := by
  unfold K1a K1c K1b updK
  rw [lvU_len, lvU_len, lvU_len]
theorem K1_minus (n : Nat) : minusL (K1s n) (K1c n) = K1a n := minus_plus (K1_len n)
theorem K1a_all : ∀ n, n ≤ 2 → allI (K1a n) := fun n _ => (K1a_bnd n).allI (by decide)
theorem K1_in : lvInn K1 0 (K1a 0) (K1c 0) = some 10 := by
  unfold lvInn
  rw [show isX K1 0 = true from K1_x 0, K1a_0, K1c_0]
  decide
theorem V10 : innV (some 10) = .tuple #[.agg #[.int .i64 0, .int .u64 10], .int .i64 0] := rfl
theorem Of10 (w : World) : Calls Tryz.prog 96 #[.int .i64 10] w fun e w' => e = .returned (.agg #[.int .i64 0, .int .u64 10]) ∧ Ext w w' := Of_c 10 (by unfold I64; omega) w
theorem ints4 {w : World} {a b c d : Int} {t : TypeId} {n : Nat} {W : World} (h : W.heap[n]? = some (.cells #[.int .i64 a, .int .i64 b, .int .i64 c, .int .i64 d] t (0, 0))) : IntsAt W (.slice (some ⟨n, 0, none⟩) 4 4) [a, b, c, d] := by
  have h0 := (cell_of h 0).trans rfl
  have h1 := (cell_of h 1).trans rfl
  have h2 := (cell_of h 2).trans rfl
  have h3 := (cell_of h 3).trans rfl
  refine .inr ⟨n, 0, 4, rfl, lt_of h, fun k hk => ?_⟩
  match k, hk with
  | 0, _ => exact h0
  | 1, _ => exact h1
  | 2, _ => exact h2
  | 3, _ => exact h3
theorem kj_ok {w w' : World} {s g B : Nat} {C : Cfg} {L : Nat → Lev} {ms : Nat → List Int} {e : Ending} (h : KJoinPost w s g C B L ms e w') (ha : ∀ n, n ≤ B → allI (ms n)) : e = .returned (.int .i64 0) ∧ KAt w' s g C B L ms ∧ Mod (cellsOf B L) w w' := by
  rcases h with ⟨_, h1, h2, h3⟩ | ⟨hn, _⟩
  · exact ⟨h1, h2, h3⟩
  · exact absurd ha hn
set_option maxRecDepth 20000 in
set_option maxHeartbeats 8000000 in
theorem shown20_c (w : World) : Calls Tryz.prog 62 #[] w fun e w' => e = .returned (.bool true) ∧ Ext w w' := by
  go_enter Tryz.func62, Tryz.ntmps62
  go_wp2_with fail
  have hCb : CfgAt (w.alloc (.cells #[.int .i64 2, .int .i64 1, .int .i64 4, .int .i64 1, .int .u64 0] 24)) w.heap.size K1 := CfgAt.box K1 _ rfl
  have hE0 : Ext w (w.alloc (.cells #[.int .i64 2, .int .i64 1, .int .i64 4, .int .i64 1, .int .u64 0] 24)) := Ext.alloc' _ _
  generalize w.alloc (.cells #[.int .i64 2, .int .i64 1, .int .i64 4, .int .i64 1, .int .u64 0] 24) = w0 at *
  refine (KNew_c K1 K1_ok _).mono ?_
  rintro e w1 ⟨s, g, L, rfl, hK, hs, hg, hL, hx1⟩
  have hF : KFresh w0.heap.size 2 L := hL
  replace hK : KAt w1 s g K1 2 L K1z := hK
  have hC1 := hCb.ext hx1
  have d0 : w1.cell? ⟨w.heap.size, 0, none⟩ = some (.int .i64 2) := hC1.c0
  have d1 : w1.cell? ⟨w.heap.size, 1, none⟩ = some (.int .i64 1) := hC1.c1
  have d2 : w1.cell? ⟨w.heap.size, 2, none⟩ = some (.int .i64 4) := hC1.c2
  have d3 : w1.cell? ⟨w.heap.size, 3, none⟩ = some (.int .i64 1) := hC1.c3
  have d4 : w1.cell? ⟨w.heap.size, 4, none⟩ = some (.int .u64 0) := hC1.c4
  have dl := hC1.lt
  have hE1 := hE0.trans' hx1
  have hs0 := hE0.size
  have hs1 := hx1.size
  have HK := Lib.hid hK
  clear hx1 hC1 hCb hK hL
  go_wp2_with fail
  refine (KNew_c K1 K1_ok _).mono ?_
  rintro e w2 ⟨s2, g2, L2, rfl, hK2, hs2, hg2, hL2, hx2⟩
  have hF2 : KFresh w1.heap.size 2 L2 := hL2
  replace hK2 : KAt w2 s2 g2 K1 2 L2 K1z := hK2
  have hE2 := hE1.trans' hx2
  have hss2 := hx2.size
  have HF := Lib.hid hF
  have HF2 := Lib.hid hF2
  have hdj : ∀ n, n ≤ 2 → ¬ cellsOf 2 L2 (L n).c := fun n hn ⟨m, hm, he⟩ => by have := (HF2.out m hm).2.2; have := (HK.out.lev n hn).ltc; omega
  have hdj2 : ∀ n, n ≤ 2 → ¬ cellsOf 2 L (L2 n).c := fun n hn ⟨m, hm, he⟩ => by have := (HF2.out n hn).2.2; have := (HK.out.lev m hm).ltc; omega
  have HD := Lib.hid hdj
  have HD2 := Lib.hid hdj2
  have HS := Lib.hid (HK.out.ext hx2)
  have HS2 := Lib.hid hK2
  have hFF : ∀ i, cellsOf 2 L i → w.heap.size ≤ i := fun i ⟨n, hn, hi⟩ => by have := (HF.out n hn).2.2; omega
  have hFF2 : ∀ i, cellsOf 2 L2 i → w.heap.size ≤ i := fun i ⟨n, hn, hi⟩ => by have := (HF2.out n hn).2.2; omega
  have HFF := Lib.hid hFF
  have HFF2 := Lib.hid hFF2
  clear hx2 d0 d1 d2 d3 d4 dl hK2 hL2 hdj hdj2 hF hF2 hE0 hE1 hFF hFF2 HK
  go_wp2_with fail
  refine Calls.mono (KUpdate_c s g K1 2 L _ 1 5 _ HS.out (by unfold I64; omega) (by unfold U64; omega)) ?_
  rintro e w3 ⟨rfl, hK3, hM3⟩
  rw [K1_e1] at hK3 ⊢
  replace hK3 : KAt w3 s g K1 2 L K1a := hK3
  have HS3 := Lib.hid hK3
  have HT3 := Lib.hid (HS2.out.mod hM3 (fun i hi _ => HS.out.isc hi) (fun n hn => HD2.out n hn))
  have hE3 : Ext w w3 := Below.trans hE2 (hM3.below hE2.size HFF.out)
  clear hK3 hM3 HS HS2 hE2
  go_wp2_with fail
  refine Calls.mono (KUpdate_c s2 g2 K1 2 L2 _ 1 2 _ HT3.out (by unfold I64; omega) (by unfold U64; omega)) ?_
  rintro e w4 ⟨rfl, hK4, hM4⟩
  rw [K1_e2] at hK4 ⊢
  replace hK4 : KAt w4 s2 g2 K1 2 L2 K1b := hK4
  have HT4 := Lib.hid hK4
  have HS4 := Lib.hid (HS3.out.mod hM4 (fun i hi _ => HT3.out.isc hi) (fun n hn => HD.out n hn))
  have hE4 : Ext w w4 := Below.trans hE3 (hM4.below hE3.size HFF2.out)
  clear hK4 hM4 HS3 HT3 hE3
  go_wp2_with fail
  refine Calls.mono (KUpdate_c s2 g2 K1 2 L2 _ 3 4 _ HT4.out (by unfold I64; omega) (by unfold U64; omega)) ?_
  rintro e w5 ⟨rfl, hK5, hM5⟩
  rw [K1_e3] at hK5 ⊢
  replace hK5 : KAt w5 s2 g2 K1 2 L2 K1c := hK5
  have HT5 := Lib.hid hK5
  have HS5 := Lib.hid (HS4.out.mod hM5 (fun i hi _ => HT4.out.isc hi) (fun n hn => HD.out n hn))
  have hE5 : Ext w w5 := Below.trans hE4 (hM5.below hE4.size HFF2.out)
  clear hK5 hM5 HS4 HT4 hE4
  go_wp2_with fail
  refine Calls.mono (KInner_c s g s2 g2 K1 2 L L2 K1a K1c _ HS5.out HT5.out 0 10 0 (fun M M2 W h h2 => by have := LInner_c K1 0 M M2 _ _ W h h2 rfl; rw [K1_in, V10] at this; exact this)) ?_
  rintro e w6 ⟨rfl, hx6⟩
  have HS6 := Lib.hid (HS5.out.ext hx6)
  have HT6 := Lib.hid (HT5.out.ext hx6)
  have hE6 := hE5.trans' hx6
  clear hx6 HS5 HT5 hE5
  go_upto_region 10 with (fail)
  have hnb := heap_at w6 (.cells #[.int .i64 0, .int .u64 10] 75) rfl
  have hxA : Ext w6 (w6.alloc (.cells #[.int .i64 0, .int .u64 10] 75)) := Ext.alloc' _ _
  have hs6 := hE6.size
  generalize w6.alloc (.cells #[.int .i64 0, .int .u64 10] 75) = w7 at *
  have HS7 := Lib.hid (HS6.out.ext hxA)
  have HT7 := Lib.hid (HT6.out.ext hxA)
  have hE7 := hE6.trans' hxA
  have hnl : ∀ i, cellsOf 2 L i → i ≠ w6.heap.size := fun i hi e => by have := HS6.out.ltc hi; omega
  have HNL := Lib.hid hnl
  have HNB := Lib.hid hnb
  clear hxA HS6 HT6 hE6 hnl hnb
  go_wp2_with fail
  refine Calls.mono (KMerge_c s g s2 g2 K1 2 L L2 K1a K1c _ HS7.out HT7.out (fun h => absurd h (by decide))) ?_
  intro e w8 hj8
  obtain ⟨rfl, hK8, hM8⟩ := kj_ok hj8 K1s_all
  replace hK8 : KAt w8 s g K1 2 L K1s := hK8
  have HS8 := Lib.hid hK8
  have HT8 := Lib.hid (HT7.out.mod hM8 (fun i hi _ => HS7.out.isc hi) (fun n hn => HD2.out n hn))
  have hE8 : Ext w w8 := Below.trans hE7 (hM8.below hE7.size HFF.out)
  have HNB8 := Lib.hid (hM8.keep HNB.out (fun h => HNL.out _ h rfl))
  clear hj8 hK8 hM8 HS7 HT7 hE7 HNB
  go_wp2_with fail
  refine Calls.mono (KCells_c s g K1 2 L K1s _ HS8.out 0 (by decide)) ?_
  rintro e w9 ⟨v, rfl, ho, _, hx9⟩
  have hv9 := IntsAt.of_row ho
  rw [K1s_0] at hv9 ho
  obtain ⟨p9, q9, rfl⟩ := own_sl ho
  have hob : ∀ k, (Value.slice p9 4 q9).ownBlock = some k → w8.heap.size ≤ k := fun k hk => own_blk ho hk
  have HS9 := Lib.hid (HS8.out.ext hx9)
  have HT9 := Lib.hid (HT8.out.ext hx9)
  have HNB9 := Lib.hid (hx9.keep HNB8.out)
  have hE9 := hE8.trans' hx9
  have hnv : ∀ i, cellsOf 2 L i → i < w8.heap.size := fun i hi => HS8.out.ltc hi
  have HNV := Lib.hid hnv
  have HV9 := Lib.hid hv9
  have HOB := Lib.hid hob
  clear ho hx9 HS8 HT8 HNB8 hv9 hnv hob
  go_wp2_with fail
  refine Calls.mono (KSubtract_c s g s2 g2 K1 2 L L2 K1s K1c _ HS9.out HT9.out (fun _ => by decide)) ?_
  intro e w10 hj10
  obtain ⟨rfl, hK10, hM10⟩ := kj_ok hj10 (fun n hn => by rw [K1_minus]; exact K1a_all n hn)
  have HS10 := Lib.hid (hK10.cong (ls' := K1a) (fun n _ => K1_minus n))
  have hE10 : Ext w w10 := Below.trans hE9 (hM10.below hE9.size HFF.out)
  have hnb10 := hM10.keep HNB9.out (fun h => HNL.out _ h rfl)
  have hv10 : IntsAt w10 (.slice p9 4 q9) [0, 7, 0, 4] := HV9.out.mod hM10 (fun g' off n' cap' he hc => by
    have h1 := HNV.out _ hc
    have h2 : p9 = some ⟨g', off, none⟩ := (Value.slice.inj he).1
    have h3 := HOB.out g' (by rw [h2]; rfl)
    omega)
  have HV10 := Lib.hid hv10
  have n0 := (cell_of hnb10 0).trans rfl
  have n1 := (cell_of hnb10 1).trans rfl
  have nl := lt_of hnb10
  clear hj10 hK10 hM10 HS9 HT9 hE9 hv10 hnb10
  go_wp2_with fail
  have hC0 := af_drew w10
  refine pi_start (fun w' => ∃ x : After w10, w' = x.w) [] (by kernel_rfl) ?_
  refine pi_t 0 rfl (by kernel_rfl) (by kernel_rfl) (fun _ _ _ _ h => h) (fun K hK => ?_)
  go_big_quiet_op
  refine hK _ ?_
  clear hK K
  refine pi_t 1 rfl (by kernel_rfl) (by kernel_rfl) (fun _ _ _ _ h => h) (fun K hK => ?_)
  go_big_quiet_op
  refine hK _ ?_
  clear hK K
  refine pi_t 2 rfl (by kernel_rfl) (by kernel_rfl) (fun _ _ _ _ h => h) (fun K hK => ?_)
  go_big_quiet_op
  refine hK _ ?_
  clear hK K
  refine pi_t 3 rfl (by kernel_rfl) (by kernel_rfl) (fun _ _ _ _ h => h) (fun K hK => ?_)
  go_big_quiet_op
  refine hK _ ?_
  clear hK K
  refine pi_t 4 rfl (by kernel_rfl) (by kernel_rfl) (fun _ _ _ _ h => h) (fun K hK => ?_)
  go_big_quiet_op
  refine hK _ ?_
  clear hK K
  refine pi_t 5 rfl (by kernel_rfl) (by kernel_rfl) (fun _ _ _ _ h => h) (fun K hK => ?_)
  go_big_quiet_op
  refine hK _ ?_
  clear hK K
  refine pi_t 6 rfl (by kernel_rfl) (by kernel_rfl) (fun _ _ _ _ h => h) (fun K hK => ?_)
  go_big_quiet_op
  refine hK _ ?_
  clear hK K
  refine pi_t 7 rfl (by kernel_rfl) (by kernel_rfl) (fun _ _ _ _ h => h) (fun K hK => ?_)
  go_big_quiet_op
  refine hK _ ?_
  clear hK K
  refine pi_t 8 rfl (by kernel_rfl) (by kernel_rfl) (fun _ _ _ _ h => h) (fun K hK => ?_)
  go_big_quiet_op
  refine hK _ ?_
  clear hK K
  refine pi_t 9 rfl (by kernel_rfl) (by kernel_rfl) (fun _ _ _ _ h => h) (fun K hK => ?_)
  go_big_quiet_op
  refine hK _ ?_
  clear hK K
  refine pi_t 10 rfl (by kernel_rfl) (by kernel_rfl) (fun _ _ _ _ h => h) (fun K hK => ?_)
  go_big_quiet_op
  refine hK _ ?_
  clear hK K
  refine pi_t 11 rfl (by kernel_rfl) (by kernel_rfl) (fun _ _ _ _ h => h) (fun K hK => ?_)
  go_big_quiet_op
  refine hK _ ?_
  clear hK K
  refine pi_t 12 rfl (by kernel_rfl) (by kernel_rfl) (fun _ _ _ _ h => h) (fun K hK => ?_)
  go_big_quiet_op
  refine hK _ ?_
  clear hK K
  refine pi_t 13 rfl (by kernel_rfl) (by kernel_rfl) (fun _ _ _ _ h => h) (fun K hK => ?_)
  go_big_quiet_op
  refine hK _ ?_
  clear hK K
  refine pi_t 14 rfl (by kernel_rfl) (by kernel_rfl) (fun _ _ _ _ h => h) (fun K hK => ?_)
  go_big_quiet_op
  refine hK _ ?_
  clear hK K
  refine pi_t 15 rfl (by kernel_rfl) (by kernel_rfl) (fun _ _ _ _ h => h) (fun K hK => ?_)
  go_big_quiet_op
  refine hK _ ?_
  clear hK K
  refine pi_t 16 rfl (by kernel_rfl) (by kernel_rfl) (fun _ _ _ _ h => h) (fun K hK => ?_)
  go_big_quiet_op
  refine hK _ ?_
  clear hK K
  refine pi_t 17 rfl (by kernel_rfl) (by kernel_rfl) (fun _ _ _ _ h => h) (fun K hK => ?_)
  go_big_quiet_op
  refine hK _ ?_
  clear hK K
  refine pi_t 18 rfl (by kernel_rfl) (by kernel_rfl) (fun _ _ _ _ h => h) (fun K hK => ?_)
  go_big_quiet_op
  refine hK _ ?_
  clear hK K
  refine pi_t 19 rfl (by kernel_rfl) (by kernel_rfl) (fun _ _ _ _ h => h) (fun K hK => ?_)
  go_big_quiet_op
  refine hK _ ?_
  clear hK K
  refine pi_t 20 rfl (by kernel_rfl) (by kernel_rfl) (fun _ _ _ _ h => h) (fun K hK => ?_)
  go_big_quiet_op
  refine hK _ ?_
  clear hK K
  refine pi_t 21 rfl (by kernel_rfl) (by kernel_rfl) (fun _ _ _ _ h => h) (fun K hK => ?_)
  go_big_quiet_op
  refine hK _ ?_
  clear hK K
  refine pi_t 22 rfl (by kernel_rfl) (by kernel_rfl) (fun _ _ _ _ h => h) (fun K hK => ?_)
  go_big_quiet_op
  refine hK _ ?_
  clear hK K
  refine pi_c 23 (by assumption) rfl (by kernel_rfl) (by kernel_rfl) (fun _ _ _ _ h => h) (fun K hK => ?_)
  go_big_quiet_op
  refine hK _ ?_
  clear hK K
  refine pi_l 24 rfl (by kernel_rfl) (fun K hK => ?_)
  go_wp2_with fail
  refine (Of10 _).mono ?_
  rintro e wa ⟨rfl, hxa⟩
  have hEa : Ext w10 wa := Ext.trans' (Below.drew (Ext.refl w10)) hxa
  go_wp2
  refine hK _ _ (fun _ h => af_step h hxa) ?_
  clear hK K n0 n1 nl
  refine pi_t 25 rfl (by kernel_rfl) (by kernel_rfl) (fun _ _ _ _ h => h) (fun K hK => ?_)
  go_big_quiet_op
  refine hK _ ?_
  clear hK K
  refine pi_t 26 rfl (by kernel_rfl) (by kernel_rfl) (fun _ _ _ _ h => h) (fun K hK => ?_)
  go_big_quiet_op
  refine hK _ ?_
  clear hK K
  refine pi_t 27 rfl (by kernel_rfl) (by kernel_rfl) (fun _ _ _ _ h => h) (fun K hK => ?_)
  go_big_quiet_op
  refine hK _ ?_
  clear hK K
  refine pi_t 28 rfl (by kernel_rfl) (by kernel_rfl) (fun _ _ _ _ h => h) (fun K hK => ?_)
  go_big_quiet_op
  refine hK _ ?_
  clear hK K
  refine pi_l 29 rfl (by kernel_rfl) (fun K hK => ?_)
  go_wp2
  refine hK _ _ (fun _ h => af_step h (Ext.alloc' _ _)) ?_
  clear hK K
  have hbb := heap_at wa (.cells #[.int .i64 0, .int .i64 7, .int .i64 0, .int .i64 4] 2) rfl
  have hxb : Ext wa (wa.alloc (.cells #[.int .i64 0, .int .i64 7, .int .i64 0, .int .i64 4] 2)) := Ext.alloc' _ _
  generalize wa.alloc (.cells #[.int .i64 0, .int .i64 7, .int .i64 0, .int .i64 4] 2) = wb at *
  have hEb := hEa.trans' hxb
  refine pi_l 30 rfl (by kernel_rfl) (fun K hK => ?_)
  go_wp2_with fail
  refine Calls.mono (Same_c _ _ [0, 7, 0, 4] [0, 7, 0, 4] _ (HV10.out.ext hEb) (ints4 (w := w) hbb) (by decide) (by decide)) ?_
  rintro e wc ⟨rfl, hxc⟩
  have hEc := hEb.trans' hxc
  go_wp2
  refine hK _ _ (fun _ h => af_step h hxc) ?_
  clear hK K hbb hxb
  have hSc := HS10.out.ext hEc
  have HSC := Lib.hid hSc
  clear hSc
  refine pi_t 31 rfl (by kernel_rfl) (by kernel_rfl) (fun _ _ _ _ h => h) (fun K hK => ?_)
  go_big_quiet_op
  refine hK _ ?_
  clear hK K
  refine pi_t 32 rfl (by kernel_rfl) (by kernel_rfl) (fun _ _ _ _ h => h) (fun K hK => ?_)
  go_big_quiet_op
  refine hK _ ?_
  clear hK K
  refine pi_t 33 rfl (by kernel_rfl) (by kernel_rfl) (fun _ _ _ _ h => h) (fun K hK => ?_)
  go_big_quiet_op
  refine hK _ ?_
  clear hK K
  refine pi_b 34 35 rfl rfl (by kernel_rfl) (fun K hK => ?_) (fun K hK => ?_)
  · go_wp2_with fail
    refine Calls.mono (KCells_c s g K1 2 L K1a _ HSC.out 0 (by decide)) ?_
    rintro e wd ⟨v, rfl, ho, _, hxd⟩
    have hv := IntsAt.of_row ho
    rw [K1a_0] at hv ho
    obtain ⟨p1, q1, rfl⟩ := own_sl ho
    have HV := Lib.hid hv
    clear ho hv
    have hEd := hEc.trans' hxd
    go_wp2
    refine hK _ _ (fun _ h => af_step h hxd) ?_
    clear hK K
    refine pi_l 35 rfl (by kernel_rfl) (fun K hK => ?_)
    go_wp2
    refine hK _ _ (fun _ h => af_step h (Ext.alloc' _ _)) ?_
    clear hK K
    have hbb := heap_at wd (.cells #[.int .i64 0, .int .i64 5, .int .i64 0, .int .i64 0] 2) rfl
    have hxe : Ext wd (wd.alloc (.cells #[.int .i64 0, .int .i64 5, .int .i64 0, .int .i64 0] 2)) := Ext.alloc' _ _
    generalize wd.alloc (.cells #[.int .i64 0, .int .i64 5, .int .i64 0, .int .i64 0] 2) = we at *
    have hEe := hEd.trans' hxe
    refine pi_l 36 rfl (by kernel_rfl) (fun K hK => ?_)
    go_wp2_with fail
    refine Calls.mono (Same_c _ _ [0, 5, 0, 0] [0, 5, 0, 0] _ (HV.out.ext hxe) (ints4 (w := w) hbb) (by decide) (by decide)) ?_
    rintro e wf ⟨rfl, hxf⟩
    have hEf := hEe.trans' hxf
    go_wp2
    refine hK _ _ (fun _ h => af_step h hxf) ?_
    clear hK K
    refine pi_t 37 rfl (by kernel_rfl) (by kernel_rfl) (fun _ _ _ _ h => h) (fun K hK => ?_)
    go_big_quiet_op
    refine hK _ ?_
    clear hK K
    refine pi_t 38 rfl (by kernel_rfl) (by kernel_rfl) (fun _ _ _ _ h => h) (fun K hK => ?_)
    go_big_quiet_op
    refine hK _ ?_
    clear hK K
    refine pi_t 39 rfl (by kernel_rfl) (by kernel_rfl) (fun _ _ _ _ h => h) (fun K hK => ?_)
    go_big_quiet_op
    refine hK _ ?_
    clear hK K
    refine pi_l 40 rfl (by kernel_rfl) (fun K hK => ?_)
    go_wp2_with fail
    refine Calls.mono (KMerge_nil2 s _) ?_
    rintro e wg ⟨rfl, hxg⟩
    go_wp2
    refine hK _ _ (fun _ h => af_step h hxg) ?_
    clear hK K
    refine pi_t 41 rfl (by kernel_rfl) (by kernel_rfl) (fun _ _ _ _ h => h) (fun K hK => ?_)
    go_big_quiet_op
    refine hK _ ?_
    clear hK K
    refine pi_t 42 rfl (by kernel_rfl) (by kernel_rfl) (fun _ _ _ _ h => h) (fun K hK => ?_)
    go_big_quiet_op
    refine hK _ ?_
    clear hK K
    refine pi_t 43 rfl (by kernel_rfl) (by kernel_rfl) (fun _ _ _ _ h => h) (fun K hK => ?_)
    go_big_quiet_op
    refine hK _ ?_
    clear hK K
    refine pi_end (by kernel_rfl) ?_
    go_wp2
    go_ret
    exact ⟨by first | rfl | simp, hE10.trans' (hEf.trans' hxg)⟩
  · go_wp2
    refine hK _ _ (fun _ h => af_step h (Ext.alloc' _ _)) ?_
    clear hK K
    have hbb := heap_at wc (.cells #[.int .i64 0, .int .i64 5, .int .i64 0, .int .i64 0] 2) rfl
    have hxe : Ext wc (wc.alloc (.cells #[.int .i64 0, .int .i64 5, .int .i64 0, .int .i64 0] 2)) := Ext.alloc' _ _
    generalize wc.alloc (.cells #[.int .i64 0, .int .i64 5, .int .i64 0, .int .i64 0] 2) = we at *
    have hEe := hEc.trans' hxe
    refine pi_l 34 rfl (by kernel_rfl) (fun K hK => ?_)
    go_wp2_with fail
    refine Calls.mono (KCells_c s g K1 2 L K1a _ (HSC.out.ext hxe) 0 (by decide)) ?_
    rintro e wd ⟨v, rfl, ho, _, hxd⟩
    have hv := IntsAt.of_row ho
    rw [K1a_0] at hv ho
    obtain ⟨p1, q1, rfl⟩ := own_sl ho
    have HV := Lib.hid hv
    clear ho hv
    have hEd := hEe.trans' hxd
    go_wp2
    refine hK _ _ (fun _ h => af_step h hxd) ?_
    clear hK K
    refine pi_l 36 rfl (by kernel_rfl) (fun K hK => ?_)
    go_wp2_with fail
    refine Calls.mono (Same_c _ _ [0, 5, 0, 0] [0, 5, 0, 0] _ HV.out ((ints4 (w := w) hbb).ext hxd) (by decide) (by decide)) ?_
    rintro e wf ⟨rfl, hxf⟩
    have hEf := hEd.trans' hxf
    go_wp2
    refine hK _ _ (fun _ h => af_step h hxf) ?_
    clear hK K
    refine pi_t 37 rfl (by kernel_rfl) (by kernel_rfl) (fun _ _ _ _ h => h) (fun K hK => ?_)
    go_big_quiet_op
    refine hK _ ?_
    clear hK K
    refine pi_t 38 rfl (by kernel_rfl) (by kernel_rfl) (fun _ _ _ _ h => h) (fun K hK => ?_)
    go_big_quiet_op
    refine hK _ ?_
    clear hK K
    refine pi_t 39 rfl (by kernel_rfl) (by kernel_rfl) (fun _ _ _ _ h => h) (fun K hK => ?_)
    go_big_quiet_op
    refine hK _ ?_
    clear hK K
    refine pi_l 40 rfl (by kernel_rfl) (fun K hK => ?_)
    go_wp2_with fail
    refine Calls.mono (KMerge_nil2 s _) ?_
    rintro e wg ⟨rfl, hxg⟩
    go_wp2
    refine hK _ _ (fun _ h => af_step h hxg) ?_
    clear hK K
    refine pi_t 41 rfl (by kernel_rfl) (by kernel_rfl) (fun _ _ _ _ h => h) (fun K hK => ?_)
    go_big_quiet_op
    refine hK _ ?_
    clear hK K
    refine pi_t 42 rfl (by kernel_rfl) (by kernel_rfl) (fun _ _ _ _ h => h) (fun K hK => ?_)
    go_big_quiet_op
    refine hK _ ?_
    clear hK K
    refine pi_t 43 rfl (by kernel_rfl) (by kernel_rfl) (fun _ _ _ _ h => h) (fun K hK => ?_)
    go_big_quiet_op
    refine hK _ ?_
    clear hK K
    refine pi_end (by kernel_rfl) ?_
    go_wp2
    go_ret
    exact ⟨by first | rfl | simp, hE10.trans' (hEf.trans' hxg)⟩
end Go.Proofs.YtfhdjekpdifajaaGreat
namespace Go.Proofs.YtfhdjekpdifajaaGreat
set_option linter.unusedVariables false
open Go.RowKit
abbrev Opn := Int × Int × Int
def OpsAt (w : World) (v : Value) (os : List Opn) : Prop :=
  ((∃ p, v = .slice p 0 0) ∧ os = []) ∨ ∃ g off cap, v = .slice (some ⟨g, off, none⟩) os.length cap ∧ g < w.heap.size ∧
    ∀ k, k < os.length → w.cell? ⟨g, off + k * 3, none⟩ = some (.int .i64 (os.getD k (0, 0, 0)).1) ∧ w.cell? ⟨g, off + k * 3 + 1, none⟩ = some (.int .u64 (os.getD k (0, 0, 0)).2.1) ∧ w.cell? ⟨g, off + k * 3 + 2, none⟩ = some (.int .i64 (os.getD k (0, 0, 0)).2.2)
def OpsOk (os : List Opn) : Prop := ∀ u ∈ os, I64 u.1 ∧ U64 u.2.1 ∧ I64 u.2.2
theorem OpsAt.ext {w w' : World} {v : Value} {os : List Opn} (h : OpsAt w v os) (he : Ext w w') : OpsAt w' v os := by
  rcases h with h | ⟨g, off, cap, h1, h2, h3⟩
  · exact .inl h
  · exact .inr ⟨g, off, cap, h1, Nat.lt_of_lt_of_le h2 he.size, fun k hk => ⟨((bcell he).1 _ _ h2).trans (h3 k hk).1, ((bcell he).1 _ _ h2).trans (h3 k hk).2.1, ((bcell he).1 _ _ h2).trans (h3 k hk).2.2⟩⟩
theorem OpsAt.sl {w : World} {v : Value} {os : List Opn} (h : OpsAt w v os) : ∃ p c, v = .slice p os.length c := by
  rcases h with ⟨⟨p, rfl⟩, rfl⟩ | ⟨g, off, cap, rfl, _⟩
  · exact ⟨p, 0, rfl⟩
  · exact ⟨_, cap, rfl⟩
theorem OpsAt.one {w : World} {p : Option Addr} {n c : Nat} {os : List Opn} (h : OpsAt w (.slice p n c) os) {k : Nat} (hk : k < os.length) :
    ∃ g off, p = some ⟨g, off, none⟩ ∧ g < w.heap.size ∧ w.cell? ⟨g, off + k * 3, none⟩ = some (.int .i64 os[k].1) ∧ w.cell? ⟨g, off + k * 3 + 1, none⟩ = some (.int .u64 os[k].2.1) ∧ w.cell? ⟨g, off + k * 3 + 2, none⟩ = some (.int .i64 os[k].2.2) := by
  rcases h with ⟨_, rfl⟩ | ⟨g, off, cap, h1, h2, h3⟩
  · exact absurd hk (Nat.not_lt_zero _)
  · have e := Value.slice.inj h1
    have hg : os.getD k (0, 0, 0) = os[k] := by simp [hk]
    have := h3 k hk
    rw [hg] at this
    exact ⟨g, off, e.1, h2, this⟩
end Go.Proofs.YtfhdjekpdifajaaGreat
namespace Go.Proofs.YtfhdjekpdifajaaGreat
set_option linter.unusedVariables false
open Go.RowKit
def SameR (v1 v2 : Value) : Prop := ∃ e : Int, v1 = .int .i64 e ∧ v2 = .int .i64 e
set_option maxRecDepth 20000 in
set_option maxHeartbeats 16000000 in
theorem MPlaysL_c (x : Cfg) (hx : x.Raw) (os : List Opn) (hos : OpsOk os) (v : Value) (w : World) (hv : OpsAt w v os) (hul : os.length ≤ 140737488355328) :
    Calls Tryz.prog 7 #[.agg #[.int .i64 x.bits, .int .i64 x.rows, .int .i64 x.width, .int .i64 x.mode, .int .u64 x.seed], v] w fun e w' => e = .returned (.bool true) ∧ Ext w w' := by
  obtain ⟨vp, vc, rfl⟩ := hv.sl
  have HV := Lib.hid hv
  clear hv
  go_enter Tryz.func7, Tryz.ntmps7
  go_wp2_with fail
  refine (shown20_c _).mono ?_
  rintro e w1 ⟨rfl, hb1⟩
  have hE1 : Ext w w1 := by (repeat' (first | exact Ext.refl _ | assumption | apply Ext.allocR | apply Ext.drewR | apply Ext.drewNR | (refine Ext.trans' ?_ (by assumption))))
  have hC := (CfgAt.box (w := w) x 24 rfl).ext hb1
  have c0 := hC.c0
  have c1 := hC.c1
  have c2 := hC.c2
  have c3 := hC.c3
  have c4 := hC.c4
  have cl := hC.lt
  clear hC hb1
  go_wp2_with fail
  refine (Any_c x hx 5 9 (by decide) (by decide) (by decide) (by decide) _).mono ?_
  rintro e w2 ⟨rfl, hx2⟩
  have hok := mkC_ok x hx.s (nb := 5) (nw := 9) (by decide) (by decide) (by decide) (by decide)
  have hE2 : Ext w w2 := by (repeat' (first | exact Ext.refl _ | assumption | apply Ext.allocR | apply Ext.drewR | apply Ext.drewNR | (refine Ext.trans' ?_ (by assumption))))
  generalize mkC x 5 9 = C at *
  have hb1 := hok.b1
  have hb2 := hok.b2
  clear c0 c1 c2 c3 c4 cl hx2 hE1
  obtain ⟨B, hB⟩ : ∃ B : Nat, C.bits = B := ⟨C.bits.toNat, by omega⟩
  have hBt : C.bits.toNat = B := by omega
  have HBB := Lib.hid (And.intro hb1 (And.intro hb2 hB))
  have HKN := Lib.hid (fun W' => KNew_c C hok W')
  have HRN := Lib.hid (fun W' => RKNew_c C hok B hB W')
  have HBT := Lib.hid hBt
  have HOK := Lib.hid hok
  clear hB hBt
  go_upto_region 3 with (fail)
  obtain ⟨w3, hw3⟩ : ∃ w3, w2.alloc (.cells #[.int .i64 C.bits, .int .i64 C.rows, .int .i64 C.width, .int .i64 C.mode, .int .u64 C.seed] 24) = w3 := ⟨_, rfl⟩
  have hQ : w3.heap[w2.heap.size]? = some (.cells #[.int .i64 C.bits, .int .i64 C.rows, .int .i64 C.width, .int .i64 C.mode, .int .u64 C.seed] 24 (0, 0)) := by rw [← hw3]; exact heap_at _ _ rfl
  have hE3 : Ext w w3 := by rw [← hw3]; exact hE2.allocR _
  try rw [hw3]
  have HE3 := Lib.hid hE3
  have HQ := Lib.hid hQ
  have hC3 := CfgAt.of hQ
  clear hw3 hE2 hb1 hb2
  have c0 := hC3.c0
  have c1 := hC3.c1
  have c2 := hC3.c2
  have c3 := hC3.c3
  have c4 := hC3.c4
  have cl := hC3.lt
  clear hC3 hQ hE3 hok
  go_wp2_with fail
  refine (HKN.out _).mono ?_
  rintro e w4 ⟨s, g, L, rfl, hK, s1, s2, hF, hx4⟩
  rw [HBT.out] at hK hF
  have HK := Lib.hid hK
  have HF := Lib.hid (show KFresh w3.heap.size B L from hF)
  have HS := Lib.hid (And.intro s1 s2)
  have HX4 := Lib.hid hx4
  have hC4 := CfgAt.of (hx4.keep HQ.out)
  clear c0 c1 c2 c3 c4 cl hK hF s1 s2 hx4
  have c0 := hC4.c0
  have c1 := hC4.c1
  have c2 := hC4.c2
  have c3 := hC4.c3
  have c4 := hC4.c4
  have cl := hC4.lt
  clear hC4
  go_wp2_with fail
  refine (HKN.out _).mono ?_
  rintro e w5 ⟨o, g2, L2, rfl, hK2, s3, s4, hF2, hx5⟩
  rw [HBT.out] at hK2 hF2
  have HK2 := Lib.hid hK2
  have HF2 := Lib.hid (show KFresh w4.heap.size B L2 from hF2)
  have HS2 := Lib.hid (And.intro s3 s4)
  have HX5 := Lib.hid hx5
  have hC5 := CfgAt.of ((HX4.out.trans' hx5).keep HQ.out)
  clear c0 c1 c2 c3 c4 cl hK2 hF2 s3 s4 hx5
  have c0 := hC5.c0
  have c1 := hC5.c1
  have c2 := hC5.c2
  have c3 := hC5.c3
  have c4 := hC5.c4
  have cl := hC5.lt
  clear hC5
  go_wp2_with fail
  refine (HRN.out _).mono ?_
  rintro e w6 ⟨r, t, M, rfl, hR, hRF, hx6⟩
  have HR := Lib.hid hR
  have HRF := Lib.hid (show ∀ k, rkF r t C B M k → w5.heap.size ≤ k from hRF)
  have HX6 := Lib.hid hx6
  have hC6 := CfgAt.of ((HX4.out.trans' (HX5.out.trans' hx6)).keep HQ.out)
  clear c0 c1 c2 c3 c4 cl hR hRF hx6
  have c0 := hC6.c0
  have c1 := hC6.c1
  have c2 := hC6.c2
  have c3 := hC6.c3
  have c4 := hC6.c4
  have cl := hC6.lt
  clear hC6
  go_wp2_with fail
  refine (HRN.out _).mono ?_
  rintro e w7 ⟨q, t2, M2, rfl, hR2, hRF2, hx7⟩
  have hE37 := HX4.out.trans' (HX5.out.trans' (HX6.out.trans' hx7))
  have hS7 : S4K w3.heap.size w7 C B (.pointer (some ⟨s, 0, none⟩)) (.pointer (some ⟨o, 0, none⟩)) (.pointer (some ⟨r, 0, none⟩)) (.pointer (some ⟨q, 0, none⟩)) := S4K.mk (l := fun n => zs (lvN C n)) (m := fun n => zs (lvN C n))
    (Own4.mk4 (z1 := w4.heap.size) (z2 := w5.heap.size) (z3 := w6.heap.size) (HK.out.own.ext (HX5.out.trans' (HX6.out.trans' hx7))) (HK2.out.own.ext (HX6.out.trans' hx7)) (HR.out.own.ext hx7) hR2.own
      (fun k hk => ⟨kF_fresh HS.out.1 HS.out.2 HF.out k hk, HK.out.own.lt k hk⟩) (fun k hk => ⟨kF_fresh HS2.out.1 HS2.out.2 HF2.out k hk, HK2.out.own.lt k hk⟩) (fun k hk => ⟨HRF.out k hk, HR.out.own.lt k hk⟩) hRF2 HX4.out.size HX5.out.size HX6.out.size hE37.size)
  have HS7 := Lib.hid hS7
  clear c0 c1 c2 c3 c4 cl hR2 hRF2 hx7 hS7 HK HF HS HX4 HK2 HF2 HS2 HX5 HR HRF HX6 HKN HRN
  obtain ⟨N, hN⟩ : ∃ N, w3.heap.size = N := ⟨_, rfl⟩
  have hwN : w.heap.size ≤ N := by rw [← hN]; exact HE3.out.size
  have hqN : w2.heap.size < N := by rw [← hN]; exact lt_of HQ.out
  rw [hN] at HS7
  have HN := Lib.hid hN
  clear hN
  go_wp2_with fail
  go_loopw [7, 9, 11, 12, 13] (fun u7 u9 u11 u12 u13 wr => ∃ k : Nat, k ≤ 30 ∧ k ≤ os.length ∧ u13 = .int .i64 k ∧ Ext w3 wr ∧ S4K N wr C B u7 u9 u11 u12) (fun _ _ _ _ u13 _ => 30 - (intOf u13).toNat)
  case atStart => exact ⟨0, Nat.zero_le _, Nat.zero_le _, rfl, hE37, HS7.out⟩
  case round =>
    clear hE37 HS7
    obtain ⟨k, hk30, hkl, rfl, hE, s, g, L, o, g2, L2, r, t, M, q, t2, M2, l, m, rfl, rfl, rfl, rfl, hS⟩ := hrel
    have HS := Lib.hid hS
    clear hS
    have hEw := HE3.out.trans' hE
    by_cases hgo : k < os.length ∧ k < 30
    · obtain ⟨hg1, hg2⟩ := hgo
      obtain ⟨ug, off, rfl, hul0, d0', d1', d2'⟩ := HV.out.one hg1
      have d0 := ((bcell hEw).1 _ _ hul0).trans d0'
      have d1 := ((bcell hEw).1 _ _ hul0).trans d1'
      have d2 := ((bcell hEw).1 _ _ hul0).trans d2'
      have hgl2 : ug < wr.heap.size := Nat.lt_of_lt_of_le hul0 hEw.size
      have hugN : ug < N := Nat.lt_of_lt_of_le hul0 hwN
      have hu := hos _ (List.getElem_mem hg1)
      generalize os[k] = oo at *
      obtain ⟨kk, uk, ud⟩ := oo
      obtain ⟨_, hukU, hudI⟩ := hu
      have HUK := Lib.hid hukU
      have HUD := Lib.hid hudI
      have HER := Lib.hid hE
      have HWN : Hid (N ≤ wr.heap.size) := Lib.hid (by have := hE.size; have := HN.out; omega)
      clear d0' d1' d2' hukU hudI hEw hE
      go_upto_block 2 with (fail)
      go_cut [7, 9, 11, 12, 14, 15] (fun s7 s9 s11 s12 s14 s15 wx => SameR s14 s15 ∧ S4K N wx C B s7 s9 s11 s12 ∧ Below N wr wx)
      case first =>
        by_cases hk1 : kk = 1
        · subst hk1
          clear d0 d1 d2
          go_wp2_with fail
          refine Calls.mono (o_merge HS.out HS.out.o2.h) ?_
          rintro e w8 ⟨rfl, hQ8, hB8⟩
          have HQ8 := Lib.hid hQ8
          have HB8 := Lib.hid hB8
          clear hQ8 hB8
          go_wp2_with fail
          refine Calls.mono (o_rjoin HQ8.out HQ8.out.o4.h) ?_
          rintro e w9 ⟨t', M', rfl, hQ9, hB9⟩
          have HQ9 := Lib.hid hQ9
          have HB9 := Lib.hid (Below.trans HB8.out hB9)
          clear hQ9 hB9
          go_wp2
          go_meet
          exact ⟨⟨_, rfl, rfl⟩, S4K.mk HQ9.out, HB9.out⟩
        · by_cases hk2 : kk = 2
          · subst hk2
            clear hk1 d0 d1 d2
            go_wp2_with fail
            refine Calls.mono (o_sub HS.out HS.out.o2.h) ?_
            rintro e w8 ⟨rfl, hQ8, hB8⟩
            have HQ8 := Lib.hid hQ8
            have HB8 := Lib.hid hB8
            clear hQ8 hB8
            go_wp2_with fail
            refine Calls.mono (o_rsub HQ8.out HQ8.out.o4.h) ?_
            rintro e w9 ⟨t', M', rfl, hQ9, hB9⟩
            have HQ9 := Lib.hid hQ9
            have HB9 := Lib.hid (Below.trans HB8.out hB9)
            clear hQ9 hB9
            go_wp2
            go_meet
            exact ⟨⟨_, rfl, rfl⟩, S4K.mk HQ9.out, HB9.out⟩
          · by_cases hk3 : kk = 3
            · subst hk3
              clear hk1 hk2 d0 d1 d2
              go_wp2_with fail
              go_meet
              exact ⟨⟨0, rfl, rfl⟩, S4K.mk HS.out.swap.swap2, Below.refl _ _⟩
            · by_cases hk4 : kk = 4
              · subst hk4
                clear hk1 hk2 hk3 d0 d1 d2
                have HI1 := Lib.hid (KInnerAny_c HS.out.o1.h HS.out.o2.h)
                have HI2 := Lib.hid (fun W' (hW : Ext wr W') => RKInner_c r t q t2 C B M M2 l m W' (HS.out.o3.h.ext hW) (HS.out.o4.h.ext hW))
                generalize inV C 0 (l 0) (m 0) = iv at *
                obtain ⟨ia, ib, ic⟩ := iv
                go_wp2_with fail
                refine Calls.mono HI1.out ?_
                rintro e w8 ⟨rfl, hx8⟩
                go_upto_region 32 with (fail)
                obtain ⟨w8', hw8'⟩ : ∃ w', w8.alloc (.cells #[.int .i64 ia, .int .u64 ib] 75) = w' := ⟨_, rfl⟩
                have hb8 : w8'.heap[w8.heap.size]? = some (.cells #[.int .i64 ia, .int .u64 ib] 75 (0, 0)) := by rw [← hw8']; exact heap_at _ _ rfl
                have hE8 : Ext wr w8' := by rw [← hw8']; exact hx8.allocR _
                try rw [hw8']
                clear hw8' hx8
                have HB8 := Lib.hid hb8
                have HE8 := Lib.hid hE8
                clear hb8 hE8
                go_wp2_with fail
                refine Calls.mono (HI2.out _ HE8.out) ?_
                rintro e w9 ⟨rfl, hx9⟩
                have hb9 := hx9.keep HB8.out
                have y0 := (cell_of hb9 0).trans rfl
                have y1 := (cell_of hb9 1).trans rfl
                have yl := lt_of hb9
                have HE9 := Lib.hid (HE8.out.trans' hx9)
                have HS9 := Lib.hid (HS.out.ext (HE9.out.allocR (.cells #[.int .i64 ia, .int .u64 ib] 75)))
                have HB9 := Lib.hid (below_of (HE9.out.allocR (.cells #[.int .i64 ia, .int .u64 ib] 75)) HWN.out : Below N wr _)
                clear hb9 hx9
                go_wp2_with fail
                go_meet
                exact ⟨⟨0, rfl, rfl⟩, S4K.mk HS9.out, HB9.out⟩
              · by_cases hk5 : kk = 5
                · subst hk5
                  clear hk1 hk2 hk3 hk4 d0 d1 d2
                  go_wp2_with fail
                  refine Calls.mono (o_merge HS.out HS.out.o1.h) ?_
                  rintro e w8 ⟨rfl, hQ8, hB8⟩
                  have HQ8 := Lib.hid hQ8
                  have HB8 := Lib.hid hB8
                  clear hQ8 hB8
                  go_wp2_with fail
                  refine Calls.mono (RKCopy_c r t C B M l _ HQ8.out.o3.h) ?_
                  rintro e w9 ⟨rc, tc, Mc, rfl, hRc, _, hx9⟩
                  have HRc := Lib.hid hRc
                  have HQ9 := Lib.hid (HQ8.out.ext hx9)
                  have HB9 := Lib.hid (Below.trans HB8.out (below_of hx9 HQ8.out.nw))
                  clear hRc hx9
                  go_wp2_with fail
                  refine Calls.mono (o_rjoin HQ9.out HRc.out) ?_
                  rintro e wa ⟨t', M', rfl, hQa, hBa⟩
                  have HQa := Lib.hid hQa
                  have HBa := Lib.hid (Below.trans HB9.out hBa)
                  clear hQa hBa
                  go_wp2
                  go_meet
                  exact ⟨⟨_, rfl, rfl⟩, S4K.mk HQa.out, HBa.out⟩
                · have e1 : (kk == 1) = false := by simpa using hk1
                  have e2 : (kk == 2) = false := by simpa using hk2
                  have e3 : (kk == 3) = false := by simpa using hk3
                  have e4 : (kk == 4) = false := by simpa using hk4
                  have e5 : (kk == 5) = false := by simpa using hk5
                  clear hk1 hk2 hk3 hk4 hk5
                  go_wp2_with fail
                  have hC0 := af_drew wr
                  refine pi_start (fun w' => ∃ x : After wr, w' = x.w) [11] (by kernel_rfl) ?_
                  refine pi_t 0 rfl (by kernel_rfl) (by kernel_rfl) (fun _ _ _ _ h => h) (fun K hK => ?_)
                  go_big_quiet_op
                  refine hK _ ?_
                  clear hK K
                  refine pi_t 1 rfl (by kernel_rfl) (by kernel_rfl) (fun _ _ _ _ h => h) (fun K hK => ?_)
                  go_big_quiet_op
                  refine hK _ ?_
                  clear hK K
                  refine pi_t 2 rfl (by kernel_rfl) (by kernel_rfl) (fun _ _ _ _ h => h) (fun K hK => ?_)
                  go_big_quiet_op
                  refine hK _ ?_
                  clear hK K
                  refine pi_t 3 rfl (by kernel_rfl) (by kernel_rfl) (fun _ _ _ _ h => h) (fun K hK => ?_)
                  go_big_quiet_op
                  refine hK _ ?_
                  clear hK K
                  refine pi_t 4 rfl (by kernel_rfl) (by kernel_rfl) (fun _ _ _ _ h => h) (fun K hK => ?_)
                  go_big_quiet_op
                  refine hK _ ?_
                  clear hK K
                  refine pi_t 6 rfl (by kernel_rfl) (by kernel_rfl) (fun _ _ _ _ h => h) (fun K hK => ?_)
                  go_big_quiet_op
                  refine hK _ ?_
                  clear hK K
                  refine pi_t 7 rfl (by kernel_rfl) (by kernel_rfl) (fun _ _ _ _ h => h) (fun K hK => ?_)
                  go_big_quiet_op
                  refine hK _ ?_
                  clear hK K
                  refine pi_t 8 rfl (by kernel_rfl) (by kernel_rfl) (fun _ _ _ _ h => h) (fun K hK => ?_)
                  go_big_quiet_op
                  refine hK _ ?_
                  clear hK K
                  refine pi_t 9 rfl (by kernel_rfl) (by kernel_rfl) (fun _ _ _ _ h => h) (fun K hK => ?_)
                  go_big_quiet_op
                  refine hK _ ?_
                  clear hK K
                  refine pi_c 5 (by assumption) rfl (by kernel_rfl) (by kernel_rfl) (fun _ _ _ _ h => h) (fun K hK => ?_)
                  go_big_quiet_op
                  refine hK _ ?_
                  clear hK K
                  refine pi_c 10 (by assumption) rfl (by kernel_rfl) (by kernel_rfl) (fun _ _ _ _ h => h) (fun K hK => ?_)
                  go_big_quiet_op
                  refine hK _ ?_
                  clear hK K
                  refine pi_l 11 rfl (by kernel_rfl) (fun K hK => ?_)
                  go_wp2_with (go_at_call 26; refine Calls.mono (o_upd (HS.out.ext (Below.drew (Ext.refl wr))) uk ud HUK.out HUD.out) ?_; rintro e w8 ⟨rfl, hQ8, hB8⟩)
                  refine hK _ _ (by simp) ?_
                  clear hK K
                  have HQ8 := Lib.hid hQ8
                  have hB8' : Below N wr w8 := Below.trans (below_of (Below.drew (Ext.refl wr)) HWN.out) hB8
                  have HB8 := Lib.hid hB8'
                  have e1' := cell_below hB8' hugN d1
                  have e2' := cell_below hB8' hugN d2
                  have gl8 := Nat.lt_of_lt_of_le hgl2 hB8'.size
                  clear hQ8 hB8 hB8' d0 d1 d2
                  refine pi_t 12 rfl (by kernel_rfl) (by kernel_rfl) (fun _ _ _ _ h => h) (fun K hK => ?_)
                  go_big_quiet_op
                  refine hK _ ?_
                  clear hK K
                  refine pi_end (by kernel_rfl) ?_
                  go_wp2_with fail
                  have hC0 := af_drew w8
                  refine pi_start (fun w' => ∃ x : After w8, w' = x.w) [11] (by kernel_rfl) ?_
                  refine pi_t 0 rfl (by kernel_rfl) (by kernel_rfl) (fun _ _ _ _ h => h) (fun K hK => ?_)
                  go_big_quiet_op
                  refine hK _ ?_
                  clear hK K
                  refine pi_t 1 rfl (by kernel_rfl) (by kernel_rfl) (fun _ _ _ _ h => h) (fun K hK => ?_)
                  go_big_quiet_op
                  refine hK _ ?_
                  clear hK K
                  refine pi_t 2 rfl (by kernel_rfl) (by kernel_rfl) (fun _ _ _ _ h => h) (fun K hK => ?_)
                  go_big_quiet_op
                  refine hK _ ?_
                  clear hK K
                  refine pi_t 3 rfl (by kernel_rfl) (by kernel_rfl) (fun _ _ _ _ h => h) (fun K hK => ?_)
                  go_big_quiet_op
                  refine hK _ ?_
                  clear hK K
                  refine pi_t 4 rfl (by kernel_rfl) (by kernel_rfl) (fun _ _ _ _ h => h) (fun K hK => ?_)
                  go_big_quiet_op
                  refine hK _ ?_
                  clear hK K
                  refine pi_t 6 rfl (by kernel_rfl) (by kernel_rfl) (fun _ _ _ _ h => h) (fun K hK => ?_)
                  go_big_quiet_op
                  refine hK _ ?_
                  clear hK K
                  refine pi_t 7 rfl (by kernel_rfl) (by kernel_rfl) (fun _ _ _ _ h => h) (fun K hK => ?_)
                  go_big_quiet_op
                  refine hK _ ?_
                  clear hK K
                  refine pi_t 8 rfl (by kernel_rfl) (by kernel_rfl) (fun _ _ _ _ h => h) (fun K hK => ?_)
                  go_big_quiet_op
                  refine hK _ ?_
                  clear hK K
                  refine pi_t 9 rfl (by kernel_rfl) (by kernel_rfl) (fun _ _ _ _ h => h) (fun K hK => ?_)
                  go_big_quiet_op
                  refine hK _ ?_
                  clear hK K
                  refine pi_c 5 (by assumption) rfl (by kernel_rfl) (by kernel_rfl) (fun _ _ _ _ h => h) (fun K hK => ?_)
                  go_big_quiet_op
                  refine hK _ ?_
                  clear hK K
                  refine pi_c 10 (by assumption) rfl (by kernel_rfl) (by kernel_rfl) (fun _ _ _ _ h => h) (fun K hK => ?_)
                  go_big_quiet_op
                  refine hK _ ?_
                  clear hK K
                  refine pi_l 11 rfl (by kernel_rfl) (fun K hK => ?_)
                  go_wp2_with (go_at_call 27; refine Calls.mono (o_rupd (HQ8.out.ext (Below.drew (Ext.refl w8))) uk ud HUK.out HUD.out) ?_; rintro e w9 ⟨t', M', rfl, hQ9, hB9⟩)
                  refine hK _ _ (by simp) ?_
                  clear hK K
                  have HQ9 := Lib.hid hQ9
                  have HB9 := Lib.hid (Below.trans HB8.out (Below.trans (below_of (Below.drew (Ext.refl w8)) HQ8.out.nw) hB9))
                  clear hQ9 hB9
                  refine pi_t 12 rfl (by kernel_rfl) (by kernel_rfl) (fun _ _ _ _ h => h) (fun K hK => ?_)
                  go_big_quiet_op
                  refine hK _ ?_
                  clear hK K
                  refine pi_end (by kernel_rfl) ?_
                  go_wp2
                  go_meet
                  exact ⟨⟨_, rfl, rfl⟩, S4K.mk HQ9.out, HB9.out⟩
      case rest =>
        obtain ⟨⟨ee, rfl, rfl⟩, ⟨s, g, L, o, g2, L2, r, t, M, q, t2, M2, l, m, rfl, rfl, rfl, rfl, hS⟩, hB⟩ := hcut
        rename World => w8
        have hE8 : Ext w3 w8 := Below.trans HER.out (by rw [HN.out]; exact hB)
        have HS := Lib.hid hS
        have HE8 := Lib.hid hE8
        clear hS hB d0 d1 d2 hE8
        go_wp2_with fail
        refine Calls.mono (same20_c s g L r t M C B l _ HS.out.o1.h HS.out.o3.h) ?_
        rintro e wa ⟨rfl, hxa⟩
        have HXA := Lib.hid hxa
        clear hxa
        go_wp2_with fail
        refine Calls.mono (same20_c o g2 L2 q t2 M2 C B m _ (HS.out.o2.h.ext HXA.out) (HS.out.o4.h.ext HXA.out)) ?_
        rintro e wb ⟨rfl, hxb⟩
        have hx8 := HXA.out.trans' hxb
        have HSb := Lib.hid (HS.out.ext hx8)
        have hE9 := HE8.out.trans' hx8
        clear hxb hx8
        go_wp2
        go_roundw
        case rel => exact ⟨k + 1, by omega, by omega, by go_num, hE9, S4K.mk HSb.out⟩
        case measure => simp [intOf]; omega
    · have hge : ¬ k < os.length ∨ ¬ k < 30 := by omega
      clear hgo hEw
      rename World => wo
      go_upto_region 10 with (fail)
      go_cut [60] (fun s74 wx => s74 = .bool false ∧ wx = wo)
      case first =>
        by_cases hgl : k < os.length
        · have hg6 : ¬ k < 30 := by omega
          go_wp2_with fail
          go_meet
          exact ⟨by first | rfl | exact congrArg Value.bool (decide_eq_false (by omega)), rfl⟩
        · first
            | (go_wp2_with fail
               go_meet
               exact ⟨rfl, rfl⟩)
            | (clear hge
               go_wp2_with fail
               go_meet
               exact ⟨by first | rfl | exact congrArg Value.bool (decide_eq_false (by omega)), rfl⟩)
      case rest =>
        obtain ⟨rfl, rfl⟩ := hcut
        rename World => wo
        have HA := Lib.hid HS.out.o1.h
        have hCq := CfgAt.of (hE.keep HQ.out)
        have c0 := hCq.c0
        have c1 := hCq.c1
        have c2 := hCq.c2
        have c3 := hCq.c3
        have c4 := hCq.c4
        have cl := hCq.lt
        clear hge hCq
        go_wp2_with fail
        have hC0 := af_drew wo
        refine pi_start (fun w' => ∃ x : After wo, w' = x.w) [] (by kernel_rfl) ?_
        refine pi_t 0 rfl (by kernel_rfl) (by kernel_rfl) (fun _ _ _ _ h => h) (fun K hK => ?_)
        go_big_quiet_op
        refine hK _ ?_
        clear hK K
        refine pi_t 1 rfl (by kernel_rfl) (by kernel_rfl) (fun _ _ _ _ h => h) (fun K hK => ?_)
        go_big_quiet_op
        refine hK _ ?_
        clear hK K
        refine pi_t 2 rfl (by kernel_rfl) (by kernel_rfl) (fun _ _ _ _ h => h) (fun K hK => ?_)
        go_big_quiet_op
        refine hK _ ?_
        clear hK K
        refine pi_c 4 (by assumption) rfl (by kernel_rfl) (by kernel_rfl) (fun _ _ _ _ h => h) (fun K hK => ?_)
        go_big_quiet_op
        refine hK _ ?_
        clear hK K
        refine pi_l 3 rfl (by kernel_rfl) (fun K hK => ?_)
        go_wp2_with (go_at_call 31; refine Calls.mono (SKConfig_c s g C B L l _ (HA.out.ext (Below.drew (Ext.refl wo)))) ?_; rintro e wa ⟨rfl, hxa⟩)
        have hEa : Ext wo wa := Ext.trans' (Below.drew (Ext.refl wo)) hxa
        refine hK _ _ (fun _ h => af_step h hxa) ?_
        clear hK K
        refine pi_t 5 rfl (by kernel_rfl) (by kernel_rfl) (fun _ _ _ _ h => h) (fun K hK => ?_)
        go_big_quiet_op
        refine hK _ ?_
        clear hK K
        refine pi_t 6 rfl (by kernel_rfl) (by kernel_rfl) (fun _ _ _ _ h => h) (fun K hK => ?_)
        go_big_quiet_op
        refine hK _ ?_
        clear hK K
        refine pi_t 7 rfl (by kernel_rfl) (by kernel_rfl) (fun _ _ _ _ h => h) (fun K hK => ?_)
        go_big_quiet_op
        refine hK _ ?_
        clear hK K
        refine pi_end (by kernel_rfl) ?_
        have hEf := HE3.out.trans' (hE.trans' hEa)
        go_wp2
        go_ret
        exact ⟨rfl, hEf⟩
end Go.Proofs.YtfhdjekpdifajaaGreat
namespace Go.Proofs.YtfhdjekpdifajaaGreat
set_option linter.unusedVariables false
open Go.ChangeShapes Go.WideShapes Go.ChangeAt Go.RowKit Go.Deep
theorem wf_u64 {x : Int} (h : (Lit.int IntKind.u64 x).wf = true) : U64 x := by
  have := bounds_u64 h
  exact ⟨this.1, by omega⟩
theorem wf_i64 {x : Int} (h : (Lit.int IntKind.i64 x).wf = true) : I64 x := by
  have := bounds_i64 h
  exact ⟨this.1, by omega⟩
section
variable {H : Type} {enc : TypeId × Value → H} {w : World} {base : Nat} {spare : Nat → Bool} {held : Bool}
set_option maxRecDepth 100000 in
/-- Five cells that read as a config. -/
theorem cfg_of {n : Nat} {cs : List Value} {y : DataW H × List MemPlace} (h : DataW.trod enc Tryz.prog w base spare held n 24 cs = some y) :
    ∃ C : Cfg, C.Raw ∧ cs = [.int .i64 C.bits, .int .i64 C.rows, .int .i64 C.width, .int .i64 C.mode, .int .u64 C.seed] := by
  obtain ⟨xs, n, _, _, hl, hx, hg⟩ := DataW.trod_struct Tryz.underlying24 h
  have hl' : cs.length = 5 := hl.trans (by kernel_rfl)
  match cs, hl' with
  | [c0, c1, c2, c3, c4], _ =>
    have hx' : xs.length = 5 := hx.trans (by kernel_rfl)
    match xs, hx' with
    | [x0, x1, x2, x3, x4], _ =>
      have e0 : DataW.trod enc Tryz.prog w base spare held n 3 [c0] = some x0 := hg 0 _ rfl
      have e1 : DataW.trod enc Tryz.prog w base spare held n 3 [c1] = some x1 := hg 1 _ rfl
      have e2 : DataW.trod enc Tryz.prog w base spare held n 3 [c2] = some x2 := hg 2 _ rfl
      have e3 : DataW.trod enc Tryz.prog w base spare held n 3 [c3] = some x3 := hg 3 _ rfl
      have e4 : DataW.trod enc Tryz.prog w base spare held n 22 [c4] = some x4 := hg 4 _ rfl
      obtain ⟨a0, h0, _, w0⟩ := DataW.trod_int Tryz.underlying3 e0
      obtain ⟨a1, h1, _, w1⟩ := DataW.trod_int Tryz.underlying3 e1
      obtain ⟨a2, h2, _, w2⟩ := DataW.trod_int Tryz.underlying3 e2
      obtain ⟨a3, h3, _, w3⟩ := DataW.trod_int Tryz.underlying3 e3
      obtain ⟨a4, h4, _, w4⟩ := DataW.trod_int Tryz.underlying22 e4
      simp only [List.cons.injEq, and_true] at h0 h1 h2 h3 h4
      exact ⟨⟨a0, a1, a2, a3, a4⟩, ⟨wf_i64 w0, wf_i64 w1, wf_i64 w2, wf_i64 w3, wf_u64 w4⟩, by rw [h0, h1, h2, h3, h4]⟩
theorem add_plain0 (b off i : Nat) : (Addr.add ⟨b, off, none⟩ i) = ⟨b, off + i, none⟩ := by
  unfold Addr.add
  by_cases h : i = 0
  · subst h; simp
  · simp [h]
theorem choose_list {α : Type} (P : Nat → α → Prop) : ∀ n, (∀ i, i < n → ∃ x, P i x) → ∃ l : List α, l.length = n ∧ ∀ i (h : i < l.length), P i l[i] := by
  intro n
  induction n with
  | zero => intro _; exact ⟨[], rfl, fun i h => by simp at h⟩
  | succ n ih =>
    intro h
    obtain ⟨l, hl, hP⟩ := ih (fun i hi => h i (by omega))
    obtain ⟨x, hx⟩ := h n (by omega)
    refine ⟨l ++ [x], by simp [hl], fun i hi => ?_⟩
    by_cases e : i < l.length
    · rw [List.getElem_append_left e]; exact hP i e
    · have : i = n := by simp at hi; omega
      subst this
      rw [List.getElem_append_right (by omega)]
      simp [hl, hx]
theorem reach_of {ts : List TypeId} {ds : List (DataW H)} {j : Nat} {t : TypeId} {d : DataW H} (hsz : (DataW.weightsEach Tryz.prog ts ds).all (· ≤ reachBytes) = true) (ht : ts[j]? = some t) (hd : ds[j]? = some d) {n : Nat} (hn : n ∈ d.weights Tryz.prog t) : n ≤ reachBytes := by
  have := List.all_eq_true.1 hsz _ (DataW.weights_mem_each ht hd n hn)
  simpa using this
end
end Go.Proofs.YtfhdjekpdifajaaGreat
namespace Go.Proofs.YtfhdjekpdifajaaGreat
set_option linter.unusedVariables false
open Go.ChangeShapes Go.WideShapes Go.ChangeAt Go.RowKit Go.Deep
theorem own : ownKnob Tryz.prog.godebug = none := by kernel_rfl
theorem laidOut : laidOutB Tryz.prog = true := by kernel_rfl
section
variable {H : Type} {enc : TypeId × Value → H} {w : World} {held : Bool}
set_option maxRecDepth 100000 in
theorem cfgarg_of {r : Reach} {b0 : Nat} {v : Value} {d : DataW H} {p : List MemPlace} (hv : Value.okWide Tryz.prog w r b0 24 v) (h : DataW.Trod enc Tryz.prog w 0 (fun _ => true) held 24 v d p) :
    ∃ (x : Cfg), x.Raw ∧ v = .agg #[.int .i64 x.bits, .int .i64 x.rows, .int .i64 x.width, .int .i64 x.mode, .int .u64 x.seed] := by
  obtain ⟨cs, rfl, hsz⟩ := okWide_struct Tryz.underlying24 hv
  obtain ⟨fuel, hf⟩ := h
  obtain ⟨l⟩ := cs
  obtain ⟨x, hxr, hc⟩ := cfg_of hf
  have hc' : l = _ := hc
  subst hc'
  exact ⟨x, hxr, rfl⟩
end
end Go.Proofs.YtfhdjekpdifajaaGreat
namespace Go.Proofs.YtfhdjekpdifajaaGreat
set_option linter.unusedVariables false
open Go.ChangeShapes Go.WideShapes Go.ChangeAt Go.RowKit Go.Deep
section
variable {H : Type} {enc : TypeId × Value → H} {w : World} {held : Bool}
set_option maxRecDepth 100000 in
theorem op20_of {spare : Nat → Bool} {base n : Nat} {cs : List Value} {y : DataW H × List MemPlace} (h : DataW.trod enc Tryz.prog w base spare held n 99 cs = some y) :
    ∃ u : Opn, (I64 u.1 ∧ U64 u.2.1 ∧ I64 u.2.2) ∧ cs = [.int .i64 u.1, .int .u64 u.2.1, .int .i64 u.2.2] := by
  obtain ⟨xs, n, _, _, hl, hx, hg⟩ := DataW.trod_struct Tryz.underlying99 h
  have hl' : cs.length = 3 := hl.trans (by kernel_rfl)
  match cs, hl' with
  | [c0, c1, c2], _ =>
    have hx' : xs.length = 3 := hx.trans (by kernel_rfl)
    match xs, hx' with
    | [x0, x1, x2], _ =>
      have e0 : DataW.trod enc Tryz.prog w base spare held n 3 [c0] = some x0 := hg 0 _ rfl
      have e1 : DataW.trod enc Tryz.prog w base spare held n 22 [c1] = some x1 := hg 1 _ rfl
      have e2 : DataW.trod enc Tryz.prog w base spare held n 2 [c2] = some x2 := hg 2 _ rfl
      obtain ⟨a0, h0, _, w0⟩ := DataW.trod_int Tryz.underlying3 e0
      obtain ⟨a1, h1, _, w1⟩ := DataW.trod_int Tryz.underlying22 e1
      obtain ⟨a2, h2, _, w2⟩ := DataW.trod_int Tryz.underlying2 e2
      simp only [List.cons.injEq, and_true] at h0 h1 h2
      exact ⟨(a0, a1, a2), ⟨wf_i64 w0, wf_u64 w1, wf_i64 w2⟩, by rw [h0, h1, h2]⟩
set_option maxRecDepth 100000 in
theorem ops20arg_of {r : Reach} {b0 : Nat} {v : Value} {d : DataW H} {p : List MemPlace} (hv : Value.okWide Tryz.prog w r b0 98 v) (h : DataW.Trod enc Tryz.prog w 0 (fun _ => true) held 98 v d p) :
    ∃ (os : List Opn), OpsOk os ∧ OpsAt w v os ∧
      ∀ (ts : List TypeId) (ds : List (DataW H)) (j : Nat), (DataW.weightsEach Tryz.prog ts ds).all (· ≤ reachBytes) = true → ts[j]? = some 98 → ds[j]? = some d → os.length ≤ 140737488355328 := by
  obtain ⟨q, n, cap, rfl⟩ := okWide_slice Tryz.underlying98 hv
  obtain ⟨fuel, hf⟩ := h
  rcases open_slice Tryz.underlying98 hf with ⟨hcs, _⟩ | ⟨a, len, cap', m, n', D, Pl, hcs, _, hlc, hcm, hm, hx, hi⟩
  · have hcs' : [Value.slice q n cap] = [Value.slice none 0 0] := hcs
    simp only [List.cons.injEq, and_true, Value.slice.injEq] at hcs'
    obtain ⟨rfl, rfl, rfl⟩ := hcs'
    exact ⟨[], (by intro u hu; cases hu), .inl ⟨⟨_, rfl⟩, rfl⟩, fun _ _ _ _ _ _ => Nat.zero_le _⟩
  · have hcs' : [Value.slice q n cap] = [Value.slice (some a) len cap'] := hcs
    simp only [List.cons.injEq, and_true, Value.slice.injEq] at hcs'
    obtain ⟨rfl, rfl, rfl⟩ := hcs'
    simp only [if_true] at hm
    rw [hm] at hi hx
    clear hm
    have hC : Tryz.prog.cellsOf 99 = 3 := by kernel_rfl
    rw [hC] at hi
    have key : ∀ i, i < n → ∃ u : Opn, (I64 u.1 ∧ U64 u.2.1 ∧ I64 u.2.2) ∧ w.cell? (a.add (i * 3)) = some (.int .i64 u.1) ∧ w.cell? (a.add (i * 3 + 1)) = some (.int .u64 u.2.1) ∧ w.cell? (a.add (i * 3 + 2)) = some (.int .i64 u.2.2) := by
      intro i hil
      obtain ⟨cs', hc, ht⟩ := hi i (by omega)
      obtain ⟨u, hu, rfl⟩ := op20_of ht
      obtain ⟨_, _, hat⟩ := World.cells?_some hc
      refine ⟨u, hu, ?_, ?_, ?_⟩
      · have := hat 0 (by omega); rw [add_add, Nat.add_zero] at this; exact this
      · have := hat 1 (by omega); rw [add_add] at this; exact this
      · have := hat 2 (by omega); rw [add_add] at this; exact this
    obtain ⟨us, hul, hus⟩ := choose_list _ n key
    by_cases h0 : cap = 0
    · have hl0 : n = 0 := by omega
      subst hl0 h0
      obtain rfl : us = [] := List.length_eq_zero_iff.1 hul
      exact ⟨[], (by intro u hu; cases hu), .inl ⟨⟨_, rfl⟩, rfl⟩, fun _ _ _ _ _ _ => Nat.zero_le _⟩
    · obtain ⟨cs', hc, ht⟩ := hi 0 (by omega)
      obtain ⟨u, _, rfl⟩ := op20_of ht
      obtain ⟨_, _, hat⟩ := World.cells?_some hc
      have h1 := hat 0 (by omega)
      obtain ⟨b, off, spot⟩ := a
      have hspot : spot = none := by simpa [Addr.add] using World.cell?_spot h1
      subst hspot
      have hb : b < w.heap.size := by
        rcases Nat.lt_or_ge b w.heap.size with h' | h'
        · exact h'
        · simp [World.cell?, Addr.add, Array.getElem?_eq_none h'] at h1
      refine ⟨us, ?_, .inr ⟨b, off, cap, by rw [hul], hb, fun k hk => ?_⟩, fun ts ds j hs ht hj => ?_⟩
      · intro u hu
        obtain ⟨i, hi', rfl⟩ := List.getElem_of_mem hu
        exact (hus i hi').1
      · have := (hus k hk).2
        have hg : us.getD k (0, 0, 0) = us[k] := by simp [hk]
        rw [hg]
        rw [add_plain0, add_plain0, add_plain0] at this
        simpa only [Nat.add_assoc] using this
      · have hb : Tryz.prog.bytesOf 99 = 24 := by kernel_rfl
        simp only [Prod.mk.injEq] at hx
        have h2 := hx.1
        subst h2
        have := reach_of hs ht hj (by
          simp [DataW.weights, DataW.weightsEach, Tryz.underlying98]
          exact .inl rfl)
        rw [hb] at this
        simp only [reachBytes, List.length_map, List.length_take, List.length_drop, List.length_range] at this
        omega
end
end Go.Proofs.YtfhdjekpdifajaaGreat
namespace Go.Proofs.YtfhdjekpdifajaaGreat
set_option linter.unusedVariables false
open Go.ChangeShapes Go.WideShapes Go.ChangeAt Go.RowKit
set_option maxRecDepth 100000 in
theorem mergePlays_lifted (os : Os) (started : os.Started) (H : Type) (enc : TypeId × Value → H) :
    ReturnsInHanded {} Tryz.checked os 7 .any (Rows.mergePlaysSpec.pre6 enc Tryz.prog Tryz.f7 Rows.mergePlaysRow.domain false) (Rows.mergePlaysSpec.post enc Tryz.prog Tryz.f7 false true false false) := by
  refine returnsInHanded_of_change_sized (C := Tryz.checked) own started (by kernel_rfl) Tryz.func7
    (ChangeSpec.witness6 (enc := enc) (C := Tryz.checked) false ⟨#[], #[.agg #[.int .i64 0, .int .i64 0, .int .i64 0, .int .i64 0, .int .u64 0], .slice none 0 0], []⟩ 8 (by kernel_rfl) (by kernel_rfl) (by kernel_rfl) (by kernel_rfl)) ?_
  intro W base args ds gs before hval0 hW hcnd hsz0 _
  have hval : ∀ (j : Nat) t v, Tryz.f7.params[j]? = some t → args[j]? = some v → Value.okWide Tryz.prog W .any base t v := hval0
  have hW' := hW
  obtain ⟨p, q, hA0, hV, rfl, hfz, hnd⟩ := hW
  have hA : DataW.TrodAll enc Tryz.prog W 0 (fun _ => true) true Tryz.f7.params.toList args.toList ds p := hA0
  have hsz : (DataW.weightsEach Tryz.prog (Tryz.f7.params.toList ++ Rows.mergePlaysSpec.plain.varTypes Tryz.prog) (ds ++ gs)).all (· ≤ reachBytes) = true := hsz0
  rw [Tryz.params7] at hA hval hsz
  obtain ⟨v0, vs0, d0, ds0, p0, q0, hargs, rfl, rfl, h0, r0⟩ := trodAll_cons hA
  obtain ⟨v1, vs1, d1, ds1, p1, q1, rfl, rfl, rfl, h1, r1⟩ := trodAll_cons r0
  obtain ⟨rfl, rfl, rfl⟩ := trodAll_nil r1
  obtain rfl : args = #[v0, v1] := by cases args; simp_all
  obtain ⟨rfl, rfl⟩ := trodVars_none hV
  have k0 := h0
  have k1 := h1
  have lt0 : ∀ x ∈ p0, x.block < W.heap.size := by obtain ⟨m, hm⟩ := k0; exact DataW.trod_lt m _ _ _ hm
  have lt1 : ∀ x ∈ p1, x.block < W.heap.size := by obtain ⟨m, hm⟩ := k1; exact DataW.trod_lt m _ _ _ hm
  obtain ⟨x0, hx0, rfl⟩ := cfgarg_of (hval 0 _ v0 rfl rfl) h0
  obtain ⟨os1, hos1, hat1, hr1⟩ := ops20arg_of (hval 1 _ v1 rfl rfl) h1
  have hul1 := hr1 _ _ 1 hsz rfl rfl
  clear hA0 hval0
  refine (MPlaysL_c x0 hx0 os1 hos1 v1 W hat1 hul1).mono fun e W' ⟨he, bel⟩ => ?_
  subst he
  exact ⟨_, rfl, _, _, _, [], _, [], hW', trodAll_mk1 (shut_bool Tryz.underlying4 _), (trodAll_cons_mk (Below.trod laidOut (by kernel_rfl) (of_decide_eq_true (by kernel_rfl)) k0 bel lt0) (trodAll_cons_mk (Below.trod laidOut (by kernel_rfl) (of_decide_eq_true (by kernel_rfl)) k1 bel lt1) trodAll_mk0)), rfl, bel.frame _, fun h => by cases h⟩
end Go.Proofs.YtfhdjekpdifajaaGreat
