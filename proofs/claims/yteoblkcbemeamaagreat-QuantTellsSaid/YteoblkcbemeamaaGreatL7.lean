/- Part. No condition. -/
import Derived.Test.YteoblkcbemeamaaGreatL4
import Derived.Test.YteoblkcbemeamaaGreatL5
import Derived.Test.YteoblkcbemeamaaGreatL6
import Derived.Test.YteoblkcbemeamaaGreatL1
import Derived.Test.YteoblkcbemeamaaGreatL2
import Derived.Test.YteoblkcbemeamaaGreatL3
import Derived.Laws.EntriesVeiled
import Derived.WalkMore

/- Package merge: two stacks put together, level by level. -/
namespace Go.Proofs.YteoblkcbemeamaaGreat
set_option linter.unusedVariables false
open Go.RowKit
/-- A row of numbers of its own. -/
def RowIs (w : World) (B0 : Nat) (u : Value) (xs : List Int) : Prop :=
  ∃ z cap cur, u = .slice (some ⟨z, 0, none⟩) xs.length cap ∧ xs.length ≤ cap ∧ B0 ≤ z ∧ w.heap[z]? = some (.cells cur 2 (0, 0)) ∧ ∀ j, j < xs.length → cur[j]? = some (.int .i64 (xs.getD j 0))
theorem RowIs.ext {w w' : World} {B0 : Nat} {u : Value} {xs : List Int} (h : RowIs w B0 u xs) (he : Ext w w') : RowIs w' B0 u xs := by
  obtain ⟨z, cap, cur, h1, h2, h3, h4, h5⟩ := h
  exact ⟨z, cap, cur, h1, h2, h3, he.keep h4, h5⟩
theorem RowIs.mod {S : Nat → Prop} {w w' : World} {B0 : Nat} {u : Value} {xs : List Int} (h : RowIs w B0 u xs) (he : Mod S w w') (hS : ∀ k, S k → k < B0) : RowIs w' B0 u xs := by
  obtain ⟨z, cap, cur, h1, h2, h3, h4, h5⟩ := h
  exact ⟨z, cap, cur, h1, h2, h3, he.keep h4 (fun hs => by have := hS z hs; omega), h5⟩
theorem RowIs.ints {w : World} {B0 : Nat} {u : Value} {xs : List Int} (h : RowIs w B0 u xs) : IntsAt w u xs := by
  obtain ⟨z, cap, cur, h1, h2, h3, h4, h5⟩ := h
  exact .inr ⟨z, 0, cap, h1, lt_of h4, fun k hk => by rw [Nat.zero_add, cell_of h4]; exact h5 k hk⟩
/-- Rows of numbers that have been made. -/
structure RowsAt (w : World) (B0 k : Nat) (v : Value) (rv : Nat → Value) (ms : Nat → List Int) : Prop where
  row : w.ownsRow B0 43 1 v ((List.range k).map rv).length ((List.range k).map rv)
  is : ∀ r, r < k → RowIs w B0 (rv r) (ms r)
theorem RowsAt.zero (w : World) (B0 : Nat) (rv : Nat → Value) (ms : Nat → List Int) : RowsAt w B0 0 (.slice none 0 0) rv ms := ⟨⟨rfl, .inl ⟨rfl, rfl⟩⟩, by intros; omega⟩
theorem RowsAt.ext {w w' : World} {B0 k : Nat} {v : Value} {rv : Nat → Value} {ms : Nat → List Int} (h : RowsAt w B0 k v rv ms) (he : Ext w w') : RowsAt w' B0 k v rv ms := ⟨own_ext h.row he, fun r hr => (h.is r hr).ext he⟩
theorem RowsAt.mod {S : Nat → Prop} {w w' : World} {B0 k : Nat} {v : Value} {rv : Nat → Value} {ms : Nat → List Int} (h : RowsAt w B0 k v rv ms) (he : Mod S w w') (hS : ∀ i, S i → i < B0) : RowsAt w' B0 k v rv ms :=
  ⟨own_keepB h.row (fun i hi => he.block i (own_lt h.row hi) (fun hs => by have := hS i hs; have := own_blk h.row hi; omega)), fun r hr => (h.is r hr).mod he hS⟩
theorem RowsAt.next {w w' : World} {B0 k : Nat} {v v' : Value} {rv : Nat → Value} {ms : Nat → List Int} {u : Value} {o : Obj} (h : RowsAt w B0 k v rv ms) (hu : RowIs w B0 u (ms k))
    (hown : w'.ownsRow B0 43 1 v' ((List.range k).map rv ++ [u]).length ((List.range k).map rv ++ [u])) (hg : (w.alloc o).grownBy w' v.ownBlock) : RowsAt w' B0 (k + 1) v' (fun r => if r = k then u else rv r) ms := by
  have hold : ∀ u xs, RowIs w B0 u xs → RowIs w' B0 u xs := by
    rintro u xs ⟨z, cap, cur, h1, h2, h3, h4, h5⟩
    exact ⟨z, cap, cur, h1, h2, h3, (grown_old hg (lt_of h4) (fun e => own_notB h.row h4 (by decide) e.symm)).trans h4, h5⟩
  refine ⟨?_, fun r hr => ?_⟩
  · have e : (List.range (k + 1)).map (fun r => if r = k then u else rv r) = (List.range k).map rv ++ [u] := by
      rw [List.range_succ, List.map_append]
      congr 1
      · apply List.map_congr_left
        intro i hi
        rw [List.mem_range] at hi
        rw [if_neg (by omega)]
      · simp
    rw [e]; exact hown
  · by_cases e : r = k
    · rw [if_pos e, e]; exact hold _ _ hu
    · rw [if_neg e]; exact hold _ _ (h.is r (by omega))
/-- Its cells, once there is one. -/
theorem RowsAt.cells {w : World} {B0 k : Nat} {v : Value} {rv : Nat → Value} {ms : Nat → List Int} (h : RowsAt w B0 k v rv ms) (hk : 0 < k) : ∃ m cap, v = .slice (some ⟨m, 0, none⟩) k cap ∧ B0 ≤ m ∧ m < w.heap.size ∧ ∀ r, r < k → w.cell? ⟨m, r, none⟩ = some (rv r) := by
  have hlen : ((List.range k).map rv).length = k := by simp
  rcases h.row.2 with ⟨_, h0⟩ | ⟨m, cap, cur, rfl, hbg, hm, hnc, hcm, hcs, htake⟩
  · rw [hlen] at h0; omega
  · refine ⟨m, cap, by rw [hlen], hbg, lt_of hm, fun r hr => ?_⟩
    have hget : ((List.range k).map rv)[r]? = some (rv r) := by rw [List.getElem?_map, List.getElem?_range hr]; rfl
    have h1 := h.row.cells (g := m) rfl r _ hget
    rw [show ((⟨m, 0, none⟩ : Addr).add r) = ⟨m, r, none⟩ by (simp [Addr.add]; intro e; exact e.symm)] at h1
    exact h1
theorem lvN_pos {C : Cfg} (hok : C.Ok) {lv : Int} (h0 : 0 ≤ lv) : 0 < lvN C lv := by
  unfold lvN
  cases isX C lv with
  | true => show 0 < kN C lv; have := kN_eq hok h0; have := (keys_bd C hok lv h0).1; omega
  | false => show 0 < rN C * wN C; have := rN_eq hok; have := wN_eq hok; have := hok.r1; have := hok.w1; exact Nat.mul_pos (by omega) (by omega)
theorem cfg_eqB (C : Cfg) : ((C.bits == C.bits) && ((C.rows == C.rows) && ((C.width == C.width) && ((C.mode == C.mode) && (C.seed == C.seed))))) = true := by simp
set_option maxRecDepth 20000 in
set_option maxHeartbeats 4000000 in
theorem KAlike_yes (s g s2 g2 : Nat) (C : Cfg) (B : Nat) (L L2 : Nat → Lev) (ls ls2 : Nat → List Int) (w : World) (h : KAt w s g C B L ls) (h2 : KAt w s2 g2 C B L2 ls2) :
    Calls Tryz.prog 135 #[.pointer (some ⟨s, 0, none⟩), .pointer (some ⟨s2, 0, none⟩)] w fun e w' => e = .returned (.bool true) ∧ Ext w w' := by
  go_enter Tryz.func135, Tryz.ntmps135
  go_wp2_with fail
  refine Calls.mono (SKConfig_c s g C B L ls _ h) ?_
  rintro e w1 ⟨rfl, hx1⟩
  go_wp2_with fail
  refine Calls.mono (SKConfig_c s2 g2 C B L2 ls2 _ (h2.ext hx1)) ?_
  rintro e w2 ⟨rfl, hx2⟩
  go_wp2
  go_ret
  exact ⟨by first | rfl | simp, hx1.trans' hx2⟩
theorem KAlike_nil1 (v : Option Addr) (w : World) :
    Calls Tryz.prog 135 #[.pointer none, .pointer v] w fun e w' => e = .returned (.bool false) ∧ w = w' := by
  go_enter Tryz.func135, Tryz.ntmps135
  go_wp2
  go_ret
  exact ⟨rfl, rfl⟩
theorem KAlike_nil2 (s : Nat) (w : World) :
    Calls Tryz.prog 135 #[.pointer (some ⟨s, 0, none⟩), .pointer none] w fun e w' => e = .returned (.bool false) ∧ w = w' := by
  go_enter Tryz.func135, Tryz.ntmps135
  go_wp2
  go_ret
  exact ⟨rfl, rfl⟩
set_option maxRecDepth 20000 in
set_option maxHeartbeats 4000000 in
theorem KAlike_no (s g s2 g2 : Nat) (C C2 : Cfg) (B B2 : Nat) (L L2 : Nat → Lev) (ls ls2 : Nat → List Int) (w : World) (h : KAt w s g C B L ls) (h2 : KAt w s2 g2 C2 B2 L2 ls2) (hne : C ≠ C2) :
    Calls Tryz.prog 135 #[.pointer (some ⟨s, 0, none⟩), .pointer (some ⟨s2, 0, none⟩)] w fun e w' => e = .returned (.bool false) ∧ Ext w w' := by
  have hp : PartsAt C 0 C2 0 := (parts_or C 0 C2 0).resolve_left (fun h => hne h.1)
  rcases hp with h' | ⟨h0, h'⟩ | ⟨h0, h1, h'⟩ | ⟨h0, h1, h3, h'⟩ | ⟨h0, h1, h3, h4, h'⟩ | ⟨h0, h1, h3, h4, h5, h'⟩
  case p5 => simp at h'
  all_goals
    go_enter Tryz.func135, Tryz.ntmps135
    go_wp2_with fail
    refine Calls.mono (SKConfig_c s g C B L ls _ h) ?_
    rintro e w1 ⟨rfl, hx1⟩
    go_wp2_with fail
    refine Calls.mono (SKConfig_c s2 g2 C2 B2 L2 ls2 _ (h2.ext hx1)) ?_
    rintro e w2 ⟨rfl, hx2⟩
    go_wp2
    go_ret
    exact ⟨by first | rfl | simp, hx1.trans' hx2⟩
def KJoinPost (w : World) (s g : Nat) (C : Cfg) (B : Nat) (L : Nat → Lev) (ms : Nat → List Int) (e : Ending) (w' : World) : Prop :=
  ((∀ n, n ≤ B → allI (ms n)) ∧ e = .returned (.int .i64 0) ∧ KAt w' s g C B L ms ∧ Mod (cellsOf B L) w w') ∨ ((¬ ∀ n, n ≤ B → allI (ms n)) ∧ e = .returned (.int .i64 4) ∧ Ext w w')
set_option maxRecDepth 20000 in
set_option maxHeartbeats 8000000 in
theorem KAllMerge_c (s g s2 g2 : Nat) (C : Cfg) (B : Nat) (L L2 : Nat → Lev) (ls ls2 : Nat → List Int) (w : World) (h : KAt w s g C B L ls) (h2 : KAt w s2 g2 C B L2 ls2) (hmd : "Merge" = "Subtract" → C.mode ≠ 2) :
    Calls Tryz.prog 134 #[.agg #[.func (.func 51) #[] #[]], .pointer (some ⟨s, 0, none⟩), .pointer (some ⟨s2, 0, none⟩)] w (KJoinPost w s g C B L (fun n => plusL (ls n) (ls2 n))) := by
  have HH := Lib.hid h
  have HH2 := Lib.hid h2
  have hok := h.ok
  have hB := h.hB
  have hb1 := hok.b1
  have hb2 := hok.b2
  have hB59 : B ≤ 59 := by omega
  have HB := Lib.hid hB
  have HMD := Lib.hid hmd
  have hlen : ∀ n, n ≤ B → (plusL (ls n) (ls2 n)).length = lvN C n := fun n hn => by rw [plusL_len]; exact (h.lev n hn).len
  have HLEN := Lib.hid hlen
  obtain ⟨ms, hms⟩ : ∃ ms : Nat → List Int, ms = fun n => plusL (ls n) (ls2 n) := ⟨_, rfl⟩
  have HMS := Lib.hid (show ∀ n, plusL (ls n) (ls2 n) = ms n from fun n => by rw [hms])
  rw [← hms]
  clear h h2 hB hmd hlen hms
  go_enter Tryz.func134, Tryz.ntmps134
  go_wp2
  go_step3
  go_wp2_with fail
  refine Calls.mono (KAlike_yes s g s2 g2 C B L L2 ls ls2 _ (HH.out.ext (Ext.alloc' _ _)) (HH2.out.ext (Ext.alloc' _ _))) ?_
  rintro e w1 ⟨rfl, hx1⟩
  have hj1 := hx1.keep (heap_at w (.cells #[.func (.func 51) #[] #[]] 202) rfl)
  have hE1 : Ext w w1 := (Ext.alloc' _ _).trans' hx1
  clear hx1
  go_wp2
  go_step3
  go_wp2_with fail
  refine Calls.mono (SKConfig_c s g C B L ls _ (HH.out.ext hE1)) ?_
  rintro e w2 ⟨rfl, hx2⟩
  have hj2 := hx2.keep hj1
  have hE2 : Ext w w2 := hE1.trans' hx2
  clear hj1 hx2 hE1
  have hfd : ∀ w, (Instr.field 24 (.agg #[.int .i64 C.bits, .int .i64 C.rows, .int .i64 C.width, .int .i64 C.mode, .int .u64 C.seed]) 0).run Tryz.prog w = .ok (.int .i64 C.bits) w := fun _ => by kernel_rfl
  go_wp2
  go_loopw [7, 8, 24] (fun u7 u8 u24 wr => ∃ (k : Nat) (rv : Nat → Value), k ≤ B + 1 ∧ u24 = .int .i64 k ∧ u8 = .int .i64 0 ∧ RowsAt wr w.heap.size k u7 rv ms ∧ Ext w wr ∧ wr.heap[w.heap.size]? = some (.cells #[.func (.func 51) #[] #[]] 202 (0, 0)) ∧ ∀ n, n < k → allI (ms n)) (fun _ _ u24 _ => B + 1 - (intOf u24).toNat)
  case atStart => exact ⟨0, fun _ => undef, Nat.zero_le _, rfl, rfl, RowsAt.zero _ _ _ _, hE2, hj2, fun n hn => absurd hn (Nat.not_lt_zero _)⟩
  case round =>
    clear hE2 hj2
    obtain ⟨k, rv, hk, rfl, rfl, hR, hE, hj, hall⟩ := hrel
    have HALL := Lib.hid hall
    have HR := Lib.hid hR
    have HJ := Lib.hid hj
    have hsE := hE.size
    clear hall hR hj
    by_cases hlt : k < B + 1
    · have hlt' : (k : Int) < C.bits + 1 := by have := HB.out; omega
      go_wp2_with fail
      refine Calls.mono (KAt_c s g C B L ls _ (HH.out.ext hE) k (by omega)) ?_
      rintro e w3 ⟨M, rfl, hL, m1, m2, m3, hx3⟩
      have hE3 := hE.trans' hx3
      have hs3 := hx3.size
      rw [lvV_eq]
      have HL := Lib.hid hL
      clear hL
      go_wp2_with fail
      refine Calls.mono (KAt_c s2 g2 C B L2 ls2 _ (HH2.out.ext hE3) k (by omega)) ?_
      rintro e w4 ⟨M2, rfl, hL2, n1, n2, n3, hx4⟩
      have hE4 := hE3.trans' hx4
      rw [lvV_eq]
      have HL4 := Lib.hid (HL.out.ext hx4)
      have HL2 := Lib.hid hL2
      have hj4 := (hx3.trans' hx4).keep HJ.out
      have c0 := (cell_of hj4 0).trans rfl
      have l0 := lt_of hj4
      clear hL2 HL
      have hcall : Calls Tryz.prog 51 #[.iface (lvT C k) (.pointer (some ⟨M.s, 0, none⟩)), .iface (lvT C k) (.pointer (some ⟨M2.s, 0, none⟩))] w4 (LMergePost w4 M C k (ms k)) := by
        rw [← HMS.out k]
        first | exact LMerge_c C k M M2 _ _ w4 HL4.out HL2.out | exact LSubtract_c C k M M2 _ _ w4 HL4.out HL2.out (HMD.out (by first | rfl | trivial))
      have HCALL := Lib.hid hcall
      clear hcall
      have hs4 := hx4.size
      go_wp2_with fail
      refine Calls.mono HCALL.out ?_
      rintro e w5 (⟨ha, rfl, hL5, hm5⟩ | ⟨ha, rfl, hx5⟩)
      · have hE5 : Ext wr w5 := Below.trans (hx3.trans' hx4) (hm5.below (by omega) (fun i hi => by rw [hi]; exact m3))
        have hj5 := hE5.keep HJ.out
        have HL5 := Lib.hid hL5
        have HA := Lib.hid ha
        have HJ5 := Lib.hid hj5
        have mC := lvm_Cells C k (some ⟨M.s, 0, none⟩)
        have eC := lve_Cells C k
        clear hL5 hm5 ha hj5 hj4 c0 l0 hx3 hx4 hE3 hE4
        go_wp2_with fail
        refine Calls.mono (LCells_c C k M _ _ HL5.out) ?_
        rintro e w6 ⟨v, rfl, ho, _, hx6⟩
        have hE6 := hE5.trans' hx6
        have hpos : 0 < (ms k).length := by rw [HL5.out.len]; exact lvN_pos hok (Int.natCast_nonneg k)
        have hu : RowIs w6 w.heap.size v (ms k) := by
          obtain ⟨z, cap, cur, r1, r2, r3, r4, r5⟩ := own_row1 ho hpos
          exact ⟨z, cap, cur, r1, r2, by have := hE5.size; omega, r4, r5⟩
        have hR6 := HR.out.ext hE6
        have hj6 := hx6.keep HJ5.out
        have HU := Lib.hid hu
        have HR6 := Lib.hid hR6
        have HJ6 := Lib.hid hj6
        obtain ⟨vp, vc, rfl⟩ : ∃ p c, v = .slice p (ms k).length c := by obtain ⟨z, cap, cur, r1, _⟩ := hu; exact ⟨_, _, r1⟩
        have hs6 := hE6.size
        obtain ⟨i0, z0, hi0, hz0, hz1, hz2, hz3⟩ := info_row
        clear mC eC hu hR6 hj6 ho hx6 hE5
        go_wp2_with (at_builtin; refine wpList_appB w6 24 (by decide) (.slice vp (ms k).length vc) rfl ((List.range k).map rv) u7 w.heap.size 43 HR6.out.row 142 rfl _ _ rfl i0 z0 hi0 hz0 hz1 hz2 hz3 Tryz.underlying142 rfl rfl ?b1 ?b2 ?_)
        case b1 => rw [List.length_map, List.length_range]; omega
        case b2 => omega
        intro v' w' g1 g2
        have hown' := g1
        have hnext := HR6.out.next HU.out (by rw [List.length_append, List.length_map, List.length_range]; exact hown') g2
        have hEw : Ext w w' := ext_grown (hE.trans' hE6) g2 (fun i hi => own_blk HR6.out.row hi)
        have hjw := (grown_old g2 (lt_of HJ6.out) (fun e => own_notB HR6.out.row HJ6.out (by decide) e.symm)).trans HJ6.out
        obtain ⟨pv, nv, cv, rfl⟩ := own_slice g1
        have HN := Lib.hid hnext
        have HJW := Lib.hid hjw
        clear g1 g2 hnext hown' hjw
        go_wp2
        go_roundw
        case rel =>
          refine ⟨k + 1, _, by omega, by go_num, rfl, HN.out, hEw, HJW.out, fun n hn => ?_⟩
          by_cases e : n = k
          · rw [e]; exact HA.out
          · exact HALL.out n (by omega)
        case measure => simp [intOf]; omega
      · go_wp2
        try rw [Exit.noGoto_ret]
        go_ret
        exact .inr ⟨fun h => ha (h k (by omega)), rfl, hE4.trans' hx5⟩
    · obtain rfl : k = B + 1 := by omega
      have hlt' : ¬ (((B + 1 : Nat) : Int) < C.bits + 1) := by have := HB.out; omega
      rename World => wo
      obtain ⟨m, mc, rfl, hmB, hml, hmc⟩ := HR.out.cells (by omega)
      have HMC := Lib.hid hmc
      have hlc : ∀ i, cellsOf B L i → i < w.heap.size := fun i hi => HH.out.ltc hi
      have HLC := Lib.hid hlc
      have HK0 := Lib.hid (HH.out.ext hE)
      clear hmc hlc
      go_wp2
      go_loopw [57] (fun u57 wr => ∃ j : Nat, j ≤ B + 1 ∧ u57 = .int .i64 j ∧ Mod (cellsOf B L) wo wr ∧ KAt wr s g C B L (fun n => if n < j then ms n else ls n)) (fun u57 _ => B + 1 - (intOf u57).toNat)
      case atStart => exact ⟨0, Nat.zero_le _, rfl, Mod.refl _ _, HK0.out.cong (fun n _ => by rw [if_neg (Nat.not_lt_zero _)])⟩
      case round =>
        obtain ⟨j, hj, rfl, hM, hK⟩ := hrel
        have hsM := hM.size
        by_cases hjl : j < B + 1
        · have hRj := (HR.out.is j hjl).mod hM HLC.out
          have hcj := (mcell hM hml (fun h => by have := HLC.out _ h; omega) _).trans (HMC.out j hjl)
          have lm : m < wr.heap.size := Nat.lt_of_lt_of_le hml hsM
          have HK := Lib.hid hK
          have HRJ := Lib.hid hRj
          obtain ⟨zp, zc, hzz⟩ : ∃ p c, rv j = .slice p (ms j).length c := by obtain ⟨z, cap, cur, r1, _⟩ := hRj; exact ⟨_, _, r1⟩
          rw [hzz] at hcj HRJ
          clear hK hRj hzz
          go_wp2_with fail
          refine Calls.mono (KLoad_yes s g C B L _ _ HK.out j (by omega) (ms j) _ HRJ.out.ints (HALL.out j hjl) (by rw [← HMS.out j]; exact HLEN.out j (by omega)) ?_) ?_
          · rintro g' off k' cap' he e
            obtain ⟨z, cap, cur, r1, r2, r3, _⟩ := HRJ.out
            rw [he] at r1
            have : g' = z := by
              have h1 := (Value.slice.inj r1).1
              simp at h1
              exact h1.1
            have := HLC.out _ ⟨j, by omega, rfl⟩
            omega
          rintro e w5 ⟨rfl, hK5, hm5⟩
          go_wp2
          go_roundw
          case rel =>
            refine ⟨j + 1, by omega, by go_num, hM.trans (hm5.mono (fun i hi _ => ⟨j, by omega, hi⟩)), hK5.cong (fun n _ => ?_)⟩
            by_cases e : n = j
            · rw [if_pos e, if_pos (by omega), e]
            · rw [if_neg e]
              by_cases h : n < j
              · rw [if_pos h, if_pos (by omega)]
              · rw [if_neg h, if_neg (by omega)]
          case measure => simp [intOf]; omega
        · obtain rfl : j = B + 1 := by omega
          go_wp2
          try rw [Exit.noGoto_ret]
          go_ret
          exact .inl ⟨fun n hn => HALL.out n (by omega), rfl, hK.cong (fun n hn => if_pos (by omega)), (hE.mod _).trans hM⟩
set_option maxRecDepth 20000 in
set_option maxHeartbeats 8000000 in
theorem KAllSubtract_c (s g s2 g2 : Nat) (C : Cfg) (B : Nat) (L L2 : Nat → Lev) (ls ls2 : Nat → List Int) (w : World) (h : KAt w s g C B L ls) (h2 : KAt w s2 g2 C B L2 ls2) (hmd : "Subtract" = "Subtract" → C.mode ≠ 2) :
    Calls Tryz.prog 134 #[.agg #[.func (.func 53) #[] #[]], .pointer (some ⟨s, 0, none⟩), .pointer (some ⟨s2, 0, none⟩)] w (KJoinPost w s g C B L (fun n => minusL (ls n) (ls2 n))) := by
  have HH := Lib.hid h
  have HH2 := Lib.hid h2
  have hok := h.ok
  have hB := h.hB
  have hb1 := hok.b1
  have hb2 := hok.b2
  have hB59 : B ≤ 59 := by omega
  have HB := Lib.hid hB
  have HMD := Lib.hid hmd
  have hlen : ∀ n, n ≤ B → (minusL (ls n) (ls2 n)).length = lvN C n := fun n hn => by rw [minusL_len]; exact (h.lev n hn).len
  have HLEN := Lib.hid hlen
  obtain ⟨ms, hms⟩ : ∃ ms : Nat → List Int, ms = fun n => minusL (ls n) (ls2 n) := ⟨_, rfl⟩
  have HMS := Lib.hid (show ∀ n, minusL (ls n) (ls2 n) = ms n from fun n => by rw [hms])
  rw [← hms]
  clear h h2 hB hmd hlen hms
  go_enter Tryz.func134, Tryz.ntmps134
  go_wp2
  go_step3
  go_wp2_with fail
  refine Calls.mono (KAlike_yes s g s2 g2 C B L L2 ls ls2 _ (HH.out.ext (Ext.alloc' _ _)) (HH2.out.ext (Ext.alloc' _ _))) ?_
  rintro e w1 ⟨rfl, hx1⟩
  have hj1 := hx1.keep (heap_at w (.cells #[.func (.func 53) #[] #[]] 202) rfl)
  have hE1 : Ext w w1 := (Ext.alloc' _ _).trans' hx1
  clear hx1
  go_wp2
  go_step3
  go_wp2_with fail
  refine Calls.mono (SKConfig_c s g C B L ls _ (HH.out.ext hE1)) ?_
  rintro e w2 ⟨rfl, hx2⟩
  have hj2 := hx2.keep hj1
  have hE2 : Ext w w2 := hE1.trans' hx2
  clear hj1 hx2 hE1
  have hfd : ∀ w, (Instr.field 24 (.agg #[.int .i64 C.bits, .int .i64 C.rows, .int .i64 C.width, .int .i64 C.mode, .int .u64 C.seed]) 0).run Tryz.prog w = .ok (.int .i64 C.bits) w := fun _ => by kernel_rfl
  go_wp2
  go_loopw [7, 8, 24] (fun u7 u8 u24 wr => ∃ (k : Nat) (rv : Nat → Value), k ≤ B + 1 ∧ u24 = .int .i64 k ∧ u8 = .int .i64 0 ∧ RowsAt wr w.heap.size k u7 rv ms ∧ Ext w wr ∧ wr.heap[w.heap.size]? = some (.cells #[.func (.func 53) #[] #[]] 202 (0, 0)) ∧ ∀ n, n < k → allI (ms n)) (fun _ _ u24 _ => B + 1 - (intOf u24).toNat)
  case atStart => exact ⟨0, fun _ => undef, Nat.zero_le _, rfl, rfl, RowsAt.zero _ _ _ _, hE2, hj2, fun n hn => absurd hn (Nat.not_lt_zero _)⟩
  case round =>
    clear hE2 hj2
    obtain ⟨k, rv, hk, rfl, rfl, hR, hE, hj, hall⟩ := hrel
    have HALL := Lib.hid hall
    have HR := Lib.hid hR
    have HJ := Lib.hid hj
    have hsE := hE.size
    clear hall hR hj
    by_cases hlt : k < B + 1
    · have hlt' : (k : Int) < C.bits + 1 := by have := HB.out; omega
      go_wp2_with fail
      refine Calls.mono (KAt_c s g C B L ls _ (HH.out.ext hE) k (by omega)) ?_
      rintro e w3 ⟨M, rfl, hL, m1, m2, m3, hx3⟩
      have hE3 := hE.trans' hx3
      have hs3 := hx3.size
      rw [lvV_eq]
      have HL := Lib.hid hL
      clear hL
      go_wp2_with fail
      refine Calls.mono (KAt_c s2 g2 C B L2 ls2 _ (HH2.out.ext hE3) k (by omega)) ?_
      rintro e w4 ⟨M2, rfl, hL2, n1, n2, n3, hx4⟩
      have hE4 := hE3.trans' hx4
      rw [lvV_eq]
      have HL4 := Lib.hid (HL.out.ext hx4)
      have HL2 := Lib.hid hL2
      have hj4 := (hx3.trans' hx4).keep HJ.out
      have c0 := (cell_of hj4 0).trans rfl
      have l0 := lt_of hj4
      clear hL2 HL
      have hcall : Calls Tryz.prog 53 #[.iface (lvT C k) (.pointer (some ⟨M.s, 0, none⟩)), .iface (lvT C k) (.pointer (some ⟨M2.s, 0, none⟩))] w4 (LMergePost w4 M C k (ms k)) := by
        rw [← HMS.out k]
        first | exact LMerge_c C k M M2 _ _ w4 HL4.out HL2.out | exact LSubtract_c C k M M2 _ _ w4 HL4.out HL2.out (HMD.out (by first | rfl | trivial))
      have HCALL := Lib.hid hcall
      clear hcall
      have hs4 := hx4.size
      go_wp2_with fail
      refine Calls.mono HCALL.out ?_
      rintro e w5 (⟨ha, rfl, hL5, hm5⟩ | ⟨ha, rfl, hx5⟩)
      · have hE5 : Ext wr w5 := Below.trans (hx3.trans' hx4) (hm5.below (by omega) (fun i hi => by rw [hi]; exact m3))
        have hj5 := hE5.keep HJ.out
        have HL5 := Lib.hid hL5
        have HA := Lib.hid ha
        have HJ5 := Lib.hid hj5
        have mC := lvm_Cells C k (some ⟨M.s, 0, none⟩)
        have eC := lve_Cells C k
        clear hL5 hm5 ha hj5 hj4 c0 l0 hx3 hx4 hE3 hE4
        go_wp2_with fail
        refine Calls.mono (LCells_c C k M _ _ HL5.out) ?_
        rintro e w6 ⟨v, rfl, ho, _, hx6⟩
        have hE6 := hE5.trans' hx6
        have hpos : 0 < (ms k).length := by rw [HL5.out.len]; exact lvN_pos hok (Int.natCast_nonneg k)
        have hu : RowIs w6 w.heap.size v (ms k) := by
          obtain ⟨z, cap, cur, r1, r2, r3, r4, r5⟩ := own_row1 ho hpos
          exact ⟨z, cap, cur, r1, r2, by have := hE5.size; omega, r4, r5⟩
        have hR6 := HR.out.ext hE6
        have hj6 := hx6.keep HJ5.out
        have HU := Lib.hid hu
        have HR6 := Lib.hid hR6
        have HJ6 := Lib.hid hj6
        obtain ⟨vp, vc, rfl⟩ : ∃ p c, v = .slice p (ms k).length c := by obtain ⟨z, cap, cur, r1, _⟩ := hu; exact ⟨_, _, r1⟩
        have hs6 := hE6.size
        obtain ⟨i0, z0, hi0, hz0, hz1, hz2, hz3⟩ := info_row
        clear mC eC hu hR6 hj6 ho hx6 hE5
        go_wp2_with (at_builtin; refine wpList_appB w6 24 (by decide) (.slice vp (ms k).length vc) rfl ((List.range k).map rv) u7 w.heap.size 43 HR6.out.row 142 rfl _ _ rfl i0 z0 hi0 hz0 hz1 hz2 hz3 Tryz.underlying142 rfl rfl ?b1 ?b2 ?_)
        case b1 => rw [List.length_map, List.length_range]; omega
        case b2 => omega
        intro v' w' g1 g2
        have hown' := g1
        have hnext := HR6.out.next HU.out (by rw [List.length_append, List.length_map, List.length_range]; exact hown') g2
        have hEw : Ext w w' := ext_grown (hE.trans' hE6) g2 (fun i hi => own_blk HR6.out.row hi)
        have hjw := (grown_old g2 (lt_of HJ6.out) (fun e => own_notB HR6.out.row HJ6.out (by decide) e.symm)).trans HJ6.out
        obtain ⟨pv, nv, cv, rfl⟩ := own_slice g1
        have HN := Lib.hid hnext
        have HJW := Lib.hid hjw
        clear g1 g2 hnext hown' hjw
        go_wp2
        go_roundw
        case rel =>
          refine ⟨k + 1, _, by omega, by go_num, rfl, HN.out, hEw, HJW.out, fun n hn => ?_⟩
          by_cases e : n = k
          · rw [e]; exact HA.out
          · exact HALL.out n (by omega)
        case measure => simp [intOf]; omega
      · go_wp2
        try rw [Exit.noGoto_ret]
        go_ret
        exact .inr ⟨fun h => ha (h k (by omega)), rfl, hE4.trans' hx5⟩
    · obtain rfl : k = B + 1 := by omega
      have hlt' : ¬ (((B + 1 : Nat) : Int) < C.bits + 1) := by have := HB.out; omega
      rename World => wo
      obtain ⟨m, mc, rfl, hmB, hml, hmc⟩ := HR.out.cells (by omega)
      have HMC := Lib.hid hmc
      have hlc : ∀ i, cellsOf B L i → i < w.heap.size := fun i hi => HH.out.ltc hi
      have HLC := Lib.hid hlc
      have HK0 := Lib.hid (HH.out.ext hE)
      clear hmc hlc
      go_wp2
      go_loopw [57] (fun u57 wr => ∃ j : Nat, j ≤ B + 1 ∧ u57 = .int .i64 j ∧ Mod (cellsOf B L) wo wr ∧ KAt wr s g C B L (fun n => if n < j then ms n else ls n)) (fun u57 _ => B + 1 - (intOf u57).toNat)
      case atStart => exact ⟨0, Nat.zero_le _, rfl, Mod.refl _ _, HK0.out.cong (fun n _ => by rw [if_neg (Nat.not_lt_zero _)])⟩
      case round =>
        obtain ⟨j, hj, rfl, hM, hK⟩ := hrel
        have hsM := hM.size
        by_cases hjl : j < B + 1
        · have hRj := (HR.out.is j hjl).mod hM HLC.out
          have hcj := (mcell hM hml (fun h => by have := HLC.out _ h; omega) _).trans (HMC.out j hjl)
          have lm : m < wr.heap.size := Nat.lt_of_lt_of_le hml hsM
          have HK := Lib.hid hK
          have HRJ := Lib.hid hRj
          obtain ⟨zp, zc, hzz⟩ : ∃ p c, rv j = .slice p (ms j).length c := by obtain ⟨z, cap, cur, r1, _⟩ := hRj; exact ⟨_, _, r1⟩
          rw [hzz] at hcj HRJ
          clear hK hRj hzz
          go_wp2_with fail
          refine Calls.mono (KLoad_yes s g C B L _ _ HK.out j (by omega) (ms j) _ HRJ.out.ints (HALL.out j hjl) (by rw [← HMS.out j]; exact HLEN.out j (by omega)) ?_) ?_
          · rintro g' off k' cap' he e
            obtain ⟨z, cap, cur, r1, r2, r3, _⟩ := HRJ.out
            rw [he] at r1
            have : g' = z := by
              have h1 := (Value.slice.inj r1).1
              simp at h1
              exact h1.1
            have := HLC.out _ ⟨j, by omega, rfl⟩
            omega
          rintro e w5 ⟨rfl, hK5, hm5⟩
          go_wp2
          go_roundw
          case rel =>
            refine ⟨j + 1, by omega, by go_num, hM.trans (hm5.mono (fun i hi _ => ⟨j, by omega, hi⟩)), hK5.cong (fun n _ => ?_)⟩
            by_cases e : n = j
            · rw [if_pos e, if_pos (by omega), e]
            · rw [if_neg e]
              by_cases h : n < j
              · rw [if_pos h, if_pos (by omega)]
              · rw [if_neg h, if_neg (by omega)]
          case measure => simp [intOf]; omega
        · obtain rfl : j = B + 1 := by omega
          go_wp2
          try rw [Exit.noGoto_ret]
          go_ret
          exact .inl ⟨fun n hn => HALL.out n (by omega), rfl, hK.cong (fun n hn => if_pos (by omega)), (hE.mod _).trans hM⟩
end Go.Proofs.YteoblkcbemeamaaGreat

/- wide.Times, wide.Less. -/
namespace Go.Proofs.YteoblkcbemeamaaGreat
set_option linter.unusedVariables false
open Go.RowKit

theorem mul_abs {a b A B : Int} (ha : -A ≤ a ∧ a ≤ A) (hb : -B ≤ b ∧ b ≤ B) : -(A * B) ≤ a * b ∧ a * b ≤ A * B := by
  have h1 : 0 ≤ (A - a) * (B + b) := Int.mul_nonneg (by omega) (by omega)
  have h2 : 0 ≤ (A + a) * (B - b) := Int.mul_nonneg (by omega) (by omega)
  have h3 : 0 ≤ (A - a) * (B - b) := Int.mul_nonneg (by omega) (by omega)
  have h4 : 0 ≤ (A + a) * (B + b) := Int.mul_nonneg (by omega) (by omega)
  simp only [Int.mul_add, Int.add_mul, Int.sub_mul, Int.mul_sub] at h1 h2 h3 h4
  omega
theorem mul_w {a b : Int} (ha : I64 a) (hb : I64 b) : W128 (a * b) := by
  unfold I64 at ha hb
  have := mul_abs (A := 9223372036854775808) (B := 9223372036854775808) (a := a) (b := b) (by omega) (by omega)
  unfold W128; omega
def uu (a : Int) : Int := a % 18446744073709551616
theorem uu_u (a : Int) : U64 (uu a) := by unfold uu U64; omega
def tmH (a b : Int) (b1 b2 : Bool) : Int :=
  let p := uu a * uu b / 18446744073709551616
  let q := bif b1 then IntKind.u64.wrap (p - uu b) else p
  wrap64 (bif b2 then IntKind.u64.wrap (q - uu a) else q)
theorem tm_hi {a b : Int} (ha : I64 a) (hb : I64 b) {b1 b2 : Bool} (d1 : decide (a < 0) = b1) (d2 : decide (b < 0) = b2) : tmH a b b1 b2 = hi (a * b) := by
  have hw := mul_abs (A := 9223372036854775808) (B := 9223372036854775808) (a := a) (b := b) (by unfold I64 at ha; omega) (by unfold I64 at hb; omega)
  have e2 : (a + 18446744073709551616) * b = a * b + 18446744073709551616 * b := Int.add_mul _ _ _
  have e3 : a * (b + 18446744073709551616) = a * b + a * 18446744073709551616 := Int.mul_add _ _ _
  have e4 : (a + 18446744073709551616) * (b + 18446744073709551616) = a * b + a * 18446744073709551616 + (18446744073709551616 * b + 18446744073709551616 * 18446744073709551616) := by
    rw [Int.add_mul, Int.mul_add, Int.mul_add]
  have ua0 : ¬ a < 0 → uu a = a := fun h => by unfold uu; unfold I64 at ha; omega
  have ua1 : a < 0 → uu a = a + 18446744073709551616 := fun h => by unfold uu; unfold I64 at ha; omega
  have ub0 : ¬ b < 0 → uu b = b := fun h => by unfold uu; unfold I64 at hb; omega
  have ub1 : b < 0 → uu b = b + 18446744073709551616 := fun h => by unfold uu; unfold I64 at hb; omega
  subst d1 d2
  unfold tmH hi wrap64
  simp only [IntKind.wrap_u64]
  unfold I64 at ha hb
  by_cases h1 : a < 0 <;> by_cases h2 : b < 0
  · rw [ua1 h1, ub1 h2, e4]; simp only [h1, h2, decide_true, cond_true]; generalize a * b = t at *; omega
  · rw [ua1 h1, ub0 h2, e2]; simp only [h1, h2, decide_true, decide_false, cond_true, cond_false]; generalize a * b = t at *; omega
  · rw [ua0 h1, ub1 h2, e3]; simp only [h1, h2, decide_true, decide_false, cond_true, cond_false]; generalize a * b = t at *; omega
  · rw [ua0 h1, ub0 h2]; simp only [h1, h2, decide_false, cond_false]; generalize a * b = t at *; omega
theorem tm_lo (a b : Int) : uu a * uu b % 18446744073709551616 = lo (a * b) := by
  unfold uu lo
  rw [← Int.mul_emod]
theorem u64_wrap (a : Int) : IntKind.u64.wrap a = uu a := by rw [IntKind.wrap_u64]; rfl
set_option maxHeartbeats 1000000 in
theorem Times_core (a b : Int) (b1 b2 : Bool) (d1 : decide (a < 0) = b1) (d2 : decide (b < 0) = b2) (w : World) :
    Calls Tryz.prog 164 #[.int .i64 a, .int .i64 b] w fun e w' => e = .returned (.agg #[.int .i64 (tmH a b b1 b2), .int .u64 (uu a * uu b % 18446744073709551616)]) ∧ Ext w w' := by
  have e1 := u64_wrap a
  have e2 := u64_wrap b
  cases b1 <;> cases b2
  all_goals
    go_enter Tryz.func164, Tryz.ntmps164
    go_wp2_with (go_at_call 181; refine (mul64 _ _ (uu_u a) (uu_u b) _).mono ?_; rintro e w' ⟨rfl, rfl⟩)
    exact bodyPost_ret (v := .agg #[.int .i64 (tmH a b _ _), .int .u64 (uu a * uu b % 18446744073709551616)]) (by simp [results, Tryz.results164, go_sem, tmH]) rfl ⟨rfl, by (repeat' (first | exact Ext.refl _ | assumption | apply Ext.allocR | apply Ext.drewR | apply Ext.drewNR | (refine Ext.trans' ?_ (by assumption))))⟩
theorem Times_c (a b : Int) (ha : I64 a) (hb : I64 b) (w : World) :
    Calls Tryz.prog 164 #[.int .i64 a, .int .i64 b] w fun e w' => e = .returned (.agg #[.int .i64 (hi (a * b)), .int .u64 (lo (a * b))]) ∧ Ext w w' := by
  have := Times_core a b _ _ rfl rfl w
  rwa [tm_hi ha hb rfl rfl, tm_lo] at this
theorem less_bool (x y : Int) : (decide (hi x < hi y) || ((hi x == hi y) && decide (lo x < lo y))) = decide (x < y) := by
  have hx := hilo x
  have hy := hilo y
  have lx := lo_u x
  have ly := lo_u y
  unfold U64 at lx ly
  rw [Bool.eq_iff_iff]
  simp only [Bool.or_eq_true, Bool.and_eq_true, decide_eq_true_eq, beq_iff_eq]
  omega
set_option maxHeartbeats 1000000 in
theorem Less_core (x y : Int) (b1 b2 b3 : Bool) (d1 : decide (hi x < hi y) = b1) (d2 : (hi x == hi y) = b2) (d3 : decide (lo x < lo y) = b3) (w : World) :
    Calls Tryz.prog 163 #[.agg #[.int .i64 (hi x), .int .u64 (lo x)], .agg #[.int .i64 (hi y), .int .u64 (lo y)]] w fun e w' => e = .returned (.bool (b1 || (b2 && b3))) ∧ Ext w w' := by
  cases b1 <;> cases b2 <;> cases b3
  all_goals
    go_enter Tryz.func163, Tryz.ntmps163
    go_wp2
    go_ret
    exact ⟨rfl, by (repeat' (first | exact Ext.refl _ | assumption | apply Ext.allocR | apply Ext.drewR | apply Ext.drewNR | (refine Ext.trans' ?_ (by assumption))))⟩
theorem Less_c (x y : Int) (w : World) :
    Calls Tryz.prog 163 #[.agg #[.int .i64 (hi x), .int .u64 (lo x)], .agg #[.int .i64 (hi y), .int .u64 (lo y)]] w fun e w' => e = .returned (.bool (decide (x < y))) ∧ Ext w w' := by
  have := Less_core x y _ _ _ rfl rfl rfl w
  rwa [less_bool] at this
end Go.Proofs.YteoblkcbemeamaaGreat

/- inner.Dot: sums of products, as long as each fits. -/
namespace Go.Proofs.YteoblkcbemeamaaGreat
set_option linter.unusedVariables false
open Go.RowKit

theorem IntsAt.sl {w : World} {v : Value} {xs : List Int} (h : IntsAt w v xs) : ∃ p c, v = .slice p xs.length c := by
  rcases h with ⟨rfl, rfl⟩ | ⟨g, off, cap, rfl, _⟩
  · exact ⟨none, 0, rfl⟩
  · exact ⟨_, _, rfl⟩
theorem IntsAt.one {w : World} {p : Option Addr} {n c : Nat} {xs : List Int} (h : IntsAt w (.slice p n c) xs) {k : Nat} (hk : k < xs.length) :
    ∃ g off, p = some ⟨g, off, none⟩ ∧ g < w.heap.size ∧ w.cell? ⟨g, off + k, none⟩ = some (.int .i64 (xs.getD k 0)) := by
  rcases h with ⟨_, rfl⟩ | ⟨g, off, cap, hv, hg, hc⟩
  · simp at hk
  · cases hv
    exact ⟨g, off, rfl, hg, hc k hk⟩
def fit128 (x : Int) : Bool := decide (-170141183460469231731687303715884105728 ≤ x ∧ x ≤ 170141183460469231731687303715884105727)
theorem fit128_iff {x : Int} : fit128 x = true ↔ W128 x := decide_eq_true_iff
/-- The sum of the first k products, if each sum on the way fits. -/
def dotF (a b : List Int) : Nat → Option Int
  | 0 => some 0
  | k + 1 => (dotF a b k).bind fun s => bif fit128 (s + a.getD k 0 * b.getD k 0) then some (s + a.getD k 0 * b.getD k 0) else none
theorem dotF_w {a b : List Int} : ∀ {k : Nat} {s : Int}, dotF a b k = some s → W128 s := by
  intro k s h
  cases k with
  | zero => cases h; unfold W128; omega
  | succ k =>
    simp only [dotF] at h
    cases hd : dotF a b k with
    | none => rw [hd] at h; cases h
    | some t =>
      rw [hd] at h
      simp only [Option.bind_some] at h
      cases hf : fit128 (t + a.getD k 0 * b.getD k 0) with
      | false => rw [hf] at h; cases h
      | true => rw [hf] at h; cases h; exact fit128_iff.1 hf
theorem dotF_yes {a b : List Int} {k : Nat} {s : Int} (h : dotF a b k = some s) (hw : W128 (s + a.getD k 0 * b.getD k 0)) : dotF a b (k + 1) = some (s + a.getD k 0 * b.getD k 0) := by
  simp only [dotF, h, Option.bind_some, fit128_iff.2 hw, cond_true]
theorem dotF_no {a b : List Int} {k : Nat} {s : Int} (h : dotF a b k = some s) (hw : ¬ W128 (s + a.getD k 0 * b.getD k 0)) : dotF a b (k + 1) = none := by
  have : fit128 (s + a.getD k 0 * b.getD k 0) = false := by
    cases hf : fit128 (s + a.getD k 0 * b.getD k 0) with
    | false => rfl
    | true => exact absurd (fit128_iff.1 hf) hw
  simp only [dotF, h, Option.bind_some, this, cond_false]
theorem dotF_none {a b : List Int} {k : Nat} (h : dotF a b k = none) : ∀ {n : Nat}, k ≤ n → dotF a b n = none := by
  intro n hn
  induction n with
  | zero => obtain rfl : k = 0 := by omega
            exact h
  | succ n ih =>
    rcases Nat.lt_or_ge n k with h1 | h1
    · obtain rfl : k = n + 1 := by omega
      exact h
    · simp only [dotF, ih h1, Option.bind_none]
def dotV : Option Int → Value
  | some s => .tuple #[.agg #[.int .i64 (hi s), .int .u64 (lo s)], .bool true]
  | none => .tuple #[.agg #[.int .i64 0, .int .u64 0], .bool false]
set_option maxRecDepth 20000 in
set_option maxHeartbeats 4000000 in
theorem Dot_c (a b : List Int) (v1 v2 : Value) (w : World) (ha : ∀ x ∈ a, I64 x) (hb : ∀ x ∈ b, I64 x) (hl : a.length = b.length) (hn : a.length ≤ 1152921504606846976) (h1 : IntsAt w v1 a) (h2 : IntsAt w v2 b) :
    Calls Tryz.prog 129 #[v1, v2] w fun e w' => e = .returned (dotV (dotF a b a.length)) ∧ Ext w w' := by
  obtain ⟨p1, c1, rfl⟩ := h1.sl
  obtain ⟨p2, c2, rfl⟩ := h2.sl
  obtain ⟨n, hN⟩ : ∃ n, a.length = n := ⟨_, rfl⟩
  have HB : Hid (b.length = n) := Lib.hid (hl.symm.trans hN)
  have HN := Lib.hid hN
  have H1 := Lib.hid h1
  have H2 := Lib.hid h2
  rw [← hl]
  rw [hN] at hn ⊢
  clear hl hN h1 h2
  go_enter Tryz.func129, Tryz.ntmps129
  go_wp2_with fail
  go_loopw [19] (fun u wr => ∃ (k : Nat) (s : Int), k ≤ n ∧ u = .int .i64 k ∧ dotF a b k = some s ∧ Ext w wr ∧ wr.heap[w.heap.size + 1]? = some (.cells #[.int .i64 (hi s), .int .u64 (lo s)] 95 (0, 0)) ∧ wr.heap[w.heap.size]? = some (.cells #[.int .i64 0, .int .u64 0] 95 (0, 0))) (fun u _ => n - (intOf u).toNat)
  case atStart =>
    refine ⟨0, 0, Nat.zero_le _, rfl, rfl, (Ext.alloc' _ _).allocR _, heap_at _ _ (size_alloc _ _).symm, ?_⟩
    rw [heap_old _ _ (by rw [size_alloc]; exact Nat.lt_succ_self _)]
    exact heap_at _ _ rfl
  case round =>
    obtain ⟨k, s, hk, rfl, hs, hx, hg1, hg0⟩ := hrel
    have x0 := (cell_of hg1 0).trans rfl
    have x1 := (cell_of hg1 1).trans rfl
    have l1 := lt_of hg1
    by_cases hgo : k < n
    · obtain ⟨ga, oa, rfl, hga, d1⟩ := H1.out.one (k := k) (by rw [HN.out]; exact hgo)
      obtain ⟨gb, ob, rfl, hgb, d2⟩ := H2.out.one (k := k) (by rw [HB.out]; exact hgo)
      have e1 := ((bcell hx).1 ga _ hga).trans d1
      have e2 := ((bcell hx).1 gb _ hgb).trans d2
      have la : ga < wr.heap.size := Nat.lt_of_lt_of_le hga hx.size
      have lb : gb < wr.heap.size := Nat.lt_of_lt_of_le hgb hx.size
      have ia := ha _ (getD_mem (l := a) (k := k) (by rw [HN.out]; exact hgo))
      have ib := hb _ (getD_mem (l := b) (k := k) (by rw [HB.out]; exact hgo))
      have hyes := dotF_yes hs
      have hno := dotF_no hs
      have hsw := dotF_w hs
      generalize a.getD k 0 = x at *
      generalize b.getD k 0 = y at *
      have hpw := mul_w ia ib
      have HYES := Lib.hid hyes
      have HNO := Lib.hid hno
      have HG0 := Lib.hid hg0
      have HG1 := Lib.hid hg1
      clear hyes hno hs hg0 hg1 d1 d2 hga hgb
      obtain ⟨rh, rl, ok, hAdd, hok1, hok0⟩ : ∃ (rh rl : Int) (ok : Bool), (∀ w0 : World, Calls Tryz.prog 142 #[.agg #[.int .i64 (hi s), .int .u64 (lo s)], .agg #[.int .i64 (hi (x * y)), .int .u64 (lo (x * y))]] w0 fun e w' => e = .returned (.tuple #[.agg #[.int .i64 rh, .int .u64 rl], .bool ok]) ∧ Ext w0 w') ∧ (ok = true → W128 (s + x * y) ∧ rh = hi (s + x * y) ∧ rl = lo (s + x * y)) ∧ (ok = false → ¬ W128 (s + x * y)) := by
        by_cases hfit : W128 (s + x * y)
        · exact ⟨_, _, true, fun w0 => Add_yes s (x * y) hsw hpw hfit w0, (fun _ => ⟨hfit, rfl, rfl⟩), (fun h => by cases h)⟩
        · exact ⟨_, _, false, fun w0 => Add_no s (x * y) hsw hpw hfit w0, (fun h => by cases h), (fun _ => hfit)⟩
      have hAdd := Lib.hid hAdd
      have HOK1 := Lib.hid hok1
      have HOK0 := Lib.hid hok0
      clear hok1 hok0
      go_upto_region 7 with (fail)
      go_cut [9, 10] (fun s9 s10 wx => ∃ z : Nat, s9 = .pointer (some ⟨z, 0, none⟩) ∧ s10 = .bool ok ∧ wx.heap[z]? = some (.cells #[.int .i64 rh, .int .u64 rl] 95 (0, 0)) ∧ Ext wr wx ∧ wr.heap.size ≤ z)
      case first =>
        have hC0 := af_drew wr
        refine pi_start (fun w' => ∃ x : After wr, w' = x.w) [] (by kernel_rfl) ?_
        refine pi_t 1 rfl (by kernel_rfl) (by kernel_rfl) (fun _ _ _ _ h => h) (fun K hK => ?_)
        go_big_quiet_op
        refine hK _ ?_
        clear hK K
        refine pi_t 2 rfl (by kernel_rfl) (by kernel_rfl) (fun _ _ _ _ h => h) (fun K hK => ?_)
        go_big_quiet_op
        refine hK _ ?_
        clear hK K
        refine pi_t 3 rfl (by kernel_rfl) (by kernel_rfl) (fun _ _ _ _ h => h) (fun K hK => ?_)
        go_big_quiet_op
        refine hK _ ?_
        clear hK K
        refine pi_t 4 rfl (by kernel_rfl) (by kernel_rfl) (fun _ _ _ _ h => h) (fun K hK => ?_)
        go_big_quiet_op
        refine hK _ ?_
        clear hK K
        refine pi_c 0 (by assumption) rfl (by kernel_rfl) (by kernel_rfl) (fun _ _ _ _ h => h) (fun K hK => ?_)
        go_big_quiet_op
        refine hK _ ?_
        clear hK K
        refine pi_c 5 (by assumption) rfl (by kernel_rfl) (by kernel_rfl) (fun _ _ _ _ h => h) (fun K hK => ?_)
        go_big_quiet_op
        refine hK _ ?_
        clear hK K
        refine pi_b 6 11 rfl rfl (by kernel_rfl) (fun K hK => ?_) (fun K hK => ?_)
        · go_wp2_with (go_at_call 164; refine (Times_c x y ia ib _).mono ?_; rintro e wt ⟨rfl, hxt⟩)
          refine hK _ _ (fun _ h => af_step h hxt) ?_
          clear hK K
          have hEt : Ext wr wt := Ext.trans' (Below.drew (Ext.refl wr)) hxt
          refine pi_b 7 11 rfl rfl (by kernel_rfl) (fun K hK => ?_) (fun K hK => ?_)
          · go_wp2_with (go_at_call 142; refine (hAdd.out _).mono ?_; rintro e wa ⟨rfl, hxa⟩)
            refine hK _ _ (fun _ h => af_step h hxa) ?_
            clear hK K
            have hEa := hEt.trans' hxa
            refine pi_t 8 rfl (by kernel_rfl) (by kernel_rfl) (fun _ _ _ _ h => h) (fun K hK => ?_)
            go_big_quiet_op
            refine hK _ ?_
            clear hK K
            refine pi_t 9 rfl (by kernel_rfl) (by kernel_rfl) (fun _ _ _ _ h => h) (fun K hK => ?_)
            go_big_quiet_op
            refine hK _ ?_
            clear hK K
            refine pi_t 10 rfl (by kernel_rfl) (by kernel_rfl) (fun _ _ _ _ h => h) (fun K hK => ?_)
            go_big_quiet_op
            refine hK _ ?_
            clear hK K
            refine pi_l 11 rfl (by kernel_rfl) (fun K hK => ?_)
            go_wp2
            refine hK _ _ (fun _ h => af_step h (Ext.alloc' _ _)) ?_
            clear hK K
            refine pi_l 12 rfl (by kernel_rfl) (fun K hK => ?_)
            go_wp2
            have hsz := hEa.size
            refine hK _ _ (fun _ h => ⟨⟨_, hEa.allocR _⟩, rfl⟩) ?_
            clear hK K
            refine pi_t 13 rfl (by kernel_rfl) (by kernel_rfl) (fun _ _ _ _ h => h) (fun K hK => ?_)
            go_big_quiet_op
            refine hK _ ?_
            clear hK K
            refine pi_end (by kernel_rfl) ?_
            go_wp2_with fail
            go_meet
            exact ⟨_, rfl, rfl, heap_at _ _ rfl, hEa.allocR _, hsz⟩
          · go_wp2
            refine hK _ _ (fun _ h => af_step h (Ext.alloc' _ _)) ?_
            clear hK K
            refine pi_l 7 rfl (by kernel_rfl) (fun K hK => ?_)
            go_wp2_with (go_at_call 142; refine (hAdd.out _).mono ?_; rintro e wa ⟨rfl, hxa⟩)
            refine hK _ _ (fun _ h => af_step h hxa) ?_
            clear hK K
            have hEa := (hEt.allocR _).trans' hxa
            have hbx := hxa.keep (heap_at wt _ rfl)
            have hsz := hEt.size
            have p0 := (cell_of hbx 0).trans rfl
            have p1 := (cell_of hbx 1).trans rfl
            have f0 := frozen_of hbx 0
            have f1 := frozen_of hbx 1
            have HBX := Lib.hid hbx
            clear hbx
            refine pi_t 8 rfl (by kernel_rfl) (by kernel_rfl) (fun _ _ _ _ h => h) (fun K hK => ?_)
            go_big_quiet_op
            refine hK _ ?_
            clear hK K
            refine pi_t 9 rfl (by kernel_rfl) (by kernel_rfl) (fun _ _ _ _ h => h) (fun K hK => ?_)
            go_big_quiet_op
            refine hK _ ?_
            clear hK K
            refine pi_t 10 rfl (by kernel_rfl) (by kernel_rfl) (fun _ _ _ _ h => h) (fun K hK => ?_)
            go_big_quiet_op
            refine hK _ ?_
            clear hK K
            refine pi_l 12 rfl (by kernel_rfl) (fun K hK => ?_)
            go_wp2
            refine hK _ _ (fun _ h => ⟨⟨_, (hEa.setR hsz _).setR hsz _⟩, rfl⟩) ?_
            clear hK K
            refine pi_t 13 rfl (by kernel_rfl) (by kernel_rfl) (fun _ _ _ _ h => h) (fun K hK => ?_)
            go_big_quiet_op
            refine hK _ ?_
            clear hK K
            refine pi_end (by kernel_rfl) ?_
            go_wp2_with fail
            go_meet
            exact ⟨_, rfl, rfl, set2 HBX.out _ _, (hEa.setR hsz _).setR hsz _, hsz⟩
        · go_wp2
          refine hK _ _ (fun _ h => af_step h (Ext.alloc' _ _)) ?_
          clear hK K
          refine pi_l 6 rfl (by kernel_rfl) (fun K hK => ?_)
          go_wp2_with (go_at_call 164; refine (Times_c x y ia ib _).mono ?_; rintro e wt ⟨rfl, hxt⟩)
          refine hK _ _ (fun _ h => af_step h hxt) ?_
          clear hK K
          refine pi_l 7 rfl (by kernel_rfl) (fun K hK => ?_)
          go_wp2_with (go_at_call 142; refine (hAdd.out _).mono ?_; rintro e wa ⟨rfl, hxa⟩)
          refine hK _ _ (fun _ h => af_step h hxa) ?_
          clear hK K
          have hEa : Ext wr wa := Ext.trans' (Ext.trans' (Ext.alloc' wr _) (Ext.trans' (Below.drew (Ext.refl _)) hxt)) hxa
          have hbx : wa.heap[wr.heap.size]? = some (.cells #[.int .i64 0, .int .u64 0] 95 (0, 0)) := hxa.keep (hxt.keep (heap_at wr.drew _ rfl))
          have p0 := (cell_of hbx 0).trans rfl
          have p1 := (cell_of hbx 1).trans rfl
          have f0 := frozen_of hbx 0
          have f1 := frozen_of hbx 1
          have HBX := Lib.hid hbx
          clear hbx
          refine pi_t 8 rfl (by kernel_rfl) (by kernel_rfl) (fun _ _ _ _ h => h) (fun K hK => ?_)
          go_big_quiet_op
          refine hK _ ?_
          clear hK K
          refine pi_t 9 rfl (by kernel_rfl) (by kernel_rfl) (fun _ _ _ _ h => h) (fun K hK => ?_)
          go_big_quiet_op
          refine hK _ ?_
          clear hK K
          refine pi_t 10 rfl (by kernel_rfl) (by kernel_rfl) (fun _ _ _ _ h => h) (fun K hK => ?_)
          go_big_quiet_op
          refine hK _ ?_
          clear hK K
          refine pi_l 12 rfl (by kernel_rfl) (fun K hK => ?_)
          go_wp2
          refine hK _ _ (fun _ h => ⟨⟨_, (hEa.setR (p := ⟨wr.heap.size, 0, none⟩) (Nat.le_refl _) _).setR (p := ⟨wr.heap.size, 1, none⟩) (Nat.le_refl _) _⟩, rfl⟩) ?_
          clear hK K
          refine pi_t 13 rfl (by kernel_rfl) (by kernel_rfl) (fun _ _ _ _ h => h) (fun K hK => ?_)
          go_big_quiet_op
          refine hK _ ?_
          clear hK K
          refine pi_end (by kernel_rfl) ?_
          go_wp2_with fail
          go_meet
          exact ⟨_, rfl, rfl, set2 HBX.out _ _, (hEa.setR (p := ⟨wr.heap.size, 0, none⟩) (Nat.le_refl _) _).setR (p := ⟨wr.heap.size, 1, none⟩) (Nat.le_refl _) _, Nat.le_refl _⟩
      case rest =>
        obtain ⟨z, rfl, rfl, hz, hEc, hzz⟩ := hcut
        have hE := hx.trans' hEc
        have y0 := (cell_of hz 0).trans rfl
        have y1 := (cell_of hz 1).trans rfl
        have zl := lt_of hz
        have hg0 := hEc.keep HG0.out
        have hg1 := hEc.keep HG1.out
        cases ok
        · have hnn := HNO.out (HOK0.out rfl)
          have hnil := dotF_none hnn (n := n) (by omega)
          have a0 := (cell_of hg0 0).trans rfl
          have a1 := (cell_of hg0 1).trans rfl
          have f0 := frozen_of hg0 0
          have f1 := frozen_of hg0 1
          have HG0' := Lib.hid hg0
          have HNIL := Lib.hid hnil
          clear hg0 hg1 hnn hnil
          go_wp2_with fail
          refine bodyPost_ret (v := .tuple #[.agg #[.int .i64 0, .int .u64 0], .bool false]) (by simp [results, Tryz.results129, go_sem, *]) rfl ⟨by rw [HNIL.out]; rfl, ?_⟩
          exact (hE.setR (Nat.le_refl _) _).setR (Nat.le_refl _) _
        · obtain ⟨hfit, rfl, rfl⟩ := HOK1.out rfl
          have hss := HYES.out hfit
          have a0 := (cell_of hg1 0).trans rfl
          have a1 := (cell_of hg1 1).trans rfl
          have f0 := frozen_of hg1 0
          have f1 := frozen_of hg1 1
          have HG0' := Lib.hid hg0
          have HG1' := Lib.hid hg1
          have HSS := Lib.hid hss
          clear hg0 hg1 hss x0 x1
          go_wp2_with fail
          go_roundw
          case rel =>
            refine ⟨k + 1, s + x * y, by omega, by go_num, HSS.out, (hE.setR (Nat.le_succ _) _).setR (Nat.le_succ _) _, set2 HG1'.out _ _, ?_⟩
            rw [setCell_other _ _ (by omega), setCell_other _ _ (by omega)]
            exact HG0'.out
          case measure => simp [intOf]; omega
    · obtain rfl : k = n := by omega
      have HSS := Lib.hid hs
      have a0 := (cell_of hg0 0).trans rfl
      have a1 := (cell_of hg0 1).trans rfl
      have f0 := frozen_of hg0 0
      have f1 := frozen_of hg0 1
      have HG0 := Lib.hid hg0
      clear hg0 hg1 hs
      go_wp2_with fail
      refine bodyPost_ret (v := .tuple #[.agg #[.int .i64 (hi s), .int .u64 (lo s)], .bool true]) (by simp [results, Tryz.results129, go_sem, *]) rfl ⟨by rw [HSS.out]; rfl, ?_⟩
      exact (hx.setR (Nat.le_refl _) _).setR (Nat.le_refl _) _
end Go.Proofs.YteoblkcbemeamaaGreat

/- inner.Inner: the least product of two rows. -/
namespace Go.Proofs.YteoblkcbemeamaaGreat
set_option linter.unusedVariables false
open Go.RowKit

def zw : Value := .agg #[.int .i64 0, .int .u64 0]
theorem Dot_no (p1 p2 : Option Addr) (n1 c1 n2 c2 : Nat) (w : World) (hn : n1 ≠ n2) (h1 : n1 ≤ 1152921504606846976) (h2 : n2 ≤ 1152921504606846976) :
    Calls Tryz.prog 129 #[.slice p1 n1 c1, .slice p2 n2 c2] w fun e w' => e = .returned (.tuple #[.agg #[.int .i64 0, .int .u64 0], .bool false]) ∧ Ext w w' := by
  have hne : ((n1 : Int) != (n2 : Int)) = true := by simp; omega
  go_enter Tryz.func129, Tryz.ntmps129
  go_wp2_with fail
  refine bodyPost_ret (v := .tuple #[.agg #[.int .i64 0, .int .u64 0], .bool false]) (by simp [results, Tryz.results129, go_sem]) rfl ⟨rfl, by (repeat' (first | exact Ext.refl _ | assumption | apply Ext.allocR | apply Ext.drewR | apply Ext.drewNR | (refine Ext.trans' ?_ (by assumption))))⟩
def rowP (l : List Int) (W r : Nat) : List Int := (List.range W).map fun k => l.getD (r * W + k) 0
theorem rowP_len (l : List Int) (W r : Nat) : (rowP l W r).length = W := by simp [rowP]
theorem rowP_get (l : List Int) {W r k : Nat} (h : k < W) : (rowP l W r).getD k 0 = l.getD (r * W + k) 0 := by simp [rowP, h]
theorem rowP_all {l : List Int} (h : allI l) (W r : Nat) : ∀ x ∈ rowP l W r, I64 x := by
  intro x hx
  simp only [rowP, List.mem_map, List.mem_range] at hx
  obtain ⟨k, _, rfl⟩ := hx
  exact getD_i64 h _
/-- The least of the products of the first r rows, if each fits. -/
def innF (l m : List Int) (W : Nat) : Nat → Option Int
  | 0 => some 0
  | r + 1 => (innF l m W r).bind fun best => (dotF (rowP l W r) (rowP m W r) W).bind fun n => some (bif decide (r = 0) || decide (n < best) then n else best)
theorem innF_w {l m : List Int} {W : Nat} : ∀ {r : Nat} {s : Int}, innF l m W r = some s → W128 s := by
  intro r
  induction r with
  | zero => intro s h; cases h; unfold W128; omega
  | succ r ih =>
    intro s h
    simp only [innF] at h
    cases hb : innF l m W r with
    | none => rw [hb] at h; cases h
    | some best =>
      cases hd : dotF (rowP l W r) (rowP m W r) W with
      | none => rw [hb, hd] at h; cases h
      | some n =>
        rw [hb, hd] at h
        simp only [Option.bind_some] at h
        cases hc : (decide (r = 0) || decide (n < best)) with
        | false => rw [hc] at h; cases h; exact ih hb
        | true => rw [hc] at h; cases h; exact dotF_w hd
theorem innF_none {l m : List Int} {W r : Nat} (h : innF l m W r = none) : ∀ {n : Nat}, r ≤ n → innF l m W n = none := by
  intro n hn
  induction n with
  | zero => obtain rfl : r = 0 := by omega
            exact h
  | succ n ih =>
    rcases Nat.lt_or_ge n r with h1 | h1
    · obtain rfl : r = n + 1 := by omega
      exact h
    · simp only [innF, ih h1, Option.bind_none]
def innV : Option Int → Value
  | some s => .tuple #[.agg #[.int .i64 (hi s), .int .u64 (lo s)], .int .i64 0]
  | none => .tuple #[.agg #[.int .i64 0, .int .u64 0], .int .i64 4]
theorem Inner_nil1 (p : Option Addr) (w : World) :
    Calls Tryz.prog 126 #[.pointer none, .pointer p] w fun e w' => e = .returned (.tuple #[.agg #[.int .i64 0, .int .u64 0], .int .i64 5]) ∧ Ext w w' := by
  go_enter Tryz.func126, Tryz.ntmps126
  go_wp2_with fail
  refine bodyPost_ret (v := .tuple #[.agg #[.int .i64 0, .int .u64 0], .int .i64 5]) (by simp [results, Tryz.results126, go_sem]) rfl ⟨rfl, by (repeat' (first | exact Ext.refl _ | assumption | apply Ext.allocR | apply Ext.drewR | apply Ext.drewNR | (refine Ext.trans' ?_ (by assumption))))⟩
theorem Inner_nil2 (s : Nat) (w : World) :
    Calls Tryz.prog 126 #[.pointer (some ⟨s, 0, none⟩), .pointer none] w fun e w' => e = .returned (.tuple #[.agg #[.int .i64 0, .int .u64 0], .int .i64 5]) ∧ Ext w w' := by
  go_enter Tryz.func126, Tryz.ntmps126
  go_wp2_with fail
  refine bodyPost_ret (v := .tuple #[.agg #[.int .i64 0, .int .u64 0], .int .i64 5]) (by simp [results, Tryz.results126, go_sem]) rfl ⟨rfl, by (repeat' (first | exact Ext.refl _ | assumption | apply Ext.allocR | apply Ext.drewR | apply Ext.drewNR | (refine Ext.trans' ?_ (by assumption))))⟩
theorem zbox {w0 wx : World} {b : Nat} (h : w0.heap[b]? = some (.cells #[.int .i64 0, .int .u64 0] 95 (0, 0))) (hE : Ext w0 wx) :
    wx.cell? ⟨b, 0, none⟩ = some (.int .i64 0) ∧ wx.cell? ⟨b, 1, none⟩ = some (.int .u64 0) ∧ wx.frozen? ⟨b, 0, none⟩ = false ∧ wx.frozen? ⟨b, 1, none⟩ = false ∧ b < wx.heap.size :=
  have h' := hE.keep h
  ⟨(cell_of h' 0).trans rfl, (cell_of h' 1).trans rfl, frozen_of h' 0, frozen_of h' 1, lt_of h'⟩
set_option maxRecDepth 20000 in
set_option maxHeartbeats 4000000 in
theorem Inner_unlike (s b c s2 b2 c2 : Nat) (C C2 : Cfg) (lv lv2 : Int) (R W R2 W2 : Nat) (l l2 : List Int) (w : World) (h : SAt w s b c C lv R W l) (h2 : SAt w s2 b2 c2 C2 lv2 R2 W2 l2) (hp : PartsAt C lv C2 lv2) :
    Calls Tryz.prog 126 #[.pointer (some ⟨s, 0, none⟩), .pointer (some ⟨s2, 0, none⟩)] w fun e w' => e = .returned (.tuple #[.agg #[.int .i64 0, .int .u64 0], .int .i64 5]) ∧ Ext w w' := by
  have H := Lib.hid h
  have H2 := Lib.hid h2
  clear h h2
  go_enter Tryz.func126, Tryz.ntmps126
  go_upto_region 1 with (fail)
  have hz0 := heap_at w (.cells #[.int .i64 0, .int .u64 0] 95) rfl
  have hE0 : Ext w (w.alloc (.cells #[.int .i64 0, .int .u64 0] 95)) := Ext.alloc' _ _
  generalize w.alloc (.cells #[.int .i64 0, .int .u64 0] 95) = w0 at *
  have HZ0 := Lib.hid hz0
  clear hz0
  go_cut [34] (fun s34 wx => s34 = .bool true ∧ Ext w0 wx)
  case first =>
    cases hp
    all_goals
      go_wp2_with (first | (go_at_call 160; refine (SConfig_c s b c C lv R W l _ (H.out.ext (by (repeat' (first | exact Ext.refl _ | assumption | apply Ext.allocR | apply Ext.drewR | apply Ext.drewNR | (refine Ext.trans' ?_ (by assumption))))))).mono ?_; rintro e w1 ⟨rfl, hb1⟩) | (go_at_call 160; refine (SConfig_c s2 b2 c2 C2 lv2 R2 W2 l2 _ (H2.out.ext (by (repeat' (first | exact Ext.refl _ | assumption | apply Ext.allocR | apply Ext.drewR | apply Ext.drewNR | (refine Ext.trans' ?_ (by assumption))))))).mono ?_; rintro e w2 ⟨rfl, hb2⟩) | (go_at_call 161; refine (SLevel_c s b c C lv R W l _ (H.out.ext (by (repeat' (first | exact Ext.refl _ | assumption | apply Ext.allocR | apply Ext.drewR | apply Ext.drewNR | (refine Ext.trans' ?_ (by assumption))))))).mono ?_; rintro e w3 ⟨rfl, rfl⟩) | (go_at_call 161; refine (SLevel_c s2 b2 c2 C2 lv2 R2 W2 l2 _ (H2.out.ext (by (repeat' (first | exact Ext.refl _ | assumption | apply Ext.allocR | apply Ext.drewR | apply Ext.drewNR | (refine Ext.trans' ?_ (by assumption))))))).mono ?_; rintro e w4 ⟨rfl, rfl⟩))
      go_meet
      exact ⟨by first | rfl | simp [bne, *], by (repeat' (first | exact Ext.refl _ | assumption | apply Ext.allocR | apply Ext.drewR | apply Ext.drewNR | (refine Ext.trans' ?_ (by assumption))))⟩
  case rest =>
    obtain ⟨rfl, hEc⟩ := hcut
    obtain ⟨p0, p1, f0, f1, hl⟩ := zbox HZ0.out hEc
    go_wp2_with fail
    refine bodyPost_ret (v := .tuple #[.agg #[.int .i64 0, .int .u64 0], .int .i64 5]) (by simp [results, Tryz.results126, go_sem, *]) rfl ⟨rfl, ?_⟩
    exact ((hE0.trans' hEc).setR (Nat.le_refl _) _).setR (Nat.le_refl _) _
set_option maxRecDepth 20000 in
set_option maxHeartbeats 4000000 in
theorem Inner_mode (s b c s2 b2 c2 : Nat) (C : Cfg) (lv : Int) (R W : Nat) (l l2 : List Int) (w : World) (h : SAt w s b c C lv R W l) (h2 : SAt w s2 b2 c2 C lv R W l2) (hm : C.mode ≠ 1) :
    Calls Tryz.prog 126 #[.pointer (some ⟨s, 0, none⟩), .pointer (some ⟨s2, 0, none⟩)] w fun e w' => e = .returned (.tuple #[.agg #[.int .i64 0, .int .u64 0], .int .i64 3]) ∧ Ext w w' := by
  have H := Lib.hid h
  have H2 := Lib.hid h2
  have hm' : (C.mode != 1) = true := by simpa using hm
  clear h h2 hm
  go_enter Tryz.func126, Tryz.ntmps126
  go_upto_region 1 with (fail)
  have hz0 := heap_at w (.cells #[.int .i64 0, .int .u64 0] 95) rfl
  have hE0 : Ext w (w.alloc (.cells #[.int .i64 0, .int .u64 0] 95)) := Ext.alloc' _ _
  generalize w.alloc (.cells #[.int .i64 0, .int .u64 0] 95) = w0 at *
  have HZ0 := Lib.hid hz0
  clear hz0
  go_cut [34] (fun s34 wx => s34 = .bool false ∧ Ext w0 wx)
  case first =>
    go_wp2_with (first | (go_at_call 160; refine (SConfig_c s b c C lv R W l _ (H.out.ext (by (repeat' (first | exact Ext.refl _ | assumption | apply Ext.allocR | apply Ext.drewR | apply Ext.drewNR | (refine Ext.trans' ?_ (by assumption))))))).mono ?_; rintro e w1 ⟨rfl, hb1⟩) | (go_at_call 160; refine (SConfig_c s2 b2 c2 C lv R W l2 _ (H2.out.ext (by (repeat' (first | exact Ext.refl _ | assumption | apply Ext.allocR | apply Ext.drewR | apply Ext.drewNR | (refine Ext.trans' ?_ (by assumption))))))).mono ?_; rintro e w2 ⟨rfl, hb2⟩) | (go_at_call 161; refine (SLevel_c s b c C lv R W l _ (H.out.ext (by (repeat' (first | exact Ext.refl _ | assumption | apply Ext.allocR | apply Ext.drewR | apply Ext.drewNR | (refine Ext.trans' ?_ (by assumption))))))).mono ?_; rintro e w3 ⟨rfl, rfl⟩) | (go_at_call 161; refine (SLevel_c s2 b2 c2 C lv R W l2 _ (H2.out.ext (by (repeat' (first | exact Ext.refl _ | assumption | apply Ext.allocR | apply Ext.drewR | apply Ext.drewNR | (refine Ext.trans' ?_ (by assumption))))))).mono ?_; rintro e w4 ⟨rfl, rfl⟩))
    go_meet
    exact ⟨by first | rfl | simp, by (repeat' (first | exact Ext.refl _ | assumption | apply Ext.allocR | apply Ext.drewR | apply Ext.drewNR | (refine Ext.trans' ?_ (by assumption))))⟩
  case rest =>
    obtain ⟨rfl, hEc⟩ := hcut
    go_wp2_with fail
    refine Calls.mono (SConfig_c s b c C lv R W l _ (H.out.ext ?hx)) ?_
    case hx => (repeat' (first | exact Ext.refl _ | assumption | apply Ext.allocR | apply Ext.drewR | apply Ext.drewNR | (refine Ext.trans' ?_ (by assumption))))
    rintro e w1 ⟨rfl, hb1⟩
    have hE1 : Ext w0 w1 := by (repeat' (first | exact Ext.refl _ | assumption | apply Ext.allocR | apply Ext.drewR | apply Ext.drewNR | (refine Ext.trans' ?_ (by assumption))))
    obtain ⟨p0, p1, f0, f1, hl⟩ := zbox HZ0.out hE1
    go_wp2_with fail
    refine bodyPost_ret (v := .tuple #[.agg #[.int .i64 0, .int .u64 0], .int .i64 3]) (by simp [results, Tryz.results126, go_sem, *]) rfl ⟨rfl, ?_⟩
    exact (((hE0.trans' hE1).setR (p := ⟨w.heap.size, 0, none⟩) (Nat.le_refl _) _).setR (p := ⟨w.heap.size, 1, none⟩) (Nat.le_refl _) _).allocR _
end Go.Proofs.YteoblkcbemeamaaGreat

/- inner.Inner of two sketches of one config in the mode Linear: the least product of two rows. -/
namespace Go.Proofs.YteoblkcbemeamaaGreat
set_option linter.unusedVariables false
open Go.RowKit

set_option maxRecDepth 20000 in
set_option maxHeartbeats 8000000 in
theorem Inner_c (s b c s2 b2 c2 : Nat) (C : Cfg) (lv : Int) (R W : Nat) (l m : List Int) (w : World) (h : SAt w s b c C lv R W l) (h2 : SAt w s2 b2 c2 C lv R W m) (hm : C.mode = 1) :
    Calls Tryz.prog 126 #[.pointer (some ⟨s, 0, none⟩), .pointer (some ⟨s2, 0, none⟩)] w fun e w' => e = .returned (innV (innF l m W R)) ∧ Ext w w' := by
  have H := Lib.hid h
  have H2 := Lib.hid h2
  have hm' : (C.mode != 1) = false := by simp [hm]
  have hR := h.hr
  have hW := h.hw
  have hR1 := h.g.r1
  have hR8 := h.g.r2
  have hW1 := h.g.w1
  have hW8 := h.g.w2
  have HR := Lib.hid hR
  have HW := Lib.hid hW
  have HL := Lib.hid h.g.len
  have HL2 := Lib.hid h2.g.len
  have HI := Lib.hid h.fit
  have HI2 := Lib.hid h2.fit
  clear h h2 hm hR hW
  go_enter Tryz.func126, Tryz.ntmps126
  go_upto_region 1 with (fail)
  have hz0 := heap_at w (.cells #[.int .i64 0, .int .u64 0] 95) rfl
  have hE0 : Ext w (w.alloc (.cells #[.int .i64 0, .int .u64 0] 95)) := Ext.alloc' _ _
  generalize w.alloc (.cells #[.int .i64 0, .int .u64 0] 95) = w0 at *
  have HZ0 := Lib.hid hz0
  clear hz0
  go_cut [34] (fun s34 wx => s34 = .bool false ∧ Ext w0 wx)
  case first =>
    go_wp2_with (first | (go_at_call 160; refine (SConfig_c s b c C lv R W l _ (H.out.ext (by (repeat' (first | exact Ext.refl _ | assumption | apply Ext.allocR | apply Ext.drewR | apply Ext.drewNR | (refine Ext.trans' ?_ (by assumption))))))).mono ?_; rintro e w1 ⟨rfl, hb1⟩) | (go_at_call 160; refine (SConfig_c s2 b2 c2 C lv R W m _ (H2.out.ext (by (repeat' (first | exact Ext.refl _ | assumption | apply Ext.allocR | apply Ext.drewR | apply Ext.drewNR | (refine Ext.trans' ?_ (by assumption))))))).mono ?_; rintro e w2 ⟨rfl, hb2⟩) | (go_at_call 161; refine (SLevel_c s b c C lv R W l _ (H.out.ext (by (repeat' (first | exact Ext.refl _ | assumption | apply Ext.allocR | apply Ext.drewR | apply Ext.drewNR | (refine Ext.trans' ?_ (by assumption))))))).mono ?_; rintro e w3 ⟨rfl, rfl⟩) | (go_at_call 161; refine (SLevel_c s2 b2 c2 C lv R W m _ (H2.out.ext (by (repeat' (first | exact Ext.refl _ | assumption | apply Ext.allocR | apply Ext.drewR | apply Ext.drewNR | (refine Ext.trans' ?_ (by assumption))))))).mono ?_; rintro e w4 ⟨rfl, rfl⟩))
    go_meet
    exact ⟨by first | rfl | simp, by (repeat' (first | exact Ext.refl _ | assumption | apply Ext.allocR | apply Ext.drewR | apply Ext.drewNR | (refine Ext.trans' ?_ (by assumption))))⟩
  case rest =>
    obtain ⟨rfl, hEc⟩ := hcut
    go_wp2_with fail
    refine Calls.mono (SConfig_c s b c C lv R W l _ (H.out.ext ?hx)) ?_
    case hx => (repeat' (first | exact Ext.refl _ | assumption | apply Ext.allocR | apply Ext.drewR | apply Ext.drewNR | (refine Ext.trans' ?_ (by assumption))))
    rintro e w1 ⟨rfl, hb1⟩
    have hE1 : Ext w0 w1 := by (repeat' (first | exact Ext.refl _ | assumption | apply Ext.allocR | apply Ext.drewR | apply Ext.drewNR | (refine Ext.trans' ?_ (by assumption))))
    have hCb : CfgAt (w1.alloc (.cells #[.int .i64 C.bits, .int .i64 C.rows, .int .i64 C.width, .int .i64 C.mode, .int .u64 C.seed] 24)) w1.heap.size C := CfgAt.box C _ rfl
    have hEB : Ext w1 (w1.alloc (.cells #[.int .i64 C.bits, .int .i64 C.rows, .int .i64 C.width, .int .i64 C.mode, .int .u64 C.seed] 24)) := Ext.alloc' _ _
    clear hb1 hEc
    go_wp2_with fail
    generalize w1.alloc (.cells #[.int .i64 C.bits, .int .i64 C.rows, .int .i64 C.width, .int .i64 C.mode, .int .u64 C.seed] 24) = w2 at *
    have hE2 := hE1.trans' hEB
    refine Calls.mono (SCells_c s b c C lv R W l _ (H.out.ext (by (repeat' (first | exact Ext.refl _ | assumption | apply Ext.allocR | apply Ext.drewR | apply Ext.drewNR | (refine Ext.trans' ?_ (by assumption))))))) ?_
    rintro e w3 ⟨v3, rfl, ho3, _, hx3⟩
    have hE3 : Ext w2 w3 := hx3
    have hi3 := IntsAt.of_row ho3
    obtain ⟨g1, o1, k1, rfl, hg1, hc1⟩ := hi3.slice (by rw [HL.out]; exact Nat.mul_pos hR1 hW1)
    obtain ⟨cp1, hcp1⟩ : ∃ c1, R * W ≤ k1 := ⟨0, by
      have h2 := ho3.2.resolve_left (fun h => by cases h.1)
      obtain ⟨g', cap', cur, hv', _, _, hc', _⟩ := h2
      have := (Value.slice.inj hv').2.2
      rw [HL.out] at hc'
      omega⟩
    rw [HL.out] at hi3 hc1 ⊢
    have HC1 := Lib.hid hc1
    clear ho3 hx3 hi3 hc1
    go_wp2_with fail
    refine Calls.mono (SCells_c s2 b2 c2 C lv R W m _ (H2.out.ext (by (repeat' (first | exact Ext.refl _ | assumption | apply Ext.allocR | apply Ext.drewR | apply Ext.drewNR | (refine Ext.trans' ?_ (by assumption))))))) ?_
    rintro e w4 ⟨v4, rfl, ho4, _, hx4⟩
    have hE4 : Ext w3 w4 := hx4
    have hi4 := IntsAt.of_row ho4
    obtain ⟨g2, o2, k2, rfl, hg2, hc2⟩ := hi4.slice (by rw [HL2.out]; exact Nat.mul_pos hR1 hW1)
    obtain ⟨cp2, hcp2⟩ : ∃ c1, R * W ≤ k2 := ⟨0, by
      have h2 := ho4.2.resolve_left (fun h => by cases h.1)
      obtain ⟨g', cap', cur, hv', _, _, hc', _⟩ := h2
      have := (Value.slice.inj hv').2.2
      rw [HL2.out] at hc'
      omega⟩
    rw [HL2.out] at hi4 hc2 ⊢
    have HC2 := Lib.hid hc2
    have hCb4 := hCb.ext (hE3.trans' hE4)
    have c1' := hCb4.c1
    have cl := hCb4.lt
    rw [HR.out] at c1'
    clear ho4 hx4 hi4 hc2
    have hE24 := hE3.trans' hE4
    have hEw4 : Ext w w4 := hE0.trans' (hE2.trans' hE24)
    have hz4 := (hE2.trans' hE24).keep HZ0.out
    have HZ4 := Lib.hid hz4
    have hg13 : g1 < w4.heap.size := Nat.lt_of_lt_of_le hg1 hE4.size
    have hc14 : ∀ j, j < R * W → w4.cell? ⟨g1, o1 + j, none⟩ = some (.int .i64 (l.getD j 0)) := fun j hj => ((bcell hE4).1 g1 _ hg1).trans (HC1.out j hj)
    have HC14 := Lib.hid hc14
    have HCB4 := Lib.hid hCb4
    have hN2 : R * W ≤ 1024 := Nat.le_trans (Nat.mul_le_mul hR8 hW8) (by decide)
    clear hz4 hc14 hCb4 hCb hE24 hE3 hE4 hE2 hE1 hEB HZ0 HC1 H H2
    go_wp2_with fail
    go_loopw [48] (fun u wr => ∃ (r : Nat) (best : Int), r ≤ R ∧ u = .int .i64 r ∧ innF l m W r = some best ∧ Ext w4 wr ∧ wr.heap[w4.heap.size]? = some (.cells #[.int .i64 (hi best), .int .u64 (lo best)] 95 (0, 0))) (fun u _ => R - (intOf u).toNat)
    case atStart => exact ⟨0, 0, Nat.zero_le _, rfl, rfl, Ext.alloc' _ _, heap_at _ _ rfl⟩
    case round =>
      obtain ⟨r, best, hr, rfl, hin, hE, hg9⟩ := hrel
      clear c1' cl
      by_cases hgo : r < R
      · have hCr := HCB4.out.ext hE
        have c2' := hCr.c2
        have cl := hCr.lt
        rw [HW.out] at c2'
        obtain ⟨f, hf⟩ : ∃ f, r * W = f := ⟨_, rfl⟩
        have hf1 : (r : Int) * (W : Int) = (f : Int) := by rw [← hf]; simp
        have hf2 : ((r : Int) + 1) * (W : Int) = ((f + W : Nat) : Int) := by rw [Int.add_mul, hf1]; simp
        have hfN : f + W ≤ R * W := by rw [← hf, ← Nat.succ_mul]; exact Nat.mul_le_mul_right _ hgo
        have hf1b : f + W ≤ 1024 := by omega
        have HIN := Lib.hid hin
        have HG9 := Lib.hid hg9
        have HFF := Lib.hid hf
        clear hin hg9 hCr hf
        go_wp2_with fail
        refine wp_region_after (by kernel_rfl) (by kernel_rfl) ?_
        repeat (go_big_quiet_step (fail))
        refine wpQuiet_nil ?_
        rintro _ ⟨xx, rfl⟩
        obtain ⟨wq, hq⟩ := xx
        try dsimp only
        obtain ⟨dt, hdt⟩ : ∃ dt, dotF (rowP l W r) (rowP m W r) W = dt := ⟨_, rfl⟩
        obtain ⟨rh, rl, ok, hdv, hok1, hok0⟩ : ∃ (rh rl : Int) (ok : Bool), dotV dt = .tuple #[.agg #[.int .i64 rh, .int .u64 rl], .bool ok] ∧ (ok = true → ∃ n, dt = some n ∧ rh = hi n ∧ rl = lo n) ∧ (ok = false → dt = none) := by
          cases dt with
          | none => exact ⟨0, 0, false, rfl, (fun h => by cases h), (fun _ => rfl)⟩
          | some n => exact ⟨hi n, lo n, true, rfl, (fun _ => ⟨n, rfl, rfl, rfl⟩), (fun h => by cases h)⟩
        have hEq : Ext w4 wq := hE.trans' hq
        have hi1 : ∀ (cc : Nat) (w' : World), Ext w4 w' → IntsAt w' (.slice (some ⟨g1, o1 + f, none⟩) W cc) (rowP l W r) := fun cc w' hE' => .inr ⟨g1, o1 + f, cc, by rw [rowP_len], Nat.lt_of_lt_of_le hg13 hE'.size, fun k hk => by
          rw [rowP_len] at hk
          rw [rowP_get _ hk, HFF.out, Nat.add_assoc]
          exact ((bcell hE').1 g1 _ hg13).trans (HC14.out (f + k) (by omega))⟩
        have hi2 : ∀ (cc : Nat) (w' : World), Ext w4 w' → IntsAt w' (.slice (some ⟨g2, o2 + f, none⟩) W cc) (rowP m W r) := fun cc w' hE' => .inr ⟨g2, o2 + f, cc, by rw [rowP_len], Nat.lt_of_lt_of_le hg2 hE'.size, fun k hk => by
          rw [rowP_len] at hk
          rw [rowP_get _ hk, HFF.out, Nat.add_assoc]
          exact ((bcell hE').1 g2 _ hg2).trans (HC2.out (f + k) (by omega))⟩
        have hdot : ∀ (cc cc2 : Nat) (w' : World), Ext w4 w' → Calls Tryz.prog 129 #[.slice (some ⟨g1, o1 + f, none⟩) W cc, .slice (some ⟨g2, o2 + f, none⟩) W cc2] w' fun e w'' => e = .returned (.tuple #[.agg #[.int .i64 rh, .int .u64 rl], .bool ok]) ∧ Ext w' w'' := by
          intro cc cc2 w' hE'
          have := Dot_c (rowP l W r) (rowP m W r) _ _ w' (rowP_all HI.out W r) (rowP_all HI2.out W r) (by rw [rowP_len, rowP_len]) (by rw [rowP_len]; omega) (hi1 cc w' hE') (hi2 cc2 w' hE')
          rw [rowP_len, hdt, hdv] at this
          exact this
        have HDOT := Lib.hid hdot
        have HDT := Lib.hid hdt
        have HOK1 := Lib.hid hok1
        have HOK0 := Lib.hid hok0
        clear hi1 hi2 hdot hdv hok1 hok0 hdt c2' cl hf1 hf2
        go_upto_region 12 with (fail)
        go_cut [13, 14] (fun s13 s14 wx => ∃ z : Nat, s13 = .pointer (some ⟨z, 0, none⟩) ∧ s14 = .bool ok ∧ wx.heap[z]? = some (.cells #[.int .i64 rh, .int .u64 rl] 95 (0, 0)) ∧ Ext wq wx ∧ wq.heap.size ≤ z)
        case first =>
          have hC0 := af_drew wq
          refine pi_start (fun w' => ∃ x : After wq, w' = x.w) [] (by kernel_rfl) ?_
          refine pi_t 0 rfl (by kernel_rfl) (by kernel_rfl) (fun _ _ _ _ h => h) (fun K hK => ?_)
          go_big_quiet_op
          refine hK _ ?_
          clear hK K
          refine pi_t 1 rfl (by kernel_rfl) (by kernel_rfl) (fun _ _ _ _ h => h) (fun K hK => ?_)
          go_big_quiet_op
          refine hK _ ?_
          clear hK K
          refine pi_t 2 rfl (by kernel_rfl) (by kernel_rfl) (fun _ _ _ _ h => h) (fun K hK => ?_)
          go_big_quiet_op
          refine hK _ ?_
          clear hK K
          refine pi_t 3 rfl (by kernel_rfl) (by kernel_rfl) (fun _ _ _ _ h => h) (fun K hK => ?_)
          go_big_quiet_op
          refine hK _ ?_
          clear hK K
          refine pi_t 4 rfl (by kernel_rfl) (by kernel_rfl) (fun _ _ _ _ h => h) (fun K hK => ?_)
          go_big_quiet_op
          refine hK _ ?_
          clear hK K
          refine pi_t 5 rfl (by kernel_rfl) (by kernel_rfl) (fun _ _ _ _ h => h) (fun K hK => ?_)
          go_big_quiet_op
          refine hK _ ?_
          clear hK K
          refine pi_t 6 rfl (by kernel_rfl) (by kernel_rfl) (fun _ _ _ _ h => h) (fun K hK => ?_)
          go_big_quiet_op
          refine hK _ ?_
          clear hK K
          refine pi_t 7 rfl (by kernel_rfl) (by kernel_rfl) (fun _ _ _ _ h => h) (fun K hK => ?_)
          go_big_quiet_op
          refine hK _ ?_
          clear hK K
          refine pi_t 8 rfl (by kernel_rfl) (by kernel_rfl) (fun _ _ _ _ h => h) (fun K hK => ?_)
          go_big_quiet_op
          refine hK _ ?_
          clear hK K
          refine pi_t 9 rfl (by kernel_rfl) (by kernel_rfl) (fun _ _ _ _ h => h) (fun K hK => ?_)
          go_big_quiet_op
          refine hK _ ?_
          clear hK K
          refine pi_b 10 14 rfl rfl (by kernel_rfl) (fun K hK => ?_) (fun K hK => ?_)
          · rw [Nat.add_sub_cancel_left]
            go_wp2_with (go_at_call 129; refine (HDOT.out _ _ _ (hEq.trans' (by (repeat' (first | exact Ext.refl _ | assumption | apply Ext.allocR | apply Ext.drewR | apply Ext.drewNR | (refine Ext.trans' ?_ (by assumption))))))).mono ?_; rintro e wa ⟨rfl, hxa⟩)
            refine hK _ _ (fun _ h => af_step h hxa) ?_
            clear hK K
            have hEa : Ext wq wa := Ext.trans' (Below.drew (Ext.refl wq)) hxa
            refine pi_t 11 rfl (by kernel_rfl) (by kernel_rfl) (fun _ _ _ _ h => h) (fun K hK => ?_)
            go_big_quiet_op
            refine hK _ ?_
            clear hK K
            refine pi_t 12 rfl (by kernel_rfl) (by kernel_rfl) (fun _ _ _ _ h => h) (fun K hK => ?_)
            go_big_quiet_op
            refine hK _ ?_
            clear hK K
            refine pi_t 13 rfl (by kernel_rfl) (by kernel_rfl) (fun _ _ _ _ h => h) (fun K hK => ?_)
            go_big_quiet_op
            refine hK _ ?_
            clear hK K
            refine pi_l 14 rfl (by kernel_rfl) (fun K hK => ?_)
            go_wp2
            refine hK _ _ (fun _ h => af_step h (Ext.alloc' _ _)) ?_
            clear hK K
            refine pi_l 15 rfl (by kernel_rfl) (fun K hK => ?_)
            go_wp2
            have hsz := hEa.size
            refine hK _ _ (fun _ h => ⟨⟨_, hEa.allocR _⟩, rfl⟩) ?_
            clear hK K
            refine pi_t 16 rfl (by kernel_rfl) (by kernel_rfl) (fun _ _ _ _ h => h) (fun K hK => ?_)
            go_big_quiet_op
            refine hK _ ?_
            clear hK K
            refine pi_end (by kernel_rfl) ?_
            go_wp2_with fail
            go_meet
            exact ⟨_, rfl, rfl, heap_at _ _ rfl, hEa.allocR _, hsz⟩
          · go_wp2
            refine hK _ _ (fun _ h => af_step h (Ext.alloc' _ _)) ?_
            clear hK K
            refine pi_l 10 rfl (by kernel_rfl) (fun K hK => ?_)
            rw [Nat.add_sub_cancel_left]
            go_wp2_with (go_at_call 129; refine (HDOT.out _ _ _ (hEq.trans' (by (repeat' (first | exact Ext.refl _ | assumption | apply Ext.allocR | apply Ext.drewR | apply Ext.drewNR | (refine Ext.trans' ?_ (by assumption))))))).mono ?_; rintro e wa ⟨rfl, hxa⟩)
            refine hK _ _ (fun _ h => af_step h hxa) ?_
            clear hK K
            have hEa : Ext wq wa := Ext.trans' (Ext.alloc' wq _) (Ext.trans' (Below.drew (Ext.refl _)) hxa)
            have hbx : wa.heap[wq.heap.size]? = some (.cells #[.int .i64 0, .int .u64 0] 95 (0, 0)) := hxa.keep (heap_at wq.drew _ rfl)
            have p0 := (cell_of hbx 0).trans rfl
            have p1 := (cell_of hbx 1).trans rfl
            have f0 := frozen_of hbx 0
            have f1 := frozen_of hbx 1
            have HBX := Lib.hid hbx
            clear hbx
            refine pi_t 11 rfl (by kernel_rfl) (by kernel_rfl) (fun _ _ _ _ h => h) (fun K hK => ?_)
            go_big_quiet_op
            refine hK _ ?_
            clear hK K
            refine pi_t 12 rfl (by kernel_rfl) (by kernel_rfl) (fun _ _ _ _ h => h) (fun K hK => ?_)
            go_big_quiet_op
            refine hK _ ?_
            clear hK K
            refine pi_t 13 rfl (by kernel_rfl) (by kernel_rfl) (fun _ _ _ _ h => h) (fun K hK => ?_)
            go_big_quiet_op
            refine hK _ ?_
            clear hK K
            refine pi_l 15 rfl (by kernel_rfl) (fun K hK => ?_)
            go_wp2
            refine hK _ _ (fun _ h => ⟨⟨_, (hEa.setR (p := ⟨wq.heap.size, 0, none⟩) (Nat.le_refl _) _).setR (p := ⟨wq.heap.size, 1, none⟩) (Nat.le_refl _) _⟩, rfl⟩) ?_
            clear hK K
            refine pi_t 16 rfl (by kernel_rfl) (by kernel_rfl) (fun _ _ _ _ h => h) (fun K hK => ?_)
            go_big_quiet_op
            refine hK _ ?_
            clear hK K
            refine pi_end (by kernel_rfl) ?_
            go_wp2_with fail
            go_meet
            exact ⟨_, rfl, rfl, set2 HBX.out _ _, (hEa.setR (p := ⟨wq.heap.size, 0, none⟩) (Nat.le_refl _) _).setR (p := ⟨wq.heap.size, 1, none⟩) (Nat.le_refl _) _, Nat.le_refl _⟩
        case rest =>
          obtain ⟨z, rfl, rfl, hz, hEc, hzz⟩ := hcut
          have hEx := hEq.trans' hEc
          have y0 := (cell_of hz 0).trans rfl
          have y1 := (cell_of hz 1).trans rfl
          have zl := lt_of hz
          have hg9 := (hq.trans' hEc).keep HG9.out
          have hls := lt_of HG9.out
          have hqs := hq.size
          cases ok
          · have hnn : innF l m W (r + 1) = none := by
              have h1 := HOK0.out rfl
              simp only [innF, HIN.out, HDT.out, h1, Option.bind_some, Option.bind_none]
            have hnil := innF_none hnn (n := R) (by omega)
            obtain ⟨p0, p1, f0, f1, hl⟩ := zbox HZ4.out hEx
            have HNIL := Lib.hid hnil
            clear hg9 hnn hnil
            go_wp2_with fail
            refine bodyPost_ret (v := .tuple #[.agg #[.int .i64 0, .int .u64 0], .int .i64 4]) (by simp [results, Tryz.results126, go_sem, *]) rfl ⟨by rw [HNIL.out]; rfl, ?_⟩
            exact ((hEw4.trans' hEx).setR (p := ⟨w.heap.size, 0, none⟩) (Nat.le_refl _) _).setR (p := ⟨w.heap.size, 1, none⟩) (Nat.le_refl _) _
          · obtain ⟨n, rfl, rfl, rfl⟩ := HOK1.out rfl
            have a0 := (cell_of hg9 0).trans rfl
            have a1 := (cell_of hg9 1).trans rfl
            have f0 := frozen_of hg9 0
            have f1 := frozen_of hg9 1
            have HG9' := Lib.hid hg9
            have hss : innF l m W (r + 1) = some (bif decide (r = 0) || decide (n < best) then n else best) := by
              simp only [innF, HIN.out, HDT.out, Option.bind_some]
            by_cases hr0 : r = 0
            · have hr0' : ((r : Int) == 0) = true := by simp [hr0]
              have hdd : (decide (r = 0) || decide (n < best)) = true := by simp [hr0]
              rw [hdd] at hss
              have HSS := Lib.hid hss
              clear hg9 hss hdd hr0
              go_wp2_with fail
              go_roundw
              case rel =>
                exact ⟨r + 1, n, by omega, by go_num, HSS.out, (hEx.setR (p := ⟨w4.heap.size, 0, none⟩) (Nat.le_refl _) _).setR (p := ⟨w4.heap.size, 1, none⟩) (Nat.le_refl _) _, set2 HG9'.out _ _⟩
              case measure => simp [intOf]; omega
            · have hr0' : ((r : Int) == 0) = false := by simpa using hr0
              by_cases hlt : n < best
              · have hdd : (decide (r = 0) || decide (n < best)) = true := by simp [hlt]
                rw [hdd] at hss
                have HSS := Lib.hid hss
                clear hg9 hss hdd hr0
                go_wp2_with fail
                refine Calls.mono (Less_c n best _) ?_
                rintro e wl ⟨rfl, hxl⟩
                rw [decide_eq_true hlt]
                have hz' := hxl.keep hz
                have y0' := (cell_of hz' 0).trans rfl
                have y1' := (cell_of hz' 1).trans rfl
                have zl' := lt_of hz'
                have hg9' := hxl.keep HG9'.out
                have a0' := (cell_of hg9' 0).trans rfl
                have a1' := (cell_of hg9' 1).trans rfl
                have f0' := frozen_of hg9' 0
                have f1' := frozen_of hg9' 1
                have HG9'' := Lib.hid hg9'
                clear hg9' hz'
                go_wp2_with fail
                go_roundw
                case rel =>
                  exact ⟨r + 1, n, by omega, by go_num, HSS.out, ((hEx.trans' hxl).setR (p := ⟨w4.heap.size, 0, none⟩) (Nat.le_refl _) _).setR (p := ⟨w4.heap.size, 1, none⟩) (Nat.le_refl _) _, set2 HG9''.out _ _⟩
                case measure => simp [intOf]; omega
              · have hdd : (decide (r = 0) || decide (n < best)) = false := by simp [hlt, hr0]
                rw [hdd] at hss
                have HSS := Lib.hid hss
                clear hg9 hss hdd hr0
                go_wp2_with fail
                refine Calls.mono (Less_c n best _) ?_
                rintro e wl ⟨rfl, hxl⟩
                rw [decide_eq_false (show ¬ n < best by omega)]
                have hg9' := hxl.keep HG9'.out
                have HG9'' := Lib.hid hg9'
                clear hg9'
                go_wp2_with fail
                go_roundw
                case rel => exact ⟨r + 1, best, by omega, by go_num, HSS.out, hEx.trans' hxl, HG9''.out⟩
                case measure => simp [intOf]; omega
      · obtain rfl : r = R := by omega
        have HIN := Lib.hid hin
        have a0 := (cell_of hg9 0).trans rfl
        have a1 := (cell_of hg9 1).trans rfl
        have al := lt_of hg9
        obtain ⟨p0, p1, f0, f1, hl⟩ := zbox HZ4.out hE
        clear hin hg9
        go_wp2_with fail
        refine bodyPost_ret (v := .tuple #[.agg #[.int .i64 (hi best), .int .u64 (lo best)], .int .i64 0]) (by simp [results, Tryz.results126, go_sem, *]) rfl ⟨by rw [HIN.out]; rfl, ?_⟩
        exact ((hEw4.trans' hE).setR (p := ⟨w.heap.size, 0, none⟩) (Nat.le_refl _) _).setR (p := ⟨w.heap.size, 1, none⟩) (Nat.le_refl _) _
end Go.Proofs.YteoblkcbemeamaaGreat

/- level.Inner. -/
namespace Go.Proofs.YteoblkcbemeamaaGreat
set_option linter.unusedVariables false
open Go.RowKit
/-- What the product of two levels is. -/
def lvInn (C : Cfg) (lv : Int) (l m : List Int) : Option Int := bif isX C lv then dotF l m (kN C lv) else innF l m (wN C) (rN C)
@[go_sem] theorem fld_mode (b r c m s : Int) (w : World) : (Instr.field 24 (.agg #[.int .i64 b, .int .i64 r, .int .i64 c, .int .i64 m, .int .u64 s]) 3).run Tryz.prog w = .ok (.int .i64 m) w := by kernel_rfl
set_option maxRecDepth 20000 in
set_option maxHeartbeats 8000000 in
theorem LInnerX_c (s b c s2 b2 c2 : Nat) (C : Cfg) (lv : Int) (N : Nat) (l m : List Int) (w : World) (h : EAt w s b c C lv N l) (h2 : EAt w s2 b2 c2 C lv N m) (hm : C.mode = 1) :
    Calls Tryz.prog 55 #[.iface 174 (.pointer (some ⟨s, 0, none⟩)), .iface 174 (.pointer (some ⟨s2, 0, none⟩))] w fun e w' => e = .returned (innV (dotF l m N)) ∧ Ext w w' := by
  have H := Lib.hid h
  have H2 := Lib.hid h2
  have hm' : (C.mode != 1) = false := by simp [hm]
  have hln := h.len
  have hln2 := h2.len
  have hN := h.g.w2
  have HI := Lib.hid h.fit
  have HI2 := Lib.hid h2.fit
  have HL := Lib.hid hln
  have HL2 := Lib.hid hln2
  clear h h2 hm hln hln2
  go_enter Tryz.func55, Tryz.ntmps55
  go_wp2_with fail
  refine (sk_ix _ _ _ _).mono ?_
  rintro e w1 ⟨rfl, rfl⟩
  go_wp2_with fail
  refine (arr_xx _ _ _).mono ?_
  rintro e w1 ⟨rfl, rfl⟩
  go_upto_region 5 with (fail)
  have hz0 := heap_at w (.cells #[.int .i64 0, .int .u64 0] 95) rfl
  have hE0 : Ext w (w.alloc (.cells #[.int .i64 0, .int .u64 0] 95)) := Ext.alloc' _ _
  generalize w.alloc (.cells #[.int .i64 0, .int .u64 0] 95) = w0 at *
  have HZ0 := Lib.hid hz0
  clear hz0
  go_cut [34] (fun s34 wx => s34 = .bool false ∧ Ext w0 wx)
  case first =>
    go_wp2_with (first | (go_at_call 127; refine (EConfig_c s b c C lv N l _ (H.out.ext (by (repeat' (first | exact Ext.refl _ | assumption | apply Ext.allocR | apply Ext.drewR | apply Ext.drewNR | (refine Ext.trans' ?_ (by assumption))))))).mono ?_; rintro e w1 ⟨rfl, hb1⟩) | (go_at_call 127; refine (EConfig_c s2 b2 c2 C lv N m _ (H2.out.ext (by (repeat' (first | exact Ext.refl _ | assumption | apply Ext.allocR | apply Ext.drewR | apply Ext.drewNR | (refine Ext.trans' ?_ (by assumption))))))).mono ?_; rintro e w2 ⟨rfl, hb2⟩) | (go_at_call 128; refine (ELevel_c s b c C lv N l _ (H.out.ext (by (repeat' (first | exact Ext.refl _ | assumption | apply Ext.allocR | apply Ext.drewR | apply Ext.drewNR | (refine Ext.trans' ?_ (by assumption))))))).mono ?_; rintro e w3 ⟨rfl, rfl⟩) | (go_at_call 128; refine (ELevel_c s2 b2 c2 C lv N m _ (H2.out.ext (by (repeat' (first | exact Ext.refl _ | assumption | apply Ext.allocR | apply Ext.drewR | apply Ext.drewNR | (refine Ext.trans' ?_ (by assumption))))))).mono ?_; rintro e w4 ⟨rfl, rfl⟩))
    go_meet
    exact ⟨by first | rfl | simp, by (repeat' (first | exact Ext.refl _ | assumption | apply Ext.allocR | apply Ext.drewR | apply Ext.drewNR | (refine Ext.trans' ?_ (by assumption))))⟩
  case rest =>
    obtain ⟨rfl, hEc⟩ := hcut
    go_wp2_with fail
    refine Calls.mono (EConfig_c s b c C lv N l _ (H.out.ext ?hx)) ?_
    case hx => (repeat' (first | exact Ext.refl _ | assumption | apply Ext.allocR | apply Ext.drewR | apply Ext.drewNR | (refine Ext.trans' ?_ (by assumption))))
    rintro e w1 ⟨rfl, hb1⟩
    have hE1 : Ext w0 w1 := by (repeat' (first | exact Ext.refl _ | assumption | apply Ext.allocR | apply Ext.drewR | apply Ext.drewNR | (refine Ext.trans' ?_ (by assumption))))
    clear hb1 hEc
    go_wp2_with fail
    refine Calls.mono (ECells_c s b c C lv N l _ (H.out.ext ?hx)) ?_
    case hx => (repeat' (first | exact Ext.refl _ | assumption | apply Ext.allocR | apply Ext.drewR | apply Ext.drewNR | (refine Ext.trans' ?_ (by assumption))))
    rintro e w2 ⟨v1, rfl, ho1, _, hx2⟩
    have hE2 : Ext w0 w2 := by (repeat' (first | exact Ext.refl _ | assumption | apply Ext.allocR | apply Ext.drewR | apply Ext.drewNR | (refine Ext.trans' ?_ (by assumption))))
    have hi1 := IntsAt.of_row ho1
    obtain ⟨p1, q1, rfl⟩ := own_sl ho1
    clear hx2 hE1 ho1
    go_wp2_with fail
    refine Calls.mono (ECells_c s2 b2 c2 C lv N m _ (H2.out.ext ?hx)) ?_
    case hx => (repeat' (first | exact Ext.refl _ | assumption | apply Ext.allocR | apply Ext.drewR | apply Ext.drewNR | (refine Ext.trans' ?_ (by assumption))))
    rintro e w3 ⟨v2, rfl, ho2, _, hx3⟩
    have hE3 : Ext w0 w3 := by (repeat' (first | exact Ext.refl _ | assumption | apply Ext.allocR | apply Ext.drewR | apply Ext.drewNR | (refine Ext.trans' ?_ (by assumption))))
    have hi2 := IntsAt.of_row ho2
    have hi1' := hi1.ext hx3
    obtain ⟨p2, q2, rfl⟩ := own_sl ho2
    have HI1 := Lib.hid hi1'
    have HI2' := Lib.hid hi2
    clear hx3 hE2 ho2 hi1 hi2 hi1'
    go_wp2_with fail
    refine Calls.mono (Dot_c l m _ _ _ HI.out HI2.out (by rw [HL.out, HL2.out]) (by rw [HL.out]; omega) HI1.out HI2'.out) ?_
    rintro e w4 ⟨rfl, hx4⟩
    have hE4 : Ext w0 w4 := by (repeat' (first | exact Ext.refl _ | assumption | apply Ext.allocR | apply Ext.drewR | apply Ext.drewNR | (refine Ext.trans' ?_ (by assumption))))
    obtain ⟨p0, p1', f0, f1, hl⟩ := zbox HZ0.out hE4
    rw [HL.out]
    clear hx4 hE3
    cases hd : dotF l m N with
    | none =>
      have HD := Lib.hid hd
      clear hd
      rw [show dotV none = .tuple #[.agg #[.int .i64 0, .int .u64 0], .bool false] from rfl]
      go_wp2_with fail
      refine bodyPost_ret (v := .tuple #[.agg #[.int .i64 0, .int .u64 0], .int .i64 4]) (by simp [results, Tryz.results55, go_sem, *]) rfl ⟨by rw [HD.out]; rfl, ?_⟩
      exact (((hE0.trans' hE4).setR (p := ⟨w.heap.size, 0, none⟩) (Nat.le_refl _) _).setR (p := ⟨w.heap.size, 1, none⟩) (Nat.le_refl _) _).allocR _
    | some z =>
      have HD := Lib.hid hd
      clear hd
      rw [show dotV (some z) = .tuple #[.agg #[.int .i64 (hi z), .int .u64 (lo z)], .bool true] from rfl]
      go_wp2_with fail
      refine bodyPost_ret (v := .tuple #[.agg #[.int .i64 (hi z), .int .u64 (lo z)], .int .i64 0]) (by simp [results, Tryz.results55, go_sem, *]) rfl ⟨by rw [HD.out]; rfl, ?_⟩
      exact (((hE0.trans' hE4).setR (p := ⟨w.heap.size, 0, none⟩) (Nat.le_refl _) _).setR (p := ⟨w.heap.size, 1, none⟩) (Nat.le_refl _) _).allocR _
set_option maxRecDepth 20000 in
set_option maxHeartbeats 8000000 in
/-- Of another mode than Linear there is none. -/
theorem LInnerX_mode (s b c s2 b2 c2 : Nat) (C : Cfg) (lv : Int) (N : Nat) (l m : List Int) (w : World) (h : EAt w s b c C lv N l) (h2 : EAt w s2 b2 c2 C lv N m) (hm : C.mode ≠ 1) :
    Calls Tryz.prog 55 #[.iface 174 (.pointer (some ⟨s, 0, none⟩)), .iface 174 (.pointer (some ⟨s2, 0, none⟩))] w fun e w' => e = .returned (.tuple #[.agg #[.int .i64 0, .int .u64 0], .int .i64 3]) ∧ Ext w w' := by
  have H := Lib.hid h
  have H2 := Lib.hid h2
  have hm' : (C.mode != 1) = true := by simpa using hm
  clear h h2 hm
  go_enter Tryz.func55, Tryz.ntmps55
  go_wp2_with fail
  refine (sk_ix _ _ _ _).mono ?_
  rintro e w1 ⟨rfl, rfl⟩
  go_wp2_with fail
  refine (arr_xx _ _ _).mono ?_
  rintro e w1 ⟨rfl, rfl⟩
  go_upto_region 5 with (fail)
  have hz0 := heap_at w (.cells #[.int .i64 0, .int .u64 0] 95) rfl
  have hE0 : Ext w (w.alloc (.cells #[.int .i64 0, .int .u64 0] 95)) := Ext.alloc' _ _
  generalize w.alloc (.cells #[.int .i64 0, .int .u64 0] 95) = w0 at *
  have HZ0 := Lib.hid hz0
  clear hz0
  go_cut [34] (fun s34 wx => s34 = .bool false ∧ Ext w0 wx)
  case first =>
    go_wp2_with (first | (go_at_call 127; refine (EConfig_c s b c C lv N l _ (H.out.ext (by (repeat' (first | exact Ext.refl _ | assumption | apply Ext.allocR | apply Ext.drewR | apply Ext.drewNR | (refine Ext.trans' ?_ (by assumption))))))).mono ?_; rintro e w1 ⟨rfl, hb1⟩) | (go_at_call 127; refine (EConfig_c s2 b2 c2 C lv N m _ (H2.out.ext (by (repeat' (first | exact Ext.refl _ | assumption | apply Ext.allocR | apply Ext.drewR | apply Ext.drewNR | (refine Ext.trans' ?_ (by assumption))))))).mono ?_; rintro e w2 ⟨rfl, hb2⟩) | (go_at_call 128; refine (ELevel_c s b c C lv N l _ (H.out.ext (by (repeat' (first | exact Ext.refl _ | assumption | apply Ext.allocR | apply Ext.drewR | apply Ext.drewNR | (refine Ext.trans' ?_ (by assumption))))))).mono ?_; rintro e w3 ⟨rfl, rfl⟩) | (go_at_call 128; refine (ELevel_c s2 b2 c2 C lv N m _ (H2.out.ext (by (repeat' (first | exact Ext.refl _ | assumption | apply Ext.allocR | apply Ext.drewR | apply Ext.drewNR | (refine Ext.trans' ?_ (by assumption))))))).mono ?_; rintro e w4 ⟨rfl, rfl⟩))
    go_meet
    exact ⟨by first | rfl | simp, by (repeat' (first | exact Ext.refl _ | assumption | apply Ext.allocR | apply Ext.drewR | apply Ext.drewNR | (refine Ext.trans' ?_ (by assumption))))⟩
  case rest =>
    obtain ⟨rfl, hEc⟩ := hcut
    go_wp2_with fail
    refine Calls.mono (EConfig_c s b c C lv N l _ (H.out.ext ?hx)) ?_
    case hx => (repeat' (first | exact Ext.refl _ | assumption | apply Ext.allocR | apply Ext.drewR | apply Ext.drewNR | (refine Ext.trans' ?_ (by assumption))))
    rintro e w1 ⟨rfl, hb1⟩
    have hE1 : Ext w0 w1 := by (repeat' (first | exact Ext.refl _ | assumption | apply Ext.allocR | apply Ext.drewR | apply Ext.drewNR | (refine Ext.trans' ?_ (by assumption))))
    obtain ⟨p0, p1, f0, f1, hl⟩ := zbox HZ0.out hE1
    clear hb1 hEc
    go_wp2_with fail
    refine bodyPost_ret (v := .tuple #[.agg #[.int .i64 0, .int .u64 0], .int .i64 3]) (by simp [results, Tryz.results55, go_sem, *]) rfl ⟨rfl, ?_⟩
    exact ((hE0.trans' hE1).setR (p := ⟨w.heap.size, 0, none⟩) (Nat.le_refl _) _).setR (p := ⟨w.heap.size, 1, none⟩) (Nat.le_refl _) _
set_option maxRecDepth 20000 in
set_option maxHeartbeats 8000000 in
/-- Unlike arrays have none. -/
theorem LInnerX_no (s b c s2 b2 c2 : Nat) (C C2 : Cfg) (lv lv2 : Int) (N N2 : Nat) (l m : List Int) (w : World) (h : EAt w s b c C lv N l) (h2 : EAt w s2 b2 c2 C2 lv2 N2 m) (hp : PartsAt C lv C2 lv2) :
    Calls Tryz.prog 55 #[.iface 174 (.pointer (some ⟨s, 0, none⟩)), .iface 174 (.pointer (some ⟨s2, 0, none⟩))] w fun e w' => e = .returned (.tuple #[.agg #[.int .i64 0, .int .u64 0], .int .i64 5]) ∧ Ext w w' := by
  have H := Lib.hid h
  have H2 := Lib.hid h2
  clear h h2
  go_enter Tryz.func55, Tryz.ntmps55
  go_wp2_with fail
  refine (sk_ix _ _ _ _).mono ?_
  rintro e w1 ⟨rfl, rfl⟩
  go_wp2_with fail
  refine (arr_xx _ _ _).mono ?_
  rintro e w1 ⟨rfl, rfl⟩
  go_upto_region 5 with (fail)
  have hz0 := heap_at w (.cells #[.int .i64 0, .int .u64 0] 95) rfl
  have hE0 : Ext w (w.alloc (.cells #[.int .i64 0, .int .u64 0] 95)) := Ext.alloc' _ _
  generalize w.alloc (.cells #[.int .i64 0, .int .u64 0] 95) = w0 at *
  have HZ0 := Lib.hid hz0
  clear hz0
  go_cut [34] (fun s34 wx => s34 = .bool true ∧ Ext w0 wx)
  case first =>
    cases hp
    all_goals
      go_wp2_with (first | (go_at_call 127; refine (EConfig_c s b c C lv N l _ (H.out.ext (by (repeat' (first | exact Ext.refl _ | assumption | apply Ext.allocR | apply Ext.drewR | apply Ext.drewNR | (refine Ext.trans' ?_ (by assumption))))))).mono ?_; rintro e w1 ⟨rfl, hb1⟩) | (go_at_call 127; refine (EConfig_c s2 b2 c2 C2 lv2 N2 m _ (H2.out.ext (by (repeat' (first | exact Ext.refl _ | assumption | apply Ext.allocR | apply Ext.drewR | apply Ext.drewNR | (refine Ext.trans' ?_ (by assumption))))))).mono ?_; rintro e w2 ⟨rfl, hb2⟩) | (go_at_call 128; refine (ELevel_c s b c C lv N l _ (H.out.ext (by (repeat' (first | exact Ext.refl _ | assumption | apply Ext.allocR | apply Ext.drewR | apply Ext.drewNR | (refine Ext.trans' ?_ (by assumption))))))).mono ?_; rintro e w3 ⟨rfl, rfl⟩) | (go_at_call 128; refine (ELevel_c s2 b2 c2 C2 lv2 N2 m _ (H2.out.ext (by (repeat' (first | exact Ext.refl _ | assumption | apply Ext.allocR | apply Ext.drewR | apply Ext.drewNR | (refine Ext.trans' ?_ (by assumption))))))).mono ?_; rintro e w4 ⟨rfl, rfl⟩))
      go_meet
      exact ⟨by first | rfl | simp [bne, *], by (repeat' (first | exact Ext.refl _ | assumption | apply Ext.allocR | apply Ext.drewR | apply Ext.drewNR | (refine Ext.trans' ?_ (by assumption))))⟩
  case rest =>
    obtain ⟨rfl, hEc⟩ := hcut
    obtain ⟨p0, p1, f0, f1, hl⟩ := zbox HZ0.out hEc
    go_wp2_with fail
    refine bodyPost_ret (v := .tuple #[.agg #[.int .i64 0, .int .u64 0], .int .i64 5]) (by simp [results, Tryz.results55, go_sem, *]) rfl ⟨rfl, ?_⟩
    exact ((hE0.trans' hEc).setR (p := ⟨w.heap.size, 0, none⟩) (Nat.le_refl _) _).setR (p := ⟨w.heap.size, 1, none⟩) (Nat.le_refl _) _
set_option maxRecDepth 20000 in
set_option maxHeartbeats 8000000 in
/-- Two sketches: inner.Inner's answer. -/
theorem LInnerS_c (s s2 : Nat) (w : World) (h w0 : Int) (k : Int)
    (hI : ∀ W', Ext w W' → Calls Tryz.prog 126 #[.pointer (some ⟨s, 0, none⟩), .pointer (some ⟨s2, 0, none⟩)] W' fun e w' => e = .returned (.tuple #[.agg #[.int .i64 h, .int .u64 w0], .int .i64 k]) ∧ Ext W' w') :
    Calls Tryz.prog 55 #[.iface 169 (.pointer (some ⟨s, 0, none⟩)), .iface 169 (.pointer (some ⟨s2, 0, none⟩))] w fun e w' => e = .returned (.tuple #[.agg #[.int .i64 h, .int .u64 w0], .int .i64 k]) ∧ Ext w w' := by
  have HI := Lib.hid hI
  clear hI
  go_enter Tryz.func55, Tryz.ntmps55
  go_wp2_with fail
  refine (sk_ss _ _ _).mono ?_
  rintro e w1 ⟨rfl, rfl⟩
  go_wp2_with fail
  have hz0 := heap_at w (.cells #[.int .i64 0, .int .u64 0] 95) rfl
  have hE0 : Ext w (w.alloc (.cells #[.int .i64 0, .int .u64 0] 95)) := Ext.alloc' _ _
  generalize w.alloc (.cells #[.int .i64 0, .int .u64 0] 95) = wz at *
  refine (HI.out _ hE0).mono ?_
  rintro e w2 ⟨rfl, hx2⟩
  obtain ⟨p0, p1, f0, f1, hl⟩ := zbox hz0 hx2
  go_wp2_with fail
  refine bodyPost_ret (v := .tuple #[.agg #[.int .i64 h, .int .u64 w0], .int .i64 k]) (by simp [results, Tryz.results55, go_sem, *]) rfl ⟨rfl, ?_⟩
  exact ((hE0.trans' hx2).setR (p := ⟨w.heap.size, 0, none⟩) (Nat.le_refl _) _).setR (p := ⟨w.heap.size, 1, none⟩) (Nat.le_refl _) _
set_option maxRecDepth 20000 in
set_option maxHeartbeats 4000000 in
theorem LInner_xs (s s2 : Nat) (w : World) :
    Calls Tryz.prog 55 #[.iface 174 (.pointer (some ⟨s, 0, none⟩)), .iface 169 (.pointer (some ⟨s2, 0, none⟩))] w fun e w' => e = .returned (.tuple #[.agg #[.int .i64 0, .int .u64 0], .int .i64 5]) ∧ Ext w w' := by
  go_enter Tryz.func55, Tryz.ntmps55
  go_wp2_with fail
  refine (sk_xs _ _ _).mono ?_
  rintro e w1 ⟨rfl, rfl⟩
  go_wp2_with fail
  refine (arr_xs _ _ _).mono ?_
  rintro e w1 ⟨rfl, rfl⟩
  have hz0 := heap_at w (.cells #[.int .i64 0, .int .u64 0] 95) rfl
  have hE0 : Ext w (w.alloc (.cells #[.int .i64 0, .int .u64 0] 95)) := Ext.alloc' _ _
  generalize w.alloc (.cells #[.int .i64 0, .int .u64 0] 95) = wz at *
  obtain ⟨p0, p1, f0, f1, hl⟩ := zbox hz0 (Ext.refl wz)
  go_wp2_with fail
  refine bodyPost_ret (v := .tuple #[.agg #[.int .i64 0, .int .u64 0], .int .i64 5]) (by simp [results, Tryz.results55, go_sem, *]) rfl ⟨rfl, ?_⟩
  exact (hE0.setR (p := ⟨w.heap.size, 0, none⟩) (Nat.le_refl _) _).setR (p := ⟨w.heap.size, 1, none⟩) (Nat.le_refl _) _
set_option maxRecDepth 20000 in
set_option maxHeartbeats 4000000 in
theorem LInner_sx (s s2 : Nat) (w : World) :
    Calls Tryz.prog 55 #[.iface 169 (.pointer (some ⟨s, 0, none⟩)), .iface 174 (.pointer (some ⟨s2, 0, none⟩))] w fun e w' => e = .returned (.tuple #[.agg #[.int .i64 0, .int .u64 0], .int .i64 5]) ∧ Ext w w' := by
  go_enter Tryz.func55, Tryz.ntmps55
  go_wp2_with fail
  refine (sk_ix _ _ _ _).mono ?_
  rintro e w1 ⟨rfl, rfl⟩
  go_wp2_with fail
  refine (arr_sx _ _ _).mono ?_
  rintro e w1 ⟨rfl, rfl⟩
  have hz0 := heap_at w (.cells #[.int .i64 0, .int .u64 0] 95) rfl
  have hE0 : Ext w (w.alloc (.cells #[.int .i64 0, .int .u64 0] 95)) := Ext.alloc' _ _
  generalize w.alloc (.cells #[.int .i64 0, .int .u64 0] 95) = wz at *
  obtain ⟨p0, p1, f0, f1, hl⟩ := zbox hz0 (Ext.refl wz)
  go_wp2_with fail
  refine bodyPost_ret (v := .tuple #[.agg #[.int .i64 0, .int .u64 0], .int .i64 5]) (by simp [results, Tryz.results55, go_sem, *]) rfl ⟨rfl, ?_⟩
  exact (hE0.setR (p := ⟨w.heap.size, 0, none⟩) (Nat.le_refl _) _).setR (p := ⟨w.heap.size, 1, none⟩) (Nat.le_refl _) _
/-- The product of two levels of one config, Linear. -/
theorem LInner_c (C : Cfg) (lv : Int) (L L2 : Lev) (l m : List Int) (w : World) (h : LvAt w L C lv l) (h2 : LvAt w L2 C lv m) (hm : C.mode = 1) :
    Calls Tryz.prog 55 #[lvV C lv L, lvV C lv L2] w fun e w' => e = .returned (innV (lvInn C lv l m)) ∧ Ext w w' := by
  unfold lvInn
  cases hx : isX C lv with
  | true =>
    rw [lvV_x hx, lvV_x hx]
    exact LInnerX_c _ _ _ _ _ _ C lv _ l m w (h.x hx) (h2.x hx) hm
  | false =>
    rw [lvV_s hx, lvV_s hx]
    have := fun W' (he : Ext w W') => Inner_c _ _ _ _ _ _ C lv _ _ l m W' ((h.sk hx).ext he) ((h2.sk hx).ext he) hm
    show Calls _ _ _ _ fun e w' => e = .returned (innV (innF l m (wN C) (rN C))) ∧ _
    cases hi : innF l m (wN C) (rN C) with
    | none => rw [hi] at this; exact LInnerS_c _ _ w 0 0 4 this
    | some z => rw [hi] at this; exact LInnerS_c _ _ w _ _ 0 this
theorem LInner_mode (C : Cfg) (lv : Int) (L L2 : Lev) (l m : List Int) (w : World) (h : LvAt w L C lv l) (h2 : LvAt w L2 C lv m) (hm : C.mode ≠ 1) :
    Calls Tryz.prog 55 #[lvV C lv L, lvV C lv L2] w fun e w' => e = .returned (.tuple #[.agg #[.int .i64 0, .int .u64 0], .int .i64 3]) ∧ Ext w w' := by
  cases hx : isX C lv with
  | true =>
    rw [lvV_x hx, lvV_x hx]
    exact LInnerX_mode _ _ _ _ _ _ C lv _ l m w (h.x hx) (h2.x hx) hm
  | false =>
    rw [lvV_s hx, lvV_s hx]
    exact LInnerS_c _ _ w 0 0 3 fun W' he => Inner_mode _ _ _ _ _ _ C lv _ _ l m W' ((h.sk hx).ext he) ((h2.sk hx).ext he) hm
theorem LInner_no (C C2 : Cfg) (lv lv2 : Int) (L L2 : Lev) (l m : List Int) (w : World) (h : LvAt w L C lv l) (h2 : LvAt w L2 C2 lv2 m) (hp : PartsAt C lv C2 lv2) :
    Calls Tryz.prog 55 #[lvV C lv L, lvV C2 lv2 L2] w fun e w' => e = .returned (.tuple #[.agg #[.int .i64 0, .int .u64 0], .int .i64 5]) ∧ Ext w w' := by
  cases hx : isX C lv with
  | true =>
    cases hy : isX C2 lv2 with
    | true =>
      rw [lvV_x hx, lvV_x hy]
      exact LInnerX_no _ _ _ _ _ _ C C2 lv lv2 _ _ l m w (h.x hx) (h2.x hy) hp
    | false =>
      rw [lvV_x hx, lvV_s hy]
      exact LInner_xs _ _ w
  | false =>
    cases hy : isX C2 lv2 with
    | true =>
      rw [lvV_s hx, lvV_x hy]
      exact LInner_sx _ _ w
    | false =>
      rw [lvV_s hx, lvV_s hy]
      exact LInnerS_c _ _ w 0 0 5 fun W' he => Inner_unlike _ _ _ _ _ _ C C2 lv lv2 _ _ _ _ l m W' ((h.sk hx).ext he) ((h2.sk hy).ext he) hp
end Go.Proofs.YteoblkcbemeamaaGreat
