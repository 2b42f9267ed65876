/- Part. No condition. -/
import Derived.Test.YtfhdjekpdifajaaGreatDSummaryExact6
import Derived.Laws.IdiomCopy
import Derived.Sort.Defs
import Derived.Sort.LotA
namespace Go.Proofs.YtfhdjekpdifajaaGreat
set_option linter.unusedVariables false
open Go.RowKit
theorem info_fd : ∃ i z, Tryz.prog.info? 130 = some i ∧ i.zero = some z ∧ i.size = 3 ∧ i.bytes = 24 ∧ z.cells.size = 3 := by
  have h : (Tryz.prog.info? 130).map (fun i => (i.zero, i.size, i.bytes)) = some (some (.agg #[.int .i64 0, .int .u64 0, .int .i64 0]), 3, 24) := by kernel_rfl
  match hi : Tryz.prog.info? 130, h with
  | some i, h =>
    simp only [Option.map_some, Option.some.injEq, Prod.mk.injEq] at h
    exact ⟨i, _, rfl, h.1, h.2.1, h.2.2, rfl⟩
def hvRes (o : Option (List Fd)) : List Fd × Int := match o with | none => ([], 7) | some l => (l, 0)
theorem heavyP_bad {pt : Nat → Int → Int} {least budget : Int} {B : Nat} (h : least < 1 ∨ 4096 < budget) : heavyP pt least budget B = ([], 1) := by unfold heavyP; rw [if_pos h]
theorem heavyP_go {pt : Nat → Int → Int} {least budget : Int} {B : Nat} (h1 : 1 ≤ least) (h2 : budget ≤ 4096) : heavyP pt least budget B = hvRes (hvGo pt least budget (B + 1) 0 [0] []) := by
  unfold heavyP hvRes
  rw [if_neg (by omega)] <;> cases hvGo pt least budget (B + 1) 0 [0] [] <;> rfl
theorem hvGo_no {pt : Nat → Int → Int} {least budget : Int} {n : Nat} {asked : Int} {row : List Int} {out : List Fd} (h : budget < asked + row.length) : hvGo pt least budget (n + 1) asked row out = none := by
  show (if _ then _ else _) = _
  rw [if_pos h]
theorem hvGo_yes {pt : Nat → Int → Int} {least budget : Int} {n : Nat} {asked : Int} {row : List Int} {out : List Fd} (h : asked + row.length ≤ budget) : hvGo pt least budget (n + 1) asked row out = hvGo pt least budget n (asked + row.length) (hvN pt least n row) (out ++ hvF pt least n row) := by
  conv => lhs; unfold hvGo
  rw [if_neg (by omega)]
def HeavyPost (w : World) (B : Nat) (pt : Nat → Int → Int) (least budget : Int) (e : Ending) (w' : World) : Prop :=
  ∃ v, e = .returned (.tuple #[v, .int .i64 (heavyP pt least budget B).2]) ∧ w'.ownsRow w.heap.size 130 3 v (heavyP pt least budget B).1.length (fdV (heavyP pt least budget B).1) ∧ Ext w w'
set_option maxRecDepth 20000 in
set_option maxHeartbeats 8000000 in
theorem Heavy_c (s g : Nat) (C : Cfg) (B : Nat) (L : Nat → Lev) (ls : Nat → List Int) (w : World) (h : KAt w s g C B L ls) (pt : Nat → Int → Int) (hU : Uniq C B ls pt) (least budget : Int) :
    Calls Tryz.prog 83 #[.pointer (some ⟨s, 0, none⟩), .int .i64 least, .int .i64 budget] w (HeavyPost w B pt least budget) := by
  by_cases h1 : least < 1
  · go_enter Tryz.func83, Tryz.ntmps83
    go_wp2
    go_ret2
    refine ⟨.slice none 0 0, ?_, ?_, Ext.refl _⟩
    · rw [heavyP_bad (.inl h1)]; rfl
    · rw [heavyP_bad (.inl h1)]; exact ⟨rfl, .inl ⟨rfl, rfl⟩⟩
  by_cases h2 : 4096 < budget
  · go_enter Tryz.func83, Tryz.ntmps83
    go_wp2
    go_ret2
    refine ⟨.slice none 0 0, ?_, ?_, Ext.refl _⟩
    · rw [heavyP_bad (.inr h2)]; rfl
    · rw [heavyP_bad (.inr h2)]; exact ⟨rfl, .inl ⟨rfl, rfl⟩⟩
  have hP := heavyP_go (pt := pt) (B := B) (show 1 ≤ least by omega) (show budget ≤ 4096 by omega)
  have HP := Lib.hid hP
  have hB := h.hB
  have hok := h.ok
  have hBd : B ≤ 59 := by have := hok.b2; omega
  have HB := Lib.hid hB
  have HH := Lib.hid h
  have HU := Lib.hid hU
  have HOK := Lib.hid hok
  clear hP hB h hU hok
  go_enter Tryz.func83, Tryz.ntmps83
  go_wp2_with fail
  refine (SKConfig_c s g C B L ls _ HH.out).mono ?_
  rintro e w1 ⟨rfl, hx1⟩
  rw [HB.out]
  have hE1 := hx1
  clear hx1
  have hsz1 := hE1.size
  have hr1 : (w1.alloc (.cells #[.int .i64 (B : Nat), .int .u64 0] 39)).ownsRow w.heap.size 39 2 (.slice (some ⟨w1.heap.size, 0, none⟩) 1 1) 1 (pcV (lvl B [0])) := own_newK w1 w.heap.size hsz1 39 2 1 _ (by decide) rfl
  have hE2 : Ext w (w1.alloc (.cells #[.int .i64 (B : Nat), .int .u64 0] 39)) := hE1.allocR _
  have HR1 := Lib.hid hr1
  have HE2 := Lib.hid hE2
  clear hr1 hE2 hE1
  go_wp2_with fail
  generalize w1.alloc (.cells #[.int .i64 (B : Nat), .int .u64 0] 39) = wq at *
  go_loopw [9, 10, 11, 34] (fun u9 u10 u11 u34 wr => ∃ (r m : Nat) (asked : Int) (row : List Int) (out : List Fd), r + m = B + 1 ∧ u34 = .int .i64 r ∧ u9 = .int .i64 asked ∧ 0 ≤ asked ∧ asked ≤ 4096 ∧ (out.length : Int) ≤ asked ∧ row.length ≤ 8192 ∧ (∀ i ∈ row, 0 ≤ i ∧ i < keys C (m - 1 : Nat)) ∧ hvGo pt least budget (B + 1) 0 [0] [] = hvGo pt least budget m asked row out ∧ wr.ownsRow w.heap.size 130 3 u10 out.length (fdV out) ∧ wr.ownsRow w.heap.size 39 2 u11 row.length (pcV (lvl (m - 1) row)) ∧ Ext w wr) (fun _ _ _ u34 _ => B + 1 - (intOf u34).toNat)
  case atStart => exact ⟨0, B + 1, 0, [0], [], by omega, rfl, rfl, by omega, by omega, by simp, by simp, by
    intro i hi
    have : i = 0 := by simpa using hi
    subst this
    rw [show B + 1 - 1 = B by omega, keys_top HB.out]; decide, rfl, ⟨rfl, .inl ⟨rfl, rfl⟩⟩, HR1.out, HE2.out⟩
  case round =>
    clear HR1 HE2
    obtain ⟨r, m, asked, row, out, hrm, rfl, rfl, ha0, ha1, hol, hrl, hmem, hgo, howo, howr, hE⟩ := hrel
    obtain ⟨po, co, rfl⟩ := own_sl howo
    obtain ⟨pr, cr, rfl⟩ := own_sl howr
    have HO := Lib.hid howo
    have HR := Lib.hid howr
    have HGO := Lib.hid hgo
    have HM := Lib.hid hmem
    clear howo howr hgo hmem
    by_cases hlt : r < B + 1
    · obtain ⟨n, rfl⟩ : ∃ n, m = n + 1 := ⟨m - 1, by omega⟩
      rw [Nat.add_sub_cancel] at HR HM
      by_cases hbg : budget < asked + row.length
      · have hres : heavyP pt least budget B = ([], 7) := by rw [HP.out, HGO.out, hvGo_no hbg]; rfl
        have HRES := Lib.hid hres
        clear hres
        go_wp2
        go_ret2
        refine ⟨.slice none 0 0, ?_, ?_, hE⟩
        · rw [HRES.out]; rfl
        · rw [HRES.out]; exact ⟨rfl, .inl ⟨rfl, rfl⟩⟩
      · have hgo2 := HGO.out.trans (hvGo_yes (by omega))
        have HGO2 := Lib.hid hgo2
        clear hgo2 HGO
        obtain ⟨b1, hb1⟩ : ∃ b, b = wr.heap.size := ⟨_, rfl⟩
        have HBW := Lib.hid (show w.heap.size ≤ b1 by rw [hb1]; exact hE.size)
        go_wp2_with fail
        go_loopw [10, 12, 45] (fun u10 u12 u45 wi => ∃ k, k ≤ row.length ∧ u45 = .int .i64 k ∧ wi.ownsRow w.heap.size 130 3 u10 (out ++ hvF pt least n (row.take k)).length (fdV (out ++ hvF pt least n (row.take k))) ∧ wi.ownsRow b1 39 2 u12 (hvN pt least n (row.take k)).length (pcV (lvl (n - 1) (hvN pt least n (row.take k)))) ∧ wi.ownsRow w.heap.size 39 2 (.slice pr row.length cr) row.length (pcV (lvl n row)) ∧ (∀ j, (Value.slice pr row.length cr).ownBlock = some j → j < b1) ∧ Ext w wi ∧ b1 ≤ wi.heap.size) (fun _ _ u45 _ => row.length - (intOf u45).toNat)
        case atStart => exact ⟨0, Nat.zero_le _, rfl, by simpa [hvF] using HO.out, by simp [hvN]; exact ⟨rfl, .inl ⟨rfl, rfl⟩⟩, HR.out, fun j hj => by rw [hb1]; exact own_lt HR.out hj, hE, by omega⟩
        case round =>
          clear HO HR
          obtain ⟨k, hk, rfl, ho, hx, hr, hjl, hEi, hsi⟩ := hrel
          obtain ⟨po2, co2, rfl⟩ := own_sl ho
          obtain ⟨px, cx, rfl⟩ := own_sl hx
          by_cases hkl : k < row.length
          · obtain ⟨gr, cr', hv, hbr, hgl, hcell⟩ := own_row_cells hr (by omega)
            cases hv
            have hcs := pcV_lvl (n := n) hkl
            have c0 := (hcell (k * 2) (by omega)).trans hcs.1
            have c1 := (hcell (k * 2 + 1) (by omega)).trans hcs.2
            have hts := take_snocH hkl
            have hi := HM.out row[k] (List.getElem_mem hkl)
            have htl : (row.take k).length = k := by rw [List.length_take]; omega
            have HTS := Lib.hid hts
            have HTL := Lib.hid htl
            have HX := Lib.hid hx
            have HO := Lib.hid ho
            have HR := Lib.hid hr
            have HJL := Lib.hid hjl
            clear hts htl hx ho hr hcell hcs hjl hb1
            generalize row[k] = i at *
            generalize row.take k = pre at *
            generalize hlo : (out ++ hvF pt least n pre).length = lo at *
            generalize hlx : (hvN pt least n pre).length = lx at *
            have HLO := Lib.hid hlo
            have HLX := Lib.hid hlx
            clear hlo hlx
            go_wp2_with fail
            have hEq : Ext w (wr.alloc (.cells #[.int .i64 n, .int .u64 i] 39)) := hEi.allocR _
            have hnB : n ≤ B := by omega
            refine Calls.mono (KPoint_c s g C B L ls _ (HH.out.ext hEq) n hnB i hi.1 hi.2) ?_
            rintro e w3 ⟨x, rfl, hp, hx3⟩
            obtain rfl : x = pt n i := HU.out n i x hnB hi.1 hi.2 hp
            have hbp : w3.heap[wr.heap.size]? = some (.cells #[.int .i64 n, .int .u64 i] 39 (0, 0)) := hx3.keep (heap_at _ _ rfl)
            have HO3 := Lib.hid (own_ext (HO.out.alloc (.cells #[.int .i64 n, .int .u64 i] 39)) hx3)
            have HX3 := Lib.hid (own_ext (HX.out.alloc (.cells #[.int .i64 n, .int .u64 i] 39)) hx3)
            have HR3 := Lib.hid (own_ext (HR.out.alloc (.cells #[.int .i64 n, .int .u64 i] 39)) hx3)
            have hE3 := hEq.trans' hx3
            have hs3 := hx3.size
            rw [size_alloc] at hs3
            clear hx3 hp hEq HO HX HR
            by_cases hle : pt n i < least
            · go_wp2
              go_roundw
              case rel => exact ⟨k + 1, by omega, by go_num, by rw [HTS.out, hvF_snoc_no hle, HLO.out]; exact HO3.out, by rw [HTS.out, hvN_snoc_no hle, HLX.out]; exact HX3.out, HR3.out, HJL.out, hE3, by omega⟩
              case measure => simp [intOf]; omega
            · have hF := hvF_snoc_yes (pt := pt) (least := least) (n := n) (row := pre) (i := i) (by omega)
              have HF := Lib.hid hF
              have hln : lo ≤ 9000 := by
                have := hvF_len pt least n pre
                have := HTL.out
                rw [← HLO.out, List.length_append]
                omega
              have c0 := (cell_of hbp 0).trans rfl
              have c1 := (cell_of hbp 1).trans rfl
              have cl := lt_of hbp
              clear hF
              have hs1 := hE3.size
              go_wp2_with (at_builtin; refine wpList_appK w3 3 24 1 (by decide) (by decide) [.int .i64 n, .int .u64 i, .int .i64 (pt n i)] rfl (by simp [Value.oneCell']) _ _ _ w.heap.size 130 _ HO3.out 122 rfl _ _ rfl info_fd Tryz.underlying122 _ rfl (by rfl) (by rfl) ?a1 ?a2 ?_)
              case a1 => omega
              case a2 => exact hs1
              intro v' w4 g1 g2 _
              have hx4 := own_grownT (HX3.out.alloc _) (HO3.out.alloc _) (by decide) g2
              have hr4 := own_grownT (HR3.out.alloc _) (HO3.out.alloc _) (by decide) g2
              have hE4 : Ext w w4 := ext_grown hE3 g2 (fun j hj => own_geB HO3.out hj)
              have hbp4 : w4.heap[wr.heap.size]? = some (.cells #[.int .i64 n, .int .u64 i] 39 (0, 0)) := by
                rw [g2.block _ (by rw [size_alloc]; omega) (fun e => own_notB HO3.out hbp (by decide) e.symm), heap_old _ _ (by omega)]
                exact hbp
              have ho4 : w4.ownsRow w.heap.size 130 3 v' (out ++ hvF pt least n (pre ++ [i])).length (fdV (out ++ hvF pt least n (pre ++ [i]))) ∧ (out ++ hvF pt least n (pre ++ [i])).length = lo + 1 := by
                rw [HF.out, ← List.append_assoc, fdV_append, List.length_append (bs := [(n, i, pt n i)]), HLO.out]
                exact ⟨g1, rfl⟩
              have hs4 := g2.size
              rw [size_alloc] at hs4
              obtain ⟨po3, co3, rfl⟩ := own_sl g1
              have HO4 := Lib.hid ho4.1
              have HL4 := Lib.hid ho4.2
              have HX4 := Lib.hid hx4
              have HR4 := Lib.hid hr4
              have hHv : Calls Tryz.prog 145 #[.int .i64 B, .agg #[.int .i64 n, .int .u64 i]] w4 fun e w' => ∃ x u v : Int, e = .returned (.tuple #[.agg #[.int .i64 x, .int .u64 u], .agg #[.int .i64 x, .int .u64 v], .bool (decide (0 < n))]) ∧ (∀ m : Nat, n = m + 1 → x = m ∧ u = 2 * i ∧ v = 2 * i + 1) ∧ Ext w4 w' := by
                have := HalvesAny_c C HOK.out n (by have := HB.out; omega) i hi.1 hi.2 w4
                rw [HB.out] at this
                exact this
              have HHV := Lib.hid hHv
              have d0 := (cell_of hbp4 0).trans rfl
              have d1 := (cell_of hbp4 1).trans rfl
              have dl := lt_of hbp4
              clear g1 g2 hx4 hr4 ho4 hHv HO3 HX3 HR3 hbp hbp4 c0 c1 cl
              go_wp2_with fail
              refine Calls.mono HHV.out ?_
              rintro e w5 ⟨x, u, v, rfl, hxuv, hx5⟩
              have HO5 := Lib.hid (own_ext HO4.out hx5)
              have HX5 := Lib.hid (own_ext HX4.out hx5)
              have HR5 := Lib.hid (own_ext HR4.out hx5)
              have hE5 := hE4.trans' hx5
              have hs5 := hx5.size
              clear hx5 HHV HO4 HX4 HR4 d0 d1 dl
              by_cases hn0 : 0 < n
              · obtain ⟨m, rfl⟩ : ∃ m, n = m + 1 := ⟨n - 1, by omega⟩
                obtain ⟨rfl, rfl, rfl⟩ := hxuv m rfl
                rw [decide_eq_true hn0]
                have HO6 := Lib.hid ((HO5.out.alloc (.cells #[.int .i64 (m : Int), .int .u64 (2 * i)] 39)).alloc (.cells #[.int .i64 (m : Int), .int .u64 (2 * i + 1)] 39))
                have HX6 := Lib.hid ((HX5.out.alloc (.cells #[.int .i64 (m : Int), .int .u64 (2 * i)] 39)).alloc (.cells #[.int .i64 (m : Int), .int .u64 (2 * i + 1)] 39))
                have HR6 := Lib.hid ((HR5.out.alloc (.cells #[.int .i64 (m : Int), .int .u64 (2 * i)] 39)).alloc (.cells #[.int .i64 (m : Int), .int .u64 (2 * i + 1)] 39))
                have hE6 : Ext w ((w5.alloc (.cells #[.int .i64 (m : Int), .int .u64 (2 * i)] 39)).alloc (.cells #[.int .i64 (m : Int), .int .u64 (2 * i + 1)] 39)) := (hE5.allocR _).allocR _
                have hs6 : ((w5.alloc (.cells #[.int .i64 (m : Int), .int .u64 (2 * i)] 39)).alloc (.cells #[.int .i64 (m : Int), .int .u64 (2 * i + 1)] 39)).heap.size = w5.heap.size + 2 := by simp only [size_alloc]
                have hlx : lx ≤ 20000 := by
                  have := hvN_len pt least (m + 1) pre
                  have := HTL.out
                  have := HLX.out
                  omega
                clear HO5 HX5 HR5
                go_wp2_with (at_builtin; (refine wpList_appK ((w5.alloc (.cells #[.int .i64 (m : Int), .int .u64 (2 * i)] 39)).alloc (.cells #[.int .i64 (m : Int), .int .u64 (2 * i + 1)] 39)) 2 16 2 (by decide) (by decide) [.int .i64 m, .int .u64 (2 * i), .int .i64 m, .int .u64 (2 * i + 1)] rfl (by simp [Value.oneCell']) _ _ _ b1 39 _ HX6.out 165 rfl _ _ rfl info_pc Tryz.underlying165 _ rfl (by rfl) (by rw [hs6]; rfl) ?b1 ?b2 ?_))
                case b1 => omega
                case b2 => omega
                intro v2 w6 g3 g4 _
                have ho6 := own_grownT (HO6.out.alloc _) (HX6.out.alloc _) (by decide) g4
                have hr6 := own_grownL (HR6.out.alloc _) (HX6.out.alloc _) HJL.out g4
                have hE7 : Ext w w6 := ext_grown hE6 g4 (fun j hj => Nat.le_trans HBW.out (own_geB HX6.out hj))
                have hs7 := g4.size
                rw [size_alloc] at hs7
                obtain ⟨px2, cx2, rfl⟩ := own_sl g3
                have HO7 := Lib.hid ho6
                have HR7 := Lib.hid hr6
                have G3 := Lib.hid g3
                clear ho6 hr6 g3 g4 HO6 HX6 HR6
                go_wp2
                go_roundw
                case rel => exact ⟨k + 1, by omega, by go_num, by rw [HTS.out]; exact HO7.out, by rw [HTS.out, hvN_snoc_yes (by omega), List.length_append, pcV_lvl_append, HLX.out]; exact G3.out, HR7.out, HJL.out, hE7, by omega⟩
                case measure => simp [intOf]; omega
              · rw [decide_eq_false hn0]
                obtain rfl : n = 0 := by omega
                go_wp2
                go_roundw
                case rel => exact ⟨k + 1, by omega, by go_num, by rw [HTS.out]; exact (HO5.out.alloc _).alloc _, by rw [HTS.out, show hvN pt least 0 (pre ++ [i]) = hvN pt least 0 pre from rfl, HLX.out]; exact (HX5.out.alloc _).alloc _, (HR5.out.alloc _).alloc _, HJL.out, (hE5.allocR _).allocR _, by simp only [size_alloc]; omega⟩
                case measure => simp [intOf]; omega
          · obtain rfl : k = row.length := by omega
            have htk : row.take row.length = row := List.take_length
            rw [htk] at hx ho ⊢
            generalize hlo : (out ++ hvF pt least n row).length = lo at *
            generalize hlx : (hvN pt least n row).length = lx at *
            have HLO := Lib.hid hlo
            have HLX := Lib.hid hlx
            clear hlo hlx
            have HX := Lib.hid hx
            have HO := Lib.hid ho
            clear hx ho hr htk
            go_wp2
            go_roundw
            case rel =>
              have h1 := hvF_len pt least n row
              have h2 := hvN_len pt least n row
              refine ⟨r + 1, n, asked + row.length, hvN pt least n row, out ++ hvF pt least n row, by omega, by go_num, rfl, by omega, by omega, by rw [List.length_append]; omega, by omega, ?_, HGO2.out, by rw [HLO.out]; exact HO.out, by rw [HLX.out]; exact own_bmono HX.out HBW.out, hEi⟩
              intro j hj
              match n, hj with
              | 0, hj => simp [hvN] at hj
              | n' + 1, hj =>
                obtain ⟨i, hi, _, h3⟩ := hvN_mem hj
                have h4 := HM.out i hi
                have h5 := keys_half (C := C) (m := n') (by have := HB.out; omega)
                show 0 ≤ j ∧ j < keys C (n' : Nat)
                rcases h3 with rfl | rfl <;> omega
            case measure => simp [intOf]; omega
    · obtain rfl : m = 0 := by omega
      have hres : heavyP pt least budget B = (out, 0) := by rw [HP.out, HGO.out]; rfl
      have HRES := Lib.hid hres
      clear hres
      go_wp2
      go_ret2
      refine ⟨.slice po out.length co, ?_, ?_, hE⟩
      · rw [HRES.out]; rfl
      · rw [HRES.out]; exact HO.out
end Go.Proofs.YtfhdjekpdifajaaGreat
namespace Go.Proofs.YtfhdjekpdifajaaGreat
set_option linter.unusedVariables false
open Go.RowKit
/-- One cell of a row is written. -/
theorem own_set {w : World} {base n size g cap : Nat} {e : TypeId} {xs : List Value} (h : w.ownsRow base e size (.slice (some ⟨g, 0, none⟩) n cap) n xs) (j : Nat) (hj : j < n * size) (u : Value) : (w.setCell ⟨g, j, none⟩ u).ownsRow base e size (.slice (some ⟨g, 0, none⟩) n cap) n (xs.set j u) := by
  obtain ⟨h1, h2⟩ := h
  refine ⟨by rw [List.length_set]; exact h1, ?_⟩
  rcases h2 with ⟨hv, _⟩ | ⟨g', cap', cur, hv, hb, hh, hc, hm, hs, ht⟩
  · cases hv
  · cases hv
    refine .inr ⟨g, cap, cur.setIfInBounds j u, rfl, hb, setCell_same hh j u, hc, hm, by rw [Array.size_setIfInBounds]; exact hs, ?_⟩
    rw [Array.toList_setIfInBounds, ← ht, List.take_set]
theorem own_setCells {base n size g cap : Nat} {e : TypeId} : ∀ (vs : List Value) (o : Nat) {w : World} {xs : List Value} (h : w.ownsRow base e size (.slice (some ⟨g, 0, none⟩) n cap) n xs) (hj : o + vs.length ≤ n * size), ∃ ys, (w.setCells g o vs).ownsRow base e size (.slice (some ⟨g, 0, none⟩) n cap) n ys ∧ ys.take o = xs.take o
  | [], o, w, xs, h, _ => ⟨xs, h, rfl⟩
  | v :: r, o, w, xs, h, hj => by
    rw [List.length_cons] at hj
    obtain ⟨ys, h1, h2⟩ := own_setCells r (o + 1) (own_set h o (by omega) v) (by omega)
    refine ⟨ys, h1, ?_⟩
    have h3 := congrArg (List.take o) h2
    rw [List.take_take, List.take_take, Nat.min_eq_left (by omega)] at h3
    rw [h3, List.take_set_of_le (Nat.le_refl o)]
theorem own_cut {w : World} {base n size g cap m : Nat} {e : TypeId} {xs : List Value} (h : w.ownsRow base e size (.slice (some ⟨g, 0, none⟩) n cap) n xs) (hm : m ≤ n) : w.ownsRow base e size (.slice (some ⟨g, 0, none⟩) m cap) m (xs.take (m * size)) := by
  obtain ⟨h1, h2⟩ := h
  have h3 : m * size ≤ n * size := Nat.mul_le_mul_right _ hm
  refine ⟨by rw [List.length_take]; omega, ?_⟩
  rcases h2 with ⟨hv, _⟩ | ⟨g', cap', cur, hv, hb, hh, hc, hmx, hs, ht⟩
  · cases hv
  · cases hv
    exact .inr ⟨g, cap, cur, rfl, hb, hh, by omega, hmx, hs, by rw [← ht, List.take_take, Nat.min_eq_left h3]⟩
theorem ext_setCells {w0 : World} {g : Nat} (hg : w0.heap.size ≤ g) : ∀ (vs : List Value) (o : Nat) {w : World}, Ext w0 w → Ext w0 (w.setCells g o vs)
  | [], _, _, h => h
  | v :: r, o, _, h => ext_setCells hg r (o + 1) (h.setR (p := ⟨g, o, none⟩) hg v)
/-- 'clear(s)', s some elements of k cells each. -/
theorem run_clear_k {P : Program} (w : World) (t e : TypeId) (z : Value) (ht : P.underlying t = some (.slice e)) (hv : ∀ w, (zeroValue e).run P w = .ok z w) (k : Nat) (hk : z.cells.size = k) (b o n c : Nat) (hn : 0 < n)
    (hc : ∀ j, j < n * k → (w.cell? ⟨b, o + j, none⟩).isSome = true) (hf : ∀ j, j < n * k → w.frozen? ⟨b, o + j, none⟩ = false) (h2 : ∀ v ∈ (Builtin.zeroCells z.cells n).toList, v.oneCell' = true) :
    ∃ vs, vs.length = n * k ∧ ∀ ty, (Builtin.clear_ #[t] ty #[.slice (some ⟨b, o, none⟩) n c]).run P w = .ok (.tuple #[]) (w.setCells b o vs) := by
  have hl : (Builtin.zeroCells z.cells n).toList.length = n * k := by simp [Builtin.zeroCells, hk]
  refine ⟨_, hl, fun ty => ?_⟩
  have hst := run_storeCells_cells (P := P) b o (Builtin.zeroCells z.cells n).toList 0 w (by rw [hl]; simpa using hc) (by rw [hl]; simpa using hf) h2
  simp only [Nat.add_zero] at hst
  obtain ⟨m, rfl⟩ : ∃ m, n = m + 1 := ⟨n - 1, by omega⟩
  simp [Builtin.clear_, run_underlying ht, hv, hst]
/-- The first one that is not of level 0. -/
def hiFrom : List Fd → Nat → Int
  | [], _ => -1
  | f :: r, k => if 0 < f.1 then k else hiFrom r (k + 1)
theorem hiFrom_spec : ∀ (l : List Fd) (k : Nat), (hiFrom l k = -1 ∧ ∀ f ∈ l, f.1 = 0) ∨ ∃ j f r, l = (l.take j) ++ f :: r ∧ j < l.length ∧ hiFrom l k = ((k + j : Nat) : Int) ∧ 0 < f.1 ∧ ∀ f ∈ l.take j, f.1 = 0
  | [], _ => .inl ⟨rfl, by simp⟩
  | f :: r, k => by
    by_cases h : 0 < f.1
    · exact .inr ⟨0, f, r, rfl, by simp, by simp [hiFrom, h], h, by simp⟩
    · have h0 : f.1 = 0 := by omega
      have e : hiFrom (f :: r) k = hiFrom r (k + 1) := by show (if _ then _ else _) = _; rw [if_neg h]
      rcases hiFrom_spec r (k + 1) with ⟨h1, h2⟩ | ⟨j, f', r', h1, h2, h3, h4, h5⟩
      · refine .inl ⟨by rw [e, h1], fun x hx => ?_⟩
        rcases List.mem_cons.1 hx with rfl | hx
        · exact h0
        · exact h2 x hx
      · refine .inr ⟨j + 1, f', r', ?_, by rw [List.length_cons]; omega, by rw [e, h3]; congr 1; omega, h4, fun x hx => ?_⟩
        · rw [List.take_succ_cons, List.cons_append, ← h1]
        · rw [List.take_succ_cons] at hx
          rcases List.mem_cons.1 hx with rfl | hx
          · exact h0
          · exact h5 x hx
theorem hiFrom_step {D : List Fd} {k : Nat} (h : k < D.length) : hiFrom (D.drop k) k = if 0 < D[k].1 then (k : Int) else hiFrom (D.drop (k + 1)) (k + 1) := by
  rw [List.drop_eq_getElem_cons h]; rfl
theorem fdV_getAt {D : List Fd} {k : Nat} (h : k < D.length) : (fdV D)[k * 3]? = some (.int .i64 (D[k].1 : Int)) ∧ (fdV D)[k * 3 + 1]? = some (.int .u64 D[k].2.1) ∧ (fdV D)[k * 3 + 2]? = some (.int .i64 D[k].2.2) := by
  have h1 := fdV_at h
  rw [show D.getD k (0, 0, 0) = D[k] by simp [List.getD, h]] at h1
  exact h1
theorem fdV_set {D : List Fd} : ∀ {i : Nat} (h : i < D.length) (f : Fd), fdV (D.set i f) = (((fdV D).set (i * 3) (.int .i64 (f.1 : Int))).set (i * 3 + 1) (.int .u64 f.2.1)).set (i * 3 + 2) (.int .i64 f.2.2) := by
  induction D with
  | nil => intro i h; simp at h
  | cons u D ih =>
    intro i h f
    have e : fdV (u :: D) = .int .i64 (u.1 : Int) :: .int .u64 u.2.1 :: .int .i64 u.2.2 :: fdV D := rfl
    rw [e]
    cases i with
    | zero => rfl
    | succ i =>
      have := ih (i := i) (by simpa using h) f
      rw [show (i + 1) * 3 = i * 3 + 1 + 1 + 1 by omega, List.set_cons_succ]
      have e2 : fdV (u :: D.set i f) = .int .i64 (u.1 : Int) :: .int .u64 u.2.1 :: .int .i64 u.2.2 :: fdV (D.set i f) := rfl
      rw [e2, this]
      simp only [List.set_cons_succ]
theorem fdV_take (D : List Fd) : ∀ (i : Nat), (fdV D).take (i * 3) = fdV (D.take i) := by
  induction D with
  | nil => intro i; simp [fdV]
  | cons u D ih =>
    intro i
    have e : fdV (u :: D) = .int .i64 (u.1 : Int) :: .int .u64 u.2.1 :: .int .i64 u.2.2 :: fdV D := rfl
    cases i with
    | zero => simp [fdV]
    | succ i =>
      rw [e, show (i + 1) * 3 = i * 3 + 1 + 1 + 1 by omega, List.take_succ_cons, List.take_succ_cons, List.take_succ_cons, ih i]
      rfl
set_option maxRecDepth 20000 in
set_option maxHeartbeats 2000000 in
theorem TopLv_c (lv i n : Int) (w : World) :
    Calls Tryz.prog 135 #[.agg #[.int .i64 lv, .int .u64 i, .int .i64 n]] w fun e w' => e = .returned (.bool (decide (0 < lv))) ∧ Ext w w' := by
  go_enter Tryz.func135, Tryz.ntmps135
  go_wp2
  go_ret
  exact ⟨rfl, Ext.alloc' _ _⟩
set_option maxRecDepth 20000 in
set_option maxHeartbeats 4000000 in
theorem IndexHi_c (base : Nat) (p : Option Addr) (cap : Nat) (D : List Fd) (w : World) (h : w.ownsRow base 130 3 (.slice p D.length cap) D.length (fdV D)) (hl : D.length ≤ 100000) :
    Calls Tryz.prog 181 #[.slice p D.length cap, .func (.func 135) #[] #[]] w fun e w' => e = .returned (.int .i64 (hiFrom D 0)) ∧ Ext w w' := by
  have HH := Lib.hid h
  clear h
  generalize hn : D.length = n at *
  have HN := Lib.hid hn
  clear hn
  go_enter Tryz.func181, Tryz.ntmps181
  go_wp2_with fail
  go_loopw [8] (fun u8 wr => ∃ k, k ≤ n ∧ u8 = .int .i64 k ∧ hiFrom D 0 = hiFrom (D.drop k) k ∧ Ext w wr) (fun u8 _ => n - (intOf u8).toNat)
  case atStart => exact ⟨0, Nat.zero_le _, rfl, rfl, Ext.refl _⟩
  case round =>
    obtain ⟨k, hk, rfl, hf, hE⟩ := hrel
    by_cases hlt : k < n
    · have hkl : k < D.length := by rw [HN.out]; exact hlt
      obtain ⟨g, cap', hv, hb, hg, hcell⟩ := own_row_cells (own_ext HH.out hE) (by omega)
      cases hv
      have hcs := fdV_getAt hkl
      have c0 := (hcell (k * 3) (by omega)).trans hcs.1
      have c1 := (hcell (k * 3 + 1) (by omega)).trans hcs.2.1
      have c2 := (hcell (k * 3 + 2) (by omega)).trans hcs.2.2
      rw [hiFrom_step hkl] at hf
      have HF := Lib.hid hf
      clear hf hcell hcs
      generalize D[k] = f at *
      obtain ⟨lv, i, x⟩ := f
      dsimp only at c0 c1 c2 HF
      go_wp2_with fail
      refine Calls.mono (TopLv_c lv i x _) ?_
      rintro e w2 ⟨rfl, hx2⟩
      have hE2 := hE.trans' hx2
      by_cases hp : 0 < lv
      · rw [decide_eq_true (by omega)]
        have hf := HF.out
        rw [if_pos hp] at hf
        have HF2 := Lib.hid hf
        clear hf c0 c1 c2
        go_wp2
        go_ret
        exact ⟨by rw [HF2.out]; rfl, hE2⟩
      · rw [decide_eq_false (by omega)]
        have hf := HF.out
        rw [if_neg hp] at hf
        have HF2 := Lib.hid hf
        clear hf c0 c1 c2
        go_wp2
        go_roundw
        case rel => exact ⟨k + 1, by omega, by go_num, HF2.out, hE2⟩
        case measure => simp [intOf]; omega
    · obtain rfl : k = n := by omega
      have hf2 : hiFrom D 0 = -1 := by rw [hf, List.drop_of_length_le (by rw [HN.out]; exact Nat.le_refl _)]; rfl
      have HF2 := Lib.hid hf2
      clear hf hf2
      go_wp2
      go_ret
      exact ⟨by rw [HF2.out]; rfl, hE⟩
theorem take_snocG {α : Type} {row : List α} {k : Nat} (h : k < row.length) : row.take (k + 1) = row.take k ++ [row[k]] := by
  rw [List.take_add_one, List.getElem?_eq_getElem h]; rfl
def keepD (D : List Fd) : List Fd := D.filter fun f => decide (f.1 = 0)
theorem keepD_append (a b : List Fd) : keepD (a ++ b) = keepD a ++ keepD b := List.filter_append _ _
theorem keepD_all {D : List Fd} (h : ∀ f ∈ D, f.1 = 0) : keepD D = D := List.filter_eq_self.2 fun f hf => by simpa using h f hf
theorem zero_fd (n : Nat) : ∀ v ∈ (Builtin.zeroCells (Value.agg #[.int .i64 0, .int .u64 0, .int .i64 0]).cells n).toList, v.oneCell' = true := by
  intro v hv
  simp only [Builtin.zeroCells, Value.cells, Array.toList_map, List.mem_map] at hv
  obtain ⟨i, _, rfl⟩ := hv
  have h3 : i % 3 < 3 := Nat.mod_lt _ (by decide)
  show ((#[Value.int .i64 0, .int .u64 0, .int .i64 0] : Array Value)[i % 3]!).oneCell' = true
  generalize i % 3 = j at *
  match j, h3 with
  | 0, _ => rfl
  | 1, _ => rfl
  | 2, _ => rfl
def DelPost (w : World) (base : Nat) (D : List Fd) (e : Ending) (w' : World) : Prop :=
  ∃ p' cap', e = .returned (.slice p' (keepD D).length cap') ∧ w'.ownsRow base 130 3 (.slice p' (keepD D).length cap') (keepD D).length (fdV (keepD D)) ∧ ∀ w0 : World, Ext w0 w → w0.heap.size ≤ base → Ext w0 w'
set_option maxRecDepth 20000 in
set_option maxHeartbeats 8000000 in
theorem Delete_c (base : Nat) (p : Option Addr) (cap : Nat) (D : List Fd) (w : World) (h : w.ownsRow base 130 3 (.slice p D.length cap) D.length (fdV D)) (hl : D.length ≤ 100000) :
    Calls Tryz.prog 134 #[.slice p D.length cap, .func (.func 135) #[] #[]] w (DelPost w base D) := by
  have HI := Lib.hid (IndexHi_c base p cap D w h hl)
  have HH := Lib.hid h
  have hsp := hiFrom_spec D 0
  clear h
  rcases hsp with ⟨h1, h2⟩ | ⟨j, f, r, h1, h2, h3, h4, h5⟩
  · have hk := keepD_all h2
    have HK := Lib.hid hk
    rw [h1] at HI
    clear hk h1 h2
    generalize hn : D.length = n at *
    have HN := Lib.hid hn
    clear hn
    go_enter Tryz.func134, Tryz.ntmps134
    go_wp2_with fail
    refine Calls.mono HI.out ?_
    rintro e w1 ⟨rfl, hx1⟩
    go_wp2
    go_ret
    refine ⟨p, cap, ?_, ?_, fun w0 h0 _ => h0.trans' hx1⟩
    · rw [HK.out, HN.out]; rfl
    · rw [HK.out, HN.out]; exact own_ext HH.out hx1
  · rw [h3, Nat.zero_add] at HI
    have hst : D.take j = keepD (D.take (j + 1)) := by
      have h6 : D.take (j + 1) = D.take j ++ [f] := by
        conv => lhs; rw [h1]
        rw [List.take_append, List.length_take, Nat.min_eq_left (by omega), List.take_of_length_le (by rw [List.length_take]; omega), show j + 1 - j = 1 by omega]
        rfl
      rw [h6, keepD_append, keepD_all h5]
      have : keepD [f] = [] := by unfold keepD; simp; omega
      rw [this, List.append_nil]
    have HST := Lib.hid hst
    clear hst h1 h3 h4 h5
    generalize hn : D.length = n at *
    have HN := Lib.hid hn
    obtain ⟨g, cap', hv, hb, hg, _⟩ := own_row_cells HH.out (by omega)
    cases hv
    clear hn
    have hne1 : ((j : Int) == -1) = false := beq_eq_false_iff_ne.2 (by omega)
    go_enter Tryz.func134, Tryz.ntmps134
    go_wp2_with fail
    refine Calls.mono HI.out ?_
    rintro e w1 ⟨rfl, hx1⟩
    have HX1 := Lib.hid hx1
    have HO1 := Lib.hid (own_ext HH.out hx1)
    clear hx1 HH HI
    go_wp2_with fail
    go_loopw [5, 6, 7] (fun u5 u6 _ wr => ∃ (i jj : Nat) (E : List Fd), i < jj ∧ jj ≤ n ∧ u5 = .int .i64 i ∧ u6 = .int .i64 jj ∧ E.length = n ∧ E.take i = keepD (D.take jj) ∧ E.drop jj = D.drop jj ∧ wr.ownsRow base 130 3 (.slice (some ⟨g, 0, none⟩) n cap) n (fdV E) ∧ ∀ w0 : World, Ext w0 w → w0.heap.size ≤ base → Ext w0 wr) (fun _ u6 _ _ => n - (intOf u6).toNat)
    case atStart => exact ⟨j, j + 1, D, by omega, by omega, rfl, by go_num, HN.out, HST.out, rfl, HO1.out, fun w0 h0 _ => h0.trans' HX1.out⟩
    case round =>
      clear HX1 HO1 HST
      obtain ⟨i, jj, E, hij, hjn, rfl, rfl, hEl, hEt, hEd, hown, hext⟩ := hrel
      have HEX := Lib.hid hext
      have HOWN := Lib.hid hown
      have HET := Lib.hid hEt
      have HED := Lib.hid hEd
      have HEL := Lib.hid hEl
      clear hown hEt hEd hEl hext
      by_cases hlt : jj < n
      · have hjE : jj < E.length := by rw [HEL.out]; exact hlt
        obtain ⟨g', cap2, hv, _, hg', hcell⟩ := own_row_cells HOWN.out (by omega)
        cases hv
        have hcs := fdV_getAt hjE
        have c0 := (hcell (jj * 3) (by omega)).trans hcs.1
        have c1 := (hcell (jj * 3 + 1) (by omega)).trans hcs.2.1
        have c2 := (hcell (jj * 3 + 2) (by omega)).trans hcs.2.2
        have hts : D.take (jj + 1) = D.take jj ++ [E[jj]] := by
          have h1 : jj < D.length := by rw [HN.out]; exact hlt
          have h2 : D[jj] = E[jj] := by
            have := HED.out
            rw [List.drop_eq_getElem_cons hjE, List.drop_eq_getElem_cons h1] at this
            exact (List.cons.inj this).1.symm
          rw [take_snocG h1, h2]
        have HTS := Lib.hid hts
        have HJE := Lib.hid hjE
        clear hts hcs hcell
        generalize E[jj] = f at *
        obtain ⟨lv, ix, x⟩ := f
        dsimp only at c0 c1 c2
        go_wp2_with fail
        refine Calls.mono (TopLv_c lv ix x _) ?_
        rintro e w3 ⟨rfl, hx3⟩
        have hb7 : w3.heap[wr.heap.size]? = some (.cells #[.int .i64 (lv : Int), .int .u64 ix, .int .i64 x] 130 (0, 0)) := hx3.keep (heap_at _ _ rfl)
        have ho3 := own_ext (HOWN.out.alloc (.cells #[.int .i64 (lv : Int), .int .u64 ix, .int .i64 x] 130)) hx3
        have hE3 : ∀ w0 : World, Ext w0 w → w0.heap.size ≤ base → Ext w0 w3 := fun w0 h0 hb0 => ((HEX.out w0 h0 hb0).allocR _).trans' hx3
        have HO3 := Lib.hid ho3
        have HE3 := Lib.hid hE3
        have hEd2 : E.drop (jj + 1) = D.drop (jj + 1) := by
          have := congrArg (List.drop 1) HED.out
          rw [List.drop_drop, List.drop_drop] at this
          exact this
        have HED2 := Lib.hid hEd2
        clear hx3 ho3 hE3 hEd2 c0 c1 c2
        by_cases hp : 0 < lv
        · have hk : keepD (D.take (jj + 1)) = keepD (D.take jj) := by
            rw [HTS.out, keepD_append]
            have : keepD [(lv, ix, x)] = [] := by unfold keepD; simp; omega
            rw [this, List.append_nil]
          have HK := Lib.hid hk
          rw [decide_eq_true (show (0 : Int) < (lv : Int) by omega)]
          clear hk hb7
          go_wp2
          go_roundw
          case rel => exact ⟨i, jj + 1, E, by omega, by omega, rfl, by go_num, HEL.out, by rw [HK.out]; exact HET.out, HED2.out, HO3.out, HE3.out⟩
          case measure => simp [intOf]; omega
        · obtain rfl : lv = 0 := by omega
          have hk : keepD (D.take (jj + 1)) = keepD (D.take jj) ++ [(0, ix, x)] := by
            rw [HTS.out, keepD_append]; rfl
          have HK := Lib.hid hk
          rw [decide_eq_false (show ¬ (0 : Int) < ((0 : Nat) : Int) by decide)]
          have b0 := (cell_of hb7 0).trans rfl
          have b1 := (cell_of hb7 1).trans rfl
          have b2 := (cell_of hb7 2).trans rfl
          have bl := lt_of hb7
          have hne : wr.heap.size ≠ g := by omega
          obtain ⟨gg, cc, cur, hv2, _, hh, hcc, _, hcs, _⟩ := HO3.out.2.resolve_left (fun h => by cases h.1)
          cases hv2
          have r0 := cell_of hh (i * 3)
          have r1 := cell_of hh (i * 3 + 1)
          have r2 := cell_of hh (i * 3 + 2)
          rw [Array.getElem?_eq_getElem (by omega)] at r0 r1 r2
          have f0 := frozen_of hh (i * 3)
          have f1 := frozen_of hh (i * 3 + 1)
          have f2 := frozen_of hh (i * 3 + 2)
          have rl := lt_of hh
          clear hk hb7 hh
          generalize cur[i * 3] = q0 at r0
          generalize cur[i * 3 + 1] = q1 at r1
          generalize cur[i * 3 + 2] = q2 at r2
          go_wp2
          go_roundw
          case rel =>
            refine ⟨i + 1, jj + 1, E.set i (0, ix, x), by omega, by omega, by go_num, by go_num, by rw [List.length_set]; exact HEL.out, ?_, ?_, ?_, ?_⟩
            · rw [HK.out, ← HET.out, take_snocG (row := E.set i (0, ix, x)) (k := i) (by rw [List.length_set]; have := HEL.out; omega), List.take_set_of_le (Nat.le_refl _), List.getElem_set_self]
            · rw [List.drop_set_of_lt (by omega)]; exact HED2.out
            · rw [fdV_set (by have := HEL.out; omega)]
              exact own_set (own_set (own_set HO3.out (i * 3) (by omega) _) (i * 3 + 1) (by omega) _) (i * 3 + 2) (by omega) _
            · intro w0 h0 hb0
              have hgb : w0.heap.size ≤ g := by omega
              exact (((HE3.out w0 h0 hb0).setR (p := ⟨g, i * 3, none⟩) hgb _).setR (p := ⟨g, i * 3 + 1, none⟩) hgb _).setR (p := ⟨g, i * 3 + 2, none⟩) hgb _
          case measure => simp [intOf]; omega
      · obtain rfl : jj = n := by omega
        have hil : i < jj := hij
        obtain ⟨gg, cc, cur, hv2, _, hh, hcc, _, hcs, _⟩ := HOWN.out.2.resolve_left (fun h => by cases h.1)
        cases hv2
        have hz : ∀ W, (zeroValue 130).run Tryz.prog W = .ok (.agg #[.int .i64 0, .int .u64 0, .int .i64 0]) W := fun W => by kernel_rfl
        obtain ⟨vs, hvl, hcl⟩ := run_clear_k (P := Tryz.prog) wr 122 130 _ Tryz.underlying122 hz 3 rfl g (i * 3) (jj - i) (cap - i) (by omega) (fun j hj => by rw [cell_of hh, Array.getElem?_eq_getElem (by omega)]; rfl) (fun j hj => frozen_of hh _) (zero_fd _)
        clear hz hh
        have hfin : keepD D = E.take i := by rw [HET.out, List.take_of_length_le (by rw [HN.out]; exact Nat.le_refl _)]
        have HFIN := Lib.hid hfin
        have HVL := Lib.hid hvl
        clear hfin hvl
        go_wp2
        go_ret
        have hlen : (keepD D).length = i := by rw [HFIN.out, List.length_take, HEL.out]; omega
        obtain ⟨ys, hy1, hy2⟩ := own_setCells vs (i * 3) HOWN.out (by rw [HVL.out]; omega)
        have hcut := own_cut hy1 (show i ≤ jj by omega)
        rw [hy2, fdV_take, ← HFIN.out] at hcut
        refine ⟨some ⟨g, 0, none⟩, cap, ?_, ?_, ?_⟩
        · rw [hlen]; rfl
        · rw [hlen]; exact hcut
        · intro w0 h0 hb0
          exact ext_setCells (by omega) vs (i * 3) (HEX.out w0 h0 hb0)
end Go.Proofs.YtfhdjekpdifajaaGreat
namespace Go.Proofs.YtfhdjekpdifajaaGreat
set_option linter.unusedVariables false
open Go.RowKit
def cmpI (x y : Int) : Int := if x < y then -1 else if y < x then 1 else 0
set_option maxRecDepth 20000 in
set_option maxHeartbeats 2000000 in
theorem CompareI_c (x y : Int) (w : World) : Calls Tryz.prog 139 #[.int .i64 x, .int .i64 y] w fun e w' => e = .returned (.int .i64 (cmpI x y)) ∧ w' = w := by
  by_cases h1 : x < y
  · go_enter Tryz.func139, Tryz.ntmps139
    go_wp2
    go_ret
    exact ⟨by rw [cmpI, if_pos h1]; rfl, rfl⟩
  · by_cases h2 : y < x
    · go_enter Tryz.func139, Tryz.ntmps139
      go_wp2
      go_ret
      exact ⟨by rw [cmpI, if_neg (by omega), if_pos h2]; rfl, rfl⟩
    · go_enter Tryz.func139, Tryz.ntmps139
      go_wp2
      go_ret
      exact ⟨by rw [cmpI, if_neg (by omega), if_neg (by omega)]; rfl, rfl⟩
set_option maxRecDepth 20000 in
set_option maxHeartbeats 2000000 in
theorem CompareU_c (x y : Int) (w : World) : Calls Tryz.prog 140 #[.int .u64 x, .int .u64 y] w fun e w' => e = .returned (.int .i64 (cmpI x y)) ∧ w' = w := by
  by_cases h1 : x < y
  · go_enter Tryz.func140, Tryz.ntmps140
    go_wp2
    go_ret
    exact ⟨by rw [cmpI, if_pos h1]; rfl, rfl⟩
  · by_cases h2 : y < x
    · go_enter Tryz.func140, Tryz.ntmps140
      go_wp2
      go_ret
      exact ⟨by rw [cmpI, if_neg (by omega), if_pos h2]; rfl, rfl⟩
    · go_enter Tryz.func140, Tryz.ntmps140
      go_wp2
      go_ret
      exact ⟨by rw [cmpI, if_neg (by omega), if_neg (by omega)]; rfl, rfl⟩
set_option maxRecDepth 20000 in
set_option maxHeartbeats 2000000 in
theorem Or2_c (g : Nat) (a b : Int) (w : World) (hg : g < w.heap.size) (c0 : w.cell? ⟨g, 0, none⟩ = some (.int .i64 a)) (c1 : w.cell? ⟨g, 1, none⟩ = some (.int .i64 b)) :
    Calls Tryz.prog 138 #[.slice (some ⟨g, 0, none⟩) 2 2] w fun e w' => e = .returned (.int .i64 (if a = 0 then b else a)) ∧ Ext w w' := by
  by_cases ha : a = 0
  · subst ha
    rw [if_pos rfl]
    by_cases hb : b = 0
    · subst hb
      go_enter Tryz.func138, Tryz.ntmps138
      go_wp2_with fail
      go_loopw [8] (fun u8 wr => ∃ k : Nat, k ≤ 2 ∧ u8 = .int .i64 k ∧ wr = w) (fun u8 _ => 2 - (intOf u8).toNat)
      case atStart => exact ⟨0, by omega, rfl, by trivial⟩
      case round =>
        obtain ⟨k, hk, rfl, rfl⟩ := hrel
        match k, hk with
        | 0, _ =>
          go_wp2
          go_roundw
          case rel => exact ⟨1, by omega, rfl, by trivial⟩
          case measure => simp [intOf]
        | 1, _ =>
          go_wp2
          go_roundw
          case rel => exact ⟨2, by omega, rfl, by trivial⟩
          case measure => simp [intOf]
        | 2, _ =>
          go_wp2
          go_ret
          exact ⟨rfl, Ext.refl _⟩
    · have hb0 : (b == 0) = false := beq_eq_false_iff_ne.2 hb
      go_enter Tryz.func138, Tryz.ntmps138
      go_wp2_with fail
      go_loopw [8] (fun u8 wr => ∃ k : Nat, k ≤ 1 ∧ u8 = .int .i64 k ∧ wr = w) (fun u8 _ => 2 - (intOf u8).toNat)
      case atStart => exact ⟨0, by omega, rfl, by trivial⟩
      case round =>
        obtain ⟨k, hk, rfl, rfl⟩ := hrel
        match k, hk with
        | 0, _ =>
          go_wp2
          go_roundw
          case rel => exact ⟨1, by omega, rfl, by trivial⟩
          case measure => simp [intOf]
        | 1, _ =>
          go_wp2
          go_ret
          exact ⟨rfl, Ext.refl _⟩
  · have ha0 : (a == 0) = false := beq_eq_false_iff_ne.2 ha
    rw [if_neg ha]
    go_enter Tryz.func138, Tryz.ntmps138
    go_wp2_with fail
    go_loopw [8] (fun u8 wr => ∃ k : Nat, k ≤ 0 ∧ u8 = .int .i64 k ∧ wr = w) (fun u8 _ => 2 - (intOf u8).toNat)
    case atStart => exact ⟨0, by omega, rfl, by trivial⟩
    case round =>
      obtain ⟨k, hk, rfl, rfl⟩ := hrel
      match k, hk with
      | 0, _ =>
        go_wp2
        go_ret
        exact ⟨rfl, Ext.refl _⟩
/-- What the order says of two: numbers i, j; m, n what is told of them. -/
def cmpV (i m j n : Int) : Int := if cmpI n m = 0 then cmpI i j else cmpI n m
theorem OrCmp_c (g : Nat) (i m j n : Int) (w : World) (hg : g < w.heap.size) (c0 : w.cell? ⟨g, 0, none⟩ = some (.int .i64 (cmpI n m))) (c1 : w.cell? ⟨g, 1, none⟩ = some (.int .i64 (cmpI i j))) :
    Calls Tryz.prog 138 #[.slice (some ⟨g, 0, none⟩) 2 2] w fun e w' => e = .returned (.int .i64 (cmpV i m j n)) ∧ Ext w w' :=
  Or2_c g _ _ w hg c0 c1
set_option maxRecDepth 20000 in
set_option maxHeartbeats 4000000 in
theorem TopCmp_c (la i m lb j n : Int) (w : World) :
    Calls Tryz.prog 137 #[.agg #[.int .i64 la, .int .u64 i, .int .i64 m], .agg #[.int .i64 lb, .int .u64 j, .int .i64 n]] w fun e w' => e = .returned (.int .i64 (cmpV i m j n)) ∧ Ext w w' := by
  go_enter Tryz.func137, Tryz.ntmps137
  go_wp2
  obtain ⟨W, hW⟩ : ∃ W, (w.alloc (.cells #[.int .i64 la, .int .u64 i, .int .i64 m] 130)).alloc (.cells #[.int .i64 lb, .int .u64 j, .int .i64 n] 130) = W := ⟨_, rfl⟩
  have hE : Ext w W := by rw [← hW]; exact (Ext.alloc' _ _).allocR _
  have ha : W.heap[w.heap.size]? = some (.cells #[.int .i64 la, .int .u64 i, .int .i64 m] 130 (0, 0)) := by
    rw [← hW, heap_old _ _ (by rw [size_alloc]; omega)]; exact heap_at _ _ rfl
  have hb : W.heap[w.heap.size + 1]? = some (.cells #[.int .i64 lb, .int .u64 j, .int .i64 n] 130 (0, 0)) := by
    rw [← hW]; exact heap_at _ _ (by rw [size_alloc])
  rw [hW]
  clear hW
  have a1 := (cell_of ha 1).trans rfl
  have a2 := (cell_of ha 2).trans rfl
  have b1 := (cell_of hb 1).trans rfl
  have b2 := (cell_of hb 2).trans rfl
  have al := lt_of ha
  have bl := lt_of hb
  have hC0 := af_drew W
  clear ha hb
  refine pi_start (fun w' => ∃ x : After W, w' = x.w) [] (by kernel_rfl) ?_
  refine pi_t 0 rfl (by kernel_rfl) (by kernel_rfl) (fun _ _ _ _ h => h) (fun K hK => ?_)
  go_big_quiet_op
  refine hK _ ?_
  clear hK K
  refine pi_t 2 rfl (by kernel_rfl) (by kernel_rfl) (fun _ _ _ _ h => h) (fun K hK => ?_)
  go_big_quiet_op
  refine hK _ ?_
  clear hK K
  refine pi_t 5 rfl (by kernel_rfl) (by kernel_rfl) (fun _ _ _ _ h => h) (fun K hK => ?_)
  go_big_quiet_op
  refine hK _ ?_
  clear hK K
  refine pi_t 6 rfl (by kernel_rfl) (by kernel_rfl) (fun _ _ _ _ h => h) (fun K hK => ?_)
  go_big_quiet_op
  refine hK _ ?_
  clear hK K
  refine pi_t 8 rfl (by kernel_rfl) (by kernel_rfl) (fun _ _ _ _ h => h) (fun K hK => ?_)
  go_big_quiet_op
  refine hK _ ?_
  clear hK K
  refine pi_t 9 rfl (by kernel_rfl) (by kernel_rfl) (fun _ _ _ _ h => h) (fun K hK => ?_)
  go_big_quiet_op
  refine hK _ ?_
  clear hK K
  refine pi_c 1 (by assumption) rfl (by kernel_rfl) (by kernel_rfl) (fun _ _ _ _ h => h) (fun K hK => ?_)
  go_big_quiet_op
  refine hK _ ?_
  clear hK K
  refine pi_c 3 (by assumption) rfl (by kernel_rfl) (by kernel_rfl) (fun _ _ _ _ h => h) (fun K hK => ?_)
  go_big_quiet_op
  refine hK _ ?_
  clear hK K
  refine pi_c 7 (by assumption) rfl (by kernel_rfl) (by kernel_rfl) (fun _ _ _ _ h => h) (fun K hK => ?_)
  go_big_quiet_op
  refine hK _ ?_
  clear hK K
  refine pi_c 10 (by assumption) rfl (by kernel_rfl) (by kernel_rfl) (fun _ _ _ _ h => h) (fun K hK => ?_)
  go_big_quiet_op
  refine hK _ ?_
  clear hK K
  refine pi_l 4 rfl (by kernel_rfl) (fun K hK => ?_)
  go_wp2_with (go_at_call 139; refine (CompareI_c n m _).mono ?_; rintro e w1 ⟨rfl, rfl⟩)
  refine hK _ _ (fun _ h => h) ?_
  clear hK K
  refine pi_l 11 rfl (by kernel_rfl) (fun K hK => ?_)
  go_wp2_with (go_at_call 140; refine (CompareU_c i j _).mono ?_; rintro e w1 ⟨rfl, rfl⟩)
  refine hK _ _ (fun _ h => h) ?_
  clear hK K
  refine pi_l 12 rfl (by kernel_rfl) (fun K hK => ?_)
  go_wp2
  refine hK _ _ (fun _ h => af_step h (Ext.alloc' _ _)) ?_
  clear hK K
  refine pi_l 13 rfl (by kernel_rfl) (fun K hK => ?_)
  go_wp2_with (go_at_call 138; refine (OrCmp_c W.heap.size i m j n _ (by simp) (by simp) (by simp)).mono ?_; rintro e w1 ⟨rfl, hx1⟩)
  refine hK _ _ (fun _ h => af_step h hx1) ?_
  clear hK K
  refine pi_t 14 rfl (by kernel_rfl) (by kernel_rfl) (fun _ _ _ _ h => h) (fun K hK => ?_)
  go_big_quiet_op
  refine hK _ ?_
  clear hK K
  refine pi_end (by kernel_rfl) ?_
  go_wp2
  go_ret
  exact ⟨rfl, by (repeat' (first | exact Ext.refl _ | assumption | apply Ext.allocR | apply Ext.drewR | apply Ext.drewNR | (refine Ext.trans' ?_ (by assumption))))⟩
end Go.Proofs.YtfhdjekpdifajaaGreat
namespace Go.Proofs.YtfhdjekpdifajaaGreat
set_option linter.unusedVariables false
open Go.RowKit
/-- Comes one ahead of the other? -/
def ltC (x y : Fd) : Bool := decide (cmpV x.2.1 x.2.2 y.2.1 y.2.2 < 0)
/-- A row of the call's own, as it stands; whatever lay ahead of its base lies as it was. -/
structure RowD (base g cap : Nat) (w0 w : World) (d : Array Fd) : Prop where
  own : w.ownsRow base 130 3 (.slice (some ⟨g, 0, none⟩) d.size cap) d.size (fdV d.toList)
  ext : ∀ v : World, Ext v w0 → v.heap.size ≤ base → Ext v w
theorem RowD.step {base g cap : Nat} {w0 w w' : World} {d : Array Fd} (h : RowD base g cap w0 w d) (hE : Ext w w') : RowD base g cap w0 w' d :=
  ⟨own_ext h.own hE, fun v h1 h2 => (h.ext v h1 h2).trans' hE⟩
theorem RowD.blk {base g cap : Nat} {w0 w : World} {d : Array Fd} (h : RowD base g cap w0 w d) : ∃ cur, w.heap[g]? = some (.cells cur 130 (0, 0)) ∧ cur.size = cap * 3 ∧ d.size ≤ cap ∧ base ≤ g := by
  obtain ⟨gg, cc, cur, hv, hb, hh, hcc, _, hcs, _⟩ := h.own.2.resolve_left (fun h => by cases h.1)
  cases hv
  exact ⟨cur, hh, hcs, hcc, hb⟩
theorem RowD.cells {base g cap : Nat} {w0 w : World} {d : Array Fd} (h : RowD base g cap w0 w d) {k : Nat} (hk : k < d.size) :
    w.cell? ⟨g, k * 3, none⟩ = some (.int .i64 (d[k]!.1 : Int)) ∧ w.cell? ⟨g, k * 3 + 1, none⟩ = some (.int .u64 d[k]!.2.1) ∧ w.cell? ⟨g, k * 3 + 2, none⟩ = some (.int .i64 d[k]!.2.2) := by
  obtain ⟨g', cap2, hv, _, hg', hcell⟩ := own_row_cells h.own (by omega)
  cases hv
  have hcs := fdV_getAt (D := d.toList) (k := k) (by rw [Array.length_toList]; exact hk)
  rw [Array.getElem_toList, ← getElem!_pos d k hk] at hcs
  exact ⟨(hcell (k * 3) (by omega)).trans hcs.1, (hcell (k * 3 + 1) (by omega)).trans hcs.2.1, (hcell (k * 3 + 2) (by omega)).trans hcs.2.2⟩
theorem RowD.put {base g cap : Nat} {w0 w : World} {d : Array Fd} (h : RowD base g cap w0 w d) {i : Nat} (hi : i < d.size) (f : Fd) :
    RowD base g cap w0 (((w.setCell ⟨g, i * 3, none⟩ (.int .i64 (f.1 : Int))).setCell ⟨g, i * 3 + 1, none⟩ (.int .u64 f.2.1)).setCell ⟨g, i * 3 + 2, none⟩ (.int .i64 f.2.2)) (d.setIfInBounds i f) := by
  obtain ⟨_, _, _, _, hb⟩ := h.blk
  refine ⟨?_, fun v h1 h2 => (((h.ext v h1 h2).setR (p := ⟨g, i * 3, none⟩) (by show _ ≤ g; omega) _).setR (p := ⟨g, i * 3 + 1, none⟩) (by show _ ≤ g; omega) _).setR (p := ⟨g, i * 3 + 2, none⟩) (by show _ ≤ g; omega) _⟩
  rw [Array.size_setIfInBounds, Array.toList_setIfInBounds, fdV_set (by rw [Array.length_toList]; exact hi)]
  exact own_set (own_set (own_set h.own (i * 3) (by omega) _) (i * 3 + 1) (by omega) _) (i * 3 + 2) (by omega) _
theorem RowD.some {base g cap : Nat} {w0 w : World} {d : Array Fd} (h : RowD base g cap w0 w d) {k : Nat} (hk : k < d.size) :
    w.frozen? ⟨g, k * 3, none⟩ = false ∧ w.frozen? ⟨g, k * 3 + 1, none⟩ = false ∧ w.frozen? ⟨g, k * 3 + 2, none⟩ = false ∧ g < w.heap.size := by
  obtain ⟨cur, hh, _, _, _⟩ := h.blk
  exact ⟨frozen_of hh _, frozen_of hh _, frozen_of hh _, lt_of hh⟩
section
open Go.Sort
theorem insOuter_goH {lt : Fd → Fd → Bool} {a b i : Nat} {d : Array Fd} (h : i < b) : insOuter lt a b i d = insOuter lt a b (i + 1) (insInner lt a i d) := by
  conv => lhs; unfold insOuter
  rw [if_pos h]
theorem insOuter_endH {lt : Fd → Fd → Bool} {a b i : Nat} {d : Array Fd} (h : b ≤ i) : insOuter lt a b i d = d := by
  unfold insOuter
  rw [if_neg (by omega)]
theorem insInner_yesH {lt : Fd → Fd → Bool} {a j : Nat} {d : Array Fd} (h : a < j + 1) (h2 : lt d[j + 1]! d[j]! = true) : insInner lt a (j + 1) d = insInner lt a j (swp d (j + 1) j) := by
  conv => lhs; unfold insInner
  rw [if_pos (by simp [h2]; omega)]
theorem insInner_noH {lt : Fd → Fd → Bool} {a : Nat} : ∀ {j : Nat} {d : Array Fd} (h : j ≤ a ∨ ∃ p, j = p + 1 ∧ lt d[p + 1]! d[p]! = false), insInner lt a j d = d
  | 0, d, _ => rfl
  | j + 1, d, h => by
    conv => lhs; unfold insInner
    rw [if_neg]
    rcases h with h | ⟨p, hp, h⟩
    · simp; omega
    · obtain rfl : j = p := by omega
      simp [h]
theorem swp_size (d : Array Fd) (i j : Nat) : (swp d i j).size = d.size := by unfold swp; simp
set_option maxRecDepth 20000 in
set_option maxHeartbeats 8000000 in
theorem Ins_c (base g cap : Nat) (w0 w : World) (d : Array Fd) (a b : Nat) (h : RowD base g cap w0 w d) (hab : a ≤ b) (hb : b ≤ d.size) (hl : d.size ≤ 100000) :
    Calls Tryz.prog 204 #[.slice (some ⟨g, 0, none⟩) d.size cap, .int .i64 a, .int .i64 b, .func (.func 137) #[] #[]] w fun e w' => e = .returned (.tuple #[]) ∧ RowD base g cap w0 w' (insertionSort ltC d a b) := by
  have HH := Lib.hid h
  clear h
  generalize hn : d.size = n at *
  have HN := Lib.hid hn
  clear hn
  go_enter Tryz.func204, Tryz.ntmps204
  go_wp2_with fail
  go_loopw [8] (fun u8 wr => ∃ (i : Nat) (dk : Array Fd), u8 = .int .i64 i ∧ a < i ∧ i ≤ b + 1 ∧ dk.size = n ∧ insOuter ltC a b i dk = insertionSort ltC d a b ∧ RowD base g cap w0 wr dk) (fun u8 _ => b + 1 - (intOf u8).toNat)
  case atStart => exact ⟨a + 1, d, by go_num, by omega, by omega, HN.out, rfl, HH.out⟩
  case round =>
    obtain ⟨i, dk, rfl, hai, hib, hdk, hins, hrow⟩ := hrel
    have HROW := Lib.hid hrow
    have HINS := Lib.hid hins
    clear hrow hins
    by_cases hlt : i < b
    · go_wp2_with fail
      go_loopw [9] (fun u9 wx => ∃ (j : Nat) (dj : Array Fd), u9 = .int .i64 j ∧ a ≤ j ∧ j ≤ i ∧ dj.size = n ∧ insInner ltC a j dj = insInner ltC a i dk ∧ RowD base g cap w0 wx dj) (fun u9 _ => (intOf u9).toNat)
      case atStart => exact ⟨i, dk, rfl, by omega, Nat.le_refl _, hdk, rfl, HROW.out⟩
      case round =>
        clear HROW
        obtain ⟨j, dj, rfl, haj, hji, hdj, hinn, hrow⟩ := hrel
        have HROW := Lib.hid hrow
        have HINN := Lib.hid hinn
        clear hrow hinn
        by_cases hja : a < j
        · obtain ⟨jp, rfl⟩ : ∃ jp, j = jp + 1 := ⟨j - 1, by omega⟩
          have hwp : IntKind.i64.wrap (jp : Int) = (jp : Int) := by rw [IntKind.wrap_i64]; omega
          have jz : (jp : Int) + 1 < (n : Int) := by omega
          have jz1 : (jp : Int) < (n : Int) := by omega
          have hjaz : (a : Int) < (jp : Int) + 1 := by omega
          have p0 : (0 : Int) ≤ (jp : Int) + 1 := by omega
          have e0 : ((jp : Int) + 1).toNat = jp + 1 := by omega
          obtain ⟨x0, x1, x2⟩ := HROW.out.cells (k := jp + 1) (by omega)
          obtain ⟨y0, y1, y2⟩ := HROW.out.cells (k := jp) (by omega)
          obtain ⟨_, _, _, gl⟩ := HROW.out.some (k := jp) (by omega)
          have hstop := insInner_noH (lt := ltC) (a := a) (j := jp + 1) (d := dj)
          have hgo := insInner_yesH (lt := ltC) (a := a) (j := jp) (d := dj) hja
          obtain ⟨fx, hfx⟩ : ∃ f, dj[jp + 1]! = f := ⟨_, rfl⟩
          obtain ⟨fy, hfy⟩ : ∃ f, dj[jp]! = f := ⟨_, rfl⟩
          have HFX := Lib.hid hfx
          have HFY := Lib.hid hfy
          rw [hfx] at x0 x1 x2 hgo
          rw [hfy] at y0 y1 y2 hgo
          have HSTOP := Lib.hid hstop
          have HGO := Lib.hid hgo
          clear hfx hfy hstop hgo
          obtain ⟨la, ia, na⟩ := fx
          obtain ⟨lb, ib, nb⟩ := fy
          dsimp only at x0 x1 x2 y0 y1 y2
          obtain ⟨cv, hcv⟩ : ∃ c, cmpV ia na ib nb = c := ⟨_, rfl⟩
          have hcmp := fun W => TopCmp_c (la : Int) ia na (lb : Int) ib nb W
          rw [hcv] at hcmp
          have HCMP := Lib.hid hcmp
          have HCV := Lib.hid hcv
          clear hcmp hcv
          by_cases hlv : cv < 0
          · have hgo2 := HGO.out (by unfold ltC; rw [HCV.out]; simpa using hlv)
            have HGO2 := Lib.hid hgo2
            clear hgo2 HGO HSTOP
            go_wp2_with fail
            refine wp_region_after (by kernel_rfl) (by kernel_rfl) ?_
            repeat (go_big_quiet_step ((go_at_call 137; exact quiet_after (HCMP.out _))))
            refine wpQuiet_nil ?_
            rintro _ ⟨xx, rfl⟩
            obtain ⟨w1, hb1⟩ := xx
            try dsimp only
            have HR1 := Lib.hid (HROW.out.step hb1)
            clear x0 x1 x2 y0 y1 y2 gl hb1
            obtain ⟨x0, x1, x2⟩ := HR1.out.cells (k := jp + 1) (by omega)
            obtain ⟨y0, y1, y2⟩ := HR1.out.cells (k := jp) (by omega)
            rw [HFX.out] at x0 x1 x2
            rw [HFY.out] at y0 y1 y2
            dsimp only at x0 x1 x2 y0 y1 y2
            obtain ⟨f0, f1, f2, gl⟩ := HR1.out.some (k := jp + 1) (by omega)
            obtain ⟨k0, k1, k2, _⟩ := HR1.out.some (k := jp) (by omega)
            go_wp2_with fail
            have hC0 := af_drew w1
            have HSW := Lib.hid ((HR1.out.put (i := jp + 1) (by omega) (lb, ib, nb)).put (i := jp) (by rw [Array.size_setIfInBounds]; omega) (la, ia, na))
            refine pi_start (fun w' => ∃ x : After w1, w' = x.w) [15,17] (by kernel_rfl) ?_
            refine pi_t 0 rfl (by kernel_rfl) (by kernel_rfl) (fun _ _ _ _ h => h) (fun K hK => ?_)
            go_big_quiet_op
            refine hK _ ?_
            clear hK K
            refine pi_t 1 rfl (by kernel_rfl) (by kernel_rfl) (fun _ _ _ _ h => h) (fun K hK => ?_)
            go_big_quiet_op
            refine hK _ ?_
            clear hK K
            refine pi_t 2 rfl (by kernel_rfl) (by kernel_rfl) (fun _ _ _ _ h => h) (fun K hK => ?_)
            go_big_quiet_op
            refine hK _ ?_
            clear hK K
            refine pi_t 3 rfl (by kernel_rfl) (by kernel_rfl) (fun _ _ _ _ h => h) (fun K hK => ?_)
            go_big_quiet_op
            refine hK _ ?_
            clear hK K
            refine pi_t 4 rfl (by kernel_rfl) (by kernel_rfl) (fun _ _ _ _ h => h) (fun K hK => ?_)
            go_big_quiet_op
            refine hK _ ?_
            clear hK K
            refine pi_t 5 rfl (by kernel_rfl) (by kernel_rfl) (fun _ _ _ _ h => h) (fun K hK => ?_)
            go_big_quiet_op
            refine hK _ ?_
            clear hK K
            refine pi_t 6 rfl (by kernel_rfl) (by kernel_rfl) (fun _ _ _ _ h => h) (fun K hK => ?_)
            go_big_quiet_op
            refine hK _ ?_
            clear hK K
            refine pi_t 7 rfl (by kernel_rfl) (by kernel_rfl) (fun _ _ _ _ h => h) (fun K hK => ?_)
            go_big_quiet_op
            refine hK _ ?_
            clear hK K
            refine pi_t 8 rfl (by kernel_rfl) (by kernel_rfl) (fun _ _ _ _ h => h) (fun K hK => ?_)
            go_big_quiet_op
            refine hK _ ?_
            clear hK K
            refine pi_t 10 rfl (by kernel_rfl) (by kernel_rfl) (fun _ _ _ _ h => h) (fun K hK => ?_)
            go_big_quiet_op
            refine hK _ ?_
            clear hK K
            refine pi_t 11 rfl (by kernel_rfl) (by kernel_rfl) (fun _ _ _ _ h => h) (fun K hK => ?_)
            go_big_quiet_op
            refine hK _ ?_
            clear hK K
            refine pi_t 12 rfl (by kernel_rfl) (by kernel_rfl) (fun _ _ _ _ h => h) (fun K hK => ?_)
            go_big_quiet_op
            refine hK _ ?_
            clear hK K
            refine pi_c 9 (by assumption) rfl (by kernel_rfl) (by kernel_rfl) (fun _ _ _ _ h => h) (fun K hK => ?_)
            go_big_quiet_op
            refine hK _ ?_
            clear hK K
            refine pi_c 13 (by assumption) rfl (by kernel_rfl) (by kernel_rfl) (fun _ _ _ _ h => h) (fun K hK => ?_)
            go_big_quiet_op
            refine hK _ ?_
            clear hK K
            refine pi_t 14 rfl (by kernel_rfl) (by kernel_rfl) (fun _ _ _ _ h => h) (fun K hK => ?_)
            go_big_quiet_op
            refine hK _ ?_
            clear hK K
            refine pi_l 15 rfl (by kernel_rfl) (fun K hK => ?_)
            go_wp2
            refine hK _ _ (by simp) ?_
            clear hK K
            refine pi_t 16 rfl (by kernel_rfl) (by kernel_rfl) (fun _ _ _ _ h => h) (fun K hK => ?_)
            go_big_quiet_op
            refine hK _ ?_
            clear hK K
            refine pi_l 17 rfl (by kernel_rfl) (fun K hK => ?_)
            go_wp2
            refine hK _ _ (by simp) ?_
            clear hK K
            refine pi_end (by kernel_rfl) ?_
            have hfin := HSW.out.step (Below.drew (Ext.refl _))
            rw [show (dj.setIfInBounds (jp + 1) (lb, ib, nb)).setIfInBounds jp (la, ia, na) = swp dj (jp + 1) jp by unfold swp; rw [HFX.out, HFY.out]] at hfin
            have HFIN := Lib.hid hfin
            clear hfin
            go_wp2
            go_roundw
            case rel => exact ⟨jp, swp dj (jp + 1) jp, by go_num, by omega, by omega, by rw [swp_size]; exact hdj, by rw [← HGO2.out]; exact HINN.out, HFIN.out⟩
            case measure => simp [intOf]
          · have hst := HSTOP.out (.inr ⟨jp, rfl, by rw [HFX.out, HFY.out]; unfold ltC; rw [HCV.out]; simpa using hlv⟩)
            have hnext : insOuter ltC a b (i + 1) dj = insertionSort ltC d a b := by rw [← HINS.out, insOuter_goH hlt, ← HINN.out, hst]
            have HNEXT := Lib.hid hnext
            clear hst hnext HGO HSTOP
            go_wp2_with fail
            refine wp_region_after (by kernel_rfl) (by kernel_rfl) ?_
            repeat (go_big_quiet_step ((go_at_call 137; exact quiet_after (HCMP.out _))))
            refine wpQuiet_nil ?_
            rintro _ ⟨xx, rfl⟩
            obtain ⟨w1, hb1⟩ := xx
            try dsimp only
            have HR1 := Lib.hid (HROW.out.step hb1)
            clear x0 x1 x2 y0 y1 y2 gl hb1
            go_wp2
            go_roundw
            case rel => exact ⟨i + 1, dj, by go_num, by omega, by omega, hdj, HNEXT.out, HR1.out⟩
            case measure => simp [intOf]; omega
        · have hst := insInner_noH (lt := ltC) (a := a) (j := j) (d := dj) (.inl (by omega))
          have hnext : insOuter ltC a b (i + 1) dj = insertionSort ltC d a b := by rw [← HINS.out, insOuter_goH hlt, ← HINN.out, hst]
          have HNEXT := Lib.hid hnext
          clear hst hnext
          go_wp2_with fail
          refine wp_region_after (by kernel_rfl) (by kernel_rfl) ?_
          repeat (go_big_quiet_step (fail))
          refine wpQuiet_nil ?_
          rintro _ ⟨xx, rfl⟩
          obtain ⟨w1, hb1⟩ := xx
          try dsimp only
          have HR1 := Lib.hid (HROW.out.step hb1)
          clear hb1
          go_wp2
          go_roundw
          case rel => exact ⟨i + 1, dj, by go_num, by omega, by omega, hdj, HNEXT.out, HR1.out⟩
          case measure => simp [intOf]; omega
    · have hfin : dk = insertionSort ltC d a b := by rw [← HINS.out, insOuter_endH (by omega)]
      have HFIN := Lib.hid hfin
      clear hfin
      go_wp2
      go_end0
      exact ⟨rfl, by rw [← HFIN.out]; exact HROW.out⟩
end
end Go.Proofs.YtfhdjekpdifajaaGreat
