/- Part. No condition. -/
import Derived.Test.YtfhdjekpdifajaaGreatDLevelPlays3
import Derived.Test.YtfhdjekpdifajaaGreatDLevelPlays6
import Derived.Test.YtfhdjekpdifajaaGreatDLevelPlays7
import Derived.Test.YtfhdjekpdifajaaGreatDLevelPlays4
namespace Go.Proofs.YtfhdjekpdifajaaGreat
set_option linter.unusedVariables false
open Go.RowKit
def RGJoinPost (w : World) (G : Gr) (R W : Nat) (ms : List Int) (e : Ending) (w' : World) : Prop :=
  (allI ms ∧ e = .returned (.int .i64 0) ∧ ∃ G' : Gr, G'.g = G.g ∧ RGAt w' G' R W ms ∧ (∀ k, G'.foot R k → k = G.g ∨ w.heap.size ≤ k) ∧ Mod (fun k => k = G.g) w w') ∨ (¬ allI ms ∧ e = .returned (.int .i64 4) ∧ Ext w w')
theorem long_cells {w : World} {b : Nat} {x : Int} (h : LongAt w b (dg x)) : ∀ i, i < 10 → w.cell? ⟨b, i, none⟩ = some (.int .i64 (dg x i)) := by
  intro i hi
  unfold LongAt at h
  rw [cell_of h, fillA_at _ _ _ _ hi, if_pos hi]
theorem long_mk {w : World} {b : Nat} {x : Int} (h : w.heap[b]? = some (.cells #[.int .i64 (dg x 0), .int .i64 (dg x 1), .int .i64 (dg x 2), .int .i64 (dg x 3), .int .i64 (dg x 4), .int .i64 (dg x 5), .int .i64 (dg x 6), .int .i64 (dg x 7), .int .i64 (dg x 8), .int .i64 (dg x 9)] 237 (0, 0))) : LongAt w b (dg x) := by
  unfold LongAt; rw [fill10]; exact h
theorem sum_in {x y : Int} (hx : I64 x) (hy : I64 y) : (-730750818665451459101842416358141509827966271488 ≤ x + y ∧ x + y < 730750818665451459101842416358141509827966271488) ∧ (-730750818665451459101842416358141509827966271488 ≤ x + -y ∧ x + -y < 730750818665451459101842416358141509827966271488) := by unfold I64 at hx hy; omega
/-- The sums of a row. -/
def rowF (f : Nat → Nat → Int) (r j : Nat) : List Int := (List.range j).map (f r)
theorem rowF_len (f : Nat → Nat → Int) (r j : Nat) : (rowF f r j).length = j := by simp [rowF]
theorem rowF_succ (f : Nat → Nat → Int) (r j : Nat) : rowF f r (j + 1) = rowF f r j ++ [f r j] := by unfold rowF; rw [List.range_succ, List.map_append]; rfl
theorem rowF_get {f : Nat → Nat → Int} {r j k : Nat} (h : k < j) : (rowF f r j).getD k 0 = f r k := by simp [rowF, h]
theorem all_rows {R W : Nat} {ms : List Int} {f : Nat → Nat → Int} (hl : ms.length = R * W) (hf : ∀ r k, r < R → k < W → f r k = ms.getD (r * W + k) 0) (h : ∀ r, r < R → ∀ k, k < W → I64 (f r k)) : allI ms := by
  intro x hx
  obtain ⟨i, hi, rfl⟩ := List.getElem_of_mem hx
  have hW : 0 < W := by
    rcases Nat.eq_zero_or_pos W with h0 | h0
    · rw [hl, h0, Nat.mul_zero] at hi; omega
    · exact h0
  have h1 : i / W < R := by rw [Nat.div_lt_iff_lt_mul hW]; omega
  have h2 : i % W < W := Nat.mod_lt _ hW
  have h3 : i / W * W + i % W = i := by rw [Nat.mul_comm]; exact Nat.div_add_mod i W
  have h4 := h _ h1 _ h2
  rw [hf _ _ h1 h2, h3] at h4
  have e : ms.getD i 0 = ms[i] := by simp [hi]
  rw [e] at h4
  exact h4
theorem not_all {R W r k : Nat} {ms : List Int} {f : Nat → Nat → Int} (hl : ms.length = R * W) (hf : ∀ r k, r < R → k < W → f r k = ms.getD (r * W + k) 0) (hr : r < R) (hk : k < W) (h : ¬ I64 (f r k)) : ¬ allI ms := by
  intro ha
  have h1 := row_lt hr hk
  rw [hf _ _ hr hk] at h
  exact h (ha _ (getD_mem (by rw [hl]; exact h1)))
set_option maxRecDepth 20000 in
set_option maxHeartbeats 16000000 in
theorem RGJoinPlus_c (G G2 : Gr) (R W : Nat) (l l2 : List Int) (w : World) (h : RGAt w G R W l) (h2 : RGAt w G2 R W l2) (hI : allI l) (hI2 : allI l2) :
    Calls Tryz.prog 165 #[.pointer (some ⟨G.g, 0, none⟩), .pointer (some ⟨G2.g, 0, none⟩), .int .i64 1] w (RGJoinPost w G R W (plusL l l2)) := by
  have r1 := h.r1
  have r2 := h.r2
  have w1' := h.w1
  have w2' := h.w2
  have HH := Lib.hid h
  have HH2 := Lib.hid h2
  have HIA := Lib.hid hI
  have HIB := Lib.hid hI2
  have hml : (plusL l l2).length = R * W := by rw [plusL_len]; exact h.len
  obtain ⟨f, hf⟩ : ∃ f : Nat → Nat → Int, f = fun r k => (plusL l l2).getD (r * W + k) 0 := ⟨_, rfl⟩
  have hfe : ∀ r k, r < R → k < W → f r k = (plusL l l2).getD (r * W + k) 0 := fun r k _ _ => by rw [hf]
  have hfs : ∀ r k, r < R → k < W → f r k = l.getD (r * W + k) 0 + l2.getD (r * W + k) 0 := fun r k hr hk => by rw [hf]; exact plusL_get (by rw [h.len]; exact row_lt hr hk)
  have HML := Lib.hid hml
  have HFE := Lib.hid hfe
  have HFS := Lib.hid hfs
  clear hml hf hfe hfs h h2 hI hI2
  generalize plusL l l2 = ms at *
  go_enter Tryz.func165, Tryz.ntmps165
  go_wp2_with fail
  go_loopw [7, 8] (fun u7 u8 wr => ∃ (k : Nat) (G' : Gr), k ≤ R ∧ u8 = .int .i64 k ∧ GMade wr w.heap.size G' W k u7 f ∧ Ext w wr ∧ ∀ r, r < k → ∀ j, j < W → I64 (f r j)) (fun _ u8 _ => R - (intOf u8).toNat)
  case atStart => exact ⟨0, G, Nat.zero_le _, rfl, GMade.zero w _ G W f, Ext.refl _, fun r hr => absurd hr (Nat.not_lt_zero _)⟩
  case round =>
    obtain ⟨k, G', hk, rfl, hM, hE, hall⟩ := hrel
    have HM := Lib.hid hM
    have HALL := Lib.hid hall
    have hr := HH.out.ext hE
    obtain ⟨cap, cg, hcap⟩ := hr.cg
    have lg := hr.ltg
    clear hM hall
    by_cases hlt : k < R
    · have hkz : (k : Int) < (R : Int) := by omega
      rename World => wo
      clear hr
      go_upto_region 6 with (fail)
      have hE0 : Ext wo (wo.alloc (.cells #[] 2)) := Ext.alloc' _ _
      have hro : (wo.alloc (.cells #[] 2)).ownsRow wo.heap.size 2 1 (.slice (some ⟨wo.heap.size, 0, none⟩) 0 0) 0 [] := own_empty wo _
      have HRO := Lib.hid hro
      clear cg lg hcap hro
      go_wp2_with fail
      go_loopw [9, 10] (fun u9 u10 wr => ∃ j : Nat, j ≤ W ∧ u10 = .int .i64 j ∧ wr.ownsRow wo.heap.size 2 1 u9 (rowF f k j).length (ints (rowF f k j)) ∧ Ext wo wr ∧ ∀ c, c < j → I64 (f k c)) (fun _ u10 _ => W - (intOf u10).toNat)
      case atStart => exact ⟨0, Nat.zero_le _, rfl, HRO.out, hE0, fun c hc => absurd hc (Nat.not_lt_zero _)⟩
      case round =>
        clear hE0 HRO
        obtain ⟨j, hj, rfl, hown, hEo, hrow⟩ := hrel
        have HOWN := Lib.hid hown
        have HROW := Lib.hid hrow
        have hEw := hE.trans' hEo
        have hr1 := HH.out.ext hEw
        obtain ⟨cap1, cg1, hcap1⟩ := hr1.cg
        have lg1 := hr1.ltg
        have cm1 := hr1.cm hlt
        have lm1 := hr1.ltm
        clear hown hrow
        by_cases hjt : j < W
        · have hjz : (j : Int) < (W : Int) := by omega
          have cr1 := hr1.cr hlt hjt
          have lr1 := hr1.ltr hlt
          have hr2 := HH2.out.ext hEw
          obtain ⟨cap2, cg2, hcap2⟩ := hr2.cg
          have lg2 := hr2.ltg
          have cm2 := hr2.cm hlt
          have lm2 := hr2.ltm
          have cr2 := hr2.cr hlt hjt
          have lr2 := hr2.ltr hlt
          have hix : I64 (l.getD (k * W + j) 0) := getD_i64 HIA.out _
          have hiy : I64 (l2.getD (k * W + j) 0) := getD_i64 HIB.out _
          have hfv := HFS.out k j hlt hjt
          have hc1 := hr1.capc k hlt
          have hc2 := hr2.capc k hlt
          generalize l.getD (k * W + j) 0 = x at *
          generalize l2.getD (k * W + j) 0 = y at *
          have hin := sum_in hix hiy
          have HIN := Lib.hid hin
          have HIX := Lib.hid hix
          have HIY := Lib.hid hiy
          have HFV := Lib.hid hfv
          have HEW := Lib.hid hEw
          have HRR := Lib.hid (And.intro cg1 (And.intro cm1 cr1))
          have hLT := Lib.hid (And.intro lg1 (And.intro lm1 lr1))
          clear hr1 hr2 hin hix hiy hfv hEw
          rename World => wi
          go_wp2_with fail
          refine Calls.mono (OfInt_c y HIY.out _) ?_
          rintro e w1 ⟨rfl, hx1⟩
          unfold longV longA
          go_upto_region 10 with (fail)
          have hb1 : (w1.alloc (.cells #[.int .i64 (dg y 0), .int .i64 (dg y 1), .int .i64 (dg y 2), .int .i64 (dg y 3), .int .i64 (dg y 4), .int .i64 (dg y 5), .int .i64 (dg y 6), .int .i64 (dg y 7), .int .i64 (dg y 8), .int .i64 (dg y 9)] 237)).heap[w1.heap.size]? = some (.cells #[.int .i64 (dg y 0), .int .i64 (dg y 1), .int .i64 (dg y 2), .int .i64 (dg y 3), .int .i64 (dg y 4), .int .i64 (dg y 5), .int .i64 (dg y 6), .int .i64 (dg y 7), .int .i64 (dg y 8), .int .i64 (dg y 9)] 237 (0, 0)) := heap_at _ _ rfl
          have hx2 : Ext wi (w1.alloc (.cells #[.int .i64 (dg y 0), .int .i64 (dg y 1), .int .i64 (dg y 2), .int .i64 (dg y 3), .int .i64 (dg y 4), .int .i64 (dg y 5), .int .i64 (dg y 6), .int .i64 (dg y 7), .int .i64 (dg y 8), .int .i64 (dg y 9)] 237)) := hx1.allocR _
          have hbz := hx1.size
          generalize w1.alloc (.cells #[.int .i64 (dg y 0), .int .i64 (dg y 1), .int .i64 (dg y 2), .int .i64 (dg y 3), .int .i64 (dg y 4), .int .i64 (dg y 5), .int .i64 (dg y 6), .int .i64 (dg y 7), .int .i64 (dg y 8), .int .i64 (dg y 9)] 237) = w2 at *
          generalize w1.heap.size = bx at *
          have HX2 := Lib.hid hx2
          clear hx1 hx2 cg1 cm1 cr1 cg2 cm2 cr2 lg1 lm1 lr1 lg2 lm2 lr2
          go_upto_if 48 with (fail)
          go_cut [] (fun wx => LongAt wx bx (dg (y)) ∧ Ext wi wx)
          case first =>
            go_wp2_with fail
            go_meet
            exact ⟨long_mk hb1, HX2.out⟩
          case rest =>
            obtain ⟨hL, hx4⟩ := hcut
            rename World => w4
            have hLc := long_cells hL
            have x0 := hLc 0 (by decide)
            have x1 := hLc 1 (by decide)
            have x2 := hLc 2 (by decide)
            have x3 := hLc 3 (by decide)
            have x4 := hLc 4 (by decide)
            have x5 := hLc 5 (by decide)
            have x6 := hLc 6 (by decide)
            have x7 := hLc 7 (by decide)
            have x8 := hLc 8 (by decide)
            have x9 := hLc 9 (by decide)
            have lx : bx < w4.heap.size := by unfold LongAt at hL; exact lt_of hL
            have cg1 := ((bcell hx4).1 _ _ hLT.out.1).trans HRR.out.1
            have cm1 := ((bcell hx4).1 _ _ hLT.out.2.1).trans HRR.out.2.1
            have cr1 := ((bcell hx4).1 _ _ hLT.out.2.2).trans HRR.out.2.2
            have lg1 := Nat.lt_of_lt_of_le hLT.out.1 hx4.size
            have lm1 := Nat.lt_of_lt_of_le hLT.out.2.1 hx4.size
            have lr1 := Nat.lt_of_lt_of_le hLT.out.2.2 hx4.size
            have hP : ∀ w' : World, Calls Tryz.prog 151 #[longV x, .agg #[.int .i64 (dg (y) 0), .int .i64 (dg (y) 1), .int .i64 (dg (y) 2), .int .i64 (dg (y) 3), .int .i64 (dg (y) 4), .int .i64 (dg (y) 5), .int .i64 (dg (y) 6), .int .i64 (dg (y) 7), .int .i64 (dg (y) 8), .int .i64 (dg (y) 9)]] w' fun e w'' => e = .returned (longV (x + y)) ∧ Ext w' w'' := fun w' => LPlus_c x (y) w'
            have HP := Lib.hid hP
            have hIn : ∀ w' : World, Calls Tryz.prog 150 #[longV (x + y)] w' fun e w'' => e = .returned (.tuple #[.int .i64 (fitN (x + y)), .bool (fitB (x + y))]) ∧ Ext w' w'' := fun w' => LInt_c _ (by have := HIN.out; first | exact this.1.1 | exact this.2.1) (by have := HIN.out; first | exact this.1.2 | exact this.2.2) w'
            have HINT := Lib.hid hIn
            have hOf : ∀ w' : World, Calls Tryz.prog 152 #[.int .i64 x] w' fun e w'' => e = .returned (longV x) ∧ Ext w' w'' := fun w' => OfInt_c x HIX.out w'
            have HOF := Lib.hid hOf
            have hfv : f k j = x + y := by have := HFV.out; omega
            have HFV2 := Lib.hid hfv
            clear hL hLc hP hIn hOf hfv
            generalize dg (y) = dd at *
            generalize longV x = vx at *
            generalize longV (x + y) = vs at *
            go_wp2_with fail
            refine wp_region_after (by kernel_rfl) (by kernel_rfl) ?_
            repeat (go_big_quiet_step ((first | (go_at_call 152; exact quiet_after (HOF.out _)) | (go_at_call 151; exact quiet_after (HP.out _)) | (go_at_call 150; exact quiet_after (HINT.out _)))))
            refine wpQuiet_nil ?_
            rintro _ ⟨xx, rfl⟩
            obtain ⟨w5, hb5⟩ := xx
            try dsimp only
            have hE5 := hx4.trans' hb5
            have HOWN5 := Lib.hid (own_ext HOWN.out hE5)
            have hEo5 := hEo.trans' hE5
            clear x0 x1 x2 x3 x4 x5 x6 x7 x8 x9 lx cg1 cm1 cr1 lg1 lm1 lr1 HP HINT HOF
            by_cases hfit : I64 (f k j)
            · have hfb : fitB (x + y) = true := by rw [← HFV2.out]; exact fitB_yes hfit
              have hfn : fitN (x + y) = f k j := by rw [← HFV2.out]; exact fitN_yes hfit
              rw [hfb, hfn]
              have HFIT := Lib.hid hfit
              have hrs := rowF_succ f k j
              have HRS := Lib.hid hrs
              have hrl := rowF_len f k j
              have HRL := Lib.hid hrl
              have hsz5 := hEo5.size
              clear hfb hfn hfit hrs hrl
              generalize hv : f k j = v at *
              have HV := Lib.hid hv
              clear hv
              go_wp2_with (at_builtin; refine wpList_app1 w5 v (rowF f k j) u9 wo.heap.size 2 HOWN5.out 43 rfl _ _ rfl info_i64 Tryz.underlying43 (by rfl) (by rfl) ?a1 ?a2 ?_)
              case a1 => rw [HRL.out]; omega
              case a2 => exact hsz5
              intro v' w6 g1 g2 _
              have hE6 : Ext wo w6 := ext_grown hEo5 g2 (fun i hi => own_blk HOWN5.out hi)
              have G1 := Lib.hid g1
              clear g1 g2
              go_wp2
              go_roundw
              case rel =>
                refine ⟨j + 1, by omega, by go_num, by rw [HRS.out, List.length_append]; exact G1.out, hE6, fun c hc => ?_⟩
                by_cases e : c = j
                · rw [e, HV.out]; exact HFIT.out
                · exact HROW.out c (by omega)
              case measure => simp [intOf]; omega
            · have hfb : fitB (x + y) = false := by rw [← HFV2.out]; exact fitB_no hfit
              have hno := not_all HML.out HFE.out hlt hjt hfit
              have HNO := Lib.hid hno
              have hEf := hE.trans' hEo5
              rw [hfb]
              clear hfb hfit hno
              go_wp2
              go_ret
              exact .inr ⟨HNO.out, rfl, hEf⟩
        · obtain rfl : j = W := by omega
          have hrl := rowF_len f k j
          obtain ⟨z, zc, cur, rfl, hzc, hz, hzh, hzcur⟩ := own_row1 HOWN.out (by rw [hrl]; omega)
          rw [hrl] at hzc hzcur ⊢
          obtain ⟨i0, z0, hi0, hz0, hz1, hz2, hz3⟩ := info_row
          have HMX := Lib.hid (HM.out.ext hEo)
          have HC := Lib.hid (And.intro hzc (And.intro hz (And.intro hzh hzcur)))
          have hszo := hE.size
          have hszr := hEo.size
          clear HOWN hrl hzc hz hzh hzcur hr1
          go_wp2_with (at_builtin; refine wpList_appB wr 24 (by decide) (.slice (some ⟨z, 0, none⟩) j zc) rfl ((List.range k).map (G'.row j)) u7 w.heap.size 43 HMX.out.row 159 rfl _ _ rfl i0 z0 hi0 hz0 hz1 hz2 hz3 Tryz.underlying159 (by rfl) (by rfl) ?b1 ?b2 ?_)
          case b1 => rw [List.length_map, List.length_range]; omega
          case b2 => omega
          intro v' w' g1 g2
          obtain ⟨q1, q2, q3, q4⟩ := HC.out
          have hnext := HMX.out.next q3 (fun i hi => by rw [q4 i hi, rowF_get hi]) q1 (fun r hr => HM.out.lt hr) (by omega) q2 (by rw [List.length_append, List.length_map, List.length_range]; exact g1) g2
          have hEf : Ext w w' := ext_grown (hE.trans' hEo) g2 (fun i hi => own_blk HMX.out.row hi)
          have HN := Lib.hid hnext
          clear hnext g1 g2
          go_wp2
          go_roundw
          case rel =>
            refine ⟨k + 1, _, by omega, by go_num, HN.out, hEf, fun r hr c hc => ?_⟩
            by_cases e : r = k
            · rw [e]; exact HROW.out c hc
            · exact HALL.out r (by omega) c hc
          case measure => simp [intOf]; omega
    · obtain rfl : k = R := by omega
      obtain ⟨pv, nv, cv, rfl⟩ := own_slice HM.out.row
      obtain ⟨cap3, hex, hcap3⟩ := hr.ex
      have fz := frozen_of hex 0
      have HEX := Lib.hid hex
      have hall := all_rows HML.out HFE.out (fun r hr j hj => HALL.out r hr j hj)
      have HA := Lib.hid hall
      have hgl := HH.out.ltg
      clear hr hex hall
      go_wp2
      go_ret
      have hb := (setCell_same HEX.out 0 (.slice pv nv cv)).trans rfl
      obtain ⟨m, hm, hG⟩ := (HM.out.setc hgl 0 (.slice pv nv cv)).grid (g := G.g) hb HML.out HFE.out r1 r2 w1' w2'
      refine .inl ⟨HA.out, rfl, ⟨G.g, m, G'.r, G'.c⟩, rfl, hG, ?_, (hE.mod _).trans (mod_set _ _ _ _)⟩
      rintro i (rfl | rfl | ⟨r, hr, rfl⟩)
      · exact .inl rfl
      · exact .inr hm
      · exact .inr (HM.out.new r hr)
set_option maxRecDepth 20000 in
set_option maxHeartbeats 16000000 in
theorem RGJoinMinus_c (G G2 : Gr) (R W : Nat) (l l2 : List Int) (w : World) (h : RGAt w G R W l) (h2 : RGAt w G2 R W l2) (hI : allI l) (hI2 : allI l2) :
    Calls Tryz.prog 165 #[.pointer (some ⟨G.g, 0, none⟩), .pointer (some ⟨G2.g, 0, none⟩), .int .i64 (-1)] w (RGJoinPost w G R W (minusL l l2)) := by
  have r1 := h.r1
  have r2 := h.r2
  have w1' := h.w1
  have w2' := h.w2
  have HH := Lib.hid h
  have HH2 := Lib.hid h2
  have HIA := Lib.hid hI
  have HIB := Lib.hid hI2
  have hml : (minusL l l2).length = R * W := by rw [minusL_len]; exact h.len
  obtain ⟨f, hf⟩ : ∃ f : Nat → Nat → Int, f = fun r k => (minusL l l2).getD (r * W + k) 0 := ⟨_, rfl⟩
  have hfe : ∀ r k, r < R → k < W → f r k = (minusL l l2).getD (r * W + k) 0 := fun r k _ _ => by rw [hf]
  have hfs : ∀ r k, r < R → k < W → f r k = l.getD (r * W + k) 0 - l2.getD (r * W + k) 0 := fun r k hr hk => by rw [hf]; exact minusL_get (by rw [h.len]; exact row_lt hr hk)
  have HML := Lib.hid hml
  have HFE := Lib.hid hfe
  have HFS := Lib.hid hfs
  clear hml hf hfe hfs h h2 hI hI2
  generalize minusL l l2 = ms at *
  go_enter Tryz.func165, Tryz.ntmps165
  go_wp2_with fail
  go_loopw [7, 8] (fun u7 u8 wr => ∃ (k : Nat) (G' : Gr), k ≤ R ∧ u8 = .int .i64 k ∧ GMade wr w.heap.size G' W k u7 f ∧ Ext w wr ∧ ∀ r, r < k → ∀ j, j < W → I64 (f r j)) (fun _ u8 _ => R - (intOf u8).toNat)
  case atStart => exact ⟨0, G, Nat.zero_le _, rfl, GMade.zero w _ G W f, Ext.refl _, fun r hr => absurd hr (Nat.not_lt_zero _)⟩
  case round =>
    obtain ⟨k, G', hk, rfl, hM, hE, hall⟩ := hrel
    have HM := Lib.hid hM
    have HALL := Lib.hid hall
    have hr := HH.out.ext hE
    obtain ⟨cap, cg, hcap⟩ := hr.cg
    have lg := hr.ltg
    clear hM hall
    by_cases hlt : k < R
    · have hkz : (k : Int) < (R : Int) := by omega
      rename World => wo
      clear hr
      go_upto_region 6 with (fail)
      have hE0 : Ext wo (wo.alloc (.cells #[] 2)) := Ext.alloc' _ _
      have hro : (wo.alloc (.cells #[] 2)).ownsRow wo.heap.size 2 1 (.slice (some ⟨wo.heap.size, 0, none⟩) 0 0) 0 [] := own_empty wo _
      have HRO := Lib.hid hro
      clear cg lg hcap hro
      go_wp2_with fail
      go_loopw [9, 10] (fun u9 u10 wr => ∃ j : Nat, j ≤ W ∧ u10 = .int .i64 j ∧ wr.ownsRow wo.heap.size 2 1 u9 (rowF f k j).length (ints (rowF f k j)) ∧ Ext wo wr ∧ ∀ c, c < j → I64 (f k c)) (fun _ u10 _ => W - (intOf u10).toNat)
      case atStart => exact ⟨0, Nat.zero_le _, rfl, HRO.out, hE0, fun c hc => absurd hc (Nat.not_lt_zero _)⟩
      case round =>
        clear hE0 HRO
        obtain ⟨j, hj, rfl, hown, hEo, hrow⟩ := hrel
        have HOWN := Lib.hid hown
        have HROW := Lib.hid hrow
        have hEw := hE.trans' hEo
        have hr1 := HH.out.ext hEw
        obtain ⟨cap1, cg1, hcap1⟩ := hr1.cg
        have lg1 := hr1.ltg
        have cm1 := hr1.cm hlt
        have lm1 := hr1.ltm
        clear hown hrow
        by_cases hjt : j < W
        · have hjz : (j : Int) < (W : Int) := by omega
          have cr1 := hr1.cr hlt hjt
          have lr1 := hr1.ltr hlt
          have hr2 := HH2.out.ext hEw
          obtain ⟨cap2, cg2, hcap2⟩ := hr2.cg
          have lg2 := hr2.ltg
          have cm2 := hr2.cm hlt
          have lm2 := hr2.ltm
          have cr2 := hr2.cr hlt hjt
          have lr2 := hr2.ltr hlt
          have hix : I64 (l.getD (k * W + j) 0) := getD_i64 HIA.out _
          have hiy : I64 (l2.getD (k * W + j) 0) := getD_i64 HIB.out _
          have hfv := HFS.out k j hlt hjt
          have hc1 := hr1.capc k hlt
          have hc2 := hr2.capc k hlt
          generalize l.getD (k * W + j) 0 = x at *
          generalize l2.getD (k * W + j) 0 = y at *
          have hin := sum_in hix hiy
          have HIN := Lib.hid hin
          have HIX := Lib.hid hix
          have HIY := Lib.hid hiy
          have HFV := Lib.hid hfv
          have HEW := Lib.hid hEw
          have HRR := Lib.hid (And.intro cg1 (And.intro cm1 cr1))
          have hLT := Lib.hid (And.intro lg1 (And.intro lm1 lr1))
          clear hr1 hr2 hin hix hiy hfv hEw
          rename World => wi
          go_wp2_with fail
          refine Calls.mono (OfInt_c y HIY.out _) ?_
          rintro e w1 ⟨rfl, hx1⟩
          unfold longV longA
          go_upto_region 10 with (fail)
          have hb1 : (w1.alloc (.cells #[.int .i64 (dg y 0), .int .i64 (dg y 1), .int .i64 (dg y 2), .int .i64 (dg y 3), .int .i64 (dg y 4), .int .i64 (dg y 5), .int .i64 (dg y 6), .int .i64 (dg y 7), .int .i64 (dg y 8), .int .i64 (dg y 9)] 237)).heap[w1.heap.size]? = some (.cells #[.int .i64 (dg y 0), .int .i64 (dg y 1), .int .i64 (dg y 2), .int .i64 (dg y 3), .int .i64 (dg y 4), .int .i64 (dg y 5), .int .i64 (dg y 6), .int .i64 (dg y 7), .int .i64 (dg y 8), .int .i64 (dg y 9)] 237 (0, 0)) := heap_at _ _ rfl
          have hx2 : Ext wi (w1.alloc (.cells #[.int .i64 (dg y 0), .int .i64 (dg y 1), .int .i64 (dg y 2), .int .i64 (dg y 3), .int .i64 (dg y 4), .int .i64 (dg y 5), .int .i64 (dg y 6), .int .i64 (dg y 7), .int .i64 (dg y 8), .int .i64 (dg y 9)] 237)) := hx1.allocR _
          have hbz := hx1.size
          generalize w1.alloc (.cells #[.int .i64 (dg y 0), .int .i64 (dg y 1), .int .i64 (dg y 2), .int .i64 (dg y 3), .int .i64 (dg y 4), .int .i64 (dg y 5), .int .i64 (dg y 6), .int .i64 (dg y 7), .int .i64 (dg y 8), .int .i64 (dg y 9)] 237) = w2 at *
          generalize w1.heap.size = bx at *
          have HX2 := Lib.hid hx2
          clear hx1 hx2 cg1 cm1 cr1 cg2 cm2 cr2 lg1 lm1 lr1 lg2 lm2 lr2
          have x0 := (cell_of hb1 0).trans rfl
          have x1 := (cell_of hb1 1).trans rfl
          have x2 := (cell_of hb1 2).trans rfl
          have x3 := (cell_of hb1 3).trans rfl
          have x4 := (cell_of hb1 4).trans rfl
          have x5 := (cell_of hb1 5).trans rfl
          have x6 := (cell_of hb1 6).trans rfl
          have x7 := (cell_of hb1 7).trans rfl
          have x8 := (cell_of hb1 8).trans rfl
          have x9 := (cell_of hb1 9).trans rfl
          have lx := lt_of hb1
          go_upto_if 48 with (fail)
          go_cut [] (fun wx => LongAt wx bx (dg (-y)) ∧ Ext wi wx)
          case first =>
            have HB1 := Lib.hid hb1
            clear hb1
            have hMn : ∀ w' : World, Calls Tryz.prog 153 #[.agg #[.int .i64 (dg y 0), .int .i64 (dg y 1), .int .i64 (dg y 2), .int .i64 (dg y 3), .int .i64 (dg y 4), .int .i64 (dg y 5), .int .i64 (dg y 6), .int .i64 (dg y 7), .int .i64 (dg y 8), .int .i64 (dg y 9)]] w' fun e w'' => e = .returned (longV (-y)) ∧ Ext w' w'' := fun w' => LMinus_c y w'
            have HMN := Lib.hid hMn
            clear hMn
            go_wp2_with fail
            refine Calls.mono (HMN.out _) ?_
            rintro e w3 ⟨rfl, hx3⟩
            have hb3 := hx3.keep HB1.out
            have hE3 := HX2.out.trans' hx3
            clear x0 x1 x2 x3 x4 x5 x6 x7 x8 x9 lx
            have z0 := (cell_of hb3 0).trans rfl
            have f0 := frozen_of hb3 0
            have z1 := (cell_of hb3 1).trans rfl
            have f1 := frozen_of hb3 1
            have z2 := (cell_of hb3 2).trans rfl
            have f2 := frozen_of hb3 2
            have z3 := (cell_of hb3 3).trans rfl
            have f3 := frozen_of hb3 3
            have z4 := (cell_of hb3 4).trans rfl
            have f4 := frozen_of hb3 4
            have z5 := (cell_of hb3 5).trans rfl
            have f5 := frozen_of hb3 5
            have z6 := (cell_of hb3 6).trans rfl
            have f6 := frozen_of hb3 6
            have z7 := (cell_of hb3 7).trans rfl
            have f7 := frozen_of hb3 7
            have z8 := (cell_of hb3 8).trans rfl
            have f8 := frozen_of hb3 8
            have z9 := (cell_of hb3 9).trans rfl
            have f9 := frozen_of hb3 9
            have lz := lt_of hb3
            have HB3 := Lib.hid hb3
            clear hb3
            unfold longV longA
            go_wp2_with fail
            refine fin10 (Φ := fun W' => Met _ _ W') HB3.out hE3 hbz (fun W' hW hEW => ?_)
            go_meet
            exact ⟨long_mk hW, hEW⟩
          case rest =>
            obtain ⟨hL, hx4⟩ := hcut
            rename World => w4
            have hLc := long_cells hL
            have x0 := hLc 0 (by decide)
            have x1 := hLc 1 (by decide)
            have x2 := hLc 2 (by decide)
            have x3 := hLc 3 (by decide)
            have x4 := hLc 4 (by decide)
            have x5 := hLc 5 (by decide)
            have x6 := hLc 6 (by decide)
            have x7 := hLc 7 (by decide)
            have x8 := hLc 8 (by decide)
            have x9 := hLc 9 (by decide)
            have lx : bx < w4.heap.size := by unfold LongAt at hL; exact lt_of hL
            have cg1 := ((bcell hx4).1 _ _ hLT.out.1).trans HRR.out.1
            have cm1 := ((bcell hx4).1 _ _ hLT.out.2.1).trans HRR.out.2.1
            have cr1 := ((bcell hx4).1 _ _ hLT.out.2.2).trans HRR.out.2.2
            have lg1 := Nat.lt_of_lt_of_le hLT.out.1 hx4.size
            have lm1 := Nat.lt_of_lt_of_le hLT.out.2.1 hx4.size
            have lr1 := Nat.lt_of_lt_of_le hLT.out.2.2 hx4.size
            have hP : ∀ w' : World, Calls Tryz.prog 151 #[longV x, .agg #[.int .i64 (dg (-y) 0), .int .i64 (dg (-y) 1), .int .i64 (dg (-y) 2), .int .i64 (dg (-y) 3), .int .i64 (dg (-y) 4), .int .i64 (dg (-y) 5), .int .i64 (dg (-y) 6), .int .i64 (dg (-y) 7), .int .i64 (dg (-y) 8), .int .i64 (dg (-y) 9)]] w' fun e w'' => e = .returned (longV (x + -y)) ∧ Ext w' w'' := fun w' => LPlus_c x (-y) w'
            have HP := Lib.hid hP
            have hIn : ∀ w' : World, Calls Tryz.prog 150 #[longV (x + -y)] w' fun e w'' => e = .returned (.tuple #[.int .i64 (fitN (x + -y)), .bool (fitB (x + -y))]) ∧ Ext w' w'' := fun w' => LInt_c _ (by have := HIN.out; first | exact this.1.1 | exact this.2.1) (by have := HIN.out; first | exact this.1.2 | exact this.2.2) w'
            have HINT := Lib.hid hIn
            have hOf : ∀ w' : World, Calls Tryz.prog 152 #[.int .i64 x] w' fun e w'' => e = .returned (longV x) ∧ Ext w' w'' := fun w' => OfInt_c x HIX.out w'
            have HOF := Lib.hid hOf
            have hfv : f k j = x + -y := by have := HFV.out; omega
            have HFV2 := Lib.hid hfv
            clear hL hLc hP hIn hOf hfv
            generalize dg (-y) = dd at *
            generalize longV x = vx at *
            generalize longV (x + -y) = vs at *
            go_wp2_with fail
            refine wp_region_after (by kernel_rfl) (by kernel_rfl) ?_
            repeat (go_big_quiet_step ((first | (go_at_call 152; exact quiet_after (HOF.out _)) | (go_at_call 151; exact quiet_after (HP.out _)) | (go_at_call 150; exact quiet_after (HINT.out _)))))
            refine wpQuiet_nil ?_
            rintro _ ⟨xx, rfl⟩
            obtain ⟨w5, hb5⟩ := xx
            try dsimp only
            have hE5 := hx4.trans' hb5
            have HOWN5 := Lib.hid (own_ext HOWN.out hE5)
            have hEo5 := hEo.trans' hE5
            clear x0 x1 x2 x3 x4 x5 x6 x7 x8 x9 lx cg1 cm1 cr1 lg1 lm1 lr1 HP HINT HOF
            by_cases hfit : I64 (f k j)
            · have hfb : fitB (x + -y) = true := by rw [← HFV2.out]; exact fitB_yes hfit
              have hfn : fitN (x + -y) = f k j := by rw [← HFV2.out]; exact fitN_yes hfit
              rw [hfb, hfn]
              have HFIT := Lib.hid hfit
              have hrs := rowF_succ f k j
              have HRS := Lib.hid hrs
              have hrl := rowF_len f k j
              have HRL := Lib.hid hrl
              have hsz5 := hEo5.size
              clear hfb hfn hfit hrs hrl
              generalize hv : f k j = v at *
              have HV := Lib.hid hv
              clear hv
              go_wp2_with (at_builtin; refine wpList_app1 w5 v (rowF f k j) u9 wo.heap.size 2 HOWN5.out 43 rfl _ _ rfl info_i64 Tryz.underlying43 (by rfl) (by rfl) ?a1 ?a2 ?_)
              case a1 => rw [HRL.out]; omega
              case a2 => exact hsz5
              intro v' w6 g1 g2 _
              have hE6 : Ext wo w6 := ext_grown hEo5 g2 (fun i hi => own_blk HOWN5.out hi)
              have G1 := Lib.hid g1
              clear g1 g2
              go_wp2
              go_roundw
              case rel =>
                refine ⟨j + 1, by omega, by go_num, by rw [HRS.out, List.length_append]; exact G1.out, hE6, fun c hc => ?_⟩
                by_cases e : c = j
                · rw [e, HV.out]; exact HFIT.out
                · exact HROW.out c (by omega)
              case measure => simp [intOf]; omega
            · have hfb : fitB (x + -y) = false := by rw [← HFV2.out]; exact fitB_no hfit
              have hno := not_all HML.out HFE.out hlt hjt hfit
              have HNO := Lib.hid hno
              have hEf := hE.trans' hEo5
              rw [hfb]
              clear hfb hfit hno
              go_wp2
              go_ret
              exact .inr ⟨HNO.out, rfl, hEf⟩
        · obtain rfl : j = W := by omega
          have hrl := rowF_len f k j
          obtain ⟨z, zc, cur, rfl, hzc, hz, hzh, hzcur⟩ := own_row1 HOWN.out (by rw [hrl]; omega)
          rw [hrl] at hzc hzcur ⊢
          obtain ⟨i0, z0, hi0, hz0, hz1, hz2, hz3⟩ := info_row
          have HMX := Lib.hid (HM.out.ext hEo)
          have HC := Lib.hid (And.intro hzc (And.intro hz (And.intro hzh hzcur)))
          have hszo := hE.size
          have hszr := hEo.size
          clear HOWN hrl hzc hz hzh hzcur hr1
          go_wp2_with (at_builtin; refine wpList_appB wr 24 (by decide) (.slice (some ⟨z, 0, none⟩) j zc) rfl ((List.range k).map (G'.row j)) u7 w.heap.size 43 HMX.out.row 159 rfl _ _ rfl i0 z0 hi0 hz0 hz1 hz2 hz3 Tryz.underlying159 (by rfl) (by rfl) ?b1 ?b2 ?_)
          case b1 => rw [List.length_map, List.length_range]; omega
          case b2 => omega
          intro v' w' g1 g2
          obtain ⟨q1, q2, q3, q4⟩ := HC.out
          have hnext := HMX.out.next q3 (fun i hi => by rw [q4 i hi, rowF_get hi]) q1 (fun r hr => HM.out.lt hr) (by omega) q2 (by rw [List.length_append, List.length_map, List.length_range]; exact g1) g2
          have hEf : Ext w w' := ext_grown (hE.trans' hEo) g2 (fun i hi => own_blk HMX.out.row hi)
          have HN := Lib.hid hnext
          clear hnext g1 g2
          go_wp2
          go_roundw
          case rel =>
            refine ⟨k + 1, _, by omega, by go_num, HN.out, hEf, fun r hr c hc => ?_⟩
            by_cases e : r = k
            · rw [e]; exact HROW.out c hc
            · exact HALL.out r (by omega) c hc
          case measure => simp [intOf]; omega
    · obtain rfl : k = R := by omega
      obtain ⟨pv, nv, cv, rfl⟩ := own_slice HM.out.row
      obtain ⟨cap3, hex, hcap3⟩ := hr.ex
      have fz := frozen_of hex 0
      have HEX := Lib.hid hex
      have hall := all_rows HML.out HFE.out (fun r hr j hj => HALL.out r hr j hj)
      have HA := Lib.hid hall
      have hgl := HH.out.ltg
      clear hr hex hall
      go_wp2
      go_ret
      have hb := (setCell_same HEX.out 0 (.slice pv nv cv)).trans rfl
      obtain ⟨m, hm, hG⟩ := (HM.out.setc hgl 0 (.slice pv nv cv)).grid (g := G.g) hb HML.out HFE.out r1 r2 w1' w2'
      refine .inl ⟨HA.out, rfl, ⟨G.g, m, G'.r, G'.c⟩, rfl, hG, ?_, (hE.mod _).trans (mod_set _ _ _ _)⟩
      rintro i (rfl | rfl | ⟨r, hr, rfl⟩)
      · exact .inl rfl
      · exact .inr hm
      · exact .inr (HM.out.new r hr)
end Go.Proofs.YtfhdjekpdifajaaGreat
namespace Go.Proofs.YtfhdjekpdifajaaGreat
set_option linter.unusedVariables false
open Go.RowKit
def RSJoinPost (w : World) (s : Nat) (G : Gr) (C : Cfg) (lv : Int) (R W : Nat) (ms : List Int) (e : Ending) (w' : World) : Prop :=
  (allI ms ∧ e = .returned (.int .i64 0) ∧ ∃ G' : Gr, RSAt w' s G' C lv R W ms ∧ (∀ k, rsF s G' R k → rsF s G R k ∨ w.heap.size ≤ k) ∧ Mod (rsF s G R) w w') ∨ (¬ allI ms ∧ e = .returned (.int .i64 4) ∧ Ext w w')
set_option maxRecDepth 20000 in
set_option maxHeartbeats 8000000 in
theorem RSJoinPlus_c (s s2 : Nat) (G G2 : Gr) (C : Cfg) (lv : Int) (R W : Nat) (l l2 : List Int) (w : World) (h : RSAt w s G C lv R W l) (h2 : RSAt w s2 G2 C lv R W l2) (hmd : "Plus" = "Minus" → C.mode ≠ 2) :
    Calls Tryz.prog 114 #[.pointer (some ⟨s, 0, none⟩), .pointer (some ⟨s2, 0, none⟩), .int .i64 1] w (RSJoinPost w s G C lv R W (plusL l l2)) := by
  have HH := Lib.hid h
  have HH2 := Lib.hid h2
  have ls := h.lts
  have hex := h.ex
  have c0 := (cell_of hex 0).trans rfl
  have c1 := (cell_of hex 1).trans rfl
  have c2 := (cell_of hex 2).trans rfl
  have c3 := (cell_of hex 3).trans rfl
  have c4 := (cell_of hex 4).trans rfl
  have c5 := (cell_of hex 5).trans rfl
  have ls2 := h2.lts
  have hex2 := h2.ex
  have d0 := (cell_of hex2 0).trans rfl
  have d1 := (cell_of hex2 1).trans rfl
  have d2 := (cell_of hex2 2).trans rfl
  have d3 := (cell_of hex2 3).trans rfl
  have d4 := (cell_of hex2 4).trans rfl
  have d5 := (cell_of hex2 5).trans rfl
  clear hex hex2 h h2 hmd
  go_enter Tryz.func114, Tryz.ntmps114
  go_wp2_with fail
  have hC0 := af_drew w
  refine pi_start (fun w' => ∃ z : After w, w' = z.w) [] (by kernel_rfl) ?_
  refine pi_t 0 rfl (by kernel_rfl) (by kernel_rfl) (fun _ _ _ _ h => h) (fun K hK => ?_)
  go_big_quiet_op
  refine hK _ ?_
  clear hK K
  refine pi_t 1 rfl (by kernel_rfl) (by kernel_rfl) (fun _ _ _ _ h => h) (fun K hK => ?_)
  go_big_quiet_op
  refine hK _ ?_
  clear hK K
  refine pi_t 2 rfl (by kernel_rfl) (by kernel_rfl) (fun _ _ _ _ h => h) (fun K hK => ?_)
  go_big_quiet_op
  refine hK _ ?_
  clear hK K
  refine pi_t 4 rfl (by kernel_rfl) (by kernel_rfl) (fun _ _ _ _ h => h) (fun K hK => ?_)
  go_big_quiet_op
  refine hK _ ?_
  clear hK K
  refine pi_t 5 rfl (by kernel_rfl) (by kernel_rfl) (fun _ _ _ _ h => h) (fun K hK => ?_)
  go_big_quiet_op
  refine hK _ ?_
  clear hK K
  refine pi_t 6 rfl (by kernel_rfl) (by kernel_rfl) (fun _ _ _ _ h => h) (fun K hK => ?_)
  go_big_quiet_op
  refine hK _ ?_
  clear hK K
  refine pi_c 3 (by assumption) rfl (by kernel_rfl) (by kernel_rfl) (fun _ _ _ _ h => h) (fun K hK => ?_)
  go_big_quiet_op
  refine hK _ ?_
  clear hK K
  refine pi_c 7 (by assumption) rfl (by kernel_rfl) (by kernel_rfl) (fun _ _ _ _ h => h) (fun K hK => ?_)
  go_big_quiet_op
  refine hK _ ?_
  clear hK K
  refine pi_t 8 rfl (by kernel_rfl) (by kernel_rfl) (fun _ _ _ _ h => h) (fun K hK => ?_)
  go_big_quiet_op
  refine hK _ ?_
  clear hK K
  refine pi_t 9 rfl (by kernel_rfl) (by kernel_rfl) (fun _ _ _ _ h => h) (fun K hK => ?_)
  go_big_quiet_op
  refine hK _ ?_
  clear hK K
  refine pi_t 10 rfl (by kernel_rfl) (by kernel_rfl) (fun _ _ _ _ h => h) (fun K hK => ?_)
  go_big_quiet_op
  refine hK _ ?_
  clear hK K
  refine pi_t 11 rfl (by kernel_rfl) (by kernel_rfl) (fun _ _ _ _ h => h) (fun K hK => ?_)
  go_big_quiet_op
  refine hK _ ?_
  clear hK K
  refine pi_t 12 rfl (by kernel_rfl) (by kernel_rfl) (fun _ _ _ _ h => h) (fun K hK => ?_)
  go_big_quiet_op
  refine hK _ ?_
  clear hK K
  refine pi_t 14 rfl (by kernel_rfl) (by kernel_rfl) (fun _ _ _ _ h => h) (fun K hK => ?_)
  go_big_quiet_op
  refine hK _ ?_
  clear hK K
  refine pi_t 15 rfl (by kernel_rfl) (by kernel_rfl) (fun _ _ _ _ h => h) (fun K hK => ?_)
  go_big_quiet_op
  refine hK _ ?_
  clear hK K
  refine pi_t 16 rfl (by kernel_rfl) (by kernel_rfl) (fun _ _ _ _ h => h) (fun K hK => ?_)
  go_big_quiet_op
  refine hK _ ?_
  clear hK K
  refine pi_c 13 (by assumption) rfl (by kernel_rfl) (by kernel_rfl) (fun _ _ _ _ h => h) (fun K hK => ?_)
  go_big_quiet_op
  refine hK _ ?_
  clear hK K
  refine pi_c 17 (by assumption) rfl (by kernel_rfl) (by kernel_rfl) (fun _ _ _ _ h => h) (fun K hK => ?_)
  go_big_quiet_op
  refine hK _ ?_
  clear hK K
  refine pi_t 18 rfl (by kernel_rfl) (by kernel_rfl) (fun _ _ _ _ h => h) (fun K hK => ?_)
  go_big_quiet_op
  refine hK _ ?_
  clear hK K
  refine pi_t 19 rfl (by kernel_rfl) (by kernel_rfl) (fun _ _ _ _ h => h) (fun K hK => ?_)
  go_big_quiet_op
  refine hK _ ?_
  clear hK K
  refine pi_end (by kernel_rfl) ?_
  have hE1 : Ext w w.drew := Below.drew (Ext.refl w)
  have HG := Lib.hid (fun W' (hW : Ext w W') => RGJoinPlus_c G G2 R W l l2 W' (HH.out.g.ext hW) (HH2.out.g.ext hW) HH.out.fit HH2.out.fit)
  have hex1 := HH.out.ex
  have hex2 := HH2.out.ex
  have c6 := (cell_of hex1 6).trans rfl
  have d6 := (cell_of hex2 6).trans rfl
  clear hex1 hex2
  go_wp2_with fail
  have hC0 : ∃ z : After w, w.drew.drew = z.w := ⟨⟨_, (Ext.refl w).drewR.drewR⟩, rfl⟩
  refine pi_start (fun w' => ∃ z : After w, w' = z.w) [9] (by kernel_rfl) ?_
  refine pi_t 0 rfl (by kernel_rfl) (by kernel_rfl) (fun _ _ _ _ h => h) (fun K hK => ?_)
  go_big_quiet_op
  refine hK _ ?_
  clear hK K
  refine pi_t 1 rfl (by kernel_rfl) (by kernel_rfl) (fun _ _ _ _ h => h) (fun K hK => ?_)
  go_big_quiet_op
  refine hK _ ?_
  clear hK K
  refine pi_t 2 rfl (by kernel_rfl) (by kernel_rfl) (fun _ _ _ _ h => h) (fun K hK => ?_)
  go_big_quiet_op
  refine hK _ ?_
  clear hK K
  refine pi_t 4 rfl (by kernel_rfl) (by kernel_rfl) (fun _ _ _ _ h => h) (fun K hK => ?_)
  go_big_quiet_op
  refine hK _ ?_
  clear hK K
  refine pi_t 5 rfl (by kernel_rfl) (by kernel_rfl) (fun _ _ _ _ h => h) (fun K hK => ?_)
  go_big_quiet_op
  refine hK _ ?_
  clear hK K
  refine pi_t 6 rfl (by kernel_rfl) (by kernel_rfl) (fun _ _ _ _ h => h) (fun K hK => ?_)
  go_big_quiet_op
  refine hK _ ?_
  clear hK K
  refine pi_t 8 rfl (by kernel_rfl) (by kernel_rfl) (fun _ _ _ _ h => h) (fun K hK => ?_)
  go_big_quiet_op
  refine hK _ ?_
  clear hK K
  refine pi_c 3 (by assumption) rfl (by kernel_rfl) (by kernel_rfl) (fun _ _ _ _ h => h) (fun K hK => ?_)
  go_big_quiet_op
  refine hK _ ?_
  clear hK K
  refine pi_c 7 (by assumption) rfl (by kernel_rfl) (by kernel_rfl) (fun _ _ _ _ h => h) (fun K hK => ?_)
  go_big_quiet_op
  refine hK _ ?_
  clear hK K
  refine pi_l 9 rfl (by kernel_rfl) (fun K hK => ?_)
  go_wp2_with (go_at_call 165; refine Calls.mono (HG.out _ (Ext.refl w).drewR.drewR) ?_; rintro e w1 (⟨ha, rfl, G', hg', hG', hF', hM'⟩ | ⟨ha, rfl, hx'⟩))
  · refine hK _ _ (by simp) ?_
    clear hK K
    have HA := Lib.hid ha
    have HGG := Lib.hid hg'
    have HG' := Lib.hid hG'
    have HF' := Lib.hid hF'
    have hM2 : Mod (fun k => k = G.g) w w1 := ((Ext.refl w).drewR.drewR.mod _).trans hM'
    clear ha hg' hG' hF' hM'
    refine pi_t 10 rfl (by kernel_rfl) (by kernel_rfl) (fun _ _ _ _ h => h) (fun K hK => ?_)
    go_big_quiet_op
    refine hK _ ?_
    clear hK K
    refine pi_end (by kernel_rfl) ?_
    go_wp2
    go_ret
    refine .inl ⟨HA.out, rfl, G', ⟨?_, HG'.out, HH.out.ok, HH.out.lo, HH.out.hi, HH.out.hr, HH.out.hw, HA.out⟩, ?_, hM2.wider (fun k hk => .inr (.inl hk))⟩
    · rw [HGG.out, hM2.block s ls (fun e => HH.out.ns (.inl e))]; exact HH.out.ex
    · rintro k (rfl | hk)
      · exact .inl (.inl rfl)
      · rcases HF'.out k hk with h1 | h1
        · exact .inl (.inr (.inl h1))
        · exact .inr h1
  · refine hK _ _ (by simp) ?_
    clear hK K
    have HA := Lib.hid ha
    have hE2 : Ext w w1 := (Ext.refl w).drewR.drewR.trans' hx'
    clear ha hx'
    refine pi_t 10 rfl (by kernel_rfl) (by kernel_rfl) (fun _ _ _ _ h => h) (fun K hK => ?_)
    go_big_quiet_op
    refine hK _ ?_
    clear hK K
    refine pi_end (by kernel_rfl) ?_
    go_wp2
    go_ret
    exact .inr ⟨HA.out, rfl, hE2⟩
set_option maxRecDepth 20000 in
set_option maxHeartbeats 8000000 in
theorem RSJoinMinus_c (s s2 : Nat) (G G2 : Gr) (C : Cfg) (lv : Int) (R W : Nat) (l l2 : List Int) (w : World) (h : RSAt w s G C lv R W l) (h2 : RSAt w s2 G2 C lv R W l2) (hmd : "Minus" = "Minus" → C.mode ≠ 2) :
    Calls Tryz.prog 114 #[.pointer (some ⟨s, 0, none⟩), .pointer (some ⟨s2, 0, none⟩), .int .i64 (-1)] w (RSJoinPost w s G C lv R W (minusL l l2)) := by
  have HH := Lib.hid h
  have HH2 := Lib.hid h2
  have ls := h.lts
  have hex := h.ex
  have c0 := (cell_of hex 0).trans rfl
  have c1 := (cell_of hex 1).trans rfl
  have c2 := (cell_of hex 2).trans rfl
  have c3 := (cell_of hex 3).trans rfl
  have c4 := (cell_of hex 4).trans rfl
  have c5 := (cell_of hex 5).trans rfl
  have ls2 := h2.lts
  have hex2 := h2.ex
  have d0 := (cell_of hex2 0).trans rfl
  have d1 := (cell_of hex2 1).trans rfl
  have d2 := (cell_of hex2 2).trans rfl
  have d3 := (cell_of hex2 3).trans rfl
  have d4 := (cell_of hex2 4).trans rfl
  have d5 := (cell_of hex2 5).trans rfl
  have hmm : (C.mode == 2) = false := by have := hmd rfl; simpa using this
  clear hex hex2 h h2 hmd
  go_enter Tryz.func114, Tryz.ntmps114
  go_wp2_with fail
  have hC0 := af_drew w
  refine pi_start (fun w' => ∃ z : After w, w' = z.w) [] (by kernel_rfl) ?_
  refine pi_t 0 rfl (by kernel_rfl) (by kernel_rfl) (fun _ _ _ _ h => h) (fun K hK => ?_)
  go_big_quiet_op
  refine hK _ ?_
  clear hK K
  refine pi_t 1 rfl (by kernel_rfl) (by kernel_rfl) (fun _ _ _ _ h => h) (fun K hK => ?_)
  go_big_quiet_op
  refine hK _ ?_
  clear hK K
  refine pi_t 2 rfl (by kernel_rfl) (by kernel_rfl) (fun _ _ _ _ h => h) (fun K hK => ?_)
  go_big_quiet_op
  refine hK _ ?_
  clear hK K
  refine pi_t 4 rfl (by kernel_rfl) (by kernel_rfl) (fun _ _ _ _ h => h) (fun K hK => ?_)
  go_big_quiet_op
  refine hK _ ?_
  clear hK K
  refine pi_t 5 rfl (by kernel_rfl) (by kernel_rfl) (fun _ _ _ _ h => h) (fun K hK => ?_)
  go_big_quiet_op
  refine hK _ ?_
  clear hK K
  refine pi_t 6 rfl (by kernel_rfl) (by kernel_rfl) (fun _ _ _ _ h => h) (fun K hK => ?_)
  go_big_quiet_op
  refine hK _ ?_
  clear hK K
  refine pi_c 3 (by assumption) rfl (by kernel_rfl) (by kernel_rfl) (fun _ _ _ _ h => h) (fun K hK => ?_)
  go_big_quiet_op
  refine hK _ ?_
  clear hK K
  refine pi_c 7 (by assumption) rfl (by kernel_rfl) (by kernel_rfl) (fun _ _ _ _ h => h) (fun K hK => ?_)
  go_big_quiet_op
  refine hK _ ?_
  clear hK K
  refine pi_t 8 rfl (by kernel_rfl) (by kernel_rfl) (fun _ _ _ _ h => h) (fun K hK => ?_)
  go_big_quiet_op
  refine hK _ ?_
  clear hK K
  refine pi_t 9 rfl (by kernel_rfl) (by kernel_rfl) (fun _ _ _ _ h => h) (fun K hK => ?_)
  go_big_quiet_op
  refine hK _ ?_
  clear hK K
  refine pi_t 10 rfl (by kernel_rfl) (by kernel_rfl) (fun _ _ _ _ h => h) (fun K hK => ?_)
  go_big_quiet_op
  refine hK _ ?_
  clear hK K
  refine pi_t 11 rfl (by kernel_rfl) (by kernel_rfl) (fun _ _ _ _ h => h) (fun K hK => ?_)
  go_big_quiet_op
  refine hK _ ?_
  clear hK K
  refine pi_t 12 rfl (by kernel_rfl) (by kernel_rfl) (fun _ _ _ _ h => h) (fun K hK => ?_)
  go_big_quiet_op
  refine hK _ ?_
  clear hK K
  refine pi_t 14 rfl (by kernel_rfl) (by kernel_rfl) (fun _ _ _ _ h => h) (fun K hK => ?_)
  go_big_quiet_op
  refine hK _ ?_
  clear hK K
  refine pi_t 15 rfl (by kernel_rfl) (by kernel_rfl) (fun _ _ _ _ h => h) (fun K hK => ?_)
  go_big_quiet_op
  refine hK _ ?_
  clear hK K
  refine pi_t 16 rfl (by kernel_rfl) (by kernel_rfl) (fun _ _ _ _ h => h) (fun K hK => ?_)
  go_big_quiet_op
  refine hK _ ?_
  clear hK K
  refine pi_c 13 (by assumption) rfl (by kernel_rfl) (by kernel_rfl) (fun _ _ _ _ h => h) (fun K hK => ?_)
  go_big_quiet_op
  refine hK _ ?_
  clear hK K
  refine pi_c 17 (by assumption) rfl (by kernel_rfl) (by kernel_rfl) (fun _ _ _ _ h => h) (fun K hK => ?_)
  go_big_quiet_op
  refine hK _ ?_
  clear hK K
  refine pi_t 18 rfl (by kernel_rfl) (by kernel_rfl) (fun _ _ _ _ h => h) (fun K hK => ?_)
  go_big_quiet_op
  refine hK _ ?_
  clear hK K
  refine pi_t 19 rfl (by kernel_rfl) (by kernel_rfl) (fun _ _ _ _ h => h) (fun K hK => ?_)
  go_big_quiet_op
  refine hK _ ?_
  clear hK K
  refine pi_end (by kernel_rfl) ?_
  have hE1 : Ext w w.drew := Below.drew (Ext.refl w)
  have HG := Lib.hid (fun W' (hW : Ext w W') => RGJoinMinus_c G G2 R W l l2 W' (HH.out.g.ext hW) (HH2.out.g.ext hW) HH.out.fit HH2.out.fit)
  have hex1 := HH.out.ex
  have hex2 := HH2.out.ex
  have c6 := (cell_of hex1 6).trans rfl
  have d6 := (cell_of hex2 6).trans rfl
  clear hex1 hex2
  go_wp2_with fail
  have hC0 : ∃ z : After w, w.drew.drew = z.w := ⟨⟨_, (Ext.refl w).drewR.drewR⟩, rfl⟩
  refine pi_start (fun w' => ∃ z : After w, w' = z.w) [9] (by kernel_rfl) ?_
  refine pi_t 0 rfl (by kernel_rfl) (by kernel_rfl) (fun _ _ _ _ h => h) (fun K hK => ?_)
  go_big_quiet_op
  refine hK _ ?_
  clear hK K
  refine pi_t 1 rfl (by kernel_rfl) (by kernel_rfl) (fun _ _ _ _ h => h) (fun K hK => ?_)
  go_big_quiet_op
  refine hK _ ?_
  clear hK K
  refine pi_t 2 rfl (by kernel_rfl) (by kernel_rfl) (fun _ _ _ _ h => h) (fun K hK => ?_)
  go_big_quiet_op
  refine hK _ ?_
  clear hK K
  refine pi_t 4 rfl (by kernel_rfl) (by kernel_rfl) (fun _ _ _ _ h => h) (fun K hK => ?_)
  go_big_quiet_op
  refine hK _ ?_
  clear hK K
  refine pi_t 5 rfl (by kernel_rfl) (by kernel_rfl) (fun _ _ _ _ h => h) (fun K hK => ?_)
  go_big_quiet_op
  refine hK _ ?_
  clear hK K
  refine pi_t 6 rfl (by kernel_rfl) (by kernel_rfl) (fun _ _ _ _ h => h) (fun K hK => ?_)
  go_big_quiet_op
  refine hK _ ?_
  clear hK K
  refine pi_t 8 rfl (by kernel_rfl) (by kernel_rfl) (fun _ _ _ _ h => h) (fun K hK => ?_)
  go_big_quiet_op
  refine hK _ ?_
  clear hK K
  refine pi_c 3 (by assumption) rfl (by kernel_rfl) (by kernel_rfl) (fun _ _ _ _ h => h) (fun K hK => ?_)
  go_big_quiet_op
  refine hK _ ?_
  clear hK K
  refine pi_c 7 (by assumption) rfl (by kernel_rfl) (by kernel_rfl) (fun _ _ _ _ h => h) (fun K hK => ?_)
  go_big_quiet_op
  refine hK _ ?_
  clear hK K
  refine pi_l 9 rfl (by kernel_rfl) (fun K hK => ?_)
  go_wp2_with (go_at_call 165; refine Calls.mono (HG.out _ (Ext.refl w).drewR.drewR) ?_; rintro e w1 (⟨ha, rfl, G', hg', hG', hF', hM'⟩ | ⟨ha, rfl, hx'⟩))
  · refine hK _ _ (by simp) ?_
    clear hK K
    have HA := Lib.hid ha
    have HGG := Lib.hid hg'
    have HG' := Lib.hid hG'
    have HF' := Lib.hid hF'
    have hM2 : Mod (fun k => k = G.g) w w1 := ((Ext.refl w).drewR.drewR.mod _).trans hM'
    clear ha hg' hG' hF' hM'
    refine pi_t 10 rfl (by kernel_rfl) (by kernel_rfl) (fun _ _ _ _ h => h) (fun K hK => ?_)
    go_big_quiet_op
    refine hK _ ?_
    clear hK K
    refine pi_end (by kernel_rfl) ?_
    go_wp2
    go_ret
    refine .inl ⟨HA.out, rfl, G', ⟨?_, HG'.out, HH.out.ok, HH.out.lo, HH.out.hi, HH.out.hr, HH.out.hw, HA.out⟩, ?_, hM2.wider (fun k hk => .inr (.inl hk))⟩
    · rw [HGG.out, hM2.block s ls (fun e => HH.out.ns (.inl e))]; exact HH.out.ex
    · rintro k (rfl | hk)
      · exact .inl (.inl rfl)
      · rcases HF'.out k hk with h1 | h1
        · exact .inl (.inr (.inl h1))
        · exact .inr h1
  · refine hK _ _ (by simp) ?_
    clear hK K
    have HA := Lib.hid ha
    have hE2 : Ext w w1 := (Ext.refl w).drewR.drewR.trans' hx'
    clear ha hx'
    refine pi_t 10 rfl (by kernel_rfl) (by kernel_rfl) (fun _ _ _ _ h => h) (fun K hK => ?_)
    go_big_quiet_op
    refine hK _ ?_
    clear hK K
    refine pi_end (by kernel_rfl) ?_
    go_wp2
    go_ret
    exact .inr ⟨HA.out, rfl, hE2⟩
set_option maxRecDepth 20000 in
set_option maxHeartbeats 8000000 in
/-- In the mode Conservative nothing is taken away. -/
theorem RSJoin_mode (s s2 : Nat) (G G2 : Gr) (C : Cfg) (lv : Int) (R W : Nat) (l l2 : List Int) (w : World) (h : RSAt w s G C lv R W l) (h2 : RSAt w s2 G2 C lv R W l2) (hmd : C.mode = 2) :
    Calls Tryz.prog 114 #[.pointer (some ⟨s, 0, none⟩), .pointer (some ⟨s2, 0, none⟩), .int .i64 (-1)] w fun e w' => e = .returned (.int .i64 3) ∧ Ext w w' := by
  have ls := h.lts
  have hex := h.ex
  have c0 := (cell_of hex 0).trans rfl
  have c1 := (cell_of hex 1).trans rfl
  have c2 := (cell_of hex 2).trans rfl
  have c3 := (cell_of hex 3).trans rfl
  have c4 := (cell_of hex 4).trans rfl
  have c5 := (cell_of hex 5).trans rfl
  have ls2 := h2.lts
  have hex2 := h2.ex
  have d0 := (cell_of hex2 0).trans rfl
  have d1 := (cell_of hex2 1).trans rfl
  have d2 := (cell_of hex2 2).trans rfl
  have d3 := (cell_of hex2 3).trans rfl
  have d4 := (cell_of hex2 4).trans rfl
  have d5 := (cell_of hex2 5).trans rfl
  have hmm : (C.mode == 2) = true := by simpa using hmd
  clear hex hex2 h h2 hmd
  go_enter Tryz.func114, Tryz.ntmps114
  go_wp2_with fail
  have hC0 := af_drew w
  refine pi_start (fun w' => ∃ z : After w, w' = z.w) [] (by kernel_rfl) ?_
  refine pi_t 0 rfl (by kernel_rfl) (by kernel_rfl) (fun _ _ _ _ h => h) (fun K hK => ?_)
  go_big_quiet_op
  refine hK _ ?_
  clear hK K
  refine pi_t 1 rfl (by kernel_rfl) (by kernel_rfl) (fun _ _ _ _ h => h) (fun K hK => ?_)
  go_big_quiet_op
  refine hK _ ?_
  clear hK K
  refine pi_t 2 rfl (by kernel_rfl) (by kernel_rfl) (fun _ _ _ _ h => h) (fun K hK => ?_)
  go_big_quiet_op
  refine hK _ ?_
  clear hK K
  refine pi_t 4 rfl (by kernel_rfl) (by kernel_rfl) (fun _ _ _ _ h => h) (fun K hK => ?_)
  go_big_quiet_op
  refine hK _ ?_
  clear hK K
  refine pi_t 5 rfl (by kernel_rfl) (by kernel_rfl) (fun _ _ _ _ h => h) (fun K hK => ?_)
  go_big_quiet_op
  refine hK _ ?_
  clear hK K
  refine pi_t 6 rfl (by kernel_rfl) (by kernel_rfl) (fun _ _ _ _ h => h) (fun K hK => ?_)
  go_big_quiet_op
  refine hK _ ?_
  clear hK K
  refine pi_c 3 (by assumption) rfl (by kernel_rfl) (by kernel_rfl) (fun _ _ _ _ h => h) (fun K hK => ?_)
  go_big_quiet_op
  refine hK _ ?_
  clear hK K
  refine pi_c 7 (by assumption) rfl (by kernel_rfl) (by kernel_rfl) (fun _ _ _ _ h => h) (fun K hK => ?_)
  go_big_quiet_op
  refine hK _ ?_
  clear hK K
  refine pi_t 8 rfl (by kernel_rfl) (by kernel_rfl) (fun _ _ _ _ h => h) (fun K hK => ?_)
  go_big_quiet_op
  refine hK _ ?_
  clear hK K
  refine pi_t 9 rfl (by kernel_rfl) (by kernel_rfl) (fun _ _ _ _ h => h) (fun K hK => ?_)
  go_big_quiet_op
  refine hK _ ?_
  clear hK K
  refine pi_t 10 rfl (by kernel_rfl) (by kernel_rfl) (fun _ _ _ _ h => h) (fun K hK => ?_)
  go_big_quiet_op
  refine hK _ ?_
  clear hK K
  refine pi_t 11 rfl (by kernel_rfl) (by kernel_rfl) (fun _ _ _ _ h => h) (fun K hK => ?_)
  go_big_quiet_op
  refine hK _ ?_
  clear hK K
  refine pi_t 12 rfl (by kernel_rfl) (by kernel_rfl) (fun _ _ _ _ h => h) (fun K hK => ?_)
  go_big_quiet_op
  refine hK _ ?_
  clear hK K
  refine pi_t 14 rfl (by kernel_rfl) (by kernel_rfl) (fun _ _ _ _ h => h) (fun K hK => ?_)
  go_big_quiet_op
  refine hK _ ?_
  clear hK K
  refine pi_t 15 rfl (by kernel_rfl) (by kernel_rfl) (fun _ _ _ _ h => h) (fun K hK => ?_)
  go_big_quiet_op
  refine hK _ ?_
  clear hK K
  refine pi_t 16 rfl (by kernel_rfl) (by kernel_rfl) (fun _ _ _ _ h => h) (fun K hK => ?_)
  go_big_quiet_op
  refine hK _ ?_
  clear hK K
  refine pi_c 13 (by assumption) rfl (by kernel_rfl) (by kernel_rfl) (fun _ _ _ _ h => h) (fun K hK => ?_)
  go_big_quiet_op
  refine hK _ ?_
  clear hK K
  refine pi_c 17 (by assumption) rfl (by kernel_rfl) (by kernel_rfl) (fun _ _ _ _ h => h) (fun K hK => ?_)
  go_big_quiet_op
  refine hK _ ?_
  clear hK K
  refine pi_t 18 rfl (by kernel_rfl) (by kernel_rfl) (fun _ _ _ _ h => h) (fun K hK => ?_)
  go_big_quiet_op
  refine hK _ ?_
  clear hK K
  refine pi_t 19 rfl (by kernel_rfl) (by kernel_rfl) (fun _ _ _ _ h => h) (fun K hK => ?_)
  go_big_quiet_op
  refine hK _ ?_
  clear hK K
  refine pi_end (by kernel_rfl) ?_
  have hE1 : Ext w w.drew := Below.drew (Ext.refl w)
  go_wp2
  go_ret
  exact ⟨rfl, hE1⟩
end Go.Proofs.YtfhdjekpdifajaaGreat
namespace Go.Proofs.YtfhdjekpdifajaaGreat
set_option linter.unusedVariables false
open Go.RowKit
structure Own4 (N : Nat) (w : World) (F1 F2 F3 F4 : Nat → Prop) (P1 P2 P3 P4 : World → Prop) : Prop where
  o1 : Own F1 P1 w
  o2 : Own F2 P2 w
  o3 : Own F3 P3 w
  o4 : Own F4 P4 w
  d12 : Dj F1 F2
  d13 : Dj F1 F3
  d14 : Dj F1 F4
  d23 : Dj F2 F3
  d24 : Dj F2 F4
  d34 : Dj F3 F4
  n1 : ∀ k, F1 k → N ≤ k
  n2 : ∀ k, F2 k → N ≤ k
  n3 : ∀ k, F3 k → N ≤ k
  n4 : ∀ k, F4 k → N ≤ k
  nw : N ≤ w.heap.size
section
variable {N : Nat} {w w' : World} {F1 F2 F3 F4 : Nat → Prop} {P1 P2 P3 P4 : World → Prop}
theorem Own4.swap (h : Own4 N w F1 F2 F3 F4 P1 P2 P3 P4) : Own4 N w F2 F1 F3 F4 P2 P1 P3 P4 :=
  ⟨h.o2, h.o1, h.o3, h.o4, h.d12.symm, h.d23, h.d24, h.d13, h.d14, h.d34, h.n2, h.n1, h.n3, h.n4, h.nw⟩
theorem Own4.rot (h : Own4 N w F1 F2 F3 F4 P1 P2 P3 P4) : Own4 N w F3 F4 F1 F2 P3 P4 P1 P2 :=
  ⟨h.o3, h.o4, h.o1, h.o2, h.d34, h.d13.symm, h.d23.symm, h.d14.symm, h.d24.symm, h.d12, h.n3, h.n4, h.n1, h.n2, h.nw⟩
theorem Own4.swap2 (h : Own4 N w F1 F2 F3 F4 P1 P2 P3 P4) : Own4 N w F1 F2 F4 F3 P1 P2 P4 P3 := h.rot.swap.rot
theorem Own4.ext (h : Own4 N w F1 F2 F3 F4 P1 P2 P3 P4) (he : Ext w w') : Own4 N w' F1 F2 F3 F4 P1 P2 P3 P4 :=
  ⟨h.o1.ext he, h.o2.ext he, h.o3.ext he, h.o4.ext he, h.d12, h.d13, h.d14, h.d23, h.d24, h.d34, h.n1, h.n2, h.n3, h.n4, Nat.le_trans h.nw he.size⟩
/-- The first is changed, or put anew. -/
theorem Own4.step {F1' S : Nat → Prop} {P1' : World → Prop} (h : Own4 N w F1 F2 F3 F4 P1 P2 P3 P4) (hm : Mod S w w') (hS : ∀ k, S k → F1 k) (h1 : Own F1' P1' w') (hF : ∀ k, F1' k → F1 k ∨ w.heap.size ≤ k) : Own4 N w' F1' F2 F3 F4 P1' P2 P3 P4 := by
  refine ⟨h1, h.o2.mod hm (fun k hk hs => h.d12 k (hS k hs) hk), h.o3.mod hm (fun k hk hs => h.d13 k (hS k hs) hk), h.o4.mod hm (fun k hk hs => h.d14 k (hS k hs) hk), ?_, ?_, ?_, h.d23, h.d24, h.d34, fun k hk => ?_, h.n2, h.n3, h.n4, Nat.le_trans h.nw hm.size⟩
  · exact (h.o2.grow h.d12.symm hF).symm
  · exact (h.o3.grow h.d13.symm hF).symm
  · exact (h.o4.grow h.d14.symm hF).symm
  · rcases hF k hk with h2 | h2
    · exact h.n1 k h2
    · exact Nat.le_trans h.nw h2
theorem Own4.low {S : Nat → Prop} (h : Own4 N w F1 F2 F3 F4 P1 P2 P3 P4) (hm : Mod S w w') (hS : ∀ k, S k → F1 k) : Below N w w' := hm.below h.nw (fun k hk => h.n1 k (hS k hk))
end
theorem below_of {N : Nat} {w w' : World} (h : Ext w w') (hN : N ≤ w.heap.size) : Below N w w' := ⟨h.os, h.tape, h.output, h.size, fun k hk => h.block k (Nat.lt_of_lt_of_le hk hN)⟩
theorem cell_below {N : Nat} {w w' : World} (h : Below N w w') {b o : Nat} {v : Value} (hb : b < N) (hc : w.cell? ⟨b, o, none⟩ = some v) : w'.cell? ⟨b, o, none⟩ = some v := (h.cell (p := ⟨b, o, none⟩) hb).trans hc
theorem Own4.mk4 {N z1 z2 z3 : Nat} {w : World} {F1 F2 F3 F4 : Nat → Prop} {P1 P2 P3 P4 : World → Prop} (o1 : Own F1 P1 w) (o2 : Own F2 P2 w) (o3 : Own F3 P3 w) (o4 : Own F4 P4 w)
    (b1 : ∀ k, F1 k → N ≤ k ∧ k < z1) (b2 : ∀ k, F2 k → z1 ≤ k ∧ k < z2) (b3 : ∀ k, F3 k → z2 ≤ k ∧ k < z3) (b4 : ∀ k, F4 k → z3 ≤ k) (h1 : N ≤ z1) (h2 : z1 ≤ z2) (h3 : z2 ≤ z3) (hw : N ≤ w.heap.size) : Own4 N w F1 F2 F3 F4 P1 P2 P3 P4 :=
  ⟨o1, o2, o3, o4, fun k h h' => by have := b1 k h; have := b2 k h'; omega, fun k h h' => by have := b1 k h; have := b3 k h'; omega, fun k h h' => by have := b1 k h; have := b4 k h'; omega, fun k h h' => by have := b2 k h; have := b3 k h'; omega, fun k h h' => by have := b2 k h; have := b4 k h'; omega, fun k h h' => by have := b3 k h; have := b4 k h'; omega,
    fun k h => (b1 k h).1, fun k h => by have := b2 k h; omega, fun k h => by have := b3 k h; omega, fun k h => by have := b4 k h; omega, hw⟩
end Go.Proofs.YtfhdjekpdifajaaGreat
namespace Go.Proofs.YtfhdjekpdifajaaGreat
set_option linter.unusedVariables false
open Go.RowKit
def sF (s b c : Nat) (k : Nat) : Prop := k = s ∨ k = b ∨ k = c
theorem SAt.own {w : World} {s b c : Nat} {C : Cfg} {lv : Int} {R W : Nat} {l : List Int} (h : SAt w s b c C lv R W l) : Own (sF s b c) (fun w => SAt w s b c C lv R W l) w :=
  ⟨h, fun w w' h hk => h.keep (hk s (.inl rfl)) (hk b (.inr (.inl rfl))) (hk c (.inr (.inr rfl))), fun k hk => by
    rcases hk with rfl | rfl | rfl
    · exact h.lts
    · exact h.g.ltb
    · exact h.g.ltc⟩
set_option maxRecDepth 20000 in
set_option maxHeartbeats 2000000 in
theorem SPoint_no (s b c : Nat) (C : Cfg) (lv : Int) (R W : Nat) (l : List Int) (key : Int) (w : World) (h : SAt w s b c C lv R W l) (hk1 : keys C lv ≤ key) :
    Calls Tryz.prog 252 #[.pointer (some ⟨s, 0, none⟩), .int .u64 key] w fun e w' => e = .returned (.tuple #[.int .i64 0, .int .i64 2]) ∧ Ext w w' := by
  have hlt := h.lts
  have c0 := (cell_of h.ex 0).trans rfl
  have c1 := (cell_of h.ex 1).trans rfl
  have c2 := (cell_of h.ex 2).trans rfl
  have c3 := (cell_of h.ex 3).trans rfl
  have c4 := (cell_of h.ex 4).trans rfl
  have c5 := (cell_of h.ex 5).trans rfl
  have c6 := (cell_of h.ex 6).trans rfl
  have hnil := fun (x : World) (p : Option Addr) (n k : Nat) => Lib.run_eql_slice_nil (P := Tryz.prog) x 250 3 p n k 0 0 Tryz.underlying250
  go_enter Tryz.func252, Tryz.ntmps252
  go_wp2
  have hC0 := af_drew w
  refine pi_start (fun w' => ∃ x : After w, w' = x.w) [] (by kernel_rfl) ?_
  refine pi_t 0 rfl (by kernel_rfl) (by kernel_rfl) (fun _ _ _ _ h => h) (fun K hK => ?_)
  go_big_quiet_op
  refine hK _ ?_
  clear hK K
  refine pi_t 1 rfl (by kernel_rfl) (by kernel_rfl) (fun _ _ _ _ h => h) (fun K hK => ?_)
  go_big_quiet_op
  refine hK _ ?_
  clear hK K
  refine pi_t 2 rfl (by kernel_rfl) (by kernel_rfl) (fun _ _ _ _ h => h) (fun K hK => ?_)
  go_big_quiet_op
  refine hK _ ?_
  clear hK K
  refine pi_c 3 (by assumption) rfl (by kernel_rfl) (by kernel_rfl) (fun _ _ _ _ h => h) (fun K hK => ?_)
  go_big_quiet_op
  refine hK _ ?_
  clear hK K
  refine pi_t 4 rfl (by kernel_rfl) (by kernel_rfl) (fun _ _ _ _ h => h) (fun K hK => ?_)
  go_big_quiet_op
  refine hK _ ?_
  clear hK K
  refine pi_t 5 rfl (by kernel_rfl) (by kernel_rfl) (fun _ _ _ _ h => h) (fun K hK => ?_)
  go_big_quiet_op
  refine hK _ ?_
  clear hK K
  refine pi_t 6 rfl (by kernel_rfl) (by kernel_rfl) (fun _ _ _ _ h => h) (fun K hK => ?_)
  go_big_quiet_op
  refine hK _ ?_
  clear hK K
  refine pi_c 7 (by assumption) rfl (by kernel_rfl) (by kernel_rfl) (fun _ _ _ _ h => h) (fun K hK => ?_)
  go_big_quiet_op
  refine hK _ ?_
  clear hK K
  refine pi_t 8 rfl (by kernel_rfl) (by kernel_rfl) (fun _ _ _ _ h => h) (fun K hK => ?_)
  go_big_quiet_op
  refine hK _ ?_
  clear hK K
  refine pi_l 9 rfl (by kernel_rfl) (fun K hK => ?_)
  go_wp2_with (go_at_call 254; refine (Columns_no C h.ok lv key h.lo h.hi hk1 _).mono ?_; rintro e w1 ⟨rfl, hx0⟩)
  refine hK _ _ (fun _ h => af_step h hx0) ?_
  clear hK K
  refine pi_t 10 rfl (by kernel_rfl) (by kernel_rfl) (fun _ _ _ _ h => h) (fun K hK => ?_)
  go_big_quiet_op
  refine hK _ ?_
  clear hK K
  refine pi_end (by kernel_rfl) ?_
  have hx : Ext w w1 := Ext.trans' (Below.drew (Ext.refl w)) hx0
  go_wp2
  go_ret2
  exact ⟨rfl, hx⟩
theorem SPointAny_c (s b c : Nat) (C : Cfg) (lv : Int) (R W : Nat) (l : List Int) (key : Int) (w : World) (h : SAt w s b c C lv R W l) (hk : U64 key) :
    Calls Tryz.prog 252 #[.pointer (some ⟨s, 0, none⟩), .int .u64 key] w fun e w' => ∃ x r, e = .returned (.tuple #[.int .i64 x, .int .i64 r]) ∧ ptS C lv R W l key x r ∧ Ext w w' := by
  by_cases hlt : key < keys C lv
  · refine (Point_c s b c C lv R W l key w h hk.1 hlt).mono ?_
    rintro e w' ⟨x, rfl, h1, h2⟩
    exact ⟨x, 0, rfl, .inr ⟨hlt, h1, rfl⟩, h2⟩
  · refine (SPoint_no s b c C lv R W l key w h (by omega)).mono ?_
    rintro e w' ⟨rfl, h2⟩
    exact ⟨0, 2, rfl, .inl ⟨by omega, rfl, rfl⟩, h2⟩
/-- What putting together answers and leaves. -/
noncomputable def jE (ms : List Int) : Int := by classical exact if allI ms then 0 else 4
noncomputable def jL (ms l : List Int) : List Int := by classical exact if allI ms then ms else l
theorem jE_yes {ms : List Int} (h : allI ms) : jE ms = 0 := by unfold jE; exact if_pos h
theorem jE_no {ms : List Int} (h : ¬ allI ms) : jE ms = 4 := by unfold jE; exact if_neg h
theorem jL_yes {ms l : List Int} (h : allI ms) : jL ms l = ms := by unfold jL; exact if_pos h
theorem jL_no {ms l : List Int} (h : ¬ allI ms) : jL ms l = l := by unfold jL; exact if_neg h
/-- Two sketches, and two of the references. -/
def Q4 (N : Nat) (w : World) (C : Cfg) (lv : Int) (R W : Nat) (s o r q : Nat) (l m l' m' : List Int) : Prop :=
  ∃ b c b2 c2 G G2, Own4 N w (sF s b c) (sF o b2 c2) (rsF r G R) (rsF q G2 R) (fun w => SAt w s b c C lv R W l) (fun w => SAt w o b2 c2 C lv R W m) (fun w => RSAt w r G C lv R W l') (fun w => RSAt w q G2 C lv R W m')
section
variable {N : Nat} {w w' : World} {C : Cfg} {lv : Int} {R W : Nat} {s o r q : Nat} {l m l' m' : List Int}
theorem Q4.swap (h : Q4 N w C lv R W s o r q l m l' m') : Q4 N w C lv R W o s q r m l m' l' := by
  obtain ⟨b, c, b2, c2, G, G2, h⟩ := h
  exact ⟨b2, c2, b, c, G2, G, h.swap.swap2⟩
theorem Q4.ext (h : Q4 N w C lv R W s o r q l m l' m') (he : Ext w w') : Q4 N w' C lv R W s o r q l m l' m' := by
  obtain ⟨b, c, b2, c2, G, G2, h⟩ := h
  exact ⟨b, c, b2, c2, G, G2, h.ext he⟩
/-- What a reference's sketch points to. -/
theorem Q4.grid (h : Q4 N w C lv R W s o r q l m l' m') : ∃ G : Gr, r < w.heap.size ∧ w.cell? ⟨r, 6, none⟩ = some (.pointer (some ⟨G.g, 0, none⟩)) ∧ RGAt w G R W l' := by
  obtain ⟨b, c, b2, c2, G, G2, h⟩ := h
  exact ⟨G, h.o3.h.lts, (cell_of h.o3.h.ex 6).trans rfl, h.o3.h.g⟩
end
end Go.Proofs.YtfhdjekpdifajaaGreat
namespace Go.Proofs.YtfhdjekpdifajaaGreat
set_option linter.unusedVariables false
open Go.RowKit
theorem Put_e (b c W : Nat) (l : List Int) (w : World) (h : GAt w b c 1 W l) (k : Nat) (hk : k < W) (n : Int) :
    Calls Tryz.prog 257 #[.pointer (some ⟨b, 0, none⟩), .int .i64 0, .int .i64 k, .int .i64 n] w fun e w' => e = .returned (.bool true) ∧ w.setCell ⟨c, k, none⟩ (.int .i64 n) = w' := by
  have := Put_c b c 1 W l w h 0 k (by decide) hk n
  rw [Nat.zero_mul, Nat.zero_add] at this
  exact this
set_option maxRecDepth 20000 in
set_option maxHeartbeats 4000000 in
theorem ELoad_yes (s b c : Nat) (C : Cfg) (lv : Int) (N : Nat) (l m : List Int) (v : Value) (w : World) (h : EAt w s b c C lv N l) (hv : IntsAt w v m) (hI : allI m) (hl : m.length = N)
    (hne : ∀ g off n cap, v = .slice (some ⟨g, off, none⟩) n cap → g ≠ c) :
    Calls Tryz.prog 283 #[.pointer (some ⟨s, 0, none⟩), v] w fun e w' => e = .returned (.bool true) ∧ EAt w' s b c C lv N m ∧ Mod (fun k => k = c) w w' := by
  have hN1 : 1 ≤ N := h.g.w1
  have hN2 : N ≤ 128 := h.g.w2
  obtain ⟨vg, vo, vcap, rfl, hvl, hvc⟩ := hv.slice (by rw [hl]; omega)
  have hgc : vg ≠ c := hne _ _ _ _ rfl
  have hLl := h.len
  rw [hl] at hvc ⊢
  have c6 := (cell_of h.ex 6).trans rfl
  have lts := h.lts
  have HH := Lib.hid h
  have HVC := Lib.hid hvc
  have HL := Lib.hid hl
  have HLL := Lib.hid hLl
  clear h hv hl hne hvc hLl
  go_enter Tryz.func283, Tryz.ntmps283
  go_wp2_with fail
  refine Calls.mono (Width_c b c 1 N l _ HH.out.g) ?_
  rintro e w1 ⟨rfl, hx1⟩
  subst hx1
  clear c6
  go_wp2_with fail
  go_loopw [17] (fun u23 wr => ∃ k : Nat, k ≤ N ∧ u23 = .int .i64 k ∧ EAt wr s b c C lv N (mixL (fun j => m.getD j 0) (fun j => l.getD j 0) k N) ∧ Mod (fun i => i = c) w wr) (fun u23 _ => N - (intOf u23).toNat)
  case atStart =>
    refine ⟨0, Nat.zero_le _, rfl, ?_, Mod.refl _ _⟩
    have e : mixL (fun j => m.getD j 0) (fun j => l.getD j 0) 0 N = l := by
      apply list_ext_getD
      · rw [mixL_len, HLL.out]
      · intro i hi
        rw [mixL_len] at hi
        rw [mixL_get _ _ hi, if_neg (by omega)]
    rw [e]; exact HH.out
  case round =>
    obtain ⟨k, hk, rfl, hSr, hM⟩ := hrel
    have hMs := hM.size
    by_cases hgo : k < N
    · have x0 := (mcell hM (b := vg) hvl hgc (vo + k)).trans (HVC.out k hgo)
      have c6 := (cell_of hSr.ex 6).trans rfl
      have lr := hSr.lts
      have hlr : vg < wr.heap.size := by omega
      have hxi : I64 (m.getD k 0) := getD_i64 hI k
      have hms := mixL_set (fun j => m.getD j 0) (fun j => l.getD j 0) (k := k) (n := N)
      have HMS := Lib.hid hms
      have HSR := Lib.hid hSr
      clear hms hSr
      generalize hx : m.getD k 0 = x at *
      have HX := Lib.hid hx
      clear hx
      go_wp2_with fail
      refine Calls.mono (Put_e b c N _ _ HSR.out.g k hgo x) ?_
      rintro e w2 ⟨rfl, rfl⟩
      go_wp2
      go_roundw
      case rel =>
        refine ⟨k + 1, by omega, by go_num, ?_, mod_put' hM _⟩
        rw [← HMS.out]
        exact HSR.out.setl (by rw [mixL_len]; exact hgo) hxi
      case measure => simp [intOf]; omega
    · obtain rfl : k = N := by omega
      have e : mixL (fun j => m.getD j 0) (fun j => l.getD j 0) k k = m := by
        apply list_ext_getD
        · rw [mixL_len, HL.out]
        · intro i hi
          rw [mixL_len] at hi
          rw [mixL_get _ _ hi, if_pos hi]
      rw [e] at hSr
      have HSR := Lib.hid hSr
      clear hSr e
      go_wp2
      go_ret
      exact ⟨rfl, HSR.out, hM⟩
end Go.Proofs.YtfhdjekpdifajaaGreat
namespace Go.Proofs.YtfhdjekpdifajaaGreat
set_option linter.unusedVariables false
open Go.RowKit
theorem run_make_intsU {P : Program} (t e : TypeId) (i : TypeInfo) (ht : P.underlying t = some (.slice e)) (hi : P.info? e = some i) (hz : i.zero = some (.int .i64 0)) (hs : i.size = 1) (hb : i.bytes = 8)
    (n : Nat) (hn : n ≤ 1000000) (f : Nat → Int) (w : World) :
    (Instr.makeSlice t (.int .u64 (n : Int)) (.int .u64 (n : Int))).run P w = .ok (.slice (some ⟨w.heap.size, 0, none⟩) n n) (w.alloc (.cells (fillA f 0 n) e)) := by
  have h := run_make w t e i (.int .i64 0) ht hi hz .u64 .u64 n n (by omega) (by omega) (by rw [hb]; omega) (by omega)
  simp only [Int.toNat_natCast] at h
  rw [h, hs]
  congr 3
  apply Array.ext
  · rw [size_madeCells, fillA_size]; omega
  · intro j h1 h2
    rw [fillA_size] at h2
    simp [madeCells, fillA, Value.cells, Nat.mod_one]
def RXNewPost (w : World) (C : Cfg) (lv : Int) (N : Nat) (l : List Int) (e : Ending) (w' : World) : Prop :=
  ∃ a m, e = .returned (.pointer (some ⟨a, 0, none⟩)) ∧ RXAt w' a m C lv N l ∧ w.heap.size ≤ a ∧ w.heap.size ≤ m ∧ Ext w w'
set_option maxRecDepth 20000 in
set_option maxHeartbeats 4000000 in
theorem RXNew_c (C : Cfg) (lv : Int) (N : Nat) (h1 : 1 ≤ N) (h2 : N ≤ 128) (w : World) :
    Calls Tryz.prog 101 #[.agg #[.int .i64 C.bits, .int .i64 C.rows, .int .i64 C.width, .int .i64 C.mode, .int .u64 C.seed], .int .i64 lv, .int .u64 N] w (RXNewPost w C lv N (zs N)) := by
  obtain ⟨ii, hi, hz0, hz1, hz2⟩ := info_parts info_i64
  have hmk := fun (x : World) => run_make_intsU 43 2 ii Tryz.underlying43 hi hz0 hz1 hz2 N (by omega) (fun _ => 0) x
  have hm1 : ((128 : Int) < (N : Int)) = False := by simp; omega
  have hm2 : decide ((128 : Int) < (N : Int)) = false := by simp; omega
  have hm3 : (N : Int) ≤ 128 := by omega
  clear hi hz0 hz1 hz2
  obtain ⟨W, hW⟩ : ∃ W, w.alloc (.cells #[.int .i64 C.bits, .int .i64 C.rows, .int .i64 C.width, .int .i64 C.mode, .int .u64 C.seed] 24) = W := ⟨_, rfl⟩
  have hC : CfgAt W w.heap.size C := by rw [← hW]; exact CfgAt.box C _ rfl
  have hE : Ext w W := by rw [← hW]; exact Ext.alloc' _ _
  have c0 := hC.c0
  have c1 := hC.c1
  have c2 := hC.c2
  have c3 := hC.c3
  have c4 := hC.c4
  have cl := hC.lt
  have hsz := hE.size
  go_enter Tryz.func101, Tryz.ntmps101
  go_wp2_with fail
  try rw [hW]
  clear hW
  have hC0 := af_drew W
  refine pi_start (fun w' => ∃ z : After W, w' = z.w) [] (by kernel_rfl) ?_
  refine pi_t 1 rfl (by kernel_rfl) (by kernel_rfl) (fun _ _ _ _ h => h) (fun K hK => ?_)
  go_big_quiet_op
  refine hK _ ?_
  clear hK K
  refine pi_t 2 rfl (by kernel_rfl) (by kernel_rfl) (fun _ _ _ _ h => h) (fun K hK => ?_)
  go_big_quiet_op
  refine hK _ ?_
  clear hK K
  refine pi_t 3 rfl (by kernel_rfl) (by kernel_rfl) (fun _ _ _ _ h => h) (fun K hK => ?_)
  go_big_quiet_op
  refine hK _ ?_
  clear hK K
  refine pi_c 0 (by assumption) rfl (by kernel_rfl) (by kernel_rfl) (fun _ _ _ _ h => h) (fun K hK => ?_)
  go_big_quiet_op
  refine hK _ ?_
  clear hK K
  refine pi_l 4 rfl (by kernel_rfl) (fun K hK => ?_)
  go_wp2
  refine hK _ _ (fun _ h => af_step h (Ext.alloc' _ _)) ?_
  clear hK K
  refine pi_t 5 rfl (by kernel_rfl) (by kernel_rfl) (fun _ _ _ _ h => h) (fun K hK => ?_)
  go_big_quiet_op
  refine hK _ ?_
  clear hK K
  refine pi_l 6 rfl (by kernel_rfl) (fun K hK => ?_)
  go_wp2
  refine hK _ _ (fun _ h => af_step h (Ext.alloc' _ _)) ?_
  clear hK K
  refine pi_t 7 rfl (by kernel_rfl) (by kernel_rfl) (fun _ _ _ _ h => h) (fun K hK => ?_)
  go_big_quiet_op
  refine hK _ ?_
  clear hK K
  refine pi_end (by kernel_rfl) ?_
  go_wp2
  go_ret
  refine ⟨_, W.heap.size, rfl, ⟨⟨N, heap_at _ _ (size_alloc _ _).symm, Nat.le_refl _⟩, ⟨fillA (fun _ => 0) 0 N, ?_, fun k hk => ?_⟩, zs_len _, h1, h2, fun x hx => ?_⟩, ?_, hsz, ((hE.drewR).allocR _).allocR _⟩
  · show ((W.alloc _).alloc _).heap[_]? = _
    rw [heap_old _ _ (by rw [size_alloc]; exact Nat.lt_succ_self _)]
    exact heap_at _ _ rfl
  · rw [fillA_at _ _ _ _ hk, if_neg (Nat.not_lt_zero _), zs_get0]
  · simp only [zs, List.mem_replicate] at hx
    rw [hx.2]
    unfold I64; omega
  · exact Nat.le_trans hsz (Nat.le_succ _)
set_option maxRecDepth 20000 in
set_option maxHeartbeats 4000000 in
theorem RXCopy_c (a m : Nat) (C : Cfg) (lv : Int) (N : Nat) (l : List Int) (w : World) (h : RXAt w a m C lv N l) :
    Calls Tryz.prog 105 #[.pointer (some ⟨a, 0, none⟩)] w (RXNewPost w C lv N l) := by
  obtain ⟨cap, hex, hcap⟩ := h.ex
  have c0 := (cell_of hex 0).trans rfl
  have c1 := (cell_of hex 1).trans rfl
  have c2 := (cell_of hex 2).trans rfl
  have c3 := (cell_of hex 3).trans rfl
  have c4 := (cell_of hex 4).trans rfl
  have c5 := (cell_of hex 5).trans rfl
  have c6 := (cell_of hex 6).trans rfl
  have la := h.lta
  have lm := h.ltm
  have k1 := h.k1
  have k2 := h.k2
  have hlen := h.len
  have HF := Lib.hid h.fit
  have hcell : ∀ W : World, Ext w W → ∀ k, k < N → W.cell? ⟨m, 0 + k, none⟩ = some (.int .i64 (l.getD k 0)) := fun W hW k hk => by rw [(bcell hW).1 _ _ lm, Nat.zero_add]; exact h.cell hk
  have HC := Lib.hid hcell
  have HL := Lib.hid hlen
  clear hcell h hex hlen
  go_enter Tryz.func105, Tryz.ntmps105
  go_wp2_with fail
  have hC0 := af_drew w
  refine pi_start (fun w' => ∃ z : After w, w' = z.w) [] (by kernel_rfl) ?_
  refine pi_t 0 rfl (by kernel_rfl) (by kernel_rfl) (fun _ _ _ _ h => h) (fun K hK => ?_)
  go_big_quiet_op
  refine hK _ ?_
  clear hK K
  refine pi_t 1 rfl (by kernel_rfl) (by kernel_rfl) (fun _ _ _ _ h => h) (fun K hK => ?_)
  go_big_quiet_op
  refine hK _ ?_
  clear hK K
  refine pi_t 2 rfl (by kernel_rfl) (by kernel_rfl) (fun _ _ _ _ h => h) (fun K hK => ?_)
  go_big_quiet_op
  refine hK _ ?_
  clear hK K
  refine pi_t 4 rfl (by kernel_rfl) (by kernel_rfl) (fun _ _ _ _ h => h) (fun K hK => ?_)
  go_big_quiet_op
  refine hK _ ?_
  clear hK K
  refine pi_t 5 rfl (by kernel_rfl) (by kernel_rfl) (fun _ _ _ _ h => h) (fun K hK => ?_)
  go_big_quiet_op
  refine hK _ ?_
  clear hK K
  refine pi_t 6 rfl (by kernel_rfl) (by kernel_rfl) (fun _ _ _ _ h => h) (fun K hK => ?_)
  go_big_quiet_op
  refine hK _ ?_
  clear hK K
  refine pi_t 9 rfl (by kernel_rfl) (by kernel_rfl) (fun _ _ _ _ h => h) (fun K hK => ?_)
  go_big_quiet_op
  refine hK _ ?_
  clear hK K
  refine pi_t 10 rfl (by kernel_rfl) (by kernel_rfl) (fun _ _ _ _ h => h) (fun K hK => ?_)
  go_big_quiet_op
  refine hK _ ?_
  clear hK K
  refine pi_t 11 rfl (by kernel_rfl) (by kernel_rfl) (fun _ _ _ _ h => h) (fun K hK => ?_)
  go_big_quiet_op
  refine hK _ ?_
  clear hK K
  refine pi_c 3 (by assumption) rfl (by kernel_rfl) (by kernel_rfl) (fun _ _ _ _ h => h) (fun K hK => ?_)
  go_big_quiet_op
  refine hK _ ?_
  clear hK K
  refine pi_c 7 (by assumption) rfl (by kernel_rfl) (by kernel_rfl) (fun _ _ _ _ h => h) (fun K hK => ?_)
  go_big_quiet_op
  refine hK _ ?_
  clear hK K
  refine pi_c 12 (by assumption) rfl (by kernel_rfl) (by kernel_rfl) (fun _ _ _ _ h => h) (fun K hK => ?_)
  go_big_quiet_op
  refine hK _ ?_
  clear hK K
  refine pi_l 8 rfl (by kernel_rfl) (fun K hK => ?_)
  go_wp2
  refine hK _ _ (fun _ h => af_step h (Ext.alloc' _ _)) ?_
  clear hK K
  have hE1 : Ext w (w.alloc (.cells #[] 2)).drew := ((Ext.refl w).allocR _).drewR
  have hown : (w.alloc (.cells #[] 2)).drew.ownsRow w.heap.size 2 1 (.slice (some ⟨w.heap.size, 0, none⟩) 0 0) ([] : List Int).length (ints []) := own_drew (own_empty w 2)
  generalize (w.alloc (.cells #[] 2)).drew = W at *
  refine pi_l 13 rfl (by kernel_rfl) (fun K hK => ?_)
  go_wp2_with (at_builtin; refine wpList_appl W l [] _ w.heap.size 2 hown 43 rfl _ _ rfl info_i64 Tryz.underlying43 (by rfl) m 0 N cap (by rfl) HL.out.symm (HC.out W hE1) ?a1 ?a2 ?_)
  case a1 => show 0 + N ≤ _; omega
  case a2 => exact hE1.size
  intro v' w' g1 g2 g3
  have hE2 : Ext w w' := ext_grown0 hE1 g2 (fun i hi => own_blk hown hi)
  have hE2' : ∃ z : After w, w' = z.w := ⟨⟨w', hE2⟩, rfl⟩
  obtain ⟨z, zc, cur, rfl, hzc, hz, hzh, hzcur⟩ := own_row1 g1 (by show 0 < l.length; rw [HL.out]; omega)
  rw [HL.out] at hzc hzcur ⊢
  have HZ := Lib.hid (And.intro hzc (And.intro hz (And.intro hzh hzcur)))
  have hs2 := hE2.size
  clear g1 g2 g3 hown hzc hz hzh hzcur
  go_wp2
  refine hK _ _ (fun _ _ => hE2') ?_
  clear hK K
  refine pi_t 14 rfl (by kernel_rfl) (by kernel_rfl) (fun _ _ _ _ h => h) (fun K hK => ?_)
  go_big_quiet_op
  refine hK _ ?_
  clear hK K
  refine pi_l 15 rfl (by kernel_rfl) (fun K hK => ?_)
  go_wp2
  refine hK _ _ (fun _ h => af_step h (Ext.alloc' _ _)) ?_
  clear hK K
  refine pi_t 16 rfl (by kernel_rfl) (by kernel_rfl) (fun _ _ _ _ h => h) (fun K hK => ?_)
  go_big_quiet_op
  refine hK _ ?_
  clear hK K
  refine pi_end (by kernel_rfl) ?_
  go_wp2
  go_ret
  obtain ⟨q1, q2, q3, q4⟩ := HZ.out
  exact ⟨_, z, rfl, ⟨⟨zc, heap_at _ _ rfl, q1⟩, ⟨cur, (Ext.alloc' _ _).keep q3, fun k hk => q4 k hk⟩, HL.out, k1, k2, HF.out⟩, hs2, q2, hE2.allocR _⟩
theorem key_nat {key : Int} (h0 : 0 ≤ key) : ∃ k : Nat, key = k := ⟨key.toNat, by omega⟩
def RXUpdPost (w : World) (a m : Nat) (C : Cfg) (lv : Int) (N : Nat) (l : List Int) (key d : Int) (e : Ending) (w' : World) : Prop :=
  e = .returned (.int .i64 (errX C lv l key d)) ∧ ((errX C lv l key d = 0 ∧ RXAt w' a m C lv N (updX l key d) ∧ Mod (fun k => k = m) w w') ∨ (errX C lv l key d ≠ 0 ∧ Ext w w'))
set_option maxRecDepth 20000 in
set_option maxHeartbeats 4000000 in
theorem RXUpdate_c (a m : Nat) (C : Cfg) (lv : Int) (N : Nat) (l : List Int) (key d : Int) (w : World) (h : RXAt w a m C lv N l) (hkn : keys C lv = N) (hd : I64 d) (hk : U64 key) :
    Calls Tryz.prog 107 #[.pointer (some ⟨a, 0, none⟩), .int .u64 key, .int .i64 d] w (RXUpdPost w a m C lv N l key d) := by
  obtain ⟨hk0, hk1⟩ := hk
  obtain ⟨key, rfl⟩ := key_nat hk0
  obtain ⟨cap, hex, hcap⟩ := h.ex
  have c3 := (cell_of hex 3).trans rfl
  have c6 := (cell_of hex 6).trans rfl
  have la := h.lta
  have lm := h.ltm
  have k2 := h.k2
  have HH := Lib.hid h
  have HKK := Lib.hid hkn
  have HD := Lib.hid hd
  clear h hex hd
  by_cases hge : N ≤ key
  · have he : errX C lv l key d = 2 := errX_key (by omega)
    unfold RXUpdPost
    rw [he]
    have hge' : decide ((N : Int) ≤ (key : Int)) = true := by simp; omega
    clear hkn
    go_enter Tryz.func107, Tryz.ntmps107
    go_wp2
    go_ret
    exact ⟨rfl, by first | exact .inr ⟨by decide, Ext.refl _⟩ | exact Ext.refl _⟩
  · have hlt : key < N := by omega
    have cx := HH.out.cell hlt
    have fx := HH.out.frz key
    have hI := getD_i64 HH.out.fit key
    have hset := fun x (hx : I64 x) => HH.out.set hlt hx
    have HSET := Lib.hid hset
    have hne := HH.out.ne
    have HNE := Lib.hid hne
    have he := fun hn => errX_sum (C := C) (lv := lv) (l := l) (key := (key : Int)) (d := d) (by omega) hn
    have he2 := fun hm hn => errX_neg (C := C) (lv := lv) (l := l) (key := (key : Int)) (d := d) (by omega) hm hn
    have hu : updX l (key : Int) d = l.set key (l.getD key 0 + d) := by unfold updX; rw [Int.toNat_natCast]
    rw [Int.toNat_natCast] at he
    unfold RXUpdPost
    rw [hu]
    have HE := Lib.hid he
    have HE2 := Lib.hid he2
    have HI := Lib.hid hI
    generalize l.getD key 0 = x at *
    generalize errX C lv l key d = er at *
    have HLT := Lib.hid hlt
    have hlt3 : (key : Int) < (N : Int) := by omega
    have hlt4 : ¬ ((N : Int) ≤ (key : Int)) := by omega
    clear hge hu he he2 hset hne hI hkn hlt
    by_cases hmd : C.mode = 2 ∧ d < 0
    · obtain ⟨hm, hdn⟩ := hmd
      rw [HE2.out hm hdn]
      rw [hm] at c3
      clear hm
      go_enter Tryz.func107, Tryz.ntmps107
      go_wp2
      go_ret
      exact ⟨rfl, by first | exact .inr ⟨by decide, Ext.refl _⟩ | exact Ext.refl _⟩
    · have herr := HE.out hmd
      rw [herr]
      clear herr
      have hA : ∀ w', Calls Tryz.prog 159 #[.int .i64 x, .int .i64 d] w' fun e w'' => e = .returned (.tuple #[.int .i64 (fitN (x + d)), .bool (fitB (x + d))]) ∧ Ext w' w'' := fun w' => LAdd_c x d HI.out HD.out w'
      have HA := Lib.hid hA
      clear hA
      have fin : ∀ w1, Ext w w1 → w1.cell? ⟨a, 6, none⟩ = some (.slice (some ⟨m, 0, none⟩) N cap) ∧ w1.frozen? ⟨m, key, none⟩ = false ∧ (∃ v, w1.cell? ⟨m, key, none⟩ = some v) ∧ a < w1.heap.size ∧ m < w1.heap.size := fun w1 hx =>
        ⟨((bcell hx).1 _ _ la).trans c6, ((bcell hx).2 _ _ lm).trans fx, ⟨_, ((bcell hx).1 _ _ lm).trans cx⟩, Nat.lt_of_lt_of_le la hx.size, Nat.lt_of_lt_of_le lm hx.size⟩
      have HFIN := Lib.hid fin
      clear fin
      by_cases hfit : I64 (x + d)
      · have hfb := fitB_yes hfit
        have hfn := fitN_yes hfit
        rw [hfb, hfn] at HA
        rw [hfb]
        clear hfb hfn
        have hmode : (C.mode = 2) ∨ (C.mode ≠ 2) := by omega
        by_cases hm : C.mode = 2
        · have hdn : decide (d < 0) = false := by have := fun h => hmd ⟨hm, h⟩; simp; omega
          rw [hm] at c3
          clear hm hmd hmode
          go_enter Tryz.func107, Tryz.ntmps107
          go_wp2_with fail
          refine Calls.mono (HA.out _) ?_
          rintro e w1 ⟨rfl, hx1⟩
          obtain ⟨d6, fk, ⟨v0, ck⟩, l1, l2⟩ := HFIN.out w1 hx1
          clear c3 c6 cx fx la lm
          go_wp2
          go_ret
          have hX1 := HH.out.ext hx1
          exact ⟨rfl, by first | exact .inl ⟨rfl, hX1.set HLT.out hfit, (hx1.mod _).trans (mod_set _ _ _ _)⟩ | exact ⟨hX1.set HLT.out hfit, (hx1.mod _).trans (mod_set _ _ _ _)⟩⟩
        · have hmb : (C.mode == 2) = false := by simpa using hm
          clear hm hmd hmode
          go_enter Tryz.func107, Tryz.ntmps107
          go_wp2_with fail
          refine Calls.mono (HA.out _) ?_
          rintro e w1 ⟨rfl, hx1⟩
          obtain ⟨d6, fk, ⟨v0, ck⟩, l1, l2⟩ := HFIN.out w1 hx1
          clear c3 c6 cx fx la lm
          go_wp2
          go_ret
          have hX1 := HH.out.ext hx1
          exact ⟨rfl, by first | exact .inl ⟨rfl, hX1.set HLT.out hfit, (hx1.mod _).trans (mod_set _ _ _ _)⟩ | exact ⟨hX1.set HLT.out hfit, (hx1.mod _).trans (mod_set _ _ _ _)⟩⟩
      · have hfb := fitB_no hfit
        rw [hfb] at HA
        rw [hfb]
        clear hfb
        by_cases hm : C.mode = 2
        · have hdn : decide (d < 0) = false := by have := fun h => hmd ⟨hm, h⟩; simp; omega
          rw [hm] at c3
          clear hm hmd
          go_enter Tryz.func107, Tryz.ntmps107
          go_wp2_with fail
          refine Calls.mono (HA.out _) ?_
          rintro e w1 ⟨rfl, hx1⟩
          go_wp2
          go_ret
          exact ⟨rfl, by first | exact .inr ⟨by decide, hx1⟩ | exact hx1⟩
        · have hmb : (C.mode == 2) = false := by simpa using hm
          clear hm hmd
          go_enter Tryz.func107, Tryz.ntmps107
          go_wp2_with fail
          refine Calls.mono (HA.out _) ?_
          rintro e w1 ⟨rfl, hx1⟩
          go_wp2
          go_ret
          exact ⟨rfl, by first | exact .inr ⟨by decide, hx1⟩ | exact hx1⟩
def ptX (l : List Int) (N : Nat) (key : Int) : Value := if (N : Int) ≤ key then .tuple #[.int .i64 0, .int .i64 2] else .tuple #[.int .i64 (l.getD key.toNat 0), .int .i64 0]
set_option maxRecDepth 20000 in
set_option maxHeartbeats 2000000 in
theorem RXPoint_c (a m : Nat) (C : Cfg) (lv : Int) (N : Nat) (l : List Int) (key : Int) (w : World) (h : RXAt w a m C lv N l) (hk : U64 key) :
    Calls Tryz.prog 103 #[.pointer (some ⟨a, 0, none⟩), .int .u64 key] w fun e w' => e = .returned (ptX l N key) ∧ w = w' := by
  obtain ⟨hk0, hk1⟩ := hk
  obtain ⟨key, rfl⟩ := key_nat hk0
  obtain ⟨cap, hex, hcap⟩ := h.ex
  have c6 := (cell_of hex 6).trans rfl
  have la := h.lta
  have lm := h.ltm
  have k2 := h.k2
  unfold ptX
  rw [Int.toNat_natCast]
  by_cases hge : N ≤ key
  · rw [if_pos (by omega)]
    have hge' : decide ((N : Int) ≤ (key : Int)) = true := by simp; omega
    clear h hex
    go_enter Tryz.func103, Tryz.ntmps103
    go_wp2
    go_ret2
    exact ⟨rfl, rfl⟩
  · have hlt : key < N := by omega
    rw [if_neg (by omega)]
    have cx := h.cell hlt
    have hlt3 : (key : Int) < (N : Int) := by omega
    have hlt4 : ¬ ((N : Int) ≤ (key : Int)) := by omega
    generalize l.getD key 0 = x at *
    clear h hex hge hlt
    go_enter Tryz.func103, Tryz.ntmps103
    go_wp2
    go_ret2
    exact ⟨rfl, rfl⟩
end Go.Proofs.YtfhdjekpdifajaaGreat
namespace Go.Proofs.YtfhdjekpdifajaaGreat
set_option linter.unusedVariables false
open Go.RowKit
set_option maxRecDepth 100000 in
set_option maxHeartbeats 2000000 in
theorem within_no01 (a b c d : Int) (s : Nat) (w : World)
    (f0 : decide (a < 1) = true)
    (hs : w.heap[s]? = some (.cells #[.int .i64 a, .int .i64 59, .int .i64 b, .int .i64 8, .int .i64 c, .int .i64 128, .int .i64 d, .int .i64 3] 229 (0, 0))) :
    Calls Tryz.prog 146 #[.slice (some ⟨s, 0, none⟩) 4 4] w fun e w' => e = .returned (.bool false) ∧ Ext w w' := by
  have hlt := lt_of hs
  have l1 : s < w.heap.size + 1 := by omega
  have l2 : s < w.heap.size + 1 + 1 := by omega
  have l3 : s < w.heap.size + 1 + 1 + 1 := by omega
  have k0 := cell_of hs 0
  have k1 := cell_of hs 1
  have k2 := cell_of hs 2
  have k3 := cell_of hs 3
  have k4 := cell_of hs 4
  have k5 := cell_of hs 5
  have k6 := cell_of hs 6
  have k7 := cell_of hs 7
  simp at k0 k1 k2 k3 k4 k5 k6 k7
  clear hs
  go_enter Tryz.func146, Tryz.ntmps146
  go_wp2
  refine wp_loop_rounds 1 ?_
  iterate 1 (rw [rounds_succ]; go_wp2)
  go_ret
  exact ⟨rfl, by (repeat' (first | exact Ext.refl _ | assumption | apply Ext.allocR | apply Ext.drewR | apply Ext.drewNR | (refine Ext.trans' ?_ (by assumption))))⟩
set_option maxRecDepth 100000 in
set_option maxHeartbeats 2000000 in
theorem within_no02 (a b c d : Int) (s : Nat) (w : World)
    (f0 : decide (a < 1) = false) (g0 : decide (59 < a) = true)
    (hs : w.heap[s]? = some (.cells #[.int .i64 a, .int .i64 59, .int .i64 b, .int .i64 8, .int .i64 c, .int .i64 128, .int .i64 d, .int .i64 3] 229 (0, 0))) :
    Calls Tryz.prog 146 #[.slice (some ⟨s, 0, none⟩) 4 4] w fun e w' => e = .returned (.bool false) ∧ Ext w w' := by
  have hlt := lt_of hs
  have l1 : s < w.heap.size + 1 := by omega
  have l2 : s < w.heap.size + 1 + 1 := by omega
  have l3 : s < w.heap.size + 1 + 1 + 1 := by omega
  have k0 := cell_of hs 0
  have k1 := cell_of hs 1
  have k2 := cell_of hs 2
  have k3 := cell_of hs 3
  have k4 := cell_of hs 4
  have k5 := cell_of hs 5
  have k6 := cell_of hs 6
  have k7 := cell_of hs 7
  simp at k0 k1 k2 k3 k4 k5 k6 k7
  clear hs
  go_enter Tryz.func146, Tryz.ntmps146
  go_wp2
  refine wp_loop_rounds 1 ?_
  iterate 1 (rw [rounds_succ]; go_wp2)
  go_ret
  exact ⟨rfl, by (repeat' (first | exact Ext.refl _ | assumption | apply Ext.allocR | apply Ext.drewR | apply Ext.drewNR | (refine Ext.trans' ?_ (by assumption))))⟩
set_option maxRecDepth 100000 in
set_option maxHeartbeats 2000000 in
theorem within_no11 (a b c d : Int) (s : Nat) (w : World)
    (f0 : decide (a < 1) = false) (g0 : decide (59 < a) = false) (f1 : decide (b < 1) = true)
    (hs : w.heap[s]? = some (.cells #[.int .i64 a, .int .i64 59, .int .i64 b, .int .i64 8, .int .i64 c, .int .i64 128, .int .i64 d, .int .i64 3] 229 (0, 0))) :
    Calls Tryz.prog 146 #[.slice (some ⟨s, 0, none⟩) 4 4] w fun e w' => e = .returned (.bool false) ∧ Ext w w' := by
  have hlt := lt_of hs
  have l1 : s < w.heap.size + 1 := by omega
  have l2 : s < w.heap.size + 1 + 1 := by omega
  have l3 : s < w.heap.size + 1 + 1 + 1 := by omega
  have k0 := cell_of hs 0
  have k1 := cell_of hs 1
  have k2 := cell_of hs 2
  have k3 := cell_of hs 3
  have k4 := cell_of hs 4
  have k5 := cell_of hs 5
  have k6 := cell_of hs 6
  have k7 := cell_of hs 7
  simp at k0 k1 k2 k3 k4 k5 k6 k7
  clear hs
  go_enter Tryz.func146, Tryz.ntmps146
  go_wp2
  refine wp_loop_rounds 2 ?_
  iterate 2 (rw [rounds_succ]; go_wp2)
  go_ret
  exact ⟨rfl, by (repeat' (first | exact Ext.refl _ | assumption | apply Ext.allocR | apply Ext.drewR | apply Ext.drewNR | (refine Ext.trans' ?_ (by assumption))))⟩
set_option maxRecDepth 100000 in
set_option maxHeartbeats 2000000 in
theorem within_no12 (a b c d : Int) (s : Nat) (w : World)
    (f0 : decide (a < 1) = false) (g0 : decide (59 < a) = false) (f1 : decide (b < 1) = false) (g1 : decide (8 < b) = true)
    (hs : w.heap[s]? = some (.cells #[.int .i64 a, .int .i64 59, .int .i64 b, .int .i64 8, .int .i64 c, .int .i64 128, .int .i64 d, .int .i64 3] 229 (0, 0))) :
    Calls Tryz.prog 146 #[.slice (some ⟨s, 0, none⟩) 4 4] w fun e w' => e = .returned (.bool false) ∧ Ext w w' := by
  have hlt := lt_of hs
  have l1 : s < w.heap.size + 1 := by omega
  have l2 : s < w.heap.size + 1 + 1 := by omega
  have l3 : s < w.heap.size + 1 + 1 + 1 := by omega
  have k0 := cell_of hs 0
  have k1 := cell_of hs 1
  have k2 := cell_of hs 2
  have k3 := cell_of hs 3
  have k4 := cell_of hs 4
  have k5 := cell_of hs 5
  have k6 := cell_of hs 6
  have k7 := cell_of hs 7
  simp at k0 k1 k2 k3 k4 k5 k6 k7
  clear hs
  go_enter Tryz.func146, Tryz.ntmps146
  go_wp2
  refine wp_loop_rounds 2 ?_
  iterate 2 (rw [rounds_succ]; go_wp2)
  go_ret
  exact ⟨rfl, by (repeat' (first | exact Ext.refl _ | assumption | apply Ext.allocR | apply Ext.drewR | apply Ext.drewNR | (refine Ext.trans' ?_ (by assumption))))⟩
set_option maxRecDepth 100000 in
set_option maxHeartbeats 2000000 in
theorem within_no21 (a b c d : Int) (s : Nat) (w : World)
    (f0 : decide (a < 1) = false) (g0 : decide (59 < a) = false) (f1 : decide (b < 1) = false) (g1 : decide (8 < b) = false) (f2 : decide (c < 1) = true)
    (hs : w.heap[s]? = some (.cells #[.int .i64 a, .int .i64 59, .int .i64 b, .int .i64 8, .int .i64 c, .int .i64 128, .int .i64 d, .int .i64 3] 229 (0, 0))) :
    Calls Tryz.prog 146 #[.slice (some ⟨s, 0, none⟩) 4 4] w fun e w' => e = .returned (.bool false) ∧ Ext w w' := by
  have hlt := lt_of hs
  have l1 : s < w.heap.size + 1 := by omega
  have l2 : s < w.heap.size + 1 + 1 := by omega
  have l3 : s < w.heap.size + 1 + 1 + 1 := by omega
  have k0 := cell_of hs 0
  have k1 := cell_of hs 1
  have k2 := cell_of hs 2
  have k3 := cell_of hs 3
  have k4 := cell_of hs 4
  have k5 := cell_of hs 5
  have k6 := cell_of hs 6
  have k7 := cell_of hs 7
  simp at k0 k1 k2 k3 k4 k5 k6 k7
  clear hs
  go_enter Tryz.func146, Tryz.ntmps146
  go_wp2
  refine wp_loop_rounds 3 ?_
  iterate 3 (rw [rounds_succ]; go_wp2)
  go_ret
  exact ⟨rfl, by (repeat' (first | exact Ext.refl _ | assumption | apply Ext.allocR | apply Ext.drewR | apply Ext.drewNR | (refine Ext.trans' ?_ (by assumption))))⟩
set_option maxRecDepth 100000 in
set_option maxHeartbeats 2000000 in
theorem within_no22 (a b c d : Int) (s : Nat) (w : World)
    (f0 : decide (a < 1) = false) (g0 : decide (59 < a) = false) (f1 : decide (b < 1) = false) (g1 : decide (8 < b) = false) (f2 : decide (c < 1) = false) (g2 : decide (128 < c) = true)
    (hs : w.heap[s]? = some (.cells #[.int .i64 a, .int .i64 59, .int .i64 b, .int .i64 8, .int .i64 c, .int .i64 128, .int .i64 d, .int .i64 3] 229 (0, 0))) :
    Calls Tryz.prog 146 #[.slice (some ⟨s, 0, none⟩) 4 4] w fun e w' => e = .returned (.bool false) ∧ Ext w w' := by
  have hlt := lt_of hs
  have l1 : s < w.heap.size + 1 := by omega
  have l2 : s < w.heap.size + 1 + 1 := by omega
  have l3 : s < w.heap.size + 1 + 1 + 1 := by omega
  have k0 := cell_of hs 0
  have k1 := cell_of hs 1
  have k2 := cell_of hs 2
  have k3 := cell_of hs 3
  have k4 := cell_of hs 4
  have k5 := cell_of hs 5
  have k6 := cell_of hs 6
  have k7 := cell_of hs 7
  simp at k0 k1 k2 k3 k4 k5 k6 k7
  clear hs
  go_enter Tryz.func146, Tryz.ntmps146
  go_wp2
  refine wp_loop_rounds 3 ?_
  iterate 3 (rw [rounds_succ]; go_wp2)
  go_ret
  exact ⟨rfl, by (repeat' (first | exact Ext.refl _ | assumption | apply Ext.allocR | apply Ext.drewR | apply Ext.drewNR | (refine Ext.trans' ?_ (by assumption))))⟩
set_option maxRecDepth 100000 in
set_option maxHeartbeats 2000000 in
theorem within_no31 (a b c d : Int) (s : Nat) (w : World)
    (f0 : decide (a < 1) = false) (g0 : decide (59 < a) = false) (f1 : decide (b < 1) = false) (g1 : decide (8 < b) = false) (f2 : decide (c < 1) = false) (g2 : decide (128 < c) = false) (f3 : decide (d < 1) = true)
    (hs : w.heap[s]? = some (.cells #[.int .i64 a, .int .i64 59, .int .i64 b, .int .i64 8, .int .i64 c, .int .i64 128, .int .i64 d, .int .i64 3] 229 (0, 0))) :
    Calls Tryz.prog 146 #[.slice (some ⟨s, 0, none⟩) 4 4] w fun e w' => e = .returned (.bool false) ∧ Ext w w' := by
  have hlt := lt_of hs
  have l1 : s < w.heap.size + 1 := by omega
  have l2 : s < w.heap.size + 1 + 1 := by omega
  have l3 : s < w.heap.size + 1 + 1 + 1 := by omega
  have k0 := cell_of hs 0
  have k1 := cell_of hs 1
  have k2 := cell_of hs 2
  have k3 := cell_of hs 3
  have k4 := cell_of hs 4
  have k5 := cell_of hs 5
  have k6 := cell_of hs 6
  have k7 := cell_of hs 7
  simp at k0 k1 k2 k3 k4 k5 k6 k7
  clear hs
  go_enter Tryz.func146, Tryz.ntmps146
  go_wp2
  refine wp_loop_rounds 4 ?_
  iterate 4 (rw [rounds_succ]; go_wp2)
  go_ret
  exact ⟨rfl, by (repeat' (first | exact Ext.refl _ | assumption | apply Ext.allocR | apply Ext.drewR | apply Ext.drewNR | (refine Ext.trans' ?_ (by assumption))))⟩
set_option maxRecDepth 100000 in
set_option maxHeartbeats 2000000 in
theorem within_no32 (a b c d : Int) (s : Nat) (w : World)
    (f0 : decide (a < 1) = false) (g0 : decide (59 < a) = false) (f1 : decide (b < 1) = false) (g1 : decide (8 < b) = false) (f2 : decide (c < 1) = false) (g2 : decide (128 < c) = false) (f3 : decide (d < 1) = false) (g3 : decide (3 < d) = true)
    (hs : w.heap[s]? = some (.cells #[.int .i64 a, .int .i64 59, .int .i64 b, .int .i64 8, .int .i64 c, .int .i64 128, .int .i64 d, .int .i64 3] 229 (0, 0))) :
    Calls Tryz.prog 146 #[.slice (some ⟨s, 0, none⟩) 4 4] w fun e w' => e = .returned (.bool false) ∧ Ext w w' := by
  have hlt := lt_of hs
  have l1 : s < w.heap.size + 1 := by omega
  have l2 : s < w.heap.size + 1 + 1 := by omega
  have l3 : s < w.heap.size + 1 + 1 + 1 := by omega
  have k0 := cell_of hs 0
  have k1 := cell_of hs 1
  have k2 := cell_of hs 2
  have k3 := cell_of hs 3
  have k4 := cell_of hs 4
  have k5 := cell_of hs 5
  have k6 := cell_of hs 6
  have k7 := cell_of hs 7
  simp at k0 k1 k2 k3 k4 k5 k6 k7
  clear hs
  go_enter Tryz.func146, Tryz.ntmps146
  go_wp2
  refine wp_loop_rounds 4 ?_
  iterate 4 (rw [rounds_succ]; go_wp2)
  go_ret
  exact ⟨rfl, by (repeat' (first | exact Ext.refl _ | assumption | apply Ext.allocR | apply Ext.drewR | apply Ext.drewNR | (refine Ext.trans' ?_ (by assumption))))⟩
def okB (c : Cfg) : Bool := decide (1 ≤ c.bits ∧ c.bits ≤ 59 ∧ 1 ≤ c.rows ∧ c.rows ≤ 8 ∧ 1 ≤ c.width ∧ c.width ≤ 128 ∧ 1 ≤ c.mode ∧ c.mode ≤ 3)
theorem okB_true {c : Cfg} (h : c.Ok) : okB c = true := by
  obtain ⟨b1, b2, r1, r2, w1, w2, m1, m2, s⟩ := h
  unfold okB; exact decide_eq_true ⟨b1, b2, r1, r2, w1, w2, m1, m2⟩
theorem okB_ok {c : Cfg} (h : okB c = true) (hs : U64 c.seed) : c.Ok := by
  have := of_decide_eq_true h
  exact ⟨this.1, this.2.1, this.2.2.1, this.2.2.2.1, this.2.2.2.2.1, this.2.2.2.2.2.1, this.2.2.2.2.2.2.1, this.2.2.2.2.2.2.2, hs⟩
theorem within_bad (c : Cfg) (h : okB c = false) (s : Nat) (w : World)
    (hs : w.heap[s]? = some (.cells #[.int .i64 c.bits, .int .i64 59, .int .i64 c.rows, .int .i64 8, .int .i64 c.width, .int .i64 128, .int .i64 c.mode, .int .i64 3] 229 (0, 0))) :
    Calls Tryz.prog 146 #[.slice (some ⟨s, 0, none⟩) 4 4] w fun e w' => e = .returned (.bool false) ∧ Ext w w' := by
  have h' := of_decide_eq_false h
  by_cases a1 : c.bits < 1
  · exact within_no01 _ _ _ _ s w (decide_eq_true a1) hs
  by_cases a2 : 59 < c.bits
  · exact within_no02 _ _ _ _ s w (decide_eq_false a1) (decide_eq_true a2) hs
  by_cases b1 : c.rows < 1
  · exact within_no11 _ _ _ _ s w (decide_eq_false a1) (decide_eq_false a2) (decide_eq_true b1) hs
  by_cases b2 : 8 < c.rows
  · exact within_no12 _ _ _ _ s w (decide_eq_false a1) (decide_eq_false a2) (decide_eq_false b1) (decide_eq_true b2) hs
  by_cases c1 : c.width < 1
  · exact within_no21 _ _ _ _ s w (decide_eq_false a1) (decide_eq_false a2) (decide_eq_false b1) (decide_eq_false b2) (decide_eq_true c1) hs
  by_cases c2 : 128 < c.width
  · exact within_no22 _ _ _ _ s w (decide_eq_false a1) (decide_eq_false a2) (decide_eq_false b1) (decide_eq_false b2) (decide_eq_false c1) (decide_eq_true c2) hs
  by_cases d1 : c.mode < 1
  · exact within_no31 _ _ _ _ s w (decide_eq_false a1) (decide_eq_false a2) (decide_eq_false b1) (decide_eq_false b2) (decide_eq_false c1) (decide_eq_false c2) (decide_eq_true d1) hs
  by_cases d2 : 3 < c.mode
  · exact within_no32 _ _ _ _ s w (decide_eq_false a1) (decide_eq_false a2) (decide_eq_false b1) (decide_eq_false b2) (decide_eq_false c1) (decide_eq_false c2) (decide_eq_false d1) (decide_eq_true d2) hs
  exact absurd ⟨by omega, by omega, by omega, by omega, by omega, by omega, by omega, by omega⟩ h'
set_option maxHeartbeats 1000000 in
theorem Right_no (c : Cfg) (h : okB c = false) (w : World) :
    Calls Tryz.prog 85 #[.agg #[.int .i64 c.bits, .int .i64 c.rows, .int .i64 c.width, .int .i64 c.mode, .int .u64 c.seed]] w fun e w' => e = .returned (.bool false) ∧ Ext w w' := by
  go_enter Tryz.func85, Tryz.ntmps85
  go_wp2_with (go_at_call 146; refine (within_bad c h _ _ ?hs).mono ?_)
  · skip
    exact heap_at _ _ (by simp only [size_alloc])
  rintro e w1 ⟨rfl, hb⟩
  go_wp2
  go_ret
  refine ⟨rfl, ?_⟩
  (repeat' (first | exact Ext.refl _ | assumption | apply Ext.allocR | apply Ext.drewR | apply Ext.drewNR | (refine Ext.trans' ?_ (by assumption))))
end Go.Proofs.YtfhdjekpdifajaaGreat
namespace Go.Proofs.YtfhdjekpdifajaaGreat
set_option linter.unusedVariables false
open Go.RowKit
def KFresh (N B : Nat) (L : Nat → Lev) : Prop := ∀ n, n ≤ B → N ≤ (L n).s ∧ N ≤ (L n).b ∧ N ≤ (L n).c
theorem KFresh.ext {w a b : World} {B : Nat} {L : Nat → Lev} (h : KFresh w.heap.size B L) (hE : Ext w a) (hM : Mod (cellsOf B L) a b) : Ext w b :=
  Below.trans hE (hM.below (B := w.heap.size) hE.size (fun k hk => by obtain ⟨n, hn, rfl⟩ := hk; exact (h n hn).2.2))
end Go.Proofs.YtfhdjekpdifajaaGreat
namespace Go.Proofs.YtfhdjekpdifajaaGreat
set_option linter.unusedVariables false
open Go.RowKit
set_option maxRecDepth 20000 in
set_option maxHeartbeats 2000000 in
theorem ExactR_c (C : Cfg) (h : C.Ok) (lv : Int) (h0 : 0 ≤ lv) (h1 : lv ≤ C.bits) (w : World) :
    Calls Tryz.prog 100 #[.agg #[.int .i64 C.bits, .int .i64 C.rows, .int .i64 C.width, .int .i64 C.mode, .int .u64 C.seed], .int .i64 lv] w fun e w' => e = .returned (.bool (isX C lv)) ∧ Ext w w' := by
  have hk := keys_bd C h lv h0
  have w1' := h.w1
  have w2' := h.w2
  have hI : isX C lv = decide (keys C lv ≤ C.width) := rfl
  go_enter Tryz.func100, Tryz.ntmps100
  go_wp2_with fail
  refine (KeysR_c C h lv h0 h1 _).mono ?_
  rintro e w1 ⟨rfl, hb⟩
  have hE : Ext w w1 := by (repeat' (first | exact Ext.refl _ | assumption | apply Ext.allocR | apply Ext.drewR | apply Ext.drewNR | (refine Ext.trans' ?_ (by assumption))))
  have hC := (CfgAt.box (w := w) C 24 rfl).ext hb
  have c2 := hC.c2
  have cl := hC.lt
  have HI := Lib.hid hI
  generalize keys C lv = N at *
  clear hb hI hC
  by_cases hx : N ≤ C.width
  · go_wp2
    go_ret
    exact ⟨by rw [HI.out, decide_eq_true hx]; rfl, hE⟩
  · go_wp2
    go_ret
    exact ⟨by rw [HI.out, decide_eq_false (by omega)]; rfl, hE⟩
end Go.Proofs.YtfhdjekpdifajaaGreat
