/- Part. No condition. -/
import Derived.Test.YtfhdjekpdifajaaGreatL10
import Derived.Test.YtfhdjekpdifajaaGreatL9
import Derived.Test.YtfhdjekpdifajaaGreatL8
import Derived.Test.YtfhdjekpdifajaaGreatL3
import Derived.Test.YtfhdjekpdifajaaGreatL6
import Derived.Test.YtfhdjekpdifajaaGreatL5

/- gaugerref06.Join. -/
namespace Go.Proofs.YtfhdjekpdifajaaGreat
set_option linter.unusedVariables false
open Go.RowKit
def RGJoinPost (w : World) (G : Gr) (R W : Nat) (ms : List Int) (e : Ending) (w' : World) : Prop :=
  (allI ms ∧ e = .returned (.int .i64 0) ∧ ∃ G' : Gr, G'.g = G.g ∧ RGAt w' G' R W ms ∧ (∀ k, G'.foot R k → k = G.g ∨ w.heap.size ≤ k) ∧ Mod (fun k => k = G.g) w w') ∨ (¬ allI ms ∧ e = .returned (.int .i64 4) ∧ Ext w w')
theorem long_cells {w : World} {b : Nat} {x : Int} (h : LongAt w b (dg x)) : ∀ i, i < 10 → w.cell? ⟨b, i, none⟩ = some (.int .i64 (dg x i)) := by
  intro i hi
  unfold LongAt at h
  rw [cell_of h, fillA_at _ _ _ _ hi, if_pos hi]
theorem long_mk {w : World} {b : Nat} {x : Int} (h : w.heap[b]? = some (.cells #[.int .i64 (dg x 0), .int .i64 (dg x 1), .int .i64 (dg x 2), .int .i64 (dg x 3), .int .i64 (dg x 4), .int .i64 (dg x 5), .int .i64 (dg x 6), .int .i64 (dg x 7), .int .i64 (dg x 8), .int .i64 (dg x 9)] 237 (0, 0))) : LongAt w b (dg x) := by
  unfold LongAt; rw [fill10]; exact h
theorem sum_in {x y : Int} (hx : I64 x) (hy : I64 y) : (-730750818665451459101842416358141509827966271488 ≤ x + y ∧ x + y < 730750818665451459101842416358141509827966271488) ∧ (-730750818665451459101842416358141509827966271488 ≤ x + -y ∧ x + -y < 730750818665451459101842416358141509827966271488) := by unfold I64 at hx hy; omega
/-- The sums of a row. -/
def rowF (f : Nat → Nat → Int) (r j : Nat) : List Int := (List.range j).map (f r)
theorem rowF_len (f : Nat → Nat → Int) (r j : Nat) : (rowF f r j).length = j := by simp [rowF]
theorem rowF_succ (f : Nat → Nat → Int) (r j : Nat) : rowF f r (j + 1) = rowF f r j ++ [f r j] := by unfold rowF; rw [List.range_succ, List.map_append]; rfl
theorem rowF_get {f : Nat → Nat → Int} {r j k : Nat} (h : k < j) : (rowF f r j).getD k 0 = f r k := by simp [rowF, h]
theorem all_rows {R W : Nat} {ms : List Int} {f : Nat → Nat → Int} (hl : ms.length = R * W) (hf : ∀ r k, r < R → k < W → f r k = ms.getD (r * W + k) 0) (h : ∀ r, r < R → ∀ k, k < W → I64 (f r k)) : allI ms := by
  intro x hx
  obtain ⟨i, hi, rfl⟩ := List.getElem_of_mem hx
  have hW : 0 < W := by
    rcases Nat.eq_zero_or_pos W with h0 | h0
    · rw [hl, h0, Nat.mul_zero] at hi; omega
    · exact h0
  have h1 : i / W < R := by rw [Nat.div_lt_iff_lt_mul hW]; omega
  have h2 : i % W < W := Nat.mod_lt _ hW
  have h3 : i / W * W + i % W = i := by rw [Nat.mul_comm]; exact Nat.div_add_mod i W
  have h4 := h _ h1 _ h2
  rw [hf _ _ h1 h2, h3] at h4
  have e : ms.getD i 0 = ms[i] := by simp [hi]
  rw [e] at h4
  exact h4
theorem not_all {R W r k : Nat} {ms : List Int} {f : Nat → Nat → Int} (hl : ms.length = R * W) (hf : ∀ r k, r < R → k < W → f r k = ms.getD (r * W + k) 0) (hr : r < R) (hk : k < W) (h : ¬ I64 (f r k)) : ¬ allI ms := by
  intro ha
  have h1 := row_lt hr hk
  rw [hf _ _ hr hk] at h
  exact h (ha _ (getD_mem (by rw [hl]; exact h1)))
set_option maxRecDepth 20000 in
set_option maxHeartbeats 16000000 in
theorem RGJoinPlus_c (G G2 : Gr) (R W : Nat) (l l2 : List Int) (w : World) (h : RGAt w G R W l) (h2 : RGAt w G2 R W l2) (hI : allI l) (hI2 : allI l2) :
    Calls Tryz.prog 165 #[.pointer (some ⟨G.g, 0, none⟩), .pointer (some ⟨G2.g, 0, none⟩), .int .i64 1] w (RGJoinPost w G R W (plusL l l2)) := by
  have r1 := h.r1
  have r2 := h.r2
  have w1' := h.w1
  have w2' := h.w2
  have HH := Lib.hid h
  have HH2 := Lib.hid h2
  have HIA := Lib.hid hI
  have HIB := Lib.hid hI2
  have hml : (plusL l l2).length = R * W := by rw [plusL_len]; exact h.len
  obtain ⟨f, hf⟩ : ∃ f : Nat → Nat → Int, f = fun r k => (plusL l l2).getD (r * W + k) 0 := ⟨_, rfl⟩
  have hfe : ∀ r k, r < R → k < W → f r k = (plusL l l2).getD (r * W + k) 0 := fun r k _ _ => by rw [hf]
  have hfs : ∀ r k, r < R → k < W → f r k = l.getD (r * W + k) 0 + l2.getD (r * W + k) 0 := fun r k hr hk => by rw [hf]; exact plusL_get (by rw [h.len]; exact row_lt hr hk)
  have HML := Lib.hid hml
  have HFE := Lib.hid hfe
  have HFS := Lib.hid hfs
  clear hml hf hfe hfs h h2 hI hI2
  generalize plusL l l2 = ms at *
  go_enter Tryz.func165, Tryz.ntmps165
  go_wp2_with fail
  go_loopw [7, 8] (fun u7 u8 wr => ∃ (k : Nat) (G' : Gr), k ≤ R ∧ u8 = .int .i64 k ∧ GMade wr w.heap.size G' W k u7 f ∧ Ext w wr ∧ ∀ r, r < k → ∀ j, j < W → I64 (f r j)) (fun _ u8 _ => R - (intOf u8).toNat)
  case atStart => exact ⟨0, G, Nat.zero_le _, rfl, GMade.zero w _ G W f, Ext.refl _, fun r hr => absurd hr (Nat.not_lt_zero _)⟩
  case round =>
    obtain ⟨k, G', hk, rfl, hM, hE, hall⟩ := hrel
    have HM := Lib.hid hM
    have HALL := Lib.hid hall
    have hr := HH.out.ext hE
    obtain ⟨cap, cg, hcap⟩ := hr.cg
    have lg := hr.ltg
    clear hM hall
    by_cases hlt : k < R
    · have hkz : (k : Int) < (R : Int) := by omega
      rename World => wo
      clear hr
      go_upto_region 6 with (fail)
      have hE0 : Ext wo (wo.alloc (.cells #[] 2)) := Ext.alloc' _ _
      have hro : (wo.alloc (.cells #[] 2)).ownsRow wo.heap.size 2 1 (.slice (some ⟨wo.heap.size, 0, none⟩) 0 0) 0 [] := own_empty wo _
      have HRO := Lib.hid hro
      clear cg lg hcap hro
      go_wp2_with fail
      go_loopw [9, 10] (fun u9 u10 wr => ∃ j : Nat, j ≤ W ∧ u10 = .int .i64 j ∧ wr.ownsRow wo.heap.size 2 1 u9 (rowF f k j).length (ints (rowF f k j)) ∧ Ext wo wr ∧ ∀ c, c < j → I64 (f k c)) (fun _ u10 _ => W - (intOf u10).toNat)
      case atStart => exact ⟨0, Nat.zero_le _, rfl, HRO.out, hE0, fun c hc => absurd hc (Nat.not_lt_zero _)⟩
      case round =>
        clear hE0 HRO
        obtain ⟨j, hj, rfl, hown, hEo, hrow⟩ := hrel
        have HOWN := Lib.hid hown
        have HROW := Lib.hid hrow
        have hEw := hE.trans' hEo
        have hr1 := HH.out.ext hEw
        obtain ⟨cap1, cg1, hcap1⟩ := hr1.cg
        have lg1 := hr1.ltg
        have cm1 := hr1.cm hlt
        have lm1 := hr1.ltm
        clear hown hrow
        by_cases hjt : j < W
        · have hjz : (j : Int) < (W : Int) := by omega
          have cr1 := hr1.cr hlt hjt
          have lr1 := hr1.ltr hlt
          have hr2 := HH2.out.ext hEw
          obtain ⟨cap2, cg2, hcap2⟩ := hr2.cg
          have lg2 := hr2.ltg
          have cm2 := hr2.cm hlt
          have lm2 := hr2.ltm
          have cr2 := hr2.cr hlt hjt
          have lr2 := hr2.ltr hlt
          have hix : I64 (l.getD (k * W + j) 0) := getD_i64 HIA.out _
          have hiy : I64 (l2.getD (k * W + j) 0) := getD_i64 HIB.out _
          have hfv := HFS.out k j hlt hjt
          have hc1 := hr1.capc k hlt
          have hc2 := hr2.capc k hlt
          generalize l.getD (k * W + j) 0 = x at *
          generalize l2.getD (k * W + j) 0 = y at *
          have hin := sum_in hix hiy
          have HIN := Lib.hid hin
          have HIX := Lib.hid hix
          have HIY := Lib.hid hiy
          have HFV := Lib.hid hfv
          have HEW := Lib.hid hEw
          have HRR := Lib.hid (And.intro cg1 (And.intro cm1 cr1))
          have hLT := Lib.hid (And.intro lg1 (And.intro lm1 lr1))
          clear hr1 hr2 hin hix hiy hfv hEw
          rename World => wi
          go_wp2_with fail
          refine Calls.mono (OfInt_c y HIY.out _) ?_
          rintro e w1 ⟨rfl, hx1⟩
          unfold longV longA
          go_upto_region 10 with (fail)
          have hb1 : (w1.alloc (.cells #[.int .i64 (dg y 0), .int .i64 (dg y 1), .int .i64 (dg y 2), .int .i64 (dg y 3), .int .i64 (dg y 4), .int .i64 (dg y 5), .int .i64 (dg y 6), .int .i64 (dg y 7), .int .i64 (dg y 8), .int .i64 (dg y 9)] 237)).heap[w1.heap.size]? = some (.cells #[.int .i64 (dg y 0), .int .i64 (dg y 1), .int .i64 (dg y 2), .int .i64 (dg y 3), .int .i64 (dg y 4), .int .i64 (dg y 5), .int .i64 (dg y 6), .int .i64 (dg y 7), .int .i64 (dg y 8), .int .i64 (dg y 9)] 237 (0, 0)) := heap_at _ _ rfl
          have hx2 : Ext wi (w1.alloc (.cells #[.int .i64 (dg y 0), .int .i64 (dg y 1), .int .i64 (dg y 2), .int .i64 (dg y 3), .int .i64 (dg y 4), .int .i64 (dg y 5), .int .i64 (dg y 6), .int .i64 (dg y 7), .int .i64 (dg y 8), .int .i64 (dg y 9)] 237)) := hx1.allocR _
          have hbz := hx1.size
          generalize w1.alloc (.cells #[.int .i64 (dg y 0), .int .i64 (dg y 1), .int .i64 (dg y 2), .int .i64 (dg y 3), .int .i64 (dg y 4), .int .i64 (dg y 5), .int .i64 (dg y 6), .int .i64 (dg y 7), .int .i64 (dg y 8), .int .i64 (dg y 9)] 237) = w2 at *
          generalize w1.heap.size = bx at *
          have HX2 := Lib.hid hx2
          clear hx1 hx2 cg1 cm1 cr1 cg2 cm2 cr2 lg1 lm1 lr1 lg2 lm2 lr2
          go_upto_if 48 with (fail)
          go_cut [] (fun wx => LongAt wx bx (dg (y)) ∧ Ext wi wx)
          case first =>
            go_wp2_with fail
            go_meet
            exact ⟨long_mk hb1, HX2.out⟩
          case rest =>
            obtain ⟨hL, hx4⟩ := hcut
            rename World => w4
            have hLc := long_cells hL
            have x0 := hLc 0 (by decide)
            have x1 := hLc 1 (by decide)
            have x2 := hLc 2 (by decide)
            have x3 := hLc 3 (by decide)
            have x4 := hLc 4 (by decide)
            have x5 := hLc 5 (by decide)
            have x6 := hLc 6 (by decide)
            have x7 := hLc 7 (by decide)
            have x8 := hLc 8 (by decide)
            have x9 := hLc 9 (by decide)
            have lx : bx < w4.heap.size := by unfold LongAt at hL; exact lt_of hL
            have cg1 := ((bcell hx4).1 _ _ hLT.out.1).trans HRR.out.1
            have cm1 := ((bcell hx4).1 _ _ hLT.out.2.1).trans HRR.out.2.1
            have cr1 := ((bcell hx4).1 _ _ hLT.out.2.2).trans HRR.out.2.2
            have lg1 := Nat.lt_of_lt_of_le hLT.out.1 hx4.size
            have lm1 := Nat.lt_of_lt_of_le hLT.out.2.1 hx4.size
            have lr1 := Nat.lt_of_lt_of_le hLT.out.2.2 hx4.size
            have hP : ∀ w' : World, Calls Tryz.prog 151 #[longV x, .agg #[.int .i64 (dg (y) 0), .int .i64 (dg (y) 1), .int .i64 (dg (y) 2), .int .i64 (dg (y) 3), .int .i64 (dg (y) 4), .int .i64 (dg (y) 5), .int .i64 (dg (y) 6), .int .i64 (dg (y) 7), .int .i64 (dg (y) 8), .int .i64 (dg (y) 9)]] w' fun e w'' => e = .returned (longV (x + y)) ∧ Ext w' w'' := fun w' => LPlus_c x (y) w'
            have HP := Lib.hid hP
            have hIn : ∀ w' : World, Calls Tryz.prog 150 #[longV (x + y)] w' fun e w'' => e = .returned (.tuple #[.int .i64 (fitN (x + y)), .bool (fitB (x + y))]) ∧ Ext w' w'' := fun w' => LInt_c _ (by have := HIN.out; first | exact this.1.1 | exact this.2.1) (by have := HIN.out; first | exact this.1.2 | exact this.2.2) w'
            have HINT := Lib.hid hIn
            have hOf : ∀ w' : World, Calls Tryz.prog 152 #[.int .i64 x] w' fun e w'' => e = .returned (longV x) ∧ Ext w' w'' := fun w' => OfInt_c x HIX.out w'
            have HOF := Lib.hid hOf
            have hfv : f k j = x + y := by have := HFV.out; omega
            have HFV2 := Lib.hid hfv
            clear hL hLc hP hIn hOf hfv
            generalize dg (y) = dd at *
            generalize longV x = vx at *
            generalize longV (x + y) = vs at *
            go_wp2_with fail
            refine wp_region_after (by kernel_rfl) (by kernel_rfl) ?_
            repeat (go_big_quiet_step ((first | (go_at_call 152; exact quiet_after (HOF.out _)) | (go_at_call 151; exact quiet_after (HP.out _)) | (go_at_call 150; exact quiet_after (HINT.out _)))))
            refine wpQuiet_nil ?_
            rintro _ ⟨xx, rfl⟩
            obtain ⟨w5, hb5⟩ := xx
            try dsimp only
            have hE5 := hx4.trans' hb5
            have HOWN5 := Lib.hid (own_ext HOWN.out hE5)
            have hEo5 := hEo.trans' hE5
            clear x0 x1 x2 x3 x4 x5 x6 x7 x8 x9 lx cg1 cm1 cr1 lg1 lm1 lr1 HP HINT HOF
            by_cases hfit : I64 (f k j)
            · have hfb : fitB (x + y) = true := by rw [← HFV2.out]; exact fitB_yes hfit
              have hfn : fitN (x + y) = f k j := by rw [← HFV2.out]; exact fitN_yes hfit
              rw [hfb, hfn]
              have HFIT := Lib.hid hfit
              have hrs := rowF_succ f k j
              have HRS := Lib.hid hrs
              have hrl := rowF_len f k j
              have HRL := Lib.hid hrl
              have hsz5 := hEo5.size
              clear hfb hfn hfit hrs hrl
              generalize hv : f k j = v at *
              have HV := Lib.hid hv
              clear hv
              go_wp2_with (at_builtin; refine wpList_app1 w5 v (rowF f k j) u9 wo.heap.size 2 HOWN5.out 43 rfl _ _ rfl info_i64 Tryz.underlying43 (by rfl) (by rfl) ?a1 ?a2 ?_)
              case a1 => rw [HRL.out]; omega
              case a2 => exact hsz5
              intro v' w6 g1 g2 _
              have hE6 : Ext wo w6 := ext_grown hEo5 g2 (fun i hi => own_blk HOWN5.out hi)
              have G1 := Lib.hid g1
              clear g1 g2
              go_wp2
              go_roundw
              case rel =>
                refine ⟨j + 1, by omega, by go_num, by rw [HRS.out, List.length_append]; exact G1.out, hE6, fun c hc => ?_⟩
                by_cases e : c = j
                · rw [e, HV.out]; exact HFIT.out
                · exact HROW.out c (by omega)
              case measure => simp [intOf]; omega
            · have hfb : fitB (x + y) = false := by rw [← HFV2.out]; exact fitB_no hfit
              have hno := not_all HML.out HFE.out hlt hjt hfit
              have HNO := Lib.hid hno
              have hEf := hE.trans' hEo5
              rw [hfb]
              clear hfb hfit hno
              go_wp2
              go_ret
              exact .inr ⟨HNO.out, rfl, hEf⟩
        · obtain rfl : j = W := by omega
          have hrl := rowF_len f k j
          obtain ⟨z, zc, cur, rfl, hzc, hz, hzh, hzcur⟩ := own_row1 HOWN.out (by rw [hrl]; omega)
          rw [hrl] at hzc hzcur ⊢
          obtain ⟨i0, z0, hi0, hz0, hz1, hz2, hz3⟩ := info_row
          have HMX := Lib.hid (HM.out.ext hEo)
          have HC := Lib.hid (And.intro hzc (And.intro hz (And.intro hzh hzcur)))
          have hszo := hE.size
          have hszr := hEo.size
          clear HOWN hrl hzc hz hzh hzcur hr1
          go_wp2_with (at_builtin; refine wpList_appB wr 24 (by decide) (.slice (some ⟨z, 0, none⟩) j zc) rfl ((List.range k).map (G'.row j)) u7 w.heap.size 43 HMX.out.row 159 rfl _ _ rfl i0 z0 hi0 hz0 hz1 hz2 hz3 Tryz.underlying159 (by rfl) (by rfl) ?b1 ?b2 ?_)
          case b1 => rw [List.length_map, List.length_range]; omega
          case b2 => omega
          intro v' w' g1 g2
          obtain ⟨q1, q2, q3, q4⟩ := HC.out
          have hnext := HMX.out.next q3 (fun i hi => by rw [q4 i hi, rowF_get hi]) q1 (fun r hr => HM.out.lt hr) (by omega) q2 (by rw [List.length_append, List.length_map, List.length_range]; exact g1) g2
          have hEf : Ext w w' := ext_grown (hE.trans' hEo) g2 (fun i hi => own_blk HMX.out.row hi)
          have HN := Lib.hid hnext
          clear hnext g1 g2
          go_wp2
          go_roundw
          case rel =>
            refine ⟨k + 1, _, by omega, by go_num, HN.out, hEf, fun r hr c hc => ?_⟩
            by_cases e : r = k
            · rw [e]; exact HROW.out c hc
            · exact HALL.out r (by omega) c hc
          case measure => simp [intOf]; omega
    · obtain rfl : k = R := by omega
      obtain ⟨pv, nv, cv, rfl⟩ := own_slice HM.out.row
      obtain ⟨cap3, hex, hcap3⟩ := hr.ex
      have fz := frozen_of hex 0
      have HEX := Lib.hid hex
      have hall := all_rows HML.out HFE.out (fun r hr j hj => HALL.out r hr j hj)
      have HA := Lib.hid hall
      have hgl := HH.out.ltg
      clear hr hex hall
      go_wp2
      go_ret
      have hb := (setCell_same HEX.out 0 (.slice pv nv cv)).trans rfl
      obtain ⟨m, hm, hG⟩ := (HM.out.setc hgl 0 (.slice pv nv cv)).grid (g := G.g) hb HML.out HFE.out r1 r2 w1' w2'
      refine .inl ⟨HA.out, rfl, ⟨G.g, m, G'.r, G'.c⟩, rfl, hG, ?_, (hE.mod _).trans (mod_set _ _ _ _)⟩
      rintro i (rfl | rfl | ⟨r, hr, rfl⟩)
      · exact .inl rfl
      · exact .inr hm
      · exact .inr (HM.out.new r hr)
set_option maxRecDepth 20000 in
set_option maxHeartbeats 16000000 in
theorem RGJoinMinus_c (G G2 : Gr) (R W : Nat) (l l2 : List Int) (w : World) (h : RGAt w G R W l) (h2 : RGAt w G2 R W l2) (hI : allI l) (hI2 : allI l2) :
    Calls Tryz.prog 165 #[.pointer (some ⟨G.g, 0, none⟩), .pointer (some ⟨G2.g, 0, none⟩), .int .i64 (-1)] w (RGJoinPost w G R W (minusL l l2)) := by
  have r1 := h.r1
  have r2 := h.r2
  have w1' := h.w1
  have w2' := h.w2
  have HH := Lib.hid h
  have HH2 := Lib.hid h2
  have HIA := Lib.hid hI
  have HIB := Lib.hid hI2
  have hml : (minusL l l2).length = R * W := by rw [minusL_len]; exact h.len
  obtain ⟨f, hf⟩ : ∃ f : Nat → Nat → Int, f = fun r k => (minusL l l2).getD (r * W + k) 0 := ⟨_, rfl⟩
  have hfe : ∀ r k, r < R → k < W → f r k = (minusL l l2).getD (r * W + k) 0 := fun r k _ _ => by rw [hf]
  have hfs : ∀ r k, r < R → k < W → f r k = l.getD (r * W + k) 0 - l2.getD (r * W + k) 0 := fun r k hr hk => by rw [hf]; exact minusL_get (by rw [h.len]; exact row_lt hr hk)
  have HML := Lib.hid hml
  have HFE := Lib.hid hfe
  have HFS := Lib.hid hfs
  clear hml hf hfe hfs h h2 hI hI2
  generalize minusL l l2 = ms at *
  go_enter Tryz.func165, Tryz.ntmps165
  go_wp2_with fail
  go_loopw [7, 8] (fun u7 u8 wr => ∃ (k : Nat) (G' : Gr), k ≤ R ∧ u8 = .int .i64 k ∧ GMade wr w.heap.size G' W k u7 f ∧ Ext w wr ∧ ∀ r, r < k → ∀ j, j < W → I64 (f r j)) (fun _ u8 _ => R - (intOf u8).toNat)
  case atStart => exact ⟨0, G, Nat.zero_le _, rfl, GMade.zero w _ G W f, Ext.refl _, fun r hr => absurd hr (Nat.not_lt_zero _)⟩
  case round =>
    obtain ⟨k, G', hk, rfl, hM, hE, hall⟩ := hrel
    have HM := Lib.hid hM
    have HALL := Lib.hid hall
    have hr := HH.out.ext hE
    obtain ⟨cap, cg, hcap⟩ := hr.cg
    have lg := hr.ltg
    clear hM hall
    by_cases hlt : k < R
    · have hkz : (k : Int) < (R : Int) := by omega
      rename World => wo
      clear hr
      go_upto_region 6 with (fail)
      have hE0 : Ext wo (wo.alloc (.cells #[] 2)) := Ext.alloc' _ _
      have hro : (wo.alloc (.cells #[] 2)).ownsRow wo.heap.size 2 1 (.slice (some ⟨wo.heap.size, 0, none⟩) 0 0) 0 [] := own_empty wo _
      have HRO := Lib.hid hro
      clear cg lg hcap hro
      go_wp2_with fail
      go_loopw [9, 10] (fun u9 u10 wr => ∃ j : Nat, j ≤ W ∧ u10 = .int .i64 j ∧ wr.ownsRow wo.heap.size 2 1 u9 (rowF f k j).length (ints (rowF f k j)) ∧ Ext wo wr ∧ ∀ c, c < j → I64 (f k c)) (fun _ u10 _ => W - (intOf u10).toNat)
      case atStart => exact ⟨0, Nat.zero_le _, rfl, HRO.out, hE0, fun c hc => absurd hc (Nat.not_lt_zero _)⟩
      case round =>
        clear hE0 HRO
        obtain ⟨j, hj, rfl, hown, hEo, hrow⟩ := hrel
        have HOWN := Lib.hid hown
        have HROW := Lib.hid hrow
        have hEw := hE.trans' hEo
        have hr1 := HH.out.ext hEw
        obtain ⟨cap1, cg1, hcap1⟩ := hr1.cg
        have lg1 := hr1.ltg
        have cm1 := hr1.cm hlt
        have lm1 := hr1.ltm
        clear hown hrow
        by_cases hjt : j < W
        · have hjz : (j : Int) < (W : Int) := by omega
          have cr1 := hr1.cr hlt hjt
          have lr1 := hr1.ltr hlt
          have hr2 := HH2.out.ext hEw
          obtain ⟨cap2, cg2, hcap2⟩ := hr2.cg
          have lg2 := hr2.ltg
          have cm2 := hr2.cm hlt
          have lm2 := hr2.ltm
          have cr2 := hr2.cr hlt hjt
          have lr2 := hr2.ltr hlt
          have hix : I64 (l.getD (k * W + j) 0) := getD_i64 HIA.out _
          have hiy : I64 (l2.getD (k * W + j) 0) := getD_i64 HIB.out _
          have hfv := HFS.out k j hlt hjt
          have hc1 := hr1.capc k hlt
          have hc2 := hr2.capc k hlt
          generalize l.getD (k * W + j) 0 = x at *
          generalize l2.getD (k * W + j) 0 = y at *
          have hin := sum_in hix hiy
          have HIN := Lib.hid hin
          have HIX := Lib.hid hix
          have HIY := Lib.hid hiy
          have HFV := Lib.hid hfv
          have HEW := Lib.hid hEw
          have HRR := Lib.hid (And.intro cg1 (And.intro cm1 cr1))
          have hLT := Lib.hid (And.intro lg1 (And.intro lm1 lr1))
          clear hr1 hr2 hin hix hiy hfv hEw
          rename World => wi
          go_wp2_with fail
          refine Calls.mono (OfInt_c y HIY.out _) ?_
          rintro e w1 ⟨rfl, hx1⟩
          unfold longV longA
          go_upto_region 10 with (fail)
          have hb1 : (w1.alloc (.cells #[.int .i64 (dg y 0), .int .i64 (dg y 1), .int .i64 (dg y 2), .int .i64 (dg y 3), .int .i64 (dg y 4), .int .i64 (dg y 5), .int .i64 (dg y 6), .int .i64 (dg y 7), .int .i64 (dg y 8), .int .i64 (dg y 9)] 237)).heap[w1.heap.size]? = some (.cells #[.int .i64 (dg y 0), .int .i64 (dg y 1), .int .i64 (dg y 2), .int .i64 (dg y 3), .int .i64 (dg y 4), .int .i64 (dg y 5), .int .i64 (dg y 6), .int .i64 (dg y 7), .int .i64 (dg y 8), .int .i64 (dg y 9)] 237 (0, 0)) := heap_at _ _ rfl
          have hx2 : Ext wi (w1.alloc (.cells #[.int .i64 (dg y 0), .int .i64 (dg y 1), .int .i64 (dg y 2), .int .i64 (dg y 3), .int .i64 (dg y 4), .int .i64 (dg y 5), .int .i64 (dg y 6), .int .i64 (dg y 7), .int .i64 (dg y 8), .int .i64 (dg y 9)] 237)) := hx1.allocR _
          have hbz := hx1.size
          generalize w1.alloc (.cells #[.int .i64 (dg y 0), .int .i64 (dg y 1), .int .i64 (dg y 2), .int .i64 (dg y 3), .int .i64 (dg y 4), .int .i64 (dg y 5), .int .i64 (dg y 6), .int .i64 (dg y 7), .int .i64 (dg y 8), .int .i64 (dg y 9)] 237) = w2 at *
          generalize w1.heap.size = bx at *
          have HX2 := Lib.hid hx2
          clear hx1 hx2 cg1 cm1 cr1 cg2 cm2 cr2 lg1 lm1 lr1 lg2 lm2 lr2
          have x0 := (cell_of hb1 0).trans rfl
          have x1 := (cell_of hb1 1).trans rfl
          have x2 := (cell_of hb1 2).trans rfl
          have x3 := (cell_of hb1 3).trans rfl
          have x4 := (cell_of hb1 4).trans rfl
          have x5 := (cell_of hb1 5).trans rfl
          have x6 := (cell_of hb1 6).trans rfl
          have x7 := (cell_of hb1 7).trans rfl
          have x8 := (cell_of hb1 8).trans rfl
          have x9 := (cell_of hb1 9).trans rfl
          have lx := lt_of hb1
          go_upto_if 48 with (fail)
          go_cut [] (fun wx => LongAt wx bx (dg (-y)) ∧ Ext wi wx)
          case first =>
            have HB1 := Lib.hid hb1
            clear hb1
            have hMn : ∀ w' : World, Calls Tryz.prog 153 #[.agg #[.int .i64 (dg y 0), .int .i64 (dg y 1), .int .i64 (dg y 2), .int .i64 (dg y 3), .int .i64 (dg y 4), .int .i64 (dg y 5), .int .i64 (dg y 6), .int .i64 (dg y 7), .int .i64 (dg y 8), .int .i64 (dg y 9)]] w' fun e w'' => e = .returned (longV (-y)) ∧ Ext w' w'' := fun w' => LMinus_c y w'
            have HMN := Lib.hid hMn
            clear hMn
            go_wp2_with fail
            refine Calls.mono (HMN.out _) ?_
            rintro e w3 ⟨rfl, hx3⟩
            have hb3 := hx3.keep HB1.out
            have hE3 := HX2.out.trans' hx3
            clear x0 x1 x2 x3 x4 x5 x6 x7 x8 x9 lx
            have z0 := (cell_of hb3 0).trans rfl
            have f0 := frozen_of hb3 0
            have z1 := (cell_of hb3 1).trans rfl
            have f1 := frozen_of hb3 1
            have z2 := (cell_of hb3 2).trans rfl
            have f2 := frozen_of hb3 2
            have z3 := (cell_of hb3 3).trans rfl
            have f3 := frozen_of hb3 3
            have z4 := (cell_of hb3 4).trans rfl
            have f4 := frozen_of hb3 4
            have z5 := (cell_of hb3 5).trans rfl
            have f5 := frozen_of hb3 5
            have z6 := (cell_of hb3 6).trans rfl
            have f6 := frozen_of hb3 6
            have z7 := (cell_of hb3 7).trans rfl
            have f7 := frozen_of hb3 7
            have z8 := (cell_of hb3 8).trans rfl
            have f8 := frozen_of hb3 8
            have z9 := (cell_of hb3 9).trans rfl
            have f9 := frozen_of hb3 9
            have lz := lt_of hb3
            have HB3 := Lib.hid hb3
            clear hb3
            unfold longV longA
            go_wp2_with fail
            refine fin10 (Φ := fun W' => Met _ _ W') HB3.out hE3 hbz (fun W' hW hEW => ?_)
            go_meet
            exact ⟨long_mk hW, hEW⟩
          case rest =>
            obtain ⟨hL, hx4⟩ := hcut
            rename World => w4
            have hLc := long_cells hL
            have x0 := hLc 0 (by decide)
            have x1 := hLc 1 (by decide)
            have x2 := hLc 2 (by decide)
            have x3 := hLc 3 (by decide)
            have x4 := hLc 4 (by decide)
            have x5 := hLc 5 (by decide)
            have x6 := hLc 6 (by decide)
            have x7 := hLc 7 (by decide)
            have x8 := hLc 8 (by decide)
            have x9 := hLc 9 (by decide)
            have lx : bx < w4.heap.size := by unfold LongAt at hL; exact lt_of hL
            have cg1 := ((bcell hx4).1 _ _ hLT.out.1).trans HRR.out.1
            have cm1 := ((bcell hx4).1 _ _ hLT.out.2.1).trans HRR.out.2.1
            have cr1 := ((bcell hx4).1 _ _ hLT.out.2.2).trans HRR.out.2.2
            have lg1 := Nat.lt_of_lt_of_le hLT.out.1 hx4.size
            have lm1 := Nat.lt_of_lt_of_le hLT.out.2.1 hx4.size
            have lr1 := Nat.lt_of_lt_of_le hLT.out.2.2 hx4.size
            have hP : ∀ w' : World, Calls Tryz.prog 151 #[longV x, .agg #[.int .i64 (dg (-y) 0), .int .i64 (dg (-y) 1), .int .i64 (dg (-y) 2), .int .i64 (dg (-y) 3), .int .i64 (dg (-y) 4), .int .i64 (dg (-y) 5), .int .i64 (dg (-y) 6), .int .i64 (dg (-y) 7), .int .i64 (dg (-y) 8), .int .i64 (dg (-y) 9)]] w' fun e w'' => e = .returned (longV (x + -y)) ∧ Ext w' w'' := fun w' => LPlus_c x (-y) w'
            have HP := Lib.hid hP
            have hIn : ∀ w' : World, Calls Tryz.prog 150 #[longV (x + -y)] w' fun e w'' => e = .returned (.tuple #[.int .i64 (fitN (x + -y)), .bool (fitB (x + -y))]) ∧ Ext w' w'' := fun w' => LInt_c _ (by have := HIN.out; first | exact this.1.1 | exact this.2.1) (by have := HIN.out; first | exact this.1.2 | exact this.2.2) w'
            have HINT := Lib.hid hIn
            have hOf : ∀ w' : World, Calls Tryz.prog 152 #[.int .i64 x] w' fun e w'' => e = .returned (longV x) ∧ Ext w' w'' := fun w' => OfInt_c x HIX.out w'
            have HOF := Lib.hid hOf
            have hfv : f k j = x + -y := by have := HFV.out; omega
            have HFV2 := Lib.hid hfv
            clear hL hLc hP hIn hOf hfv
            generalize dg (-y) = dd at *
            generalize longV x = vx at *
            generalize longV (x + -y) = vs at *
            go_wp2_with fail
            refine wp_region_after (by kernel_rfl) (by kernel_rfl) ?_
            repeat (go_big_quiet_step ((first | (go_at_call 152; exact quiet_after (HOF.out _)) | (go_at_call 151; exact quiet_after (HP.out _)) | (go_at_call 150; exact quiet_after (HINT.out _)))))
            refine wpQuiet_nil ?_
            rintro _ ⟨xx, rfl⟩
            obtain ⟨w5, hb5⟩ := xx
            try dsimp only
            have hE5 := hx4.trans' hb5
            have HOWN5 := Lib.hid (own_ext HOWN.out hE5)
            have hEo5 := hEo.trans' hE5
            clear x0 x1 x2 x3 x4 x5 x6 x7 x8 x9 lx cg1 cm1 cr1 lg1 lm1 lr1 HP HINT HOF
            by_cases hfit : I64 (f k j)
            · have hfb : fitB (x + -y) = true := by rw [← HFV2.out]; exact fitB_yes hfit
              have hfn : fitN (x + -y) = f k j := by rw [← HFV2.out]; exact fitN_yes hfit
              rw [hfb, hfn]
              have HFIT := Lib.hid hfit
              have hrs := rowF_succ f k j
              have HRS := Lib.hid hrs
              have hrl := rowF_len f k j
              have HRL := Lib.hid hrl
              have hsz5 := hEo5.size
              clear hfb hfn hfit hrs hrl
              generalize hv : f k j = v at *
              have HV := Lib.hid hv
              clear hv
              go_wp2_with (at_builtin; refine wpList_app1 w5 v (rowF f k j) u9 wo.heap.size 2 HOWN5.out 43 rfl _ _ rfl info_i64 Tryz.underlying43 (by rfl) (by rfl) ?a1 ?a2 ?_)
              case a1 => rw [HRL.out]; omega
              case a2 => exact hsz5
              intro v' w6 g1 g2 _
              have hE6 : Ext wo w6 := ext_grown hEo5 g2 (fun i hi => own_blk HOWN5.out hi)
              have G1 := Lib.hid g1
              clear g1 g2
              go_wp2
              go_roundw
              case rel =>
                refine ⟨j + 1, by omega, by go_num, by rw [HRS.out, List.length_append]; exact G1.out, hE6, fun c hc => ?_⟩
                by_cases e : c = j
                · rw [e, HV.out]; exact HFIT.out
                · exact HROW.out c (by omega)
              case measure => simp [intOf]; omega
            · have hfb : fitB (x + -y) = false := by rw [← HFV2.out]; exact fitB_no hfit
              have hno := not_all HML.out HFE.out hlt hjt hfit
              have HNO := Lib.hid hno
              have hEf := hE.trans' hEo5
              rw [hfb]
              clear hfb hfit hno
              go_wp2
              go_ret
              exact .inr ⟨HNO.out, rfl, hEf⟩
        · obtain rfl : j = W := by omega
          have hrl := rowF_len f k j
          obtain ⟨z, zc, cur, rfl, hzc, hz, hzh, hzcur⟩ := own_row1 HOWN.out (by rw [hrl]; omega)
          rw [hrl] at hzc hzcur ⊢
          obtain ⟨i0, z0, hi0, hz0, hz1, hz2, hz3⟩ := info_row
          have HMX := Lib.hid (HM.out.ext hEo)
          have HC := Lib.hid (And.intro hzc (And.intro hz (And.intro hzh hzcur)))
          have hszo := hE.size
          have hszr := hEo.size
          clear HOWN hrl hzc hz hzh hzcur hr1
          go_wp2_with (at_builtin; refine wpList_appB wr 24 (by decide) (.slice (some ⟨z, 0, none⟩) j zc) rfl ((List.range k).map (G'.row j)) u7 w.heap.size 43 HMX.out.row 159 rfl _ _ rfl i0 z0 hi0 hz0 hz1 hz2 hz3 Tryz.underlying159 (by rfl) (by rfl) ?b1 ?b2 ?_)
          case b1 => rw [List.length_map, List.length_range]; omega
          case b2 => omega
          intro v' w' g1 g2
          obtain ⟨q1, q2, q3, q4⟩ := HC.out
          have hnext := HMX.out.next q3 (fun i hi => by rw [q4 i hi, rowF_get hi]) q1 (fun r hr => HM.out.lt hr) (by omega) q2 (by rw [List.length_append, List.length_map, List.length_range]; exact g1) g2
          have hEf : Ext w w' := ext_grown (hE.trans' hEo) g2 (fun i hi => own_blk HMX.out.row hi)
          have HN := Lib.hid hnext
          clear hnext g1 g2
          go_wp2
          go_roundw
          case rel =>
            refine ⟨k + 1, _, by omega, by go_num, HN.out, hEf, fun r hr c hc => ?_⟩
            by_cases e : r = k
            · rw [e]; exact HROW.out c hc
            · exact HALL.out r (by omega) c hc
          case measure => simp [intOf]; omega
    · obtain rfl : k = R := by omega
      obtain ⟨pv, nv, cv, rfl⟩ := own_slice HM.out.row
      obtain ⟨cap3, hex, hcap3⟩ := hr.ex
      have fz := frozen_of hex 0
      have HEX := Lib.hid hex
      have hall := all_rows HML.out HFE.out (fun r hr j hj => HALL.out r hr j hj)
      have HA := Lib.hid hall
      have hgl := HH.out.ltg
      clear hr hex hall
      go_wp2
      go_ret
      have hb := (setCell_same HEX.out 0 (.slice pv nv cv)).trans rfl
      obtain ⟨m, hm, hG⟩ := (HM.out.setc hgl 0 (.slice pv nv cv)).grid (g := G.g) hb HML.out HFE.out r1 r2 w1' w2'
      refine .inl ⟨HA.out, rfl, ⟨G.g, m, G'.r, G'.c⟩, rfl, hG, ?_, (hE.mod _).trans (mod_set _ _ _ _)⟩
      rintro i (rfl | rfl | ⟨r, hr, rfl⟩)
      · exact .inl rfl
      · exact .inr hm
      · exact .inr (HM.out.new r hr)
end Go.Proofs.YtfhdjekpdifajaaGreat

/- gaugerref10.Join. -/
namespace Go.Proofs.YtfhdjekpdifajaaGreat
set_option linter.unusedVariables false
open Go.RowKit
def RSJoinPost (w : World) (s : Nat) (G : Gr) (C : Cfg) (lv : Int) (R W : Nat) (ms : List Int) (e : Ending) (w' : World) : Prop :=
  (allI ms ∧ e = .returned (.int .i64 0) ∧ ∃ G' : Gr, RSAt w' s G' C lv R W ms ∧ (∀ k, rsF s G' R k → rsF s G R k ∨ w.heap.size ≤ k) ∧ Mod (rsF s G R) w w') ∨ (¬ allI ms ∧ e = .returned (.int .i64 4) ∧ Ext w w')
set_option maxRecDepth 20000 in
set_option maxHeartbeats 8000000 in
theorem RSJoinPlus_c (s s2 : Nat) (G G2 : Gr) (C : Cfg) (lv : Int) (R W : Nat) (l l2 : List Int) (w : World) (h : RSAt w s G C lv R W l) (h2 : RSAt w s2 G2 C lv R W l2) (hmd : "Plus" = "Minus" → C.mode ≠ 2) :
    Calls Tryz.prog 114 #[.pointer (some ⟨s, 0, none⟩), .pointer (some ⟨s2, 0, none⟩), .int .i64 1] w (RSJoinPost w s G C lv R W (plusL l l2)) := by
  have HH := Lib.hid h
  have HH2 := Lib.hid h2
  have ls := h.lts
  have hex := h.ex
  have c0 := (cell_of hex 0).trans rfl
  have c1 := (cell_of hex 1).trans rfl
  have c2 := (cell_of hex 2).trans rfl
  have c3 := (cell_of hex 3).trans rfl
  have c4 := (cell_of hex 4).trans rfl
  have c5 := (cell_of hex 5).trans rfl
  have ls2 := h2.lts
  have hex2 := h2.ex
  have d0 := (cell_of hex2 0).trans rfl
  have d1 := (cell_of hex2 1).trans rfl
  have d2 := (cell_of hex2 2).trans rfl
  have d3 := (cell_of hex2 3).trans rfl
  have d4 := (cell_of hex2 4).trans rfl
  have d5 := (cell_of hex2 5).trans rfl
  clear hex hex2 h h2 hmd
  go_enter Tryz.func114, Tryz.ntmps114
  go_wp2_with fail
  have hC0 := af_drew w
  refine pi_start (fun w' => ∃ z : After w, w' = z.w) [] (by kernel_rfl) ?_
  refine pi_t 0 rfl (by kernel_rfl) (by kernel_rfl) (fun _ _ _ _ h => h) (fun K hK => ?_)
  go_big_quiet_op
  refine hK _ ?_
  clear hK K
  refine pi_t 1 rfl (by kernel_rfl) (by kernel_rfl) (fun _ _ _ _ h => h) (fun K hK => ?_)
  go_big_quiet_op
  refine hK _ ?_
  clear hK K
  refine pi_t 2 rfl (by kernel_rfl) (by kernel_rfl) (fun _ _ _ _ h => h) (fun K hK => ?_)
  go_big_quiet_op
  refine hK _ ?_
  clear hK K
  refine pi_t 4 rfl (by kernel_rfl) (by kernel_rfl) (fun _ _ _ _ h => h) (fun K hK => ?_)
  go_big_quiet_op
  refine hK _ ?_
  clear hK K
  refine pi_t 5 rfl (by kernel_rfl) (by kernel_rfl) (fun _ _ _ _ h => h) (fun K hK => ?_)
  go_big_quiet_op
  refine hK _ ?_
  clear hK K
  refine pi_t 6 rfl (by kernel_rfl) (by kernel_rfl) (fun _ _ _ _ h => h) (fun K hK => ?_)
  go_big_quiet_op
  refine hK _ ?_
  clear hK K
  refine pi_c 3 (by assumption) rfl (by kernel_rfl) (by kernel_rfl) (fun _ _ _ _ h => h) (fun K hK => ?_)
  go_big_quiet_op
  refine hK _ ?_
  clear hK K
  refine pi_c 7 (by assumption) rfl (by kernel_rfl) (by kernel_rfl) (fun _ _ _ _ h => h) (fun K hK => ?_)
  go_big_quiet_op
  refine hK _ ?_
  clear hK K
  refine pi_t 8 rfl (by kernel_rfl) (by kernel_rfl) (fun _ _ _ _ h => h) (fun K hK => ?_)
  go_big_quiet_op
  refine hK _ ?_
  clear hK K
  refine pi_t 9 rfl (by kernel_rfl) (by kernel_rfl) (fun _ _ _ _ h => h) (fun K hK => ?_)
  go_big_quiet_op
  refine hK _ ?_
  clear hK K
  refine pi_t 10 rfl (by kernel_rfl) (by kernel_rfl) (fun _ _ _ _ h => h) (fun K hK => ?_)
  go_big_quiet_op
  refine hK _ ?_
  clear hK K
  refine pi_t 11 rfl (by kernel_rfl) (by kernel_rfl) (fun _ _ _ _ h => h) (fun K hK => ?_)
  go_big_quiet_op
  refine hK _ ?_
  clear hK K
  refine pi_t 12 rfl (by kernel_rfl) (by kernel_rfl) (fun _ _ _ _ h => h) (fun K hK => ?_)
  go_big_quiet_op
  refine hK _ ?_
  clear hK K
  refine pi_t 14 rfl (by kernel_rfl) (by kernel_rfl) (fun _ _ _ _ h => h) (fun K hK => ?_)
  go_big_quiet_op
  refine hK _ ?_
  clear hK K
  refine pi_t 15 rfl (by kernel_rfl) (by kernel_rfl) (fun _ _ _ _ h => h) (fun K hK => ?_)
  go_big_quiet_op
  refine hK _ ?_
  clear hK K
  refine pi_t 16 rfl (by kernel_rfl) (by kernel_rfl) (fun _ _ _ _ h => h) (fun K hK => ?_)
  go_big_quiet_op
  refine hK _ ?_
  clear hK K
  refine pi_c 13 (by assumption) rfl (by kernel_rfl) (by kernel_rfl) (fun _ _ _ _ h => h) (fun K hK => ?_)
  go_big_quiet_op
  refine hK _ ?_
  clear hK K
  refine pi_c 17 (by assumption) rfl (by kernel_rfl) (by kernel_rfl) (fun _ _ _ _ h => h) (fun K hK => ?_)
  go_big_quiet_op
  refine hK _ ?_
  clear hK K
  refine pi_t 18 rfl (by kernel_rfl) (by kernel_rfl) (fun _ _ _ _ h => h) (fun K hK => ?_)
  go_big_quiet_op
  refine hK _ ?_
  clear hK K
  refine pi_t 19 rfl (by kernel_rfl) (by kernel_rfl) (fun _ _ _ _ h => h) (fun K hK => ?_)
  go_big_quiet_op
  refine hK _ ?_
  clear hK K
  refine pi_end (by kernel_rfl) ?_
  have hE1 : Ext w w.drew := Below.drew (Ext.refl w)
  have HG := Lib.hid (fun W' (hW : Ext w W') => RGJoinPlus_c G G2 R W l l2 W' (HH.out.g.ext hW) (HH2.out.g.ext hW) HH.out.fit HH2.out.fit)
  have hex1 := HH.out.ex
  have hex2 := HH2.out.ex
  have c6 := (cell_of hex1 6).trans rfl
  have d6 := (cell_of hex2 6).trans rfl
  clear hex1 hex2
  go_wp2_with fail
  have hC0 : ∃ z : After w, w.drew.drew = z.w := ⟨⟨_, (Ext.refl w).drewR.drewR⟩, rfl⟩
  refine pi_start (fun w' => ∃ z : After w, w' = z.w) [9] (by kernel_rfl) ?_
  refine pi_t 0 rfl (by kernel_rfl) (by kernel_rfl) (fun _ _ _ _ h => h) (fun K hK => ?_)
  go_big_quiet_op
  refine hK _ ?_
  clear hK K
  refine pi_t 1 rfl (by kernel_rfl) (by kernel_rfl) (fun _ _ _ _ h => h) (fun K hK => ?_)
  go_big_quiet_op
  refine hK _ ?_
  clear hK K
  refine pi_t 2 rfl (by kernel_rfl) (by kernel_rfl) (fun _ _ _ _ h => h) (fun K hK => ?_)
  go_big_quiet_op
  refine hK _ ?_
  clear hK K
  refine pi_t 4 rfl (by kernel_rfl) (by kernel_rfl) (fun _ _ _ _ h => h) (fun K hK => ?_)
  go_big_quiet_op
  refine hK _ ?_
  clear hK K
  refine pi_t 5 rfl (by kernel_rfl) (by kernel_rfl) (fun _ _ _ _ h => h) (fun K hK => ?_)
  go_big_quiet_op
  refine hK _ ?_
  clear hK K
  refine pi_t 6 rfl (by kernel_rfl) (by kernel_rfl) (fun _ _ _ _ h => h) (fun K hK => ?_)
  go_big_quiet_op
  refine hK _ ?_
  clear hK K
  refine pi_t 8 rfl (by kernel_rfl) (by kernel_rfl) (fun _ _ _ _ h => h) (fun K hK => ?_)
  go_big_quiet_op
  refine hK _ ?_
  clear hK K
  refine pi_c 3 (by assumption) rfl (by kernel_rfl) (by kernel_rfl) (fun _ _ _ _ h => h) (fun K hK => ?_)
  go_big_quiet_op
  refine hK _ ?_
  clear hK K
  refine pi_c 7 (by assumption) rfl (by kernel_rfl) (by kernel_rfl) (fun _ _ _ _ h => h) (fun K hK => ?_)
  go_big_quiet_op
  refine hK _ ?_
  clear hK K
  refine pi_l 9 rfl (by kernel_rfl) (fun K hK => ?_)
  go_wp2_with (go_at_call 165; refine Calls.mono (HG.out _ (Ext.refl w).drewR.drewR) ?_; rintro e w1 (⟨ha, rfl, G', hg', hG', hF', hM'⟩ | ⟨ha, rfl, hx'⟩))
  · refine hK _ _ (by simp) ?_
    clear hK K
    have HA := Lib.hid ha
    have HGG := Lib.hid hg'
    have HG' := Lib.hid hG'
    have HF' := Lib.hid hF'
    have hM2 : Mod (fun k => k = G.g) w w1 := ((Ext.refl w).drewR.drewR.mod _).trans hM'
    clear ha hg' hG' hF' hM'
    refine pi_t 10 rfl (by kernel_rfl) (by kernel_rfl) (fun _ _ _ _ h => h) (fun K hK => ?_)
    go_big_quiet_op
    refine hK _ ?_
    clear hK K
    refine pi_end (by kernel_rfl) ?_
    go_wp2
    go_ret
    refine .inl ⟨HA.out, rfl, G', ⟨?_, HG'.out, HH.out.ok, HH.out.lo, HH.out.hi, HH.out.hr, HH.out.hw, HA.out⟩, ?_, hM2.wider (fun k hk => .inr (.inl hk))⟩
    · rw [HGG.out, hM2.block s ls (fun e => HH.out.ns (.inl e))]; exact HH.out.ex
    · rintro k (rfl | hk)
      · exact .inl (.inl rfl)
      · rcases HF'.out k hk with h1 | h1
        · exact .inl (.inr (.inl h1))
        · exact .inr h1
  · refine hK _ _ (by simp) ?_
    clear hK K
    have HA := Lib.hid ha
    have hE2 : Ext w w1 := (Ext.refl w).drewR.drewR.trans' hx'
    clear ha hx'
    refine pi_t 10 rfl (by kernel_rfl) (by kernel_rfl) (fun _ _ _ _ h => h) (fun K hK => ?_)
    go_big_quiet_op
    refine hK _ ?_
    clear hK K
    refine pi_end (by kernel_rfl) ?_
    go_wp2
    go_ret
    exact .inr ⟨HA.out, rfl, hE2⟩
set_option maxRecDepth 20000 in
set_option maxHeartbeats 8000000 in
theorem RSJoinMinus_c (s s2 : Nat) (G G2 : Gr) (C : Cfg) (lv : Int) (R W : Nat) (l l2 : List Int) (w : World) (h : RSAt w s G C lv R W l) (h2 : RSAt w s2 G2 C lv R W l2) (hmd : "Minus" = "Minus" → C.mode ≠ 2) :
    Calls Tryz.prog 114 #[.pointer (some ⟨s, 0, none⟩), .pointer (some ⟨s2, 0, none⟩), .int .i64 (-1)] w (RSJoinPost w s G C lv R W (minusL l l2)) := by
  have HH := Lib.hid h
  have HH2 := Lib.hid h2
  have ls := h.lts
  have hex := h.ex
  have c0 := (cell_of hex 0).trans rfl
  have c1 := (cell_of hex 1).trans rfl
  have c2 := (cell_of hex 2).trans rfl
  have c3 := (cell_of hex 3).trans rfl
  have c4 := (cell_of hex 4).trans rfl
  have c5 := (cell_of hex 5).trans rfl
  have ls2 := h2.lts
  have hex2 := h2.ex
  have d0 := (cell_of hex2 0).trans rfl
  have d1 := (cell_of hex2 1).trans rfl
  have d2 := (cell_of hex2 2).trans rfl
  have d3 := (cell_of hex2 3).trans rfl
  have d4 := (cell_of hex2 4).trans rfl
  have d5 := (cell_of hex2 5).trans rfl
  have hmm : (C.mode == 2) = false := by have := hmd rfl; simpa using this
  clear hex hex2 h h2 hmd
  go_enter Tryz.func114, Tryz.ntmps114
  go_wp2_with fail
  have hC0 := af_drew w
  refine pi_start (fun w' => ∃ z : After w, w' = z.w) [] (by kernel_rfl) ?_
  refine pi_t 0 rfl (by kernel_rfl) (by kernel_rfl) (fun _ _ _ _ h => h) (fun K hK => ?_)
  go_big_quiet_op
  refine hK _ ?_
  clear hK K
  refine pi_t 1 rfl (by kernel_rfl) (by kernel_rfl) (fun _ _ _ _ h => h) (fun K hK => ?_)
  go_big_quiet_op
  refine hK _ ?_
  clear hK K
  refine pi_t 2 rfl (by kernel_rfl) (by kernel_rfl) (fun _ _ _ _ h => h) (fun K hK => ?_)
  go_big_quiet_op
  refine hK _ ?_
  clear hK K
  refine pi_t 4 rfl (by kernel_rfl) (by kernel_rfl) (fun _ _ _ _ h => h) (fun K hK => ?_)
  go_big_quiet_op
  refine hK _ ?_
  clear hK K
  refine pi_t 5 rfl (by kernel_rfl) (by kernel_rfl) (fun _ _ _ _ h => h) (fun K hK => ?_)
  go_big_quiet_op
  refine hK _ ?_
  clear hK K
  refine pi_t 6 rfl (by kernel_rfl) (by kernel_rfl) (fun _ _ _ _ h => h) (fun K hK => ?_)
  go_big_quiet_op
  refine hK _ ?_
  clear hK K
  refine pi_c 3 (by assumption) rfl (by kernel_rfl) (by kernel_rfl) (fun _ _ _ _ h => h) (fun K hK => ?_)
  go_big_quiet_op
  refine hK _ ?_
  clear hK K
  refine pi_c 7 (by assumption) rfl (by kernel_rfl) (by kernel_rfl) (fun _ _ _ _ h => h) (fun K hK => ?_)
  go_big_quiet_op
  refine hK _ ?_
  clear hK K
  refine pi_t 8 rfl (by kernel_rfl) (by kernel_rfl) (fun _ _ _ _ h => h) (fun K hK => ?_)
  go_big_quiet_op
  refine hK _ ?_
  clear hK K
  refine pi_t 9 rfl (by kernel_rfl) (by kernel_rfl) (fun _ _ _ _ h => h) (fun K hK => ?_)
  go_big_quiet_op
  refine hK _ ?_
  clear hK K
  refine pi_t 10 rfl (by kernel_rfl) (by kernel_rfl) (fun _ _ _ _ h => h) (fun K hK => ?_)
  go_big_quiet_op
  refine hK _ ?_
  clear hK K
  refine pi_t 11 rfl (by kernel_rfl) (by kernel_rfl) (fun _ _ _ _ h => h) (fun K hK => ?_)
  go_big_quiet_op
  refine hK _ ?_
  clear hK K
  refine pi_t 12 rfl (by kernel_rfl) (by kernel_rfl) (fun _ _ _ _ h => h) (fun K hK => ?_)
  go_big_quiet_op
  refine hK _ ?_
  clear hK K
  refine pi_t 14 rfl (by kernel_rfl) (by kernel_rfl) (fun _ _ _ _ h => h) (fun K hK => ?_)
  go_big_quiet_op
  refine hK _ ?_
  clear hK K
  refine pi_t 15 rfl (by kernel_rfl) (by kernel_rfl) (fun _ _ _ _ h => h) (fun K hK => ?_)
  go_big_quiet_op
  refine hK _ ?_
  clear hK K
  refine pi_t 16 rfl (by kernel_rfl) (by kernel_rfl) (fun _ _ _ _ h => h) (fun K hK => ?_)
  go_big_quiet_op
  refine hK _ ?_
  clear hK K
  refine pi_c 13 (by assumption) rfl (by kernel_rfl) (by kernel_rfl) (fun _ _ _ _ h => h) (fun K hK => ?_)
  go_big_quiet_op
  refine hK _ ?_
  clear hK K
  refine pi_c 17 (by assumption) rfl (by kernel_rfl) (by kernel_rfl) (fun _ _ _ _ h => h) (fun K hK => ?_)
  go_big_quiet_op
  refine hK _ ?_
  clear hK K
  refine pi_t 18 rfl (by kernel_rfl) (by kernel_rfl) (fun _ _ _ _ h => h) (fun K hK => ?_)
  go_big_quiet_op
  refine hK _ ?_
  clear hK K
  refine pi_t 19 rfl (by kernel_rfl) (by kernel_rfl) (fun _ _ _ _ h => h) (fun K hK => ?_)
  go_big_quiet_op
  refine hK _ ?_
  clear hK K
  refine pi_end (by kernel_rfl) ?_
  have hE1 : Ext w w.drew := Below.drew (Ext.refl w)
  have HG := Lib.hid (fun W' (hW : Ext w W') => RGJoinMinus_c G G2 R W l l2 W' (HH.out.g.ext hW) (HH2.out.g.ext hW) HH.out.fit HH2.out.fit)
  have hex1 := HH.out.ex
  have hex2 := HH2.out.ex
  have c6 := (cell_of hex1 6).trans rfl
  have d6 := (cell_of hex2 6).trans rfl
  clear hex1 hex2
  go_wp2_with fail
  have hC0 : ∃ z : After w, w.drew.drew = z.w := ⟨⟨_, (Ext.refl w).drewR.drewR⟩, rfl⟩
  refine pi_start (fun w' => ∃ z : After w, w' = z.w) [9] (by kernel_rfl) ?_
  refine pi_t 0 rfl (by kernel_rfl) (by kernel_rfl) (fun _ _ _ _ h => h) (fun K hK => ?_)
  go_big_quiet_op
  refine hK _ ?_
  clear hK K
  refine pi_t 1 rfl (by kernel_rfl) (by kernel_rfl) (fun _ _ _ _ h => h) (fun K hK => ?_)
  go_big_quiet_op
  refine hK _ ?_
  clear hK K
  refine pi_t 2 rfl (by kernel_rfl) (by kernel_rfl) (fun _ _ _ _ h => h) (fun K hK => ?_)
  go_big_quiet_op
  refine hK _ ?_
  clear hK K
  refine pi_t 4 rfl (by kernel_rfl) (by kernel_rfl) (fun _ _ _ _ h => h) (fun K hK => ?_)
  go_big_quiet_op
  refine hK _ ?_
  clear hK K
  refine pi_t 5 rfl (by kernel_rfl) (by kernel_rfl) (fun _ _ _ _ h => h) (fun K hK => ?_)
  go_big_quiet_op
  refine hK _ ?_
  clear hK K
  refine pi_t 6 rfl (by kernel_rfl) (by kernel_rfl) (fun _ _ _ _ h => h) (fun K hK => ?_)
  go_big_quiet_op
  refine hK _ ?_
  clear hK K
  refine pi_t 8 rfl (by kernel_rfl) (by kernel_rfl) (fun _ _ _ _ h => h) (fun K hK => ?_)
  go_big_quiet_op
  refine hK _ ?_
  clear hK K
  refine pi_c 3 (by assumption) rfl (by kernel_rfl) (by kernel_rfl) (fun _ _ _ _ h => h) (fun K hK => ?_)
  go_big_quiet_op
  refine hK _ ?_
  clear hK K
  refine pi_c 7 (by assumption) rfl (by kernel_rfl) (by kernel_rfl) (fun _ _ _ _ h => h) (fun K hK => ?_)
  go_big_quiet_op
  refine hK _ ?_
  clear hK K
  refine pi_l 9 rfl (by kernel_rfl) (fun K hK => ?_)
  go_wp2_with (go_at_call 165; refine Calls.mono (HG.out _ (Ext.refl w).drewR.drewR) ?_; rintro e w1 (⟨ha, rfl, G', hg', hG', hF', hM'⟩ | ⟨ha, rfl, hx'⟩))
  · refine hK _ _ (by simp) ?_
    clear hK K
    have HA := Lib.hid ha
    have HGG := Lib.hid hg'
    have HG' := Lib.hid hG'
    have HF' := Lib.hid hF'
    have hM2 : Mod (fun k => k = G.g) w w1 := ((Ext.refl w).drewR.drewR.mod _).trans hM'
    clear ha hg' hG' hF' hM'
    refine pi_t 10 rfl (by kernel_rfl) (by kernel_rfl) (fun _ _ _ _ h => h) (fun K hK => ?_)
    go_big_quiet_op
    refine hK _ ?_
    clear hK K
    refine pi_end (by kernel_rfl) ?_
    go_wp2
    go_ret
    refine .inl ⟨HA.out, rfl, G', ⟨?_, HG'.out, HH.out.ok, HH.out.lo, HH.out.hi, HH.out.hr, HH.out.hw, HA.out⟩, ?_, hM2.wider (fun k hk => .inr (.inl hk))⟩
    · rw [HGG.out, hM2.block s ls (fun e => HH.out.ns (.inl e))]; exact HH.out.ex
    · rintro k (rfl | hk)
      · exact .inl (.inl rfl)
      · rcases HF'.out k hk with h1 | h1
        · exact .inl (.inr (.inl h1))
        · exact .inr h1
  · refine hK _ _ (by simp) ?_
    clear hK K
    have HA := Lib.hid ha
    have hE2 : Ext w w1 := (Ext.refl w).drewR.drewR.trans' hx'
    clear ha hx'
    refine pi_t 10 rfl (by kernel_rfl) (by kernel_rfl) (fun _ _ _ _ h => h) (fun K hK => ?_)
    go_big_quiet_op
    refine hK _ ?_
    clear hK K
    refine pi_end (by kernel_rfl) ?_
    go_wp2
    go_ret
    exact .inr ⟨HA.out, rfl, hE2⟩
set_option maxRecDepth 20000 in
set_option maxHeartbeats 8000000 in
/-- In the mode Conservative nothing is taken away. -/
theorem RSJoin_mode (s s2 : Nat) (G G2 : Gr) (C : Cfg) (lv : Int) (R W : Nat) (l l2 : List Int) (w : World) (h : RSAt w s G C lv R W l) (h2 : RSAt w s2 G2 C lv R W l2) (hmd : C.mode = 2) :
    Calls Tryz.prog 114 #[.pointer (some ⟨s, 0, none⟩), .pointer (some ⟨s2, 0, none⟩), .int .i64 (-1)] w fun e w' => e = .returned (.int .i64 3) ∧ Ext w w' := by
  have ls := h.lts
  have hex := h.ex
  have c0 := (cell_of hex 0).trans rfl
  have c1 := (cell_of hex 1).trans rfl
  have c2 := (cell_of hex 2).trans rfl
  have c3 := (cell_of hex 3).trans rfl
  have c4 := (cell_of hex 4).trans rfl
  have c5 := (cell_of hex 5).trans rfl
  have ls2 := h2.lts
  have hex2 := h2.ex
  have d0 := (cell_of hex2 0).trans rfl
  have d1 := (cell_of hex2 1).trans rfl
  have d2 := (cell_of hex2 2).trans rfl
  have d3 := (cell_of hex2 3).trans rfl
  have d4 := (cell_of hex2 4).trans rfl
  have d5 := (cell_of hex2 5).trans rfl
  have hmm : (C.mode == 2) = true := by simpa using hmd
  clear hex hex2 h h2 hmd
  go_enter Tryz.func114, Tryz.ntmps114
  go_wp2_with fail
  have hC0 := af_drew w
  refine pi_start (fun w' => ∃ z : After w, w' = z.w) [] (by kernel_rfl) ?_
  refine pi_t 0 rfl (by kernel_rfl) (by kernel_rfl) (fun _ _ _ _ h => h) (fun K hK => ?_)
  go_big_quiet_op
  refine hK _ ?_
  clear hK K
  refine pi_t 1 rfl (by kernel_rfl) (by kernel_rfl) (fun _ _ _ _ h => h) (fun K hK => ?_)
  go_big_quiet_op
  refine hK _ ?_
  clear hK K
  refine pi_t 2 rfl (by kernel_rfl) (by kernel_rfl) (fun _ _ _ _ h => h) (fun K hK => ?_)
  go_big_quiet_op
  refine hK _ ?_
  clear hK K
  refine pi_t 4 rfl (by kernel_rfl) (by kernel_rfl) (fun _ _ _ _ h => h) (fun K hK => ?_)
  go_big_quiet_op
  refine hK _ ?_
  clear hK K
  refine pi_t 5 rfl (by kernel_rfl) (by kernel_rfl) (fun _ _ _ _ h => h) (fun K hK => ?_)
  go_big_quiet_op
  refine hK _ ?_
  clear hK K
  refine pi_t 6 rfl (by kernel_rfl) (by kernel_rfl) (fun _ _ _ _ h => h) (fun K hK => ?_)
  go_big_quiet_op
  refine hK _ ?_
  clear hK K
  refine pi_c 3 (by assumption) rfl (by kernel_rfl) (by kernel_rfl) (fun _ _ _ _ h => h) (fun K hK => ?_)
  go_big_quiet_op
  refine hK _ ?_
  clear hK K
  refine pi_c 7 (by assumption) rfl (by kernel_rfl) (by kernel_rfl) (fun _ _ _ _ h => h) (fun K hK => ?_)
  go_big_quiet_op
  refine hK _ ?_
  clear hK K
  refine pi_t 8 rfl (by kernel_rfl) (by kernel_rfl) (fun _ _ _ _ h => h) (fun K hK => ?_)
  go_big_quiet_op
  refine hK _ ?_
  clear hK K
  refine pi_t 9 rfl (by kernel_rfl) (by kernel_rfl) (fun _ _ _ _ h => h) (fun K hK => ?_)
  go_big_quiet_op
  refine hK _ ?_
  clear hK K
  refine pi_t 10 rfl (by kernel_rfl) (by kernel_rfl) (fun _ _ _ _ h => h) (fun K hK => ?_)
  go_big_quiet_op
  refine hK _ ?_
  clear hK K
  refine pi_t 11 rfl (by kernel_rfl) (by kernel_rfl) (fun _ _ _ _ h => h) (fun K hK => ?_)
  go_big_quiet_op
  refine hK _ ?_
  clear hK K
  refine pi_t 12 rfl (by kernel_rfl) (by kernel_rfl) (fun _ _ _ _ h => h) (fun K hK => ?_)
  go_big_quiet_op
  refine hK _ ?_
  clear hK K
  refine pi_t 14 rfl (by kernel_rfl) (by kernel_rfl) (fun _ _ _ _ h => h) (fun K hK => ?_)
  go_big_quiet_op
  refine hK _ ?_
  clear hK K
  refine pi_t 15 rfl (by kernel_rfl) (by kernel_rfl) (fun _ _ _ _ h => h) (fun K hK => ?_)
  go_big_quiet_op
  refine hK _ ?_
  clear hK K
  refine pi_t 16 rfl (by kernel_rfl) (by kernel_rfl) (fun _ _ _ _ h => h) (fun K hK => ?_)
  go_big_quiet_op
  refine hK _ ?_
  clear hK K
  refine pi_c 13 (by assumption) rfl (by kernel_rfl) (by kernel_rfl) (fun _ _ _ _ h => h) (fun K hK => ?_)
  go_big_quiet_op
  refine hK _ ?_
  clear hK K
  refine pi_c 17 (by assumption) rfl (by kernel_rfl) (by kernel_rfl) (fun _ _ _ _ h => h) (fun K hK => ?_)
  go_big_quiet_op
  refine hK _ ?_
  clear hK K
  refine pi_t 18 rfl (by kernel_rfl) (by kernel_rfl) (fun _ _ _ _ h => h) (fun K hK => ?_)
  go_big_quiet_op
  refine hK _ ?_
  clear hK K
  refine pi_t 19 rfl (by kernel_rfl) (by kernel_rfl) (fun _ _ _ _ h => h) (fun K hK => ?_)
  go_big_quiet_op
  refine hK _ ?_
  clear hK K
  refine pi_end (by kernel_rfl) ?_
  have hE1 : Ext w w.drew := Below.drew (Ext.refl w)
  go_wp2
  go_ret
  exact ⟨rfl, hE1⟩
end Go.Proofs.YtfhdjekpdifajaaGreat

/- gaugerref13: New, Copy, Update, Point, Cells. -/
namespace Go.Proofs.YtfhdjekpdifajaaGreat
set_option linter.unusedVariables false
open Go.RowKit
def RLNewPost (w : World) (C : Cfg) (lv : Int) (l : List Int) (e : Ending) (w' : World) : Prop :=
  ∃ L : RLev, e = .returned (.pointer (some ⟨L.p, 0, none⟩)) ∧ RLvAt w' L C lv l ∧ (∀ k, L.foot C lv k → w.heap.size ≤ k) ∧ Ext w w'
theorem RLNew_x {w w1 w' : World} {C : Cfg} {lv : Int} {a m p : Nat} {l : List Int} (hok : C.Ok) (h0 : 0 ≤ lv) (h1 : lv ≤ C.bits) (hx : isX C lv = true) (hA : RXAt w1 a m C lv (kN C lv) l) (ha : w.heap.size ≤ a) (hm : w.heap.size ≤ m) (hp : w.heap.size ≤ p) (hE : Ext w w') (hE1 : Ext w1 w')
    (hb : w'.heap[p]? = some (.cells #[.pointer (some ⟨a, 0, none⟩), .pointer none] 153 (0, 0))) : RLNewPost w C lv l (.returned (.pointer (some ⟨p, 0, none⟩))) w' := by
  refine ⟨⟨p, a, ⟨0, m, fun _ => 0, fun _ => 0⟩⟩, rfl, ⟨hok, h0, h1, .inl ⟨hx, hb, hA.ext hE1⟩⟩, ?_, hE⟩
  rintro k (rfl | ⟨_, (rfl | rfl)⟩ | ⟨hy, _⟩)
  · exact hp
  · exact ha
  · exact hm
  · rw [hx] at hy; cases hy
theorem RLNew_s {w w1 w' : World} {C : Cfg} {lv : Int} {a p : Nat} {G : Gr} {l : List Int} (hok : C.Ok) (h0 : 0 ≤ lv) (h1 : lv ≤ C.bits) (hx : isX C lv = false) (hA : RSAt w1 a G C lv (rN C) (wN C) l) (ha : ∀ k, rsF a G (rN C) k → w.heap.size ≤ k) (hp : w.heap.size ≤ p) (hE : Ext w w') (hE1 : Ext w1 w')
    (hb : w'.heap[p]? = some (.cells #[.pointer none, .pointer (some ⟨a, 0, none⟩)] 153 (0, 0))) : RLNewPost w C lv l (.returned (.pointer (some ⟨p, 0, none⟩))) w' := by
  refine ⟨⟨p, a, G⟩, rfl, ⟨hok, h0, h1, .inr ⟨hx, hb, hA.ext hE1⟩⟩, ?_, hE⟩
  rintro k (rfl | ⟨hy, _⟩ | ⟨_, hk⟩)
  · exact hp
  · rw [hx] at hy; cases hy
  · exact ha k hk
set_option maxRecDepth 20000 in
set_option maxHeartbeats 4000000 in
theorem RLNew_c (C : Cfg) (hok : C.Ok) (lv : Int) (h0 : 0 ≤ lv) (h1 : lv ≤ C.bits) (w : World) :
    Calls Tryz.prog 37 #[.agg #[.int .i64 C.bits, .int .i64 C.rows, .int .i64 C.width, .int .i64 C.mode, .int .u64 C.seed], .int .i64 lv] w (RLNewPost w C lv (zs (lvN C lv))) := by
  have hEX := fun W' => ExactR_c C hok lv h0 h1 W'
  obtain ⟨W0, hW0⟩ : ∃ W0, w.alloc (.cells #[.int .i64 C.bits, .int .i64 C.rows, .int .i64 C.width, .int .i64 C.mode, .int .u64 C.seed] 24) = W0 := ⟨_, rfl⟩
  have hCb : W0.heap[w.heap.size]? = some (.cells #[.int .i64 C.bits, .int .i64 C.rows, .int .i64 C.width, .int .i64 C.mode, .int .u64 C.seed] 24 (0, 0)) := by rw [← hW0]; exact heap_at _ _ rfl
  have hE : Ext w W0 := by rw [← hW0]; exact Ext.alloc' _ _
  have hC := CfgAt.of hCb
  have c0 := hC.c0
  have c1 := hC.c1
  have c2 := hC.c2
  have c3 := hC.c3
  have c4 := hC.c4
  have cl := hC.lt
  cases hx : isX C lv with
  | true =>
    have hlN : lvN C lv = kN C lv := by unfold lvN; rw [hx]; rfl
    rw [hx] at hEX
    rw [hlN]
    have hkn := kN_eq hok h0
    have hkb := keys_bd C hok lv h0
    have hkx : keys C lv ≤ 128 := by
      have h3 := hok.w2
      unfold isX at hx
      have := of_decide_eq_true hx
      omega
    have HX := Lib.hid hx
    have HEX := Lib.hid hEX
    have HCB := Lib.hid hCb
    have HKN := Lib.hid hkn
    clear hx hEX hC hlN hCb hkn
    go_enter Tryz.func37, Tryz.ntmps37
    go_wp2_with fail
    try rw [hW0]
    clear hW0
    refine Calls.mono (HEX.out _) ?_
    rintro e w1 ⟨rfl, hx1⟩
    have hC1 := CfgAt.of (hx1.keep HCB.out)
    have hE1 := hE.trans' hx1
    clear c0 c1 c2 c3 c4 cl hx1
    have c0 := hC1.c0
    have c1 := hC1.c1
    have c2 := hC1.c2
    have c3 := hC1.c3
    have c4 := hC1.c4
    have cl := hC1.lt
    clear hC1
    go_wp2_with fail
    have hC0 := af_drew w1
    refine pi_start (fun w' => ∃ z : After w1, w' = z.w) [] (by kernel_rfl) ?_
    refine pi_t 1 rfl (by kernel_rfl) (by kernel_rfl) (fun _ _ _ _ h => h) (fun K hK => ?_)
    go_big_quiet_op
    refine hK _ ?_
    clear hK K
    refine pi_t 3 rfl (by kernel_rfl) (by kernel_rfl) (fun _ _ _ _ h => h) (fun K hK => ?_)
    go_big_quiet_op
    refine hK _ ?_
    clear hK K
    refine pi_c 0 (by assumption) rfl (by kernel_rfl) (by kernel_rfl) (fun _ _ _ _ h => h) (fun K hK => ?_)
    go_big_quiet_op
    refine hK _ ?_
    clear hK K
    refine pi_c 2 (by assumption) rfl (by kernel_rfl) (by kernel_rfl) (fun _ _ _ _ h => h) (fun K hK => ?_)
    go_big_quiet_op
    refine hK _ ?_
    clear hK K
    refine pi_l 4 rfl (by kernel_rfl) (fun K hK => ?_)
    go_wp2_with (go_at_call 79; refine (KeysR_c C hok lv h0 h1 _).mono ?_; rintro e w2 ⟨rfl, hx2⟩)
    refine hK _ _ (fun _ h => af_step h hx2) ?_
    clear hK K
    have hE2 : Ext w1 w2 := Ext.trans' (Below.drew (Ext.refl w1)) hx2
    rw [HKN.out]
    refine pi_l 5 rfl (by kernel_rfl) (fun K hK => ?_)
    go_wp2_with (go_at_call 101; refine Calls.mono (RXNew_c C lv (kN C lv) (by have := HKN.out; omega) (by have := HKN.out; omega) _) ?_; rintro e w3 ⟨a, m, rfl, hA, ha, hm, hx3⟩)
    refine hK _ _ (fun _ h => af_step h hx3) ?_
    clear hK K
    have hE3 : Ext w1 w3 := hE2.trans' hx3
    have HA := Lib.hid hA
    have hz := hE1.size
    have hz2 := hE2.size
    clear hA
    refine pi_t 6 rfl (by kernel_rfl) (by kernel_rfl) (fun _ _ _ _ h => h) (fun K hK => ?_)
    go_big_quiet_op
    refine hK _ ?_
    clear hK K
    refine pi_l 7 rfl (by kernel_rfl) (fun K hK => ?_)
    go_wp2
    refine hK _ _ (fun _ h => af_step h (Ext.alloc' _ _)) ?_
    clear hK K
    refine pi_t 8 rfl (by kernel_rfl) (by kernel_rfl) (fun _ _ _ _ h => h) (fun K hK => ?_)
    go_big_quiet_op
    refine hK _ ?_
    clear hK K
    refine pi_end (by kernel_rfl) ?_
    have hz3 := hE3.size
    go_wp2
    go_ret
    exact RLNew_x hok h0 h1 HX.out HA.out (by omega) (by omega) (by omega) ((hE1.trans' hE3).allocR _) (Ext.alloc' _ _) (heap_at _ _ rfl)
  | false =>
    have hlN : lvN C lv = rN C * wN C := by unfold lvN; rw [hx]; rfl
    rw [hx] at hEX
    rw [hlN]
    have HX := Lib.hid hx
    have HEX := Lib.hid hEX
    have HCB := Lib.hid hCb
    have HS := Lib.hid (fun W' => RSNew_c C hok lv h0 h1 (rN C) (wN C) (rN_eq hok) (wN_eq hok) W')
    clear hx hEX hC hlN hCb
    go_enter Tryz.func37, Tryz.ntmps37
    go_wp2_with fail
    try rw [hW0]
    clear hW0
    refine Calls.mono (HEX.out _) ?_
    rintro e w1 ⟨rfl, hx1⟩
    have hC1 := CfgAt.of (hx1.keep HCB.out)
    have hE1 := hE.trans' hx1
    clear c0 c1 c2 c3 c4 cl hx1
    have c0 := hC1.c0
    have c1 := hC1.c1
    have c2 := hC1.c2
    have c3 := hC1.c3
    have c4 := hC1.c4
    have cl := hC1.lt
    clear hC1
    go_wp2_with fail
    refine Calls.mono (HS.out _) ?_
    rintro e w2 ⟨a, G, rfl, hA, hF, hx2⟩
    have HA := Lib.hid hA
    have HF := Lib.hid (show ∀ k, rsF a G (rN C) k → w1.heap.size ≤ k from hF)
    have hE2 := hE1.trans' hx2
    have hz := hE1.size
    have hz2 := hE2.size
    clear hA hF
    go_wp2
    go_ret
    exact RLNew_s hok h0 h1 HX.out HA.out (fun k hk => Nat.le_trans hz (HF.out k hk)) hz2 (hE2.allocR _) (Ext.alloc' _ _) (heap_at _ _ rfl)
set_option maxRecDepth 20000 in
set_option maxHeartbeats 4000000 in
theorem RLCopy_c (L : RLev) (C : Cfg) (lv : Int) (l : List Int) (w : World) (h : RLvAt w L C lv l) :
    Calls Tryz.prog 39 #[.pointer (some ⟨L.p, 0, none⟩)] w (RLNewPost w C lv l) := by
  have hok := h.1
  have h0 := h.2.1
  have h1 := h.2.2.1
  cases hx : isX C lv with
  | true =>
    obtain ⟨hb, hA⟩ := h.x hx
    have p0 := (cell_of hb 0).trans rfl
    have pl := lt_of hb
    have HA := Lib.hid hA
    have HX := Lib.hid hx
    clear hx hb hA h
    go_enter Tryz.func39, Tryz.ntmps39
    go_wp2_with fail
    refine Calls.mono (RXCopy_c _ _ C lv _ l _ HA.out) ?_
    rintro e w1 ⟨a, m, rfl, hA1, ha, hm, hx1⟩
    have HA1 := Lib.hid hA1
    have hz := hx1.size
    clear hA1
    go_wp2
    go_ret
    exact RLNew_x hok h0 h1 HX.out HA1.out ha hm hz (hx1.allocR _) (Ext.alloc' _ _) (heap_at _ _ rfl)
  | false =>
    obtain ⟨hb, hA⟩ := h.sk hx
    have p0 := (cell_of hb 0).trans rfl
    have p1 := (cell_of hb 1).trans rfl
    have pl := lt_of hb
    have HA := Lib.hid hA
    have HX := Lib.hid hx
    clear hx hb hA h
    go_enter Tryz.func39, Tryz.ntmps39
    go_wp2_with fail
    refine Calls.mono (RSCopy_c _ _ C lv _ _ l _ HA.out) ?_
    rintro e w1 ⟨a, G, rfl, hA1, hF, hx1⟩
    have HA1 := Lib.hid hA1
    have HF := Lib.hid (show ∀ k, rsF a G (rN C) k → w.heap.size ≤ k from hF)
    have hz := hx1.size
    clear hA1 hF
    go_wp2
    go_ret
    exact RLNew_s hok h0 h1 HX.out HA1.out HF.out hz (hx1.allocR _) (Ext.alloc' _ _) (heap_at _ _ rfl)
def RLUpdPost (w : World) (L : RLev) (C : Cfg) (lv : Int) (l : List Int) (key d : Int) (e : Ending) (w' : World) : Prop :=
  e = .returned (.int .i64 (lvE C lv l key d)) ∧ ((lvE C lv l key d = 0 ∧ RLvAt w' L C lv (lvU C lv l key d) ∧ Mod (L.foot C lv) w w') ∨ (lvE C lv l key d ≠ 0 ∧ Ext w w'))
set_option maxRecDepth 20000 in
set_option maxHeartbeats 4000000 in
theorem RLUpdate_c (L : RLev) (C : Cfg) (lv : Int) (l : List Int) (key d : Int) (w : World) (h : RLvAt w L C lv l) (hk : U64 key) (hd : I64 d) :
    Calls Tryz.prog 40 #[.pointer (some ⟨L.p, 0, none⟩), .int .u64 key, .int .i64 d] w (RLUpdPost w L C lv l key d) := by
  have hok := h.1
  have h0 := h.2.1
  have h1 := h.2.2.1
  cases hx : isX C lv with
  | true =>
    obtain ⟨hb, hA⟩ := h.x hx
    have p0 := (cell_of hb 0).trans rfl
    have pl := lt_of hb
    have HU := Lib.hid (RXUpdate_c _ _ C lv _ l key d w hA (kN_eq hok h0) hd hk)
    have HB := Lib.hid hb
    have HA := Lib.hid hA
    have HX := Lib.hid hx
    unfold RLUpdPost
    rw [lvE_x hx, lvU_x hx]
    clear hx hb hA h
    go_enter Tryz.func40, Tryz.ntmps40
    go_wp2_with fail
    refine Calls.mono HU.out ?_
    rintro e w1 ⟨rfl, hres⟩
    have HRES := Lib.hid hres
    clear hres HU
    go_wp2
    go_ret
    rcases HRES.out with ⟨e0, hA1, hM⟩ | ⟨e0, hE⟩
    · refine ⟨rfl, .inl ⟨e0, ⟨hok, h0, h1, .inl ⟨HX.out, ?_, hA1⟩⟩, hM.wider (fun k hk => .inr (.inl ⟨HX.out, .inr hk⟩))⟩⟩
      exact hM.keep HB.out (fun e => by obtain ⟨cu, q1, _⟩ := HA.out.cells; exact blk_ne HB.out q1 (by decide) e)
    · exact ⟨rfl, .inr ⟨e0, hE⟩⟩
  | false =>
    obtain ⟨hb, hA⟩ := h.sk hx
    have p0 := (cell_of hb 0).trans rfl
    have p1 := (cell_of hb 1).trans rfl
    have pl := lt_of hb
    have HU := Lib.hid (RSUpdate_c _ _ C lv _ _ l key d w hA hk hd)
    have HB := Lib.hid hb
    have HA := Lib.hid hA
    have HX := Lib.hid hx
    unfold RLUpdPost
    rw [lvE_s hx, lvU_s hx]
    clear hx hb hA h
    go_enter Tryz.func40, Tryz.ntmps40
    go_wp2_with fail
    refine Calls.mono HU.out ?_
    rintro e w1 ⟨rfl, hres⟩
    have HRES := Lib.hid hres
    clear hres HU
    go_wp2
    go_ret
    rcases HRES.out with ⟨e0, hA1, hM⟩ | ⟨e0, hE⟩
    · refine ⟨rfl, .inl ⟨e0, ⟨hok, h0, h1, .inr ⟨HX.out, ?_, hA1⟩⟩, hM.wider (fun k hk => .inr (.inr ⟨HX.out, .inr hk⟩))⟩⟩
      refine hM.keep HB.out (fun e => ?_)
      rcases e with e | e | ⟨r, hr, e⟩
      · obtain ⟨cp, q1, _⟩ := HA.out.g.ex; exact blk_ne HB.out q1 (by decide) e
      · obtain ⟨cp, q1, _⟩ := HA.out.g.row; exact blk_ne HB.out q1 (by decide) e
      · obtain ⟨cp, q1, _⟩ := HA.out.g.cells r hr; exact blk_ne HB.out q1 (by decide) e
    · exact ⟨rfl, .inr ⟨e0, hE⟩⟩
/-- What Point tells of a key of any kind, of a level. -/
def ptA (C : Cfg) (lv : Int) (l : List Int) (key x r : Int) : Prop :=
  (keys C lv ≤ key ∧ x = 0 ∧ r = 2) ∨ (key < keys C lv ∧ lvPt C lv l key x ∧ r = 0)
theorem ptA_unique {C : Cfg} {lv : Int} {l : List Int} {key x r y t : Int} (h : ptA C lv l key x r) (h2 : ptA C lv l key y t) : x = y ∧ r = t := by
  rcases h with ⟨a, rfl, rfl⟩ | ⟨a, b, rfl⟩ <;> rcases h2 with ⟨a2, rfl, rfl⟩ | ⟨a2, b2, rfl⟩
  · exact ⟨rfl, rfl⟩
  · omega
  · omega
  · exact ⟨lvPt_unique b b2, rfl⟩
theorem kth_in {l : List Int} {k : Nat} {x : Int} (h : IsKth l k x) : x ∈ l := by
  obtain ⟨h1, h2⟩ := h
  have : 0 < sameN x l := by omega
  unfold sameN at this
  obtain ⟨y, hy⟩ := List.exists_mem_of_length_pos this
  simp only [List.mem_filter] at hy
  obtain ⟨hy1, hy2⟩ := hy
  have : y = x := by simpa using hy2
  rw [← this]; exact hy1
theorem ptA_I {C : Cfg} {lv : Int} {l : List Int} {key x r : Int} (h : ptA C lv l key x r) (hfit : ∀ y ∈ l, I64 y) : I64 x := by
  rcases h with ⟨_, rfl, _⟩ | ⟨_, (⟨_, rfl⟩ | ⟨_, hk⟩), _⟩
  · unfold I64; omega
  · exact getD_i64 hfit _
  · have hm := kth_in hk
    unfold readL at hm
    rw [List.mem_map] at hm
    obtain ⟨j, _, rfl⟩ := hm
    exact getD_i64 hfit _
set_option maxRecDepth 20000 in
set_option maxHeartbeats 4000000 in
theorem RLPoint_c (L : RLev) (C : Cfg) (lv : Int) (l : List Int) (key : Int) (w : World) (h : RLvAt w L C lv l) (hk : U64 key) :
    Calls Tryz.prog 38 #[.pointer (some ⟨L.p, 0, none⟩), .int .u64 key] w fun e w' => ∃ x r, e = .returned (.tuple #[.int .i64 x, .int .i64 r]) ∧ ptA C lv l key x r ∧ Ext w w' := by
  have hok := h.1
  have h0 := h.2.1
  have h1 := h.2.2.1
  cases hx : isX C lv with
  | true =>
    obtain ⟨hb, hA⟩ := h.x hx
    have p0 := (cell_of hb 0).trans rfl
    have pl := lt_of hb
    have hkn := kN_eq hok h0
    have hU : ∃ x r, Calls Tryz.prog 103 #[.pointer (some ⟨L.a, 0, none⟩), .int .u64 key] w (fun e w' => e = .returned (.tuple #[.int .i64 x, .int .i64 r]) ∧ w = w') ∧ ptA C lv l key x r := by
      have h2 := RXPoint_c _ _ C lv _ l key w hA hk
      unfold ptX at h2
      by_cases hge : ((kN C lv : Nat) : Int) ≤ key
      · rw [if_pos hge] at h2
        exact ⟨0, 2, h2, .inl ⟨by omega, rfl, rfl⟩⟩
      · rw [if_neg hge] at h2
        exact ⟨_, 0, h2, .inr ⟨by omega, .inl ⟨hx, rfl⟩, rfl⟩⟩
    obtain ⟨x, r, hU, hp⟩ := hU
    have HU := Lib.hid hU
    have HP := Lib.hid hp
    clear hx hb hA h hU hp hkn
    go_enter Tryz.func38, Tryz.ntmps38
    go_wp2_with fail
    refine Calls.mono HU.out ?_
    rintro e w1 ⟨rfl, rfl⟩
    go_wp2
    go_ret2
    exact ⟨x, r, rfl, HP.out, Ext.refl _⟩
  | false =>
    obtain ⟨hb, hA⟩ := h.sk hx
    have p0 := (cell_of hb 0).trans rfl
    have p1 := (cell_of hb 1).trans rfl
    have pl := lt_of hb
    have HU := Lib.hid (RSPoint_c _ _ C lv _ _ l key w hA hk)
    have HX := Lib.hid hx
    clear hx hb hA h
    go_enter Tryz.func38, Tryz.ntmps38
    go_wp2_with fail
    refine Calls.mono HU.out ?_
    rintro e w1 ⟨x, r, rfl, hp, hx1⟩
    have HP := Lib.hid hp
    clear hp HU
    go_wp2
    go_ret2
    refine ⟨x, r, rfl, ?_, hx1⟩
    rcases HP.out with ⟨a, b, c⟩ | ⟨a, b, c⟩
    · exact .inl ⟨a, b, c⟩
    · exact .inr ⟨a, .inr ⟨HX.out, b⟩, c⟩
set_option maxRecDepth 20000 in
set_option maxHeartbeats 4000000 in
theorem RLCells_c (L : RLev) (C : Cfg) (lv : Int) (l : List Int) (w : World) (h : RLvAt w L C lv l) :
    Calls Tryz.prog 24 #[.pointer (some ⟨L.p, 0, none⟩)] w fun e w' => ∃ v, e = .returned v ∧ w'.ownsRow w.heap.size 2 1 v l.length (ints l) ∧ Ext w w' := by
  cases hx : isX C lv with
  | true =>
    obtain ⟨hb, hA⟩ := h.x hx
    have p0 := (cell_of hb 0).trans rfl
    have pl := lt_of hb
    obtain ⟨cap, hex, hcap⟩ := hA.ex
    have a6 := (cell_of hex 6).trans rfl
    have al := lt_of hex
    have lm := hA.ltm
    have k2 := hA.k2
    have hcell : ∀ W : World, Ext w W → ∀ k, k < kN C lv → W.cell? ⟨L.G.m, 0 + k, none⟩ = some (.int .i64 (l.getD k 0)) := fun W hW k hk => by rw [(bcell hW).1 _ _ lm, Nat.zero_add]; exact hA.cell hk
    have HC := Lib.hid hcell
    have HL := Lib.hid hA.len
    clear hx hb hA h hcell hex
    go_enter Tryz.func24, Tryz.ntmps24
    have hE1 : Ext w (w.alloc (.cells #[] 2)) := Ext.alloc' _ _
    have hown : (w.alloc (.cells #[] 2)).ownsRow w.heap.size 2 1 (.slice (some ⟨w.heap.size, 0, none⟩) 0 0) ([] : List Int).length (ints []) := own_empty w 2
    go_wp2_with (at_builtin; refine wpList_appl (w.alloc (.cells #[] 2)) l [] _ w.heap.size 2 hown 43 rfl _ _ rfl info_i64 Tryz.underlying43 (by rfl) L.G.m 0 (kN C lv) cap (by rfl) HL.out.symm (HC.out _ hE1) ?a1 ?a2 ?_)
    case a1 => show 0 + kN C lv ≤ _; omega
    case a2 => exact hE1.size
    intro v' w' g1 g2 g3
    have hE2 : Ext w w' := ext_grown0 hE1 g2 (fun i hi => own_blk hown hi)
    have G1 := Lib.hid g1
    obtain ⟨pv, cv, rfl⟩ := own_sl g1
    clear g1 g2 g3 hown
    go_wp2
    go_ret
    exact ⟨_, rfl, G1.out, hE2⟩
  | false =>
    obtain ⟨hb, hA⟩ := h.sk hx
    have p0 := (cell_of hb 0).trans rfl
    have p1 := (cell_of hb 1).trans rfl
    have pl := lt_of hb
    have a6 := (cell_of hA.ex 6).trans rfl
    have al := hA.lts
    have HU := Lib.hid (RGCells_c _ _ _ l w hA.g)
    clear hx hb hA h
    go_enter Tryz.func24, Tryz.ntmps24
    go_wp2_with fail
    refine Calls.mono HU.out ?_
    rintro e w1 ⟨v, rfl, ho, hx1⟩
    have HO := Lib.hid ho
    obtain ⟨pv, cv, rfl⟩ := own_sl ho
    clear ho HU
    go_wp2
    go_ret
    exact ⟨_, rfl, HO.out, hx1⟩
end Go.Proofs.YtfhdjekpdifajaaGreat

/- gaugerref15: New, Copy. -/
namespace Go.Proofs.YtfhdjekpdifajaaGreat
set_option linter.unusedVariables false
open Go.RowKit
theorem info_lp : ∃ i z, Tryz.prog.info? 45 = some i ∧ i.zero = some z ∧ i.size = 1 ∧ i.bytes = 8 ∧ z.cells.size = 1 := by
  have h : (Tryz.prog.info? 45).map (fun i => (i.zero, i.size, i.bytes)) = some (some (.pointer none), 1, 8) := by kernel_rfl
  match hi : Tryz.prog.info? 45, h with
  | some i, h =>
    simp only [Option.map_some, Option.some.injEq, Prod.mk.injEq] at h
    exact ⟨i, .pointer none, rfl, h.1, h.2.1, h.2.2, rfl⟩
def rp (L : Nat → RLev) (k : Nat) : List Value := (List.range k).map fun n => Value.pointer (some ⟨(L n).p, 0, none⟩)
theorem rp_len (L : Nat → RLev) (k : Nat) : (rp L k).length = k := by simp [rp]
theorem rp_succ (L : Nat → RLev) (k : Nat) : rp L (k + 1) = rp L k ++ [Value.pointer (some ⟨(L k).p, 0, none⟩)] := by unfold rp; rw [List.range_succ, List.map_append]; rfl
theorem rp_cong {L L' : Nat → RLev} {k : Nat} (h : ∀ n, n < k → L n = L' n) : rp L k = rp L' k := by
  unfold rp
  apply List.map_congr_left
  intro n hn
  rw [List.mem_range] at hn
  rw [h n hn]
theorem rp_get (L : Nat → RLev) {k n : Nat} (h : n < k) : (rp L k)[n]? = some (Value.pointer (some ⟨(L n).p, 0, none⟩)) := by unfold rp; rw [List.getElem?_map, List.getElem?_range h]; rfl
/-- A level's blocks are no row of levels, nor a stack. -/
theorem RLvAt.ty {w : World} {L : RLev} {C : Cfg} {lv : Int} {l : List Int} (h : RLvAt w L C lv l) {k : Nat} (hk : L.foot C lv k) {cur : Array Value} {T : TypeId} {f : Nat × Nat} (hb : w.heap[k]? = some (.cells cur T f)) : T ≠ 45 ∧ T ≠ 48 := by
  have key : ∀ (c2 : Array Value) (T2 : TypeId) (f2 : Nat × Nat), w.heap[k]? = some (.cells c2 T2 f2) → T2 ≠ 45 → T2 ≠ 48 → T ≠ 45 ∧ T ≠ 48 := fun c2 T2 f2 h2 n1 n2 => by
    rw [hb] at h2
    injection h2 with h2
    injection h2 with _ h2 _
    rw [h2]; exact ⟨n1, n2⟩
  rcases hk with rfl | ⟨hx, hk⟩ | ⟨hx, hk⟩
  · obtain ⟨_, _, _, ⟨_, h1, _⟩ | ⟨_, h1, _⟩⟩ := h <;> exact key _ _ _ h1 (by decide) (by decide)
  · obtain ⟨_, h2⟩ := h.x hx
    rcases hk with rfl | rfl
    · obtain ⟨cap, h3, _⟩ := h2.ex; exact key _ _ _ h3 (by decide) (by decide)
    · obtain ⟨cu, h3, _⟩ := h2.cells; exact key _ _ _ h3 (by decide) (by decide)
  · obtain ⟨_, h2⟩ := h.sk hx
    rcases hk with rfl | (rfl | rfl | ⟨r, hr, rfl⟩)
    · exact key _ _ _ h2.ex (by decide) (by decide)
    · obtain ⟨cap, h3, _⟩ := h2.g.ex; exact key _ _ _ h3 (by decide) (by decide)
    · obtain ⟨cap, h3, _⟩ := h2.g.row; exact key _ _ _ h3 (by decide) (by decide)
    · obtain ⟨cap, h3, _⟩ := h2.g.cells r hr; exact key _ _ _ h3 (by decide) (by decide)
/-- Some levels that have been made. -/
structure RMade (w : World) (B0 : Nat) (C : Cfg) (k : Nat) (L : Nat → RLev) (ls : Nat → List Int) (v : Value) : Prop where
  row : w.ownsRow B0 45 1 v (rp L k).length (rp L k)
  lev : ∀ n, n < k → RLvAt w (L n) C n (ls n)
  new : ∀ n, n < k → ∀ j, (L n).foot C n j → B0 ≤ j
  sep : ∀ m n, m < k → n < k → m ≠ n → Dj ((L m).foot C m) ((L n).foot C n)
theorem RMade.zero (w : World) (B0 : Nat) (C : Cfg) (L : Nat → RLev) (ls : Nat → List Int) : RMade w B0 C 0 L ls (.slice none 0 0) :=
  ⟨⟨rfl, .inl ⟨rfl, rfl⟩⟩, by intros; omega, by intros; omega, by intros; omega⟩
theorem RMade.ext {w w' : World} {B0 k : Nat} {C : Cfg} {L : Nat → RLev} {ls : Nat → List Int} {v : Value} (h : RMade w B0 C k L ls v) (he : Ext w w') : RMade w' B0 C k L ls v :=
  ⟨own_ext h.row he, fun n hn => (h.lev n hn).ext he, h.new, h.sep⟩
theorem RMade.setc {w : World} {B0 k : Nat} {C : Cfg} {L : Nat → RLev} {ls : Nat → List Int} {v : Value} (h : RMade w B0 C k L ls v) {b : Nat} (hb : b < B0) (o : Nat) (u : Value) : RMade (w.setCell ⟨b, o, none⟩ u) B0 C k L ls v :=
  ⟨own_setc h.row hb o u, fun n hn => (h.lev n hn).keep (fun j hj => setCell_other _ _ (by have := h.new n hn j hj; omega)), h.new, h.sep⟩
/-- One more. -/
theorem RMade.next {w0 w w' : World} {B0 k : Nat} {C : Cfg} {L : Nat → RLev} {ls : Nat → List Int} {v v' : Value} {M : RLev} {l : List Int} {o : Obj} (h : RMade w0 B0 C k L ls v) (he : Ext w0 w) (hB : B0 ≤ w0.heap.size) (hM : RLvAt w M C k l) (hN : ∀ j, M.foot C k j → w0.heap.size ≤ j) (hl : l = ls k)
    (hown : w'.ownsRow B0 45 1 v' (rp L k ++ [Value.pointer (some ⟨M.p, 0, none⟩)]).length (rp L k ++ [Value.pointer (some ⟨M.p, 0, none⟩)])) (hg : (w.alloc o).grownBy w' v.ownBlock) : RMade w' B0 C (k + 1) (fun n => if n = k then M else L n) ls v' := by
  subst hl
  have hw := h.ext he
  have hkeep : ∀ {n : Nat} {K : RLev} {l : List Int}, RLvAt w K C n l → RLvAt w' K C n l := fun {n K l} hK => hK.keep (fun j hj => grown_old hg (hK.lt hj) (fun e => by
    obtain ⟨cu, hc⟩ := own_type hw.row e.symm
    exact (hK.ty hj hc).1 rfl))
  refine ⟨?_, fun n hn => ?_, fun n hn j hj => ?_, fun m n hm hn hmn => ?_⟩
  · rw [rp_succ, if_pos rfl, rp_cong (L' := L) (fun i hi => if_neg (by omega))]
    exact hown
  · by_cases e : n = k
    · subst e; rw [if_pos rfl]; exact hkeep hM
    · rw [if_neg e]; exact hkeep (hw.lev n (by omega))
  · by_cases e : n = k
    · subst e; rw [if_pos rfl] at hj; exact Nat.le_trans hB (hN j hj)
    · rw [if_neg e] at hj; exact h.new n (by omega) j hj
  · by_cases e : m = k
    · subst e
      rw [if_pos rfl, if_neg (by omega)]
      intro j h1 h2
      have a := hN j h1
      have b := (h.lev n (by omega)).lt h2
      omega
    · rw [if_neg e]
      by_cases e' : n = k
      · subst e'
        rw [if_pos rfl]
        intro j h1 h2
        have a := hN j h2
        have b := (h.lev m (by omega)).lt h1
        omega
      · rw [if_neg e']; exact h.sep m n (by omega) (by omega) hmn
/-- All levels, and the stack's own block: a stack. -/
theorem RMade.stack {w : World} {s B0 B : Nat} {C : Cfg} {L : Nat → RLev} {ls : Nat → List Int} {v : Value} (h : RMade w B0 C (B + 1) L ls v) (hok : C.Ok) (hB : C.bits = B) (hs : w.heap[s]? = some (.cells #[.int .i64 C.bits, .int .i64 C.rows, .int .i64 C.width, .int .i64 C.mode, .int .u64 C.seed, v] 48 (0, 0))) :
    ∃ t, B0 ≤ t ∧ RKAt w s t C B L ls := by
  have hl := rp_len L (B + 1)
  rcases h.row.2 with ⟨_, h0⟩ | ⟨g, cap, cur, rfl, hbg, hg, hnc, hcm, hcs, htake⟩
  · rw [hl] at h0; omega
  · rw [hl] at hs hnc
    refine ⟨g, hbg, ⟨⟨cap, hs, hnc⟩, ⟨cur, hg, fun n hn => ?_⟩, fun n hn => h.lev n (by omega), fun m n hm hn => h.sep m n (by omega) (by omega), hok, hB⟩⟩
    have h1 := h.row.cells (g := g) rfl n _ (rp_get L (show n < B + 1 by omega))
    rw [show ((⟨g, 0, none⟩ : Addr).add n) = ⟨g, n, none⟩ by (simp [Addr.add]; intro e; exact e.symm), cell_of hg] at h1
    exact h1
def RKNewPost (w : World) (C : Cfg) (B : Nat) (ls : Nat → List Int) (e : Ending) (w' : World) : Prop :=
  ∃ (s t : Nat) (L : Nat → RLev), e = .returned (.pointer (some ⟨s, 0, none⟩)) ∧ RKAt w' s t C B L ls ∧ (∀ k, rkF s t C B L k → w.heap.size ≤ k) ∧ Ext w w'
theorem RMade.post {w wr : World} {s B0 B : Nat} {C : Cfg} {L : Nat → RLev} {ls : Nat → List Int} {v : Value} (h : RMade wr B0 C (B + 1) L ls v) (hok : C.Ok) (hB : C.bits = B) (hs : wr.heap[s]? = some (.cells #[.int .i64 C.bits, .int .i64 C.rows, .int .i64 C.width, .int .i64 C.mode, .int .u64 C.seed, v] 48 (0, 0))) (hsw : w.heap.size ≤ s) (hB0 : w.heap.size ≤ B0) (hE : Ext w wr) :
    RKNewPost w C B ls (.returned (.pointer (some ⟨s, 0, none⟩))) wr := by
  obtain ⟨t, ht, hK⟩ := h.stack hok hB hs
  refine ⟨s, t, L, rfl, hK, ?_, hE⟩
  rintro k (rfl | rfl | ⟨n, hn, hk⟩)
  · exact hsw
  · omega
  · exact Nat.le_trans hB0 (h.new n (by omega) k hk)
set_option maxRecDepth 20000 in
set_option maxHeartbeats 8000000 in
theorem RKNew_c (C : Cfg) (hok : C.Ok) (B : Nat) (hB : C.bits = B) (w : World) :
    Calls Tryz.prog 17 #[.agg #[.int .i64 C.bits, .int .i64 C.rows, .int .i64 C.width, .int .i64 C.mode, .int .u64 C.seed]] w (RKNewPost w C B (fun n => zs (lvN C n))) := by
  have hb2 := hok.b2
  have hbd : B ≤ 59 := by omega
  have HB := Lib.hid hB
  obtain ⟨W0, hW0⟩ : ∃ W0, w.alloc (.cells #[.int .i64 C.bits, .int .i64 C.rows, .int .i64 C.width, .int .i64 C.mode, .int .u64 C.seed] 24) = W0 := ⟨_, rfl⟩
  have hCb : W0.heap[w.heap.size]? = some (.cells #[.int .i64 C.bits, .int .i64 C.rows, .int .i64 C.width, .int .i64 C.mode, .int .u64 C.seed] 24 (0, 0)) := by rw [← hW0]; exact heap_at _ _ rfl
  have hE : Ext w W0 := by rw [← hW0]; exact Ext.alloc' _ _
  have hsz : W0.heap.size = w.heap.size + 1 := by rw [← hW0, size_alloc]
  have hC := CfgAt.of hCb
  have c0 := hC.c0
  have c1 := hC.c1
  have c2 := hC.c2
  have c3 := hC.c3
  have c4 := hC.c4
  have cl := hC.lt
  have HCB := Lib.hid hCb
  have HSZ := Lib.hid hsz
  clear hC hB hCb hsz hb2
  go_enter Tryz.func17, Tryz.ntmps17
  go_upto_region 1 with (fail)
  try rw [hW0]
  clear hW0
  go_wp2_with fail
  clear c0 c1 c2 c3 c4 cl
  go_loopw [4] (fun u4 wr => ∃ (k : Nat) (L : Nat → RLev) (v : Value), k ≤ B + 1 ∧ u4 = .int .i64 k ∧ Ext W0 wr ∧ wr.heap[W0.heap.size]? = some (.cells #[.int .i64 C.bits, .int .i64 C.rows, .int .i64 C.width, .int .i64 C.mode, .int .u64 C.seed, v] 48 (0, 0)) ∧ RMade wr (W0.heap.size + 1) C k L (fun n => zs (lvN C n)) v) (fun u4 _ => B + 1 - (intOf u4).toNat)
  case atStart => exact ⟨0, fun _ => ⟨0, 0, ⟨0, 0, fun _ => 0, fun _ => 0⟩⟩, _, Nat.zero_le _, rfl, Ext.alloc' _ _, heap_at _ _ rfl, RMade.zero _ _ _ _ _⟩
  case round =>
    obtain ⟨k, L, v, hk, rfl, hE0, hbx, hM⟩ := hrel
    have hCq := CfgAt.of (hE0.keep HCB.out)
    have c0 := hCq.c0
    have c1 := hCq.c1
    have c2 := hCq.c2
    have c3 := hCq.c3
    have c4 := hCq.c4
    have cl := hCq.lt
    have hbl := lt_of hbx
    have HBX := Lib.hid hbx
    have HM := Lib.hid hM
    clear hCq hM
    by_cases hlt : k < B + 1
    · have hle : (k : Int) ≤ C.bits := by have := HB.out; omega
      have b5 := (cell_of hbx 5).trans rfl
      have HL := Lib.hid (fun W' => RLNew_c C hok k (Int.natCast_nonneg k) hle W')
      obtain ⟨S, hSS⟩ : ∃ S : Nat → Prop, ∀ i, S i ↔ v.ownBlock = some i := ⟨_, fun _ => Iff.rfl⟩
      have n1 : ¬ S w.heap.size := fun h => by have := own_blk HM.out.row ((hSS _).1 h); have := HSZ.out; omega
      have n2 : ¬ S W0.heap.size := fun h => by have := own_blk HM.out.row ((hSS _).1 h); omega
      have HSS := Lib.hid hSS
      clear hbx hSS
      go_wp2_with fail
      have hC0 := afs_drew S wr
      refine pi_start (fun w' => ∃ z : AftS S wr, w' = z.w) [12] (by kernel_rfl) ?_
      refine pi_t 0 rfl (by kernel_rfl) (by kernel_rfl) (fun _ _ _ _ h => h) (fun K hK => ?_)
      go_big_quiet_op
      refine hK _ ?_
      clear hK K
      refine pi_t 1 rfl (by kernel_rfl) (by kernel_rfl) (fun _ _ _ _ h => h) (fun K hK => ?_)
      go_big_quiet_op
      refine hK _ ?_
      clear hK K
      refine pi_t 2 rfl (by kernel_rfl) (by kernel_rfl) (fun _ _ _ _ h => h) (fun K hK => ?_)
      go_big_quiet_op
      refine hK _ ?_
      clear hK K
      refine pi_t 3 rfl (by kernel_rfl) (by kernel_rfl) (fun _ _ _ _ h => h) (fun K hK => ?_)
      go_big_quiet_op
      refine hK _ ?_
      clear hK K
      refine pi_t 6 rfl (by kernel_rfl) (by kernel_rfl) (fun _ _ _ _ h => h) (fun K hK => ?_)
      go_big_quiet_op
      refine hK _ ?_
      clear hK K
      refine pi_c 4 (by assumption) rfl (by kernel_rfl) (by kernel_rfl) (fun _ _ _ _ h => h) (fun K hK => ?_)
      go_big_quiet_op
      refine hK _ ?_
      clear hK K
      refine pi_c 5 (by assumption) rfl (by kernel_rfl) (by kernel_rfl) (fun _ _ _ _ h => h) (fun K hK => ?_)
      go_big_quiet_op
      refine hK _ ?_
      clear hK K
      refine pi_l 7 rfl (by kernel_rfl) (fun K hK => ?_)
      go_wp2_with (go_at_call 37; refine Calls.mono (HL.out _) ?_; rintro e wt ⟨M, rfl, hMv, hMf, hxt⟩)
      have hEt : Ext wr wt := Ext.trans' (Below.drew (Ext.refl wr)) hxt
      refine hK _ _ (fun _ h => afs_step h hxt) ?_
      clear hK K
      have HMV := Lib.hid hMv
      have HMF := Lib.hid (show ∀ j, M.foot C k j → wr.heap.size ≤ j from hMf)
      have HR := Lib.hid (HM.out.ext hEt).row
      have hz := hE0.size
      have hzt := hEt.size
      obtain ⟨i0, z0, hi0, hz0, hz1, hz2, hz3⟩ := info_lp
      clear hMv hMf hxt
      refine pi_l 8 rfl (by kernel_rfl) (fun K hK => ?_)
      go_wp2
      refine hK _ _ (fun _ h => afs_step h (Ext.alloc' _ _)) ?_
      clear hK K
      refine pi_l 9 rfl (by kernel_rfl) (fun K hK => ?_)
      go_wp2_with (at_builtin; refine wpList_appB wt 8 (by decide) (.pointer (some ⟨M.p, 0, none⟩)) rfl (rp L k) v (W0.heap.size + 1) 45 HR.out 46 rfl _ _ rfl i0 z0 hi0 hz0 hz1 hz2 hz3 Tryz.underlying46 (by rfl) (by rfl) ?b1 ?b2 ?_)
      case b1 => rw [rp_len]; omega
      case b2 => omega
      intro v' wf g1 g2
      have hEf : Ext W0 wf := ext_grown (hE0.trans' hEt) g2 (fun i hi => by have := own_blk HR.out hi; omega)
      have hnext := HM.out.next hEt (by omega) HMV.out HMF.out rfl (by rw [List.length_append]; exact g1) g2
      have hbf := (grown_old g2 (show W0.heap.size < wt.heap.size by omega) (fun e => by have := own_blk HR.out e.symm; omega)).trans (hEt.keep HBX.out)
      have HN := Lib.hid hnext
      have f5 := frozen_of hbf 5
      have q5 := (cell_of hbf 5).trans rfl
      have ql := lt_of hbf
      have HBF := Lib.hid hbf
      obtain ⟨pv, nv, cv, rfl⟩ := own_slice g1
      have hmf : Mod S wr wf := mod_grown (hEt.mod _) g2 (fun i hi => (HSS.out i).2 hi)
      clear g1 g2 hnext hbf
      go_wp2
      refine hK _ _ (fun _ _ => ⟨⟨wf, hmf⟩, rfl⟩) ?_
      clear hK K
      refine pi_t 10 rfl (by kernel_rfl) (by kernel_rfl) (fun _ _ _ _ h => h) (fun K hK => ?_)
      go_big_quiet_op
      refine hK _ ?_
      clear hK K
      refine pi_t 11 rfl (by kernel_rfl) (by kernel_rfl) (fun _ _ _ _ h => h) (fun K hK => ?_)
      go_big_quiet_op
      refine hK _ ?_
      clear hK K
      refine pi_l 12 rfl (by kernel_rfl) (fun K hK => ?_)
      go_wp2
      refine hK _ _ (by simp) ?_
      clear hK K
      refine pi_end (by kernel_rfl) ?_
      go_wp2_with fail
      go_roundw
      case rel => exact ⟨k + 1, _, _, by omega, by go_num, hEf.setR (p := ⟨W0.heap.size, 5, none⟩) (Nat.le_refl _) _, (setCell_same HBF.out 5 _).trans rfl, HN.out.setc (by omega) _ _⟩
      case measure => simp [intOf]; omega
    · obtain rfl : k = B + 1 := by omega
      have hgt : ¬ (((B + 1 : Nat) : Int) ≤ C.bits) := by have := HB.out; omega
      have hgt2 : decide (((B + 1 : Nat) : Int) ≤ C.bits) = false := decide_eq_false hgt
      clear hbx
      go_wp2
      go_ret
      exact HM.out.post hok HB.out HBX.out hE.size (by have := HSZ.out; omega) (hE.trans' hE0)
end Go.Proofs.YtfhdjekpdifajaaGreat
