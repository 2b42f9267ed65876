/- Part. No condition. -/
import Derived.Test.YtfhdjekpdifajaaGreatL15
import Derived.Test.YtfhdjekpdifajaaGreatL6
import Derived.Test.YtfhdjekpdifajaaGreatL13

/- gaugerref14.Same of like rows; gaugerlaw17.shown: what the law shows of one small stack. -/
namespace Go.Proofs.YtfhdjekpdifajaaGreat
set_option linter.unusedVariables false
open Go.RowKit
set_option maxRecDepth 20000 in
set_option maxHeartbeats 4000000 in
theorem SameP_yes (ps : List (Nat × Int)) (g1 g2 c1 c2 : Nat) (w : World) (h1 : PCells w g1 0 ps) (h2 : PCells w g2 0 ps) (l1 : g1 < w.heap.size) (l2 : g2 < w.heap.size) (hl : ps.length ≤ 1000) :
    Calls Tryz.prog 92 #[.slice (some ⟨g1, 0, none⟩) ps.length c1, .slice (some ⟨g2, 0, none⟩) ps.length c2] w fun e w' => e = .returned (.bool true) ∧ Ext w w' := by
  have H1 := Lib.hid h1
  have H2 := Lib.hid h2
  clear h1 h2
  go_enter Tryz.func92, Tryz.ntmps92
  go_wp2
  go_loopw [5] (fun u wr => ∃ k : Nat, k ≤ ps.length ∧ u = .int .i64 k ∧ Ext w wr) (fun u _ => ps.length - (intOf u).toNat)
  case atStart => exact ⟨0, Nat.zero_le _, rfl, Ext.refl _⟩
  case round =>
    obtain ⟨k, hk, rfl, hx⟩ := hrel
    by_cases hlt : k < ps.length
    · have d1 := ((bcell hx).1 _ _ l1).trans (H1.out k hlt).1
      have d2 := ((bcell hx).1 _ _ l1).trans (H1.out k hlt).2
      have d3 := ((bcell hx).1 _ _ l2).trans (H2.out k hlt).1
      have d4 := ((bcell hx).1 _ _ l2).trans (H2.out k hlt).2
      have m1 : g1 < wr.heap.size := Nat.lt_of_lt_of_le l1 hx.size
      have m2 : g2 < wr.heap.size := Nat.lt_of_lt_of_le l2 hx.size
      rw [Nat.zero_add] at d1 d2 d3 d4
      generalize (ps.getD k (0, 0)).1 = a at *
      generalize (ps.getD k (0, 0)).2 = b at *
      go_wp2_with fail
      refine wp_region_after (by kernel_rfl) (by kernel_rfl) ?_
      repeat (go_big_quiet_step (fail))
      refine wpQuiet_nil ?_
      rintro _ ⟨xx, rfl⟩
      obtain ⟨w5, hb5⟩ := xx
      try dsimp only
      go_wp2
      go_roundw
      case rel => exact ⟨k + 1, by omega, by go_num, hx.trans' hb5⟩
      case measure => simp [intOf]; omega
    · go_wp2
      go_ret
      exact ⟨rfl, hx⟩
def K1 : Cfg := ⟨3, 1, 8, 1, 0⟩
theorem K1_ok : K1.Ok := by constructor <;> simp [K1, U64]
def us1 : List (Int × Int) := [(1, 5), (6, 7)]
theorem us1_ok : UpsOk us1 := by
  intro u hu
  simp only [us1, List.mem_cons, List.not_mem_nil, or_false] at hu
  rcases hu with rfl | rfl <;> (constructor <;> simp [U64, I64])
theorem K1_c1 : cutK K1 0 1 = 1 := by decide
theorem K1_c6 : cutK K1 0 6 = 6 := by decide
theorem K1_d5 : cutD K1.mode 5 = 5 := by decide
theorem K1_d7 : cutD K1.mode 7 = 7 := by decide
theorem K1_s1 : updK K1 (feedK K1 []) 1 5 = feedK K1 [(1, 5)] := by
  have h := feedK_snoc K1 [] (1, 5)
  rw [K1_c1, K1_d5] at h
  exact h.symm
theorem K1_s2 : updK K1 (feedK K1 [(1, 5)]) 6 7 = feedK K1 us1 := by
  have h := feedK_snoc K1 [(1, 5)] (6, 7)
  rw [K1_c6, K1_d7] at h
  exact h.symm
theorem K1_e1 : errK K1 3 (feedK K1 []) 1 5 = 0 := by
  have h := feedK_ok K1 K1_ok (B := 3) rfl [] (by decide) (1, 5)
  rw [K1_c1, K1_d5] at h
  exact h
theorem K1_e2 : errK K1 3 (feedK K1 [(1, 5)]) 6 7 = 0 := by
  have h := feedK_ok K1 K1_ok (B := 3) rfl [(1, 5)] (by decide) (6, 7)
  rw [K1_c6, K1_d7] at h
  exact h
theorem us1_f : fus us1 0 60 = us1 := rfl
theorem us1_p : psU K1 us1 = [(1, 5), (6, 7)] := by decide
theorem K1_x (n : Nat) (h : n ≤ 3) : isX K1 n = true := by
  match n, h with
  | 0, _ => decide
  | 1, _ => decide
  | 2, _ => decide
  | 3, _ => decide
theorem K1_p {n : Nat} {i : Int} (hn : n ≤ 3) (h0 : 0 ≤ i) (h1 : i < keys K1 n) : ptK K1 3 us1 n i = pcS [(1, 5), (6, 7)] n i := by
  rw [← us1_p]
  exact ptK_x K1_ok rfl us1_ok hn h0 h1 (K1_x n hn)
theorem K1_t : (feedK K1 us1 3).getD 0 0 = 12 := by
  have h := feed_total K1_ok (B := 3) rfl us1_ok
  rw [us1_f, hasK_pc, us1_p] at h
  rw [h]
  decide
theorem wayI_succ (pt : Nat → Int → Int) (n : Nat) (i k : Int) : wayI pt (n + 1) i k = if k ≤ pt n (2 * i) then wayI pt n (2 * i) k else wayI pt n (2 * i + 1) (k - pt n (2 * i)) := rfl
theorem K1_p20 : ptK K1 3 us1 2 (2 * 0) = 5 := by rw [K1_p (by decide) (by decide) (by decide)]; decide
theorem K1_p10 : ptK K1 3 us1 1 (2 * (2 * 0)) = 5 := by rw [K1_p (by decide) (by decide) (by decide)]; decide
theorem K1_p00 : ptK K1 3 us1 0 (2 * (2 * (2 * 0))) = 0 := by rw [K1_p (by decide) (by decide) (by decide)]; decide
theorem K1_p12 : ptK K1 3 us1 1 (2 * (2 * 0 + 1)) = 0 := by rw [K1_p (by decide) (by decide) (by decide)]; decide
theorem K1_p06 : ptK K1 3 us1 0 (2 * (2 * (2 * 0 + 1) + 1)) = 7 := by rw [K1_p (by decide) (by decide) (by decide)]; decide
theorem K1_w5 : wayI (ptK K1 3 us1) 3 0 5 = 1 := by
  rw [wayI_succ, K1_p20, if_pos (by decide), wayI_succ, K1_p10, if_pos (by decide), wayI_succ, K1_p00, if_neg (by decide)]
  rfl
theorem K1_w6 : wayI (ptK K1 3 us1) 3 0 6 = 6 := by
  rw [wayI_succ, K1_p20, if_neg (by decide), wayI_succ, K1_p12, if_neg (by decide), wayI_succ, K1_p06, if_pos (by decide)]
  rfl
theorem K1_l6 : wayP (ptK K1 3 us1) 3 6 = [(3, 0), (2, 1), (1, 3), (0, 6)] := by
  unfold wayP
  rw [wayL_succ, K1_p20, if_neg (by decide), wayL_succ, K1_p12, if_neg (by decide), wayL_succ, K1_p06, if_pos (by decide)]
  rfl
theorem pieces4 (w : World) (t : TypeId) : PCells (w.alloc (.cells #[.int .i64 3, .int .u64 0, .int .i64 2, .int .u64 1, .int .i64 1, .int .u64 3, .int .i64 0, .int .u64 6] t)) w.heap.size 0 [(3, 0), (2, 1), (1, 3), (0, 6)] := by
  have h := fun j => cell_of (heap_at w (.cells #[.int .i64 3, .int .u64 0, .int .i64 2, .int .u64 1, .int .i64 1, .int .u64 3, .int .i64 0, .int .u64 6] t) rfl) j
  intro k hk
  match k, hk with
  | 0, _ => exact ⟨(h 0).trans rfl, (h 1).trans rfl⟩
  | 1, _ => exact ⟨(h 2).trans rfl, (h 3).trans rfl⟩
  | 2, _ => exact ⟨(h 4).trans rfl, (h 5).trans rfl⟩
  | 3, _ => exact ⟨(h 6).trans rfl, (h 7).trans rfl⟩
set_option maxRecDepth 20000 in
set_option maxHeartbeats 4000000 in
theorem shown17_c (w : World) : Calls Tryz.prog 32 #[] w fun e w' => e = .returned (.bool true) ∧ Ext w w' := by
  go_enter Tryz.func32, Tryz.ntmps32
  go_wp2_with fail
  refine (KNew_c K1 K1_ok _).mono ?_
  rintro e w1 ⟨s, g, L, rfl, hK, hs, hg, hL, hx1⟩
  have hE1 : Ext w w1 := by (repeat' (first | exact Ext.refl _ | assumption | apply Ext.allocR | apply Ext.drewR | apply Ext.drewNR | (refine Ext.trans' ?_ (by assumption))))
  have hF : KFresh w.heap.size 3 L := hL
  replace hK : KAt w1 s g K1 3 L (feedK K1 []) := hK
  clear hx1 hL hg hs
  go_wp2_with fail
  refine Calls.mono (KUpdate_c s g K1 3 L _ 1 5 _ (hK.ext ?hx) (by unfold I64; omega) (by unfold U64; omega)) ?_
  case hx => (repeat' (first | exact Ext.refl _ | assumption | apply Ext.allocR | apply Ext.drewR | apply Ext.drewNR | (refine Ext.trans' ?_ (by assumption))))
  rintro e w3 ⟨rfl, hK3, hM3⟩
  have hE3 : Ext w w3 := hF.ext (by (repeat' (first | exact Ext.refl _ | assumption | apply Ext.allocR | apply Ext.drewR | apply Ext.drewNR | (refine Ext.trans' ?_ (by assumption))))) hM3
  rw [K1_e1] at hK3 ⊢
  replace hK3 : KAt w3 s g K1 3 L (updK K1 (feedK K1 []) 1 5) := hK3
  rw [K1_s1] at hK3
  clear hM3 hE1 hK
  go_wp2_with fail
  refine Calls.mono (KUpdate_c s g K1 3 L _ 6 7 _ (hK3.ext ?hx) (by unfold I64; omega) (by unfold U64; omega)) ?_
  case hx => (repeat' (first | exact Ext.refl _ | assumption | apply Ext.allocR | apply Ext.drewR | apply Ext.drewNR | (refine Ext.trans' ?_ (by assumption))))
  rintro e w4 ⟨rfl, hK4, hM4⟩
  have hE4 : Ext w w4 := hF.ext (by (repeat' (first | exact Ext.refl _ | assumption | apply Ext.allocR | apply Ext.drewR | apply Ext.drewNR | (refine Ext.trans' ?_ (by assumption))))) hM4
  rw [K1_e2] at hK4 ⊢
  replace hK4 : KAt w4 s g K1 3 L (updK K1 (feedK K1 [(1, 5)]) 6 7) := hK4
  rw [K1_s2] at hK4
  clear hM4 hE3 hK3
  have hT : Tells K1 3 (feedK K1 us1) (ptK K1 3 us1) := tells_fed K1 3 us1
  have hQ : ∀ W' k, Ext w4 W' → I64 k → Calls Tryz.prog 33 #[.pointer (some ⟨s, 0, none⟩), .int .i64 k] W' (QuantPost W' 3 12 (ptK K1 3 us1) k) := fun W' k h hk => by
    have := Quantile_c s g K1 3 L (feedK K1 us1) W' (hK4.ext h) k hk _ hT
    rw [K1_t] at this
    exact this
  have hW : ∀ W' k, Ext w4 W' → I64 k → Calls Tryz.prog 91 #[.pointer (some ⟨s, 0, none⟩), .int .i64 k] W' (WayPost W' 3 12 (ptK K1 3 us1) k) := fun W' k h hk => by
    have := Way_c s g K1 3 L (feedK K1 us1) W' (hK4.ext h) k hk _ hT
    rw [K1_t] at this
    exact this
  clear hT hK4 hF
  go_wp2_with fail
  refine (hQ _ 5 (by (repeat' (first | exact Ext.refl _ | assumption | apply Ext.allocR | apply Ext.drewR | apply Ext.drewNR | (refine Ext.trans' ?_ (by assumption))))) (by unfold I64; omega)).mono ?_
  rintro e w5 hp
  obtain ⟨_, rfl, hx5⟩ := hp.resolve_left (fun h => by have := h.1; omega)
  rw [K1_w5]
  have hE5 : Ext w4 w5 := by (repeat' (first | exact Ext.refl _ | assumption | apply Ext.allocR | apply Ext.drewR | apply Ext.drewNR | (refine Ext.trans' ?_ (by assumption))))
  clear hx5 hp
  go_wp2_with fail
  refine (hQ _ 6 (hE5.trans' (by (repeat' (first | exact Ext.refl _ | assumption | apply Ext.allocR | apply Ext.drewR | apply Ext.drewNR | (refine Ext.trans' ?_ (by assumption)))))) (by unfold I64; omega)).mono ?_
  rintro e w6 hp
  obtain ⟨_, rfl, hx6⟩ := hp.resolve_left (fun h => by have := h.1; omega)
  rw [K1_w6]
  have hE6 : Ext w4 w6 := hE5.trans' (by (repeat' (first | exact Ext.refl _ | assumption | apply Ext.allocR | apply Ext.drewR | apply Ext.drewNR | (refine Ext.trans' ?_ (by assumption)))))
  clear hx6 hp hE5
  go_wp2_with fail
  refine (hQ _ 13 (hE6.trans' (by (repeat' (first | exact Ext.refl _ | assumption | apply Ext.allocR | apply Ext.drewR | apply Ext.drewNR | (refine Ext.trans' ?_ (by assumption)))))) (by unfold I64; omega)).mono ?_
  rintro e w7 hp
  obtain ⟨_, rfl, hx7⟩ := hp.resolve_right (fun h => by have := h.1; omega)
  have hE7 : Ext w4 w7 := hE6.trans' (by (repeat' (first | exact Ext.refl _ | assumption | apply Ext.allocR | apply Ext.drewR | apply Ext.drewNR | (refine Ext.trans' ?_ (by assumption)))))
  clear hx7 hp hE6
  go_wp2_with fail
  refine (hQ _ 0 (hE7.trans' (by (repeat' (first | exact Ext.refl _ | assumption | apply Ext.allocR | apply Ext.drewR | apply Ext.drewNR | (refine Ext.trans' ?_ (by assumption)))))) (by unfold I64; omega)).mono ?_
  rintro e w8 hp
  obtain ⟨_, rfl, hx8⟩ := hp.resolve_right (fun h => by have := h.1; omega)
  have hE8 : Ext w4 w8 := hE7.trans' (by (repeat' (first | exact Ext.refl _ | assumption | apply Ext.allocR | apply Ext.drewR | apply Ext.drewNR | (refine Ext.trans' ?_ (by assumption)))))
  clear hx8 hp hE7
  go_wp2_with fail
  refine (hW _ 6 (hE8.trans' (by (repeat' (first | exact Ext.refl _ | assumption | apply Ext.allocR | apply Ext.drewR | apply Ext.drewNR | (refine Ext.trans' ?_ (by assumption)))))) (by unfold I64; omega)).mono ?_
  rintro e w9 hp
  obtain ⟨_, v, base, rfl, hbs, ho, hx9⟩ := hp.resolve_left (fun h => by have := h.1; omega)
  rw [K1_l6] at ho
  obtain ⟨g9, c9, rfl, hg9, hp9⟩ := own_pieces ho (by decide)
  have hE9 : Ext w4 w9 := hE8.trans' (by (repeat' (first | exact Ext.refl _ | assumption | apply Ext.allocR | apply Ext.drewR | apply Ext.drewNR | (refine Ext.trans' ?_ (by assumption)))))
  clear hx9 hp hE8 ho hbs hQ hW
  go_wp2_with fail
  refine Calls.mono (SameP_yes [(3, 0), (2, 1), (1, 3), (0, 6)] _ _ _ _ _ (hp9.ext hg9 (Ext.alloc' _ _)) (pieces4 w9 _) (by rw [size_alloc]; omega) (by rw [size_alloc]; omega) (by decide)) ?_
  rintro e w10 ⟨rfl, hx10⟩
  go_wp2
  go_ret
  exact ⟨rfl, hE4.trans' (hE9.trans' (by (repeat' (first | exact Ext.refl _ | assumption | apply Ext.allocR | apply Ext.drewR | apply Ext.drewNR | (refine Ext.trans' ?_ (by assumption))))))⟩
end Go.Proofs.YtfhdjekpdifajaaGreat

/- A stack of the program and one of the references: a rank's key, and the way to it. -/
namespace Go.Proofs.YtfhdjekpdifajaaGreat
set_option linter.unusedVariables false
open Go.RowKit
/-- A way, or none. -/
def PAt (w : World) (v : Value) (ps : List (Nat × Int)) : Prop := (v = .slice none 0 0 ∧ ps = []) ∨ (0 < ps.length ∧ ps.length ≤ 60 ∧ ∃ g c, v = .slice (some ⟨g, 0, none⟩) ps.length c ∧ g < w.heap.size ∧ PCells w g 0 ps)
theorem PAt.ext {w w' : World} {v : Value} {ps : List (Nat × Int)} (h : PAt w v ps) (he : Ext w w') : PAt w' v ps :=
  h.imp id (fun ⟨h0, h1, g, c, hv, hg, hp⟩ => ⟨h0, h1, g, c, hv, Nat.lt_of_lt_of_le hg he.size, hp.ext hg he⟩)
theorem way_of {w w' : World} {B : Nat} (hB : B ≤ 59) {T k : Int} {pt : Nat → Int → Int} {e : Ending} (h : WayRPost w B T pt k e w') : ∃ v, e = .returned (.tuple #[v, .int .i64 (wayRR pt B T k).2]) ∧ PAt w' v (wayRR pt B T k).1 ∧ Ext w w' := by
  rcases h with ⟨hr, rfl, hx⟩ | ⟨hr, hn, rfl, hx⟩ | ⟨hr, ps, v, base, hsm, rfl, hbs, ho, hx⟩
  · have e : wayRR pt B T k = ([], 6) := by unfold wayRR; rw [if_pos hr]
    rw [e]; exact ⟨_, rfl, .inl ⟨rfl, rfl⟩, hx⟩
  · have e : wayRR pt B T k = ([], 4) := by unfold wayRR; rw [if_neg (by omega), hn]
    rw [e]; exact ⟨_, rfl, .inl ⟨rfl, rfl⟩, hx⟩
  · have e : wayRR pt B T k = (ps, 0) := by unfold wayRR; rw [if_neg (by omega), hsm]
    have hl := wayFP_len hsm
    obtain ⟨g', cap, rfl, hgl, hpc⟩ := own_pieces ho (by omega)
    rw [e]; exact ⟨_, rfl, .inr ⟨by show 0 < ps.length; omega, by show ps.length ≤ 60; omega, g', cap, rfl, hgl, hpc⟩, hx⟩
set_option maxRecDepth 20000 in
set_option maxHeartbeats 2000000 in
theorem SameNil (w : World) : Calls Tryz.prog 92 #[.slice none 0 0, .slice none 0 0] w fun e w' => e = .returned (.bool true) ∧ Ext w w' := by
  go_enter Tryz.func92, Tryz.ntmps92
  go_wp2_with fail
  refine wp_loop_rounds 1 ?_
  rw [rounds_succ]
  go_wp2
  go_ret
  exact ⟨rfl, by (repeat' (first | exact Ext.refl _ | assumption | apply Ext.allocR | apply Ext.drewR | apply Ext.drewNR | (refine Ext.trans' ?_ (by assumption))))⟩
theorem SameAny (w : World) (v1 v2 : Value) (ps : List (Nat × Int)) (h1 : PAt w v1 ps) (h2 : PAt w v2 ps) : Calls Tryz.prog 92 #[v1, v2] w fun e w' => e = .returned (.bool true) ∧ Ext w w' := by
  rcases h1 with ⟨rfl, rfl⟩ | ⟨h0, h60, g, c, rfl, hg, hp⟩
  · rcases h2 with ⟨rfl, _⟩ | ⟨h0, _⟩
    · exact SameNil w
    · exact absurd h0 (by decide)
  · rcases h2 with ⟨_, rfl⟩ | ⟨_, _, g2, c2, rfl, hg2, hp2⟩
    · exact absurd h0 (by decide)
    · exact SameP_yes ps g g2 c c2 w hp hp2 hg hg2 (by omega)
section
variable {N : Nat} {w w' : World} {C : Cfg} {B s r : Nat} {ls : Nat → List Int}
theorem KP_way (h : KP N w C B s r ls ls) (k : Int) (hk : I64 k) :
    Calls Tryz.prog 91 #[.pointer (some ⟨s, 0, none⟩), .int .i64 k] w (WayRPost w B ((ls B).getD 0 0) (ptU C ls) k) := by
  have hU := ptU_uniq h
  obtain ⟨g, L, t, L2, z, h1, h2, h3, h4, h5, h6, h7⟩ := h
  exact WayR_c s g C B L ls w h1 k hk (ptU C ls) hU (ptU_I C ls)
theorem KP_rway (h : KP N w C B s r ls ls) (k : Int) (hk : I64 k) :
    Calls Tryz.prog 93 #[.pointer (some ⟨r, 0, none⟩), .int .i64 k] w (WayRPost w B ((ls B).getD 0 0) (ptU C ls) k) := by
  have hU := ptU_uniq h
  obtain ⟨g, L, t, L2, z, h1, h2, h3, h4, h5, h6, h7⟩ := h
  exact RWay_c r t C B L2 ls w h4 k hk (ptU C ls) hU (ptU_I C ls)
theorem KP.b59 (h : KP N w C B s r ls ls) : B ≤ 59 := by
  have h1 := h.rok
  have := h1.1.b2
  have := h1.2
  omega
theorem KP_quan (h : KP N w C B s r ls ls) (k : Int) (hk : I64 k) :
    Calls Tryz.prog 33 #[.pointer (some ⟨s, 0, none⟩), .int .i64 k] w fun e w' => e = .returned (.tuple #[.int .u64 (quanR (ptU C ls) B ((ls B).getD 0 0) k).1, .int .i64 (quanR (ptU C ls) B ((ls B).getD 0 0) k).2]) ∧ Ext w w' :=
  Quan_of s B h.b59 (ptU C ls) _ k w (fun W' hE => KP_way (h.ext hE) k hk)
theorem KP_rquan (h : KP N w C B s r ls ls) (k : Int) (hk : I64 k) :
    Calls Tryz.prog 34 #[.pointer (some ⟨r, 0, none⟩), .int .i64 k] w fun e w' => e = .returned (.tuple #[.int .u64 (quanR (ptU C ls) B ((ls B).getD 0 0) k).1, .int .i64 (quanR (ptU C ls) B ((ls B).getD 0 0) k).2]) ∧ Ext w w' :=
  RQuan_of r B h.b59 (ptU C ls) _ k w (fun W' hE => KP_rway (h.ext hE) k hk)
end
end Go.Proofs.YtfhdjekpdifajaaGreat
