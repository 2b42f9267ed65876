/- sketch.New, Point over a sketch that lies in memory. -/
import Derived.Test.YthancaehlijaoaaRaise
import Derived.Test.YthancaehlijaoaaShape
namespace Go.Proofs.Ythancaehlijaoaa
open Go.RowKit

/-- A sketch. -/
structure SAt (w : World) (s b c : Nat) (C : Cfg) (lv : Int) (R W : Nat) (l : List Int) : Prop where
  ex : w.heap[s]? = some (.cells #[.pointer (some ⟨b, 0, none⟩), .int .i64 C.bits, .int .i64 C.rows, .int .i64 C.width, .int .i64 C.mode, .int .u64 C.seed, .int .i64 lv] 102 (0, 0))
  g : GAt w b c R W l
  ok : C.Ok
  lo : 0 ≤ lv
  hi : lv ≤ C.bits
  hr : C.rows = R
  hw : C.width = W
  fit : ∀ x ∈ l, I64 x
theorem SAt.lts {w : World} {s b c : Nat} {C : Cfg} {lv : Int} {R W : Nat} {l : List Int} (h : SAt w s b c C lv R W l) : s < w.heap.size := lt_of h.ex
theorem SAt.keep {w w' : World} {s b c : Nat} {C : Cfg} {lv : Int} {R W : Nat} {l : List Int} (h : SAt w s b c C lv R W l) (hs : w'.heap[s]? = w.heap[s]?) (hb : w'.heap[b]? = w.heap[b]?) (hc : w'.heap[c]? = w.heap[c]?) : SAt w' s b c C lv R W l :=
  ⟨by rw [hs]; exact h.ex, h.g.keep hb hc, h.ok, h.lo, h.hi, h.hr, h.hw, h.fit⟩
theorem SAt.ext {w w' : World} {s b c : Nat} {C : Cfg} {lv : Int} {R W : Nat} {l : List Int} (h : SAt w s b c C lv R W l) (he : Ext w w') : SAt w' s b c C lv R W l :=
  h.keep (he.block s h.lts) (he.block b h.g.ltb) (he.block c h.g.ltc)
theorem SAt.nes {w : World} {s b c : Nat} {C : Cfg} {lv : Int} {R W : Nat} {l : List Int} (h : SAt w s b c C lv R W l) : s ≠ c := by
  intro e
  obtain ⟨cap, h1, h2⟩ := h.g.ex
  obtain ⟨cur, h3, _⟩ := h2.ex
  have := h.ex
  rw [e, h3] at this
  simp at this
theorem cols_meets (C : Cfg) (h : C.Ok) (lv key : Int) {R W : Nat} (hr : C.rows = R) (hw : C.width = W) : Meets R W (cols C lv key) := by
  have e : C.rows.toNat = R := by rw [hr]; rfl
  have hg : ∀ k, k < R → (cols C lv key).getD k 0 = col C lv key k := by
    intro k hk
    simp [cols, e, hk]
  refine ⟨by rw [cols_len, e], fun k hk => ?_, fun k hk => ?_⟩
  · rw [hg k hk]; exact (col_bd C h.w1 lv key k).1
  · rw [hg k hk, ← hw]; exact (col_bd C h.w1 lv key k).2
def SNewPost (w : World) (C : Cfg) (lv : Int) (R W : Nat) (e : Ending) (w' : World) : Prop :=
  ∃ s b c, e = .returned (.tuple #[.pointer (some ⟨s, 0, none⟩), .int .i64 0]) ∧ SAt w' s b c C lv R W (zs (R * W)) ∧ w.heap.size ≤ s ∧ w.heap.size ≤ b ∧ w.heap.size ≤ c ∧ Ext w w'
set_option maxRecDepth 20000 in
set_option maxHeartbeats 2000000 in
theorem SNew_c (C : Cfg) (h : C.Ok) (lv : Int) (h0 : 0 ≤ lv) (h1 : lv ≤ C.bits) (R W : Nat) (hr : C.rows = R) (hw : C.width = W) (w : World) :
    Calls Try.prog 27 #[.agg #[.int .i64 C.bits, .int .i64 C.rows, .int .i64 C.width, .int .i64 C.mode, .int .u64 C.seed], .int .i64 lv] w (SNewPost w C lv R W) := by
  have hk := keys_bd C h lv h0
  have hkb : (keys C lv == 0) = false := by simp; omega
  have r1 := h.r1
  have r2 := h.r2
  have w1' := h.w1
  have w2' := h.w2
  have HR := Lib.hid hr
  have HW := Lib.hid hw
  clear hr hw
  go_enter Try.func27, Try.ntmps27
  go_wp2_with fail
  refine (Keys_c C h lv h0 h1 _).mono ?_
  rintro e w1 ⟨rfl, hb⟩
  obtain ⟨hc1, hc2⟩ := bcell hb
  have d0 : w1.cell? ⟨w.heap.size, 0, none⟩ = some (.int .i64 C.bits) := by rw [hc1 _ _ (by simp [go_sem])]; simp [go_sem]
  have d1 : w1.cell? ⟨w.heap.size, 1, none⟩ = some (.int .i64 C.rows) := by rw [hc1 _ _ (by simp [go_sem])]; simp [go_sem]
  have d2 : w1.cell? ⟨w.heap.size, 2, none⟩ = some (.int .i64 C.width) := by rw [hc1 _ _ (by simp [go_sem])]; simp [go_sem]
  have d3 : w1.cell? ⟨w.heap.size, 3, none⟩ = some (.int .i64 C.mode) := by rw [hc1 _ _ (by simp [go_sem])]; simp [go_sem]
  have d4 : w1.cell? ⟨w.heap.size, 4, none⟩ = some (.int .u64 C.seed) := by rw [hc1 _ _ (by simp [go_sem])]; simp [go_sem]
  have hsz : w.heap.size < w1.heap.size := by have := hb.size; simp only [size_alloc] at this; omega
  have hE : Ext w w1 := by (repeat' (first | exact Ext.refl _ | assumption | apply Ext.allocR | apply Ext.drewR | apply Ext.drewNR | (refine Ext.trans' ?_ (by assumption))))
  clear hc1 hc2 hb
  go_wp2
  have hC0 := af_drew w1
  refine pi_start (fun w' => ∃ x : After w1, w' = x.w) [] (by kernel_rfl) ?_
  refine pi_t 0 rfl (by kernel_rfl) (by kernel_rfl) (fun _ _ _ _ h => h) (fun K hK => ?_)
  go_big_quiet_op
  refine hK _ ?_
  clear hK K
  refine pi_c 1 (by assumption) rfl (by kernel_rfl) (by kernel_rfl) (fun _ _ _ _ h => h) (fun K hK => ?_)
  go_big_quiet_op
  refine hK _ ?_
  clear hK K
  refine pi_t 2 rfl (by kernel_rfl) (by kernel_rfl) (fun _ _ _ _ h => h) (fun K hK => ?_)
  go_big_quiet_op
  refine hK _ ?_
  clear hK K
  refine pi_c 3 (by assumption) rfl (by kernel_rfl) (by kernel_rfl) (fun _ _ _ _ h => h) (fun K hK => ?_)
  go_big_quiet_op
  refine hK _ ?_
  clear hK K
  refine pi_c 6 (by assumption) rfl (by kernel_rfl) (by kernel_rfl) (fun _ _ _ _ h => h) (fun K hK => ?_)
  go_big_quiet_op
  refine hK _ ?_
  clear hK K
  refine pi_t 7 rfl (by kernel_rfl) (by kernel_rfl) (fun _ _ _ _ h => h) (fun K hK => ?_)
  go_big_quiet_op
  refine hK _ ?_
  clear hK K
  refine pi_l 4 rfl (by kernel_rfl) (fun K hK => ?_)
  rw [HR.out, HW.out]
  go_wp2_with (go_at_call 63; refine (GNew_c R W _ (by have := HR.out; omega) (by have := HR.out; omega) (by have := HW.out; omega) (by have := HW.out; omega)).mono ?_; rintro e w2 ⟨gb, gc, rfl, hG, hgb, hgc, hx2⟩)
  refine hK _ _ (fun _ h => af_step h hx2) ?_
  clear hK K
  refine pi_t 5 rfl (by kernel_rfl) (by kernel_rfl) (fun _ _ _ _ h => h) (fun K hK => ?_)
  go_big_quiet_op
  refine hK _ ?_
  clear hK K
  refine pi_t 8 rfl (by kernel_rfl) (by kernel_rfl) (fun _ _ _ _ h => h) (fun K hK => ?_)
  go_big_quiet_op
  refine hK _ ?_
  clear hK K
  refine pi_l 9 rfl (by kernel_rfl) (fun K hK => ?_)
  go_wp2
  refine hK _ _ (fun _ h => af_step h (Ext.alloc' _ _)) ?_
  clear hK K
  refine pi_t 10 rfl (by kernel_rfl) (by kernel_rfl) (fun _ _ _ _ h => h) (fun K hK => ?_)
  go_big_quiet_op
  refine hK _ ?_
  clear hK K
  refine pi_t 11 rfl (by kernel_rfl) (by kernel_rfl) (fun _ _ _ _ h => h) (fun K hK => ?_)
  go_big_quiet_op
  refine hK _ ?_
  clear hK K
  refine pi_end (by kernel_rfl) ?_
  go_wp2
  go_ret2
  have hx2' : Ext w1 w2 := Ext.trans' (Below.drew (Ext.refl w1)) hx2
  have hs2 := hx2'.size
  refine ⟨w2.heap.size, gb, gc, rfl, ⟨?_, hG.keep (heap_old _ _ hG.ltb) (heap_old _ _ hG.ltc), h, h0, h1, HR.out, HW.out, ?_⟩, by omega, Nat.le_trans (show w.heap.size ≤ w1.heap.size by omega) hgb, Nat.le_trans (show w.heap.size ≤ w1.heap.size by omega) hgc, by (repeat' (first | exact Ext.refl _ | assumption | apply Ext.allocR | apply Ext.drewR | apply Ext.drewNR | (refine Ext.trans' ?_ (by assumption))))⟩
  · rw [heap_at _ _ rfl, HR.out, HW.out]
  · intro x hx
    simp only [zs, List.mem_replicate] at hx
    rw [hx.2]
    unfold I64; omega
set_option maxRecDepth 20000 in
set_option maxHeartbeats 2000000 in
theorem Columns_no (c : Cfg) (h : c.Ok) (l key : Int) (h0 : 0 ≤ l) (h1 : l ≤ c.bits) (hk1 : keys c l ≤ key) (w : World) :
    Calls Try.prog 20 #[.agg #[.int .i64 c.bits, .int .i64 c.rows, .int .i64 c.width, .int .i64 c.mode, .int .u64 c.seed], .int .i64 l, .int .u64 key] w fun e w' =>
      e = .returned (.slice none 0 0) ∧ Ext w w' := by
  have hd : decide (keys c l ≤ key) = true := by simp; omega
  go_enter Try.func20, Try.ntmps20
  go_wp2
  refine wp_region_after (by kernel_rfl) (by kernel_rfl) ?_
  repeat (go_big_quiet_step ((go_at_call 55; exact quiet_after (Keys_c c h l h0 h1 _))))
  refine wpQuiet_nil ?_
  rintro _ ⟨xx, rfl⟩
  obtain ⟨w1, hb⟩ := xx
  try dsimp only
  go_wp2
  go_ret
  exact ⟨rfl, by (repeat' (first | exact Ext.refl _ | assumption | apply Ext.allocR | apply Ext.drewR | apply Ext.drewNR | (refine Ext.trans' ?_ (by assumption))))⟩
theorem own_ne {w : World} {base : Nat} {e : TypeId} {v : Value} {n : Nat} {xs : List Value} (h : w.ownsRow base e 1 v n xs) {c : Nat} (hc : c < base) : ∀ g off n cap, v = .slice (some ⟨g, off, none⟩) n cap → g ≠ c := by
  intro g off n cap hv e
  have := (h.lt g (by rw [hv]; rfl)).1
  omega
def PointPost (w : World) (C : Cfg) (lv : Int) (R W : Nat) (l : List Int) (key : Int) (e : Ending) (w' : World) : Prop :=
  ∃ x, e = .returned (.tuple #[.int .i64 x, .int .i64 0]) ∧ IsKth (readL W l (cols C lv key)) (if C.mode = 3 then (R - 1) / 2 else 0) x ∧ Ext w w'
set_option maxRecDepth 20000 in
set_option maxHeartbeats 2000000 in
theorem Point_c (s b c : Nat) (C : Cfg) (lv : Int) (R W : Nat) (l : List Int) (key : Int) (w : World) (h : SAt w s b c C lv R W l) (hk0 : 0 ≤ key) (hk1 : key < keys C lv) :
    Calls Try.prog 26 #[.pointer (some ⟨s, 0, none⟩), .int .u64 key] w (PointPost w C lv R W l key) := by
  have hlt := h.lts
  have c0 := (cell_of h.ex 0).trans rfl
  have c1 := (cell_of h.ex 1).trans rfl
  have c2 := (cell_of h.ex 2).trans rfl
  have c3 := (cell_of h.ex 3).trans rfl
  have c4 := (cell_of h.ex 4).trans rfl
  have c5 := (cell_of h.ex 5).trans rfl
  have c6 := (cell_of h.ex 6).trans rfl
  have hnil := fun (x : World) (p : Option Addr) (n k : Nat) => Lib.run_eql_slice_nil (P := Try.prog) x 36 3 p n k 0 0 Try.underlying36
  have hm := cols_meets C h.ok lv key h.hr h.hw
  by_cases hmode : C.mode = 3
  · have hmb : (C.mode == 3) = true := by simp [hmode]
    have HM := Lib.hid hmode
    clear hmode
    go_enter Try.func26, Try.ntmps26
    go_wp2
    have hC0 := af_drew w
    refine pi_start (fun w' => ∃ x : After w, w' = x.w) [] (by kernel_rfl) ?_
    refine pi_t 0 rfl (by kernel_rfl) (by kernel_rfl) (fun _ _ _ _ h => h) (fun K hK => ?_)
    go_big_quiet_op
    refine hK _ ?_
    clear hK K
    refine pi_t 1 rfl (by kernel_rfl) (by kernel_rfl) (fun _ _ _ _ h => h) (fun K hK => ?_)
    go_big_quiet_op
    refine hK _ ?_
    clear hK K
    refine pi_t 2 rfl (by kernel_rfl) (by kernel_rfl) (fun _ _ _ _ h => h) (fun K hK => ?_)
    go_big_quiet_op
    refine hK _ ?_
    clear hK K
    refine pi_c 3 (by assumption) rfl (by kernel_rfl) (by kernel_rfl) (fun _ _ _ _ h => h) (fun K hK => ?_)
    go_big_quiet_op
    refine hK _ ?_
    clear hK K
    refine pi_t 4 rfl (by kernel_rfl) (by kernel_rfl) (fun _ _ _ _ h => h) (fun K hK => ?_)
    go_big_quiet_op
    refine hK _ ?_
    clear hK K
    refine pi_t 5 rfl (by kernel_rfl) (by kernel_rfl) (fun _ _ _ _ h => h) (fun K hK => ?_)
    go_big_quiet_op
    refine hK _ ?_
    clear hK K
    refine pi_t 6 rfl (by kernel_rfl) (by kernel_rfl) (fun _ _ _ _ h => h) (fun K hK => ?_)
    go_big_quiet_op
    refine hK _ ?_
    clear hK K
    refine pi_c 7 (by assumption) rfl (by kernel_rfl) (by kernel_rfl) (fun _ _ _ _ h => h) (fun K hK => ?_)
    go_big_quiet_op
    refine hK _ ?_
    clear hK K
    refine pi_t 8 rfl (by kernel_rfl) (by kernel_rfl) (fun _ _ _ _ h => h) (fun K hK => ?_)
    go_big_quiet_op
    refine hK _ ?_
    clear hK K
    refine pi_l 9 rfl (by kernel_rfl) (fun K hK => ?_)
    go_wp2_with (go_at_call 20; refine (Columns_c C h.ok lv key h.lo h.hi (by have := h.hi; have := h.ok.b2; omega) hk0 hk1 _).mono ?_; rintro e w1 ⟨v, rfl, ho, hx0⟩)
    refine hK _ _ (fun _ h => af_step h hx0) ?_
    clear hK K
    refine pi_t 10 rfl (by kernel_rfl) (by kernel_rfl) (fun _ _ _ _ h => h) (fun K hK => ?_)
    go_big_quiet_op
    refine hK _ ?_
    clear hK K
    refine pi_end (by kernel_rfl) ?_
    have hx : Ext w w1 := Ext.trans' (Below.drew (Ext.refl w)) hx0
    have hv := IntsAt.of_row ho
    have hne := own_ne ho (c := c) (by exact h.g.ltc)
    obtain ⟨vg, vo, vc, rfl, _⟩ := hv.slice (by rw [hm.len]; have := h.g.r1; omega)
    rw [hm.len] at hv hne ⊢
    clear ho hx0
    have HV := Lib.hid hv
    clear hv hne
    have hS := h.ext hx
    have c0' := (cell_of hS.ex 0).trans rfl
    have c4' := (cell_of hS.ex 4).trans rfl
    clear c0 c1 c2 c3 c4 c5 c6
    go_wp2_with fail
    refine (Middle_c b c R W l _ _ _ hS.g HV.out hm).mono ?_
    rintro e w2 ⟨x, rfl, hk, hx2⟩
    go_wp2
    go_ret2
    exact ⟨x, rfl, by rw [if_pos HM.out]; exact hk, hx.trans' hx2⟩
  · have hmb : (C.mode == 3) = false := by simp [hmode]
    have HM := Lib.hid hmode
    clear hmode
    go_enter Try.func26, Try.ntmps26
    go_wp2
    have hC0 := af_drew w
    refine pi_start (fun w' => ∃ x : After w, w' = x.w) [] (by kernel_rfl) ?_
    refine pi_t 0 rfl (by kernel_rfl) (by kernel_rfl) (fun _ _ _ _ h => h) (fun K hK => ?_)
    go_big_quiet_op
    refine hK _ ?_
    clear hK K
    refine pi_t 1 rfl (by kernel_rfl) (by kernel_rfl) (fun _ _ _ _ h => h) (fun K hK => ?_)
    go_big_quiet_op
    refine hK _ ?_
    clear hK K
    refine pi_t 2 rfl (by kernel_rfl) (by kernel_rfl) (fun _ _ _ _ h => h) (fun K hK => ?_)
    go_big_quiet_op
    refine hK _ ?_
    clear hK K
    refine pi_c 3 (by assumption) rfl (by kernel_rfl) (by kernel_rfl) (fun _ _ _ _ h => h) (fun K hK => ?_)
    go_big_quiet_op
    refine hK _ ?_
    clear hK K
    refine pi_t 4 rfl (by kernel_rfl) (by kernel_rfl) (fun _ _ _ _ h => h) (fun K hK => ?_)
    go_big_quiet_op
    refine hK _ ?_
    clear hK K
    refine pi_t 5 rfl (by kernel_rfl) (by kernel_rfl) (fun _ _ _ _ h => h) (fun K hK => ?_)
    go_big_quiet_op
    refine hK _ ?_
    clear hK K
    refine pi_t 6 rfl (by kernel_rfl) (by kernel_rfl) (fun _ _ _ _ h => h) (fun K hK => ?_)
    go_big_quiet_op
    refine hK _ ?_
    clear hK K
    refine pi_c 7 (by assumption) rfl (by kernel_rfl) (by kernel_rfl) (fun _ _ _ _ h => h) (fun K hK => ?_)
    go_big_quiet_op
    refine hK _ ?_
    clear hK K
    refine pi_t 8 rfl (by kernel_rfl) (by kernel_rfl) (fun _ _ _ _ h => h) (fun K hK => ?_)
    go_big_quiet_op
    refine hK _ ?_
    clear hK K
    refine pi_l 9 rfl (by kernel_rfl) (fun K hK => ?_)
    go_wp2_with (go_at_call 20; refine (Columns_c C h.ok lv key h.lo h.hi (by have := h.hi; have := h.ok.b2; omega) hk0 hk1 _).mono ?_; rintro e w1 ⟨v, rfl, ho, hx0⟩)
    refine hK _ _ (fun _ h => af_step h hx0) ?_
    clear hK K
    refine pi_t 10 rfl (by kernel_rfl) (by kernel_rfl) (fun _ _ _ _ h => h) (fun K hK => ?_)
    go_big_quiet_op
    refine hK _ ?_
    clear hK K
    refine pi_end (by kernel_rfl) ?_
    have hx : Ext w w1 := Ext.trans' (Below.drew (Ext.refl w)) hx0
    have hv := IntsAt.of_row ho
    have hne := own_ne ho (c := c) (by exact h.g.ltc)
    obtain ⟨vg, vo, vc, rfl, _⟩ := hv.slice (by rw [hm.len]; have := h.g.r1; omega)
    rw [hm.len] at hv hne ⊢
    clear ho hx0
    have HV := Lib.hid hv
    clear hv hne
    have hS := h.ext hx
    have c0' := (cell_of hS.ex 0).trans rfl
    have c4' := (cell_of hS.ex 4).trans rfl
    clear c0 c1 c2 c3 c4 c5 c6
    go_wp2_with fail
    refine (Least_c b c R W l _ _ _ hS.g HV.out hm).mono ?_
    rintro e w2 ⟨x, rfl, hk, hx2⟩
    go_wp2
    go_ret2
    exact ⟨x, rfl, by rw [if_neg HM.out]; exact hk, hx.trans' hx2⟩
end Go.Proofs.Ythancaehlijaoaa
