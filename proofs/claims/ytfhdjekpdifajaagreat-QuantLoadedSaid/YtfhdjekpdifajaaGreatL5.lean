/- Part. No condition. -/
import Derived.Test.YtfhdjekpdifajaaGreatL4
import Derived.Test.YtfhdjekpdifajaaGreatL3
import Derived.Test.YtfhdjekpdifajaaGreatL1
import Derived.Test.YtfhdjekpdifajaaGreatL2
import Derived.RangeFuncNested
import Derived.RangeFuncBound
import Derived.RangeFuncCalls
import Derived.RangeFuncLeaves
import Derived.Shelf.Abstract
import Derived.Shelf.RegionOpen
import Derived.WalkKit
import Derived.OwnWalkIn
import Derived.TacticsInMore
import Derived.LoopNIn
import Derived.LoopIn
import Derived.RangeFuncFrom

/- Package stack: a stack that lies in memory; what its calls tell. -/
namespace Go.Proofs.YtfhdjekpdifajaaGreat
set_option linter.unusedVariables false
open Go.RowKit

/-- A stack at s: its levels lie at L, and have the cells ls. -/
structure KAt (w : World) (s g : Nat) (C : Cfg) (B : Nat) (L : Nat → Lev) (ls : Nat → List Int) : Prop where
  ex : ∃ cap, w.heap[s]? = some (.cells #[.int .i64 C.bits, .int .i64 C.rows, .int .i64 C.width, .int .i64 C.mode, .int .u64 C.seed, .slice (some ⟨g, 0, none⟩) (B + 1) cap] 149 (0, 0)) ∧ B + 1 ≤ cap
  row : ∃ cur, w.heap[g]? = some (.cells cur 62 (0, 0)) ∧ ∀ n, n ≤ B → cur[n]? = some (lvV C n (L n))
  lev : ∀ n, n ≤ B → LvAt w (L n) C n (ls n)
  sep : ∀ m n, m ≤ B → n ≤ B → m ≠ n → (L m).c ≠ (L n).c
  ok : C.Ok
  hB : C.bits = B
/-- The blocks of its cells. -/
def cellsOf (B : Nat) (L : Nat → Lev) (k : Nat) : Prop := ∃ n, n ≤ B ∧ k = (L n).c
theorem KAt.lts {w : World} {s g : Nat} {C : Cfg} {B : Nat} {L : Nat → Lev} {ls : Nat → List Int} (h : KAt w s g C B L ls) : s < w.heap.size := by
  obtain ⟨cap, h1, _⟩ := h.ex; exact lt_of h1
theorem KAt.ltg {w : World} {s g : Nat} {C : Cfg} {B : Nat} {L : Nat → Lev} {ls : Nat → List Int} (h : KAt w s g C B L ls) : g < w.heap.size := by
  obtain ⟨cur, h1, _⟩ := h.row; exact lt_of h1
theorem KAt.cell {w : World} {s g : Nat} {C : Cfg} {B : Nat} {L : Nat → Lev} {ls : Nat → List Int} (h : KAt w s g C B L ls) {n : Nat} (hn : n ≤ B) : w.cell? ⟨g, n, none⟩ = some (lvV C n (L n)) := by
  obtain ⟨cur, h1, h2⟩ := h.row; rw [cell_of h1]; exact h2 n hn
theorem KAt.isc {w : World} {s g : Nat} {C : Cfg} {B : Nat} {L : Nat → Lev} {ls : Nat → List Int} (h : KAt w s g C B L ls) {k : Nat} (hk : cellsOf B L k) : ∃ cur, w.heap[k]? = some (.cells cur 2 (0, 0)) := by
  obtain ⟨n, hn, rfl⟩ := hk; exact (h.lev n hn).isc
theorem KAt.ltc {w : World} {s g : Nat} {C : Cfg} {B : Nat} {L : Nat → Lev} {ls : Nat → List Int} (h : KAt w s g C B L ls) {k : Nat} (hk : cellsOf B L k) : k < w.heap.size := by
  obtain ⟨n, hn, rfl⟩ := hk; exact (h.lev n hn).ltc
theorem KAt.nots {w : World} {s g : Nat} {C : Cfg} {B : Nat} {L : Nat → Lev} {ls : Nat → List Int} (h : KAt w s g C B L ls) : ¬ cellsOf B L s := by
  intro hk
  obtain ⟨cur, h1⟩ := h.isc hk
  obtain ⟨cap, h2, _⟩ := h.ex
  exact blk_ne h1 h2 (by decide) rfl
theorem KAt.notg {w : World} {s g : Nat} {C : Cfg} {B : Nat} {L : Nat → Lev} {ls : Nat → List Int} (h : KAt w s g C B L ls) : ¬ cellsOf B L g := by
  intro hk
  obtain ⟨cur, h1⟩ := h.isc hk
  obtain ⟨cur', h2, _⟩ := h.row
  exact blk_ne h1 h2 (by decide) rfl
theorem KAt.ext {w w' : World} {s g : Nat} {C : Cfg} {B : Nat} {L : Nat → Lev} {ls : Nat → List Int} (h : KAt w s g C B L ls) (he : Ext w w') : KAt w' s g C B L ls :=
  ⟨by rw [he.block s h.lts]; exact h.ex, by rw [he.block g h.ltg]; exact h.row, fun n hn => (h.lev n hn).ext he, h.sep, h.ok, h.hB⟩
/-- What other cells are changed to does not touch a stack. -/
theorem KAt.mod {S : Nat → Prop} {w w' : World} {s g : Nat} {C : Cfg} {B : Nat} {L : Nat → Lev} {ls : Nat → List Int} (h : KAt w s g C B L ls) (he : Mod S w w') (hS : ∀ k, S k → k < w.heap.size → ∃ cur, w.heap[k]? = some (.cells cur 2 (0, 0))) (hc : ∀ n, n ≤ B → ¬ S (L n).c) : KAt w' s g C B L ls := by
  refine ⟨?_, ?_, fun n hn => (h.lev n hn).mod he hS (hc n hn), h.sep, h.ok, h.hB⟩
  · rw [he.block s h.lts fun hs => ?_]
    · exact h.ex
    · obtain ⟨cur, h1⟩ := hS _ hs h.lts
      obtain ⟨cap, h2, _⟩ := h.ex
      exact blk_ne h1 h2 (by decide) rfl
  · rw [he.block g h.ltg fun hs => ?_]
    · exact h.row
    · obtain ⟨cur, h1⟩ := hS _ hs h.ltg
      obtain ⟨cur', h2, _⟩ := h.row
      exact blk_ne h1 h2 (by decide) rfl
theorem SKConfig_c (s g : Nat) (C : Cfg) (B : Nat) (L : Nat → Lev) (ls : Nat → List Int) (w : World) (h : KAt w s g C B L ls) :
    Calls Tryz.prog 31 #[.pointer (some ⟨s, 0, none⟩)] w fun e w' => e = .returned (.agg #[.int .i64 C.bits, .int .i64 C.rows, .int .i64 C.width, .int .i64 C.mode, .int .u64 C.seed]) ∧ Ext w w' := by
  have hlt := h.lts
  obtain ⟨cap, hex, _⟩ := h.ex
  have c0 := (cell_of hex 0).trans rfl
  have c1 := (cell_of hex 1).trans rfl
  have c2 := (cell_of hex 2).trans rfl
  have c3 := (cell_of hex 3).trans rfl
  have c4 := (cell_of hex 4).trans rfl
  clear h hex
  go_enter Tryz.func31, Tryz.ntmps31
  go_wp2
  exact bodyPost_ret (v := .agg #[.int .i64 C.bits, .int .i64 C.rows, .int .i64 C.width, .int .i64 C.mode, .int .u64 C.seed]) (by simp [results, Tryz.results31, go_sem]) rfl ⟨rfl, by (repeat' (first | exact Ext.refl _ | assumption | apply Ext.allocR | apply Ext.drewR | apply Ext.drewNR | (refine Ext.trans' ?_ (by assumption))))⟩
set_option maxRecDepth 20000 in
theorem level_yes (s g : Nat) (C : Cfg) (B : Nat) (L : Nat → Lev) (ls : Nat → List Int) (w : World) (h : KAt w s g C B L ls) (n : Nat) (hn : n ≤ B) :
    Calls Tryz.prog 86 #[.pointer (some ⟨s, 0, none⟩), .int .i64 n] w fun e w' => e = .returned (.tuple #[lvV C n (L n), .bool true]) ∧ w = w' := by
  have hlt := h.lts
  have hlg := h.ltg
  obtain ⟨cap, hex, hcap⟩ := h.ex
  have c5 := (cell_of hex 5).trans rfl
  have cn := h.cell hn
  have hbt := h.ok.b2
  have hB := h.hB
  generalize lvV C n (L n) = v at *
  clear h hex
  go_enter Tryz.func86, Tryz.ntmps86
  go_wp2
  go_ret2
  exact ⟨rfl, rfl⟩
set_option maxRecDepth 20000 in
theorem level_no (s g : Nat) (C : Cfg) (B : Nat) (L : Nat → Lev) (ls : Nat → List Int) (w : World) (h : KAt w s g C B L ls) (n : Int) (hn : n < 0 ∨ (B : Int) < n) :
    Calls Tryz.prog 86 #[.pointer (some ⟨s, 0, none⟩), .int .i64 n] w fun e w' => e = .returned (.tuple #[.nilIface, .bool false]) ∧ w = w' := by
  have hlt := h.lts
  have hlg := h.ltg
  obtain ⟨cap, hex, hcap⟩ := h.ex
  have c5 := (cell_of hex 5).trans rfl
  have hbt := h.ok.b2
  have hB := h.hB
  clear h hex
  rcases hn with hn | hn
  · go_enter Tryz.func86, Tryz.ntmps86
    go_wp2
    go_ret2
    exact ⟨rfl, rfl⟩
  · by_cases h0 : n < 0
    · go_enter Tryz.func86, Tryz.ntmps86
      go_wp2
      go_ret2
      exact ⟨rfl, rfl⟩
    · have hge : decide ((B : Int) + 1 ≤ n) = true := by simp; omega
      go_enter Tryz.func86, Tryz.ntmps86
      go_wp2
      go_ret2
      exact ⟨rfl, rfl⟩
set_option maxRecDepth 20000 in
theorem KCells_c (s g : Nat) (C : Cfg) (B : Nat) (L : Nat → Lev) (ls : Nat → List Int) (w : World) (h : KAt w s g C B L ls) (n : Nat) (hn : n ≤ B) :
    Calls Tryz.prog 23 #[.pointer (some ⟨s, 0, none⟩), .int .i64 n] w fun e w' => ∃ v, e = .returned v ∧ w'.ownsRow w.heap.size 2 1 v (ls n).length (ints (ls n)) ∧ (v = .slice none 0 0 → False) ∧ Ext w w' := by
  cases hx : isX C n with
  | true =>
    have hA := (h.lev n hn).x hx
    have HX := Lib.hid hx
    clear hx
    go_enter Tryz.func23, Tryz.ntmps23
    go_wp2_with fail
    refine (level_yes s g C B L ls w h n hn).mono ?_
    rintro e w1 ⟨rfl, rfl⟩
    rw [lvV_x HX.out]
    go_wp2_with fail
    refine (ECells_c _ _ _ C _ _ _ _ hA).mono ?_
    rintro e w1 ⟨v, rfl, h1, h2, h3⟩
    go_wp2
    go_ret
    exact ⟨v, rfl, h1, h2, h3⟩
  | false =>
    have hA := (h.lev n hn).sk hx
    have HX := Lib.hid hx
    clear hx
    go_enter Tryz.func23, Tryz.ntmps23
    go_wp2_with fail
    refine (level_yes s g C B L ls w h n hn).mono ?_
    rintro e w1 ⟨rfl, rfl⟩
    rw [lvV_s HX.out]
    go_wp2_with fail
    refine (SCells_c _ _ _ C _ _ _ _ _ hA).mono ?_
    rintro e w1 ⟨v, rfl, h1, h2, h3⟩
    go_wp2
    go_ret
    exact ⟨v, rfl, h1, h2, h3⟩
set_option maxRecDepth 20000 in
theorem KCells_no (s g : Nat) (C : Cfg) (B : Nat) (L : Nat → Lev) (ls : Nat → List Int) (w : World) (h : KAt w s g C B L ls) (n : Int) (hn : n < 0 ∨ (B : Int) < n) :
    Calls Tryz.prog 23 #[.pointer (some ⟨s, 0, none⟩), .int .i64 n] w fun e w' => e = .returned (.slice none 0 0) ∧ w = w' := by
  go_enter Tryz.func23, Tryz.ntmps23
  go_wp2_with fail
  refine (level_no s g C B L ls w h n hn).mono ?_
  rintro e w1 ⟨rfl, rfl⟩
  go_wp2
  go_ret
  exact ⟨rfl, rfl⟩
/-- What Point tells of a level. -/
def lvPt (C : Cfg) (lv : Int) (l : List Int) (key x : Int) : Prop :=
  (isX C lv = true ∧ x = l.getD key.toNat 0) ∨ (isX C lv = false ∧ IsKth (readL (wN C) l (cols C lv key)) (if C.mode = 3 then (rN C - 1) / 2 else 0) x)
theorem lvPt_unique {C : Cfg} {lv : Int} {l : List Int} {key x y : Int} (h : lvPt C lv l key x) (h' : lvPt C lv l key y) : x = y := by
  rcases h with ⟨h1, h2⟩ | ⟨h1, h2⟩ <;> rcases h' with ⟨h3, h4⟩ | ⟨h3, h4⟩
  · rw [h2, h4]
  · rw [h1] at h3; cases h3
  · rw [h1] at h3; cases h3
  · exact kth_unique h2 h4
def KPointPost (w : World) (C : Cfg) (ls : Nat → List Int) (n : Nat) (key : Int) (e : Ending) (w' : World) : Prop :=
  ∃ x, e = .returned (.tuple #[.int .i64 x, .int .i64 0]) ∧ lvPt C n (ls n) key x ∧ Ext w w'
set_option maxRecDepth 20000 in
theorem KPoint_c (s g : Nat) (C : Cfg) (B : Nat) (L : Nat → Lev) (ls : Nat → List Int) (w : World) (h : KAt w s g C B L ls) (n : Nat) (hn : n ≤ B) (key : Int) (hk0 : 0 ≤ key) (hk1 : key < keys C n) :
    Calls Tryz.prog 18 #[.pointer (some ⟨s, 0, none⟩), .agg #[.int .i64 n, .int .u64 key]] w (KPointPost w C ls n key) := by
  cases hx : isX C n with
  | true =>
    have HX := Lib.hid hx
    clear hx
    go_enter Tryz.func18, Tryz.ntmps18
    go_wp2_with fail
    refine (level_yes s g C B L ls _ (h.ext (Ext.alloc' _ _)) n hn).mono ?_
    rintro e w1 ⟨rfl, rfl⟩
    have hA := ((h.ext (Ext.alloc' _ (.cells #[.int .i64 n, .int .u64 key] 39))).lev n hn).x HX.out
    rw [lvV_x HX.out]
    go_wp2_with fail
    refine (EPoint_c _ _ _ C _ _ _ key _ hA hk0 hk1).mono ?_
    rintro e w1 ⟨rfl, rfl⟩
    go_wp2
    go_ret2
    exact ⟨_, rfl, .inl ⟨HX.out, rfl⟩, Ext.alloc' _ _⟩
  | false =>
    have HX := Lib.hid hx
    clear hx
    go_enter Tryz.func18, Tryz.ntmps18
    go_wp2_with fail
    refine (level_yes s g C B L ls _ (h.ext (Ext.alloc' _ _)) n hn).mono ?_
    rintro e w1 ⟨rfl, rfl⟩
    have hA := ((h.ext (Ext.alloc' _ (.cells #[.int .i64 n, .int .u64 key] 39))).lev n hn).sk HX.out
    rw [lvV_s HX.out]
    go_wp2_with fail
    refine (Point_c _ _ _ C _ _ _ _ key _ hA hk0 hk1).mono ?_
    rintro e w1 ⟨x, rfl, hk, hx1⟩
    go_wp2
    go_ret2
    exact ⟨x, rfl, .inr ⟨HX.out, hk⟩, (Ext.alloc' _ _).trans' hx1⟩
set_option maxRecDepth 20000 in
theorem KPoint_lv (s g : Nat) (C : Cfg) (B : Nat) (L : Nat → Lev) (ls : Nat → List Int) (w : World) (h : KAt w s g C B L ls) (n : Int) (hn : n < 0 ∨ (B : Int) < n) (key : Int) :
    Calls Tryz.prog 18 #[.pointer (some ⟨s, 0, none⟩), .agg #[.int .i64 n, .int .u64 key]] w fun e w' => e = .returned (.tuple #[.int .i64 0, .int .i64 2]) ∧ Ext w w' := by
  go_enter Tryz.func18, Tryz.ntmps18
  go_wp2_with fail
  refine (level_no s g C B L ls _ (h.ext (Ext.alloc' _ _)) n hn).mono ?_
  rintro e w1 ⟨rfl, rfl⟩
  go_wp2
  go_ret2
  exact ⟨rfl, Ext.alloc' _ _⟩
def KTotalPost (w : World) (C : Cfg) (B : Nat) (ls : Nat → List Int) (e : Ending) (w' : World) : Prop :=
  ∃ x, e = .returned (.int .i64 x) ∧ lvPt C B (ls B) 0 x ∧ Ext w w'
theorem keys_top {C : Cfg} {B : Nat} (hB : C.bits = B) : keys C B = 1 := by unfold keys; rw [hB]; simp
theorem isX_top {C : Cfg} (h : C.Ok) {B : Nat} (hB : C.bits = B) : isX C B = true := by
  unfold isX; rw [keys_top hB]; have := h.w1; simpa using this
set_option maxRecDepth 20000 in
theorem KTotal_c (s g : Nat) (C : Cfg) (B : Nat) (L : Nat → Lev) (ls : Nat → List Int) (w : World) (h : KAt w s g C B L ls) :
    Calls Tryz.prog 28 #[.pointer (some ⟨s, 0, none⟩)] w fun e w' => e = .returned (.int .i64 ((ls B).getD 0 0)) ∧ Ext w w' := by
  have hlt := h.lts
  have hlg := h.ltg
  obtain ⟨cap, hex, hcap⟩ := h.ex
  have c0 := (cell_of hex 0).trans (show _ = some (Value.int .i64 (B : Int)) by rw [← h.hB]; rfl)
  have c5 := (cell_of hex 5).trans rfl
  have cn := (h.cell (Nat.le_refl B)).trans (by rw [lvV_x (isX_top h.ok h.hB)])
  have hb2 : B ≤ 59 := by have := h.ok.b2; have := h.hB; omega
  have hA := ((h.lev B (Nat.le_refl B)).x (isX_top h.ok h.hB)).ext (Below.drew (Ext.refl w))
  have hk := keys_top h.hB
  clear h hex
  go_enter Tryz.func28, Tryz.ntmps28
  go_wp2
  have hC0 := af_drew w
  refine pi_start (fun w' => ∃ x : After w, w' = x.w) [] (by kernel_rfl) ?_
  refine pi_t 0 rfl (by kernel_rfl) (by kernel_rfl) (fun _ _ _ _ h => h) (fun K hK => ?_)
  go_big_quiet_op
  refine hK _ ?_
  clear hK K
  refine pi_t 1 rfl (by kernel_rfl) (by kernel_rfl) (fun _ _ _ _ h => h) (fun K hK => ?_)
  go_big_quiet_op
  refine hK _ ?_
  clear hK K
  refine pi_t 2 rfl (by kernel_rfl) (by kernel_rfl) (fun _ _ _ _ h => h) (fun K hK => ?_)
  go_big_quiet_op
  refine hK _ ?_
  clear hK K
  refine pi_t 4 rfl (by kernel_rfl) (by kernel_rfl) (fun _ _ _ _ h => h) (fun K hK => ?_)
  go_big_quiet_op
  refine hK _ ?_
  clear hK K
  refine pi_t 5 rfl (by kernel_rfl) (by kernel_rfl) (fun _ _ _ _ h => h) (fun K hK => ?_)
  go_big_quiet_op
  refine hK _ ?_
  clear hK K
  refine pi_t 6 rfl (by kernel_rfl) (by kernel_rfl) (fun _ _ _ _ h => h) (fun K hK => ?_)
  go_big_quiet_op
  refine hK _ ?_
  clear hK K
  refine pi_t 7 rfl (by kernel_rfl) (by kernel_rfl) (fun _ _ _ _ h => h) (fun K hK => ?_)
  go_big_quiet_op
  refine hK _ ?_
  clear hK K
  refine pi_c 3 (by assumption) rfl (by kernel_rfl) (by kernel_rfl) (fun _ _ _ _ h => h) (fun K hK => ?_)
  go_big_quiet_op
  refine hK _ ?_
  clear hK K
  refine pi_c 8 (by assumption) rfl (by kernel_rfl) (by kernel_rfl) (fun _ _ _ _ h => h) (fun K hK => ?_)
  go_big_quiet_op
  refine hK _ ?_
  clear hK K
  refine pi_t 9 rfl (by kernel_rfl) (by kernel_rfl) (fun _ _ _ _ h => h) (fun K hK => ?_)
  go_big_quiet_op
  refine hK _ ?_
  clear hK K
  refine pi_c 10 (by assumption) rfl (by kernel_rfl) (by kernel_rfl) (fun _ _ _ _ h => h) (fun K hK => ?_)
  go_big_quiet_op
  refine hK _ ?_
  clear hK K
  refine pi_l 11 rfl (by kernel_rfl) (fun K hK => ?_)
  go_wp2_with fail
  refine (EPoint_c _ _ _ C _ _ _ 0 _ hA (by decide) (by rw [hk]; decide)).mono ?_
  rintro e w1 ⟨rfl, rfl⟩
  go_wp2
  refine hK _ _ (fun _ h => h) ?_
  clear hK K
  refine pi_t 12 rfl (by kernel_rfl) (by kernel_rfl) (fun _ _ _ _ h => h) (fun K hK => ?_)
  go_big_quiet_op
  refine hK _ ?_
  clear hK K
  refine pi_t 13 rfl (by kernel_rfl) (by kernel_rfl) (fun _ _ _ _ h => h) (fun K hK => ?_)
  go_big_quiet_op
  refine hK _ ?_
  clear hK K
  refine pi_t 14 rfl (by kernel_rfl) (by kernel_rfl) (fun _ _ _ _ h => h) (fun K hK => ?_)
  go_big_quiet_op
  refine hK _ ?_
  clear hK K
  refine pi_t 15 rfl (by kernel_rfl) (by kernel_rfl) (fun _ _ _ _ h => h) (fun K hK => ?_)
  go_big_quiet_op
  refine hK _ ?_
  clear hK K
  refine pi_t 16 rfl (by kernel_rfl) (by kernel_rfl) (fun _ _ _ _ h => h) (fun K hK => ?_)
  go_big_quiet_op
  refine hK _ ?_
  clear hK K
  refine pi_end (by kernel_rfl) ?_
  go_wp2
  go_ret
  exact ⟨rfl, Below.drew (Ext.refl w)⟩
end Go.Proofs.YtfhdjekpdifajaaGreat

/- Plain law: the least of what is read in a key's columns. -/
namespace Go.Proofs.YtfhdjekpdifajaaGreat
set_option linter.unusedVariables false

theorem kth0_spec {l : List Int} {x : Int} (h : IsKth l 0 x) : x ∈ l ∧ ∀ y ∈ l, x ≤ y := by
  have hx : x ∈ l := sameN_pos (by have := h.1; have := h.2; omega)
  have hm := kth0_min h
  have hs := minL_spec l (by intro e; rw [e] at hx; cases hx)
  rw [hm] at hs
  exact hs
theorem least_of {own : Int} {f : Nat → Int} {R : Nat} {n : Int} (h : IsKth ((List.range R).map fun r => own + f r) 0 n) : n = own + leastF f R := by
  obtain ⟨h1, h2⟩ := kth0_spec h
  simp only [List.mem_map, List.mem_range] at h1 h2
  obtain ⟨r, hr, rfl⟩ := h1
  obtain ⟨j, hj, hj'⟩ := leastF_mem f R (by omega)
  have a1 := (leastF_le f R).2 r hr
  have a2 := h2 (own + f j) ⟨j, hj, rfl⟩
  omega
/-- No key of the first k updates has less than 0. -/
def plainK (C : Cfg) (LV : Int) (us : List (Int × Int)) (P : List (Int × Int)) (k : Nat) : Bool := (us.take k).all fun u => decide (0 ≤ hasP (cutK C LV u.1) P)
theorem plainK_zero (C : Cfg) (LV : Int) (us P : List (Int × Int)) : plainK C LV us P 0 = true := rfl
theorem plainK_succ (C : Cfg) (LV : Int) (us P : List (Int × Int)) {k : Nat} (hk : k < us.length) : plainK C LV us P (k + 1) = (plainK C LV us P k && decide (0 ≤ hasP (cutK C LV us[k].1) P)) := by
  unfold plainK
  rw [List.take_succ_eq_append_getElem hk, List.all_append]
  simp
theorem plainK_end (C : Cfg) (LV : Int) (us P : List (Int × Int)) {k : Nat} (h60 : k ≤ 60) (hk : k ≤ us.length) (he : ¬ (k < us.length ∧ k < 60)) : plainK C LV us P k = plainK C LV us P 60 := by
  unfold plainK
  by_cases h : k = 60
  · rw [h]
  · have : k = us.length := by omega
    rw [this, List.take_length, List.take_of_length_le (by omega)]
theorem least_nn {C : Cfg} {LV key : Int} {us : List (Int × Int)} {R : Nat} (hR : 0 < R) (h : plainK C LV us (cutP C LV (fus us 0 60)) 60 = true) : 0 ≤ leastF (fun r => othP C LV key r (cutP C LV (fus us 0 60))) R := by
  obtain ⟨r, _, hr⟩ := leastF_mem (fun r => othP C LV key r (cutP C LV (fus us 0 60))) R hR
  rw [hr]
  refine oth_nn (fun u hu => ?_)
  simp only [cutP, List.mem_map] at hu
  obtain ⟨v, hv, rfl⟩ := hu
  unfold plainK at h
  rw [List.all_eq_true] at h
  have := h v (by unfold fus at hv; simpa using hv)
  simpa using this
theorem leastF_bd (f : Nat → Int) (B : Int) (hf : ∀ r, -B ≤ f r ∧ f r ≤ B) (k : Nat) : -B ≤ leastF f k ∧ leastF f k ≤ B := by
  induction k with
  | zero => exact hf 0
  | succ k ih =>
    rw [leastF_succ]
    have := hf k
    omega
end Go.Proofs.YtfhdjekpdifajaaGreat

/- Plain laws: conservative cells lie between what a key has and the sums. -/
namespace Go.Proofs.YtfhdjekpdifajaaGreat
set_option linter.unusedVariables false

/-- The same config in the mode Linear. -/
def lin (C : Cfg) : Cfg := { C with mode := 1 }
theorem cons_cell {C : Cfg} {lv : Int} {R W : Nat} (hok : C.Ok) (hr : C.rows = R) (hw : C.width = W) (hm : C.mode = 2) {l : List Int} (hl : l.length = R * W) (key d : Int) {r a : Nat} (hrr : r < R) (ha : a < W) :
    (updL C lv R W l key d).getD (r * W + a) 0 = if (cols C lv key).getD r 0 = (a : Int) then max (l.getD (r * W + a) 0) (minL (readL W l (cols C lv key)) + d) else l.getD (r * W + a) 0 := by
  have hme := cols_meets C hok lv key hr hw
  unfold updL
  rw [decide_eq_true hm]
  show (putK W _ _ R _).getD _ 0 = _
  rw [putK_get hme hl hrr ha R (Nat.le_refl _)]
  by_cases he : (cols C lv key).getD r 0 = (a : Int)
  · rw [if_pos ⟨hrr, he⟩, if_pos he]
    have hat : at_ W (cols C lv key) r = r * W + a := by unfold at_; omega
    rw [hat]
  · rw [if_neg (fun h => he h.2), if_neg he]
theorem updL_len' (C : Cfg) (lv : Int) (R W : Nat) (l : List Int) (key d : Int) : (updL C lv R W l key d).length = l.length := by
  unfold updL
  cases decide (C.mode = 2) <;> exact putK_len _ _ _ _ _
theorem min_read {C : Cfg} {lv : Int} {R W : Nat} (hok : C.Ok) (hr : C.rows = R) (hw : C.width = W) (l : List Int) (key : Int) :
    (∃ r, r < R ∧ minL (readL W l (cols C lv key)) = l.getD (at_ W (cols C lv key) r) 0) ∧ ∀ r, r < R → minL (readL W l (cols C lv key)) ≤ l.getD (at_ W (cols C lv key) r) 0 := by
  have hme := cols_meets C hok lv key hr hw
  have hR : 0 < R := by have := hok.r1; omega
  have hlen : (readL W l (cols C lv key)).length = R := by rw [readL_len, hme.len]
  have hs := minL_spec (readL W l (cols C lv key)) (by intro e; rw [e] at hlen; simp at hlen; omega)
  constructor
  · have := hs.1
    simp only [readL, List.mem_map, List.mem_range] at this
    obtain ⟨j, hj, he⟩ := this
    rw [hme.len] at hj
    exact ⟨j, hj, he.symm⟩
  · intro r hrr
    refine hs.2 _ ?_
    simp only [readL, List.mem_map, List.mem_range]
    exact ⟨r, by rw [hme.len]; exact hrr, rfl⟩
theorem at_col {C : Cfg} {lv : Int} {R W : Nat} (hok : C.Ok) (hr : C.rows = R) (hw : C.width = W) (key : Int) {r : Nat} (hrr : r < R) :
    ∃ a, a < W ∧ at_ W (cols C lv key) r = r * W + a ∧ (cols C lv key).getD r 0 = (a : Int) := by
  have hme := cols_meets C hok lv key hr hw
  have h0 := hme.lo r hrr
  have h1 := hme.hi r hrr
  exact ⟨((cols C lv key).getD r 0).toNat, by omega, rfl, by omega⟩
theorem feed_len' (C : Cfg) (lv : Int) (R W : Nat) (us : List (Int × Int)) : (feed C lv R W us (zs (R * W))).length = R * W := by rw [feed_len, zs_len]
theorem zs_get0 (n i : Nat) : (zs n).getD i 0 = 0 := by
  unfold zs
  rw [List.getD_eq_getElem?_getD]
  rcases Nat.lt_or_ge i n with h | h
  · simp [h]
  · simp [h]
/-- Each cell of a key's columns holds not less than what it has. -/
theorem cons_low (C : Cfg) (hok : C.Ok) (lv : Int) (R W : Nat) (hr : C.rows = R) (hw : C.width = W) (hm : C.mode = 2) (us : List (Int × Int)) (key : Int) :
    ∀ r, r < R → hasP key (cutP C lv us) ≤ (feed C lv R W us (zs (R * W))).getD (at_ W (cols C lv key) r) 0 := by
  refine snoc_ind (P := fun us => ∀ r, r < R → hasP key (cutP C lv us) ≤ (feed C lv R W us (zs (R * W))).getD (at_ W (cols C lv key) r) 0) ?_ ?_ us
  · intro r hrr
    show (0 : Int) ≤ (zs (R * W)).getD _ 0
    rw [zs_get0]; exact Int.le_refl _
  · intro us u ih r hrr
    obtain ⟨a, ha, hat, hc⟩ := at_col (lv := lv) hok hr hw key hrr
    have ih' := ih r hrr
    rw [feed_snoc, cutP_snoc, hat]
    rw [hat] at ih'
    unfold hasP at ih' ⊢
    rw [sumIf_snoc]
    rw [cons_cell hok hr hw hm (feed_len' C lv R W us) _ _ hrr ha]
    obtain ⟨⟨j, hj, hj'⟩, _⟩ := min_read (lv := lv) hok hr hw (feed C lv R W us (zs (R * W))) (cutK C lv u.1)
    by_cases hk : cutK C lv u.1 = key
    · have ihj := ih j hj
      unfold hasP at ihj
      rw [hk] at hj' ⊢
      rw [if_pos hc, hj']
      simp only [BEq.rfl, cond_true]
      omega
    · have hb : (cutK C lv u.1 == key) = false := by simpa using hk
      simp only [hb, cond_false]
      by_cases he : (cols C lv (cutK C lv u.1)).getD r 0 = (a : Int)
      · rw [if_pos he]; omega
      · rw [if_neg he]; omega
/-- No cell holds more than the sum. -/
theorem cons_high (C : Cfg) (hok : C.Ok) (lv : Int) (R W : Nat) (hr : C.rows = R) (hw : C.width = W) (hm : C.mode = 2) (us : List (Int × Int)) :
    ∀ r a, r < R → a < W → (feed C lv R W us (zs (R * W))).getD (r * W + a) 0 ≤ sumIf (fun k => (cols C lv k).getD r 0 == (a : Int)) (cutP C lv us) := by
  refine snoc_ind (P := fun us => ∀ r a, r < R → a < W → (feed C lv R W us (zs (R * W))).getD (r * W + a) 0 ≤ sumIf (fun k => (cols C lv k).getD r 0 == (a : Int)) (cutP C lv us)) ?_ ?_ us
  · intro r a hrr ha
    show (zs (R * W)).getD _ 0 ≤ (0 : Int)
    rw [zs_get0]; exact Int.le_refl _
  · intro us u ih r a hrr ha
    have ih' := ih r a hrr ha
    rw [feed_snoc, cutP_snoc, sumIf_snoc, cons_cell hok hr hw hm (feed_len' C lv R W us) _ _ hrr ha]
    have hd := cutD_nn (d := u.2) hm
    by_cases he : (cols C lv (cutK C lv u.1)).getD r 0 = (a : Int)
    · have hb : ((cols C lv (cutK C lv u.1)).getD r 0 == (a : Int)) = true := by simpa using he
      have hmn := (min_read (lv := lv) hok hr hw (feed C lv R W us (zs (R * W))) (cutK C lv u.1)).2 r hrr
      have hat : at_ W (cols C lv (cutK C lv u.1)) r = r * W + a := by unfold at_; omega
      rw [hat] at hmn
      rw [if_pos he]
      simp only [hb, cond_true]
      omega
    · have hb : ((cols C lv (cutK C lv u.1)).getD r 0 == (a : Int)) = false := by simpa using he
      rw [if_neg he]
      simp only [hb, cond_false]
      omega
theorem cols_lin (C : Cfg) (lv key : Int) : cols (lin C) lv key = cols C lv key := rfl
theorem keys_lin (C : Cfg) (lv : Int) : keys (lin C) lv = keys C lv := rfl
theorem lin_ok {C : Cfg} (h : C.Ok) : (lin C).Ok := by
  obtain ⟨a1, a2, a3, a4, a5, a6, a7, a8, a9⟩ := h
  exact ⟨a1, a2, a3, a4, a5, a6, show (1:Int) ≤ 1 by decide, show (1:Int) ≤ 3 by decide, a9⟩
theorem fcfg_lin (x : Cfg) : fcfg x 1 = lin (fcfg x 2) := rfl
/-- Cut once more, cut updates are as they are. -/
theorem cutP_lin (C : Cfg) (hok : C.Ok) (lv : Int) (h0 : 0 ≤ lv) (us : List (Int × Int)) : cutP (lin C) lv (cutP C lv us) = cutP C lv us := by
  unfold cutP
  rw [List.map_map]
  apply List.map_congr_left
  intro u _
  have hk := cutK_bd C hok lv u.1 h0
  have hd := cutD_bd C.mode u.2
  show (cutK (lin C) lv (cutK C lv u.1), cutD 1 (cutD C.mode u.2)) = _
  have e1 : cutK (lin C) lv (cutK C lv u.1) = cutK C lv u.1 := Int.emod_eq_of_lt hk.1 hk.2
  have e2 : cutD 1 (cutD C.mode u.2) = cutD C.mode u.2 := by
    generalize cutD C.mode u.2 = d at *
    show d.tmod 1099511627776 = d
    rcases Int.le_total 0 d with h | h
    · exact Int.tmod_eq_of_lt h (by omega)
    · have := Int.neg_tmod (-d) 1099511627776
      rw [Int.neg_neg] at this
      rw [this, Int.tmod_eq_of_lt (by omega) (by omega), Int.neg_neg]
  rw [e1, e2]
theorem fus_full (ps : List (Int × Int)) (h : ps.length ≤ 60) : fus ps 0 60 = ps := by
  unfold fus
  rw [List.drop_zero, List.take_of_length_le h]
theorem bounds_law {C : Cfg} (hok : C.Ok) {lv : Int} (h0 : 0 ≤ lv) {R W : Nat} (hr : C.rows = R) (hw : C.width = W) (hm : C.mode = 2) (us : List (Int × Int)) {k : Nat} (hk : k ≤ 60) (key a b : Int)
    (ha : IsKth (readL W (plusL (feed C lv R W (fus us 0 k) (zs (R * W))) (feed C lv R W (fus us k 60) (zs (R * W)))) (cols C lv key)) 0 a)
    (hb : IsKth (readL W (feed (lin C) lv R W (fus (cutP C lv (fus us 0 60)) 0 60) (zs (R * W))) (cols (lin C) lv key)) 0 b) :
    hasP key (cutP C lv (fus us 0 60)) ≤ a ∧ a ≤ b := by
  have hme := cols_meets C hok lv key hr hw
  rw [fus_full _ (by rw [cutP_len]; exact fus_len us 0 60), cols_lin] at hb
  obtain ⟨a1, a2⟩ := kth0_spec ha
  obtain ⟨b1, _⟩ := kth0_spec hb
  have hpl : ∀ r, r < R → ∃ q, q < W ∧ at_ W (cols C lv key) r = r * W + q ∧ (plusL (feed C lv R W (fus us 0 k) (zs (R * W))) (feed C lv R W (fus us k 60) (zs (R * W)))).getD (r * W + q) 0 = (feed C lv R W (fus us 0 k) (zs (R * W))).getD (r * W + q) 0 + (feed C lv R W (fus us k 60) (zs (R * W))).getD (r * W + q) 0 := by
    intro r hrr
    obtain ⟨q, hq, hat, _⟩ := at_col (lv := lv) hok hr hw key hrr
    exact ⟨q, hq, hat, plusL_get (by rw [feed_len']; exact idx_lt hrr hq)⟩
  simp only [readL, List.mem_map, List.mem_range, hme.len] at a1 a2 b1
  constructor
  · obtain ⟨r, hrr, rfl⟩ := a1
    obtain ⟨q, hq, hat, hp⟩ := hpl r hrr
    have l1 := cons_low C hok lv R W hr hw hm (fus us 0 k) key r hrr
    have l2 := cons_low C hok lv R W hr hw hm (fus us k 60) key r hrr
    rw [hat] at l1 l2 ⊢
    rw [hp, ← fus_cat us hk, cutP_append]
    unfold hasP at *
    rw [sumIf_append]
    omega
  · obtain ⟨r, hrr, rfl⟩ := b1
    obtain ⟨q, hq, hat, hp⟩ := hpl r hrr
    have hle := a2 _ ⟨r, hrr, rfl⟩
    have u1 := cons_high C hok lv R W hr hw hm (fus us 0 k) r q hrr hq
    have u2 := cons_high C hok lv R W hr hw hm (fus us k 60) r q hrr hq
    have fc := feed_cell (lin C) (lin_ok hok) lv R W hr hw (show (1:Int) ≠ 2 by decide) (cutP C lv (fus us 0 60)) hrr hq
    rw [cutP_lin C hok lv h0, ← fus_cat us hk, cutP_append, sumIf_append] at fc
    rw [hat] at hle ⊢
    rw [hp] at hle
    rw [← fus_cat us hk, cutP_append, fc]
    have e : ∀ r, (fun k => (cols (lin C) lv k).getD r 0 == (q : Int)) = (fun k => (cols C lv k).getD r 0 == (q : Int)) := fun _ => rfl
    rw [e]
    omega
end Go.Proofs.YtfhdjekpdifajaaGreat

/- Plain law: what an update makes of all levels of a stack. -/
namespace Go.Proofs.YtfhdjekpdifajaaGreat
set_option linter.unusedVariables false
open Go.RowKit

/-- What a key is at a level. -/
def sh (n : Nat) (key : Int) : Int := key / 2 ^ n
def lvE (C : Cfg) (lv : Int) (l : List Int) (key d : Int) : Int := bif isX C lv then errX C lv l key d else errU C lv (rN C) (wN C) l key d
def lvU (C : Cfg) (lv : Int) (l : List Int) (key d : Int) : List Int := bif isX C lv then updX l key d else updL C lv (rN C) (wN C) l key d
theorem lvE_x {C : Cfg} {lv : Int} (h : isX C lv = true) (l : List Int) (key d : Int) : lvE C lv l key d = errX C lv l key d := by unfold lvE; rw [h]; rfl
theorem lvE_s {C : Cfg} {lv : Int} (h : isX C lv = false) (l : List Int) (key d : Int) : lvE C lv l key d = errU C lv (rN C) (wN C) l key d := by unfold lvE; rw [h]; rfl
theorem lvU_x {C : Cfg} {lv : Int} (h : isX C lv = true) (l : List Int) (key d : Int) : lvU C lv l key d = updX l key d := by unfold lvU; rw [h]; rfl
theorem lvU_s {C : Cfg} {lv : Int} (h : isX C lv = false) (l : List Int) (key d : Int) : lvU C lv l key d = updL C lv (rN C) (wN C) l key d := by unfold lvU; rw [h]; rfl
def fst_ (a b : Int) : Int := bif decide (a = 0) then b else a
/-- What the first levels say of an update. -/
def errs (C : Cfg) (ls : Nat → List Int) (key d : Int) : Nat → Int
  | 0 => 0
  | n + 1 => fst_ (errs C ls key d n) (lvE C n (ls n) (sh n key) d)
def errK (C : Cfg) (B : Nat) (ls : Nat → List Int) (key d : Int) : Int := bif decide (keys C 0 ≤ key) then 2 else errs C ls key d (B + 1)
def updK (C : Cfg) (ls : Nat → List Int) (key d : Int) (n : Nat) : List Int := lvU C n (ls n) (sh n key) d
theorem errs_zero {C : Cfg} {ls : Nat → List Int} {key d : Int} {m : Nat} : errs C ls key d m = 0 ↔ ∀ n, n < m → lvE C n (ls n) (sh n key) d = 0 := by
  induction m with
  | zero => simp [errs]
  | succ m ih =>
    unfold errs fst_
    by_cases h : errs C ls key d m = 0
    · rw [decide_eq_true h]
      constructor
      · intro e n hn
        rcases Nat.lt_or_ge n m with h' | h'
        · exact ih.1 h n h'
        · obtain rfl : n = m := by omega
          exact e
      · intro e; exact e m (by omega)
    · rw [decide_eq_false h]
      constructor
      · intro e; exact absurd e h
      · intro e; exact absurd (ih.2 fun n hn => e n (by omega)) h
theorem errK_zero {C : Cfg} {B : Nat} {ls : Nat → List Int} {key d : Int} : errK C B ls key d = 0 ↔ key < keys C 0 ∧ ∀ n, n ≤ B → lvE C n (ls n) (sh n key) d = 0 := by
  unfold errK
  by_cases h : keys C 0 ≤ key
  · rw [decide_eq_true h]
    constructor
    · intro e; exact absurd (show (2 : Int) = 0 from e) (by decide)
    · rintro ⟨h1, _⟩; omega
  · rw [decide_eq_false h]
    constructor
    · intro e; exact ⟨by omega, fun n hn => errs_zero.1 e n (by omega)⟩
    · rintro ⟨_, e⟩; exact errs_zero.2 fun n hn => e n (by omega)
theorem sh_nn {key : Int} (h : 0 ≤ key) (n : Nat) : 0 ≤ sh n key := Int.ediv_nonneg h (Int.le_of_lt (Int.pow_pos (by decide)))
theorem sh_u64 {key : Int} (h : U64 key) (n : Nat) : U64 (sh n key) := by
  refine ⟨sh_nn h.1 n, ?_⟩
  have h2 := h.2
  refine Int.lt_of_le_of_lt ?_ h2
  exact Int.ediv_le_self _ h.1
theorem cutK_sh {C : Cfg} (hok : C.Ok) {n : Nat} (hn : (n : Int) ≤ C.bits) {key : Int} (h : 0 ≤ key) : cutK C n (key / 2 ^ n) = sh n (cutK C 0 key) := by
  have hb := hok.b1
  unfold cutK sh keys
  obtain ⟨B, hB⟩ : ∃ B : Nat, C.bits = B := ⟨C.bits.toNat, by omega⟩
  obtain ⟨m, rfl⟩ : ∃ m, B = n + m := ⟨B - n, by omega⟩
  obtain ⟨k, rfl⟩ : ∃ k : Nat, key = k := ⟨key.toNat, by omega⟩
  rw [hB, show (((n + m : Nat) : Int) - (n : Int)).toNat = m by omega, show (((n + m : Nat) : Int) - 0).toNat = n + m by omega]
  have : k / 2 ^ n % 2 ^ m = k % 2 ^ (n + m) / 2 ^ n := by
    rw [Nat.pow_add, Nat.mod_mul_right_div_self]
  exact_mod_cast this
/-- The same updates, told of what keys are at a level. -/
def shU (n : Nat) (us : List (Int × Int)) : List (Int × Int) := us.map fun u => (u.1 / 2 ^ n, u.2)
/-- The pairs that a level is told. -/
def stP (C : Cfg) (n : Nat) (us : List (Int × Int)) : List (Int × Int) := us.map fun u => (sh n (cutK C 0 u.1), cutD C.mode u.2)
theorem stP_cutP {C : Cfg} (hok : C.Ok) {n : Nat} (hn : (n : Int) ≤ C.bits) {us : List (Int × Int)} (hus : UpsOk us) : cutP C n (shU n us) = stP C n us := by
  unfold cutP shU stP
  rw [List.map_map]
  apply List.map_congr_left
  intro u hu
  show (cutK C n (u.1 / 2 ^ n), _) = _
  rw [cutK_sh hok hn (hus u hu).1.1]
theorem stP_snoc (C : Cfg) (n : Nat) (us : List (Int × Int)) (u : Int × Int) : stP C n (us ++ [u]) = stP C n us ++ [(sh n (cutK C 0 u.1), cutD C.mode u.2)] := by simp [stP]
/-- What a level has behind updates. -/
def feedK (C : Cfg) (us : List (Int × Int)) (n : Nat) : List Int := us.foldl (fun l u => lvU C n l (sh n (cutK C 0 u.1)) (cutD C.mode u.2)) (zs (lvN C n))
theorem feedK_nil (C : Cfg) (n : Nat) : feedK C [] n = zs (lvN C n) := rfl
theorem feedK_snoc (C : Cfg) (us : List (Int × Int)) (u : Int × Int) : feedK C (us ++ [u]) = updK C (feedK C us) (cutK C 0 u.1) (cutD C.mode u.2) := by
  funext n; unfold feedK updK; rw [List.foldl_append]; rfl
theorem lvU_len (C : Cfg) (lv : Int) (l : List Int) (key d : Int) : (lvU C lv l key d).length = l.length := by
  unfold lvU
  cases isX C lv
  · exact updL_len' _ _ _ _ _ _ _
  · show (updX l key d).length = _
    simp [updX]
theorem feedK_len (C : Cfg) (us : List (Int × Int)) (n : Nat) : (feedK C us n).length = lvN C n := by
  unfold feedK
  have : ∀ l : List Int, (us.foldl (fun l u => lvU C n l (sh n (cutK C 0 u.1)) (cutD C.mode u.2)) l).length = l.length := by
    induction us with
    | nil => intro l; rfl
    | cons u us ih => intro l; rw [List.foldl_cons, ih, lvU_len]
  rw [this, zs_len]
/-- A sketch's level is fed as a sketch is. -/
theorem feedK_s {C : Cfg} (hok : C.Ok) {n : Nat} (hn : (n : Int) ≤ C.bits) {us : List (Int × Int)} (hus : UpsOk us) (hx : isX C n = false) : feedK C us n = feed C n (rN C) (wN C) (shU n us) (zs (rN C * wN C)) := by
  unfold feedK feed shU
  rw [show lvN C n = rN C * wN C by unfold lvN; rw [hx]; rfl]
  have : ∀ l : List Int, us.foldl (fun l u => lvU C n l (sh n (cutK C 0 u.1)) (cutD C.mode u.2)) l = (us.map fun u => (u.1 / 2 ^ n, u.2)).foldl (fun l u => updL C n (rN C) (wN C) l (cutK C n u.1) (cutD C.mode u.2)) l := by
    induction us with
    | nil => intro l; rfl
    | cons u us ih =>
      intro l
      rw [List.foldl_cons, List.map_cons, List.foldl_cons, ih (fun v hv => hus v (by simp [hv]))]
      congr 1
      rw [lvU_s hx, cutK_sh hok hn (hus u (by simp)).1.1]
  exact this _
theorem updX_get {l : List Int} {key d : Int} (hk0 : 0 ≤ key) (hk : key < l.length) (j : Nat) : (updX l key d).getD j 0 = l.getD j 0 + bif key == (j : Int) then d else 0 := by
  unfold updX
  by_cases h : key = (j : Int)
  · subst h
    simp only [beq_self_eq_true, cond_true, Int.toNat_natCast]
    rw [List.getD_eq_getElem?_getD, List.getElem?_set_self (by omega)]
    rfl
  · have hb : (key == (j : Int)) = false := by simpa using h
    rw [hb, List.getD_eq_getElem?_getD, List.getElem?_set_ne (by omega), ← List.getD_eq_getElem?_getD]
    simp
theorem sh_lt {C : Cfg} (hok : C.Ok) {n : Nat} (hn : (n : Int) ≤ C.bits) {key : Int} (h0 : 0 ≤ key) (h : key < keys C 0) : sh n key < keys C n := by
  have hb := hok.b1
  unfold sh keys at *
  obtain ⟨B, hB⟩ : ∃ B : Nat, C.bits = B := ⟨C.bits.toNat, by omega⟩
  obtain ⟨m, rfl⟩ : ∃ m, B = n + m := ⟨B - n, by omega⟩
  rw [hB] at h ⊢
  rw [show (((n + m : Nat) : Int) - (n : Int)).toNat = m by omega]
  rw [show (((n + m : Nat) : Int) - 0).toNat = n + m by omega] at h
  apply Int.ediv_lt_of_lt_mul (Int.pow_pos (by decide))
  rw [← Int.pow_add, Nat.add_comm]; exact h
theorem kN_eq' {C : Cfg} (h : C.Ok) (n : Nat) : keys C n = (kN C n : Int) := kN_eq h (Int.natCast_nonneg n)
/-- An exact level tells what its keys have. -/
theorem feedK_x {C : Cfg} (hok : C.Ok) {n : Nat} (hn : (n : Int) ≤ C.bits) {us : List (Int × Int)} (hus : UpsOk us) (hx : isX C n = true) (j : Nat) : (feedK C us n).getD j 0 = hasP (j : Int) (stP C n us) := by
  refine snoc_ind (P := fun us => UpsOk us → (feedK C us n).getD j 0 = hasP (j : Int) (stP C n us)) ?_ ?_ us hus
  · intro _
    rw [feedK_nil]
    unfold zs hasP stP sumIf
    rw [List.getD_eq_getElem?_getD]
    rcases Nat.lt_or_ge j (lvN C n) with h | h <;> simp [h, lsum]
  · intro us u ih hus
    have hu := hus u (by simp)
    have ih' := ih (fun v hv => hus v (by simp [hv]))
    have hk := cutK_bd C hok 0 u.1 (Int.le_refl 0)
    have h1 := sh_lt hok hn hk.1 hk.2
    have hl : (feedK C us n).length = kN C n := by rw [feedK_len]; unfold lvN; rw [hx]; rfl
    rw [feedK_snoc, stP_snoc]
    unfold hasP at *
    rw [sumIf_snoc]
    unfold updK
    rw [lvU_x hx, updX_get (sh_nn hk.1 n) (by rw [hl, ← kN_eq' hok]; exact h1), ih']
end Go.Proofs.YtfhdjekpdifajaaGreat

/- A region whose order is open, in the round of a range over a function: walked as elsewhere. -/
namespace Go.Proofs.YtfhdjekpdifajaaGreat
set_option linter.unusedVariables false
open Go.RowKit
section
variable {P : Program} {ops : Array Oper} {md : Region.Mode} {Q : Exit → Act → World → Prop} {l n : Nat}
theorem rowsR {row : String} {args : Array Value} {w : World} {R : Value → World → Prop} (h : Rows P row args w R) : RowsIn (Fence.wide.inRound l) n P row args w R :=
  fun c cs _ => let ⟨v, w', r, s⟩ := h c cs; ⟨v, w', r, by rw [fenced_inRound]; exact stepsIn_wide.2 s⟩
theorem callsR {f : FuncId} {args : Array Value} {w : World} {R : Ending → World → Prop} (h : Calls P f args w R) : CallsIn (Fence.wide.inRound l) n P f args w R :=
  CallsIn.inRound l (callsIn_wide.2 h)
theorem operR {o : Oper} {a : Act} {w : World} {K : Act → World → Prop} (hd : ∀ c, o.op ≠ .defer c) (h : o.wp P a w K Q) : o.wpIn (Fence.wide.inRound l) n P a w K Q := by
  unfold Oper.wpIn
  refine ⟨fun _ _ => trivial, ?_⟩
  rw [show (Fence.wide.inRound l).round = some l from rfl, Oper.semAt_some l a.eval o hd]
  unfold Oper.wp at h
  generalize (execOp a.eval o).run P w = r at *
  cases r with
  | ok x w' =>
    cases x <;> simp only [Oper.upon, Oper.uponIn] at h ⊢ <;> first
      | exact h
      | exact ⟨fun hh => (by cases hh), callsR h⟩
      | exact ⟨fun hh => (by cases hh), rowsR h⟩
      | exact h.elim
  | halt x w' => cases x <;> simp only [Oper.upon, Oper.uponIn] at h ⊢ <;> exact h
def noDefer (l : List Oper) : Bool := l.all fun o => match o.op with | .defer _ => false | _ => true
theorem noDefer_spec {l : List Oper} (h : noDefer l = true) {i : Nat} {o : Oper} (ho : l.toArray[i]? = some o) : ∀ c, o.op ≠ .defer c := by
  intro c hc
  unfold noDefer at h
  rw [List.all_eq_true] at h
  have := h o (List.mem_of_getElem? (by simpa using ho))
  rw [hc] at this
  cases this
theorem listR (hq : ¬ LetsOut Q) : ∀ (ls : List Oper) (hd : noDefer ls = true) (a : Act) (w : World), wpList P ops Q ls a w → wpListIn (Fence.wide.inRound l) n P ops Q ls a w := by
  intro ls
  induction ls with
  | nil => intro _ _ _ h; exact h
  | cons o rest ih =>
    intro hd a w h
    have hd2 : noDefer rest = true := by
      unfold noDefer at hd ⊢
      rw [List.all_cons, Bool.and_eq_true] at hd
      exact hd.2
    have ho : ∀ c, o.op ≠ .defer c := noDefer_spec (l := o :: rest) hd (i := 0) (by simp)
    unfold wpList at h
    unfold wpListIn
    split
    · rename_i hw
      simp only [hw, if_true] at h
      exact operR ho (Oper.wp_mono (fun a w h => ih hd2 _ _ h) (h.resolve_right fun hh => hq hh.2))
    · rename_i hw
      simp only [hw] at h
      exact ⟨fun _ _ => trivial, ih hd2 _ _ h⟩
theorem region_plainR {id : Nat} {ls : List Oper} {a : Act} {w : World} (hq : ¬ LetsOut Q) (hd : noDefer ls = true) (h : wpList P ls.toArray Q ls a w) : (Code.region id ls.toArray false).wpIn (Fence.wide.inRound l) n P Q a w :=
  wpIn_region_lit (listR hq ls hd a w h)
theorem anyR {ls : List Oper} (hq : ¬ LetsOut Q) (hd : noDefer ls = true) : ∀ (f : Nat) (listed : Array Bool) (a : Act) (w : World), wpAny P md ls.toArray Q f listed a w → wpAnyIn (Fence.wide.inRound l) n P md ls.toArray Q f listed a w := by
  intro f
  induction f with
  | zero => intro _ _ _ h; exact h
  | succ f ih =>
    intro listed a w h
    refine ⟨h.1, fun i hi => ?_⟩
    have h2 := h.2 i hi
    unfold wpOp at h2
    unfold wpOpIn
    cases ho : ls.toArray[i]? with
    | none => simp only [ho] at h2; exact ih _ _ _ h2
    | some o =>
      simp only [ho] at h2 ⊢
      split
      · rename_i hw
        simp only [hw, if_true] at h2
        refine operR (noDefer_spec hd ho) ?_
        exact Oper.wp_mono (fun a w h => ih _ _ _ h) (h2.resolve_right fun hh => hq hh.2)
      · rename_i hw
        simp only [hw] at h2
        exact ⟨fun _ _ => trivial, ih _ _ _ h2⟩
theorem pi_startR {id : Nat} {ls : List Oper} {a : Act} {w : World} (C : World → Prop) (ex : List Nat) (hm : P.follows .mixedOrders = true) (hq : ¬ LetsOut Q) (hd : noDefer ls = true)
    (h : anyC P .any ls.toArray Q C ex ls.length (Array.replicate ls.length false) a w.drew) : (Code.region id ls.toArray true).wpIn (Fence.wide.inRound l) n P Q a w := by
  refine wpIn_region_any hm ?_
  have := anyR (l := l) (n := n) hq hd _ _ _ _ (any_of_anyC _ _ _ _ h)
  simpa using this
end
end Go.Proofs.YtfhdjekpdifajaaGreat

/- Package stack: the iterator over the levels (a range over a function): its contract. -/
namespace Go.Proofs.YtfhdjekpdifajaaGreat
set_option linter.unusedVariables false
open Go.RowKit
attribute [local go_sem] Oper.semAt_some

theorem Kat_c (s : Nat) (key : Int) (w : World) :
    Calls Tryz.prog 89 #[.pointer (some ⟨s, 0, none⟩), .int .u64 key] w fun e w' => e = .returned (.func (.func 147) #[] #[.pointer (some ⟨w.heap.size, 0, none⟩), .pointer (some ⟨w.heap.size + 1, 0, none⟩)]) ∧
      w' = (w.alloc (.cells #[.pointer (some ⟨s, 0, none⟩)] 28)).alloc (.cells #[.int .u64 key] 22) := by
  have hmf : ∀ (fn : Fn) (first cap : Array Value) (w : World), (Instr.makeFunc fn first cap).run Tryz.prog w = .ok (.func fn first cap) w := fun _ _ _ _ => rfl
  go_enter Tryz.func89, Tryz.ntmps89
  go_wp2
  go_ret
  exact ⟨rfl, rfl⟩
/-- What a round that goes on keeps: whatever lay below n₀, but for the blocks of S. -/
def KpS (n₀ : Nat) (S : Nat → Prop) (W W' : World) : Prop := ∀ b, b < n₀ → ¬ S b → W'.heap[b]? = W.heap[b]?
theorem KpS.t {n₀ : Nat} {S : Nat → Prop} {A B C : World} (h : KpS n₀ S A B) (k : KpS n₀ S B C) : KpS n₀ S A C := fun b hb hs => (k b hb hs).trans (h b hb hs)
theorem KpS.b {n₀ : Nat} {S : Nat → Prop} {w : World} (hn : n₀ ≤ w.heap.size) (W : World) (l : Nat) (o o' : Obj) (hl : w.heap.size ≤ l) (h : W.heap[l]? = some o) (_ : o.isCells = false) (_ : o.isWalk = false) : KpS n₀ S W (W.putObj l o') := by
  intro b hb _
  exact World.putObj_heap_other (by omega)
theorem KpS.cell {n₀ : Nat} {S : Nat → Prop} {W W' : World} (h : KpS n₀ S W W') {b o : Nat} (hb : b < n₀) (hs : ¬ S b) : W'.cell? ⟨b, o, none⟩ = W.cell? ⟨b, o, none⟩ := by
  unfold World.cell?; rw [show (⟨b, o, none⟩ : Addr).block = b from rfl, h b hb hs]
def lvEnc (C : Cfg) (L : Nat → Lev) (B : Nat) (key : Int) (x : {n : Nat // n ≤ B}) : Array Value := #[lvV C x.1 (L x.1), .int .u64 (sh x.1 key)]
set_option maxRecDepth 100000 in
set_option maxHeartbeats 2000000 in
theorem kat1_in (n l Bs Bk n₀ s g cap : Nat) (S : Nat → Prop) (C : Cfg) (L : Nat → Lev) (B : Nat) (key : Int) (hkey : U64 key) (hB : B ≤ 59) (J Jx : List {n : Nat // n ≤ B} → World → Prop)
    (hbs : Bs < n₀) (hbk : Bk < n₀) (hs : s < n₀) (hg : g < n₀) (nbs : ¬ S Bs) (nbk : ¬ S Bk) (ns : ¬ S s) (ng : ¬ S g)
    (hY : ∀ pre x W, J pre W → pre.length < B + 1 → YieldAt Fence.wide (n - 1) Tryz.prog l (lvEnc C L B key x) W fun e W' =>
      (e = .returned (.bool true) ∧ J (pre ++ [x]) W' ∧ KpS n₀ S W W') ∨ (e = .returned (.bool false) ∧ Jx (pre ++ [x]) W'))
    (W : World) (hBs : W.cell? ⟨Bs, 0, none⟩ = some (.pointer (some ⟨s, 0, none⟩))) (hBk : W.cell? ⟨Bk, 0, none⟩ = some (.int .u64 key))
    (h5 : W.cell? ⟨s, 5, none⟩ = some (.slice (some ⟨g, 0, none⟩) (B + 1) cap)) (hc : ∀ n, n ≤ B → W.cell? ⟨g, n, none⟩ = some (lvV C n (L n))) (h0 : J [] W) :
    CallsIn Fence.wide n Tryz.prog 147 #[.func (.yield l) #[] #[], .pointer (some ⟨Bs, 0, none⟩), .pointer (some ⟨Bk, 0, none⟩)] W fun e W' => (∃ v, e = .returned v) ∧
      ((∃ ys, ys.map (fun x : {n : Nat // n ≤ B} => x.1) = List.range (B + 1) ∧ J ys W') ∨ (∃ pre, True ∧ Jx pre W')) := by
  refine callsIn_of_wp Tryz.func147 rfl trivial ?_ rfl
  simp only [Tryz.ntmps147, List.size_toArray, List.length_cons, List.length_nil, Nat.reduceAdd, Nat.reduceSub, Array.replicate_succ, Array.replicate_zero, List.push_toArray, List.append_toArray, List.nil_append, List.cons_append]
  gi_wp2
  gi_loopw [11] (fun i wr => ∃ (k : Nat) (pre : List {n : Nat // n ≤ B}), k ≤ B + 1 ∧ i = .int .i64 k ∧ pre.map (fun x : {n : Nat // n ≤ B} => x.1) = List.range k ∧ J pre wr ∧ KpS n₀ S W wr)
    (fun i _ => B + 1 - (intOf i).toNat)
  case atStart => exact ⟨0, [], Nat.zero_le _, rfl, rfl, h0, fun _ _ _ => rfl⟩
  case round =>
    obtain ⟨k, pre, hk, rfl, hpre, hJs, hnx⟩ := hrel
    have hlen : pre.length = k := by have := congrArg List.length hpre; simpa using this
    by_cases hlt : k < B + 1
    · have hcx := (hnx.cell (o := k) hg ng).trans (hc k (by omega))
      have hkx := (hnx.cell (o := 0) hbk nbk).trans hBk
      obtain ⟨fn, tmps, assign, body, hy, hR⟩ := hY pre ⟨k, by omega⟩ wr hJs (by omega)
      dsimp only [lvEnc, sh] at hy
      gi_wp2
      refine ⟨fun h => (by cases h), hR.mono ?_⟩
      rintro e W3 (⟨rfl, hJ3, hk3⟩ | ⟨rfl, hJx3⟩)
      · gi_wp2
        go_roundw
        case rel => exact ⟨k + 1, pre ++ [⟨k, by omega⟩], by omega, by simp, by rw [List.map_append, hpre, List.range_succ]; rfl, hJ3, hnx.t hk3⟩
        case measure => simp [intOf]; omega
      · gi_wp2
        refine bodyPost_ret (results_none rfl _ _ _) rfl ?_
        exact ⟨⟨_, rfl⟩, .inr ⟨_, trivial, hJx3⟩⟩
    · obtain rfl : k = B + 1 := by omega
      gi_wp2
      go_end0
      exact ⟨⟨_, rfl⟩, .inl ⟨pre, hpre, hJs⟩⟩
theorem kat1_stops (n Bs Bk n₀ s g cap : Nat) (S : Nat → Prop) (C : Cfg) (L : Nat → Lev) (B : Nat) (key : Int) (hkey : U64 key) (hB : B ≤ 59)
    (hbs : Bs < n₀) (hbk : Bk < n₀) (hs : s < n₀) (hg : g < n₀) (nbs : ¬ S Bs) (nbk : ¬ S Bk) (ns : ¬ S s) (ng : ¬ S g) (w : World) (hn : n₀ ≤ w.heap.size)
    (hBs : w.cell? ⟨Bs, 0, none⟩ = some (.pointer (some ⟨s, 0, none⟩))) (hBk : w.cell? ⟨Bk, 0, none⟩ = some (.int .u64 key))
    (h5 : w.cell? ⟨s, 5, none⟩ = some (.slice (some ⟨g, 0, none⟩) (B + 1) cap)) (hc : ∀ n, n ≤ B → w.cell? ⟨g, n, none⟩ = some (lvV C n (L n))) :
    SeqStopsK Fence.wide n Tryz.prog 147 #[.pointer (some ⟨Bs, 0, none⟩), .pointer (some ⟨Bk, 0, none⟩)] (lvEnc C L B key) (KpS n₀ S) (fun ys => ys.map (fun x : {n : Nat // n ≤ B} => x.1) = List.range (B + 1)) (fun _ => True) (B + 1) w := by
  intro l J Jx W hW hJ hJx hY h0
  refine kat1_in n l Bs Bk n₀ s g cap S C L B key hkey hB J Jx hbs hbk hs hg nbs nbk ns ng hY W ?_ ?_ ?_ (fun n hn' => ?_) h0
  · exact (hW.cell (p := ⟨Bs, 0, none⟩) (Nat.lt_of_lt_of_le hbs hn)).trans hBs
  · exact (hW.cell (p := ⟨Bk, 0, none⟩) (Nat.lt_of_lt_of_le hbk hn)).trans hBk
  · exact (hW.cell (p := ⟨s, 5, none⟩) (Nat.lt_of_lt_of_le hs hn)).trans h5
  · exact (hW.cell (p := ⟨g, n, none⟩) (Nat.lt_of_lt_of_le hg hn)).trans (hc n hn')
set_option maxRecDepth 20000 in
theorem first_c (g cap : Nat) (a b : Int) (w : World) (h0 : w.cell? ⟨g, 0, none⟩ = some (.int .i64 a)) (h1 : w.cell? ⟨g, 1, none⟩ = some (.int .i64 b)) :
    Calls Tryz.prog 90 #[.slice (some ⟨g, 0, none⟩) 2 cap] w fun e w' => e = .returned (.int .i64 (fst_ a b)) ∧ w = w' := by
  by_cases ha : a = 0
  · have e0 : fst_ a b = b := by unfold fst_; rw [decide_eq_true ha]; rfl
    rw [e0]
    subst ha
    by_cases hb : b = 0
    · subst hb
      go_enter Tryz.func90, Tryz.ntmps90
      go_wp2
      refine wp_loop_rounds 3 ?_
      iterate 3 (rw [rounds_succ]; go_wp2)
      go_ret
      exact ⟨rfl, rfl⟩
    · go_enter Tryz.func90, Tryz.ntmps90
      go_wp2
      refine wp_loop_rounds 2 ?_
      iterate 2 (rw [rounds_succ]; go_wp2)
      go_ret
      exact ⟨rfl, rfl⟩
  · have e0 : fst_ a b = a := by unfold fst_; rw [decide_eq_false ha]; rfl
    rw [e0]
    go_enter Tryz.func90, Tryz.ntmps90
    go_wp2
    refine wp_loop_rounds 1 ?_
    iterate 1 (rw [rounds_succ]; go_wp2)
    go_ret
    exact ⟨rfl, rfl⟩
end Go.Proofs.YtfhdjekpdifajaaGreat

/- What carries a stack through a range over a function. -/
namespace Go.Proofs.YtfhdjekpdifajaaGreat
set_option linter.unusedVariables false
open Go.RowKit

theorem keepsO_ext {w w' : World} (h : Ext w w') : KeepsOthers w w' :=
  ⟨h.size, fun k o hk _ => (h.block k (Array.getElem?_eq_some_iff.1 hk).1).trans hk⟩
theorem keepsO_mod {S : Nat → Prop} {w w' : World} (h : Mod S w w') (hS : ∀ k, S k → k < w.heap.size → ∃ cur t f, w.heap[k]? = some (.cells cur t f)) : KeepsOthers w w' :=
  ⟨h.size, fun k o hk ho => by
    have hlt := (Array.getElem?_eq_some_iff.1 hk).1
    refine (h.block k hlt fun hs => ?_).trans hk
    obtain ⟨cur, t, f, hc⟩ := hS k hs hlt
    rw [hk] at hc
    injection hc with hc
    subst hc
    cases ho⟩
theorem kps_mod {n₀ : Nat} {S : Nat → Prop} {w w' : World} (h : Mod S w w') (hn : n₀ ≤ w.heap.size) : KpS n₀ S w w' := fun b hb hs => h.block b (by omega) hs
theorem kps_ext {n₀ : Nat} {S : Nat → Prop} {w w' : World} (h : Ext w w') (hn : n₀ ≤ w.heap.size) : KpS n₀ S w w' := fun b hb _ => h.block b (by omega)
/-- What lies below a bound is carried by whatever grows from there. -/
theorem grown_low {W W' : World} {row : Option Nat} {B k : Nat} (hg : W.grownBy W' row) (hr : ∀ r, row = some r → B ≤ r) (hk : k < W.heap.size) (hB : k < B) : W'.heap[k]? = W.heap[k]? :=
  hg.block k hk (fun e => by have := hr k e.symm; omega)
theorem ownFrom_mod {β : Type} {S : Nat → Prop} {B : Nat} {w₀ : World} (hB : w₀.heap.size ≤ B) : OwnFrom B (fun (_ : β) W => Mod S w₀ W) :=
  fun _ _ _ _ hs hg hr => ⟨hg.os.trans hs.os, hg.tape.trans hs.tape, hg.output.trans hs.output, Nat.le_trans hs.size hg.size, fun k hk hn => (grown_low hg (fun r e => (hr r e).1) (Nat.lt_of_lt_of_le hk hs.size) (by omega)).trans (hs.block k hk hn)⟩
theorem ownFrom_box {β : Type} {B b : Nat} (hb : b < B) (f : β → Obj) : OwnFrom B (fun (s : β) W => W.heap[b]? = some (f s)) :=
  fun s W W' row hs hg hr => (grown_low hg (fun r e => (hr r e).1) (lt_of hs) hb).trans hs
/-- A stack's blocks lie below a bound. -/
structure KLow (N s g B : Nat) (L : Nat → Lev) : Prop where
  s : s < N
  g : g < N
  ls : ∀ n, n ≤ B → (L n).s < N
  lb : ∀ n, n ≤ B → (L n).b < N
  lc : ∀ n, n ≤ B → (L n).c < N
theorem KAt.low {w : World} {s g : Nat} {C : Cfg} {B : Nat} {L : Nat → Lev} {ls : Nat → List Int} (h : KAt w s g C B L ls) : KLow w.heap.size s g B L :=
  ⟨h.lts, h.ltg, fun n hn => (h.lev n hn).lts, fun n hn => (h.lev n hn).ltb, fun n hn => (h.lev n hn).ltc⟩
theorem KLow.mono {N M s g B : Nat} {L : Nat → Lev} (h : KLow N s g B L) (hM : N ≤ M) : KLow M s g B L :=
  ⟨Nat.lt_of_lt_of_le h.s hM, Nat.lt_of_lt_of_le h.g hM, fun n hn => Nat.lt_of_lt_of_le (h.ls n hn) hM, fun n hn => Nat.lt_of_lt_of_le (h.lb n hn) hM, fun n hn => Nat.lt_of_lt_of_le (h.lc n hn) hM⟩
theorem KAt.keepN {w w' : World} {N s g : Nat} {C : Cfg} {B : Nat} {L : Nat → Lev} {ls : Nat → List Int} (h : KAt w s g C B L ls) (hl : KLow N s g B L) (hk : ∀ k, k < w.heap.size → k < N → w'.heap[k]? = w.heap[k]?) : KAt w' s g C B L ls :=
  ⟨by rw [hk s h.lts hl.s]; exact h.ex, by rw [hk g h.ltg hl.g]; exact h.row, fun n hn => (h.lev n hn).keep (hk _ (h.lev n hn).lts (hl.ls n hn)) (hk _ (h.lev n hn).ltb (hl.lb n hn)) (hk _ (h.lev n hn).ltc (hl.lc n hn)), h.sep, h.ok, h.hB⟩
/-- One level is changed. -/
theorem KAt.put {w w' : World} {s g : Nat} {C : Cfg} {B : Nat} {L : Nat → Lev} {ls : Nat → List Int} (h : KAt w s g C B L ls) {n : Nat} (hn : n ≤ B) (hm : Mod (fun k => k = (L n).c) w w') {l : List Int} (hl : LvAt w' (L n) C n l) :
    KAt w' s g C B L (fun m => if m = n then l else ls m) := by
  have hcs : ∀ k, k = (L n).c → k < w.heap.size → ∃ cur, w.heap[k]? = some (.cells cur 2 (0, 0)) := by
    rintro k rfl _; exact (h.lev n hn).isc
  refine ⟨?_, ?_, fun m hm' => ?_, h.sep, h.ok, h.hB⟩
  · rw [hm.block s h.lts fun e => h.nots ⟨n, hn, e⟩]; exact h.ex
  · rw [hm.block g h.ltg fun e => h.notg ⟨n, hn, e⟩]; exact h.row
  · by_cases e : m = n
    · subst e; rw [if_pos rfl]; exact hl
    · rw [if_neg e]; exact (h.lev m hm').mod hm hcs (h.sep m n hm' hn e)
theorem KAt.mod1 {w w' : World} {s g : Nat} {C : Cfg} {B : Nat} {L : Nat → Lev} {ls : Nat → List Int} (h : KAt w s g C B L ls) {n : Nat} (hn : n ≤ B) (hm : Mod (fun k => k = (L n).c) w w') : Mod (cellsOf B L) w w' :=
  hm.mono fun k hk _ => ⟨n, hn, hk⟩
theorem KAt.cellsT {w : World} {s g : Nat} {C : Cfg} {B : Nat} {L : Nat → Lev} {ls : Nat → List Int} (h : KAt w s g C B L ls) (k : Nat) (hk : cellsOf B L k) (_ : k < w.heap.size) : ∃ cur t f, w.heap[k]? = some (.cells cur t f) := by
  obtain ⟨cur, hc⟩ := h.isc hk; exact ⟨_, _, _, hc⟩
theorem mod_new {w W0 W : World} {b : Nat} (he : Ext w W0) (hm : Mod (fun k => k = b) W0 W) (hb : w.heap.size ≤ b) : Mod (fun _ => False) w W :=
  ⟨hm.os.trans he.os, hm.tape.trans he.tape, hm.output.trans he.output, Nat.le_trans he.size hm.size, fun k hk _ => (hm.block k (Nat.lt_of_lt_of_le hk he.size) (by omega)).trans (he.block k hk)⟩
theorem mod_putD {S : Nat → Prop} {w W : World} {D : Nat} {o : Obj} (h : Mod S w W) (hD : w.heap.size ≤ D) : Mod S w (W.putObj D o) :=
  ⟨h.os, h.tape, h.output, Nat.le_trans h.size (by simp [World.putObj]), fun k hk hn => (World.putObj_heap_other (by omega)).trans (h.block k hk hn)⟩
/-- A round that has written one box. -/
theorem chk_round {W0 W w3 : World} {b : Nat} {t : TypeId} {u v : Value} {o : Obj} (hb : W.heap[b]? = some (.cells #[u] t (0, 0))) (hx : Ext W w3) (hM : Mod (fun k => k = b) W0 W) :
    KeepsOthers W ((w3.setCell ⟨b, 0, none⟩ v).alloc o) ∧ KpS W0.heap.size (fun k => k = b) W ((w3.setCell ⟨b, 0, none⟩ v).alloc o) ∧ ((w3.setCell ⟨b, 0, none⟩ v).alloc o).heap[b]? = some (.cells #[v] t (0, 0)) ∧ Mod (fun k => k = b) W0 ((w3.setCell ⟨b, 0, none⟩ v).alloc o) := by
  have h3 := hx.keep hb
  have hl := lt_of h3
  have hm : Mod (fun k => k = b) W ((w3.setCell ⟨b, 0, none⟩ v).alloc o) := ((hx.mod _).trans (mod_set _ _ _ _)).trans ((Ext.alloc' _ _).mod _)
  refine ⟨keepsO_mod hm ?_, kps_mod hm hM.size, ?_, hM.trans hm⟩
  · rintro k rfl _; exact ⟨_, _, _, hb⟩
  · rw [heap_old _ _ (by rw [size_setCell]; exact hl), setCell_same h3]; rfl
/-- The numbers of some levels. -/
def vals {B : Nat} (pre : List {n : Nat // n ≤ B}) : List Nat := pre.map fun x => x.1
theorem vals_snoc {B : Nat} (pre : List {n : Nat // n ≤ B}) (x : {n : Nat // n ≤ B}) : vals (pre ++ [x]) = vals pre ++ [x.1] := by unfold vals; rw [List.map_append]; rfl
/-- What the levels say that have been asked. -/
def errF (C : Cfg) (ls : Nat → List Int) (key d : Int) (pre : List Nat) : Int := pre.foldl (fun (b : Int) (n : Nat) => fst_ b (lvE C n (ls n) (sh n key) d)) 0
theorem errF_snoc (C : Cfg) (ls : Nat → List Int) (key d : Int) (pre : List Nat) (n : Nat) : errF C ls key d (pre ++ [n]) = fst_ (errF C ls key d pre) (lvE C n (ls n) (sh n key) d) := by
  unfold errF; rw [List.foldl_append]; rfl
theorem errF_range (C : Cfg) (ls : Nat → List Int) (key d : Int) (m : Nat) : errF C ls key d (List.range m) = errs C ls key d m := by
  induction m with
  | zero => rfl
  | succ m ih => rw [List.range_succ, errF_snoc, ih]; rfl
/-- The levels, when some have been told of an update. -/
def partK (C : Cfg) (ls : Nat → List Int) (key d : Int) (pre : List Nat) (n : Nat) : List Int := if n ∈ pre then updK C ls key d n else ls n
/-- A round that has told a level of an update. -/
theorem upd_round {W2 W w3 : World} {s g : Nat} {C : Cfg} {B : Nat} {L : Nat → Lev} {ls ls' : Nat → List Int} {key d : Int} {pre : List {n : Nat // n ≤ B}} {x : {n : Nat // n ≤ B}} {D : Nat}
    (h : KAt W s g C B L ls') (hp : (vals pre).Nodup → ∀ n, ls' n = partK C ls key d (vals pre) n) (hM : Mod (cellsOf B L) W2 W) (hD : W.heap[D]? = some (.deferred (some [])))
    (hall : ∀ n, n ≤ B → lvE C n (ls n) (sh n key) d = 0)
    (hres : (lvE C x.1 (ls' x.1) (sh x.1 key) d = 0 ∧ LvAt w3 (L x.1) C x.1 (lvU C x.1 (ls' x.1) (sh x.1 key) d) ∧ Mod (fun k => k = (L x.1).c) W w3) ∨ (lvE C x.1 (ls' x.1) (sh x.1 key) d ≠ 0 ∧ Ext W w3)) :
    KeepsOthers W w3 ∧ KpS W2.heap.size (cellsOf B L) W w3 ∧ w3.heap[D]? = some (.deferred (some [])) ∧ (∃ ls'', KAt w3 s g C B L ls'' ∧ ((vals (pre ++ [x])).Nodup → ∀ n, ls'' n = partK C ls key d (vals (pre ++ [x])) n)) ∧ Mod (cellsOf B L) W2 w3 := by
  have old : (vals (pre ++ [x])).Nodup → (vals pre).Nodup ∧ x.1 ∉ vals pre := by
    intro hn
    rw [vals_snoc, List.nodup_append] at hn
    exact ⟨hn.1, fun hx => hn.2.2 _ hx x.1 (by simp) rfl⟩
  rcases hres with ⟨he, hl, hm⟩ | ⟨he, hx⟩
  · have hmm := h.mod1 x.2 hm
    have hko := keepsO_mod hmm (fun k hk hlt => h.cellsT k hk hlt)
    refine ⟨hko, kps_mod hmm hM.size, hko.same _ _ hD rfl, ⟨_, h.put x.2 hm hl, fun hn n => ?_⟩, hM.trans hmm⟩
    obtain ⟨h1, h2⟩ := old hn
    by_cases e : n = x.1
    · subst e
      rw [if_pos rfl, hp h1]
      unfold partK
      rw [if_neg h2, if_pos (by rw [vals_snoc]; simp)]
      rfl
    · rw [if_neg e, hp h1]
      unfold partK
      rw [vals_snoc]
      simp only [List.mem_append, List.mem_singleton, e, or_false]
  · have hko := keepsO_ext hx
    refine ⟨hko, kps_ext hx hM.size, hko.same _ _ hD rfl, ⟨ls', h.ext hx, fun hn n => ?_⟩, hM.trans (hx.mod _)⟩
    obtain ⟨h1, h2⟩ := old hn
    exfalso
    apply he
    rw [hp h1]
    unfold partK
    rw [if_neg h2]
    exact hall _ x.2
theorem part_end {C : Cfg} {B : Nat} {ls ls' : Nat → List Int} {key d : Int} {xs : List {n : Nat // n ≤ B}} (hxs : xs.map (fun x => x.1) = List.range (B + 1)) (hp : (vals xs).Nodup → ∀ n, ls' n = partK C ls key d (vals xs) n) :
    ∀ n, n ≤ B → ls' n = updK C ls key d n := by
  have e : vals xs = List.range (B + 1) := hxs
  intro n hn
  rw [hp (by rw [e]; exact List.nodup_range), e]
  unfold partK
  rw [if_pos (by rw [List.mem_range]; omega)]
theorem KAt.cong {w : World} {s g : Nat} {C : Cfg} {B : Nat} {L : Nat → Lev} {ls ls' : Nat → List Int} (h : KAt w s g C B L ls) (he : ∀ n, n ≤ B → ls n = ls' n) : KAt w s g C B L ls' :=
  ⟨h.ex, h.row, fun n hn => he n hn ▸ h.lev n hn, h.sep, h.ok, h.hB⟩
end Go.Proofs.YtfhdjekpdifajaaGreat

/- Package stack: New. -/
namespace Go.Proofs.YtfhdjekpdifajaaGreat
set_option linter.unusedVariables false
open Go.RowKit
section
variable {P : Program}
/-- 's = append(s, x)', x of one cell, s a row of the call's own. -/
theorem wpList_appv (W : World) {ops : Array Oper} {rest : List Oper} {o : Oper} {a : Act} {Q : Exit → Act → World → Prop} (x : Value) (hx1 : x.oneCell' = true) (xs : List Value) (v : Value) (base : Nat) (e : TypeId) (hown : W.ownsRow base e 1 v xs.length xs) (t : TypeId)
    (hgd : o.guard = none) (s y : Operand) (ho : o.op = .call { callee := .builtin .append, args := #[s, y], argTypes := #[t, t] })
    (i0 : TypeInfo) (z0 : Value) (hi : P.info? e = some i0) (hz0 : i0.zero = some z0) (hz1 : i0.size = 1) (hz2 : i0.bytes = 16) (hz3 : z0.cells.size = 1) (ht : P.underlying t = some (.slice e))
    (hs : a.eval s = v) (hx : a.eval y = .slice (some ⟨W.heap.size, 0, none⟩) 1 1)
    (hl : xs.length ≤ 1000000) (hbase : base ≤ W.heap.size)
    (h : ∀ v' w', w'.ownsRow base e 1 v' (xs ++ [x]).length (xs ++ [x]) → (W.alloc (.cells #[x] e)).grownBy w' v.ownBlock → wpList P ops Q rest (a.put o.dst v') w') :
    wpList P ops Q (o :: rest) a (W.alloc (.cells #[x] e)) := by
  refine wpList_append_sep _ hgd s y t ho base e i0 z0 1 16 ht hi hz0 hz1 hz2 hz3 (by decide) v xs.length xs hs (hown.alloc _) ⟨W.heap.size, 0, none⟩ 1 1 [x] hx rfl ?_ ?_ (by unfold maxLen; omega) (by omega) (by rw [size_alloc]; omega) ?_
  · intro j u hu
    have hj : j = 0 := by
      have := (List.getElem?_eq_some_iff.1 hu).1
      simp at this; exact this
    subst hj
    rw [show (⟨W.heap.size, 0, none⟩ : Addr).add 0 = ⟨W.heap.size, 0, none⟩ by simp [Addr.add], cell_of (heap_at W _ rfl) 0]
    exact hu
  · intro u hu
    simp at hu
    subst hu
    exact hx1
  · intro v' w' h1 h2 h3
    refine h v' w' ?_ h2
    rw [List.length_append]
    exact h1
end
theorem own_type {w : World} {base n size : Nat} {e : TypeId} {v : Value} {xs : List Value} (h : w.ownsRow base e size v n xs) {k : Nat} (hk : v.ownBlock = some k) : ∃ cur, w.heap[k]? = some (.cells cur e (0, 0)) := by
  rcases h.2 with ⟨rfl, _⟩ | ⟨g, cap, cur, rfl, _, hg, _⟩
  · cases hk
  · cases hk; exact ⟨cur, hg⟩
theorem info_lev : ∃ i z, Tryz.prog.info? 62 = some i ∧ i.zero = some z ∧ i.size = 1 ∧ i.bytes = 16 ∧ z.cells.size = 1 := by
  have h : (Tryz.prog.info? 62).map (fun i => (i.zero, i.size, i.bytes)) = some (some .nilIface, 1, 16) := by kernel_rfl
  match hi : Tryz.prog.info? 62, h with
  | some i, h =>
    simp only [Option.map_some, Option.some.injEq, Prod.mk.injEq] at h
    exact ⟨i, .nilIface, rfl, h.1, h.2.1, h.2.2, rfl⟩
theorem lvV_one (C : Cfg) (lv : Int) (L : Lev) : (lvV C lv L).oneCell' = true := rfl
def lvVs (C : Cfg) (L : Nat → Lev) (n : Nat) : List Value := (List.range n).map fun (i : Nat) => lvV C i (L i)
theorem lvVs_len (C : Cfg) (L : Nat → Lev) (n : Nat) : (lvVs C L n).length = n := by simp [lvVs]
theorem lvVs_succ (C : Cfg) (L : Nat → Lev) (n : Nat) : lvVs C L (n + 1) = lvVs C L n ++ [lvV C n (L n)] := by
  unfold lvVs; rw [List.range_succ, List.map_append]; rfl
theorem lvVs_cong (C : Cfg) {L L' : Nat → Lev} {n : Nat} (h : ∀ i, i < n → L i = L' i) : lvVs C L n = lvVs C L' n := by
  unfold lvVs
  apply List.map_congr_left
  intro i hi
  rw [List.mem_range] at hi
  rw [h i hi]
theorem lvVs_get (C : Cfg) (L : Nat → Lev) {n i : Nat} (h : i < n) : (lvVs C L n)[i]? = some (lvV C i (L i)) := by
  unfold lvVs; rw [List.getElem?_map, List.getElem?_range h]; rfl
/-- A row of levels' block is no level's. -/
theorem LvAt.norow {w : World} {L : Lev} {C : Cfg} {lv : Int} {l : List Int} (h : LvAt w L C lv l) {k : Nat} {cur : Array Value} (hk : w.heap[k]? = some (.cells cur 62 (0, 0))) : k ≠ L.s ∧ k ≠ L.b ∧ k ≠ L.c := by
  refine ⟨?_, ?_, ?_⟩
  · rcases h with ⟨_, h⟩ | ⟨_, h⟩ <;> exact blk_ne hk h.ex (by decide)
  · rcases h with ⟨_, h⟩ | ⟨_, h⟩ <;> (obtain ⟨cap, h1, _⟩ := h.g.ex; exact blk_ne hk h1 (by decide))
  · obtain ⟨cur', h1⟩ := h.isc
    exact blk_ne hk h1 (by decide)
theorem LvAt.grown {w w' : World} {o : Obj} {row : Option Nat} {L : Lev} {C : Cfg} {lv : Int} {l : List Int} (h : LvAt w L C lv l) (hg : (w.alloc o).grownBy w' row) (hr : ∀ i, row = some i → ∃ cur, w.heap[i]? = some (.cells cur 62 (0, 0))) : LvAt w' L C lv l := by
  have key : ∀ k, k < w.heap.size → (∀ i, row = some i → i ≠ k) → w'.heap[k]? = w.heap[k]? := fun k hk hn => grown_old hg hk (fun e => hn k e.symm rfl)
  refine h.keep (key _ h.lts fun i hi => ?_) (key _ h.ltb fun i hi => ?_) (key _ h.ltc fun i hi => ?_)
  all_goals
    obtain ⟨cur, hc⟩ := hr i hi
    have := h.norow hc
  · exact this.1
  · exact this.2.1
  · exact this.2.2
/-- Some levels that have been made. -/
structure Made (w : World) (B0 : Nat) (C : Cfg) (k : Nat) (L : Nat → Lev) (ls : Nat → List Int) (v : Value) : Prop where
  row : w.ownsRow B0 62 1 v (lvVs C L k).length (lvVs C L k)
  lev : ∀ n, n < k → LvAt w (L n) C n (ls n)
  new : ∀ n, n < k → B0 ≤ (L n).s ∧ B0 ≤ (L n).b ∧ B0 ≤ (L n).c
  sep : ∀ m n, m < k → n < k → m ≠ n → (L m).c ≠ (L n).c
theorem Made.ext {w w' : World} {B0 k : Nat} {C : Cfg} {L : Nat → Lev} {ls : Nat → List Int} {v : Value} (h : Made w B0 C k L ls v) (he : Ext w w') : Made w' B0 C k L ls v :=
  ⟨own_ext h.row he, fun n hn => (h.lev n hn).ext he, h.new, h.sep⟩
/-- One more. -/
theorem Made.next {w w' : World} {B0 k : Nat} {C : Cfg} {L : Nat → Lev} {ls : Nat → List Int} {v v' : Value} {M : Lev} {l : List Int} {o : Obj} {N : Nat} (h : Made w B0 C k L ls v) (hM : LvAt w M C k l) (hN : ∀ n, n < k → (L n).c < N) (hB : B0 ≤ N) (h1 : N ≤ M.s) (h2 : N ≤ M.b) (h3 : N ≤ M.c)
    (hl : l = ls k) (hown : w'.ownsRow B0 62 1 v' (lvVs C L k ++ [lvV C k M]).length (lvVs C L k ++ [lvV C k M])) (hg : (w.alloc o).grownBy w' v.ownBlock) : Made w' B0 C (k + 1) (fun n => if n = k then M else L n) ls v' := by
  subst hl
  have hr : ∀ i, v.ownBlock = some i → ∃ cur, w.heap[i]? = some (.cells cur 62 (0, 0)) := fun i hi => own_type h.row hi
  refine ⟨?_, fun n hn => ?_, fun n hn => ?_, fun m n hm hn hmn => ?_⟩
  · rw [lvVs_succ, if_pos rfl, lvVs_cong C (L' := L) (fun i hi => if_neg (by omega))]
    exact hown
  · by_cases e : n = k
    · subst e; rw [if_pos rfl]; exact hM.grown hg hr
    · rw [if_neg e]; exact (h.lev n (by omega)).grown hg hr
  · by_cases e : n = k
    · rw [if_pos e]; exact ⟨by omega, by omega, by omega⟩
    · rw [if_neg e]; exact h.new n (by omega)
  · by_cases e : m = k
    · subst e
      rw [if_pos rfl, if_neg (by omega)]
      have := hN n (by omega)
      omega
    · rw [if_neg e]
      by_cases e' : n = k
      · subst e'
        rw [if_pos rfl]
        have := hN m (by omega)
        omega
      · rw [if_neg e']; exact h.sep m n (by omega) (by omega) hmn
theorem Made.ltN {w : World} {B0 k : Nat} {C : Cfg} {L : Nat → Lev} {ls : Nat → List Int} {v : Value} (h : Made w B0 C k L ls v) (n : Nat) (hn : n < k) : (L n).c < w.heap.size := (h.lev n hn).ltc
/-- All levels, and the stack's own block: a stack. -/
theorem Made.stack {w : World} {s B0 B : Nat} {C : Cfg} {L : Nat → Lev} {ls : Nat → List Int} {v : Value} (h : Made w B0 C (B + 1) L ls v) (hok : C.Ok) (hB : C.bits = B) (hs : w.heap[s]? = some (.cells #[.int .i64 C.bits, .int .i64 C.rows, .int .i64 C.width, .int .i64 C.mode, .int .u64 C.seed, v] 149 (0, 0))) :
    ∃ g, B0 ≤ g ∧ KAt w s g C B L ls := by
  have hl := lvVs_len C L (B + 1)
  rcases h.row.2 with ⟨_, h0⟩ | ⟨g, cap, cur, rfl, hbg, hg, hnc, hcm, hcs, htake⟩
  · rw [hl] at h0; omega
  · rw [hl] at hs hnc
    refine ⟨g, hbg, ⟨⟨cap, hs, hnc⟩, ⟨cur, hg, fun n hn => ?_⟩, fun n hn => h.lev n (by omega), fun m n hm hn => h.sep m n (by omega) (by omega), hok, hB⟩⟩
    have h1 := h.row.cells (g := g) rfl n _ (lvVs_get C L (show n < B + 1 by omega))
    rw [show ((⟨g, 0, none⟩ : Addr).add n) = ⟨g, n, none⟩ by (simp [Addr.add]; intro e; exact e.symm), cell_of hg] at h1
    exact h1
theorem Made.setc {w : World} {B0 k : Nat} {C : Cfg} {L : Nat → Lev} {ls : Nat → List Int} {v : Value} (h : Made w B0 C k L ls v) {b : Nat} (hb : b < B0) (o : Nat) (u : Value) : Made (w.setCell ⟨b, o, none⟩ u) B0 C k L ls v :=
  ⟨own_setc h.row hb o u, fun n hn => (h.lev n hn).keep (setCell_other _ _ (by have := h.new n hn; omega)) (setCell_other _ _ (by have := h.new n hn; omega)) (setCell_other _ _ (by have := h.new n hn; omega)), h.new, h.sep⟩
def KNewPost (w : World) (C : Cfg) (e : Ending) (w' : World) : Prop :=
  ∃ (s g : Nat) (L : Nat → Lev), e = .returned (.tuple #[.pointer (some ⟨s, 0, none⟩), .int .i64 0]) ∧ KAt w' s g C C.bits.toNat L (fun n => zs (lvN C n)) ∧ w.heap.size ≤ s ∧ w.heap.size ≤ g ∧ (∀ n, n ≤ C.bits.toNat → w.heap.size ≤ (L n).s ∧ w.heap.size ≤ (L n).b ∧ w.heap.size ≤ (L n).c) ∧ Ext w w'
set_option maxRecDepth 20000 in
set_option maxHeartbeats 4000000 in
theorem KNew_c (C : Cfg) (h : C.Ok) (w : World) :
    Calls Tryz.prog 16 #[.agg #[.int .i64 C.bits, .int .i64 C.rows, .int .i64 C.width, .int .i64 C.mode, .int .u64 C.seed]] w (KNewPost w C) := by
  have hb1 := h.b1
  have hb2 := h.b2
  obtain ⟨B, hB⟩ : ∃ B : Nat, C.bits = B := ⟨C.bits.toNat, by omega⟩
  have hBt : C.bits.toNat = B := by omega
  unfold KNewPost
  rw [hBt]
  have HB := Lib.hid hB
  have HBT := Lib.hid hBt
  clear hB hBt
  go_enter Tryz.func16, Tryz.ntmps16
  go_wp2_with fail
  refine (Right_c C h _).mono ?_
  rintro e w1 ⟨rfl, hx1⟩
  have hE1 : Ext w w1 := (Ext.alloc' w _).trans' hx1
  have hcb := hx1.keep (heap_at w (.cells #[.int .i64 C.bits, .int .i64 C.rows, .int .i64 C.width, .int .i64 C.mode, .int .u64 C.seed] 24) rfl)
  have hC1 := CfgAt.of hcb
  have c0 := hC1.c0
  have c1 := hC1.c1
  have c2 := hC1.c2
  have c3 := hC1.c3
  have c4 := hC1.c4
  have cl := hC1.lt
  have hs1 := hE1.size
  have hbits : C.bits + 1 = (B : Int) + 1 := by rw [HB.out]
  go_wp2
  go_loopw [5, 18] (fun u5 u18 wr => ∃ (k : Nat) (L : Nat → Lev), k ≤ B + 1 ∧ u18 = .int .i64 k ∧ Ext w wr ∧ wr.heap[w.heap.size]? = some (.cells #[.int .i64 C.bits, .int .i64 C.rows, .int .i64 C.width, .int .i64 C.mode, .int .u64 C.seed] 24 (0, 0)) ∧
      wr.heap[w1.heap.size]? = some (.cells #[.int .i64 C.bits, .int .i64 C.rows, .int .i64 C.width, .int .i64 C.mode, .int .u64 C.seed, .slice none 0 0] 149 (0, 0)) ∧
      Made wr (w1.heap.size + 1) C k L (fun n => zs (lvN C n)) u5) (fun _ u18 _ => B + 1 - (intOf u18).toNat)
  case atStart =>
    refine ⟨0, fun _ => ⟨0, 0, 0⟩, Nat.zero_le _, rfl, hE1.allocR _, by rw [heap_old _ _ (by omega)]; exact hcb, heap_at _ _ rfl, ⟨⟨rfl, .inl ⟨rfl, rfl⟩⟩, ?_, ?_, ?_⟩⟩ <;> (intros; omega)
  case round =>
    obtain ⟨k, L, hk, rfl, hE, hcr, hbox, hM⟩ := hrel
    have hC := CfgAt.of hcr
    have d0 := hC.c0
    have d1 := hC.c1
    have d2 := hC.c2
    have d3 := hC.c3
    have d4 := hC.c4
    have dl := hC.lt
    have hbl := lt_of hbox
    have HC := Lib.hid hcr
    have HBX := Lib.hid hbox
    have HM := Lib.hid hM
    clear hC hcr hbox hM
    by_cases hlt : k < B + 1
    · go_wp2_with fail
      refine (LNew_c C h k (by omega) (by have := HB.out; omega) _).mono ?_
      rintro e w2 ⟨M, rfl, hL, n1, n2, n3, hx2⟩
      have hown := own_ext HM.out.row hx2
      have hszz := hx2.size
      obtain ⟨T, hT⟩ : ∃ T, lvV C k M = .iface T (.pointer (some ⟨M.s, 0, none⟩)) := ⟨lvT C k, rfl⟩
      rw [hT]
      have HT := Lib.hid hT
      clear hT
      have hll := lvVs_len C L k
      obtain ⟨i0, z0, hi0, hz0, hz1, hz2, hz3⟩ := info_lev
      go_wp2_with (at_builtin; refine wpList_appv w2 (.iface T (.pointer (some ⟨M.s, 0, none⟩))) rfl (lvVs C L k) u5 (w1.heap.size + 1) 62 hown 147 rfl _ _ rfl i0 z0 hi0 hz0 hz1 hz2 hz3 Tryz.underlying147 rfl rfl ?a1 ?a2 ?_)
      case a1 => omega
      case a2 => omega
      intro v' w' hown' hgr
      have hmade := HM.out.ext hx2
      have hnext := hmade.next (N := wr.heap.size) (ls := fun n => zs (lvN C n)) hL (fun n hn => HM.out.ltN n hn) (by omega) n1 n2 n3 rfl (by rw [HT.out, List.length_append, hll]; exact hown') hgr
      have hge : ∀ i, u5.ownBlock = some i → w1.heap.size + 1 ≤ i := fun i hi => own_blk hown hi
      have hex : Ext w w' := ext_grown (hE.trans' hx2) hgr (fun i hi => by have := hge i hi; omega)
      have hCx := (grown_old hgr (show w.heap.size < w2.heap.size by omega) (fun e => by have := hge _ e.symm; omega)).trans (hx2.keep HC.out)
      have hbx := (grown_old hgr (show w1.heap.size < w2.heap.size by omega) (fun e => by have := hge _ e.symm; omega)).trans (hx2.keep HBX.out)
      go_wp2
      go_roundw
      case rel => exact ⟨k + 1, _, by omega, by go_num, hex, hCx, hbx, hnext⟩
      case measure => simp [intOf]; omega
    · obtain rfl : k = B + 1 := by omega
      obtain ⟨p5, k5, c5, rfl⟩ := own_slice HM.out.row
      have hfz := frozen_of HBX.out 5
      have hbc := (cell_of HBX.out 5).trans rfl
      go_wp2
      go_ret2
      have hm := HM.out.setc (show w1.heap.size < w1.heap.size + 1 by omega) 5 (.slice p5 k5 c5)
      obtain ⟨g, hg, hK⟩ := hm.stack h HB.out ((setCell_same HBX.out 5 (.slice p5 k5 c5)).trans rfl)
      refine ⟨w1.heap.size, g, L, rfl, hK, hs1, by omega, fun n hn => ?_, hE.setR (p := ⟨w1.heap.size, 5, none⟩) hs1 _⟩
      have := HM.out.new n (by omega)
      omega
end Go.Proofs.YtfhdjekpdifajaaGreat

/- append of a row of updates to a row of the call's own. -/
namespace Go.Proofs.YtfhdjekpdifajaaGreat
set_option linter.unusedVariables false
open Go.RowKit
/-- Updates that lie at a place. -/
def UCells (W : World) (g off : Nat) (l : List (Int × Int)) : Prop :=
  ∀ k, k < l.length → W.cell? ⟨g, off + k * 2, none⟩ = some (.int .u64 (l.getD k (0, 0)).1) ∧ W.cell? ⟨g, off + k * 2 + 1, none⟩ = some (.int .i64 (l.getD k (0, 0)).2)
theorem UCells.ext {W W' : World} {g off : Nat} {l : List (Int × Int)} (h : UCells W g off l) (hg : g < W.heap.size) (he : Ext W W') : UCells W' g off l :=
  fun k hk => ⟨((bcell he).1 _ _ hg).trans (h k hk).1, ((bcell he).1 _ _ hg).trans (h k hk).2⟩
theorem UCells.take {W : World} {g off : Nat} {l : List (Int × Int)} (h : UCells W g off l) (n : Nat) : UCells W g off (l.take n) := by
  intro k hk
  rw [List.length_take] at hk
  have := h k (by omega)
  have e : (l.take n).getD k (0, 0) = l.getD k (0, 0) := by
    rw [List.getD_eq_getElem?_getD, List.getD_eq_getElem?_getD, List.getElem?_take_of_lt (by omega)]
  rw [e]; exact this
theorem UCells.drop {W : World} {g off : Nat} {l : List (Int × Int)} (h : UCells W g off l) (n : Nat) : UCells W g (off + n * 2) (l.drop n) := by
  intro k hk
  rw [List.length_drop] at hk
  have := h (n + k) (by omega)
  have e : (l.drop n).getD k (0, 0) = l.getD (n + k) (0, 0) := by
    rw [List.getD_eq_getElem?_getD, List.getD_eq_getElem?_getD, List.getElem?_drop]
  rw [e, show off + n * 2 + k * 2 = off + (n + k) * 2 by omega]; exact this
theorem updV_get {l : List (Int × Int)} {j : Nat} {v : Value} (h : (updV l)[j]? = some v) : ∃ k, k < l.length ∧ ((j = k * 2 ∧ v = .int .u64 (l.getD k (0, 0)).1) ∨ (j = k * 2 + 1 ∧ v = .int .i64 (l.getD k (0, 0)).2)) := by
  have hj := (List.getElem?_eq_some_iff.1 h).1
  rw [updV_len] at hj
  have hk : j / 2 < l.length := by omega
  obtain ⟨a1, a2⟩ := updV_at hk
  refine ⟨j / 2, hk, ?_⟩
  by_cases he : j % 2 = 0
  · left
    have hj2 : j = j / 2 * 2 := by omega
    rw [← hj2, h] at a1
    exact ⟨hj2, Option.some.inj a1⟩
  · right
    have hj2 : j = j / 2 * 2 + 1 := by omega
    rw [← hj2, h] at a2
    exact ⟨hj2, Option.some.inj a2⟩
/-- A slice is not longer than its row. -/
def SlCap (v : Value) : Prop := ∀ p n c, v = .slice p n c → n ≤ c
/-- A slice of updates is cells. -/
theorem UpsAt.place {w : World} {p : Option Addr} {c : Nat} {us : List (Int × Int)} (h : UpsAt w (.slice p us.length c) us) (hl : 0 < us.length) :
    ∃ g off, p = some ⟨g, off, none⟩ ∧ g < w.heap.size ∧ UCells w g off us := by
  obtain ⟨g, off, cap, hvv, hgl, hcell⟩ := h.resolve_left (fun h => by rw [h.2] at hl; simp at hl)
  have := Value.slice.inj hvv
  exact ⟨g, off, this.1, hgl, hcell⟩
section
variable {P : Program}
theorem wpList_appus (W : World) {ops : Array Oper} {rest : List Oper} {o : Oper} {a : Act} {Q : Exit → Act → World → Prop} (l xs : List (Int × Int)) (v : Value) (base : Nat) (e : TypeId) (hown : W.ownsRow base e 2 v xs.length (updV xs)) (t : TypeId)
    (hgd : o.guard = none) (s y : Operand) (ho : o.op = .call { callee := .builtin .append, args := #[s, y], argTypes := #[t, t] })
    (i0 : TypeInfo) (z : Value) (hi : P.info? e = some i0) (hz0 : i0.zero = some z) (hz1 : i0.size = 2) (hz2 : i0.bytes = 16) (hzs : z.cells.size = 2) (ht : P.underlying t = some (.slice e))
    (hs : a.eval s = v) (g off m c : Nat) (hx : a.eval y = .slice (some ⟨g, off, none⟩) m c) (hm : m = l.length) (hc : UCells W g off l)
    (hl : xs.length + m ≤ 1000000000) (hbase : base ≤ W.heap.size)
    (h : ∀ v' w', w'.ownsRow base e 2 v' (xs ++ l).length (updV (xs ++ l)) → W.grownBy w' v.ownBlock → (v'.ownBlock = v.ownBlock ∨ v'.ownBlock = some W.heap.size) → wpList P ops Q rest (a.put o.dst v') w') :
    wpList P ops Q (o :: rest) a W := by
  subst hm
  refine wpList_append_sep _ hgd s y t ho base e i0 z 2 16 ht hi hz0 hz1 hz2 hzs (by decide) v xs.length (updV xs) hs hown ⟨g, off, none⟩ l.length c (updV l) hx (by rw [updV_len]) ?_ ?_ (by unfold maxLen; omega) (by omega) hbase ?_
  · intro j u hu
    obtain ⟨k, hk, ⟨rfl, rfl⟩ | ⟨rfl, rfl⟩⟩ := updV_get hu
    · rw [show (⟨g, off, none⟩ : Addr).add (k * 2) = ⟨g, off + k * 2, none⟩ by simp [Addr.add]]
      exact (hc k hk).1
    · rw [show (⟨g, off, none⟩ : Addr).add (k * 2 + 1) = ⟨g, off + k * 2 + 1, none⟩ by simp [Addr.add, Nat.add_assoc]]
      exact (hc k hk).2
  · intro u hu
    obtain ⟨j, hj⟩ := List.getElem?_of_mem hu
    obtain ⟨k, hk, ⟨_, rfl⟩ | ⟨_, rfl⟩⟩ := updV_get hj <;> rfl
  · intro v' w' h1 h2 h3
    refine h v' w' ?_ h2 h3
    rw [List.length_append, updV_append]
    exact h1
/-- The same, of a slice that may have nothing. -/
theorem wpList_appz (W : World) {ops : Array Oper} {rest : List Oper} {o : Oper} {a : Act} {Q : Exit → Act → World → Prop} (l xs : List (Int × Int)) (v : Value) (base : Nat) (e : TypeId) (hown : W.ownsRow base e 2 v xs.length (updV xs)) (t : TypeId)
    (hgd : o.guard = none) (s y : Operand) (ho : o.op = .call { callee := .builtin .append, args := #[s, y], argTypes := #[t, t] })
    (i0 : TypeInfo) (z : Value) (hi : P.info? e = some i0) (hz0 : i0.zero = some z) (hz1 : i0.size = 2) (hz2 : i0.bytes = 16) (hzs : z.cells.size = 2) (ht : P.underlying t = some (.slice e))
    (hs : a.eval s = v) (hx : ∃ p c, a.eval y = .slice p l.length c ∧ (l = [] ∨ ∃ g off, p = some ⟨g, off, none⟩ ∧ UCells W g off l))
    (hl : xs.length + l.length ≤ 1000000000) (hbase : base ≤ W.heap.size)
    (h : ∀ (v' : Value) (w' : World), w'.ownsRow base e 2 v' (xs ++ l).length (updV (xs ++ l)) → (∀ W0 : World, Ext W0 W → W0.heap.size ≤ base → Ext W0 w') → (∀ (k : Nat) (cur : Array Value) (t' : TypeId), W.heap[k]? = some (Obj.cells cur t' (0, 0)) → t' ≠ e → w'.heap[k]? = some (Obj.cells cur t' (0, 0))) → wpList P ops Q rest (a.put o.dst v') w') :
    wpList P ops Q (o :: rest) a W := by
  obtain ⟨p, c, hx, hc⟩ := hx
  by_cases hl0 : l = []
  · subst hl0
    refine wpList_append_zero hgd s y t ho base e i0 2 ht hi v xs.length (updV xs) hs hown p c hx ?_
    refine h v W (by rw [List.append_nil]; exact hown) (fun W0 h _ => h) (fun k cur t' hk _ => hk)
  · obtain ⟨g, off, rfl, huc⟩ := hc.resolve_left hl0
    refine wpList_appus W l xs v base e hown t hgd s y ho i0 z hi hz0 hz1 hz2 hzs ht hs g off l.length c hx rfl huc hl hbase ?_
    intro v' w' h1 h2 h3
    refine h v' w' h1 (fun W0 hE hb => ext_grown0 hE h2 fun k hk => Nat.le_trans hb (own_blk hown hk)) (fun k cur t' hk ht' => ?_)
    rw [h2.block k (lt_of hk) (fun he => ?_)]
    · exact hk
    · obtain ⟨cur', hc'⟩ := own_type hown he.symm
      rw [hk] at hc'
      injection hc' with hc'
      injection hc' with _ hc' _
      exact ht' hc'
end
/-- A row lies on, where another block is changed. -/
theorem own_off {W Wf : World} {base n b : Nat} {e t : TypeId} {v : Value} {xs : List Value} {cur : Array Value} (ho : W.ownsRow base e 2 v n xs) (hy : W.heap[b]? = some (Obj.cells cur t (0, 0))) (ht : t ≠ e) (hof : ∀ j, j ≠ b → Wf.heap[j]? = W.heap[j]?) : Wf.ownsRow base e 2 v n xs := by
  refine ⟨ho.1, ?_⟩
  rcases ho.2 with h | ⟨g, cap, cur', hv, hg, hh, hr⟩
  · exact .inl h
  · refine .inr ⟨g, cap, cur', hv, hg, ?_, hr⟩
    rw [hof g (fun he => ?_)]
    · exact hh
    · subst he
      rw [hh] at hy
      injection hy with hy
      injection hy with _ hy _
      exact ht hy.symm
theorem fin6 {Φ : World → Prop} {w W : World} {b : Nat} {x0 x1 x2 x3 x4 x5 : Value} {t : TypeId} (h : W.heap[b]? = some (.cells #[x0, x1, x2, x3, x4, x5] t (0, 0))) (hE : Ext w W) (hb : w.heap.size ≤ b) {u0 u1 u2 u3 u4 u5 : Value}
    (k : ∀ Wf, Wf.heap[b]? = some (.cells #[u0, u1, u2, u3, u4, u5] t (0, 0)) → Ext w Wf → (∀ j, j ≠ b → Wf.heap[j]? = W.heap[j]?) → Φ Wf) :
    Φ ((((((W.setCell ⟨b, 0, none⟩ u0).setCell ⟨b, 1, none⟩ u1).setCell ⟨b, 2, none⟩ u2).setCell ⟨b, 3, none⟩ u3).setCell ⟨b, 4, none⟩ u4).setCell ⟨b, 5, none⟩ u5) := by
  refine k _ ?_ ((((((hE.setR hb _).setR hb _).setR hb _).setR hb _).setR hb _).setR hb _) (fun j hj => ?_)
  · rw [setCell_same (setCell_same (setCell_same (setCell_same (setCell_same (setCell_same h 0 u0) 1 u1) 2 u2) 3 u3) 4 u4) 5 u5]; rfl
  · rw [setCell_other _ _ hj, setCell_other _ _ hj, setCell_other _ _ hj, setCell_other _ _ hj, setCell_other _ _ hj, setCell_other _ _ hj]
end Go.Proofs.YtfhdjekpdifajaaGreat

/- append of pieces to a row of the call's own; two rows that lie apart. -/
namespace Go.Proofs.YtfhdjekpdifajaaGreat
set_option linter.unusedVariables false
open Go.RowKit
theorem pcV_append (a b : List (Nat × Int)) : pcV (a ++ b) = pcV a ++ pcV b := by unfold pcV; rw [List.flatMap_append]
section
variable {P : Program}
/-- 's = append(s, p)', p a piece, s a row of the call's own. -/
theorem wpList_appp (W : World) {ops : Array Oper} {rest : List Oper} {o : Oper} {a : Act} {Q : Exit → Act → World → Prop} (p : Nat × Int) (l : List (Nat × Int)) (v : Value) (base : Nat) (e e' : TypeId) (hown : W.ownsRow base e 2 v l.length (pcV l)) (t : TypeId)
    (hgd : o.guard = none) (s y : Operand) (ho : o.op = .call { callee := .builtin .append, args := #[s, y], argTypes := #[t, t] })
    (i0 : TypeInfo) (z : Value) (hi : P.info? e = some i0) (hz0 : i0.zero = some z) (hz1 : i0.size = 2) (hz2 : i0.bytes = 16) (hzs : z.cells.size = 2) (ht : P.underlying t = some (.slice e))
    (hs : a.eval s = v) (hx : a.eval y = .slice (some ⟨W.heap.size, 0, none⟩) 1 1)
    (hl : l.length ≤ 1000000000) (hbase : base ≤ W.heap.size)
    (h : ∀ v' w', w'.ownsRow base e 2 v' (l ++ [p]).length (pcV (l ++ [p])) → (W.alloc (.cells #[.int .i64 (p.1 : Int), .int .u64 p.2] e')).grownBy w' v.ownBlock → (v'.ownBlock = v.ownBlock ∨ v'.ownBlock = some (W.heap.size + 1)) → wpList P ops Q rest (a.put o.dst v') w') :
    wpList P ops Q (o :: rest) a (W.alloc (.cells #[.int .i64 (p.1 : Int), .int .u64 p.2] e')) := by
  refine wpList_append_sep _ hgd s y t ho base e i0 z 2 16 ht hi hz0 hz1 hz2 hzs (by decide) v l.length (pcV l) hs (hown.alloc _) ⟨W.heap.size, 0, none⟩ 1 1 [.int .i64 (p.1 : Int), .int .u64 p.2] hx rfl ?_ ?_ (by unfold maxLen; omega) (by omega) (by rw [size_alloc]; omega) ?_
  · intro j v hv
    have hj : j = 0 ∨ j = 1 := by
      have := (List.getElem?_eq_some_iff.1 hv).1
      simp at this; omega
    rcases hj with rfl | rfl
    · rw [show (⟨W.heap.size, 0, none⟩ : Addr).add 0 = ⟨W.heap.size, 0, none⟩ by simp [Addr.add], cell_of (heap_at W _ rfl) 0]
      exact hv
    · rw [show (⟨W.heap.size, 0, none⟩ : Addr).add 1 = ⟨W.heap.size, 1, none⟩ by simp [Addr.add], cell_of (heap_at W _ rfl) 1]
      exact hv
  · intro x hx
    simp at hx
    rcases hx with rfl | rfl <;> rfl
  · intro v' w' h1 h2 h3
    refine h v' w' ?_ h2 ?_
    · rw [List.length_append, pcV_append]
      exact h1
    · rw [size_alloc] at h3; exact h3
theorem wpList_apppz (W : World) {ops : Array Oper} {rest : List Oper} {o : Oper} {a : Act} {Q : Exit → Act → World → Prop} (l xs : List (Nat × Int)) (v : Value) (base : Nat) (e : TypeId) (hown : W.ownsRow base e 2 v xs.length (pcV xs)) (t : TypeId)
    (hgd : o.guard = none) (s y : Operand) (ho : o.op = .call { callee := .builtin .append, args := #[s, y], argTypes := #[t, t] })
    (i0 : TypeInfo) (z : Value) (hi : P.info? e = some i0) (hz0 : i0.zero = some z) (hz1 : i0.size = 2) (hz2 : i0.bytes = 16) (hzs : z.cells.size = 2) (ht : P.underlying t = some (.slice e))
    (hs : a.eval s = v) (u : Value) (hx : a.eval y = u) (base' : Nat) (hu : W.ownsRow base' e 2 u l.length (pcV l))
    (hl : xs.length + l.length ≤ 1000000000) (hbase : base ≤ W.heap.size)
    (h : ∀ (v' : Value) (w' : World), w'.ownsRow base e 2 v' (xs ++ l).length (pcV (xs ++ l)) → (∀ W0 : World, Ext W0 W → W0.heap.size ≤ base → Ext W0 w') → (∀ (k : Nat) (cur : Array Value) (t' : TypeId), W.heap[k]? = some (Obj.cells cur t' (0, 0)) → t' ≠ e → w'.heap[k]? = some (Obj.cells cur t' (0, 0))) → wpList P ops Q rest (a.put o.dst v') w') :
    wpList P ops Q (o :: rest) a W := by
  rcases hu.2 with ⟨rfl, h0⟩ | ⟨g, cap, cur, rfl, hb, hh, hnc, hcm, hcs, htk⟩
  · have hl0 : l = [] := List.length_eq_zero_iff.1 h0
    subst hl0
    refine wpList_append_zero hgd s y t ho base e i0 2 ht hi v xs.length (pcV xs) hs hown none 0 hx ?_
    exact h v W (by rw [List.append_nil]; exact hown) (fun W0 h _ => h) (fun k cur t' hk _ => hk)
  · refine wpList_append_sep _ hgd s y t ho base e i0 z 2 16 ht hi hz0 hz1 hz2 hzs (by decide) v xs.length (pcV xs) hs hown ⟨g, 0, none⟩ l.length cap (pcV l) hx (by rw [pcV_len]) ?_ ?_ (by unfold maxLen; omega) (by omega) hbase ?_
    · intro j u' hu'
      have hj := (List.getElem?_eq_some_iff.1 hu').1
      rw [pcV_len] at hj
      rw [← htk, List.getElem?_take_of_lt hj, Array.getElem?_toList] at hu'
      rw [show (⟨g, 0, none⟩ : Addr).add j = ⟨g, j, none⟩ by (simp [Addr.add]; try omega), cell_of hh]
      exact hu'
    · intro u' hu'
      obtain ⟨j, hj⟩ := List.getElem?_of_mem hu'
      obtain ⟨k, hk, ⟨_, rfl⟩ | ⟨_, rfl⟩⟩ := pcV_get hj <;> rfl
    · intro v' w' h1 h2 h3
      refine h v' w' (by rw [List.length_append, pcV_append]; exact h1) (fun W0 hE hb => ext_grown0 hE h2 fun k hk => Nat.le_trans hb (own_blk hown hk)) (fun k cur t' hk ht' => ?_)
      rw [h2.block k (lt_of hk) (fun he => ?_)]
      · exact hk
      · obtain ⟨cur', hc'⟩ := own_type hown he.symm
        rw [hk] at hc'
        injection hc' with hc'
        injection hc' with _ hc' _
        exact ht' hc'
end
theorem own_keepB {w w' : World} {base n size : Nat} {e : TypeId} {v : Value} {xs : List Value} (h : w.ownsRow base e size v n xs) (hk : ∀ k, v.ownBlock = some k → w'.heap[k]? = w.heap[k]?) : w'.ownsRow base e size v n xs := by
  refine ⟨h.1, ?_⟩
  rcases h.2 with h' | ⟨g, cap, cur, rfl, hb, hh, hr⟩
  · exact .inl h'
  · exact .inr ⟨g, cap, cur, rfl, hb, (hk g rfl).trans hh, hr⟩
theorem own_lt {w : World} {base n size : Nat} {e : TypeId} {v : Value} {xs : List Value} (h : w.ownsRow base e size v n xs) {k : Nat} (hk : v.ownBlock = some k) : k < w.heap.size := by
  obtain ⟨cur, hc⟩ := own_type h hk; exact lt_of hc
theorem own_notB {w : World} {base n size b : Nat} {e t : TypeId} {v : Value} {xs : List Value} {cur : Array Value} (h : w.ownsRow base e size v n xs) (hb : w.heap[b]? = some (.cells cur t (0, 0))) (ht : t ≠ e) : v.ownBlock ≠ some b := by
  intro hk
  obtain ⟨cur', hc⟩ := own_type h hk
  rw [hb] at hc
  injection hc with hc
  injection hc with _ hc _
  exact ht hc
/-- Two rows do not lie in one block. -/
def Dja (v u : Value) : Prop := ∀ i, v.ownBlock = some i → u.ownBlock ≠ some i
theorem Dja.symm {v u : Value} (h : Dja v u) : Dja u v := fun i h1 h2 => h i h2 h1
/-- Two rows of pieces that lie apart, each in a box. -/
structure CovW (w W : World) (b6 b8 : Nat) (v6 v8 : Value) (pre suf : List (Nat × Int)) : Prop where
  x6 : W.heap[b6]? = some (.cells #[v6] 165 (0, 0))
  x8 : W.heap[b8]? = some (.cells #[v8] 165 (0, 0))
  o6 : W.ownsRow w.heap.size 39 2 v6 pre.length (pcV pre)
  o8 : W.ownsRow w.heap.size 39 2 v8 suf.length (pcV suf)
  dj : Dja v6 v8
  g6 : w.heap.size ≤ b6
  g8 : w.heap.size ≤ b8
  ne : b6 ≠ b8
  ext : Ext w W
theorem CovW.symm {w W : World} {b6 b8 : Nat} {v6 v8 : Value} {pre suf : List (Nat × Int)} (h : CovW w W b6 b8 v6 v8 pre suf) : CovW w W b8 b6 v8 v6 suf pre := ⟨h.x8, h.x6, h.o8, h.o6, h.dj.symm, h.g8, h.g6, h.ne.symm, h.ext⟩
theorem CovW.set {w W : World} {b6 b8 : Nat} {v6 v8 : Value} {pre suf : List (Nat × Int)} (h : CovW w W b6 b8 v6 v8 pre suf) : CovW w (W.setCell ⟨b6, 0, none⟩ v6) b6 b8 v6 v8 pre suf :=
  ⟨by rw [setCell_same h.x6]; rfl, by rw [setCell_other _ _ h.ne.symm]; exact h.x8, own_keepB h.o6 (fun k hk => setCell_other _ _ (fun e => own_notB h.o6 h.x6 (by decide) (e ▸ hk))), own_keepB h.o8 (fun k hk => setCell_other _ _ (fun e => own_notB h.o8 h.x6 (by decide) (e ▸ hk))), h.dj, h.g6, h.g8, h.ne, h.ext.setR (p := ⟨b6, 0, none⟩) h.g6 _⟩
theorem CovW.app0 {w W w1 : World} {b6 b8 : Nat} {v6 v8 : Value} {pre suf : List (Nat × Int)} {o : Obj} (h : CovW w W b6 b8 v6 v8 pre suf) (h2 : (W.alloc o).grownBy w1 v6.ownBlock) : w1.heap[b6]? = some (.cells #[v6] 165 (0, 0)) :=
  (grown_old h2 (lt_of h.x6) (fun e => own_notB h.o6 h.x6 (by decide) e.symm)).trans h.x6
/-- One of them has a piece more. -/
theorem CovW.app {w W w1 : World} {b6 b8 : Nat} {v6 v8 v' : Value} {pre suf : List (Nat × Int)} {p : Nat × Int} {o : Obj} (h : CovW w W b6 b8 v6 v8 pre suf)
    (h1 : w1.ownsRow w.heap.size 39 2 v' (pre.length + 1) (pcV (pre ++ [p]))) (h2 : (W.alloc o).grownBy w1 v6.ownBlock) (h3 : v'.ownBlock = v6.ownBlock ∨ v'.ownBlock = some (W.heap.size + 1)) :
    CovW w (w1.setCell ⟨b6, 0, none⟩ v') b6 b8 v' v8 (pre ++ [p]) suf := by
  replace h1 : w1.ownsRow w.heap.size 39 2 v' (pre ++ [p]).length (pcV (pre ++ [p])) := by rw [List.length_append]; exact h1
  have old : ∀ k, k < W.heap.size → v6.ownBlock ≠ some k → w1.heap[k]? = W.heap[k]? := fun k hk hn => grown_old h2 hk (fun e => hn e.symm)
  have k6 := (old b6 (lt_of h.x6) (own_notB h.o6 h.x6 (by decide))).trans h.x6
  have k8 := (old b8 (lt_of h.x8) (own_notB h.o6 h.x8 (by decide))).trans h.x8
  have r8 : w1.ownsRow w.heap.size 39 2 v8 suf.length (pcV suf) := own_keepB h.o8 (fun k hk => old k (own_lt h.o8 hk) (fun e => h.dj k e hk))
  refine ⟨by rw [setCell_same k6]; rfl, by rw [setCell_other _ _ h.ne.symm]; exact k8, own_keepB h1 (fun k hk => setCell_other _ _ (fun e => own_notB h1 k6 (by decide) (e ▸ hk))), own_keepB r8 (fun k hk => setCell_other _ _ (fun e => own_notB r8 k6 (by decide) (e ▸ hk))), ?_, h.g6, h.g8, h.ne, ?_⟩
  · intro i hi hu
    rcases h3 with h3 | h3
    · exact h.dj i (h3 ▸ hi) hu
    · have := own_lt h.o8 hu
      rw [h3] at hi
      have := Option.some.inj hi
      omega
  · have h2' : Ext w w1 := by
      refine Below.grown (h.ext.allocR o) h2 (by rw [size_alloc]; have := h.ext.size; omega) (fun k hk => own_blk h.o6 hk)
    exact h2'.setR (p := ⟨b6, 0, none⟩) h.g6 _
end Go.Proofs.YtfhdjekpdifajaaGreat
