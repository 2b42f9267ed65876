/- The calls of package grid, over a grid that lies in memory: what they tell, and what they change. -/
import Derived.Test.YthancaehlijaoaaWide2
namespace Go.Proofs.Ythancaehlijaoaa
set_option linter.unusedVariables false
open Go.RowKit

theorem info_i64 : (Try.prog.info? 2).map (fun i => (i.zero, i.size, i.bytes)) = some (some (.int .i64 0), 1, 8) := by kernel_rfl

/-- A row of numbers, from block c on, of so many cells, and spare ones. -/
structure CAt (w : World) (c cap : Nat) (l : List Int) : Prop where
  ex : ∃ cur : Array Value, w.heap[c]? = some (.cells cur 2 (0, 0)) ∧ cur.size = cap ∧ cur.toList.take l.length = ints l
  le : l.length ≤ cap
  mx : cap ≤ maxLen
/-- A grid. -/
structure GAt (w : World) (b c : Nat) (R W : Nat) (l : List Int) : Prop where
  ex : ∃ cap, w.heap[b]? = some (.cells #[.int .i64 R, .int .i64 W, .slice (some ⟨c, 0, none⟩) l.length cap] 135 (0, 0)) ∧ CAt w c cap l
  r1 : 1 ≤ R
  r2 : R ≤ 8
  w1 : 1 ≤ W
  w2 : W ≤ 128
  len : l.length = R * W

theorem CAt.cell {w : World} {c cap : Nat} {l : List Int} (h : CAt w c cap l) {i : Nat} (hi : i < l.length) : w.cell? ⟨c, i, none⟩ = some (.int .i64 (l.getD i 0)) := by
  obtain ⟨cur, h1, h2, h3⟩ := h.ex
  rw [cell_of h1]
  have : (cur.toList.take l.length)[i]? = (ints l)[i]? := by rw [h3]
  rw [List.getElem?_take_of_lt hi] at this
  simp only [Array.getElem?_toList] at this
  rw [this]
  simp [ints, hi]
theorem CAt.frozen {w : World} {c cap : Nat} {l : List Int} (h : CAt w c cap l) (i : Nat) : w.frozen? ⟨c, i, none⟩ = false := by
  obtain ⟨cur, h1, h2, h3⟩ := h.ex
  exact frozen_of h1 i
theorem CAt.lt {w : World} {c cap : Nat} {l : List Int} (h : CAt w c cap l) : c < w.heap.size := by
  obtain ⟨cur, h1, _⟩ := h.ex
  exact lt_of h1
theorem CAt.keep {w w' : World} {c cap : Nat} {l : List Int} (h : CAt w c cap l) (he : w'.heap[c]? = w.heap[c]?) : CAt w' c cap l :=
  ⟨by rw [he]; exact h.ex, h.le, h.mx⟩
theorem CAt.ints {w : World} {c cap : Nat} {l : List Int} (h : CAt w c cap l) : IntsAt w (.slice (some ⟨c, 0, none⟩) l.length cap) l :=
  .inr ⟨c, 0, cap, rfl, h.lt, fun k hk => by rw [Nat.zero_add]; exact h.cell hk⟩
theorem CAt.row {w : World} {c cap base : Nat} {l : List Int} (h : CAt w c cap l) (hb : base ≤ c) : w.ownsRow base 2 1 (.slice (some ⟨c, 0, none⟩) l.length cap) l.length (Go.Proofs.Ythancaehlijaoaa.ints l) := by
  obtain ⟨cur, h1, h2, h3⟩ := h.ex
  exact ownsRow_of h1 hb h.le h.mx h2 h3
theorem CAt.of_row {w : World} {base n : Nat} {v : Value} {l : List Int} (h : w.ownsRow base 2 1 v n (Go.Proofs.Ythancaehlijaoaa.ints l)) (hn : 0 < n) : ∃ c cap, v = .slice (some ⟨c, 0, none⟩) l.length cap ∧ base ≤ c ∧ CAt w c cap l := by
  obtain ⟨h1, h2⟩ := h
  have hl : n = l.length := by simpa [Go.Proofs.Ythancaehlijaoaa.ints] using h1.symm
  subst hl
  rcases h2 with ⟨_, h3⟩ | ⟨g, cap, cur, rfl, hb, hh, hc, hm, hs, ht⟩
  · omega
  · exact ⟨g, cap, rfl, hb, ⟨cur, hh, by omega, by rw [Nat.mul_one] at ht; exact ht⟩, hc, hm⟩
theorem CAt.set {w : World} {c cap : Nat} {l : List Int} (h : CAt w c cap l) {i : Nat} (hi : i < l.length) (n : Int) : CAt (w.setCell ⟨c, i, none⟩ (.int .i64 n)) c cap (l.set i n) := by
  obtain ⟨cur, h1, h2, h3⟩ := h.ex
  refine ⟨⟨_, setCell_same h1 _ _, by simpa using h2, ?_⟩, by simpa using h.le, h.mx⟩
  rw [Array.toList_setIfInBounds, List.length_set, List.take_set, h3]
  simp [Go.Proofs.Ythancaehlijaoaa.ints, List.map_set]
theorem GAt.keep {w w' : World} {b c R W : Nat} {l : List Int} (h : GAt w b c R W l) (hb : w'.heap[b]? = w.heap[b]?) (hc : w'.heap[c]? = w.heap[c]?) : GAt w' b c R W l := by
  obtain ⟨cap, h1, h2⟩ := h.ex
  exact ⟨⟨cap, by rw [hb]; exact h1, h2.keep hc⟩, h.r1, h.r2, h.w1, h.w2, h.len⟩
theorem GAt.ltb {w : World} {b c R W : Nat} {l : List Int} (h : GAt w b c R W l) : b < w.heap.size := by
  obtain ⟨cap, h1, h2⟩ := h.ex
  exact lt_of h1
theorem GAt.ltc {w : World} {b c R W : Nat} {l : List Int} (h : GAt w b c R W l) : c < w.heap.size := by
  obtain ⟨cap, h1, h2⟩ := h.ex
  exact h2.lt
theorem GAt.ext {w w' : World} {b c R W : Nat} {l : List Int} (h : GAt w b c R W l) (he : Ext w w') : GAt w' b c R W l :=
  h.keep (he.block b h.ltb) (he.block c h.ltc)
theorem GAt.ne {w : World} {b c R W : Nat} {l : List Int} (h : GAt w b c R W l) : b ≠ c := by
  obtain ⟨cap, h1, h2⟩ := h.ex
  obtain ⟨cur, h3, _⟩ := h2.ex
  intro e
  subst e
  rw [h1] at h3
  simp at h3
theorem GAt.set {w : World} {b c R W : Nat} {l : List Int} (h : GAt w b c R W l) {i : Nat} (hi : i < l.length) (n : Int) : GAt (w.setCell ⟨c, i, none⟩ (.int .i64 n)) b c R W (l.set i n) := by
  have hne := h.ne
  obtain ⟨cap, h1, h2⟩ := h.ex
  exact ⟨⟨cap, by rw [setCell_other _ _ hne, List.length_set]; exact h1, h2.set hi n⟩, h.r1, h.r2, h.w1, h.w2, by rw [List.length_set]; exact h.len⟩
theorem mod_set (w : World) (c i : Nat) (v : Value) : Mod (fun k => k = c) w (w.setCell ⟨c, i, none⟩ v) :=
  ⟨rfl, rfl, rfl, by rw [size_setCell]; exact Nat.le_refl _, fun k _ hk => setCell_other _ _ hk⟩
theorem idx_lt {R W r c : Nat} (hr : r < R) (hc : c < W) : r * W + c < R * W :=
  Nat.lt_of_lt_of_le (by rw [Nat.add_mul, Nat.one_mul]; omega) (Nat.mul_le_mul_right W (show r + 1 ≤ R by omega))
theorem idx_le {R W r c : Nat} (h2 : R ≤ 8) (h4 : W ≤ 128) (hr : r < R) (hc : c < W) : r * W + c < 1024 :=
  Nat.lt_of_lt_of_le (idx_lt hr hc) (Nat.mul_le_mul h2 h4)

set_option maxRecDepth 20000 in
set_option maxHeartbeats 1000000 in
theorem place_yes (b c R W : Nat) (l : List Int) (w : World) (h : GAt w b c R W l) (r k : Nat) (hr : r < R) (hk : k < W) :
    Calls Try.prog 94 #[.pointer (some ⟨b, 0, none⟩), .int .i64 r, .int .i64 k] w fun e w' => e = .returned (.tuple #[.int .i64 ((r * W + k : Nat) : Int), .bool true]) ∧ w = w' := by
  obtain ⟨cap, h1, _⟩ := h.ex
  have c0 := cell_of h1 0
  have c1 := cell_of h1 1
  simp at c0 c1
  have hx := idx_le h.r2 h.w2 hr hk
  have r2 := h.r2
  have w2 := h.w2
  have e1 : ((r * W + k : Nat) : Int) = (r : Int) * W + k := by push_cast; rfl
  have E1 := Lib.hid e1
  have g1 : 0 ≤ (r : Int) * W := Int.mul_nonneg (by omega) (by omega)
  have g2 : (r : Int) * W + k < 1024 := by omega
  have d1 : decide ((R : Int) ≤ r) = false := by simp; omega
  have d2 : decide ((W : Int) ≤ k) = false := by simp; omega
  clear h1 h e1 hx
  go_enter Try.func94, Try.ntmps94
  go_wp2
  go_ret2
  exact ⟨by rw [E1.out]; rfl, rfl⟩
theorem getD_set_eq {l : List Int} {i : Nat} (h : i < l.length) (n : Int) : (l.set i n).getD i 0 = n := by simp [h]
set_option maxHeartbeats 1000000 in
theorem At_c (b c R W : Nat) (l : List Int) (w : World) (h : GAt w b c R W l) (r k : Nat) (hr : r < R) (hk : k < W) :
    Calls Try.prog 98 #[.pointer (some ⟨b, 0, none⟩), .int .i64 r, .int .i64 k] w fun e w' => e = .returned (.int .i64 (l.getD (r * W + k) 0)) ∧ w = w' := by
  have hp := h
  obtain ⟨cap, h1, h2⟩ := h.ex
  have c2 := cell_of h1 2
  simp at c2
  have hlt : r * W + k < l.length := by rw [h.len]; exact idx_lt hr hk
  have c3 := h2.cell hlt
  have hlen := h2.le
  have hmx := h2.mx
  unfold maxLen at hmx
  generalize hi : r * W + k = i at *
  generalize l.getD i 0 = y at *
  have HI := Lib.hid hi
  have HP := Lib.hid hp
  generalize hn : l.length = n at *
  clear hi hn h h1 h2 hp
  go_enter Try.func98, Try.ntmps98
  go_wp2_with fail
  refine (place_yes b c R W l _ HP.out r k hr hk).mono ?_
  rintro e w' ⟨rfl, rfl⟩
  rw [HI.out]
  go_wp2
  go_ret
  exact ⟨rfl, rfl⟩
set_option maxHeartbeats 1000000 in
theorem Put_c (b c R W : Nat) (l : List Int) (w : World) (h : GAt w b c R W l) (r k : Nat) (hr : r < R) (hk : k < W) (n : Int) :
    Calls Try.prog 64 #[.pointer (some ⟨b, 0, none⟩), .int .i64 r, .int .i64 k, .int .i64 n] w fun e w' => e = .returned (.bool true) ∧ w.setCell ⟨c, r * W + k, none⟩ (.int .i64 n) = w' := by
  have hp := h
  obtain ⟨cap, h1, h2⟩ := h.ex
  have c2 := cell_of h1 2
  simp at c2
  have hlt : r * W + k < l.length := by rw [h.len]; exact idx_lt hr hk
  have c3 := h2.cell hlt
  have f3 := h2.frozen (r * W + k)
  have hlen := h2.le
  have hmx := h2.mx
  unfold maxLen at hmx
  generalize hi : r * W + k = i at *
  generalize l.getD i 0 = y at *
  have HI := Lib.hid hi
  have HP := Lib.hid hp
  generalize hn : l.length = m at *
  clear hi hn h h1 h2 hp
  go_enter Try.func64, Try.ntmps64
  go_wp2_with fail
  refine (place_yes b c R W l _ HP.out r k hr hk).mono ?_
  rintro e w' ⟨rfl, rfl⟩
  rw [HI.out]
  go_wp2
  go_ret
  exact ⟨rfl, rfl⟩
set_option maxHeartbeats 400000 in
theorem Rows_c (b c R W : Nat) (l : List Int) (w : World) (h : GAt w b c R W l) :
    Calls Try.prog 120 #[.pointer (some ⟨b, 0, none⟩)] w fun e w' => e = .returned (.int .i64 R) ∧ w = w' := by
  obtain ⟨cap, h1, h2⟩ := h.ex
  have c0 := cell_of h1 0
  simp at c0
  clear h1
  go_enter Try.func120, Try.ntmps120
  go_wp2
  go_ret
  exact ⟨rfl, rfl⟩
set_option maxHeartbeats 400000 in
theorem Width_c (b c R W : Nat) (l : List Int) (w : World) (h : GAt w b c R W l) :
    Calls Try.prog 121 #[.pointer (some ⟨b, 0, none⟩)] w fun e w' => e = .returned (.int .i64 W) ∧ w = w' := by
  obtain ⟨cap, h1, h2⟩ := h.ex
  have c1 := cell_of h1 1
  simp at c1
  clear h1
  go_enter Try.func121, Try.ntmps121
  go_wp2
  go_ret
  exact ⟨rfl, rfl⟩
end Go.Proofs.Ythancaehlijaoaa
