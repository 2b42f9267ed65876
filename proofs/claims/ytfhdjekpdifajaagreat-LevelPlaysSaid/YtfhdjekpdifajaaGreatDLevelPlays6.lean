/- Part. No condition. -/
import Derived.Test.YtfhdjekpdifajaaGreatDLevelPlays5
import Derived.Test.YtfhdjekpdifajaaGreatDLevelPlays2
namespace Go.Proofs.YtfhdjekpdifajaaGreat
set_option linter.unusedVariables false
open Go.RowKit
theorem fillA_congr {f g : Nat → Int} (h : ∀ j, j < 10 → f j = g j) : fillA f 10 10 = fillA g 10 10 := by
  apply Array.ext
  · simp [fillA]
  · intro i h1 h2
    have hi : i < 10 := by simpa [fillA] using h1
    simp [fillA, h i hi]
theorem fillA_put (f : Nat → Int) (m : Nat) (v : Int) (hm : m < 10) : (fillA f 10 10).setIfInBounds m (.int .i64 v) = fillA (fun j => if j = m then v else f j) 10 10 := by
  apply Array.ext
  · simp [fillA]
  · intro i h1 h2
    have hi : i < 10 := by simpa [fillA] using h1
    by_cases he : m = i
    · subst he; simp [fillA]
    · have he' : ¬ i = m := fun h => he h.symm
      simp [fillA, hi, he, he']
/-- A box of ten digits. -/
def LongAt (w : World) (b : Nat) (a : Nat → Int) : Prop := w.heap[b]? = some (.cells (fillA a 10 10) 237 (0, 0))
theorem LongAt.cell {w : World} {b : Nat} {a : Nat → Int} (h : LongAt w b a) {k : Nat} (hk : k < 10) : w.cell? ⟨b, k, none⟩ = some (.int .i64 (a k)) := by
  rw [cell_of h, fillA_at a 10 10 k hk, if_pos hk]
theorem LongAt.keep {w w' : World} {b : Nat} {a : Nat → Int} (h : LongAt w b a) (he : w'.heap[b]? = w.heap[b]?) : LongAt w' b a := he.trans h
theorem LongAt.congr {w : World} {b : Nat} {f g : Nat → Int} (h : LongAt w b f) (he : ∀ j, j < 10 → f j = g j) : LongAt w b g := by
  unfold LongAt at *; rw [← fillA_congr he]; exact h
theorem LongAt.put {w : World} {b : Nat} {f : Nat → Int} (h : LongAt w b f) {m : Nat} (hm : m < 10) (v : Int) : LongAt (w.setCell ⟨b, m, none⟩ (.int .i64 v)) b (fun j => if j = m then v else f j) := by
  unfold LongAt at *
  rw [setCell_same h m, fillA_put f m v hm]
theorem alloc4 (w : World) (o1 o2 o3 o4 : Obj) : ((((w.alloc o1).alloc o2).alloc o3).alloc o4).heap[w.heap.size]? = some o1 ∧ ((((w.alloc o1).alloc o2).alloc o3).alloc o4).heap[w.heap.size + 1]? = some o2 ∧ ((((w.alloc o1).alloc o2).alloc o3).alloc o4).heap[w.heap.size + 1 + 1]? = some o3 ∧ ((((w.alloc o1).alloc o2).alloc o3).alloc o4).heap[w.heap.size + 1 + 1 + 1]? = some o4 := by
  refine ⟨?_, ?_, ?_, heap_at _ _ (by simp only [size_alloc])⟩
  · rw [heap_old _ _ (by simp only [size_alloc]; omega), heap_old _ _ (by simp only [size_alloc]; omega), heap_old _ _ (by simp only [size_alloc]; omega)]
    exact heap_at _ _ rfl
  · rw [heap_old _ _ (by simp only [size_alloc]; omega), heap_old _ _ (by simp only [size_alloc]; omega)]
    exact heap_at _ _ (by simp only [size_alloc])
  · rw [heap_old _ _ (by simp only [size_alloc]; omega)]
    exact heap_at _ _ (by simp only [size_alloc])
theorem fin10 {Φ : World → Prop} {w W : World} {b : Nat} {x0 x1 x2 x3 x4 x5 x6 x7 x8 x9 : Value} {t : TypeId} (h : W.heap[b]? = some (.cells #[x0, x1, x2, x3, x4, x5, x6, x7, x8, x9] t (0, 0))) (hE : Ext w W) (hb : w.heap.size ≤ b) {u0 u1 u2 u3 u4 u5 u6 u7 u8 u9 : Value}
    (hΦ : ∀ W' : World, W'.heap[b]? = some (.cells #[u0, u1, u2, u3, u4, u5, u6, u7, u8, u9] t (0, 0)) → Ext w W' → Φ W') : Φ ((((((((((W.setCell ⟨b, 0, none⟩ u0).setCell ⟨b, 1, none⟩ u1).setCell ⟨b, 2, none⟩ u2).setCell ⟨b, 3, none⟩ u3).setCell ⟨b, 4, none⟩ u4).setCell ⟨b, 5, none⟩ u5).setCell ⟨b, 6, none⟩ u6).setCell ⟨b, 7, none⟩ u7).setCell ⟨b, 8, none⟩ u8).setCell ⟨b, 9, none⟩ u9) := by
  have h0 : (W.setCell ⟨b, 0, none⟩ u0).heap[b]? = some (.cells #[u0, x1, x2, x3, x4, x5, x6, x7, x8, x9] t (0, 0)) := setCell_same h 0 u0
  have h1 : ((W.setCell ⟨b, 0, none⟩ u0).setCell ⟨b, 1, none⟩ u1).heap[b]? = some (.cells #[u0, u1, x2, x3, x4, x5, x6, x7, x8, x9] t (0, 0)) := setCell_same h0 1 u1
  have h2 : (((W.setCell ⟨b, 0, none⟩ u0).setCell ⟨b, 1, none⟩ u1).setCell ⟨b, 2, none⟩ u2).heap[b]? = some (.cells #[u0, u1, u2, x3, x4, x5, x6, x7, x8, x9] t (0, 0)) := setCell_same h1 2 u2
  have h3 : ((((W.setCell ⟨b, 0, none⟩ u0).setCell ⟨b, 1, none⟩ u1).setCell ⟨b, 2, none⟩ u2).setCell ⟨b, 3, none⟩ u3).heap[b]? = some (.cells #[u0, u1, u2, u3, x4, x5, x6, x7, x8, x9] t (0, 0)) := setCell_same h2 3 u3
  have h4 : (((((W.setCell ⟨b, 0, none⟩ u0).setCell ⟨b, 1, none⟩ u1).setCell ⟨b, 2, none⟩ u2).setCell ⟨b, 3, none⟩ u3).setCell ⟨b, 4, none⟩ u4).heap[b]? = some (.cells #[u0, u1, u2, u3, u4, x5, x6, x7, x8, x9] t (0, 0)) := setCell_same h3 4 u4
  have h5 : ((((((W.setCell ⟨b, 0, none⟩ u0).setCell ⟨b, 1, none⟩ u1).setCell ⟨b, 2, none⟩ u2).setCell ⟨b, 3, none⟩ u3).setCell ⟨b, 4, none⟩ u4).setCell ⟨b, 5, none⟩ u5).heap[b]? = some (.cells #[u0, u1, u2, u3, u4, u5, x6, x7, x8, x9] t (0, 0)) := setCell_same h4 5 u5
  have h6 : (((((((W.setCell ⟨b, 0, none⟩ u0).setCell ⟨b, 1, none⟩ u1).setCell ⟨b, 2, none⟩ u2).setCell ⟨b, 3, none⟩ u3).setCell ⟨b, 4, none⟩ u4).setCell ⟨b, 5, none⟩ u5).setCell ⟨b, 6, none⟩ u6).heap[b]? = some (.cells #[u0, u1, u2, u3, u4, u5, u6, x7, x8, x9] t (0, 0)) := setCell_same h5 6 u6
  have h7 : ((((((((W.setCell ⟨b, 0, none⟩ u0).setCell ⟨b, 1, none⟩ u1).setCell ⟨b, 2, none⟩ u2).setCell ⟨b, 3, none⟩ u3).setCell ⟨b, 4, none⟩ u4).setCell ⟨b, 5, none⟩ u5).setCell ⟨b, 6, none⟩ u6).setCell ⟨b, 7, none⟩ u7).heap[b]? = some (.cells #[u0, u1, u2, u3, u4, u5, u6, u7, x8, x9] t (0, 0)) := setCell_same h6 7 u7
  have h8 : (((((((((W.setCell ⟨b, 0, none⟩ u0).setCell ⟨b, 1, none⟩ u1).setCell ⟨b, 2, none⟩ u2).setCell ⟨b, 3, none⟩ u3).setCell ⟨b, 4, none⟩ u4).setCell ⟨b, 5, none⟩ u5).setCell ⟨b, 6, none⟩ u6).setCell ⟨b, 7, none⟩ u7).setCell ⟨b, 8, none⟩ u8).heap[b]? = some (.cells #[u0, u1, u2, u3, u4, u5, u6, u7, u8, x9] t (0, 0)) := setCell_same h7 8 u8
  have h9 : ((((((((((W.setCell ⟨b, 0, none⟩ u0).setCell ⟨b, 1, none⟩ u1).setCell ⟨b, 2, none⟩ u2).setCell ⟨b, 3, none⟩ u3).setCell ⟨b, 4, none⟩ u4).setCell ⟨b, 5, none⟩ u5).setCell ⟨b, 6, none⟩ u6).setCell ⟨b, 7, none⟩ u7).setCell ⟨b, 8, none⟩ u8).setCell ⟨b, 9, none⟩ u9).heap[b]? = some (.cells #[u0, u1, u2, u3, u4, u5, u6, u7, u8, u9] t (0, 0)) := setCell_same h8 9 u9
  exact hΦ _ h9 ((((((((((hE.setR (p := ⟨b, 0, none⟩) hb _).setR (p := ⟨b, 1, none⟩) hb _).setR (p := ⟨b, 2, none⟩) hb _).setR (p := ⟨b, 3, none⟩) hb _).setR (p := ⟨b, 4, none⟩) hb _).setR (p := ⟨b, 5, none⟩) hb _).setR (p := ⟨b, 6, none⟩) hb _).setR (p := ⟨b, 7, none⟩) hb _).setR (p := ⟨b, 8, none⟩) hb _).setR (p := ⟨b, 9, none⟩) hb _)
structure MulD (a b : Nat → Int) (D c : Nat → Nat → Int) : Prop where
  ha : ∀ i, 0 ≤ a i ∧ a i ≤ 65535
  hb : ∀ i, 0 ≤ b i ∧ b i ≤ 65535
  hD : ∀ i j, 0 ≤ D i j ∧ D i j ≤ 65535
  hc : ∀ i k, 0 ≤ c i k ∧ c i k ≤ 65535
  d0 : ∀ j, D 0 j = 0
  c0 : ∀ i, c i 0 = 0
  s : ∀ i k, i + k < 10 → (D i (i + k) + a i * b k + c i k) % 65536 = D (i + 1) (i + k)
  n : ∀ i k, i + k < 10 → (D i (i + k) + a i * b k + c i k) / 65536 = c i (k + 1)
  l : ∀ i j, j < i → D (i + 1) j = D i j
set_option maxRecDepth 20000 in
set_option maxHeartbeats 8000000 in
theorem Mul_core (a b : Nat → Int) (D c : Nat → Nat → Int) (M : MulD a b D c) (w : World) :
    Calls Tryz.prog 177 #[longA a, longA b] w fun e w' => e = .returned (longA (D 10)) ∧ Ext w w' := by
  have HM := Lib.hid M
  clear M
  unfold longA
  go_enter Tryz.func177, Tryz.ntmps177
  go_wp2_with fail
  go_loopw [6] (fun u6 wr => ∃ i : Nat, i ≤ 10 ∧ u6 = .int .i64 i ∧ Ext w wr ∧ LongAt wr w.heap.size a ∧ LongAt wr (w.heap.size + 1) b ∧ LongAt wr (w.heap.size + 1 + 1) (fun _ => 0) ∧ LongAt wr (w.heap.size + 1 + 1 + 1) (D i)) (fun u6 _ => 10 - (intOf u6).toNat)
  case atStart =>
    obtain ⟨e1, e2, e3, e4⟩ := alloc4 w _ _ _ _
    exact ⟨0, Nat.zero_le _, rfl, (((Ext.alloc' _ _).allocR _).allocR _).allocR _, by unfold LongAt; rw [fill10]; exact e1, by unfold LongAt; rw [fill10]; exact e2, by unfold LongAt; rw [fill10]; exact e3, by unfold LongAt; rw [fill10]; simp only [HM.out.d0]; exact e4⟩
  case round =>
    obtain ⟨i, hi, rfl, hE, hA, hB, hZ, hO⟩ := hrel
    by_cases hgo : i < 10
    · have HA := Lib.hid hA
      have HB := Lib.hid hB
      have HZ := Lib.hid hZ
      have HO := Lib.hid hO
      clear hA hB hZ hO
      go_wp2_with fail
      go_loopw [7, 8] (fun u7 u8 wq => ∃ k : Nat, i + k ≤ 10 ∧ u7 = .int .i64 (c i k) ∧ u8 = .int .i64 k ∧ Ext w wq ∧ LongAt wq w.heap.size a ∧ LongAt wq (w.heap.size + 1) b ∧ LongAt wq (w.heap.size + 1 + 1) (fun _ => 0) ∧ LongAt wq (w.heap.size + 1 + 1 + 1) (fun j => if j < i + k then D (i + 1) j else D i j)) (fun _ u8 _ => 10 - (intOf u8).toNat)
      case atStart =>
        exact ⟨0, by omega, by rw [HM.out.c0], rfl, hE, HA.out, HB.out, HZ.out, HO.out.congr (fun j hj => by
          by_cases h : j < i + 0
          · rw [if_pos h]; exact (HM.out.l i j (by omega)).symm
          · rw [if_neg h])⟩
      case round =>
        clear hE HA HB HZ HO
        obtain ⟨k, hk, rfl, rfl, hE, hA, hB, hZ, hO⟩ := hrel
        by_cases hgo2 : i + k < 10
        · have x0 := hO.cell hgo2
          rw [if_neg (by omega)] at x0
          have x1 := hA.cell hgo
          have x2 := hB.cell (show k < 10 by omega)
          have f0 := frozen_of hO (i + k)
          have l0 := lt_of hA
          have l1 := lt_of hB
          have l3 := lt_of hO
          have hst := HM.out.s i k hgo2
          have hnn := HM.out.n i k hgo2
          obtain ⟨a1, a2⟩ := HM.out.ha i
          obtain ⟨b1, b2⟩ := HM.out.hb k
          obtain ⟨d1, d2⟩ := HM.out.hD i (i + k)
          obtain ⟨c1, c2⟩ := HM.out.hc i k
          have hp := mul_abs (a := a i) (b := b k) (A := 65535) (B := 65535) (by omega) (by omega)
          have hp0 : 0 ≤ a i * b k := Int.mul_nonneg a1 b1
          have HAt := Lib.hid hA
          have HBt := Lib.hid hB
          have HZt := Lib.hid hZ
          have HOt := Lib.hid hO
          have HST := Lib.hid hst
          have HNN := Lib.hid hnn
          have hgi : ((i : Int) + (k : Int) < 10) := by omega
          clear hA hB hZ hO hst hnn
          generalize hak : a i = ak at *
          generalize hbk : b k = bk at *
          generalize hdk : D i (i + k) = dk at *
          generalize hck : c i k = ck at *
          obtain ⟨p, hpp⟩ : ∃ p, ak * bk = p := ⟨_, rfl⟩
          rw [hpp] at hp hp0
          have HPP := Lib.hid hpp
          go_wp2_with fail
          go_region
          go_wp2_with fail
          go_roundw
          case rel =>
            refine ⟨k + 1, by omega, by rw [← HNN.out, HPP.out], by go_num, (hE.setR (p := ⟨w.heap.size + 1 + 1 + 1, i + k, none⟩) (by show _ ≤ w.heap.size + 1 + 1 + 1; omega) _).drewR, HAt.out.keep (setCell_other _ _ (by omega)), HBt.out.keep (setCell_other _ _ (by omega)), HZt.out.keep (setCell_other _ _ (by omega)), ?_⟩
            refine LongAt.congr (HOt.out.put hgo2 _) (fun j hj => ?_)
            by_cases h : j = i + k
            · rw [if_pos h, if_pos (by omega), h, ← HST.out, HPP.out]
            · rw [if_neg h]
              by_cases h2 : j < i + k
              · rw [if_pos h2, if_pos (by omega)]
              · rw [if_neg h2, if_neg (by omega)]
          case measure => simp [intOf]; omega
        · have hgi : ¬ ((i : Int) + (k : Int) < 10) := by omega
          have hO' : LongAt wr (w.heap.size + 1 + 1 + 1) (D (i + 1)) := hO.congr (fun j hj => if_pos (by omega))
          have HAt := Lib.hid hA
          have HBt := Lib.hid hB
          have HZt := Lib.hid hZ
          have HOt := Lib.hid hO'
          clear hA hB hZ hO hO'
          go_wp2_with fail
          go_roundw
          case rel => exact ⟨i + 1, by omega, by go_num, hE, HAt.out, HBt.out, HZt.out, HOt.out⟩
          case measure => simp [intOf]; omega
    · obtain rfl : i = 10 := by omega
      unfold LongAt at hZ hO
      obtain ⟨s, hs10⟩ : ∃ s, D 10 = s := ⟨_, rfl⟩
      rw [hs10] at hO
      have HS10 := Lib.hid hs10
      clear hs10
      rw [fill10] at hZ hO
      have y0 := (cell_of hO 0).trans rfl
      have y1 := (cell_of hO 1).trans rfl
      have y2 := (cell_of hO 2).trans rfl
      have y3 := (cell_of hO 3).trans rfl
      have y4 := (cell_of hO 4).trans rfl
      have y5 := (cell_of hO 5).trans rfl
      have y6 := (cell_of hO 6).trans rfl
      have y7 := (cell_of hO 7).trans rfl
      have y8 := (cell_of hO 8).trans rfl
      have y9 := (cell_of hO 9).trans rfl
      have p0 := (cell_of hZ 0).trans rfl
      have f0 := frozen_of hZ 0
      have p1 := (cell_of hZ 1).trans rfl
      have f1 := frozen_of hZ 1
      have p2 := (cell_of hZ 2).trans rfl
      have f2 := frozen_of hZ 2
      have p3 := (cell_of hZ 3).trans rfl
      have f3 := frozen_of hZ 3
      have p4 := (cell_of hZ 4).trans rfl
      have f4 := frozen_of hZ 4
      have p5 := (cell_of hZ 5).trans rfl
      have f5 := frozen_of hZ 5
      have p6 := (cell_of hZ 6).trans rfl
      have f6 := frozen_of hZ 6
      have p7 := (cell_of hZ 7).trans rfl
      have f7 := frozen_of hZ 7
      have p8 := (cell_of hZ 8).trans rfl
      have f8 := frozen_of hZ 8
      have p9 := (cell_of hZ 9).trans rfl
      have f9 := frozen_of hZ 9
      have l3 := lt_of hO
      have l2 := lt_of hZ
      have HZf := Lib.hid hZ
      clear hA hB hZ hO HM
      go_wp2_with fail
      refine fin10 (Φ := fun W' => bodyPost _ _ _ _ _ W') HZf.out hE (by omega) (fun W' hW hEW => ?_)
      clear y0 p0 f0
      clear y1 p1 f1
      clear y2 p2 f2
      clear y3 p3 f3
      clear y4 p4 f4
      clear y5 p5 f5
      clear y6 p6 f6
      clear y7 p7 f7
      clear y8 p8 f8
      clear y9 p9 f9
      have r0 := (cell_of hW 0).trans rfl
      have r1 := (cell_of hW 1).trans rfl
      have r2 := (cell_of hW 2).trans rfl
      have r3 := (cell_of hW 3).trans rfl
      have r4 := (cell_of hW 4).trans rfl
      have r5 := (cell_of hW 5).trans rfl
      have r6 := (cell_of hW 6).trans rfl
      have r7 := (cell_of hW 7).trans rfl
      have r8 := (cell_of hW 8).trans rfl
      have r9 := (cell_of hW 9).trans rfl
      clear hW
      refine bodyPost_ret (v := .agg #[.int .i64 (s 0), .int .i64 (s 1), .int .i64 (s 2), .int .i64 (s 3), .int .i64 (s 4), .int .i64 (s 5), .int .i64 (s 6), .int .i64 (s 7), .int .i64 (s 8), .int .i64 (s 9)]) ?_ rfl ⟨by rw [HS10.out], hEW⟩
      simp [results, Tryz.results177, go_sem, r0, r1, r2, r3, r4, r5, r6, r7, r8, r9]
/-- Digits and carries of a product. -/
def mD (x y : Int) (i j : Nat) : Int := dg (x % (65536 ^ i : Int) * y) j
def mC (x y : Int) (i k : Nat) : Int := ((x % (65536 ^ i : Int) * y) % (65536 ^ (i + k) : Int) + dg x i * (65536 ^ i : Int) * (y % (65536 ^ k : Int))) / (65536 ^ (i + k) : Int)
theorem mul_step {P a y B N : Int} (hB : 0 < B) (hN : 0 < N) :
    (P / (B * N) % 65536 + a * (y / N % 65536) + (P % (B * N) + a * B * (y % N)) / (B * N)) % 65536 = (P + a * B * y) / (B * N) % 65536 ∧
    (P / (B * N) % 65536 + a * (y / N % 65536) + (P % (B * N) + a * B * (y % N)) / (B * N)) / 65536 = (P % (B * N * 65536) + a * B * (y % (N * 65536))) / (B * N * 65536) := by
  have hM : 0 < B * N := Int.mul_pos hB hN
  have eP := Int.emod_add_mul_ediv P (B * N)
  have ey := Int.emod_add_mul_ediv y N
  have h1 : a * B * y = a * B * (y % N) + B * N * (a * (y / N)) := by
    have : a * B * y = a * B * (y % N + N * (y / N)) := by rw [ey]
    rw [this, Int.mul_add]
    congr 1
    rw [← Int.mul_assoc, Int.mul_assoc a B N, Int.mul_comm a (B * N), Int.mul_assoc]
  have h2 : P + a * B * y = (P % (B * N) + a * B * (y % N)) + B * N * (P / (B * N) + a * (y / N)) := by
    rw [Int.mul_add, h1]; omega
  have h3 : P % (B * N * 65536) + a * B * (y % (N * 65536)) = (P % (B * N) + a * B * (y % N)) + B * N * (P / (B * N) % 65536 + a * (y / N % 65536)) := by
    rw [mod_mul' P (B * N) hM, mod_mul' y N hN, Int.mul_add (a * B)]
    have : a * B * (N * (y / N % 65536)) = B * N * (a * (y / N % 65536)) := by
      rw [← Int.mul_assoc, Int.mul_assoc a B N, Int.mul_comm a (B * N), Int.mul_assoc]
    rw [this, Int.mul_add (B * N)]
    omega
  constructor
  · rw [h2, Int.add_mul_ediv_left _ _ (show B * N ≠ 0 by omega)]
    generalize (P % (B * N) + a * B * (y % N)) / (B * N) = c
    have eq := Int.emod_add_mul_ediv (y / N) 65536
    have e2 : a * (y / N) = a * (y / N % 65536 + 65536 * (y / N / 65536)) := by rw [eq]
    rw [Int.mul_add, ← Int.mul_assoc a 65536, Int.mul_comm a 65536, Int.mul_assoc] at e2
    generalize a * (y / N) = aq at *
    generalize a * (y / N % 65536) = ar at *
    generalize a * (y / N / 65536) = az at *
    generalize P / (B * N) = p at *
    omega
  · have hz : ∀ z : Int, z / (B * N * 65536) = z / (B * N) / 65536 := fun z => by rw [Int.ediv_ediv_of_nonneg (by omega)]
    rw [h3, hz, Int.add_mul_ediv_left _ _ (show B * N ≠ 0 by omega)]
    congr 1
    omega
theorem dg_mod (P : Int) (j : Nat) : dg P j = P / (65536 ^ j : Int) % 65536 := rfl
theorem mC_bd (x y : Int) (i k : Nat) : 0 ≤ mC x y i k ∧ mC x y i k ≤ 65535 := by
  unfold mC
  rw [Int.pow_add]
  have hB := pw_pos i
  have hN := pw_pos k
  obtain ⟨a1, a2⟩ := dg_bd x i
  generalize dg x i = a at *
  generalize (x % (65536 ^ i : Int) * y) = P at *
  generalize (65536 ^ i : Int) = B at *
  generalize (65536 ^ k : Int) = N at *
  have hM : 0 < B * N := Int.mul_pos hB hN
  have p1 := Int.emod_nonneg P (show B * N ≠ 0 by omega)
  have p2 := Int.emod_lt_of_pos P hM
  have y1 := Int.emod_nonneg y (show N ≠ 0 by omega)
  have y2 := Int.emod_lt_of_pos y hN
  have q1 : 0 ≤ a * B * (y % N) := Int.mul_nonneg (Int.mul_nonneg a1 (by omega)) y1
  have q2 : a * B * (y % N) ≤ a * (B * N) := by
    rw [← Int.mul_assoc]
    exact Int.mul_le_mul_of_nonneg_left (by omega) (Int.mul_nonneg a1 (by omega))
  refine ⟨Int.ediv_nonneg (by omega) (by omega), ?_⟩
  have : (P % (B * N) + a * B * (y % N)) / (B * N) < 65536 := by
    refine Int.ediv_lt_of_lt_mul hM ?_
    have q3 : a * (B * N) ≤ 65535 * (B * N) := Int.mul_le_mul_of_nonneg_right a2 (by omega)
    omega
  omega
theorem dg_add (P z : Int) {i j : Nat} (h : j < i) : dg (P + (65536 ^ i : Int) * z) j = dg P j := by
  obtain ⟨m, rfl⟩ : ∃ m, i = j + 1 + m := ⟨i - (j + 1), by omega⟩
  unfold dg
  rw [Int.pow_add, Int.pow_succ]
  have hB := pw_pos j
  generalize (65536 ^ m : Int) = Q
  generalize (65536 ^ j : Int) = B at *
  have e : B * 65536 * Q * z = B * (65536 * (Q * z)) := by rw [Int.mul_assoc, Int.mul_assoc]
  rw [e, Int.add_mul_ediv_left _ _ (show B ≠ 0 by omega)]
  omega
theorem mD_of (x y : Int) : MulD (dg x) (dg y) (mD x y) (mC x y) := by
  have hstep : ∀ i k : Nat, x % (65536 ^ (i + 1) : Int) * y = x % (65536 ^ i : Int) * y + dg x i * (65536 ^ i : Int) * y := by
    intro i _
    rw [Int.pow_succ, mod_mul' x _ (pw_pos i), Int.add_mul]
    unfold dg
    rw [Int.mul_comm (65536 ^ i : Int)]
  refine ⟨dg_bd x, dg_bd y, fun i j => dg_bd _ _, mC_bd x y, fun j => ?_, fun i => ?_, fun i k _ => ?_, fun i k _ => ?_, fun i j hj => ?_⟩
  · unfold mD
    rw [show ((65536 : Int) ^ 0) = 1 from rfl, Int.emod_one, Int.zero_mul]
    unfold dg
    simp
  · unfold mC
    rw [show ((65536 : Int) ^ 0) = 1 from rfl, Int.emod_one, Int.mul_zero, Int.add_zero, Nat.add_zero]
    exact Int.ediv_eq_zero_of_lt (Int.emod_nonneg _ (by have := pw_pos i; omega)) (Int.emod_lt_of_pos _ (pw_pos i))
  · have := (mul_step (P := x % (65536 ^ i : Int) * y) (a := dg x i) (y := y) (pw_pos i) (pw_pos k)).1
    unfold mD mC
    rw [hstep i 0, dg_mod, dg_mod y, dg_mod _ (i + k), Int.pow_add]
    exact this
  · have := (mul_step (P := x % (65536 ^ i : Int) * y) (a := dg x i) (y := y) (pw_pos i) (pw_pos k)).2
    unfold mD mC
    rw [dg_mod _ (i + k), dg_mod y, show i + (k + 1) = i + k + 1 from rfl, Int.pow_succ, Int.pow_succ, Int.pow_add]
    exact this
  · unfold mD
    rw [hstep i 0]
    have e : dg x i * (65536 ^ i : Int) * y = (65536 ^ i : Int) * (dg x i * y) := by rw [Int.mul_comm (dg x i), Int.mul_assoc]
    rw [e]
    exact dg_add _ _ hj
theorem mD_end (x y : Int) {j : Nat} (h : j < 10) : mD x y 10 j = dg (x * y) j := by
  unfold mD
  have ex := Int.emod_add_mul_ediv x (65536 ^ 10 : Int)
  have e : x * y = x % (65536 ^ 10 : Int) * y + (65536 ^ 10 : Int) * (x / (65536 ^ 10 : Int) * y) := by
    have : x * y = (x % (65536 ^ 10 : Int) + (65536 ^ 10 : Int) * (x / (65536 ^ 10 : Int))) * y := by rw [ex]
    rw [this, Int.add_mul, Int.mul_assoc (65536 ^ 10 : Int)]
  rw [e]
  exact (dg_add _ _ h).symm
theorem LMul_c (x y : Int) (w : World) : Calls Tryz.prog 177 #[longV x, longV y] w fun e w' => e = .returned (longV (x * y)) ∧ Ext w w' := by
  have h := Mul_core (dg x) (dg y) (mD x y) (mC x y) (mD_of x y) w
  have e : longA (mD x y 10) = longV (x * y) := by
    unfold longV longA
    rw [mD_end x y (j := 0) (by decide), mD_end x y (j := 1) (by decide), mD_end x y (j := 2) (by decide), mD_end x y (j := 3) (by decide), mD_end x y (j := 4) (by decide), mD_end x y (j := 5) (by decide), mD_end x y (j := 6) (by decide), mD_end x y (j := 7) (by decide), mD_end x y (j := 8) (by decide), mD_end x y (j := 9) (by decide)]
  rw [e] at h
  exact h
end Go.Proofs.YtfhdjekpdifajaaGreat
namespace Go.Proofs.YtfhdjekpdifajaaGreat
set_option linter.unusedVariables false
open Go.RowKit
set_option maxRecDepth 20000 in
set_option maxHeartbeats 4000000 in
@[go_sem] theorem eqLong (a0 a1 a2 a3 a4 a5 a6 a7 a8 a9 b0 b1 b2 b3 b4 b5 b6 b7 b8 b9 : Int) (w : World) : (Op.equalIn 10000 237 (.agg #[.int .i64 a0, .int .i64 a1, .int .i64 a2, .int .i64 a3, .int .i64 a4, .int .i64 a5, .int .i64 a6, .int .i64 a7, .int .i64 a8, .int .i64 a9]) (.agg #[.int .i64 b0, .int .i64 b1, .int .i64 b2, .int .i64 b3, .int .i64 b4, .int .i64 b5, .int .i64 b6, .int .i64 b7, .int .i64 b8, .int .i64 b9])).run Tryz.prog w = .ok (a0 == b0 && (a1 == b1 && (a2 == b2 && (a3 == b3 && (a4 == b4 && (a5 == b5 && (a6 == b6 && (a7 == b7 && (a8 == b8 && a9 == b9))))))))) w := by
  have u3 := Tryz.underlying3
  have a3' := Tryz.isAgg3
  have z3 := Tryz.sizeOf3
  rw [show (10000 : Nat) = 9999 + 1 from rfl, Op.equalIn]
  simp only [Sem.run_bind, run_underlying Tryz.underlying237, Result.andThen_ok]
  simp only [Std.Legacy.Range.forIn_eq_forIn_range', Std.Legacy.Range.size, Nat.sub_zero, Nat.add_sub_cancel, Nat.div_one, List.range'_succ, List.range'_zero, List.forIn_cons, List.forIn_nil]
  go_simp
  by_cases h0 : a0 = b0
  · by_cases h1 : a1 = b1
    · by_cases h2 : a2 = b2
      · by_cases h3 : a3 = b3
        · by_cases h4 : a4 = b4
          · by_cases h5 : a5 = b5
            · by_cases h6 : a6 = b6
              · by_cases h7 : a7 = b7
                · by_cases h8 : a8 = b8
                  · by_cases h9 : a9 = b9 <;> simp [h0, h1, h2, h3, h4, h5, h6, h7, h8, h9]
                  · simp [h0, h1, h2, h3, h4, h5, h6, h7, h8]
                · simp [h0, h1, h2, h3, h4, h5, h6, h7]
              · simp [h0, h1, h2, h3, h4, h5, h6]
            · simp [h0, h1, h2, h3, h4, h5]
          · simp [h0, h1, h2, h3, h4]
        · simp [h0, h1, h2, h3]
      · simp [h0, h1, h2]
    · simp [h0, h1]
  · simp [h0]
end Go.Proofs.YtfhdjekpdifajaaGreat
namespace Go.Proofs.YtfhdjekpdifajaaGreat
set_option linter.unusedVariables false
open Go.RowKit
set_option maxRecDepth 20000 in
set_option maxHeartbeats 8000000 in
theorem Wide_core (d D : Nat → Int) (hd : ∀ i, 0 ≤ d i ∧ d i ≤ 65535) (L H : Nat → Int) (Hw : Int) (ok : Bool)
    (l0 : L 0 = 0) (h0 : H 0 = 0)
    (hl0 : bits BinOp.or IntKind.u64 (L 0) (d 0) = L 1) (hl1 : bits BinOp.or IntKind.u64 (L 1) (d 1 * 65536) = L 2) (hl2 : bits BinOp.or IntKind.u64 (L 2) (d 2 * 4294967296) = L 3) (hl3 : bits BinOp.or IntKind.u64 (L 3) (d 3 * 281474976710656) = L 4)
    (hh0 : bits BinOp.or IntKind.u64 (H 0) (d 4) = H 1) (hh1 : bits BinOp.or IntKind.u64 (H 1) (d 5 * 65536) = H 2) (hh2 : bits BinOp.or IntKind.u64 (H 2) (d 6 * 4294967296) = H 3) (hh3 : bits BinOp.or IntKind.u64 (H 3) (d 7 * 281474976710656) = H 4)
    (hw : wrap64 (H 4) = Hw)
    (hOf : ∀ w' : World, Calls Tryz.prog 176 #[.agg #[.int .i64 Hw, .int .u64 (L 4)]] w' fun e w'' => e = .returned (longA D) ∧ Ext w' w'')
    (hcmp : ((∀ j, j < 10 → D j = d j) ∧ ok = true) ∨ ((∀ j, j < 8 → D j = d j) ∧ ok = false ∧ (((D 8 == d 8) = false) ∨ (D 8 = d 8 ∧ (D 9 == d 9) = false)))) (w : World) :
    Calls Tryz.prog 178 #[longA d] w fun e w' => e = .returned (bif ok then .tuple #[.agg #[.int .i64 Hw, .int .u64 (L 4)], .bool true] else .tuple #[.agg #[.int .i64 0, .int .u64 0], .bool false]) ∧ Ext w w' := by
  have HD := Lib.hid hd
  have HL0 := Lib.hid hl0
  have HL1 := Lib.hid hl1
  have HL2 := Lib.hid hl2
  have HL3 := Lib.hid hl3
  have HH0 := Lib.hid hh0
  have HH1 := Lib.hid hh1
  have HH2 := Lib.hid hh2
  have HH3 := Lib.hid hh3
  have HW := Lib.hid hw
  have L0 := Lib.hid l0
  have H0 := Lib.hid h0
  have HOF := Lib.hid hOf
  have HCMP := Lib.hid hcmp
  clear hd hl0 hl1 hl2 hl3 hh0 hh1 hh2 hh3 hw l0 h0 hOf hcmp
  unfold longA
  go_enter Tryz.func178, Tryz.ntmps178
  go_wp2_with fail
  go_loopw [5, 6] (fun u5 u6 wr => ∃ i : Nat, i ≤ 4 ∧ u5 = .int .u64 (H i) ∧ u6 = .int .i64 i ∧ Ext w wr ∧ LongAt wr w.heap.size d ∧ wr.heap[w.heap.size + 1]? = some (.cells #[.int .i64 0, .int .u64 0] 75 (0, 0)) ∧ wr.heap[w.heap.size + 1 + 1]? = some (.cells #[.int .i64 0, .int .u64 (L i)] 75 (0, 0))) (fun _ u6 _ => 4 - (intOf u6).toNat)
  case atStart =>
    refine ⟨0, Nat.zero_le _, by rw [H0.out], rfl, ((Ext.alloc' _ _).allocR _).allocR _, ?_, ?_, ?_⟩
    · unfold LongAt
      rw [fill10, heap_old _ _ (by simp only [size_alloc]; omega), heap_old _ _ (by simp only [size_alloc]; omega)]
      exact heap_at _ _ rfl
    · rw [heap_old _ _ (by simp only [size_alloc]; omega)]
      exact heap_at _ _ (by simp only [size_alloc])
    · rw [L0.out]
      exact heap_at _ _ (by simp only [size_alloc])
  case round =>
    obtain ⟨i, hi, rfl, rfl, hE, hA, h1, h2⟩ := hrel
    have l0 := lt_of hA
    have l2 := lt_of h2
    have hc : i = 0 ∨ i = 1 ∨ i = 2 ∨ i = 3 ∨ i = 4 := by omega
    rcases hc with rfl | rfl | rfl | rfl | rfl
    · have x0 := hA.cell (k := 0) (by decide)
      have x1 := hA.cell (k := 4) (by decide)
      have y1 := (cell_of h2 1).trans rfl
      have f1 := frozen_of h2 1
      obtain ⟨d1l, d1h⟩ := HD.out 0
      obtain ⟨d5l, d5h⟩ := HD.out 4
      have hl := HL0.out
      have hh := HH0.out
      generalize d 0 = d1 at *
      generalize d 4 = d5 at *
      generalize L 0 = L1 at *
      generalize H 0 = H1 at *
      have HLf := Lib.hid hl
      have HHf := Lib.hid hh
      have HAt := Lib.hid hA
      have H1t := Lib.hid h1
      have H2t := Lib.hid h2
      clear hl hh hA h1 h2
      go_wp2_with fail
      have hC0 := af_drew wr
      refine pi_start (fun w' => ∃ x : After wr, w' = x.w) [12] (by kernel_rfl) ?_
      refine pi_t 0 rfl (by kernel_rfl) (by kernel_rfl) (fun _ _ _ _ h => h) (fun K hK => ?_)
      go_big_quiet_op
      refine hK _ ?_
      clear hK K
      refine pi_t 2 rfl (by kernel_rfl) (by kernel_rfl) (fun _ _ _ _ h => h) (fun K hK => ?_)
      go_big_quiet_op
      refine hK _ ?_
      clear hK K
      refine pi_t 3 rfl (by kernel_rfl) (by kernel_rfl) (fun _ _ _ _ h => h) (fun K hK => ?_)
      go_big_quiet_op
      refine hK _ ?_
      clear hK K
      refine pi_t 6 rfl (by kernel_rfl) (by kernel_rfl) (fun _ _ _ _ h => h) (fun K hK => ?_)
      go_big_quiet_op
      refine hK _ ?_
      clear hK K
      refine pi_t 7 rfl (by kernel_rfl) (by kernel_rfl) (fun _ _ _ _ h => h) (fun K hK => ?_)
      go_big_quiet_op
      refine hK _ ?_
      clear hK K
      refine pi_t 8 rfl (by kernel_rfl) (by kernel_rfl) (fun _ _ _ _ h => h) (fun K hK => ?_)
      go_big_quiet_op
      refine hK _ ?_
      clear hK K
      refine pi_c 1 (by assumption) rfl (by kernel_rfl) (by kernel_rfl) (fun _ _ _ _ h => h) (fun K hK => ?_)
      go_big_quiet_op
      refine hK _ ?_
      clear hK K
      refine pi_c 4 (by assumption) rfl (by kernel_rfl) (by kernel_rfl) (fun _ _ _ _ h => h) (fun K hK => ?_)
      go_big_quiet_op
      refine hK _ ?_
      clear hK K
      refine pi_t 5 rfl (by kernel_rfl) (by kernel_rfl) (fun _ _ _ _ h => h) (fun K hK => ?_)
      go_big_quiet_op
      refine hK _ ?_
      clear hK K
      refine pi_t 9 rfl (by kernel_rfl) (by kernel_rfl) (fun _ _ _ _ h => h) (fun K hK => ?_)
      go_big_quiet_op
      refine hK _ ?_
      clear hK K
      refine pi_t 10 rfl (by kernel_rfl) (by kernel_rfl) (fun _ _ _ _ h => h) (fun K hK => ?_)
      go_big_quiet_op
      refine hK _ ?_
      clear hK K
      refine pi_t 11 rfl (by kernel_rfl) (by kernel_rfl) (fun _ _ _ _ h => h) (fun K hK => ?_)
      go_big_quiet_op
      refine hK _ ?_
      clear hK K
      refine pi_l 12 rfl (by kernel_rfl) (fun K hK => ?_)
      go_wp2
      refine hK _ _ (by simp) ?_
      clear hK K
      refine pi_end (by kernel_rfl) ?_
      go_wp2_with fail
      go_roundw
      case rel =>
        refine ⟨1, by decide, congrArg _ HHf.out, by go_num, (hE.setR (p := ⟨w.heap.size + 1 + 1, 1, none⟩) (by show _ ≤ w.heap.size + 1 + 1; omega) _).drewR, HAt.out.keep (setCell_other _ _ (by omega)), (setCell_other _ _ (by omega)).trans H1t.out, ?_⟩
        rw [← HLf.out]
        exact setCell_same H2t.out 1 _
      case measure => simp [intOf]
    · have x0 := hA.cell (k := 1) (by decide)
      have x1 := hA.cell (k := 5) (by decide)
      have y1 := (cell_of h2 1).trans rfl
      have f1 := frozen_of h2 1
      obtain ⟨d1l, d1h⟩ := HD.out 1
      obtain ⟨d5l, d5h⟩ := HD.out 5
      have hl := HL1.out
      have hh := HH1.out
      generalize d 1 = d1 at *
      generalize d 5 = d5 at *
      generalize L 1 = L1 at *
      generalize H 1 = H1 at *
      have HLf := Lib.hid hl
      have HHf := Lib.hid hh
      have HAt := Lib.hid hA
      have H1t := Lib.hid h1
      have H2t := Lib.hid h2
      clear hl hh hA h1 h2
      go_wp2_with fail
      have hC0 := af_drew wr
      refine pi_start (fun w' => ∃ x : After wr, w' = x.w) [12] (by kernel_rfl) ?_
      refine pi_t 0 rfl (by kernel_rfl) (by kernel_rfl) (fun _ _ _ _ h => h) (fun K hK => ?_)
      go_big_quiet_op
      refine hK _ ?_
      clear hK K
      refine pi_t 2 rfl (by kernel_rfl) (by kernel_rfl) (fun _ _ _ _ h => h) (fun K hK => ?_)
      go_big_quiet_op
      refine hK _ ?_
      clear hK K
      refine pi_t 3 rfl (by kernel_rfl) (by kernel_rfl) (fun _ _ _ _ h => h) (fun K hK => ?_)
      go_big_quiet_op
      refine hK _ ?_
      clear hK K
      refine pi_t 6 rfl (by kernel_rfl) (by kernel_rfl) (fun _ _ _ _ h => h) (fun K hK => ?_)
      go_big_quiet_op
      refine hK _ ?_
      clear hK K
      refine pi_t 7 rfl (by kernel_rfl) (by kernel_rfl) (fun _ _ _ _ h => h) (fun K hK => ?_)
      go_big_quiet_op
      refine hK _ ?_
      clear hK K
      refine pi_t 8 rfl (by kernel_rfl) (by kernel_rfl) (fun _ _ _ _ h => h) (fun K hK => ?_)
      go_big_quiet_op
      refine hK _ ?_
      clear hK K
      refine pi_c 1 (by assumption) rfl (by kernel_rfl) (by kernel_rfl) (fun _ _ _ _ h => h) (fun K hK => ?_)
      go_big_quiet_op
      refine hK _ ?_
      clear hK K
      refine pi_c 4 (by assumption) rfl (by kernel_rfl) (by kernel_rfl) (fun _ _ _ _ h => h) (fun K hK => ?_)
      go_big_quiet_op
      refine hK _ ?_
      clear hK K
      refine pi_t 5 rfl (by kernel_rfl) (by kernel_rfl) (fun _ _ _ _ h => h) (fun K hK => ?_)
      go_big_quiet_op
      refine hK _ ?_
      clear hK K
      refine pi_t 9 rfl (by kernel_rfl) (by kernel_rfl) (fun _ _ _ _ h => h) (fun K hK => ?_)
      go_big_quiet_op
      refine hK _ ?_
      clear hK K
      refine pi_t 10 rfl (by kernel_rfl) (by kernel_rfl) (fun _ _ _ _ h => h) (fun K hK => ?_)
      go_big_quiet_op
      refine hK _ ?_
      clear hK K
      refine pi_t 11 rfl (by kernel_rfl) (by kernel_rfl) (fun _ _ _ _ h => h) (fun K hK => ?_)
      go_big_quiet_op
      refine hK _ ?_
      clear hK K
      refine pi_l 12 rfl (by kernel_rfl) (fun K hK => ?_)
      go_wp2
      refine hK _ _ (by simp) ?_
      clear hK K
      refine pi_end (by kernel_rfl) ?_
      go_wp2_with fail
      go_roundw
      case rel =>
        refine ⟨2, by decide, congrArg _ HHf.out, by go_num, (hE.setR (p := ⟨w.heap.size + 1 + 1, 1, none⟩) (by show _ ≤ w.heap.size + 1 + 1; omega) _).drewR, HAt.out.keep (setCell_other _ _ (by omega)), (setCell_other _ _ (by omega)).trans H1t.out, ?_⟩
        rw [← HLf.out]
        exact setCell_same H2t.out 1 _
      case measure => simp [intOf]
    · have x0 := hA.cell (k := 2) (by decide)
      have x1 := hA.cell (k := 6) (by decide)
      have y1 := (cell_of h2 1).trans rfl
      have f1 := frozen_of h2 1
      obtain ⟨d1l, d1h⟩ := HD.out 2
      obtain ⟨d5l, d5h⟩ := HD.out 6
      have hl := HL2.out
      have hh := HH2.out
      generalize d 2 = d1 at *
      generalize d 6 = d5 at *
      generalize L 2 = L1 at *
      generalize H 2 = H1 at *
      have HLf := Lib.hid hl
      have HHf := Lib.hid hh
      have HAt := Lib.hid hA
      have H1t := Lib.hid h1
      have H2t := Lib.hid h2
      clear hl hh hA h1 h2
      go_wp2_with fail
      have hC0 := af_drew wr
      refine pi_start (fun w' => ∃ x : After wr, w' = x.w) [12] (by kernel_rfl) ?_
      refine pi_t 0 rfl (by kernel_rfl) (by kernel_rfl) (fun _ _ _ _ h => h) (fun K hK => ?_)
      go_big_quiet_op
      refine hK _ ?_
      clear hK K
      refine pi_t 2 rfl (by kernel_rfl) (by kernel_rfl) (fun _ _ _ _ h => h) (fun K hK => ?_)
      go_big_quiet_op
      refine hK _ ?_
      clear hK K
      refine pi_t 3 rfl (by kernel_rfl) (by kernel_rfl) (fun _ _ _ _ h => h) (fun K hK => ?_)
      go_big_quiet_op
      refine hK _ ?_
      clear hK K
      refine pi_t 6 rfl (by kernel_rfl) (by kernel_rfl) (fun _ _ _ _ h => h) (fun K hK => ?_)
      go_big_quiet_op
      refine hK _ ?_
      clear hK K
      refine pi_t 7 rfl (by kernel_rfl) (by kernel_rfl) (fun _ _ _ _ h => h) (fun K hK => ?_)
      go_big_quiet_op
      refine hK _ ?_
      clear hK K
      refine pi_t 8 rfl (by kernel_rfl) (by kernel_rfl) (fun _ _ _ _ h => h) (fun K hK => ?_)
      go_big_quiet_op
      refine hK _ ?_
      clear hK K
      refine pi_c 1 (by assumption) rfl (by kernel_rfl) (by kernel_rfl) (fun _ _ _ _ h => h) (fun K hK => ?_)
      go_big_quiet_op
      refine hK _ ?_
      clear hK K
      refine pi_c 4 (by assumption) rfl (by kernel_rfl) (by kernel_rfl) (fun _ _ _ _ h => h) (fun K hK => ?_)
      go_big_quiet_op
      refine hK _ ?_
      clear hK K
      refine pi_t 5 rfl (by kernel_rfl) (by kernel_rfl) (fun _ _ _ _ h => h) (fun K hK => ?_)
      go_big_quiet_op
      refine hK _ ?_
      clear hK K
      refine pi_t 9 rfl (by kernel_rfl) (by kernel_rfl) (fun _ _ _ _ h => h) (fun K hK => ?_)
      go_big_quiet_op
      refine hK _ ?_
      clear hK K
      refine pi_t 10 rfl (by kernel_rfl) (by kernel_rfl) (fun _ _ _ _ h => h) (fun K hK => ?_)
      go_big_quiet_op
      refine hK _ ?_
      clear hK K
      refine pi_t 11 rfl (by kernel_rfl) (by kernel_rfl) (fun _ _ _ _ h => h) (fun K hK => ?_)
      go_big_quiet_op
      refine hK _ ?_
      clear hK K
      refine pi_l 12 rfl (by kernel_rfl) (fun K hK => ?_)
      go_wp2
      refine hK _ _ (by simp) ?_
      clear hK K
      refine pi_end (by kernel_rfl) ?_
      go_wp2_with fail
      go_roundw
      case rel =>
        refine ⟨3, by decide, congrArg _ HHf.out, by go_num, (hE.setR (p := ⟨w.heap.size + 1 + 1, 1, none⟩) (by show _ ≤ w.heap.size + 1 + 1; omega) _).drewR, HAt.out.keep (setCell_other _ _ (by omega)), (setCell_other _ _ (by omega)).trans H1t.out, ?_⟩
        rw [← HLf.out]
        exact setCell_same H2t.out 1 _
      case measure => simp [intOf]
    · have x0 := hA.cell (k := 3) (by decide)
      have x1 := hA.cell (k := 7) (by decide)
      have y1 := (cell_of h2 1).trans rfl
      have f1 := frozen_of h2 1
      obtain ⟨d1l, d1h⟩ := HD.out 3
      obtain ⟨d5l, d5h⟩ := HD.out 7
      have hl := HL3.out
      have hh := HH3.out
      generalize d 3 = d1 at *
      generalize d 7 = d5 at *
      generalize L 3 = L1 at *
      generalize H 3 = H1 at *
      have HLf := Lib.hid hl
      have HHf := Lib.hid hh
      have HAt := Lib.hid hA
      have H1t := Lib.hid h1
      have H2t := Lib.hid h2
      clear hl hh hA h1 h2
      go_wp2_with fail
      have hC0 := af_drew wr
      refine pi_start (fun w' => ∃ x : After wr, w' = x.w) [12] (by kernel_rfl) ?_
      refine pi_t 0 rfl (by kernel_rfl) (by kernel_rfl) (fun _ _ _ _ h => h) (fun K hK => ?_)
      go_big_quiet_op
      refine hK _ ?_
      clear hK K
      refine pi_t 2 rfl (by kernel_rfl) (by kernel_rfl) (fun _ _ _ _ h => h) (fun K hK => ?_)
      go_big_quiet_op
      refine hK _ ?_
      clear hK K
      refine pi_t 3 rfl (by kernel_rfl) (by kernel_rfl) (fun _ _ _ _ h => h) (fun K hK => ?_)
      go_big_quiet_op
      refine hK _ ?_
      clear hK K
      refine pi_t 6 rfl (by kernel_rfl) (by kernel_rfl) (fun _ _ _ _ h => h) (fun K hK => ?_)
      go_big_quiet_op
      refine hK _ ?_
      clear hK K
      refine pi_t 7 rfl (by kernel_rfl) (by kernel_rfl) (fun _ _ _ _ h => h) (fun K hK => ?_)
      go_big_quiet_op
      refine hK _ ?_
      clear hK K
      refine pi_t 8 rfl (by kernel_rfl) (by kernel_rfl) (fun _ _ _ _ h => h) (fun K hK => ?_)
      go_big_quiet_op
      refine hK _ ?_
      clear hK K
      refine pi_c 1 (by assumption) rfl (by kernel_rfl) (by kernel_rfl) (fun _ _ _ _ h => h) (fun K hK => ?_)
      go_big_quiet_op
      refine hK _ ?_
      clear hK K
      refine pi_c 4 (by assumption) rfl (by kernel_rfl) (by kernel_rfl) (fun _ _ _ _ h => h) (fun K hK => ?_)
      go_big_quiet_op
      refine hK _ ?_
      clear hK K
      refine pi_t 5 rfl (by kernel_rfl) (by kernel_rfl) (fun _ _ _ _ h => h) (fun K hK => ?_)
      go_big_quiet_op
      refine hK _ ?_
      clear hK K
      refine pi_t 9 rfl (by kernel_rfl) (by kernel_rfl) (fun _ _ _ _ h => h) (fun K hK => ?_)
      go_big_quiet_op
      refine hK _ ?_
      clear hK K
      refine pi_t 10 rfl (by kernel_rfl) (by kernel_rfl) (fun _ _ _ _ h => h) (fun K hK => ?_)
      go_big_quiet_op
      refine hK _ ?_
      clear hK K
      refine pi_t 11 rfl (by kernel_rfl) (by kernel_rfl) (fun _ _ _ _ h => h) (fun K hK => ?_)
      go_big_quiet_op
      refine hK _ ?_
      clear hK K
      refine pi_l 12 rfl (by kernel_rfl) (fun K hK => ?_)
      go_wp2
      refine hK _ _ (by simp) ?_
      clear hK K
      refine pi_end (by kernel_rfl) ?_
      go_wp2_with fail
      go_roundw
      case rel =>
        refine ⟨4, by decide, congrArg _ HHf.out, by go_num, (hE.setR (p := ⟨w.heap.size + 1 + 1, 1, none⟩) (by show _ ≤ w.heap.size + 1 + 1; omega) _).drewR, HAt.out.keep (setCell_other _ _ (by omega)), (setCell_other _ _ (by omega)).trans H1t.out, ?_⟩
        rw [← HLf.out]
        exact setCell_same H2t.out 1 _
      case measure => simp [intOf]
    · have y0 := (cell_of h2 0).trans rfl
      have y1 := (cell_of h2 1).trans rfl
      have f0 := frozen_of h2 0
      have f1 := frozen_of h2 1
      have hwf := HW.out
      have hz2 : (wr.setCell ⟨w.heap.size + 1 + 1, 0, none⟩ (.int .i64 Hw)).heap[w.heap.size + 1 + 1]? = some (.cells #[.int .i64 Hw, .int .u64 (L 4)] 75 (0, 0)) := setCell_same h2 0 _
      have hz1 : (wr.setCell ⟨w.heap.size + 1 + 1, 0, none⟩ (.int .i64 Hw)).heap[w.heap.size + 1]? = some (.cells #[.int .i64 0, .int .u64 0] 75 (0, 0)) := (setCell_other _ _ (by omega)).trans h1
      have hAz : LongAt (wr.setCell ⟨w.heap.size + 1 + 1, 0, none⟩ (.int .i64 Hw)) w.heap.size d := hA.keep (setCell_other _ _ (by omega))
      have hEz : Ext w (wr.setCell ⟨w.heap.size + 1 + 1, 0, none⟩ (.int .i64 Hw)) := hE.setR (p := ⟨w.heap.size + 1 + 1, 0, none⟩) (by show _ ≤ w.heap.size + 1 + 1; omega) _
      have HA := Lib.hid hA
      have H1t := Lib.hid h1
      have H2t := Lib.hid h2
      clear hA h1 h2
      go_upto_region 9 with (fail)
      generalize wr.setCell ⟨w.heap.size + 1 + 1, 0, none⟩ (.int .i64 Hw) = wz at *
      clear y0 y1 f0 f1 l0 l2 HA H1t H2t hE hwf
      have l0 := lt_of hAz
      have l2 := lt_of hz2
      have v0 := (cell_of hz2 0).trans rfl
      have v1 := (cell_of hz2 1).trans rfl
      have z0 := hAz.cell (k := 0) (by decide)
      have z1 := hAz.cell (k := 1) (by decide)
      have z2 := hAz.cell (k := 2) (by decide)
      have z3 := hAz.cell (k := 3) (by decide)
      have z4 := hAz.cell (k := 4) (by decide)
      have z5 := hAz.cell (k := 5) (by decide)
      have z6 := hAz.cell (k := 6) (by decide)
      have z7 := hAz.cell (k := 7) (by decide)
      have z8 := hAz.cell (k := 8) (by decide)
      have z9 := hAz.cell (k := 9) (by decide)
      have HZ1 := Lib.hid hz1
      have HZ2 := Lib.hid hz2
      clear hAz hz1 hz2
      have hof : ∀ w' : World, Calls Tryz.prog 176 #[.agg #[.int .i64 Hw, .int .u64 (L 4)]] w' fun e w'' => e = .returned (.agg #[.int .i64 (D 0), .int .i64 (D 1), .int .i64 (D 2), .int .i64 (D 3), .int .i64 (D 4), .int .i64 (D 5), .int .i64 (D 6), .int .i64 (D 7), .int .i64 (D 8), .int .i64 (D 9)]) ∧ Ext w' w'' := HOF.out
      have HOF' := Lib.hid hof
      clear hof
      rcases HCMP.out with ⟨hall, rfl⟩ | ⟨hall, rfl, h8 | ⟨h8, h9⟩⟩
      ·
          have g0 := hall 0 (by decide)
          have g1 := hall 1 (by decide)
          have g2 := hall 2 (by decide)
          have g3 := hall 3 (by decide)
          have g4 := hall 4 (by decide)
          have g5 := hall 5 (by decide)
          have g6 := hall 6 (by decide)
          have g7 := hall 7 (by decide)
          have g8 := hall 8 (by decide)
          have g9 := hall 9 (by decide)
          clear hall
          refine wp_region_after (by kernel_rfl) (by kernel_rfl) ?_
          repeat (go_big_quiet_step ((go_at_call 176; exact quiet_after (HOF'.out _))))
          refine wpQuiet_nil ?_
          rintro _ ⟨xx, rfl⟩
          obtain ⟨wq, hq⟩ := xx
          try dsimp only
          have hq2 := hq.keep HZ2.out
          have hq1 := hq.keep HZ1.out
          have u0 := (cell_of hq2 0).trans rfl
          have u1 := (cell_of hq2 1).trans rfl
          have t0 := (cell_of hq1 0).trans rfl
          have t1 := (cell_of hq1 1).trans rfl
          have f0 := frozen_of hq1 0
          have f1 := frozen_of hq1 1
          have m1 := lt_of hq1
          have m2 := lt_of hq2
          clear hq1 hq2
          go_wp2_with fail
          refine bodyPost_ret (v := .tuple #[.agg #[.int .i64 Hw, .int .u64 (L 4)], .bool true]) (by simp [results, Tryz.results178, go_sem, *]) rfl ⟨rfl, ?_⟩
          exact ((hEz.trans' hq).setR (p := ⟨w.heap.size + 1, 0, none⟩) (by show _ ≤ w.heap.size + 1; omega) _).setR (p := ⟨w.heap.size + 1, 1, none⟩) (by show _ ≤ w.heap.size + 1; omega) _
      ·
          have g0 := hall 0 (by decide)
          have g1 := hall 1 (by decide)
          have g2 := hall 2 (by decide)
          have g3 := hall 3 (by decide)
          have g4 := hall 4 (by decide)
          have g5 := hall 5 (by decide)
          have g6 := hall 6 (by decide)
          have g7 := hall 7 (by decide)
          clear hall
          refine wp_region_after (by kernel_rfl) (by kernel_rfl) ?_
          repeat (go_big_quiet_step ((go_at_call 176; exact quiet_after (HOF'.out _))))
          refine wpQuiet_nil ?_
          rintro _ ⟨xx, rfl⟩
          obtain ⟨wq, hq⟩ := xx
          try dsimp only
          have hq2 := hq.keep HZ2.out
          have hq1 := hq.keep HZ1.out
          have u0 := (cell_of hq2 0).trans rfl
          have u1 := (cell_of hq2 1).trans rfl
          have t0 := (cell_of hq1 0).trans rfl
          have t1 := (cell_of hq1 1).trans rfl
          have f0 := frozen_of hq1 0
          have f1 := frozen_of hq1 1
          have m1 := lt_of hq1
          have m2 := lt_of hq2
          clear hq1 hq2
          go_wp2_with fail
          refine bodyPost_ret (v := .tuple #[.agg #[.int .i64 0, .int .u64 0], .bool false]) (by simp [results, Tryz.results178, go_sem, *]) rfl ⟨rfl, ?_⟩
          exact ((hEz.trans' hq).setR (p := ⟨w.heap.size + 1, 0, none⟩) (by show _ ≤ w.heap.size + 1; omega) _).setR (p := ⟨w.heap.size + 1, 1, none⟩) (by show _ ≤ w.heap.size + 1; omega) _
      ·
          have g0 := hall 0 (by decide)
          have g1 := hall 1 (by decide)
          have g2 := hall 2 (by decide)
          have g3 := hall 3 (by decide)
          have g4 := hall 4 (by decide)
          have g5 := hall 5 (by decide)
          have g6 := hall 6 (by decide)
          have g7 := hall 7 (by decide)
          clear hall
          refine wp_region_after (by kernel_rfl) (by kernel_rfl) ?_
          repeat (go_big_quiet_step ((go_at_call 176; exact quiet_after (HOF'.out _))))
          refine wpQuiet_nil ?_
          rintro _ ⟨xx, rfl⟩
          obtain ⟨wq, hq⟩ := xx
          try dsimp only
          have hq2 := hq.keep HZ2.out
          have hq1 := hq.keep HZ1.out
          have u0 := (cell_of hq2 0).trans rfl
          have u1 := (cell_of hq2 1).trans rfl
          have t0 := (cell_of hq1 0).trans rfl
          have t1 := (cell_of hq1 1).trans rfl
          have f0 := frozen_of hq1 0
          have f1 := frozen_of hq1 1
          have m1 := lt_of hq1
          have m2 := lt_of hq2
          clear hq1 hq2
          go_wp2_with fail
          refine bodyPost_ret (v := .tuple #[.agg #[.int .i64 0, .int .u64 0], .bool false]) (by simp [results, Tryz.results178, go_sem, *]) rfl ⟨rfl, ?_⟩
          exact ((hEz.trans' hq).setR (p := ⟨w.heap.size + 1, 0, none⟩) (by show _ ≤ w.heap.size + 1; omega) _).setR (p := ⟨w.heap.size + 1, 1, none⟩) (by show _ ≤ w.heap.size + 1; omega) _
theorem or_flip (x y : Int) : bits BinOp.or IntKind.u64 x y = bits BinOp.or IntKind.u64 y x := by
  show IntKind.u64.wrap ((BitVec.ofInt 64 x ||| BitVec.ofInt 64 y).toNat : Int) = IntKind.u64.wrap ((BitVec.ofInt 64 y ||| BitVec.ofInt 64 x).toNat : Int)
  rw [BitVec.or_comm]
theorem or_at (y d : Int) (k : Nat) (hk : k ≤ 48) (hd : 0 ≤ d ∧ d ≤ 65535) (hy0 : 0 ≤ y) (hy : y < ((2 ^ k : Nat) : Int)) : bits BinOp.or IntKind.u64 y (d * ((2 ^ k : Nat) : Int)) = y + d * ((2 ^ k : Nat) : Int) := by
  have hp : ((2 ^ k : Nat) : Int) ≤ 281474976710656 := by
    have := Nat.pow_le_pow_right (show 0 < 2 by decide) hk
    have e : (2 : Nat) ^ 48 = 281474976710656 := by decide
    omega
  have hq : d * ((2 ^ k : Nat) : Int) ≤ 65535 * ((2 ^ k : Nat) : Int) := Int.mul_le_mul_of_nonneg_right hd.2 (by omega)
  have h0 : 0 ≤ d * ((2 ^ k : Nat) : Int) := Int.mul_nonneg hd.1 (by omega)
  rw [or_flip, or_add _ y k (by omega) h0 (by omega) (Int.dvd_mul_left _ _) hy0 hy, Int.add_comm]
theorem or0 (x : Int) : bits BinOp.or IntKind.u64 (x % 1) (dg x 0) = x % 65536 := by
  have := or_at (x % 1) (dg x 0) 0 (by decide) (dg_bd x 0) (by omega) (by show x % 1 < 1; omega)
  rw [show (((2 ^ 0 : Nat) : Nat) : Int) = 1 from rfl, Int.mul_one] at this
  rw [this, dg0]; omega
theorem or1 (x : Int) : bits BinOp.or IntKind.u64 (x % 65536) (dg x 1 * 65536) = x % 4294967296 := by
  have := or_at (x % 65536) (dg x 1) 16 (by decide) (dg_bd x 1) (by omega) (by show x % 65536 < 65536; omega)
  rw [show (((2 ^ 16 : Nat) : Nat) : Int) = 65536 from rfl] at this
  rw [this, dg1]; omega
theorem or2 (x : Int) : bits BinOp.or IntKind.u64 (x % 4294967296) (dg x 2 * 4294967296) = x % 281474976710656 := by
  have := or_at (x % 4294967296) (dg x 2) 32 (by decide) (dg_bd x 2) (by omega) (by show x % 4294967296 < 4294967296; omega)
  rw [show (((2 ^ 32 : Nat) : Nat) : Int) = 4294967296 from rfl] at this
  rw [this, dg2]; omega
theorem or3 (x : Int) : bits BinOp.or IntKind.u64 (x % 281474976710656) (dg x 3 * 281474976710656) = x % 18446744073709551616 := by
  have := or_at (x % 281474976710656) (dg x 3) 48 (by decide) (dg_bd x 3) (by omega) (by show x % 281474976710656 < 281474976710656; omega)
  rw [show (((2 ^ 48 : Nat) : Nat) : Int) = 281474976710656 from rfl] at this
  rw [this, dg3]; omega
def LL (x : Int) : Nat → Int
  | 0 => x % 1
  | 1 => x % 65536
  | 2 => x % 4294967296
  | 3 => x % 281474976710656
  | _ => x % 18446744073709551616
theorem dg_hi (x : Int) : dg x 4 = dg (x / 18446744073709551616) 0 ∧ dg x 5 = dg (x / 18446744073709551616) 1 ∧ dg x 6 = dg (x / 18446744073709551616) 2 ∧ dg x 7 = dg (x / 18446744073709551616) 3 := by
  rw [dg4, dg5, dg6, dg7, dg0, dg1, dg2, dg3]
  refine ⟨?_, ?_, ?_, ?_⟩ <;> omega
def zOf (x : Int) : Int := (x + 170141183460469231731687303715884105728) % 340282366920938463463374607431768211456 - 170141183460469231731687303715884105728
theorem zOf_w (x : Int) : W128 (zOf x) := by unfold zOf W128; omega
theorem zOf_lo (x : Int) : lo (zOf x) = x % 18446744073709551616 := by unfold zOf lo; omega
theorem zOf_hi (x : Int) : hi (zOf x) = wrap64 (x / 18446744073709551616 % 18446744073709551616) := by unfold zOf hi wrap64; omega
theorem zOf_eq (x : Int) (h : W128 x) : zOf x = x := by unfold W128 at h; unfold zOf; omega
theorem zOf_dg (x : Int) {j : Nat} (h : j < 8) : dg (zOf x) j = dg x j := by
  have e : zOf x + (65536 ^ 8 : Int) * ((x + 170141183460469231731687303715884105728) / 340282366920938463463374607431768211456) = x := by
    rw [show (65536 ^ 8 : Int) = 340282366920938463463374607431768211456 from rfl]; unfold zOf; omega
  have := dg_add (zOf x) ((x + 170141183460469231731687303715884105728) / 340282366920938463463374607431768211456) h
  rw [e] at this
  exact this.symm
theorem zOf_top (x : Int) (h1 : -730750818665451459101842416358141509827966271488 ≤ x) (h2 : x < 730750818665451459101842416358141509827966271488) (h8 : dg (zOf x) 8 = dg x 8) (h9 : dg (zOf x) 9 = dg x 9) : W128 x := by
  rw [dg8, dg8] at h8
  rw [dg9, dg9] at h9
  have hz := zOf_w x
  unfold W128 at hz ⊢
  have e : zOf x + 340282366920938463463374607431768211456 * ((x + 170141183460469231731687303715884105728) / 340282366920938463463374607431768211456) = x := by unfold zOf; omega
  generalize zOf x = z at *
  generalize (x + 170141183460469231731687303715884105728) / 340282366920938463463374607431768211456 = q at *
  have hx8 : x / 340282366920938463463374607431768211456 = z / 340282366920938463463374607431768211456 + q := by omega
  have hx9 : x / 22300745198530623141535718272648361505980416 = (z / 340282366920938463463374607431768211456 + q) / 65536 := by
    rw [← hx8, Int.ediv_ediv_of_nonneg (by omega)]; rfl
  have hz9 : z / 22300745198530623141535718272648361505980416 = z / 340282366920938463463374607431768211456 / 65536 := by
    rw [Int.ediv_ediv_of_nonneg (by omega)]; rfl
  rw [hx8] at h8
  rw [hx9, hz9] at h9
  have ht : z / 340282366920938463463374607431768211456 = -1 ∨ z / 340282366920938463463374607431768211456 = 0 := by omega
  have hq : -4294967296 ≤ q ∧ q ≤ 4294967296 := by omega
  generalize z / 340282366920938463463374607431768211456 = t at *
  have : q = 0 := by omega
  omega
/-- A long number as a wide one, if it fits. -/
theorem LWide_c (x : Int) (h1 : -730750818665451459101842416358141509827966271488 ≤ x) (h2 : x < 730750818665451459101842416358141509827966271488) (w : World) :
    Calls Tryz.prog 178 #[longV x] w fun e w' => e = .returned (dotV (bif fit128 x then some x else none)) ∧ Ext w w' := by
  have hd := dg_hi x
  have hb : ∀ ok : Bool, fit128 x = ok → ((∀ j, j < 10 → dg (zOf x) j = dg x j) ∧ ok = true) ∨ ((∀ j, j < 8 → dg (zOf x) j = dg x j) ∧ ok = false ∧ (((dg (zOf x) 8 == dg x 8) = false) ∨ (dg (zOf x) 8 = dg x 8 ∧ (dg (zOf x) 9 == dg x 9) = false))) := by
    intro ok hok
    cases ok
    · right
      refine ⟨fun j hj => zOf_dg x hj, rfl, ?_⟩
      by_cases e8 : dg (zOf x) 8 = dg x 8
      · right
        refine ⟨e8, ?_⟩
        by_cases e9 : dg (zOf x) 9 = dg x 9
        · exact absurd (fit128_iff.2 (zOf_top x h1 h2 e8 e9)) (by rw [hok]; decide)
        · simpa using e9
      · left; simpa using e8
    · left
      exact ⟨fun j _ => by rw [zOf_eq x (fit128_iff.1 hok)], rfl⟩
  have := Wide_core (dg x) (dg (zOf x)) (dg_bd x) (LL x) (LL (x / 18446744073709551616)) (hi (zOf x)) (fit128 x) (Int.emod_one x) (Int.emod_one _) (or0 x) (or1 x) (or2 x) (or3 x)
    (by rw [hd.1]; exact or0 _) (by rw [hd.2.1]; exact or1 _) (by rw [hd.2.2.1]; exact or2 _) (by rw [hd.2.2.2]; exact or3 _) (zOf_hi x).symm
    (fun w' => by have := LOf_c (zOf x) (zOf_w x) w'; rw [zOf_lo] at this; exact this) (hb _ rfl) w
  refine this.mono ?_
  rintro e w' ⟨rfl, hE⟩
  refine ⟨?_, hE⟩
  cases hf : fit128 x with
  | false => rfl
  | true =>
    have hz := zOf_eq x (fit128_iff.1 hf)
    show Ending.returned (.tuple #[.agg #[.int .i64 (hi (zOf x)), .int .u64 (x % 18446744073709551616)], .bool true]) = Ending.returned (.tuple #[.agg #[.int .i64 (hi x), .int .u64 (lo x)], .bool true])
    rw [hz]; rfl
end Go.Proofs.YtfhdjekpdifajaaGreat
namespace Go.Proofs.YtfhdjekpdifajaaGreat
set_option linter.unusedVariables false
open Go.RowKit
theorem zlong : (fillA (dg 0) 10 10) = #[.int .i64 0, .int .i64 0, .int .i64 0, .int .i64 0, .int .i64 0, .int .i64 0, .int .i64 0, .int .i64 0, .int .i64 0, .int .i64 0] := by
  rw [fill10]
  have h : ∀ i, dg 0 i = 0 := fun i => by unfold dg; simp
  simp only [h]
theorem prod_in {s x y : Int} (hs : W128 s) (hx : I64 x) (hy : I64 y) : -730750818665451459101842416358141509827966271488 ≤ s + x * y ∧ s + x * y < 730750818665451459101842416358141509827966271488 := by
  have := mul_w hx hy
  unfold W128 at *
  omega
theorem fin10b {Φ : World → Prop} {w W : World} {b : Nat} {x0 x1 x2 x3 x4 x5 x6 x7 x8 x9 : Value} {t : TypeId} (h : W.heap[b]? = some (.cells #[x0, x1, x2, x3, x4, x5, x6, x7, x8, x9] t (0, 0))) (hE : Ext w W) (hb : w.heap.size ≤ b) {u0 u1 u2 u3 u4 u5 u6 u7 u8 u9 : Value}
    (hΦ : ∀ W' : World, W'.heap[b]? = some (.cells #[u0, u1, u2, u3, u4, u5, u6, u7, u8, u9] t (0, 0)) → Ext w W' → (∀ j, j ≠ b → W'.heap[j]? = W.heap[j]?) → Φ W') : Φ ((((((((((W.setCell ⟨b, 0, none⟩ u0).setCell ⟨b, 1, none⟩ u1).setCell ⟨b, 2, none⟩ u2).setCell ⟨b, 3, none⟩ u3).setCell ⟨b, 4, none⟩ u4).setCell ⟨b, 5, none⟩ u5).setCell ⟨b, 6, none⟩ u6).setCell ⟨b, 7, none⟩ u7).setCell ⟨b, 8, none⟩ u8).setCell ⟨b, 9, none⟩ u9) := by
  refine fin10 (Φ := fun W' => (∀ j, j ≠ b → W'.heap[j]? = W.heap[j]?) → Φ W') h hE hb (fun W' h1 h2 h3 => hΦ W' h1 h2 h3) (fun j hj => ?_)
  rw [setCell_other _ _ hj, setCell_other _ _ hj, setCell_other _ _ hj, setCell_other _ _ hj, setCell_other _ _ hj, setCell_other _ _ hj, setCell_other _ _ hj, setCell_other _ _ hj, setCell_other _ _ hj, setCell_other _ _ hj]
set_option maxRecDepth 20000 in
set_option maxHeartbeats 8000000 in
theorem RefDot_c (a b : List Int) (v1 v2 : Value) (w : World) (ha : ∀ x ∈ a, I64 x) (hb : ∀ x ∈ b, I64 x) (hl : a.length = b.length) (hn : a.length ≤ 1152921504606846976) (h1 : IntsAt w v1 a) (h2 : IntsAt w v2 b) :
    Calls Tryz.prog 125 #[v1, v2] w fun e w' => e = .returned (dotV (dotF a b a.length)) ∧ Ext w w' := by
  obtain ⟨p1, c1, rfl⟩ := h1.sl
  obtain ⟨p2, c2, rfl⟩ := h2.sl
  obtain ⟨n, hN⟩ : ∃ n, a.length = n := ⟨_, rfl⟩
  have HB : Hid (b.length = n) := Lib.hid (hl.symm.trans hN)
  have HN := Lib.hid hN
  have H1 := Lib.hid h1
  have H2 := Lib.hid h2
  rw [← hl]
  rw [hN] at hn ⊢
  clear hl hN h1 h2
  go_enter Tryz.func125, Tryz.ntmps125
  go_wp2_with fail
  go_loopw [7] (fun u wr => ∃ (k : Nat) (s : Int), k ≤ n ∧ u = .int .i64 k ∧ dotF a b k = some s ∧ Ext w wr ∧ LongAt wr (w.heap.size + 1) (dg s) ∧ wr.heap[w.heap.size]? = some (.cells #[.int .i64 0, .int .u64 0] 75 (0, 0))) (fun u _ => n - (intOf u).toNat)
  case atStart =>
    refine ⟨0, 0, Nat.zero_le _, rfl, rfl, (Ext.alloc' _ _).allocR _, ?_, ?_⟩
    · unfold LongAt
      rw [zlong]
      exact heap_at _ _ (size_alloc _ _).symm
    · rw [heap_old _ _ (by rw [size_alloc]; exact Nat.lt_succ_self _)]
      exact heap_at _ _ rfl
  case round =>
    obtain ⟨k, s, hk, rfl, hs, hx, hg1, hg0⟩ := hrel
    have hg1' := hg1
    unfold LongAt at hg1'
    rw [fill10] at hg1'
    have x0 := (cell_of hg1' 0).trans rfl
    have x1 := (cell_of hg1' 1).trans rfl
    have x2 := (cell_of hg1' 2).trans rfl
    have x3 := (cell_of hg1' 3).trans rfl
    have x4 := (cell_of hg1' 4).trans rfl
    have x5 := (cell_of hg1' 5).trans rfl
    have x6 := (cell_of hg1' 6).trans rfl
    have x7 := (cell_of hg1' 7).trans rfl
    have x8 := (cell_of hg1' 8).trans rfl
    have x9 := (cell_of hg1' 9).trans rfl
    have l1 := lt_of hg1'
    by_cases hgo : k < n
    · obtain ⟨ga, oa, rfl, hga, d1⟩ := H1.out.one (k := k) (by rw [HN.out]; exact hgo)
      obtain ⟨gb, ob, rfl, hgb, d2⟩ := H2.out.one (k := k) (by rw [HB.out]; exact hgo)
      have e1 := ((bcell hx).1 ga _ hga).trans d1
      have e2 := ((bcell hx).1 gb _ hgb).trans d2
      have la : ga < wr.heap.size := Nat.lt_of_lt_of_le hga hx.size
      have lb : gb < wr.heap.size := Nat.lt_of_lt_of_le hgb hx.size
      have ia := ha _ (getD_mem (l := a) (k := k) (by rw [HN.out]; exact hgo))
      have ib := hb _ (getD_mem (l := b) (k := k) (by rw [HB.out]; exact hgo))
      have hyes := dotF_yes hs
      have hno := dotF_no hs
      have hsw := dotF_w hs
      generalize a.getD k 0 = x at *
      generalize b.getD k 0 = y at *
      have hin := prod_in hsw ia ib
      have HYES := Lib.hid hyes
      have HNO := Lib.hid hno
      have HG0 := Lib.hid hg0
      have HG1 := Lib.hid hg1'
      clear hyes hno hs hg0 hg1 hg1' d1 d2 hga hgb
      go_upto_region 7 with (fail)
      go_cut [34] (fun s34 wx => LongAt wx (w.heap.size + 1) (dg (s + x * y)) ∧ Ext w wx ∧ wx.heap[w.heap.size]? = some (.cells #[.int .i64 0, .int .u64 0] 75 (0, 0)))
      case first =>
        have hP : ∀ w' : World, Calls Tryz.prog 151 #[.agg #[.int .i64 (dg s 0), .int .i64 (dg s 1), .int .i64 (dg s 2), .int .i64 (dg s 3), .int .i64 (dg s 4), .int .i64 (dg s 5), .int .i64 (dg s 6), .int .i64 (dg s 7), .int .i64 (dg s 8), .int .i64 (dg s 9)], longV (x * y)] w' fun e w'' => e = .returned (longV (s + x * y)) ∧ Ext w' w'' := fun w' => LPlus_c s (x * y) w'
        have HP := Lib.hid hP
        clear hP
        refine wp_region_after_tail 13 (by kernel_rfl) (by kernel_rfl) ?_
        simp only [List.take_succ_cons, List.take_zero, List.drop_succ_cons, List.drop_zero]
        repeat (go_big_quiet_step ((first | (go_at_call 152; exact quiet_after (OfInt_c _ (by assumption) _)) | (go_at_call 177; exact quiet_after (LMul_c x y _)) | (go_at_call 151; exact quiet_after (HP.out _)))))
        refine wpQuiet_nil ?_
        rintro _ ⟨xx, rfl⟩
        obtain ⟨w4, hb4⟩ := xx
        try dsimp only
        have hq1 := hb4.keep HG1.out
        have hq0 := hb4.keep HG0.out
        have hE4 := hx.trans' hb4
        have z0 := (cell_of hq1 0).trans rfl
        have f0 := frozen_of hq1 0
        have z1 := (cell_of hq1 1).trans rfl
        have f1 := frozen_of hq1 1
        have z2 := (cell_of hq1 2).trans rfl
        have f2 := frozen_of hq1 2
        have z3 := (cell_of hq1 3).trans rfl
        have f3 := frozen_of hq1 3
        have z4 := (cell_of hq1 4).trans rfl
        have f4 := frozen_of hq1 4
        have z5 := (cell_of hq1 5).trans rfl
        have f5 := frozen_of hq1 5
        have z6 := (cell_of hq1 6).trans rfl
        have f6 := frozen_of hq1 6
        have z7 := (cell_of hq1 7).trans rfl
        have f7 := frozen_of hq1 7
        have z8 := (cell_of hq1 8).trans rfl
        have f8 := frozen_of hq1 8
        have z9 := (cell_of hq1 9).trans rfl
        have f9 := frozen_of hq1 9
        have HQ1 := Lib.hid hq1
        have HQ0 := Lib.hid hq0
        have l4 := lt_of hq1
        clear hq1 hq0 x0 x1 x2 x3 x4 x5 x6 x7 x8 x9
        unfold longV longA
        go_wp2_with fail
        refine fin10b (Φ := fun W' => Met _ _ W') HQ1.out hE4 (Nat.le_succ _) (fun W' hW hEW hO => ?_)
        go_meet
        exact ⟨by unfold LongAt; rw [fill10]; exact hW, hEW, (hO _ (by omega)).trans HQ0.out⟩
      case rest =>
        obtain ⟨hL, hEc, h0⟩ := hcut
        have hL' := hL
        unfold LongAt at hL'
        rw [fill10] at hL'
        have z0 := (cell_of hL' 0).trans rfl
        have z1 := (cell_of hL' 1).trans rfl
        have z2 := (cell_of hL' 2).trans rfl
        have z3 := (cell_of hL' 3).trans rfl
        have z4 := (cell_of hL' 4).trans rfl
        have z5 := (cell_of hL' 5).trans rfl
        have z6 := (cell_of hL' 6).trans rfl
        have z7 := (cell_of hL' 7).trans rfl
        have z8 := (cell_of hL' 8).trans rfl
        have z9 := (cell_of hL' 9).trans rfl
        have ll := lt_of hL'
        have HLL := Lib.hid hL
        have HH0 := Lib.hid h0
        clear x0 x1 x2 x3 x4 x5 x6 x7 x8 x9 hL hL' h0 hx HG0 HG1 l1 e1 e2 la lb
        go_wp2_with fail
        refine Calls.mono (LWide_c (s + x * y) hin.1 hin.2 _) ?_
        rintro e w5 ⟨rfl, hx5⟩
        have hE5 : Ext w w5 := hEc.trans' hx5
        have HL5 := Lib.hid (HLL.out.keep (hx5.block _ ll))
        have h05 := hx5.keep HH0.out
        by_cases hfit : W128 (s + x * y)
        · rw [fit128_iff.2 hfit]
          have hss := HYES.out hfit
          have HSS := Lib.hid hss
          have HH5 := Lib.hid h05
          clear hss h05 z0 z1 z2 z3 z4 z5 z6 z7 z8 z9
          simp only [cond_true, dotV]
          go_wp2_with fail
          go_roundw
          case rel => exact ⟨k + 1, s + x * y, by omega, by go_num, HSS.out, hE5.allocR _, (Ext.alloc' w5 _).keep HL5.out, (Ext.alloc' w5 _).keep HH5.out⟩
          case measure => simp [intOf]; omega
        · have hff : fit128 (s + x * y) = false := by
            cases hf : fit128 (s + x * y) with
            | false => rfl
            | true => exact absurd (fit128_iff.1 hf) hfit
          rw [hff]
          have hnil := dotF_none (HNO.out hfit) (n := n) (by omega)
          have p0 := (cell_of h05 0).trans rfl
          have p1 := (cell_of h05 1).trans rfl
          have g0 := frozen_of h05 0
          have g1 := frozen_of h05 1
          have lz := lt_of h05
          have HNIL := Lib.hid hnil
          clear hnil h05 z0 z1 z2 z3 z4 z5 z6 z7 z8 z9
          simp only [cond_false, dotV]
          go_wp2_with fail
          refine bodyPost_ret (v := .tuple #[.agg #[.int .i64 0, .int .u64 0], .bool false]) (by simp [results, Tryz.results125, go_sem, *]) rfl ⟨by rw [HNIL.out]; rfl, ?_⟩
          exact ((hE5.setR (p := ⟨w.heap.size, 0, none⟩) (Nat.le_refl _) _).setR (p := ⟨w.heap.size, 1, none⟩) (Nat.le_refl _) _).allocR _
    · obtain rfl : k = n := by omega
      have hsw := dotF_w hs
      have HSS := Lib.hid hs
      have HG0 := Lib.hid hg0
      clear hg0 hg1 hg1' hs
      have hb1 : -730750818665451459101842416358141509827966271488 ≤ s ∧ s < 730750818665451459101842416358141509827966271488 := by unfold W128 at hsw; omega
      go_wp2_with fail
      refine Calls.mono (LWide_c s hb1.1 hb1.2 _) ?_
      rintro e w5 ⟨rfl, hx5⟩
      rw [fit128_iff.2 hsw]
      have hE5 : Ext w w5 := hx.trans' hx5
      have h05 := hx5.keep HG0.out
      have p0 := (cell_of h05 0).trans rfl
      have p1 := (cell_of h05 1).trans rfl
      have g0 := frozen_of h05 0
      have g1 := frozen_of h05 1
      have lz := lt_of h05
      clear h05 x0 x1 x2 x3 x4 x5 x6 x7 x8 x9
      simp only [cond_true, dotV]
      go_wp2_with fail
      refine bodyPost_ret (v := .tuple #[.agg #[.int .i64 (hi s), .int .u64 (lo s)], .bool true]) (by simp [results, Tryz.results125, go_sem, *]) rfl ⟨by rw [HSS.out]; rfl, ?_⟩
      exact (hE5.setR (p := ⟨w.heap.size, 0, none⟩) (Nat.le_refl _) _).setR (p := ⟨w.heap.size, 1, none⟩) (Nat.le_refl _) _
end Go.Proofs.YtfhdjekpdifajaaGreat
namespace Go.Proofs.YtfhdjekpdifajaaGreat
set_option linter.unusedVariables false
open Go.RowKit
theorem not_dg (x : Int) (i : Nat) : 65535 - dg x i = dg (-1 - x) i := by
  have hp := pw_pos i
  unfold dg
  generalize (65536 ^ i : Int) = M at *
  have e : (-1 - x) / M = -1 - x / M := by
    have h1 := Int.emod_add_mul_ediv x M
    have h2 := Int.emod_nonneg x (show M ≠ 0 by omega)
    have h3 := Int.emod_lt_of_pos x hp
    have h4 : -1 - x = (M - 1 - x % M) + M * (-1 - x / M) := by rw [Int.mul_sub]; omega
    rw [h4, Int.add_mul_ediv_left _ _ (show M ≠ 0 by omega), Int.ediv_eq_zero_of_lt (by omega) (by omega)]
    omega
  rw [e]
  omega
theorem fitB_I {x : Int} (h : fitB x = true) : I64 x := of_decide_eq_true (p := -9223372036854775808 ≤ x ∧ x ≤ 9223372036854775807) h
theorem one_dg : longV 1 = .agg #[.int .i64 1, .int .i64 0, .int .i64 0, .int .i64 0, .int .i64 0, .int .i64 0, .int .i64 0, .int .i64 0, .int .i64 0, .int .i64 0] := by
  unfold longV longA
  rw [show dg 1 0 = 1 from by decide, show dg 1 1 = 0 from by decide, show dg 1 2 = 0 from by decide, show dg 1 3 = 0 from by decide, show dg 1 4 = 0 from by decide, show dg 1 5 = 0 from by decide, show dg 1 6 = 0 from by decide, show dg 1 7 = 0 from by decide, show dg 1 8 = 0 from by decide, show dg 1 9 = 0 from by decide]
set_option maxRecDepth 20000 in
set_option maxHeartbeats 8000000 in
theorem Minus_core (d S T : Nat → Int) (hd : ∀ i, 0 ≤ d i ∧ d i ≤ 65535) (hS : ∀ i, 65535 - d i = S i)
    (hP : ∀ w' : World, Calls Tryz.prog 151 #[longA S, longV 1] w' fun e w'' => e = .returned (longA T) ∧ Ext w' w'') (w : World) :
    Calls Tryz.prog 153 #[longA d] w fun e w' => e = .returned (longA T) ∧ Ext w w' := by
  rw [one_dg] at hP
  unfold longA at hP ⊢
  have HD := Lib.hid hd
  have HS := Lib.hid hS
  have HP := Lib.hid hP
  clear hd hS hP
  go_enter Tryz.func153, Tryz.ntmps153
  go_wp2_with fail
  go_loopw [4] (fun u wr => ∃ i : Nat, i ≤ 10 ∧ u = .int .i64 i ∧ Ext w wr ∧ LongAt wr w.heap.size d ∧ LongAt wr (w.heap.size + 1) (fun _ => 0) ∧ LongAt wr (w.heap.size + 1 + 1) (fun j => if j < i then S j else 0)) (fun u _ => 10 - (intOf u).toNat)
  case atStart =>
    refine ⟨0, Nat.zero_le _, rfl, ((Ext.alloc' _ _).allocR _).allocR _, ?_, ?_, ?_⟩
    · unfold LongAt
      rw [fill10, heap_old _ _ (by simp only [size_alloc]; omega), heap_old _ _ (by simp only [size_alloc]; omega)]
      exact heap_at _ _ rfl
    · unfold LongAt
      rw [fill10, heap_old _ _ (by simp only [size_alloc]; omega)]
      exact heap_at _ _ (by simp only [size_alloc])
    · unfold LongAt
      rw [fill10]
      exact heap_at _ _ (by simp only [size_alloc])
  case round =>
    obtain ⟨i, hi, rfl, hE, hA, hR, hO⟩ := hrel
    by_cases hlt : i < 10
    · have x0 := hA.cell hlt
      have hb := HD.out i
      have hs := HS.out i
      have y0 := hO.cell hlt
      have f0 : wr.frozen? ⟨w.heap.size + 1 + 1, i, none⟩ = false := frozen_of hO i
      have l0 := lt_of hA
      have l2 := lt_of hO
      obtain ⟨hb1, hb2⟩ := hb
      generalize hdi : d i = di at *
      have HA := Lib.hid hA
      have HR := Lib.hid hR
      have HO := Lib.hid hO
      have HSI := Lib.hid hs
      clear hA hR hO hs hdi
      go_wp2
      go_roundw
      case rel =>
        refine ⟨i + 1, by omega, by go_num, hE.setR (p := ⟨w.heap.size + 1 + 1, i, none⟩) (by show _ ≤ w.heap.size + 1 + 1; omega) _, HA.out.keep (setCell_other _ _ (by omega)), HR.out.keep (setCell_other _ _ (by omega)), ?_⟩
        rw [HSI.out]
        refine (HO.out.put hlt (S i)).congr (fun j hj => ?_)
        by_cases e : j = i
        · subst e; rw [if_pos rfl, if_pos (by omega)]
        · rw [if_neg e]
          by_cases h : j < i
          · rw [if_pos h, if_pos (by omega)]
          · rw [if_neg h, if_neg (by omega)]
      case measure => simp [intOf]; omega
    · obtain rfl : i = 10 := by omega
      have hO' : LongAt wr (w.heap.size + 1 + 1) S := hO.congr (fun j hj => if_pos hj)
      have z0 := hO'.cell (k := 0) (by decide)
      have z1 := hO'.cell (k := 1) (by decide)
      have z2 := hO'.cell (k := 2) (by decide)
      have z3 := hO'.cell (k := 3) (by decide)
      have z4 := hO'.cell (k := 4) (by decide)
      have z5 := hO'.cell (k := 5) (by decide)
      have z6 := hO'.cell (k := 6) (by decide)
      have z7 := hO'.cell (k := 7) (by decide)
      have z8 := hO'.cell (k := 8) (by decide)
      have z9 := hO'.cell (k := 9) (by decide)
      have l2 := lt_of hO'
      have lR := lt_of hR
      have HR := Lib.hid hR
      clear hA hO hO' hR
      go_wp2_with fail
      refine Calls.mono (HP.out _) ?_
      rintro e w5 ⟨rfl, hx5⟩
      have hR5 : w5.heap[w.heap.size + 1]? = some (.cells (fillA (fun _ => 0) 10 10) 237 (0, 0)) := by
        refine hx5.keep ?_
        rw [heap_old _ _ lR]
        exact HR.out
      have hE5 : Ext w w5 := by
        exact (hE.allocR _).trans' hx5
      rw [fill10] at hR5
      have p0 := (cell_of hR5 0).trans rfl
      have f0 := frozen_of hR5 0
      have p1 := (cell_of hR5 1).trans rfl
      have f1 := frozen_of hR5 1
      have p2 := (cell_of hR5 2).trans rfl
      have f2 := frozen_of hR5 2
      have p3 := (cell_of hR5 3).trans rfl
      have f3 := frozen_of hR5 3
      have p4 := (cell_of hR5 4).trans rfl
      have f4 := frozen_of hR5 4
      have p5 := (cell_of hR5 5).trans rfl
      have f5 := frozen_of hR5 5
      have p6 := (cell_of hR5 6).trans rfl
      have f6 := frozen_of hR5 6
      have p7 := (cell_of hR5 7).trans rfl
      have f7 := frozen_of hR5 7
      have p8 := (cell_of hR5 8).trans rfl
      have f8 := frozen_of hR5 8
      have p9 := (cell_of hR5 9).trans rfl
      have f9 := frozen_of hR5 9
      have l5 := lt_of hR5
      have HR5 := Lib.hid hR5
      clear hR5 hx5 z0 z1 z2 z3 z4 z5 z6 z7 z8 z9
      go_wp2_with fail
      refine fin10 (Φ := fun W' => bodyPost _ _ _ _ _ W') HR5.out hE5 (Nat.le_succ _) (fun W' hW hEW => ?_)
      clear p0 f0 p1 f1 p2 f2 p3 f3 p4 f4 p5 f5 p6 f6 p7 f7 p8 f8 p9 f9
      have r0 := (cell_of hW 0).trans rfl
      have r1 := (cell_of hW 1).trans rfl
      have r2 := (cell_of hW 2).trans rfl
      have r3 := (cell_of hW 3).trans rfl
      have r4 := (cell_of hW 4).trans rfl
      have r5 := (cell_of hW 5).trans rfl
      have r6 := (cell_of hW 6).trans rfl
      have r7 := (cell_of hW 7).trans rfl
      have r8 := (cell_of hW 8).trans rfl
      have r9 := (cell_of hW 9).trans rfl
      refine bodyPost_ret (v := .agg #[.int .i64 (T 0), .int .i64 (T 1), .int .i64 (T 2), .int .i64 (T 3), .int .i64 (T 4), .int .i64 (T 5), .int .i64 (T 6), .int .i64 (T 7), .int .i64 (T 8), .int .i64 (T 9)]) ?_ rfl ⟨rfl, hEW⟩
      simp [results, Tryz.results153, go_sem, r0, r1, r2, r3, r4, r5, r6, r7, r8, r9]
theorem LMinus_c (x : Int) (w : World) : Calls Tryz.prog 153 #[longV x] w fun e w' => e = .returned (longV (-x)) ∧ Ext w w' :=
  Minus_core (dg x) (dg (-1 - x)) (dg (-x)) (dg_bd x) (not_dg x) (fun w' => by have := LPlus_c (-1 - x) 1 w'; rw [show -1 - x + 1 = -x by omega] at this; exact this) w
set_option maxRecDepth 20000 in
set_option maxHeartbeats 8000000 in
theorem Int_core (d D : Nat → Int) (hd : ∀ i, 0 ≤ d i ∧ d i ≤ 65535) (L : Nat → Int) (ok : Bool) (l0 : L 0 = 0)
    (hl0 : bits BinOp.or IntKind.u64 (L 0) (d 0) = L 1) (hl1 : bits BinOp.or IntKind.u64 (L 1) (d 1 * 65536) = L 2) (hl2 : bits BinOp.or IntKind.u64 (L 2) (d 2 * 4294967296) = L 3) (hl3 : bits BinOp.or IntKind.u64 (L 3) (d 3 * 281474976710656) = L 4)
    (z : Int) (hw : wrap64 (L 4) = z)
    (hOf : ∀ w' : World, Calls Tryz.prog 152 #[.int .i64 z] w' fun e w'' => e = .returned (longA D) ∧ Ext w' w'')
    (hcmp : ((∀ j, j < 10 → D j = d j) ∧ ok = true) ∨ ((∀ j, j < 4 → D j = d j) ∧ ok = false ∧ ((D 4 == d 4 && (D 5 == d 5 && (D 6 == d 6 && (D 7 == d 7 && (D 8 == d 8 && D 9 == d 9))))) = false))) (w : World) :
    Calls Tryz.prog 150 #[longA d] w fun e w' => e = .returned (bif ok then .tuple #[.int .i64 z, .bool true] else .tuple #[.int .i64 0, .bool false]) ∧ Ext w w' := by
  have HD := Lib.hid hd
  have HL0 := Lib.hid hl0
  have HL1 := Lib.hid hl1
  have HL2 := Lib.hid hl2
  have HL3 := Lib.hid hl3
  have HW := Lib.hid hw
  have L0 := Lib.hid l0
  have HCMP := Lib.hid hcmp
  unfold longA at hOf ⊢
  have HOF := Lib.hid hOf
  clear hd hl0 hl1 hl2 hl3 hw l0 hOf hcmp
  go_enter Tryz.func150, Tryz.ntmps150
  go_wp2_with fail
  go_loopw [4, 5] (fun u4 u5 wr => ∃ i : Nat, i ≤ 4 ∧ u4 = .int .u64 (L i) ∧ u5 = .int .i64 i ∧ Ext w wr ∧ LongAt wr w.heap.size d) (fun _ u5 _ => 4 - (intOf u5).toNat)
  case atStart =>
    refine ⟨0, Nat.zero_le _, by rw [L0.out], rfl, Ext.alloc' _ _, ?_⟩
    unfold LongAt
    rw [fill10]
    exact heap_at _ _ rfl
  case round =>
    obtain ⟨i, hi, rfl, rfl, hE, hA⟩ := hrel
    have l0 := lt_of hA
    have hc : i = 0 ∨ i = 1 ∨ i = 2 ∨ i = 3 ∨ i = 4 := by omega
    rcases hc with rfl | rfl | rfl | rfl | rfl
    · have x0 := hA.cell (k := 0) (by decide)
      obtain ⟨d1l, d1h⟩ := HD.out 0
      have hl := HL0.out
      generalize d 0 = d1 at *
      generalize L 0 = L1 at *
      have HLf := Lib.hid hl
      have HA := Lib.hid hA
      clear hl hA
      go_wp2_with fail
      go_roundw
      case rel => exact ⟨1, by decide, congrArg _ HLf.out, by go_num, hE, HA.out⟩
      case measure => simp [intOf]
    · have x0 := hA.cell (k := 1) (by decide)
      obtain ⟨d1l, d1h⟩ := HD.out 1
      have hl := HL1.out
      generalize d 1 = d1 at *
      generalize L 1 = L1 at *
      have HLf := Lib.hid hl
      have HA := Lib.hid hA
      clear hl hA
      go_wp2_with fail
      go_roundw
      case rel => exact ⟨2, by decide, congrArg _ HLf.out, by go_num, hE, HA.out⟩
      case measure => simp [intOf]
    · have x0 := hA.cell (k := 2) (by decide)
      obtain ⟨d1l, d1h⟩ := HD.out 2
      have hl := HL2.out
      generalize d 2 = d1 at *
      generalize L 2 = L1 at *
      have HLf := Lib.hid hl
      have HA := Lib.hid hA
      clear hl hA
      go_wp2_with fail
      go_roundw
      case rel => exact ⟨3, by decide, congrArg _ HLf.out, by go_num, hE, HA.out⟩
      case measure => simp [intOf]
    · have x0 := hA.cell (k := 3) (by decide)
      obtain ⟨d1l, d1h⟩ := HD.out 3
      have hl := HL3.out
      generalize d 3 = d1 at *
      generalize L 3 = L1 at *
      have HLf := Lib.hid hl
      have HA := Lib.hid hA
      clear hl hA
      go_wp2_with fail
      go_roundw
      case rel => exact ⟨4, by decide, congrArg _ HLf.out, by go_num, hE, HA.out⟩
      case measure => simp [intOf]
    · have z0 := hA.cell (k := 0) (by decide)
      have z1 := hA.cell (k := 1) (by decide)
      have z2 := hA.cell (k := 2) (by decide)
      have z3 := hA.cell (k := 3) (by decide)
      have z4 := hA.cell (k := 4) (by decide)
      have z5 := hA.cell (k := 5) (by decide)
      have z6 := hA.cell (k := 6) (by decide)
      have z7 := hA.cell (k := 7) (by decide)
      have z8 := hA.cell (k := 8) (by decide)
      have z9 := hA.cell (k := 9) (by decide)
      have hwf := HW.out
      have HA := Lib.hid hA
      rcases HCMP.out with ⟨hall, rfl⟩ | ⟨hall, rfl, hne⟩
      · have g0 := hall 0 (by decide)
        have g1 := hall 1 (by decide)
        have g2 := hall 2 (by decide)
        have g3 := hall 3 (by decide)
        have g4 := hall 4 (by decide)
        have g5 := hall 5 (by decide)
        have g6 := hall 6 (by decide)
        have g7 := hall 7 (by decide)
        have g8 := hall 8 (by decide)
        have g9 := hall 9 (by decide)
        clear hall hA
        go_wp2_with fail
        refine wp_region_after (by kernel_rfl) (by kernel_rfl) ?_
        repeat (go_big_quiet_step ((go_at_call 152; exact quiet_after (HOF.out _))))
        refine wpQuiet_nil ?_
        rintro _ ⟨xx, rfl⟩
        obtain ⟨wq, hq⟩ := xx
        try dsimp only
        go_wp2_with fail
        refine bodyPost_ret (v := .tuple #[.int .i64 z, .bool true]) (by simp [results, Tryz.results150, go_sem, *]) rfl ⟨rfl, hE.trans' hq⟩
      · have g0 := hall 0 (by decide)
        have g1 := hall 1 (by decide)
        have g2 := hall 2 (by decide)
        have g3 := hall 3 (by decide)
        clear hall hA
        go_wp2_with fail
        refine wp_region_after (by kernel_rfl) (by kernel_rfl) ?_
        repeat (go_big_quiet_step ((go_at_call 152; exact quiet_after (HOF.out _))))
        refine wpQuiet_nil ?_
        rintro _ ⟨xx, rfl⟩
        obtain ⟨wq, hq⟩ := xx
        try dsimp only
        go_wp2_with fail
        refine bodyPost_ret (v := .tuple #[.int .i64 0, .bool false]) (by simp [results, Tryz.results150, go_sem, *]) rfl ⟨rfl, hE.trans' hq⟩
theorem int_top (x : Int) (h1 : -730750818665451459101842416358141509827966271488 ≤ x) (h2 : x < 730750818665451459101842416358141509827966271488) (z : Int) (hz : z = wrap64 (x % 18446744073709551616))
    (h : ∀ i, 4 ≤ i → i < 10 → dg z i = dg x i) : I64 x := by
  have hz' : I64 z := by rw [hz]; unfold wrap64 I64; omega
  have hh := hi_dg z hz'
  have e4 := (h 4 (by decide) (by decide)).symm.trans (hh 4 (by decide) (by decide))
  have e5 := (h 5 (by decide) (by decide)).symm.trans (hh 5 (by decide) (by decide))
  have e6 := (h 6 (by decide) (by decide)).symm.trans (hh 6 (by decide) (by decide))
  have e7 := (h 7 (by decide) (by decide)).symm.trans (hh 7 (by decide) (by decide))
  have e8 := (h 8 (by decide) (by decide)).symm.trans (hh 8 (by decide) (by decide))
  have e9 := (h 9 (by decide) (by decide)).symm.trans (hh 9 (by decide) (by decide))
  rw [dg4] at e4
  rw [dg5] at e5
  rw [dg6] at e6
  rw [dg7] at e7
  rw [dg8] at e8
  rw [dg9] at e9
  have q5 : x / 1208925819614629174706176 = x / 18446744073709551616 / 65536 := by rw [Int.ediv_ediv_of_nonneg (by omega)]; rfl
  have q6 : x / 79228162514264337593543950336 = x / 18446744073709551616 / 65536 / 65536 := by rw [Int.ediv_ediv_of_nonneg (by omega), Int.ediv_ediv_of_nonneg (by omega)]; rfl
  have q7 : x / 5192296858534827628530496329220096 = x / 18446744073709551616 / 65536 / 65536 / 65536 := by rw [Int.ediv_ediv_of_nonneg (by omega), Int.ediv_ediv_of_nonneg (by omega), Int.ediv_ediv_of_nonneg (by omega)]; rfl
  have q8 : x / 340282366920938463463374607431768211456 = x / 18446744073709551616 / 65536 / 65536 / 65536 / 65536 := by rw [Int.ediv_ediv_of_nonneg (by omega), Int.ediv_ediv_of_nonneg (by omega), Int.ediv_ediv_of_nonneg (by omega), Int.ediv_ediv_of_nonneg (by omega)]; rfl
  have q9 : x / 22300745198530623141535718272648361505980416 = x / 18446744073709551616 / 65536 / 65536 / 65536 / 65536 / 65536 := by rw [Int.ediv_ediv_of_nonneg (by omega), Int.ediv_ediv_of_nonneg (by omega), Int.ediv_ediv_of_nonneg (by omega), Int.ediv_ediv_of_nonneg (by omega), Int.ediv_ediv_of_nonneg (by omega)]; rfl
  rw [q5] at e5
  rw [q6] at e6
  rw [q7] at e7
  rw [q8] at e8
  rw [q9] at e9
  have ht : -39614081257132168796771975168 ≤ x / 18446744073709551616 ∧ x / 18446744073709551616 < 39614081257132168796771975168 := by omega
  have hx := Int.emod_add_mul_ediv x 18446744073709551616
  have hm1 := Int.emod_nonneg x (show (18446744073709551616 : Int) ≠ 0 by decide)
  have hm2 := Int.emod_lt_of_pos x (show (0 : Int) < 18446744073709551616 by decide)
  generalize x / 18446744073709551616 = t at *
  generalize x % 18446744073709551616 = m at *
  by_cases hn : z < 0
  · simp only [hn, decide_true, cond_true] at e4 e5 e6 e7 e8 e9
    have : t = -1 := by omega
    unfold wrap64 at hz
    unfold I64
    omega
  · simp only [hn, decide_false, cond_false] at e4 e5 e6 e7 e8 e9
    have : t = 0 := by omega
    unfold wrap64 at hz
    unfold I64
    omega
theorem wrap_lo (x : Int) {j : Nat} (h : j < 4) : dg (wrap64 (x % 18446744073709551616)) j = dg x j := by
  have e : wrap64 (x % 18446744073709551616) + (65536 ^ 4 : Int) * ((x + 9223372036854775808) / 18446744073709551616) = x := by
    rw [show (65536 ^ 4 : Int) = 18446744073709551616 from rfl]; unfold wrap64; omega
  have := dg_add (wrap64 (x % 18446744073709551616)) ((x + 9223372036854775808) / 18446744073709551616) h
  rw [e] at this
  exact this.symm
/-- A long number as one of sixty-four bits, if it fits. -/
theorem LInt_c (x : Int) (h1 : -730750818665451459101842416358141509827966271488 ≤ x) (h2 : x < 730750818665451459101842416358141509827966271488) (w : World) :
    Calls Tryz.prog 150 #[longV x] w fun e w' => e = .returned (.tuple #[.int .i64 (fitN x), .bool (fitB x)]) ∧ Ext w w' := by
  have hz : I64 (wrap64 (x % 18446744073709551616)) := by unfold wrap64 I64; omega
  have heq : I64 x → wrap64 (x % 18446744073709551616) = x := fun h => by unfold I64 at h; unfold wrap64; omega
  have hb : ∀ ok : Bool, fitB x = ok → ((∀ j, j < 10 → dg (wrap64 (x % 18446744073709551616)) j = dg x j) ∧ ok = true) ∨ ((∀ j, j < 4 → dg (wrap64 (x % 18446744073709551616)) j = dg x j) ∧ ok = false ∧
      ((dg (wrap64 (x % 18446744073709551616)) 4 == dg x 4 && (dg (wrap64 (x % 18446744073709551616)) 5 == dg x 5 && (dg (wrap64 (x % 18446744073709551616)) 6 == dg x 6 && (dg (wrap64 (x % 18446744073709551616)) 7 == dg x 7 && (dg (wrap64 (x % 18446744073709551616)) 8 == dg x 8 && dg (wrap64 (x % 18446744073709551616)) 9 == dg x 9))))) = false)) := by
    intro ok hok
    cases ok with
    | true => left; exact ⟨fun j _ => by rw [heq (fitB_I hok)], rfl⟩
    | false =>
      right
      refine ⟨fun j hj => wrap_lo x hj, rfl, ?_⟩
      cases hall : (dg (wrap64 (x % 18446744073709551616)) 4 == dg x 4 && (dg (wrap64 (x % 18446744073709551616)) 5 == dg x 5 && (dg (wrap64 (x % 18446744073709551616)) 6 == dg x 6 && (dg (wrap64 (x % 18446744073709551616)) 7 == dg x 7 && (dg (wrap64 (x % 18446744073709551616)) 8 == dg x 8 && dg (wrap64 (x % 18446744073709551616)) 9 == dg x 9))))) with
      | false => rfl
      | true =>
        exfalso
        simp only [Bool.and_eq_true, beq_iff_eq] at hall
        obtain ⟨a4, a5, a6, a7, a8, a9⟩ := hall
        have hI := int_top x h1 h2 _ rfl (fun i h3 h4 => by
          have hc : i = 4 ∨ i = 5 ∨ i = 6 ∨ i = 7 ∨ i = 8 ∨ i = 9 := by omega
          rcases hc with rfl | rfl | rfl | rfl | rfl | rfl
          · exact a4
          · exact a5
          · exact a6
          · exact a7
          · exact a8
          · exact a9)
        rw [fitB_yes hI] at hok
        cases hok
  have := Int_core (dg x) (dg (wrap64 (x % 18446744073709551616))) (dg_bd x) (LL x) (fitB x) (Int.emod_one x) (or0 x) (or1 x) (or2 x) (or3 x) _ rfl (fun w' => OfInt_c _ hz w') (hb _ rfl) w
  refine this.mono ?_
  rintro e w' ⟨rfl, hE⟩
  refine ⟨?_, hE⟩
  unfold fitN
  cases hf : fitB x with
  | false => rfl
  | true =>
    show Ending.returned (.tuple #[.int .i64 (wrap64 (LL x 4)), .bool true]) = _
    have : wrap64 (LL x 4) = x := heq (fitB_I hf)
    rw [this]; rfl
set_option maxRecDepth 20000 in
set_option maxHeartbeats 2000000 in
theorem LAdd_c (x y : Int) (hx : I64 x) (hy : I64 y) (w : World) :
    Calls Tryz.prog 159 #[.int .i64 x, .int .i64 y] w fun e w' => e = .returned (.tuple #[.int .i64 (fitN (x + y)), .bool (fitB (x + y))]) ∧ Ext w w' := by
  have hb : -730750818665451459101842416358141509827966271488 ≤ x + y ∧ x + y < 730750818665451459101842416358141509827966271488 := by unfold I64 at hx hy; omega
  have HB := Lib.hid hb
  have HX := Lib.hid hx
  have HY := Lib.hid hy
  have hP : ∀ w' : World, Calls Tryz.prog 151 #[longV x, longV y] w' fun e w'' => e = .returned (longV (x + y)) ∧ Ext w' w'' := LPlus_c x y
  have hI : ∀ w' : World, Calls Tryz.prog 150 #[longV (x + y)] w' fun e w'' => e = .returned (.tuple #[.int .i64 (fitN (x + y)), .bool (fitB (x + y))]) ∧ Ext w' w'' := LInt_c _ hb.1 hb.2
  have HP := Lib.hid hP
  have HI := Lib.hid hI
  generalize fitN (x + y) = fn at *
  generalize fitB (x + y) = fb at *
  generalize x + y = s at *
  clear hb hx hy hP hI
  go_enter Tryz.func159, Tryz.ntmps159
  go_wp2_with fail
  refine Calls.mono (OfInt_c x HX.out _) ?_
  rintro e w1 ⟨rfl, h1⟩
  generalize longV x = vx at *
  go_wp2_with fail
  refine Calls.mono (OfInt_c y HY.out _) ?_
  rintro e w2 ⟨rfl, h2⟩
  generalize longV y = vy at *
  go_wp2_with fail
  refine Calls.mono (HP.out _) ?_
  rintro e w3 ⟨rfl, h3⟩
  generalize longV s = vs at *
  go_wp2_with fail
  refine Calls.mono (HI.out _) ?_
  rintro e w4 ⟨rfl, h4⟩
  go_wp2_with fail
  go_ret2
  exact ⟨rfl, ((h1.trans' h2).trans' h3).trans' h4⟩
end Go.Proofs.YtfhdjekpdifajaaGreat
namespace Go.Proofs.YtfhdjekpdifajaaGreat
set_option linter.unusedVariables false
open Go.RowKit
theorem Mod.drewR {S : Nat → Prop} {a b : World} (h : Mod S a b) : Mod S a b.drew := h.trans (Ext.mod S (Below.drew (Ext.refl b)))
def RChangePost (w : World) (G : Gr) (R W : Nat) (cs l : List Int) (d : Int) (e : Ending) (w' : World) : Prop :=
  (fitsAll W cs l d R ∧ e = .returned (.int .i64 0) ∧ RGAt w' G R W (putK W cs (fun k => l.getD (at_ W cs k) 0 + d) R l) ∧ Mod (G.foot R) w w') ∨
  (¬ fitsAll W cs l d R ∧ e = .returned (.int .i64 4) ∧ Ext w w')
theorem map_snoc (f : Nat → Int) (k : Nat) : (List.range (k + 1)).map f = (List.range k).map f ++ [f k] := by rw [List.range_succ, List.map_append]; rfl
set_option maxRecDepth 20000 in
set_option maxHeartbeats 8000000 in
theorem RChange_c (G : Gr) (R W : Nat) (l cs : List Int) (v : Value) (d : Int) (w : World) (h : RGAt w G R W l) (hI : ∀ x ∈ l, I64 x) (hd : I64 d) (hv : IntsAt w v cs) (hm : Meets R W cs)
    (hne : ∀ g off n cap, v = .slice (some ⟨g, off, none⟩) n cap → ¬ G.foot R g) :
    Calls Tryz.prog 161 #[.pointer (some ⟨G.g, 0, none⟩), v, .int .i64 d] w (RChangePost w G R W cs l d) := by
  have r1 := h.r1
  have r2 := h.r2
  have hml := hm.len
  obtain ⟨vg, vo, vc, rfl, hg, hc⟩ := hv.slice (by rw [hm.len]; omega)
  have hgc := hne _ _ _ _ rfl
  rw [hml] at hc hv ⊢
  have HL := Lib.hid hml
  have HC := Lib.hid hc
  have HV := Lib.hid hv
  have HH := Lib.hid h
  have HM := Lib.hid hm
  have HI := Lib.hid hI
  have HD := Lib.hid hd
  have HGC := Lib.hid hgc
  clear hc hv h hm hml hI hne hd hgc
  obtain ⟨f, hf⟩ : ∃ f : Nat → Int, f = fun k => l.getD (at_ W cs k) 0 + d := ⟨_, rfl⟩
  have hfk : ∀ k, l.getD (at_ W cs k) 0 + d = f k := fun k => by rw [hf]
  have HFK := Lib.hid hfk
  unfold RChangePost
  rw [← hf]
  clear hf hfk
  go_enter Tryz.func161, Tryz.ntmps161
  go_wp2_with fail
  refine Calls.mono (RMeet_c G R W l cs _ _ HH.out HV.out HM.out) ?_
  rintro e w1 ⟨rfl, hx1⟩
  go_wp2_with fail
  go_loopw [7, 8] (fun u7 u8 wr => ∃ k : Nat, k ≤ R ∧ u8 = .int .i64 k ∧ wr.ownsRow w.heap.size 2 1 u7 ((List.range k).map f).length (ints ((List.range k).map f)) ∧ Ext w wr ∧ ∀ j, j < k → I64 (f j)) (fun _ u8 _ => R - (intOf u8).toNat)
  case atStart => exact ⟨0, Nat.zero_le _, rfl, own_mono (own_empty w1 2) hx1.size, hx1.allocR _, fun j hj => absurd hj (Nat.not_lt_zero _)⟩
  case round =>
    obtain ⟨k, hk, rfl, hown, hE, hall⟩ := hrel
    have HALL := Lib.hid hall
    have hsE := hE.size
    clear hall
    by_cases hlt : k < R
    · have hr := HH.out.ext hE
      obtain ⟨cap2, cg, hcap2⟩ := hr.cg
      have lg := hr.ltg
      have cm := hr.cm hlt
      have lm := hr.ltm
      have dd := ((bcell hE).1 _ _ hg).trans (HC.out k hlt)
      have ld : vg < wr.heap.size := Nat.lt_of_lt_of_le hg hE.size
      have l1 := HM.out.lo k hlt
      have l2 := HM.out.hi k hlt
      have hat : at_ W cs k = k * W + (cs.getD k 0).toNat := rfl
      have hfk := HFK.out k
      rw [hat] at hfk
      have HSN := Lib.hid (map_snoc f k)
      clear hat
      generalize cs.getD k 0 = y at *
      obtain ⟨y, rfl⟩ := Int.eq_ofNat_of_zero_le l1
      have cr := hr.cr hlt (k := y) (by omega)
      have lr := hr.ltr hlt
      have hyI := getD_i64 HI.out (k * W + y)
      have hfk' : l.getD (k * W + y) 0 + d = f k := hfk
      generalize l.getD (k * W + y) 0 = x at *
      have hl8 : ((List.range k).map f).length ≤ 8 := by rw [List.length_map, List.length_range]; omega
      generalize (List.range k).map f = pre at *
      have hy2 : y < W := by omega
      have HF := Lib.hid hfk'
      have HYI := Lib.hid hyI
      have HOWN := Lib.hid hown
      clear hr l1 l2 hfk hfk' hyI hown
      go_wp2_with fail
      have hC0 := af_drew wr
      refine pi_start (fun w' => ∃ z : After wr, w' = z.w) [] (by kernel_rfl) ?_
      refine pi_t 0 rfl (by kernel_rfl) (by kernel_rfl) (fun _ _ _ _ h => h) (fun K hK => ?_)
      go_big_quiet_op
      refine hK _ ?_
      clear hK K
      refine pi_t 1 rfl (by kernel_rfl) (by kernel_rfl) (fun _ _ _ _ h => h) (fun K hK => ?_)
      go_big_quiet_op
      refine hK _ ?_
      clear hK K
      refine pi_t 2 rfl (by kernel_rfl) (by kernel_rfl) (fun _ _ _ _ h => h) (fun K hK => ?_)
      go_big_quiet_op
      refine hK _ ?_
      clear hK K
      refine pi_t 4 rfl (by kernel_rfl) (by kernel_rfl) (fun _ _ _ _ h => h) (fun K hK => ?_)
      go_big_quiet_op
      refine hK _ ?_
      clear hK K
      refine pi_t 7 rfl (by kernel_rfl) (by kernel_rfl) (fun _ _ _ _ h => h) (fun K hK => ?_)
      go_big_quiet_op
      refine hK _ ?_
      clear hK K
      refine pi_t 8 rfl (by kernel_rfl) (by kernel_rfl) (fun _ _ _ _ h => h) (fun K hK => ?_)
      go_big_quiet_op
      refine hK _ ?_
      clear hK K
      refine pi_t 9 rfl (by kernel_rfl) (by kernel_rfl) (fun _ _ _ _ h => h) (fun K hK => ?_)
      go_big_quiet_op
      refine hK _ ?_
      clear hK K
      refine pi_t 13 rfl (by kernel_rfl) (by kernel_rfl) (fun _ _ _ _ h => h) (fun K hK => ?_)
      go_big_quiet_op
      refine hK _ ?_
      clear hK K
      refine pi_c 3 (by assumption) rfl (by kernel_rfl) (by kernel_rfl) (fun _ _ _ _ h => h) (fun K hK => ?_)
      go_big_quiet_op
      refine hK _ ?_
      clear hK K
      refine pi_t 5 rfl (by kernel_rfl) (by kernel_rfl) (fun _ _ _ _ h => h) (fun K hK => ?_)
      go_big_quiet_op
      refine hK _ ?_
      clear hK K
      refine pi_c 6 (by assumption) rfl (by kernel_rfl) (by kernel_rfl) (fun _ _ _ _ h => h) (fun K hK => ?_)
      go_big_quiet_op
      refine hK _ ?_
      clear hK K
      refine pi_c 10 (by assumption) rfl (by kernel_rfl) (by kernel_rfl) (fun _ _ _ _ h => h) (fun K hK => ?_)
      go_big_quiet_op
      refine hK _ ?_
      clear hK K
      refine pi_t 11 rfl (by kernel_rfl) (by kernel_rfl) (fun _ _ _ _ h => h) (fun K hK => ?_)
      go_big_quiet_op
      refine hK _ ?_
      clear hK K
      refine pi_c 12 (by assumption) rfl (by kernel_rfl) (by kernel_rfl) (fun _ _ _ _ h => h) (fun K hK => ?_)
      go_big_quiet_op
      refine hK _ ?_
      clear hK K
      refine pi_l 14 rfl (by kernel_rfl) (fun K hK => ?_)
      go_wp2_with fail
      refine Calls.mono (LAdd_c x d HYI.out HD.out _) ?_
      rintro e w3 ⟨rfl, hx3⟩
      rw [HF.out]
      have hE3 : Ext wr w3 := Ext.trans' (Below.drew (Ext.refl wr)) hx3
      go_wp2
      refine hK _ _ (fun _ h => af_step h hx3) ?_
      clear hK K
      refine pi_t 15 rfl (by kernel_rfl) (by kernel_rfl) (fun _ _ _ _ h => h) (fun K hK => ?_)
      go_big_quiet_op
      refine hK _ ?_
      clear hK K
      refine pi_t 16 rfl (by kernel_rfl) (by kernel_rfl) (fun _ _ _ _ h => h) (fun K hK => ?_)
      go_big_quiet_op
      refine hK _ ?_
      clear hK K
      refine pi_t 17 rfl (by kernel_rfl) (by kernel_rfl) (fun _ _ _ _ h => h) (fun K hK => ?_)
      go_big_quiet_op
      refine hK _ ?_
      clear hK K
      refine pi_t 18 rfl (by kernel_rfl) (by kernel_rfl) (fun _ _ _ _ h => h) (fun K hK => ?_)
      go_big_quiet_op
      refine hK _ ?_
      clear hK K
      refine pi_t 19 rfl (by kernel_rfl) (by kernel_rfl) (fun _ _ _ _ h => h) (fun K hK => ?_)
      go_big_quiet_op
      refine hK _ ?_
      clear hK K
      refine pi_end (by kernel_rfl) ?_
      by_cases hfit : I64 (f k)
      · have fb := fitB_yes hfit
        have fn := fitN_yes hfit
        rw [fb, fn]
        have hs3 := hE3.size
        have hown3 := own_ext HOWN.out hE3
        clear fb fn
        go_wp2_with (at_builtin; refine wpList_app1 w3 (f k) pre u7 w.heap.size 2 hown3 43 rfl _ _ rfl info_i64 Tryz.underlying43 rfl rfl ?a1 ?a2 ?_)
        case a1 => omega
        case a2 => omega
        intro v' w' g1 g2 g3
        have hE4 : Ext w w' := ext_grown (hE.trans' hE3) g2 (fun i hi => own_blk hown3 hi)
        have G1 := Lib.hid g1
        clear g1 g2 g3 hown3
        go_wp2
        go_roundw
        case rel =>
          refine ⟨k + 1, by omega, by go_num, by rw [HSN.out, List.length_append]; exact G1.out, hE4, fun j hj => ?_⟩
          by_cases e : j = k
          · rw [e]; exact hfit
          · exact HALL.out j (by omega)
        case measure => simp [intOf]; omega
      · have fb := fitB_no hfit
        rw [fb]
        clear fb
        go_wp2
        go_ret
        exact .inr ⟨fun ha => hfit (by rw [← HFK.out k]; exact ha k hlt), rfl, hE.trans' hE3⟩
    · obtain rfl : k = R := by omega
      rename World => wo
      have hints := IntsAt.of_row hown
      have hlen : ((List.range k).map f).length = k := by simp
      obtain ⟨og, oo, oc, rfl, hog, hoc⟩ := hints.slice (by omega)
      have hob := own_blk hown (k := og) rfl
      rw [hlen] at hoc
      have HOC := Lib.hid hoc
      have HR0 := Lib.hid (HH.out.ext hE)
      rw [hlen]
      have HRG := Lib.hid (show ∀ j, j < k → ((List.range k).map f).getD j 0 = f j from fun j hj => by simp [hj])
      clear hown hints hoc hlen
      go_wp2_with fail
      go_loopw [11] (fun u wr => ∃ j : Nat, j ≤ k ∧ u = .int .i64 j ∧ RGAt wr G k W (putK W cs f j l) ∧ Mod (G.foot k) wo wr) (fun u _ => k - (intOf u).toNat)
      case atStart => exact ⟨0, Nat.zero_le _, rfl, HR0.out, Mod.refl _ _⟩
      case round =>
        obtain ⟨j, hj, rfl, hr, hM⟩ := hrel
        have hsM := hM.size
        by_cases hlt : j < k
        · obtain ⟨cap2, cg, hcap2⟩ := hr.cg
          have lg := hr.ltg
          have cm := hr.cm hlt
          have lm := hr.ltm
          have hgE : vg < wo.heap.size := Nat.lt_of_lt_of_le hg hsE
          have dd := (mcell hM hgE HGC.out _).trans (((bcell hE).1 _ _ hg).trans (HC.out j hlt))
          have ld : vg < wr.heap.size := Nat.lt_of_lt_of_le hgE hsM
          have hno : ¬ G.foot k og := fun hf => by have := HH.out.lt hf; omega
          have oo1 := (mcell hM hog hno _).trans (HOC.out j hlt)
          rw [HRG.out j hlt] at oo1
          have lo : og < wr.heap.size := Nat.lt_of_lt_of_le hog hsM
          have l1 := HM.out.lo j hlt
          have l2 := HM.out.hi j hlt
          have hat : at_ W cs j = j * W + (cs.getD j 0).toNat := rfl
          have hput : putK W cs f (j + 1) l = (putK W cs f j l).set (at_ W cs j) (f j) := rfl
          rw [hat] at hput
          clear hat
          generalize cs.getD j 0 = y at *
          obtain ⟨y, rfl⟩ := Int.eq_ofNat_of_zero_le l1
          have hy2 : y < W := by omega
          have cr := hr.cr hlt hy2
          have lr := hr.ltr hlt
          have fr := hr.fr hlt y
          have hput' : putK W cs f (j + 1) l = (putK W cs f j l).set (j * W + y) (f j) := hput
          have HPUT := Lib.hid hput'
          have HR := Lib.hid hr
          clear hput hput' hr l1 l2
          generalize f j = x at *
          generalize (putK W cs f j l).getD (j * W + y) 0 = x0 at *
          go_wp2_with fail
          have hC0 := af_drew wr
          refine pi_start (fun w' => ∃ z : After wr, w' = z.w) [16] (by kernel_rfl) ?_
          refine pi_t 0 rfl (by kernel_rfl) (by kernel_rfl) (fun _ _ _ _ h => h) (fun K hK => ?_)
          go_big_quiet_op
          refine hK _ ?_
          clear hK K
          refine pi_t 1 rfl (by kernel_rfl) (by kernel_rfl) (fun _ _ _ _ h => h) (fun K hK => ?_)
          go_big_quiet_op
          refine hK _ ?_
          clear hK K
          refine pi_t 2 rfl (by kernel_rfl) (by kernel_rfl) (fun _ _ _ _ h => h) (fun K hK => ?_)
          go_big_quiet_op
          refine hK _ ?_
          clear hK K
          refine pi_t 4 rfl (by kernel_rfl) (by kernel_rfl) (fun _ _ _ _ h => h) (fun K hK => ?_)
          go_big_quiet_op
          refine hK _ ?_
          clear hK K
          refine pi_t 7 rfl (by kernel_rfl) (by kernel_rfl) (fun _ _ _ _ h => h) (fun K hK => ?_)
          go_big_quiet_op
          refine hK _ ?_
          clear hK K
          refine pi_t 8 rfl (by kernel_rfl) (by kernel_rfl) (fun _ _ _ _ h => h) (fun K hK => ?_)
          go_big_quiet_op
          refine hK _ ?_
          clear hK K
          refine pi_t 9 rfl (by kernel_rfl) (by kernel_rfl) (fun _ _ _ _ h => h) (fun K hK => ?_)
          go_big_quiet_op
          refine hK _ ?_
          clear hK K
          refine pi_t 11 rfl (by kernel_rfl) (by kernel_rfl) (fun _ _ _ _ h => h) (fun K hK => ?_)
          go_big_quiet_op
          refine hK _ ?_
          clear hK K
          refine pi_t 12 rfl (by kernel_rfl) (by kernel_rfl) (fun _ _ _ _ h => h) (fun K hK => ?_)
          go_big_quiet_op
          refine hK _ ?_
          clear hK K
          refine pi_t 13 rfl (by kernel_rfl) (by kernel_rfl) (fun _ _ _ _ h => h) (fun K hK => ?_)
          go_big_quiet_op
          refine hK _ ?_
          clear hK K
          refine pi_c 3 (by assumption) rfl (by kernel_rfl) (by kernel_rfl) (fun _ _ _ _ h => h) (fun K hK => ?_)
          go_big_quiet_op
          refine hK _ ?_
          clear hK K
          refine pi_t 5 rfl (by kernel_rfl) (by kernel_rfl) (fun _ _ _ _ h => h) (fun K hK => ?_)
          go_big_quiet_op
          refine hK _ ?_
          clear hK K
          refine pi_c 6 (by assumption) rfl (by kernel_rfl) (by kernel_rfl) (fun _ _ _ _ h => h) (fun K hK => ?_)
          go_big_quiet_op
          refine hK _ ?_
          clear hK K
          refine pi_c 10 (by assumption) rfl (by kernel_rfl) (by kernel_rfl) (fun _ _ _ _ h => h) (fun K hK => ?_)
          go_big_quiet_op
          refine hK _ ?_
          clear hK K
          refine pi_c 14 (by assumption) rfl (by kernel_rfl) (by kernel_rfl) (fun _ _ _ _ h => h) (fun K hK => ?_)
          go_big_quiet_op
          refine hK _ ?_
          clear hK K
          refine pi_t 15 rfl (by kernel_rfl) (by kernel_rfl) (fun _ _ _ _ h => h) (fun K hK => ?_)
          go_big_quiet_op
          refine hK _ ?_
          clear hK K
          refine pi_l 16 rfl (by kernel_rfl) (fun K hK => ?_)
          go_wp2
          refine hK _ _ (by simp) ?_
          clear hK K
          refine pi_end (by kernel_rfl) ?_
          go_wp2_with fail
          go_roundw
          case rel =>
            refine ⟨j + 1, by omega, by go_num, ?_, (hM.trans (mod_rset hlt y _)).drewR⟩
            rw [HPUT.out]
            exact (HR.out.set hlt hy2 x).keep (fun _ _ => rfl)
          case measure => simp [intOf]; omega
        · obtain rfl : j = k := by omega
          go_wp2
          go_ret
          exact .inl ⟨fun i hi => by rw [HFK.out]; exact HALL.out i hi, rfl, hr, (hE.mod _).trans hM⟩
end Go.Proofs.YtfhdjekpdifajaaGreat
