/- gaugerref02.Mul. -/
import Derived.Test.YthancaehlijaoaaPlus
namespace Go.Proofs.Ythancaehlijaoaa
set_option linter.unusedVariables false
open Go.RowKit

theorem fillA_congr {f g : Nat → Int} (h : ∀ j, j < 10 → f j = g j) : fillA f 10 10 = fillA g 10 10 := by
  apply Array.ext
  · simp [fillA]
  · intro i h1 h2
    have hi : i < 10 := by simpa [fillA] using h1
    simp [fillA, hi, h i hi]
theorem fillA_put (f : Nat → Int) (m : Nat) (v : Int) (hm : m < 10) : (fillA f 10 10).setIfInBounds m (.int .i64 v) = fillA (fun j => if j = m then v else f j) 10 10 := by
  apply Array.ext
  · simp [fillA]
  · intro i h1 h2
    have hi : i < 10 := by simpa [fillA] using h1
    by_cases he : m = i
    · subst he; simp [fillA, hi]
    · have he' : ¬ i = m := fun h => he h.symm
      simp [fillA, hi, Array.getElem_setIfInBounds, he, he']
/-- A box of ten digits. -/
def LongAt (w : World) (b : Nat) (a : Nat → Int) : Prop := w.heap[b]? = some (.cells (fillA a 10 10) 75 (0, 0))
theorem LongAt.cell {w : World} {b : Nat} {a : Nat → Int} (h : LongAt w b a) {k : Nat} (hk : k < 10) : w.cell? ⟨b, k, none⟩ = some (.int .i64 (a k)) := by
  rw [cell_of h, fillA_at a 10 10 k hk, if_pos hk]
theorem LongAt.keep {w w' : World} {b : Nat} {a : Nat → Int} (h : LongAt w b a) (he : w'.heap[b]? = w.heap[b]?) : LongAt w' b a := he.trans h
theorem LongAt.congr {w : World} {b : Nat} {f g : Nat → Int} (h : LongAt w b f) (he : ∀ j, j < 10 → f j = g j) : LongAt w b g := by
  unfold LongAt at *; rw [← fillA_congr he]; exact h
theorem LongAt.put {w : World} {b : Nat} {f : Nat → Int} (h : LongAt w b f) {m : Nat} (hm : m < 10) (v : Int) : LongAt (w.setCell ⟨b, m, none⟩ (.int .i64 v)) b (fun j => if j = m then v else f j) := by
  unfold LongAt at *
  rw [setCell_same h m, fillA_put f m v hm]
theorem alloc4 (w : World) (o1 o2 o3 o4 : Obj) : ((((w.alloc o1).alloc o2).alloc o3).alloc o4).heap[w.heap.size]? = some o1 ∧ ((((w.alloc o1).alloc o2).alloc o3).alloc o4).heap[w.heap.size + 1]? = some o2 ∧ ((((w.alloc o1).alloc o2).alloc o3).alloc o4).heap[w.heap.size + 1 + 1]? = some o3 ∧ ((((w.alloc o1).alloc o2).alloc o3).alloc o4).heap[w.heap.size + 1 + 1 + 1]? = some o4 := by
  refine ⟨?_, ?_, ?_, heap_at _ _ (by simp only [size_alloc])⟩
  · rw [heap_old _ _ (by simp only [size_alloc]; omega), heap_old _ _ (by simp only [size_alloc]; omega), heap_old _ _ (by simp only [size_alloc]; omega)]
    exact heap_at _ _ rfl
  · rw [heap_old _ _ (by simp only [size_alloc]; omega), heap_old _ _ (by simp only [size_alloc]; omega)]
    exact heap_at _ _ (by simp only [size_alloc])
  · rw [heap_old _ _ (by simp only [size_alloc]; omega)]
    exact heap_at _ _ (by simp only [size_alloc])
theorem fin10 {Φ : World → Prop} {w W : World} {b : Nat} {x0 x1 x2 x3 x4 x5 x6 x7 x8 x9 : Value} {t : TypeId} (h : W.heap[b]? = some (.cells #[x0, x1, x2, x3, x4, x5, x6, x7, x8, x9] t (0, 0))) (hE : Ext w W) (hb : w.heap.size ≤ b) {u0 u1 u2 u3 u4 u5 u6 u7 u8 u9 : Value}
    (hΦ : ∀ W' : World, W'.heap[b]? = some (.cells #[u0, u1, u2, u3, u4, u5, u6, u7, u8, u9] t (0, 0)) → Ext w W' → Φ W') : Φ ((((((((((W.setCell ⟨b, 0, none⟩ u0).setCell ⟨b, 1, none⟩ u1).setCell ⟨b, 2, none⟩ u2).setCell ⟨b, 3, none⟩ u3).setCell ⟨b, 4, none⟩ u4).setCell ⟨b, 5, none⟩ u5).setCell ⟨b, 6, none⟩ u6).setCell ⟨b, 7, none⟩ u7).setCell ⟨b, 8, none⟩ u8).setCell ⟨b, 9, none⟩ u9) := by
  have h0 : (W.setCell ⟨b, 0, none⟩ u0).heap[b]? = some (.cells #[u0, x1, x2, x3, x4, x5, x6, x7, x8, x9] t (0, 0)) := setCell_same h 0 u0
  have h1 : ((W.setCell ⟨b, 0, none⟩ u0).setCell ⟨b, 1, none⟩ u1).heap[b]? = some (.cells #[u0, u1, x2, x3, x4, x5, x6, x7, x8, x9] t (0, 0)) := setCell_same h0 1 u1
  have h2 : (((W.setCell ⟨b, 0, none⟩ u0).setCell ⟨b, 1, none⟩ u1).setCell ⟨b, 2, none⟩ u2).heap[b]? = some (.cells #[u0, u1, u2, x3, x4, x5, x6, x7, x8, x9] t (0, 0)) := setCell_same h1 2 u2
  have h3 : ((((W.setCell ⟨b, 0, none⟩ u0).setCell ⟨b, 1, none⟩ u1).setCell ⟨b, 2, none⟩ u2).setCell ⟨b, 3, none⟩ u3).heap[b]? = some (.cells #[u0, u1, u2, u3, x4, x5, x6, x7, x8, x9] t (0, 0)) := setCell_same h2 3 u3
  have h4 : (((((W.setCell ⟨b, 0, none⟩ u0).setCell ⟨b, 1, none⟩ u1).setCell ⟨b, 2, none⟩ u2).setCell ⟨b, 3, none⟩ u3).setCell ⟨b, 4, none⟩ u4).heap[b]? = some (.cells #[u0, u1, u2, u3, u4, x5, x6, x7, x8, x9] t (0, 0)) := setCell_same h3 4 u4
  have h5 : ((((((W.setCell ⟨b, 0, none⟩ u0).setCell ⟨b, 1, none⟩ u1).setCell ⟨b, 2, none⟩ u2).setCell ⟨b, 3, none⟩ u3).setCell ⟨b, 4, none⟩ u4).setCell ⟨b, 5, none⟩ u5).heap[b]? = some (.cells #[u0, u1, u2, u3, u4, u5, x6, x7, x8, x9] t (0, 0)) := setCell_same h4 5 u5
  have h6 : (((((((W.setCell ⟨b, 0, none⟩ u0).setCell ⟨b, 1, none⟩ u1).setCell ⟨b, 2, none⟩ u2).setCell ⟨b, 3, none⟩ u3).setCell ⟨b, 4, none⟩ u4).setCell ⟨b, 5, none⟩ u5).setCell ⟨b, 6, none⟩ u6).heap[b]? = some (.cells #[u0, u1, u2, u3, u4, u5, u6, x7, x8, x9] t (0, 0)) := setCell_same h5 6 u6
  have h7 : ((((((((W.setCell ⟨b, 0, none⟩ u0).setCell ⟨b, 1, none⟩ u1).setCell ⟨b, 2, none⟩ u2).setCell ⟨b, 3, none⟩ u3).setCell ⟨b, 4, none⟩ u4).setCell ⟨b, 5, none⟩ u5).setCell ⟨b, 6, none⟩ u6).setCell ⟨b, 7, none⟩ u7).heap[b]? = some (.cells #[u0, u1, u2, u3, u4, u5, u6, u7, x8, x9] t (0, 0)) := setCell_same h6 7 u7
  have h8 : (((((((((W.setCell ⟨b, 0, none⟩ u0).setCell ⟨b, 1, none⟩ u1).setCell ⟨b, 2, none⟩ u2).setCell ⟨b, 3, none⟩ u3).setCell ⟨b, 4, none⟩ u4).setCell ⟨b, 5, none⟩ u5).setCell ⟨b, 6, none⟩ u6).setCell ⟨b, 7, none⟩ u7).setCell ⟨b, 8, none⟩ u8).heap[b]? = some (.cells #[u0, u1, u2, u3, u4, u5, u6, u7, u8, x9] t (0, 0)) := setCell_same h7 8 u8
  have h9 : ((((((((((W.setCell ⟨b, 0, none⟩ u0).setCell ⟨b, 1, none⟩ u1).setCell ⟨b, 2, none⟩ u2).setCell ⟨b, 3, none⟩ u3).setCell ⟨b, 4, none⟩ u4).setCell ⟨b, 5, none⟩ u5).setCell ⟨b, 6, none⟩ u6).setCell ⟨b, 7, none⟩ u7).setCell ⟨b, 8, none⟩ u8).setCell ⟨b, 9, none⟩ u9).heap[b]? = some (.cells #[u0, u1, u2, u3, u4, u5, u6, u7, u8, u9] t (0, 0)) := setCell_same h8 9 u9
  exact hΦ _ h9 ((((((((((hE.setR (p := ⟨b, 0, none⟩) hb _).setR (p := ⟨b, 1, none⟩) hb _).setR (p := ⟨b, 2, none⟩) hb _).setR (p := ⟨b, 3, none⟩) hb _).setR (p := ⟨b, 4, none⟩) hb _).setR (p := ⟨b, 5, none⟩) hb _).setR (p := ⟨b, 6, none⟩) hb _).setR (p := ⟨b, 7, none⟩) hb _).setR (p := ⟨b, 8, none⟩) hb _).setR (p := ⟨b, 9, none⟩) hb _)
structure MulD (a b : Nat → Int) (D c : Nat → Nat → Int) : Prop where
  ha : ∀ i, 0 ≤ a i ∧ a i ≤ 65535
  hb : ∀ i, 0 ≤ b i ∧ b i ≤ 65535
  hD : ∀ i j, 0 ≤ D i j ∧ D i j ≤ 65535
  hc : ∀ i k, 0 ≤ c i k ∧ c i k ≤ 65535
  d0 : ∀ j, D 0 j = 0
  c0 : ∀ i, c i 0 = 0
  s : ∀ i k, i + k < 10 → (D i (i + k) + a i * b k + c i k) % 65536 = D (i + 1) (i + k)
  n : ∀ i k, i + k < 10 → (D i (i + k) + a i * b k + c i k) / 65536 = c i (k + 1)
  l : ∀ i j, j < i → D (i + 1) j = D i j
set_option maxRecDepth 20000 in
set_option maxHeartbeats 8000000 in
theorem Mul_core (a b : Nat → Int) (D c : Nat → Nat → Int) (M : MulD a b D c) (w : World) :
    Calls Try.prog 69 #[longA a, longA b] w fun e w' => e = .returned (longA (D 10)) ∧ Ext w w' := by
  have HM := Lib.hid M
  clear M
  unfold longA
  go_enter Try.func69, Try.ntmps69
  go_wp2_with fail
  go_loopw [6] (fun u6 wr => ∃ i : Nat, i ≤ 10 ∧ u6 = .int .i64 i ∧ Ext w wr ∧ LongAt wr w.heap.size a ∧ LongAt wr (w.heap.size + 1) b ∧ LongAt wr (w.heap.size + 1 + 1) (fun _ => 0) ∧ LongAt wr (w.heap.size + 1 + 1 + 1) (D i)) (fun u6 _ => 10 - (intOf u6).toNat)
  case atStart =>
    obtain ⟨e1, e2, e3, e4⟩ := alloc4 w _ _ _ _
    exact ⟨0, Nat.zero_le _, rfl, (((Ext.alloc' _ _).allocR _).allocR _).allocR _, by unfold LongAt; rw [fill10]; exact e1, by unfold LongAt; rw [fill10]; exact e2, by unfold LongAt; rw [fill10]; exact e3, by unfold LongAt; rw [fill10]; simp only [HM.out.d0]; exact e4⟩
  case round =>
    obtain ⟨i, hi, rfl, hE, hA, hB, hZ, hO⟩ := hrel
    by_cases hgo : i < 10
    · have HA := Lib.hid hA
      have HB := Lib.hid hB
      have HZ := Lib.hid hZ
      have HO := Lib.hid hO
      clear hA hB hZ hO
      go_wp2_with fail
      go_loopw [7, 8] (fun u7 u8 wq => ∃ k : Nat, i + k ≤ 10 ∧ u7 = .int .i64 (c i k) ∧ u8 = .int .i64 k ∧ Ext w wq ∧ LongAt wq w.heap.size a ∧ LongAt wq (w.heap.size + 1) b ∧ LongAt wq (w.heap.size + 1 + 1) (fun _ => 0) ∧ LongAt wq (w.heap.size + 1 + 1 + 1) (fun j => if j < i + k then D (i + 1) j else D i j)) (fun _ u8 _ => 10 - (intOf u8).toNat)
      case atStart =>
        exact ⟨0, by omega, by rw [HM.out.c0], rfl, hE, HA.out, HB.out, HZ.out, HO.out.congr (fun j hj => by
          by_cases h : j < i + 0
          · rw [if_pos h]; exact (HM.out.l i j (by omega)).symm
          · rw [if_neg h])⟩
      case round =>
        clear hE HA HB HZ HO
        obtain ⟨k, hk, rfl, rfl, hE, hA, hB, hZ, hO⟩ := hrel
        by_cases hgo2 : i + k < 10
        · have x0 := hO.cell hgo2
          rw [if_neg (by omega)] at x0
          have x1 := hA.cell hgo
          have x2 := hB.cell (show k < 10 by omega)
          have f0 := frozen_of hO (i + k)
          have l0 := lt_of hA
          have l1 := lt_of hB
          have l3 := lt_of hO
          have hst := HM.out.s i k hgo2
          have hnn := HM.out.n i k hgo2
          obtain ⟨a1, a2⟩ := HM.out.ha i
          obtain ⟨b1, b2⟩ := HM.out.hb k
          obtain ⟨d1, d2⟩ := HM.out.hD i (i + k)
          obtain ⟨c1, c2⟩ := HM.out.hc i k
          have hp := mul_abs (a := a i) (b := b k) (A := 65535) (B := 65535) (by omega) (by omega)
          have hp0 : 0 ≤ a i * b k := Int.mul_nonneg a1 b1
          have HAt := Lib.hid hA
          have HBt := Lib.hid hB
          have HZt := Lib.hid hZ
          have HOt := Lib.hid hO
          have HST := Lib.hid hst
          have HNN := Lib.hid hnn
          have hgi : ((i : Int) + (k : Int) < 10) := by omega
          clear hA hB hZ hO hst hnn
          generalize hak : a i = ak at *
          generalize hbk : b k = bk at *
          generalize hdk : D i (i + k) = dk at *
          generalize hck : c i k = ck at *
          obtain ⟨p, hpp⟩ : ∃ p, ak * bk = p := ⟨_, rfl⟩
          rw [hpp] at hp hp0
          have HPP := Lib.hid hpp
          go_wp2_with fail
          go_region
          go_wp2_with fail
          go_roundw
          case rel =>
            refine ⟨k + 1, by omega, by rw [← HNN.out, HPP.out], by go_num, (hE.setR (p := ⟨w.heap.size + 1 + 1 + 1, i + k, none⟩) (by show _ ≤ w.heap.size + 1 + 1 + 1; omega) _).drewR, HAt.out.keep (setCell_other _ _ (by omega)), HBt.out.keep (setCell_other _ _ (by omega)), HZt.out.keep (setCell_other _ _ (by omega)), ?_⟩
            refine LongAt.congr (HOt.out.put hgo2 _) (fun j hj => ?_)
            by_cases h : j = i + k
            · rw [if_pos h, if_pos (by omega), h, ← HST.out, HPP.out]
            · rw [if_neg h]
              by_cases h2 : j < i + k
              · rw [if_pos h2, if_pos (by omega)]
              · rw [if_neg h2, if_neg (by omega)]
          case measure => simp [intOf]; omega
        · have hgi : ¬ ((i : Int) + (k : Int) < 10) := by omega
          have hO' : LongAt wr (w.heap.size + 1 + 1 + 1) (D (i + 1)) := hO.congr (fun j hj => if_pos (by omega))
          have HAt := Lib.hid hA
          have HBt := Lib.hid hB
          have HZt := Lib.hid hZ
          have HOt := Lib.hid hO'
          clear hA hB hZ hO hO'
          go_wp2_with fail
          go_roundw
          case rel => exact ⟨i + 1, by omega, by go_num, hE, HAt.out, HBt.out, HZt.out, HOt.out⟩
          case measure => simp [intOf]; omega
    · obtain rfl : i = 10 := by omega
      unfold LongAt at hZ hO
      obtain ⟨s, hs10⟩ : ∃ s, D 10 = s := ⟨_, rfl⟩
      rw [hs10] at hO
      have HS10 := Lib.hid hs10
      clear hs10
      rw [fill10] at hZ hO
      have y0 := (cell_of hO 0).trans rfl
      have y1 := (cell_of hO 1).trans rfl
      have y2 := (cell_of hO 2).trans rfl
      have y3 := (cell_of hO 3).trans rfl
      have y4 := (cell_of hO 4).trans rfl
      have y5 := (cell_of hO 5).trans rfl
      have y6 := (cell_of hO 6).trans rfl
      have y7 := (cell_of hO 7).trans rfl
      have y8 := (cell_of hO 8).trans rfl
      have y9 := (cell_of hO 9).trans rfl
      have p0 := (cell_of hZ 0).trans rfl
      have f0 := frozen_of hZ 0
      have p1 := (cell_of hZ 1).trans rfl
      have f1 := frozen_of hZ 1
      have p2 := (cell_of hZ 2).trans rfl
      have f2 := frozen_of hZ 2
      have p3 := (cell_of hZ 3).trans rfl
      have f3 := frozen_of hZ 3
      have p4 := (cell_of hZ 4).trans rfl
      have f4 := frozen_of hZ 4
      have p5 := (cell_of hZ 5).trans rfl
      have f5 := frozen_of hZ 5
      have p6 := (cell_of hZ 6).trans rfl
      have f6 := frozen_of hZ 6
      have p7 := (cell_of hZ 7).trans rfl
      have f7 := frozen_of hZ 7
      have p8 := (cell_of hZ 8).trans rfl
      have f8 := frozen_of hZ 8
      have p9 := (cell_of hZ 9).trans rfl
      have f9 := frozen_of hZ 9
      have l3 := lt_of hO
      have l2 := lt_of hZ
      have HZf := Lib.hid hZ
      clear hA hB hZ hO HM
      go_wp2_with fail
      refine fin10 (Φ := fun W' => bodyPost _ _ _ _ _ W') HZf.out hE (by omega) (fun W' hW hEW => ?_)
      clear y0 p0 f0
      clear y1 p1 f1
      clear y2 p2 f2
      clear y3 p3 f3
      clear y4 p4 f4
      clear y5 p5 f5
      clear y6 p6 f6
      clear y7 p7 f7
      clear y8 p8 f8
      clear y9 p9 f9
      have r0 := (cell_of hW 0).trans rfl
      have r1 := (cell_of hW 1).trans rfl
      have r2 := (cell_of hW 2).trans rfl
      have r3 := (cell_of hW 3).trans rfl
      have r4 := (cell_of hW 4).trans rfl
      have r5 := (cell_of hW 5).trans rfl
      have r6 := (cell_of hW 6).trans rfl
      have r7 := (cell_of hW 7).trans rfl
      have r8 := (cell_of hW 8).trans rfl
      have r9 := (cell_of hW 9).trans rfl
      clear hW
      refine bodyPost_ret (v := .agg #[.int .i64 (s 0), .int .i64 (s 1), .int .i64 (s 2), .int .i64 (s 3), .int .i64 (s 4), .int .i64 (s 5), .int .i64 (s 6), .int .i64 (s 7), .int .i64 (s 8), .int .i64 (s 9)]) ?_ rfl ⟨by rw [HS10.out], hEW⟩
      simp [results, Try.results69, go_sem, r0, r1, r2, r3, r4, r5, r6, r7, r8, r9]
/-- Digits and carries of a product. -/
def mD (x y : Int) (i j : Nat) : Int := dg (x % (65536 ^ i : Int) * y) j
def mC (x y : Int) (i k : Nat) : Int := ((x % (65536 ^ i : Int) * y) % (65536 ^ (i + k) : Int) + dg x i * (65536 ^ i : Int) * (y % (65536 ^ k : Int))) / (65536 ^ (i + k) : Int)
theorem mul_step {P a y B N : Int} (hB : 0 < B) (hN : 0 < N) :
    (P / (B * N) % 65536 + a * (y / N % 65536) + (P % (B * N) + a * B * (y % N)) / (B * N)) % 65536 = (P + a * B * y) / (B * N) % 65536 ∧
    (P / (B * N) % 65536 + a * (y / N % 65536) + (P % (B * N) + a * B * (y % N)) / (B * N)) / 65536 = (P % (B * N * 65536) + a * B * (y % (N * 65536))) / (B * N * 65536) := by
  have hM : 0 < B * N := Int.mul_pos hB hN
  have eP := Int.emod_add_mul_ediv P (B * N)
  have ey := Int.emod_add_mul_ediv y N
  have h1 : a * B * y = a * B * (y % N) + B * N * (a * (y / N)) := by
    have : a * B * y = a * B * (y % N + N * (y / N)) := by rw [ey]
    rw [this, Int.mul_add]
    congr 1
    rw [← Int.mul_assoc, Int.mul_assoc a B N, Int.mul_comm a (B * N), Int.mul_assoc]
  have h2 : P + a * B * y = (P % (B * N) + a * B * (y % N)) + B * N * (P / (B * N) + a * (y / N)) := by
    rw [Int.mul_add, h1]; omega
  have h3 : P % (B * N * 65536) + a * B * (y % (N * 65536)) = (P % (B * N) + a * B * (y % N)) + B * N * (P / (B * N) % 65536 + a * (y / N % 65536)) := by
    rw [mod_mul' P (B * N) hM, mod_mul' y N hN, Int.mul_add (a * B)]
    have : a * B * (N * (y / N % 65536)) = B * N * (a * (y / N % 65536)) := by
      rw [← Int.mul_assoc, Int.mul_assoc a B N, Int.mul_comm a (B * N), Int.mul_assoc]
    rw [this, Int.mul_add (B * N)]
    omega
  constructor
  · rw [h2, Int.add_mul_ediv_left _ _ (show B * N ≠ 0 by omega)]
    generalize (P % (B * N) + a * B * (y % N)) / (B * N) = c
    have eq := Int.emod_add_mul_ediv (y / N) 65536
    have e2 : a * (y / N) = a * (y / N % 65536 + 65536 * (y / N / 65536)) := by rw [eq]
    rw [Int.mul_add, ← Int.mul_assoc a 65536, Int.mul_comm a 65536, Int.mul_assoc] at e2
    generalize a * (y / N) = aq at *
    generalize a * (y / N % 65536) = ar at *
    generalize a * (y / N / 65536) = az at *
    generalize P / (B * N) = p at *
    omega
  · have hz : ∀ z : Int, z / (B * N * 65536) = z / (B * N) / 65536 := fun z => by rw [Int.ediv_ediv_of_nonneg (by omega)]
    rw [h3, hz, Int.add_mul_ediv_left _ _ (show B * N ≠ 0 by omega)]
    congr 1
    omega
theorem dg_mod (P : Int) (j : Nat) : dg P j = P / (65536 ^ j : Int) % 65536 := rfl
theorem mC_bd (x y : Int) (i k : Nat) : 0 ≤ mC x y i k ∧ mC x y i k ≤ 65535 := by
  unfold mC
  rw [Int.pow_add]
  have hB := pw_pos i
  have hN := pw_pos k
  obtain ⟨a1, a2⟩ := dg_bd x i
  generalize dg x i = a at *
  generalize (x % (65536 ^ i : Int) * y) = P at *
  generalize (65536 ^ i : Int) = B at *
  generalize (65536 ^ k : Int) = N at *
  have hM : 0 < B * N := Int.mul_pos hB hN
  have p1 := Int.emod_nonneg P (show B * N ≠ 0 by omega)
  have p2 := Int.emod_lt_of_pos P hM
  have y1 := Int.emod_nonneg y (show N ≠ 0 by omega)
  have y2 := Int.emod_lt_of_pos y hN
  have q1 : 0 ≤ a * B * (y % N) := Int.mul_nonneg (Int.mul_nonneg a1 (by omega)) y1
  have q2 : a * B * (y % N) ≤ a * (B * N) := by
    rw [← Int.mul_assoc]
    exact Int.mul_le_mul_of_nonneg_left (by omega) (Int.mul_nonneg a1 (by omega))
  refine ⟨Int.ediv_nonneg (by omega) (by omega), ?_⟩
  have : (P % (B * N) + a * B * (y % N)) / (B * N) < 65536 := by
    refine Int.ediv_lt_of_lt_mul hM ?_
    have q3 : a * (B * N) ≤ 65535 * (B * N) := Int.mul_le_mul_of_nonneg_right a2 (by omega)
    omega
  omega
theorem dg_add (P z : Int) {i j : Nat} (h : j < i) : dg (P + (65536 ^ i : Int) * z) j = dg P j := by
  obtain ⟨m, rfl⟩ : ∃ m, i = j + 1 + m := ⟨i - (j + 1), by omega⟩
  unfold dg
  rw [Int.pow_add, Int.pow_succ]
  have hB := pw_pos j
  generalize (65536 ^ m : Int) = Q
  generalize (65536 ^ j : Int) = B at *
  have e : B * 65536 * Q * z = B * (65536 * (Q * z)) := by rw [Int.mul_assoc, Int.mul_assoc]
  rw [e, Int.add_mul_ediv_left _ _ (show B ≠ 0 by omega)]
  omega
theorem mD_of (x y : Int) : MulD (dg x) (dg y) (mD x y) (mC x y) := by
  have hstep : ∀ i k : Nat, x % (65536 ^ (i + 1) : Int) * y = x % (65536 ^ i : Int) * y + dg x i * (65536 ^ i : Int) * y := by
    intro i _
    rw [Int.pow_succ, mod_mul' x _ (pw_pos i), Int.add_mul]
    unfold dg
    rw [Int.mul_comm (65536 ^ i : Int)]
  refine ⟨dg_bd x, dg_bd y, fun i j => dg_bd _ _, mC_bd x y, fun j => ?_, fun i => ?_, fun i k _ => ?_, fun i k _ => ?_, fun i j hj => ?_⟩
  · unfold mD
    rw [show ((65536 : Int) ^ 0) = 1 from rfl, Int.emod_one, Int.zero_mul]
    unfold dg
    simp
  · unfold mC
    rw [show ((65536 : Int) ^ 0) = 1 from rfl, Int.emod_one, Int.mul_zero, Int.add_zero, Nat.add_zero]
    exact Int.ediv_eq_zero_of_lt (Int.emod_nonneg _ (by have := pw_pos i; omega)) (Int.emod_lt_of_pos _ (pw_pos i))
  · have := (mul_step (P := x % (65536 ^ i : Int) * y) (a := dg x i) (y := y) (pw_pos i) (pw_pos k)).1
    unfold mD mC
    rw [hstep i 0, dg_mod, dg_mod y, dg_mod _ (i + k), Int.pow_add]
    exact this
  · have := (mul_step (P := x % (65536 ^ i : Int) * y) (a := dg x i) (y := y) (pw_pos i) (pw_pos k)).2
    unfold mD mC
    rw [dg_mod _ (i + k), dg_mod y, show i + (k + 1) = i + k + 1 from rfl, Int.pow_succ, Int.pow_succ, Int.pow_add]
    exact this
  · unfold mD
    rw [hstep i 0]
    have e : dg x i * (65536 ^ i : Int) * y = (65536 ^ i : Int) * (dg x i * y) := by rw [Int.mul_comm (dg x i), Int.mul_assoc]
    rw [e]
    exact dg_add _ _ hj
theorem mD_end (x y : Int) {j : Nat} (h : j < 10) : mD x y 10 j = dg (x * y) j := by
  unfold mD
  have ex := Int.emod_add_mul_ediv x (65536 ^ 10 : Int)
  have e : x * y = x % (65536 ^ 10 : Int) * y + (65536 ^ 10 : Int) * (x / (65536 ^ 10 : Int) * y) := by
    have : x * y = (x % (65536 ^ 10 : Int) + (65536 ^ 10 : Int) * (x / (65536 ^ 10 : Int))) * y := by rw [ex]
    rw [this, Int.add_mul, Int.mul_assoc (65536 ^ 10 : Int)]
  rw [e]
  exact (dg_add _ _ h).symm
theorem LMul_c (x y : Int) (w : World) : Calls Try.prog 69 #[longV x, longV y] w fun e w' => e = .returned (longV (x * y)) ∧ Ext w w' := by
  have h := Mul_core (dg x) (dg y) (mD x y) (mC x y) (mD_of x y) w
  have e : longA (mD x y 10) = longV (x * y) := by
    unfold longV longA
    rw [mD_end x y (j := 0) (by decide), mD_end x y (j := 1) (by decide), mD_end x y (j := 2) (by decide), mD_end x y (j := 3) (by decide), mD_end x y (j := 4) (by decide), mD_end x y (j := 5) (by decide), mD_end x y (j := 6) (by decide), mD_end x y (j := 7) (by decide), mD_end x y (j := 8) (by decide), mD_end x y (j := 9) (by decide)]
  rw [e] at h
  exact h
end Go.Proofs.Ythancaehlijaoaa
