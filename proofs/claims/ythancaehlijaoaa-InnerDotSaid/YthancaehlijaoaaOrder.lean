/- The calls of package order: parting of a row, the k-th number. Rows of at most a million numbers. -/
import Derived.Test.YthancaehlijaoaaAppend
import Derived.Test.YthancaehlijaoaaGrid
namespace Go.Proofs.Ythancaehlijaoaa
open Go.RowKit

def lessL (y : Int) (l : List Int) : List Int := l.filter fun x => decide (x < y)
def moreL (y : Int) (l : List Int) : List Int := l.filter fun x => decide (y < x)
def sameN (y : Int) (l : List Int) : Nat := (l.filter fun x => decide (x = y)).length
theorem parts_len (y : Int) (l : List Int) : (lessL y l).length + sameN y l + (moreL y l).length = l.length := by
  unfold lessL sameN moreL
  induction l with
  | nil => rfl
  | cons x l ih =>
    simp only [List.filter_cons]
    by_cases h1 : x < y
    · have h2 : ¬ y < x := by omega
      have h3 : ¬ x = y := by omega
      simp [h1, h2, h3]; omega
    · by_cases h2 : y < x
      · have h3 : ¬ x = y := by omega
        simp [h1, h2, h3]; omega
      · have h3 : x = y := by omega
        subst h3
        simp; omega
theorem part_snoc (y x : Int) (l : List Int) : lessL y (l ++ [x]) = lessL y l ++ (if x < y then [x] else []) ∧ moreL y (l ++ [x]) = moreL y l ++ (if y < x then [x] else []) ∧ sameN y (l ++ [x]) = sameN y l + (if x = y then 1 else 0) := by
  unfold lessL moreL sameN
  refine ⟨?_, ?_, ?_⟩
  · rw [List.filter_append]; by_cases h : x < y <;> simp [h]
  · rw [List.filter_append]; by_cases h : y < x <;> simp [h]
  · rw [List.filter_append, List.length_append]; by_cases h : x = y <;> simp [h]
def PartPost (w : World) (y : Int) (l : List Int) (e : Ending) (w' : World) : Prop :=
  ∃ v1 v2, e = .returned (.tuple #[.agg #[v1], .agg #[v2], .int .i64 (sameN y l)]) ∧ w'.ownsRow w.heap.size 2 1 v1 (lessL y l).length (ints (lessL y l)) ∧ w'.ownsRow w.heap.size 2 1 v2 (moreL y l).length (ints (moreL y l)) ∧ Ext w w'
/-- Where the two rows lie while they are made. -/
structure PartAt (w wr : World) (y : Int) (l : List Int) (v1 v2 : Value) : Prop where
  ext : Ext w wr
  sz : w.heap.size + 2 < wr.heap.size
  b1 : wr.heap[w.heap.size + 1]? = some (.cells #[v1] 161 (0, 0))
  b2 : wr.heap[w.heap.size + 2]? = some (.cells #[v2] 161 (0, 0))
  o1 : wr.ownsRow (w.heap.size + 3) 2 1 v1 (lessL y l).length (ints (lessL y l))
  o2 : wr.ownsRow (w.heap.size + 3) 2 1 v2 (moreL y l).length (ints (moreL y l))
  ne : v1.ownBlock = none ∨ v1.ownBlock ≠ v2.ownBlock
theorem own_slice {w : World} {base : Nat} {e : TypeId} {v : Value} {n : Nat} {xs : List Value} (h : w.ownsRow base e 1 v n xs) : ∃ p k c, v = .slice p k c := by
  rcases h.2 with ⟨rfl, _⟩ | ⟨g, cap, cur, rfl, _⟩
  · exact ⟨_, _, _, rfl⟩
  · exact ⟨_, _, _, rfl⟩
theorem own_mono {w : World} {base base' : Nat} {e : TypeId} {v : Value} {n : Nat} {xs : List Value} (h : w.ownsRow base e 1 v n xs) (hb : base' ≤ base) : w.ownsRow base' e 1 v n xs := by
  obtain ⟨h1, h2⟩ := h
  refine ⟨h1, ?_⟩
  rcases h2 with h2 | ⟨g, cap, cur, h3, h4, h5⟩
  · exact .inl h2
  · exact .inr ⟨g, cap, cur, h3, by omega, h5⟩
theorem own_drew {w : World} {base : Nat} {e : TypeId} {v : Value} {n : Nat} {xs : List Value} (h : w.ownsRow base e 1 v n xs) : w.drew.ownsRow base e 1 v n xs := h
/-- The two boxes hold the two rows. -/
structure PS (w : World) (v1 v2 : Value) (w' : World) : Prop where
  b1 : w'.heap[w.heap.size + 1]? = some (.cells #[v1] 161 (0, 0))
  b2 : w'.heap[w.heap.size + 2]? = some (.cells #[v2] 161 (0, 0))
theorem grown_old {w w1 : World} {o : Obj} {row : Option Nat} (h : (w.alloc o).grownBy w1 row) {j : Nat} (hj : j < w.heap.size) (hn : some j ≠ row) : w1.heap[j]? = w.heap[j]? := by
  rw [h.block j (by rw [size_alloc]; omega) hn, heap_old _ _ hj]
theorem own_ge {w : World} {base : Nat} {e : TypeId} {v : Value} {n : Nat} {xs : List Value} (h : w.ownsRow base e 1 v n xs) {j : Nat} (hj : j < base) : some j ≠ v.ownBlock := by
  intro he
  have := (h.lt j he.symm).1
  omega
theorem own_new {w : World} {base : Nat} {e : TypeId} {v : Value} {n : Nat} {xs : List Value} (h : w.ownsRow base e 1 v n xs) {j : Nat} (hj : w.heap.size ≤ j) : some j ≠ v.ownBlock := by
  intro he
  have := (h.lt j he.symm).2
  omega
theorem ext_grown {w wr w1 : World} {o : Obj} {row : Option Nat} (he : Ext w wr) (h : (wr.alloc o).grownBy w1 row) (hr : ∀ k, row = some k → w.heap.size ≤ k) : Ext w w1 :=
  (he.allocR o).grown h (by rw [size_alloc]; have := he.size; omega) hr
theorem part_less {w wr w1 : World} {y x : Int} {l : List Int} {v1 v2 v' : Value} (hP : PartAt w wr y l v1 v2) (hx : x < y)
    (h1 : w1.ownsRow (w.heap.size + 3) 2 1 v' ((lessL y l).length + 1) (ints (lessL y l ++ [x]))) (h2 : (wr.alloc (.cells #[.int .i64 x] 2)).grownBy w1 v1.ownBlock)
    (h3 : v'.ownBlock = v1.ownBlock ∨ v'.ownBlock = some (wr.heap.size + 1)) :
    w1.heap[w.heap.size + 1]? = some (.cells #[v1] 161 (0, 0)) ∧ PartAt w (w1.setCell ⟨w.heap.size + 1, 0, none⟩ v') y (l ++ [x]) v' v2 := by
  have hsz := hP.sz
  have g1 := grown_old h2 (j := w.heap.size + 1) (by omega) (own_ge hP.o1 (by omega))
  have g2 := grown_old h2 (j := w.heap.size + 2) (by omega) (own_ge hP.o1 (by omega))
  rw [hP.b1] at g1
  rw [hP.b2] at g2
  obtain ⟨s1, s2, s3⟩ := part_snoc y x l
  rw [if_pos hx] at s1
  rw [if_neg (by omega), List.append_nil] at s2
  have hv1 : ∀ j, v1.ownBlock = some j → j < wr.heap.size := fun j hj => (hP.o1.lt j hj).2
  refine ⟨g1, ?_, ?_, ?_, ?_, ?_, ?_, ?_⟩
  · refine Ext.setR (ext_grown hP.ext h2 (fun k hk => ?_)) (by show w.heap.size ≤ w.heap.size + 1; omega) _
    have := (hP.o1.lt k hk).1; omega
  · rw [size_setCell]; have := h2.size; rw [size_alloc] at this; omega
  · rw [setCell_same g1]; rfl
  · rw [setCell_other _ _ (by omega)]; exact g2
  · rw [s1, show (lessL y l ++ [x]).length = (lessL y l).length + 1 by simp]; exact ownsRow_setCell_below h1 (by show w.heap.size + 1 < _; omega) _
  · rw [s2]
    refine ownsRow_setCell_below ((hP.o2.alloc _).kept h2 ?_) (by show w.heap.size + 1 < _; omega) _
    rcases hP.ne with h | h
    · by_cases hv : v2.ownBlock = none
      · exact .inl hv
      · exact .inr (by rw [h]; exact hv)
    · exact .inr (fun e => h e.symm)
  · rcases h3 with h3 | h3
    · rw [h3]; exact hP.ne
    · right
      rw [h3]
      exact own_new hP.o2 (by omega)
theorem part_more {w wr w1 : World} {y x : Int} {l : List Int} {v1 v2 v' : Value} (hP : PartAt w wr y l v1 v2) (hx : y < x)
    (h1 : w1.ownsRow (w.heap.size + 3) 2 1 v' ((moreL y l).length + 1) (ints (moreL y l ++ [x]))) (h2 : (wr.alloc (.cells #[.int .i64 x] 2)).grownBy w1 v2.ownBlock)
    (h3 : v'.ownBlock = v2.ownBlock ∨ v'.ownBlock = some (wr.heap.size + 1)) :
    w1.heap[w.heap.size + 2]? = some (.cells #[v2] 161 (0, 0)) ∧ PartAt w (w1.setCell ⟨w.heap.size + 2, 0, none⟩ v') y (l ++ [x]) v1 v' := by
  have hsz := hP.sz
  have g1 := grown_old h2 (j := w.heap.size + 1) (by omega) (own_ge hP.o2 (by omega))
  have g2 := grown_old h2 (j := w.heap.size + 2) (by omega) (own_ge hP.o2 (by omega))
  rw [hP.b1] at g1
  rw [hP.b2] at g2
  obtain ⟨s1, s2, s3⟩ := part_snoc y x l
  rw [if_pos hx] at s2
  rw [if_neg (by omega), List.append_nil] at s1
  refine ⟨g2, ?_, ?_, ?_, ?_, ?_, ?_, ?_⟩
  · refine Ext.setR (ext_grown hP.ext h2 (fun k hk => ?_)) (by show w.heap.size ≤ w.heap.size + 2; omega) _
    have := (hP.o2.lt k hk).1; omega
  · rw [size_setCell]; have := h2.size; rw [size_alloc] at this; omega
  · rw [setCell_other _ _ (by omega)]; exact g1
  · rw [setCell_same g2]; rfl
  · rw [s1]
    refine ownsRow_setCell_below ((hP.o1.alloc _).kept h2 hP.ne) (by show w.heap.size + 2 < _; omega) _
  · rw [s2, show (moreL y l ++ [x]).length = (moreL y l).length + 1 by simp]; exact ownsRow_setCell_below h1 (by show w.heap.size + 2 < _; omega) _
  · rcases hP.ne with h | h
    · exact .inl h
    · rcases h3 with h3 | h3
      · rw [h3]; exact .inr h
      · right
        rw [h3]
        exact (own_new hP.o1 (by omega)).symm
set_option maxRecDepth 20000 in
set_option maxHeartbeats 2000000 in
theorem part_c (v : Value) (y : Int) (l : List Int) (w : World) (hv : IntsAt w v l) (hl0 : 0 < l.length) (hl : l.length ≤ 1000000) :
    Calls Try.prog 124 #[.agg #[v], .int .i64 y] w (PartPost w y l) := by
  obtain ⟨n, hn⟩ : ∃ n, n = l.length := ⟨_, rfl⟩
  have HN := Lib.hid hn
  rcases hv with ⟨rfl, rfl⟩ | ⟨g, off, cap, rfl, hg, hc⟩
  · simp at hl0
  rw [← hn] at hl hl0 hc
  rw [← hn]
  have HC := Lib.hid hc
  clear hc hn
  go_enter Try.func124, Try.ntmps124
  go_wp2
  go_loopw [14, 6] (fun v u wr => ∃ (k : Nat) (v1 v2 : Value), k ≤ n ∧ v = .int .i64 k ∧ u = .int .i64 (sameN y (l.take k)) ∧ PartAt w wr y (l.take k) v1 v2) (fun v _ _ => n - (intOf v).toNat)
  case atStart =>
    refine ⟨0, .slice none 0 0, .slice none 0 0, Nat.zero_le _, rfl, rfl, by (repeat' (first | exact Ext.refl _ | assumption | apply Ext.allocR | apply Ext.drewR | apply Ext.drewNR | (refine Ext.trans' ?_ (by assumption)))), by simp only [size_alloc]; omega, ?_, ?_, World.ownsRow_nil _ _ _ _, World.ownsRow_nil _ _ _ _, .inl rfl⟩
    · rw [heap_old _ _ (by simp only [size_alloc]; omega)]; exact heap_at _ _ (by simp only [size_alloc])
    · exact heap_at _ _ (by simp only [size_alloc])
  case round =>
    obtain ⟨k, v1, v2, hk, rfl, rfl, hP⟩ := hrel
    by_cases hlt : k < n
    · have hkl : k < l.length := by rw [← HN.out]; exact hlt
      have d := ((bcell hP.ext).1 g (off + k) hg).trans (HC.out k hlt)
      have hts := take_snoc hkl
      generalize l.getD k 0 = x at d hts
      have HT := Lib.hid hts
      clear hts
      have e1 := cell_of hP.b1 0
      have e2 := cell_of hP.b2 0
      simp at e1 e2
      have f1 := frozen_of hP.b1 0
      have f2 := frozen_of hP.b2 0
      have hsz := hP.sz
      obtain ⟨s1, s2, s3⟩ := part_snoc y x (l.take k)
      have S1 := Lib.hid s1
      have S2 := Lib.hid s2
      have S3 := Lib.hid s3
      clear s1 s2 s3
      have hln := List.length_filter_le (fun x => decide (x < y)) (l.take k)
      have hmn := List.length_filter_le (fun x => decide (y < x)) (l.take k)
      have hsn := List.length_filter_le (fun x => decide (x = y)) (l.take k)
      have htk := List.length_take_le k l
      have hll : (lessL y (l.take k)).length ≤ 1000000 := by unfold lessL; omega
      have hml : (moreL y (l.take k)).length ≤ 1000000 := by unfold moreL; omega
      have hsl : sameN y (l.take k) ≤ 1000000 := by unfold sameN; omega
      clear hln hmn hsn htk
      by_cases c1 : x < y
      · go_wp2_with (at_builtin; refine wpList_app1 wr x _ v1 (w.heap.size + 3) 2 hP.o1 32 rfl _ _ rfl info_i64 Try.underlying32 rfl rfl ?a1 ?a2 ?_)
        case a1 => omega
        case a2 => omega
        intro v' w1 h1 h2 h3
        obtain ⟨q1, q2⟩ := part_less hP c1 h1 h2 h3
        have p1 := cell_of q1 0
        simp at p1
        have pf := frozen_of q1 0
        obtain ⟨p', n', c', rfl⟩ := own_slice h1
        clear q1 h1 h2 h3 e1 e2 f1 f2
        go_wp2
        go_roundw
        case rel => exact ⟨k + 1, _, v2, by omega, by go_num, by rw [HT.out, S3.out, if_neg (by omega)]; rfl, by rw [HT.out]; exact q2⟩
        case measure => simp [intOf]; omega
      · by_cases c2 : y < x
        · go_wp2_with (at_builtin; refine wpList_app1 wr x _ v2 (w.heap.size + 3) 2 hP.o2 32 rfl _ _ rfl info_i64 Try.underlying32 rfl rfl ?a1 ?a2 ?_)
          case a1 => omega
          case a2 => omega
          intro v' w1 h1 h2 h3
          obtain ⟨q1, q2⟩ := part_more hP c2 h1 h2 h3
          have p1 := cell_of q1 0
          simp at p1
          have pf := frozen_of q1 0
          obtain ⟨p', n', c', rfl⟩ := own_slice h1
          clear q1 h1 h2 h3 e1 e2 f1 f2
          go_wp2
          go_roundw
          case rel => exact ⟨k + 1, v1, _, by omega, by go_num, by rw [HT.out, S3.out, if_neg (by omega)]; rfl, by rw [HT.out]; exact q2⟩
          case measure => simp [intOf]; omega
        · go_wp2
          go_roundw
          case rel =>
            refine ⟨k + 1, v1, v2, by omega, by go_num, by rw [HT.out, S3.out, if_pos (by omega)]; go_num, ?_⟩
            have a1 := S1.out
            have a2 := S2.out
            rw [if_neg c1, List.append_nil] at a1
            rw [if_neg c2, List.append_nil] at a2
            rw [HT.out]
            exact ⟨hP.ext, hP.sz, hP.b1, hP.b2, by rw [a1]; exact hP.o1, by rw [a2]; exact hP.o2, hP.ne⟩
          case measure => simp [intOf]; omega
    · have hkn : k = n := by omega
      have HK := Lib.hid hkn
      clear hkn
      obtain ⟨p1, n1, c1, rfl⟩ := own_slice hP.o1
      obtain ⟨p2, n2, c2, rfl⟩ := own_slice hP.o2
      have hne : Nonempty (Holds (PS w (.slice p1 n1 c1) (.slice p2 n2 c2))) := ⟨⟨wr, ⟨hP.b1, hP.b2⟩⟩⟩
      have hS1 : ∀ x : Holds (PS w (.slice p1 n1 c1) (.slice p2 n2 c2)), x.w.cell? ⟨w.heap.size + 1, 0, none⟩ = some (.slice p1 n1 c1) := fun x => (cell_of x.h.b1 0).trans rfl
      have hS2 : ∀ x : Holds (PS w (.slice p1 n1 c1) (.slice p2 n2 c2)), x.w.cell? ⟨w.heap.size + 1 + 1, 0, none⟩ = some (.slice p2 n2 c2) := fun x => (cell_of x.h.b2 0).trans rfl
      have e1 := cell_of hP.b1 0
      have e2 := cell_of hP.b2 0
      simp at e1 e2
      have f1 := frozen_of hP.b1 0
      have f2 := frozen_of hP.b2 0
      have hsz := hP.sz
      go_wp2
      have hC0 : ∃ x : Holds (PS w (.slice p1 n1 c1) (.slice p2 n2 c2)), wr.drew = x.w := hs_mk ⟨hP.b1, hP.b2⟩
      refine pi_start (fun w' => ∃ x : Holds (PS w (.slice p1 n1 c1) (.slice p2 n2 c2)), w' = x.w) [4] (by kernel_rfl) ?_
      refine pi_t 2 rfl (by kernel_rfl) (by kernel_rfl) (fun _ _ _ _ h => h) (fun K hK => ?_)
      go_big_quiet_op
      refine hK _ ?_
      clear hK K
      refine pi_c 0 (by assumption) rfl (by kernel_rfl) (by kernel_rfl) (fun _ _ _ _ h => h) (fun K hK => ?_)
      go_big_quiet_op
      refine hK _ ?_
      clear hK K
      refine pi_c 1 (by assumption) rfl (by kernel_rfl) (by kernel_rfl) (fun _ _ _ _ h => h) (fun K hK => ?_)
      go_big_quiet_op
      refine hK _ ?_
      clear hK K
      refine pi_l 3 rfl (by kernel_rfl) (fun K hK => ?_)
      go_wp2
      have g1 : (wr.drew.setCell ⟨w.heap.size + 1, 0, none⟩ (.slice p1 n1 c1)).heap[w.heap.size + 1]? = some (.cells #[.slice p1 n1 c1] 161 (0, 0)) := by rw [setCell_same (w := wr.drew) hP.b1]; rfl
      have g2 : (wr.drew.setCell ⟨w.heap.size + 1, 0, none⟩ (.slice p1 n1 c1)).heap[w.heap.size + 2]? = some (.cells #[.slice p2 n2 c2] 161 (0, 0)) := by rw [setCell_other _ _ (by omega)]; exact hP.b2
      refine hK _ _ (fun _ _ => hs_mk ⟨g1, g2⟩) ?_
      clear hK K
      refine pi_l 4 rfl (by kernel_rfl) (fun K hK => ?_)
      go_wp2
      refine hK _ _ (fun h => absurd h (by decide)) ?_
      clear hK K
      refine pi_t 5 rfl (by kernel_rfl) (by kernel_rfl) (fun _ _ _ _ h => h) (fun K hK => ?_)
      go_big_quiet_op
      refine hK _ ?_
      clear hK K
      refine pi_end (by kernel_rfl) ?_
      go_wp2
      have r1 : ((wr.drew.setCell ⟨w.heap.size + 1, 0, none⟩ (.slice p1 n1 c1)).setCell ⟨w.heap.size + 1 + 1, 0, none⟩ (.slice p2 n2 c2)).cell? ⟨w.heap.size + 1, 0, none⟩ = some (.slice p1 n1 c1) := by
        have : ((wr.drew.setCell ⟨w.heap.size + 1, 0, none⟩ (.slice p1 n1 c1)).setCell ⟨w.heap.size + 1 + 1, 0, none⟩ (.slice p2 n2 c2)).heap[w.heap.size + 1]? = some (.cells #[.slice p1 n1 c1] 161 (0, 0)) := by rw [setCell_other _ _ (by omega)]; exact g1
        exact (cell_of this 0).trans rfl
      have r2 : ((wr.drew.setCell ⟨w.heap.size + 1, 0, none⟩ (.slice p1 n1 c1)).setCell ⟨w.heap.size + 1 + 1, 0, none⟩ (.slice p2 n2 c2)).cell? ⟨w.heap.size + 1 + 1, 0, none⟩ = some (.slice p2 n2 c2) := by
        exact (cell_of (setCell_same g2 0 _) 0).trans rfl
      have r3 : (wr.setCell ⟨w.heap.size + 1, 0, none⟩ (.slice p1 n1 c1)).cell? ⟨w.heap.size + 1, 0, none⟩ = some (.slice p1 n1 c1) := (cell_of g1 0).trans rfl
      have r4 : ((wr.setCell ⟨w.heap.size + 1, 0, none⟩ (.slice p1 n1 c1)).setCell ⟨w.heap.size + 1 + 1, 0, none⟩ (.slice p2 n2 c2)).cell? ⟨w.heap.size + 1 + 1, 0, none⟩ = some (.slice p2 n2 c2) := r2
      have hk := HK.out
      have htl : l.take k = l := by rw [hk, HN.out]; exact List.take_length
      rw [htl] at hP
      refine bodyPost_ret (v := .tuple #[.agg #[.slice p1 n1 c1], .agg #[.slice p2 n2 c2], .int .i64 (sameN y (l.take k))]) (by simp [results, Try.results124, go_sem, r3, r4]) rfl ⟨_, _, by rw [htl], ?_, ?_, ?_⟩
      · exact own_mono (ownsRow_setCell_below (ownsRow_setCell_below (own_drew hP.o1) (by show w.heap.size + 1 < _; omega) _) (by show w.heap.size + 1 + 1 < _; omega) _) (by omega)
      · exact own_mono (ownsRow_setCell_below (ownsRow_setCell_below (own_drew hP.o2) (by show w.heap.size + 1 < _; omega) _) (by show w.heap.size + 1 + 1 < _; omega) _) (by omega)
      · exact ((Below.drew hP.ext).setCell (by show w.heap.size ≤ w.heap.size + 1; omega) _).setCell (by show w.heap.size ≤ w.heap.size + 1 + 1; omega) _
end Go.Proofs.Ythancaehlijaoaa
