/- order.Kth, Min, Median tell the k-th, the least, the middle number of a row of at most a million. -/
import Derived.Test.YthancaehlijaoaaOrder
import Derived.Deep.LoopGhost
namespace Go.Proofs.Ythancaehlijaoaa
open Go.RowKit

def IsKth (l : List Int) (k : Nat) (x : Int) : Prop := (lessL x l).length ≤ k ∧ k < (lessL x l).length + sameN x l
theorem own_len {w : World} {base : Nat} {e : TypeId} {v : Value} {n : Nat} {xs : List Value} (h : w.ownsRow base e 1 v n xs) : ∃ p c, v = .slice p n c := by
  rcases h.2 with ⟨rfl, rfl⟩ | ⟨g, cap, cur, rfl, _⟩
  · exact ⟨_, _, rfl⟩
  · exact ⟨_, _, rfl⟩
theorem filter_filter_len (p q : Int → Bool) (l : List Int) (h : ∀ x ∈ l, p x = true → q x = true) : (List.filter p (List.filter q l)).length = (List.filter p l).length := by
  rw [List.filter_filter]
  congr 1
  apply List.filter_congr
  intro x hx
  cases hp : p x with
  | false => simp
  | true => simp [h x hx hp]
theorem sameN_pos {x : Int} {l : List Int} (h : 0 < sameN x l) : x ∈ l := by
  unfold sameN at h
  obtain ⟨y, hy⟩ := List.exists_mem_of_length_pos h
  simp only [List.mem_filter, decide_eq_true_eq] at hy
  rw [← hy.2]; exact hy.1
theorem kth_less {l : List Int} {k : Nat} {y x : Int} (h : IsKth (lessL y l) k x) : IsKth l k x := by
  have hx : x ∈ lessL y l := sameN_pos (by have := h.1; have := h.2; omega)
  have hxy : x < y := by unfold lessL at hx; simpa using (List.mem_filter.1 hx).2
  have e1 : (lessL x (lessL y l)).length = (lessL x l).length := filter_filter_len _ _ _ (fun z _ hz => decide_eq_true (Int.lt_trans (of_decide_eq_true hz) hxy))
  have e2 : sameN x (lessL y l) = sameN x l := filter_filter_len _ _ _ (fun z _ hz => decide_eq_true (by have := of_decide_eq_true hz; omega))
  unfold IsKth at *
  rw [e1, e2] at h
  exact h
theorem less_cons (x z : Int) (l : List Int) : (lessL x (z :: l)).length = (lessL x l).length + (if z < x then 1 else 0) := by
  unfold lessL; rw [List.filter_cons]; by_cases h : z < x <;> simp [h]
theorem same_cons (x z : Int) (l : List Int) : sameN x (z :: l) = sameN x l + (if z = x then 1 else 0) := by
  unfold sameN; rw [List.filter_cons]; by_cases h : z = x <;> simp [h]
theorem more_cons (x z : Int) (l : List Int) : moreL x (z :: l) = if x < z then z :: moreL x l else moreL x l := by
  unfold moreL; rw [List.filter_cons]; by_cases h : x < z <;> simp [h]
theorem less_split (x y : Int) (h : y < x) (l : List Int) : (lessL x l).length = (lessL y l).length + sameN y l + (lessL x (moreL y l)).length := by
  induction l with
  | nil => rfl
  | cons z l ih =>
    rw [less_cons, less_cons, same_cons, more_cons]
    by_cases h3 : y < z
    · rw [if_pos h3, less_cons, if_neg (show ¬ z < y by omega), if_neg (show ¬ z = y by omega)]; omega
    · rw [if_neg h3]
      by_cases h2 : z = y
      · rw [if_pos h2, if_pos (show z < x by omega), if_neg (show ¬ z < y by omega)]; omega
      · rw [if_neg h2, if_pos (show z < x by omega), if_pos (show z < y by omega)]; omega
theorem kth_more {l : List Int} {k : Nat} {y x : Int} (hk : (lessL y l).length + sameN y l ≤ k) (h : IsKth (moreL y l) (k - ((lessL y l).length + sameN y l)) x) : IsKth l k x := by
  have hx : x ∈ moreL y l := sameN_pos (by have := h.1; have := h.2; omega)
  have hxy : y < x := by unfold moreL at hx; simpa using (List.mem_filter.1 hx).2
  have e1 := less_split x y hxy l
  have e2 : sameN x (moreL y l) = sameN x l := filter_filter_len _ _ _ (fun z _ hz => decide_eq_true (by have := of_decide_eq_true hz; omega))
  unfold IsKth at *
  rw [e2] at h
  omega
theorem kth_same {l : List Int} {k : Nat} {y : Int} (h1 : (lessL y l).length ≤ k) (h2 : k < (lessL y l).length + sameN y l) : IsKth l k y := ⟨h1, h2⟩
theorem same_mem {y : Int} {l : List Int} (h : y ∈ l) : 0 < sameN y l := by
  unfold sameN
  exact List.length_pos_of_mem (List.mem_filter.2 ⟨h, by simp⟩)
theorem less_le_less {l : List Int} {x y : Int} (h : x < y) : (lessL x l).length + sameN x l ≤ (lessL y l).length := by
  induction l with
  | nil => simp [lessL, sameN]
  | cons z l ih =>
    rw [less_cons, same_cons, less_cons]
    by_cases h1 : z < x
    · rw [if_pos h1, if_neg (by omega), if_pos (by omega)]; omega
    · by_cases h2 : z = x
      · rw [if_neg h1, if_pos h2, if_pos (by omega)]; omega
      · rw [if_neg h1, if_neg h2]; omega
theorem kth_unique {l : List Int} {k : Nat} {x y : Int} (hx : IsKth l k x) (hy : IsKth l k y) : x = y := by
  rcases Int.lt_trichotomy x y with h | h | h
  · have := less_le_less (l := l) h; have := hx.2; have := hy.1; omega
  · exact h
  · have := less_le_less (l := l) h; have := hy.2; have := hx.1; omega
def KthPost (w : World) (l : List Int) (k : Nat) (e : Ending) (w' : World) : Prop := ∃ x, e = .returned (.tuple #[.int .i64 x, .bool true]) ∧ IsKth l k x ∧ Ext w w'
set_option maxRecDepth 20000 in
set_option maxHeartbeats 2000000 in
theorem Kth_c (v : Value) (k0 : Nat) (l : List Int) (w : World) (hv : IntsAt w v l) (hk0 : k0 < l.length) (hl : l.length ≤ 1000000) :
    Calls Try.prog 114 #[v, .int .i64 k0] w (KthPost w l k0) := by
  have hsl : ∃ g off cap, v = .slice (some ⟨g, off, none⟩) l.length cap := by
    rcases hv with ⟨_, rfl⟩ | ⟨g, off, cap, h1, _⟩
    · simp at hk0
    · exact ⟨g, off, cap, h1⟩
  obtain ⟨g0, off0, cap0, rfl⟩ := hsl
  have hsl := hl
  have d0 : decide (l.length ≤ k0) = false := by simp; omega
  have d1 : decide ((k0 : Int) < 0) = false := by simp
  generalize hn : l.length = n at *
  have HN := Lib.hid hn
  have HV := Lib.hid hv
  clear hv hn
  go_enter Try.func114, Try.ntmps114
  go_wp2
  go_step3
  go_wp2
  go_step3
  go_wp2
  go_loopg [1] n (fun g u wr => ∃ (k : Nat) (ls : List Int) (vs : Value), u = .int .i64 k ∧ k < ls.length ∧ ls.length ≤ g ∧ ls.length ≤ 1000000 ∧ IntsAt wr vs ls ∧ wr.heap[w.heap.size]? = some (.cells #[vs] 161 (0, 0)) ∧ Ext w wr ∧ w.heap.size < wr.heap.size ∧ ∀ x, IsKth ls k x → IsKth l k0 x)
  case atStart =>
    refine ⟨k0, l, _, rfl, by rw [HN.out]; exact hk0, by rw [HN.out]; exact Nat.le_refl _, by rw [HN.out]; exact hl, HV.out.ext (Ext.alloc' _ _), heap_at _ _ rfl, Ext.alloc' _ _, by rw [size_alloc]; omega, fun _ h => h⟩
  case round =>
    obtain ⟨k, ls, vs, rfl, hk, hg, hls, hi, hb, hx, hsz, himp⟩ := hrel
    obtain ⟨gs, os, cs, rfl, hgs, hcs⟩ : ∃ g off cap, vs = .slice (some ⟨g, off, none⟩) ls.length cap ∧ g < wr.heap.size ∧ ∀ k, k < ls.length → wr.cell? ⟨g, off + k, none⟩ = some (.int .i64 (ls.getD k 0)) := by
      rcases hi with ⟨_, rfl⟩ | h
      · simp at hk
      · exact h
    have hmid : ls.length / 2 < ls.length := by omega
    have c1 := hcs _ hmid
    have hym : ls.getD (ls.length / 2) 0 ∈ ls := getD_mem hmid
    generalize ls.getD (ls.length / 2) 0 = y at c1 hym
    have c2 := cell_of hb 0
    simp at c2
    have HB := Lib.hid hb
    have HI := Lib.hid hi
    have HM := Lib.hid himp
    have hls0 : 0 < ls.length := by omega
    generalize hm : ls.length = m at *
    have HMM := Lib.hid hm
    clear hm hb hi himp hcs
    go_wp2_with fail
    refine (part_c _ y ls _ HI.out (by rw [HMM.out]; exact hls0) (by rw [HMM.out]; exact hls)).mono ?_
    rintro e w1 ⟨v1, v2, rfl, o1, o2, hx1⟩
    have hpl := parts_len y ls
    have hsp := same_mem hym
    obtain ⟨p1, k1, rfl⟩ := own_len o1
    obtain ⟨p2, k2, rfl⟩ := own_len o2
    have L1 := fun (u : Value) (x1 x2 : Obj) => IntsAt.of_row (((ownsRow_setCell_below o1 (a := ⟨w.heap.size, 0, none⟩) (by exact hsz) u).alloc x1).alloc x2)
    have L2 := fun (u : Value) (x1 x2 : Obj) => IntsAt.of_row (((ownsRow_setCell_below o2 (a := ⟨w.heap.size, 0, none⟩) (by exact hsz) u).alloc x1).alloc x2)
    have T1 : k < (lessL y ls).length → ∀ x, IsKth (lessL y ls) k x → IsKth l k0 x := fun _ x hx => HM.out x (kth_less hx)
    have T2 : (lessL y ls).length ≤ k → k < (lessL y ls).length + sameN y ls → IsKth l k0 y := fun h1 h2 => HM.out y ⟨h1, h2⟩
    have T3 : (lessL y ls).length + sameN y ls ≤ k → ∀ x, IsKth (moreL y ls) (k - ((lessL y ls).length + sameN y ls)) x → IsKth l k0 x := fun h x hx => HM.out x (kth_more h hx)
    have X1 := Lib.hid T1
    have X2 := Lib.hid T2
    have X3 := Lib.hid T3
    have Y1 := Lib.hid L1
    have Y2 := Lib.hid L2
    clear T1 T2 T3 L1 L2 o1 o2
    generalize ha : lessL y ls = la at *
    generalize hb : moreL y ls = lb at *
    generalize hs : sameN y ls = sn at *
    generalize hal : la.length = a at *
    generalize hbl : lb.length = b at *
    rw [HMM.out] at hpl
    have Z := Lib.hid hpl
    have za : a + sn + b ≤ m := by omega
    have zb : m ≤ a + sn + b := by omega
    have hsz1 := hx1.size
    have hb1 := hx1.keep HB.out
    have q1 := cell_of hb1 0
    simp at q1
    have q2 := frozen_of hb1 0
    have HB1 := Lib.hid hb1
    have HA := Lib.hid hal
    have HBL := Lib.hid hbl
    have hw1 : Ext w w1 := hx.trans' hx1
    have hlt1 : w.heap.size < w1.heap.size := by omega
    have hlt2 : w.heap.size < w1.heap.size + 1 := by omega
    have ka : a ≤ 1000000 := by omega
    have kb : sn ≤ 1000000 := by omega
    clear hpl hb1 c2 c1 ha hb hs hal hbl hx1
    by_cases d1 : k < a
    · go_wp2
      go_roundg a
      case measure => omega
      case rel =>
        refine ⟨k, la, .slice p1 a k1, rfl, by rw [HA.out]; exact d1, by rw [HA.out]; exact Nat.le_refl _, by rw [HA.out]; exact ka, Y1.out _ _ _, ?_, ?_, ?_, X1.out d1⟩
        · rw [heap_old _ _ (by simp only [size_alloc, size_setCell]; omega), heap_old _ _ (by simp only [size_setCell]; omega), setCell_same HB1.out]; rfl
        · exact ((hw1.setR (Nat.le_refl _) _).allocR _).allocR _
        · simp only [size_alloc, size_setCell]; omega
    · by_cases d2 : k < a + sn
      · go_wp2
        rw [Exit.noGoto_ret]
        go_ret2
        refine ⟨y, rfl, X2.out (by omega) d2, by (repeat' (first | exact Ext.refl _ | assumption | apply Ext.allocR | apply Ext.drewR | apply Ext.drewNR | (refine Ext.trans' ?_ (by assumption))))⟩
      · go_wp2
        go_roundg b
        case measure => omega
        case rel =>
          refine ⟨k - (a + sn), lb, .slice p2 b k2, ?_, by rw [HBL.out]; omega, by rw [HBL.out]; exact Nat.le_refl _, by rw [HBL.out]; omega, Y2.out _ _ _, ?_, ?_, ?_, X3.out (by omega)⟩
          · congr 1; omega
          · rw [heap_old _ _ (by simp only [size_alloc, size_setCell]; omega), heap_old _ _ (by simp only [size_setCell]; omega), setCell_same HB1.out]; rfl
          · exact ((hw1.setR (Nat.le_refl _) _).allocR _).allocR _
          · simp only [size_alloc, size_setCell]; omega
end Go.Proofs.Ythancaehlijaoaa
