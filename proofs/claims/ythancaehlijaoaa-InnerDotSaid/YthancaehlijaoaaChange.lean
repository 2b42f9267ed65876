/- linear.Change adds to the cells that columns name, or nothing is changed. -/
import Derived.Test.YthancaehlijaoaaLinear
namespace Go.Proofs.Ythancaehlijaoaa
open Go.RowKit

def putK (W : Nat) (cs : List Int) (f : Nat → Int) : Nat → List Int → List Int
  | 0, l => l
  | k + 1, l => (putK W cs f k l).set (at_ W cs k) (f k)
theorem putK_len (W : Nat) (cs : List Int) (f : Nat → Int) (k : Nat) (l : List Int) : (putK W cs f k l).length = l.length := by
  induction k with
  | zero => rfl
  | succ k ih => rw [putK, List.length_set, ih]
def mixL (f g : Nat → Int) (k n : Nat) : List Int := (List.range n).map fun j => if j < k then f j else g j
theorem mixL_len (f g : Nat → Int) (k n : Nat) : (mixL f g k n).length = n := by simp [mixL]
theorem mixL_get (f g : Nat → Int) {k n j : Nat} (h : j < n) : (mixL f g k n).getD j 0 = if j < k then f j else g j := by simp [mixL, h]
theorem mixL_set (f g : Nat → Int) {k n : Nat} : (mixL f g k n).set k (f k) = mixL f g (k + 1) n := by
  apply List.ext_getElem
  · simp [mixL]
  · intro j h1 h2
    simp only [mixL, List.length_set, List.length_map, List.length_range] at h1
    rw [List.getElem_set]
    simp only [mixL, List.getElem_map, List.getElem_range]
    by_cases e : k = j
    · subst e; simp
    · rw [if_neg e]
      by_cases h : j < k
      · rw [if_pos h, if_pos (by omega)]
      · rw [if_neg h, if_neg (by omega)]
theorem mixL_zero (f g : Nat → Int) (n : Nat) : mixL f g 0 n = (List.range n).map g := by simp [mixL]
theorem GAt.mod {w w' : World} {b c R W : Nat} {l : List Int} {S : Nat → Prop} (h : GAt w b c R W l) (he : Mod S w w') (hb : ¬ S b) (hc : ¬ S c) : GAt w' b c R W l :=
  h.keep (he.block b h.ltb hb) (he.block c h.ltc hc)
theorem mcell {S : Nat → Prop} {w w' : World} (h : Mod S w w') {b : Nat} (hb : b < w.heap.size) (hs : ¬ S b) (o : Nat) : w'.cell? ⟨b, o, none⟩ = w.cell? ⟨b, o, none⟩ :=
  World.cell?_of_block (a := ⟨b, o, none⟩) (h.block b hb hs)
def fitsAll (W : Nat) (cs l : List Int) (d : Int) (R : Nat) : Prop := ∀ k, k < R → I64 (l.getD (at_ W cs k) 0 + d)
def ChangePost (w : World) (b c R W : Nat) (cs l : List Int) (d : Int) (e : Ending) (w' : World) : Prop :=
  (fitsAll W cs l d R ∧ e = .returned (.int .i64 0) ∧ GAt w' b c R W (putK W cs (fun k => l.getD (at_ W cs k) 0 + d) R l) ∧ Mod (fun k => k = c) w w') ∨
  (¬ fitsAll W cs l d R ∧ e = .returned (.int .i64 4) ∧ Ext w w')
theorem getD_i64 {l : List Int} (h : ∀ x ∈ l, I64 x) (k : Nat) : I64 (l.getD k 0) := by
  rcases Nat.lt_or_ge k l.length with h' | h'
  · exact h _ (getD_mem h')
  · rw [show l.getD k 0 = 0 by simp [h']]; unfold I64; omega
set_option maxRecDepth 20000 in
set_option maxHeartbeats 2000000 in
theorem Change_c (b c R W : Nat) (l cs : List Int) (v : Value) (d : Int) (w : World) (h : GAt w b c R W l) (hI : ∀ x ∈ l, I64 x) (hd : I64 d) (hv : IntsAt w v cs) (hm : Meets R W cs)
    (hne : ∀ g off n cap, v = .slice (some ⟨g, off, none⟩) n cap → g ≠ c) :
    Calls Try.prog 74 #[.pointer (some ⟨b, 0, none⟩), v, .int .i64 d] w (ChangePost w b c R W cs l d) := by
  have r1 := h.r1
  have r2 := h.r2
  obtain ⟨g, off, cap, rfl, hg, hc⟩ := hv.slice (by rw [hm.len]; omega)
  have hgc := hne _ _ _ _ rfl
  rw [hm.len] at hc hv ⊢
  have HV := Lib.hid hv
  have HC := Lib.hid hc
  clear hc hv hne
  go_enter Try.func74, Try.ntmps74
  go_wp2_with fail
  refine (Read_c b c R W l cs _ _ h HV.out hm).mono ?_
  rintro e w1 ⟨v1, rfl, ho, hx1⟩
  obtain ⟨g1, cap1, rfl, hg1, hca⟩ := CAt.of_row ho (by rw [hm.len]; omega)
  rw [readL_len, hm.len]
  have hca0 : CAt w1 g1 cap1 (mixL (fun k => l.getD (at_ W cs k) 0 + d) (fun k => l.getD (at_ W cs k) 0) 0 R) := by
    rw [mixL_zero]; have := hca; unfold readL at this; rw [hm.len] at this; exact this
  have hlt1 := hca.lt
  have hle := hca.le
  rw [readL_len, hm.len] at hle
  have hmx := hca.mx
  unfold maxLen at hmx
  clear hca ho
  have hgl := h.ltc
  go_wp2
  go_loopw [26] (fun u wr => ∃ k : Nat, k ≤ R ∧ u = .int .i64 k ∧ Ext w wr ∧ w1.heap.size ≤ wr.heap.size ∧ CAt wr g1 cap1 (mixL (fun k => l.getD (at_ W cs k) 0 + d) (fun k => l.getD (at_ W cs k) 0) k R) ∧ ∀ j, j < k → I64 (l.getD (at_ W cs j) 0 + d)) (fun u _ => R - (intOf u).toNat)
  case atStart => exact ⟨0, Nat.zero_le _, rfl, hx1, Nat.le_refl _, hca0, fun j hj => absurd hj (Nat.not_lt_zero _)⟩
  case round =>
    obtain ⟨k, hk, rfl, hx, hsz, hC, hall⟩ := hrel
    have HALL := Lib.hid hall
    clear hall hca0
    by_cases hlt : k < R
    · have d0 := hC.cell (i := k) (by rw [mixL_len]; exact hlt)
      rw [mixL_get _ _ hlt, if_neg (Nat.lt_irrefl _)] at d0
      have hyI := getD_i64 hI (at_ W cs k)
      obtain ⟨y, hy⟩ : ∃ y, l.getD (at_ W cs k) 0 = y := ⟨_, rfl⟩
      rw [hy] at d0 hyI
      have HY := Lib.hid hy
      clear hy
      by_cases hfit : I64 (y + d)
      · have fb := fitB_yes hfit
        have fn := fitN_yes hfit
        go_wp2_with fail
        refine (Plus_c y d hyI hd _).mono ?_
        rintro e w2 ⟨rfl, hb2⟩
        have hC2 := hC.keep (hb2.block g1 hC.lt)
        have e0 := hC2.cell (i := k) (by rw [mixL_len]; exact hlt)
        rw [mixL_get _ _ hlt, if_neg (Nat.lt_irrefl _), HY.out] at e0
        have e1 := hC2.frozen k
        have hset := hC2.set (i := k) (by rw [mixL_len]; exact hlt) (y + d)
        have hsz2 := hb2.size
        go_wp2
        go_roundw
        case rel =>
          refine ⟨k + 1, by omega, by go_num, (hx.trans' hb2).setR hg1 _, by rw [size_setCell]; omega, ?_, fun j hj => ?_⟩
          · have := mixL_set (fun k => l.getD (at_ W cs k) 0 + d) (fun k => l.getD (at_ W cs k) 0) (k := k) (n := R)
            rw [← this]
            show CAt _ _ _ (List.set _ k (l.getD (at_ W cs k) 0 + d))
            rw [HY.out]
            exact hset
          · rcases Nat.lt_or_eq_of_le (Nat.le_of_lt_succ hj) with h' | rfl
            · exact HALL.out j h'
            · rw [HY.out]; exact hfit
        case measure => simp [intOf]; omega
      · have fb := fitB_no hfit
        go_wp2_with fail
        refine (Plus_c y d hyI hd _).mono ?_
        rintro e w2 ⟨rfl, hb2⟩
        go_wp2
        go_ret
        exact .inr ⟨fun ha => hfit (by rw [← HY.out]; exact ha k hlt), rfl, hx.trans' hb2⟩
    · have hkR : R ≤ k := by omega
      obtain rfl : k = R := by omega
      have hM : Mod (fun j => j = c) w wr := hx.mod _
      have hG : GAt wr b c k W (putK W cs (fun k => l.getD (at_ W cs k) 0 + d) 0 l) := h.ext hx
      have hcw : CAt wr g1 cap1 (mixL (fun k => l.getD (at_ W cs k) 0 + d) (fun k => l.getD (at_ W cs k) 0) k k) := hC
      clear hC
      go_wp2
      go_loopw [46] (fun u w2 => ∃ j : Nat, j ≤ k ∧ u = .int .i64 j ∧ Mod (fun i => i = c) w w2 ∧ CAt w2 g1 cap1 (mixL (fun k => l.getD (at_ W cs k) 0 + d) (fun k => l.getD (at_ W cs k) 0) k k) ∧ GAt w2 b c k W (putK W cs (fun k => l.getD (at_ W cs k) 0 + d) j l)) (fun u _ => k - (intOf u).toNat)
      case atStart => exact ⟨0, Nat.zero_le _, rfl, hM, hcw, hG⟩
      case round =>
        clear hM hcw hG hx
        obtain ⟨j, hj, rfl, hM, hcw, hG⟩ := hrel
        by_cases hlt2 : j < k
        · have d0 := hcw.cell (i := j) (by rw [mixL_len]; exact hlt2)
          rw [mixL_get _ _ hlt2, if_pos hlt2] at d0
          have dc := (mcell hM hg hgc (off + j)).trans (HC.out j hlt2)
          have l1 := hm.lo j hlt2
          have l2 := hm.hi j hlt2
          have hat : at_ W cs j = j * W + (cs.getD j 0).toNat := rfl
          obtain ⟨z, hz⟩ : ∃ z, l.getD (at_ W cs j) 0 + d = z := ⟨_, rfl⟩
          simp only [hz] at d0
          have HA := Lib.hid hat
          have HZ := Lib.hid hz
          clear hat hz
          generalize cs.getD j 0 = y at dc l1 l2 HA
          obtain ⟨y, rfl⟩ := Int.eq_ofNat_of_zero_le l1
          have hyW : y < W := by omega
          go_wp2_with fail
          refine (Put_c b c k W _ _ hG j y hlt2 hyW z).mono ?_
          rintro e w' ⟨rfl, rfl⟩
          go_wp2
          go_roundw
          case rel =>
            have hlen : j * W + y < (putK W cs (fun k => l.getD (at_ W cs k) 0 + d) j l).length := by rw [hG.len]; exact idx_lt hlt2 hyW
            refine ⟨j + 1, by omega, by go_num, hM.trans (mod_set _ _ _ _), hcw.keep (setCell_other _ _ (by omega)), ?_⟩
            have e1 : at_ W cs j = j * W + y := HA.out
            show GAt _ b c k W ((putK W cs _ j l).set (at_ W cs j) (l.getD (at_ W cs j) 0 + d))
            rw [HZ.out, e1]
            exact hG.set hlen z
          case measure => simp [intOf]; omega
        · go_wp2
          go_ret
          obtain rfl : j = k := by omega
          exact .inl ⟨HALL.out, rfl, hG, hM⟩
end Go.Proofs.Ythancaehlijaoaa
