/- Part. No condition. -/
import Derived.Test.YtfhdjekpdifajaaGreatDWindowPlays1
import Derived.Test.YtfhdjekpdifajaaGreatDWindowPlays4
import Derived.Test.YtfhdjekpdifajaaGreatDWindowPlays2
import Derived.Test.YtfhdjekpdifajaaGreatDWindowPlays3
import Derived.Test.YtfhdjekpdifajaaGreatDWindowPlays5
namespace Go.Proofs.YtfhdjekpdifajaaGreat
set_option linter.unusedVariables false
open Go.RowKit
/-- P is told of the blocks F, which are there. -/
structure Own (F : Nat → Prop) (P : World → Prop) (w : World) : Prop where
  h : P w
  keep : ∀ w w' : World, P w → (∀ k, F k → w'.heap[k]? = w.heap[k]?) → P w'
  lt : ∀ k, F k → k < w.heap.size
theorem Own.mod {F S : Nat → Prop} {P : World → Prop} {w w' : World} (h : Own F P w) (hm : Mod S w w') (hn : ∀ k, F k → ¬ S k) : Own F P w' :=
  ⟨h.keep w w' h.h (fun k hk => hm.block k (h.lt k hk) (hn k hk)), h.keep, fun k hk => Nat.lt_of_lt_of_le (h.lt k hk) hm.size⟩
theorem Own.ext {F : Nat → Prop} {P : World → Prop} {w w' : World} (h : Own F P w) (he : Ext w w') : Own F P w' :=
  ⟨h.keep w w' h.h (fun k hk => he.block k (h.lt k hk)), h.keep, fun k hk => Nat.lt_of_lt_of_le (h.lt k hk) he.size⟩
/-- They have no block in common. -/
def Dj (F G : Nat → Prop) : Prop := ∀ k, F k → ¬ G k
theorem Dj.symm {F G : Nat → Prop} (h : Dj F G) : Dj G F := fun k hg hf => h k hf hg
theorem Own.of {F : Nat → Prop} {P : World → Prop} {w : World} (h : P w) (keep : ∀ w w' : World, P w → (∀ k, F k → w'.heap[k]? = w.heap[k]?) → P w') (lt : ∀ k, F k → k < w.heap.size) : Own F P w := ⟨h, keep, lt⟩
theorem Mod.wider {S T : Nat → Prop} {w w' : World} (h : Mod S w w') (hs : ∀ k, S k → T k) : Mod T w w' := ⟨h.os, h.tape, h.output, h.size, fun k hk hn => h.block k hk (fun hk2 => hn (hs k hk2))⟩
end Go.Proofs.YtfhdjekpdifajaaGreat
namespace Go.Proofs.YtfhdjekpdifajaaGreat
set_option linter.unusedVariables false
open Go.RowKit
/-- A sketch of the references. -/
structure RSAt (w : World) (s : Nat) (G : Gr) (C : Cfg) (lv : Int) (R W : Nat) (l : List Int) : Prop where
  ex : w.heap[s]? = some (.cells #[.int .i64 C.bits, .int .i64 C.rows, .int .i64 C.width, .int .i64 C.mode, .int .u64 C.seed, .int .i64 lv, .pointer (some ⟨G.g, 0, none⟩)] 158 (0, 0))
  g : RGAt w G R W l
  ok : C.Ok
  lo : 0 ≤ lv
  hi : lv ≤ C.bits
  hr : C.rows = R
  hw : C.width = W
  fit : ∀ x ∈ l, I64 x
def rsF (s : Nat) (G : Gr) (R : Nat) (k : Nat) : Prop := k = s ∨ G.foot R k
section
variable {w : World} {s : Nat} {G : Gr} {C : Cfg} {lv : Int} {R W : Nat} {l : List Int}
theorem RSAt.lts (h : RSAt w s G C lv R W l) : s < w.heap.size := lt_of h.ex
theorem RSAt.keep {w' : World} (h : RSAt w s G C lv R W l) (hk : ∀ k, rsF s G R k → w'.heap[k]? = w.heap[k]?) : RSAt w' s G C lv R W l :=
  ⟨by rw [hk s (.inl rfl)]; exact h.ex, h.g.keep fun k hg => hk k (.inr hg), h.ok, h.lo, h.hi, h.hr, h.hw, h.fit⟩
theorem RSAt.lt (h : RSAt w s G C lv R W l) {k : Nat} (hk : rsF s G R k) : k < w.heap.size := by
  rcases hk with rfl | hk
  · exact h.lts
  · exact h.g.lt hk
theorem RSAt.ext {w' : World} (h : RSAt w s G C lv R W l) (he : Ext w w') : RSAt w' s G C lv R W l := h.keep fun k hk => he.block k (h.lt hk)
theorem RSAt.mod {S : Nat → Prop} {w' : World} (h : RSAt w s G C lv R W l) (he : Mod S w w') (hn : ∀ k, rsF s G R k → ¬ S k) : RSAt w' s G C lv R W l := h.keep fun k hk => he.block k (h.lt hk) (hn k hk)
theorem RSAt.ns (h : RSAt w s G C lv R W l) : ¬ G.foot R s := by
  rintro (e | e | ⟨r, hr, e⟩)
  · obtain ⟨cap, h1, _⟩ := h.g.ex; exact blk_ne h.ex h1 (by decide) e
  · obtain ⟨cap, h1, _⟩ := h.g.row; exact blk_ne h.ex h1 (by decide) e
  · obtain ⟨cur, h1, _⟩ := h.g.cells r hr; exact blk_ne h.ex h1 (by decide) e
/-- Its cells are others. -/
theorem RSAt.putg {w' : World} {m : List Int} (h : RSAt w s G C lv R W l) (hg : RGAt w' G R W m) (hm : Mod (G.foot R) w w') (hi : ∀ x ∈ m, I64 x) : RSAt w' s G C lv R W m :=
  ⟨by rw [hm.block s h.lts h.ns]; exact h.ex, hg, h.ok, h.lo, h.hi, h.hr, h.hw, hi⟩
end
/-- An array of the references. -/
structure RXAt (w : World) (a m : Nat) (C : Cfg) (lv : Int) (K : Nat) (l : List Int) : Prop where
  ex : ∃ cap, w.heap[a]? = some (.cells #[.int .i64 C.bits, .int .i64 C.rows, .int .i64 C.width, .int .i64 C.mode, .int .u64 C.seed, .int .i64 lv, .slice (some ⟨m, 0, none⟩) K cap] 155 (0, 0)) ∧ K ≤ cap
  cells : ∃ cur, w.heap[m]? = some (.cells cur 2 (0, 0)) ∧ ∀ k, k < K → cur[k]? = some (.int .i64 (l.getD k 0))
  len : l.length = K
  k1 : 1 ≤ K
  k2 : K ≤ 128
  fit : ∀ x ∈ l, I64 x
def rxF (a m : Nat) (k : Nat) : Prop := k = a ∨ k = m
section
variable {w : World} {a m : Nat} {C : Cfg} {lv : Int} {K : Nat} {l : List Int}
theorem RXAt.lta (h : RXAt w a m C lv K l) : a < w.heap.size := by obtain ⟨cap, h1, _⟩ := h.ex; exact lt_of h1
theorem RXAt.ltm (h : RXAt w a m C lv K l) : m < w.heap.size := by obtain ⟨cur, h1, _⟩ := h.cells; exact lt_of h1
theorem RXAt.ne (h : RXAt w a m C lv K l) : a ≠ m := by
  obtain ⟨cap, h1, _⟩ := h.ex
  obtain ⟨cur, h2, _⟩ := h.cells
  exact blk_ne h1 h2 (by decide)
theorem RXAt.lt (h : RXAt w a m C lv K l) {k : Nat} (hk : rxF a m k) : k < w.heap.size := by
  rcases hk with rfl | rfl
  · exact h.lta
  · exact h.ltm
theorem RXAt.keep {w' : World} (h : RXAt w a m C lv K l) (hk : ∀ k, rxF a m k → w'.heap[k]? = w.heap[k]?) : RXAt w' a m C lv K l :=
  ⟨by rw [hk a (.inl rfl)]; exact h.ex, by rw [hk m (.inr rfl)]; exact h.cells, h.len, h.k1, h.k2, h.fit⟩
theorem RXAt.ext {w' : World} (h : RXAt w a m C lv K l) (he : Ext w w') : RXAt w' a m C lv K l := h.keep fun k hk => he.block k (h.lt hk)
theorem RXAt.cell (h : RXAt w a m C lv K l) {k : Nat} (hk : k < K) : w.cell? ⟨m, k, none⟩ = some (.int .i64 (l.getD k 0)) := by
  obtain ⟨cur, h1, h2⟩ := h.cells; rw [cell_of h1]; exact h2 k hk
theorem RXAt.frz (h : RXAt w a m C lv K l) (k : Nat) : w.frozen? ⟨m, k, none⟩ = false := by
  obtain ⟨cur, h1, h2⟩ := h.cells; exact frozen_of h1 k
theorem RXAt.ints {cap : Nat} (h : RXAt w a m C lv K l) : IntsAt w (.slice (some ⟨m, 0, none⟩) K cap) l :=
  .inr ⟨m, 0, cap, by rw [h.len], h.ltm, fun k hk => by rw [h.len] at hk; rw [Nat.zero_add]; exact h.cell hk⟩
theorem RXAt.set (h : RXAt w a m C lv K l) {k : Nat} (hk : k < K) {x : Int} (hx : I64 x) : RXAt (w.setCell ⟨m, k, none⟩ (.int .i64 x)) a m C lv K (l.set k x) := by
  refine ⟨by rw [setCell_other _ _ h.ne]; exact h.ex, ?_, by rw [List.length_set]; exact h.len, h.k1, h.k2, fun y hy => ?_⟩
  · obtain ⟨cur, h1, h2⟩ := h.cells
    refine ⟨_, setCell_same h1 _ _, fun j hj => ?_⟩
    by_cases ej : j = k
    · subst ej
      have hsz : j < cur.size := by
        have := h2 j hj
        rw [Array.getElem?_eq_some_iff] at this
        exact this.1
      rw [Array.getElem?_setIfInBounds_self_of_lt hsz, List.getD_eq_getElem?_getD, List.getElem?_set_self (by rw [h.len]; exact hk)]
      rfl
    · rw [Array.getElem?_setIfInBounds_ne (fun e => ej e.symm), h2 j hj, List.getD_eq_getElem?_getD, List.getD_eq_getElem?_getD, List.getElem?_set_ne (fun e => ej e.symm)]
  · rcases List.mem_or_eq_of_mem_set hy with h1 | rfl
    · exact h.fit y h1
    · exact hx
end
/-- Where a level of the references lies. -/
structure RLev where
  p : Nat
  a : Nat
  G : Gr
def RLvAt (w : World) (L : RLev) (C : Cfg) (lv : Int) (l : List Int) : Prop :=
  C.Ok ∧ 0 ≤ lv ∧ lv ≤ C.bits ∧
    ((isX C lv = true ∧ w.heap[L.p]? = some (.cells #[.pointer (some ⟨L.a, 0, none⟩), .pointer none] 153 (0, 0)) ∧ RXAt w L.a L.G.m C lv (kN C lv) l) ∨
     (isX C lv = false ∧ w.heap[L.p]? = some (.cells #[.pointer none, .pointer (some ⟨L.a, 0, none⟩)] 153 (0, 0)) ∧ RSAt w L.a L.G C lv (rN C) (wN C) l))
def RLev.foot (C : Cfg) (lv : Int) (L : RLev) (k : Nat) : Prop := k = L.p ∨ (isX C lv = true ∧ rxF L.a L.G.m k) ∨ (isX C lv = false ∧ rsF L.a L.G (rN C) k)
section
variable {w : World} {L : RLev} {C : Cfg} {lv : Int} {l : List Int}
theorem RLvAt.fit (h : RLvAt w L C lv l) : ∀ x ∈ l, I64 x := by
  obtain ⟨_, _, _, ⟨_, _, h⟩ | ⟨_, _, h⟩⟩ := h
  · exact h.fit
  · exact h.fit
theorem RLvAt.len (h : RLvAt w L C lv l) : l.length = lvN C lv := by
  obtain ⟨_, _, _, ⟨hx, _, h⟩ | ⟨hx, _, h⟩⟩ := h
  · unfold lvN; rw [hx]; exact h.len
  · unfold lvN; rw [hx]; exact h.g.len
theorem RLvAt.x (h : RLvAt w L C lv l) (hx : isX C lv = true) : w.heap[L.p]? = some (.cells #[.pointer (some ⟨L.a, 0, none⟩), .pointer none] 153 (0, 0)) ∧ RXAt w L.a L.G.m C lv (kN C lv) l := by
  obtain ⟨_, _, _, ⟨_, h1, h2⟩ | ⟨hy, _⟩⟩ := h
  · exact ⟨h1, h2⟩
  · rw [hx] at hy; cases hy
theorem RLvAt.sk (h : RLvAt w L C lv l) (hx : isX C lv = false) : w.heap[L.p]? = some (.cells #[.pointer none, .pointer (some ⟨L.a, 0, none⟩)] 153 (0, 0)) ∧ RSAt w L.a L.G C lv (rN C) (wN C) l := by
  obtain ⟨_, _, _, ⟨hy, _⟩ | ⟨_, h1, h2⟩⟩ := h
  · rw [hx] at hy; cases hy
  · exact ⟨h1, h2⟩
theorem RLvAt.lt (h : RLvAt w L C lv l) {k : Nat} (hk : L.foot C lv k) : k < w.heap.size := by
  rcases hk with rfl | ⟨hx, hk⟩ | ⟨hx, hk⟩
  · obtain ⟨_, _, _, ⟨_, h1, _⟩ | ⟨_, h1, _⟩⟩ := h <;> exact lt_of h1
  · exact (h.x hx).2.lt hk
  · exact (h.sk hx).2.lt hk
theorem RLvAt.keep {w' : World} (h : RLvAt w L C lv l) (hk : ∀ k, L.foot C lv k → w'.heap[k]? = w.heap[k]?) : RLvAt w' L C lv l := by
  obtain ⟨h1, h2, h3, ⟨hx, h4, h5⟩ | ⟨hx, h4, h5⟩⟩ := h
  · exact ⟨h1, h2, h3, .inl ⟨hx, by rw [hk _ (.inl rfl)]; exact h4, h5.keep fun k hg => hk k (.inr (.inl ⟨hx, hg⟩))⟩⟩
  · exact ⟨h1, h2, h3, .inr ⟨hx, by rw [hk _ (.inl rfl)]; exact h4, h5.keep fun k hg => hk k (.inr (.inr ⟨hx, hg⟩))⟩⟩
theorem RLvAt.ext {w' : World} (h : RLvAt w L C lv l) (he : Ext w w') : RLvAt w' L C lv l := h.keep fun k hk => he.block k (h.lt hk)
theorem RLvAt.mod {S : Nat → Prop} {w' : World} (h : RLvAt w L C lv l) (he : Mod S w w') (hn : ∀ k, L.foot C lv k → ¬ S k) : RLvAt w' L C lv l := h.keep fun k hk => he.block k (h.lt hk) (hn k hk)
end
/-- A stack of the references. -/
structure RKAt (w : World) (s t : Nat) (C : Cfg) (B : Nat) (L : Nat → RLev) (ls : Nat → List Int) : Prop where
  ex : ∃ cap, w.heap[s]? = some (.cells #[.int .i64 C.bits, .int .i64 C.rows, .int .i64 C.width, .int .i64 C.mode, .int .u64 C.seed, .slice (some ⟨t, 0, none⟩) (B + 1) cap] 48 (0, 0)) ∧ B + 1 ≤ cap
  row : ∃ cur, w.heap[t]? = some (.cells cur 45 (0, 0)) ∧ ∀ n, n ≤ B → cur[n]? = some (.pointer (some ⟨(L n).p, 0, none⟩))
  lev : ∀ n, n ≤ B → RLvAt w (L n) C n (ls n)
  sep : ∀ m n, m ≤ B → n ≤ B → m ≠ n → Dj ((L m).foot C m) ((L n).foot C n)
  ok : C.Ok
  hB : C.bits = B
def rkF (s t : Nat) (C : Cfg) (B : Nat) (L : Nat → RLev) (k : Nat) : Prop := k = s ∨ k = t ∨ ∃ n, n ≤ B ∧ (L n).foot C n k
section
variable {w : World} {s t : Nat} {C : Cfg} {B : Nat} {L : Nat → RLev} {ls : Nat → List Int}
theorem RKAt.lts (h : RKAt w s t C B L ls) : s < w.heap.size := by obtain ⟨cap, h1, _⟩ := h.ex; exact lt_of h1
theorem RKAt.ltt (h : RKAt w s t C B L ls) : t < w.heap.size := by obtain ⟨cap, h1, _⟩ := h.row; exact lt_of h1
theorem RKAt.lt (h : RKAt w s t C B L ls) {k : Nat} (hk : rkF s t C B L k) : k < w.heap.size := by
  rcases hk with rfl | rfl | ⟨n, hn, hk⟩
  · exact h.lts
  · exact h.ltt
  · exact (h.lev n hn).lt hk
theorem RKAt.keep {w' : World} (h : RKAt w s t C B L ls) (hk : ∀ k, rkF s t C B L k → w'.heap[k]? = w.heap[k]?) : RKAt w' s t C B L ls :=
  ⟨by rw [hk s (.inl rfl)]; exact h.ex, by rw [hk t (.inr (.inl rfl))]; exact h.row, fun n hn => (h.lev n hn).keep fun k hg => hk k (.inr (.inr ⟨n, hn, hg⟩)), h.sep, h.ok, h.hB⟩
theorem RKAt.ext {w' : World} (h : RKAt w s t C B L ls) (he : Ext w w') : RKAt w' s t C B L ls := h.keep fun k hk => he.block k (h.lt hk)
theorem RKAt.cell (h : RKAt w s t C B L ls) {n : Nat} (hn : n ≤ B) : w.cell? ⟨t, n, none⟩ = some (.pointer (some ⟨(L n).p, 0, none⟩)) := by
  obtain ⟨cur, h1, h2⟩ := h.row; rw [cell_of h1]; exact h2 n hn
end
end Go.Proofs.YtfhdjekpdifajaaGreat
namespace Go.Proofs.YtfhdjekpdifajaaGreat
set_option linter.unusedVariables false
open Go.RowKit
theorem times_odd {o x y A B : Int} (hy : y % 2 = 1) (h : (o + x * y) % 18446744073709551616 = (A * B) % 18446744073709551616) :
    ((o + x) % 18446744073709551616 + (x + x) % 18446744073709551616 * (y / 2)) % 18446744073709551616 = (A * B) % 18446744073709551616 := by
  rw [← h, Int.add_emod, Int.emod_emod_of_dvd _ (Int.dvd_refl _), Int.mul_emod, Int.emod_emod_of_dvd _ (Int.dvd_refl _), ← Int.mul_emod, ← Int.add_emod]
  congr 1
  have : y = 2 * (y / 2) + 1 := by omega
  generalize y / 2 = q at *
  subst this
  rw [Int.mul_add, Int.mul_one, ← Int.mul_assoc, Int.mul_comm x 2, Int.add_assoc, Int.add_comm x, show x + x = 2 * x by omega]
theorem times_even {o x y A B : Int} (hy : y % 2 = 0) (h : (o + x * y) % 18446744073709551616 = (A * B) % 18446744073709551616) :
    (o + (x + x) % 18446744073709551616 * (y / 2)) % 18446744073709551616 = (A * B) % 18446744073709551616 := by
  rw [← h, Int.add_emod, Int.mul_emod, Int.emod_emod_of_dvd _ (Int.dvd_refl _), ← Int.mul_emod, ← Int.add_emod]
  congr 1
  have : y = 2 * (y / 2) := by omega
  generalize y / 2 = q at *
  subst this
  rw [← Int.mul_assoc, Int.mul_comm x 2, show x + x = 2 * x by omega]
set_option maxRecDepth 20000 in
set_option maxHeartbeats 2000000 in
theorem times_c (A B : Int) (hA : U64 A) (hB : U64 B) (w : World) :
    Calls Tryz.prog 228 #[.int .u64 A, .int .u64 B] w fun e w' => e = .returned (.int .u64 (wu (A * B))) ∧ Ext w w' := by
  have hAB : wu (A * B) = (A * B) % 18446744073709551616 := by unfold wu; rw [IntKind.wrap_u64]
  have HAB := Lib.hid hAB
  clear hAB
  go_enter Tryz.func228, Tryz.ntmps228
  go_wp2
  go_loop [5, 0, 1] (fun p u v => ∃ (o x y : Int), p = .int .u64 o ∧ u = .int .u64 x ∧ v = .int .u64 y ∧ U64 o ∧ U64 x ∧ U64 y ∧ (o + x * y) % 18446744073709551616 = (A * B) % 18446744073709551616) (fun _ _ v => (intOf v).toNat)
  case atStart => exact ⟨0, A, B, rfl, rfl, rfl, by unfold U64; omega, hA, hB, by rw [Int.zero_add]⟩
  case round =>
    obtain ⟨o, x, y, rfl, rfl, rfl, ho, hx, hy, hI⟩ := hrel
    have HI := Lib.hid hI
    clear hI
    obtain ⟨o0, o1⟩ := ho
    obtain ⟨x0, x1⟩ := hx
    obtain ⟨y0, y1⟩ := hy
    by_cases hgo : 0 < y
    · rcases (by omega : y % 2 = 0 ∨ y % 2 = 1) with hp | hp
      · have hpt : y.tmod 2 = 0 := by rw [Int.tmod_eq_emod_of_nonneg y0]; exact hp
        go_wp2
        go_round
        case rel =>
          refine ⟨o, _, _, rfl, rfl, rfl, ⟨o0, o1⟩, wu_u _, ?_, ?_⟩
          · unfold U64; omega
          · have := times_even hp HI.out
            simpa only [IntKind.wrap_u64] using this
        case measure => simp [intOf]; omega
      · have hpt : y.tmod 2 = 1 := by rw [Int.tmod_eq_emod_of_nonneg y0]; exact hp
        go_wp2
        go_round
        case rel =>
          refine ⟨_, _, _, rfl, rfl, rfl, wu_u _, wu_u _, ?_, ?_⟩
          · unfold U64; omega
          · have := times_odd hp HI.out
            simpa only [IntKind.wrap_u64] using this
        case measure => simp [intOf]; omega
    · go_wp2
      go_ret
      have : y = 0 := by omega
      subst this
      have h2 := HI.out
      rw [Int.mul_zero, Int.add_zero, Int.emod_eq_of_lt o0 (by omega)] at h2
      exact ⟨by rw [HAB.out, ← h2]; rfl, Ext.refl _⟩
end Go.Proofs.YtfhdjekpdifajaaGreat
namespace Go.Proofs.YtfhdjekpdifajaaGreat
set_option linter.unusedVariables false
open Go.RowKit
theorem or_swap (x y : Int) : bits BinOp.or IntKind.u64 x y = bits BinOp.or IntKind.u64 y x := by
  show IntKind.u64.wrap ((BitVec.ofInt 64 x ||| BitVec.ofInt 64 y).toNat : Int) = IntKind.u64.wrap ((BitVec.ofInt 64 y ||| BitVec.ofInt 64 x).toNat : Int)
  rw [BitVec.or_comm]
theorem bit_and {Z : Nat} (hZ : Z < 18446744073709551616) (i : Nat) : bits BinOp.and IntKind.u64 ((Z : Int) / 2 ^ i) 1 = ((Z.testBit i).toNat : Nat) := by
  have e : (Z : Int) / 2 ^ i = ((Z / 2 ^ i : Nat) : Int) := by push_cast; rfl
  have h : Z / 2 ^ i ≤ Z := Nat.div_le_self _ _
  rw [e, Nat.toNat_testBit]
  generalize Z / 2 ^ i = q at *
  rw [and_1 _ (by omega) (by omega)]
  omega
theorem xor_bit (a b : Bool) : bits BinOp.xor IntKind.u64 ((a.toNat : Nat) : Int) ((b.toNat : Nat) : Int) = (((a ^^ b).toNat : Nat) : Int) := by
  cases a <;> cases b <;> decide
theorem or_bit {O i : Nat} (hO : O < 2 ^ i) (hi : i < 64) (t : Bool) : bits BinOp.or IntKind.u64 (O : Int) (IntKind.u64.wrap (((t.toNat : Nat) : Int) * 2 ^ i)) = ((O + 2 ^ i * t.toNat : Nat) : Int) := by
  have hp : 2 ^ i < 2 ^ 64 := Nat.pow_lt_pow_right (by decide) hi
  have h64 : (2 : Nat) ^ 64 = 18446744073709551616 := by decide
  have e : ((t.toNat : Nat) : Int) * 2 ^ i = ((2 ^ i * t.toNat : Nat) : Int) := by push_cast; rw [Int.mul_comm]
  have hb : 2 ^ i * t.toNat ≤ 2 ^ i := by cases t <;> simp
  rw [e, IntWalk.u64_in _ (by omega), or_swap, or_add _ _ i (by omega) (by omega) (by omega) ?_ (by omega) (by exact_mod_cast hO)]
  · push_cast; omega
  · exact ⟨((t.toNat : Nat) : Int), by push_cast; rfl⟩
theorem shake_step {Z b i : Nat} (hZ : Z < 18446744073709551616) (hi : i < 64) {O : Nat} (hO : (Z ^^^ (Z >>> b)) % 2 ^ i = O) :
    bits BinOp.or IntKind.u64 (O : Int) (IntKind.u64.wrap (bits BinOp.xor IntKind.u64 (bits BinOp.and IntKind.u64 ((Z : Int) / 2 ^ i) 1) (bits BinOp.and IntKind.u64 ((Z : Int) / 2 ^ (i + b)) 1) * 2 ^ i)) = (((Z ^^^ (Z >>> b)) % 2 ^ (i + 1) : Nat) : Int) := by
  rw [bit_and hZ, bit_and hZ, xor_bit, or_bit (by rw [← hO]; exact Nat.mod_lt _ (Nat.two_pow_pos i)) hi, Nat.mod_pow_succ, ← Nat.toNat_testBit, hO, Nat.testBit_xor, Nat.testBit_shiftRight, Nat.add_comm b i]
theorem shake_top {Z b i : Nat} (hZ : Z < 18446744073709551616) (hi : i < 64) (hb : 64 ≤ i + b) {O : Nat} (hO : (Z ^^^ (Z >>> b)) % 2 ^ i = O) :
    bits BinOp.or IntKind.u64 (O : Int) (IntKind.u64.wrap (bits BinOp.and IntKind.u64 ((Z : Int) / 2 ^ i) 1 * 2 ^ i)) = (((Z ^^^ (Z >>> b)) % 2 ^ (i + 1) : Nat) : Int) := by
  have h2 : Z.testBit (b + i) = false := Nat.testBit_lt_two_pow (Nat.lt_of_lt_of_le (show Z < 2 ^ 64 from hZ) (Nat.pow_le_pow_right (by decide) (by omega)))
  rw [bit_and hZ, or_bit (by rw [← hO]; exact Nat.mod_lt _ (Nat.two_pow_pos i)) hi, Nat.mod_pow_succ, ← Nat.toNat_testBit, hO, Nat.testBit_xor, Nat.testBit_shiftRight, h2, Bool.xor_false]
theorem xsh_nat {Z : Nat} (hZ : Z < 18446744073709551616) (b : Nat) : xsh (Z : Int) ((2 : Int) ^ b) = ((Z ^^^ (Z >>> b) : Nat) : Int) := by
  have e : (Z : Int) / 2 ^ b = ((Z / 2 ^ b : Nat) : Int) := by push_cast; rfl
  have h : Z / 2 ^ b ≤ Z := Nat.div_le_self _ _
  unfold xsh
  rw [e]
  show IntKind.u64.wrap ((BitVec.ofInt 64 (Z : Int) ^^^ BitVec.ofInt 64 ((Z / 2 ^ b : Nat) : Int)).toNat : Int) = _
  rw [BitVec.toNat_xor, BitVec.ofInt_natCast, BitVec.ofInt_natCast, BitVec.toNat_ofNat, BitVec.toNat_ofNat, Nat.mod_eq_of_lt (a := Z) hZ, Nat.mod_eq_of_lt (a := Z / 2 ^ b) (by omega), Nat.shiftRight_eq_div_pow]
  have : Z ^^^ (Z / 2 ^ b) < 2 ^ 64 := Nat.xor_lt_two_pow hZ (by omega)
  exact IntWalk.u64_in _ (by omega)
end Go.Proofs.YtfhdjekpdifajaaGreat
namespace Go.Proofs.YtfhdjekpdifajaaGreat
set_option linter.unusedVariables false
open Go.RowKit
set_option maxRecDepth 20000 in
set_option maxHeartbeats 4000000 in
theorem shaken_c (Z b : Nat) (hZ : Z < 18446744073709551616) (hb : 0 < b) (hb2 : b < 64) (w : World) :
    Calls Tryz.prog 232 #[.int .u64 Z, .int .i64 b] w fun e w' => e = .returned (.int .u64 ((Z ^^^ (Z >>> b) : Nat) : Int)) ∧ Ext w w' := by
  go_enter Tryz.func232, Tryz.ntmps232
  go_wp2
  go_loop [5, 6] (fun p u => ∃ (i : Nat), i ≤ 64 ∧ p = .int .u64 (((Z ^^^ (Z >>> b)) % 2 ^ i : Nat) : Int) ∧ u = .int .i64 i) (fun _ u => 64 - (intOf u).toNat)
  case atStart => exact ⟨0, by omega, by simp [Nat.mod_one], rfl⟩
  case round =>
    obtain ⟨i, hi, rfl, rfl⟩ := hrel
    obtain ⟨O, hO⟩ : ∃ O : Nat, (Z ^^^ (Z >>> b)) % 2 ^ i = O := ⟨_, rfl⟩
    rw [hO]
    have HO := Lib.hid hO
    clear hO
    by_cases hgo : i < 64
    · by_cases hgb : i + b < 64
      · have hgb' : ((i : Int) + b) < 64 := by omega
        go_wp2
        go_round
        case rel => exact ⟨i + 1, by omega, by rw [shake_step hZ hgo HO.out], by push_cast; rfl⟩
        case measure => simp [intOf]; omega
      · have hgb' : 64 ≤ (i : Int) + b := by omega
        have hgb2 : decide ((i : Int) + b < 64) = false := by simp; omega
        go_wp2
        go_round
        case rel => exact ⟨i + 1, by omega, by rw [shake_top hZ hgo (by omega) HO.out], by push_cast; rfl⟩
        case measure => simp [intOf]; omega
    · go_wp2
      go_ret
      obtain rfl : i = 64 := by omega
      have h2 := HO.out
      have h3 : Z >>> b ≤ Z := by rw [Nat.shiftRight_eq_div_pow]; exact Nat.div_le_self _ _
      have h4 : Z ^^^ (Z >>> b) < 2 ^ 64 := Nat.xor_lt_two_pow hZ (by omega)
      rw [Nat.mod_eq_of_lt h4] at h2
      exact ⟨by rw [h2]; rfl, Ext.refl _⟩
end Go.Proofs.YtfhdjekpdifajaaGreat
namespace Go.Proofs.YtfhdjekpdifajaaGreat
set_option linter.unusedVariables false
open Go.RowKit
theorem shaken_z (z : Int) (hz : U64 z) (b : Nat) (d : Int) (hd : (2 : Int) ^ b = d) (hb : 0 < b) (hb2 : b < 64) (w : World) :
    Calls Tryz.prog 232 #[.int .u64 z, .int .i64 (b : Int)] w fun e w' => e = .returned (.int .u64 (xsh z d)) ∧ Ext w w' := by
  obtain ⟨Z, rfl⟩ := Int.eq_ofNat_of_zero_le hz.1
  have hZ : Z < 18446744073709551616 := by have := hz.2; omega
  rw [← hd, xsh_nat hZ]
  exact shaken_c Z b hZ hb hb2 w
set_option maxRecDepth 20000 in
set_option maxHeartbeats 2000000 in
theorem MixR_c (z : Int) (h : U64 z) (w : World) :
    Calls Tryz.prog 227 #[.int .u64 z] w fun e w' => e = .returned (.int .u64 (mix z)) ∧ Ext w w' := by
  go_enter Tryz.func227, Tryz.ntmps227
  go_wp2_with fail
  refine Calls.mono (shaken_z z h 30 1073741824 (by decide) (by decide) (by decide) _) ?_
  rintro e w1 ⟨rfl, hx1⟩
  go_wp2_with fail
  refine Calls.mono (times_c _ C1 (xsh_u _ _) (by unfold U64 C1; omega) _) ?_
  rintro e w2 ⟨rfl, hx2⟩
  go_wp2_with fail
  refine Calls.mono (shaken_z _ (wu_u _) 27 134217728 (by decide) (by decide) (by decide) _) ?_
  rintro e w3 ⟨rfl, hx3⟩
  go_wp2_with fail
  refine Calls.mono (times_c _ C2 (xsh_u _ _) (by unfold U64 C2; omega) _) ?_
  rintro e w4 ⟨rfl, hx4⟩
  go_wp2_with fail
  refine Calls.mono (shaken_z _ (wu_u _) 31 2147483648 (by decide) (by decide) (by decide) _) ?_
  rintro e w5 ⟨rfl, hx5⟩
  go_wp2
  go_ret
  exact ⟨rfl, hx1.trans' (hx2.trans' (hx3.trans' (hx4.trans' hx5)))⟩
set_option maxRecDepth 20000 in
set_option maxHeartbeats 2000000 in
theorem DrawR_c (s i : Int) (hs : U64 s) (hi : 0 ≤ i) (hi' : i < 10000) (w : World) :
    Calls Tryz.prog 218 #[.int .u64 s, .int .u64 i] w fun e w' => e = .returned (.int .u64 (drw s i)) ∧ Ext w w' := by
  have e1 : drw s i = mix (wu (s + wu ((i + 1) * GD))) := by
    unfold drw; rw [show wu (i + 1) = i + 1 from IntWalk.u64_in _ (by omega)]
  have HE := Lib.hid e1
  clear e1
  go_enter Tryz.func218, Tryz.ntmps218
  go_wp2_with fail
  refine Calls.mono (times_c (i + 1) GD (by unfold U64; omega) (by unfold U64 GD; omega) _) ?_
  rintro e w1 ⟨rfl, hx1⟩
  go_wp2_with fail
  refine Calls.mono (MixR_c _ (wu_u _) _) ?_
  rintro e w2 ⟨rfl, hx2⟩
  go_wp2
  go_ret
  exact ⟨by rw [HE.out]; rfl, hx1.trans' hx2⟩
set_option maxRecDepth 20000 in
set_option maxHeartbeats 2000000 in
theorem PairR_c (s l r : Int) (hs : U64 s) (hl : 0 ≤ l) (hl' : l ≤ 59) (hr : 0 ≤ r) (hr' : r < 8) (w : World) :
    Calls Tryz.prog 192 #[.int .u64 s, .int .i64 l, .int .i64 r] w fun e w' => e = .returned (.tuple #[.int .u64 (prA s l r), .int .u64 (prB s l r)]) ∧ Ext w w' := by
  have g1 : decide (l < 0) = false := by simp; omega
  have g2 : decide (59 < l) = false := by simp; omega
  have g3 : decide (r < 0) = false := by simp; omega
  have g4 : decide (7 < r) = false := by simp; omega
  have e1 : prA s l r = 1 + drw s (16 * l + 2 * r) % 2305843009213693950 := by unfold prA; rw [show 2 * (l * 8 + r) = 16 * l + 2 * r by omega]
  have e2 : prB s l r = drw s (16 * l + 2 * r + 1) % 2305843009213693951 := by unfold prB; rw [show 2 * (l * 8 + r) = 16 * l + 2 * r by omega]
  have H1 := Lib.hid e1
  have H2 := Lib.hid e2
  have b1 := drw_u s (16 * l + 2 * r)
  have b2 := drw_u s (16 * l + 2 * r + 1)
  obtain ⟨b11, b12⟩ := b1
  obtain ⟨b21, b22⟩ := b2
  clear e1 e2
  go_enter Tryz.func192, Tryz.ntmps192
  go_wp2_with fail
  refine Calls.mono (DrawR_c _ _ hs (by omega) (by omega) _) ?_
  rintro e w1 ⟨rfl, hb1⟩
  go_wp2_with fail
  refine Calls.mono (DrawR_c _ _ hs (by omega) (by omega) _) ?_
  rintro e w2 ⟨rfl, hb2⟩
  go_wp2
  go_ret2
  exact ⟨by rw [H1.out, H2.out]; rfl, hb1.trans' hb2⟩
end Go.Proofs.YtfhdjekpdifajaaGreat
namespace Go.Proofs.YtfhdjekpdifajaaGreat
set_option linter.unusedVariables false
open Go.RowKit
theorem fmul_mod (a b : Int) : fmul a b = (fold a * fold b) % 2305843009213693951 := by
  unfold fmul fadd fold
  generalize a % 2305843009213693951 * (b % 2305843009213693951) = n
  omega
theorem fmul_swap (a b : Int) : fmul a b = fmul b a := by rw [fmul_mod, fmul_mod, Int.mul_comm]
theorem mulp_odd {o x y A B : Int} (hy : y % 2 = 1) (h : (o + x * y) % 2305843009213693951 = (A * B) % 2305843009213693951) :
    ((o + x) % 2305843009213693951 + (x + x) % 2305843009213693951 * (y / 2)) % 2305843009213693951 = (A * B) % 2305843009213693951 := by
  rw [← h, Int.add_emod, Int.emod_emod_of_dvd _ (Int.dvd_refl _), Int.mul_emod, Int.emod_emod_of_dvd _ (Int.dvd_refl _), ← Int.mul_emod, ← Int.add_emod]
  congr 1
  have : y = 2 * (y / 2) + 1 := by omega
  generalize y / 2 = q at *
  subst this
  rw [Int.mul_add, Int.mul_one, ← Int.mul_assoc, Int.mul_comm x 2, Int.add_assoc, Int.add_comm x, show x + x = 2 * x by omega]
theorem mulp_even {o x y A B : Int} (hy : y % 2 = 0) (h : (o + x * y) % 2305843009213693951 = (A * B) % 2305843009213693951) :
    (o + (x + x) % 2305843009213693951 * (y / 2)) % 2305843009213693951 = (A * B) % 2305843009213693951 := by
  rw [← h, Int.add_emod, Int.mul_emod, Int.emod_emod_of_dvd _ (Int.dvd_refl _), ← Int.mul_emod, ← Int.add_emod]
  congr 1
  have : y = 2 * (y / 2) := by omega
  generalize y / 2 = q at *
  subst this
  rw [← Int.mul_assoc, Int.mul_comm x 2, show x + x = 2 * x by omega]
set_option maxRecDepth 20000 in
set_option maxHeartbeats 2000000 in
theorem MulR_c (a b : Int) (ha : U64 a) (hb : U64 b) (w : World) :
    Calls Tryz.prog 230 #[.int .u64 a, .int .u64 b] w fun e w' => e = .returned (.int .u64 (fmul a b)) ∧ Ext w w' := by
  obtain ⟨a0, a1⟩ := ha
  obtain ⟨b0, b1⟩ := hb
  have HF := Lib.hid (fmul_mod a b)
  have hfa := fold_bd a
  have hfb := fold_bd b
  have HA := Lib.hid (show fold a = a % 2305843009213693951 from rfl)
  have HB := Lib.hid (show fold b = b % 2305843009213693951 from rfl)
  go_enter Tryz.func230, Tryz.ntmps230
  go_wp2
  rw [← HA.out, ← HB.out]
  generalize fold a = A at *
  generalize fold b = B at *
  go_loop [7, 5, 6] (fun p u v => ∃ (o x y : Int), p = .int .u64 o ∧ u = .int .u64 x ∧ v = .int .u64 y ∧ (0 ≤ o ∧ o < 2305843009213693951) ∧ (0 ≤ x ∧ x < 2305843009213693951) ∧ U64 y ∧ (o + x * y) % 2305843009213693951 = (A * B) % 2305843009213693951) (fun _ _ v => (intOf v).toNat)
  case atStart => exact ⟨0, A, B, rfl, rfl, rfl, by omega, hfa, by unfold U64; omega, by rw [Int.zero_add]⟩
  case round =>
    obtain ⟨o, x, y, rfl, rfl, rfl, ho, hx, hy, hI⟩ := hrel
    have HI := Lib.hid hI
    clear hI
    obtain ⟨o0, o1⟩ := ho
    obtain ⟨x0, x1⟩ := hx
    obtain ⟨y0, y1⟩ := hy
    by_cases hgo : 0 < y
    · rcases (by omega : y % 2 = 0 ∨ y % 2 = 1) with hp | hp
      · have hpt : y.tmod 2 = 0 := by rw [Int.tmod_eq_emod_of_nonneg y0]; exact hp
        go_wp2
        go_round
        case rel => exact ⟨o, _, _, rfl, rfl, rfl, ⟨o0, o1⟩, by omega, by unfold U64; omega, mulp_even hp HI.out⟩
        case measure => simp [intOf]; omega
      · have hpt : y.tmod 2 = 1 := by rw [Int.tmod_eq_emod_of_nonneg y0]; exact hp
        go_wp2
        go_round
        case rel => exact ⟨_, _, _, rfl, rfl, rfl, by omega, by omega, by unfold U64; omega, mulp_odd hp HI.out⟩
        case measure => simp [intOf]; omega
    · go_wp2
      go_ret
      have : y = 0 := by omega
      subst this
      have h2 := HI.out
      rw [Int.mul_zero, Int.add_zero, Int.emod_eq_of_lt o0 (by omega)] at h2
      exact ⟨by rw [HF.out, ← h2]; rfl, Ext.refl _⟩
set_option maxRecDepth 20000 in
set_option maxHeartbeats 2000000 in
theorem AddR_c (a b : Int) (ha : U64 a) (hb : U64 b) (w : World) :
    Calls Tryz.prog 229 #[.int .u64 a, .int .u64 b] w fun e w' => e = .returned (.int .u64 (fadd a b)) ∧ Ext w w' := by
  obtain ⟨a0, a1⟩ := ha
  obtain ⟨b0, b1⟩ := hb
  go_enter Tryz.func229, Tryz.ntmps229
  go_wp2
  go_ret
  exact ⟨rfl, Ext.refl _⟩
set_option maxRecDepth 20000 in
set_option maxHeartbeats 2000000 in
theorem LineR_c (a b x : Int) (ha : U64 a) (hb : U64 b) (hx : U64 x) (w : World) :
    Calls Tryz.prog 219 #[.int .u64 a, .int .u64 b, .int .u64 x] w fun e w' => e = .returned (.int .u64 (lineAt a b x)) ∧ Ext w w' := by
  go_enter Tryz.func219, Tryz.ntmps219
  go_wp2_with fail
  refine Calls.mono (MulR_c x a hx ha _) ?_
  rintro e w1 ⟨rfl, h1⟩
  go_wp2_with fail
  refine Calls.mono (AddR_c _ b (fmul_u _ _) hb _) ?_
  rintro e w2 ⟨rfl, h2⟩
  go_wp2
  go_ret
  exact ⟨by unfold lineAt; rw [fmul_swap a x]; rfl, h1.trans' h2⟩
set_option maxRecDepth 20000 in
set_option maxHeartbeats 2000000 in
theorem BucketR_c (a b x wd : Int) (ha : U64 a) (hb : U64 b) (hx : U64 x) (h1 : 1 ≤ wd) (h2 : wd ≤ 1000000) (w : World) :
    Calls Tryz.prog 193 #[.int .u64 a, .int .u64 b, .int .u64 x, .int .i64 wd] w fun e w' => e = .returned (.int .i64 (bkt a b x wd)) ∧ Ext w w' := by
  have g : decide (wd < 1) = false := by simp; omega
  have hu : U64 (lineAt a b x) := fadd_u _ _
  obtain ⟨u1, u2⟩ := hu
  have hb1 := bkt_bd a b x wd h1
  unfold bkt at hb1
  go_enter Tryz.func193, Tryz.ntmps193
  go_wp2_with fail
  refine Calls.mono (LineR_c _ _ _ ha hb hx _) ?_
  rintro e w1 ⟨rfl, hb⟩
  go_wp2
  go_ret
  exact ⟨rfl, hb⟩
end Go.Proofs.YtfhdjekpdifajaaGreat
namespace Go.Proofs.YtfhdjekpdifajaaGreat
set_option linter.unusedVariables false
open Go.RowKit
theorem cols_take {c : Cfg} {l key : Int} {k : Nat} (hk : k < c.rows.toNat) : (cols c l key).take (k + 1) = (cols c l key).take k ++ [col c l key k] := by
  unfold cols
  rw [← List.map_take, ← List.map_take, List.take_range, List.take_range, Nat.min_eq_left (by omega), Nat.min_eq_left (by omega), List.range_succ, List.map_append]
  rfl
set_option maxRecDepth 20000 in
set_option maxHeartbeats 4000000 in
theorem ColumnsR_c (c : Cfg) (h : c.Ok) (l key : Int) (h0 : 0 ≤ l) (h1 : l ≤ c.bits) (hk0 : 0 ≤ key) (hk1 : key < keys c l) (w : World) :
    Calls Tryz.prog 156 #[.agg #[.int .i64 c.bits, .int .i64 c.rows, .int .i64 c.width, .int .i64 c.mode, .int .u64 c.seed], .int .i64 l, .int .u64 key] w fun e w' =>
      ∃ v, e = .returned v ∧ w'.ownsRow w.heap.size 3 1 v c.rows.toNat (ints (cols c l key)) ∧ Ext w w' := by
  have hkb := keys_bd c h l h0
  have hg : decide (keys c l ≤ key) = false := by simp; omega
  have hl59 : l ≤ 59 := by have := h.b2; omega
  have hw1 := h.w1
  have hw2 := h.w2
  have hr1 := h.r1
  have hr2 := h.r2
  have hsd := h.s
  obtain ⟨R, hR⟩ : ∃ R : Nat, c.rows = R := ⟨c.rows.toNat, by omega⟩
  have hRt : c.rows.toNat = R := by omega
  have hR8 : R ≤ 8 := by omega
  have HR := Lib.hid hR
  have HRT := Lib.hid hRt
  have HKU := Lib.hid (show U64 key by unfold U64; omega)
  rw [hRt]
  clear hRt hR
  go_enter Tryz.func156, Tryz.ntmps156
  go_wp2_with fail
  refine Calls.mono (KeysR_c c h l h0 h1 _) ?_
  rintro e w1 ⟨rfl, hb1⟩
  have hbx : w1.heap[w.heap.size]? = some (.cells #[.int .i64 c.bits, .int .i64 c.rows, .int .i64 c.width, .int .i64 c.mode, .int .u64 c.seed] 24 (0, 0)) := by
    rw [hb1.block _ (by simp only [size_alloc]; omega), heap_old _ _ (by rw [size_alloc]; omega)]
    exact heap_at _ _ rfl
  have hrw : w1.heap[w.heap.size + 1]? = some (.cells #[] 3 (0, 0)) := by
    rw [hb1.block _ (by simp only [size_alloc]; omega)]
    exact heap_at _ _ (by rw [size_alloc])
  have hE1 : Ext w w1 := by (repeat' (first | exact Ext.refl _ | assumption | apply Ext.allocR | apply Ext.drewR | apply Ext.drewNR | (refine Ext.trans' ?_ (by assumption))))
  have hl1 := lt_of hrw
  have hown : w1.ownsRow (w.heap.size + 1) 3 1 (.slice (some ⟨w.heap.size + 1, 0, none⟩) 0 0) ((cols c l key).take 0).length (ints ((cols c l key).take 0)) :=
    ⟨rfl, .inr ⟨w.heap.size + 1, 0, #[], rfl, Nat.le_refl _, hrw, Nat.le_refl _, Nat.zero_le _, rfl, rfl⟩⟩
  clear hb1 hrw
  go_wp2
  go_loopw [7, 8] (fun p u wr => ∃ k : Nat, k ≤ R ∧ u = .int .i64 k ∧ wr.ownsRow (w.heap.size + 1) 3 1 p ((cols c l key).take k).length (ints ((cols c l key).take k)) ∧ wr.heap[w.heap.size]? = some (.cells #[.int .i64 c.bits, .int .i64 c.rows, .int .i64 c.width, .int .i64 c.mode, .int .u64 c.seed] 24 (0, 0)) ∧ Ext w wr) (fun _ u _ => R - (intOf u).toNat)
  case atStart => exact ⟨0, Nat.zero_le _, rfl, hown, hbx, hE1⟩
  case round =>
    clear hown hbx hE1
    obtain ⟨k, hk, rfl, hown, hbx, hE⟩ := hrel
    have c1 := (cell_of hbx 1).trans rfl
    have c2 := (cell_of hbx 2).trans rfl
    have c4 := (cell_of hbx 4).trans rfl
    have cl := lt_of hbx
    by_cases hlt : k < R
    · have hd : decide ((k : Int) < c.rows) = true := by have := HR.out; simp; omega
      have hts := cols_take (c := c) (l := l) (key := key) (k := k) (by rw [HRT.out]; exact hlt)
      have hcd : col c l key k = bkt (prA c.seed l k) (prB c.seed l k) key c.width := rfl
      have HTS := Lib.hid hts
      have HCD := Lib.hid hcd
      have hlen : ((cols c l key).take k).length ≤ 8 := by rw [List.length_take, cols_len, HRT.out]; omega
      have HLEN := Lib.hid hlen
      clear hts hcd hlen
      generalize (cols c l key).take k = pre at *
      go_wp2_with fail
      refine Calls.mono (PairR_c c.seed l k hsd h0 hl59 (by omega) (by omega) _) ?_
      rintro e w2 ⟨rfl, hx2⟩
      have hbx2 := hx2.keep hbx
      have hown2 := own_ext hown hx2
      have hE2 := hE.trans' hx2
      have d2 := (cell_of hbx2 2).trans rfl
      have dl := lt_of hbx2
      clear c1 c2 c4 cl hbx hown hE hx2
      go_wp2_with fail
      refine Calls.mono (BucketR_c _ _ key c.width (prA_u _ _ _) (prB_u _ _ _) HKU.out hw1 (by omega) _) ?_
      rw [← HCD.out]
      rintro e w3 ⟨rfl, hx3⟩
      have hbx3 := hx3.keep hbx2
      have hown3 := own_ext hown2 hx3
      have hE3 := hE2.trans' hx3
      have hl3 := lt_of hbx3
      clear d2 dl hbx2 hown2 hE2 hx3
      go_wp2_with (at_builtin; refine wpList_app1 w3 (col c l key k) pre _ (w.heap.size + 1) 3 hown3 250 rfl _ _ rfl info_int Tryz.underlying250 rfl rfl ?a1 ?a2 ?_)
      case a1 => have := HLEN.out; omega
      case a2 => omega
      intro v' w4 g1 g2 g3
      have hbx4 := grown_old g2 (j := w.heap.size) (by omega) (own_ge hown3 (by omega))
      rw [hbx3] at hbx4
      have hE4 : Ext w w4 := ext_grown hE3 g2 (fun k hk => by have := own_blk hown3 hk; omega)
      obtain ⟨p', n', c', rfl⟩ := own_slice g1
      rw [← HTS.out] at g1
      have HPL := Lib.hid (show ((cols c l key).take (k + 1)).length = pre.length + 1 by rw [HTS.out, List.length_append]; rfl)
      clear hbx3 hown3 hE3 g2 g3
      go_wp2
      go_roundw
      case rel => exact ⟨k + 1, by omega, by go_num, by rw [HPL.out]; exact g1, hbx4, hE4⟩
      case measure => simp [intOf]; omega
    · have hd : decide ((k : Int) < c.rows) = false := by have := HR.out; simp; omega
      obtain rfl : k = R := by omega
      have htk : (cols c l key).take k = cols c l key := List.take_of_length_le (by rw [cols_len, HRT.out]; omega)
      rw [htk, cols_len, HRT.out] at hown
      go_wp2
      go_ret
      exact ⟨_, rfl, ⟨hown.1, hown.2.imp id (fun ⟨g, cap, cur, a, b, c⟩ => ⟨g, cap, cur, a, by omega, c⟩)⟩, hE⟩
end Go.Proofs.YtfhdjekpdifajaaGreat
namespace Go.Proofs.YtfhdjekpdifajaaGreat
set_option linter.unusedVariables false
open Go.RowKit
def RSNewPost (w : World) (C : Cfg) (lv : Int) (R W : Nat) (l : List Int) (e : Ending) (w' : World) : Prop :=
  ∃ s G, e = .returned (.pointer (some ⟨s, 0, none⟩)) ∧ RSAt w' s G C lv R W l ∧ (∀ k, rsF s G R k → w.heap.size ≤ k) ∧ Ext w w'
set_option maxRecDepth 20000 in
set_option maxHeartbeats 4000000 in
theorem RSNew_c (C : Cfg) (hok : C.Ok) (lv : Int) (h0 : 0 ≤ lv) (h1 : lv ≤ C.bits) (R W : Nat) (hr : C.rows = R) (hw : C.width = W) (w : World) :
    Calls Tryz.prog 102 #[.agg #[.int .i64 C.bits, .int .i64 C.rows, .int .i64 C.width, .int .i64 C.mode, .int .u64 C.seed], .int .i64 lv] w (RSNewPost w C lv R W (zs (R * W))) := by
  have r1 := hok.r1
  have r2 := hok.r2
  have w1' := hok.w1
  have w2' := hok.w2
  obtain ⟨W0, hW0⟩ : ∃ W0, w.alloc (.cells #[.int .i64 C.bits, .int .i64 C.rows, .int .i64 C.width, .int .i64 C.mode, .int .u64 C.seed] 24) = W0 := ⟨_, rfl⟩
  have hC : CfgAt W0 w.heap.size C := by rw [← hW0]; exact CfgAt.box C _ rfl
  have hE : Ext w W0 := by rw [← hW0]; exact Ext.alloc' _ _
  have c0 := hC.c0
  have c1 := hC.c1
  have c2 := hC.c2
  have c3 := hC.c3
  have c4 := hC.c4
  have cl := hC.lt
  have hsz := hE.size
  have HR := Lib.hid hr
  have HW := Lib.hid hw
  clear hC hr hw
  go_enter Tryz.func102, Tryz.ntmps102
  go_wp2_with fail
  try rw [hW0]
  clear hW0
  have hC0 := af_drew W0
  refine pi_start (fun w' => ∃ z : After W0, w' = z.w) [] (by kernel_rfl) ?_
  refine pi_t 1 rfl (by kernel_rfl) (by kernel_rfl) (fun _ _ _ _ h => h) (fun K hK => ?_)
  go_big_quiet_op
  refine hK _ ?_
  clear hK K
  refine pi_t 2 rfl (by kernel_rfl) (by kernel_rfl) (fun _ _ _ _ h => h) (fun K hK => ?_)
  go_big_quiet_op
  refine hK _ ?_
  clear hK K
  refine pi_t 4 rfl (by kernel_rfl) (by kernel_rfl) (fun _ _ _ _ h => h) (fun K hK => ?_)
  go_big_quiet_op
  refine hK _ ?_
  clear hK K
  refine pi_c 0 (by assumption) rfl (by kernel_rfl) (by kernel_rfl) (fun _ _ _ _ h => h) (fun K hK => ?_)
  go_big_quiet_op
  refine hK _ ?_
  clear hK K
  refine pi_c 3 (by assumption) rfl (by kernel_rfl) (by kernel_rfl) (fun _ _ _ _ h => h) (fun K hK => ?_)
  go_big_quiet_op
  refine hK _ ?_
  clear hK K
  refine pi_c 5 (by assumption) rfl (by kernel_rfl) (by kernel_rfl) (fun _ _ _ _ h => h) (fun K hK => ?_)
  go_big_quiet_op
  refine hK _ ?_
  clear hK K
  rw [HR.out, HW.out]
  refine pi_l 6 rfl (by kernel_rfl) (fun K hK => ?_)
  go_wp2_with (go_at_call 155; refine Calls.mono (RGNew_c R W (by have := HR.out; omega) (by have := HR.out; omega) (by have := HW.out; omega) (by have := HW.out; omega) _) ?_; rintro e w1 ⟨G, rfl, hG, hF, hx1⟩)
  refine hK _ _ (fun _ h => af_step h hx1) ?_
  clear hK K
  have hE1 : Ext W0 w1 := Ext.trans' (Below.drew (Ext.refl W0)) hx1
  have HG := Lib.hid hG
  have HF := Lib.hid hF
  have hz1 := hE1.size
  clear hG hF
  refine pi_t 7 rfl (by kernel_rfl) (by kernel_rfl) (fun _ _ _ _ h => h) (fun K hK => ?_)
  go_big_quiet_op
  refine hK _ ?_
  clear hK K
  refine pi_l 8 rfl (by kernel_rfl) (fun K hK => ?_)
  go_wp2
  refine hK _ _ (fun _ h => af_step h (Ext.alloc' _ _)) ?_
  clear hK K
  refine pi_t 9 rfl (by kernel_rfl) (by kernel_rfl) (fun _ _ _ _ h => h) (fun K hK => ?_)
  go_big_quiet_op
  refine hK _ ?_
  clear hK K
  refine pi_end (by kernel_rfl) ?_
  go_wp2
  go_ret
  refine ⟨w1.heap.size, G, rfl, ⟨?_, HG.out.ext (Ext.alloc' _ _), hok, h0, h1, HR.out, HW.out, zs_fit _⟩, ?_, (hE.trans' hE1).allocR _⟩
  · first | exact heap_at _ _ rfl | (rw [HR.out, HW.out]; exact heap_at _ _ rfl)
  · rintro k (rfl | hk)
    · exact Nat.le_trans hsz hz1
    · exact Nat.le_trans hsz (HF.out k hk)
def RSUpdPost (w : World) (s : Nat) (G : Gr) (C : Cfg) (lv : Int) (R W : Nat) (l : List Int) (key d : Int) (e : Ending) (w' : World) : Prop :=
  e = .returned (.int .i64 (errU C lv R W l key d)) ∧ ((errU C lv R W l key d = 0 ∧ RSAt w' s G C lv R W (updL C lv R W l key d) ∧ Mod (G.foot R) w w') ∨ (errU C lv R W l key d ≠ 0 ∧ Ext w w'))
theorem fits_all {W : Nat} {cs l : List Int} {d : Int} {R : Nat} : fitsAll W cs l d R ↔ allFit W cs l d R = true := allFit_iff.symm
set_option maxRecDepth 20000 in
set_option maxHeartbeats 8000000 in
theorem RSUpdate_c (s : Nat) (G : Gr) (C : Cfg) (lv : Int) (R W : Nat) (l : List Int) (key d : Int) (w : World) (h : RSAt w s G C lv R W l) (hk : U64 key) (hd : I64 d) :
    Calls Tryz.prog 108 #[.pointer (some ⟨s, 0, none⟩), .int .u64 key, .int .i64 d] w (RSUpdPost w s G C lv R W l key d) := by
  obtain ⟨hk0, hk1⟩ := hk
  have hok := h.ok
  have hlo := h.lo
  have hhi := h.hi
  have hkb := keys_bd C hok lv hlo
  have hm := cols_meets C hok lv key h.hr h.hw
  have HM := Lib.hid hm
  have HH := Lib.hid h
  have HD := Lib.hid hd
  have ls := h.lts
  have hex := h.ex
  have c0 := (cell_of hex 0).trans rfl
  have c1 := (cell_of hex 1).trans rfl
  have c2 := (cell_of hex 2).trans rfl
  have c3 := (cell_of hex 3).trans rfl
  have c4 := (cell_of hex 4).trans rfl
  have c5 := (cell_of hex 5).trans rfl
  have hRt : C.rows.toNat = R := by rw [h.hr]; rfl
  have HRT := Lib.hid hRt
  clear hex h hm hd hRt
  by_cases hge : keys C lv ≤ key
  · have he : errU C lv R W l key d = 2 := errU_key hge
    unfold RSUpdPost
    rw [he]
    have hge' : decide (keys C lv ≤ key) = true := decide_eq_true hge
    clear he
    go_enter Tryz.func108, Tryz.ntmps108
    go_wp2_with fail
    have hC0 := af_drew w
    refine pi_start (fun w' => ∃ z : After w, w' = z.w) [] (by kernel_rfl) ?_
    refine pi_t 0 rfl (by kernel_rfl) (by kernel_rfl) (fun _ _ _ _ h => h) (fun K hK => ?_)
    go_big_quiet_op
    refine hK _ ?_
    clear hK K
    refine pi_t 1 rfl (by kernel_rfl) (by kernel_rfl) (fun _ _ _ _ h => h) (fun K hK => ?_)
    go_big_quiet_op
    refine hK _ ?_
    clear hK K
    refine pi_t 2 rfl (by kernel_rfl) (by kernel_rfl) (fun _ _ _ _ h => h) (fun K hK => ?_)
    go_big_quiet_op
    refine hK _ ?_
    clear hK K
    refine pi_t 3 rfl (by kernel_rfl) (by kernel_rfl) (fun _ _ _ _ h => h) (fun K hK => ?_)
    go_big_quiet_op
    refine hK _ ?_
    clear hK K
    refine pi_t 5 rfl (by kernel_rfl) (by kernel_rfl) (fun _ _ _ _ h => h) (fun K hK => ?_)
    go_big_quiet_op
    refine hK _ ?_
    clear hK K
    refine pi_t 6 rfl (by kernel_rfl) (by kernel_rfl) (fun _ _ _ _ h => h) (fun K hK => ?_)
    go_big_quiet_op
    refine hK _ ?_
    clear hK K
    refine pi_t 7 rfl (by kernel_rfl) (by kernel_rfl) (fun _ _ _ _ h => h) (fun K hK => ?_)
    go_big_quiet_op
    refine hK _ ?_
    clear hK K
    refine pi_c 4 (by assumption) rfl (by kernel_rfl) (by kernel_rfl) (fun _ _ _ _ h => h) (fun K hK => ?_)
    go_big_quiet_op
    refine hK _ ?_
    clear hK K
    refine pi_c 8 (by assumption) rfl (by kernel_rfl) (by kernel_rfl) (fun _ _ _ _ h => h) (fun K hK => ?_)
    go_big_quiet_op
    refine hK _ ?_
    clear hK K
    refine pi_l 9 rfl (by kernel_rfl) (fun K hK => ?_)
    go_wp2_with (go_at_call 79; refine (KeysR_c C hok lv hlo hhi _).mono ?_; rintro e w1 ⟨rfl, hx1⟩)
    refine hK _ _ (fun _ h => af_step h hx1) ?_
    clear hK K
    have hE1 : Ext w w1 := Ext.trans' (Below.drew (Ext.refl w)) hx1
    refine pi_t 10 rfl (by kernel_rfl) (by kernel_rfl) (fun _ _ _ _ h => h) (fun K hK => ?_)
    go_big_quiet_op
    refine hK _ ?_
    clear hK K
    refine pi_end (by kernel_rfl) ?_
    go_wp2
    go_ret
    exact ⟨rfl, by first | exact .inr ⟨by decide, hE1⟩ | exact hE1⟩
  · have hlt : key < keys C lv := by omega
    have hge' : decide (keys C lv ≤ key) = false := decide_eq_false hge
    have HES := Lib.hid (fun hm => errU_sum (R := R) (W := W) (l := l) (d := d) hlt hm)
    have HEN := Lib.hid (fun hm hd => errU_neg (R := R) (W := W) (l := l) (d := d) hlt hm hd)
    have HEC := Lib.hid (fun hm hd => errU_con (R := R) (W := W) (l := l) (d := d) hlt hm hd)
    have HUS : Hid (C.mode ≠ 2 → updL C lv R W l key d = putK W (cols C lv key) (fun k => l.getD (at_ W (cols C lv key) k) 0 + d) R l) := Lib.hid (fun hm => by unfold updL; rw [decide_eq_false hm]; rfl)
    have HUC : Hid (C.mode = 2 → updL C lv R W l key d = putK W (cols C lv key) (fun k => max (l.getD (at_ W (cols C lv key) k) 0) (minL (readL W l (cols C lv key)) + d)) R l) := Lib.hid (fun hm => by unfold updL; rw [decide_eq_true hm]; rfl)
    have HCOL := Lib.hid (fun W' => ColumnsR_c C hok lv key hlo hhi hk0 hlt W')
    unfold RSUpdPost
    generalize errU C lv R W l key d = er at *
    generalize updL C lv R W l key d = ul at *
    clear hge
    go_enter Tryz.func108, Tryz.ntmps108
    go_wp2_with fail
    have hC0 := af_drew w
    refine pi_start (fun w' => ∃ z : After w, w' = z.w) [] (by kernel_rfl) ?_
    refine pi_t 0 rfl (by kernel_rfl) (by kernel_rfl) (fun _ _ _ _ h => h) (fun K hK => ?_)
    go_big_quiet_op
    refine hK _ ?_
    clear hK K
    refine pi_t 1 rfl (by kernel_rfl) (by kernel_rfl) (fun _ _ _ _ h => h) (fun K hK => ?_)
    go_big_quiet_op
    refine hK _ ?_
    clear hK K
    refine pi_t 2 rfl (by kernel_rfl) (by kernel_rfl) (fun _ _ _ _ h => h) (fun K hK => ?_)
    go_big_quiet_op
    refine hK _ ?_
    clear hK K
    refine pi_t 3 rfl (by kernel_rfl) (by kernel_rfl) (fun _ _ _ _ h => h) (fun K hK => ?_)
    go_big_quiet_op
    refine hK _ ?_
    clear hK K
    refine pi_t 5 rfl (by kernel_rfl) (by kernel_rfl) (fun _ _ _ _ h => h) (fun K hK => ?_)
    go_big_quiet_op
    refine hK _ ?_
    clear hK K
    refine pi_t 6 rfl (by kernel_rfl) (by kernel_rfl) (fun _ _ _ _ h => h) (fun K hK => ?_)
    go_big_quiet_op
    refine hK _ ?_
    clear hK K
    refine pi_t 7 rfl (by kernel_rfl) (by kernel_rfl) (fun _ _ _ _ h => h) (fun K hK => ?_)
    go_big_quiet_op
    refine hK _ ?_
    clear hK K
    refine pi_c 4 (by assumption) rfl (by kernel_rfl) (by kernel_rfl) (fun _ _ _ _ h => h) (fun K hK => ?_)
    go_big_quiet_op
    refine hK _ ?_
    clear hK K
    refine pi_c 8 (by assumption) rfl (by kernel_rfl) (by kernel_rfl) (fun _ _ _ _ h => h) (fun K hK => ?_)
    go_big_quiet_op
    refine hK _ ?_
    clear hK K
    refine pi_l 9 rfl (by kernel_rfl) (fun K hK => ?_)
    go_wp2_with (go_at_call 79; refine (KeysR_c C hok lv hlo hhi _).mono ?_; rintro e w1 ⟨rfl, hx1⟩)
    refine hK _ _ (fun _ h => af_step h hx1) ?_
    clear hK K
    have hE1 : Ext w w1 := Ext.trans' (Below.drew (Ext.refl w)) hx1
    refine pi_t 10 rfl (by kernel_rfl) (by kernel_rfl) (fun _ _ _ _ h => h) (fun K hK => ?_)
    go_big_quiet_op
    refine hK _ ?_
    clear hK K
    refine pi_end (by kernel_rfl) ?_
    have hex1 := (HH.out.ext hE1).ex
    have ls1 := (HH.out.ext hE1).lts
    clear c0 c1 c2 c3 c4 c5 ls
    have c0 := (cell_of hex1 0).trans rfl
    have c1 := (cell_of hex1 1).trans rfl
    have c2 := (cell_of hex1 2).trans rfl
    have c3 := (cell_of hex1 3).trans rfl
    have c4 := (cell_of hex1 4).trans rfl
    have c5 := (cell_of hex1 5).trans rfl
    clear hex1 hx1
    go_wp2_with fail
    have hC0 := af_drew w1
    refine pi_start (fun w' => ∃ z : After w1, w' = z.w) [] (by kernel_rfl) ?_
    refine pi_t 0 rfl (by kernel_rfl) (by kernel_rfl) (fun _ _ _ _ h => h) (fun K hK => ?_)
    go_big_quiet_op
    refine hK _ ?_
    clear hK K
    refine pi_t 1 rfl (by kernel_rfl) (by kernel_rfl) (fun _ _ _ _ h => h) (fun K hK => ?_)
    go_big_quiet_op
    refine hK _ ?_
    clear hK K
    refine pi_t 2 rfl (by kernel_rfl) (by kernel_rfl) (fun _ _ _ _ h => h) (fun K hK => ?_)
    go_big_quiet_op
    refine hK _ ?_
    clear hK K
    refine pi_t 4 rfl (by kernel_rfl) (by kernel_rfl) (fun _ _ _ _ h => h) (fun K hK => ?_)
    go_big_quiet_op
    refine hK _ ?_
    clear hK K
    refine pi_t 5 rfl (by kernel_rfl) (by kernel_rfl) (fun _ _ _ _ h => h) (fun K hK => ?_)
    go_big_quiet_op
    refine hK _ ?_
    clear hK K
    refine pi_t 6 rfl (by kernel_rfl) (by kernel_rfl) (fun _ _ _ _ h => h) (fun K hK => ?_)
    go_big_quiet_op
    refine hK _ ?_
    clear hK K
    refine pi_t 8 rfl (by kernel_rfl) (by kernel_rfl) (fun _ _ _ _ h => h) (fun K hK => ?_)
    go_big_quiet_op
    refine hK _ ?_
    clear hK K
    refine pi_c 3 (by assumption) rfl (by kernel_rfl) (by kernel_rfl) (fun _ _ _ _ h => h) (fun K hK => ?_)
    go_big_quiet_op
    refine hK _ ?_
    clear hK K
    refine pi_c 7 (by assumption) rfl (by kernel_rfl) (by kernel_rfl) (fun _ _ _ _ h => h) (fun K hK => ?_)
    go_big_quiet_op
    refine hK _ ?_
    clear hK K
    refine pi_l 9 rfl (by kernel_rfl) (fun K hK => ?_)
    go_wp2_with (go_at_call 156; refine Calls.mono (HCOL.out _) ?_; rintro e w2 ⟨cv, rfl, ho, hx2⟩)
    refine hK _ _ (fun _ h => af_step h hx2) ?_
    clear hK K
    have hE2 : Ext w w2 := hE1.trans' (Ext.trans' (Below.drew (Ext.refl w1)) hx2)
    refine pi_t 10 rfl (by kernel_rfl) (by kernel_rfl) (fun _ _ _ _ h => h) (fun K hK => ?_)
    go_big_quiet_op
    refine hK _ ?_
    clear hK K
    refine pi_end (by kernel_rfl) ?_
    rw [HRT.out] at ho
    have HV := Lib.hid (IntsAt.of_row ho)
    have hne : ∀ g off n cap, cv = .slice (some ⟨g, off, none⟩) n cap → ¬ G.foot R g := fun g off n cap hv hf => by
      have h1 := own_blk ho (k := g) (by rw [hv]; rfl)
      have h2 := HH.out.g.lt hf
      have h3 := hE1.size
      have h4 : w1.heap.size ≤ g := h1
      omega
    have HNE := Lib.hid hne
    have HS2 := Lib.hid (HH.out.ext hE2)
    have hex2 := HS2.out.ex
    have ls2 := HS2.out.lts
    clear c0 c1 c2 c3 c4 c5 ls1 ho hne hx2 hE1
    have c3 := (cell_of hex2 3).trans rfl
    have c6 := (cell_of hex2 6).trans rfl
    clear hex2
    by_cases hmd : C.mode = 2
    · have hul := HUC.out hmd
      have HUL := Lib.hid hul
      have hmb : (C.mode == 2) = true := by simpa using hmd
      have HEN2 := Lib.hid (fun hd => HEN.out hmd hd)
      have HEC2 := Lib.hid (fun hd => HEC.out hmd hd)
      clear hul hmd HES HUS
      go_wp2_with fail
      refine Calls.mono (RRaise_c G R W l (cols C lv key) cv d _ HS2.out.g HS2.out.fit HD.out HV.out HM.out HNE.out) ?_
      rintro e w3 (⟨hdn, rfl, hx3⟩ | ⟨hdn, (⟨hf, rfl, hg3, hm3⟩ | ⟨hf, rfl, hx3⟩)⟩)
      · have her : er = 3 := HEN2.out hdn
        subst her
        go_wp2
        go_ret
        exact ⟨rfl, by first | exact .inr ⟨by decide, hE2.trans' hx3⟩ | exact hE2.trans' hx3⟩
      · have her : er = 0 := by rw [HEC2.out (by omega), fitB_yes hf]; rfl
        subst her
        have HG3 := Lib.hid hg3
        have HF := Lib.hid hf
        clear hg3 hf
        go_wp2
        go_ret
        have hfit : ∀ x ∈ ul, I64 x := by
          rw [HUL.out]
          intro x hx
          rcases putK_mem R hx with hx | ⟨j, hj, rfl⟩
          · exact HS2.out.fit x hx
          · have h1 := getD_i64 HS2.out.fit (at_ W (cols C lv key) j)
            have h2 := HF.out
            unfold I64 at *
            omega
        have hS3 : RSAt w3 s G C lv R W ul := HS2.out.putg (by rw [HUL.out]; exact HG3.out) hm3 hfit
        exact ⟨rfl, by first | exact .inl ⟨rfl, hS3, (hE2.mod _).trans hm3⟩ | exact ⟨hS3, (hE2.mod _).trans hm3⟩⟩
      · have her : er = 4 := by rw [HEC2.out (by omega), fitB_no hf]; rfl
        subst her
        clear hf
        go_wp2
        go_ret
        exact ⟨rfl, by first | exact .inr ⟨by decide, hE2.trans' hx3⟩ | exact hE2.trans' hx3⟩
    · have hul := HUS.out hmd
      have HUL := Lib.hid hul
      have hmb : (C.mode == 2) = false := by simpa using hmd
      have HES2 := Lib.hid (HES.out hmd)
      clear hul hmd HEN HEC HUC
      go_wp2_with fail
      refine Calls.mono (RChange_c G R W l (cols C lv key) cv d _ HS2.out.g HS2.out.fit HD.out HV.out HM.out HNE.out) ?_
      rintro e w3 (⟨hf, rfl, hg3, hm3⟩ | ⟨hf, rfl, hx3⟩)
      · have her : er = 0 := by rw [HES2.out, fits_all.1 hf]; rfl
        subst her
        have HG3 := Lib.hid hg3
        have HF := Lib.hid hf
        clear hg3 hf
        go_wp2
        go_ret
        have hfit : ∀ x ∈ ul, I64 x := by
          rw [HUL.out]
          intro x hx
          rcases putK_mem R hx with hx | ⟨j, hj, rfl⟩
          · exact HS2.out.fit x hx
          · exact HF.out j hj
        have hS3 : RSAt w3 s G C lv R W ul := HS2.out.putg (by rw [HUL.out]; exact HG3.out) hm3 hfit
        exact ⟨rfl, by first | exact .inl ⟨rfl, hS3, (hE2.mod _).trans hm3⟩ | exact ⟨hS3, (hE2.mod _).trans hm3⟩⟩
      · have her : er = 4 := by rw [HES2.out, show allFit W (cols C lv key) l d R = false from Bool.eq_false_iff.2 (fun hA => hf (allFit_iff.1 hA))]; rfl
        subst her
        clear hf
        go_wp2
        go_ret
        exact ⟨rfl, by first | exact .inr ⟨by decide, hE2.trans' hx3⟩ | exact hE2.trans' hx3⟩
end Go.Proofs.YtfhdjekpdifajaaGreat
namespace Go.Proofs.YtfhdjekpdifajaaGreat
set_option linter.unusedVariables false
open Go.RowKit
theorem RGAt.cong {w : World} {G : Gr} {R W : Nat} {m m' : List Int} (h : RGAt w G R W m) (hl : m'.length = R * W) (he : ∀ r k, r < R → k < W → m'.getD (r * W + k) 0 = m.getD (r * W + k) 0) : RGAt w G R W m' :=
  ⟨h.ex, h.row, fun r hr => by obtain ⟨cur, h1, h2⟩ := h.cells r hr; exact ⟨cur, h1, fun k hk => by rw [h2 k hk, he r k hr hk]⟩, h.capc, h.sep, hl, h.r1, h.r2, h.w1, h.w2⟩
def Gr.put (G : Gr) (r z cap : Nat) : Gr := ⟨G.g, G.m, fun q => if q = r then z else G.r q, fun q => if q = r then cap else G.c q⟩
theorem Gr.put_foot {G : Gr} {r z cap R k : Nat} (h : (G.put r z cap).foot R k) : G.foot R k ∨ k = z := by
  rcases h with h | h | ⟨q, hq, h⟩
  · exact .inl (.inl h)
  · exact .inl (.inr (.inl h))
  · by_cases e : q = r
    · have : (G.put r z cap).r q = z := if_pos e
      rw [this] at h; exact .inr h
    · have : (G.put r z cap).r q = G.r q := if_neg e
      rw [this] at h; exact .inl (.inr (.inr ⟨q, hq, h⟩))
/-- Another row is laid in. -/
theorem RGAt.putRow {w : World} {G : Gr} {R W : Nat} {m m' : List Int} (h : RGAt w G R W m) {r z cap : Nat} {cur : Array Value} {f : Nat → Int} (hr : r < R) (hz : w.heap[z]? = some (.cells cur 2 (0, 0))) (hf : ∀ k, k < W → cur[k]? = some (.int .i64 (f k))) (hcap : W ≤ cap) (hn : ∀ q, q < R → G.r q ≠ z)
    (hl : m'.length = R * W) (he : ∀ q k, q < R → k < W → m'.getD (q * W + k) 0 = if q = r then f k else m.getD (q * W + k) 0) : RGAt (w.setCell ⟨G.m, r, none⟩ (.slice (some ⟨z, 0, none⟩) W cap)) (G.put r z cap) R W m' := by
  obtain ⟨cur0, h1, h2⟩ := h.row
  obtain ⟨cp, h3, h4⟩ := h.ex
  have hrs : r < cur0.size := by have := h2 r hr; rw [Array.getElem?_eq_some_iff] at this; exact this.1
  have hzm : z ≠ G.m := blk_ne hz h1 (by decide)
  refine ⟨⟨cp, (setCell_other _ _ h.ngm).trans h3, h4⟩, ⟨_, setCell_same h1 _ _, fun q hq => ?_⟩, fun q hq => ?_, fun q hq => ?_, fun q p hq hp hqp => ?_, hl, h.r1, h.r2, h.w1, h.w2⟩
  · by_cases e : q = r
    · subst e
      rw [Array.getElem?_setIfInBounds_self_of_lt hrs]
      show some _ = some (Value.slice (some ⟨if q = q then z else G.r q, 0, none⟩) W (if q = q then cap else G.c q))
      rw [if_pos rfl, if_pos rfl]
    · rw [Array.getElem?_setIfInBounds_ne (fun e' => e e'.symm), h2 q hq]
      show some (Value.slice (some ⟨G.r q, 0, none⟩) W (G.c q)) = some (Value.slice (some ⟨if q = r then z else G.r q, 0, none⟩) W (if q = r then cap else G.c q))
      rw [if_neg e, if_neg e]
  · by_cases e : q = r
    · refine ⟨cur, ?_, fun k hk => ?_⟩
      · have : (G.put r z cap).r q = z := if_pos e
        rw [this, setCell_other _ _ hzm]; exact hz
      · rw [hf k hk, he q k hq hk, if_pos e]
    · obtain ⟨cu, a1, a2⟩ := h.cells q hq
      refine ⟨cu, ?_, fun k hk => ?_⟩
      · have : (G.put r z cap).r q = G.r q := if_neg e
        rw [this, setCell_other _ _ (fun e' => h.nmr hq e'.symm)]; exact a1
      · rw [a2 k hk, he q k hq hk, if_neg e]
  · by_cases e : q = r
    · have : (G.put r z cap).c q = cap := if_pos e
      rw [this]; exact hcap
    · have : (G.put r z cap).c q = G.c q := if_neg e
      rw [this]; exact h.capc q hq
  · by_cases e : q = r
    · have e1 : (G.put r z cap).r q = z := if_pos e
      have e2 : (G.put r z cap).r p = G.r p := if_neg (fun e' => hqp (e.trans e'.symm))
      rw [e1, e2]; exact fun e' => hn p hp e'.symm
    · have e1 : (G.put r z cap).r q = G.r q := if_neg e
      rw [e1]
      by_cases e' : p = r
      · have e2 : (G.put r z cap).r p = z := if_pos e'
        rw [e2]; exact hn q hq
      · have e2 : (G.put r z cap).r p = G.r p := if_neg e'
        rw [e2]; exact h.sep q p hq hp hqp
/-- The first rows of one, noughts behind. -/
def mixR (l : List Int) (R W k : Nat) : List Int := (List.range (R * W)).map fun i => if i / W < k then l.getD i 0 else 0
theorem mixR_len (l : List Int) (R W k : Nat) : (mixR l R W k).length = R * W := by simp [mixR]
theorem row_lt {R W r k : Nat} (hr : r < R) (hk : k < W) : r * W + k < R * W := by
  calc r * W + k < r * W + W := by omega
    _ = (r + 1) * W := by rw [Nat.add_mul, Nat.one_mul]
    _ ≤ R * W := Nat.mul_le_mul_right W hr
theorem mixR_get {l : List Int} {R W n r k : Nat} (hr : r < R) (hk : k < W) : (mixR l R W n).getD (r * W + k) 0 = if r < n then l.getD (r * W + k) 0 else 0 := by
  have h1 := row_lt hr hk
  have h2 : (r * W + k) / W = r := by rw [Nat.mul_comm, Nat.mul_add_div (by omega), Nat.div_eq_of_lt hk, Nat.add_zero]
  unfold mixR
  rw [List.getD_eq_getElem?_getD, List.getElem?_map, List.getElem?_range h1]
  simp only [Option.map_some, Option.getD_some, h2]
set_option maxRecDepth 20000 in
set_option maxHeartbeats 8000000 in
theorem RSCopy_c (s : Nat) (G : Gr) (C : Cfg) (lv : Int) (R W : Nat) (l : List Int) (w : World) (h : RSAt w s G C lv R W l) :
    Calls Tryz.prog 106 #[.pointer (some ⟨s, 0, none⟩)] w (RSNewPost w C lv R W l) := by
  have hok := h.ok
  have hlo := h.lo
  have hhi := h.hi
  have r1 := h.g.r1
  have r2 := h.g.r2
  have w1' := h.g.w1
  have w2' := h.g.w2
  have HH := Lib.hid h
  have ls := h.lts
  have hex := h.ex
  have c0 := (cell_of hex 0).trans rfl
  have c1 := (cell_of hex 1).trans rfl
  have c2 := (cell_of hex 2).trans rfl
  have c3 := (cell_of hex 3).trans rfl
  have c4 := (cell_of hex 4).trans rfl
  have c5 := (cell_of hex 5).trans rfl
  have HN := Lib.hid (fun W' => RSNew_c C hok lv hlo hhi R W h.hr h.hw W')
  have HLEN := Lib.hid h.g.len
  clear hex h
  go_enter Tryz.func106, Tryz.ntmps106
  go_wp2_with fail
  have hC0 := af_drew w
  refine pi_start (fun w' => ∃ z : After w, w' = z.w) [] (by kernel_rfl) ?_
  refine pi_t 0 rfl (by kernel_rfl) (by kernel_rfl) (fun _ _ _ _ h => h) (fun K hK => ?_)
  go_big_quiet_op
  refine hK _ ?_
  clear hK K
  refine pi_t 1 rfl (by kernel_rfl) (by kernel_rfl) (fun _ _ _ _ h => h) (fun K hK => ?_)
  go_big_quiet_op
  refine hK _ ?_
  clear hK K
  refine pi_t 2 rfl (by kernel_rfl) (by kernel_rfl) (fun _ _ _ _ h => h) (fun K hK => ?_)
  go_big_quiet_op
  refine hK _ ?_
  clear hK K
  refine pi_t 4 rfl (by kernel_rfl) (by kernel_rfl) (fun _ _ _ _ h => h) (fun K hK => ?_)
  go_big_quiet_op
  refine hK _ ?_
  clear hK K
  refine pi_t 5 rfl (by kernel_rfl) (by kernel_rfl) (fun _ _ _ _ h => h) (fun K hK => ?_)
  go_big_quiet_op
  refine hK _ ?_
  clear hK K
  refine pi_t 6 rfl (by kernel_rfl) (by kernel_rfl) (fun _ _ _ _ h => h) (fun K hK => ?_)
  go_big_quiet_op
  refine hK _ ?_
  clear hK K
  refine pi_c 3 (by assumption) rfl (by kernel_rfl) (by kernel_rfl) (fun _ _ _ _ h => h) (fun K hK => ?_)
  go_big_quiet_op
  refine hK _ ?_
  clear hK K
  refine pi_c 7 (by assumption) rfl (by kernel_rfl) (by kernel_rfl) (fun _ _ _ _ h => h) (fun K hK => ?_)
  go_big_quiet_op
  refine hK _ ?_
  clear hK K
  refine pi_l 8 rfl (by kernel_rfl) (fun K hK => ?_)
  go_wp2_with (go_at_call 102; refine Calls.mono (HN.out _) ?_; rintro e w1 ⟨s1, G1, rfl, hS1, hF1, hx1⟩)
  refine hK _ _ (fun _ h => af_step h hx1) ?_
  clear hK K
  have hE1 : Ext w w1 := Ext.trans' (Below.drew (Ext.refl w)) hx1
  have hF1' : ∀ k, rsF s1 G1 R k → w.heap.size ≤ k := hF1
  have HS1 := Lib.hid hS1
  have HF1 := Lib.hid hF1'
  have hs1 : w.heap.size ≤ s1 := hF1' s1 (.inl rfl)
  clear hx1 hS1 hF1 hF1' c0 c1 c2 c3 c4 c5 HN
  refine pi_t 9 rfl (by kernel_rfl) (by kernel_rfl) (fun _ _ _ _ h => h) (fun K hK => ?_)
  go_big_quiet_op
  refine hK _ ?_
  clear hK K
  refine pi_end (by kernel_rfl) ?_
  go_wp2_with fail
  go_loopw [4] (fun u4 wr => ∃ (k : Nat) (G' : Gr), k ≤ R ∧ u4 = .int .i64 k ∧ G'.g = G1.g ∧ RGAt wr G' R W (mixR l R W k) ∧ (∀ j, G'.foot R j → w.heap.size ≤ j) ∧ wr.heap[s1]? = some (.cells #[.int .i64 C.bits, .int .i64 C.rows, .int .i64 C.width, .int .i64 C.mode, .int .u64 C.seed, .int .i64 lv, .pointer (some ⟨G1.g, 0, none⟩)] 158 (0, 0)) ∧ Ext w wr) (fun u4 _ => R - (intOf u4).toNat)
  case atStart =>
    refine ⟨0, G1, Nat.zero_le _, rfl, rfl, HS1.out.g.cong (mixR_len _ _ _ _) (fun r k hr hk => ?_), fun j hj => HF1.out j (.inr hj), HS1.out.ex, hE1⟩
    rw [mixR_get hr hk, if_neg (Nat.not_lt_zero _), zs_get0]
  case round =>
    obtain ⟨k, G', hk, rfl, hgg, hG, hF, hbx, hE⟩ := hrel
    have hr := HH.out.ext hE
    obtain ⟨cap2, cg, hcap2⟩ := hr.g.cg
    have lg := hr.g.ltg
    have c6 := (cell_of hr.ex 6).trans rfl
    have lsr := hr.lts
    by_cases hlt : k < R
    · obtain ⟨cap3, cg', hcap3⟩ := hG.cg
      have lg' := hG.ltg
      rw [hgg] at cg' lg'
      have b6 := (cell_of hbx 6).trans rfl
      have bl := lt_of hbx
      have cm := hr.g.cm hlt
      have lm := hr.g.ltm
      have cm' := hG.cm hlt
      have fm' := hG.fm k
      have lm' := hG.ltm
      have hcell : ∀ W' : World, Ext wr W' → ∀ j, j < W → W'.cell? ⟨G.r k, 0 + j, none⟩ = some (.int .i64 ((rowL l W k).getD j 0)) := fun W' hW j hj => by
        rw [(bcell hW).1 _ _ (hr.g.ltr hlt), Nat.zero_add, rowL_get hj]; exact hr.g.cr hlt hj
      have HC := Lib.hid hcell
      have HG := Lib.hid hG
      have HF := Lib.hid hF
      have HBX := Lib.hid hbx
      have HGG := Lib.hid hgg
      have hrl := rowL_len l W k
      have HRL := Lib.hid hrl
      have hkz : (k : Int) < (R : Int) := by omega
      have hszE := hE.size
      clear hcell hG hF hbx hgg hrl hr
      go_wp2_with fail
      have hC0 := af_drew wr
      refine pi_start (fun w' => ∃ z : After wr, w' = z.w) [21] (by kernel_rfl) ?_
      refine pi_t 0 rfl (by kernel_rfl) (by kernel_rfl) (fun _ _ _ _ h => h) (fun K hK => ?_)
      go_big_quiet_op
      refine hK _ ?_
      clear hK K
      refine pi_t 1 rfl (by kernel_rfl) (by kernel_rfl) (fun _ _ _ _ h => h) (fun K hK => ?_)
      go_big_quiet_op
      refine hK _ ?_
      clear hK K
      refine pi_t 2 rfl (by kernel_rfl) (by kernel_rfl) (fun _ _ _ _ h => h) (fun K hK => ?_)
      go_big_quiet_op
      refine hK _ ?_
      clear hK K
      refine pi_t 7 rfl (by kernel_rfl) (by kernel_rfl) (fun _ _ _ _ h => h) (fun K hK => ?_)
      go_big_quiet_op
      refine hK _ ?_
      clear hK K
      refine pi_t 9 rfl (by kernel_rfl) (by kernel_rfl) (fun _ _ _ _ h => h) (fun K hK => ?_)
      go_big_quiet_op
      refine hK _ ?_
      clear hK K
      refine pi_t 10 rfl (by kernel_rfl) (by kernel_rfl) (fun _ _ _ _ h => h) (fun K hK => ?_)
      go_big_quiet_op
      refine hK _ ?_
      clear hK K
      refine pi_t 11 rfl (by kernel_rfl) (by kernel_rfl) (fun _ _ _ _ h => h) (fun K hK => ?_)
      go_big_quiet_op
      refine hK _ ?_
      clear hK K
      refine pi_t 16 rfl (by kernel_rfl) (by kernel_rfl) (fun _ _ _ _ h => h) (fun K hK => ?_)
      go_big_quiet_op
      refine hK _ ?_
      clear hK K
      refine pi_c 3 (by assumption) rfl (by kernel_rfl) (by kernel_rfl) (fun _ _ _ _ h => h) (fun K hK => ?_)
      go_big_quiet_op
      refine hK _ ?_
      clear hK K
      refine pi_t 4 rfl (by kernel_rfl) (by kernel_rfl) (fun _ _ _ _ h => h) (fun K hK => ?_)
      go_big_quiet_op
      refine hK _ ?_
      clear hK K
      refine pi_t 5 rfl (by kernel_rfl) (by kernel_rfl) (fun _ _ _ _ h => h) (fun K hK => ?_)
      go_big_quiet_op
      refine hK _ ?_
      clear hK K
      refine pi_c 6 (by assumption) rfl (by kernel_rfl) (by kernel_rfl) (fun _ _ _ _ h => h) (fun K hK => ?_)
      go_big_quiet_op
      refine hK _ ?_
      clear hK K
      refine pi_c 12 (by assumption) rfl (by kernel_rfl) (by kernel_rfl) (fun _ _ _ _ h => h) (fun K hK => ?_)
      go_big_quiet_op
      refine hK _ ?_
      clear hK K
      refine pi_t 13 rfl (by kernel_rfl) (by kernel_rfl) (fun _ _ _ _ h => h) (fun K hK => ?_)
      go_big_quiet_op
      refine hK _ ?_
      clear hK K
      refine pi_t 14 rfl (by kernel_rfl) (by kernel_rfl) (fun _ _ _ _ h => h) (fun K hK => ?_)
      go_big_quiet_op
      refine hK _ ?_
      clear hK K
      refine pi_c 15 (by assumption) rfl (by kernel_rfl) (by kernel_rfl) (fun _ _ _ _ h => h) (fun K hK => ?_)
      go_big_quiet_op
      refine hK _ ?_
      clear hK K
      refine pi_t 17 rfl (by kernel_rfl) (by kernel_rfl) (fun _ _ _ _ h => h) (fun K hK => ?_)
      go_big_quiet_op
      refine hK _ ?_
      clear hK K
      refine pi_c 18 (by assumption) rfl (by kernel_rfl) (by kernel_rfl) (fun _ _ _ _ h => h) (fun K hK => ?_)
      go_big_quiet_op
      refine hK _ ?_
      clear hK K
      refine pi_l 8 rfl (by kernel_rfl) (fun K hK => ?_)
      go_wp2
      refine hK _ _ (fun _ h => af_step h (Ext.alloc' _ _)) ?_
      clear hK K
      have hEa : Ext wr (wr.alloc (.cells #[] 2)).drew := ((Ext.refl wr).allocR _).drewR
      have hra : (wr.alloc (.cells #[] 2)).drew.ownsRow wr.heap.size 2 1 (.slice (some ⟨wr.heap.size, 0, none⟩) 0 0) ([] : List Int).length (ints []) := own_drew (own_empty wr 2)
      generalize (wr.alloc (.cells #[] 2)).drew = WA at *
      refine pi_l 19 rfl (by kernel_rfl) (fun K hK => ?_)
      go_wp2_with (at_builtin; refine wpList_appl WA (rowL l W k) [] _ wr.heap.size 2 hra 43 rfl _ _ rfl info_i64 Tryz.underlying43 (by rfl) (G.r k) 0 W (G.c k) (by rfl) HRL.out.symm (HC.out WA hEa) ?a1 ?a2 ?_)
      case a1 => show 0 + W ≤ _; omega
      case a2 => exact hEa.size
      intro v' wt g1 g2 g3
      have hEt : Ext wr wt := ext_grown0 hEa g2 (fun i hi => own_blk hra hi)
      obtain ⟨z, zc, cur, rfl, hzc, hz, hzh, hzcur⟩ := own_row1 g1 (by show 0 < (rowL l W k).length; rw [HRL.out]; omega)
      rw [HRL.out] at hzc hzcur ⊢
      have HZ := Lib.hid (And.intro hzc (And.intro hz (And.intro hzh hzcur)))
      clear g1 g2 g3 hra hzc hz hzh hzcur
      go_wp2
      refine hK _ _ (fun _ _ => ⟨⟨wt, hEt⟩, rfl⟩) ?_
      clear hK K
      have lmt : G'.m < wt.heap.size := Nat.lt_of_lt_of_le lm' hEt.size
      have fmt := ((bcell hEt).2 _ k lm').trans fm'
      have cmt := ((bcell hEt).1 _ k lm').trans cm'
      refine pi_t 20 rfl (by kernel_rfl) (by kernel_rfl) (fun _ _ _ _ h => h) (fun K hK => ?_)
      go_big_quiet_op
      refine hK _ ?_
      clear hK K
      refine pi_l 21 rfl (by kernel_rfl) (fun K hK => ?_)
      go_wp2
      refine hK _ _ (by simp) ?_
      clear hK K
      refine pi_end (by kernel_rfl) ?_
      go_wp2_with fail
      obtain ⟨q1, q2, q3, q4⟩ := HZ.out
      have hGt := HG.out.ext hEt
      have hnz : ∀ q, q < R → G'.r q ≠ z := fun q hq e => by have := HG.out.ltr hq; omega
      have hnew := hGt.putRow (m' := mixR l R W (k + 1)) hlt q3 q4 q1 hnz (mixR_len _ _ _ _) (fun q j hq hj => by
        rw [mixR_get hq hj, mixR_get hq hj]
        by_cases e : q = k
        · subst e; rw [if_pos (Nat.lt_succ_self _), if_pos rfl, rowL_get hj]
        · rw [if_neg e]
          by_cases e2 : q < k
          · rw [if_pos e2, if_pos (by omega)]
          · rw [if_neg e2, if_neg (by omega)])
      have hms : G'.m ≠ s1 := by
        obtain ⟨cu, a1, _⟩ := HG.out.row
        exact blk_ne a1 HBX.out (by decide)
      have hbf := (setCell_other (w := wt) k (Value.slice (some ⟨z, 0, none⟩) W zc) hms.symm).trans (hEt.keep HBX.out)
      have hEf : Ext w (wt.setCell ⟨G'.m, k, none⟩ (.slice (some ⟨z, 0, none⟩) W zc)) := (hE.trans' hEt).setR (p := ⟨G'.m, k, none⟩) (HF.out _ (.inr (.inl rfl))) _
      have hff : ∀ j, (G'.put k z zc).foot R j → w.heap.size ≤ j := fun j hj => by
        rcases Gr.put_foot hj with h1 | h1
        · exact HF.out j h1
        · omega
      have HNEW := Lib.hid (And.intro hnew (And.intro hff (And.intro hbf hEf)))
      clear hnew hbf hEf hff hms hGt hnz q1 q2 q3 q4
      go_roundw
      case rel => exact ⟨k + 1, G'.put k z zc, by omega, by go_num, HGG.out, HNEW.out.1, HNEW.out.2.1, HNEW.out.2.2.1, HNEW.out.2.2.2⟩
      case measure => simp [intOf]; omega
    · obtain rfl : k = R := by omega
      have hfin : RSAt wr s1 G' C lv k W l := by
        refine ⟨by rw [hgg]; exact hbx, hG.cong HLEN.out (fun r j hr' hj => by rw [mixR_get hr' hj, if_pos hr']), hok, hlo, hhi, HH.out.hr, HH.out.hw, HH.out.fit⟩
      have HFIN := Lib.hid (And.intro hfin hF)
      clear hfin hG hF hbx hr hgg
      go_wp2
      go_ret
      refine ⟨s1, G', rfl, HFIN.out.1, ?_, hE⟩
      rintro j (rfl | hj)
      · exact hs1
      · exact HFIN.out.2 j hj
end Go.Proofs.YtfhdjekpdifajaaGreat
namespace Go.Proofs.YtfhdjekpdifajaaGreat
set_option linter.unusedVariables false
open Go.RowKit
def RGJoinPost (w : World) (G : Gr) (R W : Nat) (ms : List Int) (e : Ending) (w' : World) : Prop :=
  (allI ms ∧ e = .returned (.int .i64 0) ∧ ∃ G' : Gr, G'.g = G.g ∧ RGAt w' G' R W ms ∧ (∀ k, G'.foot R k → k = G.g ∨ w.heap.size ≤ k) ∧ Mod (fun k => k = G.g) w w') ∨ (¬ allI ms ∧ e = .returned (.int .i64 4) ∧ Ext w w')
theorem long_cells {w : World} {b : Nat} {x : Int} (h : LongAt w b (dg x)) : ∀ i, i < 10 → w.cell? ⟨b, i, none⟩ = some (.int .i64 (dg x i)) := by
  intro i hi
  unfold LongAt at h
  rw [cell_of h, fillA_at _ _ _ _ hi, if_pos hi]
theorem long_mk {w : World} {b : Nat} {x : Int} (h : w.heap[b]? = some (.cells #[.int .i64 (dg x 0), .int .i64 (dg x 1), .int .i64 (dg x 2), .int .i64 (dg x 3), .int .i64 (dg x 4), .int .i64 (dg x 5), .int .i64 (dg x 6), .int .i64 (dg x 7), .int .i64 (dg x 8), .int .i64 (dg x 9)] 237 (0, 0))) : LongAt w b (dg x) := by
  unfold LongAt; rw [fill10]; exact h
theorem sum_in {x y : Int} (hx : I64 x) (hy : I64 y) : (-730750818665451459101842416358141509827966271488 ≤ x + y ∧ x + y < 730750818665451459101842416358141509827966271488) ∧ (-730750818665451459101842416358141509827966271488 ≤ x + -y ∧ x + -y < 730750818665451459101842416358141509827966271488) := by unfold I64 at hx hy; omega
/-- The sums of a row. -/
def rowF (f : Nat → Nat → Int) (r j : Nat) : List Int := (List.range j).map (f r)
theorem rowF_len (f : Nat → Nat → Int) (r j : Nat) : (rowF f r j).length = j := by simp [rowF]
theorem rowF_succ (f : Nat → Nat → Int) (r j : Nat) : rowF f r (j + 1) = rowF f r j ++ [f r j] := by unfold rowF; rw [List.range_succ, List.map_append]; rfl
theorem rowF_get {f : Nat → Nat → Int} {r j k : Nat} (h : k < j) : (rowF f r j).getD k 0 = f r k := by simp [rowF, h]
theorem all_rows {R W : Nat} {ms : List Int} {f : Nat → Nat → Int} (hl : ms.length = R * W) (hf : ∀ r k, r < R → k < W → f r k = ms.getD (r * W + k) 0) (h : ∀ r, r < R → ∀ k, k < W → I64 (f r k)) : allI ms := by
  intro x hx
  obtain ⟨i, hi, rfl⟩ := List.getElem_of_mem hx
  have hW : 0 < W := by
    rcases Nat.eq_zero_or_pos W with h0 | h0
    · rw [hl, h0, Nat.mul_zero] at hi; omega
    · exact h0
  have h1 : i / W < R := by rw [Nat.div_lt_iff_lt_mul hW]; omega
  have h2 : i % W < W := Nat.mod_lt _ hW
  have h3 : i / W * W + i % W = i := by rw [Nat.mul_comm]; exact Nat.div_add_mod i W
  have h4 := h _ h1 _ h2
  rw [hf _ _ h1 h2, h3] at h4
  have e : ms.getD i 0 = ms[i] := by simp [hi]
  rw [e] at h4
  exact h4
theorem not_all {R W r k : Nat} {ms : List Int} {f : Nat → Nat → Int} (hl : ms.length = R * W) (hf : ∀ r k, r < R → k < W → f r k = ms.getD (r * W + k) 0) (hr : r < R) (hk : k < W) (h : ¬ I64 (f r k)) : ¬ allI ms := by
  intro ha
  have h1 := row_lt hr hk
  rw [hf _ _ hr hk] at h
  exact h (ha _ (getD_mem (by rw [hl]; exact h1)))
set_option maxRecDepth 20000 in
set_option maxHeartbeats 16000000 in
theorem RGJoinMinus_c (G G2 : Gr) (R W : Nat) (l l2 : List Int) (w : World) (h : RGAt w G R W l) (h2 : RGAt w G2 R W l2) (hI : allI l) (hI2 : allI l2) :
    Calls Tryz.prog 165 #[.pointer (some ⟨G.g, 0, none⟩), .pointer (some ⟨G2.g, 0, none⟩), .int .i64 (-1)] w (RGJoinPost w G R W (minusL l l2)) := by
  have r1 := h.r1
  have r2 := h.r2
  have w1' := h.w1
  have w2' := h.w2
  have HH := Lib.hid h
  have HH2 := Lib.hid h2
  have HIA := Lib.hid hI
  have HIB := Lib.hid hI2
  have hml : (minusL l l2).length = R * W := by rw [minusL_len]; exact h.len
  obtain ⟨f, hf⟩ : ∃ f : Nat → Nat → Int, f = fun r k => (minusL l l2).getD (r * W + k) 0 := ⟨_, rfl⟩
  have hfe : ∀ r k, r < R → k < W → f r k = (minusL l l2).getD (r * W + k) 0 := fun r k _ _ => by rw [hf]
  have hfs : ∀ r k, r < R → k < W → f r k = l.getD (r * W + k) 0 - l2.getD (r * W + k) 0 := fun r k hr hk => by rw [hf]; exact minusL_get (by rw [h.len]; exact row_lt hr hk)
  have HML := Lib.hid hml
  have HFE := Lib.hid hfe
  have HFS := Lib.hid hfs
  clear hml hf hfe hfs h h2 hI hI2
  generalize minusL l l2 = ms at *
  go_enter Tryz.func165, Tryz.ntmps165
  go_wp2_with fail
  go_loopw [7, 8] (fun u7 u8 wr => ∃ (k : Nat) (G' : Gr), k ≤ R ∧ u8 = .int .i64 k ∧ GMade wr w.heap.size G' W k u7 f ∧ Ext w wr ∧ ∀ r, r < k → ∀ j, j < W → I64 (f r j)) (fun _ u8 _ => R - (intOf u8).toNat)
  case atStart => exact ⟨0, G, Nat.zero_le _, rfl, GMade.zero w _ G W f, Ext.refl _, fun r hr => absurd hr (Nat.not_lt_zero _)⟩
  case round =>
    obtain ⟨k, G', hk, rfl, hM, hE, hall⟩ := hrel
    have HM := Lib.hid hM
    have HALL := Lib.hid hall
    have hr := HH.out.ext hE
    obtain ⟨cap, cg, hcap⟩ := hr.cg
    have lg := hr.ltg
    clear hM hall
    by_cases hlt : k < R
    · have hkz : (k : Int) < (R : Int) := by omega
      rename World => wo
      clear hr
      go_upto_region 6 with (fail)
      have hE0 : Ext wo (wo.alloc (.cells #[] 2)) := Ext.alloc' _ _
      have hro : (wo.alloc (.cells #[] 2)).ownsRow wo.heap.size 2 1 (.slice (some ⟨wo.heap.size, 0, none⟩) 0 0) 0 [] := own_empty wo _
      have HRO := Lib.hid hro
      clear cg lg hcap hro
      go_wp2_with fail
      go_loopw [9, 10] (fun u9 u10 wr => ∃ j : Nat, j ≤ W ∧ u10 = .int .i64 j ∧ wr.ownsRow wo.heap.size 2 1 u9 (rowF f k j).length (ints (rowF f k j)) ∧ Ext wo wr ∧ ∀ c, c < j → I64 (f k c)) (fun _ u10 _ => W - (intOf u10).toNat)
      case atStart => exact ⟨0, Nat.zero_le _, rfl, HRO.out, hE0, fun c hc => absurd hc (Nat.not_lt_zero _)⟩
      case round =>
        clear hE0 HRO
        obtain ⟨j, hj, rfl, hown, hEo, hrow⟩ := hrel
        have HOWN := Lib.hid hown
        have HROW := Lib.hid hrow
        have hEw := hE.trans' hEo
        have hr1 := HH.out.ext hEw
        obtain ⟨cap1, cg1, hcap1⟩ := hr1.cg
        have lg1 := hr1.ltg
        have cm1 := hr1.cm hlt
        have lm1 := hr1.ltm
        clear hown hrow
        by_cases hjt : j < W
        · have hjz : (j : Int) < (W : Int) := by omega
          have cr1 := hr1.cr hlt hjt
          have lr1 := hr1.ltr hlt
          have hr2 := HH2.out.ext hEw
          obtain ⟨cap2, cg2, hcap2⟩ := hr2.cg
          have lg2 := hr2.ltg
          have cm2 := hr2.cm hlt
          have lm2 := hr2.ltm
          have cr2 := hr2.cr hlt hjt
          have lr2 := hr2.ltr hlt
          have hix : I64 (l.getD (k * W + j) 0) := getD_i64 HIA.out _
          have hiy : I64 (l2.getD (k * W + j) 0) := getD_i64 HIB.out _
          have hfv := HFS.out k j hlt hjt
          have hc1 := hr1.capc k hlt
          have hc2 := hr2.capc k hlt
          generalize l.getD (k * W + j) 0 = x at *
          generalize l2.getD (k * W + j) 0 = y at *
          have hin := sum_in hix hiy
          have HIN := Lib.hid hin
          have HIX := Lib.hid hix
          have HIY := Lib.hid hiy
          have HFV := Lib.hid hfv
          have HEW := Lib.hid hEw
          have HRR := Lib.hid (And.intro cg1 (And.intro cm1 cr1))
          have hLT := Lib.hid (And.intro lg1 (And.intro lm1 lr1))
          clear hr1 hr2 hin hix hiy hfv hEw
          rename World => wi
          go_wp2_with fail
          refine Calls.mono (OfInt_c y HIY.out _) ?_
          rintro e w1 ⟨rfl, hx1⟩
          unfold longV longA
          go_upto_region 10 with (fail)
          have hb1 : (w1.alloc (.cells #[.int .i64 (dg y 0), .int .i64 (dg y 1), .int .i64 (dg y 2), .int .i64 (dg y 3), .int .i64 (dg y 4), .int .i64 (dg y 5), .int .i64 (dg y 6), .int .i64 (dg y 7), .int .i64 (dg y 8), .int .i64 (dg y 9)] 237)).heap[w1.heap.size]? = some (.cells #[.int .i64 (dg y 0), .int .i64 (dg y 1), .int .i64 (dg y 2), .int .i64 (dg y 3), .int .i64 (dg y 4), .int .i64 (dg y 5), .int .i64 (dg y 6), .int .i64 (dg y 7), .int .i64 (dg y 8), .int .i64 (dg y 9)] 237 (0, 0)) := heap_at _ _ rfl
          have hx2 : Ext wi (w1.alloc (.cells #[.int .i64 (dg y 0), .int .i64 (dg y 1), .int .i64 (dg y 2), .int .i64 (dg y 3), .int .i64 (dg y 4), .int .i64 (dg y 5), .int .i64 (dg y 6), .int .i64 (dg y 7), .int .i64 (dg y 8), .int .i64 (dg y 9)] 237)) := hx1.allocR _
          have hbz := hx1.size
          generalize w1.alloc (.cells #[.int .i64 (dg y 0), .int .i64 (dg y 1), .int .i64 (dg y 2), .int .i64 (dg y 3), .int .i64 (dg y 4), .int .i64 (dg y 5), .int .i64 (dg y 6), .int .i64 (dg y 7), .int .i64 (dg y 8), .int .i64 (dg y 9)] 237) = w2 at *
          generalize w1.heap.size = bx at *
          have HX2 := Lib.hid hx2
          clear hx1 hx2 cg1 cm1 cr1 cg2 cm2 cr2 lg1 lm1 lr1 lg2 lm2 lr2
          have x0 := (cell_of hb1 0).trans rfl
          have x1 := (cell_of hb1 1).trans rfl
          have x2 := (cell_of hb1 2).trans rfl
          have x3 := (cell_of hb1 3).trans rfl
          have x4 := (cell_of hb1 4).trans rfl
          have x5 := (cell_of hb1 5).trans rfl
          have x6 := (cell_of hb1 6).trans rfl
          have x7 := (cell_of hb1 7).trans rfl
          have x8 := (cell_of hb1 8).trans rfl
          have x9 := (cell_of hb1 9).trans rfl
          have lx := lt_of hb1
          go_upto_if 48 with (fail)
          go_cut [] (fun wx => LongAt wx bx (dg (-y)) ∧ Ext wi wx)
          case first =>
            have HB1 := Lib.hid hb1
            clear hb1
            have hMn : ∀ w' : World, Calls Tryz.prog 153 #[.agg #[.int .i64 (dg y 0), .int .i64 (dg y 1), .int .i64 (dg y 2), .int .i64 (dg y 3), .int .i64 (dg y 4), .int .i64 (dg y 5), .int .i64 (dg y 6), .int .i64 (dg y 7), .int .i64 (dg y 8), .int .i64 (dg y 9)]] w' fun e w'' => e = .returned (longV (-y)) ∧ Ext w' w'' := fun w' => LMinus_c y w'
            have HMN := Lib.hid hMn
            clear hMn
            go_wp2_with fail
            refine Calls.mono (HMN.out _) ?_
            rintro e w3 ⟨rfl, hx3⟩
            have hb3 := hx3.keep HB1.out
            have hE3 := HX2.out.trans' hx3
            clear x0 x1 x2 x3 x4 x5 x6 x7 x8 x9 lx
            have z0 := (cell_of hb3 0).trans rfl
            have f0 := frozen_of hb3 0
            have z1 := (cell_of hb3 1).trans rfl
            have f1 := frozen_of hb3 1
            have z2 := (cell_of hb3 2).trans rfl
            have f2 := frozen_of hb3 2
            have z3 := (cell_of hb3 3).trans rfl
            have f3 := frozen_of hb3 3
            have z4 := (cell_of hb3 4).trans rfl
            have f4 := frozen_of hb3 4
            have z5 := (cell_of hb3 5).trans rfl
            have f5 := frozen_of hb3 5
            have z6 := (cell_of hb3 6).trans rfl
            have f6 := frozen_of hb3 6
            have z7 := (cell_of hb3 7).trans rfl
            have f7 := frozen_of hb3 7
            have z8 := (cell_of hb3 8).trans rfl
            have f8 := frozen_of hb3 8
            have z9 := (cell_of hb3 9).trans rfl
            have f9 := frozen_of hb3 9
            have lz := lt_of hb3
            have HB3 := Lib.hid hb3
            clear hb3
            unfold longV longA
            go_wp2_with fail
            refine fin10 (Φ := fun W' => Met _ _ W') HB3.out hE3 hbz (fun W' hW hEW => ?_)
            go_meet
            exact ⟨long_mk hW, hEW⟩
          case rest =>
            obtain ⟨hL, hx4⟩ := hcut
            rename World => w4
            have hLc := long_cells hL
            have x0 := hLc 0 (by decide)
            have x1 := hLc 1 (by decide)
            have x2 := hLc 2 (by decide)
            have x3 := hLc 3 (by decide)
            have x4 := hLc 4 (by decide)
            have x5 := hLc 5 (by decide)
            have x6 := hLc 6 (by decide)
            have x7 := hLc 7 (by decide)
            have x8 := hLc 8 (by decide)
            have x9 := hLc 9 (by decide)
            have lx : bx < w4.heap.size := by unfold LongAt at hL; exact lt_of hL
            have cg1 := ((bcell hx4).1 _ _ hLT.out.1).trans HRR.out.1
            have cm1 := ((bcell hx4).1 _ _ hLT.out.2.1).trans HRR.out.2.1
            have cr1 := ((bcell hx4).1 _ _ hLT.out.2.2).trans HRR.out.2.2
            have lg1 := Nat.lt_of_lt_of_le hLT.out.1 hx4.size
            have lm1 := Nat.lt_of_lt_of_le hLT.out.2.1 hx4.size
            have lr1 := Nat.lt_of_lt_of_le hLT.out.2.2 hx4.size
            have hP : ∀ w' : World, Calls Tryz.prog 151 #[longV x, .agg #[.int .i64 (dg (-y) 0), .int .i64 (dg (-y) 1), .int .i64 (dg (-y) 2), .int .i64 (dg (-y) 3), .int .i64 (dg (-y) 4), .int .i64 (dg (-y) 5), .int .i64 (dg (-y) 6), .int .i64 (dg (-y) 7), .int .i64 (dg (-y) 8), .int .i64 (dg (-y) 9)]] w' fun e w'' => e = .returned (longV (x + -y)) ∧ Ext w' w'' := fun w' => LPlus_c x (-y) w'
            have HP := Lib.hid hP
            have hIn : ∀ w' : World, Calls Tryz.prog 150 #[longV (x + -y)] w' fun e w'' => e = .returned (.tuple #[.int .i64 (fitN (x + -y)), .bool (fitB (x + -y))]) ∧ Ext w' w'' := fun w' => LInt_c _ (by have := HIN.out; first | exact this.1.1 | exact this.2.1) (by have := HIN.out; first | exact this.1.2 | exact this.2.2) w'
            have HINT := Lib.hid hIn
            have hOf : ∀ w' : World, Calls Tryz.prog 152 #[.int .i64 x] w' fun e w'' => e = .returned (longV x) ∧ Ext w' w'' := fun w' => OfInt_c x HIX.out w'
            have HOF := Lib.hid hOf
            have hfv : f k j = x + -y := by have := HFV.out; omega
            have HFV2 := Lib.hid hfv
            clear hL hLc hP hIn hOf hfv
            generalize dg (-y) = dd at *
            generalize longV x = vx at *
            generalize longV (x + -y) = vs at *
            go_wp2_with fail
            refine wp_region_after (by kernel_rfl) (by kernel_rfl) ?_
            repeat (go_big_quiet_step ((first | (go_at_call 152; exact quiet_after (HOF.out _)) | (go_at_call 151; exact quiet_after (HP.out _)) | (go_at_call 150; exact quiet_after (HINT.out _)))))
            refine wpQuiet_nil ?_
            rintro _ ⟨xx, rfl⟩
            obtain ⟨w5, hb5⟩ := xx
            try dsimp only
            have hE5 := hx4.trans' hb5
            have HOWN5 := Lib.hid (own_ext HOWN.out hE5)
            have hEo5 := hEo.trans' hE5
            clear x0 x1 x2 x3 x4 x5 x6 x7 x8 x9 lx cg1 cm1 cr1 lg1 lm1 lr1 HP HINT HOF
            by_cases hfit : I64 (f k j)
            · have hfb : fitB (x + -y) = true := by rw [← HFV2.out]; exact fitB_yes hfit
              have hfn : fitN (x + -y) = f k j := by rw [← HFV2.out]; exact fitN_yes hfit
              rw [hfb, hfn]
              have HFIT := Lib.hid hfit
              have hrs := rowF_succ f k j
              have HRS := Lib.hid hrs
              have hrl := rowF_len f k j
              have HRL := Lib.hid hrl
              have hsz5 := hEo5.size
              clear hfb hfn hfit hrs hrl
              generalize hv : f k j = v at *
              have HV := Lib.hid hv
              clear hv
              go_wp2_with (at_builtin; refine wpList_app1 w5 v (rowF f k j) u9 wo.heap.size 2 HOWN5.out 43 rfl _ _ rfl info_i64 Tryz.underlying43 (by rfl) (by rfl) ?a1 ?a2 ?_)
              case a1 => rw [HRL.out]; omega
              case a2 => exact hsz5
              intro v' w6 g1 g2 _
              have hE6 : Ext wo w6 := ext_grown hEo5 g2 (fun i hi => own_blk HOWN5.out hi)
              have G1 := Lib.hid g1
              clear g1 g2
              go_wp2
              go_roundw
              case rel =>
                refine ⟨j + 1, by omega, by go_num, by rw [HRS.out, List.length_append]; exact G1.out, hE6, fun c hc => ?_⟩
                by_cases e : c = j
                · rw [e, HV.out]; exact HFIT.out
                · exact HROW.out c (by omega)
              case measure => simp [intOf]; omega
            · have hfb : fitB (x + -y) = false := by rw [← HFV2.out]; exact fitB_no hfit
              have hno := not_all HML.out HFE.out hlt hjt hfit
              have HNO := Lib.hid hno
              have hEf := hE.trans' hEo5
              rw [hfb]
              clear hfb hfit hno
              go_wp2
              go_ret
              exact .inr ⟨HNO.out, rfl, hEf⟩
        · obtain rfl : j = W := by omega
          have hrl := rowF_len f k j
          obtain ⟨z, zc, cur, rfl, hzc, hz, hzh, hzcur⟩ := own_row1 HOWN.out (by rw [hrl]; omega)
          rw [hrl] at hzc hzcur ⊢
          obtain ⟨i0, z0, hi0, hz0, hz1, hz2, hz3⟩ := info_row
          have HMX := Lib.hid (HM.out.ext hEo)
          have HC := Lib.hid (And.intro hzc (And.intro hz (And.intro hzh hzcur)))
          have hszo := hE.size
          have hszr := hEo.size
          clear HOWN hrl hzc hz hzh hzcur hr1
          go_wp2_with (at_builtin; refine wpList_appB wr 24 (by decide) (.slice (some ⟨z, 0, none⟩) j zc) rfl ((List.range k).map (G'.row j)) u7 w.heap.size 43 HMX.out.row 159 rfl _ _ rfl i0 z0 hi0 hz0 hz1 hz2 hz3 Tryz.underlying159 (by rfl) (by rfl) ?b1 ?b2 ?_)
          case b1 => rw [List.length_map, List.length_range]; omega
          case b2 => omega
          intro v' w' g1 g2
          obtain ⟨q1, q2, q3, q4⟩ := HC.out
          have hnext := HMX.out.next q3 (fun i hi => by rw [q4 i hi, rowF_get hi]) q1 (fun r hr => HM.out.lt hr) (by omega) q2 (by rw [List.length_append, List.length_map, List.length_range]; exact g1) g2
          have hEf : Ext w w' := ext_grown (hE.trans' hEo) g2 (fun i hi => own_blk HMX.out.row hi)
          have HN := Lib.hid hnext
          clear hnext g1 g2
          go_wp2
          go_roundw
          case rel =>
            refine ⟨k + 1, _, by omega, by go_num, HN.out, hEf, fun r hr c hc => ?_⟩
            by_cases e : r = k
            · rw [e]; exact HROW.out c hc
            · exact HALL.out r (by omega) c hc
          case measure => simp [intOf]; omega
    · obtain rfl : k = R := by omega
      obtain ⟨pv, nv, cv, rfl⟩ := own_slice HM.out.row
      obtain ⟨cap3, hex, hcap3⟩ := hr.ex
      have fz := frozen_of hex 0
      have HEX := Lib.hid hex
      have hall := all_rows HML.out HFE.out (fun r hr j hj => HALL.out r hr j hj)
      have HA := Lib.hid hall
      have hgl := HH.out.ltg
      clear hr hex hall
      go_wp2
      go_ret
      have hb := (setCell_same HEX.out 0 (.slice pv nv cv)).trans rfl
      obtain ⟨m, hm, hG⟩ := (HM.out.setc hgl 0 (.slice pv nv cv)).grid (g := G.g) hb HML.out HFE.out r1 r2 w1' w2'
      refine .inl ⟨HA.out, rfl, ⟨G.g, m, G'.r, G'.c⟩, rfl, hG, ?_, (hE.mod _).trans (mod_set _ _ _ _)⟩
      rintro i (rfl | rfl | ⟨r, hr, rfl⟩)
      · exact .inl rfl
      · exact .inr hm
      · exact .inr (HM.out.new r hr)
end Go.Proofs.YtfhdjekpdifajaaGreat
