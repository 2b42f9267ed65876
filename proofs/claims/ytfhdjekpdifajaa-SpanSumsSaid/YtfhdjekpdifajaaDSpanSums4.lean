/- Part. No condition. -/
import Derived.Test.YtfhdjekpdifajaaDSpanSums1
import Derived.Test.YtfhdjekpdifajaaDSpanSums3
import Derived.Test.YtfhdjekpdifajaaDSpanSums2
import Derived.WalkMore
namespace Go.Proofs.Ytfhdjekpdifajaa
set_option linter.unusedVariables false
open Go.RowKit
section
variable {P : Program}
end
theorem own_blk {w : World} {base n size : Nat} {e : TypeId} {v : Value} {xs : List Value} (h : w.ownsRow base e size v n xs) {k : Nat} (hk : v.ownBlock = some k) : base ≤ k := by
  rcases h.2 with ⟨rfl, _⟩ | ⟨g, cap, cur, rfl, hg, _⟩
  · cases hk
  · cases hk; exact hg
theorem ext_grown0 {w wr w1 : World} {row : Option Nat} (he : Ext w wr) (h : wr.grownBy w1 row) (hr : ∀ k, row = some k → w.heap.size ≤ k) : Ext w w1 := he.grown h he.size hr
end Go.Proofs.Ytfhdjekpdifajaa
namespace Go.Proofs.Ytfhdjekpdifajaa
set_option linter.unusedVariables false
open Go.RowKit
theorem own_setc {w : World} {base n size : Nat} {e : TypeId} {v : Value} {xs : List Value} (h : w.ownsRow base e size v n xs) {b : Nat} (hb : b < base) (o : Nat) (u : Value) : (w.setCell ⟨b, o, none⟩ u).ownsRow base e size v n xs := by
  refine ⟨h.1, ?_⟩
  rcases h.2 with h' | ⟨g, cap, cur, hv, hg, hh, hr⟩
  · exact .inl h'
  · exact .inr ⟨g, cap, cur, hv, hg, (setCell_other _ _ (by omega)).trans hh, hr⟩
theorem own_sl {w : World} {base n size : Nat} {e : TypeId} {v : Value} {xs : List Value} (h : w.ownsRow base e size v n xs) : ∃ p c, v = .slice p n c := by
  rcases h.2 with ⟨rfl, rfl⟩ | ⟨g, cap, cur, rfl, _⟩
  · exact ⟨none, 0, rfl⟩
  · exact ⟨_, _, rfl⟩
theorem own_ext {w w' : World} {base n size : Nat} {e : TypeId} {v : Value} {xs : List Value} (h : w.ownsRow base e size v n xs) (hE : Ext w w') : w'.ownsRow base e size v n xs := by
  refine ⟨h.1, ?_⟩
  rcases h.2 with h' | ⟨g, cap, cur, hv, hg, hh, hr⟩
  · exact .inl h'
  · exact .inr ⟨g, cap, cur, hv, hg, hE.keep hh, hr⟩
/-- A world in which what W has is as it was, but for the blocks in S. -/
structure AftS (S : Nat → Prop) (W : World) where
  w : World
  h : Mod S W w
instance (S : Nat → Prop) (W : World) : Nonempty (AftS S W) := ⟨⟨W, Mod.refl _ W⟩⟩
@[go_sem] theorem AftS.cell {S : Nat → Prop} {W : World} (x : AftS S W) {b o : Nat} (h : b < W.heap.size) (hn : ¬ S b) : x.w.cell? ⟨b, o, none⟩ = W.cell? ⟨b, o, none⟩ := mcell x.h h hn o
theorem afs_drew (S : Nat → Prop) (W : World) : ∃ x : AftS S W, W.drew = x.w := ⟨⟨_, Ext.mod _ (Below.drew (Ext.refl W))⟩, rfl⟩
theorem afs_step {S : Nat → Prop} {W w w' : World} (h : ∃ x : AftS S W, w = x.w) (he : Ext w w') : ∃ x : AftS S W, w' = x.w := by
  obtain ⟨x, rfl⟩ := h
  exact ⟨⟨w', x.h.trans (he.mod _)⟩, rfl⟩
theorem mod_grown {S : Nat → Prop} {W w w' : World} {o : Obj} {row : Option Nat} (h : Mod S W w) (hg : (w.alloc o).grownBy w' row) (hr : ∀ i, row = some i → S i) : Mod S W w' := by
  refine ⟨hg.os.trans h.os, hg.tape.trans h.tape, hg.output.trans h.output, Nat.le_trans h.size (Nat.le_trans (by rw [size_alloc]; exact Nat.le_succ _) hg.size), fun k hk hn => ?_⟩
  exact (grown_old hg (Nat.lt_of_lt_of_le hk h.size) (fun e => hn (hr k e.symm))).trans (h.block k hk hn)
end Go.Proofs.Ytfhdjekpdifajaa
namespace Go.Proofs.Ytfhdjekpdifajaa
set_option linter.unusedVariables false
open Go.RowKit
section
variable {P : Program}
/-- 's = append(s, x)', x of one cell, s a row of the call's own. -/
theorem wpList_appv (W : World) {ops : Array Oper} {rest : List Oper} {o : Oper} {a : Act} {Q : Exit → Act → World → Prop} (x : Value) (hx1 : x.oneCell' = true) (xs : List Value) (v : Value) (base : Nat) (e : TypeId) (hown : W.ownsRow base e 1 v xs.length xs) (t : TypeId)
    (hgd : o.guard = none) (s y : Operand) (ho : o.op = .call { callee := .builtin .append, args := #[s, y], argTypes := #[t, t] })
    (i0 : TypeInfo) (z0 : Value) (hi : P.info? e = some i0) (hz0 : i0.zero = some z0) (hz1 : i0.size = 1) (hz2 : i0.bytes = 16) (hz3 : z0.cells.size = 1) (ht : P.underlying t = some (.slice e))
    (hs : a.eval s = v) (hx : a.eval y = .slice (some ⟨W.heap.size, 0, none⟩) 1 1)
    (hl : xs.length ≤ 1000000) (hbase : base ≤ W.heap.size)
    (h : ∀ v' w', w'.ownsRow base e 1 v' (xs ++ [x]).length (xs ++ [x]) → (W.alloc (.cells #[x] e)).grownBy w' v.ownBlock → wpList P ops Q rest (a.put o.dst v') w') :
    wpList P ops Q (o :: rest) a (W.alloc (.cells #[x] e)) := by
  refine wpList_append_sep _ hgd s y t ho base e i0 z0 1 16 ht hi hz0 hz1 hz2 hz3 (by decide) v xs.length xs hs (hown.alloc _) ⟨W.heap.size, 0, none⟩ 1 1 [x] hx rfl ?_ ?_ (by unfold maxLen; omega) (by omega) (by rw [size_alloc]; omega) ?_
  · intro j u hu
    have hj : j = 0 := by
      have := (List.getElem?_eq_some_iff.1 hu).1
      simp at this; exact this
    subst hj
    rw [show (⟨W.heap.size, 0, none⟩ : Addr).add 0 = ⟨W.heap.size, 0, none⟩ by simp [Addr.add], cell_of (heap_at W _ rfl) 0]
    exact hu
  · intro u hu
    simp at hu
    subst hu
    exact hx1
  · intro v' w' h1 h2 h3
    refine h v' w' ?_ h2
    rw [List.length_append]
    exact h1
end
theorem own_type {w : World} {base n size : Nat} {e : TypeId} {v : Value} {xs : List Value} (h : w.ownsRow base e size v n xs) {k : Nat} (hk : v.ownBlock = some k) : ∃ cur, w.heap[k]? = some (.cells cur e (0, 0)) := by
  rcases h.2 with ⟨rfl, _⟩ | ⟨g, cap, cur, rfl, _, hg, _⟩
  · cases hk
  · cases hk; exact ⟨cur, hg⟩
theorem info_lev : ∃ i z, Try.prog.info? 73 = some i ∧ i.zero = some z ∧ i.size = 1 ∧ i.bytes = 16 ∧ z.cells.size = 1 := by
  have h : (Try.prog.info? 73).map (fun i => (i.zero, i.size, i.bytes)) = some (some .nilIface, 1, 16) := by kernel_rfl
  match hi : Try.prog.info? 73, h with
  | some i, h =>
    simp only [Option.map_some, Option.some.injEq, Prod.mk.injEq] at h
    exact ⟨i, .nilIface, rfl, h.1, h.2.1, h.2.2, rfl⟩
def lvVs (C : Cfg) (L : Nat → Lev) (n : Nat) : List Value := (List.range n).map fun (i : Nat) => lvV C i (L i)
theorem lvVs_len (C : Cfg) (L : Nat → Lev) (n : Nat) : (lvVs C L n).length = n := by simp [lvVs]
theorem lvVs_succ (C : Cfg) (L : Nat → Lev) (n : Nat) : lvVs C L (n + 1) = lvVs C L n ++ [lvV C n (L n)] := by
  unfold lvVs; rw [List.range_succ, List.map_append]; rfl
theorem lvVs_cong (C : Cfg) {L L' : Nat → Lev} {n : Nat} (h : ∀ i, i < n → L i = L' i) : lvVs C L n = lvVs C L' n := by
  unfold lvVs
  apply List.map_congr_left
  intro i hi
  rw [List.mem_range] at hi
  rw [h i hi]
theorem lvVs_get (C : Cfg) (L : Nat → Lev) {n i : Nat} (h : i < n) : (lvVs C L n)[i]? = some (lvV C i (L i)) := by
  unfold lvVs; rw [List.getElem?_map, List.getElem?_range h]; rfl
/-- A row of levels' block is no level's. -/
theorem LvAt.norow {w : World} {L : Lev} {C : Cfg} {lv : Int} {l : List Int} (h : LvAt w L C lv l) {k : Nat} {cur : Array Value} (hk : w.heap[k]? = some (.cells cur 73 (0, 0))) : k ≠ L.s ∧ k ≠ L.b ∧ k ≠ L.c := by
  refine ⟨?_, ?_, ?_⟩
  · rcases h with ⟨_, h⟩ | ⟨_, h⟩ <;> exact blk_ne hk h.ex (by decide)
  · rcases h with ⟨_, h⟩ | ⟨_, h⟩ <;> (obtain ⟨cap, h1, _⟩ := h.g.ex; exact blk_ne hk h1 (by decide))
  · obtain ⟨cur', h1⟩ := h.isc
    exact blk_ne hk h1 (by decide)
theorem LvAt.grown {w w' : World} {o : Obj} {row : Option Nat} {L : Lev} {C : Cfg} {lv : Int} {l : List Int} (h : LvAt w L C lv l) (hg : (w.alloc o).grownBy w' row) (hr : ∀ i, row = some i → ∃ cur, w.heap[i]? = some (.cells cur 73 (0, 0))) : LvAt w' L C lv l := by
  have key : ∀ k, k < w.heap.size → (∀ i, row = some i → i ≠ k) → w'.heap[k]? = w.heap[k]? := fun k hk hn => grown_old hg hk (fun e => hn k e.symm rfl)
  refine h.keep (key _ h.lts fun i hi => ?_) (key _ h.ltb fun i hi => ?_) (key _ h.ltc fun i hi => ?_)
  all_goals
    obtain ⟨cur, hc⟩ := hr i hi
    have := h.norow hc
  · exact this.1
  · exact this.2.1
  · exact this.2.2
/-- Some levels that have been made. -/
structure Made (w : World) (B0 : Nat) (C : Cfg) (k : Nat) (L : Nat → Lev) (ls : Nat → List Int) (v : Value) : Prop where
  row : w.ownsRow B0 73 1 v (lvVs C L k).length (lvVs C L k)
  lev : ∀ n, n < k → LvAt w (L n) C n (ls n)
  new : ∀ n, n < k → B0 ≤ (L n).s ∧ B0 ≤ (L n).b ∧ B0 ≤ (L n).c
  sep : ∀ m n, m < k → n < k → m ≠ n → (L m).c ≠ (L n).c
theorem Made.ext {w w' : World} {B0 k : Nat} {C : Cfg} {L : Nat → Lev} {ls : Nat → List Int} {v : Value} (h : Made w B0 C k L ls v) (he : Ext w w') : Made w' B0 C k L ls v :=
  ⟨own_ext h.row he, fun n hn => (h.lev n hn).ext he, h.new, h.sep⟩
/-- One more. -/
theorem Made.next {w w' : World} {B0 k : Nat} {C : Cfg} {L : Nat → Lev} {ls : Nat → List Int} {v v' : Value} {M : Lev} {l : List Int} {o : Obj} {N : Nat} (h : Made w B0 C k L ls v) (hM : LvAt w M C k l) (hN : ∀ n, n < k → (L n).c < N) (hB : B0 ≤ N) (h1 : N ≤ M.s) (h2 : N ≤ M.b) (h3 : N ≤ M.c)
    (hl : l = ls k) (hown : w'.ownsRow B0 73 1 v' (lvVs C L k ++ [lvV C k M]).length (lvVs C L k ++ [lvV C k M])) (hg : (w.alloc o).grownBy w' v.ownBlock) : Made w' B0 C (k + 1) (fun n => if n = k then M else L n) ls v' := by
  subst hl
  have hr : ∀ i, v.ownBlock = some i → ∃ cur, w.heap[i]? = some (.cells cur 73 (0, 0)) := fun i hi => own_type h.row hi
  refine ⟨?_, fun n hn => ?_, fun n hn => ?_, fun m n hm hn hmn => ?_⟩
  · rw [lvVs_succ, if_pos rfl, lvVs_cong C (L' := L) (fun i hi => if_neg (by omega))]
    exact hown
  · by_cases e : n = k
    · subst e; rw [if_pos rfl]; exact hM.grown hg hr
    · rw [if_neg e]; exact (h.lev n (by omega)).grown hg hr
  · by_cases e : n = k
    · rw [if_pos e]; exact ⟨by omega, by omega, by omega⟩
    · rw [if_neg e]; exact h.new n (by omega)
  · by_cases e : m = k
    · subst e
      rw [if_pos rfl, if_neg (by omega)]
      have := hN n (by omega)
      omega
    · rw [if_neg e]
      by_cases e' : n = k
      · subst e'
        rw [if_pos rfl]
        have := hN m (by omega)
        omega
      · rw [if_neg e']; exact h.sep m n (by omega) (by omega) hmn
theorem Made.ltN {w : World} {B0 k : Nat} {C : Cfg} {L : Nat → Lev} {ls : Nat → List Int} {v : Value} (h : Made w B0 C k L ls v) (n : Nat) (hn : n < k) : (L n).c < w.heap.size := (h.lev n hn).ltc
/-- All levels, and the stack's own block: a stack. -/
theorem Made.stack {w : World} {s B0 B : Nat} {C : Cfg} {L : Nat → Lev} {ls : Nat → List Int} {v : Value} (h : Made w B0 C (B + 1) L ls v) (hok : C.Ok) (hB : C.bits = B) (hs : w.heap[s]? = some (.cells #[.int .i64 C.bits, .int .i64 C.rows, .int .i64 C.width, .int .i64 C.mode, .int .u64 C.seed, v] 71 (0, 0))) :
    ∃ g, B0 ≤ g ∧ KAt w s g C B L ls := by
  have hl := lvVs_len C L (B + 1)
  rcases h.row.2 with ⟨_, h0⟩ | ⟨g, cap, cur, rfl, hbg, hg, hnc, hcm, hcs, htake⟩
  · rw [hl] at h0; omega
  · rw [hl] at hs hnc
    refine ⟨g, hbg, ⟨⟨cap, hs, hnc⟩, ⟨cur, hg, fun n hn => ?_⟩, fun n hn => h.lev n (by omega), fun m n hm hn => h.sep m n (by omega) (by omega), hok, hB⟩⟩
    have h1 := h.row.cells (g := g) rfl n _ (lvVs_get C L (show n < B + 1 by omega))
    rw [show ((⟨g, 0, none⟩ : Addr).add n) = ⟨g, n, none⟩ by (simp [Addr.add]; intro e; exact e.symm), cell_of hg] at h1
    exact h1
theorem Made.setc {w : World} {B0 k : Nat} {C : Cfg} {L : Nat → Lev} {ls : Nat → List Int} {v : Value} (h : Made w B0 C k L ls v) {b : Nat} (hb : b < B0) (o : Nat) (u : Value) : Made (w.setCell ⟨b, o, none⟩ u) B0 C k L ls v :=
  ⟨own_setc h.row hb o u, fun n hn => (h.lev n hn).keep (setCell_other _ _ (by have := h.new n hn; omega)) (setCell_other _ _ (by have := h.new n hn; omega)) (setCell_other _ _ (by have := h.new n hn; omega)), h.new, h.sep⟩
def KNewPost (w : World) (C : Cfg) (e : Ending) (w' : World) : Prop :=
  ∃ (s g : Nat) (L : Nat → Lev), e = .returned (.tuple #[.pointer (some ⟨s, 0, none⟩), .int .i64 0]) ∧ KAt w' s g C C.bits.toNat L (fun n => zs (lvN C n)) ∧ w.heap.size ≤ s ∧ w.heap.size ≤ g ∧ (∀ n, n ≤ C.bits.toNat → w.heap.size ≤ (L n).s ∧ w.heap.size ≤ (L n).b ∧ w.heap.size ≤ (L n).c) ∧ Ext w w'
set_option maxRecDepth 20000 in
set_option maxHeartbeats 4000000 in
theorem KNew_c (C : Cfg) (h : C.Ok) (w : World) :
    Calls Try.prog 10 #[.agg #[.int .i64 C.bits, .int .i64 C.rows, .int .i64 C.width, .int .i64 C.mode, .int .u64 C.seed]] w (KNewPost w C) := by
  have hb1 := h.b1
  have hb2 := h.b2
  obtain ⟨B, hB⟩ : ∃ B : Nat, C.bits = B := ⟨C.bits.toNat, by omega⟩
  have hBt : C.bits.toNat = B := by omega
  unfold KNewPost
  rw [hBt]
  have HB := Lib.hid hB
  have HBT := Lib.hid hBt
  clear hB hBt
  go_enter Try.func10, Try.ntmps10
  go_wp2_with fail
  refine (Right_c C h _).mono ?_
  rintro e w1 ⟨rfl, hx1⟩
  have hE1 : Ext w w1 := (Ext.alloc' w _).trans' hx1
  have hcb := hx1.keep (heap_at w (.cells #[.int .i64 C.bits, .int .i64 C.rows, .int .i64 C.width, .int .i64 C.mode, .int .u64 C.seed] 24) rfl)
  have hC1 := CfgAt.of hcb
  have c0 := hC1.c0
  have c1 := hC1.c1
  have c2 := hC1.c2
  have c3 := hC1.c3
  have c4 := hC1.c4
  have cl := hC1.lt
  have hs1 := hE1.size
  have hbits : C.bits + 1 = (B : Int) + 1 := by rw [HB.out]
  go_wp2
  go_loopw [5, 18] (fun u5 u18 wr => ∃ (k : Nat) (L : Nat → Lev), k ≤ B + 1 ∧ u18 = .int .i64 k ∧ Ext w wr ∧ wr.heap[w.heap.size]? = some (.cells #[.int .i64 C.bits, .int .i64 C.rows, .int .i64 C.width, .int .i64 C.mode, .int .u64 C.seed] 24 (0, 0)) ∧
      wr.heap[w1.heap.size]? = some (.cells #[.int .i64 C.bits, .int .i64 C.rows, .int .i64 C.width, .int .i64 C.mode, .int .u64 C.seed, .slice none 0 0] 71 (0, 0)) ∧
      Made wr (w1.heap.size + 1) C k L (fun n => zs (lvN C n)) u5) (fun _ u18 _ => B + 1 - (intOf u18).toNat)
  case atStart =>
    refine ⟨0, fun _ => ⟨0, 0, 0⟩, Nat.zero_le _, rfl, hE1.allocR _, by rw [heap_old _ _ (by omega)]; exact hcb, heap_at _ _ rfl, ⟨⟨rfl, .inl ⟨rfl, rfl⟩⟩, ?_, ?_, ?_⟩⟩ <;> (intros; omega)
  case round =>
    obtain ⟨k, L, hk, rfl, hE, hcr, hbox, hM⟩ := hrel
    have hC := CfgAt.of hcr
    have d0 := hC.c0
    have d1 := hC.c1
    have d2 := hC.c2
    have d3 := hC.c3
    have d4 := hC.c4
    have dl := hC.lt
    have hbl := lt_of hbox
    have HC := Lib.hid hcr
    have HBX := Lib.hid hbox
    have HM := Lib.hid hM
    clear hC hcr hbox hM
    by_cases hlt : k < B + 1
    · go_wp2_with fail
      refine (LNew_c C h k (by omega) (by have := HB.out; omega) _).mono ?_
      rintro e w2 ⟨M, rfl, hL, n1, n2, n3, hx2⟩
      have hown := own_ext HM.out.row hx2
      have hszz := hx2.size
      obtain ⟨T, hT⟩ : ∃ T, lvV C k M = .iface T (.pointer (some ⟨M.s, 0, none⟩)) := ⟨lvT C k, rfl⟩
      rw [hT]
      have HT := Lib.hid hT
      clear hT
      have hll := lvVs_len C L k
      obtain ⟨i0, z0, hi0, hz0, hz1, hz2, hz3⟩ := info_lev
      go_wp2_with (at_builtin; refine wpList_appv w2 (.iface T (.pointer (some ⟨M.s, 0, none⟩))) rfl (lvVs C L k) u5 (w1.heap.size + 1) 73 hown 69 rfl _ _ rfl i0 z0 hi0 hz0 hz1 hz2 hz3 Try.underlying69 rfl rfl ?a1 ?a2 ?_)
      case a1 => omega
      case a2 => omega
      intro v' w' hown' hgr
      have hmade := HM.out.ext hx2
      have hnext := hmade.next (N := wr.heap.size) (ls := fun n => zs (lvN C n)) hL (fun n hn => HM.out.ltN n hn) (by omega) n1 n2 n3 rfl (by rw [HT.out, List.length_append, hll]; exact hown') hgr
      have hge : ∀ i, u5.ownBlock = some i → w1.heap.size + 1 ≤ i := fun i hi => own_blk hown hi
      have hex : Ext w w' := ext_grown (hE.trans' hx2) hgr (fun i hi => by have := hge i hi; omega)
      have hCx := (grown_old hgr (show w.heap.size < w2.heap.size by omega) (fun e => by have := hge _ e.symm; omega)).trans (hx2.keep HC.out)
      have hbx := (grown_old hgr (show w1.heap.size < w2.heap.size by omega) (fun e => by have := hge _ e.symm; omega)).trans (hx2.keep HBX.out)
      go_wp2
      go_roundw
      case rel => exact ⟨k + 1, _, by omega, by go_num, hex, hCx, hbx, hnext⟩
      case measure => simp [intOf]; omega
    · obtain rfl : k = B + 1 := by omega
      obtain ⟨p5, k5, c5, rfl⟩ := own_slice HM.out.row
      have hfz := frozen_of HBX.out 5
      have hbc := (cell_of HBX.out 5).trans rfl
      go_wp2
      go_ret2
      have hm := HM.out.setc (show w1.heap.size < w1.heap.size + 1 by omega) 5 (.slice p5 k5 c5)
      obtain ⟨g, hg, hK⟩ := hm.stack h HB.out ((setCell_same HBX.out 5 (.slice p5 k5 c5)).trans rfl)
      refine ⟨w1.heap.size, g, L, rfl, hK, hs1, by omega, fun n hn => ?_, hE.setR (p := ⟨w1.heap.size, 5, none⟩) hs1 _⟩
      have := HM.out.new n (by omega)
      omega
end Go.Proofs.Ytfhdjekpdifajaa
namespace Go.Proofs.Ytfhdjekpdifajaa
set_option linter.unusedVariables false
open Go.RowKit
attribute [local go_sem] Oper.semAt_some
def KUpdPost (w : World) (s g : Nat) (C : Cfg) (B : Nat) (L : Nat → Lev) (ls : Nat → List Int) (key d : Int) (e : Ending) (w' : World) : Prop :=
  e = .returned (.int .i64 (errK C B ls key d)) ∧ KAt w' s g C B L (bif decide (errK C B ls key d = 0) then updK C ls key d else ls) ∧ Mod (cellsOf B L) w w'
set_option maxRecDepth 100000 in
set_option maxHeartbeats 4000000 in
theorem KUpdate_c (s g : Nat) (C : Cfg) (B : Nat) (L : Nat → Lev) (ls : Nat → List Int) (key d : Int) (w : World) (h : KAt w s g C B L ls) (hd : I64 d) (hk : U64 key) :
    Calls Try.prog 11 #[.pointer (some ⟨s, 0, none⟩), .int .u64 key, .int .i64 d] w (KUpdPost w s g C B L ls key d) := by
  have hok := h.ok
  have hlt := h.lts
  have hltg := h.ltg
  obtain ⟨cap, hex, hcap⟩ := h.ex
  have c0 := (cell_of hex 0).trans rfl
  have c1 := (cell_of hex 1).trans rfl
  have c2 := (cell_of hex 2).trans rfl
  have c3 := (cell_of hex 3).trans rfl
  have c4 := (cell_of hex 4).trans rfl
  have hb2 : C.bits ≤ 59 := hok.b2
  have hb1 : 1 ≤ C.bits := hok.b1
  have HE := Lib.hid hex
  have HH := Lib.hid h
  clear h hex
  refine (callsIn_wide (n := 5)).1 ?_
  refine callsIn_of_wp_marks Try.func11 rfl trivial ?_ rfl
  simp only [Try.ntmps11, List.size_toArray, List.length_cons, List.length_nil, Nat.reduceAdd, Nat.reduceSub, Array.replicate_succ, Array.replicate_zero, List.push_toArray, List.append_toArray, List.nil_append, List.cons_append]
  gi_wp2_with fail
  refine ⟨trivial, (callsIn_wide.2 (Keys_c C hok 0 (Int.le_refl 0) (by omega) _)).mono ?_⟩
  rintro e w1 ⟨rfl, hx1⟩
  have hE1 : Ext w w1 := (Ext.alloc' w _).trans' hx1
  have h1 := HH.out.ext hE1
  have db := hx1.keep (heap_at w (.cells #[.int .i64 d] 2) rfl)
  have hls := h1.lts
  by_cases hkey : keys C 0 ≤ key
  · have e1 : errK C B ls key d = 2 := by unfold errK; rw [decide_eq_true hkey]; rfl
    have hge : decide (keys C 0 ≤ key) = true := decide_eq_true hkey
    gi_wp2
    exact ⟨_, results_tmp rfl _ _ _, by rw [e1]; rfl, by rw [e1]; exact h1, hE1.mod _⟩
  · have hge : decide (keys C 0 ≤ key) = false := decide_eq_false hkey
    gi_wp2_with fail
    refine ⟨trivial, (callsIn_wide.2 (Kat_c s key _)).mono ?_⟩
    rintro e w2 ⟨rfl, rfl⟩
    gi_wp2
    obtain ⟨W0, hW0⟩ : ∃ W0, ((w1.alloc (.cells #[.int .i64 0] 36)).alloc (.cells #[.pointer (some ⟨s, 0, none⟩)] 29)).alloc (.cells #[.int .u64 key] 22) = W0 := ⟨_, rfl⟩
    have hsz : W0.heap.size = w1.heap.size + 3 := by rw [← hW0]; simp
    have hEW : Ext w1 W0 := by rw [← hW0]; exact ((Ext.alloc' _ _).allocR _).allocR _
    have hb0 : W0.heap[w1.heap.size]? = some (.cells #[.int .i64 0] 36 (0, 0)) := by rw [← hW0, heap_old _ _ (by simp; omega), heap_old _ _ (by simp)]; exact heap_at _ _ rfl
    have hb1' : W0.heap[w1.heap.size + 1]? = some (.cells #[.pointer (some ⟨s, 0, none⟩)] 29 (0, 0)) := by rw [← hW0, heap_old _ _ (by simp)]; exact heap_at _ _ (size_alloc _ _).symm
    have hb2' : W0.heap[w1.heap.size + 2]? = some (.cells #[.int .u64 key] 22 (0, 0)) := by rw [← hW0]; exact heap_at _ _ (by simp)
    rw [hW0]
    have h2 := h1.ext hEW
    obtain ⟨cap2, hex2, hcap2⟩ := h2.ex
    have H2 := Lib.hid h2
    have hBd : B ≤ 59 := by have := hok.b2; have := h2.hB; omega
    refine wpIn_rangeFunc_ownF rfl (by decide) (gf := 46) (lb := #[.pointer (some ⟨w1.heap.size + 1, 0, none⟩), .pointer (some ⟨w1.heap.size + 1 + 1, 0, none⟩)]) rfl trivial (enters_of Try.func46 (by kernel_rfl) rfl)
      (kat1_stops 4 (w1.heap.size + 1) (w1.heap.size + 2) W0.heap.size s g cap2 (fun k => k = w1.heap.size) C L B key hk hBd (by omega) (by omega) h2.lts h2.ltg (by omega) (by omega) (by omega) (by have := h1.ltg; omega) W0 (Nat.le_refl _)
        ((cell_of hb1' 0).trans rfl) ((cell_of hb2' 0).trans rfl) ((cell_of hex2 5).trans rfl) (fun n hn => h2.cell hn)) KpS.t (fun W l o o' hl ho hc hw => KpS.b (Nat.le_refl _) W l o o' hl ho hc hw) (Below.refl _ _) (fun _ => rfl)
      (fun pre W => W.heap[w1.heap.size]? = some (.cells #[.int .i64 (errF C ls key d (vals pre))] 36 (0, 0)) ∧ Mod (fun k => k = w1.heap.size) W0 W)
      (fun _ _ _ => False)
      (OwnFrom.and (ownFrom_box (by omega) _) (ownFrom_mod (Nat.le_refl _)))
      (fun _ _ _ _ _ hs _ _ => hs)
      ⟨hb0, Mod.refl _ _⟩
      (fun x => { tmps := #[.pointer (some ⟨s, 0, none⟩), .int .u64 key, .int .i64 d, undef, undef, .pointer (some ⟨w.heap.size, 0, none⟩), .int .i64 0, .pointer (some ⟨w1.heap.size, 0, none⟩), lvV C x.1 (L x.1), .int .u64 (sh x.1 key), undef, undef, .int .u64 key, .pointer (some ⟨s, 0, none⟩), .pointer (some ⟨s, 0, none⟩), .pointer (some ⟨s, 0, none⟩), .agg #[.int .i64 C.bits, .int .i64 C.rows, .int .i64 C.width, .int .i64 C.mode, .int .u64 C.seed], .int .u64 (keys C 0), .bool false, .pointer (some ⟨s, 0, none⟩), .int .u64 key, .func (.func 46) #[] #[.pointer (some ⟨w1.heap.size + 1, 0, none⟩), .pointer (some ⟨w1.heap.size + 1 + 1, 0, none⟩)], lvV C x.1 (L x.1), .int .u64 (sh x.1 key), undef, undef, undef, undef, undef, undef, undef, undef, undef, undef, undef, undef, undef, undef, undef, undef, undef, undef, undef], defers := [] }) ?assign ?body ?done ?stop
    case assign =>
      intro l x W K hK
      dsimp only [lvEnc]
      gi_wp2
      exact hK
    case body =>
      rintro l pre x W ⟨hbad, hM0⟩ hlen
      have hM := mod_new hEW hM0 (Nat.le_refl _)
      have hxn := x.2
      have h3 := h1.keepN h1.low (fun k hk _ => hM.block k hk (fun h => h))
      have hLx := h3.lev x.1 x.2
      have hbc := (cell_of hbad 0).trans rfl
      have hdW := hM.keep db (fun h => h)
      have hdc := (cell_of hdW 0).trans rfl
      have hbl := lt_of hbad
      have hdl := lt_of hdW
      have hkx := sh_u64 hk x.1
      gi_wp2
      cases hx : isX C x.1 with
      | true =>
        have hA := (hLx.x hx).ext (Below.drew (Ext.refl W))
        have HX := Lib.hid hx
        rw [lvV_x hx]
        clear hx
        refine pi_startR (fun w' => ∃ x : After W, w' = x.w) [7] (by kernel_rfl) (fun ⟨_, _, hh⟩ => hh) (by kernel_rfl) ?_
        have hC0 := af_drew W
        refine pi_c 0 (by assumption) rfl (by kernel_rfl) (by kernel_rfl) (fun _ _ _ _ h => h) (fun K hK => ?_)
        go_big_quiet_op
        refine hK _ ?_
        clear hK K
        refine pi_t 1 rfl (by kernel_rfl) (by kernel_rfl) (fun _ _ _ _ h => h) (fun K hK => ?_)
        go_big_quiet_op
        refine hK _ ?_
        clear hK K
        refine pi_t 2 rfl (by kernel_rfl) (by kernel_rfl) (fun _ _ _ _ h => h) (fun K hK => ?_)
        go_big_quiet_op
        refine hK _ ?_
        clear hK K
        refine pi_c 3 (by assumption) rfl (by kernel_rfl) (by kernel_rfl) (fun _ _ _ _ h => h) (fun K hK => ?_)
        go_big_quiet_op
        refine hK _ ?_
        clear hK K
        refine pi_l 4 rfl (by kernel_rfl) (fun K hK => ?_)
        go_wp2_with fail
        refine (ECheck_c _ _ _ C _ _ _ (sh x.1 key) d _ hA hd hkx).mono ?_
        rintro e w3 ⟨rfl, hx3⟩
        have hb3 := hx3.keep (show W.drew.heap[w1.heap.size]? = _ from hbad)
        have hbc3 := (cell_of hb3 0).trans rfl
        have hbl3 := lt_of hb3
        have hbf3 := frozen_of hb3 0
        go_wp2
        refine hK _ _ (fun _ h => af_step h hx3) ?_
        clear hK K
        refine pi_l 5 rfl (by kernel_rfl) (fun K hK => ?_)
        go_wp2
        refine hK _ _ (fun _ h => af_step h (Ext.alloc' _ _)) ?_
        clear hK K
        refine pi_l 6 rfl (by kernel_rfl) (fun K hK => ?_)
        go_wp2_with fail
        refine (first_c w3.heap.size 2 (errF C ls key d (vals pre)) (errX C x.1 (ls x.1) (sh x.1 key) d) _ ((cell_of (heap_at w3 _ rfl) 0).trans rfl) ((cell_of (heap_at w3 _ rfl) 1).trans rfl)).mono ?_
        rintro e w4 ⟨rfl, rfl⟩
        go_wp2
        refine hK _ _ (fun _ h => h) ?_
        clear hK K
        refine pi_l 7 rfl (by kernel_rfl) (fun K hK => ?_)
        go_wp2
        refine hK _ _ (by simp) ?_
        clear hK K
        refine pi_end (by kernel_rfl) ?_
        obtain ⟨r1, r2, r3, r4⟩ := chk_round (v := .int .i64 (fst_ (errF C ls key d (vals pre)) (errX C x.1 (ls x.1) (sh x.1 key) d))) (o := .cells #[.int .i64 (errF C ls key d (vals pre)), .int .i64 (errX C x.1 (ls x.1) (sh x.1 key) d)] 36) hbad (Ext.trans' (Below.drew (Ext.refl W)) hx3) hM0
        exact ⟨r1, r2, by rw [vals_snoc, errF_snoc, lvE_x HX.out]; exact r3, r4⟩
      | false =>
        have hA := (hLx.sk hx).ext (Below.drew (Ext.refl W))
        have HX := Lib.hid hx
        rw [lvV_s hx]
        clear hx
        refine pi_startR (fun w' => ∃ x : After W, w' = x.w) [7] (by kernel_rfl) (fun ⟨_, _, hh⟩ => hh) (by kernel_rfl) ?_
        have hC0 := af_drew W
        refine pi_c 0 (by assumption) rfl (by kernel_rfl) (by kernel_rfl) (fun _ _ _ _ h => h) (fun K hK => ?_)
        go_big_quiet_op
        refine hK _ ?_
        clear hK K
        refine pi_t 1 rfl (by kernel_rfl) (by kernel_rfl) (fun _ _ _ _ h => h) (fun K hK => ?_)
        go_big_quiet_op
        refine hK _ ?_
        clear hK K
        refine pi_t 2 rfl (by kernel_rfl) (by kernel_rfl) (fun _ _ _ _ h => h) (fun K hK => ?_)
        go_big_quiet_op
        refine hK _ ?_
        clear hK K
        refine pi_c 3 (by assumption) rfl (by kernel_rfl) (by kernel_rfl) (fun _ _ _ _ h => h) (fun K hK => ?_)
        go_big_quiet_op
        refine hK _ ?_
        clear hK K
        refine pi_l 4 rfl (by kernel_rfl) (fun K hK => ?_)
        go_wp2_with fail
        refine (Check_c _ _ _ C _ _ _ _ (sh x.1 key) d _ hA hd hkx.1).mono ?_
        rintro e w3 ⟨rfl, hx3⟩
        have hb3 := hx3.keep (show W.drew.heap[w1.heap.size]? = _ from hbad)
        have hbc3 := (cell_of hb3 0).trans rfl
        have hbl3 := lt_of hb3
        have hbf3 := frozen_of hb3 0
        go_wp2
        refine hK _ _ (fun _ h => af_step h hx3) ?_
        clear hK K
        refine pi_l 5 rfl (by kernel_rfl) (fun K hK => ?_)
        go_wp2
        refine hK _ _ (fun _ h => af_step h (Ext.alloc' _ _)) ?_
        clear hK K
        refine pi_l 6 rfl (by kernel_rfl) (fun K hK => ?_)
        go_wp2_with fail
        refine (first_c w3.heap.size 2 (errF C ls key d (vals pre)) (errU C x.1 (rN C) (wN C) (ls x.1) (sh x.1 key) d) _ ((cell_of (heap_at w3 _ rfl) 0).trans rfl) ((cell_of (heap_at w3 _ rfl) 1).trans rfl)).mono ?_
        rintro e w4 ⟨rfl, rfl⟩
        go_wp2
        refine hK _ _ (fun _ h => h) ?_
        clear hK K
        refine pi_l 7 rfl (by kernel_rfl) (fun K hK => ?_)
        go_wp2
        refine hK _ _ (by simp) ?_
        clear hK K
        refine pi_end (by kernel_rfl) ?_
        obtain ⟨r1, r2, r3, r4⟩ := chk_round (v := .int .i64 (fst_ (errF C ls key d (vals pre)) (errU C x.1 (rN C) (wN C) (ls x.1) (sh x.1 key) d))) (o := .cells #[.int .i64 (errF C ls key d (vals pre)), .int .i64 (errU C x.1 (rN C) (wN C) (ls x.1) (sh x.1 key) d)] 36) hbad (Ext.trans' (Below.drew (Ext.refl W)) hx3) hM0
        exact ⟨r1, r2, by rw [vals_snoc, errF_snoc, lvE_s HX.out]; exact r3, r4⟩
    case done =>
      rintro D xs W hD hxs ⟨hbad, hM0⟩ hdef
      have hM := mod_new hEW hM0 (Nat.le_refl _)
      have hz : errF C ls key d (vals xs) = errs C ls key d (B + 1) := by unfold vals; rw [hxs, errF_range]
      rw [hz] at hbad
      have hek : errK C B ls key d = errs C ls key d (B + 1) := by unfold errK; rw [hge]; rfl
      have h3 := h1.keepN h1.low (fun k hk _ => hM.block k hk (fun h => h))
      have hbc := (cell_of hbad 0).trans rfl
      have hdW := hM.keep db (fun h => h)
      have hdc := (cell_of hdW 0).trans rfl
      have hbl := lt_of hbad
      have hdl := lt_of hdW
      have HZ := Lib.hid hek
      have HXS := Lib.hid hz
      clear hek hz hxs
      by_cases hzz : errs C ls key d (B + 1) = 0
      · gi_wp2_with fail
        refine ⟨trivial, (callsIn_wide.2 (Kat_c s key _)).mono ?_⟩
        rintro e w2 ⟨rfl, rfl⟩
        gi_wp2
        obtain ⟨W2, hW2⟩ : ∃ W2, (W.alloc (.cells #[.pointer (some ⟨s, 0, none⟩)] 29)).alloc (.cells #[.int .u64 key] 22) = W2 := ⟨_, rfl⟩
        have hsz2 : W2.heap.size = W.heap.size + 2 := by rw [← hW2]; simp
        have hEW2 : Ext W W2 := by rw [← hW2]; exact (Ext.alloc' _ _).allocR _
        have hb1' : W2.heap[W.heap.size]? = some (.cells #[.pointer (some ⟨s, 0, none⟩)] 29 (0, 0)) := by rw [← hW2, heap_old _ _ (by simp)]; exact heap_at _ _ rfl
        have hb2' : W2.heap[W.heap.size + 1]? = some (.cells #[.int .u64 key] 22 (0, 0)) := by rw [← hW2]; exact heap_at _ _ (size_alloc _ _).symm
        have hdef2 := hEW2.keep hdef
        have hd2 := hEW2.keep hdW
        rw [hW2]
        have h4 := h3.ext hEW2
        obtain ⟨cap4, hex4, hcap4⟩ := h4.ex
        have hall : ∀ n, n ≤ B → lvE C n (ls n) (sh n key) d = 0 := fun n hn => errs_zero.1 hzz n (by omega)
        have hlt3 : ∀ k, cellsOf B L k → k < W.heap.size := fun k hk => h3.ltc hk
        have hlt0 : ∀ k, cellsOf B L k → k < w.heap.size := fun k hk => HH.out.ltc hk
        have hWl := hM.size
        have hDl := lt_of hdef
        refine wpIn_rangeFunc_ownF rfl (by decide) (gf := 46) (lb := #[.pointer (some ⟨W.heap.size, 0, none⟩), .pointer (some ⟨W.heap.size + 1, 0, none⟩)]) rfl trivial (enters_of Try.func46 (by kernel_rfl) rfl)
          (kat1_stops 4 W.heap.size (W.heap.size + 1) W2.heap.size s g cap4 (cellsOf B L) C L B key hk hBd (by omega) (by omega) h4.lts h4.ltg (fun h => absurd (hlt3 _ h) (by omega)) (fun h => absurd (hlt3 _ h) (by omega)) h3.nots h3.notg W2 (Nat.le_refl _)
            ((cell_of hb1' 0).trans rfl) ((cell_of hb2' 0).trans rfl) ((cell_of hex4 5).trans rfl) (fun n hn => h4.cell hn)) KpS.t (fun W l o o' hl ho hc hw => KpS.b (Nat.le_refl _) W l o o' hl ho hc hw) (Below.refl _ _) (fun _ => rfl)
          (fun pre W' => W'.heap[D]? = some (.deferred (some [])) ∧ (∃ ls', KAt W' s g C B L ls' ∧ ((vals pre).Nodup → ∀ n, ls' n = partK C ls key d (vals pre) n)) ∧ Mod (cellsOf B L) W2 W')
          (fun _ _ _ => False)
          (OwnFrom.and (ownFrom_box (by omega) (fun _ => _)) (OwnFrom.and (fun pre W' W'' row hs hg hr => by obtain ⟨ls', h, hp⟩ := hs; exact ⟨ls', h.keepN h4.low (fun k hk hN => grown_low hg (fun r e => (hr r e).1) hk hN), hp⟩) (ownFrom_mod (Nat.le_refl _))))
          (fun _ _ _ _ _ hs _ _ => hs)
          ⟨hdef2, ⟨ls, h4, fun _ n => rfl⟩, Mod.refl _ _⟩
          (fun x => { tmps := #[.pointer (some ⟨s, 0, none⟩), .int .u64 key, .int .i64 d, undef, undef, .pointer (some ⟨w.heap.size, 0, none⟩), .int .i64 0, .pointer (some ⟨w1.heap.size, 0, none⟩), undef, undef, lvV C x.1 (L x.1), .int .u64 (sh x.1 key), .int .u64 key, .pointer (some ⟨s, 0, none⟩), .pointer (some ⟨s, 0, none⟩), .pointer (some ⟨s, 0, none⟩), .agg #[.int .i64 C.bits, .int .i64 C.rows, .int .i64 C.width, .int .i64 C.mode, .int .u64 C.seed], .int .u64 (keys C 0), .bool false, .pointer (some ⟨s, 0, none⟩), .int .u64 key, .func (.func 46) #[] #[.pointer (some ⟨w1.heap.size + 1, 0, none⟩), .pointer (some ⟨w1.heap.size + 1 + 1, 0, none⟩)], undef, undef, undef, undef, undef, undef, undef, undef, undef, .int .i64 0, .bool false, undef, .pointer (some ⟨s, 0, none⟩), .int .u64 key, .func (.func 46) #[] #[.pointer (some ⟨W.heap.size, 0, none⟩), .pointer (some ⟨W.heap.size + 1, 0, none⟩)], lvV C x.1 (L x.1), .int .u64 (sh x.1 key), undef, undef, undef, undef], defers := [] }) ?assign2 ?body2 ?done2 ?stop2
        case assign2 =>
          intro l x W K hK
          dsimp only [lvEnc]
          gi_wp2
          exact hK
        case body2 =>
          rintro l pre x V ⟨hD5, ⟨ls', h5, hp5⟩, hM5⟩ hlen
          have hd5 := hM5.keep hd2 (fun h => absurd (hlt0 _ h) (by omega))
          have hdc5 := (cell_of hd5 0).trans rfl
          have hdl5 := lt_of hd5
          have hkx := sh_u64 hk x.1
          have hLx := h5.lev x.1 x.2
          have fin := fun w3 hres => upd_round (w3 := w3) (x := x) h5 hp5 hM5 hD5 hall hres
          cases hx : isX C x.1 with
          | true =>
            have hA := hLx.x hx
            have HX := Lib.hid hx
            rw [lvV_x hx]
            clear hx
            refine wpIn_block ?_
            refine region_plainR (fun ⟨_, _, hh⟩ => hh) (by kernel_rfl) ?_
            go_wp2_with fail
            refine Calls.mono (EUpdate_c _ _ _ C _ _ _ (sh x.1 key) d _ hA hd hkx) ?_
            rintro e w3 ⟨rfl, hres⟩
            gi_wp2
            rw [← lvE_x HX.out, ← lvU_x HX.out] at hres
            exact fin w3 (hres.imp (fun ⟨a, b, c⟩ => ⟨a, .inl ⟨HX.out, b⟩, c⟩) (fun h => h))
          | false =>
            have hA := hLx.sk hx
            have HX := Lib.hid hx
            rw [lvV_s hx]
            clear hx
            refine wpIn_block ?_
            refine region_plainR (fun ⟨_, _, hh⟩ => hh) (by kernel_rfl) ?_
            go_wp2_with fail
            refine Calls.mono (Update_c _ _ _ C _ _ _ _ (sh x.1 key) d _ hA hd hkx.1) ?_
            rintro e w3 ⟨rfl, hres⟩
            gi_wp2
            rw [← lvE_s HX.out, ← lvU_s HX.out] at hres
            exact fin w3 (hres.imp (fun ⟨a, b, c⟩ => ⟨a, .inr ⟨HX.out, b⟩, c⟩) (fun h => h))
        case done2 =>
          rintro D2 ys V hD2 hys ⟨hD5, ⟨ls', h5, hp5⟩, hM5⟩ hdef5
          gi_wp2
          have hne : D ≠ D2 := by omega
          refine ⟨by simp, .inl ⟨_, _, rfl, run_takeDeferred hdef5, ⟨by simp, .inl ⟨_, _, rfl, run_takeDeferred ((World.putObj_heap_other hne).trans hD5), ?_⟩⟩⟩⟩
          have hq : Mod (cellsOf B L) w V := (((hE1.mod _).trans (hM.mono (fun _ h _ => h.elim))).trans (hEW2.mod _)).trans hM5
          have hwl := hE1.size
          refine ⟨_, results_tmp rfl _ _ _, by rw [HZ.out, hzz]; rfl, ?_, mod_putD (mod_putD hq (by omega)) (by omega)⟩
          rw [HZ.out, hzz]
          refine KAt.cong (ls := ls') ?_ (part_end hys hp5)
          exact h5.keepN HH.out.low (fun k _ hN => (World.putObj_heap_other (by omega)).trans (World.putObj_heap_other (by omega)))
        case stop2 =>
          rintro D2 c pre V hD2 _ hh _
          exact hh.elim
      · gi_wp2
        refine ⟨by simp, .inl ⟨_, _, rfl, run_takeDeferred hdef, ?_⟩⟩
        have hp : Mod (fun _ => False) w1 (W.putObj D (.deferred none)) := mod_putD hM (by omega)
        refine ⟨_, results_tmp rfl _ _ _, by rw [HZ.out]; rfl, ?_, (hE1.mod _).trans (hp.mono (fun _ h _ => h.elim))⟩
        rw [HZ.out, decide_eq_false hzz]
        exact h1.keepN h1.low (fun k hk _ => hp.block k hk (fun h => h))
    case stop =>
      rintro D c pre W hD _ hh _
      exact hh.elim
end Go.Proofs.Ytfhdjekpdifajaa
namespace Go.Proofs.Ytfhdjekpdifajaa
set_option linter.unusedVariables false
open Go.RowKit
theorem zs_bnd (n : Nat) : Bnd 0 (zs n) := by
  intro x hx
  simp only [zs, List.mem_replicate] at hx
  omega
theorem lvE_ok {C : Cfg} {lv : Int} {l : List Int} {key d B T : Int} (h : Bnd B l) (hB : 0 ≤ B) (hT : 0 ≤ T) (hd : -T ≤ d ∧ d ≤ T) (hs : B + T ≤ 4611686018427387904) (hk : key < keys C lv) (hm : C.mode = 2 → 0 ≤ d) : lvE C lv l key d = 0 := by
  cases hx : isX C lv with
  | false => rw [lvE_s hx]; exact upd_ok h hB hT hd hs hk hm
  | true =>
    rw [lvE_x hx, errX_sum hk (fun hh => by have := hm hh.1; omega)]
    have h2 := h.getD hB key.toNat
    rw [fitB_yes (by unfold I64; omega)]
    rfl
theorem lvU_bnd {C : Cfg} {lv : Int} {l : List Int} {key d B T : Int} (h : Bnd B l) (hB : 0 ≤ B) (hT : 0 ≤ T) (hd : -T ≤ d ∧ d ≤ T) : Bnd (B + T) (lvU C lv l key d) := by
  cases hx : isX C lv with
  | false => rw [lvU_s hx]; exact upd_bnd h hB hT hd
  | true =>
    rw [lvU_x hx]
    intro x hx
    unfold updX at hx
    rcases List.mem_or_eq_of_mem_set hx with h1 | rfl
    · have := h x h1; omega
    · have h2 := h.getD hB key.toNat; omega
theorem updK_bnd {C : Cfg} {ls : Nat → List Int} {key d B' T : Int} {n : Nat} (h : Bnd B' (ls n)) (hB : 0 ≤ B') (hT : 0 ≤ T) (hd : -T ≤ d ∧ d ≤ T) : Bnd (B' + T) (updK C ls key d n) := lvU_bnd h hB hT hd
theorem errK_ok {C : Cfg} (hok : C.Ok) {B : Nat} (hBb : C.bits = B) {ls : Nat → List Int} {key d B' T : Int} (h : ∀ n, n ≤ B → Bnd B' (ls n)) (hB : 0 ≤ B') (hT : 0 ≤ T) (hd : -T ≤ d ∧ d ≤ T) (hs : B' + T ≤ 4611686018427387904) (hk0 : 0 ≤ key) (hk : key < keys C 0) (hm : C.mode = 2 → 0 ≤ d) : errK C B ls key d = 0 :=
  errK_zero.2 ⟨hk, fun n hn => lvE_ok (h n hn) hB hT hd hs (sh_lt hok (by omega) hk0 hk) hm⟩
theorem feedK_bnd (C : Cfg) (us : List (Int × Int)) (n : Nat) : Bnd (us.length * 1099511627776) (feedK C us n) := by
  refine snoc_ind (P := fun us => Bnd (us.length * 1099511627776) (feedK C us n)) ?_ ?_ us
  · exact zs_bnd _
  · intro us u ih
    rw [feedK_snoc]
    have := updK_bnd (C := C) (ls := feedK C us) (key := cutK C 0 u.1) (d := cutD C.mode u.2) (n := n) ih (by omega) (show (0 : Int) ≤ 1099511627776 by decide) (by have := cutD_bd C.mode u.2; omega)
    have e : ((us ++ [u]).length : Int) * 1099511627776 = us.length * 1099511627776 + 1099511627776 := by
      rw [List.length_append, List.length_singleton]; push_cast; omega
    rw [e]
    exact this
theorem feedK_ok (C : Cfg) (hok : C.Ok) {B : Nat} (hBb : C.bits = B) (us : List (Int × Int)) (hl : us.length ≤ 1000) (u : Int × Int) : errK C B (feedK C us) (cutK C 0 u.1) (cutD C.mode u.2) = 0 := by
  have hk := cutK_bd C hok 0 u.1 (Int.le_refl 0)
  refine errK_ok hok hBb (fun n _ => feedK_bnd C us n) (by omega) (show (0 : Int) ≤ 1099511627776 by decide) (by have := cutD_bd C.mode u.2; omega) (by omega) hk.1 hk.2 (fun h => cutD_nn h)
end Go.Proofs.Ytfhdjekpdifajaa
namespace Go.Proofs.Ytfhdjekpdifajaa
set_option linter.unusedVariables false
open Go.RowKit
def KFresh (N B : Nat) (L : Nat → Lev) : Prop := ∀ n, n ≤ B → N ≤ (L n).s ∧ N ≤ (L n).b ∧ N ≤ (L n).c
theorem KFresh.ext {w a b : World} {B : Nat} {L : Nat → Lev} (h : KFresh w.heap.size B L) (hE : Ext w a) (hM : Mod (cellsOf B L) a b) : Ext w b :=
  Below.trans hE (hM.below (B := w.heap.size) hE.size (fun k hk => by obtain ⟨n, hn, rfl⟩ := hk; exact (h n hn).2.2))
end Go.Proofs.Ytfhdjekpdifajaa
namespace Go.Proofs.Ytfhdjekpdifajaa
set_option linter.unusedVariables false
open Go.RowKit
set_option maxRecDepth 20000 in
set_option maxHeartbeats 2000000 in
theorem Cut15_c (c : Cfg) (hok : c.Ok) (key d : Int) (hk : U64 key) (hd : I64 d) (w : World) :
    Calls Try.prog 16 #[.agg #[.int .i64 c.bits, .int .i64 c.rows, .int .i64 c.width, .int .i64 c.mode, .int .u64 c.seed], .agg #[.int .u64 key, .int .i64 d]] w fun e w' => e = .returned (.agg #[.int .u64 (cutK c 0 key), .int .i64 (cutD c.mode d)]) ∧ Ext w w' := by
  obtain ⟨t1, t2⟩ := tmod_bd d
  obtain ⟨k1, k2⟩ := hk
  obtain ⟨kb1, kb2⟩ := keys_bd c hok 0 (Int.le_refl 0)
  obtain ⟨d1, d2⟩ := hd
  have kz : (keys c 0 == 0) = false := by simp; omega
  have kz2 : (keys c 0 = 0) = False := by simp; omega
  have hcd : cutD c.mode d = bif decide (c.mode = 2) then max (d.tmod 1099511627776) (-(d.tmod 1099511627776)) else d.tmod 1099511627776 := rfl
  have HCD := Lib.hid hcd
  have hck : cutK c 0 key = key % keys c 0 := rfl
  have HCK := Lib.hid hck
  clear hcd hck
  by_cases hm : c.mode = 2
  · have hmb : (c.mode == 2) = true := by simp [hm]
    have HM := Lib.hid hm
    clear hm
    by_cases hs0 : d.tmod 1099511627776 < 0
    · have hv : cutD c.mode d = -(d.tmod 1099511627776) := by rw [HCD.out, decide_eq_true HM.out]; show max _ _ = _; omega
      have HV := Lib.hid hv
      clear hv
      go_enter Try.func16, Try.ntmps16
      go_wp2
      refine wp_region_after_tail 7 (by kernel_rfl) (by kernel_rfl) ?_
      simp only [List.take_succ_cons, List.take_zero, List.drop_succ_cons, List.drop_zero]
      repeat (go_big_quiet_step ((go_at_call 15; exact quiet_after (KeysR_c c hok 0 (Int.le_refl 0) (by have := hok.b1; omega) _))))
      refine wpQuiet_nil ?_
      rintro _ ⟨xx, rfl⟩
      obtain ⟨w1, hb1⟩ := xx
      try dsimp only
      have hs := hb1.size
      simp only [size_alloc] at hs
      have hcell : w1.heap[w.heap.size + 1 + 1]? = some (.cells #[.int .u64 0, .int .i64 0] 53 (0, 0)) := by
        rw [hb1.block _ (by simp only [size_alloc]; omega)]
        exact heap_at _ _ (by simp only [size_alloc])
      have p0 := (cell_of hcell 0).trans rfl
      have p1 := (cell_of hcell 1).trans rfl
      have f0 := frozen_of hcell 0
      have f1 := frozen_of hcell 1
      have hE : Ext w w1 := by (repeat' (first | exact Ext.refl _ | assumption | apply Ext.allocR | apply Ext.drewR | apply Ext.drewNR | (refine Ext.trans' ?_ (by assumption))))
      clear hb1
      go_wp2
      have r0 := set2_0 hcell (.int .u64 (key % keys c 0))
      have r1 := set2_1 hcell (.int .u64 (key % keys c 0)) (.int .i64 (-(d.tmod 1099511627776)))
      refine bodyPost_ret (v := .agg #[.int .u64 (key % keys c 0), .int .i64 (-(d.tmod 1099511627776))]) (by simp [results, Try.results16, go_sem, r0, r1]) rfl ⟨by rw [HV.out, HCK.out], ?_⟩
      exact (hE.setR (by show w.heap.size ≤ w.heap.size + 1 + 1; omega) _).setR (by show w.heap.size ≤ w.heap.size + 1 + 1; omega) _
    · have hv : cutD c.mode d = d.tmod 1099511627776 := by rw [HCD.out, decide_eq_true HM.out]; show max _ _ = _; omega
      have HV := Lib.hid hv
      clear hv
      go_enter Try.func16, Try.ntmps16
      go_wp2
      refine wp_region_after_tail 7 (by kernel_rfl) (by kernel_rfl) ?_
      simp only [List.take_succ_cons, List.take_zero, List.drop_succ_cons, List.drop_zero]
      repeat (go_big_quiet_step ((go_at_call 15; exact quiet_after (KeysR_c c hok 0 (Int.le_refl 0) (by have := hok.b1; omega) _))))
      refine wpQuiet_nil ?_
      rintro _ ⟨xx, rfl⟩
      obtain ⟨w1, hb1⟩ := xx
      try dsimp only
      have hs := hb1.size
      simp only [size_alloc] at hs
      have hcell : w1.heap[w.heap.size + 1 + 1]? = some (.cells #[.int .u64 0, .int .i64 0] 53 (0, 0)) := by
        rw [hb1.block _ (by simp only [size_alloc]; omega)]
        exact heap_at _ _ (by simp only [size_alloc])
      have p0 := (cell_of hcell 0).trans rfl
      have p1 := (cell_of hcell 1).trans rfl
      have f0 := frozen_of hcell 0
      have f1 := frozen_of hcell 1
      have hE : Ext w w1 := by (repeat' (first | exact Ext.refl _ | assumption | apply Ext.allocR | apply Ext.drewR | apply Ext.drewNR | (refine Ext.trans' ?_ (by assumption))))
      clear hb1
      go_wp2
      have r0 := set2_0 hcell (.int .u64 (key % keys c 0))
      have r1 := set2_1 hcell (.int .u64 (key % keys c 0)) (.int .i64 (d.tmod 1099511627776))
      refine bodyPost_ret (v := .agg #[.int .u64 (key % keys c 0), .int .i64 (d.tmod 1099511627776)]) (by simp [results, Try.results16, go_sem, r0, r1]) rfl ⟨by rw [HV.out, HCK.out], ?_⟩
      exact (hE.setR (by show w.heap.size ≤ w.heap.size + 1 + 1; omega) _).setR (by show w.heap.size ≤ w.heap.size + 1 + 1; omega) _
  · have hmb : (c.mode == 2) = false := by simp [hm]
    have hv : cutD c.mode d = d.tmod 1099511627776 := by rw [HCD.out, decide_eq_false hm]; rfl
    have HV := Lib.hid hv
    clear hv hm
    go_enter Try.func16, Try.ntmps16
    go_wp2
    refine wp_region_after_tail 7 (by kernel_rfl) (by kernel_rfl) ?_
    simp only [List.take_succ_cons, List.take_zero, List.drop_succ_cons, List.drop_zero]
    repeat (go_big_quiet_step ((go_at_call 15; exact quiet_after (KeysR_c c hok 0 (Int.le_refl 0) (by have := hok.b1; omega) _))))
    refine wpQuiet_nil ?_
    rintro _ ⟨xx, rfl⟩
    obtain ⟨w1, hb1⟩ := xx
    try dsimp only
    have hs := hb1.size
    simp only [size_alloc] at hs
    have hcell : w1.heap[w.heap.size + 1 + 1]? = some (.cells #[.int .u64 0, .int .i64 0] 53 (0, 0)) := by
      rw [hb1.block _ (by simp only [size_alloc]; omega)]
      exact heap_at _ _ (by simp only [size_alloc])
    have p0 := (cell_of hcell 0).trans rfl
    have p1 := (cell_of hcell 1).trans rfl
    have f0 := frozen_of hcell 0
    have f1 := frozen_of hcell 1
    have hE : Ext w w1 := by (repeat' (first | exact Ext.refl _ | assumption | apply Ext.allocR | apply Ext.drewR | apply Ext.drewNR | (refine Ext.trans' ?_ (by assumption))))
    clear hb1
    go_wp2
    have r0 := set2_0 hcell (.int .u64 (key % keys c 0))
    have r1 := set2_1 hcell (.int .u64 (key % keys c 0)) (.int .i64 (d.tmod 1099511627776))
    refine bodyPost_ret (v := .agg #[.int .u64 (key % keys c 0), .int .i64 (d.tmod 1099511627776)]) (by simp [results, Try.results16, go_sem, r0, r1]) rfl ⟨by rw [HV.out, HCK.out], ?_⟩
    exact (hE.setR (by show w.heap.size ≤ w.heap.size + 1 + 1; omega) _).setR (by show w.heap.size ≤ w.heap.size + 1 + 1; omega) _
end Go.Proofs.Ytfhdjekpdifajaa
namespace Go.Proofs.Ytfhdjekpdifajaa
set_option linter.unusedVariables false
open Go.RowKit
/-- What the keys of a piece have of sixty updates. -/
def hasK (C : Cfg) (us : List (Int × Int)) (k n : Nat) (j : Int) : Int := hasP j (stP C n (fus us 0 k))
theorem stP_len (C : Cfg) (n : Nat) (us : List (Int × Int)) : (stP C n us).length = us.length := by simp [stP]
theorem stP_bnd (C : Cfg) (n : Nat) (us : List (Int × Int)) : ∀ u ∈ stP C n us, -1099511627776 ≤ u.2 ∧ u.2 ≤ 1099511627776 := by
  intro u hu
  simp only [stP, List.mem_map] at hu
  obtain ⟨p, _, rfl⟩ := hu
  have := cutD_bd C.mode p.2
  show _ ≤ cutD C.mode p.2 ∧ _
  omega
theorem hasK_bd (C : Cfg) (us : List (Int × Int)) {k : Nat} (hk : k ≤ 60) (n : Nat) (j : Int) : -65970697666560 ≤ hasK C us k n j ∧ hasK C us k n j ≤ 65970697666560 := by
  have := sumIf_bnd (fun x => x == j) 1099511627776 (by decide) (stP C n (fus us 0 k)) (stP_bnd C n _)
  have hl := fus_len us 0 k
  rw [stP_len] at this
  unfold hasK hasP
  omega
theorem hasK_zero (C : Cfg) (us : List (Int × Int)) (n : Nat) (j : Int) : hasK C us 0 n j = 0 := by unfold hasK; rw [fus_self]; rfl
theorem hasK_succ (C : Cfg) (us : List (Int × Int)) {k : Nat} (hk : k < us.length) (n : Nat) (j : Int) :
    hasK C us (k + 1) n j = hasK C us k n j + (bif sh n (cutK C 0 us[k].1) == j then cutD C.mode us[k].2 else 0) := by
  have hget : us.getD k (0, 0) = us[k] := by simp [hk]
  unfold hasK
  rw [fus_snoc us (Nat.zero_le k) hk, stP_snoc, hget]
  exact sumIf_snoc _ _ _
set_option maxRecDepth 20000 in
set_option maxHeartbeats 4000000 in
theorem Has15_c (us : List (Int × Int)) (hus : UpsOk us) (v : Value) (C : Cfg) (hok : C.Ok) (n : Nat) (hn : n ≤ 63) (j : Int) (hj : U64 j) (w : World) (hv : UpsAt w v us) (hul : us.length ≤ 140737488355328) :
    Calls Try.prog 23 #[.agg #[.int .i64 C.bits, .int .i64 C.rows, .int .i64 C.width, .int .i64 C.mode, .int .u64 C.seed], v, .agg #[.int .i64 n, .int .u64 j]] w
      fun e w' => e = .returned (.int .i64 (hasK C us 60 n j)) ∧ Ext w w' := by
  obtain ⟨vp, vc, rfl⟩ := hv.sl
  have HV := Lib.hid hv
  clear hv
  go_enter Try.func23, Try.ntmps23
  go_wp2_with fail
  go_loopw [7, 8] (fun u7 u8 wr => ∃ k : Nat, k ≤ 60 ∧ k ≤ us.length ∧ u7 = .int .i64 (hasK C us k n j) ∧ u8 = .int .i64 k ∧ Ext w wr ∧ CfgAt wr w.heap.size C ∧ wr.heap[w.heap.size + 1]? = some (.cells #[.int .i64 n, .int .u64 j] 41 (0, 0))) (fun _ u8 _ => 60 - (intOf u8).toNat)
  case atStart =>
    refine ⟨0, Nat.zero_le _, Nat.zero_le _, by rw [hasK_zero], rfl, by (repeat' (first | exact Ext.refl _ | assumption | apply Ext.allocR | apply Ext.drewR | apply Ext.drewNR | (refine Ext.trans' ?_ (by assumption)))), (CfgAt.box C _ rfl).ext (Ext.alloc' _ _), heap_at _ _ (by rw [size_alloc])⟩
  case round =>
    obtain ⟨k, hk60, hkl, rfl, rfl, hE, hC, hP⟩ := hrel
    have l1 := hC.lt
    have l2 := lt_of hP
    obtain ⟨hsb1, hsb2⟩ := hasK_bd C us hk60 n j
    by_cases hgo : k < us.length ∧ k < 60
    · obtain ⟨hg1, hg2⟩ := hgo
      obtain ⟨ug, off, rfl, hul0, d0, d1⟩ := (UpsAt.ext HV.out hE).one hg1
      have hu := hus _ (List.getElem_mem hg1)
      have hsn := hasK_succ C us hg1 n j
      have c0 := hC.c0
      have c1 := hC.c1
      have c2 := hC.c2
      have c3 := hC.c3
      have c4 := hC.c4
      generalize us[k] = uu at *
      obtain ⟨uk, ud⟩ := uu
      generalize hasK C us k n j = s at *
      have HSN := Lib.hid hsn
      have HP := Lib.hid hP
      have HC := Lib.hid hC
      clear hsn hP hC
      go_upto_region 5 with (fail)
      go_cut [9] (fun s9 wx => ∃ bu : Nat, s9 = .pointer (some ⟨bu, 0, none⟩) ∧ wx.heap[bu]? = some (.cells #[.int .u64 (cutK C 0 uk), .int .i64 (cutD C.mode ud)] 53 (0, 0)) ∧ Ext wr wx ∧ wr.heap.size ≤ bu)
      case first =>
        have hC0 := af_drew wr
        refine pi_start (fun w' => ∃ x : After wr, w' = x.w) [] (by kernel_rfl) ?_
        refine pi_c 0 (by assumption) rfl (by kernel_rfl) (by kernel_rfl) (fun _ _ _ _ h => h) (fun K hK => ?_)
        go_big_quiet_op
        refine hK _ ?_
        clear hK K
        refine pi_t 1 rfl (by kernel_rfl) (by kernel_rfl) (fun _ _ _ _ h => h) (fun K hK => ?_)
        go_big_quiet_op
        refine hK _ ?_
        clear hK K
        refine pi_t 2 rfl (by kernel_rfl) (by kernel_rfl) (fun _ _ _ _ h => h) (fun K hK => ?_)
        go_big_quiet_op
        refine hK _ ?_
        clear hK K
        refine pi_t 3 rfl (by kernel_rfl) (by kernel_rfl) (fun _ _ _ _ h => h) (fun K hK => ?_)
        go_big_quiet_op
        refine hK _ ?_
        clear hK K
        refine pi_c 4 (by assumption) rfl (by kernel_rfl) (by kernel_rfl) (fun _ _ _ _ h => h) (fun K hK => ?_)
        go_big_quiet_op
        refine hK _ ?_
        clear hK K
        refine pi_b 5 6 rfl rfl (by kernel_rfl) (fun K hK => ?_) (fun K hK => ?_)
        · go_wp2_with (go_at_call 16; refine (Cut15_c C hok uk ud hu.1 hu.2 _).mono ?_; rintro e w3 ⟨rfl, hx3⟩)
          have hx3' : Ext wr w3 := Ext.trans' (Below.drew (Ext.refl wr)) hx3
          have hs3 := hx3'.size
          refine hK _ _ (fun _ h => af_step h hx3) ?_
          clear hK K
          refine pi_l 6 rfl (by kernel_rfl) (fun K hK => ?_)
          go_wp2
          refine hK _ _ (fun _ h => af_step h (Ext.alloc' _ _)) ?_
          clear hK K
          refine pi_l 7 rfl (by kernel_rfl) (fun K hK => ?_)
          go_wp2
          refine hK _ _ (fun _ _ => ⟨⟨_, hx3'.allocR _⟩, rfl⟩) ?_
          clear hK K
          refine pi_end (by kernel_rfl) ?_
          go_wp2_with fail
          go_meet
          exact ⟨w3.heap.size, rfl, heap_at _ _ rfl, hx3'.allocR _, hs3⟩
        · go_wp2
          refine hK _ _ (fun _ h => af_step h (Ext.alloc' _ _)) ?_
          clear hK K
          refine pi_l 5 rfl (by kernel_rfl) (fun K hK => ?_)
          go_wp2_with (go_at_call 16; refine (Cut15_c C hok uk ud hu.1 hu.2 _).mono ?_; rintro e w3 ⟨rfl, hx3⟩)
          refine hK _ _ (fun _ h => af_step h hx3) ?_
          clear hK K
          have hs3 : (wr.alloc (.cells #[.int .u64 0, .int .i64 0] 53)).heap.size ≤ w3.heap.size := hx3.size
          rw [size_alloc] at hs3
          have hx3' : Ext wr w3 := Ext.trans' (Ext.alloc' wr _) (Ext.trans' (Below.drew (Ext.refl _)) hx3)
          have hbx : w3.heap[wr.heap.size]? = some (.cells #[.int .u64 0, .int .i64 0] 53 (0, 0)) := by
            rw [hx3.block _ (by show _ < (wr.alloc _).heap.size; rw [size_alloc]; exact Nat.lt_succ_self _)]
            exact heap_at wr _ rfl
          have p0 := (cell_of hbx 0).trans rfl
          have p1 := (cell_of hbx 1).trans rfl
          have f0 := frozen_of hbx 0
          have f1 := frozen_of hbx 1
          refine pi_l 7 rfl (by kernel_rfl) (fun K hK => ?_)
          go_wp2
          refine hK _ _ (fun _ _ => ⟨⟨_, (hx3'.setR (Nat.le_refl _) _).setR (Nat.le_refl _) _⟩, rfl⟩) ?_
          clear hK K
          refine pi_end (by kernel_rfl) ?_
          go_wp2_with fail
          go_meet
          exact ⟨wr.heap.size, rfl, set2 hbx _ _, (hx3'.setR (Nat.le_refl _) _).setR (Nat.le_refl _) _, Nat.le_refl _⟩
      case rest =>
        obtain ⟨bu, rfl, hbu, hxw, hbul⟩ := hcut
        have hdb := cutD_bd C.mode ud
        have b1 := (cell_of hbu 1).trans rfl
        have b0 := (cell_of hbu 0).trans rfl
        have hE' : Ext w wc := hE.trans' hxw
        have hP' := hxw.keep HP.out
        have hC' := HC.out.ext hxw
        have p0 := (cell_of hP' 0).trans rfl
        have p1 := (cell_of hP' 1).trans rfl
        have pl := lt_of hP'
        clear d0 d1 c0 c1 c2 c3 c4 hE hxw
        have hkk0 := (cutK_bd C hok 0 uk (Int.le_refl 0)).1
        generalize cutK C 0 uk = kk at *
        generalize cutD C.mode ud = dd at *
        by_cases hkk : sh n kk = j
        · have g1 : (sh n kk == j) = true := by simpa using hkk
          have hs' := HSN.out
          rw [g1] at hs'
          have HS := Lib.hid hs'
          have g2 : (kk / 2 ^ n == j) = true := g1
          clear hs' HSN hkk g1
          go_wp2_with fail
          go_roundw
          case rel => exact ⟨k + 1, by omega, by omega, by rw [HS.out]; rfl, by go_num, hE', hC', hP'⟩
          case measure => simp [intOf]; omega
        · have g1 : (sh n kk == j) = false := by simpa using hkk
          have hs' := HSN.out
          rw [g1] at hs'
          have HS := Lib.hid hs'
          have g2 : (kk / 2 ^ n == j) = false := g1
          clear hs' HSN hkk g1
          go_wp2_with fail
          go_roundw
          case rel => exact ⟨k + 1, by omega, by omega, by rw [HS.out]; exact congrArg _ (Int.add_zero _).symm, by go_num, hE', hC', hP'⟩
          case measure => simp [intOf]; omega
    · have hfe := fus_end us (i := 0) (j := 60) (k := k) (by omega) (by omega) (.inr ⟨hk60, hkl⟩) hgo
      have hfe' : hasK C us k n j = hasK C us 60 n j := by unfold hasK; rw [hfe]
      rw [hfe']
      go_wp2_with fail
      all_goals
        go_ret
        exact ⟨rfl, hE⟩
end Go.Proofs.Ytfhdjekpdifajaa
namespace Go.Proofs.Ytfhdjekpdifajaa
set_option linter.unusedVariables false
open Go.RowKit
/-- The config that a play of a stack stands for. -/
def kcfg (x : Cfg) (nb m : Int) : Cfg := if 0 < m then { mkC x nb 9 with mode := m } else mkC x nb 9
theorem kcfg_ok (x : Cfg) (hs : U64 x.seed) {nb m : Int} (h1 : 1 ≤ nb) (h2 : nb ≤ 20) (h3 : m ≤ 3) : (kcfg x nb m).Ok := by
  have h := mkC_ok x hs (nb := nb) (nw := 9) h1 h2 (by decide) (by decide)
  unfold kcfg
  split
  · exact ⟨h.b1, h.b2, h.r1, h.r2, h.w1, h.w2, by show 1 ≤ m; omega, h3, h.s⟩
  · exact h
theorem kcfg_pos (x : Cfg) (nb : Int) {m : Int} (h : 0 < m) : (mkC x nb 9).bits = (kcfg x nb m).bits ∧ (mkC x nb 9).rows = (kcfg x nb m).rows ∧ (mkC x nb 9).width = (kcfg x nb m).width ∧ (mkC x nb 9).seed = (kcfg x nb m).seed ∧ m = (kcfg x nb m).mode := by
  unfold kcfg; rw [if_pos h]; exact ⟨rfl, rfl, rfl, rfl, rfl⟩
theorem kcfg_none (x : Cfg) (nb : Int) {m : Int} (h : ¬ 0 < m) : mkC x nb 9 = kcfg x nb m := by
  unfold kcfg; rw [if_neg h]
end Go.Proofs.Ytfhdjekpdifajaa
namespace Go.Proofs.Ytfhdjekpdifajaa
set_option linter.unusedVariables false
open Go.RowKit
set_option maxRecDepth 20000 in
set_option maxHeartbeats 2000000 in
theorem ExactR_c (C : Cfg) (h : C.Ok) (lv : Int) (h0 : 0 ≤ lv) (h1 : lv ≤ C.bits) (w : World) :
    Calls Try.prog 24 #[.agg #[.int .i64 C.bits, .int .i64 C.rows, .int .i64 C.width, .int .i64 C.mode, .int .u64 C.seed], .int .i64 lv] w fun e w' => e = .returned (.bool (isX C lv)) ∧ Ext w w' := by
  have hk := keys_bd C h lv h0
  have w1' := h.w1
  have w2' := h.w2
  have hI : isX C lv = decide (keys C lv ≤ C.width) := rfl
  go_enter Try.func24, Try.ntmps24
  go_wp2_with fail
  refine (KeysR_c C h lv h0 h1 _).mono ?_
  rintro e w1 ⟨rfl, hb⟩
  have hE : Ext w w1 := by (repeat' (first | exact Ext.refl _ | assumption | apply Ext.allocR | apply Ext.drewR | apply Ext.drewNR | (refine Ext.trans' ?_ (by assumption))))
  have hC := (CfgAt.box (w := w) C 24 rfl).ext hb
  have c2 := hC.c2
  have cl := hC.lt
  have HI := Lib.hid hI
  generalize keys C lv = N at *
  clear hb hI hC
  by_cases hx : N ≤ C.width
  · go_wp2
    go_ret
    exact ⟨by rw [HI.out, decide_eq_true hx]; rfl, hE⟩
  · go_wp2
    go_ret
    exact ⟨by rw [HI.out, decide_eq_false (by omega)]; rfl, hE⟩
theorem fus_ok {us : List (Int × Int)} (hus : UpsOk us) (i j : Nat) : UpsOk (fus us i j) := fun u hu => hus u (List.mem_of_mem_take (List.mem_of_mem_drop hu))
theorem pt_x {C : Cfg} (hok : C.Ok) {n : Nat} (hn : (n : Int) ≤ C.bits) {us : List (Int × Int)} (hus : UpsOk us) (hx : isX C n = true) {j z : Int} (hj : 0 ≤ j) (h : lvPt C n (feedK C (fus us 0 60) n) j z) : z = hasK C us 60 n j := by
  rcases h with ⟨_, h⟩ | ⟨h, _⟩
  · rw [h, feedK_x hok hn (fus_ok hus 0 60) hx]
    unfold hasK
    rw [show ((j.toNat : Nat) : Int) = j by omega]
  · rw [hx] at h; cases h
end Go.Proofs.Ytfhdjekpdifajaa
namespace Go.Proofs.Ytfhdjekpdifajaa
set_option linter.unusedVariables false
open Go.RowKit
theorem info_pc : ∃ i z, Try.prog.info? 41 = some i ∧ i.zero = some z ∧ i.size = 2 ∧ i.bytes = 16 ∧ z.cells.size = 2 := by
  have h : (Try.prog.info? 41).map (fun i => (i.zero, i.size, i.bytes)) = some (some (.agg #[.int .i64 0, .int .u64 0]), 2, 16) := by kernel_rfl
  match hi : Try.prog.info? 41, h with
  | some i, h =>
    simp only [Option.map_some, Option.some.injEq, Prod.mk.injEq] at h
    exact ⟨i, _, rfl, h.1, h.2.1, h.2.2, rfl⟩
def pcV (ps : List (Nat × Int)) : List Value := ps.flatMap fun p => [.int .i64 (p.1 : Int), .int .u64 p.2]
theorem pcV_len (ps : List (Nat × Int)) : (pcV ps).length = ps.length * 2 := by
  induction ps with
  | nil => rfl
  | cons u ps ih =>
    have : pcV (u :: ps) = .int .i64 (u.1 : Int) :: .int .u64 u.2 :: pcV ps := rfl
    rw [this, List.length_cons, List.length_cons, List.length_cons, ih]; omega
theorem pcV_at {ps : List (Nat × Int)} : ∀ {k : Nat} (h : k < ps.length), (pcV ps)[k * 2]? = some (.int .i64 ((ps.getD k (0, 0)).1 : Int)) ∧ (pcV ps)[k * 2 + 1]? = some (.int .u64 (ps.getD k (0, 0)).2) := by
  induction ps with
  | nil => intro k h; simp at h
  | cons u ps ih =>
    intro k h
    have e : pcV (u :: ps) = .int .i64 (u.1 : Int) :: .int .u64 u.2 :: pcV ps := rfl
    rw [e]
    cases k with
    | zero => exact ⟨rfl, rfl⟩
    | succ k =>
      have := ih (k := k) (by simpa using h)
      rw [show (k + 1) * 2 = k * 2 + 1 + 1 by omega]
      simp only [List.getElem?_cons_succ, List.getD_cons_succ]
      exact this
theorem pcV_get {ps : List (Nat × Int)} {j : Nat} {v : Value} (h : (pcV ps)[j]? = some v) : ∃ k, k < ps.length ∧ ((j = k * 2 ∧ v = .int .i64 ((ps.getD k (0, 0)).1 : Int)) ∨ (j = k * 2 + 1 ∧ v = .int .u64 (ps.getD k (0, 0)).2)) := by
  have hj := (List.getElem?_eq_some_iff.1 h).1
  rw [pcV_len] at hj
  have hk : j / 2 < ps.length := by omega
  obtain ⟨a1, a2⟩ := pcV_at hk
  refine ⟨j / 2, hk, ?_⟩
  by_cases he : j % 2 = 0
  · left
    have hj2 : j = j / 2 * 2 := by omega
    rw [← hj2, h] at a1
    exact ⟨hj2, Option.some.inj a1⟩
  · right
    have hj2 : j = j / 2 * 2 + 1 := by omega
    rw [← hj2, h] at a2
    exact ⟨hj2, Option.some.inj a2⟩
/-- Pieces that lie at a place. -/
def PCells (W : World) (g off : Nat) (ps : List (Nat × Int)) : Prop :=
  ∀ k, k < ps.length → W.cell? ⟨g, off + k * 2, none⟩ = some (.int .i64 ((ps.getD k (0, 0)).1 : Int)) ∧ W.cell? ⟨g, off + k * 2 + 1, none⟩ = some (.int .u64 (ps.getD k (0, 0)).2)
theorem PCells.ext {W W' : World} {g off : Nat} {ps : List (Nat × Int)} (h : PCells W g off ps) (hg : g < W.heap.size) (he : Ext W W') : PCells W' g off ps :=
  fun k hk => ⟨((bcell he).1 _ _ hg).trans (h k hk).1, ((bcell he).1 _ _ hg).trans (h k hk).2⟩
end Go.Proofs.Ytfhdjekpdifajaa
namespace Go.Proofs.Ytfhdjekpdifajaa
set_option linter.unusedVariables false
open Go.RowKit
theorem sh_zero (key : Int) : sh 0 key = key := by unfold sh; simp
/-- What a level is told is what level 0 is told, of the keys there. -/
theorem sumIf_stP (C : Cfg) (n : Nat) (p : Int → Bool) : ∀ us : List (Int × Int), sumIf p (stP C n us) = sumIf (fun k => p (sh n k)) (stP C 0 us)
  | [] => rfl
  | u :: us => by
    have ih := sumIf_stP C n p us
    show sumIf p ((sh n (cutK C 0 u.1), cutD C.mode u.2) :: stP C n us) = sumIf (fun k => p (sh n k)) ((sh 0 (cutK C 0 u.1), cutD C.mode u.2) :: stP C 0 us)
    rw [sumIf_cons, sumIf_cons, ih, sh_zero]
end Go.Proofs.Ytfhdjekpdifajaa
namespace Go.Proofs.Ytfhdjekpdifajaa
set_option linter.unusedVariables false
open Go.RowKit
def pcS (ps : List (Int × Int)) (n : Nat) (i : Int) : Int := sumIf (fun u => sh n u == i) ps
end Go.Proofs.Ytfhdjekpdifajaa
namespace Go.Proofs.Ytfhdjekpdifajaa
set_option linter.unusedVariables false
open Go.RowKit
@[go_sem] theorem fld_bits (b r c m s : Int) (w : World) : (Instr.field 24 (.agg #[.int .i64 b, .int .i64 r, .int .i64 c, .int .i64 m, .int .u64 s]) 0).run Try.prog w = .ok (.int .i64 b) w := by kernel_rfl
end Go.Proofs.Ytfhdjekpdifajaa
namespace Go.Proofs.Ytfhdjekpdifajaa
set_option linter.unusedVariables false
open Go.RowKit
/-- The pairs that a stack is told. -/
def psU (C : Cfg) (us : List (Int × Int)) : List (Int × Int) := stP C 0 (fus us 0 60)
open Classical in
/-- What a piece is told. -/
noncomputable def ptK (C : Cfg) (B : Nat) (us : List (Int × Int)) (n : Nat) (i : Int) : Int :=
  if h : n ≤ B ∧ 0 ≤ i ∧ i < keys C n ∧ ∃ x, lvPt C n (feedK C (fus us 0 60) n) i x then Classical.choose h.2.2.2 else pcS (psU C us) n i
theorem kth_mem {l : List Int} {k : Nat} {x : Int} (h : IsKth l k x) : x ∈ l := by
  obtain ⟨h1, h2⟩ := h
  have : 0 < sameN x l := by omega
  unfold sameN at this
  obtain ⟨y, hy⟩ := List.exists_mem_of_length_pos this
  simp only [List.mem_filter] at hy
  obtain ⟨hy1, hy2⟩ := hy
  have : y = x := by simpa using hy2
  rw [← this]; exact hy1
theorem fed_bnd (C : Cfg) (us : List (Int × Int)) (n : Nat) : Bnd 65970697666560 (feedK C (fus us 0 60) n) := by
  intro x hx
  have := feedK_bnd C (fus us 0 60) n x hx
  have hl := fus_len us 0 60
  omega
theorem lvPt_bnd {C : Cfg} {us : List (Int × Int)} {n : Nat} {i x : Int} (h : lvPt C n (feedK C (fus us 0 60) n) i x) : -65970697666560 ≤ x ∧ x ≤ 65970697666560 := by
  have hb := fed_bnd C us n
  rcases h with ⟨_, rfl⟩ | ⟨_, h⟩
  · exact hb.getD (by decide) _
  · have hm := kth_mem h
    unfold readL at hm
    simp only [List.mem_map, List.mem_range] at hm
    obtain ⟨r, _, rfl⟩ := hm
    exact hb.getD (by decide) _
theorem psU_bnd (C : Cfg) (us : List (Int × Int)) (p : Int → Bool) : -65970697666560 ≤ sumIf p (psU C us) ∧ sumIf p (psU C us) ≤ 65970697666560 := by
  have := sumIf_bnd p 1099511627776 (by decide) (psU C us) (stP_bnd C 0 _)
  have hl := fus_len us 0 60
  have hs : (psU C us).length = (fus us 0 60).length := stP_len C 0 _
  omega
theorem ptK_of {C : Cfg} {B : Nat} {us : List (Int × Int)} {n : Nat} {i x : Int} (hn : n ≤ B) (h0 : 0 ≤ i) (h1 : i < keys C n) (h : lvPt C n (feedK C (fus us 0 60) n) i x) : x = ptK C B us n i := by
  have hx : n ≤ B ∧ 0 ≤ i ∧ i < keys C n ∧ ∃ x, lvPt C n (feedK C (fus us 0 60) n) i x := ⟨hn, h0, h1, x, h⟩
  unfold ptK
  rw [dif_pos hx]
  exact lvPt_unique h (Classical.choose_spec hx.2.2.2)
theorem ptK_bnd (C : Cfg) (B : Nat) (us : List (Int × Int)) (n : Nat) (i : Int) : -65970697666560 ≤ ptK C B us n i ∧ ptK C B us n i ≤ 65970697666560 := by
  unfold ptK
  split
  · rename_i h
    exact lvPt_bnd (Classical.choose_spec h.2.2.2)
  · exact psU_bnd C us _
theorem hasK_pc (C : Cfg) (us : List (Int × Int)) (n : Nat) (j : Int) : hasK C us 60 n j = pcS (psU C us) n j := by
  unfold hasK hasP pcS psU
  exact sumIf_stP C n _ _
/-- Of an exact level. -/
theorem ptK_x {C : Cfg} (hok : C.Ok) {B : Nat} (hB : C.bits = B) {us : List (Int × Int)} (hus : UpsOk us) {n : Nat} (hn : n ≤ B) {i : Int} (h0 : 0 ≤ i) (h1 : i < keys C n) (hx : isX C n = true) : ptK C B us n i = pcS (psU C us) n i := by
  have h : lvPt C n (feedK C (fus us 0 60) n) i ((feedK C (fus us 0 60) n).getD i.toNat 0) := .inl ⟨hx, rfl⟩
  rw [← ptK_of hn h0 h1 h, ← hasK_pc]
  exact pt_x hok (by omega) hus hx h0 h
end Go.Proofs.Ytfhdjekpdifajaa
namespace Go.Proofs.Ytfhdjekpdifajaa
set_option linter.unusedVariables false
open Go.RowKit
/-- What the first k updates bring to the column of row r, but for the piece's own. -/
def gOth (C : Cfg) (us : List (Int × Int)) (n : Nat) (j : Int) (r k : Nat) : Int := othP C n j r (stP C n (fus us 0 k))
theorem gOth_zero (C : Cfg) (us : List (Int × Int)) (n : Nat) (j : Int) (r : Nat) : gOth C us n j r 0 = 0 := by unfold gOth; rw [fus_self]; rfl
theorem gOth_bd (C : Cfg) (us : List (Int × Int)) (n : Nat) (j : Int) (r : Nat) {k : Nat} (hk : k ≤ 60) : -65970697666560 ≤ gOth C us n j r k ∧ gOth C us n j r k ≤ 65970697666560 := by
  have := sumIf_bnd (fun x => !(x == j) && sameCol C n j r x) 1099511627776 (by decide) (stP C n (fus us 0 k)) (stP_bnd C n _)
  have hl := fus_len us 0 k
  rw [stP_len] at this
  unfold gOth othP
  omega
theorem gOth_succ (C : Cfg) (us : List (Int × Int)) {k : Nat} (hk : k < us.length) (n : Nat) (j : Int) (r : Nat) :
    gOth C us n j r (k + 1) = gOth C us n j r k + (bif !(sh n (cutK C 0 us[k].1) == j) && ((cols C n (sh n (cutK C 0 us[k].1))).getD r 0 == (cols C n j).getD r 0) then cutD C.mode us[k].2 else 0) := by
  have hget : us.getD k (0, 0) = us[k] := by simp [hk]
  unfold gOth
  rw [fus_snoc us (Nat.zero_le k) hk, stP_snoc, hget]
  exact sumIf_snoc _ _ _
theorem gOth_end (C : Cfg) (us : List (Int × Int)) {k : Nat} (h60 : k ≤ 60) (hl : k ≤ us.length) (he : ¬ (k < us.length ∧ k < 60)) (n : Nat) (j : Int) (r : Nat) : gOth C us n j r k = gOth C us n j r 60 := by
  unfold gOth; rw [fus_end us (i := 0) (j := 60) (k := k) (by omega) (by omega) (.inr ⟨h60, hl⟩) he]
def guessK (C : Cfg) (us : List (Int × Int)) (n : Nat) (j : Int) : Int := hasK C us 60 n j + bif isX C n then 0 else leastF (fun r => gOth C us n j r 60) (rN C)
theorem min_kth {l : List Int} (h : l ≠ []) : IsKth l 0 (minL l) := by
  obtain ⟨h1, h2⟩ := minL_spec l h
  exact ⟨by rw [less_nil h2]; exact Nat.le_refl _, by have := same_mem h1; omega⟩
theorem ptK_lin {C : Cfg} (hok : C.Ok) {B : Nat} (hB : C.bits = B) {us : List (Int × Int)} (hus : UpsOk us) (hm : C.mode = 1) {n : Nat} (hn : n ≤ B) {j : Int} (h0 : 0 ≤ j) (h1 : j < keys C n) : ptK C B us n j = guessK C us n j := by
  cases hx : isX C n with
  | true =>
    rw [ptK_x hok hB hus hn h0 h1 hx, ← hasK_pc]
    unfold guessK
    rw [hx]
    exact (Int.add_zero _).symm
  | false =>
    have hr := rN_eq hok
    have hw := wN_eq hok
    have hR : 0 < rN C := by have := hok.r1; omega
    have hn' : (n : Int) ≤ C.bits := by omega
    have hs := stP_cutP hok hn' (fus_ok hus 0 60)
    have hk : IsKth (readL (wN C) (feedK C (fus us 0 60) n) (cols C n j)) 0 (minL (readL (wN C) (feedK C (fus us 0 60) n) (cols C n j))) := by
      refine min_kth (fun e => ?_)
      have := congrArg List.length e
      rw [readL_len, cols_len] at this
      have h2 : C.rows.toNat = rN C := rfl
      rw [h2] at this
      simp at this
      omega
    have hp : lvPt C n (feedK C (fus us 0 60) n) j (minL (readL (wN C) (feedK C (fus us 0 60) n) (cols C n j))) := .inr ⟨hx, by rw [if_neg (by omega)]; exact hk⟩
    rw [← ptK_of hn h0 h1 hp]
    rw [feedK_s hok hn' (fus_ok hus 0 60) hx, read_cell C hok n (rN C) (wN C) hr hw (by omega), hs] at hk ⊢
    rw [least_of hk]
    unfold guessK hasK
    rw [hx]
    rfl
end Go.Proofs.Ytfhdjekpdifajaa
namespace Go.Proofs.Ytfhdjekpdifajaa
set_option linter.unusedVariables false
open Go.RowKit
theorem times_odd {o x y A B : Int} (hy : y % 2 = 1) (h : (o + x * y) % 18446744073709551616 = (A * B) % 18446744073709551616) :
    ((o + x) % 18446744073709551616 + (x + x) % 18446744073709551616 * (y / 2)) % 18446744073709551616 = (A * B) % 18446744073709551616 := by
  rw [← h, Int.add_emod, Int.emod_emod_of_dvd _ (Int.dvd_refl _), Int.mul_emod, Int.emod_emod_of_dvd _ (Int.dvd_refl _), ← Int.mul_emod, ← Int.add_emod]
  congr 1
  have : y = 2 * (y / 2) + 1 := by omega
  generalize y / 2 = q at *
  subst this
  rw [Int.mul_add, Int.mul_one, ← Int.mul_assoc, Int.mul_comm x 2, Int.add_assoc, Int.add_comm x, show x + x = 2 * x by omega]
theorem times_even {o x y A B : Int} (hy : y % 2 = 0) (h : (o + x * y) % 18446744073709551616 = (A * B) % 18446744073709551616) :
    (o + (x + x) % 18446744073709551616 * (y / 2)) % 18446744073709551616 = (A * B) % 18446744073709551616 := by
  rw [← h, Int.add_emod, Int.mul_emod, Int.emod_emod_of_dvd _ (Int.dvd_refl _), ← Int.mul_emod, ← Int.add_emod]
  congr 1
  have : y = 2 * (y / 2) := by omega
  generalize y / 2 = q at *
  subst this
  rw [← Int.mul_assoc, Int.mul_comm x 2, show x + x = 2 * x by omega]
set_option maxRecDepth 20000 in
set_option maxHeartbeats 2000000 in
theorem times_c (A B : Int) (hA : U64 A) (hB : U64 B) (w : World) :
    Calls Try.prog 52 #[.int .u64 A, .int .u64 B] w fun e w' => e = .returned (.int .u64 (wu (A * B))) ∧ Ext w w' := by
  have hAB : wu (A * B) = (A * B) % 18446744073709551616 := by unfold wu; rw [IntKind.wrap_u64]
  have HAB := Lib.hid hAB
  clear hAB
  go_enter Try.func52, Try.ntmps52
  go_wp2
  go_loop [5, 0, 1] (fun p u v => ∃ (o x y : Int), p = .int .u64 o ∧ u = .int .u64 x ∧ v = .int .u64 y ∧ U64 o ∧ U64 x ∧ U64 y ∧ (o + x * y) % 18446744073709551616 = (A * B) % 18446744073709551616) (fun _ _ v => (intOf v).toNat)
  case atStart => exact ⟨0, A, B, rfl, rfl, rfl, by unfold U64; omega, hA, hB, by rw [Int.zero_add]⟩
  case round =>
    obtain ⟨o, x, y, rfl, rfl, rfl, ho, hx, hy, hI⟩ := hrel
    have HI := Lib.hid hI
    clear hI
    obtain ⟨o0, o1⟩ := ho
    obtain ⟨x0, x1⟩ := hx
    obtain ⟨y0, y1⟩ := hy
    by_cases hgo : 0 < y
    · rcases (by omega : y % 2 = 0 ∨ y % 2 = 1) with hp | hp
      · have hpt : y.tmod 2 = 0 := by rw [Int.tmod_eq_emod_of_nonneg y0]; exact hp
        go_wp2
        go_round
        case rel =>
          refine ⟨o, _, _, rfl, rfl, rfl, ⟨o0, o1⟩, wu_u _, ?_, ?_⟩
          · unfold U64; omega
          · have := times_even hp HI.out
            simpa only [IntKind.wrap_u64] using this
        case measure => simp [intOf]; omega
      · have hpt : y.tmod 2 = 1 := by rw [Int.tmod_eq_emod_of_nonneg y0]; exact hp
        go_wp2
        go_round
        case rel =>
          refine ⟨_, _, _, rfl, rfl, rfl, wu_u _, wu_u _, ?_, ?_⟩
          · unfold U64; omega
          · have := times_odd hp HI.out
            simpa only [IntKind.wrap_u64] using this
        case measure => simp [intOf]; omega
    · go_wp2
      go_ret
      have : y = 0 := by omega
      subst this
      have h2 := HI.out
      rw [Int.mul_zero, Int.add_zero, Int.emod_eq_of_lt o0 (by omega)] at h2
      exact ⟨by rw [HAB.out, ← h2]; rfl, Ext.refl _⟩
end Go.Proofs.Ytfhdjekpdifajaa
namespace Go.Proofs.Ytfhdjekpdifajaa
set_option linter.unusedVariables false
open Go.RowKit
theorem or_swap (x y : Int) : bits BinOp.or IntKind.u64 x y = bits BinOp.or IntKind.u64 y x := by
  show IntKind.u64.wrap ((BitVec.ofInt 64 x ||| BitVec.ofInt 64 y).toNat : Int) = IntKind.u64.wrap ((BitVec.ofInt 64 y ||| BitVec.ofInt 64 x).toNat : Int)
  rw [BitVec.or_comm]
theorem bit_and {Z : Nat} (hZ : Z < 18446744073709551616) (i : Nat) : bits BinOp.and IntKind.u64 ((Z : Int) / 2 ^ i) 1 = ((Z.testBit i).toNat : Nat) := by
  have e : (Z : Int) / 2 ^ i = ((Z / 2 ^ i : Nat) : Int) := by push_cast; rfl
  have h : Z / 2 ^ i ≤ Z := Nat.div_le_self _ _
  rw [e, Nat.toNat_testBit]
  generalize Z / 2 ^ i = q at *
  rw [and_1 _ (by omega) (by omega)]
  omega
theorem xor_bit (a b : Bool) : bits BinOp.xor IntKind.u64 ((a.toNat : Nat) : Int) ((b.toNat : Nat) : Int) = (((a ^^ b).toNat : Nat) : Int) := by
  cases a <;> cases b <;> decide
theorem or_bit {O i : Nat} (hO : O < 2 ^ i) (hi : i < 64) (t : Bool) : bits BinOp.or IntKind.u64 (O : Int) (IntKind.u64.wrap (((t.toNat : Nat) : Int) * 2 ^ i)) = ((O + 2 ^ i * t.toNat : Nat) : Int) := by
  have hp : 2 ^ i < 2 ^ 64 := Nat.pow_lt_pow_right (by decide) hi
  have h64 : (2 : Nat) ^ 64 = 18446744073709551616 := by decide
  have e : ((t.toNat : Nat) : Int) * 2 ^ i = ((2 ^ i * t.toNat : Nat) : Int) := by push_cast; rw [Int.mul_comm]
  have hb : 2 ^ i * t.toNat ≤ 2 ^ i := by cases t <;> simp
  rw [e, IntWalk.u64_in _ (by omega), or_swap, or_add _ _ i (by omega) (by omega) (by omega) ?_ (by omega) (by exact_mod_cast hO)]
  · push_cast; omega
  · exact ⟨((t.toNat : Nat) : Int), by push_cast; rfl⟩
theorem shake_step {Z b i : Nat} (hZ : Z < 18446744073709551616) (hi : i < 64) {O : Nat} (hO : (Z ^^^ (Z >>> b)) % 2 ^ i = O) :
    bits BinOp.or IntKind.u64 (O : Int) (IntKind.u64.wrap (bits BinOp.xor IntKind.u64 (bits BinOp.and IntKind.u64 ((Z : Int) / 2 ^ i) 1) (bits BinOp.and IntKind.u64 ((Z : Int) / 2 ^ (i + b)) 1) * 2 ^ i)) = (((Z ^^^ (Z >>> b)) % 2 ^ (i + 1) : Nat) : Int) := by
  rw [bit_and hZ, bit_and hZ, xor_bit, or_bit (by rw [← hO]; exact Nat.mod_lt _ (Nat.two_pow_pos i)) hi, Nat.mod_pow_succ, ← Nat.toNat_testBit, hO, Nat.testBit_xor, Nat.testBit_shiftRight, Nat.add_comm b i]
theorem shake_top {Z b i : Nat} (hZ : Z < 18446744073709551616) (hi : i < 64) (hb : 64 ≤ i + b) {O : Nat} (hO : (Z ^^^ (Z >>> b)) % 2 ^ i = O) :
    bits BinOp.or IntKind.u64 (O : Int) (IntKind.u64.wrap (bits BinOp.and IntKind.u64 ((Z : Int) / 2 ^ i) 1 * 2 ^ i)) = (((Z ^^^ (Z >>> b)) % 2 ^ (i + 1) : Nat) : Int) := by
  have h2 : Z.testBit (b + i) = false := Nat.testBit_lt_two_pow (Nat.lt_of_lt_of_le (show Z < 2 ^ 64 from hZ) (Nat.pow_le_pow_right (by decide) (by omega)))
  rw [bit_and hZ, or_bit (by rw [← hO]; exact Nat.mod_lt _ (Nat.two_pow_pos i)) hi, Nat.mod_pow_succ, ← Nat.toNat_testBit, hO, Nat.testBit_xor, Nat.testBit_shiftRight, h2, Bool.xor_false]
theorem xsh_nat {Z : Nat} (hZ : Z < 18446744073709551616) (b : Nat) : xsh (Z : Int) ((2 : Int) ^ b) = ((Z ^^^ (Z >>> b) : Nat) : Int) := by
  have e : (Z : Int) / 2 ^ b = ((Z / 2 ^ b : Nat) : Int) := by push_cast; rfl
  have h : Z / 2 ^ b ≤ Z := Nat.div_le_self _ _
  unfold xsh
  rw [e]
  show IntKind.u64.wrap ((BitVec.ofInt 64 (Z : Int) ^^^ BitVec.ofInt 64 ((Z / 2 ^ b : Nat) : Int)).toNat : Int) = _
  rw [BitVec.toNat_xor, BitVec.ofInt_natCast, BitVec.ofInt_natCast, BitVec.toNat_ofNat, BitVec.toNat_ofNat, Nat.mod_eq_of_lt (a := Z) hZ, Nat.mod_eq_of_lt (a := Z / 2 ^ b) (by omega), Nat.shiftRight_eq_div_pow]
  have : Z ^^^ (Z / 2 ^ b) < 2 ^ 64 := Nat.xor_lt_two_pow hZ (by omega)
  exact IntWalk.u64_in _ (by omega)
end Go.Proofs.Ytfhdjekpdifajaa
namespace Go.Proofs.Ytfhdjekpdifajaa
set_option linter.unusedVariables false
open Go.RowKit
set_option maxRecDepth 20000 in
set_option maxHeartbeats 4000000 in
theorem shaken_c (Z b : Nat) (hZ : Z < 18446744073709551616) (hb : 0 < b) (hb2 : b < 64) (w : World) :
    Calls Try.prog 55 #[.int .u64 Z, .int .i64 b] w fun e w' => e = .returned (.int .u64 ((Z ^^^ (Z >>> b) : Nat) : Int)) ∧ Ext w w' := by
  go_enter Try.func55, Try.ntmps55
  go_wp2
  go_loop [5, 6] (fun p u => ∃ (i : Nat), i ≤ 64 ∧ p = .int .u64 (((Z ^^^ (Z >>> b)) % 2 ^ i : Nat) : Int) ∧ u = .int .i64 i) (fun _ u => 64 - (intOf u).toNat)
  case atStart => exact ⟨0, by omega, by simp [Nat.mod_one], rfl⟩
  case round =>
    obtain ⟨i, hi, rfl, rfl⟩ := hrel
    obtain ⟨O, hO⟩ : ∃ O : Nat, (Z ^^^ (Z >>> b)) % 2 ^ i = O := ⟨_, rfl⟩
    rw [hO]
    have HO := Lib.hid hO
    clear hO
    by_cases hgo : i < 64
    · by_cases hgb : i + b < 64
      · have hgb' : ((i : Int) + b) < 64 := by omega
        go_wp2
        go_round
        case rel => exact ⟨i + 1, by omega, by rw [shake_step hZ hgo HO.out], by push_cast; rfl⟩
        case measure => simp [intOf]; omega
      · have hgb' : 64 ≤ (i : Int) + b := by omega
        have hgb2 : decide ((i : Int) + b < 64) = false := by simp; omega
        go_wp2
        go_round
        case rel => exact ⟨i + 1, by omega, by rw [shake_top hZ hgo (by omega) HO.out], by push_cast; rfl⟩
        case measure => simp [intOf]; omega
    · go_wp2
      go_ret
      obtain rfl : i = 64 := by omega
      have h2 := HO.out
      have h3 : Z >>> b ≤ Z := by rw [Nat.shiftRight_eq_div_pow]; exact Nat.div_le_self _ _
      have h4 : Z ^^^ (Z >>> b) < 2 ^ 64 := Nat.xor_lt_two_pow hZ (by omega)
      rw [Nat.mod_eq_of_lt h4] at h2
      exact ⟨by rw [h2]; rfl, Ext.refl _⟩
end Go.Proofs.Ytfhdjekpdifajaa
namespace Go.Proofs.Ytfhdjekpdifajaa
set_option linter.unusedVariables false
open Go.RowKit
theorem shaken_z (z : Int) (hz : U64 z) (b : Nat) (d : Int) (hd : (2 : Int) ^ b = d) (hb : 0 < b) (hb2 : b < 64) (w : World) :
    Calls Try.prog 55 #[.int .u64 z, .int .i64 (b : Int)] w fun e w' => e = .returned (.int .u64 (xsh z d)) ∧ Ext w w' := by
  obtain ⟨Z, rfl⟩ := Int.eq_ofNat_of_zero_le hz.1
  have hZ : Z < 18446744073709551616 := by have := hz.2; omega
  rw [← hd, xsh_nat hZ]
  exact shaken_c Z b hZ hb hb2 w
set_option maxRecDepth 20000 in
set_option maxHeartbeats 2000000 in
theorem MixR_c (z : Int) (h : U64 z) (w : World) :
    Calls Try.prog 51 #[.int .u64 z] w fun e w' => e = .returned (.int .u64 (mix z)) ∧ Ext w w' := by
  go_enter Try.func51, Try.ntmps51
  go_wp2_with fail
  refine Calls.mono (shaken_z z h 30 1073741824 (by decide) (by decide) (by decide) _) ?_
  rintro e w1 ⟨rfl, hx1⟩
  go_wp2_with fail
  refine Calls.mono (times_c _ C1 (xsh_u _ _) (by unfold U64 C1; omega) _) ?_
  rintro e w2 ⟨rfl, hx2⟩
  go_wp2_with fail
  refine Calls.mono (shaken_z _ (wu_u _) 27 134217728 (by decide) (by decide) (by decide) _) ?_
  rintro e w3 ⟨rfl, hx3⟩
  go_wp2_with fail
  refine Calls.mono (times_c _ C2 (xsh_u _ _) (by unfold U64 C2; omega) _) ?_
  rintro e w4 ⟨rfl, hx4⟩
  go_wp2_with fail
  refine Calls.mono (shaken_z _ (wu_u _) 31 2147483648 (by decide) (by decide) (by decide) _) ?_
  rintro e w5 ⟨rfl, hx5⟩
  go_wp2
  go_ret
  exact ⟨rfl, hx1.trans' (hx2.trans' (hx3.trans' (hx4.trans' hx5)))⟩
set_option maxRecDepth 20000 in
set_option maxHeartbeats 2000000 in
theorem DrawR_c (s i : Int) (hs : U64 s) (hi : 0 ≤ i) (hi' : i < 10000) (w : World) :
    Calls Try.prog 47 #[.int .u64 s, .int .u64 i] w fun e w' => e = .returned (.int .u64 (drw s i)) ∧ Ext w w' := by
  have e1 : drw s i = mix (wu (s + wu ((i + 1) * GD))) := by
    unfold drw; rw [show wu (i + 1) = i + 1 from IntWalk.u64_in _ (by omega)]
  have HE := Lib.hid e1
  clear e1
  go_enter Try.func47, Try.ntmps47
  go_wp2_with fail
  refine Calls.mono (times_c (i + 1) GD (by unfold U64; omega) (by unfold U64 GD; omega) _) ?_
  rintro e w1 ⟨rfl, hx1⟩
  go_wp2_with fail
  refine Calls.mono (MixR_c _ (wu_u _) _) ?_
  rintro e w2 ⟨rfl, hx2⟩
  go_wp2
  go_ret
  exact ⟨by rw [HE.out]; rfl, hx1.trans' hx2⟩
set_option maxRecDepth 20000 in
set_option maxHeartbeats 2000000 in
theorem PairR_c (s l r : Int) (hs : U64 s) (hl : 0 ≤ l) (hl' : l ≤ 59) (hr : 0 ≤ r) (hr' : r < 8) (w : World) :
    Calls Try.prog 37 #[.int .u64 s, .int .i64 l, .int .i64 r] w fun e w' => e = .returned (.tuple #[.int .u64 (prA s l r), .int .u64 (prB s l r)]) ∧ Ext w w' := by
  have g1 : decide (l < 0) = false := by simp; omega
  have g2 : decide (59 < l) = false := by simp; omega
  have g3 : decide (r < 0) = false := by simp; omega
  have g4 : decide (7 < r) = false := by simp; omega
  have e1 : prA s l r = 1 + drw s (16 * l + 2 * r) % 2305843009213693950 := by unfold prA; rw [show 2 * (l * 8 + r) = 16 * l + 2 * r by omega]
  have e2 : prB s l r = drw s (16 * l + 2 * r + 1) % 2305843009213693951 := by unfold prB; rw [show 2 * (l * 8 + r) = 16 * l + 2 * r by omega]
  have H1 := Lib.hid e1
  have H2 := Lib.hid e2
  have b1 := drw_u s (16 * l + 2 * r)
  have b2 := drw_u s (16 * l + 2 * r + 1)
  obtain ⟨b11, b12⟩ := b1
  obtain ⟨b21, b22⟩ := b2
  clear e1 e2
  go_enter Try.func37, Try.ntmps37
  go_wp2_with fail
  refine Calls.mono (DrawR_c _ _ hs (by omega) (by omega) _) ?_
  rintro e w1 ⟨rfl, hb1⟩
  go_wp2_with fail
  refine Calls.mono (DrawR_c _ _ hs (by omega) (by omega) _) ?_
  rintro e w2 ⟨rfl, hb2⟩
  go_wp2
  go_ret2
  exact ⟨by rw [H1.out, H2.out]; rfl, hb1.trans' hb2⟩
end Go.Proofs.Ytfhdjekpdifajaa
namespace Go.Proofs.Ytfhdjekpdifajaa
set_option linter.unusedVariables false
open Go.RowKit
theorem fmul_mod (a b : Int) : fmul a b = (fold a * fold b) % 2305843009213693951 := by
  unfold fmul fadd fold
  generalize a % 2305843009213693951 * (b % 2305843009213693951) = n
  omega
theorem fmul_swap (a b : Int) : fmul a b = fmul b a := by rw [fmul_mod, fmul_mod, Int.mul_comm]
theorem mulp_odd {o x y A B : Int} (hy : y % 2 = 1) (h : (o + x * y) % 2305843009213693951 = (A * B) % 2305843009213693951) :
    ((o + x) % 2305843009213693951 + (x + x) % 2305843009213693951 * (y / 2)) % 2305843009213693951 = (A * B) % 2305843009213693951 := by
  rw [← h, Int.add_emod, Int.emod_emod_of_dvd _ (Int.dvd_refl _), Int.mul_emod, Int.emod_emod_of_dvd _ (Int.dvd_refl _), ← Int.mul_emod, ← Int.add_emod]
  congr 1
  have : y = 2 * (y / 2) + 1 := by omega
  generalize y / 2 = q at *
  subst this
  rw [Int.mul_add, Int.mul_one, ← Int.mul_assoc, Int.mul_comm x 2, Int.add_assoc, Int.add_comm x, show x + x = 2 * x by omega]
theorem mulp_even {o x y A B : Int} (hy : y % 2 = 0) (h : (o + x * y) % 2305843009213693951 = (A * B) % 2305843009213693951) :
    (o + (x + x) % 2305843009213693951 * (y / 2)) % 2305843009213693951 = (A * B) % 2305843009213693951 := by
  rw [← h, Int.add_emod, Int.mul_emod, Int.emod_emod_of_dvd _ (Int.dvd_refl _), ← Int.mul_emod, ← Int.add_emod]
  congr 1
  have : y = 2 * (y / 2) := by omega
  generalize y / 2 = q at *
  subst this
  rw [← Int.mul_assoc, Int.mul_comm x 2, show x + x = 2 * x by omega]
set_option maxRecDepth 20000 in
set_option maxHeartbeats 2000000 in
theorem MulR_c (a b : Int) (ha : U64 a) (hb : U64 b) (w : World) :
    Calls Try.prog 54 #[.int .u64 a, .int .u64 b] w fun e w' => e = .returned (.int .u64 (fmul a b)) ∧ Ext w w' := by
  obtain ⟨a0, a1⟩ := ha
  obtain ⟨b0, b1⟩ := hb
  have HF := Lib.hid (fmul_mod a b)
  have hfa := fold_bd a
  have hfb := fold_bd b
  have HA := Lib.hid (show fold a = a % 2305843009213693951 from rfl)
  have HB := Lib.hid (show fold b = b % 2305843009213693951 from rfl)
  go_enter Try.func54, Try.ntmps54
  go_wp2
  rw [← HA.out, ← HB.out]
  generalize fold a = A at *
  generalize fold b = B at *
  go_loop [7, 5, 6] (fun p u v => ∃ (o x y : Int), p = .int .u64 o ∧ u = .int .u64 x ∧ v = .int .u64 y ∧ (0 ≤ o ∧ o < 2305843009213693951) ∧ (0 ≤ x ∧ x < 2305843009213693951) ∧ U64 y ∧ (o + x * y) % 2305843009213693951 = (A * B) % 2305843009213693951) (fun _ _ v => (intOf v).toNat)
  case atStart => exact ⟨0, A, B, rfl, rfl, rfl, by omega, hfa, by unfold U64; omega, by rw [Int.zero_add]⟩
  case round =>
    obtain ⟨o, x, y, rfl, rfl, rfl, ho, hx, hy, hI⟩ := hrel
    have HI := Lib.hid hI
    clear hI
    obtain ⟨o0, o1⟩ := ho
    obtain ⟨x0, x1⟩ := hx
    obtain ⟨y0, y1⟩ := hy
    by_cases hgo : 0 < y
    · rcases (by omega : y % 2 = 0 ∨ y % 2 = 1) with hp | hp
      · have hpt : y.tmod 2 = 0 := by rw [Int.tmod_eq_emod_of_nonneg y0]; exact hp
        go_wp2
        go_round
        case rel => exact ⟨o, _, _, rfl, rfl, rfl, ⟨o0, o1⟩, by omega, by unfold U64; omega, mulp_even hp HI.out⟩
        case measure => simp [intOf]; omega
      · have hpt : y.tmod 2 = 1 := by rw [Int.tmod_eq_emod_of_nonneg y0]; exact hp
        go_wp2
        go_round
        case rel => exact ⟨_, _, _, rfl, rfl, rfl, by omega, by omega, by unfold U64; omega, mulp_odd hp HI.out⟩
        case measure => simp [intOf]; omega
    · go_wp2
      go_ret
      have : y = 0 := by omega
      subst this
      have h2 := HI.out
      rw [Int.mul_zero, Int.add_zero, Int.emod_eq_of_lt o0 (by omega)] at h2
      exact ⟨by rw [HF.out, ← h2]; rfl, Ext.refl _⟩
set_option maxRecDepth 20000 in
set_option maxHeartbeats 2000000 in
theorem AddR_c (a b : Int) (ha : U64 a) (hb : U64 b) (w : World) :
    Calls Try.prog 53 #[.int .u64 a, .int .u64 b] w fun e w' => e = .returned (.int .u64 (fadd a b)) ∧ Ext w w' := by
  obtain ⟨a0, a1⟩ := ha
  obtain ⟨b0, b1⟩ := hb
  go_enter Try.func53, Try.ntmps53
  go_wp2
  go_ret
  exact ⟨rfl, Ext.refl _⟩
set_option maxRecDepth 20000 in
set_option maxHeartbeats 2000000 in
theorem LineR_c (a b x : Int) (ha : U64 a) (hb : U64 b) (hx : U64 x) (w : World) :
    Calls Try.prog 48 #[.int .u64 a, .int .u64 b, .int .u64 x] w fun e w' => e = .returned (.int .u64 (lineAt a b x)) ∧ Ext w w' := by
  go_enter Try.func48, Try.ntmps48
  go_wp2_with fail
  refine Calls.mono (MulR_c x a hx ha _) ?_
  rintro e w1 ⟨rfl, h1⟩
  go_wp2_with fail
  refine Calls.mono (AddR_c _ b (fmul_u _ _) hb _) ?_
  rintro e w2 ⟨rfl, h2⟩
  go_wp2
  go_ret
  exact ⟨by unfold lineAt; rw [fmul_swap a x]; rfl, h1.trans' h2⟩
set_option maxRecDepth 20000 in
set_option maxHeartbeats 2000000 in
theorem BucketR_c (a b x wd : Int) (ha : U64 a) (hb : U64 b) (hx : U64 x) (h1 : 1 ≤ wd) (h2 : wd ≤ 1000000) (w : World) :
    Calls Try.prog 38 #[.int .u64 a, .int .u64 b, .int .u64 x, .int .i64 wd] w fun e w' => e = .returned (.int .i64 (bkt a b x wd)) ∧ Ext w w' := by
  have g : decide (wd < 1) = false := by simp; omega
  have hu : U64 (lineAt a b x) := fadd_u _ _
  obtain ⟨u1, u2⟩ := hu
  have hb1 := bkt_bd a b x wd h1
  unfold bkt at hb1
  go_enter Try.func38, Try.ntmps38
  go_wp2_with fail
  refine Calls.mono (LineR_c _ _ _ ha hb hx _) ?_
  rintro e w1 ⟨rfl, hb⟩
  go_wp2
  go_ret
  exact ⟨rfl, hb⟩
end Go.Proofs.Ytfhdjekpdifajaa
namespace Go.Proofs.Ytfhdjekpdifajaa
set_option linter.unusedVariables false
open Go.RowKit
theorem cols_take {c : Cfg} {l key : Int} {k : Nat} (hk : k < c.rows.toNat) : (cols c l key).take (k + 1) = (cols c l key).take k ++ [col c l key k] := by
  unfold cols
  rw [← List.map_take, ← List.map_take, List.take_range, List.take_range, Nat.min_eq_left (by omega), Nat.min_eq_left (by omega), List.range_succ, List.map_append]
  rfl
set_option maxRecDepth 20000 in
set_option maxHeartbeats 4000000 in
theorem ColumnsR_c (c : Cfg) (h : c.Ok) (l key : Int) (h0 : 0 ≤ l) (h1 : l ≤ c.bits) (hk0 : 0 ≤ key) (hk1 : key < keys c l) (w : World) :
    Calls Try.prog 25 #[.agg #[.int .i64 c.bits, .int .i64 c.rows, .int .i64 c.width, .int .i64 c.mode, .int .u64 c.seed], .int .i64 l, .int .u64 key] w fun e w' =>
      ∃ v, e = .returned v ∧ w'.ownsRow w.heap.size 3 1 v c.rows.toNat (ints (cols c l key)) ∧ Ext w w' := by
  have hkb := keys_bd c h l h0
  have hg : decide (keys c l ≤ key) = false := by simp; omega
  have hl59 : l ≤ 59 := by have := h.b2; omega
  have hw1 := h.w1
  have hw2 := h.w2
  have hr1 := h.r1
  have hr2 := h.r2
  have hsd := h.s
  obtain ⟨R, hR⟩ : ∃ R : Nat, c.rows = R := ⟨c.rows.toNat, by omega⟩
  have hRt : c.rows.toNat = R := by omega
  have hR8 : R ≤ 8 := by omega
  have HR := Lib.hid hR
  have HRT := Lib.hid hRt
  have HKU := Lib.hid (show U64 key by unfold U64; omega)
  rw [hRt]
  clear hRt hR
  go_enter Try.func25, Try.ntmps25
  go_wp2_with fail
  refine Calls.mono (KeysR_c c h l h0 h1 _) ?_
  rintro e w1 ⟨rfl, hb1⟩
  have hbx : w1.heap[w.heap.size]? = some (.cells #[.int .i64 c.bits, .int .i64 c.rows, .int .i64 c.width, .int .i64 c.mode, .int .u64 c.seed] 24 (0, 0)) := by
    rw [hb1.block _ (by simp only [size_alloc]; omega), heap_old _ _ (by rw [size_alloc]; omega)]
    exact heap_at _ _ rfl
  have hrw : w1.heap[w.heap.size + 1]? = some (.cells #[] 3 (0, 0)) := by
    rw [hb1.block _ (by simp only [size_alloc]; omega)]
    exact heap_at _ _ (by rw [size_alloc])
  have hE1 : Ext w w1 := by (repeat' (first | exact Ext.refl _ | assumption | apply Ext.allocR | apply Ext.drewR | apply Ext.drewNR | (refine Ext.trans' ?_ (by assumption))))
  have hl1 := lt_of hrw
  have hown : w1.ownsRow (w.heap.size + 1) 3 1 (.slice (some ⟨w.heap.size + 1, 0, none⟩) 0 0) ((cols c l key).take 0).length (ints ((cols c l key).take 0)) :=
    ⟨rfl, .inr ⟨w.heap.size + 1, 0, #[], rfl, Nat.le_refl _, hrw, Nat.le_refl _, Nat.zero_le _, rfl, rfl⟩⟩
  clear hb1 hrw
  go_wp2
  go_loopw [7, 8] (fun p u wr => ∃ k : Nat, k ≤ R ∧ u = .int .i64 k ∧ wr.ownsRow (w.heap.size + 1) 3 1 p ((cols c l key).take k).length (ints ((cols c l key).take k)) ∧ wr.heap[w.heap.size]? = some (.cells #[.int .i64 c.bits, .int .i64 c.rows, .int .i64 c.width, .int .i64 c.mode, .int .u64 c.seed] 24 (0, 0)) ∧ Ext w wr) (fun _ u _ => R - (intOf u).toNat)
  case atStart => exact ⟨0, Nat.zero_le _, rfl, hown, hbx, hE1⟩
  case round =>
    clear hown hbx hE1
    obtain ⟨k, hk, rfl, hown, hbx, hE⟩ := hrel
    have c1 := (cell_of hbx 1).trans rfl
    have c2 := (cell_of hbx 2).trans rfl
    have c4 := (cell_of hbx 4).trans rfl
    have cl := lt_of hbx
    by_cases hlt : k < R
    · have hd : decide ((k : Int) < c.rows) = true := by have := HR.out; simp; omega
      have hts := cols_take (c := c) (l := l) (key := key) (k := k) (by rw [HRT.out]; exact hlt)
      have hcd : col c l key k = bkt (prA c.seed l k) (prB c.seed l k) key c.width := rfl
      have HTS := Lib.hid hts
      have HCD := Lib.hid hcd
      have hlen : ((cols c l key).take k).length ≤ 8 := by rw [List.length_take, cols_len, HRT.out]; omega
      have HLEN := Lib.hid hlen
      clear hts hcd hlen
      generalize (cols c l key).take k = pre at *
      go_wp2_with fail
      refine Calls.mono (PairR_c c.seed l k hsd h0 hl59 (by omega) (by omega) _) ?_
      rintro e w2 ⟨rfl, hx2⟩
      have hbx2 := hx2.keep hbx
      have hown2 := own_ext hown hx2
      have hE2 := hE.trans' hx2
      have d2 := (cell_of hbx2 2).trans rfl
      have dl := lt_of hbx2
      clear c1 c2 c4 cl hbx hown hE hx2
      go_wp2_with fail
      refine Calls.mono (BucketR_c _ _ key c.width (prA_u _ _ _) (prB_u _ _ _) HKU.out hw1 (by omega) _) ?_
      rw [← HCD.out]
      rintro e w3 ⟨rfl, hx3⟩
      have hbx3 := hx3.keep hbx2
      have hown3 := own_ext hown2 hx3
      have hE3 := hE2.trans' hx3
      have hl3 := lt_of hbx3
      clear d2 dl hbx2 hown2 hE2 hx3
      go_wp2_with (at_builtin; refine wpList_app1 w3 (col c l key k) pre _ (w.heap.size + 1) 3 hown3 63 rfl _ _ rfl info_int Try.underlying63 rfl rfl ?a1 ?a2 ?_)
      case a1 => have := HLEN.out; omega
      case a2 => omega
      intro v' w4 g1 g2 g3
      have hbx4 := grown_old g2 (j := w.heap.size) (by omega) (own_ge hown3 (by omega))
      rw [hbx3] at hbx4
      have hE4 : Ext w w4 := ext_grown hE3 g2 (fun k hk => by have := own_blk hown3 hk; omega)
      obtain ⟨p', n', c', rfl⟩ := own_slice g1
      rw [← HTS.out] at g1
      have HPL := Lib.hid (show ((cols c l key).take (k + 1)).length = pre.length + 1 by rw [HTS.out, List.length_append]; rfl)
      clear hbx3 hown3 hE3 g2 g3
      go_wp2
      go_roundw
      case rel => exact ⟨k + 1, by omega, by go_num, by rw [HPL.out]; exact g1, hbx4, hE4⟩
      case measure => simp [intOf]; omega
    · have hd : decide ((k : Int) < c.rows) = false := by have := HR.out; simp; omega
      obtain rfl : k = R := by omega
      have htk : (cols c l key).take k = cols c l key := List.take_of_length_le (by rw [cols_len, HRT.out]; omega)
      rw [htk, cols_len, HRT.out] at hown
      go_wp2
      go_ret
      exact ⟨_, rfl, ⟨hown.1, hown.2.imp id (fun ⟨g, cap, cur, a, b, c⟩ => ⟨g, cap, cur, a, by omega, c⟩)⟩, hE⟩
end Go.Proofs.Ytfhdjekpdifajaa
