/- Part. No condition. -/
import Derived.Test.YteoblkcbemeamaaGreatL5
import Derived.Test.YteoblkcbemeamaaGreatL4
import Derived.Test.YteoblkcbemeamaaGreatL2
import Derived.Test.YteoblkcbemeamaaGreatL3
import Derived.Test.YteoblkcbemeamaaGreatL1

/- Package stack: New. -/
namespace Go.Proofs.YteoblkcbemeamaaGreat
set_option linter.unusedVariables false
open Go.RowKit
section
variable {P : Program}
/-- 's = append(s, x)', x of one cell, s a row of the call's own. -/
theorem wpList_appv (W : World) {ops : Array Oper} {rest : List Oper} {o : Oper} {a : Act} {Q : Exit → Act → World → Prop} (x : Value) (hx1 : x.oneCell' = true) (xs : List Value) (v : Value) (base : Nat) (e : TypeId) (hown : W.ownsRow base e 1 v xs.length xs) (t : TypeId)
    (hgd : o.guard = none) (s y : Operand) (ho : o.op = .call { callee := .builtin .append, args := #[s, y], argTypes := #[t, t] })
    (i0 : TypeInfo) (z0 : Value) (hi : P.info? e = some i0) (hz0 : i0.zero = some z0) (hz1 : i0.size = 1) (hz2 : i0.bytes = 16) (hz3 : z0.cells.size = 1) (ht : P.underlying t = some (.slice e))
    (hs : a.eval s = v) (hx : a.eval y = .slice (some ⟨W.heap.size, 0, none⟩) 1 1)
    (hl : xs.length ≤ 1000000) (hbase : base ≤ W.heap.size)
    (h : ∀ v' w', w'.ownsRow base e 1 v' (xs ++ [x]).length (xs ++ [x]) → (W.alloc (.cells #[x] e)).grownBy w' v.ownBlock → wpList P ops Q rest (a.put o.dst v') w') :
    wpList P ops Q (o :: rest) a (W.alloc (.cells #[x] e)) := by
  refine wpList_append_sep _ hgd s y t ho base e i0 z0 1 16 ht hi hz0 hz1 hz2 hz3 (by decide) v xs.length xs hs (hown.alloc _) ⟨W.heap.size, 0, none⟩ 1 1 [x] hx rfl ?_ ?_ (by unfold maxLen; omega) (by omega) (by rw [size_alloc]; omega) ?_
  · intro j u hu
    have hj : j = 0 := by
      have := (List.getElem?_eq_some_iff.1 hu).1
      simp at this; exact this
    subst hj
    rw [show (⟨W.heap.size, 0, none⟩ : Addr).add 0 = ⟨W.heap.size, 0, none⟩ by simp [Addr.add], cell_of (heap_at W _ rfl) 0]
    exact hu
  · intro u hu
    simp at hu
    subst hu
    exact hx1
  · intro v' w' h1 h2 h3
    refine h v' w' ?_ h2
    rw [List.length_append]
    exact h1
end
theorem own_type {w : World} {base n size : Nat} {e : TypeId} {v : Value} {xs : List Value} (h : w.ownsRow base e size v n xs) {k : Nat} (hk : v.ownBlock = some k) : ∃ cur, w.heap[k]? = some (.cells cur e (0, 0)) := by
  rcases h.2 with ⟨rfl, _⟩ | ⟨g, cap, cur, rfl, _, hg, _⟩
  · cases hk
  · cases hk; exact ⟨cur, hg⟩
theorem info_lev : ∃ i z, Tryz.prog.info? 82 = some i ∧ i.zero = some z ∧ i.size = 1 ∧ i.bytes = 16 ∧ z.cells.size = 1 := by
  have h : (Tryz.prog.info? 82).map (fun i => (i.zero, i.size, i.bytes)) = some (some .nilIface, 1, 16) := by kernel_rfl
  match hi : Tryz.prog.info? 82, h with
  | some i, h =>
    simp only [Option.map_some, Option.some.injEq, Prod.mk.injEq] at h
    exact ⟨i, .nilIface, rfl, h.1, h.2.1, h.2.2, rfl⟩
theorem lvV_one (C : Cfg) (lv : Int) (L : Lev) : (lvV C lv L).oneCell' = true := rfl
def lvVs (C : Cfg) (L : Nat → Lev) (n : Nat) : List Value := (List.range n).map fun (i : Nat) => lvV C i (L i)
theorem lvVs_len (C : Cfg) (L : Nat → Lev) (n : Nat) : (lvVs C L n).length = n := by simp [lvVs]
theorem lvVs_succ (C : Cfg) (L : Nat → Lev) (n : Nat) : lvVs C L (n + 1) = lvVs C L n ++ [lvV C n (L n)] := by
  unfold lvVs; rw [List.range_succ, List.map_append]; rfl
theorem lvVs_cong (C : Cfg) {L L' : Nat → Lev} {n : Nat} (h : ∀ i, i < n → L i = L' i) : lvVs C L n = lvVs C L' n := by
  unfold lvVs
  apply List.map_congr_left
  intro i hi
  rw [List.mem_range] at hi
  rw [h i hi]
theorem lvVs_get (C : Cfg) (L : Nat → Lev) {n i : Nat} (h : i < n) : (lvVs C L n)[i]? = some (lvV C i (L i)) := by
  unfold lvVs; rw [List.getElem?_map, List.getElem?_range h]; rfl
/-- A row of levels' block is no level's. -/
theorem LvAt.norow {w : World} {L : Lev} {C : Cfg} {lv : Int} {l : List Int} (h : LvAt w L C lv l) {k : Nat} {cur : Array Value} (hk : w.heap[k]? = some (.cells cur 82 (0, 0))) : k ≠ L.s ∧ k ≠ L.b ∧ k ≠ L.c := by
  refine ⟨?_, ?_, ?_⟩
  · rcases h with ⟨_, h⟩ | ⟨_, h⟩ <;> exact blk_ne hk h.ex (by decide)
  · rcases h with ⟨_, h⟩ | ⟨_, h⟩ <;> (obtain ⟨cap, h1, _⟩ := h.g.ex; exact blk_ne hk h1 (by decide))
  · obtain ⟨cur', h1⟩ := h.isc
    exact blk_ne hk h1 (by decide)
theorem LvAt.grown {w w' : World} {o : Obj} {row : Option Nat} {L : Lev} {C : Cfg} {lv : Int} {l : List Int} (h : LvAt w L C lv l) (hg : (w.alloc o).grownBy w' row) (hr : ∀ i, row = some i → ∃ cur, w.heap[i]? = some (.cells cur 82 (0, 0))) : LvAt w' L C lv l := by
  have key : ∀ k, k < w.heap.size → (∀ i, row = some i → i ≠ k) → w'.heap[k]? = w.heap[k]? := fun k hk hn => grown_old hg hk (fun e => hn k e.symm rfl)
  refine h.keep (key _ h.lts fun i hi => ?_) (key _ h.ltb fun i hi => ?_) (key _ h.ltc fun i hi => ?_)
  all_goals
    obtain ⟨cur, hc⟩ := hr i hi
    have := h.norow hc
  · exact this.1
  · exact this.2.1
  · exact this.2.2
/-- Some levels that have been made. -/
structure Made (w : World) (B0 : Nat) (C : Cfg) (k : Nat) (L : Nat → Lev) (ls : Nat → List Int) (v : Value) : Prop where
  row : w.ownsRow B0 82 1 v (lvVs C L k).length (lvVs C L k)
  lev : ∀ n, n < k → LvAt w (L n) C n (ls n)
  new : ∀ n, n < k → B0 ≤ (L n).s ∧ B0 ≤ (L n).b ∧ B0 ≤ (L n).c
  sep : ∀ m n, m < k → n < k → m ≠ n → (L m).c ≠ (L n).c
theorem Made.ext {w w' : World} {B0 k : Nat} {C : Cfg} {L : Nat → Lev} {ls : Nat → List Int} {v : Value} (h : Made w B0 C k L ls v) (he : Ext w w') : Made w' B0 C k L ls v :=
  ⟨own_ext h.row he, fun n hn => (h.lev n hn).ext he, h.new, h.sep⟩
/-- One more. -/
theorem Made.next {w w' : World} {B0 k : Nat} {C : Cfg} {L : Nat → Lev} {ls : Nat → List Int} {v v' : Value} {M : Lev} {l : List Int} {o : Obj} {N : Nat} (h : Made w B0 C k L ls v) (hM : LvAt w M C k l) (hN : ∀ n, n < k → (L n).c < N) (hB : B0 ≤ N) (h1 : N ≤ M.s) (h2 : N ≤ M.b) (h3 : N ≤ M.c)
    (hl : l = ls k) (hown : w'.ownsRow B0 82 1 v' (lvVs C L k ++ [lvV C k M]).length (lvVs C L k ++ [lvV C k M])) (hg : (w.alloc o).grownBy w' v.ownBlock) : Made w' B0 C (k + 1) (fun n => if n = k then M else L n) ls v' := by
  subst hl
  have hr : ∀ i, v.ownBlock = some i → ∃ cur, w.heap[i]? = some (.cells cur 82 (0, 0)) := fun i hi => own_type h.row hi
  refine ⟨?_, fun n hn => ?_, fun n hn => ?_, fun m n hm hn hmn => ?_⟩
  · rw [lvVs_succ, if_pos rfl, lvVs_cong C (L' := L) (fun i hi => if_neg (by omega))]
    exact hown
  · by_cases e : n = k
    · subst e; rw [if_pos rfl]; exact hM.grown hg hr
    · rw [if_neg e]; exact (h.lev n (by omega)).grown hg hr
  · by_cases e : n = k
    · rw [if_pos e]; exact ⟨by omega, by omega, by omega⟩
    · rw [if_neg e]; exact h.new n (by omega)
  · by_cases e : m = k
    · subst e
      rw [if_pos rfl, if_neg (by omega)]
      have := hN n (by omega)
      omega
    · rw [if_neg e]
      by_cases e' : n = k
      · subst e'
        rw [if_pos rfl]
        have := hN m (by omega)
        omega
      · rw [if_neg e']; exact h.sep m n (by omega) (by omega) hmn
theorem Made.ltN {w : World} {B0 k : Nat} {C : Cfg} {L : Nat → Lev} {ls : Nat → List Int} {v : Value} (h : Made w B0 C k L ls v) (n : Nat) (hn : n < k) : (L n).c < w.heap.size := (h.lev n hn).ltc
/-- All levels, and the stack's own block: a stack. -/
theorem Made.stack {w : World} {s B0 B : Nat} {C : Cfg} {L : Nat → Lev} {ls : Nat → List Int} {v : Value} (h : Made w B0 C (B + 1) L ls v) (hok : C.Ok) (hB : C.bits = B) (hs : w.heap[s]? = some (.cells #[.int .i64 C.bits, .int .i64 C.rows, .int .i64 C.width, .int .i64 C.mode, .int .u64 C.seed, v] 132 (0, 0))) :
    ∃ g, B0 ≤ g ∧ KAt w s g C B L ls := by
  have hl := lvVs_len C L (B + 1)
  rcases h.row.2 with ⟨_, h0⟩ | ⟨g, cap, cur, rfl, hbg, hg, hnc, hcm, hcs, htake⟩
  · rw [hl] at h0; omega
  · rw [hl] at hs hnc
    refine ⟨g, hbg, ⟨⟨cap, hs, hnc⟩, ⟨cur, hg, fun n hn => ?_⟩, fun n hn => h.lev n (by omega), fun m n hm hn => h.sep m n (by omega) (by omega), hok, hB⟩⟩
    have h1 := h.row.cells (g := g) rfl n _ (lvVs_get C L (show n < B + 1 by omega))
    rw [show ((⟨g, 0, none⟩ : Addr).add n) = ⟨g, n, none⟩ by (simp [Addr.add]; intro e; exact e.symm), cell_of hg] at h1
    exact h1
theorem Made.setc {w : World} {B0 k : Nat} {C : Cfg} {L : Nat → Lev} {ls : Nat → List Int} {v : Value} (h : Made w B0 C k L ls v) {b : Nat} (hb : b < B0) (o : Nat) (u : Value) : Made (w.setCell ⟨b, o, none⟩ u) B0 C k L ls v :=
  ⟨own_setc h.row hb o u, fun n hn => (h.lev n hn).keep (setCell_other _ _ (by have := h.new n hn; omega)) (setCell_other _ _ (by have := h.new n hn; omega)) (setCell_other _ _ (by have := h.new n hn; omega)), h.new, h.sep⟩
def KNewPost (w : World) (C : Cfg) (e : Ending) (w' : World) : Prop :=
  ∃ (s g : Nat) (L : Nat → Lev), e = .returned (.tuple #[.pointer (some ⟨s, 0, none⟩), .int .i64 0]) ∧ KAt w' s g C C.bits.toNat L (fun n => zs (lvN C n)) ∧ w.heap.size ≤ s ∧ w.heap.size ≤ g ∧ (∀ n, n ≤ C.bits.toNat → w.heap.size ≤ (L n).s ∧ w.heap.size ≤ (L n).b ∧ w.heap.size ≤ (L n).c) ∧ Ext w w'
set_option maxRecDepth 20000 in
set_option maxHeartbeats 4000000 in
theorem KNew_c (C : Cfg) (h : C.Ok) (w : World) :
    Calls Tryz.prog 16 #[.agg #[.int .i64 C.bits, .int .i64 C.rows, .int .i64 C.width, .int .i64 C.mode, .int .u64 C.seed]] w (KNewPost w C) := by
  have hb1 := h.b1
  have hb2 := h.b2
  obtain ⟨B, hB⟩ : ∃ B : Nat, C.bits = B := ⟨C.bits.toNat, by omega⟩
  have hBt : C.bits.toNat = B := by omega
  unfold KNewPost
  rw [hBt]
  have HB := Lib.hid hB
  have HBT := Lib.hid hBt
  clear hB hBt
  go_enter Tryz.func16, Tryz.ntmps16
  go_wp2_with fail
  refine (Right_c C h _).mono ?_
  rintro e w1 ⟨rfl, hx1⟩
  have hE1 : Ext w w1 := (Ext.alloc' w _).trans' hx1
  have hcb := hx1.keep (heap_at w (.cells #[.int .i64 C.bits, .int .i64 C.rows, .int .i64 C.width, .int .i64 C.mode, .int .u64 C.seed] 24) rfl)
  have hC1 := CfgAt.of hcb
  have c0 := hC1.c0
  have c1 := hC1.c1
  have c2 := hC1.c2
  have c3 := hC1.c3
  have c4 := hC1.c4
  have cl := hC1.lt
  have hs1 := hE1.size
  have hbits : C.bits + 1 = (B : Int) + 1 := by rw [HB.out]
  go_wp2
  go_loopw [5, 18] (fun u5 u18 wr => ∃ (k : Nat) (L : Nat → Lev), k ≤ B + 1 ∧ u18 = .int .i64 k ∧ Ext w wr ∧ wr.heap[w.heap.size]? = some (.cells #[.int .i64 C.bits, .int .i64 C.rows, .int .i64 C.width, .int .i64 C.mode, .int .u64 C.seed] 24 (0, 0)) ∧
      wr.heap[w1.heap.size]? = some (.cells #[.int .i64 C.bits, .int .i64 C.rows, .int .i64 C.width, .int .i64 C.mode, .int .u64 C.seed, .slice none 0 0] 132 (0, 0)) ∧
      Made wr (w1.heap.size + 1) C k L (fun n => zs (lvN C n)) u5) (fun _ u18 _ => B + 1 - (intOf u18).toNat)
  case atStart =>
    refine ⟨0, fun _ => ⟨0, 0, 0⟩, Nat.zero_le _, rfl, hE1.allocR _, by rw [heap_old _ _ (by omega)]; exact hcb, heap_at _ _ rfl, ⟨⟨rfl, .inl ⟨rfl, rfl⟩⟩, ?_, ?_, ?_⟩⟩ <;> (intros; omega)
  case round =>
    obtain ⟨k, L, hk, rfl, hE, hcr, hbox, hM⟩ := hrel
    have hC := CfgAt.of hcr
    have d0 := hC.c0
    have d1 := hC.c1
    have d2 := hC.c2
    have d3 := hC.c3
    have d4 := hC.c4
    have dl := hC.lt
    have hbl := lt_of hbox
    have HC := Lib.hid hcr
    have HBX := Lib.hid hbox
    have HM := Lib.hid hM
    clear hC hcr hbox hM
    by_cases hlt : k < B + 1
    · go_wp2_with fail
      refine (LNew_c C h k (by omega) (by have := HB.out; omega) _).mono ?_
      rintro e w2 ⟨M, rfl, hL, n1, n2, n3, hx2⟩
      have hown := own_ext HM.out.row hx2
      have hszz := hx2.size
      obtain ⟨T, hT⟩ : ∃ T, lvV C k M = .iface T (.pointer (some ⟨M.s, 0, none⟩)) := ⟨lvT C k, rfl⟩
      rw [hT]
      have HT := Lib.hid hT
      clear hT
      have hll := lvVs_len C L k
      obtain ⟨i0, z0, hi0, hz0, hz1, hz2, hz3⟩ := info_lev
      go_wp2_with (at_builtin; refine wpList_appv w2 (.iface T (.pointer (some ⟨M.s, 0, none⟩))) rfl (lvVs C L k) u5 (w1.heap.size + 1) 82 hown 130 rfl _ _ rfl i0 z0 hi0 hz0 hz1 hz2 hz3 Tryz.underlying130 rfl rfl ?a1 ?a2 ?_)
      case a1 => omega
      case a2 => omega
      intro v' w' hown' hgr
      have hmade := HM.out.ext hx2
      have hnext := hmade.next (N := wr.heap.size) (ls := fun n => zs (lvN C n)) hL (fun n hn => HM.out.ltN n hn) (by omega) n1 n2 n3 rfl (by rw [HT.out, List.length_append, hll]; exact hown') hgr
      have hge : ∀ i, u5.ownBlock = some i → w1.heap.size + 1 ≤ i := fun i hi => own_blk hown hi
      have hex : Ext w w' := ext_grown (hE.trans' hx2) hgr (fun i hi => by have := hge i hi; omega)
      have hCx := (grown_old hgr (show w.heap.size < w2.heap.size by omega) (fun e => by have := hge _ e.symm; omega)).trans (hx2.keep HC.out)
      have hbx := (grown_old hgr (show w1.heap.size < w2.heap.size by omega) (fun e => by have := hge _ e.symm; omega)).trans (hx2.keep HBX.out)
      go_wp2
      go_roundw
      case rel => exact ⟨k + 1, _, by omega, by go_num, hex, hCx, hbx, hnext⟩
      case measure => simp [intOf]; omega
    · obtain rfl : k = B + 1 := by omega
      obtain ⟨p5, k5, c5, rfl⟩ := own_slice HM.out.row
      have hfz := frozen_of HBX.out 5
      have hbc := (cell_of HBX.out 5).trans rfl
      go_wp2
      go_ret2
      have hm := HM.out.setc (show w1.heap.size < w1.heap.size + 1 by omega) 5 (.slice p5 k5 c5)
      obtain ⟨g, hg, hK⟩ := hm.stack h HB.out ((setCell_same HBX.out 5 (.slice p5 k5 c5)).trans rfl)
      refine ⟨w1.heap.size, g, L, rfl, hK, hs1, by omega, fun n hn => ?_, hE.setR (p := ⟨w1.heap.size, 5, none⟩) hs1 _⟩
      have := HM.out.new n (by omega)
      omega
end Go.Proofs.YteoblkcbemeamaaGreat

/- Package stack: Copy, At. -/
namespace Go.Proofs.YteoblkcbemeamaaGreat
set_option linter.unusedVariables false
open Go.RowKit
def KCopyPost (w : World) (C : Cfg) (B : Nat) (ls : Nat → List Int) (e : Ending) (w' : World) : Prop :=
  ∃ (s g : Nat) (L : Nat → Lev), e = .returned (.pointer (some ⟨s, 0, none⟩)) ∧ KAt w' s g C B L ls ∧ w.heap.size ≤ s ∧ w.heap.size ≤ g ∧ (∀ n, n ≤ B → w.heap.size ≤ (L n).s ∧ w.heap.size ≤ (L n).b ∧ w.heap.size ≤ (L n).c) ∧ Ext w w'
set_option maxRecDepth 20000 in
set_option maxHeartbeats 4000000 in
theorem KCopy_c (s g : Nat) (C : Cfg) (B : Nat) (L : Nat → Lev) (ls : Nat → List Int) (w : World) (h : KAt w s g C B L ls) :
    Calls Tryz.prog 20 #[.pointer (some ⟨s, 0, none⟩)] w (KCopyPost w C B ls) := by
  have hok := h.ok
  have hB := h.hB
  have hlt := h.lts
  obtain ⟨cap, hex, hcap⟩ := h.ex
  have c5 := (cell_of hex 5).trans rfl
  have hb2 : B ≤ 59 := by have := hok.b2; omega
  have HE := Lib.hid hex
  have HH := Lib.hid h
  have HB := Lib.hid hB
  clear h hex hB
  go_enter Tryz.func20, Tryz.ntmps20
  go_wp2
  go_loopw [3, 11] (fun u3 u11 wr => ∃ (k : Nat) (L' : Nat → Lev), k ≤ B + 1 ∧ u11 = .int .i64 k ∧ Ext w wr ∧ Made wr w.heap.size C k L' ls u3) (fun _ u11 _ => B + 1 - (intOf u11).toNat)
  case atStart =>
    refine ⟨0, fun _ => ⟨0, 0, 0⟩, Nat.zero_le _, rfl, Ext.refl _, ⟨⟨rfl, .inl ⟨rfl, rfl⟩⟩, ?_, ?_, ?_⟩⟩ <;> (intros; omega)
  case round =>
    obtain ⟨k, L', hk, rfl, hE, hM⟩ := hrel
    have hkr := HH.out.ext hE
    have hsz := hE.size
    have HM := Lib.hid hM
    clear hM
    by_cases hlt' : k < B + 1
    · have cn := hkr.cell (show k ≤ B by omega)
      have hL0 := hkr.lev k (by omega)
      have hltg := hkr.ltg
      clear hkr
      go_wp2_with fail
      refine (LCopy_c C k (L k) (ls k) _ hL0).mono ?_
      rintro e w2 ⟨M, rfl, hL, n1, n2, n3, hx2⟩
      have hown := own_ext HM.out.row hx2
      have hszz := hx2.size
      obtain ⟨T, hT⟩ : ∃ T, lvV C k M = .iface T (.pointer (some ⟨M.s, 0, none⟩)) := ⟨lvT C k, rfl⟩
      rw [hT]
      have HT := Lib.hid hT
      clear hT
      have hll := lvVs_len C L' k
      obtain ⟨i0, z0, hi0, hz0, hz1, hz2, hz3⟩ := info_lev
      go_wp2_with (at_builtin; refine wpList_appv w2 (.iface T (.pointer (some ⟨M.s, 0, none⟩))) rfl (lvVs C L' k) u3 w.heap.size 82 hown 130 rfl _ _ rfl i0 z0 hi0 hz0 hz1 hz2 hz3 Tryz.underlying130 rfl rfl ?a1 ?a2 ?_)
      case a1 => omega
      case a2 => omega
      intro v' w' hown' hgr
      have hmade := HM.out.ext hx2
      have hnext := hmade.next (N := wr.heap.size) (ls := ls) hL (fun n hn => HM.out.ltN n hn) (by omega) n1 n2 n3 rfl (by rw [HT.out, List.length_append, hll]; exact hown') hgr
      have hex : Ext w w' := ext_grown (hE.trans' hx2) hgr (fun i hi => own_blk hown hi)
      go_wp2
      go_roundw
      case rel => exact ⟨k + 1, _, by omega, by go_num, hex, hnext⟩
      case measure => simp [intOf]; omega
    · obtain rfl : k = B + 1 := by omega
      obtain ⟨p5, k5, c5, rfl⟩ := own_slice HM.out.row
      have hltr := hkr.lts
      obtain ⟨cap2, hex2, _⟩ := hkr.ex
      have d0 := (cell_of hex2 0).trans rfl
      have d1 := (cell_of hex2 1).trans rfl
      have d2 := (cell_of hex2 2).trans rfl
      have d3 := (cell_of hex2 3).trans rfl
      have d4 := (cell_of hex2 4).trans rfl
      clear hex2 hkr
      go_wp2
      go_ret
      obtain ⟨g', hg, hK⟩ := (HM.out.ext (Ext.alloc' wr (.cells #[.int .i64 C.bits, .int .i64 C.rows, .int .i64 C.width, .int .i64 C.mode, .int .u64 C.seed, .slice p5 k5 c5] 132))).stack hok HB.out (heap_at _ _ rfl)
      exact ⟨wr.heap.size, g', L', rfl, hK, hsz, hg, fun n hn => HM.out.new n (by omega), hE.allocR _⟩
set_option maxRecDepth 20000 in
theorem KAt_c (s g : Nat) (C : Cfg) (B : Nat) (L : Nat → Lev) (ls : Nat → List Int) (w : World) (h : KAt w s g C B L ls) (n : Nat) (hn : n ≤ B) :
    Calls Tryz.prog 80 #[.pointer (some ⟨s, 0, none⟩), .int .i64 n] w fun e w' => ∃ M : Lev, e = .returned (.tuple #[lvV C n M, .bool true]) ∧ LvAt w' M C n (ls n) ∧ w.heap.size ≤ M.s ∧ w.heap.size ≤ M.b ∧ w.heap.size ≤ M.c ∧ Ext w w' := by
  go_enter Tryz.func80, Tryz.ntmps80
  go_wp2_with fail
  refine (level_yes s g C B L ls w h n hn).mono ?_
  rintro e w1 ⟨rfl, rfl⟩
  go_wp2_with fail
  refine (LCopy_c C n (L n) (ls n) _ (h.lev n hn)).mono ?_
  rintro e w2 ⟨M, rfl, hL, n1, n2, n3, hx2⟩
  go_wp2
  go_ret2
  exact ⟨M, rfl, hL, n1, n2, n3, hx2⟩
set_option maxRecDepth 20000 in
theorem KAt_no (s g : Nat) (C : Cfg) (B : Nat) (L : Nat → Lev) (ls : Nat → List Int) (w : World) (h : KAt w s g C B L ls) (n : Int) (hn : n < 0 ∨ (B : Int) < n) :
    Calls Tryz.prog 80 #[.pointer (some ⟨s, 0, none⟩), .int .i64 n] w fun e w' => e = .returned (.tuple #[.nilIface, .bool false]) ∧ w = w' := by
  go_enter Tryz.func80, Tryz.ntmps80
  go_wp2_with fail
  refine (level_no s g C B L ls w h n hn).mono ?_
  rintro e w1 ⟨rfl, rfl⟩
  go_wp2
  go_ret2
  exact ⟨rfl, rfl⟩
end Go.Proofs.YteoblkcbemeamaaGreat

/- sketch.Load: cells that are set; too few or too many change nothing. -/
namespace Go.Proofs.YteoblkcbemeamaaGreat
set_option linter.unusedVariables false
open Go.RowKit

section
variable {P : Program} {w : World}
theorem run_append_zero (base : Nat) (t ty e : TypeId) (i : TypeInfo) (size : Nat) (ht : P.underlying t = some (.slice e)) (hi : P.info? e = some i)
    (v : Value) (n : Nat) (xs : List Value) (hown : w.ownsRow base e size v n xs) (p : Option Addr) (c : Nat) :
    (Builtin.append_ #[t, t] ty #[v, .slice p 0 c]).run P w = .ok v w := by
  rcases hown.2 with ⟨rfl, rfl⟩ | ⟨g, cap, cur, rfl, _, _, hnc, _⟩
  · cases p <;> simp [Builtin.append_, run_underlying ht, sizeOf, typeInfo, hi, Builtin.lenOf, Builtin.firstCells, loadCells, loadCellsFrom]
  · cases p <;> simp [Builtin.append_, run_underlying ht, sizeOf, typeInfo, hi, Builtin.lenOf, Builtin.firstCells, loadCells, loadCellsFrom, hnc, storeCells]
theorem wpList_append_zero {ops : Array Oper} {rest : List Oper} {o : Oper} {a : Act} {Q : Exit → Act → World → Prop} (hgd : o.guard = none) (s x : Operand) (t : TypeId)
    (ho : o.op = .call { callee := .builtin .append, args := #[s, x], argTypes := #[t, t] })
    (base : Nat) (e : TypeId) (i : TypeInfo) (size : Nat) (ht : P.underlying t = some (.slice e)) (hi : P.info? e = some i)
    (v : Value) (n : Nat) (xs : List Value) (hs : a.eval s = v) (hown : w.ownsRow base e size v n xs) (p : Option Addr) (c : Nat) (hx : a.eval x = .slice p 0 c)
    (h : wpList P ops Q rest (a.put o.dst v) w) : wpList P ops Q (o :: rest) a w := by
  refine wpList_plain hgd fun K hK => ?_
  have hrun := run_append_zero (P := P) (w := w) base t o.type e i size ht hi v n xs hown p c
  unfold Oper.wp
  simp [execOp, ho, resolve, invoke, builtin, hs, hx, hrun, Result.andThen]
  exact hK _ _ h
end
/-- A world in which what W has is as it was, but for block c. -/
structure Aft (c : Nat) (W : World) where
  w : World
  h : Mod (fun i => i = c) W w
instance (c : Nat) (W : World) : Nonempty (Aft c W) := ⟨⟨W, Mod.refl _ W⟩⟩
@[go_sem] theorem Aft.cell {c : Nat} {W : World} (x : Aft c W) {b o : Nat} (h : b < W.heap.size) (hn : b ≠ c) : x.w.cell? ⟨b, o, none⟩ = W.cell? ⟨b, o, none⟩ := mcell x.h h hn o
theorem aft_drew (c : Nat) (W : World) : ∃ x : Aft c W, W.drew = x.w := ⟨⟨_, Ext.mod _ (Below.drew (Ext.refl W))⟩, rfl⟩
theorem mod_put' {w w' : World} {g j : Nat} (h : Mod (fun i => i = g) w w') (u : Value) : Mod (fun i => i = g) w (w'.setCell ⟨g, j, none⟩ u) :=
  ⟨h.os, h.tape, h.output, by rw [size_setCell]; exact h.size, fun k hk hn => (setCell_other _ _ hn).trans (h.block k hk hn)⟩
theorem aft_put {c : Nat} {W w : World} {o : Nat} (h : ∃ x : Aft c W, w = x.w) (u : Value) : ∃ x : Aft c W, w.setCell ⟨c, o, none⟩ u = x.w := by
  obtain ⟨x, rfl⟩ := h
  exact ⟨⟨_, mod_put' x.h u⟩, rfl⟩
theorem Put_i (b c R W : Nat) (l : List Int) (w : World) (h : GAt w b c R W l) (rI kI : Int) (r k : Nat) (hrI : rI = r) (hkI : kI = k) (hr : r < R) (hk : k < W) (n : Int) :
    Calls Tryz.prog 214 #[.pointer (some ⟨b, 0, none⟩), .int .i64 rI, .int .i64 kI, .int .i64 n] w fun e w' => e = .returned (.bool true) ∧ w.setCell ⟨c, r * W + k, none⟩ (.int .i64 n) = w' := by
  subst hrI hkI
  exact Put_c b c R W l w h r k hr hk n
theorem SAt.setl {w : World} {s b c : Nat} {C : Cfg} {lv : Int} {R W : Nat} {l : List Int} (h : SAt w s b c C lv R W l) {i : Nat} (hi : i < l.length) {n : Int} (hn : I64 n) : SAt (w.setCell ⟨c, i, none⟩ (.int .i64 n)) s b c C lv R W (l.set i n) :=
  ⟨by rw [setCell_other _ _ h.nes]; exact h.ex, h.g.set hi n, h.ok, h.lo, h.hi, h.hr, h.hw, fun x hx => by
    rcases List.mem_or_eq_of_mem_set hx with h1 | h1
    · exact h.fit x h1
    · rw [h1]; exact hn⟩
set_option maxRecDepth 20000 in
set_option maxHeartbeats 4000000 in
theorem Load_yes (s b c : Nat) (C : Cfg) (lv : Int) (R W : Nat) (l m : List Int) (v : Value) (w : World) (h : SAt w s b c C lv R W l) (hv : IntsAt w v m) (hI : allI m) (hl : m.length = R * W)
    (hne : ∀ g off n cap, v = .slice (some ⟨g, off, none⟩) n cap → g ≠ c) :
    Calls Tryz.prog 208 #[.pointer (some ⟨s, 0, none⟩), v] w fun e w' => e = .returned (.bool true) ∧ SAt w' s b c C lv R W m ∧ Mod (fun k => k = c) w w' := by
  have hN1 : 1 ≤ R * W := Nat.mul_pos h.g.r1 h.g.w1
  have hN2 : R * W ≤ 1024 := Nat.le_trans (Nat.mul_le_mul h.g.r2 h.g.w2) (by decide)
  obtain ⟨vg, vo, vcap, rfl, hvl, hvc⟩ := hv.slice (by rw [hl]; omega)
  have hgc : vg ≠ c := hne _ _ _ _ rfl
  have hLl := h.g.len
  have hp0 : C.rows * C.width = ((R * W : Nat) : Int) := by rw [h.hr, h.hw]; simp
  have hW1 := h.g.w1
  have hR1 := h.g.r1
  have hdiv : ∀ k, k < R * W → k / W < R ∧ k % W < W ∧ k / W * W + k % W = k := by
    intro k hk
    refine ⟨Nat.div_lt_of_lt_mul (by rw [Nat.mul_comm]; exact hk), Nat.mod_lt _ hW1, ?_⟩
    have := Nat.div_add_mod k W; rw [Nat.mul_comm] at this; exact this
  rw [hl] at hvc ⊢
  generalize R * W = N at *
  have hp1 : 0 ≤ C.rows * C.width := by rw [hp0]; omega
  have hp2 : C.rows * C.width ≤ 1024 := by rw [hp0]; omega
  have hpt : ((N : Int) != C.rows * C.width) = false := by rw [hp0]; simp
  have c1 := (cell_of h.ex 2).trans rfl
  have c2 := (cell_of h.ex 3).trans rfl
  have lts := h.lts
  have HH := Lib.hid h
  have HVC := Lib.hid hvc
  have HL := Lib.hid hl
  have HLL := Lib.hid hLl
  have HD := Lib.hid hdiv
  have HW := Lib.hid h.hw
  clear h hv hl hne hvc hLl hp0 hdiv
  go_enter Tryz.func208, Tryz.ntmps208
  go_wp2_with fail
  refine wp_region_after (by kernel_rfl) (by kernel_rfl) ?_
  repeat (go_big_quiet_step (fail))
  refine wpQuiet_nil ?_
  rintro _ ⟨xx, rfl⟩
  obtain ⟨w1, hb1⟩ := xx
  try dsimp only
  have hS1 := HH.out.ext hb1
  have hlt' : vg < w1.heap.size := Nat.lt_of_lt_of_le hvl hb1.size
  have hsz1 := hb1.size
  clear c1 c2 hpt hp1 hp2
  go_wp2_with fail
  go_loopw [23] (fun u23 wr => ∃ k : Nat, k ≤ N ∧ u23 = .int .i64 k ∧ SAt wr s b c C lv R W (mixL (fun j => m.getD j 0) (fun j => l.getD j 0) k N) ∧ Mod (fun i => i = c) w1 wr) (fun u23 _ => N - (intOf u23).toNat)
  case atStart =>
    refine ⟨0, Nat.zero_le _, rfl, ?_, Mod.refl _ _⟩
    have e : mixL (fun j => m.getD j 0) (fun j => l.getD j 0) 0 N = l := by
      apply list_ext_getD
      · rw [mixL_len, HLL.out]
      · intro i hi
        rw [mixL_len] at hi
        rw [mixL_get _ _ hi, if_neg (by omega)]
    rw [e]; exact hS1
  case round =>
    obtain ⟨k, hk, rfl, hSr, hM⟩ := hrel
    have hMs := hM.size
    by_cases hgo : k < N
    · have x0 := (mcell hM (b := vg) hlt' hgc (vo + k)).trans (((bcell hb1).1 _ _ hvl).trans (HVC.out k hgo))
      have c0 := (cell_of hSr.ex 0).trans rfl
      have c2 := (cell_of hSr.ex 3).trans (show _ = some (Value.int .i64 (W : Int)) by rw [← HW.out]; rfl)
      obtain ⟨dv1, dv2, dv3⟩ := HD.out k hgo
      have lr := hSr.lts
      have hlr : vg < wr.heap.size := by omega
      have hxi : I64 (m.getD k 0) := getD_i64 hI k
      have hms := mixL_set (fun j => m.getD j 0) (fun j => l.getD j 0) (k := k) (n := N)
      have HMS := Lib.hid hms
      have HSR := Lib.hid hSr
      have HDV := Lib.hid dv3
      have hsc := HSR.out.nes
      have hq : (k : Int) / (W : Int) = ((k / W : Nat) : Int) := by simp
      have hqk : k / W ≤ k := Nat.div_le_self _ _
      have hq1 : 0 ≤ (k : Int) / (W : Int) := by rw [hq]; exact Int.natCast_nonneg _
      have h9 : k / W ≤ 1024 := Nat.le_trans hqk (by omega)
      have hq2 : (k : Int) / (W : Int) ≤ 1024 := by rw [hq]; exact_mod_cast h9
      clear hq
      have hw0 : ((W : Int) == 0) = false := by simp; omega
      have hw1 : (W = 0) = False := by simp; omega
      clear hms hSr dv3
      generalize hx : m.getD k 0 = x at *
      have HX := Lib.hid hx
      clear hx
      go_wp2_with fail
      have hC0 := aft_drew c wr
      have hG := HSR.out.g.ext (Below.drew (Ext.refl wr))
      refine pi_start (fun w' => ∃ x : Aft c wr, w' = x.w) [] (by kernel_rfl) ?_
      refine pi_t 0 rfl (by kernel_rfl) (by kernel_rfl) (fun _ _ _ _ h => h) (fun K hK => ?_)
      go_big_quiet_op
      refine hK _ ?_
      clear hK K
      refine pi_t 1 rfl (by kernel_rfl) (by kernel_rfl) (fun _ _ _ _ h => h) (fun K hK => ?_)
      go_big_quiet_op
      refine hK _ ?_
      clear hK K
      refine pi_t 2 rfl (by kernel_rfl) (by kernel_rfl) (fun _ _ _ _ h => h) (fun K hK => ?_)
      go_big_quiet_op
      refine hK _ ?_
      clear hK K
      refine pi_t 3 rfl (by kernel_rfl) (by kernel_rfl) (fun _ _ _ _ h => h) (fun K hK => ?_)
      go_big_quiet_op
      refine hK _ ?_
      clear hK K
      refine pi_c 4 (by assumption) rfl (by kernel_rfl) (by kernel_rfl) (fun _ _ _ _ h => h) (fun K hK => ?_)
      go_big_quiet_op
      refine hK _ ?_
      clear hK K
      refine pi_t 5 rfl (by kernel_rfl) (by kernel_rfl) (fun _ _ _ _ h => h) (fun K hK => ?_)
      go_big_quiet_op
      refine hK _ ?_
      clear hK K
      refine pi_t 6 rfl (by kernel_rfl) (by kernel_rfl) (fun _ _ _ _ h => h) (fun K hK => ?_)
      go_big_quiet_op
      refine hK _ ?_
      clear hK K
      refine pi_t 7 rfl (by kernel_rfl) (by kernel_rfl) (fun _ _ _ _ h => h) (fun K hK => ?_)
      go_big_quiet_op
      refine hK _ ?_
      clear hK K
      refine pi_t 8 rfl (by kernel_rfl) (by kernel_rfl) (fun _ _ _ _ h => h) (fun K hK => ?_)
      go_big_quiet_op
      refine hK _ ?_
      clear hK K
      refine pi_t 9 rfl (by kernel_rfl) (by kernel_rfl) (fun _ _ _ _ h => h) (fun K hK => ?_)
      go_big_quiet_op
      refine hK _ ?_
      clear hK K
      refine pi_c 10 (by assumption) rfl (by kernel_rfl) (by kernel_rfl) (fun _ _ _ _ h => h) (fun K hK => ?_)
      go_big_quiet_op
      refine hK _ ?_
      clear hK K
      refine pi_t 11 rfl (by kernel_rfl) (by kernel_rfl) (fun _ _ _ _ h => h) (fun K hK => ?_)
      go_big_quiet_op
      refine hK _ ?_
      clear hK K
      refine pi_t 12 rfl (by kernel_rfl) (by kernel_rfl) (fun _ _ _ _ h => h) (fun K hK => ?_)
      go_big_quiet_op
      refine hK _ ?_
      clear hK K
      refine pi_t 13 rfl (by kernel_rfl) (by kernel_rfl) (fun _ _ _ _ h => h) (fun K hK => ?_)
      go_big_quiet_op
      refine hK _ ?_
      clear hK K
      refine pi_t 14 rfl (by kernel_rfl) (by kernel_rfl) (fun _ _ _ _ h => h) (fun K hK => ?_)
      go_big_quiet_op
      refine hK _ ?_
      clear hK K
      refine pi_t 15 rfl (by kernel_rfl) (by kernel_rfl) (fun _ _ _ _ h => h) (fun K hK => ?_)
      go_big_quiet_op
      refine hK _ ?_
      clear hK K
      refine pi_t 16 rfl (by kernel_rfl) (by kernel_rfl) (fun _ _ _ _ h => h) (fun K hK => ?_)
      go_big_quiet_op
      refine hK _ ?_
      clear hK K
      refine pi_c 17 (by assumption) rfl (by kernel_rfl) (by kernel_rfl) (fun _ _ _ _ h => h) (fun K hK => ?_)
      go_big_quiet_op
      refine hK _ ?_
      clear hK K
      refine pi_t 18 rfl (by kernel_rfl) (by kernel_rfl) (fun _ _ _ _ h => h) (fun K hK => ?_)
      go_big_quiet_op
      refine hK _ ?_
      clear hK K
      refine pi_t 19 rfl (by kernel_rfl) (by kernel_rfl) (fun _ _ _ _ h => h) (fun K hK => ?_)
      go_big_quiet_op
      refine hK _ ?_
      clear hK K
      refine pi_l 20 rfl (by kernel_rfl) (fun K hK => ?_)
      go_wp2_with (go_at_call 214; refine (Put_i b c R W _ _ hG _ _ (k / W) (k % W) (by simp) (by simp) dv1 dv2 x).mono ?_; rintro e w' ⟨rfl, rfl⟩)
      refine hK _ _ (fun _ h => aft_put h _) ?_
      clear hK K
      refine pi_end (by kernel_rfl) ?_
      rw [HDV.out]
      go_wp2
      go_roundw
      case rel =>
        refine ⟨k + 1, by omega, by go_num, ?_, ?_⟩
        · rw [← HMS.out]
          exact (HSR.out.setl (by rw [mixL_len]; exact hgo) hxi).ext (Below.drew (Ext.refl _))
        · exact (mod_put' hM _).trans (Ext.mod _ (Below.drew (Ext.refl _)))
      case measure => simp [intOf]; omega
    · obtain rfl : k = N := by omega
      have e : mixL (fun j => m.getD j 0) (fun j => l.getD j 0) k k = m := by
        apply list_ext_getD
        · rw [mixL_len, HL.out]
        · intro i hi
          rw [mixL_len] at hi
          rw [mixL_get _ _ hi, if_pos hi]
      rw [e] at hSr
      have HSR := Lib.hid hSr
      clear hSr e
      go_wp2
      go_ret
      exact ⟨rfl, HSR.out, (hb1.mod _).trans hM⟩
set_option maxRecDepth 20000 in
set_option maxHeartbeats 4000000 in
theorem Load_no (s b c : Nat) (C : Cfg) (lv : Int) (R W : Nat) (l : List Int) (p : Option Addr) (n cap : Nat) (w : World) (h : SAt w s b c C lv R W l) (hl : n ≠ R * W) :
    Calls Tryz.prog 208 #[.pointer (some ⟨s, 0, none⟩), .slice p n cap] w fun e w' => e = .returned (.bool false) ∧ Ext w w' := by
  have hN1 : 1 ≤ R * W := Nat.mul_pos h.g.r1 h.g.w1
  have hN2 : R * W ≤ 1024 := Nat.le_trans (Nat.mul_le_mul h.g.r2 h.g.w2) (by decide)
  have hp0 : C.rows * C.width = ((R * W : Nat) : Int) := by rw [h.hr, h.hw]; simp
  generalize R * W = N at *
  have hp1 : 0 ≤ C.rows * C.width := by rw [hp0]; omega
  have hp2 : C.rows * C.width ≤ 1024 := by rw [hp0]; omega
  have hpt : ((n : Int) != C.rows * C.width) = true := by rw [hp0]; simp; omega
  have c1 := (cell_of h.ex 2).trans rfl
  have c2 := (cell_of h.ex 3).trans rfl
  have lts := h.lts
  clear h hp0
  go_enter Tryz.func208, Tryz.ntmps208
  go_wp2_with fail
  refine wp_region_after (by kernel_rfl) (by kernel_rfl) ?_
  repeat (go_big_quiet_step (fail))
  refine wpQuiet_nil ?_
  rintro _ ⟨xx, rfl⟩
  obtain ⟨w1, hb1⟩ := xx
  try dsimp only
  go_wp2
  go_ret
  exact ⟨rfl, hb1⟩
end Go.Proofs.YteoblkcbemeamaaGreat

/- exact.Load; stack.Load. -/
namespace Go.Proofs.YteoblkcbemeamaaGreat
set_option linter.unusedVariables false
open Go.RowKit
theorem Put_e (b c W : Nat) (l : List Int) (w : World) (h : GAt w b c 1 W l) (k : Nat) (hk : k < W) (n : Int) :
    Calls Tryz.prog 214 #[.pointer (some ⟨b, 0, none⟩), .int .i64 0, .int .i64 k, .int .i64 n] w fun e w' => e = .returned (.bool true) ∧ w.setCell ⟨c, k, none⟩ (.int .i64 n) = w' := by
  have := Put_c b c 1 W l w h 0 k (by decide) hk n
  rw [Nat.zero_mul, Nat.zero_add] at this
  exact this
set_option maxRecDepth 20000 in
set_option maxHeartbeats 4000000 in
theorem ELoad_yes (s b c : Nat) (C : Cfg) (lv : Int) (N : Nat) (l m : List Int) (v : Value) (w : World) (h : EAt w s b c C lv N l) (hv : IntsAt w v m) (hI : allI m) (hl : m.length = N)
    (hne : ∀ g off n cap, v = .slice (some ⟨g, off, none⟩) n cap → g ≠ c) :
    Calls Tryz.prog 240 #[.pointer (some ⟨s, 0, none⟩), v] w fun e w' => e = .returned (.bool true) ∧ EAt w' s b c C lv N m ∧ Mod (fun k => k = c) w w' := by
  have hN1 : 1 ≤ N := h.g.w1
  have hN2 : N ≤ 128 := h.g.w2
  obtain ⟨vg, vo, vcap, rfl, hvl, hvc⟩ := hv.slice (by rw [hl]; omega)
  have hgc : vg ≠ c := hne _ _ _ _ rfl
  have hLl := h.len
  rw [hl] at hvc ⊢
  have c6 := (cell_of h.ex 6).trans rfl
  have lts := h.lts
  have HH := Lib.hid h
  have HVC := Lib.hid hvc
  have HL := Lib.hid hl
  have HLL := Lib.hid hLl
  clear h hv hl hne hvc hLl
  go_enter Tryz.func240, Tryz.ntmps240
  go_wp2_with fail
  refine Calls.mono (Width_c b c 1 N l _ HH.out.g) ?_
  rintro e w1 ⟨rfl, hx1⟩
  subst hx1
  clear c6
  go_wp2_with fail
  go_loopw [17] (fun u23 wr => ∃ k : Nat, k ≤ N ∧ u23 = .int .i64 k ∧ EAt wr s b c C lv N (mixL (fun j => m.getD j 0) (fun j => l.getD j 0) k N) ∧ Mod (fun i => i = c) w wr) (fun u23 _ => N - (intOf u23).toNat)
  case atStart =>
    refine ⟨0, Nat.zero_le _, rfl, ?_, Mod.refl _ _⟩
    have e : mixL (fun j => m.getD j 0) (fun j => l.getD j 0) 0 N = l := by
      apply list_ext_getD
      · rw [mixL_len, HLL.out]
      · intro i hi
        rw [mixL_len] at hi
        rw [mixL_get _ _ hi, if_neg (by omega)]
    rw [e]; exact HH.out
  case round =>
    obtain ⟨k, hk, rfl, hSr, hM⟩ := hrel
    have hMs := hM.size
    by_cases hgo : k < N
    · have x0 := (mcell hM (b := vg) hvl hgc (vo + k)).trans (HVC.out k hgo)
      have c6 := (cell_of hSr.ex 6).trans rfl
      have lr := hSr.lts
      have hlr : vg < wr.heap.size := by omega
      have hxi : I64 (m.getD k 0) := getD_i64 hI k
      have hms := mixL_set (fun j => m.getD j 0) (fun j => l.getD j 0) (k := k) (n := N)
      have HMS := Lib.hid hms
      have HSR := Lib.hid hSr
      clear hms hSr
      generalize hx : m.getD k 0 = x at *
      have HX := Lib.hid hx
      clear hx
      go_wp2_with fail
      refine Calls.mono (Put_e b c N _ _ HSR.out.g k hgo x) ?_
      rintro e w2 ⟨rfl, rfl⟩
      go_wp2
      go_roundw
      case rel =>
        refine ⟨k + 1, by omega, by go_num, ?_, mod_put' hM _⟩
        rw [← HMS.out]
        exact HSR.out.setl (by rw [mixL_len]; exact hgo) hxi
      case measure => simp [intOf]; omega
    · obtain rfl : k = N := by omega
      have e : mixL (fun j => m.getD j 0) (fun j => l.getD j 0) k k = m := by
        apply list_ext_getD
        · rw [mixL_len, HL.out]
        · intro i hi
          rw [mixL_len] at hi
          rw [mixL_get _ _ hi, if_pos hi]
      rw [e] at hSr
      have HSR := Lib.hid hSr
      clear hSr e
      go_wp2
      go_ret
      exact ⟨rfl, HSR.out, hM⟩
set_option maxRecDepth 20000 in
set_option maxHeartbeats 4000000 in
theorem ELoad_no (s b c : Nat) (C : Cfg) (lv : Int) (N : Nat) (l : List Int) (p : Option Addr) (n cap : Nat) (w : World) (h : EAt w s b c C lv N l) (hl : n ≠ N) :
    Calls Tryz.prog 240 #[.pointer (some ⟨s, 0, none⟩), .slice p n cap] w fun e w' => e = .returned (.bool false) ∧ w = w' := by
  have c6 := (cell_of h.ex 6).trans rfl
  have lts := h.lts
  have HH := Lib.hid h
  have hb : ((n : Int) == (N : Int)) = false := by simp; omega
  have hb2 : (n = N) = False := eq_false hl
  clear h
  go_enter Tryz.func240, Tryz.ntmps240
  go_wp2_with fail
  refine Calls.mono (Width_c b c 1 N l _ HH.out.g) ?_
  rintro e w1 ⟨rfl, hx1⟩
  subst hx1
  go_wp2
  go_ret
  exact ⟨rfl, rfl⟩
set_option maxRecDepth 20000 in
set_option maxHeartbeats 2000000 in
theorem KLoad_yes (s g : Nat) (C : Cfg) (B : Nat) (L : Nat → Lev) (ls : Nat → List Int) (w : World) (h : KAt w s g C B L ls) (n : Nat) (hn : n ≤ B) (m : List Int) (v : Value) (hv : IntsAt w v m) (hI : allI m) (hl : m.length = lvN C n)
    (hne : ∀ g off k cap, v = .slice (some ⟨g, off, none⟩) k cap → g ≠ (L n).c) :
    Calls Tryz.prog 22 #[.pointer (some ⟨s, 0, none⟩), .int .i64 n, v] w fun e w' => e = .returned (.bool true) ∧ KAt w' s g C B L (fun k => if k = n then m else ls k) ∧ Mod (fun k => k = (L n).c) w w' := by
  cases hx : isX C n with
  | true =>
    have hA := (h.lev n hn).x hx
    have hl' : m.length = kN C n := by rw [hl]; unfold lvN; rw [hx]; rfl
    have HX := Lib.hid hx
    clear hx
    go_enter Tryz.func22, Tryz.ntmps22
    go_wp2_with fail
    refine (level_yes s g C B L ls w h n hn).mono ?_
    rintro e w1 ⟨rfl, rfl⟩
    rw [lvV_x HX.out]
    go_wp2_with fail
    refine Calls.mono (ELoad_yes _ _ _ C _ _ _ m v _ hA hv hI hl' hne) ?_
    rintro e w2 ⟨rfl, hA2, hM⟩
    go_wp2
    go_ret
    exact ⟨rfl, h.put hn hM (.inl ⟨HX.out, hA2⟩), hM⟩
  | false =>
    have hA := (h.lev n hn).sk hx
    have hl' : m.length = rN C * wN C := by rw [hl]; unfold lvN; rw [hx]; rfl
    have HX := Lib.hid hx
    clear hx
    go_enter Tryz.func22, Tryz.ntmps22
    go_wp2_with fail
    refine (level_yes s g C B L ls w h n hn).mono ?_
    rintro e w1 ⟨rfl, rfl⟩
    rw [lvV_s HX.out]
    go_wp2_with fail
    refine Calls.mono (Load_yes _ _ _ C _ _ _ _ m v _ hA hv hI hl' hne) ?_
    rintro e w2 ⟨rfl, hA2, hM⟩
    go_wp2
    go_ret
    exact ⟨rfl, h.put hn hM (.inr ⟨HX.out, hA2⟩), hM⟩
end Go.Proofs.YteoblkcbemeamaaGreat

/- Rows of pieces; slices.Clone of one. -/
namespace Go.Proofs.YteoblkcbemeamaaGreat
set_option linter.unusedVariables false
open Go.RowKit
theorem info_pc : ∃ i z, Tryz.prog.info? 39 = some i ∧ i.zero = some z ∧ i.size = 2 ∧ i.bytes = 16 ∧ z.cells.size = 2 := by
  have h : (Tryz.prog.info? 39).map (fun i => (i.zero, i.size, i.bytes)) = some (some (.agg #[.int .i64 0, .int .u64 0]), 2, 16) := by kernel_rfl
  match hi : Tryz.prog.info? 39, h with
  | some i, h =>
    simp only [Option.map_some, Option.some.injEq, Prod.mk.injEq] at h
    exact ⟨i, _, rfl, h.1, h.2.1, h.2.2, rfl⟩
def pcV (ps : List (Nat × Int)) : List Value := ps.flatMap fun p => [.int .i64 (p.1 : Int), .int .u64 p.2]
theorem pcV_len (ps : List (Nat × Int)) : (pcV ps).length = ps.length * 2 := by
  induction ps with
  | nil => rfl
  | cons u ps ih =>
    have : pcV (u :: ps) = .int .i64 (u.1 : Int) :: .int .u64 u.2 :: pcV ps := rfl
    rw [this, List.length_cons, List.length_cons, List.length_cons, ih]; omega
theorem pcV_at {ps : List (Nat × Int)} : ∀ {k : Nat} (h : k < ps.length), (pcV ps)[k * 2]? = some (.int .i64 ((ps.getD k (0, 0)).1 : Int)) ∧ (pcV ps)[k * 2 + 1]? = some (.int .u64 (ps.getD k (0, 0)).2) := by
  induction ps with
  | nil => intro k h; simp at h
  | cons u ps ih =>
    intro k h
    have e : pcV (u :: ps) = .int .i64 (u.1 : Int) :: .int .u64 u.2 :: pcV ps := rfl
    rw [e]
    cases k with
    | zero => exact ⟨rfl, rfl⟩
    | succ k =>
      have := ih (k := k) (by simpa using h)
      rw [show (k + 1) * 2 = k * 2 + 1 + 1 by omega]
      simp only [List.getElem?_cons_succ, List.getD_cons_succ]
      exact this
theorem pcV_get {ps : List (Nat × Int)} {j : Nat} {v : Value} (h : (pcV ps)[j]? = some v) : ∃ k, k < ps.length ∧ ((j = k * 2 ∧ v = .int .i64 ((ps.getD k (0, 0)).1 : Int)) ∨ (j = k * 2 + 1 ∧ v = .int .u64 (ps.getD k (0, 0)).2)) := by
  have hj := (List.getElem?_eq_some_iff.1 h).1
  rw [pcV_len] at hj
  have hk : j / 2 < ps.length := by omega
  obtain ⟨a1, a2⟩ := pcV_at hk
  refine ⟨j / 2, hk, ?_⟩
  by_cases he : j % 2 = 0
  · left
    have hj2 : j = j / 2 * 2 := by omega
    rw [← hj2, h] at a1
    exact ⟨hj2, Option.some.inj a1⟩
  · right
    have hj2 : j = j / 2 * 2 + 1 := by omega
    rw [← hj2, h] at a2
    exact ⟨hj2, Option.some.inj a2⟩
/-- Pieces that lie at a place. -/
def PCells (W : World) (g off : Nat) (ps : List (Nat × Int)) : Prop :=
  ∀ k, k < ps.length → W.cell? ⟨g, off + k * 2, none⟩ = some (.int .i64 ((ps.getD k (0, 0)).1 : Int)) ∧ W.cell? ⟨g, off + k * 2 + 1, none⟩ = some (.int .u64 (ps.getD k (0, 0)).2)
theorem PCells.ext {W W' : World} {g off : Nat} {ps : List (Nat × Int)} (h : PCells W g off ps) (hg : g < W.heap.size) (he : Ext W W') : PCells W' g off ps :=
  fun k hk => ⟨((bcell he).1 _ _ hg).trans (h k hk).1, ((bcell he).1 _ _ hg).trans (h k hk).2⟩
/-- A row of pieces of the call's own is a slice of pieces. -/
theorem own_pieces {w : World} {base n : Nat} {e : TypeId} {v : Value} {ps : List (Nat × Int)} (h : w.ownsRow base e 2 v n (pcV ps)) (hl : 0 < ps.length) : ∃ g cap, v = .slice (some ⟨g, 0, none⟩) ps.length cap ∧ g < w.heap.size ∧ PCells w g 0 ps := by
  obtain ⟨h1, h2⟩ := h
  have hn : n = ps.length := by rw [pcV_len] at h1; omega
  subst hn
  obtain ⟨g, cap, cur, rfl, _, hh, hc, _, hs, ht⟩ := h2.resolve_left (fun h => by omega)
  refine ⟨g, cap, rfl, lt_of hh, fun k hk => ?_⟩
  obtain ⟨a1, a2⟩ := pcV_at hk
  rw [← ht] at a1 a2
  rw [List.getElem?_take_of_lt (by omega)] at a1 a2
  simp only [Array.getElem?_toList] at a1 a2
  rw [cell_of hh, cell_of hh, Nat.zero_add]
  exact ⟨a1, a2⟩
set_option maxRecDepth 20000 in
set_option maxHeartbeats 1000000 in
theorem CloneP_c (c cap : Nat) (ps : List (Nat × Int)) (w : World) (h : PCells w c 0 ps) (hlt : c < w.heap.size) (hl : ps.length ≤ 1000) :
    Calls Tryz.prog 96 #[.slice (some ⟨c, 0, none⟩) ps.length cap] w fun e w' => ∃ v, e = .returned v ∧ w'.ownsRow w.heap.size 39 2 v ps.length (pcV ps) ∧ Ext w w' := by
  obtain ⟨i0, z0, hi, hz0, hz1, hz2, hzs⟩ := info_pc
  have hnil := fun (x : World) (n k : Nat) => Lib.run_eql_slice_nil (P := Tryz.prog) x 73 39 (some ⟨c, 0, none⟩) n k 0 0 Tryz.underlying73
  have HC := Lib.hid h
  have HL := Lib.hid hl
  generalize hn : ps.length = n at *
  have HN := Lib.hid hn
  clear h hn hl
  go_enter Tryz.func96, Tryz.ntmps96
  have hown : (w.alloc (.cells #[] 39)).ownsRow w.heap.size 39 2 (.slice (some ⟨w.heap.size, 0, none⟩) 0 0) 0 [] := ⟨rfl, .inr ⟨w.heap.size, 0, #[], rfl, Nat.le_refl _, heap_at _ _ rfl, Nat.le_refl _, Nat.zero_le _, rfl, rfl⟩⟩
  go_wp2_with (at_builtin; refine wpList_append_own _ rfl _ _ 73 rfl w.heap.size 39 i0 z0 2 16 Tryz.underlying73 hi hz0 hz1 hz2 hzs (by decide) _ _ _ rfl hown ⟨c, 0, none⟩ n cap (pcV ps) rfl ?c1 ?c2 ?c3 ?c4 ?c5 ?c6 ?_)
  case c1 => rw [pcV_len, HN.out]
  case c2 =>
    intro j u hu
    obtain ⟨k, hk, ⟨rfl, rfl⟩ | ⟨rfl, rfl⟩⟩ := pcV_get hu
    · rw [show (⟨c, 0, none⟩ : Addr).add (k * 2) = ⟨c, 0 + k * 2, none⟩ by (simp [Addr.add]; try omega), World.cell?_alloc_lt _ _ _ hlt]
      exact (HC.out k hk).1
    · rw [show (⟨c, 0, none⟩ : Addr).add (k * 2 + 1) = ⟨c, 0 + k * 2 + 1, none⟩ by (simp [Addr.add]; try omega), World.cell?_alloc_lt _ _ _ hlt]
      exact (HC.out k hk).2
  case c3 =>
    intro u hu
    obtain ⟨j, hj⟩ := List.getElem?_of_mem hu
    obtain ⟨k, hk, ⟨_, rfl⟩ | ⟨_, rfl⟩⟩ := pcV_get hj <;> rfl
  case c4 => have := HL.out; unfold maxLen; omega
  case c5 => have := HL.out; omega
  case c6 => simp only [size_alloc]; omega
  intro v' w' h1 h2 h3
  go_wp2
  go_ret
  refine ⟨v', rfl, ?_, ?_⟩
  · exact h1
  · exact (Ext.alloc' w (.cells #[] 39)).grown h2 (by simp only [size_alloc]; omega) (by intro k hk; simp [Value.ownBlock] at hk; omega)
end Go.Proofs.YteoblkcbemeamaaGreat

/- A slice of updates that the call itself makes. -/
namespace Go.Proofs.YteoblkcbemeamaaGreat
set_option linter.unusedVariables false
open Go.RowKit

def updV (ps : List (Int × Int)) : List Value := ps.flatMap fun u => [.int .u64 u.1, .int .i64 u.2]
theorem updV_len (ps : List (Int × Int)) : (updV ps).length = ps.length * 2 := by
  induction ps with
  | nil => rfl
  | cons u ps ih =>
    have : updV (u :: ps) = .int .u64 u.1 :: .int .i64 u.2 :: updV ps := rfl
    rw [this, List.length_cons, List.length_cons, List.length_cons, ih]; omega
theorem updV_append (a b : List (Int × Int)) : updV (a ++ b) = updV a ++ updV b := by simp [updV]
theorem updV_at {ps : List (Int × Int)} : ∀ {k : Nat} (h : k < ps.length), (updV ps)[k * 2]? = some (.int .u64 (ps.getD k (0, 0)).1) ∧ (updV ps)[k * 2 + 1]? = some (.int .i64 (ps.getD k (0, 0)).2) := by
  induction ps with
  | nil => intro k h; simp at h
  | cons u ps ih =>
    intro k h
    have e : updV (u :: ps) = .int .u64 u.1 :: .int .i64 u.2 :: updV ps := rfl
    rw [e]
    cases k with
    | zero => exact ⟨rfl, rfl⟩
    | succ k =>
      have := ih (k := k) (by simpa using h)
      rw [show (k + 1) * 2 = k * 2 + 1 + 1 by omega]
      simp only [List.getElem?_cons_succ, List.getD_cons_succ]
      exact this
theorem UpsAt.of_row {w : World} {base : Nat} {e : TypeId} {v : Value} {n : Nat} {ps : List (Int × Int)} (h : w.ownsRow base e 2 v n (updV ps)) : UpsAt w v ps := by
  obtain ⟨h1, h2⟩ := h
  have hn : n = ps.length := by rw [updV_len] at h1; omega
  subst hn
  rcases h2 with ⟨h2, h3⟩ | ⟨g, cap, cur, rfl, _, hh, hc, _, hs, ht⟩
  · refine .inl ⟨⟨_, h2⟩, ?_⟩
    exact List.length_eq_zero_iff.1 h3
  · refine .inr ⟨g, 0, cap, rfl, lt_of hh, fun k hk => ?_⟩
    obtain ⟨a1, a2⟩ := updV_at hk
    rw [← ht] at a1 a2
    rw [List.getElem?_take_of_lt (by omega)] at a1 a2
    simp only [Array.getElem?_toList] at a1 a2
    rw [cell_of hh, cell_of hh, Nat.zero_add]
    exact ⟨a1, a2⟩
section
variable {P : Program}
/-- 's = append(s, u)', u an update, s a row of the call's own. -/
theorem wpList_appu (W : World) {ops : Array Oper} {rest : List Oper} {o : Oper} {a : Act} {Q : Exit → Act → World → Prop} (u : Int × Int) (l : List (Int × Int)) (v : Value) (base : Nat) (e e' : TypeId) (hown : W.ownsRow base e 2 v l.length (updV l)) (t : TypeId)
    (hgd : o.guard = none) (s y : Operand) (ho : o.op = .call { callee := .builtin .append, args := #[s, y], argTypes := #[t, t] })
    (i0 : TypeInfo) (z : Value) (hi : P.info? e = some i0) (hz0 : i0.zero = some z) (hz1 : i0.size = 2) (hz2 : i0.bytes = 16) (hzs : z.cells.size = 2) (ht : P.underlying t = some (.slice e))
    (hs : a.eval s = v) (hx : a.eval y = .slice (some ⟨W.heap.size, 0, none⟩) 1 1)
    (hl : l.length ≤ 1000000000) (hbase : base ≤ W.heap.size)
    (h : ∀ v' w', w'.ownsRow base e 2 v' (l ++ [u]).length (updV (l ++ [u])) → (W.alloc (.cells #[.int .u64 u.1, .int .i64 u.2] e')).grownBy w' v.ownBlock → (v'.ownBlock = v.ownBlock ∨ v'.ownBlock = some (W.heap.size + 1)) → wpList P ops Q rest (a.put o.dst v') w') :
    wpList P ops Q (o :: rest) a (W.alloc (.cells #[.int .u64 u.1, .int .i64 u.2] e')) := by
  refine wpList_append_sep _ hgd s y t ho base e i0 z 2 16 ht hi hz0 hz1 hz2 hzs (by decide) v l.length (updV l) hs (hown.alloc _) ⟨W.heap.size, 0, none⟩ 1 1 [.int .u64 u.1, .int .i64 u.2] hx rfl ?_ ?_ (by unfold maxLen; omega) (by omega) (by rw [size_alloc]; omega) ?_
  · intro j v hv
    have hj : j = 0 ∨ j = 1 := by
      have := (List.getElem?_eq_some_iff.1 hv).1
      simp at this; omega
    rcases hj with rfl | rfl
    · rw [show (⟨W.heap.size, 0, none⟩ : Addr).add 0 = ⟨W.heap.size, 0, none⟩ by simp [Addr.add], cell_of (heap_at W _ rfl) 0]
      exact hv
    · rw [show (⟨W.heap.size, 0, none⟩ : Addr).add 1 = ⟨W.heap.size, 1, none⟩ by simp [Addr.add], cell_of (heap_at W _ rfl) 1]
      exact hv
  · intro x hx
    simp at hx
    rcases hx with rfl | rfl <;> rfl
  · intro v' w' h1 h2 h3
    refine h v' w' ?_ h2 ?_
    · rw [List.length_append, updV_append]
      exact h1
    · rw [size_alloc] at h3; exact h3
end
end Go.Proofs.YteoblkcbemeamaaGreat

/- append of a row of updates to a row of the call's own. -/
namespace Go.Proofs.YteoblkcbemeamaaGreat
set_option linter.unusedVariables false
open Go.RowKit
/-- Updates that lie at a place. -/
def UCells (W : World) (g off : Nat) (l : List (Int × Int)) : Prop :=
  ∀ k, k < l.length → W.cell? ⟨g, off + k * 2, none⟩ = some (.int .u64 (l.getD k (0, 0)).1) ∧ W.cell? ⟨g, off + k * 2 + 1, none⟩ = some (.int .i64 (l.getD k (0, 0)).2)
theorem UCells.ext {W W' : World} {g off : Nat} {l : List (Int × Int)} (h : UCells W g off l) (hg : g < W.heap.size) (he : Ext W W') : UCells W' g off l :=
  fun k hk => ⟨((bcell he).1 _ _ hg).trans (h k hk).1, ((bcell he).1 _ _ hg).trans (h k hk).2⟩
theorem UCells.take {W : World} {g off : Nat} {l : List (Int × Int)} (h : UCells W g off l) (n : Nat) : UCells W g off (l.take n) := by
  intro k hk
  rw [List.length_take] at hk
  have := h k (by omega)
  have e : (l.take n).getD k (0, 0) = l.getD k (0, 0) := by
    rw [List.getD_eq_getElem?_getD, List.getD_eq_getElem?_getD, List.getElem?_take_of_lt (by omega)]
  rw [e]; exact this
theorem UCells.drop {W : World} {g off : Nat} {l : List (Int × Int)} (h : UCells W g off l) (n : Nat) : UCells W g (off + n * 2) (l.drop n) := by
  intro k hk
  rw [List.length_drop] at hk
  have := h (n + k) (by omega)
  have e : (l.drop n).getD k (0, 0) = l.getD (n + k) (0, 0) := by
    rw [List.getD_eq_getElem?_getD, List.getD_eq_getElem?_getD, List.getElem?_drop]
  rw [e, show off + n * 2 + k * 2 = off + (n + k) * 2 by omega]; exact this
theorem updV_get {l : List (Int × Int)} {j : Nat} {v : Value} (h : (updV l)[j]? = some v) : ∃ k, k < l.length ∧ ((j = k * 2 ∧ v = .int .u64 (l.getD k (0, 0)).1) ∨ (j = k * 2 + 1 ∧ v = .int .i64 (l.getD k (0, 0)).2)) := by
  have hj := (List.getElem?_eq_some_iff.1 h).1
  rw [updV_len] at hj
  have hk : j / 2 < l.length := by omega
  obtain ⟨a1, a2⟩ := updV_at hk
  refine ⟨j / 2, hk, ?_⟩
  by_cases he : j % 2 = 0
  · left
    have hj2 : j = j / 2 * 2 := by omega
    rw [← hj2, h] at a1
    exact ⟨hj2, Option.some.inj a1⟩
  · right
    have hj2 : j = j / 2 * 2 + 1 := by omega
    rw [← hj2, h] at a2
    exact ⟨hj2, Option.some.inj a2⟩
/-- A slice is not longer than its row. -/
def SlCap (v : Value) : Prop := ∀ p n c, v = .slice p n c → n ≤ c
/-- A slice of updates is cells. -/
theorem UpsAt.place {w : World} {p : Option Addr} {c : Nat} {us : List (Int × Int)} (h : UpsAt w (.slice p us.length c) us) (hl : 0 < us.length) :
    ∃ g off, p = some ⟨g, off, none⟩ ∧ g < w.heap.size ∧ UCells w g off us := by
  obtain ⟨g, off, cap, hvv, hgl, hcell⟩ := h.resolve_left (fun h => by rw [h.2] at hl; simp at hl)
  have := Value.slice.inj hvv
  exact ⟨g, off, this.1, hgl, hcell⟩
section
variable {P : Program}
theorem wpList_appus (W : World) {ops : Array Oper} {rest : List Oper} {o : Oper} {a : Act} {Q : Exit → Act → World → Prop} (l xs : List (Int × Int)) (v : Value) (base : Nat) (e : TypeId) (hown : W.ownsRow base e 2 v xs.length (updV xs)) (t : TypeId)
    (hgd : o.guard = none) (s y : Operand) (ho : o.op = .call { callee := .builtin .append, args := #[s, y], argTypes := #[t, t] })
    (i0 : TypeInfo) (z : Value) (hi : P.info? e = some i0) (hz0 : i0.zero = some z) (hz1 : i0.size = 2) (hz2 : i0.bytes = 16) (hzs : z.cells.size = 2) (ht : P.underlying t = some (.slice e))
    (hs : a.eval s = v) (g off m c : Nat) (hx : a.eval y = .slice (some ⟨g, off, none⟩) m c) (hm : m = l.length) (hc : UCells W g off l)
    (hl : xs.length + m ≤ 1000000000) (hbase : base ≤ W.heap.size)
    (h : ∀ v' w', w'.ownsRow base e 2 v' (xs ++ l).length (updV (xs ++ l)) → W.grownBy w' v.ownBlock → (v'.ownBlock = v.ownBlock ∨ v'.ownBlock = some W.heap.size) → wpList P ops Q rest (a.put o.dst v') w') :
    wpList P ops Q (o :: rest) a W := by
  subst hm
  refine wpList_append_sep _ hgd s y t ho base e i0 z 2 16 ht hi hz0 hz1 hz2 hzs (by decide) v xs.length (updV xs) hs hown ⟨g, off, none⟩ l.length c (updV l) hx (by rw [updV_len]) ?_ ?_ (by unfold maxLen; omega) (by omega) hbase ?_
  · intro j u hu
    obtain ⟨k, hk, ⟨rfl, rfl⟩ | ⟨rfl, rfl⟩⟩ := updV_get hu
    · rw [show (⟨g, off, none⟩ : Addr).add (k * 2) = ⟨g, off + k * 2, none⟩ by simp [Addr.add]]
      exact (hc k hk).1
    · rw [show (⟨g, off, none⟩ : Addr).add (k * 2 + 1) = ⟨g, off + k * 2 + 1, none⟩ by simp [Addr.add, Nat.add_assoc]]
      exact (hc k hk).2
  · intro u hu
    obtain ⟨j, hj⟩ := List.getElem?_of_mem hu
    obtain ⟨k, hk, ⟨_, rfl⟩ | ⟨_, rfl⟩⟩ := updV_get hj <;> rfl
  · intro v' w' h1 h2 h3
    refine h v' w' ?_ h2 h3
    rw [List.length_append, updV_append]
    exact h1
/-- The same, of a slice that may have nothing. -/
theorem wpList_appz (W : World) {ops : Array Oper} {rest : List Oper} {o : Oper} {a : Act} {Q : Exit → Act → World → Prop} (l xs : List (Int × Int)) (v : Value) (base : Nat) (e : TypeId) (hown : W.ownsRow base e 2 v xs.length (updV xs)) (t : TypeId)
    (hgd : o.guard = none) (s y : Operand) (ho : o.op = .call { callee := .builtin .append, args := #[s, y], argTypes := #[t, t] })
    (i0 : TypeInfo) (z : Value) (hi : P.info? e = some i0) (hz0 : i0.zero = some z) (hz1 : i0.size = 2) (hz2 : i0.bytes = 16) (hzs : z.cells.size = 2) (ht : P.underlying t = some (.slice e))
    (hs : a.eval s = v) (hx : ∃ p c, a.eval y = .slice p l.length c ∧ (l = [] ∨ ∃ g off, p = some ⟨g, off, none⟩ ∧ UCells W g off l))
    (hl : xs.length + l.length ≤ 1000000000) (hbase : base ≤ W.heap.size)
    (h : ∀ (v' : Value) (w' : World), w'.ownsRow base e 2 v' (xs ++ l).length (updV (xs ++ l)) → (∀ W0 : World, Ext W0 W → W0.heap.size ≤ base → Ext W0 w') → (∀ (k : Nat) (cur : Array Value) (t' : TypeId), W.heap[k]? = some (Obj.cells cur t' (0, 0)) → t' ≠ e → w'.heap[k]? = some (Obj.cells cur t' (0, 0))) → wpList P ops Q rest (a.put o.dst v') w') :
    wpList P ops Q (o :: rest) a W := by
  obtain ⟨p, c, hx, hc⟩ := hx
  by_cases hl0 : l = []
  · subst hl0
    refine wpList_append_zero hgd s y t ho base e i0 2 ht hi v xs.length (updV xs) hs hown p c hx ?_
    refine h v W (by rw [List.append_nil]; exact hown) (fun W0 h _ => h) (fun k cur t' hk _ => hk)
  · obtain ⟨g, off, rfl, huc⟩ := hc.resolve_left hl0
    refine wpList_appus W l xs v base e hown t hgd s y ho i0 z hi hz0 hz1 hz2 hzs ht hs g off l.length c hx rfl huc hl hbase ?_
    intro v' w' h1 h2 h3
    refine h v' w' h1 (fun W0 hE hb => ext_grown0 hE h2 fun k hk => Nat.le_trans hb (own_blk hown hk)) (fun k cur t' hk ht' => ?_)
    rw [h2.block k (lt_of hk) (fun he => ?_)]
    · exact hk
    · obtain ⟨cur', hc'⟩ := own_type hown he.symm
      rw [hk] at hc'
      injection hc' with hc'
      injection hc' with _ hc' _
      exact ht' hc'
end
/-- A row lies on, where another block is changed. -/
theorem own_off {W Wf : World} {base n b : Nat} {e t : TypeId} {v : Value} {xs : List Value} {cur : Array Value} (ho : W.ownsRow base e 2 v n xs) (hy : W.heap[b]? = some (Obj.cells cur t (0, 0))) (ht : t ≠ e) (hof : ∀ j, j ≠ b → Wf.heap[j]? = W.heap[j]?) : Wf.ownsRow base e 2 v n xs := by
  refine ⟨ho.1, ?_⟩
  rcases ho.2 with h | ⟨g, cap, cur', hv, hg, hh, hr⟩
  · exact .inl h
  · refine .inr ⟨g, cap, cur', hv, hg, ?_, hr⟩
    rw [hof g (fun he => ?_)]
    · exact hh
    · subst he
      rw [hh] at hy
      injection hy with hy
      injection hy with _ hy _
      exact ht hy.symm
theorem fin6 {Φ : World → Prop} {w W : World} {b : Nat} {x0 x1 x2 x3 x4 x5 : Value} {t : TypeId} (h : W.heap[b]? = some (.cells #[x0, x1, x2, x3, x4, x5] t (0, 0))) (hE : Ext w W) (hb : w.heap.size ≤ b) {u0 u1 u2 u3 u4 u5 : Value}
    (k : ∀ Wf, Wf.heap[b]? = some (.cells #[u0, u1, u2, u3, u4, u5] t (0, 0)) → Ext w Wf → (∀ j, j ≠ b → Wf.heap[j]? = W.heap[j]?) → Φ Wf) :
    Φ ((((((W.setCell ⟨b, 0, none⟩ u0).setCell ⟨b, 1, none⟩ u1).setCell ⟨b, 2, none⟩ u2).setCell ⟨b, 3, none⟩ u3).setCell ⟨b, 4, none⟩ u4).setCell ⟨b, 5, none⟩ u5) := by
  refine k _ ?_ ((((((hE.setR hb _).setR hb _).setR hb _).setR hb _).setR hb _).setR hb _) (fun j hj => ?_)
  · rw [setCell_same (setCell_same (setCell_same (setCell_same (setCell_same (setCell_same h 0 u0) 1 u1) 2 u2) 3 u3) 4 u4) 5 u5]; rfl
  · rw [setCell_other _ _ hj, setCell_other _ _ hj, setCell_other _ _ hj, setCell_other _ _ hj, setCell_other _ _ hj, setCell_other _ _ hj]
end Go.Proofs.YteoblkcbemeamaaGreat

/- append of pieces to a row of the call's own; two rows that lie apart. -/
namespace Go.Proofs.YteoblkcbemeamaaGreat
set_option linter.unusedVariables false
open Go.RowKit
theorem pcV_append (a b : List (Nat × Int)) : pcV (a ++ b) = pcV a ++ pcV b := by unfold pcV; rw [List.flatMap_append]
section
variable {P : Program}
/-- 's = append(s, p)', p a piece, s a row of the call's own. -/
theorem wpList_appp (W : World) {ops : Array Oper} {rest : List Oper} {o : Oper} {a : Act} {Q : Exit → Act → World → Prop} (p : Nat × Int) (l : List (Nat × Int)) (v : Value) (base : Nat) (e e' : TypeId) (hown : W.ownsRow base e 2 v l.length (pcV l)) (t : TypeId)
    (hgd : o.guard = none) (s y : Operand) (ho : o.op = .call { callee := .builtin .append, args := #[s, y], argTypes := #[t, t] })
    (i0 : TypeInfo) (z : Value) (hi : P.info? e = some i0) (hz0 : i0.zero = some z) (hz1 : i0.size = 2) (hz2 : i0.bytes = 16) (hzs : z.cells.size = 2) (ht : P.underlying t = some (.slice e))
    (hs : a.eval s = v) (hx : a.eval y = .slice (some ⟨W.heap.size, 0, none⟩) 1 1)
    (hl : l.length ≤ 1000000000) (hbase : base ≤ W.heap.size)
    (h : ∀ v' w', w'.ownsRow base e 2 v' (l ++ [p]).length (pcV (l ++ [p])) → (W.alloc (.cells #[.int .i64 (p.1 : Int), .int .u64 p.2] e')).grownBy w' v.ownBlock → (v'.ownBlock = v.ownBlock ∨ v'.ownBlock = some (W.heap.size + 1)) → wpList P ops Q rest (a.put o.dst v') w') :
    wpList P ops Q (o :: rest) a (W.alloc (.cells #[.int .i64 (p.1 : Int), .int .u64 p.2] e')) := by
  refine wpList_append_sep _ hgd s y t ho base e i0 z 2 16 ht hi hz0 hz1 hz2 hzs (by decide) v l.length (pcV l) hs (hown.alloc _) ⟨W.heap.size, 0, none⟩ 1 1 [.int .i64 (p.1 : Int), .int .u64 p.2] hx rfl ?_ ?_ (by unfold maxLen; omega) (by omega) (by rw [size_alloc]; omega) ?_
  · intro j v hv
    have hj : j = 0 ∨ j = 1 := by
      have := (List.getElem?_eq_some_iff.1 hv).1
      simp at this; omega
    rcases hj with rfl | rfl
    · rw [show (⟨W.heap.size, 0, none⟩ : Addr).add 0 = ⟨W.heap.size, 0, none⟩ by simp [Addr.add], cell_of (heap_at W _ rfl) 0]
      exact hv
    · rw [show (⟨W.heap.size, 0, none⟩ : Addr).add 1 = ⟨W.heap.size, 1, none⟩ by simp [Addr.add], cell_of (heap_at W _ rfl) 1]
      exact hv
  · intro x hx
    simp at hx
    rcases hx with rfl | rfl <;> rfl
  · intro v' w' h1 h2 h3
    refine h v' w' ?_ h2 ?_
    · rw [List.length_append, pcV_append]
      exact h1
    · rw [size_alloc] at h3; exact h3
theorem wpList_apppz (W : World) {ops : Array Oper} {rest : List Oper} {o : Oper} {a : Act} {Q : Exit → Act → World → Prop} (l xs : List (Nat × Int)) (v : Value) (base : Nat) (e : TypeId) (hown : W.ownsRow base e 2 v xs.length (pcV xs)) (t : TypeId)
    (hgd : o.guard = none) (s y : Operand) (ho : o.op = .call { callee := .builtin .append, args := #[s, y], argTypes := #[t, t] })
    (i0 : TypeInfo) (z : Value) (hi : P.info? e = some i0) (hz0 : i0.zero = some z) (hz1 : i0.size = 2) (hz2 : i0.bytes = 16) (hzs : z.cells.size = 2) (ht : P.underlying t = some (.slice e))
    (hs : a.eval s = v) (u : Value) (hx : a.eval y = u) (base' : Nat) (hu : W.ownsRow base' e 2 u l.length (pcV l))
    (hl : xs.length + l.length ≤ 1000000000) (hbase : base ≤ W.heap.size)
    (h : ∀ (v' : Value) (w' : World), w'.ownsRow base e 2 v' (xs ++ l).length (pcV (xs ++ l)) → (∀ W0 : World, Ext W0 W → W0.heap.size ≤ base → Ext W0 w') → (∀ (k : Nat) (cur : Array Value) (t' : TypeId), W.heap[k]? = some (Obj.cells cur t' (0, 0)) → t' ≠ e → w'.heap[k]? = some (Obj.cells cur t' (0, 0))) → wpList P ops Q rest (a.put o.dst v') w') :
    wpList P ops Q (o :: rest) a W := by
  rcases hu.2 with ⟨rfl, h0⟩ | ⟨g, cap, cur, rfl, hb, hh, hnc, hcm, hcs, htk⟩
  · have hl0 : l = [] := List.length_eq_zero_iff.1 h0
    subst hl0
    refine wpList_append_zero hgd s y t ho base e i0 2 ht hi v xs.length (pcV xs) hs hown none 0 hx ?_
    exact h v W (by rw [List.append_nil]; exact hown) (fun W0 h _ => h) (fun k cur t' hk _ => hk)
  · refine wpList_append_sep _ hgd s y t ho base e i0 z 2 16 ht hi hz0 hz1 hz2 hzs (by decide) v xs.length (pcV xs) hs hown ⟨g, 0, none⟩ l.length cap (pcV l) hx (by rw [pcV_len]) ?_ ?_ (by unfold maxLen; omega) (by omega) hbase ?_
    · intro j u' hu'
      have hj := (List.getElem?_eq_some_iff.1 hu').1
      rw [pcV_len] at hj
      rw [← htk, List.getElem?_take_of_lt hj, Array.getElem?_toList] at hu'
      rw [show (⟨g, 0, none⟩ : Addr).add j = ⟨g, j, none⟩ by (simp [Addr.add]; try omega), cell_of hh]
      exact hu'
    · intro u' hu'
      obtain ⟨j, hj⟩ := List.getElem?_of_mem hu'
      obtain ⟨k, hk, ⟨_, rfl⟩ | ⟨_, rfl⟩⟩ := pcV_get hj <;> rfl
    · intro v' w' h1 h2 h3
      refine h v' w' (by rw [List.length_append, pcV_append]; exact h1) (fun W0 hE hb => ext_grown0 hE h2 fun k hk => Nat.le_trans hb (own_blk hown hk)) (fun k cur t' hk ht' => ?_)
      rw [h2.block k (lt_of hk) (fun he => ?_)]
      · exact hk
      · obtain ⟨cur', hc'⟩ := own_type hown he.symm
        rw [hk] at hc'
        injection hc' with hc'
        injection hc' with _ hc' _
        exact ht' hc'
end
theorem own_keepB {w w' : World} {base n size : Nat} {e : TypeId} {v : Value} {xs : List Value} (h : w.ownsRow base e size v n xs) (hk : ∀ k, v.ownBlock = some k → w'.heap[k]? = w.heap[k]?) : w'.ownsRow base e size v n xs := by
  refine ⟨h.1, ?_⟩
  rcases h.2 with h' | ⟨g, cap, cur, rfl, hb, hh, hr⟩
  · exact .inl h'
  · exact .inr ⟨g, cap, cur, rfl, hb, (hk g rfl).trans hh, hr⟩
theorem own_lt {w : World} {base n size : Nat} {e : TypeId} {v : Value} {xs : List Value} (h : w.ownsRow base e size v n xs) {k : Nat} (hk : v.ownBlock = some k) : k < w.heap.size := by
  obtain ⟨cur, hc⟩ := own_type h hk; exact lt_of hc
theorem own_notB {w : World} {base n size b : Nat} {e t : TypeId} {v : Value} {xs : List Value} {cur : Array Value} (h : w.ownsRow base e size v n xs) (hb : w.heap[b]? = some (.cells cur t (0, 0))) (ht : t ≠ e) : v.ownBlock ≠ some b := by
  intro hk
  obtain ⟨cur', hc⟩ := own_type h hk
  rw [hb] at hc
  injection hc with hc
  injection hc with _ hc _
  exact ht hc
/-- Two rows do not lie in one block. -/
def Dja (v u : Value) : Prop := ∀ i, v.ownBlock = some i → u.ownBlock ≠ some i
theorem Dja.symm {v u : Value} (h : Dja v u) : Dja u v := fun i h1 h2 => h i h2 h1
/-- Two rows of pieces that lie apart, each in a box. -/
structure CovW (w W : World) (b6 b8 : Nat) (v6 v8 : Value) (pre suf : List (Nat × Int)) : Prop where
  x6 : W.heap[b6]? = some (.cells #[v6] 73 (0, 0))
  x8 : W.heap[b8]? = some (.cells #[v8] 73 (0, 0))
  o6 : W.ownsRow w.heap.size 39 2 v6 pre.length (pcV pre)
  o8 : W.ownsRow w.heap.size 39 2 v8 suf.length (pcV suf)
  dj : Dja v6 v8
  g6 : w.heap.size ≤ b6
  g8 : w.heap.size ≤ b8
  ne : b6 ≠ b8
  ext : Ext w W
theorem CovW.symm {w W : World} {b6 b8 : Nat} {v6 v8 : Value} {pre suf : List (Nat × Int)} (h : CovW w W b6 b8 v6 v8 pre suf) : CovW w W b8 b6 v8 v6 suf pre := ⟨h.x8, h.x6, h.o8, h.o6, h.dj.symm, h.g8, h.g6, h.ne.symm, h.ext⟩
theorem CovW.set {w W : World} {b6 b8 : Nat} {v6 v8 : Value} {pre suf : List (Nat × Int)} (h : CovW w W b6 b8 v6 v8 pre suf) : CovW w (W.setCell ⟨b6, 0, none⟩ v6) b6 b8 v6 v8 pre suf :=
  ⟨by rw [setCell_same h.x6]; rfl, by rw [setCell_other _ _ h.ne.symm]; exact h.x8, own_keepB h.o6 (fun k hk => setCell_other _ _ (fun e => own_notB h.o6 h.x6 (by decide) (e ▸ hk))), own_keepB h.o8 (fun k hk => setCell_other _ _ (fun e => own_notB h.o8 h.x6 (by decide) (e ▸ hk))), h.dj, h.g6, h.g8, h.ne, h.ext.setR (p := ⟨b6, 0, none⟩) h.g6 _⟩
theorem CovW.app0 {w W w1 : World} {b6 b8 : Nat} {v6 v8 : Value} {pre suf : List (Nat × Int)} {o : Obj} (h : CovW w W b6 b8 v6 v8 pre suf) (h2 : (W.alloc o).grownBy w1 v6.ownBlock) : w1.heap[b6]? = some (.cells #[v6] 73 (0, 0)) :=
  (grown_old h2 (lt_of h.x6) (fun e => own_notB h.o6 h.x6 (by decide) e.symm)).trans h.x6
/-- One of them has a piece more. -/
theorem CovW.app {w W w1 : World} {b6 b8 : Nat} {v6 v8 v' : Value} {pre suf : List (Nat × Int)} {p : Nat × Int} {o : Obj} (h : CovW w W b6 b8 v6 v8 pre suf)
    (h1 : w1.ownsRow w.heap.size 39 2 v' (pre.length + 1) (pcV (pre ++ [p]))) (h2 : (W.alloc o).grownBy w1 v6.ownBlock) (h3 : v'.ownBlock = v6.ownBlock ∨ v'.ownBlock = some (W.heap.size + 1)) :
    CovW w (w1.setCell ⟨b6, 0, none⟩ v') b6 b8 v' v8 (pre ++ [p]) suf := by
  replace h1 : w1.ownsRow w.heap.size 39 2 v' (pre ++ [p]).length (pcV (pre ++ [p])) := by rw [List.length_append]; exact h1
  have old : ∀ k, k < W.heap.size → v6.ownBlock ≠ some k → w1.heap[k]? = W.heap[k]? := fun k hk hn => grown_old h2 hk (fun e => hn e.symm)
  have k6 := (old b6 (lt_of h.x6) (own_notB h.o6 h.x6 (by decide))).trans h.x6
  have k8 := (old b8 (lt_of h.x8) (own_notB h.o6 h.x8 (by decide))).trans h.x8
  have r8 : w1.ownsRow w.heap.size 39 2 v8 suf.length (pcV suf) := own_keepB h.o8 (fun k hk => old k (own_lt h.o8 hk) (fun e => h.dj k e hk))
  refine ⟨by rw [setCell_same k6]; rfl, by rw [setCell_other _ _ h.ne.symm]; exact k8, own_keepB h1 (fun k hk => setCell_other _ _ (fun e => own_notB h1 k6 (by decide) (e ▸ hk))), own_keepB r8 (fun k hk => setCell_other _ _ (fun e => own_notB r8 k6 (by decide) (e ▸ hk))), ?_, h.g6, h.g8, h.ne, ?_⟩
  · intro i hi hu
    rcases h3 with h3 | h3
    · exact h.dj i (h3 ▸ hi) hu
    · have := own_lt h.o8 hu
      rw [h3] at hi
      have := Option.some.inj hi
      omega
  · have h2' : Ext w w1 := by
      refine Below.grown (h.ext.allocR o) h2 (by rw [size_alloc]; have := h.ext.size; omega) (fun k hk => own_blk h.o6 hk)
    exact h2'.setR (p := ⟨b6, 0, none⟩) h.g6 _
end Go.Proofs.YteoblkcbemeamaaGreat

/- A grid of the references in memory: a row of rows. -/
namespace Go.Proofs.YteoblkcbemeamaaGreat
set_option linter.unusedVariables false
open Go.RowKit
/-- Where it lies: its block, its row of rows, its rows, and how many cells they could have. -/
structure Gr where
  g : Nat
  m : Nat
  r : Nat → Nat
  c : Nat → Nat
def Gr.foot (G : Gr) (R : Nat) (k : Nat) : Prop := k = G.g ∨ k = G.m ∨ ∃ r, r < R ∧ k = G.r r
def Gr.row (G : Gr) (W r : Nat) : Value := .slice (some ⟨G.r r, 0, none⟩) W (G.c r)
structure RGAt (w : World) (G : Gr) (R W : Nat) (l : List Int) : Prop where
  ex : ∃ cap, w.heap[G.g]? = some (.cells #[.slice (some ⟨G.m, 0, none⟩) R cap] 144 (0, 0)) ∧ R ≤ cap
  row : ∃ cur, w.heap[G.m]? = some (.cells cur 43 (0, 0)) ∧ ∀ r, r < R → cur[r]? = some (G.row W r)
  cells : ∀ r, r < R → ∃ cur, w.heap[G.r r]? = some (.cells cur 2 (0, 0)) ∧ ∀ k, k < W → cur[k]? = some (.int .i64 (l.getD (r * W + k) 0))
  capc : ∀ r, r < R → W ≤ G.c r
  sep : ∀ r q, r < R → q < R → r ≠ q → G.r r ≠ G.r q
  len : l.length = R * W
  r1 : 1 ≤ R
  r2 : R ≤ 8
  w1 : 1 ≤ W
  w2 : W ≤ 128
section
variable {w : World} {G : Gr} {R W : Nat} {l : List Int}
theorem RGAt.ltg (h : RGAt w G R W l) : G.g < w.heap.size := by obtain ⟨cap, h1, _⟩ := h.ex; exact lt_of h1
theorem RGAt.ltm (h : RGAt w G R W l) : G.m < w.heap.size := by obtain ⟨cur, h1, _⟩ := h.row; exact lt_of h1
theorem RGAt.ltr (h : RGAt w G R W l) {r : Nat} (hr : r < R) : G.r r < w.heap.size := by obtain ⟨cur, h1, _⟩ := h.cells r hr; exact lt_of h1
theorem RGAt.lt (h : RGAt w G R W l) {k : Nat} (hk : G.foot R k) : k < w.heap.size := by
  rcases hk with rfl | rfl | ⟨r, hr, rfl⟩
  · exact h.ltg
  · exact h.ltm
  · exact h.ltr hr
theorem RGAt.ngr (h : RGAt w G R W l) {r : Nat} (hr : r < R) : G.g ≠ G.r r := by
  obtain ⟨cap, h1, _⟩ := h.ex
  obtain ⟨cur, h2, _⟩ := h.cells r hr
  exact blk_ne h1 h2 (by decide)
theorem RGAt.nmr (h : RGAt w G R W l) {r : Nat} (hr : r < R) : G.m ≠ G.r r := by
  obtain ⟨c1, h1, _⟩ := h.row
  obtain ⟨cur, h2, _⟩ := h.cells r hr
  exact blk_ne h1 h2 (by decide)
theorem RGAt.ngm (h : RGAt w G R W l) : G.g ≠ G.m := by
  obtain ⟨cap, h1, _⟩ := h.ex
  obtain ⟨cur, h2, _⟩ := h.row
  exact blk_ne h1 h2 (by decide)
theorem RGAt.keep {w' : World} (h : RGAt w G R W l) (hk : ∀ k, G.foot R k → w'.heap[k]? = w.heap[k]?) : RGAt w' G R W l :=
  ⟨by rw [hk _ (.inl rfl)]; exact h.ex, by rw [hk _ (.inr (.inl rfl))]; exact h.row, fun r hr => by rw [hk _ (.inr (.inr ⟨r, hr, rfl⟩))]; exact h.cells r hr, h.capc, h.sep, h.len, h.r1, h.r2, h.w1, h.w2⟩
theorem RGAt.ext {w' : World} (h : RGAt w G R W l) (he : Ext w w') : RGAt w' G R W l := h.keep fun k hk => he.block k (h.lt hk)
theorem RGAt.mod {S : Nat → Prop} {w' : World} (h : RGAt w G R W l) (he : Mod S w w') (hn : ∀ k, G.foot R k → ¬ S k) : RGAt w' G R W l := h.keep fun k hk => he.block k (h.lt hk) (hn k hk)
theorem RGAt.cg (h : RGAt w G R W l) : ∃ cap, w.cell? ⟨G.g, 0, none⟩ = some (.slice (some ⟨G.m, 0, none⟩) R cap) ∧ R ≤ cap := by
  obtain ⟨cap, h1, h2⟩ := h.ex
  exact ⟨cap, (cell_of h1 0).trans rfl, h2⟩
theorem RGAt.cm (h : RGAt w G R W l) {r : Nat} (hr : r < R) : w.cell? ⟨G.m, r, none⟩ = some (.slice (some ⟨G.r r, 0, none⟩) W (G.c r)) := by
  obtain ⟨cur, h1, h2⟩ := h.row
  rw [cell_of h1]; exact h2 r hr
theorem RGAt.fm (h : RGAt w G R W l) (r : Nat) : w.frozen? ⟨G.m, r, none⟩ = false := by
  obtain ⟨cur, h1, h2⟩ := h.row
  exact frozen_of h1 r
theorem RGAt.cr (h : RGAt w G R W l) {r k : Nat} (hr : r < R) (hk : k < W) : w.cell? ⟨G.r r, k, none⟩ = some (.int .i64 (l.getD (r * W + k) 0)) := by
  obtain ⟨cur, h1, h2⟩ := h.cells r hr
  rw [cell_of h1]; exact h2 k hk
theorem RGAt.fr (h : RGAt w G R W l) {r : Nat} (hr : r < R) (k : Nat) : w.frozen? ⟨G.r r, k, none⟩ = false := by
  obtain ⟨cur, h1, h2⟩ := h.cells r hr
  exact frozen_of h1 k
/-- A row of its cells. -/
def rowL (l : List Int) (W r : Nat) : List Int := (List.range W).map fun k => l.getD (r * W + k) 0
theorem rowL_len (l : List Int) (W r : Nat) : (rowL l W r).length = W := by simp [rowL]
theorem rowL_get {l : List Int} {W r k : Nat} (hk : k < W) : (rowL l W r).getD k 0 = l.getD (r * W + k) 0 := by simp [rowL, hk]
theorem RGAt.ints (h : RGAt w G R W l) {r : Nat} (hr : r < R) : IntsAt w (.slice (some ⟨G.r r, 0, none⟩) W (G.c r)) (rowL l W r) :=
  .inr ⟨G.r r, 0, G.c r, by rw [rowL_len], h.ltr hr, fun k hk => by rw [rowL_len] at hk; rw [Nat.zero_add, rowL_get hk]; exact h.cr hr hk⟩
/-- One cell set. -/
theorem RGAt.set (h : RGAt w G R W l) {r k : Nat} (hr : r < R) (hk : k < W) (x : Int) : RGAt (w.setCell ⟨G.r r, k, none⟩ (.int .i64 x)) G R W (l.set (r * W + k) x) := by
  have hlt : r * W + k < l.length := by
    rw [h.len]
    calc r * W + k < r * W + W := by omega
      _ = (r + 1) * W := by rw [Nat.add_mul, Nat.one_mul]
      _ ≤ R * W := Nat.mul_le_mul_right W hr
  refine ⟨by rw [setCell_other _ _ (h.ngr hr)]; exact h.ex, by rw [setCell_other _ _ (h.nmr hr)]; exact h.row, fun q hq => ?_, h.capc, h.sep, by rw [List.length_set]; exact h.len, h.r1, h.r2, h.w1, h.w2⟩
  obtain ⟨cur, h1, h2⟩ := h.cells q hq
  by_cases e : q = r
  · subst e
    refine ⟨_, setCell_same h1 _ _, fun j hj => ?_⟩
    by_cases ej : j = k
    · subst ej
      have hsz : j < cur.size := by
        have := h2 j hj
        rw [Array.getElem?_eq_some_iff] at this
        exact this.1
      rw [Array.getElem?_setIfInBounds_self_of_lt hsz, List.getD_eq_getElem?_getD, List.getElem?_set_self hlt]
      rfl
    · rw [Array.getElem?_setIfInBounds_ne (fun e => ej e.symm), h2 j hj, List.getD_eq_getElem?_getD, List.getD_eq_getElem?_getD, List.getElem?_set_ne (by omega)]
  · refine ⟨cur, by rw [setCell_other _ _ (h.sep q r hq hr e)]; exact h1, fun j hj => ?_⟩
    rw [h2 j hj, List.getD_eq_getElem?_getD, List.getD_eq_getElem?_getD, List.getElem?_set_ne (at_ne hk hj (.inl fun e' => e e'.symm))]
theorem mod_rset {w : World} {G : Gr} {R r : Nat} (hr : r < R) (k : Nat) (v : Value) : Mod (G.foot R) w (w.setCell ⟨G.r r, k, none⟩ v) :=
  ⟨rfl, rfl, rfl, by rw [size_setCell]; exact Nat.le_refl _, fun j _ hj => setCell_other _ _ (fun e => hj (.inr (.inr ⟨r, hr, e⟩)))⟩
end
/-- Rows that have been made. -/
structure GMade (w : World) (B0 : Nat) (G : Gr) (W k : Nat) (v : Value) (f : Nat → Nat → Int) : Prop where
  row : w.ownsRow B0 43 1 v ((List.range k).map (G.row W)).length ((List.range k).map (G.row W))
  cells : ∀ r, r < k → ∃ cur, w.heap[G.r r]? = some (.cells cur 2 (0, 0)) ∧ ∀ j, j < W → cur[j]? = some (.int .i64 (f r j))
  capc : ∀ r, r < k → W ≤ G.c r
  new : ∀ r, r < k → B0 ≤ G.r r
  sep : ∀ r q, r < k → q < k → r ≠ q → G.r r ≠ G.r q
theorem GMade.zero (w : World) (B0 : Nat) (G : Gr) (W : Nat) (f : Nat → Nat → Int) : GMade w B0 G W 0 (.slice none 0 0) f :=
  ⟨⟨rfl, .inl ⟨rfl, rfl⟩⟩, by intros; omega, by intros; omega, by intros; omega, by intros; omega⟩
theorem GMade.ext {w w' : World} {B0 W k : Nat} {G : Gr} {v : Value} {f : Nat → Nat → Int} (h : GMade w B0 G W k v f) (he : Ext w w') : GMade w' B0 G W k v f :=
  ⟨own_ext h.row he, fun r hr => by obtain ⟨cur, h1, h2⟩ := h.cells r hr; exact ⟨cur, he.keep h1, h2⟩, h.capc, h.new, h.sep⟩
theorem GMade.lt {w : World} {B0 W k : Nat} {G : Gr} {v : Value} {f : Nat → Nat → Int} (h : GMade w B0 G W k v f) {r : Nat} (hr : r < k) : G.r r < w.heap.size := by
  obtain ⟨cur, h1, _⟩ := h.cells r hr; exact lt_of h1
theorem GMade.setc {w : World} {B0 W k : Nat} {G : Gr} {v : Value} {f : Nat → Nat → Int} (h : GMade w B0 G W k v f) {b : Nat} (hb : b < B0) (o : Nat) (u : Value) : GMade (w.setCell ⟨b, o, none⟩ u) B0 G W k v f :=
  ⟨own_setc h.row hb o u, fun r hr => by obtain ⟨cur, h1, h2⟩ := h.cells r hr; exact ⟨cur, by rw [setCell_other _ _ (by have := h.new r hr; omega)]; exact h1, h2⟩, h.capc, h.new, h.sep⟩
/-- A row that the call has made. -/
theorem own_row1 {w : World} {N : Nat} {u : Value} {xs : List Int} (h : w.ownsRow N 2 1 u xs.length (ints xs)) (hx : 0 < xs.length) :
    ∃ z cap cur, u = .slice (some ⟨z, 0, none⟩) xs.length cap ∧ xs.length ≤ cap ∧ N ≤ z ∧ w.heap[z]? = some (.cells cur 2 (0, 0)) ∧ ∀ j, j < xs.length → cur[j]? = some (.int .i64 (xs.getD j 0)) := by
  obtain ⟨z, cap, hv, hz, hc⟩ := CAt.of_row h hx
  obtain ⟨cur, h1, h2, h3⟩ := hc.ex
  exact ⟨z, cap, cur, hv, hc.le, hz, h1, fun j hj => by rw [← cell_of h1]; exact hc.cell hj⟩
/-- One more. -/
theorem GMade.next {w w' : World} {B0 W k N : Nat} {G : Gr} {v v' : Value} {f : Nat → Nat → Int} {z cap : Nat} {cur : Array Value} {o : Obj} (h : GMade w B0 G W k v f)
    (hz : w.heap[z]? = some (.cells cur 2 (0, 0))) (hf : ∀ j, j < W → cur[j]? = some (.int .i64 (f k j))) (hcap : W ≤ cap) (hN : ∀ r, r < k → G.r r < N) (hB : B0 ≤ N) (hzN : N ≤ z)
    (hown : w'.ownsRow B0 43 1 v' ((List.range k).map (G.row W) ++ [Value.slice (some ⟨z, 0, none⟩) W cap]).length ((List.range k).map (G.row W) ++ [Value.slice (some ⟨z, 0, none⟩) W cap])) (hg : (w.alloc o).grownBy w' v.ownBlock) :
    GMade w' B0 ⟨G.g, G.m, fun r => if r = k then z else G.r r, fun r => if r = k then cap else G.c r⟩ W (k + 1) v' f := by
  have hold : ∀ (j : Nat) (cu : Array Value), w.heap[j]? = some (Obj.cells cu 2 (0, 0)) → w'.heap[j]? = some (Obj.cells cu 2 (0, 0)) := fun j cu hj =>
    (grown_old hg (lt_of hj) (fun e => own_notB h.row hj (by decide) e.symm)).trans hj
  refine ⟨?_, fun r hr => ?_, fun r hr => ?_, fun r hr => ?_, fun r q hr hq hrq => ?_⟩
  · have e : (List.range (k + 1)).map (Gr.row ⟨G.g, G.m, fun r => if r = k then z else G.r r, fun r => if r = k then cap else G.c r⟩ W) = (List.range k).map (G.row W) ++ [Value.slice (some ⟨z, 0, none⟩) W cap] := by
      rw [List.range_succ, List.map_append]
      congr 1
      · apply List.map_congr_left
        intro i hi
        rw [List.mem_range] at hi
        simp only [Gr.row, if_neg (show ¬ i = k by omega)]
      · simp [Gr.row]
    rw [e]; exact hown
  · by_cases e : r = k
    · subst e
      refine ⟨cur, ?_, hf⟩
      simp only [if_pos]
      exact hold _ _ hz
    · obtain ⟨cu, h1, h2⟩ := h.cells r (by omega)
      refine ⟨cu, ?_, h2⟩
      simp only [if_neg e]
      exact hold _ _ h1
  · by_cases e : r = k
    · simp only [if_pos e]; exact hcap
    · simp only [if_neg e]; exact h.capc r (by omega)
  · by_cases e : r = k
    · simp only [if_pos e]; omega
    · simp only [if_neg e]; exact h.new r (by omega)
  · by_cases e : r = k
    · subst e
      simp only [if_pos, if_neg (show ¬ q = r by omega)]
      have := hN q (by omega)
      omega
    · by_cases e' : q = k
      · subst e'
        simp only [if_pos, if_neg e]
        have := hN r (by omega)
        omega
      · simp only [if_neg e, if_neg e']
        exact h.sep r q (by omega) (by omega) hrq
/-- All rows, and the grid's own block: a grid. -/
theorem GMade.grid {w : World} {B0 R W g : Nat} {G : Gr} {v : Value} {f : Nat → Nat → Int} {l : List Int} (h : GMade w B0 G W R v f) (hg : w.heap[g]? = some (.cells #[v] 144 (0, 0)))
    (hl : l.length = R * W) (hf : ∀ r k, r < R → k < W → f r k = l.getD (r * W + k) 0) (r1 : 1 ≤ R) (r2 : R ≤ 8) (w1 : 1 ≤ W) (w2 : W ≤ 128) :
    ∃ m, B0 ≤ m ∧ RGAt w ⟨g, m, G.r, G.c⟩ R W l := by
  have hlen : ((List.range R).map (G.row W)).length = R := by simp
  rcases h.row.2 with ⟨_, h0⟩ | ⟨m, cap, cur, rfl, hbg, hm, hnc, hcm, hcs, htake⟩
  · rw [hlen] at h0; omega
  · rw [hlen] at hg hnc
    refine ⟨m, hbg, ⟨⟨cap, hg, hnc⟩, ⟨cur, hm, fun r hr => ?_⟩, fun r hr => ?_, h.capc, h.sep, hl, r1, r2, w1, w2⟩⟩
    · have hget : ((List.range R).map (G.row W))[r]? = some (G.row W r) := by rw [List.getElem?_map, List.getElem?_range hr]; rfl
      have h1 := h.row.cells (g := m) rfl r _ hget
      rw [show ((⟨m, 0, none⟩ : Addr).add r) = ⟨m, r, none⟩ by (simp [Addr.add]; intro e; exact e.symm), cell_of hm] at h1
      exact h1
    · obtain ⟨cu, h1, h2⟩ := h.cells r hr
      exact ⟨cu, h1, fun k hk => by rw [h2 k hk, hf r k hr hk]⟩
theorem info_row : ∃ i z, Tryz.prog.info? 43 = some i ∧ i.zero = some z ∧ i.size = 1 ∧ i.bytes = 24 ∧ z.cells.size = 1 := by
  have h : (Tryz.prog.info? 43).map (fun i => (i.zero, i.size, i.bytes)) = some (some (.slice none 0 0), 1, 24) := by kernel_rfl
  match hi : Tryz.prog.info? 43, h with
  | some i, h =>
    simp only [Option.map_some, Option.some.injEq, Prod.mk.injEq] at h
    exact ⟨i, .slice none 0 0, rfl, h.1, h.2.1, h.2.2, rfl⟩
section
variable {P : Program}
/-- 's = append(s, x)', x of one cell and so many bytes, s a row of the call's own. -/
theorem wpList_appB (W : World) {ops : Array Oper} {rest : List Oper} {o : Oper} {a : Act} {Q : Exit → Act → World → Prop} (by_ : Nat) (hby : by_ ≤ 64) (x : Value) (hx1 : x.oneCell' = true) (xs : List Value) (v : Value) (base : Nat) (e : TypeId) (hown : W.ownsRow base e 1 v xs.length xs) (t : TypeId)
    (hgd : o.guard = none) (s y : Operand) (ho : o.op = .call { callee := .builtin .append, args := #[s, y], argTypes := #[t, t] })
    (i0 : TypeInfo) (z0 : Value) (hi : P.info? e = some i0) (hz0 : i0.zero = some z0) (hz1 : i0.size = 1) (hz2 : i0.bytes = by_) (hz3 : z0.cells.size = 1) (ht : P.underlying t = some (.slice e))
    (hs : a.eval s = v) (hx : a.eval y = .slice (some ⟨W.heap.size, 0, none⟩) 1 1)
    (hl : xs.length ≤ 1000000) (hbase : base ≤ W.heap.size)
    (h : ∀ v' w', w'.ownsRow base e 1 v' (xs ++ [x]).length (xs ++ [x]) → (W.alloc (.cells #[x] e)).grownBy w' v.ownBlock → wpList P ops Q rest (a.put o.dst v') w') :
    wpList P ops Q (o :: rest) a (W.alloc (.cells #[x] e)) := by
  refine wpList_append_sep _ hgd s y t ho base e i0 z0 1 by_ ht hi hz0 hz1 hz2 hz3 (by decide) v xs.length xs hs (hown.alloc _) ⟨W.heap.size, 0, none⟩ 1 1 [x] hx rfl ?_ ?_ (by unfold maxLen; omega) ?_ (by rw [size_alloc]; omega) ?_
  · intro j u hu
    have hj : j = 0 := by
      have := (List.getElem?_eq_some_iff.1 hu).1
      simp at this; exact this
    subst hj
    rw [show (⟨W.heap.size, 0, none⟩ : Addr).add 0 = ⟨W.heap.size, 0, none⟩ by simp [Addr.add], cell_of (heap_at W _ rfl) 0]
    exact hu
  · intro u hu
    simp at hu
    subst hu
    exact hx1
  · have : (xs.length + 1) * by_ ≤ 1000001 * 64 := Nat.mul_le_mul (by omega) hby
    omega
  · intro v' w' h1 h2 h3
    refine h v' w' ?_ h2
    rw [List.length_append]
    exact h1
end
end Go.Proofs.YteoblkcbemeamaaGreat

/- gaugerref06: New, Cells. -/
namespace Go.Proofs.YteoblkcbemeamaaGreat
set_option linter.unusedVariables false
open Go.RowKit
theorem own_empty (w : World) (e : TypeId) : (w.alloc (.cells #[] e)).ownsRow w.heap.size e 1 (.slice (some ⟨w.heap.size, 0, none⟩) 0 0) 0 [] :=
  ⟨rfl, .inr ⟨w.heap.size, 0, #[], rfl, Nat.le_refl _, heap_at _ _ rfl, Nat.le_refl _, Nat.zero_le _, rfl, rfl⟩⟩
theorem zs_succ (n : Nat) : zs (n + 1) = zs n ++ [0] := List.replicate_succ'
set_option maxRecDepth 20000 in
set_option maxHeartbeats 4000000 in
theorem RGNew_c (R W : Nat) (r1 : 1 ≤ R) (r2 : R ≤ 8) (w1 : 1 ≤ W) (w2 : W ≤ 128) (w : World) :
    Calls Tryz.prog 147 #[.int .i64 R, .int .i64 W] w fun e w' => ∃ G : Gr, e = .returned (.pointer (some ⟨G.g, 0, none⟩)) ∧ RGAt w' G R W (zs (R * W)) ∧ (∀ k, G.foot R k → w.heap.size ≤ k) ∧ Ext w w' := by
  go_enter Tryz.func147, Tryz.ntmps147
  go_wp2_with fail
  go_loopw [6] (fun u6 wr => ∃ (k : Nat) (G : Gr) (v : Value), k ≤ R ∧ u6 = .int .i64 k ∧ Ext w wr ∧ wr.heap[w.heap.size]? = some (.cells #[v] 144 (0, 0)) ∧ GMade wr (w.heap.size + 1) G W k v (fun _ _ => 0)) (fun u6 _ => R - (intOf u6).toNat)
  case atStart => exact ⟨0, ⟨0, 0, fun _ => 0, fun _ => 0⟩, _, Nat.zero_le _, rfl, Ext.alloc' _ _, heap_at _ _ rfl, GMade.zero _ _ _ _ _⟩
  case round =>
    obtain ⟨k, G, v, hk, rfl, hE, hb, hM⟩ := hrel
    rename World => wo
    have hbl := lt_of hb
    have hsz := hE.size
    have HB := Lib.hid hb
    have HM := Lib.hid hM
    clear hb hM
    by_cases hlt : k < R
    · have hk8 : (k : Int) < 8 := by omega
      have hk8b : decide ((k : Int) < 8) = true := by simp; omega
      go_wp2_with fail
      go_loopw [7, 8] (fun u7 u8 wr => ∃ j : Nat, j ≤ W ∧ u8 = .int .i64 j ∧ wr.ownsRow wo.heap.size 2 1 u7 (zs j).length (ints (zs j)) ∧ Ext wo wr) (fun _ u8 _ => W - (intOf u8).toNat)
      case atStart => exact ⟨0, Nat.zero_le _, rfl, own_empty _ _, Ext.alloc' _ _⟩
      case round =>
        obtain ⟨j, hj, rfl, hown, hx⟩ := hrel
        have hxs := hx.size
        by_cases hjl : j < W
        · have hj128 : (j : Int) < 128 := by omega
          have hj128b : decide ((j : Int) < 128) = true := by simp; omega
          go_wp2_with (at_builtin; refine wpList_app1 wr 0 (zs j) _ wo.heap.size 2 hown 43 rfl _ _ rfl info_i64 Tryz.underlying43 rfl rfl ?a1 ?a2 ?_)
          case a1 => rw [zs_len]; omega
          case a2 => exact hxs
          intro v' w' g1 g2 g3
          have hx' : Ext wo w' := ext_grown hx g2 (fun i hi => own_blk hown hi)
          rw [← zs_succ] at g1
          have G1 := Lib.hid g1
          clear g1 g2 g3 hown
          go_wp2
          go_roundw
          case rel => exact ⟨j + 1, by omega, by go_num, G1.out, hx'⟩
          case measure => simp [intOf]; omega
        · obtain rfl : j = W := by omega
          obtain ⟨z, cap, cur, hu, hcap, hz, hzc, hcur⟩ := own_row1 hown (by rw [zs_len]; omega)
          rw [zs_len] at hu hcap hcur
          subst hu
          have hbx := hx.keep HB.out
          have hMx := HM.out.ext hx
          have c0 := (cell_of hbx 0).trans rfl
          have lb := lt_of hbx
          obtain ⟨i0, z0, hi0, hz0, hz1, hz2, hz3⟩ := info_row
          have HC := Lib.hid (And.intro hcap (And.intro hz (And.intro hzc hcur)))
          have HBX := Lib.hid hbx
          have HMX := Lib.hid hMx
          clear hown hcap hz hzc hcur hbx hMx
          go_wp2_with (at_builtin; refine wpList_appB wr 24 (by decide) (.slice (some ⟨z, 0, none⟩) j cap) rfl ((List.range k).map (G.row j)) v (w.heap.size + 1) 43 HMX.out.row 142 rfl _ _ rfl i0 z0 hi0 hz0 hz1 hz2 hz3 Tryz.underlying142 rfl rfl ?b1 ?b2 ?_)
          case b1 => rw [List.length_map, List.length_range]; omega
          case b2 => omega
          intro v' w' g1 g2
          obtain ⟨q1, q2, q3, q4⟩ := HC.out
          have hnext := HMX.out.next q3 (fun i hi => by rw [q4 i hi, zs_get0]) q1 (fun r hr => HM.out.lt hr) (by omega) q2 (by rw [List.length_append, List.length_map, List.length_range]; exact g1) g2
          have hbw := (grown_old g2 lb (fun e => by have := own_blk HMX.out.row e.symm; omega)).trans HBX.out
          have hEw : Ext w w' := ext_grown (hE.trans' hx) g2 (fun i hi => by have := own_blk HMX.out.row hi; omega)
          have d0 := (cell_of hbw 0).trans rfl
          have f0 := frozen_of hbw 0
          have l0 := lt_of hbw
          obtain ⟨pv, nv, cv, rfl⟩ := own_slice g1
          have HN := Lib.hid hnext
          have HBW := Lib.hid hbw
          clear hnext hbw g1 g2 c0
          go_wp2
          go_roundw
          case rel => exact ⟨k + 1, _, _, by omega, by go_num, hEw.setR (p := ⟨w.heap.size, 0, none⟩) (Nat.le_refl _) _, (setCell_same HBW.out 0 _).trans rfl, HN.out.setc (by omega) _ _⟩
          case measure => simp [intOf]; omega
    · obtain rfl : k = R := by omega
      go_wp2
      go_ret
      obtain ⟨m, hm, hG⟩ := HM.out.grid (l := zs (k * W)) HB.out (zs_len _) (fun r c _ _ => (zs_get0 _ _).symm) r1 r2 w1 w2
      refine ⟨_, rfl, hG, ?_, hE⟩
      rintro i (rfl | rfl | ⟨r, hr, rfl⟩)
      · exact Nat.le_refl _
      · exact Nat.le_trans (Nat.le_succ _) hm
      · exact Nat.le_trans (Nat.le_succ _) (HM.out.new r hr)
theorem take_row {l : List Int} {R W k : Nat} (hl : l.length = R * W) (hk : k < R) : l.take ((k + 1) * W) = l.take (k * W) ++ rowL l W k := by
  have h1 : (k + 1) * W ≤ R * W := Nat.mul_le_mul_right W hk
  have e : (k + 1) * W = k * W + W := by rw [Nat.add_mul, Nat.one_mul]
  apply list_ext_getD
  · rw [List.length_append, List.length_take, List.length_take, rowL_len]; omega
  · intro i hi
    rw [List.length_take] at hi
    have g : ∀ n, i < n → (l.take n).getD i 0 = l.getD i 0 := fun n hn => by
      rw [List.getD_eq_getElem?_getD, List.getD_eq_getElem?_getD, List.getElem?_take_of_lt hn]
    rw [g _ (by omega)]
    by_cases h : i < k * W
    · rw [List.getD_eq_getElem?_getD (l := l.take (k * W) ++ rowL l W k), List.getElem?_append_left (by rw [List.length_take]; omega), ← List.getD_eq_getElem?_getD, g _ h]
    · have hlen : (l.take (k * W)).length = k * W := by rw [List.length_take]; omega
      rw [List.getD_eq_getElem?_getD (l := l.take (k * W) ++ rowL l W k), List.getElem?_append_right (by omega), ← List.getD_eq_getElem?_getD, hlen, rowL_get (by omega)]
      congr 1
      omega
set_option maxRecDepth 20000 in
set_option maxHeartbeats 4000000 in
theorem RGCells_c (G : Gr) (R W : Nat) (l : List Int) (w : World) (h : RGAt w G R W l) :
    Calls Tryz.prog 83 #[.pointer (some ⟨G.g, 0, none⟩)] w fun e w' => ∃ v, e = .returned v ∧ w'.ownsRow w.heap.size 2 1 v l.length (ints l) ∧ Ext w w' := by
  have HH := Lib.hid h
  clear h
  go_enter Tryz.func83, Tryz.ntmps83
  go_wp2_with fail
  go_loopw [3, 4] (fun u3 u4 wr => ∃ k : Nat, k ≤ R ∧ u4 = .int .i64 k ∧ wr.ownsRow w.heap.size 2 1 u3 (l.take (k * W)).length (ints (l.take (k * W))) ∧ Ext w wr) (fun _ u4 _ => R - (intOf u4).toNat)
  case atStart =>
    refine ⟨0, Nat.zero_le _, rfl, ?_, Ext.alloc' _ _⟩
    rw [Nat.zero_mul, List.take_zero]
    exact own_empty _ _
  case round =>
    obtain ⟨k, hk, rfl, hown, hE⟩ := hrel
    have hr := HH.out.ext hE
    have hr8 := hr.r2
    have hw128 := hr.w2
    obtain ⟨cap, cg, hcap⟩ := hr.cg
    have lg := hr.ltg
    by_cases hlt : k < R
    · have cm := hr.cm hlt
      have lm := hr.ltm
      have hints := hr.ints hlt
      have hrow := take_row hr.len hlt
      have hl2 : (l.take (k * W)).length ≤ 1024 := by
        rw [List.length_take]
        have : k * W ≤ 8 * 128 := Nat.mul_le_mul (by omega) hw128
        omega
      have HROW := Lib.hid hrow
      have HOWN := Lib.hid hown
      have hcr : ∀ j, j < W → wr.cell? ⟨G.r k, 0 + j, none⟩ = some (.int .i64 ((rowL l W k).getD j 0)) := fun j hj => by rw [Nat.zero_add, rowL_get hj]; exact hr.cr hlt hj
      have HCR := Lib.hid hcr
      have hlen := rowL_len l W k
      have HLEN := Lib.hid hlen
      generalize l.take (k * W) = pre at *
      generalize rowL l W k = row at *
      clear hrow hints hown hr hcr hlen
      go_wp2_with (at_builtin; refine wpList_appl wr row pre u3 w.heap.size 2 HOWN.out 43 rfl _ _ rfl info_i64 Tryz.underlying43 rfl (G.r k) 0 W (G.c k) rfl HLEN.out.symm HCR.out ?a1 ?a2 ?_)
      case a1 => omega
      case a2 => exact hE.size
      intro v' w' g1 g2 g3
      have hx' : Ext w w' := ext_grown0 hE g2 (fun i hi => own_blk HOWN.out hi)
      have G1 := Lib.hid g1
      obtain ⟨p1, n1, c1, rfl⟩ := own_slice g1
      clear g1 g2 g3
      go_wp2
      go_roundw
      case rel => exact ⟨k + 1, by omega, by go_num, by rw [HROW.out, List.length_append]; exact G1.out, hx'⟩
      case measure => simp [intOf]; omega
    · obtain rfl : k = R := by omega
      rw [List.take_of_length_le (by rw [hr.len]; exact Nat.le_refl _)] at hown
      have HOWN := Lib.hid hown
      obtain ⟨p1, n1, c1, rfl⟩ := own_slice hown
      clear hown hr
      go_wp2
      go_ret
      exact ⟨_, rfl, HOWN.out, hE⟩
end Go.Proofs.YteoblkcbemeamaaGreat
