/- Part. No condition. -/
import Derived.Test.YtfhdjekpdifajaaGreatDLevelPlays3
import Derived.Test.YtfhdjekpdifajaaGreatDLevelPlays1
import Derived.Test.YtfhdjekpdifajaaGreatDLevelPlays2
import Derived.RangeFuncFrom
import Derived.RangeFuncNested
import Derived.RangeFuncBound
import Derived.RangeFuncCalls
import Derived.RangeFuncLeaves
import Derived.Shelf.Abstract
import Derived.Shelf.RegionOpen
import Derived.WalkKit
import Derived.OwnWalkIn
import Derived.TacticsInMore
import Derived.LoopNIn
import Derived.LoopIn
namespace Go.Proofs.YtfhdjekpdifajaaGreat
set_option linter.unusedVariables false
open Go.RowKit
/-- The function behind a method of a level. -/
def lvF (C : Cfg) (lv : Int) (x s : Nat) : Nat := bif isX C lv then x else s
theorem lvF_x {C : Cfg} {lv : Int} (h : isX C lv = true) (x s : Nat) : lvF C lv x s = x := by unfold lvF; rw [h]; rfl
theorem lvF_s {C : Cfg} {lv : Int} (h : isX C lv = false) (x s : Nat) : lvF C lv x s = s := by unfold lvF; rw [h]; rfl
theorem lvV_eq (C : Cfg) (lv : Int) (L : Lev) : lvV C lv L = .iface (lvT C lv) (.pointer (some ⟨L.s, 0, none⟩)) := rfl
theorem lvm_Update (C : Cfg) (lv : Int) (p : Option Addr) (w : World) : Sem.run Tryz.prog (method 457 (lvT C lv) (.pointer p) "Update") w = .ok (lvF C lv 285 253, .pointer p) w := by
  unfold lvT lvF
  cases isX C lv with
  | true => kernel_rfl
  | false => kernel_rfl
theorem lve_Update (C : Cfg) (lv : Int) (args : Array Value) (w : World) : (callFunc (lvF C lv 285 253) args).run Tryz.prog w = .ok (.enter (lvF C lv 285 253) args) w := by
  unfold lvF
  cases isX C lv with
  | true => kernel_rfl
  | false => kernel_rfl
theorem lvm_Cells (C : Cfg) (lv : Int) (p : Option Addr) (w : World) : Sem.run Tryz.prog (method 457 (lvT C lv) (.pointer p) "Cells") w = .ok (lvF C lv 123 170, .pointer p) w := by
  unfold lvT lvF
  cases isX C lv with
  | true => kernel_rfl
  | false => kernel_rfl
theorem lve_Cells (C : Cfg) (lv : Int) (args : Array Value) (w : World) : (callFunc (lvF C lv 123 170) args).run Tryz.prog w = .ok (.enter (lvF C lv 123 170) args) w := by
  unfold lvF
  cases isX C lv with
  | true => kernel_rfl
  | false => kernel_rfl
theorem lvm_Config (C : Cfg) (lv : Int) (p : Option Addr) (w : World) : Sem.run Tryz.prog (method 457 (lvT C lv) (.pointer p) "Config") w = .ok (lvF C lv 120 168, .pointer p) w := by
  unfold lvT lvF
  cases isX C lv with
  | true => kernel_rfl
  | false => kernel_rfl
theorem lve_Config (C : Cfg) (lv : Int) (args : Array Value) (w : World) : (callFunc (lvF C lv 120 168) args).run Tryz.prog w = .ok (.enter (lvF C lv 120 168) args) w := by
  unfold lvF
  cases isX C lv with
  | true => kernel_rfl
  | false => kernel_rfl
theorem lvm_Level (C : Cfg) (lv : Int) (p : Option Addr) (w : World) : Sem.run Tryz.prog (method 457 (lvT C lv) (.pointer p) "Level") w = .ok (lvF C lv 121 169, .pointer p) w := by
  unfold lvT lvF
  cases isX C lv with
  | true => kernel_rfl
  | false => kernel_rfl
theorem lve_Level (C : Cfg) (lv : Int) (args : Array Value) (w : World) : (callFunc (lvF C lv 121 169) args).run Tryz.prog w = .ok (.enter (lvF C lv 121 169) args) w := by
  unfold lvF
  cases isX C lv with
  | true => kernel_rfl
  | false => kernel_rfl
def LvUpdPost (w : World) (L : Lev) (C : Cfg) (lv : Int) (l : List Int) (key d : Int) (e : Ending) (w' : World) : Prop :=
  e = .returned (.int .i64 (lvE C lv l key d)) ∧ ((lvE C lv l key d = 0 ∧ LvAt w' L C lv (lvU C lv l key d) ∧ Mod (fun k => k = L.c) w w') ∨ (lvE C lv l key d ≠ 0 ∧ Ext w w'))
theorem LUpdate_c (C : Cfg) (lv : Int) (L : Lev) (l : List Int) (key d : Int) (w : World) (h : LvAt w L C lv l) (hd : I64 d) (hk : U64 key) :
    Calls Tryz.prog (lvF C lv 285 253) #[.pointer (some ⟨L.s, 0, none⟩), .int .u64 key, .int .i64 d] w (LvUpdPost w L C lv l key d) := by
  cases hx : isX C lv with
  | true =>
    rw [lvF_x hx]
    refine (EUpdate_c _ _ _ C lv _ l key d w (h.x hx) hd hk).mono ?_
    rintro e w' ⟨rfl, hr⟩
    unfold LvUpdPost
    rw [lvE_x hx, lvU_x hx]
    exact ⟨rfl, hr.imp (fun ⟨a, b, c⟩ => ⟨a, .inl ⟨hx, b⟩, c⟩) (fun h => h)⟩
  | false =>
    rw [lvF_s hx]
    refine (Update_c _ _ _ C lv _ _ l key d w (h.sk hx) hd hk.1).mono ?_
    rintro e w' ⟨rfl, hr⟩
    unfold LvUpdPost
    rw [lvE_s hx, lvU_s hx]
    exact ⟨rfl, hr.imp (fun ⟨a, b, c⟩ => ⟨a, .inr ⟨hx, b⟩, c⟩) (fun h => h)⟩
theorem LCells_c (C : Cfg) (lv : Int) (L : Lev) (l : List Int) (w : World) (h : LvAt w L C lv l) :
    Calls Tryz.prog (lvF C lv 123 170) #[.pointer (some ⟨L.s, 0, none⟩)] w fun e w' => ∃ v, e = .returned v ∧ w'.ownsRow w.heap.size 2 1 v l.length (ints l) ∧ (v = .slice none 0 0 → False) ∧ Ext w w' := by
  cases hx : isX C lv with
  | true => rw [lvF_x hx]; exact ECells_c _ _ _ C lv _ l w (h.x hx)
  | false => rw [lvF_s hx]; exact SCells_c _ _ _ C lv _ _ l w (h.sk hx)
theorem LConfig_c (C : Cfg) (lv : Int) (L : Lev) (l : List Int) (w : World) (h : LvAt w L C lv l) :
    Calls Tryz.prog (lvF C lv 120 168) #[.pointer (some ⟨L.s, 0, none⟩)] w fun e w' => e = .returned (.agg #[.int .i64 C.bits, .int .i64 C.rows, .int .i64 C.width, .int .i64 C.mode, .int .u64 C.seed]) ∧ Ext w w' := by
  cases hx : isX C lv with
  | true => rw [lvF_x hx]; exact EConfig_c _ _ _ C lv _ l w (h.x hx)
  | false => rw [lvF_s hx]; exact SConfig_c _ _ _ C lv _ _ l w (h.sk hx)
theorem LLevel_c (C : Cfg) (lv : Int) (L : Lev) (l : List Int) (w : World) (h : LvAt w L C lv l) :
    Calls Tryz.prog (lvF C lv 121 169) #[.pointer (some ⟨L.s, 0, none⟩)] w fun e w' => e = .returned (.int .i64 lv) ∧ w = w' := by
  cases hx : isX C lv with
  | true => rw [lvF_x hx]; exact ELevel_c _ _ _ C lv _ l w (h.x hx)
  | false => rw [lvF_s hx]; exact SLevel_c _ _ _ C lv _ _ l w (h.sk hx)
end Go.Proofs.YtfhdjekpdifajaaGreat
namespace Go.Proofs.YtfhdjekpdifajaaGreat
set_option linter.unusedVariables false
open Go.RowKit
section
variable {P : Program}
theorem ints_app (a b : List Int) : ints (a ++ b) = ints a ++ ints b := by simp [ints]
theorem wpList_appl (W : World) {ops : Array Oper} {rest : List Oper} {o : Oper} {a : Act} {Q : Exit → Act → World → Prop} (l xs : List Int) (v : Value) (base : Nat) (e : TypeId) (hown : W.ownsRow base e 1 v xs.length (ints xs)) (t : TypeId)
    (hgd : o.guard = none) (s y : Operand) (ho : o.op = .call { callee := .builtin .append, args := #[s, y], argTypes := #[t, t] })
    (hinfo : (P.info? e).map (fun i => (i.zero, i.size, i.bytes)) = some (some (.int .i64 0), 1, 8)) (ht : P.underlying t = some (.slice e))
    (hs : a.eval s = v) (g off m c : Nat) (hx : a.eval y = .slice (some ⟨g, off, none⟩) m c) (hm : m = l.length) (hc : ∀ k, k < m → W.cell? ⟨g, off + k, none⟩ = some (.int .i64 (l.getD k 0)))
    (hl : xs.length + m ≤ 1000000000000) (hbase : base ≤ W.heap.size)
    (h : ∀ v' w', w'.ownsRow base e 1 v' (xs ++ l).length (ints (xs ++ l)) → W.grownBy w' v.ownBlock → (v'.ownBlock = v.ownBlock ∨ v'.ownBlock = some W.heap.size) → wpList P ops Q rest (a.put o.dst v') w') :
    wpList P ops Q (o :: rest) a W := by
  obtain ⟨i0, hi, hz0, hz1, hz2⟩ := info_parts hinfo
  subst hm
  refine wpList_append_sep _ hgd s y t ho base e i0 (.int .i64 0) 1 8 ht hi hz0 hz1 hz2 rfl (by decide) v xs.length (ints xs) hs hown ⟨g, off, none⟩ l.length c (ints l) hx (by rw [ints_len]; omega) ?_ ?_ (by unfold maxLen; omega) (by omega) hbase ?_
  · intro j u hu
    have hj : j < l.length := by
      have := (List.getElem?_eq_some_iff.1 hu).1
      rwa [ints_len] at this
    rw [show (⟨g, off, none⟩ : Addr).add j = ⟨g, off + j, none⟩ by simp [Addr.add], hc j hj, ← hu]
    simp [ints, hj]
  · intro u hu
    simp only [ints, List.mem_map] at hu
    obtain ⟨x, _, rfl⟩ := hu
    rfl
  · intro v' w' h1 h2 h3
    refine h v' w' ?_ h2 h3
    rw [List.length_append, ints_app]
    exact h1
end
theorem own_blk {w : World} {base n size : Nat} {e : TypeId} {v : Value} {xs : List Value} (h : w.ownsRow base e size v n xs) {k : Nat} (hk : v.ownBlock = some k) : base ≤ k := by
  rcases h.2 with ⟨rfl, _⟩ | ⟨g, cap, cur, rfl, hg, _⟩
  · cases hk
  · cases hk; exact hg
theorem ext_grown0 {w wr w1 : World} {row : Option Nat} (he : Ext w wr) (h : wr.grownBy w1 row) (hr : ∀ k, row = some k → w.heap.size ≤ k) : Ext w w1 := he.grown h he.size hr
end Go.Proofs.YtfhdjekpdifajaaGreat
namespace Go.Proofs.YtfhdjekpdifajaaGreat
set_option linter.unusedVariables false
open Go.RowKit
theorem own_setc {w : World} {base n size : Nat} {e : TypeId} {v : Value} {xs : List Value} (h : w.ownsRow base e size v n xs) {b : Nat} (hb : b < base) (o : Nat) (u : Value) : (w.setCell ⟨b, o, none⟩ u).ownsRow base e size v n xs := by
  refine ⟨h.1, ?_⟩
  rcases h.2 with h' | ⟨g, cap, cur, hv, hg, hh, hr⟩
  · exact .inl h'
  · exact .inr ⟨g, cap, cur, hv, hg, (setCell_other _ _ (by omega)).trans hh, hr⟩
theorem own_sl {w : World} {base n size : Nat} {e : TypeId} {v : Value} {xs : List Value} (h : w.ownsRow base e size v n xs) : ∃ p c, v = .slice p n c := by
  rcases h.2 with ⟨rfl, rfl⟩ | ⟨g, cap, cur, rfl, _⟩
  · exact ⟨none, 0, rfl⟩
  · exact ⟨_, _, rfl⟩
theorem own_ext {w w' : World} {base n size : Nat} {e : TypeId} {v : Value} {xs : List Value} (h : w.ownsRow base e size v n xs) (hE : Ext w w') : w'.ownsRow base e size v n xs := by
  refine ⟨h.1, ?_⟩
  rcases h.2 with h' | ⟨g, cap, cur, hv, hg, hh, hr⟩
  · exact .inl h'
  · exact .inr ⟨g, cap, cur, hv, hg, hE.keep hh, hr⟩
/-- A world in which what W has is as it was, but for the blocks in S. -/
structure AftS (S : Nat → Prop) (W : World) where
  w : World
  h : Mod S W w
instance (S : Nat → Prop) (W : World) : Nonempty (AftS S W) := ⟨⟨W, Mod.refl _ W⟩⟩
@[go_sem] theorem AftS.cell {S : Nat → Prop} {W : World} (x : AftS S W) {b o : Nat} (h : b < W.heap.size) (hn : ¬ S b) : x.w.cell? ⟨b, o, none⟩ = W.cell? ⟨b, o, none⟩ := mcell x.h h hn o
theorem afs_drew (S : Nat → Prop) (W : World) : ∃ x : AftS S W, W.drew = x.w := ⟨⟨_, Ext.mod _ (Below.drew (Ext.refl W))⟩, rfl⟩
theorem afs_step {S : Nat → Prop} {W w w' : World} (h : ∃ x : AftS S W, w = x.w) (he : Ext w w') : ∃ x : AftS S W, w' = x.w := by
  obtain ⟨x, rfl⟩ := h
  exact ⟨⟨w', x.h.trans (he.mod _)⟩, rfl⟩
theorem mod_grown {S : Nat → Prop} {W w w' : World} {o : Obj} {row : Option Nat} (h : Mod S W w) (hg : (w.alloc o).grownBy w' row) (hr : ∀ i, row = some i → S i) : Mod S W w' := by
  refine ⟨hg.os.trans h.os, hg.tape.trans h.tape, hg.output.trans h.output, Nat.le_trans h.size (Nat.le_trans (by rw [size_alloc]; exact Nat.le_succ _) hg.size), fun k hk hn => ?_⟩
  exact (grown_old hg (Nat.lt_of_lt_of_le hk h.size) (fun e => hn (hr k e.symm))).trans (h.block k hk hn)
end Go.Proofs.YtfhdjekpdifajaaGreat
namespace Go.Proofs.YtfhdjekpdifajaaGreat
set_option linter.unusedVariables false
open Go.RowKit
/-- A stack at s: its levels lie at L, and have the cells ls. -/
structure KAt (w : World) (s g : Nat) (C : Cfg) (B : Nat) (L : Nat → Lev) (ls : Nat → List Int) : Prop where
  ex : ∃ cap, w.heap[s]? = some (.cells #[.int .i64 C.bits, .int .i64 C.rows, .int .i64 C.width, .int .i64 C.mode, .int .u64 C.seed, .slice (some ⟨g, 0, none⟩) (B + 1) cap] 149 (0, 0)) ∧ B + 1 ≤ cap
  row : ∃ cur, w.heap[g]? = some (.cells cur 62 (0, 0)) ∧ ∀ n, n ≤ B → cur[n]? = some (lvV C n (L n))
  lev : ∀ n, n ≤ B → LvAt w (L n) C n (ls n)
  sep : ∀ m n, m ≤ B → n ≤ B → m ≠ n → (L m).c ≠ (L n).c
  ok : C.Ok
  hB : C.bits = B
/-- The blocks of its cells. -/
def cellsOf (B : Nat) (L : Nat → Lev) (k : Nat) : Prop := ∃ n, n ≤ B ∧ k = (L n).c
theorem KAt.lts {w : World} {s g : Nat} {C : Cfg} {B : Nat} {L : Nat → Lev} {ls : Nat → List Int} (h : KAt w s g C B L ls) : s < w.heap.size := by
  obtain ⟨cap, h1, _⟩ := h.ex; exact lt_of h1
theorem KAt.ltg {w : World} {s g : Nat} {C : Cfg} {B : Nat} {L : Nat → Lev} {ls : Nat → List Int} (h : KAt w s g C B L ls) : g < w.heap.size := by
  obtain ⟨cur, h1, _⟩ := h.row; exact lt_of h1
theorem KAt.cell {w : World} {s g : Nat} {C : Cfg} {B : Nat} {L : Nat → Lev} {ls : Nat → List Int} (h : KAt w s g C B L ls) {n : Nat} (hn : n ≤ B) : w.cell? ⟨g, n, none⟩ = some (lvV C n (L n)) := by
  obtain ⟨cur, h1, h2⟩ := h.row; rw [cell_of h1]; exact h2 n hn
theorem KAt.isc {w : World} {s g : Nat} {C : Cfg} {B : Nat} {L : Nat → Lev} {ls : Nat → List Int} (h : KAt w s g C B L ls) {k : Nat} (hk : cellsOf B L k) : ∃ cur, w.heap[k]? = some (.cells cur 2 (0, 0)) := by
  obtain ⟨n, hn, rfl⟩ := hk; exact (h.lev n hn).isc
theorem KAt.ltc {w : World} {s g : Nat} {C : Cfg} {B : Nat} {L : Nat → Lev} {ls : Nat → List Int} (h : KAt w s g C B L ls) {k : Nat} (hk : cellsOf B L k) : k < w.heap.size := by
  obtain ⟨n, hn, rfl⟩ := hk; exact (h.lev n hn).ltc
theorem KAt.nots {w : World} {s g : Nat} {C : Cfg} {B : Nat} {L : Nat → Lev} {ls : Nat → List Int} (h : KAt w s g C B L ls) : ¬ cellsOf B L s := by
  intro hk
  obtain ⟨cur, h1⟩ := h.isc hk
  obtain ⟨cap, h2, _⟩ := h.ex
  exact blk_ne h1 h2 (by decide) rfl
theorem KAt.notg {w : World} {s g : Nat} {C : Cfg} {B : Nat} {L : Nat → Lev} {ls : Nat → List Int} (h : KAt w s g C B L ls) : ¬ cellsOf B L g := by
  intro hk
  obtain ⟨cur, h1⟩ := h.isc hk
  obtain ⟨cur', h2, _⟩ := h.row
  exact blk_ne h1 h2 (by decide) rfl
theorem KAt.ext {w w' : World} {s g : Nat} {C : Cfg} {B : Nat} {L : Nat → Lev} {ls : Nat → List Int} (h : KAt w s g C B L ls) (he : Ext w w') : KAt w' s g C B L ls :=
  ⟨by rw [he.block s h.lts]; exact h.ex, by rw [he.block g h.ltg]; exact h.row, fun n hn => (h.lev n hn).ext he, h.sep, h.ok, h.hB⟩
/-- What other cells are changed to does not touch a stack. -/
theorem KAt.mod {S : Nat → Prop} {w w' : World} {s g : Nat} {C : Cfg} {B : Nat} {L : Nat → Lev} {ls : Nat → List Int} (h : KAt w s g C B L ls) (he : Mod S w w') (hS : ∀ k, S k → k < w.heap.size → ∃ cur, w.heap[k]? = some (.cells cur 2 (0, 0))) (hc : ∀ n, n ≤ B → ¬ S (L n).c) : KAt w' s g C B L ls := by
  refine ⟨?_, ?_, fun n hn => (h.lev n hn).mod he hS (hc n hn), h.sep, h.ok, h.hB⟩
  · rw [he.block s h.lts fun hs => ?_]
    · exact h.ex
    · obtain ⟨cur, h1⟩ := hS _ hs h.lts
      obtain ⟨cap, h2, _⟩ := h.ex
      exact blk_ne h1 h2 (by decide) rfl
  · rw [he.block g h.ltg fun hs => ?_]
    · exact h.row
    · obtain ⟨cur, h1⟩ := hS _ hs h.ltg
      obtain ⟨cur', h2, _⟩ := h.row
      exact blk_ne h1 h2 (by decide) rfl
/-- What Point tells of a level. -/
def lvPt (C : Cfg) (lv : Int) (l : List Int) (key x : Int) : Prop :=
  (isX C lv = true ∧ x = l.getD key.toNat 0) ∨ (isX C lv = false ∧ IsKth (readL (wN C) l (cols C lv key)) (if C.mode = 3 then (rN C - 1) / 2 else 0) x)
theorem lvPt_unique {C : Cfg} {lv : Int} {l : List Int} {key x y : Int} (h : lvPt C lv l key x) (h' : lvPt C lv l key y) : x = y := by
  rcases h with ⟨h1, h2⟩ | ⟨h1, h2⟩ <;> rcases h' with ⟨h3, h4⟩ | ⟨h3, h4⟩
  · rw [h2, h4]
  · rw [h1] at h3; cases h3
  · rw [h1] at h3; cases h3
  · exact kth_unique h2 h4
end Go.Proofs.YtfhdjekpdifajaaGreat
namespace Go.Proofs.YtfhdjekpdifajaaGreat
set_option linter.unusedVariables false
open Go.RowKit
attribute [local go_sem] Oper.semAt_some
/-- What a round that goes on keeps: whatever lay below n₀, but for the blocks of S. -/
def KpS (n₀ : Nat) (S : Nat → Prop) (W W' : World) : Prop := ∀ b, b < n₀ → ¬ S b → W'.heap[b]? = W.heap[b]?
theorem KpS.b {n₀ : Nat} {S : Nat → Prop} {w : World} (hn : n₀ ≤ w.heap.size) (W : World) (l : Nat) (o o' : Obj) (hl : w.heap.size ≤ l) (h : W.heap[l]? = some o) (_ : o.isCells = false) (_ : o.isWalk = false) : KpS n₀ S W (W.putObj l o') := by
  intro b hb _
  exact World.putObj_heap_other (by omega)
theorem KpS.cell {n₀ : Nat} {S : Nat → Prop} {W W' : World} (h : KpS n₀ S W W') {b o : Nat} (hb : b < n₀) (hs : ¬ S b) : W'.cell? ⟨b, o, none⟩ = W.cell? ⟨b, o, none⟩ := by
  unfold World.cell?; rw [show (⟨b, o, none⟩ : Addr).block = b from rfl, h b hb hs]
end Go.Proofs.YtfhdjekpdifajaaGreat
namespace Go.Proofs.YtfhdjekpdifajaaGreat
set_option linter.unusedVariables false
open Go.RowKit
/-- A stack's blocks lie below a bound. -/
structure KLow (N s g B : Nat) (L : Nat → Lev) : Prop where
  s : s < N
  g : g < N
  ls : ∀ n, n ≤ B → (L n).s < N
  lb : ∀ n, n ≤ B → (L n).b < N
  lc : ∀ n, n ≤ B → (L n).c < N
theorem KAt.low {w : World} {s g : Nat} {C : Cfg} {B : Nat} {L : Nat → Lev} {ls : Nat → List Int} (h : KAt w s g C B L ls) : KLow w.heap.size s g B L :=
  ⟨h.lts, h.ltg, fun n hn => (h.lev n hn).lts, fun n hn => (h.lev n hn).ltb, fun n hn => (h.lev n hn).ltc⟩
theorem KLow.mono {N M s g B : Nat} {L : Nat → Lev} (h : KLow N s g B L) (hM : N ≤ M) : KLow M s g B L :=
  ⟨Nat.lt_of_lt_of_le h.s hM, Nat.lt_of_lt_of_le h.g hM, fun n hn => Nat.lt_of_lt_of_le (h.ls n hn) hM, fun n hn => Nat.lt_of_lt_of_le (h.lb n hn) hM, fun n hn => Nat.lt_of_lt_of_le (h.lc n hn) hM⟩
/-- One level is changed. -/
theorem KAt.put {w w' : World} {s g : Nat} {C : Cfg} {B : Nat} {L : Nat → Lev} {ls : Nat → List Int} (h : KAt w s g C B L ls) {n : Nat} (hn : n ≤ B) (hm : Mod (fun k => k = (L n).c) w w') {l : List Int} (hl : LvAt w' (L n) C n l) :
    KAt w' s g C B L (fun m => if m = n then l else ls m) := by
  have hcs : ∀ k, k = (L n).c → k < w.heap.size → ∃ cur, w.heap[k]? = some (.cells cur 2 (0, 0)) := by
    rintro k rfl _; exact (h.lev n hn).isc
  refine ⟨?_, ?_, fun m hm' => ?_, h.sep, h.ok, h.hB⟩
  · rw [hm.block s h.lts fun e => h.nots ⟨n, hn, e⟩]; exact h.ex
  · rw [hm.block g h.ltg fun e => h.notg ⟨n, hn, e⟩]; exact h.row
  · by_cases e : m = n
    · subst e; rw [if_pos rfl]; exact hl
    · rw [if_neg e]; exact (h.lev m hm').mod hm hcs (h.sep m n hm' hn e)
theorem KAt.cong {w : World} {s g : Nat} {C : Cfg} {B : Nat} {L : Nat → Lev} {ls ls' : Nat → List Int} (h : KAt w s g C B L ls) (he : ∀ n, n ≤ B → ls n = ls' n) : KAt w s g C B L ls' :=
  ⟨h.ex, h.row, fun n hn => he n hn ▸ h.lev n hn, h.sep, h.ok, h.hB⟩
end Go.Proofs.YtfhdjekpdifajaaGreat
namespace Go.Proofs.YtfhdjekpdifajaaGreat
set_option linter.unusedVariables false
open Go.RowKit
section
variable {P : Program}
end
theorem own_type {w : World} {base n size : Nat} {e : TypeId} {v : Value} {xs : List Value} (h : w.ownsRow base e size v n xs) {k : Nat} (hk : v.ownBlock = some k) : ∃ cur, w.heap[k]? = some (.cells cur e (0, 0)) := by
  rcases h.2 with ⟨rfl, _⟩ | ⟨g, cap, cur, rfl, _, hg, _⟩
  · cases hk
  · cases hk; exact ⟨cur, hg⟩
def lvVs (C : Cfg) (L : Nat → Lev) (n : Nat) : List Value := (List.range n).map fun (i : Nat) => lvV C i (L i)
theorem lvVs_len (C : Cfg) (L : Nat → Lev) (n : Nat) : (lvVs C L n).length = n := by simp [lvVs]
theorem lvVs_succ (C : Cfg) (L : Nat → Lev) (n : Nat) : lvVs C L (n + 1) = lvVs C L n ++ [lvV C n (L n)] := by
  unfold lvVs; rw [List.range_succ, List.map_append]; rfl
theorem lvVs_cong (C : Cfg) {L L' : Nat → Lev} {n : Nat} (h : ∀ i, i < n → L i = L' i) : lvVs C L n = lvVs C L' n := by
  unfold lvVs
  apply List.map_congr_left
  intro i hi
  rw [List.mem_range] at hi
  rw [h i hi]
theorem lvVs_get (C : Cfg) (L : Nat → Lev) {n i : Nat} (h : i < n) : (lvVs C L n)[i]? = some (lvV C i (L i)) := by
  unfold lvVs; rw [List.getElem?_map, List.getElem?_range h]; rfl
/-- A row of levels' block is no level's. -/
theorem LvAt.norow {w : World} {L : Lev} {C : Cfg} {lv : Int} {l : List Int} (h : LvAt w L C lv l) {k : Nat} {cur : Array Value} (hk : w.heap[k]? = some (.cells cur 62 (0, 0))) : k ≠ L.s ∧ k ≠ L.b ∧ k ≠ L.c := by
  refine ⟨?_, ?_, ?_⟩
  · rcases h with ⟨_, h⟩ | ⟨_, h⟩ <;> exact blk_ne hk h.ex (by decide)
  · rcases h with ⟨_, h⟩ | ⟨_, h⟩ <;> (obtain ⟨cap, h1, _⟩ := h.g.ex; exact blk_ne hk h1 (by decide))
  · obtain ⟨cur', h1⟩ := h.isc
    exact blk_ne hk h1 (by decide)
theorem LvAt.grown {w w' : World} {o : Obj} {row : Option Nat} {L : Lev} {C : Cfg} {lv : Int} {l : List Int} (h : LvAt w L C lv l) (hg : (w.alloc o).grownBy w' row) (hr : ∀ i, row = some i → ∃ cur, w.heap[i]? = some (.cells cur 62 (0, 0))) : LvAt w' L C lv l := by
  have key : ∀ k, k < w.heap.size → (∀ i, row = some i → i ≠ k) → w'.heap[k]? = w.heap[k]? := fun k hk hn => grown_old hg hk (fun e => hn k e.symm rfl)
  refine h.keep (key _ h.lts fun i hi => ?_) (key _ h.ltb fun i hi => ?_) (key _ h.ltc fun i hi => ?_)
  all_goals
    obtain ⟨cur, hc⟩ := hr i hi
    have := h.norow hc
  · exact this.1
  · exact this.2.1
  · exact this.2.2
/-- Some levels that have been made. -/
structure Made (w : World) (B0 : Nat) (C : Cfg) (k : Nat) (L : Nat → Lev) (ls : Nat → List Int) (v : Value) : Prop where
  row : w.ownsRow B0 62 1 v (lvVs C L k).length (lvVs C L k)
  lev : ∀ n, n < k → LvAt w (L n) C n (ls n)
  new : ∀ n, n < k → B0 ≤ (L n).s ∧ B0 ≤ (L n).b ∧ B0 ≤ (L n).c
  sep : ∀ m n, m < k → n < k → m ≠ n → (L m).c ≠ (L n).c
theorem Made.ext {w w' : World} {B0 k : Nat} {C : Cfg} {L : Nat → Lev} {ls : Nat → List Int} {v : Value} (h : Made w B0 C k L ls v) (he : Ext w w') : Made w' B0 C k L ls v :=
  ⟨own_ext h.row he, fun n hn => (h.lev n hn).ext he, h.new, h.sep⟩
/-- One more. -/
theorem Made.next {w w' : World} {B0 k : Nat} {C : Cfg} {L : Nat → Lev} {ls : Nat → List Int} {v v' : Value} {M : Lev} {l : List Int} {o : Obj} {N : Nat} (h : Made w B0 C k L ls v) (hM : LvAt w M C k l) (hN : ∀ n, n < k → (L n).c < N) (hB : B0 ≤ N) (h1 : N ≤ M.s) (h2 : N ≤ M.b) (h3 : N ≤ M.c)
    (hl : l = ls k) (hown : w'.ownsRow B0 62 1 v' (lvVs C L k ++ [lvV C k M]).length (lvVs C L k ++ [lvV C k M])) (hg : (w.alloc o).grownBy w' v.ownBlock) : Made w' B0 C (k + 1) (fun n => if n = k then M else L n) ls v' := by
  subst hl
  have hr : ∀ i, v.ownBlock = some i → ∃ cur, w.heap[i]? = some (.cells cur 62 (0, 0)) := fun i hi => own_type h.row hi
  refine ⟨?_, fun n hn => ?_, fun n hn => ?_, fun m n hm hn hmn => ?_⟩
  · rw [lvVs_succ, if_pos rfl, lvVs_cong C (L' := L) (fun i hi => if_neg (by omega))]
    exact hown
  · by_cases e : n = k
    · subst e; rw [if_pos rfl]; exact hM.grown hg hr
    · rw [if_neg e]; exact (h.lev n (by omega)).grown hg hr
  · by_cases e : n = k
    · rw [if_pos e]; exact ⟨by omega, by omega, by omega⟩
    · rw [if_neg e]; exact h.new n (by omega)
  · by_cases e : m = k
    · subst e
      rw [if_pos rfl, if_neg (by omega)]
      have := hN n (by omega)
      omega
    · rw [if_neg e]
      by_cases e' : n = k
      · subst e'
        rw [if_pos rfl]
        have := hN m (by omega)
        omega
      · rw [if_neg e']; exact h.sep m n (by omega) (by omega) hmn
/-- All levels, and the stack's own block: a stack. -/
theorem Made.stack {w : World} {s B0 B : Nat} {C : Cfg} {L : Nat → Lev} {ls : Nat → List Int} {v : Value} (h : Made w B0 C (B + 1) L ls v) (hok : C.Ok) (hB : C.bits = B) (hs : w.heap[s]? = some (.cells #[.int .i64 C.bits, .int .i64 C.rows, .int .i64 C.width, .int .i64 C.mode, .int .u64 C.seed, v] 149 (0, 0))) :
    ∃ g, B0 ≤ g ∧ KAt w s g C B L ls := by
  have hl := lvVs_len C L (B + 1)
  rcases h.row.2 with ⟨_, h0⟩ | ⟨g, cap, cur, rfl, hbg, hg, hnc, hcm, hcs, htake⟩
  · rw [hl] at h0; omega
  · rw [hl] at hs hnc
    refine ⟨g, hbg, ⟨⟨cap, hs, hnc⟩, ⟨cur, hg, fun n hn => ?_⟩, fun n hn => h.lev n (by omega), fun m n hm hn => h.sep m n (by omega) (by omega), hok, hB⟩⟩
    have h1 := h.row.cells (g := g) rfl n _ (lvVs_get C L (show n < B + 1 by omega))
    rw [show ((⟨g, 0, none⟩ : Addr).add n) = ⟨g, n, none⟩ by (simp [Addr.add]; intro e; exact e.symm), cell_of hg] at h1
    exact h1
theorem Made.setc {w : World} {B0 k : Nat} {C : Cfg} {L : Nat → Lev} {ls : Nat → List Int} {v : Value} (h : Made w B0 C k L ls v) {b : Nat} (hb : b < B0) (o : Nat) (u : Value) : Made (w.setCell ⟨b, o, none⟩ u) B0 C k L ls v :=
  ⟨own_setc h.row hb o u, fun n hn => (h.lev n hn).keep (setCell_other _ _ (by have := h.new n hn; omega)) (setCell_other _ _ (by have := h.new n hn; omega)) (setCell_other _ _ (by have := h.new n hn; omega)), h.new, h.sep⟩
end Go.Proofs.YtfhdjekpdifajaaGreat
namespace Go.Proofs.YtfhdjekpdifajaaGreat
set_option linter.unusedVariables false
open Go.RowKit
def pcV (ps : List (Nat × Int)) : List Value := ps.flatMap fun p => [.int .i64 (p.1 : Int), .int .u64 p.2]
/-- Pieces that lie at a place. -/
def PCells (W : World) (g off : Nat) (ps : List (Nat × Int)) : Prop :=
  ∀ k, k < ps.length → W.cell? ⟨g, off + k * 2, none⟩ = some (.int .i64 ((ps.getD k (0, 0)).1 : Int)) ∧ W.cell? ⟨g, off + k * 2 + 1, none⟩ = some (.int .u64 (ps.getD k (0, 0)).2)
theorem PCells.ext {W W' : World} {g off : Nat} {ps : List (Nat × Int)} (h : PCells W g off ps) (hg : g < W.heap.size) (he : Ext W W') : PCells W' g off ps :=
  fun k hk => ⟨((bcell he).1 _ _ hg).trans (h k hk).1, ((bcell he).1 _ _ hg).trans (h k hk).2⟩
end Go.Proofs.YtfhdjekpdifajaaGreat
namespace Go.Proofs.YtfhdjekpdifajaaGreat
set_option linter.unusedVariables false
open Go.RowKit
def updV (ps : List (Int × Int)) : List Value := ps.flatMap fun u => [.int .u64 u.1, .int .i64 u.2]
theorem updV_len (ps : List (Int × Int)) : (updV ps).length = ps.length * 2 := by
  induction ps with
  | nil => rfl
  | cons u ps ih =>
    have : updV (u :: ps) = .int .u64 u.1 :: .int .i64 u.2 :: updV ps := rfl
    rw [this, List.length_cons, List.length_cons, List.length_cons, ih]; omega
theorem updV_at {ps : List (Int × Int)} : ∀ {k : Nat} (h : k < ps.length), (updV ps)[k * 2]? = some (.int .u64 (ps.getD k (0, 0)).1) ∧ (updV ps)[k * 2 + 1]? = some (.int .i64 (ps.getD k (0, 0)).2) := by
  induction ps with
  | nil => intro k h; simp at h
  | cons u ps ih =>
    intro k h
    have e : updV (u :: ps) = .int .u64 u.1 :: .int .i64 u.2 :: updV ps := rfl
    rw [e]
    cases k with
    | zero => exact ⟨rfl, rfl⟩
    | succ k =>
      have := ih (k := k) (by simpa using h)
      rw [show (k + 1) * 2 = k * 2 + 1 + 1 by omega]
      simp only [List.getElem?_cons_succ, List.getD_cons_succ]
      exact this
theorem UpsAt.of_row {w : World} {base : Nat} {e : TypeId} {v : Value} {n : Nat} {ps : List (Int × Int)} (h : w.ownsRow base e 2 v n (updV ps)) : UpsAt w v ps := by
  obtain ⟨h1, h2⟩ := h
  have hn : n = ps.length := by rw [updV_len] at h1; omega
  subst hn
  rcases h2 with ⟨h2, h3⟩ | ⟨g, cap, cur, rfl, _, hh, hc, _, hs, ht⟩
  · refine .inl ⟨⟨_, h2⟩, ?_⟩
    exact List.length_eq_zero_iff.1 h3
  · refine .inr ⟨g, 0, cap, rfl, lt_of hh, fun k hk => ?_⟩
    obtain ⟨a1, a2⟩ := updV_at hk
    rw [← ht] at a1 a2
    rw [List.getElem?_take_of_lt (by omega)] at a1 a2
    simp only [Array.getElem?_toList] at a1 a2
    rw [cell_of hh, cell_of hh, Nat.zero_add]
    exact ⟨a1, a2⟩
section
variable {P : Program}
end
end Go.Proofs.YtfhdjekpdifajaaGreat
namespace Go.Proofs.YtfhdjekpdifajaaGreat
set_option linter.unusedVariables false
open Go.RowKit
set_option maxRecDepth 20000 in
theorem GPlus_c (b c b2 c2 R W : Nat) (l l2 : List Int) (w : World) (h : GAt w b c R W l) (h2 : GAt w b2 c2 R W l2) (hI : allI l) (hI2 : allI l2) :
    Calls Tryz.prog 163 #[.pointer (some ⟨b, 0, none⟩), .pointer (some ⟨b2, 0, none⟩)] w (JoinPost w b c R W (plusL l l2)) := by
  go_enter Tryz.func163, Tryz.ntmps163
  go_wp2_with fail
  refine Calls.mono (allPlus_c b c b2 c2 R W l l2 w h h2 hI hI2) ?_
  rintro e w' h
  rcases h with ⟨ha, rfl, hg, hm⟩ | ⟨ha, rfl, hx⟩
  · go_wp2
    go_ret
    exact .inl ⟨ha, rfl, hg, hm⟩
  · go_wp2
    go_ret
    exact .inr ⟨ha, rfl, hx⟩
set_option maxRecDepth 20000 in
theorem GMinus_c (b c b2 c2 R W : Nat) (l l2 : List Int) (w : World) (h : GAt w b c R W l) (h2 : GAt w b2 c2 R W l2) (hI : allI l) (hI2 : allI l2) :
    Calls Tryz.prog 166 #[.pointer (some ⟨b, 0, none⟩), .pointer (some ⟨b2, 0, none⟩)] w (JoinPost w b c R W (minusL l l2)) := by
  go_enter Tryz.func166, Tryz.ntmps166
  go_wp2_with fail
  refine Calls.mono (allMinus_c b c b2 c2 R W l l2 w h h2 hI hI2) ?_
  rintro e w' h
  rcases h with ⟨ha, rfl, hg, hm⟩ | ⟨ha, rfl, hx⟩
  · go_wp2
    go_ret
    exact .inl ⟨ha, rfl, hg, hm⟩
  · go_wp2
    go_ret
    exact .inr ⟨ha, rfl, hx⟩
set_option maxRecDepth 20000 in
set_option maxHeartbeats 2000000 in
theorem alike_yes (s b c s2 b2 c2 : Nat) (C : Cfg) (lv : Int) (R W : Nat) (l l2 : List Int) (w : World) (h : SAt w s b c C lv R W l) (h2 : SAt w s2 b2 c2 C lv R W l2) :
    Calls Tryz.prog 162 #[.pointer (some ⟨s, 0, none⟩), .pointer (some ⟨s2, 0, none⟩)] w fun e w' => e = .returned (.bool true) ∧ Ext w w' := by
  have c1 := (cell_of h.ex 1).trans rfl
  have c2 := (cell_of h.ex 2).trans rfl
  have c3 := (cell_of h.ex 3).trans rfl
  have c4 := (cell_of h.ex 4).trans rfl
  have c5 := (cell_of h.ex 5).trans rfl
  have c6 := (cell_of h.ex 6).trans rfl
  have d1 := (cell_of h2.ex 1).trans rfl
  have d2 := (cell_of h2.ex 2).trans rfl
  have d3 := (cell_of h2.ex 3).trans rfl
  have d4 := (cell_of h2.ex 4).trans rfl
  have d5 := (cell_of h2.ex 5).trans rfl
  have d6 := (cell_of h2.ex 6).trans rfl
  have l1 := h.lts
  have l2 := h2.lts
  clear h h2
  go_enter Tryz.func162, Tryz.ntmps162
  go_wp2_with fail
  refine wp_region_after (by kernel_rfl) (by kernel_rfl) ?_
  repeat (go_big_quiet_step (fail))
  refine wpQuiet_nil ?_
  rintro _ ⟨xx, rfl⟩
  obtain ⟨w1, hb1⟩ := xx
  try dsimp only
  go_wp2
  go_ret
  exact ⟨rfl, hb1⟩
/-- Where two configs, or levels, part first. -/
inductive PartsAt (C2 : Cfg) (lv2 : Int) (C : Cfg) (lv : Int) : Prop
  | p0 (h : (C2.bits == C.bits) = false)
  | p1 (h0 : (C2.bits == C.bits) = true) (h : (C2.rows == C.rows) = false)
  | p2 (h0 : (C2.bits == C.bits) = true) (h1 : (C2.rows == C.rows) = true) (h : (C2.width == C.width) = false)
  | p3 (h0 : (C2.bits == C.bits) = true) (h1 : (C2.rows == C.rows) = true) (h2 : (C2.width == C.width) = true) (h : (C2.mode == C.mode) = false)
  | p4 (h0 : (C2.bits == C.bits) = true) (h1 : (C2.rows == C.rows) = true) (h2 : (C2.width == C.width) = true) (h3 : (C2.mode == C.mode) = true) (h : (C2.seed == C.seed) = false)
  | p5 (h0 : (C2.bits == C.bits) = true) (h1 : (C2.rows == C.rows) = true) (h2 : (C2.width == C.width) = true) (h3 : (C2.mode == C.mode) = true) (h4 : (C2.seed == C.seed) = true) (h : (lv2 == lv) = false)
set_option maxRecDepth 20000 in
set_option maxHeartbeats 4000000 in
theorem alike_no (s b c s2 b2 c2 : Nat) (C C2 : Cfg) (lv lv2 : Int) (R W R2 W2 : Nat) (l l2 : List Int) (w : World) (h : SAt w s b c C lv R W l) (h2 : SAt w s2 b2 c2 C2 lv2 R2 W2 l2) (hp : PartsAt C2 lv2 C lv) :
    Calls Tryz.prog 162 #[.pointer (some ⟨s, 0, none⟩), .pointer (some ⟨s2, 0, none⟩)] w fun e w' => e = .returned (.bool false) ∧ Ext w w' := by
  have c1 := (cell_of h.ex 1).trans rfl
  have c2 := (cell_of h.ex 2).trans rfl
  have c3 := (cell_of h.ex 3).trans rfl
  have c4 := (cell_of h.ex 4).trans rfl
  have c5 := (cell_of h.ex 5).trans rfl
  have c6 := (cell_of h.ex 6).trans rfl
  have d1 := (cell_of h2.ex 1).trans rfl
  have d2 := (cell_of h2.ex 2).trans rfl
  have d3 := (cell_of h2.ex 3).trans rfl
  have d4 := (cell_of h2.ex 4).trans rfl
  have d5 := (cell_of h2.ex 5).trans rfl
  have d6 := (cell_of h2.ex 6).trans rfl
  have l1 := h.lts
  have l2 := h2.lts
  clear h h2
  rcases hp with h | ⟨h0, h⟩ | ⟨h0, h1, h⟩ | ⟨h0, h1, h2, h⟩ | ⟨h0, h1, h2, h3, h⟩ | ⟨h0, h1, h2, h3, h4, h⟩
  all_goals
    go_enter Tryz.func162, Tryz.ntmps162
    go_wp2_with fail
    refine wp_region_after (by kernel_rfl) (by kernel_rfl) ?_
    repeat (go_big_quiet_step (fail))
    refine wpQuiet_nil ?_
    rintro _ ⟨xx, rfl⟩
    obtain ⟨w1, hb1⟩ := xx
    try dsimp only
    go_wp2
    go_ret
    exact ⟨rfl, hb1⟩
def MergePost (w : World) (s b c : Nat) (C : Cfg) (lv : Int) (R W : Nat) (m : List Int) (e : Ending) (w' : World) : Prop :=
  (allI m ∧ e = .returned (.int .i64 0) ∧ SAt w' s b c C lv R W m ∧ Mod (fun k => k = c) w w') ∨ (¬ allI m ∧ e = .returned (.int .i64 4) ∧ Ext w w')
theorem SAt.putg {w w' : World} {s b c : Nat} {C : Cfg} {lv : Int} {R W : Nat} {l m : List Int} (h : SAt w s b c C lv R W l) (hg : GAt w' b c R W m) (hm : Mod (fun k => k = c) w w') (hi : allI m) : SAt w' s b c C lv R W m :=
  ⟨by rw [hm.block s h.lts h.nes]; exact h.ex, hg, h.ok, h.lo, h.hi, h.hr, h.hw, hi⟩
theorem join_ret {w w' : World} {b c R W : Nat} {m : List Int} {e : Ending} (h : JoinPost w b c R W m e w') : ∃ z, e = .returned (.int .i64 z) ∧ ((z = 0 ∧ allI m ∧ GAt w' b c R W m ∧ Mod (fun k => k = c) w w') ∨ (z = 4 ∧ ¬ allI m ∧ Ext w w')) := by
  rcases h with ⟨ha, rfl, hg, hm⟩ | ⟨ha, rfl, hx⟩
  · exact ⟨_, rfl, .inl ⟨rfl, ha, hg, hm⟩⟩
  · exact ⟨_, rfl, .inr ⟨rfl, ha, hx⟩⟩
set_option maxRecDepth 20000 in
set_option maxHeartbeats 4000000 in
theorem SMerge_c (s b c s2 b2 c2 : Nat) (C : Cfg) (lv : Int) (R W : Nat) (l l2 : List Int) (w : World) (h : SAt w s b c C lv R W l) (h2 : SAt w s2 b2 c2 C lv R W l2) :
    Calls Tryz.prog 110 #[.pointer (some ⟨s, 0, none⟩), .pointer (some ⟨s2, 0, none⟩)] w (MergePost w s b c C lv R W (plusL l l2)) := by
  have HH := Lib.hid h
  go_enter Tryz.func110, Tryz.ntmps110
  go_wp2_with fail
  refine Calls.mono (alike_yes s b c s2 b2 c2 C lv R W l l2 w h h2) ?_
  rintro e w1 ⟨rfl, hx1⟩
  have h' := h.ext hx1
  have h2' := h2.ext hx1
  have c0 := (cell_of h'.ex 0).trans rfl
  have d0 := (cell_of h2'.ex 0).trans rfl
  have l1 := h'.lts
  have l2' := h2'.lts
  clear h h2
  go_wp2_with fail
  have hC0 := af_drew w1
  have hG1 := h'.g.ext (Below.drew (Ext.refl w1))
  have hG2 := h2'.g.ext (Below.drew (Ext.refl w1))
  refine pi_start (fun w' => ∃ x : After w1, w' = x.w) [10] (by kernel_rfl) ?_
  refine pi_t 0 rfl (by kernel_rfl) (by kernel_rfl) (fun _ _ _ _ h => h) (fun K hK => ?_)
  go_big_quiet_op
  refine hK _ ?_
  clear hK K
  refine pi_t 1 rfl (by kernel_rfl) (by kernel_rfl) (fun _ _ _ _ h => h) (fun K hK => ?_)
  go_big_quiet_op
  refine hK _ ?_
  clear hK K
  refine pi_t 2 rfl (by kernel_rfl) (by kernel_rfl) (fun _ _ _ _ h => h) (fun K hK => ?_)
  go_big_quiet_op
  refine hK _ ?_
  clear hK K
  refine pi_t 3 rfl (by kernel_rfl) (by kernel_rfl) (fun _ _ _ _ h => h) (fun K hK => ?_)
  go_big_quiet_op
  refine hK _ ?_
  clear hK K
  refine pi_c 4 (by assumption) rfl (by kernel_rfl) (by kernel_rfl) (fun _ _ _ _ h => h) (fun K hK => ?_)
  go_big_quiet_op
  refine hK _ ?_
  clear hK K
  refine pi_t 5 rfl (by kernel_rfl) (by kernel_rfl) (fun _ _ _ _ h => h) (fun K hK => ?_)
  go_big_quiet_op
  refine hK _ ?_
  clear hK K
  refine pi_t 6 rfl (by kernel_rfl) (by kernel_rfl) (fun _ _ _ _ h => h) (fun K hK => ?_)
  go_big_quiet_op
  refine hK _ ?_
  clear hK K
  refine pi_t 7 rfl (by kernel_rfl) (by kernel_rfl) (fun _ _ _ _ h => h) (fun K hK => ?_)
  go_big_quiet_op
  refine hK _ ?_
  clear hK K
  refine pi_t 8 rfl (by kernel_rfl) (by kernel_rfl) (fun _ _ _ _ h => h) (fun K hK => ?_)
  go_big_quiet_op
  refine hK _ ?_
  clear hK K
  refine pi_c 9 (by assumption) rfl (by kernel_rfl) (by kernel_rfl) (fun _ _ _ _ h => h) (fun K hK => ?_)
  go_big_quiet_op
  refine hK _ ?_
  clear hK K
  refine pi_l 10 rfl (by kernel_rfl) (fun K hK => ?_)
  go_wp2_with (go_at_call 163; refine Calls.mono (GPlus_c b c b2 c2 R W l l2 _ hG1 hG2 h'.fit h2'.fit) ?_; intro e w2 hr0; obtain ⟨z, rfl, hr⟩ := join_ret hr0)
  refine hK _ _ (by simp) ?_
  clear hK K
  refine pi_t 11 rfl (by kernel_rfl) (by kernel_rfl) (fun _ _ _ _ h => h) (fun K hK => ?_)
  go_big_quiet_op
  refine hK _ ?_
  clear hK K
  refine pi_end (by kernel_rfl) ?_
  go_wp2
  go_ret
  have hx2 : Ext w w1.drew := Below.drew hx1
  rcases hr with ⟨rfl, ha, hg, hm⟩ | ⟨rfl, ha, hx⟩
  · have hm' : Mod (fun k => k = c) w w2 := (hx2.mod _).trans hm
    exact .inl ⟨ha, rfl, HH.out.putg hg hm' ha, hm'⟩
  · exact .inr ⟨ha, rfl, hx2.trans' hx⟩
set_option maxRecDepth 20000 in
set_option maxHeartbeats 4000000 in
theorem SSubtract_c (s b c s2 b2 c2 : Nat) (C : Cfg) (lv : Int) (R W : Nat) (l l2 : List Int) (w : World) (h : SAt w s b c C lv R W l) (h2 : SAt w s2 b2 c2 C lv R W l2) (hm : C.mode ≠ 2) :
    Calls Tryz.prog 115 #[.pointer (some ⟨s, 0, none⟩), .pointer (some ⟨s2, 0, none⟩)] w (MergePost w s b c C lv R W (minusL l l2)) := by
  have HH := Lib.hid h
  have hmb : (C.mode == 2) = false := by simpa using hm
  clear hm
  go_enter Tryz.func115, Tryz.ntmps115
  go_wp2_with fail
  refine Calls.mono (alike_yes s b c s2 b2 c2 C lv R W l l2 w h h2) ?_
  rintro e w1 ⟨rfl, hx1⟩
  have h' := h.ext hx1
  have h2' := h2.ext hx1
  have c0 := (cell_of h'.ex 0).trans rfl
  have c4 := (cell_of h'.ex 4).trans rfl
  have d0 := (cell_of h2'.ex 0).trans rfl
  have l1 := h'.lts
  have l2' := h2'.lts
  clear h h2
  go_wp2_with fail
  have hC0 := af_drew w1
  have hG1 := h'.g.ext (Below.drew (Ext.refl w1))
  have hG2 := h2'.g.ext (Below.drew (Ext.refl w1))
  refine pi_start (fun w' => ∃ x : After w1, w' = x.w) [10] (by kernel_rfl) ?_
  refine pi_t 0 rfl (by kernel_rfl) (by kernel_rfl) (fun _ _ _ _ h => h) (fun K hK => ?_)
  go_big_quiet_op
  refine hK _ ?_
  clear hK K
  refine pi_t 1 rfl (by kernel_rfl) (by kernel_rfl) (fun _ _ _ _ h => h) (fun K hK => ?_)
  go_big_quiet_op
  refine hK _ ?_
  clear hK K
  refine pi_t 2 rfl (by kernel_rfl) (by kernel_rfl) (fun _ _ _ _ h => h) (fun K hK => ?_)
  go_big_quiet_op
  refine hK _ ?_
  clear hK K
  refine pi_t 3 rfl (by kernel_rfl) (by kernel_rfl) (fun _ _ _ _ h => h) (fun K hK => ?_)
  go_big_quiet_op
  refine hK _ ?_
  clear hK K
  refine pi_c 4 (by assumption) rfl (by kernel_rfl) (by kernel_rfl) (fun _ _ _ _ h => h) (fun K hK => ?_)
  go_big_quiet_op
  refine hK _ ?_
  clear hK K
  refine pi_t 5 rfl (by kernel_rfl) (by kernel_rfl) (fun _ _ _ _ h => h) (fun K hK => ?_)
  go_big_quiet_op
  refine hK _ ?_
  clear hK K
  refine pi_t 6 rfl (by kernel_rfl) (by kernel_rfl) (fun _ _ _ _ h => h) (fun K hK => ?_)
  go_big_quiet_op
  refine hK _ ?_
  clear hK K
  refine pi_t 7 rfl (by kernel_rfl) (by kernel_rfl) (fun _ _ _ _ h => h) (fun K hK => ?_)
  go_big_quiet_op
  refine hK _ ?_
  clear hK K
  refine pi_t 8 rfl (by kernel_rfl) (by kernel_rfl) (fun _ _ _ _ h => h) (fun K hK => ?_)
  go_big_quiet_op
  refine hK _ ?_
  clear hK K
  refine pi_c 9 (by assumption) rfl (by kernel_rfl) (by kernel_rfl) (fun _ _ _ _ h => h) (fun K hK => ?_)
  go_big_quiet_op
  refine hK _ ?_
  clear hK K
  refine pi_l 10 rfl (by kernel_rfl) (fun K hK => ?_)
  go_wp2_with (go_at_call 166; refine Calls.mono (GMinus_c b c b2 c2 R W l l2 _ hG1 hG2 h'.fit h2'.fit) ?_; intro e w2 hr0; obtain ⟨z, rfl, hr⟩ := join_ret hr0)
  refine hK _ _ (by simp) ?_
  clear hK K
  refine pi_t 11 rfl (by kernel_rfl) (by kernel_rfl) (fun _ _ _ _ h => h) (fun K hK => ?_)
  go_big_quiet_op
  refine hK _ ?_
  clear hK K
  refine pi_end (by kernel_rfl) ?_
  go_wp2
  go_ret
  have hx2 : Ext w w1.drew := Below.drew hx1
  rcases hr with ⟨rfl, ha, hg, hm⟩ | ⟨rfl, ha, hx⟩
  · have hm' : Mod (fun k => k = c) w w2 := (hx2.mod _).trans hm
    exact .inl ⟨ha, rfl, HH.out.putg hg hm' ha, hm'⟩
  · exact .inr ⟨ha, rfl, hx2.trans' hx⟩
theorem SMerge_no (s b c s2 b2 c2 : Nat) (C C2 : Cfg) (lv lv2 : Int) (R W R2 W2 : Nat) (l l2 : List Int) (w : World) (h : SAt w s b c C lv R W l) (h2 : SAt w s2 b2 c2 C2 lv2 R2 W2 l2) (hp : PartsAt C2 lv2 C lv) :
    Calls Tryz.prog 110 #[.pointer (some ⟨s, 0, none⟩), .pointer (some ⟨s2, 0, none⟩)] w fun e w' => e = .returned (.int .i64 5) ∧ Ext w w' := by
  go_enter Tryz.func110, Tryz.ntmps110
  go_wp2_with fail
  refine Calls.mono (alike_no s b c s2 b2 c2 C C2 lv lv2 R W R2 W2 l l2 w h h2 hp) ?_
  rintro e w1 ⟨rfl, hx1⟩
  go_wp2
  go_ret
  exact ⟨rfl, hx1⟩
end Go.Proofs.YtfhdjekpdifajaaGreat
namespace Go.Proofs.YtfhdjekpdifajaaGreat
set_option linter.unusedVariables false
open Go.RowKit
section
variable {P : Program} {w : World}
theorem run_append_zero (base : Nat) (t ty e : TypeId) (i : TypeInfo) (size : Nat) (ht : P.underlying t = some (.slice e)) (hi : P.info? e = some i)
    (v : Value) (n : Nat) (xs : List Value) (hown : w.ownsRow base e size v n xs) (p : Option Addr) (c : Nat) :
    (Builtin.append_ #[t, t] ty #[v, .slice p 0 c]).run P w = .ok v w := by
  rcases hown.2 with ⟨rfl, rfl⟩ | ⟨g, cap, cur, rfl, _, _, hnc, _⟩
  · cases p <;> simp [Builtin.append_, run_underlying ht, sizeOf, typeInfo, hi, Builtin.lenOf, Builtin.firstCells, loadCells, loadCellsFrom]
  · cases p <;> simp [Builtin.append_, run_underlying ht, sizeOf, typeInfo, hi, Builtin.lenOf, Builtin.firstCells, loadCells, loadCellsFrom, hnc, storeCells]
theorem wpList_append_zero {ops : Array Oper} {rest : List Oper} {o : Oper} {a : Act} {Q : Exit → Act → World → Prop} (hgd : o.guard = none) (s x : Operand) (t : TypeId)
    (ho : o.op = .call { callee := .builtin .append, args := #[s, x], argTypes := #[t, t] })
    (base : Nat) (e : TypeId) (i : TypeInfo) (size : Nat) (ht : P.underlying t = some (.slice e)) (hi : P.info? e = some i)
    (v : Value) (n : Nat) (xs : List Value) (hs : a.eval s = v) (hown : w.ownsRow base e size v n xs) (p : Option Addr) (c : Nat) (hx : a.eval x = .slice p 0 c)
    (h : wpList P ops Q rest (a.put o.dst v) w) : wpList P ops Q (o :: rest) a w := by
  refine wpList_plain hgd fun K hK => ?_
  have hrun := run_append_zero (P := P) (w := w) base t o.type e i size ht hi v n xs hown p c
  unfold Oper.wp
  simp [execOp, ho, resolve, invoke, builtin, hs, hx, hrun, Result.andThen]
  exact hK _ _ h
end
/-- A world in which what W has is as it was, but for block c. -/
structure Aft (c : Nat) (W : World) where
  w : World
  h : Mod (fun i => i = c) W w
instance (c : Nat) (W : World) : Nonempty (Aft c W) := ⟨⟨W, Mod.refl _ W⟩⟩
@[go_sem] theorem Aft.cell {c : Nat} {W : World} (x : Aft c W) {b o : Nat} (h : b < W.heap.size) (hn : b ≠ c) : x.w.cell? ⟨b, o, none⟩ = W.cell? ⟨b, o, none⟩ := mcell x.h h hn o
theorem aft_drew (c : Nat) (W : World) : ∃ x : Aft c W, W.drew = x.w := ⟨⟨_, Ext.mod _ (Below.drew (Ext.refl W))⟩, rfl⟩
theorem mod_put' {w w' : World} {g j : Nat} (h : Mod (fun i => i = g) w w') (u : Value) : Mod (fun i => i = g) w (w'.setCell ⟨g, j, none⟩ u) :=
  ⟨h.os, h.tape, h.output, by rw [size_setCell]; exact h.size, fun k hk hn => (setCell_other _ _ hn).trans (h.block k hk hn)⟩
theorem aft_put {c : Nat} {W w : World} {o : Nat} (h : ∃ x : Aft c W, w = x.w) (u : Value) : ∃ x : Aft c W, w.setCell ⟨c, o, none⟩ u = x.w := by
  obtain ⟨x, rfl⟩ := h
  exact ⟨⟨_, mod_put' x.h u⟩, rfl⟩
theorem Put_i (b c R W : Nat) (l : List Int) (w : World) (h : GAt w b c R W l) (rI kI : Int) (r k : Nat) (hrI : rI = r) (hkI : kI = k) (hr : r < R) (hk : k < W) (n : Int) :
    Calls Tryz.prog 257 #[.pointer (some ⟨b, 0, none⟩), .int .i64 rI, .int .i64 kI, .int .i64 n] w fun e w' => e = .returned (.bool true) ∧ w.setCell ⟨c, r * W + k, none⟩ (.int .i64 n) = w' := by
  subst hrI hkI
  exact Put_c b c R W l w h r k hr hk n
theorem SAt.setl {w : World} {s b c : Nat} {C : Cfg} {lv : Int} {R W : Nat} {l : List Int} (h : SAt w s b c C lv R W l) {i : Nat} (hi : i < l.length) {n : Int} (hn : I64 n) : SAt (w.setCell ⟨c, i, none⟩ (.int .i64 n)) s b c C lv R W (l.set i n) :=
  ⟨by rw [setCell_other _ _ h.nes]; exact h.ex, h.g.set hi n, h.ok, h.lo, h.hi, h.hr, h.hw, fun x hx => by
    rcases List.mem_or_eq_of_mem_set hx with h1 | h1
    · exact h.fit x h1
    · rw [h1]; exact hn⟩
set_option maxRecDepth 20000 in
set_option maxHeartbeats 4000000 in
theorem Load_yes (s b c : Nat) (C : Cfg) (lv : Int) (R W : Nat) (l m : List Int) (v : Value) (w : World) (h : SAt w s b c C lv R W l) (hv : IntsAt w v m) (hI : allI m) (hl : m.length = R * W)
    (hne : ∀ g off n cap, v = .slice (some ⟨g, off, none⟩) n cap → g ≠ c) :
    Calls Tryz.prog 251 #[.pointer (some ⟨s, 0, none⟩), v] w fun e w' => e = .returned (.bool true) ∧ SAt w' s b c C lv R W m ∧ Mod (fun k => k = c) w w' := by
  have hN1 : 1 ≤ R * W := Nat.mul_pos h.g.r1 h.g.w1
  have hN2 : R * W ≤ 1024 := Nat.le_trans (Nat.mul_le_mul h.g.r2 h.g.w2) (by decide)
  obtain ⟨vg, vo, vcap, rfl, hvl, hvc⟩ := hv.slice (by rw [hl]; omega)
  have hgc : vg ≠ c := hne _ _ _ _ rfl
  have hLl := h.g.len
  have hp0 : C.rows * C.width = ((R * W : Nat) : Int) := by rw [h.hr, h.hw]; simp
  have hW1 := h.g.w1
  have hR1 := h.g.r1
  have hdiv : ∀ k, k < R * W → k / W < R ∧ k % W < W ∧ k / W * W + k % W = k := by
    intro k hk
    refine ⟨Nat.div_lt_of_lt_mul (by rw [Nat.mul_comm]; exact hk), Nat.mod_lt _ hW1, ?_⟩
    have := Nat.div_add_mod k W; rw [Nat.mul_comm] at this; exact this
  rw [hl] at hvc ⊢
  generalize R * W = N at *
  have hp1 : 0 ≤ C.rows * C.width := by rw [hp0]; omega
  have hp2 : C.rows * C.width ≤ 1024 := by rw [hp0]; omega
  have hpt : ((N : Int) != C.rows * C.width) = false := by rw [hp0]; simp
  have c1 := (cell_of h.ex 2).trans rfl
  have c2 := (cell_of h.ex 3).trans rfl
  have lts := h.lts
  have HH := Lib.hid h
  have HVC := Lib.hid hvc
  have HL := Lib.hid hl
  have HLL := Lib.hid hLl
  have HD := Lib.hid hdiv
  have HW := Lib.hid h.hw
  clear h hv hl hne hvc hLl hp0 hdiv
  go_enter Tryz.func251, Tryz.ntmps251
  go_wp2_with fail
  refine wp_region_after (by kernel_rfl) (by kernel_rfl) ?_
  repeat (go_big_quiet_step (fail))
  refine wpQuiet_nil ?_
  rintro _ ⟨xx, rfl⟩
  obtain ⟨w1, hb1⟩ := xx
  try dsimp only
  have hS1 := HH.out.ext hb1
  have hlt' : vg < w1.heap.size := Nat.lt_of_lt_of_le hvl hb1.size
  have hsz1 := hb1.size
  clear c1 c2 hpt hp1 hp2
  go_wp2_with fail
  go_loopw [23] (fun u23 wr => ∃ k : Nat, k ≤ N ∧ u23 = .int .i64 k ∧ SAt wr s b c C lv R W (mixL (fun j => m.getD j 0) (fun j => l.getD j 0) k N) ∧ Mod (fun i => i = c) w1 wr) (fun u23 _ => N - (intOf u23).toNat)
  case atStart =>
    refine ⟨0, Nat.zero_le _, rfl, ?_, Mod.refl _ _⟩
    have e : mixL (fun j => m.getD j 0) (fun j => l.getD j 0) 0 N = l := by
      apply list_ext_getD
      · rw [mixL_len, HLL.out]
      · intro i hi
        rw [mixL_len] at hi
        rw [mixL_get _ _ hi, if_neg (by omega)]
    rw [e]; exact hS1
  case round =>
    obtain ⟨k, hk, rfl, hSr, hM⟩ := hrel
    have hMs := hM.size
    by_cases hgo : k < N
    · have x0 := (mcell hM (b := vg) hlt' hgc (vo + k)).trans (((bcell hb1).1 _ _ hvl).trans (HVC.out k hgo))
      have c0 := (cell_of hSr.ex 0).trans rfl
      have c2 := (cell_of hSr.ex 3).trans (show _ = some (Value.int .i64 (W : Int)) by rw [← HW.out]; rfl)
      obtain ⟨dv1, dv2, dv3⟩ := HD.out k hgo
      have lr := hSr.lts
      have hlr : vg < wr.heap.size := by omega
      have hxi : I64 (m.getD k 0) := getD_i64 hI k
      have hms := mixL_set (fun j => m.getD j 0) (fun j => l.getD j 0) (k := k) (n := N)
      have HMS := Lib.hid hms
      have HSR := Lib.hid hSr
      have HDV := Lib.hid dv3
      have hsc := HSR.out.nes
      have hq : (k : Int) / (W : Int) = ((k / W : Nat) : Int) := by simp
      have hqk : k / W ≤ k := Nat.div_le_self _ _
      have hq1 : 0 ≤ (k : Int) / (W : Int) := by rw [hq]; exact Int.natCast_nonneg _
      have h9 : k / W ≤ 1024 := Nat.le_trans hqk (by omega)
      have hq2 : (k : Int) / (W : Int) ≤ 1024 := by rw [hq]; exact_mod_cast h9
      clear hq
      have hw0 : ((W : Int) == 0) = false := by simp; omega
      have hw1 : (W = 0) = False := by simp; omega
      clear hms hSr dv3
      generalize hx : m.getD k 0 = x at *
      have HX := Lib.hid hx
      clear hx
      go_wp2_with fail
      have hC0 := aft_drew c wr
      have hG := HSR.out.g.ext (Below.drew (Ext.refl wr))
      refine pi_start (fun w' => ∃ x : Aft c wr, w' = x.w) [] (by kernel_rfl) ?_
      refine pi_t 0 rfl (by kernel_rfl) (by kernel_rfl) (fun _ _ _ _ h => h) (fun K hK => ?_)
      go_big_quiet_op
      refine hK _ ?_
      clear hK K
      refine pi_t 1 rfl (by kernel_rfl) (by kernel_rfl) (fun _ _ _ _ h => h) (fun K hK => ?_)
      go_big_quiet_op
      refine hK _ ?_
      clear hK K
      refine pi_t 2 rfl (by kernel_rfl) (by kernel_rfl) (fun _ _ _ _ h => h) (fun K hK => ?_)
      go_big_quiet_op
      refine hK _ ?_
      clear hK K
      refine pi_t 3 rfl (by kernel_rfl) (by kernel_rfl) (fun _ _ _ _ h => h) (fun K hK => ?_)
      go_big_quiet_op
      refine hK _ ?_
      clear hK K
      refine pi_c 4 (by assumption) rfl (by kernel_rfl) (by kernel_rfl) (fun _ _ _ _ h => h) (fun K hK => ?_)
      go_big_quiet_op
      refine hK _ ?_
      clear hK K
      refine pi_t 5 rfl (by kernel_rfl) (by kernel_rfl) (fun _ _ _ _ h => h) (fun K hK => ?_)
      go_big_quiet_op
      refine hK _ ?_
      clear hK K
      refine pi_t 6 rfl (by kernel_rfl) (by kernel_rfl) (fun _ _ _ _ h => h) (fun K hK => ?_)
      go_big_quiet_op
      refine hK _ ?_
      clear hK K
      refine pi_t 7 rfl (by kernel_rfl) (by kernel_rfl) (fun _ _ _ _ h => h) (fun K hK => ?_)
      go_big_quiet_op
      refine hK _ ?_
      clear hK K
      refine pi_t 8 rfl (by kernel_rfl) (by kernel_rfl) (fun _ _ _ _ h => h) (fun K hK => ?_)
      go_big_quiet_op
      refine hK _ ?_
      clear hK K
      refine pi_t 9 rfl (by kernel_rfl) (by kernel_rfl) (fun _ _ _ _ h => h) (fun K hK => ?_)
      go_big_quiet_op
      refine hK _ ?_
      clear hK K
      refine pi_c 10 (by assumption) rfl (by kernel_rfl) (by kernel_rfl) (fun _ _ _ _ h => h) (fun K hK => ?_)
      go_big_quiet_op
      refine hK _ ?_
      clear hK K
      refine pi_t 11 rfl (by kernel_rfl) (by kernel_rfl) (fun _ _ _ _ h => h) (fun K hK => ?_)
      go_big_quiet_op
      refine hK _ ?_
      clear hK K
      refine pi_t 12 rfl (by kernel_rfl) (by kernel_rfl) (fun _ _ _ _ h => h) (fun K hK => ?_)
      go_big_quiet_op
      refine hK _ ?_
      clear hK K
      refine pi_t 13 rfl (by kernel_rfl) (by kernel_rfl) (fun _ _ _ _ h => h) (fun K hK => ?_)
      go_big_quiet_op
      refine hK _ ?_
      clear hK K
      refine pi_t 14 rfl (by kernel_rfl) (by kernel_rfl) (fun _ _ _ _ h => h) (fun K hK => ?_)
      go_big_quiet_op
      refine hK _ ?_
      clear hK K
      refine pi_t 15 rfl (by kernel_rfl) (by kernel_rfl) (fun _ _ _ _ h => h) (fun K hK => ?_)
      go_big_quiet_op
      refine hK _ ?_
      clear hK K
      refine pi_t 16 rfl (by kernel_rfl) (by kernel_rfl) (fun _ _ _ _ h => h) (fun K hK => ?_)
      go_big_quiet_op
      refine hK _ ?_
      clear hK K
      refine pi_c 17 (by assumption) rfl (by kernel_rfl) (by kernel_rfl) (fun _ _ _ _ h => h) (fun K hK => ?_)
      go_big_quiet_op
      refine hK _ ?_
      clear hK K
      refine pi_t 18 rfl (by kernel_rfl) (by kernel_rfl) (fun _ _ _ _ h => h) (fun K hK => ?_)
      go_big_quiet_op
      refine hK _ ?_
      clear hK K
      refine pi_t 19 rfl (by kernel_rfl) (by kernel_rfl) (fun _ _ _ _ h => h) (fun K hK => ?_)
      go_big_quiet_op
      refine hK _ ?_
      clear hK K
      refine pi_l 20 rfl (by kernel_rfl) (fun K hK => ?_)
      go_wp2_with (go_at_call 257; refine (Put_i b c R W _ _ hG _ _ (k / W) (k % W) (by simp) (by simp) dv1 dv2 x).mono ?_; rintro e w' ⟨rfl, rfl⟩)
      refine hK _ _ (fun _ h => aft_put h _) ?_
      clear hK K
      refine pi_end (by kernel_rfl) ?_
      rw [HDV.out]
      go_wp2
      go_roundw
      case rel =>
        refine ⟨k + 1, by omega, by go_num, ?_, ?_⟩
        · rw [← HMS.out]
          exact (HSR.out.setl (by rw [mixL_len]; exact hgo) hxi).ext (Below.drew (Ext.refl _))
        · exact (mod_put' hM _).trans (Ext.mod _ (Below.drew (Ext.refl _)))
      case measure => simp [intOf]; omega
    · obtain rfl : k = N := by omega
      have e : mixL (fun j => m.getD j 0) (fun j => l.getD j 0) k k = m := by
        apply list_ext_getD
        · rw [mixL_len, HL.out]
        · intro i hi
          rw [mixL_len] at hi
          rw [mixL_get _ _ hi, if_pos hi]
      rw [e] at hSr
      have HSR := Lib.hid hSr
      clear hSr e
      go_wp2
      go_ret
      exact ⟨rfl, HSR.out, (hb1.mod _).trans hM⟩
end Go.Proofs.YtfhdjekpdifajaaGreat
namespace Go.Proofs.YtfhdjekpdifajaaGreat
set_option linter.unusedVariables false
open Go.RowKit
/-- Updates that lie at a place. -/
def UCells (W : World) (g off : Nat) (l : List (Int × Int)) : Prop :=
  ∀ k, k < l.length → W.cell? ⟨g, off + k * 2, none⟩ = some (.int .u64 (l.getD k (0, 0)).1) ∧ W.cell? ⟨g, off + k * 2 + 1, none⟩ = some (.int .i64 (l.getD k (0, 0)).2)
theorem UCells.ext {W W' : World} {g off : Nat} {l : List (Int × Int)} (h : UCells W g off l) (hg : g < W.heap.size) (he : Ext W W') : UCells W' g off l :=
  fun k hk => ⟨((bcell he).1 _ _ hg).trans (h k hk).1, ((bcell he).1 _ _ hg).trans (h k hk).2⟩
theorem UCells.take {W : World} {g off : Nat} {l : List (Int × Int)} (h : UCells W g off l) (n : Nat) : UCells W g off (l.take n) := by
  intro k hk
  rw [List.length_take] at hk
  have := h k (by omega)
  have e : (l.take n).getD k (0, 0) = l.getD k (0, 0) := by
    rw [List.getD_eq_getElem?_getD, List.getD_eq_getElem?_getD, List.getElem?_take_of_lt (by omega)]
  rw [e]; exact this
theorem UCells.drop {W : World} {g off : Nat} {l : List (Int × Int)} (h : UCells W g off l) (n : Nat) : UCells W g (off + n * 2) (l.drop n) := by
  intro k hk
  rw [List.length_drop] at hk
  have := h (n + k) (by omega)
  have e : (l.drop n).getD k (0, 0) = l.getD (n + k) (0, 0) := by
    rw [List.getD_eq_getElem?_getD, List.getD_eq_getElem?_getD, List.getElem?_drop]
  rw [e, show off + n * 2 + k * 2 = off + (n + k) * 2 by omega]; exact this
section
variable {P : Program}
end
end Go.Proofs.YtfhdjekpdifajaaGreat
namespace Go.Proofs.YtfhdjekpdifajaaGreat
set_option linter.unusedVariables false
open Go.RowKit
section
variable {P : Program}
end
theorem own_keepB {w w' : World} {base n size : Nat} {e : TypeId} {v : Value} {xs : List Value} (h : w.ownsRow base e size v n xs) (hk : ∀ k, v.ownBlock = some k → w'.heap[k]? = w.heap[k]?) : w'.ownsRow base e size v n xs := by
  refine ⟨h.1, ?_⟩
  rcases h.2 with h' | ⟨g, cap, cur, rfl, hb, hh, hr⟩
  · exact .inl h'
  · exact .inr ⟨g, cap, cur, rfl, hb, (hk g rfl).trans hh, hr⟩
theorem own_lt {w : World} {base n size : Nat} {e : TypeId} {v : Value} {xs : List Value} (h : w.ownsRow base e size v n xs) {k : Nat} (hk : v.ownBlock = some k) : k < w.heap.size := by
  obtain ⟨cur, hc⟩ := own_type h hk; exact lt_of hc
theorem own_notB {w : World} {base n size b : Nat} {e t : TypeId} {v : Value} {xs : List Value} {cur : Array Value} (h : w.ownsRow base e size v n xs) (hb : w.heap[b]? = some (.cells cur t (0, 0))) (ht : t ≠ e) : v.ownBlock ≠ some b := by
  intro hk
  obtain ⟨cur', hc⟩ := own_type h hk
  rw [hb] at hc
  injection hc with hc
  injection hc with _ hc _
  exact ht hc
/-- Two rows do not lie in one block. -/
def Dja (v u : Value) : Prop := ∀ i, v.ownBlock = some i → u.ownBlock ≠ some i
theorem Dja.symm {v u : Value} (h : Dja v u) : Dja u v := fun i h1 h2 => h i h2 h1
/-- Two rows of pieces that lie apart, each in a box. -/
structure CovW (w W : World) (b6 b8 : Nat) (v6 v8 : Value) (pre suf : List (Nat × Int)) : Prop where
  x6 : W.heap[b6]? = some (.cells #[v6] 165 (0, 0))
  x8 : W.heap[b8]? = some (.cells #[v8] 165 (0, 0))
  o6 : W.ownsRow w.heap.size 39 2 v6 pre.length (pcV pre)
  o8 : W.ownsRow w.heap.size 39 2 v8 suf.length (pcV suf)
  dj : Dja v6 v8
  g6 : w.heap.size ≤ b6
  g8 : w.heap.size ≤ b8
  ne : b6 ≠ b8
  ext : Ext w W
theorem CovW.symm {w W : World} {b6 b8 : Nat} {v6 v8 : Value} {pre suf : List (Nat × Int)} (h : CovW w W b6 b8 v6 v8 pre suf) : CovW w W b8 b6 v8 v6 suf pre := ⟨h.x8, h.x6, h.o8, h.o6, h.dj.symm, h.g8, h.g6, h.ne.symm, h.ext⟩
theorem CovW.set {w W : World} {b6 b8 : Nat} {v6 v8 : Value} {pre suf : List (Nat × Int)} (h : CovW w W b6 b8 v6 v8 pre suf) : CovW w (W.setCell ⟨b6, 0, none⟩ v6) b6 b8 v6 v8 pre suf :=
  ⟨by rw [setCell_same h.x6]; rfl, by rw [setCell_other _ _ h.ne.symm]; exact h.x8, own_keepB h.o6 (fun k hk => setCell_other _ _ (fun e => own_notB h.o6 h.x6 (by decide) (e ▸ hk))), own_keepB h.o8 (fun k hk => setCell_other _ _ (fun e => own_notB h.o8 h.x6 (by decide) (e ▸ hk))), h.dj, h.g6, h.g8, h.ne, h.ext.setR (p := ⟨b6, 0, none⟩) h.g6 _⟩
end Go.Proofs.YtfhdjekpdifajaaGreat
namespace Go.Proofs.YtfhdjekpdifajaaGreat
set_option linter.unusedVariables false
open Go.RowKit
/-- Where it lies: its block, its row of rows, its rows, and how many cells they could have. -/
structure Gr where
  g : Nat
  m : Nat
  r : Nat → Nat
  c : Nat → Nat
def Gr.foot (G : Gr) (R : Nat) (k : Nat) : Prop := k = G.g ∨ k = G.m ∨ ∃ r, r < R ∧ k = G.r r
def Gr.row (G : Gr) (W r : Nat) : Value := .slice (some ⟨G.r r, 0, none⟩) W (G.c r)
structure RGAt (w : World) (G : Gr) (R W : Nat) (l : List Int) : Prop where
  ex : ∃ cap, w.heap[G.g]? = some (.cells #[.slice (some ⟨G.m, 0, none⟩) R cap] 161 (0, 0)) ∧ R ≤ cap
  row : ∃ cur, w.heap[G.m]? = some (.cells cur 43 (0, 0)) ∧ ∀ r, r < R → cur[r]? = some (G.row W r)
  cells : ∀ r, r < R → ∃ cur, w.heap[G.r r]? = some (.cells cur 2 (0, 0)) ∧ ∀ k, k < W → cur[k]? = some (.int .i64 (l.getD (r * W + k) 0))
  capc : ∀ r, r < R → W ≤ G.c r
  sep : ∀ r q, r < R → q < R → r ≠ q → G.r r ≠ G.r q
  len : l.length = R * W
  r1 : 1 ≤ R
  r2 : R ≤ 8
  w1 : 1 ≤ W
  w2 : W ≤ 128
section
variable {w : World} {G : Gr} {R W : Nat} {l : List Int}
theorem RGAt.ltg (h : RGAt w G R W l) : G.g < w.heap.size := by obtain ⟨cap, h1, _⟩ := h.ex; exact lt_of h1
theorem RGAt.ltm (h : RGAt w G R W l) : G.m < w.heap.size := by obtain ⟨cur, h1, _⟩ := h.row; exact lt_of h1
theorem RGAt.ltr (h : RGAt w G R W l) {r : Nat} (hr : r < R) : G.r r < w.heap.size := by obtain ⟨cur, h1, _⟩ := h.cells r hr; exact lt_of h1
theorem RGAt.lt (h : RGAt w G R W l) {k : Nat} (hk : G.foot R k) : k < w.heap.size := by
  rcases hk with rfl | rfl | ⟨r, hr, rfl⟩
  · exact h.ltg
  · exact h.ltm
  · exact h.ltr hr
theorem RGAt.ngr (h : RGAt w G R W l) {r : Nat} (hr : r < R) : G.g ≠ G.r r := by
  obtain ⟨cap, h1, _⟩ := h.ex
  obtain ⟨cur, h2, _⟩ := h.cells r hr
  exact blk_ne h1 h2 (by decide)
theorem RGAt.nmr (h : RGAt w G R W l) {r : Nat} (hr : r < R) : G.m ≠ G.r r := by
  obtain ⟨c1, h1, _⟩ := h.row
  obtain ⟨cur, h2, _⟩ := h.cells r hr
  exact blk_ne h1 h2 (by decide)
theorem RGAt.ngm (h : RGAt w G R W l) : G.g ≠ G.m := by
  obtain ⟨cap, h1, _⟩ := h.ex
  obtain ⟨cur, h2, _⟩ := h.row
  exact blk_ne h1 h2 (by decide)
theorem RGAt.keep {w' : World} (h : RGAt w G R W l) (hk : ∀ k, G.foot R k → w'.heap[k]? = w.heap[k]?) : RGAt w' G R W l :=
  ⟨by rw [hk _ (.inl rfl)]; exact h.ex, by rw [hk _ (.inr (.inl rfl))]; exact h.row, fun r hr => by rw [hk _ (.inr (.inr ⟨r, hr, rfl⟩))]; exact h.cells r hr, h.capc, h.sep, h.len, h.r1, h.r2, h.w1, h.w2⟩
theorem RGAt.ext {w' : World} (h : RGAt w G R W l) (he : Ext w w') : RGAt w' G R W l := h.keep fun k hk => he.block k (h.lt hk)
theorem RGAt.mod {S : Nat → Prop} {w' : World} (h : RGAt w G R W l) (he : Mod S w w') (hn : ∀ k, G.foot R k → ¬ S k) : RGAt w' G R W l := h.keep fun k hk => he.block k (h.lt hk) (hn k hk)
theorem RGAt.cg (h : RGAt w G R W l) : ∃ cap, w.cell? ⟨G.g, 0, none⟩ = some (.slice (some ⟨G.m, 0, none⟩) R cap) ∧ R ≤ cap := by
  obtain ⟨cap, h1, h2⟩ := h.ex
  exact ⟨cap, (cell_of h1 0).trans rfl, h2⟩
theorem RGAt.cm (h : RGAt w G R W l) {r : Nat} (hr : r < R) : w.cell? ⟨G.m, r, none⟩ = some (.slice (some ⟨G.r r, 0, none⟩) W (G.c r)) := by
  obtain ⟨cur, h1, h2⟩ := h.row
  rw [cell_of h1]; exact h2 r hr
theorem RGAt.fm (h : RGAt w G R W l) (r : Nat) : w.frozen? ⟨G.m, r, none⟩ = false := by
  obtain ⟨cur, h1, h2⟩ := h.row
  exact frozen_of h1 r
theorem RGAt.cr (h : RGAt w G R W l) {r k : Nat} (hr : r < R) (hk : k < W) : w.cell? ⟨G.r r, k, none⟩ = some (.int .i64 (l.getD (r * W + k) 0)) := by
  obtain ⟨cur, h1, h2⟩ := h.cells r hr
  rw [cell_of h1]; exact h2 k hk
theorem RGAt.fr (h : RGAt w G R W l) {r : Nat} (hr : r < R) (k : Nat) : w.frozen? ⟨G.r r, k, none⟩ = false := by
  obtain ⟨cur, h1, h2⟩ := h.cells r hr
  exact frozen_of h1 k
/-- A row of its cells. -/
def rowL (l : List Int) (W r : Nat) : List Int := (List.range W).map fun k => l.getD (r * W + k) 0
theorem rowL_len (l : List Int) (W r : Nat) : (rowL l W r).length = W := by simp [rowL]
theorem rowL_get {l : List Int} {W r k : Nat} (hk : k < W) : (rowL l W r).getD k 0 = l.getD (r * W + k) 0 := by simp [rowL, hk]
theorem RGAt.ints (h : RGAt w G R W l) {r : Nat} (hr : r < R) : IntsAt w (.slice (some ⟨G.r r, 0, none⟩) W (G.c r)) (rowL l W r) :=
  .inr ⟨G.r r, 0, G.c r, by rw [rowL_len], h.ltr hr, fun k hk => by rw [rowL_len] at hk; rw [Nat.zero_add, rowL_get hk]; exact h.cr hr hk⟩
/-- One cell set. -/
theorem RGAt.set (h : RGAt w G R W l) {r k : Nat} (hr : r < R) (hk : k < W) (x : Int) : RGAt (w.setCell ⟨G.r r, k, none⟩ (.int .i64 x)) G R W (l.set (r * W + k) x) := by
  have hlt : r * W + k < l.length := by
    rw [h.len]
    calc r * W + k < r * W + W := by omega
      _ = (r + 1) * W := by rw [Nat.add_mul, Nat.one_mul]
      _ ≤ R * W := Nat.mul_le_mul_right W hr
  refine ⟨by rw [setCell_other _ _ (h.ngr hr)]; exact h.ex, by rw [setCell_other _ _ (h.nmr hr)]; exact h.row, fun q hq => ?_, h.capc, h.sep, by rw [List.length_set]; exact h.len, h.r1, h.r2, h.w1, h.w2⟩
  obtain ⟨cur, h1, h2⟩ := h.cells q hq
  by_cases e : q = r
  · subst e
    refine ⟨_, setCell_same h1 _ _, fun j hj => ?_⟩
    by_cases ej : j = k
    · subst ej
      have hsz : j < cur.size := by
        have := h2 j hj
        rw [Array.getElem?_eq_some_iff] at this
        exact this.1
      rw [Array.getElem?_setIfInBounds_self_of_lt hsz, List.getD_eq_getElem?_getD, List.getElem?_set_self hlt]
      rfl
    · rw [Array.getElem?_setIfInBounds_ne (fun e => ej e.symm), h2 j hj, List.getD_eq_getElem?_getD, List.getD_eq_getElem?_getD, List.getElem?_set_ne (by omega)]
  · refine ⟨cur, by rw [setCell_other _ _ (h.sep q r hq hr e)]; exact h1, fun j hj => ?_⟩
    rw [h2 j hj, List.getD_eq_getElem?_getD, List.getD_eq_getElem?_getD, List.getElem?_set_ne (at_ne hk hj (.inl fun e' => e e'.symm))]
theorem mod_rset {w : World} {G : Gr} {R r : Nat} (hr : r < R) (k : Nat) (v : Value) : Mod (G.foot R) w (w.setCell ⟨G.r r, k, none⟩ v) :=
  ⟨rfl, rfl, rfl, by rw [size_setCell]; exact Nat.le_refl _, fun j _ hj => setCell_other _ _ (fun e => hj (.inr (.inr ⟨r, hr, e⟩)))⟩
end
/-- Rows that have been made. -/
structure GMade (w : World) (B0 : Nat) (G : Gr) (W k : Nat) (v : Value) (f : Nat → Nat → Int) : Prop where
  row : w.ownsRow B0 43 1 v ((List.range k).map (G.row W)).length ((List.range k).map (G.row W))
  cells : ∀ r, r < k → ∃ cur, w.heap[G.r r]? = some (.cells cur 2 (0, 0)) ∧ ∀ j, j < W → cur[j]? = some (.int .i64 (f r j))
  capc : ∀ r, r < k → W ≤ G.c r
  new : ∀ r, r < k → B0 ≤ G.r r
  sep : ∀ r q, r < k → q < k → r ≠ q → G.r r ≠ G.r q
theorem GMade.zero (w : World) (B0 : Nat) (G : Gr) (W : Nat) (f : Nat → Nat → Int) : GMade w B0 G W 0 (.slice none 0 0) f :=
  ⟨⟨rfl, .inl ⟨rfl, rfl⟩⟩, by intros; omega, by intros; omega, by intros; omega, by intros; omega⟩
theorem GMade.ext {w w' : World} {B0 W k : Nat} {G : Gr} {v : Value} {f : Nat → Nat → Int} (h : GMade w B0 G W k v f) (he : Ext w w') : GMade w' B0 G W k v f :=
  ⟨own_ext h.row he, fun r hr => by obtain ⟨cur, h1, h2⟩ := h.cells r hr; exact ⟨cur, he.keep h1, h2⟩, h.capc, h.new, h.sep⟩
theorem GMade.lt {w : World} {B0 W k : Nat} {G : Gr} {v : Value} {f : Nat → Nat → Int} (h : GMade w B0 G W k v f) {r : Nat} (hr : r < k) : G.r r < w.heap.size := by
  obtain ⟨cur, h1, _⟩ := h.cells r hr; exact lt_of h1
theorem GMade.setc {w : World} {B0 W k : Nat} {G : Gr} {v : Value} {f : Nat → Nat → Int} (h : GMade w B0 G W k v f) {b : Nat} (hb : b < B0) (o : Nat) (u : Value) : GMade (w.setCell ⟨b, o, none⟩ u) B0 G W k v f :=
  ⟨own_setc h.row hb o u, fun r hr => by obtain ⟨cur, h1, h2⟩ := h.cells r hr; exact ⟨cur, by rw [setCell_other _ _ (by have := h.new r hr; omega)]; exact h1, h2⟩, h.capc, h.new, h.sep⟩
/-- A row that the call has made. -/
theorem own_row1 {w : World} {N : Nat} {u : Value} {xs : List Int} (h : w.ownsRow N 2 1 u xs.length (ints xs)) (hx : 0 < xs.length) :
    ∃ z cap cur, u = .slice (some ⟨z, 0, none⟩) xs.length cap ∧ xs.length ≤ cap ∧ N ≤ z ∧ w.heap[z]? = some (.cells cur 2 (0, 0)) ∧ ∀ j, j < xs.length → cur[j]? = some (.int .i64 (xs.getD j 0)) := by
  obtain ⟨z, cap, hv, hz, hc⟩ := CAt.of_row h hx
  obtain ⟨cur, h1, h2, h3⟩ := hc.ex
  exact ⟨z, cap, cur, hv, hc.le, hz, h1, fun j hj => by rw [← cell_of h1]; exact hc.cell hj⟩
/-- One more. -/
theorem GMade.next {w w' : World} {B0 W k N : Nat} {G : Gr} {v v' : Value} {f : Nat → Nat → Int} {z cap : Nat} {cur : Array Value} {o : Obj} (h : GMade w B0 G W k v f)
    (hz : w.heap[z]? = some (.cells cur 2 (0, 0))) (hf : ∀ j, j < W → cur[j]? = some (.int .i64 (f k j))) (hcap : W ≤ cap) (hN : ∀ r, r < k → G.r r < N) (hB : B0 ≤ N) (hzN : N ≤ z)
    (hown : w'.ownsRow B0 43 1 v' ((List.range k).map (G.row W) ++ [Value.slice (some ⟨z, 0, none⟩) W cap]).length ((List.range k).map (G.row W) ++ [Value.slice (some ⟨z, 0, none⟩) W cap])) (hg : (w.alloc o).grownBy w' v.ownBlock) :
    GMade w' B0 ⟨G.g, G.m, fun r => if r = k then z else G.r r, fun r => if r = k then cap else G.c r⟩ W (k + 1) v' f := by
  have hold : ∀ (j : Nat) (cu : Array Value), w.heap[j]? = some (Obj.cells cu 2 (0, 0)) → w'.heap[j]? = some (Obj.cells cu 2 (0, 0)) := fun j cu hj =>
    (grown_old hg (lt_of hj) (fun e => own_notB h.row hj (by decide) e.symm)).trans hj
  refine ⟨?_, fun r hr => ?_, fun r hr => ?_, fun r hr => ?_, fun r q hr hq hrq => ?_⟩
  · have e : (List.range (k + 1)).map (Gr.row ⟨G.g, G.m, fun r => if r = k then z else G.r r, fun r => if r = k then cap else G.c r⟩ W) = (List.range k).map (G.row W) ++ [Value.slice (some ⟨z, 0, none⟩) W cap] := by
      rw [List.range_succ, List.map_append]
      congr 1
      · apply List.map_congr_left
        intro i hi
        rw [List.mem_range] at hi
        simp only [Gr.row, if_neg (show ¬ i = k by omega)]
      · simp [Gr.row]
    rw [e]; exact hown
  · by_cases e : r = k
    · subst e
      refine ⟨cur, ?_, hf⟩
      simp only [if_pos]
      exact hold _ _ hz
    · obtain ⟨cu, h1, h2⟩ := h.cells r (by omega)
      refine ⟨cu, ?_, h2⟩
      simp only [if_neg e]
      exact hold _ _ h1
  · by_cases e : r = k
    · simp only [if_pos e]; exact hcap
    · simp only [if_neg e]; exact h.capc r (by omega)
  · by_cases e : r = k
    · simp only [if_pos e]; omega
    · simp only [if_neg e]; exact h.new r (by omega)
  · by_cases e : r = k
    · subst e
      simp only [if_pos, if_neg (show ¬ q = r by omega)]
      have := hN q (by omega)
      omega
    · by_cases e' : q = k
      · subst e'
        simp only [if_pos, if_neg e]
        have := hN r (by omega)
        omega
      · simp only [if_neg e, if_neg e']
        exact h.sep r q (by omega) (by omega) hrq
/-- All rows, and the grid's own block: a grid. -/
theorem GMade.grid {w : World} {B0 R W g : Nat} {G : Gr} {v : Value} {f : Nat → Nat → Int} {l : List Int} (h : GMade w B0 G W R v f) (hg : w.heap[g]? = some (.cells #[v] 161 (0, 0)))
    (hl : l.length = R * W) (hf : ∀ r k, r < R → k < W → f r k = l.getD (r * W + k) 0) (r1 : 1 ≤ R) (r2 : R ≤ 8) (w1 : 1 ≤ W) (w2 : W ≤ 128) :
    ∃ m, B0 ≤ m ∧ RGAt w ⟨g, m, G.r, G.c⟩ R W l := by
  have hlen : ((List.range R).map (G.row W)).length = R := by simp
  rcases h.row.2 with ⟨_, h0⟩ | ⟨m, cap, cur, rfl, hbg, hm, hnc, hcm, hcs, htake⟩
  · rw [hlen] at h0; omega
  · rw [hlen] at hg hnc
    refine ⟨m, hbg, ⟨⟨cap, hg, hnc⟩, ⟨cur, hm, fun r hr => ?_⟩, fun r hr => ?_, h.capc, h.sep, hl, r1, r2, w1, w2⟩⟩
    · have hget : ((List.range R).map (G.row W))[r]? = some (G.row W r) := by rw [List.getElem?_map, List.getElem?_range hr]; rfl
      have h1 := h.row.cells (g := m) rfl r _ hget
      rw [show ((⟨m, 0, none⟩ : Addr).add r) = ⟨m, r, none⟩ by (simp [Addr.add]; intro e; exact e.symm), cell_of hm] at h1
      exact h1
    · obtain ⟨cu, h1, h2⟩ := h.cells r hr
      exact ⟨cu, h1, fun k hk => by rw [h2 k hk, hf r k hr hk]⟩
theorem info_row : ∃ i z, Tryz.prog.info? 43 = some i ∧ i.zero = some z ∧ i.size = 1 ∧ i.bytes = 24 ∧ z.cells.size = 1 := by
  have h : (Tryz.prog.info? 43).map (fun i => (i.zero, i.size, i.bytes)) = some (some (.slice none 0 0), 1, 24) := by kernel_rfl
  match hi : Tryz.prog.info? 43, h with
  | some i, h =>
    simp only [Option.map_some, Option.some.injEq, Prod.mk.injEq] at h
    exact ⟨i, .slice none 0 0, rfl, h.1, h.2.1, h.2.2, rfl⟩
section
variable {P : Program}
/-- 's = append(s, x)', x of one cell and so many bytes, s a row of the call's own. -/
theorem wpList_appB (W : World) {ops : Array Oper} {rest : List Oper} {o : Oper} {a : Act} {Q : Exit → Act → World → Prop} (by_ : Nat) (hby : by_ ≤ 64) (x : Value) (hx1 : x.oneCell' = true) (xs : List Value) (v : Value) (base : Nat) (e : TypeId) (hown : W.ownsRow base e 1 v xs.length xs) (t : TypeId)
    (hgd : o.guard = none) (s y : Operand) (ho : o.op = .call { callee := .builtin .append, args := #[s, y], argTypes := #[t, t] })
    (i0 : TypeInfo) (z0 : Value) (hi : P.info? e = some i0) (hz0 : i0.zero = some z0) (hz1 : i0.size = 1) (hz2 : i0.bytes = by_) (hz3 : z0.cells.size = 1) (ht : P.underlying t = some (.slice e))
    (hs : a.eval s = v) (hx : a.eval y = .slice (some ⟨W.heap.size, 0, none⟩) 1 1)
    (hl : xs.length ≤ 1000000) (hbase : base ≤ W.heap.size)
    (h : ∀ v' w', w'.ownsRow base e 1 v' (xs ++ [x]).length (xs ++ [x]) → (W.alloc (.cells #[x] e)).grownBy w' v.ownBlock → wpList P ops Q rest (a.put o.dst v') w') :
    wpList P ops Q (o :: rest) a (W.alloc (.cells #[x] e)) := by
  refine wpList_append_sep _ hgd s y t ho base e i0 z0 1 by_ ht hi hz0 hz1 hz2 hz3 (by decide) v xs.length xs hs (hown.alloc _) ⟨W.heap.size, 0, none⟩ 1 1 [x] hx rfl ?_ ?_ (by unfold maxLen; omega) ?_ (by rw [size_alloc]; omega) ?_
  · intro j u hu
    have hj : j = 0 := by
      have := (List.getElem?_eq_some_iff.1 hu).1
      simp at this; exact this
    subst hj
    rw [show (⟨W.heap.size, 0, none⟩ : Addr).add 0 = ⟨W.heap.size, 0, none⟩ by simp [Addr.add], cell_of (heap_at W _ rfl) 0]
    exact hu
  · intro u hu
    simp at hu
    subst hu
    exact hx1
  · have : (xs.length + 1) * by_ ≤ 1000001 * 64 := Nat.mul_le_mul (by omega) hby
    omega
  · intro v' w' h1 h2 h3
    refine h v' w' ?_ h2
    rw [List.length_append]
    exact h1
end
end Go.Proofs.YtfhdjekpdifajaaGreat
namespace Go.Proofs.YtfhdjekpdifajaaGreat
set_option linter.unusedVariables false
open Go.RowKit
theorem own_empty (w : World) (e : TypeId) : (w.alloc (.cells #[] e)).ownsRow w.heap.size e 1 (.slice (some ⟨w.heap.size, 0, none⟩) 0 0) 0 [] :=
  ⟨rfl, .inr ⟨w.heap.size, 0, #[], rfl, Nat.le_refl _, heap_at _ _ rfl, Nat.le_refl _, Nat.zero_le _, rfl, rfl⟩⟩
theorem zs_succ (n : Nat) : zs (n + 1) = zs n ++ [0] := List.replicate_succ'
set_option maxRecDepth 20000 in
set_option maxHeartbeats 4000000 in
theorem RGNew_c (R W : Nat) (r1 : 1 ≤ R) (r2 : R ≤ 8) (w1 : 1 ≤ W) (w2 : W ≤ 128) (w : World) :
    Calls Tryz.prog 155 #[.int .i64 R, .int .i64 W] w fun e w' => ∃ G : Gr, e = .returned (.pointer (some ⟨G.g, 0, none⟩)) ∧ RGAt w' G R W (zs (R * W)) ∧ (∀ k, G.foot R k → w.heap.size ≤ k) ∧ Ext w w' := by
  go_enter Tryz.func155, Tryz.ntmps155
  go_wp2_with fail
  go_loopw [6] (fun u6 wr => ∃ (k : Nat) (G : Gr) (v : Value), k ≤ R ∧ u6 = .int .i64 k ∧ Ext w wr ∧ wr.heap[w.heap.size]? = some (.cells #[v] 161 (0, 0)) ∧ GMade wr (w.heap.size + 1) G W k v (fun _ _ => 0)) (fun u6 _ => R - (intOf u6).toNat)
  case atStart => exact ⟨0, ⟨0, 0, fun _ => 0, fun _ => 0⟩, _, Nat.zero_le _, rfl, Ext.alloc' _ _, heap_at _ _ rfl, GMade.zero _ _ _ _ _⟩
  case round =>
    obtain ⟨k, G, v, hk, rfl, hE, hb, hM⟩ := hrel
    rename World => wo
    have hbl := lt_of hb
    have hsz := hE.size
    have HB := Lib.hid hb
    have HM := Lib.hid hM
    clear hb hM
    by_cases hlt : k < R
    · have hk8 : (k : Int) < 8 := by omega
      have hk8b : decide ((k : Int) < 8) = true := by simp; omega
      go_wp2_with fail
      go_loopw [7, 8] (fun u7 u8 wr => ∃ j : Nat, j ≤ W ∧ u8 = .int .i64 j ∧ wr.ownsRow wo.heap.size 2 1 u7 (zs j).length (ints (zs j)) ∧ Ext wo wr) (fun _ u8 _ => W - (intOf u8).toNat)
      case atStart => exact ⟨0, Nat.zero_le _, rfl, own_empty _ _, Ext.alloc' _ _⟩
      case round =>
        obtain ⟨j, hj, rfl, hown, hx⟩ := hrel
        have hxs := hx.size
        by_cases hjl : j < W
        · have hj128 : (j : Int) < 128 := by omega
          have hj128b : decide ((j : Int) < 128) = true := by simp; omega
          go_wp2_with (at_builtin; refine wpList_app1 wr 0 (zs j) _ wo.heap.size 2 hown 43 rfl _ _ rfl info_i64 Tryz.underlying43 rfl rfl ?a1 ?a2 ?_)
          case a1 => rw [zs_len]; omega
          case a2 => exact hxs
          intro v' w' g1 g2 g3
          have hx' : Ext wo w' := ext_grown hx g2 (fun i hi => own_blk hown hi)
          rw [← zs_succ] at g1
          have G1 := Lib.hid g1
          clear g1 g2 g3 hown
          go_wp2
          go_roundw
          case rel => exact ⟨j + 1, by omega, by go_num, G1.out, hx'⟩
          case measure => simp [intOf]; omega
        · obtain rfl : j = W := by omega
          obtain ⟨z, cap, cur, hu, hcap, hz, hzc, hcur⟩ := own_row1 hown (by rw [zs_len]; omega)
          rw [zs_len] at hu hcap hcur
          subst hu
          have hbx := hx.keep HB.out
          have hMx := HM.out.ext hx
          have c0 := (cell_of hbx 0).trans rfl
          have lb := lt_of hbx
          obtain ⟨i0, z0, hi0, hz0, hz1, hz2, hz3⟩ := info_row
          have HC := Lib.hid (And.intro hcap (And.intro hz (And.intro hzc hcur)))
          have HBX := Lib.hid hbx
          have HMX := Lib.hid hMx
          clear hown hcap hz hzc hcur hbx hMx
          go_wp2_with (at_builtin; refine wpList_appB wr 24 (by decide) (.slice (some ⟨z, 0, none⟩) j cap) rfl ((List.range k).map (G.row j)) v (w.heap.size + 1) 43 HMX.out.row 159 rfl _ _ rfl i0 z0 hi0 hz0 hz1 hz2 hz3 Tryz.underlying159 rfl rfl ?b1 ?b2 ?_)
          case b1 => rw [List.length_map, List.length_range]; omega
          case b2 => omega
          intro v' w' g1 g2
          obtain ⟨q1, q2, q3, q4⟩ := HC.out
          have hnext := HMX.out.next q3 (fun i hi => by rw [q4 i hi, zs_get0]) q1 (fun r hr => HM.out.lt hr) (by omega) q2 (by rw [List.length_append, List.length_map, List.length_range]; exact g1) g2
          have hbw := (grown_old g2 lb (fun e => by have := own_blk HMX.out.row e.symm; omega)).trans HBX.out
          have hEw : Ext w w' := ext_grown (hE.trans' hx) g2 (fun i hi => by have := own_blk HMX.out.row hi; omega)
          have d0 := (cell_of hbw 0).trans rfl
          have f0 := frozen_of hbw 0
          have l0 := lt_of hbw
          obtain ⟨pv, nv, cv, rfl⟩ := own_slice g1
          have HN := Lib.hid hnext
          have HBW := Lib.hid hbw
          clear hnext hbw g1 g2 c0
          go_wp2
          go_roundw
          case rel => exact ⟨k + 1, _, _, by omega, by go_num, hEw.setR (p := ⟨w.heap.size, 0, none⟩) (Nat.le_refl _) _, (setCell_same HBW.out 0 _).trans rfl, HN.out.setc (by omega) _ _⟩
          case measure => simp [intOf]; omega
    · obtain rfl : k = R := by omega
      go_wp2
      go_ret
      obtain ⟨m, hm, hG⟩ := HM.out.grid (l := zs (k * W)) HB.out (zs_len _) (fun r c _ _ => (zs_get0 _ _).symm) r1 r2 w1 w2
      refine ⟨_, rfl, hG, ?_, hE⟩
      rintro i (rfl | rfl | ⟨r, hr, rfl⟩)
      · exact Nat.le_refl _
      · exact Nat.le_trans (Nat.le_succ _) hm
      · exact Nat.le_trans (Nat.le_succ _) (HM.out.new r hr)
theorem take_row {l : List Int} {R W k : Nat} (hl : l.length = R * W) (hk : k < R) : l.take ((k + 1) * W) = l.take (k * W) ++ rowL l W k := by
  have h1 : (k + 1) * W ≤ R * W := Nat.mul_le_mul_right W hk
  have e : (k + 1) * W = k * W + W := by rw [Nat.add_mul, Nat.one_mul]
  apply list_ext_getD
  · rw [List.length_append, List.length_take, List.length_take, rowL_len]; omega
  · intro i hi
    rw [List.length_take] at hi
    have g : ∀ n, i < n → (l.take n).getD i 0 = l.getD i 0 := fun n hn => by
      rw [List.getD_eq_getElem?_getD, List.getD_eq_getElem?_getD, List.getElem?_take_of_lt hn]
    rw [g _ (by omega)]
    by_cases h : i < k * W
    · rw [List.getD_eq_getElem?_getD (l := l.take (k * W) ++ rowL l W k), List.getElem?_append_left (by rw [List.length_take]; omega), ← List.getD_eq_getElem?_getD, g _ h]
    · have hlen : (l.take (k * W)).length = k * W := by rw [List.length_take]; omega
      rw [List.getD_eq_getElem?_getD (l := l.take (k * W) ++ rowL l W k), List.getElem?_append_right (by omega), ← List.getD_eq_getElem?_getD, hlen, rowL_get (by omega)]
      congr 1
      omega
set_option maxRecDepth 20000 in
set_option maxHeartbeats 4000000 in
theorem RGCells_c (G : Gr) (R W : Nat) (l : List Int) (w : World) (h : RGAt w G R W l) :
    Calls Tryz.prog 87 #[.pointer (some ⟨G.g, 0, none⟩)] w fun e w' => ∃ v, e = .returned v ∧ w'.ownsRow w.heap.size 2 1 v l.length (ints l) ∧ Ext w w' := by
  have HH := Lib.hid h
  clear h
  go_enter Tryz.func87, Tryz.ntmps87
  go_wp2_with fail
  go_loopw [3, 4] (fun u3 u4 wr => ∃ k : Nat, k ≤ R ∧ u4 = .int .i64 k ∧ wr.ownsRow w.heap.size 2 1 u3 (l.take (k * W)).length (ints (l.take (k * W))) ∧ Ext w wr) (fun _ u4 _ => R - (intOf u4).toNat)
  case atStart =>
    refine ⟨0, Nat.zero_le _, rfl, ?_, Ext.alloc' _ _⟩
    rw [Nat.zero_mul, List.take_zero]
    exact own_empty _ _
  case round =>
    obtain ⟨k, hk, rfl, hown, hE⟩ := hrel
    have hr := HH.out.ext hE
    have hr8 := hr.r2
    have hw128 := hr.w2
    obtain ⟨cap, cg, hcap⟩ := hr.cg
    have lg := hr.ltg
    by_cases hlt : k < R
    · have cm := hr.cm hlt
      have lm := hr.ltm
      have hints := hr.ints hlt
      have hrow := take_row hr.len hlt
      have hl2 : (l.take (k * W)).length ≤ 1024 := by
        rw [List.length_take]
        have : k * W ≤ 8 * 128 := Nat.mul_le_mul (by omega) hw128
        omega
      have HROW := Lib.hid hrow
      have HOWN := Lib.hid hown
      have hcr : ∀ j, j < W → wr.cell? ⟨G.r k, 0 + j, none⟩ = some (.int .i64 ((rowL l W k).getD j 0)) := fun j hj => by rw [Nat.zero_add, rowL_get hj]; exact hr.cr hlt hj
      have HCR := Lib.hid hcr
      have hlen := rowL_len l W k
      have HLEN := Lib.hid hlen
      generalize l.take (k * W) = pre at *
      generalize rowL l W k = row at *
      clear hrow hints hown hr hcr hlen
      go_wp2_with (at_builtin; refine wpList_appl wr row pre u3 w.heap.size 2 HOWN.out 43 rfl _ _ rfl info_i64 Tryz.underlying43 rfl (G.r k) 0 W (G.c k) rfl HLEN.out.symm HCR.out ?a1 ?a2 ?_)
      case a1 => omega
      case a2 => exact hE.size
      intro v' w' g1 g2 g3
      have hx' : Ext w w' := ext_grown0 hE g2 (fun i hi => own_blk HOWN.out hi)
      have G1 := Lib.hid g1
      obtain ⟨p1, n1, c1, rfl⟩ := own_slice g1
      clear g1 g2 g3
      go_wp2
      go_roundw
      case rel => exact ⟨k + 1, by omega, by go_num, by rw [HROW.out, List.length_append]; exact G1.out, hx'⟩
      case measure => simp [intOf]; omega
    · obtain rfl : k = R := by omega
      rw [List.take_of_length_le (by rw [hr.len]; exact Nat.le_refl _)] at hown
      have HOWN := Lib.hid hown
      obtain ⟨p1, n1, c1, rfl⟩ := own_slice hown
      clear hown hr
      go_wp2
      go_ret
      exact ⟨_, rfl, HOWN.out, hE⟩
end Go.Proofs.YtfhdjekpdifajaaGreat
namespace Go.Proofs.YtfhdjekpdifajaaGreat
set_option linter.unusedVariables false
theorem less_perm {x : Int} {a b : List Int} (h : a.Perm b) : (lessL x a).length = (lessL x b).length := (h.filter _).length_eq
theorem same_perm {x : Int} {a b : List Int} (h : a.Perm b) : sameN x a = sameN x b := (h.filter _).length_eq
theorem kth_perm {l s : List Int} {k : Nat} {x : Int} (h : s.Perm l) (hk : IsKth s k x) : IsKth l k x := by
  unfold IsKth at *
  rw [less_perm h, same_perm h] at hk
  exact hk
theorem less_none {x : Int} : ∀ {s : List Int}, (∀ y ∈ s, x ≤ y) → (lessL x s).length = 0
  | [], _ => rfl
  | z :: s, h => by
    rw [less_cons, if_neg (by have := h z (by simp); omega), less_none (fun y hy => h y (by simp [hy]))]
theorem kth_sorted : ∀ {s : List Int} (k : Nat) (h : k < s.length), s.Pairwise (· ≤ ·) → IsKth s k s[k]
  | [], k, h, _ => by simp at h
  | z :: s, 0, _, hp => by
    rw [List.pairwise_cons] at hp
    show (lessL z (z :: s)).length ≤ 0 ∧ 0 < (lessL z (z :: s)).length + sameN z (z :: s)
    rw [less_cons, same_cons, if_neg (Int.lt_irrefl z), if_pos rfl, less_none hp.1]
    omega
  | z :: s, k + 1, h, hp => by
    have hk : k < s.length := by simpa using h
    rw [List.pairwise_cons] at hp
    have ih := kth_sorted k hk hp.2
    have hz := hp.1 s[k] (List.getElem_mem hk)
    show IsKth (z :: s) (k + 1) s[k]
    unfold IsKth at *
    rw [less_cons, same_cons]
    by_cases e : z = s[k]
    · rw [if_neg (by omega), if_pos e]
      have h0 : (lessL s[k] s).length = 0 := less_none (fun y hy => by have := hp.1 y hy; omega)
      omega
    · rw [if_pos (by omega), if_neg e]; omega
/-- One number put into its place. -/
theorem ins_sorted {s : List Int} {x : Int} {a : Nat} (hs : s.Pairwise (· ≤ ·)) (ha : a ≤ s.length) (h1 : a = 0 ∨ s.getD (a - 1) 0 ≤ x) (h2 : ∀ j, a ≤ j → j < s.length → x < s.getD j 0) :
    (s.take a ++ [x] ++ s.drop a).Pairwise (· ≤ ·) ∧ (s.take a ++ [x] ++ s.drop a).Perm (s ++ [x]) := by
  have hcut : s.take a ++ s.drop a = s := List.take_append_drop a s
  refine ⟨?_, ?_⟩
  · rw [List.append_assoc, List.pairwise_append]
    rw [← hcut, List.pairwise_append] at hs
    obtain ⟨p1, p2, p3⟩ := hs
    have hlo : ∀ y ∈ s.take a, y ≤ x := by
      intro y hy
      obtain ⟨j, hj, rfl⟩ := List.getElem_of_mem hy
      rw [List.length_take] at hj
      rcases h1 with h1 | h1
      · omega
      · have hs' : s.Pairwise (· ≤ ·) := by rw [← hcut, List.pairwise_append]; exact ⟨p1, p2, p3⟩
        rw [List.getElem_take]
        have e : s.getD (a - 1) 0 = s[a - 1] := by simp [show a - 1 < s.length by omega]
        rw [e] at h1
        by_cases hj2 : j = a - 1
        · subst hj2; exact h1
        · have := List.pairwise_iff_getElem.1 hs' j (a - 1) (by omega) (by omega) (by omega)
          omega
    have hhi : ∀ y ∈ s.drop a, x ≤ y := by
      intro y hy
      obtain ⟨j, hj, rfl⟩ := List.getElem_of_mem hy
      rw [List.length_drop] at hj
      rw [List.getElem_drop]
      have := h2 (a + j) (by omega) (by omega)
      have e : s.getD (a + j) 0 = s[a + j] := by simp [show a + j < s.length by omega]
      omega
    refine ⟨p1, ?_, ?_⟩
    · rw [List.singleton_append, List.pairwise_cons]
      exact ⟨hhi, p2⟩
    · intro y hy z hz
      simp only [List.singleton_append, List.mem_cons] at hz
      rcases hz with rfl | hz
      · exact hlo y hy
      · have := hlo y hy; have := hhi z hz; omega
  · have h1 : (s.take a ++ [x] ++ s.drop a).Perm (s.take a ++ (s.drop a ++ [x])) := by
      rw [List.append_assoc]
      exact List.Perm.append_left _ List.perm_append_comm
    rw [← List.append_assoc, hcut] at h1
    exact h1
end Go.Proofs.YtfhdjekpdifajaaGreat
namespace Go.Proofs.YtfhdjekpdifajaaGreat
set_option linter.unusedVariables false
open Go.RowKit
theorem mul_abs {a b A B : Int} (ha : -A ≤ a ∧ a ≤ A) (hb : -B ≤ b ∧ b ≤ B) : -(A * B) ≤ a * b ∧ a * b ≤ A * B := by
  have h1 : 0 ≤ (A - a) * (B + b) := Int.mul_nonneg (by omega) (by omega)
  have h2 : 0 ≤ (A + a) * (B - b) := Int.mul_nonneg (by omega) (by omega)
  have h3 : 0 ≤ (A - a) * (B - b) := Int.mul_nonneg (by omega) (by omega)
  have h4 : 0 ≤ (A + a) * (B + b) := Int.mul_nonneg (by omega) (by omega)
  simp only [Int.mul_add, Int.add_mul, Int.sub_mul, Int.mul_sub] at h1 h2 h3 h4
  omega
theorem mul_w {a b : Int} (ha : I64 a) (hb : I64 b) : W128 (a * b) := by
  unfold I64 at ha hb
  have := mul_abs (A := 9223372036854775808) (B := 9223372036854775808) (a := a) (b := b) (by omega) (by omega)
  unfold W128; omega
def uu (a : Int) : Int := a % 18446744073709551616
theorem uu_u (a : Int) : U64 (uu a) := by unfold uu U64; omega
def tmH (a b : Int) (b1 b2 : Bool) : Int :=
  let p := uu a * uu b / 18446744073709551616
  let q := bif b1 then IntKind.u64.wrap (p - uu b) else p
  wrap64 (bif b2 then IntKind.u64.wrap (q - uu a) else q)
theorem tm_hi {a b : Int} (ha : I64 a) (hb : I64 b) {b1 b2 : Bool} (d1 : decide (a < 0) = b1) (d2 : decide (b < 0) = b2) : tmH a b b1 b2 = hi (a * b) := by
  have hw := mul_abs (A := 9223372036854775808) (B := 9223372036854775808) (a := a) (b := b) (by unfold I64 at ha; omega) (by unfold I64 at hb; omega)
  have e2 : (a + 18446744073709551616) * b = a * b + 18446744073709551616 * b := Int.add_mul _ _ _
  have e3 : a * (b + 18446744073709551616) = a * b + a * 18446744073709551616 := Int.mul_add _ _ _
  have e4 : (a + 18446744073709551616) * (b + 18446744073709551616) = a * b + a * 18446744073709551616 + (18446744073709551616 * b + 18446744073709551616 * 18446744073709551616) := by
    rw [Int.add_mul, Int.mul_add, Int.mul_add]
  have ua0 : ¬ a < 0 → uu a = a := fun h => by unfold uu; unfold I64 at ha; omega
  have ua1 : a < 0 → uu a = a + 18446744073709551616 := fun h => by unfold uu; unfold I64 at ha; omega
  have ub0 : ¬ b < 0 → uu b = b := fun h => by unfold uu; unfold I64 at hb; omega
  have ub1 : b < 0 → uu b = b + 18446744073709551616 := fun h => by unfold uu; unfold I64 at hb; omega
  subst d1 d2
  unfold tmH hi wrap64
  simp only [IntKind.wrap_u64]
  unfold I64 at ha hb
  by_cases h1 : a < 0 <;> by_cases h2 : b < 0
  · rw [ua1 h1, ub1 h2, e4]; simp only [h1, h2, decide_true, cond_true]; generalize a * b = t at *; omega
  · rw [ua1 h1, ub0 h2, e2]; simp only [h1, h2, decide_true, decide_false, cond_true, cond_false]; generalize a * b = t at *; omega
  · rw [ua0 h1, ub1 h2, e3]; simp only [h1, h2, decide_true, decide_false, cond_true, cond_false]; generalize a * b = t at *; omega
  · rw [ua0 h1, ub0 h2]; simp only [h1, h2, decide_false, cond_false]; generalize a * b = t at *; omega
theorem tm_lo (a b : Int) : uu a * uu b % 18446744073709551616 = lo (a * b) := by
  unfold uu lo
  rw [← Int.mul_emod]
theorem u64_wrap (a : Int) : IntKind.u64.wrap a = uu a := by rw [IntKind.wrap_u64]; rfl
set_option maxHeartbeats 1000000 in
theorem Times_core (a b : Int) (b1 b2 : Bool) (d1 : decide (a < 0) = b1) (d2 : decide (b < 0) = b2) (w : World) :
    Calls Tryz.prog 173 #[.int .i64 a, .int .i64 b] w fun e w' => e = .returned (.agg #[.int .i64 (tmH a b b1 b2), .int .u64 (uu a * uu b % 18446744073709551616)]) ∧ Ext w w' := by
  have e1 := u64_wrap a
  have e2 := u64_wrap b
  cases b1 <;> cases b2
  all_goals
    go_enter Tryz.func173, Tryz.ntmps173
    go_wp2_with (go_at_call 202; refine (mul64 _ _ (uu_u a) (uu_u b) _).mono ?_; rintro e w' ⟨rfl, rfl⟩)
    exact bodyPost_ret (v := .agg #[.int .i64 (tmH a b _ _), .int .u64 (uu a * uu b % 18446744073709551616)]) (by simp [results, Tryz.results173, go_sem, tmH]) rfl ⟨rfl, by (repeat' (first | exact Ext.refl _ | assumption | apply Ext.allocR | apply Ext.drewR | apply Ext.drewNR | (refine Ext.trans' ?_ (by assumption))))⟩
theorem Times_c (a b : Int) (ha : I64 a) (hb : I64 b) (w : World) :
    Calls Tryz.prog 173 #[.int .i64 a, .int .i64 b] w fun e w' => e = .returned (.agg #[.int .i64 (hi (a * b)), .int .u64 (lo (a * b))]) ∧ Ext w w' := by
  have := Times_core a b _ _ rfl rfl w
  rwa [tm_hi ha hb rfl rfl, tm_lo] at this
theorem less_bool (x y : Int) : (decide (hi x < hi y) || ((hi x == hi y) && decide (lo x < lo y))) = decide (x < y) := by
  have hx := hilo x
  have hy := hilo y
  have lx := lo_u x
  have ly := lo_u y
  unfold U64 at lx ly
  rw [Bool.eq_iff_iff]
  simp only [Bool.or_eq_true, Bool.and_eq_true, decide_eq_true_eq, beq_iff_eq]
  omega
set_option maxHeartbeats 1000000 in
theorem Less_core (x y : Int) (b1 b2 b3 : Bool) (d1 : decide (hi x < hi y) = b1) (d2 : (hi x == hi y) = b2) (d3 : decide (lo x < lo y) = b3) (w : World) :
    Calls Tryz.prog 171 #[.agg #[.int .i64 (hi x), .int .u64 (lo x)], .agg #[.int .i64 (hi y), .int .u64 (lo y)]] w fun e w' => e = .returned (.bool (b1 || (b2 && b3))) ∧ Ext w w' := by
  cases b1 <;> cases b2 <;> cases b3
  all_goals
    go_enter Tryz.func171, Tryz.ntmps171
    go_wp2
    go_ret
    exact ⟨rfl, by (repeat' (first | exact Ext.refl _ | assumption | apply Ext.allocR | apply Ext.drewR | apply Ext.drewNR | (refine Ext.trans' ?_ (by assumption))))⟩
theorem Less_c (x y : Int) (w : World) :
    Calls Tryz.prog 171 #[.agg #[.int .i64 (hi x), .int .u64 (lo x)], .agg #[.int .i64 (hi y), .int .u64 (lo y)]] w fun e w' => e = .returned (.bool (decide (x < y))) ∧ Ext w w' := by
  have := Less_core x y _ _ _ rfl rfl rfl w
  rwa [less_bool] at this
end Go.Proofs.YtfhdjekpdifajaaGreat
