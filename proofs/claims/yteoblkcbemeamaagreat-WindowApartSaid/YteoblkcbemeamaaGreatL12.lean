/- Part. No condition. -/
import Derived.Test.YteoblkcbemeamaaGreatL8
import Derived.Test.YteoblkcbemeamaaGreatL9
import Derived.Test.YteoblkcbemeamaaGreatL3
import Derived.Test.YteoblkcbemeamaaGreatL10

/- gaugerlaw15.fed makes a stack and feeds it: it never refuses. -/
namespace Go.Proofs.YteoblkcbemeamaaGreat
set_option linter.unusedVariables false
open Go.RowKit

/-- The config that a play of a stack stands for. -/
def kcfg (x : Cfg) (nb m : Int) : Cfg := if 0 < m then { mkC x nb 9 with mode := m } else mkC x nb 9
theorem kcfg_ok (x : Cfg) (hs : U64 x.seed) {nb m : Int} (h1 : 1 ≤ nb) (h2 : nb ≤ 20) (h3 : m ≤ 3) : (kcfg x nb m).Ok := by
  have h := mkC_ok x hs (nb := nb) (nw := 9) h1 h2 (by decide) (by decide)
  unfold kcfg
  split
  · exact ⟨h.b1, h.b2, h.r1, h.r2, h.w1, h.w2, by show 1 ≤ m; omega, h3, h.s⟩
  · exact h
theorem kcfg_bits (x : Cfg) (nb m : Int) : (kcfg x nb m).bits = 1 + x.bits % 65536 % nb := by unfold kcfg; split <;> rfl
theorem kcfg_pos (x : Cfg) (nb : Int) {m : Int} (h : 0 < m) : (mkC x nb 9).bits = (kcfg x nb m).bits ∧ (mkC x nb 9).rows = (kcfg x nb m).rows ∧ (mkC x nb 9).width = (kcfg x nb m).width ∧ (mkC x nb 9).seed = (kcfg x nb m).seed ∧ m = (kcfg x nb m).mode := by
  unfold kcfg; rw [if_pos h]; exact ⟨rfl, rfl, rfl, rfl, rfl⟩
theorem kcfg_none (x : Cfg) (nb : Int) {m : Int} (h : ¬ 0 < m) : mkC x nb 9 = kcfg x nb m := by
  unfold kcfg; rw [if_neg h]
def KFedPost (w : World) (C : Cfg) (us : List (Int × Int)) (i j : Nat) (e : Ending) (w' : World) : Prop :=
  ∃ (s g : Nat) (L : Nat → Lev), e = .returned (.tuple #[.pointer (some ⟨s, 0, none⟩), .agg #[.int .i64 C.bits, .int .i64 C.rows, .int .i64 C.width, .int .i64 C.mode, .int .u64 C.seed]]) ∧
    KAt w' s g C C.bits.toNat L (feedK C (fus us i j)) ∧ w.heap.size ≤ s ∧ w.heap.size ≤ g ∧ KFresh w.heap.size C.bits.toNat L ∧ Ext w w'
end Go.Proofs.YteoblkcbemeamaaGreat

/- gaugerlaw24.right. -/
namespace Go.Proofs.YteoblkcbemeamaaGreat
set_option linter.unusedVariables false
open Go.RowKit
set_option maxRecDepth 20000 in
set_option maxHeartbeats 4000000 in
theorem right24_c (x : Cfg) (hx : x.Raw) (b : Int) (w : World) :
    Calls Tryz.prog 62 #[.agg #[.int .i64 x.bits, .int .i64 x.rows, .int .i64 x.width, .int .i64 x.mode, .int .u64 x.seed], .int .i64 b] w fun e w' =>
      e = .returned (.tuple #[.agg #[.int .i64 (kcfg x 6 1).bits, .int .i64 (kcfg x 6 1).rows, .int .i64 (kcfg x 6 1).width, .int .i64 (kcfg x 6 1).mode, .int .u64 (kcfg x 6 1).seed], .int .i64 (1 + b % 65536 % 16)]) ∧ Ext w w' := by
  have hp := kcfg_pos x 6 (m := 1) (by decide)
  have hla := and16 b
  have h0 := Int.emod_nonneg b (show (65536 : Int) ≠ 0 by decide)
  obtain ⟨C, hCd⟩ : ∃ C, kcfg x 6 1 = C := ⟨_, rfl⟩
  rw [hCd] at hp ⊢
  clear hCd
  go_enter Tryz.func62, Tryz.ntmps62
  go_wp2_with fail
  refine (Any_c x hx 6 9 (by decide) (by decide) (by decide) (by decide) _).mono ?_
  rintro e w1 ⟨rfl, hb1⟩
  have kr : w1.heap[w.heap.size + 1]? = some (.cells #[.int .i64 0, .int .i64 0, .int .i64 0, .int .i64 0, .int .u64 0] 24 (0, 0)) := by
    rw [hb1.block _ (by simp only [size_alloc]; omega)]
    exact heap_at _ _ (by simp only [size_alloc])
  have hE1 : Ext w w1 := by (repeat' (first | exact Ext.refl _ | assumption | apply Ext.allocR | apply Ext.drewR | apply Ext.drewNR | (refine Ext.trans' ?_ (by assumption))))
  clear hb1
  generalize mkC x 6 9 = A at *
  have HP := Lib.hid hp
  clear hp
  go_upto_region 3 with (fail)
  have hE2 : Ext w (w1.alloc (.cells #[.int .i64 A.bits, .int .i64 A.rows, .int .i64 A.width, .int .i64 1, .int .u64 A.seed] 24)) := hE1.allocR _
  have kr2 : (w1.alloc (.cells #[.int .i64 A.bits, .int .i64 A.rows, .int .i64 A.width, .int .i64 1, .int .u64 A.seed] 24)).heap[w.heap.size + 1]? = some (.cells #[.int .i64 0, .int .i64 0, .int .i64 0, .int .i64 0, .int .u64 0] 24 (0, 0)) := (Ext.alloc' _ _).keep kr
  have kc := heap_at w1 (.cells #[.int .i64 A.bits, .int .i64 A.rows, .int .i64 A.width, .int .i64 1, .int .u64 A.seed] 24) rfl
  generalize w1.alloc (.cells #[.int .i64 A.bits, .int .i64 A.rows, .int .i64 A.width, .int .i64 1, .int .u64 A.seed] 24) = w2 at *
  have q0 := (cell_of kr2 0).trans rfl
  have q1 := (cell_of kr2 1).trans rfl
  have q2 := (cell_of kr2 2).trans rfl
  have q3 := (cell_of kr2 3).trans rfl
  have q4 := (cell_of kr2 4).trans rfl
  have f0 := frozen_of kr2 0
  have f1 := frozen_of kr2 1
  have f2 := frozen_of kr2 2
  have f3 := frozen_of kr2 3
  have f4 := frozen_of kr2 4
  have c0 := (cell_of kc 0).trans rfl
  have c1 := (cell_of kc 1).trans rfl
  have c2 := (cell_of kc 2).trans rfl
  have c3 := (cell_of kc 3).trans rfl
  have c4 := (cell_of kc 4).trans rfl
  have cl := lt_of kc
  have ql := lt_of kr2
  have HKR := Lib.hid kr2
  clear kr kc kr2
  go_wp2_with fail
  refine fin5 (Φ := fun W' => bodyPost _ _ _ _ _ W') (w := w) (W := w2) HKR.out hE2 (Nat.le_succ _) ?_
  intro Wf hf hE5 hof _
  have r0 := (cell_of hf 0).trans rfl
  have r1 := (cell_of hf 1).trans rfl
  have r2 := (cell_of hf 2).trans rfl
  have r3 := (cell_of hf 3).trans rfl
  have r4 := (cell_of hf 4).trans rfl
  obtain ⟨e0, e1, e2, e3, e4⟩ := HP.out
  exact bodyPost_ret (v := .tuple #[.agg #[.int .i64 A.bits, .int .i64 A.rows, .int .i64 A.width, .int .i64 1, .int .u64 A.seed], .int .i64 (1 + b % 65536 % 16)]) (by simp [results, Tryz.results62, go_sem, r0, r1, r2, r3, r4]) rfl ⟨by rw [← e0, ← e1, ← e2, ← e3, ← e4], hE5⟩
end Go.Proofs.YteoblkcbemeamaaGreat

/- A slice of operations (a kind, a key, a number) that can be read. -/
namespace Go.Proofs.YteoblkcbemeamaaGreat
set_option linter.unusedVariables false
open Go.RowKit
abbrev Opn := Int × Int × Int
def OpsAt (w : World) (v : Value) (os : List Opn) : Prop :=
  ((∃ p, v = .slice p 0 0) ∧ os = []) ∨ ∃ g off cap, v = .slice (some ⟨g, off, none⟩) os.length cap ∧ g < w.heap.size ∧
    ∀ k, k < os.length → w.cell? ⟨g, off + k * 3, none⟩ = some (.int .i64 (os.getD k (0, 0, 0)).1) ∧ w.cell? ⟨g, off + k * 3 + 1, none⟩ = some (.int .u64 (os.getD k (0, 0, 0)).2.1) ∧ w.cell? ⟨g, off + k * 3 + 2, none⟩ = some (.int .i64 (os.getD k (0, 0, 0)).2.2)
def OpsOk (os : List Opn) : Prop := ∀ u ∈ os, I64 u.1 ∧ U64 u.2.1 ∧ I64 u.2.2
theorem OpsAt.ext {w w' : World} {v : Value} {os : List Opn} (h : OpsAt w v os) (he : Ext w w') : OpsAt w' v os := by
  rcases h with h | ⟨g, off, cap, h1, h2, h3⟩
  · exact .inl h
  · exact .inr ⟨g, off, cap, h1, Nat.lt_of_lt_of_le h2 he.size, fun k hk => ⟨((bcell he).1 _ _ h2).trans (h3 k hk).1, ((bcell he).1 _ _ h2).trans (h3 k hk).2.1, ((bcell he).1 _ _ h2).trans (h3 k hk).2.2⟩⟩
theorem OpsAt.sl {w : World} {v : Value} {os : List Opn} (h : OpsAt w v os) : ∃ p c, v = .slice p os.length c := by
  rcases h with ⟨⟨p, rfl⟩, rfl⟩ | ⟨g, off, cap, rfl, _⟩
  · exact ⟨p, 0, rfl⟩
  · exact ⟨_, cap, rfl⟩
theorem OpsAt.one {w : World} {p : Option Addr} {n c : Nat} {os : List Opn} (h : OpsAt w (.slice p n c) os) {k : Nat} (hk : k < os.length) :
    ∃ g off, p = some ⟨g, off, none⟩ ∧ g < w.heap.size ∧ w.cell? ⟨g, off + k * 3, none⟩ = some (.int .i64 os[k].1) ∧ w.cell? ⟨g, off + k * 3 + 1, none⟩ = some (.int .u64 os[k].2.1) ∧ w.cell? ⟨g, off + k * 3 + 2, none⟩ = some (.int .i64 os[k].2.2) := by
  rcases h with ⟨_, rfl⟩ | ⟨g, off, cap, h1, h2, h3⟩
  · exact absurd hk (Nat.not_lt_zero _)
  · have e := Value.slice.inj h1
    have hg : os.getD k (0, 0, 0) = os[k] := by simp [hk]
    have := h3 k hk
    rw [hg] at this
    exact ⟨g, off, e.1, h2, this⟩
end Go.Proofs.YteoblkcbemeamaaGreat

/- Plain laws of a window's operations: which updates are left behind them. -/
namespace Go.Proofs.YteoblkcbemeamaaGreat
set_option linter.unusedVariables false
open Go.RowKit
abbrev Upd := Int × Int
/-- Is an operation a tick? -/
def isT (o : Opn) : Bool := o.1 % 2 == 1
def stepW (US : List (List Upd)) (o : Opn) : List (List Upd) := bif isT o then US.tail ++ [[]] else US.dropLast ++ [US.getLastD [] ++ [o.2]]
theorem stepW_t {o : Opn} (h : isT o = true) (a : List Upd) (vs : List (List Upd)) : stepW (a :: vs) o = vs ++ [[]] := by unfold stepW; rw [h]; rfl
theorem stepW_u {o : Opn} (h : isT o = false) (a : List Upd) (vs : List (List Upd)) : stepW (vs ++ [a]) o = vs ++ [a ++ [o.2]] := by
  unfold stepW; rw [h]; simp
def winO (n : Nat) (os : List Opn) : List (List Upd) := os.foldl stepW (List.replicate n [])
theorem winO_nil (n : Nat) : winO n [] = List.replicate n [] := rfl
theorem winO_snoc (n : Nat) (os : List Opn) (o : Opn) : winO n (os ++ [o]) = stepW (winO n os) o := by unfold winO; rw [List.foldl_append]; rfl
theorem fl_none (vs : List (List Upd)) : (vs ++ [[]]).flatten = vs.flatten := by simp
theorem two_ends {US : List (List Upd)} {n : Nat} (h : US.length = n) (hn : 1 ≤ n) : (∃ a vs, US = a :: vs) ∧ ∃ vs a, US = vs ++ [a] := by
  refine ⟨?_, ?_⟩
  · cases US with
    | nil => simp at h; omega
    | cons a vs => exact ⟨a, vs, rfl⟩
  · have hne : US ≠ [] := by rintro rfl; simp at h; omega
    exact ⟨_, _, (List.dropLast_concat_getLast hne).symm⟩
theorem stepW_len {US : List (List Upd)} {n : Nat} (h : US.length = n) (hn : 1 ≤ n) (o : Opn) : (stepW US o).length = n := by
  obtain ⟨⟨a, vs, e1⟩, ⟨vs', a', e2⟩⟩ := two_ends h hn
  cases ho : isT o with
  | true => rw [e1, stepW_t ho]; rw [e1] at h; simp at h ⊢; omega
  | false => rw [e2, stepW_u ho]; rw [e2] at h; simp at h ⊢; omega
theorem stepW_mem {US : List (List Upd)} {n : Nat} (h : US.length = n) (hn : 1 ≤ n) (o : Opn) : ∀ u ∈ (stepW US o).flatten, u ∈ US.flatten ∨ u = o.2 := by
  obtain ⟨⟨a, vs, e1⟩, ⟨vs', a', e2⟩⟩ := two_ends h hn
  intro u hu
  cases ho : isT o with
  | true => rw [e1, stepW_t ho, fl_none] at hu; rw [e1, List.flatten_cons]; exact .inl (List.mem_append_right _ hu)
  | false =>
    rw [e2, stepW_u ho] at hu
    rw [e2]
    simp at hu ⊢
    rcases hu with h1 | h1 | h1
    · exact .inl (.inl h1)
    · exact .inl (.inr h1)
    · exact .inr h1
theorem stepW_flen {US : List (List Upd)} {n : Nat} (h : US.length = n) (hn : 1 ≤ n) (o : Opn) : (stepW US o).flatten.length ≤ US.flatten.length + 1 := by
  obtain ⟨⟨a, vs, e1⟩, ⟨vs', a', e2⟩⟩ := two_ends h hn
  cases ho : isT o with
  | true =>
    rw [e1, stepW_t ho, fl_none, List.flatten_cons, List.length_append]; omega
  | false =>
    rw [e2, stepW_u ho]
    simp only [List.flatten_append, List.flatten_cons, List.flatten_nil, List.append_nil, List.length_append, List.length_singleton]; omega
structure WinO (n : Nat) (os : List Opn) : Prop where
  len : (winO n os).length = n
  mem : ∀ u ∈ (winO n os).flatten, u ∈ os.map (·.2)
  fl : (winO n os).flatten.length ≤ os.length
theorem winO_ok {n : Nat} (hn : 1 ≤ n) (os : List Opn) : WinO n os := by
  have key : ∀ (os : List Opn) (pre : List Opn), WinO n pre → WinO n (pre ++ os) := by
    intro os
    induction os with
    | nil => intro pre h; rw [List.append_nil]; exact h
    | cons o os ih =>
      intro pre h
      have e : pre ++ o :: os = (pre ++ [o]) ++ os := by simp
      rw [e]
      refine ih _ ⟨?_, ?_, ?_⟩
      · rw [winO_snoc]; exact stepW_len h.len hn o
      · intro u hu
        rw [winO_snoc] at hu
        rcases stepW_mem h.len hn o u hu with h1 | rfl
        · have := h.mem u h1; simp at this ⊢; exact .inl this
        · simp
      · rw [winO_snoc]
        have h1 := stepW_flen h.len hn o
        have h2 := h.fl
        rw [List.length_append, List.length_singleton]; omega
  have := key os [] ⟨by rw [winO_nil]; simp, by rw [winO_nil]; intro u hu; simp at hu, by rw [winO_nil]; simp⟩
  simpa using this
def ticksO (os : List Opn) : Nat := (os.filter isT).length
theorem ticksO_t {o : Opn} (h : isT o = true) (os : List Opn) : ticksO (o :: os) = ticksO os + 1 := by unfold ticksO; rw [List.filter_cons_of_pos h]; rfl
theorem ticksO_u {o : Opn} (h : isT o = false) (os : List Opn) : ticksO (o :: os) = ticksO os := by unfold ticksO; rw [List.filter_cons_of_neg (by rw [h]; decide)]
theorem ticksO_snoc (os : List Opn) (o : Opn) : ticksO (os ++ [o]) = ticksO os + (if isT o = true then 1 else 0) := by
  unfold ticksO
  rw [List.filter_append, List.length_append]
  cases h : isT o <;> simp [h]
theorem ticksO_le (os : List Opn) : ticksO os ≤ os.length := List.length_filter_le _ _
/-- What is left of operations: updates behind which came fewer than n ticks. -/
def keepO (n : Nat) : List Opn → List Upd
  | [] => []
  | o :: os => bif isT o then keepO n os else bif decide (ticksO os < n) then o.2 :: keepO n os else keepO n os
theorem keepO_t {n : Nat} {o : Opn} (h : isT o = true) (os : List Opn) : keepO n (o :: os) = keepO n os := by
  conv => lhs; unfold keepO
  rw [h]; rfl
theorem keepO_y {n : Nat} {o : Opn} (h : isT o = false) {os : List Opn} (ht : ticksO os < n) : keepO n (o :: os) = o.2 :: keepO n os := by
  conv => lhs; unfold keepO
  rw [h, decide_eq_true ht]; rfl
theorem keepO_n {n : Nat} {o : Opn} (h : isT o = false) {os : List Opn} (ht : ¬ ticksO os < n) : keepO n (o :: os) = keepO n os := by
  conv => lhs; unfold keepO
  rw [h, decide_eq_false ht]; rfl
theorem keepO_len (n : Nat) (os : List Opn) : (keepO n os).length ≤ os.length := by
  induction os with
  | nil => exact Nat.le_refl _
  | cons o os ih =>
    cases h : isT o with
    | true => rw [keepO_t h, List.length_cons]; omega
    | false =>
      by_cases ht : ticksO os < n
      · rw [keepO_y h ht, List.length_cons, List.length_cons]; omega
      · rw [keepO_n h ht, List.length_cons]; omega
theorem drop_snoc_fl (vs : List (List Upd)) (a : List Upd) (t : Nat) : ((vs ++ [a]).drop t).flatten = (vs.drop t).flatten ++ (if t ≤ vs.length then a else []) := by
  by_cases h : t ≤ vs.length
  · rw [List.drop_append_of_le_length h, if_pos h]; simp
  · rw [if_neg h, List.drop_eq_nil_of_le (by simp; omega), List.drop_eq_nil_of_le (by omega)]; rfl
theorem win_keep {n : Nat} (hn : 1 ≤ n) : ∀ (os : List Opn) (US : List (List Upd)), US.length = n → (os.foldl stepW US).flatten = (US.drop (ticksO os)).flatten ++ keepO n os := by
  intro os
  induction os with
  | nil => intro US _; simp [ticksO, keepO]
  | cons o os ih =>
    intro US hl
    rw [List.foldl_cons, ih _ (stepW_len hl hn o)]
    obtain ⟨⟨a, vs, e1⟩, ⟨vs', a', e2⟩⟩ := two_ends hl hn
    cases h : isT o with
    | true =>
      rw [e1, stepW_t h, ticksO_t h, keepO_t h, List.drop_succ_cons, drop_snoc_fl]
      simp
    | false =>
      have hv : vs'.length + 1 = n := by rw [e2] at hl; simp at hl; exact hl
      rw [e2, stepW_u h, ticksO_u h, drop_snoc_fl, drop_snoc_fl]
      by_cases ht : ticksO os < n
      · rw [keepO_y h ht, if_pos (by omega), if_pos (by omega)]; simp
      · rw [keepO_n h ht, if_neg (by omega), if_neg (by omega)]
theorem winO_keep {n : Nat} (hn : 1 ≤ n) (os : List Opn) : (winO n os).flatten = keepO n os := by
  unfold winO
  rw [win_keep hn os _ (by simp)]
  simp
/-- Behind k ticks more. -/
def gone (US : List (List Upd)) (k : Nat) : List (List Upd) := US.drop k ++ List.replicate k []
theorem gone_zero (US : List (List Upd)) : gone US 0 = US := by simp [gone]
theorem gone_tick {US : List (List Upd)} {k : Nat} (h : k < US.length) : ∃ a vs, gone US k = a :: vs ∧ gone US (k + 1) = vs ++ [[]] ∧ (∀ u, u ∈ a ∨ u ∈ vs.flatten → u ∈ US.flatten) ∧ vs.flatten.length ≤ US.flatten.length := by
  refine ⟨US[k], US.drop (k + 1) ++ List.replicate k [], ?_, ?_, ?_, ?_⟩
  · unfold gone; rw [List.drop_eq_getElem_cons h]; rfl
  · unfold gone; rw [List.append_assoc, ← List.replicate_succ']
  · intro u hu
    rcases hu with hu | hu
    · exact List.mem_flatten.2 ⟨_, List.getElem_mem h, hu⟩
    · rw [List.flatten_append] at hu
      simp at hu
      obtain ⟨l, hl, h2⟩ := hu
      exact List.mem_flatten.2 ⟨l, List.mem_of_mem_drop hl, h2⟩
  · have e : US.flatten = (US.take (k + 1)).flatten ++ (US.drop (k + 1)).flatten := by rw [← List.flatten_append, List.take_append_drop]
    have e2 : (US.drop (k + 1) ++ List.replicate k ([] : List Upd)).flatten = (US.drop (k + 1)).flatten := by rw [List.flatten_append]; simp
    rw [e2, e, List.length_append]; omega
theorem gone_all {US : List (List Upd)} {n : Nat} (h : US.length = n) : (gone US n).flatten = [] := by
  unfold gone; rw [List.drop_eq_nil_of_le (by omega)]; simp
theorem feedK_zero (C : Cfg) {us : List Upd} (h : us = []) (k : Nat) : feedK C us k = zs (lvN C k) := by rw [h]; exact feedK_nil C k
end Go.Proofs.YteoblkcbemeamaaGreat

/- A window behind operations. -/
namespace Go.Proofs.YteoblkcbemeamaaGreat
set_option linter.unusedVariables false
open Go.RowKit
structure WinU (n : Nat) (US : List (List Upd)) : Prop where
  len : US.length = n
  ok : UpsOk US.flatten
  fl : US.flatten.length ≤ 1000
theorem winO_U {n : Nat} (hn : 1 ≤ n) {os : List Opn} (hos : OpsOk os) {k : Nat} (hk : k ≤ 60) : WinU n (winO n (os.take k)) := by
  obtain ⟨h1, h2, h3⟩ := winO_ok hn (os.take k)
  refine ⟨h1, fun u hu => ?_, ?_⟩
  · have := h2 u hu
    rw [List.mem_map] at this
    obtain ⟨o, ho, rfl⟩ := this
    exact (hos o (List.mem_of_mem_take ho)).2
  · rw [List.length_take] at h3; omega
theorem winO_take {n : Nat} {os : List Opn} {k : Nat} (hk : k < os.length) : winO n (os.take (k + 1)) = stepW (winO n (os.take k)) os[k] := by
  rw [List.take_succ_eq_append_getElem hk, winO_snoc]
theorem WS_opU {w : World} {N p : Nat} {C : Cfg} {B n : Nat} {os : List Opn} {k : Nat} (hk : k < os.length) (h60 : k ≤ 60) (hn : 1 ≤ n) (hos : OpsOk os) (hok : C.Ok) (hB : C.bits = B) (ht : isT os[k] = false) (h : WS w N p C B n (winO n (os.take k))) :
    Calls Tryz.prog 65 #[.pointer (some ⟨p, 0, none⟩), .int .u64 (cutK C 0 os[k].2.1), .int .i64 (cutD C.mode os[k].2.2)] w fun e w' => e = .returned (.int .i64 0) ∧ Below N w w' ∧ WS w' N p C B n (winO n (os.take (k + 1))) := by
  have hU := winO_U hn hos h60
  obtain ⟨_, vs, a, e⟩ := two_ends hU.len hn
  rw [winO_take hk, e, stepW_u ht]
  have hfl := hU.fl
  rw [e] at h hfl
  have h1 := cutK_bd C hok 0 os[k].2.1 (Int.le_refl 0)
  have h2 := keys_bd C hok 0 (Int.le_refl 0)
  have h3 := cutD_bd C.mode os[k].2.2
  exact WS_upd h hok hB hfl os[k].2 (by unfold U64; omega) (by unfold I64; omega)
theorem upsOk_cons {a : List Upd} {vs : List (List Upd)} (h : UpsOk (a :: vs).flatten) : UpsOk a ∧ UpsOk vs.flatten := by
  rw [List.flatten_cons] at h
  exact ⟨fun u hu => h u (List.mem_append_left _ hu), fun u hu => h u (List.mem_append_right _ hu)⟩
theorem fl_cons {a : List Upd} {vs : List (List Upd)} {m : Nat} (h : (a :: vs).flatten.length ≤ m) : vs.flatten.length ≤ m := by
  rw [List.flatten_cons, List.length_append] at h; omega
theorem WS_opT {w : World} {N p : Nat} {C : Cfg} {B n : Nat} {os : List Opn} {k : Nat} (hk : k < os.length) (h60 : k ≤ 60) (hn : 1 ≤ n) (hos : OpsOk os) (hok : C.Ok) (hB : C.bits = B) (ht : isT os[k] = true) (h : WS w N p C B n (winO n (os.take k))) :
    Calls Tryz.prog 64 #[.pointer (some ⟨p, 0, none⟩)] w fun e w' => e = .returned (.int .i64 0) ∧ Below N w w' ∧ WS w' N p C B n (winO n (os.take (k + 1))) := by
  have hU := winO_U hn hos h60
  obtain ⟨⟨a, vs, e⟩, _⟩ := two_ends hU.len hn
  rw [winO_take hk, e, stepW_t ht]
  have hfl := hU.fl
  have hup := hU.ok
  rw [e] at h hfl hup
  exact WS_tick h hok hB (upsOk_cons hup).1 (upsOk_cons hup).2 (fl_cons hfl)
theorem WS_gone {w : World} {N p : Nat} {C : Cfg} {B n : Nat} {US : List (List Upd)} (hU : WinU n US) {j : Nat} (hj : j < n) (hok : C.Ok) (hB : C.bits = B) (h : WS w N p C B n (gone US j)) :
    Calls Tryz.prog 64 #[.pointer (some ⟨p, 0, none⟩)] w fun e w' => e = .returned (.int .i64 0) ∧ Below N w w' ∧ WS w' N p C B n (gone US (j + 1)) := by
  obtain ⟨a, vs, e1, e2, hm, hl⟩ := gone_tick (US := US) (k := j) (by rw [hU.len]; exact hj)
  rw [e1] at h
  rw [e2]
  exact WS_tick h hok hB (fun u hu => hU.ok u (hm u (.inl hu))) (fun u hu => hU.ok u (hm u (.inr hu))) (Nat.le_trans hl hU.fl)
end Go.Proofs.YteoblkcbemeamaaGreat

/- The lowest bit; the mode of a law's config. -/
namespace Go.Proofs.YteoblkcbemeamaaGreat
set_option linter.unusedVariables false
open Go.RowKit
theorem and1i (x : Int) : bits BinOp.and IntKind.i64 x 1 = x % 2 := by
  show IntKind.i64.wrap ((BitVec.ofInt 64 x &&& BitVec.ofInt 64 1).toNat : Int) = _
  have e1 : (BitVec.ofInt 64 (1 : Int)).toNat = 2 ^ 1 - 1 := by decide
  rw [BitVec.toNat_and, e1, Nat.and_two_pow_sub_one_eq_mod, BitVec.toNat_ofInt, IntKind.wrap_i64]
  have : (x % ((2 ^ 64 : Nat) : Int)).toNat % 2 ^ 1 < 2 := Nat.mod_lt _ (by decide)
  omega
theorem kcfg_mode (x : Cfg) (nb : Int) {m : Int} (h : 0 < m) : (kcfg x nb m).mode = m := (kcfg_pos x nb h).2.2.2.2.symm
end Go.Proofs.YteoblkcbemeamaaGreat

/- gaugerlaw24.WindowEmpty, walked. -/
namespace Go.Proofs.YteoblkcbemeamaaGreat
set_option linter.unusedVariables false
open Go.RowKit
theorem lvN_bd {C : Cfg} (hok : C.Ok) (k : Nat) : 1 ≤ lvN C k ∧ lvN C k ≤ 1000000 := by
  refine ⟨lvN_pos hok (Int.natCast_nonneg k), ?_⟩
  have h2 := hok.w2
  have h3 := hok.r2
  have h4 := hok.w1
  have h5 := hok.r1
  unfold lvN
  cases hx : isX C k with
  | true =>
    show kN C k ≤ _
    have := kN_eq hok (Int.natCast_nonneg k)
    unfold isX at hx
    have := of_decide_eq_true hx
    omega
  | false =>
    show rN C * wN C ≤ _
    have e1 := rN_eq hok
    have e2 := wN_eq hok
    have : rN C * wN C ≤ 8 * 128 := Nat.mul_le_mul (by omega) (by omega)
    omega
theorem zs_at {w : World} {v : Value} {n : Nat} (h : IntsAt w v (zs n)) {i : Nat} (hi : i < n) : ∃ g off cap, v = .slice (some ⟨g, off, none⟩) n cap ∧ g < w.heap.size ∧ w.cell? ⟨g, off + i, none⟩ = some (.int .i64 0) := by
  rcases h with ⟨_, h0⟩ | ⟨g, off, cap, h1, h2, h3⟩
  · have : (zs n).length = 0 := by rw [h0]; rfl
    rw [zs_len] at this; omega
  · rw [zs_len] at h1 h3
    have := h3 i hi
    rw [zs_get0] at this
    exact ⟨g, off, cap, h1, h2, this⟩
set_option maxRecDepth 20000 in
set_option maxHeartbeats 8000000 in
theorem WEmptyL_c (x : Cfg) (hx : x.Raw) (b : Int) (hb : I64 b) (os : List Opn) (hos : OpsOk os) (v : Value) (w : World) (hv : OpsAt w v os) (hul : os.length ≤ 140737488355328) :
    Calls Tryz.prog 10 #[.agg #[.int .i64 x.bits, .int .i64 x.rows, .int .i64 x.width, .int .i64 x.mode, .int .u64 x.seed], .int .i64 b, v] w fun e w' => e = .returned (.bool true) ∧ Ext w w' := by
  obtain ⟨vp, vc, rfl⟩ := hv.sl
  have HV := Lib.hid hv
  have n0 : 0 ≤ b % 65536 % 16 := Int.emod_nonneg _ (by decide)
  have n1 := Int.emod_lt_of_pos (b % 65536) (show (0 : Int) < 16 by decide)
  obtain ⟨n, hn⟩ : ∃ n : Nat, 1 + b % 65536 % 16 = n := ⟨(1 + b % 65536 % 16).toNat, by omega⟩
  have h1 : 1 ≤ n := by omega
  have h2 : n ≤ 16 := by omega
  have hR := fun W => right24_c x hx b W
  simp only [hn] at hR
  have hok := kcfg_ok x hx.s (nb := 6) (m := 1) (by decide) (by decide) (by decide)
  have hmd := kcfg_mode x 6 (m := 1) (by decide)
  generalize kcfg x 6 1 = C at *
  obtain ⟨B, hB⟩ : ∃ B : Nat, C.bits = B := ⟨C.bits.toNat, by have := hok.b1; omega⟩
  have hBd : B ≤ 59 := by have := hok.b2; omega
  have HR := Lib.hid hR
  have HM := Lib.hid hmd
  have HB := Lib.hid hB
  clear hv hR n0 n1 hn hmd hB
  go_enter Tryz.func10, Tryz.ntmps10
  go_wp2_with fail
  refine (shown24_c _).mono ?_
  rintro e w1 ⟨rfl, hb1⟩
  have hE1 : Ext w w1 := by (repeat' (first | exact Ext.refl _ | assumption | apply Ext.allocR | apply Ext.drewR | apply Ext.drewNR | (refine Ext.trans' ?_ (by assumption))))
  have hC := (CfgAt.box (w := w) x 24 rfl).ext hb1
  have c0 := hC.c0
  have c1 := hC.c1
  have c2 := hC.c2
  have c3 := hC.c3
  have c4 := hC.c4
  have cl := hC.lt
  clear hC hb1
  go_wp2_with fail
  refine (HR.out _).mono ?_
  rintro e w2 ⟨rfl, hx2⟩
  have hE2 : Ext w w2 := by (repeat' (first | exact Ext.refl _ | assumption | apply Ext.allocR | apply Ext.drewR | apply Ext.drewNR | (refine Ext.trans' ?_ (by assumption))))
  clear c0 c1 c2 c3 c4 cl hx2 hE1 HR
  go_upto_region 3 with (fail)
  obtain ⟨w3, hw3⟩ : ∃ w3, w2.alloc (.cells #[.int .i64 C.bits, .int .i64 C.rows, .int .i64 C.width, .int .i64 C.mode, .int .u64 C.seed] 24) = w3 := ⟨_, rfl⟩
  have hQ : w3.heap[w2.heap.size]? = some (.cells #[.int .i64 C.bits, .int .i64 C.rows, .int .i64 C.width, .int .i64 C.mode, .int .u64 C.seed] 24 (0, 0)) := by rw [← hw3]; exact heap_at _ _ rfl
  have hE3 : Ext w w3 := by rw [← hw3]; exact hE2.allocR _
  rw [hw3]
  clear hw3 hE2
  have hC3 := CfgAt.of hQ
  have c0 := hC3.c0
  have c1 := hC3.c1
  have c2 := hC3.c2
  have c3 := hC3.c3
  have c4 := hC3.c4
  have cl := hC3.lt
  have hnw := fun W => WS_new C hok HM.out B HB.out n h1 h2 W
  have HNW := Lib.hid hnw
  clear hC3 hnw
  go_wp2_with fail
  refine (HNW.out _).mono ?_
  rintro e w4 ⟨p, rfl, hS, hx4⟩
  have HQ := Lib.hid hQ
  have HS0 : Hid (WS w4 w3.heap.size p C B n (winO n (os.take 0))) := Lib.hid hS
  have HE3 := Lib.hid hE3
  clear c0 c1 c2 c3 c4 cl hQ hS HNW hE3
  go_wp2
  go_loopw [12] (fun u12 wr => ∃ k : Nat, k ≤ 40 ∧ k ≤ os.length ∧ u12 = .int .i64 k ∧ Ext w3 wr ∧ WS wr w3.heap.size p C B n (winO n (os.take k))) (fun u12 _ => 40 - (intOf u12).toNat)
  case atStart => exact ⟨0, Nat.zero_le _, Nat.zero_le _, rfl, hx4, HS0.out⟩
  case round =>
    obtain ⟨k, hk40, hkl, rfl, hE, hS⟩ := hrel
    have HS := Lib.hid hS
    clear hS HS0 hx4
    have hEw := HE3.out.trans' hE
    by_cases hgo : k < os.length ∧ k < 40
    · obtain ⟨hg1, hg2⟩ := hgo
      obtain ⟨ug, off, rfl, hul0, d0', d1', d2'⟩ := HV.out.one hg1
      have d0 := ((bcell hEw).1 _ _ hul0).trans d0'
      have d1 := ((bcell hEw).1 _ _ hul0).trans d1'
      have d2 := ((bcell hEw).1 _ _ hul0).trans d2'
      have hgl2 : ug < wr.heap.size := Nat.lt_of_lt_of_le hul0 hEw.size
      have hCq := CfgAt.of (hE.keep HQ.out)
      have c0 := hCq.c0
      have c1 := hCq.c1
      have c2 := hCq.c2
      have c3 := hCq.c3
      have c4 := hCq.c4
      have cl := hCq.lt
      have hu := hos _ (List.getElem_mem hg1)
      have hT := fun W (ht : isT os[k] = true) (hW : WS W w3.heap.size p C B n (winO n (os.take k))) => WS_opT hg1 (by omega) h1 hos hok HB.out ht hW
      have hU := fun W (ht : isT os[k] = false) (hW : WS W w3.heap.size p C B n (winO n (os.take k))) => WS_opU hg1 (by omega) h1 hos hok HB.out ht hW
      generalize os[k] = oo at *
      obtain ⟨kk, uk, ud⟩ := oo
      replace hu := hu.2
      have ha1 := and1i kk
      have HT := Lib.hid hT
      have HU := Lib.hid hU
      have hkU : U64 (cutK C 0 uk) := by have := cutK_bd C hok 0 uk (Int.le_refl 0); have := keys_bd C hok 0 (Int.le_refl 0); unfold U64; omega
      clear hT hU hCq d0' d1' d2'
      go_upto_region 9 with (fail)
      go_cut [13] (fun s13 wx => ∃ bu : Nat, s13 = .pointer (some ⟨bu, 0, none⟩) ∧ wx.heap[bu]? = some (.cells #[.int .u64 (cutK C 0 uk), .int .i64 (cutD C.mode ud)] 60 (0, 0)) ∧ Ext wr wx ∧ wr.heap.size ≤ bu)
      case first =>
        have hC0 := af_drew wr
        refine pi_start (fun w' => ∃ x : After wr, w' = x.w) [] (by kernel_rfl) ?_
        refine pi_t 1 rfl (by kernel_rfl) (by kernel_rfl) (fun _ _ _ _ h => h) (fun K hK => ?_)
        go_big_quiet_op
        refine hK _ ?_
        clear hK K
        refine pi_t 2 rfl (by kernel_rfl) (by kernel_rfl) (fun _ _ _ _ h => h) (fun K hK => ?_)
        go_big_quiet_op
        refine hK _ ?_
        clear hK K
        refine pi_t 3 rfl (by kernel_rfl) (by kernel_rfl) (fun _ _ _ _ h => h) (fun K hK => ?_)
        go_big_quiet_op
        refine hK _ ?_
        clear hK K
        refine pi_t 4 rfl (by kernel_rfl) (by kernel_rfl) (fun _ _ _ _ h => h) (fun K hK => ?_)
        go_big_quiet_op
        refine hK _ ?_
        clear hK K
        refine pi_t 6 rfl (by kernel_rfl) (by kernel_rfl) (fun _ _ _ _ h => h) (fun K hK => ?_)
        go_big_quiet_op
        refine hK _ ?_
        clear hK K
        refine pi_t 7 rfl (by kernel_rfl) (by kernel_rfl) (fun _ _ _ _ h => h) (fun K hK => ?_)
        go_big_quiet_op
        refine hK _ ?_
        clear hK K
        refine pi_t 8 rfl (by kernel_rfl) (by kernel_rfl) (fun _ _ _ _ h => h) (fun K hK => ?_)
        go_big_quiet_op
        refine hK _ ?_
        clear hK K
        refine pi_t 9 rfl (by kernel_rfl) (by kernel_rfl) (fun _ _ _ _ h => h) (fun K hK => ?_)
        go_big_quiet_op
        refine hK _ ?_
        clear hK K
        refine pi_c 0 (by assumption) rfl (by kernel_rfl) (by kernel_rfl) (fun _ _ _ _ h => h) (fun K hK => ?_)
        go_big_quiet_op
        refine hK _ ?_
        clear hK K
        refine pi_c 5 (by assumption) rfl (by kernel_rfl) (by kernel_rfl) (fun _ _ _ _ h => h) (fun K hK => ?_)
        go_big_quiet_op
        refine hK _ ?_
        clear hK K
        refine pi_c 10 (by assumption) rfl (by kernel_rfl) (by kernel_rfl) (fun _ _ _ _ h => h) (fun K hK => ?_)
        go_big_quiet_op
        refine hK _ ?_
        clear hK K
        refine pi_t 11 rfl (by kernel_rfl) (by kernel_rfl) (fun _ _ _ _ h => h) (fun K hK => ?_)
        go_big_quiet_op
        refine hK _ ?_
        clear hK K
        refine pi_b 12 13 rfl rfl (by kernel_rfl) (fun K hK => ?_) (fun K hK => ?_)
        · go_wp2_with (go_at_call 63; refine (Cut15_c C hok uk ud hu.1 hu.2 _).mono ?_; rintro e w3 ⟨rfl, hx3⟩)
          have hx3' : Ext wr w3 := Ext.trans' (Below.drew (Ext.refl wr)) hx3
          have hs3 := hx3'.size
          refine hK _ _ (fun _ h => af_step h hx3) ?_
          clear hK K
          refine pi_l 13 rfl (by kernel_rfl) (fun K hK => ?_)
          go_wp2
          refine hK _ _ (fun _ h => af_step h (Ext.alloc' _ _)) ?_
          clear hK K
          refine pi_l 14 rfl (by kernel_rfl) (fun K hK => ?_)
          go_wp2
          refine hK _ _ (fun _ _ => ⟨⟨_, hx3'.allocR _⟩, rfl⟩) ?_
          clear hK K
          refine pi_end (by kernel_rfl) ?_
          go_wp2_with fail
          go_meet
          exact ⟨w3.heap.size, rfl, heap_at _ _ rfl, hx3'.allocR _, hs3⟩
        · go_wp2
          refine hK _ _ (fun _ h => af_step h (Ext.alloc' _ _)) ?_
          clear hK K
          refine pi_l 12 rfl (by kernel_rfl) (fun K hK => ?_)
          go_wp2_with (go_at_call 63; refine (Cut15_c C hok uk ud hu.1 hu.2 _).mono ?_; rintro e w3 ⟨rfl, hx3⟩)
          refine hK _ _ (fun _ h => af_step h hx3) ?_
          clear hK K
          have hs3 : (wr.alloc (.cells #[.int .u64 0, .int .i64 0] 60)).heap.size ≤ w3.heap.size := hx3.size
          rw [size_alloc] at hs3
          have hx3' : Ext wr w3 := Ext.trans' (Ext.alloc' wr _) (Ext.trans' (Below.drew (Ext.refl _)) hx3)
          have hbx : w3.heap[wr.heap.size]? = some (.cells #[.int .u64 0, .int .i64 0] 60 (0, 0)) := by
            rw [hx3.block _ (by show _ < (wr.alloc _).heap.size; rw [size_alloc]; exact Nat.lt_succ_self _)]
            exact heap_at wr _ rfl
          have p0 := (cell_of hbx 0).trans rfl
          have p1 := (cell_of hbx 1).trans rfl
          have f0 := frozen_of hbx 0
          have f1 := frozen_of hbx 1
          refine pi_l 14 rfl (by kernel_rfl) (fun K hK => ?_)
          go_wp2
          refine hK _ _ (fun _ _ => ⟨⟨_, (hx3'.setR (Nat.le_refl _) _).setR (Nat.le_refl _) _⟩, rfl⟩) ?_
          clear hK K
          refine pi_end (by kernel_rfl) ?_
          go_wp2_with fail
          go_meet
          exact ⟨wr.heap.size, rfl, set2 hbx _ _, (hx3'.setR (Nat.le_refl _) _).setR (Nat.le_refl _) _, Nat.le_refl _⟩
      case rest =>
        obtain ⟨bu, rfl, hbu, hxw, hbul⟩ := hcut
        have e0 := ((bcell hxw).1 ug (off + k * 3) hgl2).trans d0
        have gl := Nat.lt_of_lt_of_le hgl2 hxw.size
        have b0 := (cell_of hbu 0).trans rfl
        have b1 := (cell_of hbu 1).trans rfl
        have bl := lt_of hbu
        have HSX := Lib.hid (HS.out.ext hxw)
        clear c0 c1 c2 c3 c4 cl d0 d1 d2 hbu
        cases ht : isT (kk, uk, ud) with
        | true =>
          have ht' : (kk % 2 == 1) = true := ht
          have HTT := Lib.hid (HT.out _ ht HSX.out)
          clear HT HU ht
          go_wp2_with fail
          refine Calls.mono HTT.out ?_
          rintro e w5 ⟨rfl, hB5, hS5⟩
          have HS5 := Lib.hid hS5
          have hE5 : Ext w3 w5 := Below.trans (hE.trans' hxw) hB5
          clear hB5 hS5
          go_wp2
          go_roundw
          case rel => exact ⟨k + 1, by omega, by omega, by go_num, hE5, HS5.out⟩
          case measure => simp [intOf]; omega
        | false =>
          have ht' : (kk % 2 == 1) = false := ht
          have HTT := Lib.hid (HU.out _ ht HSX.out)
          clear HT HU ht
          go_wp2_with fail
          refine Calls.mono HTT.out ?_
          rintro e w5 ⟨rfl, hB5, hS5⟩
          have HS5 := Lib.hid hS5
          have hE5 : Ext w3 w5 := Below.trans (hE.trans' hxw) hB5
          clear hB5 hS5
          go_wp2
          go_roundw
          case rel => exact ⟨k + 1, by omega, by omega, by go_num, hE5, HS5.out⟩
          case measure => simp [intOf]; omega
    · have hUU := winO_U (n := n) h1 hos (k := k) (by omega)
      generalize winO n (os.take k) = US at *
      have HUU := Lib.hid hUU
      have HS1 : Hid (WS wr w3.heap.size p C B n (gone US 0)) := Lib.hid (by rw [gone_zero]; exact HS.out)
      have hge : ¬ k < os.length ∨ ¬ k < 40 := by omega
      rename World => wo
      clear hUU hgo
      go_upto_region 7 with (fail)
      go_cut [45] (fun s45 wx => s45 = .bool false ∧ wx = wo)
      case first =>
        by_cases hgl : k < os.length
        · have hg6 : ¬ k < 40 := by omega
          go_wp2_with fail
          go_meet
          exact ⟨by first | rfl | exact congrArg Value.bool (decide_eq_false (by omega)), rfl⟩
        · first
            | (go_wp2_with fail
               go_meet
               exact ⟨rfl, rfl⟩)
            | (clear hge
               go_wp2_with fail
               go_meet
               exact ⟨by first | rfl | exact congrArg Value.bool (decide_eq_false (by omega)), rfl⟩)
      case rest =>
       obtain ⟨rfl, rfl⟩ := hcut
       clear hge hk40 hkl HS hEw
       go_wp2
       go_loopw [14] (fun u14 wr => ∃ j : Nat, j ≤ n ∧ u14 = .int .i64 j ∧ Ext w3 wr ∧ WS wr w3.heap.size p C B n (gone US j)) (fun u14 _ => n - (intOf u14).toNat)
       case atStart => exact ⟨0, Nat.zero_le _, rfl, hE, HS1.out⟩
       case round =>
        clear hE
        obtain ⟨j, hjn, rfl, hE, hS⟩ := hrel
        have HS := Lib.hid hS
        clear hS HS1
        by_cases hlt : j < n
        · have HT := Lib.hid (WS_gone HUU.out hlt hok HB.out HS.out)
          have hz : (j : Int) < (n : Int) := by omega
          go_wp2_with fail
          refine Calls.mono HT.out ?_
          rintro e w5 ⟨rfl, hB5, hS5⟩
          have HS5 := Lib.hid hS5
          have hE5 : Ext w3 w5 := Below.trans hE hB5
          clear hB5 hS5
          go_wp2
          go_roundw
          case rel => exact ⟨j + 1, by omega, by go_num, hE5, HS5.out⟩
          case measure => simp [intOf]; omega
        · obtain rfl : j = n := by omega
          have hfl := gone_all HUU.out.len
          have HFL := Lib.hid hfl
          rename World => wp
          have hN3 := Nat.le_refl w3.heap.size
          clear hfl hlt hjn
          go_wp2_with fail
          refine Calls.mono (WS_sum HS.out) ?_
          rintro e w6 ⟨s, g, L, rfl, hK, _, _, _, hx6⟩
          rw [HFL.out] at hK
          have hE6 : Ext w3 w6 := hE.trans' hx6
          have HK := Lib.hid hK
          have HQ6 := Lib.hid (hE6.keep HQ.out)
          clear hK hx6 hE HFL
          go_wp2
          go_loopw [16] (fun u16 wr => ∃ m : Nat, m ≤ B + 1 ∧ u16 = .int .i64 m ∧ Ext w6 wr) (fun u16 _ => B + 1 - (intOf u16).toNat)
          case atStart => exact ⟨0, Nat.zero_le _, rfl, Ext.refl _⟩
          case round =>
            obtain ⟨m, hmB, rfl, hE⟩ := hrel
            have hCq := CfgAt.of (hE.keep HQ6.out)
            have c0 := hCq.c0
            have cl := hCq.lt
            have HKr := Lib.hid (HK.out.ext hE)
            rw [HB.out] at c0
            clear hCq
            by_cases hlt : m < B + 1
            · have hle : m ≤ B := by omega
              have hle' : (m : Int) ≤ (B : Int) := by omega
              have hKC := KCells_c s g C B L _ _ HKr.out m hle
              rw [feedK_nil] at hKC
              have HKC := Lib.hid hKC
              clear hKC
              go_wp2_with fail
              refine Calls.mono HKC.out ?_
              rintro e w7 ⟨v, rfl, ho, _, hx7⟩
              have hv := IntsAt.of_row ho
              obtain ⟨p0, q0, rfl⟩ := own_len ho
              rw [zs_len] at hv ⊢
              have hNb := lvN_bd hok m
              generalize lvN C m = N at *
              have HV7 := Lib.hid hv
              have HE7 := Lib.hid (hE.trans' hx7)
              clear hv ho hx7 hE c0 cl
              rename World => w7
              go_wp2
              go_loopw [18] (fun u18 wr => ∃ i : Nat, i ≤ N ∧ u18 = .int .i64 i ∧ Ext w7 wr) (fun u18 _ => N - (intOf u18).toNat)
              case atStart => exact ⟨0, Nat.zero_le _, rfl, Ext.refl _⟩
              case round =>
                obtain ⟨i, hiN, rfl, hEi⟩ := hrel
                by_cases hi : i < N
                · obtain ⟨g7, off7, cap7, hv7, hg7, hc7⟩ := zs_at HV7.out hi
                  obtain ⟨rfl, _, rfl⟩ := Value.slice.inj hv7
                  clear hv7
                  replace hc7 := ((bcell hEi).1 _ _ hg7).trans hc7
                  replace hg7 := Nat.lt_of_lt_of_le hg7 hEi.size
                  go_wp2_with fail
                  go_roundw
                  case rel => exact ⟨i + 1, by omega, by go_num, hEi⟩
                  case measure => simp [intOf]; omega
                · obtain rfl : i = N := by omega
                  go_wp2_with fail
                  go_roundw
                  case rel => exact ⟨m + 1, by omega, by go_num, HE7.out.trans' hEi⟩
                  case measure => simp [intOf]; omega
            · obtain rfl : m = B + 1 := by omega
              have hgt : ¬ (((B + 1 : Nat) : Int) ≤ (B : Int)) := by omega
              have htot : (feedK C [] B).getD 0 0 = 0 := by rw [feedK_nil]; exact zs_get0 _ _
              have HTOT := Lib.hid htot
              have hEf := HE3.out.trans' (hE6.trans' hE)
              clear htot
              go_wp2_with fail
              refine Calls.mono (KTotal_c s g C B L _ _ HKr.out) ?_
              rintro e w8 ⟨rfl, hx8⟩
              rw [HTOT.out]
              go_wp2
              go_ret
              exact ⟨rfl, hEf.trans' hx8⟩
end Go.Proofs.YteoblkcbemeamaaGreat

/- What a slice of operations reads as. No condition. -/
namespace Go.Proofs.YteoblkcbemeamaaGreat
set_option linter.unusedVariables false
open Go.ChangeShapes Go.WideShapes Go.ChangeAt Go.RowKit Go.Deep
section
variable {H : Type} {enc : TypeId × Value → H} {w : World} {held : Bool}
set_option maxRecDepth 100000 in
theorem op13_of {spare : Nat → Bool} {base n : Nat} {cs : List Value} {y : DataW H × List MemPlace} (h : DataW.trod enc Tryz.prog w base spare held n 87 cs = some y) :
    ∃ u : Opn, (I64 u.1 ∧ U64 u.2.1 ∧ I64 u.2.2) ∧ cs = [.int .i64 u.1, .int .u64 u.2.1, .int .i64 u.2.2] := by
  obtain ⟨xs, n, _, _, hl, hx, hg⟩ := DataW.trod_struct Tryz.underlying87 h
  have hl' : cs.length = 3 := hl.trans (by kernel_rfl)
  match cs, hl' with
  | [c0, c1, c2], _ =>
    have hx' : xs.length = 3 := hx.trans (by kernel_rfl)
    match xs, hx' with
    | [x0, x1, x2], _ =>
      have e0 : DataW.trod enc Tryz.prog w base spare held n 3 [c0] = some x0 := hg 0 _ rfl
      have e1 : DataW.trod enc Tryz.prog w base spare held n 22 [c1] = some x1 := hg 1 _ rfl
      have e2 : DataW.trod enc Tryz.prog w base spare held n 2 [c2] = some x2 := hg 2 _ rfl
      obtain ⟨a0, h0, _, w0⟩ := DataW.trod_int Tryz.underlying3 e0
      obtain ⟨a1, h1, _, w1⟩ := DataW.trod_int Tryz.underlying22 e1
      obtain ⟨a2, h2, _, w2⟩ := DataW.trod_int Tryz.underlying2 e2
      simp only [List.cons.injEq, and_true] at h0 h1 h2
      exact ⟨(a0, a1, a2), ⟨wf_i64 w0, wf_u64 w1, wf_i64 w2⟩, by rw [h0, h1, h2]⟩
set_option maxRecDepth 100000 in
theorem ops13arg_of {r : Reach} {b0 : Nat} {v : Value} {d : DataW H} {p : List MemPlace} (hv : Value.okWide Tryz.prog w r b0 80 v) (h : DataW.Trod enc Tryz.prog w 0 (fun _ => true) held 80 v d p) :
    ∃ (os : List Opn), OpsOk os ∧ OpsAt w v os ∧
      ∀ (ts : List TypeId) (ds : List (DataW H)) (j : Nat), (DataW.weightsEach Tryz.prog ts ds).all (· ≤ reachBytes) = true → ts[j]? = some 80 → ds[j]? = some d → os.length ≤ 140737488355328 := by
  obtain ⟨q, n, cap, rfl⟩ := okWide_slice Tryz.underlying80 hv
  obtain ⟨fuel, hf⟩ := h
  rcases open_slice Tryz.underlying80 hf with ⟨hcs, _⟩ | ⟨a, len, cap', m, n', D, Pl, hcs, _, hlc, hcm, hm, hx, hi⟩
  · have hcs' : [Value.slice q n cap] = [Value.slice none 0 0] := hcs
    simp only [List.cons.injEq, and_true, Value.slice.injEq] at hcs'
    obtain ⟨rfl, rfl, rfl⟩ := hcs'
    exact ⟨[], (by intro u hu; cases hu), .inl ⟨⟨_, rfl⟩, rfl⟩, fun _ _ _ _ _ _ => Nat.zero_le _⟩
  · have hcs' : [Value.slice q n cap] = [Value.slice (some a) len cap'] := hcs
    simp only [List.cons.injEq, and_true, Value.slice.injEq] at hcs'
    obtain ⟨rfl, rfl, rfl⟩ := hcs'
    simp only [if_true] at hm
    rw [hm] at hi hx
    clear hm
    have hC : Tryz.prog.cellsOf 87 = 3 := by kernel_rfl
    rw [hC] at hi
    have key : ∀ i, i < n → ∃ u : Opn, (I64 u.1 ∧ U64 u.2.1 ∧ I64 u.2.2) ∧ w.cell? (a.add (i * 3)) = some (.int .i64 u.1) ∧ w.cell? (a.add (i * 3 + 1)) = some (.int .u64 u.2.1) ∧ w.cell? (a.add (i * 3 + 2)) = some (.int .i64 u.2.2) := by
      intro i hil
      obtain ⟨cs', hc, ht⟩ := hi i (by omega)
      obtain ⟨u, hu, rfl⟩ := op13_of ht
      obtain ⟨_, _, hat⟩ := World.cells?_some hc
      refine ⟨u, hu, ?_, ?_, ?_⟩
      · have := hat 0 (by omega); rw [add_add, Nat.add_zero] at this; exact this
      · have := hat 1 (by omega); rw [add_add] at this; exact this
      · have := hat 2 (by omega); rw [add_add] at this; exact this
    obtain ⟨us, hul, hus⟩ := choose_list _ n key
    by_cases h0 : cap = 0
    · have hl0 : n = 0 := by omega
      subst hl0 h0
      obtain rfl : us = [] := List.length_eq_zero_iff.1 hul
      exact ⟨[], (by intro u hu; cases hu), .inl ⟨⟨_, rfl⟩, rfl⟩, fun _ _ _ _ _ _ => Nat.zero_le _⟩
    · obtain ⟨cs', hc, ht⟩ := hi 0 (by omega)
      obtain ⟨u, _, rfl⟩ := op13_of ht
      obtain ⟨_, _, hat⟩ := World.cells?_some hc
      have h1 := hat 0 (by omega)
      obtain ⟨b, off, spot⟩ := a
      have hspot : spot = none := by simpa [Addr.add] using World.cell?_spot h1
      subst hspot
      have hb : b < w.heap.size := by
        rcases Nat.lt_or_ge b w.heap.size with h' | h'
        · exact h'
        · simp [World.cell?, Addr.add, Array.getElem?_eq_none h'] at h1
      refine ⟨us, ?_, .inr ⟨b, off, cap, by rw [hul], hb, fun k hk => ?_⟩, fun ts ds j hs ht hj => ?_⟩
      · intro u hu
        obtain ⟨i, hi', rfl⟩ := List.getElem_of_mem hu
        exact (hus i hi').1
      · have := (hus k hk).2
        have hg : us.getD k (0, 0, 0) = us[k] := by simp [hk]
        rw [hg]
        rw [add_plain0, add_plain0, add_plain0] at this
        simpa only [Nat.add_assoc] using this
      · have hb : Tryz.prog.bytesOf 87 = 24 := by kernel_rfl
        simp only [Prod.mk.injEq] at hx
        have h2 := hx.1
        subst h2
        have := reach_of hs ht hj (by
          simp [DataW.weights, DataW.weightsEach, Tryz.underlying80]
          exact .inl rfl)
        rw [hb] at this
        simp only [reachBytes, List.length_map, List.length_take, List.length_drop, List.length_range] at this
        omega
set_option maxRecDepth 100000 in
theorem op20_of {spare : Nat → Bool} {base n : Nat} {cs : List Value} {y : DataW H × List MemPlace} (h : DataW.trod enc Tryz.prog w base spare held n 122 cs = some y) :
    ∃ u : Opn, (I64 u.1 ∧ U64 u.2.1 ∧ I64 u.2.2) ∧ cs = [.int .i64 u.1, .int .u64 u.2.1, .int .i64 u.2.2] := by
  obtain ⟨xs, n, _, _, hl, hx, hg⟩ := DataW.trod_struct Tryz.underlying122 h
  have hl' : cs.length = 3 := hl.trans (by kernel_rfl)
  match cs, hl' with
  | [c0, c1, c2], _ =>
    have hx' : xs.length = 3 := hx.trans (by kernel_rfl)
    match xs, hx' with
    | [x0, x1, x2], _ =>
      have e0 : DataW.trod enc Tryz.prog w base spare held n 3 [c0] = some x0 := hg 0 _ rfl
      have e1 : DataW.trod enc Tryz.prog w base spare held n 22 [c1] = some x1 := hg 1 _ rfl
      have e2 : DataW.trod enc Tryz.prog w base spare held n 2 [c2] = some x2 := hg 2 _ rfl
      obtain ⟨a0, h0, _, w0⟩ := DataW.trod_int Tryz.underlying3 e0
      obtain ⟨a1, h1, _, w1⟩ := DataW.trod_int Tryz.underlying22 e1
      obtain ⟨a2, h2, _, w2⟩ := DataW.trod_int Tryz.underlying2 e2
      simp only [List.cons.injEq, and_true] at h0 h1 h2
      exact ⟨(a0, a1, a2), ⟨wf_i64 w0, wf_u64 w1, wf_i64 w2⟩, by rw [h0, h1, h2]⟩
set_option maxRecDepth 100000 in
theorem ops20arg_of {r : Reach} {b0 : Nat} {v : Value} {d : DataW H} {p : List MemPlace} (hv : Value.okWide Tryz.prog w r b0 121 v) (h : DataW.Trod enc Tryz.prog w 0 (fun _ => true) held 121 v d p) :
    ∃ (os : List Opn), OpsOk os ∧ OpsAt w v os ∧
      ∀ (ts : List TypeId) (ds : List (DataW H)) (j : Nat), (DataW.weightsEach Tryz.prog ts ds).all (· ≤ reachBytes) = true → ts[j]? = some 121 → ds[j]? = some d → os.length ≤ 140737488355328 := by
  obtain ⟨q, n, cap, rfl⟩ := okWide_slice Tryz.underlying121 hv
  obtain ⟨fuel, hf⟩ := h
  rcases open_slice Tryz.underlying121 hf with ⟨hcs, _⟩ | ⟨a, len, cap', m, n', D, Pl, hcs, _, hlc, hcm, hm, hx, hi⟩
  · have hcs' : [Value.slice q n cap] = [Value.slice none 0 0] := hcs
    simp only [List.cons.injEq, and_true, Value.slice.injEq] at hcs'
    obtain ⟨rfl, rfl, rfl⟩ := hcs'
    exact ⟨[], (by intro u hu; cases hu), .inl ⟨⟨_, rfl⟩, rfl⟩, fun _ _ _ _ _ _ => Nat.zero_le _⟩
  · have hcs' : [Value.slice q n cap] = [Value.slice (some a) len cap'] := hcs
    simp only [List.cons.injEq, and_true, Value.slice.injEq] at hcs'
    obtain ⟨rfl, rfl, rfl⟩ := hcs'
    simp only [if_true] at hm
    rw [hm] at hi hx
    clear hm
    have hC : Tryz.prog.cellsOf 122 = 3 := by kernel_rfl
    rw [hC] at hi
    have key : ∀ i, i < n → ∃ u : Opn, (I64 u.1 ∧ U64 u.2.1 ∧ I64 u.2.2) ∧ w.cell? (a.add (i * 3)) = some (.int .i64 u.1) ∧ w.cell? (a.add (i * 3 + 1)) = some (.int .u64 u.2.1) ∧ w.cell? (a.add (i * 3 + 2)) = some (.int .i64 u.2.2) := by
      intro i hil
      obtain ⟨cs', hc, ht⟩ := hi i (by omega)
      obtain ⟨u, hu, rfl⟩ := op20_of ht
      obtain ⟨_, _, hat⟩ := World.cells?_some hc
      refine ⟨u, hu, ?_, ?_, ?_⟩
      · have := hat 0 (by omega); rw [add_add, Nat.add_zero] at this; exact this
      · have := hat 1 (by omega); rw [add_add] at this; exact this
      · have := hat 2 (by omega); rw [add_add] at this; exact this
    obtain ⟨us, hul, hus⟩ := choose_list _ n key
    by_cases h0 : cap = 0
    · have hl0 : n = 0 := by omega
      subst hl0 h0
      obtain rfl : us = [] := List.length_eq_zero_iff.1 hul
      exact ⟨[], (by intro u hu; cases hu), .inl ⟨⟨_, rfl⟩, rfl⟩, fun _ _ _ _ _ _ => Nat.zero_le _⟩
    · obtain ⟨cs', hc, ht⟩ := hi 0 (by omega)
      obtain ⟨u, _, rfl⟩ := op20_of ht
      obtain ⟨_, _, hat⟩ := World.cells?_some hc
      have h1 := hat 0 (by omega)
      obtain ⟨b, off, spot⟩ := a
      have hspot : spot = none := by simpa [Addr.add] using World.cell?_spot h1
      subst hspot
      have hb : b < w.heap.size := by
        rcases Nat.lt_or_ge b w.heap.size with h' | h'
        · exact h'
        · simp [World.cell?, Addr.add, Array.getElem?_eq_none h'] at h1
      refine ⟨us, ?_, .inr ⟨b, off, cap, by rw [hul], hb, fun k hk => ?_⟩, fun ts ds j hs ht hj => ?_⟩
      · intro u hu
        obtain ⟨i, hi', rfl⟩ := List.getElem_of_mem hu
        exact (hus i hi').1
      · have := (hus k hk).2
        have hg : us.getD k (0, 0, 0) = us[k] := by simp [hk]
        rw [hg]
        rw [add_plain0, add_plain0, add_plain0] at this
        simpa only [Nat.add_assoc] using this
      · have hb : Tryz.prog.bytesOf 122 = 24 := by kernel_rfl
        simp only [Prod.mk.injEq] at hx
        have h2 := hx.1
        subst h2
        have := reach_of hs ht hj (by
          simp [DataW.weights, DataW.weightsEach, Tryz.underlying121]
          exact .inl rfl)
        rw [hb] at this
        simp only [reachBytes, List.length_map, List.length_take, List.length_drop, List.length_range] at this
        omega
set_option maxRecDepth 100000 in
theorem op24_of {spare : Nat → Bool} {base n : Nat} {cs : List Value} {y : DataW H × List MemPlace} (h : DataW.trod enc Tryz.prog w base spare held n 110 cs = some y) :
    ∃ u : Opn, (I64 u.1 ∧ U64 u.2.1 ∧ I64 u.2.2) ∧ cs = [.int .i64 u.1, .int .u64 u.2.1, .int .i64 u.2.2] := by
  obtain ⟨xs, n, _, _, hl, hx, hg⟩ := DataW.trod_struct Tryz.underlying110 h
  have hl' : cs.length = 3 := hl.trans (by kernel_rfl)
  match cs, hl' with
  | [c0, c1, c2], _ =>
    have hx' : xs.length = 3 := hx.trans (by kernel_rfl)
    match xs, hx' with
    | [x0, x1, x2], _ =>
      have e0 : DataW.trod enc Tryz.prog w base spare held n 3 [c0] = some x0 := hg 0 _ rfl
      have e1 : DataW.trod enc Tryz.prog w base spare held n 22 [c1] = some x1 := hg 1 _ rfl
      have e2 : DataW.trod enc Tryz.prog w base spare held n 2 [c2] = some x2 := hg 2 _ rfl
      obtain ⟨a0, h0, _, w0⟩ := DataW.trod_int Tryz.underlying3 e0
      obtain ⟨a1, h1, _, w1⟩ := DataW.trod_int Tryz.underlying22 e1
      obtain ⟨a2, h2, _, w2⟩ := DataW.trod_int Tryz.underlying2 e2
      simp only [List.cons.injEq, and_true] at h0 h1 h2
      exact ⟨(a0, a1, a2), ⟨wf_i64 w0, wf_u64 w1, wf_i64 w2⟩, by rw [h0, h1, h2]⟩
set_option maxRecDepth 100000 in
theorem ops24arg_of {r : Reach} {b0 : Nat} {v : Value} {d : DataW H} {p : List MemPlace} (hv : Value.okWide Tryz.prog w r b0 106 v) (h : DataW.Trod enc Tryz.prog w 0 (fun _ => true) held 106 v d p) :
    ∃ (os : List Opn), OpsOk os ∧ OpsAt w v os ∧
      ∀ (ts : List TypeId) (ds : List (DataW H)) (j : Nat), (DataW.weightsEach Tryz.prog ts ds).all (· ≤ reachBytes) = true → ts[j]? = some 106 → ds[j]? = some d → os.length ≤ 140737488355328 := by
  obtain ⟨q, n, cap, rfl⟩ := okWide_slice Tryz.underlying106 hv
  obtain ⟨fuel, hf⟩ := h
  rcases open_slice Tryz.underlying106 hf with ⟨hcs, _⟩ | ⟨a, len, cap', m, n', D, Pl, hcs, _, hlc, hcm, hm, hx, hi⟩
  · have hcs' : [Value.slice q n cap] = [Value.slice none 0 0] := hcs
    simp only [List.cons.injEq, and_true, Value.slice.injEq] at hcs'
    obtain ⟨rfl, rfl, rfl⟩ := hcs'
    exact ⟨[], (by intro u hu; cases hu), .inl ⟨⟨_, rfl⟩, rfl⟩, fun _ _ _ _ _ _ => Nat.zero_le _⟩
  · have hcs' : [Value.slice q n cap] = [Value.slice (some a) len cap'] := hcs
    simp only [List.cons.injEq, and_true, Value.slice.injEq] at hcs'
    obtain ⟨rfl, rfl, rfl⟩ := hcs'
    simp only [if_true] at hm
    rw [hm] at hi hx
    clear hm
    have hC : Tryz.prog.cellsOf 110 = 3 := by kernel_rfl
    rw [hC] at hi
    have key : ∀ i, i < n → ∃ u : Opn, (I64 u.1 ∧ U64 u.2.1 ∧ I64 u.2.2) ∧ w.cell? (a.add (i * 3)) = some (.int .i64 u.1) ∧ w.cell? (a.add (i * 3 + 1)) = some (.int .u64 u.2.1) ∧ w.cell? (a.add (i * 3 + 2)) = some (.int .i64 u.2.2) := by
      intro i hil
      obtain ⟨cs', hc, ht⟩ := hi i (by omega)
      obtain ⟨u, hu, rfl⟩ := op24_of ht
      obtain ⟨_, _, hat⟩ := World.cells?_some hc
      refine ⟨u, hu, ?_, ?_, ?_⟩
      · have := hat 0 (by omega); rw [add_add, Nat.add_zero] at this; exact this
      · have := hat 1 (by omega); rw [add_add] at this; exact this
      · have := hat 2 (by omega); rw [add_add] at this; exact this
    obtain ⟨us, hul, hus⟩ := choose_list _ n key
    by_cases h0 : cap = 0
    · have hl0 : n = 0 := by omega
      subst hl0 h0
      obtain rfl : us = [] := List.length_eq_zero_iff.1 hul
      exact ⟨[], (by intro u hu; cases hu), .inl ⟨⟨_, rfl⟩, rfl⟩, fun _ _ _ _ _ _ => Nat.zero_le _⟩
    · obtain ⟨cs', hc, ht⟩ := hi 0 (by omega)
      obtain ⟨u, _, rfl⟩ := op24_of ht
      obtain ⟨_, _, hat⟩ := World.cells?_some hc
      have h1 := hat 0 (by omega)
      obtain ⟨b, off, spot⟩ := a
      have hspot : spot = none := by simpa [Addr.add] using World.cell?_spot h1
      subst hspot
      have hb : b < w.heap.size := by
        rcases Nat.lt_or_ge b w.heap.size with h' | h'
        · exact h'
        · simp [World.cell?, Addr.add, Array.getElem?_eq_none h'] at h1
      refine ⟨us, ?_, .inr ⟨b, off, cap, by rw [hul], hb, fun k hk => ?_⟩, fun ts ds j hs ht hj => ?_⟩
      · intro u hu
        obtain ⟨i, hi', rfl⟩ := List.getElem_of_mem hu
        exact (hus i hi').1
      · have := (hus k hk).2
        have hg : us.getD k (0, 0, 0) = us[k] := by simp [hk]
        rw [hg]
        rw [add_plain0, add_plain0, add_plain0] at this
        simpa only [Nat.add_assoc] using this
      · have hb : Tryz.prog.bytesOf 110 = 24 := by kernel_rfl
        simp only [Prod.mk.injEq] at hx
        have h2 := hx.1
        subst h2
        have := reach_of hs ht hj (by
          simp [DataW.weights, DataW.weightsEach, Tryz.underlying106]
          exact .inl rfl)
        rw [hb] at this
        simp only [reachBytes, List.length_map, List.length_take, List.length_drop, List.length_range] at this
        omega
end
end Go.Proofs.YteoblkcbemeamaaGreat
