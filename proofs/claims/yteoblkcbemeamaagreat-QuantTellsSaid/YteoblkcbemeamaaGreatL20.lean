/- Part. No condition. -/
import Derived.Test.YteoblkcbemeamaaGreatL8
import Derived.Test.YteoblkcbemeamaaGreatL3

/- gaugerlaw15.fed makes a stack and feeds it: it never refuses. -/
namespace Go.Proofs.YteoblkcbemeamaaGreat
set_option linter.unusedVariables false
open Go.RowKit

/-- The config that a play of a stack stands for. -/
def kcfg (x : Cfg) (nb m : Int) : Cfg := if 0 < m then { mkC x nb 9 with mode := m } else mkC x nb 9
theorem kcfg_ok (x : Cfg) (hs : U64 x.seed) {nb m : Int} (h1 : 1 ≤ nb) (h2 : nb ≤ 20) (h3 : m ≤ 3) : (kcfg x nb m).Ok := by
  have h := mkC_ok x hs (nb := nb) (nw := 9) h1 h2 (by decide) (by decide)
  unfold kcfg
  split
  · exact ⟨h.b1, h.b2, h.r1, h.r2, h.w1, h.w2, by show 1 ≤ m; omega, h3, h.s⟩
  · exact h
theorem kcfg_bits (x : Cfg) (nb m : Int) : (kcfg x nb m).bits = 1 + x.bits % 65536 % nb := by unfold kcfg; split <;> rfl
theorem kcfg_pos (x : Cfg) (nb : Int) {m : Int} (h : 0 < m) : (mkC x nb 9).bits = (kcfg x nb m).bits ∧ (mkC x nb 9).rows = (kcfg x nb m).rows ∧ (mkC x nb 9).width = (kcfg x nb m).width ∧ (mkC x nb 9).seed = (kcfg x nb m).seed ∧ m = (kcfg x nb m).mode := by
  unfold kcfg; rw [if_pos h]; exact ⟨rfl, rfl, rfl, rfl, rfl⟩
theorem kcfg_none (x : Cfg) (nb : Int) {m : Int} (h : ¬ 0 < m) : mkC x nb 9 = kcfg x nb m := by
  unfold kcfg; rw [if_neg h]
def KFedPost (w : World) (C : Cfg) (us : List (Int × Int)) (i j : Nat) (e : Ending) (w' : World) : Prop :=
  ∃ (s g : Nat) (L : Nat → Lev), e = .returned (.tuple #[.pointer (some ⟨s, 0, none⟩), .agg #[.int .i64 C.bits, .int .i64 C.rows, .int .i64 C.width, .int .i64 C.mode, .int .u64 C.seed]]) ∧
    KAt w' s g C C.bits.toNat L (feedK C (fus us i j)) ∧ w.heap.size ≤ s ∧ w.heap.size ≤ g ∧ KFresh w.heap.size C.bits.toNat L ∧ Ext w w'
end Go.Proofs.YteoblkcbemeamaaGreat

/- A slice of operations (a kind, a key, a number) that can be read. -/
namespace Go.Proofs.YteoblkcbemeamaaGreat
set_option linter.unusedVariables false
open Go.RowKit
abbrev Opn := Int × Int × Int
def OpsAt (w : World) (v : Value) (os : List Opn) : Prop :=
  ((∃ p, v = .slice p 0 0) ∧ os = []) ∨ ∃ g off cap, v = .slice (some ⟨g, off, none⟩) os.length cap ∧ g < w.heap.size ∧
    ∀ k, k < os.length → w.cell? ⟨g, off + k * 3, none⟩ = some (.int .i64 (os.getD k (0, 0, 0)).1) ∧ w.cell? ⟨g, off + k * 3 + 1, none⟩ = some (.int .u64 (os.getD k (0, 0, 0)).2.1) ∧ w.cell? ⟨g, off + k * 3 + 2, none⟩ = some (.int .i64 (os.getD k (0, 0, 0)).2.2)
def OpsOk (os : List Opn) : Prop := ∀ u ∈ os, I64 u.1 ∧ U64 u.2.1 ∧ I64 u.2.2
theorem OpsAt.ext {w w' : World} {v : Value} {os : List Opn} (h : OpsAt w v os) (he : Ext w w') : OpsAt w' v os := by
  rcases h with h | ⟨g, off, cap, h1, h2, h3⟩
  · exact .inl h
  · exact .inr ⟨g, off, cap, h1, Nat.lt_of_lt_of_le h2 he.size, fun k hk => ⟨((bcell he).1 _ _ h2).trans (h3 k hk).1, ((bcell he).1 _ _ h2).trans (h3 k hk).2.1, ((bcell he).1 _ _ h2).trans (h3 k hk).2.2⟩⟩
theorem OpsAt.sl {w : World} {v : Value} {os : List Opn} (h : OpsAt w v os) : ∃ p c, v = .slice p os.length c := by
  rcases h with ⟨⟨p, rfl⟩, rfl⟩ | ⟨g, off, cap, rfl, _⟩
  · exact ⟨p, 0, rfl⟩
  · exact ⟨_, cap, rfl⟩
theorem OpsAt.one {w : World} {p : Option Addr} {n c : Nat} {os : List Opn} (h : OpsAt w (.slice p n c) os) {k : Nat} (hk : k < os.length) :
    ∃ g off, p = some ⟨g, off, none⟩ ∧ g < w.heap.size ∧ w.cell? ⟨g, off + k * 3, none⟩ = some (.int .i64 os[k].1) ∧ w.cell? ⟨g, off + k * 3 + 1, none⟩ = some (.int .u64 os[k].2.1) ∧ w.cell? ⟨g, off + k * 3 + 2, none⟩ = some (.int .i64 os[k].2.2) := by
  rcases h with ⟨_, rfl⟩ | ⟨g, off, cap, h1, h2, h3⟩
  · exact absurd hk (Nat.not_lt_zero _)
  · have e := Value.slice.inj h1
    have hg : os.getD k (0, 0, 0) = os[k] := by simp [hk]
    have := h3 k hk
    rw [hg] at this
    exact ⟨g, off, e.1, h2, this⟩
end Go.Proofs.YteoblkcbemeamaaGreat
