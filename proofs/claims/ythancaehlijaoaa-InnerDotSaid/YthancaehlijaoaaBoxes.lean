/- Boxes that hold a config or a play. No condition. -/
import Derived.Test.YthancaehlijaoaaShown
import Derived.Test.YthancaehlijaoaaSumLaw
namespace Go.Proofs.Ythancaehlijaoaa
set_option linter.unusedVariables false
open Go.RowKit

structure CfgAt (w : World) (b : Nat) (C : Cfg) : Prop where
  lt : b < w.heap.size
  c0 : w.cell? ⟨b, 0, none⟩ = some (.int .i64 C.bits)
  c1 : w.cell? ⟨b, 1, none⟩ = some (.int .i64 C.rows)
  c2 : w.cell? ⟨b, 2, none⟩ = some (.int .i64 C.width)
  c3 : w.cell? ⟨b, 3, none⟩ = some (.int .i64 C.mode)
  c4 : w.cell? ⟨b, 4, none⟩ = some (.int .u64 C.seed)
theorem CfgAt.of {w : World} {b : Nat} {C : Cfg} {t : TypeId} (h : w.heap[b]? = some (.cells #[.int .i64 C.bits, .int .i64 C.rows, .int .i64 C.width, .int .i64 C.mode, .int .u64 C.seed] t (0, 0))) : CfgAt w b C :=
  ⟨lt_of h, (cell_of h 0).trans rfl, (cell_of h 1).trans rfl, (cell_of h 2).trans rfl, (cell_of h 3).trans rfl, (cell_of h 4).trans rfl⟩
theorem CfgAt.box {w : World} (C : Cfg) (t : TypeId) {n : Nat} (h : n = w.heap.size) : CfgAt (w.alloc (.cells #[.int .i64 C.bits, .int .i64 C.rows, .int .i64 C.width, .int .i64 C.mode, .int .u64 C.seed] t)) n C := CfgAt.of (t := t) (heap_at _ _ h)
theorem CfgAt.ext {w w' : World} {b : Nat} {C : Cfg} (h : CfgAt w b C) (he : Ext w w') : CfgAt w' b C :=
  have k := (bcell he).1
  ⟨Nat.lt_of_lt_of_le h.lt he.size, (k _ _ h.lt).trans h.c0, (k _ _ h.lt).trans h.c1, (k _ _ h.lt).trans h.c2, (k _ _ h.lt).trans h.c3, (k _ _ h.lt).trans h.c4⟩
theorem CfgAt.mod {S : Nat → Prop} {w w' : World} {b : Nat} {C : Cfg} (h : CfgAt w b C) (he : Mod S w w') (hs : ¬ S b) : CfgAt w' b C :=
  have k := fun o => mcell he h.lt hs o
  ⟨Nat.lt_of_lt_of_le h.lt he.size, (k _).trans h.c0, (k _).trans h.c1, (k _).trans h.c2, (k _).trans h.c3, (k _).trans h.c4⟩
structure PlayAt (w : World) (b : Nat) (x : Cfg) (lv : Int) (v : Value) : Prop where
  c : CfgAt w b x
  c5 : w.cell? ⟨b, 5, none⟩ = some (.int .i64 lv)
  c6 : w.cell? ⟨b, 6, none⟩ = some v
theorem PlayAt.box {w : World} (x : Cfg) (lv : Int) (v : Value) (t : TypeId) {n : Nat} (h : n = w.heap.size) : PlayAt (w.alloc (.cells #[.int .i64 x.bits, .int .i64 x.rows, .int .i64 x.width, .int .i64 x.mode, .int .u64 x.seed, .int .i64 lv, v] t)) n x lv v :=
  have h := heap_at w (.cells #[.int .i64 x.bits, .int .i64 x.rows, .int .i64 x.width, .int .i64 x.mode, .int .u64 x.seed, .int .i64 lv, v] t) h
  ⟨⟨lt_of h, (cell_of h 0).trans rfl, (cell_of h 1).trans rfl, (cell_of h 2).trans rfl, (cell_of h 3).trans rfl, (cell_of h 4).trans rfl⟩, (cell_of h 5).trans rfl, (cell_of h 6).trans rfl⟩
theorem PlayAt.ext {w w' : World} {b : Nat} {x : Cfg} {lv : Int} {v : Value} (h : PlayAt w b x lv v) (he : Ext w w') : PlayAt w' b x lv v :=
  have k := (bcell he).1
  ⟨h.c.ext he, (k _ _ h.c.lt).trans h.c5, (k _ _ h.c.lt).trans h.c6⟩
theorem PlayAt.mod {S : Nat → Prop} {w w' : World} {b : Nat} {x : Cfg} {lv : Int} {v : Value} (h : PlayAt w b x lv v) (he : Mod S w w') (hs : ¬ S b) : PlayAt w' b x lv v :=
  have k := fun o => mcell he h.c.lt hs o
  ⟨h.c.mod he hs, (k _).trans h.c5, (k _).trans h.c6⟩
theorem UpsAt.ext {w w' : World} {v : Value} {us : List (Int × Int)} (h : UpsAt w v us) (he : Ext w w') : UpsAt w' v us :=
  h.imp id (fun ⟨g, off, cap, hv, hl, hc⟩ => ⟨g, off, cap, hv, Nat.lt_of_lt_of_le hl he.size, fun k hk => ⟨((bcell he).1 _ _ hl).trans (hc k hk).1, ((bcell he).1 _ _ hl).trans (hc k hk).2⟩⟩)
theorem UpsAt.sl {w : World} {v : Value} {us : List (Int × Int)} (h : UpsAt w v us) : ∃ p c, v = .slice p us.length c := by
  rcases h with ⟨⟨_, rfl⟩, rfl⟩ | ⟨g, off, cap, rfl, _⟩
  · exact ⟨_, _, rfl⟩
  · exact ⟨_, _, rfl⟩
/-- One update of a slice, with its cells. -/
theorem UpsAt.one {w : World} {p : Option Addr} {n c : Nat} {us : List (Int × Int)} (h : UpsAt w (.slice p n c) us) {k : Nat} (hk : k < us.length) :
    ∃ g off, p = some ⟨g, off, none⟩ ∧ g < w.heap.size ∧ w.cell? ⟨g, off + k * 2, none⟩ = some (.int .u64 us[k].1) ∧ w.cell? ⟨g, off + k * 2 + 1, none⟩ = some (.int .i64 us[k].2) := by
  obtain ⟨g, off, cap, hvv, hgl, hcell⟩ := h.resolve_left (fun h => by rw [h.2] at hk; simp at hk)
  obtain ⟨rfl, rfl⟩ : p = some ⟨g, off, none⟩ ∧ n = us.length := by
    have := Value.slice.inj hvv
    exact ⟨this.1, this.2.1⟩
  have := hcell k hk
  have hget : us.getD k (0, 0) = us[k] := by simp [hk]
  rw [hget] at this
  exact ⟨g, off, rfl, hgl, this.1, this.2⟩
end Go.Proofs.Ythancaehlijaoaa
