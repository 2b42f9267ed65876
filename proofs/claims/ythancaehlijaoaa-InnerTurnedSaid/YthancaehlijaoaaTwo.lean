/- The box of two rows of updates; a config in the mode Linear, and a level of it. -/
import Derived.Test.YthancaehlijaoaaShown11
import Derived.Test.YthancaehlijaoaaInnLaw
namespace Go.Proofs.Ythancaehlijaoaa
set_option linter.unusedVariables false

structure TwoAt (w : World) (b : Nat) (x : Cfg) (lv : Int) (u m : Value) : Prop where
  c : CfgAt w b x
  c5 : w.cell? ⟨b, 5, none⟩ = some (.int .i64 lv)
  c6 : w.cell? ⟨b, 6, none⟩ = some u
  c7 : w.cell? ⟨b, 7, none⟩ = some m
theorem TwoAt.of {w : World} {b : Nat} {x : Cfg} {lv : Int} {u m : Value} {t : TypeId} (h : w.heap[b]? = some (.cells #[.int .i64 x.bits, .int .i64 x.rows, .int .i64 x.width, .int .i64 x.mode, .int .u64 x.seed, .int .i64 lv, u, m] t (0, 0))) : TwoAt w b x lv u m :=
  ⟨⟨lt_of h, (cell_of h 0).trans rfl, (cell_of h 1).trans rfl, (cell_of h 2).trans rfl, (cell_of h 3).trans rfl, (cell_of h 4).trans rfl⟩, (cell_of h 5).trans rfl, (cell_of h 6).trans rfl, (cell_of h 7).trans rfl⟩
theorem TwoAt.ext {w w' : World} {b : Nat} {x : Cfg} {lv : Int} {u m : Value} (h : TwoAt w b x lv u m) (he : Ext w w') : TwoAt w' b x lv u m :=
  ⟨h.c.ext he, ((bcell he).1 _ _ h.c.lt).trans h.c5, ((bcell he).1 _ _ h.c.lt).trans h.c6, ((bcell he).1 _ _ h.c.lt).trans h.c7⟩
theorem TwoAt.mod {S : Nat → Prop} {w w' : World} {b : Nat} {x : Cfg} {lv : Int} {u m : Value} (h : TwoAt w b x lv u m) (he : Mod S w w') (hs : ¬ S b) : TwoAt w' b x lv u m :=
  ⟨h.c.mod he hs, (mcell he h.c.lt hs 5).trans h.c5, (mcell he h.c.lt hs 6).trans h.c6, (mcell he h.c.lt hs 7).trans h.c7⟩
/-- A config in the mode Linear. -/
def tcfg (x : Cfg) (nb : Int) : Cfg := { mkC x nb 9 with mode := 1 }
theorem tcfg_ok (x : Cfg) (hs : U64 x.seed) {nb : Int} (h1 : 1 ≤ nb) (h2 : nb ≤ 20) : (tcfg x nb).Ok := by
  obtain ⟨a1, a2, a3, a4, a5, a6, a7, a8, a9⟩ := mkC_ok x hs h1 h2 (show (1 : Int) ≤ 9 by decide) (show (9 : Int) ≤ 20 by decide)
  exact ⟨a1, a2, a3, a4, a5, a6, show (1 : Int) ≤ 1 by decide, show (1 : Int) ≤ 3 by decide, a9⟩
theorem tmod20 (d : Int) : -1048576 < d.tmod 1048576 ∧ d.tmod 1048576 < 1048576 := ⟨Int.lt_tmod_of_pos d (by decide), Int.tmod_lt_of_pos d (by decide)⟩
end Go.Proofs.Ythancaehlijaoaa
