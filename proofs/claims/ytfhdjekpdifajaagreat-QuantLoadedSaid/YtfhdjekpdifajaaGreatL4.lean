/- Part. No condition. -/
import Derived.Test.YtfhdjekpdifajaaGreatL1
import Derived.Test.YtfhdjekpdifajaaGreatL3

/- Rows of pieces; slices.Clone of one. -/
namespace Go.Proofs.YtfhdjekpdifajaaGreat
set_option linter.unusedVariables false
open Go.RowKit
theorem info_pc : ∃ i z, Tryz.prog.info? 39 = some i ∧ i.zero = some z ∧ i.size = 2 ∧ i.bytes = 16 ∧ z.cells.size = 2 := by
  have h : (Tryz.prog.info? 39).map (fun i => (i.zero, i.size, i.bytes)) = some (some (.agg #[.int .i64 0, .int .u64 0]), 2, 16) := by kernel_rfl
  match hi : Tryz.prog.info? 39, h with
  | some i, h =>
    simp only [Option.map_some, Option.some.injEq, Prod.mk.injEq] at h
    exact ⟨i, _, rfl, h.1, h.2.1, h.2.2, rfl⟩
def pcV (ps : List (Nat × Int)) : List Value := ps.flatMap fun p => [.int .i64 (p.1 : Int), .int .u64 p.2]
theorem pcV_len (ps : List (Nat × Int)) : (pcV ps).length = ps.length * 2 := by
  induction ps with
  | nil => rfl
  | cons u ps ih =>
    have : pcV (u :: ps) = .int .i64 (u.1 : Int) :: .int .u64 u.2 :: pcV ps := rfl
    rw [this, List.length_cons, List.length_cons, List.length_cons, ih]; omega
theorem pcV_at {ps : List (Nat × Int)} : ∀ {k : Nat} (h : k < ps.length), (pcV ps)[k * 2]? = some (.int .i64 ((ps.getD k (0, 0)).1 : Int)) ∧ (pcV ps)[k * 2 + 1]? = some (.int .u64 (ps.getD k (0, 0)).2) := by
  induction ps with
  | nil => intro k h; simp at h
  | cons u ps ih =>
    intro k h
    have e : pcV (u :: ps) = .int .i64 (u.1 : Int) :: .int .u64 u.2 :: pcV ps := rfl
    rw [e]
    cases k with
    | zero => exact ⟨rfl, rfl⟩
    | succ k =>
      have := ih (k := k) (by simpa using h)
      rw [show (k + 1) * 2 = k * 2 + 1 + 1 by omega]
      simp only [List.getElem?_cons_succ, List.getD_cons_succ]
      exact this
theorem pcV_get {ps : List (Nat × Int)} {j : Nat} {v : Value} (h : (pcV ps)[j]? = some v) : ∃ k, k < ps.length ∧ ((j = k * 2 ∧ v = .int .i64 ((ps.getD k (0, 0)).1 : Int)) ∨ (j = k * 2 + 1 ∧ v = .int .u64 (ps.getD k (0, 0)).2)) := by
  have hj := (List.getElem?_eq_some_iff.1 h).1
  rw [pcV_len] at hj
  have hk : j / 2 < ps.length := by omega
  obtain ⟨a1, a2⟩ := pcV_at hk
  refine ⟨j / 2, hk, ?_⟩
  by_cases he : j % 2 = 0
  · left
    have hj2 : j = j / 2 * 2 := by omega
    rw [← hj2, h] at a1
    exact ⟨hj2, Option.some.inj a1⟩
  · right
    have hj2 : j = j / 2 * 2 + 1 := by omega
    rw [← hj2, h] at a2
    exact ⟨hj2, Option.some.inj a2⟩
/-- Pieces that lie at a place. -/
def PCells (W : World) (g off : Nat) (ps : List (Nat × Int)) : Prop :=
  ∀ k, k < ps.length → W.cell? ⟨g, off + k * 2, none⟩ = some (.int .i64 ((ps.getD k (0, 0)).1 : Int)) ∧ W.cell? ⟨g, off + k * 2 + 1, none⟩ = some (.int .u64 (ps.getD k (0, 0)).2)
theorem PCells.ext {W W' : World} {g off : Nat} {ps : List (Nat × Int)} (h : PCells W g off ps) (hg : g < W.heap.size) (he : Ext W W') : PCells W' g off ps :=
  fun k hk => ⟨((bcell he).1 _ _ hg).trans (h k hk).1, ((bcell he).1 _ _ hg).trans (h k hk).2⟩
/-- A row of pieces of the call's own is a slice of pieces. -/
theorem own_pieces {w : World} {base n : Nat} {e : TypeId} {v : Value} {ps : List (Nat × Int)} (h : w.ownsRow base e 2 v n (pcV ps)) (hl : 0 < ps.length) : ∃ g cap, v = .slice (some ⟨g, 0, none⟩) ps.length cap ∧ g < w.heap.size ∧ PCells w g 0 ps := by
  obtain ⟨h1, h2⟩ := h
  have hn : n = ps.length := by rw [pcV_len] at h1; omega
  subst hn
  obtain ⟨g, cap, cur, rfl, _, hh, hc, _, hs, ht⟩ := h2.resolve_left (fun h => by omega)
  refine ⟨g, cap, rfl, lt_of hh, fun k hk => ?_⟩
  obtain ⟨a1, a2⟩ := pcV_at hk
  rw [← ht] at a1 a2
  rw [List.getElem?_take_of_lt (by omega)] at a1 a2
  simp only [Array.getElem?_toList] at a1 a2
  rw [cell_of hh, cell_of hh, Nat.zero_add]
  exact ⟨a1, a2⟩
set_option maxRecDepth 20000 in
set_option maxHeartbeats 1000000 in
theorem CloneP_c (c cap : Nat) (ps : List (Nat × Int)) (w : World) (h : PCells w c 0 ps) (hlt : c < w.heap.size) (hl : ps.length ≤ 1000) :
    Calls Tryz.prog 149 #[.slice (some ⟨c, 0, none⟩) ps.length cap] w fun e w' => ∃ v, e = .returned v ∧ w'.ownsRow w.heap.size 39 2 v ps.length (pcV ps) ∧ Ext w w' := by
  obtain ⟨i0, z0, hi, hz0, hz1, hz2, hzs⟩ := info_pc
  have hnil := fun (x : World) (n k : Nat) => Lib.run_eql_slice_nil (P := Tryz.prog) x 165 39 (some ⟨c, 0, none⟩) n k 0 0 Tryz.underlying165
  have HC := Lib.hid h
  have HL := Lib.hid hl
  generalize hn : ps.length = n at *
  have HN := Lib.hid hn
  clear h hn hl
  go_enter Tryz.func149, Tryz.ntmps149
  have hown : (w.alloc (.cells #[] 39)).ownsRow w.heap.size 39 2 (.slice (some ⟨w.heap.size, 0, none⟩) 0 0) 0 [] := ⟨rfl, .inr ⟨w.heap.size, 0, #[], rfl, Nat.le_refl _, heap_at _ _ rfl, Nat.le_refl _, Nat.zero_le _, rfl, rfl⟩⟩
  go_wp2_with (at_builtin; refine wpList_append_own _ rfl _ _ 165 rfl w.heap.size 39 i0 z0 2 16 Tryz.underlying165 hi hz0 hz1 hz2 hzs (by decide) _ _ _ rfl hown ⟨c, 0, none⟩ n cap (pcV ps) rfl ?c1 ?c2 ?c3 ?c4 ?c5 ?c6 ?_)
  case c1 => rw [pcV_len, HN.out]
  case c2 =>
    intro j u hu
    obtain ⟨k, hk, ⟨rfl, rfl⟩ | ⟨rfl, rfl⟩⟩ := pcV_get hu
    · rw [show (⟨c, 0, none⟩ : Addr).add (k * 2) = ⟨c, 0 + k * 2, none⟩ by (simp [Addr.add]; try omega), World.cell?_alloc_lt _ _ _ hlt]
      exact (HC.out k hk).1
    · rw [show (⟨c, 0, none⟩ : Addr).add (k * 2 + 1) = ⟨c, 0 + k * 2 + 1, none⟩ by (simp [Addr.add]; try omega), World.cell?_alloc_lt _ _ _ hlt]
      exact (HC.out k hk).2
  case c3 =>
    intro u hu
    obtain ⟨j, hj⟩ := List.getElem?_of_mem hu
    obtain ⟨k, hk, ⟨_, rfl⟩ | ⟨_, rfl⟩⟩ := pcV_get hj <;> rfl
  case c4 => have := HL.out; unfold maxLen; omega
  case c5 => have := HL.out; omega
  case c6 => simp only [size_alloc]; omega
  intro v' w' h1 h2 h3
  go_wp2
  go_ret
  refine ⟨v', rfl, ?_, ?_⟩
  · exact h1
  · exact (Ext.alloc' w (.cells #[] 39)).grown h2 (by simp only [size_alloc]; omega) (by intro k hk; simp [Value.ownBlock] at hk; omega)
end Go.Proofs.YtfhdjekpdifajaaGreat

/- Boxes that hold a config or a play. No condition. -/
namespace Go.Proofs.YtfhdjekpdifajaaGreat
set_option linter.unusedVariables false
open Go.RowKit

structure CfgAt (w : World) (b : Nat) (C : Cfg) : Prop where
  lt : b < w.heap.size
  c0 : w.cell? ⟨b, 0, none⟩ = some (.int .i64 C.bits)
  c1 : w.cell? ⟨b, 1, none⟩ = some (.int .i64 C.rows)
  c2 : w.cell? ⟨b, 2, none⟩ = some (.int .i64 C.width)
  c3 : w.cell? ⟨b, 3, none⟩ = some (.int .i64 C.mode)
  c4 : w.cell? ⟨b, 4, none⟩ = some (.int .u64 C.seed)
theorem CfgAt.of {w : World} {b : Nat} {C : Cfg} {t : TypeId} (h : w.heap[b]? = some (.cells #[.int .i64 C.bits, .int .i64 C.rows, .int .i64 C.width, .int .i64 C.mode, .int .u64 C.seed] t (0, 0))) : CfgAt w b C :=
  ⟨lt_of h, (cell_of h 0).trans rfl, (cell_of h 1).trans rfl, (cell_of h 2).trans rfl, (cell_of h 3).trans rfl, (cell_of h 4).trans rfl⟩
theorem CfgAt.box {w : World} (C : Cfg) (t : TypeId) {n : Nat} (h : n = w.heap.size) : CfgAt (w.alloc (.cells #[.int .i64 C.bits, .int .i64 C.rows, .int .i64 C.width, .int .i64 C.mode, .int .u64 C.seed] t)) n C := CfgAt.of (t := t) (heap_at _ _ h)
theorem CfgAt.ext {w w' : World} {b : Nat} {C : Cfg} (h : CfgAt w b C) (he : Ext w w') : CfgAt w' b C :=
  have k := (bcell he).1
  ⟨Nat.lt_of_lt_of_le h.lt he.size, (k _ _ h.lt).trans h.c0, (k _ _ h.lt).trans h.c1, (k _ _ h.lt).trans h.c2, (k _ _ h.lt).trans h.c3, (k _ _ h.lt).trans h.c4⟩
theorem CfgAt.mod {S : Nat → Prop} {w w' : World} {b : Nat} {C : Cfg} (h : CfgAt w b C) (he : Mod S w w') (hs : ¬ S b) : CfgAt w' b C :=
  have k := fun o => mcell he h.lt hs o
  ⟨Nat.lt_of_lt_of_le h.lt he.size, (k _).trans h.c0, (k _).trans h.c1, (k _).trans h.c2, (k _).trans h.c3, (k _).trans h.c4⟩
structure PlayAt (w : World) (b : Nat) (x : Cfg) (lv : Int) (v : Value) : Prop where
  c : CfgAt w b x
  c5 : w.cell? ⟨b, 5, none⟩ = some (.int .i64 lv)
  c6 : w.cell? ⟨b, 6, none⟩ = some v
theorem PlayAt.box {w : World} (x : Cfg) (lv : Int) (v : Value) (t : TypeId) {n : Nat} (h : n = w.heap.size) : PlayAt (w.alloc (.cells #[.int .i64 x.bits, .int .i64 x.rows, .int .i64 x.width, .int .i64 x.mode, .int .u64 x.seed, .int .i64 lv, v] t)) n x lv v :=
  have h := heap_at w (.cells #[.int .i64 x.bits, .int .i64 x.rows, .int .i64 x.width, .int .i64 x.mode, .int .u64 x.seed, .int .i64 lv, v] t) h
  ⟨⟨lt_of h, (cell_of h 0).trans rfl, (cell_of h 1).trans rfl, (cell_of h 2).trans rfl, (cell_of h 3).trans rfl, (cell_of h 4).trans rfl⟩, (cell_of h 5).trans rfl, (cell_of h 6).trans rfl⟩
theorem PlayAt.ext {w w' : World} {b : Nat} {x : Cfg} {lv : Int} {v : Value} (h : PlayAt w b x lv v) (he : Ext w w') : PlayAt w' b x lv v :=
  have k := (bcell he).1
  ⟨h.c.ext he, (k _ _ h.c.lt).trans h.c5, (k _ _ h.c.lt).trans h.c6⟩
theorem PlayAt.mod {S : Nat → Prop} {w w' : World} {b : Nat} {x : Cfg} {lv : Int} {v : Value} (h : PlayAt w b x lv v) (he : Mod S w w') (hs : ¬ S b) : PlayAt w' b x lv v :=
  have k := fun o => mcell he h.c.lt hs o
  ⟨h.c.mod he hs, (k _).trans h.c5, (k _).trans h.c6⟩
theorem UpsAt.ext {w w' : World} {v : Value} {us : List (Int × Int)} (h : UpsAt w v us) (he : Ext w w') : UpsAt w' v us :=
  h.imp id (fun ⟨g, off, cap, hv, hl, hc⟩ => ⟨g, off, cap, hv, Nat.lt_of_lt_of_le hl he.size, fun k hk => ⟨((bcell he).1 _ _ hl).trans (hc k hk).1, ((bcell he).1 _ _ hl).trans (hc k hk).2⟩⟩)
theorem UpsAt.sl {w : World} {v : Value} {us : List (Int × Int)} (h : UpsAt w v us) : ∃ p c, v = .slice p us.length c := by
  rcases h with ⟨⟨_, rfl⟩, rfl⟩ | ⟨g, off, cap, rfl, _⟩
  · exact ⟨_, _, rfl⟩
  · exact ⟨_, _, rfl⟩
/-- One update of a slice, with its cells. -/
theorem UpsAt.one {w : World} {p : Option Addr} {n c : Nat} {us : List (Int × Int)} (h : UpsAt w (.slice p n c) us) {k : Nat} (hk : k < us.length) :
    ∃ g off, p = some ⟨g, off, none⟩ ∧ g < w.heap.size ∧ w.cell? ⟨g, off + k * 2, none⟩ = some (.int .u64 us[k].1) ∧ w.cell? ⟨g, off + k * 2 + 1, none⟩ = some (.int .i64 us[k].2) := by
  obtain ⟨g, off, cap, hvv, hgl, hcell⟩ := h.resolve_left (fun h => by rw [h.2] at hk; simp at hk)
  obtain ⟨rfl, rfl⟩ : p = some ⟨g, off, none⟩ ∧ n = us.length := by
    have := Value.slice.inj hvv
    exact ⟨this.1, this.2.1⟩
  have := hcell k hk
  have hget : us.getD k (0, 0) = us[k] := by simp [hk]
  rw [hget] at this
  exact ⟨g, off, rfl, hgl, this.1, this.2⟩
end Go.Proofs.YtfhdjekpdifajaaGreat

/- A slice of updates that the call itself makes. -/
namespace Go.Proofs.YtfhdjekpdifajaaGreat
set_option linter.unusedVariables false
open Go.RowKit

def updV (ps : List (Int × Int)) : List Value := ps.flatMap fun u => [.int .u64 u.1, .int .i64 u.2]
theorem updV_len (ps : List (Int × Int)) : (updV ps).length = ps.length * 2 := by
  induction ps with
  | nil => rfl
  | cons u ps ih =>
    have : updV (u :: ps) = .int .u64 u.1 :: .int .i64 u.2 :: updV ps := rfl
    rw [this, List.length_cons, List.length_cons, List.length_cons, ih]; omega
theorem updV_append (a b : List (Int × Int)) : updV (a ++ b) = updV a ++ updV b := by simp [updV]
theorem updV_at {ps : List (Int × Int)} : ∀ {k : Nat} (h : k < ps.length), (updV ps)[k * 2]? = some (.int .u64 (ps.getD k (0, 0)).1) ∧ (updV ps)[k * 2 + 1]? = some (.int .i64 (ps.getD k (0, 0)).2) := by
  induction ps with
  | nil => intro k h; simp at h
  | cons u ps ih =>
    intro k h
    have e : updV (u :: ps) = .int .u64 u.1 :: .int .i64 u.2 :: updV ps := rfl
    rw [e]
    cases k with
    | zero => exact ⟨rfl, rfl⟩
    | succ k =>
      have := ih (k := k) (by simpa using h)
      rw [show (k + 1) * 2 = k * 2 + 1 + 1 by omega]
      simp only [List.getElem?_cons_succ, List.getD_cons_succ]
      exact this
theorem UpsAt.of_row {w : World} {base : Nat} {e : TypeId} {v : Value} {n : Nat} {ps : List (Int × Int)} (h : w.ownsRow base e 2 v n (updV ps)) : UpsAt w v ps := by
  obtain ⟨h1, h2⟩ := h
  have hn : n = ps.length := by rw [updV_len] at h1; omega
  subst hn
  rcases h2 with ⟨h2, h3⟩ | ⟨g, cap, cur, rfl, _, hh, hc, _, hs, ht⟩
  · refine .inl ⟨⟨_, h2⟩, ?_⟩
    exact List.length_eq_zero_iff.1 h3
  · refine .inr ⟨g, 0, cap, rfl, lt_of hh, fun k hk => ?_⟩
    obtain ⟨a1, a2⟩ := updV_at hk
    rw [← ht] at a1 a2
    rw [List.getElem?_take_of_lt (by omega)] at a1 a2
    simp only [Array.getElem?_toList] at a1 a2
    rw [cell_of hh, cell_of hh, Nat.zero_add]
    exact ⟨a1, a2⟩
section
variable {P : Program}
/-- 's = append(s, u)', u an update, s a row of the call's own. -/
theorem wpList_appu (W : World) {ops : Array Oper} {rest : List Oper} {o : Oper} {a : Act} {Q : Exit → Act → World → Prop} (u : Int × Int) (l : List (Int × Int)) (v : Value) (base : Nat) (e e' : TypeId) (hown : W.ownsRow base e 2 v l.length (updV l)) (t : TypeId)
    (hgd : o.guard = none) (s y : Operand) (ho : o.op = .call { callee := .builtin .append, args := #[s, y], argTypes := #[t, t] })
    (i0 : TypeInfo) (z : Value) (hi : P.info? e = some i0) (hz0 : i0.zero = some z) (hz1 : i0.size = 2) (hz2 : i0.bytes = 16) (hzs : z.cells.size = 2) (ht : P.underlying t = some (.slice e))
    (hs : a.eval s = v) (hx : a.eval y = .slice (some ⟨W.heap.size, 0, none⟩) 1 1)
    (hl : l.length ≤ 1000000000) (hbase : base ≤ W.heap.size)
    (h : ∀ v' w', w'.ownsRow base e 2 v' (l ++ [u]).length (updV (l ++ [u])) → (W.alloc (.cells #[.int .u64 u.1, .int .i64 u.2] e')).grownBy w' v.ownBlock → (v'.ownBlock = v.ownBlock ∨ v'.ownBlock = some (W.heap.size + 1)) → wpList P ops Q rest (a.put o.dst v') w') :
    wpList P ops Q (o :: rest) a (W.alloc (.cells #[.int .u64 u.1, .int .i64 u.2] e')) := by
  refine wpList_append_sep _ hgd s y t ho base e i0 z 2 16 ht hi hz0 hz1 hz2 hzs (by decide) v l.length (updV l) hs (hown.alloc _) ⟨W.heap.size, 0, none⟩ 1 1 [.int .u64 u.1, .int .i64 u.2] hx rfl ?_ ?_ (by unfold maxLen; omega) (by omega) (by rw [size_alloc]; omega) ?_
  · intro j v hv
    have hj : j = 0 ∨ j = 1 := by
      have := (List.getElem?_eq_some_iff.1 hv).1
      simp at this; omega
    rcases hj with rfl | rfl
    · rw [show (⟨W.heap.size, 0, none⟩ : Addr).add 0 = ⟨W.heap.size, 0, none⟩ by simp [Addr.add], cell_of (heap_at W _ rfl) 0]
      exact hv
    · rw [show (⟨W.heap.size, 0, none⟩ : Addr).add 1 = ⟨W.heap.size, 1, none⟩ by simp [Addr.add], cell_of (heap_at W _ rfl) 1]
      exact hv
  · intro x hx
    simp at hx
    rcases hx with rfl | rfl <;> rfl
  · intro v' w' h1 h2 h3
    refine h v' w' ?_ h2 ?_
    · rw [List.length_append, updV_append]
      exact h1
    · rw [size_alloc] at h3; exact h3
end
end Go.Proofs.YtfhdjekpdifajaaGreat

/- sketch.Merge, sketch.Subtract of two sketches of one config and level; of unlike ones; of none. -/
namespace Go.Proofs.YtfhdjekpdifajaaGreat
set_option linter.unusedVariables false
open Go.RowKit

set_option maxRecDepth 20000 in
theorem GPlus_c (b c b2 c2 R W : Nat) (l l2 : List Int) (w : World) (h : GAt w b c R W l) (h2 : GAt w b2 c2 R W l2) (hI : allI l) (hI2 : allI l2) :
    Calls Tryz.prog 163 #[.pointer (some ⟨b, 0, none⟩), .pointer (some ⟨b2, 0, none⟩)] w (JoinPost w b c R W (plusL l l2)) := by
  go_enter Tryz.func163, Tryz.ntmps163
  go_wp2_with fail
  refine Calls.mono (allPlus_c b c b2 c2 R W l l2 w h h2 hI hI2) ?_
  rintro e w' h
  rcases h with ⟨ha, rfl, hg, hm⟩ | ⟨ha, rfl, hx⟩
  · go_wp2
    go_ret
    exact .inl ⟨ha, rfl, hg, hm⟩
  · go_wp2
    go_ret
    exact .inr ⟨ha, rfl, hx⟩
set_option maxRecDepth 20000 in
theorem GMinus_c (b c b2 c2 R W : Nat) (l l2 : List Int) (w : World) (h : GAt w b c R W l) (h2 : GAt w b2 c2 R W l2) (hI : allI l) (hI2 : allI l2) :
    Calls Tryz.prog 166 #[.pointer (some ⟨b, 0, none⟩), .pointer (some ⟨b2, 0, none⟩)] w (JoinPost w b c R W (minusL l l2)) := by
  go_enter Tryz.func166, Tryz.ntmps166
  go_wp2_with fail
  refine Calls.mono (allMinus_c b c b2 c2 R W l l2 w h h2 hI hI2) ?_
  rintro e w' h
  rcases h with ⟨ha, rfl, hg, hm⟩ | ⟨ha, rfl, hx⟩
  · go_wp2
    go_ret
    exact .inl ⟨ha, rfl, hg, hm⟩
  · go_wp2
    go_ret
    exact .inr ⟨ha, rfl, hx⟩
def alikeB (C : Cfg) (lv : Int) (C2 : Cfg) (lv2 : Int) : Prop := C2.bits = C.bits ∧ C2.rows = C.rows ∧ C2.width = C.width ∧ C2.mode = C.mode ∧ C2.seed = C.seed ∧ lv2 = lv
set_option maxRecDepth 20000 in
set_option maxHeartbeats 2000000 in
theorem alike_yes (s b c s2 b2 c2 : Nat) (C : Cfg) (lv : Int) (R W : Nat) (l l2 : List Int) (w : World) (h : SAt w s b c C lv R W l) (h2 : SAt w s2 b2 c2 C lv R W l2) :
    Calls Tryz.prog 162 #[.pointer (some ⟨s, 0, none⟩), .pointer (some ⟨s2, 0, none⟩)] w fun e w' => e = .returned (.bool true) ∧ Ext w w' := by
  have c1 := (cell_of h.ex 1).trans rfl
  have c2 := (cell_of h.ex 2).trans rfl
  have c3 := (cell_of h.ex 3).trans rfl
  have c4 := (cell_of h.ex 4).trans rfl
  have c5 := (cell_of h.ex 5).trans rfl
  have c6 := (cell_of h.ex 6).trans rfl
  have d1 := (cell_of h2.ex 1).trans rfl
  have d2 := (cell_of h2.ex 2).trans rfl
  have d3 := (cell_of h2.ex 3).trans rfl
  have d4 := (cell_of h2.ex 4).trans rfl
  have d5 := (cell_of h2.ex 5).trans rfl
  have d6 := (cell_of h2.ex 6).trans rfl
  have l1 := h.lts
  have l2 := h2.lts
  clear h h2
  go_enter Tryz.func162, Tryz.ntmps162
  go_wp2_with fail
  refine wp_region_after (by kernel_rfl) (by kernel_rfl) ?_
  repeat (go_big_quiet_step (fail))
  refine wpQuiet_nil ?_
  rintro _ ⟨xx, rfl⟩
  obtain ⟨w1, hb1⟩ := xx
  try dsimp only
  go_wp2
  go_ret
  exact ⟨rfl, hb1⟩
theorem alike_nil (s : Nat) (w : World) :
    Calls Tryz.prog 162 #[.pointer (some ⟨s, 0, none⟩), .pointer none] w fun e w' => e = .returned (.bool false) ∧ Ext w w' := by
  go_enter Tryz.func162, Tryz.ntmps162
  go_wp2_with fail
  refine wp_region_after (by kernel_rfl) (by kernel_rfl) ?_
  repeat (go_big_quiet_step (fail))
  refine wpQuiet_nil ?_
  rintro _ ⟨xx, rfl⟩
  obtain ⟨w1, hb1⟩ := xx
  try dsimp only
  go_wp2
  go_ret
  exact ⟨rfl, hb1⟩
/-- Where two configs, or levels, part first. -/
inductive PartsAt (C2 : Cfg) (lv2 : Int) (C : Cfg) (lv : Int) : Prop
  | p0 (h : (C2.bits == C.bits) = false)
  | p1 (h0 : (C2.bits == C.bits) = true) (h : (C2.rows == C.rows) = false)
  | p2 (h0 : (C2.bits == C.bits) = true) (h1 : (C2.rows == C.rows) = true) (h : (C2.width == C.width) = false)
  | p3 (h0 : (C2.bits == C.bits) = true) (h1 : (C2.rows == C.rows) = true) (h2 : (C2.width == C.width) = true) (h : (C2.mode == C.mode) = false)
  | p4 (h0 : (C2.bits == C.bits) = true) (h1 : (C2.rows == C.rows) = true) (h2 : (C2.width == C.width) = true) (h3 : (C2.mode == C.mode) = true) (h : (C2.seed == C.seed) = false)
  | p5 (h0 : (C2.bits == C.bits) = true) (h1 : (C2.rows == C.rows) = true) (h2 : (C2.width == C.width) = true) (h3 : (C2.mode == C.mode) = true) (h4 : (C2.seed == C.seed) = true) (h : (lv2 == lv) = false)
theorem parts_or (C2 : Cfg) (lv2 : Int) (C : Cfg) (lv : Int) : (C2 = C ∧ lv2 = lv) ∨ PartsAt C2 lv2 C lv := by
  cases h0 : C2.bits == C.bits with
  | false => exact .inr (.p0 h0)
  | true =>
    cases h1 : C2.rows == C.rows with
    | false => exact .inr (.p1 h0 h1)
    | true =>
      cases h2 : C2.width == C.width with
      | false => exact .inr (.p2 h0 h1 h2)
      | true =>
        cases h3 : C2.mode == C.mode with
        | false => exact .inr (.p3 h0 h1 h2 h3)
        | true =>
          cases h4 : C2.seed == C.seed with
          | false => exact .inr (.p4 h0 h1 h2 h3 h4)
          | true =>
            cases h5 : lv2 == lv with
            | false => exact .inr (.p5 h0 h1 h2 h3 h4 h5)
            | true =>
              refine .inl ⟨?_, by simpa using h5⟩
              cases C2; cases C
              simp only [beq_iff_eq] at h0 h1 h2 h3 h4
              simp [h0, h1, h2, h3, h4]
set_option maxRecDepth 20000 in
set_option maxHeartbeats 4000000 in
theorem alike_no (s b c s2 b2 c2 : Nat) (C C2 : Cfg) (lv lv2 : Int) (R W R2 W2 : Nat) (l l2 : List Int) (w : World) (h : SAt w s b c C lv R W l) (h2 : SAt w s2 b2 c2 C2 lv2 R2 W2 l2) (hp : PartsAt C2 lv2 C lv) :
    Calls Tryz.prog 162 #[.pointer (some ⟨s, 0, none⟩), .pointer (some ⟨s2, 0, none⟩)] w fun e w' => e = .returned (.bool false) ∧ Ext w w' := by
  have c1 := (cell_of h.ex 1).trans rfl
  have c2 := (cell_of h.ex 2).trans rfl
  have c3 := (cell_of h.ex 3).trans rfl
  have c4 := (cell_of h.ex 4).trans rfl
  have c5 := (cell_of h.ex 5).trans rfl
  have c6 := (cell_of h.ex 6).trans rfl
  have d1 := (cell_of h2.ex 1).trans rfl
  have d2 := (cell_of h2.ex 2).trans rfl
  have d3 := (cell_of h2.ex 3).trans rfl
  have d4 := (cell_of h2.ex 4).trans rfl
  have d5 := (cell_of h2.ex 5).trans rfl
  have d6 := (cell_of h2.ex 6).trans rfl
  have l1 := h.lts
  have l2 := h2.lts
  clear h h2
  rcases hp with h | ⟨h0, h⟩ | ⟨h0, h1, h⟩ | ⟨h0, h1, h2, h⟩ | ⟨h0, h1, h2, h3, h⟩ | ⟨h0, h1, h2, h3, h4, h⟩
  all_goals
    go_enter Tryz.func162, Tryz.ntmps162
    go_wp2_with fail
    refine wp_region_after (by kernel_rfl) (by kernel_rfl) ?_
    repeat (go_big_quiet_step (fail))
    refine wpQuiet_nil ?_
    rintro _ ⟨xx, rfl⟩
    obtain ⟨w1, hb1⟩ := xx
    try dsimp only
    go_wp2
    go_ret
    exact ⟨rfl, hb1⟩
def MergePost (w : World) (s b c : Nat) (C : Cfg) (lv : Int) (R W : Nat) (m : List Int) (e : Ending) (w' : World) : Prop :=
  (allI m ∧ e = .returned (.int .i64 0) ∧ SAt w' s b c C lv R W m ∧ Mod (fun k => k = c) w w') ∨ (¬ allI m ∧ e = .returned (.int .i64 4) ∧ Ext w w')
theorem SAt.putg {w w' : World} {s b c : Nat} {C : Cfg} {lv : Int} {R W : Nat} {l m : List Int} (h : SAt w s b c C lv R W l) (hg : GAt w' b c R W m) (hm : Mod (fun k => k = c) w w') (hi : allI m) : SAt w' s b c C lv R W m :=
  ⟨by rw [hm.block s h.lts h.nes]; exact h.ex, hg, h.ok, h.lo, h.hi, h.hr, h.hw, hi⟩
theorem join_ret {w w' : World} {b c R W : Nat} {m : List Int} {e : Ending} (h : JoinPost w b c R W m e w') : ∃ z, e = .returned (.int .i64 z) ∧ ((z = 0 ∧ allI m ∧ GAt w' b c R W m ∧ Mod (fun k => k = c) w w') ∨ (z = 4 ∧ ¬ allI m ∧ Ext w w')) := by
  rcases h with ⟨ha, rfl, hg, hm⟩ | ⟨ha, rfl, hx⟩
  · exact ⟨_, rfl, .inl ⟨rfl, ha, hg, hm⟩⟩
  · exact ⟨_, rfl, .inr ⟨rfl, ha, hx⟩⟩
set_option maxRecDepth 20000 in
set_option maxHeartbeats 4000000 in
theorem SMerge_c (s b c s2 b2 c2 : Nat) (C : Cfg) (lv : Int) (R W : Nat) (l l2 : List Int) (w : World) (h : SAt w s b c C lv R W l) (h2 : SAt w s2 b2 c2 C lv R W l2) :
    Calls Tryz.prog 110 #[.pointer (some ⟨s, 0, none⟩), .pointer (some ⟨s2, 0, none⟩)] w (MergePost w s b c C lv R W (plusL l l2)) := by
  have HH := Lib.hid h
  go_enter Tryz.func110, Tryz.ntmps110
  go_wp2_with fail
  refine Calls.mono (alike_yes s b c s2 b2 c2 C lv R W l l2 w h h2) ?_
  rintro e w1 ⟨rfl, hx1⟩
  have h' := h.ext hx1
  have h2' := h2.ext hx1
  have c0 := (cell_of h'.ex 0).trans rfl
  have d0 := (cell_of h2'.ex 0).trans rfl
  have l1 := h'.lts
  have l2' := h2'.lts
  clear h h2
  go_wp2_with fail
  have hC0 := af_drew w1
  have hG1 := h'.g.ext (Below.drew (Ext.refl w1))
  have hG2 := h2'.g.ext (Below.drew (Ext.refl w1))
  refine pi_start (fun w' => ∃ x : After w1, w' = x.w) [10] (by kernel_rfl) ?_
  refine pi_t 0 rfl (by kernel_rfl) (by kernel_rfl) (fun _ _ _ _ h => h) (fun K hK => ?_)
  go_big_quiet_op
  refine hK _ ?_
  clear hK K
  refine pi_t 1 rfl (by kernel_rfl) (by kernel_rfl) (fun _ _ _ _ h => h) (fun K hK => ?_)
  go_big_quiet_op
  refine hK _ ?_
  clear hK K
  refine pi_t 2 rfl (by kernel_rfl) (by kernel_rfl) (fun _ _ _ _ h => h) (fun K hK => ?_)
  go_big_quiet_op
  refine hK _ ?_
  clear hK K
  refine pi_t 3 rfl (by kernel_rfl) (by kernel_rfl) (fun _ _ _ _ h => h) (fun K hK => ?_)
  go_big_quiet_op
  refine hK _ ?_
  clear hK K
  refine pi_c 4 (by assumption) rfl (by kernel_rfl) (by kernel_rfl) (fun _ _ _ _ h => h) (fun K hK => ?_)
  go_big_quiet_op
  refine hK _ ?_
  clear hK K
  refine pi_t 5 rfl (by kernel_rfl) (by kernel_rfl) (fun _ _ _ _ h => h) (fun K hK => ?_)
  go_big_quiet_op
  refine hK _ ?_
  clear hK K
  refine pi_t 6 rfl (by kernel_rfl) (by kernel_rfl) (fun _ _ _ _ h => h) (fun K hK => ?_)
  go_big_quiet_op
  refine hK _ ?_
  clear hK K
  refine pi_t 7 rfl (by kernel_rfl) (by kernel_rfl) (fun _ _ _ _ h => h) (fun K hK => ?_)
  go_big_quiet_op
  refine hK _ ?_
  clear hK K
  refine pi_t 8 rfl (by kernel_rfl) (by kernel_rfl) (fun _ _ _ _ h => h) (fun K hK => ?_)
  go_big_quiet_op
  refine hK _ ?_
  clear hK K
  refine pi_c 9 (by assumption) rfl (by kernel_rfl) (by kernel_rfl) (fun _ _ _ _ h => h) (fun K hK => ?_)
  go_big_quiet_op
  refine hK _ ?_
  clear hK K
  refine pi_l 10 rfl (by kernel_rfl) (fun K hK => ?_)
  go_wp2_with (go_at_call 163; refine Calls.mono (GPlus_c b c b2 c2 R W l l2 _ hG1 hG2 h'.fit h2'.fit) ?_; intro e w2 hr0; obtain ⟨z, rfl, hr⟩ := join_ret hr0)
  refine hK _ _ (by simp) ?_
  clear hK K
  refine pi_t 11 rfl (by kernel_rfl) (by kernel_rfl) (fun _ _ _ _ h => h) (fun K hK => ?_)
  go_big_quiet_op
  refine hK _ ?_
  clear hK K
  refine pi_end (by kernel_rfl) ?_
  go_wp2
  go_ret
  have hx2 : Ext w w1.drew := Below.drew hx1
  rcases hr with ⟨rfl, ha, hg, hm⟩ | ⟨rfl, ha, hx⟩
  · have hm' : Mod (fun k => k = c) w w2 := (hx2.mod _).trans hm
    exact .inl ⟨ha, rfl, HH.out.putg hg hm' ha, hm'⟩
  · exact .inr ⟨ha, rfl, hx2.trans' hx⟩
set_option maxRecDepth 20000 in
set_option maxHeartbeats 4000000 in
theorem SSubtract_c (s b c s2 b2 c2 : Nat) (C : Cfg) (lv : Int) (R W : Nat) (l l2 : List Int) (w : World) (h : SAt w s b c C lv R W l) (h2 : SAt w s2 b2 c2 C lv R W l2) (hm : C.mode ≠ 2) :
    Calls Tryz.prog 115 #[.pointer (some ⟨s, 0, none⟩), .pointer (some ⟨s2, 0, none⟩)] w (MergePost w s b c C lv R W (minusL l l2)) := by
  have HH := Lib.hid h
  have hmb : (C.mode == 2) = false := by simpa using hm
  clear hm
  go_enter Tryz.func115, Tryz.ntmps115
  go_wp2_with fail
  refine Calls.mono (alike_yes s b c s2 b2 c2 C lv R W l l2 w h h2) ?_
  rintro e w1 ⟨rfl, hx1⟩
  have h' := h.ext hx1
  have h2' := h2.ext hx1
  have c0 := (cell_of h'.ex 0).trans rfl
  have c4 := (cell_of h'.ex 4).trans rfl
  have d0 := (cell_of h2'.ex 0).trans rfl
  have l1 := h'.lts
  have l2' := h2'.lts
  clear h h2
  go_wp2_with fail
  have hC0 := af_drew w1
  have hG1 := h'.g.ext (Below.drew (Ext.refl w1))
  have hG2 := h2'.g.ext (Below.drew (Ext.refl w1))
  refine pi_start (fun w' => ∃ x : After w1, w' = x.w) [10] (by kernel_rfl) ?_
  refine pi_t 0 rfl (by kernel_rfl) (by kernel_rfl) (fun _ _ _ _ h => h) (fun K hK => ?_)
  go_big_quiet_op
  refine hK _ ?_
  clear hK K
  refine pi_t 1 rfl (by kernel_rfl) (by kernel_rfl) (fun _ _ _ _ h => h) (fun K hK => ?_)
  go_big_quiet_op
  refine hK _ ?_
  clear hK K
  refine pi_t 2 rfl (by kernel_rfl) (by kernel_rfl) (fun _ _ _ _ h => h) (fun K hK => ?_)
  go_big_quiet_op
  refine hK _ ?_
  clear hK K
  refine pi_t 3 rfl (by kernel_rfl) (by kernel_rfl) (fun _ _ _ _ h => h) (fun K hK => ?_)
  go_big_quiet_op
  refine hK _ ?_
  clear hK K
  refine pi_c 4 (by assumption) rfl (by kernel_rfl) (by kernel_rfl) (fun _ _ _ _ h => h) (fun K hK => ?_)
  go_big_quiet_op
  refine hK _ ?_
  clear hK K
  refine pi_t 5 rfl (by kernel_rfl) (by kernel_rfl) (fun _ _ _ _ h => h) (fun K hK => ?_)
  go_big_quiet_op
  refine hK _ ?_
  clear hK K
  refine pi_t 6 rfl (by kernel_rfl) (by kernel_rfl) (fun _ _ _ _ h => h) (fun K hK => ?_)
  go_big_quiet_op
  refine hK _ ?_
  clear hK K
  refine pi_t 7 rfl (by kernel_rfl) (by kernel_rfl) (fun _ _ _ _ h => h) (fun K hK => ?_)
  go_big_quiet_op
  refine hK _ ?_
  clear hK K
  refine pi_t 8 rfl (by kernel_rfl) (by kernel_rfl) (fun _ _ _ _ h => h) (fun K hK => ?_)
  go_big_quiet_op
  refine hK _ ?_
  clear hK K
  refine pi_c 9 (by assumption) rfl (by kernel_rfl) (by kernel_rfl) (fun _ _ _ _ h => h) (fun K hK => ?_)
  go_big_quiet_op
  refine hK _ ?_
  clear hK K
  refine pi_l 10 rfl (by kernel_rfl) (fun K hK => ?_)
  go_wp2_with (go_at_call 166; refine Calls.mono (GMinus_c b c b2 c2 R W l l2 _ hG1 hG2 h'.fit h2'.fit) ?_; intro e w2 hr0; obtain ⟨z, rfl, hr⟩ := join_ret hr0)
  refine hK _ _ (by simp) ?_
  clear hK K
  refine pi_t 11 rfl (by kernel_rfl) (by kernel_rfl) (fun _ _ _ _ h => h) (fun K hK => ?_)
  go_big_quiet_op
  refine hK _ ?_
  clear hK K
  refine pi_end (by kernel_rfl) ?_
  go_wp2
  go_ret
  have hx2 : Ext w w1.drew := Below.drew hx1
  rcases hr with ⟨rfl, ha, hg, hm⟩ | ⟨rfl, ha, hx⟩
  · have hm' : Mod (fun k => k = c) w w2 := (hx2.mod _).trans hm
    exact .inl ⟨ha, rfl, HH.out.putg hg hm' ha, hm'⟩
  · exact .inr ⟨ha, rfl, hx2.trans' hx⟩
/-- Unlike ones, or none: both are refused. -/
theorem SMerge_nil (s : Nat) (w : World) :
    Calls Tryz.prog 110 #[.pointer (some ⟨s, 0, none⟩), .pointer none] w fun e w' => e = .returned (.int .i64 5) ∧ Ext w w' := by
  go_enter Tryz.func110, Tryz.ntmps110
  go_wp2_with fail
  refine Calls.mono (alike_nil s w) ?_
  rintro e w1 ⟨rfl, hx1⟩
  go_wp2
  go_ret
  exact ⟨rfl, hx1⟩
theorem SSubtract_nil (s : Nat) (w : World) :
    Calls Tryz.prog 115 #[.pointer (some ⟨s, 0, none⟩), .pointer none] w fun e w' => e = .returned (.int .i64 5) ∧ Ext w w' := by
  go_enter Tryz.func115, Tryz.ntmps115
  go_wp2_with fail
  refine Calls.mono (alike_nil s w) ?_
  rintro e w1 ⟨rfl, hx1⟩
  go_wp2
  go_ret
  exact ⟨rfl, hx1⟩
theorem SMerge_no (s b c s2 b2 c2 : Nat) (C C2 : Cfg) (lv lv2 : Int) (R W R2 W2 : Nat) (l l2 : List Int) (w : World) (h : SAt w s b c C lv R W l) (h2 : SAt w s2 b2 c2 C2 lv2 R2 W2 l2) (hp : PartsAt C2 lv2 C lv) :
    Calls Tryz.prog 110 #[.pointer (some ⟨s, 0, none⟩), .pointer (some ⟨s2, 0, none⟩)] w fun e w' => e = .returned (.int .i64 5) ∧ Ext w w' := by
  go_enter Tryz.func110, Tryz.ntmps110
  go_wp2_with fail
  refine Calls.mono (alike_no s b c s2 b2 c2 C C2 lv lv2 R W R2 W2 l l2 w h h2 hp) ?_
  rintro e w1 ⟨rfl, hx1⟩
  go_wp2
  go_ret
  exact ⟨rfl, hx1⟩
theorem SSubtract_no (s b c s2 b2 c2 : Nat) (C C2 : Cfg) (lv lv2 : Int) (R W R2 W2 : Nat) (l l2 : List Int) (w : World) (h : SAt w s b c C lv R W l) (h2 : SAt w s2 b2 c2 C2 lv2 R2 W2 l2) (hp : PartsAt C2 lv2 C lv) :
    Calls Tryz.prog 115 #[.pointer (some ⟨s, 0, none⟩), .pointer (some ⟨s2, 0, none⟩)] w fun e w' => e = .returned (.int .i64 5) ∧ Ext w w' := by
  go_enter Tryz.func115, Tryz.ntmps115
  go_wp2_with fail
  refine Calls.mono (alike_no s b c s2 b2 c2 C C2 lv lv2 R W R2 W2 l l2 w h h2 hp) ?_
  rintro e w1 ⟨rfl, hx1⟩
  go_wp2
  go_ret
  exact ⟨rfl, hx1⟩
end Go.Proofs.YtfhdjekpdifajaaGreat

/- sketch.Load: cells that are set; too few or too many change nothing. -/
namespace Go.Proofs.YtfhdjekpdifajaaGreat
set_option linter.unusedVariables false
open Go.RowKit

section
variable {P : Program} {w : World}
theorem run_append_zero (base : Nat) (t ty e : TypeId) (i : TypeInfo) (size : Nat) (ht : P.underlying t = some (.slice e)) (hi : P.info? e = some i)
    (v : Value) (n : Nat) (xs : List Value) (hown : w.ownsRow base e size v n xs) (p : Option Addr) (c : Nat) :
    (Builtin.append_ #[t, t] ty #[v, .slice p 0 c]).run P w = .ok v w := by
  rcases hown.2 with ⟨rfl, rfl⟩ | ⟨g, cap, cur, rfl, _, _, hnc, _⟩
  · cases p <;> simp [Builtin.append_, run_underlying ht, sizeOf, typeInfo, hi, Builtin.lenOf, Builtin.firstCells, loadCells, loadCellsFrom]
  · cases p <;> simp [Builtin.append_, run_underlying ht, sizeOf, typeInfo, hi, Builtin.lenOf, Builtin.firstCells, loadCells, loadCellsFrom, hnc, storeCells]
theorem wpList_append_zero {ops : Array Oper} {rest : List Oper} {o : Oper} {a : Act} {Q : Exit → Act → World → Prop} (hgd : o.guard = none) (s x : Operand) (t : TypeId)
    (ho : o.op = .call { callee := .builtin .append, args := #[s, x], argTypes := #[t, t] })
    (base : Nat) (e : TypeId) (i : TypeInfo) (size : Nat) (ht : P.underlying t = some (.slice e)) (hi : P.info? e = some i)
    (v : Value) (n : Nat) (xs : List Value) (hs : a.eval s = v) (hown : w.ownsRow base e size v n xs) (p : Option Addr) (c : Nat) (hx : a.eval x = .slice p 0 c)
    (h : wpList P ops Q rest (a.put o.dst v) w) : wpList P ops Q (o :: rest) a w := by
  refine wpList_plain hgd fun K hK => ?_
  have hrun := run_append_zero (P := P) (w := w) base t o.type e i size ht hi v n xs hown p c
  unfold Oper.wp
  simp [execOp, ho, resolve, invoke, builtin, hs, hx, hrun, Result.andThen]
  exact hK _ _ h
end
/-- A world in which what W has is as it was, but for block c. -/
structure Aft (c : Nat) (W : World) where
  w : World
  h : Mod (fun i => i = c) W w
instance (c : Nat) (W : World) : Nonempty (Aft c W) := ⟨⟨W, Mod.refl _ W⟩⟩
@[go_sem] theorem Aft.cell {c : Nat} {W : World} (x : Aft c W) {b o : Nat} (h : b < W.heap.size) (hn : b ≠ c) : x.w.cell? ⟨b, o, none⟩ = W.cell? ⟨b, o, none⟩ := mcell x.h h hn o
theorem aft_drew (c : Nat) (W : World) : ∃ x : Aft c W, W.drew = x.w := ⟨⟨_, Ext.mod _ (Below.drew (Ext.refl W))⟩, rfl⟩
theorem mod_put' {w w' : World} {g j : Nat} (h : Mod (fun i => i = g) w w') (u : Value) : Mod (fun i => i = g) w (w'.setCell ⟨g, j, none⟩ u) :=
  ⟨h.os, h.tape, h.output, by rw [size_setCell]; exact h.size, fun k hk hn => (setCell_other _ _ hn).trans (h.block k hk hn)⟩
theorem aft_put {c : Nat} {W w : World} {o : Nat} (h : ∃ x : Aft c W, w = x.w) (u : Value) : ∃ x : Aft c W, w.setCell ⟨c, o, none⟩ u = x.w := by
  obtain ⟨x, rfl⟩ := h
  exact ⟨⟨_, mod_put' x.h u⟩, rfl⟩
theorem Put_i (b c R W : Nat) (l : List Int) (w : World) (h : GAt w b c R W l) (rI kI : Int) (r k : Nat) (hrI : rI = r) (hkI : kI = k) (hr : r < R) (hk : k < W) (n : Int) :
    Calls Tryz.prog 257 #[.pointer (some ⟨b, 0, none⟩), .int .i64 rI, .int .i64 kI, .int .i64 n] w fun e w' => e = .returned (.bool true) ∧ w.setCell ⟨c, r * W + k, none⟩ (.int .i64 n) = w' := by
  subst hrI hkI
  exact Put_c b c R W l w h r k hr hk n
theorem SAt.setl {w : World} {s b c : Nat} {C : Cfg} {lv : Int} {R W : Nat} {l : List Int} (h : SAt w s b c C lv R W l) {i : Nat} (hi : i < l.length) {n : Int} (hn : I64 n) : SAt (w.setCell ⟨c, i, none⟩ (.int .i64 n)) s b c C lv R W (l.set i n) :=
  ⟨by rw [setCell_other _ _ h.nes]; exact h.ex, h.g.set hi n, h.ok, h.lo, h.hi, h.hr, h.hw, fun x hx => by
    rcases List.mem_or_eq_of_mem_set hx with h1 | h1
    · exact h.fit x h1
    · rw [h1]; exact hn⟩
set_option maxRecDepth 20000 in
set_option maxHeartbeats 4000000 in
theorem Load_yes (s b c : Nat) (C : Cfg) (lv : Int) (R W : Nat) (l m : List Int) (v : Value) (w : World) (h : SAt w s b c C lv R W l) (hv : IntsAt w v m) (hI : allI m) (hl : m.length = R * W)
    (hne : ∀ g off n cap, v = .slice (some ⟨g, off, none⟩) n cap → g ≠ c) :
    Calls Tryz.prog 251 #[.pointer (some ⟨s, 0, none⟩), v] w fun e w' => e = .returned (.bool true) ∧ SAt w' s b c C lv R W m ∧ Mod (fun k => k = c) w w' := by
  have hN1 : 1 ≤ R * W := Nat.mul_pos h.g.r1 h.g.w1
  have hN2 : R * W ≤ 1024 := Nat.le_trans (Nat.mul_le_mul h.g.r2 h.g.w2) (by decide)
  obtain ⟨vg, vo, vcap, rfl, hvl, hvc⟩ := hv.slice (by rw [hl]; omega)
  have hgc : vg ≠ c := hne _ _ _ _ rfl
  have hLl := h.g.len
  have hp0 : C.rows * C.width = ((R * W : Nat) : Int) := by rw [h.hr, h.hw]; simp
  have hW1 := h.g.w1
  have hR1 := h.g.r1
  have hdiv : ∀ k, k < R * W → k / W < R ∧ k % W < W ∧ k / W * W + k % W = k := by
    intro k hk
    refine ⟨Nat.div_lt_of_lt_mul (by rw [Nat.mul_comm]; exact hk), Nat.mod_lt _ hW1, ?_⟩
    have := Nat.div_add_mod k W; rw [Nat.mul_comm] at this; exact this
  rw [hl] at hvc ⊢
  generalize R * W = N at *
  have hp1 : 0 ≤ C.rows * C.width := by rw [hp0]; omega
  have hp2 : C.rows * C.width ≤ 1024 := by rw [hp0]; omega
  have hpt : ((N : Int) != C.rows * C.width) = false := by rw [hp0]; simp
  have c1 := (cell_of h.ex 2).trans rfl
  have c2 := (cell_of h.ex 3).trans rfl
  have lts := h.lts
  have HH := Lib.hid h
  have HVC := Lib.hid hvc
  have HL := Lib.hid hl
  have HLL := Lib.hid hLl
  have HD := Lib.hid hdiv
  have HW := Lib.hid h.hw
  clear h hv hl hne hvc hLl hp0 hdiv
  go_enter Tryz.func251, Tryz.ntmps251
  go_wp2_with fail
  refine wp_region_after (by kernel_rfl) (by kernel_rfl) ?_
  repeat (go_big_quiet_step (fail))
  refine wpQuiet_nil ?_
  rintro _ ⟨xx, rfl⟩
  obtain ⟨w1, hb1⟩ := xx
  try dsimp only
  have hS1 := HH.out.ext hb1
  have hlt' : vg < w1.heap.size := Nat.lt_of_lt_of_le hvl hb1.size
  have hsz1 := hb1.size
  clear c1 c2 hpt hp1 hp2
  go_wp2_with fail
  go_loopw [23] (fun u23 wr => ∃ k : Nat, k ≤ N ∧ u23 = .int .i64 k ∧ SAt wr s b c C lv R W (mixL (fun j => m.getD j 0) (fun j => l.getD j 0) k N) ∧ Mod (fun i => i = c) w1 wr) (fun u23 _ => N - (intOf u23).toNat)
  case atStart =>
    refine ⟨0, Nat.zero_le _, rfl, ?_, Mod.refl _ _⟩
    have e : mixL (fun j => m.getD j 0) (fun j => l.getD j 0) 0 N = l := by
      apply list_ext_getD
      · rw [mixL_len, HLL.out]
      · intro i hi
        rw [mixL_len] at hi
        rw [mixL_get _ _ hi, if_neg (by omega)]
    rw [e]; exact hS1
  case round =>
    obtain ⟨k, hk, rfl, hSr, hM⟩ := hrel
    have hMs := hM.size
    by_cases hgo : k < N
    · have x0 := (mcell hM (b := vg) hlt' hgc (vo + k)).trans (((bcell hb1).1 _ _ hvl).trans (HVC.out k hgo))
      have c0 := (cell_of hSr.ex 0).trans rfl
      have c2 := (cell_of hSr.ex 3).trans (show _ = some (Value.int .i64 (W : Int)) by rw [← HW.out]; rfl)
      obtain ⟨dv1, dv2, dv3⟩ := HD.out k hgo
      have lr := hSr.lts
      have hlr : vg < wr.heap.size := by omega
      have hxi : I64 (m.getD k 0) := getD_i64 hI k
      have hms := mixL_set (fun j => m.getD j 0) (fun j => l.getD j 0) (k := k) (n := N)
      have HMS := Lib.hid hms
      have HSR := Lib.hid hSr
      have HDV := Lib.hid dv3
      have hsc := HSR.out.nes
      have hq : (k : Int) / (W : Int) = ((k / W : Nat) : Int) := by simp
      have hqk : k / W ≤ k := Nat.div_le_self _ _
      have hq1 : 0 ≤ (k : Int) / (W : Int) := by rw [hq]; exact Int.natCast_nonneg _
      have h9 : k / W ≤ 1024 := Nat.le_trans hqk (by omega)
      have hq2 : (k : Int) / (W : Int) ≤ 1024 := by rw [hq]; exact_mod_cast h9
      clear hq
      have hw0 : ((W : Int) == 0) = false := by simp; omega
      have hw1 : (W = 0) = False := by simp; omega
      clear hms hSr dv3
      generalize hx : m.getD k 0 = x at *
      have HX := Lib.hid hx
      clear hx
      go_wp2_with fail
      have hC0 := aft_drew c wr
      have hG := HSR.out.g.ext (Below.drew (Ext.refl wr))
      refine pi_start (fun w' => ∃ x : Aft c wr, w' = x.w) [] (by kernel_rfl) ?_
      refine pi_t 0 rfl (by kernel_rfl) (by kernel_rfl) (fun _ _ _ _ h => h) (fun K hK => ?_)
      go_big_quiet_op
      refine hK _ ?_
      clear hK K
      refine pi_t 1 rfl (by kernel_rfl) (by kernel_rfl) (fun _ _ _ _ h => h) (fun K hK => ?_)
      go_big_quiet_op
      refine hK _ ?_
      clear hK K
      refine pi_t 2 rfl (by kernel_rfl) (by kernel_rfl) (fun _ _ _ _ h => h) (fun K hK => ?_)
      go_big_quiet_op
      refine hK _ ?_
      clear hK K
      refine pi_t 3 rfl (by kernel_rfl) (by kernel_rfl) (fun _ _ _ _ h => h) (fun K hK => ?_)
      go_big_quiet_op
      refine hK _ ?_
      clear hK K
      refine pi_c 4 (by assumption) rfl (by kernel_rfl) (by kernel_rfl) (fun _ _ _ _ h => h) (fun K hK => ?_)
      go_big_quiet_op
      refine hK _ ?_
      clear hK K
      refine pi_t 5 rfl (by kernel_rfl) (by kernel_rfl) (fun _ _ _ _ h => h) (fun K hK => ?_)
      go_big_quiet_op
      refine hK _ ?_
      clear hK K
      refine pi_t 6 rfl (by kernel_rfl) (by kernel_rfl) (fun _ _ _ _ h => h) (fun K hK => ?_)
      go_big_quiet_op
      refine hK _ ?_
      clear hK K
      refine pi_t 7 rfl (by kernel_rfl) (by kernel_rfl) (fun _ _ _ _ h => h) (fun K hK => ?_)
      go_big_quiet_op
      refine hK _ ?_
      clear hK K
      refine pi_t 8 rfl (by kernel_rfl) (by kernel_rfl) (fun _ _ _ _ h => h) (fun K hK => ?_)
      go_big_quiet_op
      refine hK _ ?_
      clear hK K
      refine pi_t 9 rfl (by kernel_rfl) (by kernel_rfl) (fun _ _ _ _ h => h) (fun K hK => ?_)
      go_big_quiet_op
      refine hK _ ?_
      clear hK K
      refine pi_c 10 (by assumption) rfl (by kernel_rfl) (by kernel_rfl) (fun _ _ _ _ h => h) (fun K hK => ?_)
      go_big_quiet_op
      refine hK _ ?_
      clear hK K
      refine pi_t 11 rfl (by kernel_rfl) (by kernel_rfl) (fun _ _ _ _ h => h) (fun K hK => ?_)
      go_big_quiet_op
      refine hK _ ?_
      clear hK K
      refine pi_t 12 rfl (by kernel_rfl) (by kernel_rfl) (fun _ _ _ _ h => h) (fun K hK => ?_)
      go_big_quiet_op
      refine hK _ ?_
      clear hK K
      refine pi_t 13 rfl (by kernel_rfl) (by kernel_rfl) (fun _ _ _ _ h => h) (fun K hK => ?_)
      go_big_quiet_op
      refine hK _ ?_
      clear hK K
      refine pi_t 14 rfl (by kernel_rfl) (by kernel_rfl) (fun _ _ _ _ h => h) (fun K hK => ?_)
      go_big_quiet_op
      refine hK _ ?_
      clear hK K
      refine pi_t 15 rfl (by kernel_rfl) (by kernel_rfl) (fun _ _ _ _ h => h) (fun K hK => ?_)
      go_big_quiet_op
      refine hK _ ?_
      clear hK K
      refine pi_t 16 rfl (by kernel_rfl) (by kernel_rfl) (fun _ _ _ _ h => h) (fun K hK => ?_)
      go_big_quiet_op
      refine hK _ ?_
      clear hK K
      refine pi_c 17 (by assumption) rfl (by kernel_rfl) (by kernel_rfl) (fun _ _ _ _ h => h) (fun K hK => ?_)
      go_big_quiet_op
      refine hK _ ?_
      clear hK K
      refine pi_t 18 rfl (by kernel_rfl) (by kernel_rfl) (fun _ _ _ _ h => h) (fun K hK => ?_)
      go_big_quiet_op
      refine hK _ ?_
      clear hK K
      refine pi_t 19 rfl (by kernel_rfl) (by kernel_rfl) (fun _ _ _ _ h => h) (fun K hK => ?_)
      go_big_quiet_op
      refine hK _ ?_
      clear hK K
      refine pi_l 20 rfl (by kernel_rfl) (fun K hK => ?_)
      go_wp2_with (go_at_call 257; refine (Put_i b c R W _ _ hG _ _ (k / W) (k % W) (by simp) (by simp) dv1 dv2 x).mono ?_; rintro e w' ⟨rfl, rfl⟩)
      refine hK _ _ (fun _ h => aft_put h _) ?_
      clear hK K
      refine pi_end (by kernel_rfl) ?_
      rw [HDV.out]
      go_wp2
      go_roundw
      case rel =>
        refine ⟨k + 1, by omega, by go_num, ?_, ?_⟩
        · rw [← HMS.out]
          exact (HSR.out.setl (by rw [mixL_len]; exact hgo) hxi).ext (Below.drew (Ext.refl _))
        · exact (mod_put' hM _).trans (Ext.mod _ (Below.drew (Ext.refl _)))
      case measure => simp [intOf]; omega
    · obtain rfl : k = N := by omega
      have e : mixL (fun j => m.getD j 0) (fun j => l.getD j 0) k k = m := by
        apply list_ext_getD
        · rw [mixL_len, HL.out]
        · intro i hi
          rw [mixL_len] at hi
          rw [mixL_get _ _ hi, if_pos hi]
      rw [e] at hSr
      have HSR := Lib.hid hSr
      clear hSr e
      go_wp2
      go_ret
      exact ⟨rfl, HSR.out, (hb1.mod _).trans hM⟩
set_option maxRecDepth 20000 in
set_option maxHeartbeats 4000000 in
theorem Load_no (s b c : Nat) (C : Cfg) (lv : Int) (R W : Nat) (l : List Int) (p : Option Addr) (n cap : Nat) (w : World) (h : SAt w s b c C lv R W l) (hl : n ≠ R * W) :
    Calls Tryz.prog 251 #[.pointer (some ⟨s, 0, none⟩), .slice p n cap] w fun e w' => e = .returned (.bool false) ∧ Ext w w' := by
  have hN1 : 1 ≤ R * W := Nat.mul_pos h.g.r1 h.g.w1
  have hN2 : R * W ≤ 1024 := Nat.le_trans (Nat.mul_le_mul h.g.r2 h.g.w2) (by decide)
  have hp0 : C.rows * C.width = ((R * W : Nat) : Int) := by rw [h.hr, h.hw]; simp
  generalize R * W = N at *
  have hp1 : 0 ≤ C.rows * C.width := by rw [hp0]; omega
  have hp2 : C.rows * C.width ≤ 1024 := by rw [hp0]; omega
  have hpt : ((n : Int) != C.rows * C.width) = true := by rw [hp0]; simp; omega
  have c1 := (cell_of h.ex 2).trans rfl
  have c2 := (cell_of h.ex 3).trans rfl
  have lts := h.lts
  clear h hp0
  go_enter Tryz.func251, Tryz.ntmps251
  go_wp2_with fail
  refine wp_region_after (by kernel_rfl) (by kernel_rfl) ?_
  repeat (go_big_quiet_step (fail))
  refine wpQuiet_nil ?_
  rintro _ ⟨xx, rfl⟩
  obtain ⟨w1, hb1⟩ := xx
  try dsimp only
  go_wp2
  go_ret
  exact ⟨rfl, hb1⟩
end Go.Proofs.YtfhdjekpdifajaaGreat

/- Package exact: an array that lies in memory; what its calls tell, and what they change. -/
namespace Go.Proofs.YtfhdjekpdifajaaGreat
set_option linter.unusedVariables false
open Go.RowKit

/-- Is a level exact? -/
def isX (C : Cfg) (lv : Int) : Bool := decide (keys C lv ≤ C.width)
def kN (C : Cfg) (lv : Int) : Nat := (keys C lv).toNat
theorem kN_eq {C : Cfg} (h : C.Ok) {lv : Int} (h0 : 0 ≤ lv) : keys C lv = (kN C lv : Int) := by
  have := (keys_bd C h lv h0).1
  unfold kN; omega
set_option maxRecDepth 20000 in
set_option maxHeartbeats 2000000 in
theorem Exact_c (C : Cfg) (h : C.Ok) (lv : Int) (h0 : 0 ≤ lv) (h1 : lv ≤ C.bits) (w : World) :
    Calls Tryz.prog 97 #[.agg #[.int .i64 C.bits, .int .i64 C.rows, .int .i64 C.width, .int .i64 C.mode, .int .u64 C.seed], .int .i64 lv] w fun e w' => e = .returned (.bool (isX C lv)) ∧ Ext w w' := by
  have hk := keys_bd C h lv h0
  have w1' := h.w1
  have w2' := h.w2
  have hI : isX C lv = decide (keys C lv ≤ C.width) := rfl
  go_enter Tryz.func97, Tryz.ntmps97
  go_wp2_with fail
  refine (Keys_c C h lv h0 h1 _).mono ?_
  rintro e w1 ⟨rfl, hb⟩
  have hE : Ext w w1 := by (repeat' (first | exact Ext.refl _ | assumption | apply Ext.allocR | apply Ext.drewR | apply Ext.drewNR | (refine Ext.trans' ?_ (by assumption))))
  have hC := (CfgAt.box (w := w) C 24 rfl).ext hb
  have c2 := hC.c2
  have cl := hC.lt
  have HI := Lib.hid hI
  generalize keys C lv = N at *
  clear hb hI hC
  by_cases hx : N ≤ C.width
  · go_wp2
    go_ret
    exact ⟨by rw [HI.out, decide_eq_true hx]; rfl, hE⟩
  · go_wp2
    go_ret
    exact ⟨by rw [HI.out, decide_eq_false (by omega)]; rfl, hE⟩
/-- An array. -/
structure EAt (w : World) (s b c : Nat) (C : Cfg) (lv : Int) (K : Nat) (l : List Int) : Prop where
  ex : w.heap[s]? = some (.cells #[.int .i64 C.bits, .int .i64 C.rows, .int .i64 C.width, .int .i64 C.mode, .int .u64 C.seed, .int .i64 lv, .pointer (some ⟨b, 0, none⟩)] 244 (0, 0))
  g : GAt w b c 1 K l
  ok : C.Ok
  lo : 0 ≤ lv
  hi : lv ≤ C.bits
  hk : keys C lv = K
  fit : ∀ x ∈ l, I64 x
theorem EAt.lts {w : World} {s b c : Nat} {C : Cfg} {lv : Int} {K : Nat} {l : List Int} (h : EAt w s b c C lv K l) : s < w.heap.size := lt_of h.ex
theorem EAt.keep {w w' : World} {s b c : Nat} {C : Cfg} {lv : Int} {K : Nat} {l : List Int} (h : EAt w s b c C lv K l) (hs : w'.heap[s]? = w.heap[s]?) (hb : w'.heap[b]? = w.heap[b]?) (hc : w'.heap[c]? = w.heap[c]?) : EAt w' s b c C lv K l :=
  ⟨by rw [hs]; exact h.ex, h.g.keep hb hc, h.ok, h.lo, h.hi, h.hk, h.fit⟩
theorem EAt.ext {w w' : World} {s b c : Nat} {C : Cfg} {lv : Int} {K : Nat} {l : List Int} (h : EAt w s b c C lv K l) (he : Ext w w') : EAt w' s b c C lv K l :=
  h.keep (he.block s h.lts) (he.block b h.g.ltb) (he.block c h.g.ltc)
theorem EAt.nes {w : World} {s b c : Nat} {C : Cfg} {lv : Int} {K : Nat} {l : List Int} (h : EAt w s b c C lv K l) : s ≠ c := by
  intro e
  obtain ⟨cap, h1, h2⟩ := h.g.ex
  obtain ⟨cur, h3, _⟩ := h2.ex
  have := h.ex
  rw [e, h3] at this
  simp at this
theorem EAt.mod {S : Nat → Prop} {w w' : World} {s b c : Nat} {C : Cfg} {lv : Int} {K : Nat} {l : List Int} (h : EAt w s b c C lv K l) (he : Mod S w w') (h1 : ¬ S s) (h2 : ¬ S b) (h3 : ¬ S c) : EAt w' s b c C lv K l :=
  h.keep (he.block s h.lts h1) (he.block b h.g.ltb h2) (he.block c h.g.ltc h3)
theorem EAt.len {w : World} {s b c : Nat} {C : Cfg} {lv : Int} {K : Nat} {l : List Int} (h : EAt w s b c C lv K l) : l.length = K := by
  rw [h.g.len, Nat.one_mul]
def ENewPost (w : World) (C : Cfg) (lv : Int) (N : Nat) (e : Ending) (w' : World) : Prop :=
  ∃ s b c, e = .returned (.tuple #[.pointer (some ⟨s, 0, none⟩), .int .i64 0]) ∧ EAt w' s b c C lv N (zs N) ∧ w.heap.size ≤ s ∧ w.heap.size ≤ b ∧ w.heap.size ≤ c ∧ Ext w w'
set_option maxRecDepth 20000 in
set_option maxHeartbeats 2000000 in
theorem ENew_c (C : Cfg) (h : C.Ok) (lv : Int) (h0 : 0 ≤ lv) (h1 : lv ≤ C.bits) (N : Nat) (hN : keys C lv = N) (hx : isX C lv = true) (w : World) :
    Calls Tryz.prog 98 #[.agg #[.int .i64 C.bits, .int .i64 C.rows, .int .i64 C.width, .int .i64 C.mode, .int .u64 C.seed], .int .i64 lv] w (ENewPost w C lv N) := by
  have hk := keys_bd C h lv h0
  have w2' := h.w2
  have hx' : keys C lv ≤ C.width := by simpa [isX] using hx
  have HX := Lib.hid hx
  have HN := Lib.hid hN
  rw [hN] at hk hx'
  clear hx hN
  go_enter Tryz.func98, Tryz.ntmps98
  go_wp2_with fail
  refine (Exact_c C h lv h0 h1 _).mono ?_
  rintro e w1 ⟨rfl, hb⟩
  rw [HX.out]
  have hE : Ext w w1 := by (repeat' (first | exact Ext.refl _ | assumption | apply Ext.allocR | apply Ext.drewR | apply Ext.drewNR | (refine Ext.trans' ?_ (by assumption))))
  have hC := (CfgAt.box (w := w) C 24 rfl).ext hb
  have d0 := hC.c0
  have d1 := hC.c1
  have d2 := hC.c2
  have d3 := hC.c3
  have d4 := hC.c4
  have cl := hC.lt
  clear hb hC
  go_wp2
  have hC0 := af_drew w1
  refine pi_start (fun w' => ∃ x : After w1, w' = x.w) [] (by kernel_rfl) ?_
  refine pi_t 1 rfl (by kernel_rfl) (by kernel_rfl) (fun _ _ _ _ h => h) (fun K hK => ?_)
  go_big_quiet_op
  refine hK _ ?_
  clear hK K
  refine pi_t 3 rfl (by kernel_rfl) (by kernel_rfl) (fun _ _ _ _ h => h) (fun K hK => ?_)
  go_big_quiet_op
  refine hK _ ?_
  clear hK K
  refine pi_c 0 (by assumption) rfl (by kernel_rfl) (by kernel_rfl) (fun _ _ _ _ h => h) (fun K hK => ?_)
  go_big_quiet_op
  refine hK _ ?_
  clear hK K
  refine pi_c 2 (by assumption) rfl (by kernel_rfl) (by kernel_rfl) (fun _ _ _ _ h => h) (fun K hK => ?_)
  go_big_quiet_op
  refine hK _ ?_
  clear hK K
  refine pi_l 4 rfl (by kernel_rfl) (fun K hK => ?_)
  go_wp2_with (go_at_call 88; refine (Keys_c C h lv h0 h1 _).mono ?_; rintro e w2 ⟨rfl, hx2⟩)
  refine hK _ _ (fun _ h => af_step h hx2) ?_
  clear hK K
  rw [HN.out]
  refine pi_t 5 rfl (by kernel_rfl) (by kernel_rfl) (fun _ _ _ _ h => h) (fun K hK => ?_)
  go_big_quiet_op
  refine hK _ ?_
  clear hK K
  refine pi_l 6 rfl (by kernel_rfl) (fun K hK => ?_)
  go_wp2_with (go_at_call 154; refine (GNew_c 1 N _ (by decide) (by decide) (by omega) (by omega)).mono ?_; rintro e w3 ⟨gb, gc, rfl, hG, hgb, hgc, hx3⟩)
  refine hK _ _ (fun _ h => af_step h hx3) ?_
  clear hK K
  refine pi_t 7 rfl (by kernel_rfl) (by kernel_rfl) (fun _ _ _ _ h => h) (fun K hK => ?_)
  go_big_quiet_op
  refine hK _ ?_
  clear hK K
  refine pi_l 8 rfl (by kernel_rfl) (fun K hK => ?_)
  go_wp2
  refine hK _ _ (fun _ h => af_step h (Ext.alloc' _ _)) ?_
  clear hK K
  refine pi_t 9 rfl (by kernel_rfl) (by kernel_rfl) (fun _ _ _ _ h => h) (fun K hK => ?_)
  go_big_quiet_op
  refine hK _ ?_
  clear hK K
  refine pi_t 10 rfl (by kernel_rfl) (by kernel_rfl) (fun _ _ _ _ h => h) (fun K hK => ?_)
  go_big_quiet_op
  refine hK _ ?_
  clear hK K
  refine pi_end (by kernel_rfl) ?_
  go_wp2
  go_ret2
  have hx2' : Ext w1 w2 := Ext.trans' (Below.drew (Ext.refl w1)) hx2
  have hs2 := hx2'.size
  have hs3 := hx3.size
  have hs1 := hE.size
  rw [Nat.one_mul] at hG
  refine ⟨w3.heap.size, gb, gc, rfl, ⟨?_, hG.keep (heap_old _ _ hG.ltb) (heap_old _ _ hG.ltc), h, h0, h1, HN.out, ?_⟩, by omega, by omega, by omega, by (repeat' (first | exact Ext.refl _ | assumption | apply Ext.allocR | apply Ext.drewR | apply Ext.drewNR | (refine Ext.trans' ?_ (by assumption))))⟩
  · rw [heap_at _ _ rfl]
  · intro x hx
    simp only [zs, List.mem_replicate] at hx
    rw [hx.2]
    unfold I64; omega
end Go.Proofs.YtfhdjekpdifajaaGreat

/- Package exact: what its calls tell, and what they change. -/
namespace Go.Proofs.YtfhdjekpdifajaaGreat
set_option linter.unusedVariables false
open Go.RowKit

theorem EConfig_c (s b c : Nat) (C : Cfg) (lv : Int) (N : Nat) (l : List Int) (w : World) (h : EAt w s b c C lv N l) :
    Calls Tryz.prog 120 #[.pointer (some ⟨s, 0, none⟩)] w fun e w' => e = .returned (.agg #[.int .i64 C.bits, .int .i64 C.rows, .int .i64 C.width, .int .i64 C.mode, .int .u64 C.seed]) ∧ Ext w w' := by
  have c0 := (cell_of h.ex 0).trans rfl
  have c1 := (cell_of h.ex 1).trans rfl
  have c2 := (cell_of h.ex 2).trans rfl
  have c3 := (cell_of h.ex 3).trans rfl
  have c4 := (cell_of h.ex 4).trans rfl
  have hlt := h.lts
  clear h
  go_enter Tryz.func120, Tryz.ntmps120
  go_wp2
  exact bodyPost_ret (v := .agg #[.int .i64 C.bits, .int .i64 C.rows, .int .i64 C.width, .int .i64 C.mode, .int .u64 C.seed]) (by simp [results, Tryz.results120, go_sem]) rfl ⟨rfl, by (repeat' (first | exact Ext.refl _ | assumption | apply Ext.allocR | apply Ext.drewR | apply Ext.drewNR | (refine Ext.trans' ?_ (by assumption))))⟩
theorem ELevel_c (s b c : Nat) (C : Cfg) (lv : Int) (N : Nat) (l : List Int) (w : World) (h : EAt w s b c C lv N l) :
    Calls Tryz.prog 121 #[.pointer (some ⟨s, 0, none⟩)] w fun e w' => e = .returned (.int .i64 lv) ∧ w = w' := by
  have c5 := (cell_of h.ex 5).trans rfl
  have hlt := h.lts
  clear h
  go_enter Tryz.func121, Tryz.ntmps121
  go_wp2
  go_ret
  exact ⟨rfl, rfl⟩
theorem ECells_c (s b c : Nat) (C : Cfg) (lv : Int) (N : Nat) (l : List Int) (w : World) (h : EAt w s b c C lv N l) :
    Calls Tryz.prog 123 #[.pointer (some ⟨s, 0, none⟩)] w fun e w' => ∃ v, e = .returned v ∧ w'.ownsRow w.heap.size 2 1 v l.length (ints l) ∧ (v = .slice none 0 0 → False) ∧ Ext w w' := by
  have c6 := (cell_of h.ex 6).trans rfl
  have hlt := h.lts
  have hg := h.g
  clear h
  go_enter Tryz.func123, Tryz.ntmps123
  go_wp2_with fail
  refine (GCells_c b c 1 N l _ hg).mono ?_
  rintro e w1 ⟨v, rfl, h1, h2, h3⟩
  go_wp2
  go_ret
  exact ⟨v, rfl, h1, h2, h3⟩
/-- What Check tells of an array. -/
def errX (C : Cfg) (lv : Int) (l : List Int) (key d : Int) : Int :=
  bif decide (key < keys C lv) then (bif decide (C.mode = 2) && decide (d < 0) then 3 else bif fitB (l.getD key.toNat 0 + d) then 0 else 4) else 2
def updX (l : List Int) (key d : Int) : List Int := l.set key.toNat (l.getD key.toNat 0 + d)
theorem errX_key {C : Cfg} {lv : Int} {l : List Int} {key d : Int} (h : keys C lv ≤ key) : errX C lv l key d = 2 := by
  unfold errX; rw [decide_eq_false (by omega)]; rfl
theorem errX_neg {C : Cfg} {lv : Int} {l : List Int} {key d : Int} (h : key < keys C lv) (hm : C.mode = 2) (hd : d < 0) : errX C lv l key d = 3 := by
  unfold errX; rw [decide_eq_true h, decide_eq_true hm, decide_eq_true hd]; rfl
theorem errX_sum {C : Cfg} {lv : Int} {l : List Int} {key d : Int} (h : key < keys C lv) (hm : ¬ (C.mode = 2 ∧ d < 0)) : errX C lv l key d = bif fitB (l.getD key.toNat 0 + d) then 0 else 4 := by
  unfold errX
  rw [decide_eq_true h]
  have : (decide (C.mode = 2) && decide (d < 0)) = false := by
    rw [Bool.and_eq_false_iff, decide_eq_false_iff_not, decide_eq_false_iff_not]
    by_cases hc : C.mode = 2
    · exact .inr (fun h => hm ⟨hc, h⟩)
    · exact .inl hc
  rw [this]; rfl
theorem At_k {b c N : Nat} {l : List Int} {w : World} (h : GAt w b c 1 N l) {key : Int} (h0 : 0 ≤ key) (h1 : key < N) :
    Calls Tryz.prog 265 #[.pointer (some ⟨b, 0, none⟩), .int .i64 0, .int .i64 key] w fun e w' => e = .returned (.int .i64 (l.getD key.toNat 0)) ∧ w = w' := by
  obtain ⟨k, rfl⟩ := Int.eq_ofNat_of_zero_le h0
  have := At_c b c 1 N l w h 0 k (by decide) (by omega)
  rw [Nat.zero_mul, Nat.zero_add] at this
  exact this
theorem Put_k {b c N : Nat} {l : List Int} {w : World} (h : GAt w b c 1 N l) {key : Int} (h0 : 0 ≤ key) (h1 : key < N) (n : Int) :
    Calls Tryz.prog 257 #[.pointer (some ⟨b, 0, none⟩), .int .i64 0, .int .i64 key, .int .i64 n] w fun e w' => e = .returned (.bool true) ∧ w.setCell ⟨c, key.toNat, none⟩ (.int .i64 n) = w' := by
  obtain ⟨k, rfl⟩ := Int.eq_ofNat_of_zero_le h0
  have := Put_c b c 1 N l w h 0 k (by decide) (by omega) n
  rw [Nat.zero_mul, Nat.zero_add] at this
  exact this
set_option maxRecDepth 20000 in
set_option maxHeartbeats 2000000 in
theorem ECheck_c (s b c : Nat) (C : Cfg) (lv : Int) (N : Nat) (l : List Int) (key d : Int) (w : World) (h : EAt w s b c C lv N l) (hd : I64 d) (hk : U64 key) :
    Calls Tryz.prog 282 #[.pointer (some ⟨s, 0, none⟩), .int .u64 key, .int .i64 d] w fun e w' => e = .returned (.int .i64 (errX C lv l key d)) ∧ Ext w w' := by
  have c3 := (cell_of h.ex 3).trans rfl
  have c6 := (cell_of h.ex 6).trans rfl
  have hlt := h.lts
  have hg := h.g
  have hN := h.hk
  have w2' := h.g.w2
  have hy := getD_i64 h.fit key.toNat
  obtain ⟨hk0, hk1⟩ := hk
  have HG := Lib.hid hg
  have HN := Lib.hid hN
  have hd' := hd
  unfold I64 at hd
  by_cases hkey : N ≤ key
  · have he := errX_key (l := l) (d := d) (show keys C lv ≤ key by rw [hN]; exact hkey)
    have HE := Lib.hid he
    clear he h hg hN
    go_enter Tryz.func282, Tryz.ntmps282
    go_wp2_with fail
    refine (Width_c b c 1 N l _ HG.out).mono ?_
    rintro e w1 ⟨rfl, rfl⟩
    go_wp2
    go_ret
    exact ⟨by rw [HE.out]; rfl, Ext.refl _⟩
  · have hkl : key < keys C lv := by rw [hN]; omega
    by_cases hm : C.mode = 2 ∧ d < 0
    · obtain ⟨hm1, hm2⟩ := hm
      have he := errX_neg (l := l) hkl hm1 hm2
      have hmb : (C.mode == 2) = true := by simpa using hm1
      have HE := Lib.hid he
      clear he h hg hN hm1 hkl
      go_enter Tryz.func282, Tryz.ntmps282
      go_wp2_with fail
      refine (Width_c b c 1 N l _ HG.out).mono ?_
      rintro e w1 ⟨rfl, rfl⟩
      go_wp2
      go_ret
      exact ⟨by rw [HE.out]; rfl, Ext.refl _⟩
    · have he := errX_sum (l := l) hkl hm
      have HE := Lib.hid he
      have hmb : ((C.mode == 2) = false) ∨ ((C.mode == 2) = true ∧ ¬ d < 0) := by
        by_cases hc : C.mode = 2
        · exact .inr ⟨by simpa using hc, fun h => hm ⟨hc, h⟩⟩
        · exact .inl (by simpa using hc)
      obtain ⟨y, hyy⟩ : ∃ y, l.getD key.toNat 0 = y := ⟨_, rfl⟩
      rw [hyy] at hy
      have HY := Lib.hid hyy
      clear he h hg hN hm hkl hyy
      have hkN : key < N := by omega
      rcases hmb with hmb | ⟨hmb, hdn⟩
      all_goals
        by_cases hf : I64 (y + d)
        · have hfb := fitB_yes hf
          go_enter Tryz.func282, Tryz.ntmps282
          go_wp2_with fail
          refine (Width_c b c 1 N l _ HG.out).mono ?_
          rintro e w1 ⟨rfl, rfl⟩
          go_wp2_with fail
          refine (At_k HG.out hk0 hkN).mono ?_
          rintro e w1 ⟨rfl, rfl⟩
          rw [HY.out]
          go_wp2_with fail
          refine (Plus_c y d hy hd' _).mono ?_
          rintro e w1 ⟨rfl, hx1⟩
          rw [hfb]
          go_wp2
          go_ret
          exact ⟨by rw [HE.out, HY.out, hfb]; rfl, hx1⟩
        · have hfb := fitB_no hf
          go_enter Tryz.func282, Tryz.ntmps282
          go_wp2_with fail
          refine (Width_c b c 1 N l _ HG.out).mono ?_
          rintro e w1 ⟨rfl, rfl⟩
          go_wp2_with fail
          refine (At_k HG.out hk0 hkN).mono ?_
          rintro e w1 ⟨rfl, rfl⟩
          rw [HY.out]
          go_wp2_with fail
          refine (Plus_c y d hy hd' _).mono ?_
          rintro e w1 ⟨rfl, hx1⟩
          rw [hfb]
          go_wp2
          go_ret
          exact ⟨by rw [HE.out, HY.out, hfb]; rfl, hx1⟩
/-- What Update does to an array. -/
def EUpdPost (w : World) (s b c : Nat) (C : Cfg) (lv : Int) (N : Nat) (l : List Int) (key d : Int) (e : Ending) (w' : World) : Prop :=
  e = .returned (.int .i64 (errX C lv l key d)) ∧
    ((errX C lv l key d = 0 ∧ EAt w' s b c C lv N (updX l key d) ∧ Mod (fun k => k = c) w w') ∨ (errX C lv l key d ≠ 0 ∧ Ext w w'))
theorem errX_zero {C : Cfg} {lv : Int} {l : List Int} {key d : Int} (h : errX C lv l key d = 0) : key < keys C lv ∧ I64 (l.getD key.toNat 0 + d) := by
  rcases Int.lt_or_le key (keys C lv) with h' | h'
  · refine ⟨h', ?_⟩
    by_cases hm : C.mode = 2 ∧ d < 0
    · rw [errX_neg h' hm.1 hm.2] at h; cases h
    · rw [errX_sum h' hm] at h
      by_cases hf : I64 (l.getD key.toNat 0 + d)
      · exact hf
      · rw [fitB_no hf] at h; cases h
  · rw [errX_key h'] at h; cases h
theorem EAt.setl {w : World} {s b c : Nat} {C : Cfg} {lv : Int} {N : Nat} {l : List Int} (h : EAt w s b c C lv N l) {i : Nat} (hi : i < l.length) {n : Int} (hn : I64 n) : EAt (w.setCell ⟨c, i, none⟩ (.int .i64 n)) s b c C lv N (l.set i n) :=
  ⟨by rw [setCell_other _ _ h.nes]; exact h.ex, h.g.set hi n, h.ok, h.lo, h.hi, h.hk, fun x hx => by
    rcases List.mem_or_eq_of_mem_set hx with h1 | h1
    · exact h.fit x h1
    · rw [h1]; exact hn⟩
set_option maxRecDepth 20000 in
set_option maxHeartbeats 2000000 in
theorem EUpdate_c (s b c : Nat) (C : Cfg) (lv : Int) (N : Nat) (l : List Int) (key d : Int) (w : World) (h : EAt w s b c C lv N l) (hd : I64 d) (hk : U64 key) :
    Calls Tryz.prog 285 #[.pointer (some ⟨s, 0, none⟩), .int .u64 key, .int .i64 d] w (EUpdPost w s b c C lv N l key d) := by
  by_cases he0 : errX C lv l key d = 0
  · have hz := errX_zero he0
    have hN := h.hk
    have w2' := h.g.w2
    have hkN : key < N := by omega
    have hsum := hz.2
    have hlen := h.len
    have HE := Lib.hid he0
    obtain ⟨hk0, hk1⟩ := hk
    clear he0 hz
    go_enter Tryz.func285, Tryz.ntmps285
    go_wp2_with fail
    refine (ECheck_c s b c C lv N l key d _ h hd ⟨hk0, hk1⟩).mono ?_
    rintro e w1 ⟨rfl, hx1⟩
    rw [HE.out]
    have h' := h.ext hx1
    have c6 := (cell_of h'.ex 6).trans rfl
    have hlt := h'.lts
    have hG := h'.g.ext (Below.drew (Ext.refl w1))
    obtain ⟨y, hyy⟩ : ∃ y, l.getD key.toNat 0 = y := ⟨_, rfl⟩
    have HY := Lib.hid hyy
    have HS := Lib.hid hsum
    rw [hyy] at hsum
    unfold I64 at hsum hd
    clear hyy hN
    have HH := Lib.hid h'
    clear h h'
    go_wp2
    have hC0 := af_drew w1
    refine pi_start (fun w' => ∃ x : After w1, w' = x.w) [15] (by kernel_rfl) ?_
    refine pi_t 0 rfl (by kernel_rfl) (by kernel_rfl) (fun _ _ _ _ h => h) (fun K hK => ?_)
    go_big_quiet_op
    refine hK _ ?_
    clear hK K
    refine pi_t 1 rfl (by kernel_rfl) (by kernel_rfl) (fun _ _ _ _ h => h) (fun K hK => ?_)
    go_big_quiet_op
    refine hK _ ?_
    clear hK K
    refine pi_t 2 rfl (by kernel_rfl) (by kernel_rfl) (fun _ _ _ _ h => h) (fun K hK => ?_)
    go_big_quiet_op
    refine hK _ ?_
    clear hK K
    refine pi_t 4 rfl (by kernel_rfl) (by kernel_rfl) (fun _ _ _ _ h => h) (fun K hK => ?_)
    go_big_quiet_op
    refine hK _ ?_
    clear hK K
    refine pi_t 5 rfl (by kernel_rfl) (by kernel_rfl) (fun _ _ _ _ h => h) (fun K hK => ?_)
    go_big_quiet_op
    refine hK _ ?_
    clear hK K
    refine pi_t 6 rfl (by kernel_rfl) (by kernel_rfl) (fun _ _ _ _ h => h) (fun K hK => ?_)
    go_big_quiet_op
    refine hK _ ?_
    clear hK K
    refine pi_t 7 rfl (by kernel_rfl) (by kernel_rfl) (fun _ _ _ _ h => h) (fun K hK => ?_)
    go_big_quiet_op
    refine hK _ ?_
    clear hK K
    refine pi_t 8 rfl (by kernel_rfl) (by kernel_rfl) (fun _ _ _ _ h => h) (fun K hK => ?_)
    go_big_quiet_op
    refine hK _ ?_
    clear hK K
    refine pi_t 10 rfl (by kernel_rfl) (by kernel_rfl) (fun _ _ _ _ h => h) (fun K hK => ?_)
    go_big_quiet_op
    refine hK _ ?_
    clear hK K
    refine pi_t 11 rfl (by kernel_rfl) (by kernel_rfl) (fun _ _ _ _ h => h) (fun K hK => ?_)
    go_big_quiet_op
    refine hK _ ?_
    clear hK K
    refine pi_t 13 rfl (by kernel_rfl) (by kernel_rfl) (fun _ _ _ _ h => h) (fun K hK => ?_)
    go_big_quiet_op
    refine hK _ ?_
    clear hK K
    refine pi_c 3 (by assumption) rfl (by kernel_rfl) (by kernel_rfl) (fun _ _ _ _ h => h) (fun K hK => ?_)
    go_big_quiet_op
    refine hK _ ?_
    clear hK K
    refine pi_l 9 rfl (by kernel_rfl) (fun K hK => ?_)
    go_wp2
    refine hK _ _ (fun _ h => h) ?_
    clear hK K
    refine pi_l 12 rfl (by kernel_rfl) (fun K hK => ?_)
    go_wp2_with (go_at_call 265; refine (At_k hG hk0 hkN).mono ?_; rintro e w2 ⟨rfl, rfl⟩; rw [HY.out])
    refine hK _ _ (fun _ h => h) ?_
    clear hK K
    refine pi_t 14 rfl (by kernel_rfl) (by kernel_rfl) (fun _ _ _ _ h => h) (fun K hK => ?_)
    go_big_quiet_op
    refine hK _ ?_
    clear hK K
    refine pi_l 15 rfl (by kernel_rfl) (fun K hK => ?_)
    go_wp2_with (go_at_call 257; refine (Put_k hG hk0 hkN (y + d)).mono ?_; rintro e w2 ⟨rfl, rfl⟩)
    refine hK _ _ (by simp) ?_
    clear hK K
    refine pi_end (by kernel_rfl) ?_
    go_wp2
    go_ret
    refine ⟨by rw [HE.out]; rfl, .inl ⟨HE.out, ?_, ?_⟩⟩
    · have := (HH.out.ext (Below.drew (Ext.refl w1))).setl (i := key.toNat) (by rw [hlen]; omega) (n := y + d) (by unfold I64; omega)
      unfold updX
      rw [HY.out]
      exact this
    · exact (hx1.mod _).trans ((Ext.mod _ (Below.drew (Ext.refl w1))).trans (mod_set _ _ _ _))
  · have hb : (errX C lv l key d == 0) = false := by simpa using he0
    go_enter Tryz.func285, Tryz.ntmps285
    go_wp2_with fail
    refine (ECheck_c s b c C lv N l key d _ h hd hk).mono ?_
    rintro e w0 ⟨rfl, hx00⟩
    go_wp2
    go_ret
    exact ⟨rfl, .inr ⟨he0, hx00⟩⟩
set_option maxRecDepth 20000 in
theorem EPoint_c (s b c : Nat) (C : Cfg) (lv : Int) (N : Nat) (l : List Int) (key : Int) (w : World) (h : EAt w s b c C lv N l) (hk0 : 0 ≤ key) (hk1 : key < keys C lv) :
    Calls Tryz.prog 284 #[.pointer (some ⟨s, 0, none⟩), .int .u64 key] w fun e w' => e = .returned (.tuple #[.int .i64 (l.getD key.toNat 0), .int .i64 0]) ∧ w = w' := by
  have c6 := (cell_of h.ex 6).trans rfl
  have hlt := h.lts
  have hG := h.g
  have w2' := h.g.w2
  have hkN : key < N := by rw [← h.hk]; exact hk1
  have HG := Lib.hid hG
  clear h hG hk1
  go_enter Tryz.func284, Tryz.ntmps284
  go_wp2_with fail
  refine (Width_c b c 1 N l _ HG.out).mono ?_
  rintro e w1 ⟨rfl, rfl⟩
  go_wp2_with fail
  refine (At_k HG.out hk0 hkN).mono ?_
  rintro e w1 ⟨rfl, rfl⟩
  go_wp2
  go_ret2
  exact ⟨rfl, rfl⟩
set_option maxRecDepth 20000 in
theorem EPoint_no (s b c : Nat) (C : Cfg) (lv : Int) (N : Nat) (l : List Int) (key : Int) (w : World) (h : EAt w s b c C lv N l) (hk : U64 key) (hk1 : keys C lv ≤ key) :
    Calls Tryz.prog 284 #[.pointer (some ⟨s, 0, none⟩), .int .u64 key] w fun e w' => e = .returned (.tuple #[.int .i64 0, .int .i64 2]) ∧ w = w' := by
  have c6 := (cell_of h.ex 6).trans rfl
  have hlt := h.lts
  have hG := h.g
  have w2' := h.g.w2
  have hkN : N ≤ key := by rw [← h.hk]; exact hk1
  have HG := Lib.hid hG
  obtain ⟨hk0, hk2⟩ := hk
  clear h hG hk1
  go_enter Tryz.func284, Tryz.ntmps284
  go_wp2_with fail
  refine (Width_c b c 1 N l _ HG.out).mono ?_
  rintro e w1 ⟨rfl, rfl⟩
  go_wp2
  go_ret2
  exact ⟨rfl, rfl⟩
set_option maxRecDepth 20000 in
set_option maxHeartbeats 2000000 in
theorem ECopy_c (s b c : Nat) (C : Cfg) (lv : Int) (N : Nat) (l : List Int) (w : World) (h : EAt w s b c C lv N l) :
    Calls Tryz.prog 117 #[.pointer (some ⟨s, 0, none⟩)] w fun e w' => ∃ s' b' c', e = .returned (.pointer (some ⟨s', 0, none⟩)) ∧ EAt w' s' b' c' C lv N l ∧ w.heap.size ≤ s' ∧ w.heap.size ≤ b' ∧ w.heap.size ≤ c' ∧ Ext w w' := by
  have c0 := (cell_of h.ex 0).trans rfl
  have c1 := (cell_of h.ex 1).trans rfl
  have c2 := (cell_of h.ex 2).trans rfl
  have c3 := (cell_of h.ex 3).trans rfl
  have c4 := (cell_of h.ex 4).trans rfl
  have c5 := (cell_of h.ex 5).trans rfl
  have c6 := (cell_of h.ex 6).trans rfl
  have hlt := h.lts
  have hG := h.g.ext (Below.drew (Ext.refl w))
  have HH := Lib.hid h
  clear h
  go_enter Tryz.func117, Tryz.ntmps117
  go_wp2
  have hC0 := af_drew w
  refine pi_start (fun w' => ∃ x : After w, w' = x.w) [] (by kernel_rfl) ?_
  refine pi_t 0 rfl (by kernel_rfl) (by kernel_rfl) (fun _ _ _ _ h => h) (fun K hK => ?_)
  go_big_quiet_op
  refine hK _ ?_
  clear hK K
  refine pi_t 1 rfl (by kernel_rfl) (by kernel_rfl) (fun _ _ _ _ h => h) (fun K hK => ?_)
  go_big_quiet_op
  refine hK _ ?_
  clear hK K
  refine pi_t 2 rfl (by kernel_rfl) (by kernel_rfl) (fun _ _ _ _ h => h) (fun K hK => ?_)
  go_big_quiet_op
  refine hK _ ?_
  clear hK K
  refine pi_t 4 rfl (by kernel_rfl) (by kernel_rfl) (fun _ _ _ _ h => h) (fun K hK => ?_)
  go_big_quiet_op
  refine hK _ ?_
  clear hK K
  refine pi_t 5 rfl (by kernel_rfl) (by kernel_rfl) (fun _ _ _ _ h => h) (fun K hK => ?_)
  go_big_quiet_op
  refine hK _ ?_
  clear hK K
  refine pi_t 6 rfl (by kernel_rfl) (by kernel_rfl) (fun _ _ _ _ h => h) (fun K hK => ?_)
  go_big_quiet_op
  refine hK _ ?_
  clear hK K
  refine pi_t 8 rfl (by kernel_rfl) (by kernel_rfl) (fun _ _ _ _ h => h) (fun K hK => ?_)
  go_big_quiet_op
  refine hK _ ?_
  clear hK K
  refine pi_t 9 rfl (by kernel_rfl) (by kernel_rfl) (fun _ _ _ _ h => h) (fun K hK => ?_)
  go_big_quiet_op
  refine hK _ ?_
  clear hK K
  refine pi_t 10 rfl (by kernel_rfl) (by kernel_rfl) (fun _ _ _ _ h => h) (fun K hK => ?_)
  go_big_quiet_op
  refine hK _ ?_
  clear hK K
  refine pi_c 3 (by assumption) rfl (by kernel_rfl) (by kernel_rfl) (fun _ _ _ _ h => h) (fun K hK => ?_)
  go_big_quiet_op
  refine hK _ ?_
  clear hK K
  refine pi_c 7 (by assumption) rfl (by kernel_rfl) (by kernel_rfl) (fun _ _ _ _ h => h) (fun K hK => ?_)
  go_big_quiet_op
  refine hK _ ?_
  clear hK K
  refine pi_c 11 (by assumption) rfl (by kernel_rfl) (by kernel_rfl) (fun _ _ _ _ h => h) (fun K hK => ?_)
  go_big_quiet_op
  refine hK _ ?_
  clear hK K
  refine pi_l 12 rfl (by kernel_rfl) (fun K hK => ?_)
  go_wp2_with (go_at_call 167; refine (GCopy_c b c 1 N l _ hG).mono ?_; rintro e w1 ⟨b', c', rfl, hg', hb', hc', hx1⟩)
  refine hK _ _ (fun _ h => af_step h hx1) ?_
  clear hK K
  refine pi_t 13 rfl (by kernel_rfl) (by kernel_rfl) (fun _ _ _ _ h => h) (fun K hK => ?_)
  go_big_quiet_op
  refine hK _ ?_
  clear hK K
  refine pi_l 14 rfl (by kernel_rfl) (fun K hK => ?_)
  go_wp2
  refine hK _ _ (fun _ h => af_step h (Ext.alloc' _ _)) ?_
  clear hK K
  refine pi_t 15 rfl (by kernel_rfl) (by kernel_rfl) (fun _ _ _ _ h => h) (fun K hK => ?_)
  go_big_quiet_op
  refine hK _ ?_
  clear hK K
  refine pi_end (by kernel_rfl) ?_
  go_wp2
  go_ret
  have hx1' : Ext w w1 := Ext.trans' (Below.drew (Ext.refl w)) hx1
  have hs1 := hx1'.size
  have H := HH.out
  refine ⟨w1.heap.size, b', c', rfl, ⟨heap_at _ _ rfl, hg'.keep (heap_old _ _ hg'.ltb) (heap_old _ _ hg'.ltc), H.ok, H.lo, H.hi, H.hk, H.fit⟩, hs1, hb', hc', by (repeat' (first | exact Ext.refl _ | assumption | apply Ext.allocR | apply Ext.drewR | apply Ext.drewNR | (refine Ext.trans' ?_ (by assumption))))⟩
set_option maxRecDepth 20000 in
set_option maxHeartbeats 2000000 in
theorem SCopy_c (s b c : Nat) (C : Cfg) (lv : Int) (R W : Nat) (l : List Int) (w : World) (h : SAt w s b c C lv R W l) :
    Calls Tryz.prog 118 #[.pointer (some ⟨s, 0, none⟩)] w fun e w' => ∃ s' b' c', e = .returned (.pointer (some ⟨s', 0, none⟩)) ∧ SAt w' s' b' c' C lv R W l ∧ w.heap.size ≤ s' ∧ w.heap.size ≤ b' ∧ w.heap.size ≤ c' ∧ Ext w w' := by
  have c0 := (cell_of h.ex 0).trans rfl
  have c1 := (cell_of h.ex 1).trans rfl
  have c2 := (cell_of h.ex 2).trans rfl
  have c3 := (cell_of h.ex 3).trans rfl
  have c4 := (cell_of h.ex 4).trans rfl
  have c5 := (cell_of h.ex 5).trans rfl
  have c6 := (cell_of h.ex 6).trans rfl
  have hlt := h.lts
  have hG := h.g.ext (Below.drew (Ext.refl w))
  have HH := Lib.hid h
  clear h
  go_enter Tryz.func118, Tryz.ntmps118
  go_wp2
  have hC0 := af_drew w
  refine pi_start (fun w' => ∃ x : After w, w' = x.w) [] (by kernel_rfl) ?_
  refine pi_t 0 rfl (by kernel_rfl) (by kernel_rfl) (fun _ _ _ _ h => h) (fun K hK => ?_)
  go_big_quiet_op
  refine hK _ ?_
  clear hK K
  refine pi_t 1 rfl (by kernel_rfl) (by kernel_rfl) (fun _ _ _ _ h => h) (fun K hK => ?_)
  go_big_quiet_op
  refine hK _ ?_
  clear hK K
  refine pi_t 2 rfl (by kernel_rfl) (by kernel_rfl) (fun _ _ _ _ h => h) (fun K hK => ?_)
  go_big_quiet_op
  refine hK _ ?_
  clear hK K
  refine pi_t 3 rfl (by kernel_rfl) (by kernel_rfl) (fun _ _ _ _ h => h) (fun K hK => ?_)
  go_big_quiet_op
  refine hK _ ?_
  clear hK K
  refine pi_t 7 rfl (by kernel_rfl) (by kernel_rfl) (fun _ _ _ _ h => h) (fun K hK => ?_)
  go_big_quiet_op
  refine hK _ ?_
  clear hK K
  refine pi_t 8 rfl (by kernel_rfl) (by kernel_rfl) (fun _ _ _ _ h => h) (fun K hK => ?_)
  go_big_quiet_op
  refine hK _ ?_
  clear hK K
  refine pi_t 9 rfl (by kernel_rfl) (by kernel_rfl) (fun _ _ _ _ h => h) (fun K hK => ?_)
  go_big_quiet_op
  refine hK _ ?_
  clear hK K
  refine pi_t 11 rfl (by kernel_rfl) (by kernel_rfl) (fun _ _ _ _ h => h) (fun K hK => ?_)
  go_big_quiet_op
  refine hK _ ?_
  clear hK K
  refine pi_t 12 rfl (by kernel_rfl) (by kernel_rfl) (fun _ _ _ _ h => h) (fun K hK => ?_)
  go_big_quiet_op
  refine hK _ ?_
  clear hK K
  refine pi_t 13 rfl (by kernel_rfl) (by kernel_rfl) (fun _ _ _ _ h => h) (fun K hK => ?_)
  go_big_quiet_op
  refine hK _ ?_
  clear hK K
  refine pi_c 4 (by assumption) rfl (by kernel_rfl) (by kernel_rfl) (fun _ _ _ _ h => h) (fun K hK => ?_)
  go_big_quiet_op
  refine hK _ ?_
  clear hK K
  refine pi_c 10 (by assumption) rfl (by kernel_rfl) (by kernel_rfl) (fun _ _ _ _ h => h) (fun K hK => ?_)
  go_big_quiet_op
  refine hK _ ?_
  clear hK K
  refine pi_c 14 (by assumption) rfl (by kernel_rfl) (by kernel_rfl) (fun _ _ _ _ h => h) (fun K hK => ?_)
  go_big_quiet_op
  refine hK _ ?_
  clear hK K
  refine pi_l 5 rfl (by kernel_rfl) (fun K hK => ?_)
  go_wp2_with (go_at_call 167; refine (GCopy_c b c R W l _ hG).mono ?_; rintro e w1 ⟨b', c', rfl, hg', hb', hc', hx1⟩)
  refine hK _ _ (fun _ h => af_step h hx1) ?_
  clear hK K
  refine pi_t 6 rfl (by kernel_rfl) (by kernel_rfl) (fun _ _ _ _ h => h) (fun K hK => ?_)
  go_big_quiet_op
  refine hK _ ?_
  clear hK K
  refine pi_t 15 rfl (by kernel_rfl) (by kernel_rfl) (fun _ _ _ _ h => h) (fun K hK => ?_)
  go_big_quiet_op
  refine hK _ ?_
  clear hK K
  refine pi_l 16 rfl (by kernel_rfl) (fun K hK => ?_)
  go_wp2
  refine hK _ _ (fun _ h => af_step h (Ext.alloc' _ _)) ?_
  clear hK K
  refine pi_t 17 rfl (by kernel_rfl) (by kernel_rfl) (fun _ _ _ _ h => h) (fun K hK => ?_)
  go_big_quiet_op
  refine hK _ ?_
  clear hK K
  refine pi_end (by kernel_rfl) ?_
  go_wp2
  go_ret
  have hx1' : Ext w w1 := Ext.trans' (Below.drew (Ext.refl w)) hx1
  have hs1 := hx1'.size
  have H := HH.out
  refine ⟨w1.heap.size, b', c', rfl, ⟨heap_at _ _ rfl, hg'.keep (heap_old _ _ hg'.ltb) (heap_old _ _ hg'.ltc), H.ok, H.lo, H.hi, H.hr, H.hw, H.fit⟩, hs1, hb', hc', by (repeat' (first | exact Ext.refl _ | assumption | apply Ext.allocR | apply Ext.drewR | apply Ext.drewNR | (refine Ext.trans' ?_ (by assumption))))⟩
end Go.Proofs.YtfhdjekpdifajaaGreat

/- Package level: a level is an array or a sketch that lies in memory. -/
namespace Go.Proofs.YtfhdjekpdifajaaGreat
set_option linter.unusedVariables false
open Go.RowKit

def rN (C : Cfg) : Nat := C.rows.toNat
def wN (C : Cfg) : Nat := C.width.toNat
theorem rN_eq {C : Cfg} (h : C.Ok) : C.rows = (rN C : Int) := by have := h.r1; unfold rN; omega
theorem wN_eq {C : Cfg} (h : C.Ok) : C.width = (wN C : Int) := by have := h.w1; unfold wN; omega
/-- How many cells a level has. -/
def lvN (C : Cfg) (lv : Int) : Nat := bif isX C lv then kN C lv else rN C * wN C
/-- Where a level lies: what it is, its grid, its cells. -/
structure Lev where
  s : Nat
  b : Nat
  c : Nat
def LvAt (w : World) (L : Lev) (C : Cfg) (lv : Int) (l : List Int) : Prop :=
  (isX C lv = true ∧ EAt w L.s L.b L.c C lv (kN C lv) l) ∨ (isX C lv = false ∧ SAt w L.s L.b L.c C lv (rN C) (wN C) l)
def lvT (C : Cfg) (lv : Int) : TypeId := bif isX C lv then 176 else 170
def lvV (C : Cfg) (lv : Int) (L : Lev) : Value := .iface (lvT C lv) (.pointer (some ⟨L.s, 0, none⟩))
theorem lvV_x {C : Cfg} {lv : Int} (h : isX C lv = true) (L : Lev) : lvV C lv L = .iface 176 (.pointer (some ⟨L.s, 0, none⟩)) := by unfold lvV lvT; rw [h]; rfl
theorem lvV_s {C : Cfg} {lv : Int} (h : isX C lv = false) (L : Lev) : lvV C lv L = .iface 170 (.pointer (some ⟨L.s, 0, none⟩)) := by unfold lvV lvT; rw [h]; rfl
theorem LvAt.x {w : World} {L : Lev} {C : Cfg} {lv : Int} {l : List Int} (h : LvAt w L C lv l) (hx : isX C lv = true) : EAt w L.s L.b L.c C lv (kN C lv) l := by
  rcases h with ⟨_, h⟩ | ⟨h, _⟩
  · exact h
  · rw [hx] at h; cases h
theorem LvAt.sk {w : World} {L : Lev} {C : Cfg} {lv : Int} {l : List Int} (h : LvAt w L C lv l) (hx : isX C lv = false) : SAt w L.s L.b L.c C lv (rN C) (wN C) l := by
  rcases h with ⟨h, _⟩ | ⟨_, h⟩
  · rw [hx] at h; cases h
  · exact h
theorem LvAt.lts {w : World} {L : Lev} {C : Cfg} {lv : Int} {l : List Int} (h : LvAt w L C lv l) : L.s < w.heap.size := by
  rcases h with ⟨_, h⟩ | ⟨_, h⟩ <;> exact h.lts
theorem LvAt.ltb {w : World} {L : Lev} {C : Cfg} {lv : Int} {l : List Int} (h : LvAt w L C lv l) : L.b < w.heap.size := by
  rcases h with ⟨_, h⟩ | ⟨_, h⟩ <;> exact h.g.ltb
theorem LvAt.ltc {w : World} {L : Lev} {C : Cfg} {lv : Int} {l : List Int} (h : LvAt w L C lv l) : L.c < w.heap.size := by
  rcases h with ⟨_, h⟩ | ⟨_, h⟩ <;> exact h.g.ltc
theorem LvAt.ok {w : World} {L : Lev} {C : Cfg} {lv : Int} {l : List Int} (h : LvAt w L C lv l) : C.Ok := by
  rcases h with ⟨_, h⟩ | ⟨_, h⟩ <;> exact h.ok
theorem LvAt.lo {w : World} {L : Lev} {C : Cfg} {lv : Int} {l : List Int} (h : LvAt w L C lv l) : 0 ≤ lv := by
  rcases h with ⟨_, h⟩ | ⟨_, h⟩ <;> exact h.lo
theorem LvAt.hi {w : World} {L : Lev} {C : Cfg} {lv : Int} {l : List Int} (h : LvAt w L C lv l) : lv ≤ C.bits := by
  rcases h with ⟨_, h⟩ | ⟨_, h⟩ <;> exact h.hi
theorem LvAt.fit {w : World} {L : Lev} {C : Cfg} {lv : Int} {l : List Int} (h : LvAt w L C lv l) : ∀ x ∈ l, I64 x := by
  rcases h with ⟨_, h⟩ | ⟨_, h⟩ <;> exact h.fit
theorem LvAt.len {w : World} {L : Lev} {C : Cfg} {lv : Int} {l : List Int} (h : LvAt w L C lv l) : l.length = lvN C lv := by
  unfold lvN
  rcases h with ⟨hx, h⟩ | ⟨hx, h⟩
  · rw [hx]; exact h.len
  · rw [hx]; exact h.g.len
theorem LvAt.keep {w w' : World} {L : Lev} {C : Cfg} {lv : Int} {l : List Int} (h : LvAt w L C lv l) (hs : w'.heap[L.s]? = w.heap[L.s]?) (hb : w'.heap[L.b]? = w.heap[L.b]?) (hc : w'.heap[L.c]? = w.heap[L.c]?) : LvAt w' L C lv l := by
  rcases h with ⟨hx, h⟩ | ⟨hx, h⟩
  · exact .inl ⟨hx, h.keep hs hb hc⟩
  · exact .inr ⟨hx, h.keep hs hb hc⟩
theorem LvAt.ext {w w' : World} {L : Lev} {C : Cfg} {lv : Int} {l : List Int} (h : LvAt w L C lv l) (he : Ext w w') : LvAt w' L C lv l :=
  h.keep (he.block _ h.lts) (he.block _ h.ltb) (he.block _ h.ltc)
/-- A block of cells is a block of int64. -/
theorem LvAt.isc {w : World} {L : Lev} {C : Cfg} {lv : Int} {l : List Int} (h : LvAt w L C lv l) : ∃ cur, w.heap[L.c]? = some (.cells cur 2 (0, 0)) := by
  rcases h with ⟨_, h⟩ | ⟨_, h⟩ <;> (obtain ⟨cap, _, h2⟩ := h.g.ex; obtain ⟨cur, h3, _⟩ := h2.ex; exact ⟨cur, h3⟩)
theorem LvAt.iss {w : World} {L : Lev} {C : Cfg} {lv : Int} {l : List Int} (h : LvAt w L C lv l) : ∃ cur t, w.heap[L.s]? = some (.cells cur t (0, 0)) ∧ t ≠ 2 := by
  rcases h with ⟨_, h⟩ | ⟨_, h⟩ <;> exact ⟨_, _, h.ex, by decide⟩
theorem LvAt.isb {w : World} {L : Lev} {C : Cfg} {lv : Int} {l : List Int} (h : LvAt w L C lv l) : ∃ cur t, w.heap[L.b]? = some (.cells cur t (0, 0)) ∧ t ≠ 2 := by
  rcases h with ⟨_, h⟩ | ⟨_, h⟩ <;> (obtain ⟨cap, h1, _⟩ := h.g.ex; exact ⟨_, _, h1, by decide⟩)
theorem blk_ne {w : World} {i j : Nat} {cur cur' : Array Value} {t t' : TypeId} {f f' : Nat × Nat} (h : w.heap[i]? = some (.cells cur t f)) (h' : w.heap[j]? = some (.cells cur' t' f')) (ht : t ≠ t') : i ≠ j := by
  intro e
  subst e
  rw [h] at h'
  injection h' with h'
  injection h' with _ h' _
  exact ht h'
/-- What another level's cells are changed to does not touch a level. -/
theorem LvAt.mod {S : Nat → Prop} {w w' : World} {L : Lev} {C : Cfg} {lv : Int} {l : List Int} (h : LvAt w L C lv l) (he : Mod S w w') (hS : ∀ k, S k → k < w.heap.size → ∃ cur, w.heap[k]? = some (.cells cur 2 (0, 0))) (hc : ¬ S L.c) : LvAt w' L C lv l := by
  refine h.keep (he.block _ h.lts fun hs => ?_) (he.block _ h.ltb fun hs => ?_) (he.block _ h.ltc hc)
  · obtain ⟨cur, t, h1, h2⟩ := h.iss
    obtain ⟨cur', h3⟩ := hS _ hs h.lts
    exact blk_ne h1 h3 h2 rfl
  · obtain ⟨cur, t, h1, h2⟩ := h.isb
    obtain ⟨cur', h3⟩ := hS _ hs h.ltb
    exact blk_ne h1 h3 h2 rfl
/-- Is a level an array, or a sketch? -/
@[go_sem] theorem ta_xx (p : Option Addr) (w : World) : (Instr.typeAssert (.iface 176 (.pointer p)) 62 176 true).run Tryz.prog w = .ok (.tuple #[.pointer p, .bool true]) w := by kernel_rfl
@[go_sem] theorem ta_xs (p : Option Addr) (w : World) : (Instr.typeAssert (.iface 176 (.pointer p)) 62 170 true).run Tryz.prog w = .ok (.tuple #[.pointer none, .bool false]) w := by kernel_rfl
@[go_sem] theorem ta_sx (p : Option Addr) (w : World) : (Instr.typeAssert (.iface 170 (.pointer p)) 62 176 true).run Tryz.prog w = .ok (.tuple #[.pointer none, .bool false]) w := by kernel_rfl
@[go_sem] theorem ta_ss (p : Option Addr) (w : World) : (Instr.typeAssert (.iface 170 (.pointer p)) 62 170 true).run Tryz.prog w = .ok (.tuple #[.pointer p, .bool true]) w := by kernel_rfl
@[go_sem] theorem ta_nx (w : World) : (Instr.typeAssert .nilIface 62 176 true).run Tryz.prog w = .ok (.tuple #[.pointer none, .bool false]) w := by kernel_rfl
@[go_sem] theorem ta_ns (w : World) : (Instr.typeAssert .nilIface 62 170 true).run Tryz.prog w = .ok (.tuple #[.pointer none, .bool false]) w := by kernel_rfl
@[go_sem] theorem tm_ss (p : Option Addr) (w : World) : (Instr.typeAssert (.iface 170 (.pointer p)) 62 170 false).run Tryz.prog w = .ok (.pointer p) w := by kernel_rfl
def LNewPost (w : World) (C : Cfg) (lv : Int) (e : Ending) (w' : World) : Prop :=
  ∃ L : Lev, e = .returned (.tuple #[lvV C lv L, .int .i64 0]) ∧ LvAt w' L C lv (zs (lvN C lv)) ∧ w.heap.size ≤ L.s ∧ w.heap.size ≤ L.b ∧ w.heap.size ≤ L.c ∧ Ext w w'
set_option maxRecDepth 20000 in
set_option maxHeartbeats 2000000 in
theorem LNew_c (C : Cfg) (h : C.Ok) (lv : Int) (h0 : 0 ≤ lv) (h1 : lv ≤ C.bits) (w : World) :
    Calls Tryz.prog 36 #[.agg #[.int .i64 C.bits, .int .i64 C.rows, .int .i64 C.width, .int .i64 C.mode, .int .u64 C.seed], .int .i64 lv] w (LNewPost w C lv) := by
  cases hx : isX C lv with
  | true =>
    have HX := Lib.hid hx
    clear hx
    go_enter Tryz.func36, Tryz.ntmps36
    go_wp2_with fail
    refine (Exact_c C h lv h0 h1 _).mono ?_
    rintro e w1 ⟨rfl, hb⟩
    rw [HX.out]
    have hE : Ext w w1 := by (repeat' (first | exact Ext.refl _ | assumption | apply Ext.allocR | apply Ext.drewR | apply Ext.drewNR | (refine Ext.trans' ?_ (by assumption))))
    have hC := (CfgAt.box (w := w) C 24 rfl).ext hb
    have d0 := hC.c0
    have d1 := hC.c1
    have d2 := hC.c2
    have d3 := hC.c3
    have d4 := hC.c4
    have cl := hC.lt
    have hs := hE.size
    clear hb hC
    go_wp2_with fail
    refine (ENew_c C h lv h0 h1 (kN C lv) (kN_eq h h0) HX.out _).mono ?_
    rintro e w2 ⟨s, b, c, rfl, hA, hs1, hb1, hc1, hx2⟩
    go_wp2
    go_ret2
    refine ⟨⟨s, b, c⟩, by rw [lvV_x HX.out]; rfl, .inl ⟨HX.out, ?_⟩, Nat.le_trans hs hs1, Nat.le_trans hs hb1, Nat.le_trans hs hc1, hE.trans' hx2⟩
    unfold lvN; rw [HX.out]; exact hA
  | false =>
    have HX := Lib.hid hx
    clear hx
    go_enter Tryz.func36, Tryz.ntmps36
    go_wp2_with fail
    refine (Exact_c C h lv h0 h1 _).mono ?_
    rintro e w1 ⟨rfl, hb⟩
    rw [HX.out]
    have hE : Ext w w1 := by (repeat' (first | exact Ext.refl _ | assumption | apply Ext.allocR | apply Ext.drewR | apply Ext.drewNR | (refine Ext.trans' ?_ (by assumption))))
    have hC := (CfgAt.box (w := w) C 24 rfl).ext hb
    have d0 := hC.c0
    have d1 := hC.c1
    have d2 := hC.c2
    have d3 := hC.c3
    have d4 := hC.c4
    have cl := hC.lt
    have hs := hE.size
    clear hb hC
    go_wp2_with fail
    refine (SNew_c C h lv h0 h1 (rN C) (wN C) (rN_eq h) (wN_eq h) _).mono ?_
    rintro e w2 ⟨s, b, c, rfl, hA, hs1, hb1, hc1, hx2⟩
    go_wp2
    go_ret2
    refine ⟨⟨s, b, c⟩, by rw [lvV_s HX.out]; rfl, .inr ⟨HX.out, ?_⟩, Nat.le_trans hs hs1, Nat.le_trans hs hb1, Nat.le_trans hs hc1, hE.trans' hx2⟩
    unfold lvN; rw [HX.out]; exact hA
def LCopyPost (w : World) (C : Cfg) (lv : Int) (l : List Int) (e : Ending) (w' : World) : Prop :=
  ∃ L' : Lev, e = .returned (lvV C lv L') ∧ LvAt w' L' C lv l ∧ w.heap.size ≤ L'.s ∧ w.heap.size ≤ L'.b ∧ w.heap.size ≤ L'.c ∧ Ext w w'
set_option maxRecDepth 20000 in
set_option maxHeartbeats 2000000 in
theorem LCopy_c (C : Cfg) (lv : Int) (L : Lev) (l : List Int) (w : World) (h : LvAt w L C lv l) :
    Calls Tryz.prog 44 #[lvV C lv L] w (LCopyPost w C lv l) := by
  cases hx : isX C lv with
  | true =>
    have hA := h.x hx
    have HX := Lib.hid hx
    rw [lvV_x hx]
    clear hx
    go_enter Tryz.func44, Tryz.ntmps44
    go_wp2_with fail
    refine (ECopy_c L.s L.b L.c C lv _ l _ hA).mono ?_
    rintro e w1 ⟨s', b', c', rfl, hA', h1, h2, h3, hx1⟩
    go_wp2
    go_ret
    exact ⟨⟨s', b', c'⟩, by rw [lvV_x HX.out]; rfl, .inl ⟨HX.out, hA'⟩, h1, h2, h3, hx1⟩
  | false =>
    have hA := h.sk hx
    have HX := Lib.hid hx
    rw [lvV_s hx]
    clear hx
    go_enter Tryz.func44, Tryz.ntmps44
    go_wp2_with fail
    refine (SCopy_c L.s L.b L.c C lv _ _ l _ hA).mono ?_
    rintro e w1 ⟨s', b', c', rfl, hA', h1, h2, h3, hx1⟩
    go_wp2
    go_ret
    exact ⟨⟨s', b', c'⟩, by rw [lvV_s HX.out]; rfl, .inr ⟨HX.out, hA'⟩, h1, h2, h3, hx1⟩
set_option maxRecDepth 20000 in
theorem LCopy_nil (w : World) :
    Calls Tryz.prog 44 #[.nilIface] w fun e w' => e = .returned .nilIface ∧ w = w' := by
  go_enter Tryz.func44, Tryz.ntmps44
  go_wp2
  go_ret
  exact ⟨rfl, rfl⟩
set_option maxRecDepth 20000 in
theorem AsSketch_x (s : Nat) (w : World) :
    Calls Tryz.prog 94 #[.iface 176 (.pointer (some ⟨s, 0, none⟩))] w fun e w' => e = .returned (.tuple #[.pointer none, .bool false]) ∧ w = w' := by
  go_enter Tryz.func94, Tryz.ntmps94
  go_wp2
  go_ret2
  exact ⟨rfl, rfl⟩
set_option maxRecDepth 20000 in
theorem AsSketch_s (s : Nat) (w : World) :
    Calls Tryz.prog 94 #[.iface 170 (.pointer (some ⟨s, 0, none⟩))] w fun e w' => e = .returned (.tuple #[.pointer (some ⟨s, 0, none⟩), .bool true]) ∧ w = w' := by
  go_enter Tryz.func94, Tryz.ntmps94
  go_wp2
  go_ret2
  exact ⟨rfl, rfl⟩
set_option maxRecDepth 20000 in
theorem MustSketch_s (s : Nat) (w : World) :
    Calls Tryz.prog 95 #[.iface 170 (.pointer (some ⟨s, 0, none⟩))] w fun e w' => e = .returned (.pointer (some ⟨s, 0, none⟩)) ∧ w = w' := by
  go_enter Tryz.func95, Tryz.ntmps95
  go_wp2
  go_ret
  exact ⟨rfl, rfl⟩
end Go.Proofs.YtfhdjekpdifajaaGreat
