/- Plain law: in the modes Linear and Median it does not matter in which order updates are made. -/
import Derived.Test.YtpnbgoahjoabkaaAStackSums6

/- Plain law: in the modes Linear and Median it does not matter in which order updates are made. -/
namespace Go.Proofs.Ytpnbgoahjoabkaa
set_option linter.unusedVariables false
open Go.RowKit
theorem sumIf_app (p : Int → Bool) (a b : List (Int × Int)) : sumIf p (a ++ b) = sumIf p a + sumIf p b := by
  induction a with
  | nil => rw [List.nil_append, sumIf_nil, Int.zero_add]
  | cons u a ih => rw [List.cons_append, sumIf_cons, sumIf_cons, ih, Int.add_assoc]
theorem stP_app (C : Cfg) (n : Nat) (a b : List (Int × Int)) : stP C n (a ++ b) = stP C n a ++ stP C n b := by simp [stP]
theorem ok_app {a b : List (Int × Int)} (ha : UpsOk a) (hb : UpsOk b) : UpsOk (a ++ b) := by
  intro u hu
  rcases List.mem_append.1 hu with h | h
  · exact ha u h
  · exact hb u h
/-- What lies in a cell behind updates, the modes Linear and Median. -/
theorem feedK_cell {C : Cfg} (hok : C.Ok) {n : Nat} (hn : (n : Int) ≤ C.bits) {us : List (Int × Int)} (hus : UpsOk us) (hm : C.mode ≠ 2) (hx : isX C n = false) {r a : Nat} (hr : r < rN C) (ha : a < wN C) :
    (feedK C us n).getD (r * wN C + a) 0 = sumIf (fun k => (cols C n k).getD r 0 == (a : Int)) (stP C n us) := by
  rw [feedK_s hok hn hus hx, feed_cell C hok n (rN C) (wN C) (rN_eq hok) (wN_eq hok) hm _ hr ha, stP_cutP hok hn hus]
theorem getD_extK {a b : List Int} (hl : a.length = b.length) (h : ∀ i, i < a.length → a.getD i 0 = b.getD i 0) : a = b := by
  apply List.ext_getElem hl
  intro i h1 h2
  have := h i h1
  simpa [List.getD_eq_getElem?_getD, h1, h2] using this
theorem feedK_swap {C : Cfg} (hok : C.Ok) {n : Nat} (hn : (n : Int) ≤ C.bits) {a b : List (Int × Int)} (ha : UpsOk a) (hb : UpsOk b) (hm : C.mode ≠ 2) : feedK C (a ++ b) n = feedK C (b ++ a) n := by
  apply getD_extK (by rw [feedK_len, feedK_len])
  intro i hi
  rw [feedK_len] at hi
  cases hx : isX C n with
  | true =>
    rw [feedK_x hok hn (ok_app ha hb) hx, feedK_x hok hn (ok_app hb ha) hx]
    unfold hasP
    rw [stP_app, stP_app, sumIf_app, sumIf_app, Int.add_comm]
  | false =>
    have hl : lvN C n = rN C * wN C := by unfold lvN; rw [hx]; rfl
    rw [hl] at hi
    have hW : 0 < wN C := by have := hok.w1; have := wN_eq hok; omega
    have hr : i / wN C < rN C := Nat.div_lt_of_lt_mul (by rw [Nat.mul_comm]; exact hi)
    have ha' : i % wN C < wN C := Nat.mod_lt _ hW
    have e : i = i / wN C * wN C + i % wN C := (Nat.div_add_mod' i (wN C)).symm
    rw [e, feedK_cell hok hn (ok_app ha hb) hm hx hr ha', feedK_cell hok hn (ok_app hb ha) hm hx hr ha', stP_app, stP_app, sumIf_app, sumIf_app, Int.add_comm]
/-- The other way about. -/
def rotU (us : List (Int × Int)) (a : Nat) : List (Int × Int) := (us.take 60).drop a ++ us.take a
theorem rotU_ok {us : List (Int × Int)} (hus : UpsOk us) (a : Nat) : UpsOk (rotU us a) :=
  ok_app (fun u hu => hus u (List.mem_of_mem_take (List.mem_of_mem_drop hu))) (fun u hu => hus u (List.mem_of_mem_take hu))
theorem rotU_len {us : List (Int × Int)} {a : Nat} (ha : a ≤ 60) : (rotU us a).length ≤ 60 := by
  unfold rotU
  rw [List.length_append, List.length_drop, List.length_take, List.length_take]
  omega
theorem fus60 {us : List (Int × Int)} (h : us.length ≤ 60) : fus us 0 60 = us := by
  unfold fus
  rw [List.drop_zero, List.take_of_length_le h]
theorem rot_feed {C : Cfg} (hok : C.Ok) {n : Nat} (hn : (n : Int) ≤ C.bits) {us : List (Int × Int)} (hus : UpsOk us) (hm : C.mode ≠ 2) {a : Nat} (ha : a ≤ 60) : feedK C (fus (rotU us a) 0 60) n = feedK C (fus us 0 60) n := by
  have hs : fus us 0 60 = us.take a ++ (us.take 60).drop a := by
    unfold fus
    have h1 : us.take a = (us.take 60).take a := by rw [List.take_take, Nat.min_eq_left ha]
    rw [List.drop_zero, h1, List.take_append_drop]
  rw [fus60 (rotU_len ha), hs]
  exact feedK_swap hok hn (fun u hu => hus u (List.mem_of_mem_take (List.mem_of_mem_drop hu))) (fun u hu => hus u (List.mem_of_mem_take hu)) hm
end Go.Proofs.Ytpnbgoahjoabkaa

/- A slice of updates that the call itself makes. -/
namespace Go.Proofs.Ytpnbgoahjoabkaa
set_option linter.unusedVariables false
open Go.RowKit

def updV (ps : List (Int × Int)) : List Value := ps.flatMap fun u => [.int .u64 u.1, .int .i64 u.2]
theorem updV_len (ps : List (Int × Int)) : (updV ps).length = ps.length * 2 := by
  induction ps with
  | nil => rfl
  | cons u ps ih =>
    have : updV (u :: ps) = .int .u64 u.1 :: .int .i64 u.2 :: updV ps := rfl
    rw [this, List.length_cons, List.length_cons, List.length_cons, ih]; omega
theorem updV_append (a b : List (Int × Int)) : updV (a ++ b) = updV a ++ updV b := by simp [updV]
theorem updV_at {ps : List (Int × Int)} : ∀ {k : Nat} (h : k < ps.length), (updV ps)[k * 2]? = some (.int .u64 (ps.getD k (0, 0)).1) ∧ (updV ps)[k * 2 + 1]? = some (.int .i64 (ps.getD k (0, 0)).2) := by
  induction ps with
  | nil => intro k h; simp at h
  | cons u ps ih =>
    intro k h
    have e : updV (u :: ps) = .int .u64 u.1 :: .int .i64 u.2 :: updV ps := rfl
    rw [e]
    cases k with
    | zero => exact ⟨rfl, rfl⟩
    | succ k =>
      have := ih (k := k) (by simpa using h)
      rw [show (k + 1) * 2 = k * 2 + 1 + 1 by omega]
      simp only [List.getElem?_cons_succ, List.getD_cons_succ]
      exact this
theorem UpsAt.of_row {w : World} {base : Nat} {e : TypeId} {v : Value} {n : Nat} {ps : List (Int × Int)} (h : w.ownsRow base e 2 v n (updV ps)) : UpsAt w v ps := by
  obtain ⟨h1, h2⟩ := h
  have hn : n = ps.length := by rw [updV_len] at h1; omega
  subst hn
  rcases h2 with ⟨h2, h3⟩ | ⟨g, cap, cur, rfl, _, hh, hc, _, hs, ht⟩
  · refine .inl ⟨⟨_, h2⟩, ?_⟩
    exact List.length_eq_zero_iff.1 h3
  · refine .inr ⟨g, 0, cap, rfl, lt_of hh, fun k hk => ?_⟩
    obtain ⟨a1, a2⟩ := updV_at hk
    rw [← ht] at a1 a2
    rw [List.getElem?_take_of_lt (by omega)] at a1 a2
    simp only [Array.getElem?_toList] at a1 a2
    rw [cell_of hh, cell_of hh, Nat.zero_add]
    exact ⟨a1, a2⟩
section
variable {P : Program}
/-- 's = append(s, u)', u an update, s a row of the call's own. -/
theorem wpList_appu (W : World) {ops : Array Oper} {rest : List Oper} {o : Oper} {a : Act} {Q : Exit → Act → World → Prop} (u : Int × Int) (l : List (Int × Int)) (v : Value) (base : Nat) (e e' : TypeId) (hown : W.ownsRow base e 2 v l.length (updV l)) (t : TypeId)
    (hgd : o.guard = none) (s y : Operand) (ho : o.op = .call { callee := .builtin .append, args := #[s, y], argTypes := #[t, t] })
    (i0 : TypeInfo) (z : Value) (hi : P.info? e = some i0) (hz0 : i0.zero = some z) (hz1 : i0.size = 2) (hz2 : i0.bytes = 16) (hzs : z.cells.size = 2) (ht : P.underlying t = some (.slice e))
    (hs : a.eval s = v) (hx : a.eval y = .slice (some ⟨W.heap.size, 0, none⟩) 1 1)
    (hl : l.length ≤ 1000000000) (hbase : base ≤ W.heap.size)
    (h : ∀ v' w', w'.ownsRow base e 2 v' (l ++ [u]).length (updV (l ++ [u])) → (W.alloc (.cells #[.int .u64 u.1, .int .i64 u.2] e')).grownBy w' v.ownBlock → (v'.ownBlock = v.ownBlock ∨ v'.ownBlock = some (W.heap.size + 1)) → wpList P ops Q rest (a.put o.dst v') w') :
    wpList P ops Q (o :: rest) a (W.alloc (.cells #[.int .u64 u.1, .int .i64 u.2] e')) := by
  refine wpList_append_sep _ hgd s y t ho base e i0 z 2 16 ht hi hz0 hz1 hz2 hzs (by decide) v l.length (updV l) hs (hown.alloc _) ⟨W.heap.size, 0, none⟩ 1 1 [.int .u64 u.1, .int .i64 u.2] hx rfl ?_ ?_ (by unfold maxLen; omega) (by omega) (by rw [size_alloc]; omega) ?_
  · intro j v hv
    have hj : j = 0 ∨ j = 1 := by
      have := (List.getElem?_eq_some_iff.1 hv).1
      simp at this; omega
    rcases hj with rfl | rfl
    · rw [show (⟨W.heap.size, 0, none⟩ : Addr).add 0 = ⟨W.heap.size, 0, none⟩ by simp [Addr.add], cell_of (heap_at W _ rfl) 0]
      exact hv
    · rw [show (⟨W.heap.size, 0, none⟩ : Addr).add 1 = ⟨W.heap.size, 1, none⟩ by simp [Addr.add], cell_of (heap_at W _ rfl) 1]
      exact hv
  · intro x hx
    simp at hx
    rcases hx with rfl | rfl <;> rfl
  · intro v' w' h1 h2 h3
    refine h v' w' ?_ h2 ?_
    · rw [List.length_append, updV_append]
      exact h1
    · rw [size_alloc] at h3; exact h3
end
end Go.Proofs.Ytpnbgoahjoabkaa

/- sketch.Merge, sketch.Subtract of two sketches of one config and level; of unlike ones; of none. -/
namespace Go.Proofs.Ytpnbgoahjoabkaa
set_option linter.unusedVariables false
open Go.RowKit

set_option maxRecDepth 20000 in
theorem GPlus_c (b c b2 c2 R W : Nat) (l l2 : List Int) (w : World) (h : GAt w b c R W l) (h2 : GAt w b2 c2 R W l2) (hI : allI l) (hI2 : allI l2) :
    Calls Try.prog 111 #[.pointer (some ⟨b, 0, none⟩), .pointer (some ⟨b2, 0, none⟩)] w (JoinPost w b c R W (plusL l l2)) := by
  go_enter Try.func111, Try.ntmps111
  go_wp2_with fail
  refine Calls.mono (allPlus_c b c b2 c2 R W l l2 w h h2 hI hI2) ?_
  rintro e w' h
  rcases h with ⟨ha, rfl, hg, hm⟩ | ⟨ha, rfl, hx⟩
  · go_wp2
    go_ret
    exact .inl ⟨ha, rfl, hg, hm⟩
  · go_wp2
    go_ret
    exact .inr ⟨ha, rfl, hx⟩
set_option maxRecDepth 20000 in
theorem GMinus_c (b c b2 c2 R W : Nat) (l l2 : List Int) (w : World) (h : GAt w b c R W l) (h2 : GAt w b2 c2 R W l2) (hI : allI l) (hI2 : allI l2) :
    Calls Try.prog 113 #[.pointer (some ⟨b, 0, none⟩), .pointer (some ⟨b2, 0, none⟩)] w (JoinPost w b c R W (minusL l l2)) := by
  go_enter Try.func113, Try.ntmps113
  go_wp2_with fail
  refine Calls.mono (allMinus_c b c b2 c2 R W l l2 w h h2 hI hI2) ?_
  rintro e w' h
  rcases h with ⟨ha, rfl, hg, hm⟩ | ⟨ha, rfl, hx⟩
  · go_wp2
    go_ret
    exact .inl ⟨ha, rfl, hg, hm⟩
  · go_wp2
    go_ret
    exact .inr ⟨ha, rfl, hx⟩
def alikeB (C : Cfg) (lv : Int) (C2 : Cfg) (lv2 : Int) : Prop := C2.bits = C.bits ∧ C2.rows = C.rows ∧ C2.width = C.width ∧ C2.mode = C.mode ∧ C2.seed = C.seed ∧ lv2 = lv
set_option maxRecDepth 20000 in
set_option maxHeartbeats 2000000 in
theorem alike_yes (s b c s2 b2 c2 : Nat) (C : Cfg) (lv : Int) (R W : Nat) (l l2 : List Int) (w : World) (h : SAt w s b c C lv R W l) (h2 : SAt w s2 b2 c2 C lv R W l2) :
    Calls Try.prog 110 #[.pointer (some ⟨s, 0, none⟩), .pointer (some ⟨s2, 0, none⟩)] w fun e w' => e = .returned (.bool true) ∧ Ext w w' := by
  have c1 := (cell_of h.ex 1).trans rfl
  have c2 := (cell_of h.ex 2).trans rfl
  have c3 := (cell_of h.ex 3).trans rfl
  have c4 := (cell_of h.ex 4).trans rfl
  have c5 := (cell_of h.ex 5).trans rfl
  have c6 := (cell_of h.ex 6).trans rfl
  have d1 := (cell_of h2.ex 1).trans rfl
  have d2 := (cell_of h2.ex 2).trans rfl
  have d3 := (cell_of h2.ex 3).trans rfl
  have d4 := (cell_of h2.ex 4).trans rfl
  have d5 := (cell_of h2.ex 5).trans rfl
  have d6 := (cell_of h2.ex 6).trans rfl
  have l1 := h.lts
  have l2 := h2.lts
  clear h h2
  go_enter Try.func110, Try.ntmps110
  go_wp2_with fail
  refine wp_region_after (by kernel_rfl) (by kernel_rfl) ?_
  repeat (go_big_quiet_step (fail))
  refine wpQuiet_nil ?_
  rintro _ ⟨xx, rfl⟩
  obtain ⟨w1, hb1⟩ := xx
  try dsimp only
  go_wp2
  go_ret
  exact ⟨rfl, hb1⟩
theorem alike_nil (s : Nat) (w : World) :
    Calls Try.prog 110 #[.pointer (some ⟨s, 0, none⟩), .pointer none] w fun e w' => e = .returned (.bool false) ∧ Ext w w' := by
  go_enter Try.func110, Try.ntmps110
  go_wp2_with fail
  refine wp_region_after (by kernel_rfl) (by kernel_rfl) ?_
  repeat (go_big_quiet_step (fail))
  refine wpQuiet_nil ?_
  rintro _ ⟨xx, rfl⟩
  obtain ⟨w1, hb1⟩ := xx
  try dsimp only
  go_wp2
  go_ret
  exact ⟨rfl, hb1⟩
/-- Where two configs, or levels, part first. -/
inductive PartsAt (C2 : Cfg) (lv2 : Int) (C : Cfg) (lv : Int) : Prop
  | p0 (h : (C2.bits == C.bits) = false)
  | p1 (h0 : (C2.bits == C.bits) = true) (h : (C2.rows == C.rows) = false)
  | p2 (h0 : (C2.bits == C.bits) = true) (h1 : (C2.rows == C.rows) = true) (h : (C2.width == C.width) = false)
  | p3 (h0 : (C2.bits == C.bits) = true) (h1 : (C2.rows == C.rows) = true) (h2 : (C2.width == C.width) = true) (h : (C2.mode == C.mode) = false)
  | p4 (h0 : (C2.bits == C.bits) = true) (h1 : (C2.rows == C.rows) = true) (h2 : (C2.width == C.width) = true) (h3 : (C2.mode == C.mode) = true) (h : (C2.seed == C.seed) = false)
  | p5 (h0 : (C2.bits == C.bits) = true) (h1 : (C2.rows == C.rows) = true) (h2 : (C2.width == C.width) = true) (h3 : (C2.mode == C.mode) = true) (h4 : (C2.seed == C.seed) = true) (h : (lv2 == lv) = false)
theorem parts_or (C2 : Cfg) (lv2 : Int) (C : Cfg) (lv : Int) : (C2 = C ∧ lv2 = lv) ∨ PartsAt C2 lv2 C lv := by
  cases h0 : C2.bits == C.bits with
  | false => exact .inr (.p0 h0)
  | true =>
    cases h1 : C2.rows == C.rows with
    | false => exact .inr (.p1 h0 h1)
    | true =>
      cases h2 : C2.width == C.width with
      | false => exact .inr (.p2 h0 h1 h2)
      | true =>
        cases h3 : C2.mode == C.mode with
        | false => exact .inr (.p3 h0 h1 h2 h3)
        | true =>
          cases h4 : C2.seed == C.seed with
          | false => exact .inr (.p4 h0 h1 h2 h3 h4)
          | true =>
            cases h5 : lv2 == lv with
            | false => exact .inr (.p5 h0 h1 h2 h3 h4 h5)
            | true =>
              refine .inl ⟨?_, by simpa using h5⟩
              cases C2; cases C
              simp only [beq_iff_eq] at h0 h1 h2 h3 h4
              simp [h0, h1, h2, h3, h4]
set_option maxRecDepth 20000 in
set_option maxHeartbeats 4000000 in
theorem alike_no (s b c s2 b2 c2 : Nat) (C C2 : Cfg) (lv lv2 : Int) (R W R2 W2 : Nat) (l l2 : List Int) (w : World) (h : SAt w s b c C lv R W l) (h2 : SAt w s2 b2 c2 C2 lv2 R2 W2 l2) (hp : PartsAt C2 lv2 C lv) :
    Calls Try.prog 110 #[.pointer (some ⟨s, 0, none⟩), .pointer (some ⟨s2, 0, none⟩)] w fun e w' => e = .returned (.bool false) ∧ Ext w w' := by
  have c1 := (cell_of h.ex 1).trans rfl
  have c2 := (cell_of h.ex 2).trans rfl
  have c3 := (cell_of h.ex 3).trans rfl
  have c4 := (cell_of h.ex 4).trans rfl
  have c5 := (cell_of h.ex 5).trans rfl
  have c6 := (cell_of h.ex 6).trans rfl
  have d1 := (cell_of h2.ex 1).trans rfl
  have d2 := (cell_of h2.ex 2).trans rfl
  have d3 := (cell_of h2.ex 3).trans rfl
  have d4 := (cell_of h2.ex 4).trans rfl
  have d5 := (cell_of h2.ex 5).trans rfl
  have d6 := (cell_of h2.ex 6).trans rfl
  have l1 := h.lts
  have l2 := h2.lts
  clear h h2
  rcases hp with h | ⟨h0, h⟩ | ⟨h0, h1, h⟩ | ⟨h0, h1, h2, h⟩ | ⟨h0, h1, h2, h3, h⟩ | ⟨h0, h1, h2, h3, h4, h⟩
  all_goals
    go_enter Try.func110, Try.ntmps110
    go_wp2_with fail
    refine wp_region_after (by kernel_rfl) (by kernel_rfl) ?_
    repeat (go_big_quiet_step (fail))
    refine wpQuiet_nil ?_
    rintro _ ⟨xx, rfl⟩
    obtain ⟨w1, hb1⟩ := xx
    try dsimp only
    go_wp2
    go_ret
    exact ⟨rfl, hb1⟩
def MergePost (w : World) (s b c : Nat) (C : Cfg) (lv : Int) (R W : Nat) (m : List Int) (e : Ending) (w' : World) : Prop :=
  (allI m ∧ e = .returned (.int .i64 0) ∧ SAt w' s b c C lv R W m ∧ Mod (fun k => k = c) w w') ∨ (¬ allI m ∧ e = .returned (.int .i64 4) ∧ Ext w w')
theorem SAt.putg {w w' : World} {s b c : Nat} {C : Cfg} {lv : Int} {R W : Nat} {l m : List Int} (h : SAt w s b c C lv R W l) (hg : GAt w' b c R W m) (hm : Mod (fun k => k = c) w w') (hi : allI m) : SAt w' s b c C lv R W m :=
  ⟨by rw [hm.block s h.lts h.nes]; exact h.ex, hg, h.ok, h.lo, h.hi, h.hr, h.hw, hi⟩
theorem join_ret {w w' : World} {b c R W : Nat} {m : List Int} {e : Ending} (h : JoinPost w b c R W m e w') : ∃ z, e = .returned (.int .i64 z) ∧ ((z = 0 ∧ allI m ∧ GAt w' b c R W m ∧ Mod (fun k => k = c) w w') ∨ (z = 4 ∧ ¬ allI m ∧ Ext w w')) := by
  rcases h with ⟨ha, rfl, hg, hm⟩ | ⟨ha, rfl, hx⟩
  · exact ⟨_, rfl, .inl ⟨rfl, ha, hg, hm⟩⟩
  · exact ⟨_, rfl, .inr ⟨rfl, ha, hx⟩⟩
set_option maxRecDepth 20000 in
set_option maxHeartbeats 4000000 in
theorem SMerge_c (s b c s2 b2 c2 : Nat) (C : Cfg) (lv : Int) (R W : Nat) (l l2 : List Int) (w : World) (h : SAt w s b c C lv R W l) (h2 : SAt w s2 b2 c2 C lv R W l2) :
    Calls Try.prog 37 #[.pointer (some ⟨s, 0, none⟩), .pointer (some ⟨s2, 0, none⟩)] w (MergePost w s b c C lv R W (plusL l l2)) := by
  have HH := Lib.hid h
  go_enter Try.func37, Try.ntmps37
  go_wp2_with fail
  refine Calls.mono (alike_yes s b c s2 b2 c2 C lv R W l l2 w h h2) ?_
  rintro e w1 ⟨rfl, hx1⟩
  have h' := h.ext hx1
  have h2' := h2.ext hx1
  have c0 := (cell_of h'.ex 0).trans rfl
  have d0 := (cell_of h2'.ex 0).trans rfl
  have l1 := h'.lts
  have l2' := h2'.lts
  clear h h2
  go_wp2_with fail
  have hC0 := af_drew w1
  have hG1 := h'.g.ext (Below.drew (Ext.refl w1))
  have hG2 := h2'.g.ext (Below.drew (Ext.refl w1))
  refine pi_start (fun w' => ∃ x : After w1, w' = x.w) [10] (by kernel_rfl) ?_
  refine pi_t 0 rfl (by kernel_rfl) (by kernel_rfl) (fun _ _ _ _ h => h) (fun K hK => ?_)
  go_big_quiet_op
  refine hK _ ?_
  clear hK K
  refine pi_t 1 rfl (by kernel_rfl) (by kernel_rfl) (fun _ _ _ _ h => h) (fun K hK => ?_)
  go_big_quiet_op
  refine hK _ ?_
  clear hK K
  refine pi_t 2 rfl (by kernel_rfl) (by kernel_rfl) (fun _ _ _ _ h => h) (fun K hK => ?_)
  go_big_quiet_op
  refine hK _ ?_
  clear hK K
  refine pi_t 3 rfl (by kernel_rfl) (by kernel_rfl) (fun _ _ _ _ h => h) (fun K hK => ?_)
  go_big_quiet_op
  refine hK _ ?_
  clear hK K
  refine pi_c 4 (by assumption) rfl (by kernel_rfl) (by kernel_rfl) (fun _ _ _ _ h => h) (fun K hK => ?_)
  go_big_quiet_op
  refine hK _ ?_
  clear hK K
  refine pi_t 5 rfl (by kernel_rfl) (by kernel_rfl) (fun _ _ _ _ h => h) (fun K hK => ?_)
  go_big_quiet_op
  refine hK _ ?_
  clear hK K
  refine pi_t 6 rfl (by kernel_rfl) (by kernel_rfl) (fun _ _ _ _ h => h) (fun K hK => ?_)
  go_big_quiet_op
  refine hK _ ?_
  clear hK K
  refine pi_t 7 rfl (by kernel_rfl) (by kernel_rfl) (fun _ _ _ _ h => h) (fun K hK => ?_)
  go_big_quiet_op
  refine hK _ ?_
  clear hK K
  refine pi_t 8 rfl (by kernel_rfl) (by kernel_rfl) (fun _ _ _ _ h => h) (fun K hK => ?_)
  go_big_quiet_op
  refine hK _ ?_
  clear hK K
  refine pi_c 9 (by assumption) rfl (by kernel_rfl) (by kernel_rfl) (fun _ _ _ _ h => h) (fun K hK => ?_)
  go_big_quiet_op
  refine hK _ ?_
  clear hK K
  refine pi_l 10 rfl (by kernel_rfl) (fun K hK => ?_)
  go_wp2_with (go_at_call 111; refine Calls.mono (GPlus_c b c b2 c2 R W l l2 _ hG1 hG2 h'.fit h2'.fit) ?_; intro e w2 hr0; obtain ⟨z, rfl, hr⟩ := join_ret hr0)
  refine hK _ _ (by simp) ?_
  clear hK K
  refine pi_t 11 rfl (by kernel_rfl) (by kernel_rfl) (fun _ _ _ _ h => h) (fun K hK => ?_)
  go_big_quiet_op
  refine hK _ ?_
  clear hK K
  refine pi_end (by kernel_rfl) ?_
  go_wp2
  go_ret
  have hx2 : Ext w w1.drew := Below.drew hx1
  rcases hr with ⟨rfl, ha, hg, hm⟩ | ⟨rfl, ha, hx⟩
  · have hm' : Mod (fun k => k = c) w w2 := (hx2.mod _).trans hm
    exact .inl ⟨ha, rfl, HH.out.putg hg hm' ha, hm'⟩
  · exact .inr ⟨ha, rfl, hx2.trans' hx⟩
set_option maxRecDepth 20000 in
set_option maxHeartbeats 4000000 in
theorem SSubtract_c (s b c s2 b2 c2 : Nat) (C : Cfg) (lv : Int) (R W : Nat) (l l2 : List Int) (w : World) (h : SAt w s b c C lv R W l) (h2 : SAt w s2 b2 c2 C lv R W l2) (hm : C.mode ≠ 2) :
    Calls Try.prog 39 #[.pointer (some ⟨s, 0, none⟩), .pointer (some ⟨s2, 0, none⟩)] w (MergePost w s b c C lv R W (minusL l l2)) := by
  have HH := Lib.hid h
  have hmb : (C.mode == 2) = false := by simpa using hm
  clear hm
  go_enter Try.func39, Try.ntmps39
  go_wp2_with fail
  refine Calls.mono (alike_yes s b c s2 b2 c2 C lv R W l l2 w h h2) ?_
  rintro e w1 ⟨rfl, hx1⟩
  have h' := h.ext hx1
  have h2' := h2.ext hx1
  have c0 := (cell_of h'.ex 0).trans rfl
  have c4 := (cell_of h'.ex 4).trans rfl
  have d0 := (cell_of h2'.ex 0).trans rfl
  have l1 := h'.lts
  have l2' := h2'.lts
  clear h h2
  go_wp2_with fail
  have hC0 := af_drew w1
  have hG1 := h'.g.ext (Below.drew (Ext.refl w1))
  have hG2 := h2'.g.ext (Below.drew (Ext.refl w1))
  refine pi_start (fun w' => ∃ x : After w1, w' = x.w) [10] (by kernel_rfl) ?_
  refine pi_t 0 rfl (by kernel_rfl) (by kernel_rfl) (fun _ _ _ _ h => h) (fun K hK => ?_)
  go_big_quiet_op
  refine hK _ ?_
  clear hK K
  refine pi_t 1 rfl (by kernel_rfl) (by kernel_rfl) (fun _ _ _ _ h => h) (fun K hK => ?_)
  go_big_quiet_op
  refine hK _ ?_
  clear hK K
  refine pi_t 2 rfl (by kernel_rfl) (by kernel_rfl) (fun _ _ _ _ h => h) (fun K hK => ?_)
  go_big_quiet_op
  refine hK _ ?_
  clear hK K
  refine pi_t 3 rfl (by kernel_rfl) (by kernel_rfl) (fun _ _ _ _ h => h) (fun K hK => ?_)
  go_big_quiet_op
  refine hK _ ?_
  clear hK K
  refine pi_c 4 (by assumption) rfl (by kernel_rfl) (by kernel_rfl) (fun _ _ _ _ h => h) (fun K hK => ?_)
  go_big_quiet_op
  refine hK _ ?_
  clear hK K
  refine pi_t 5 rfl (by kernel_rfl) (by kernel_rfl) (fun _ _ _ _ h => h) (fun K hK => ?_)
  go_big_quiet_op
  refine hK _ ?_
  clear hK K
  refine pi_t 6 rfl (by kernel_rfl) (by kernel_rfl) (fun _ _ _ _ h => h) (fun K hK => ?_)
  go_big_quiet_op
  refine hK _ ?_
  clear hK K
  refine pi_t 7 rfl (by kernel_rfl) (by kernel_rfl) (fun _ _ _ _ h => h) (fun K hK => ?_)
  go_big_quiet_op
  refine hK _ ?_
  clear hK K
  refine pi_t 8 rfl (by kernel_rfl) (by kernel_rfl) (fun _ _ _ _ h => h) (fun K hK => ?_)
  go_big_quiet_op
  refine hK _ ?_
  clear hK K
  refine pi_c 9 (by assumption) rfl (by kernel_rfl) (by kernel_rfl) (fun _ _ _ _ h => h) (fun K hK => ?_)
  go_big_quiet_op
  refine hK _ ?_
  clear hK K
  refine pi_l 10 rfl (by kernel_rfl) (fun K hK => ?_)
  go_wp2_with (go_at_call 113; refine Calls.mono (GMinus_c b c b2 c2 R W l l2 _ hG1 hG2 h'.fit h2'.fit) ?_; intro e w2 hr0; obtain ⟨z, rfl, hr⟩ := join_ret hr0)
  refine hK _ _ (by simp) ?_
  clear hK K
  refine pi_t 11 rfl (by kernel_rfl) (by kernel_rfl) (fun _ _ _ _ h => h) (fun K hK => ?_)
  go_big_quiet_op
  refine hK _ ?_
  clear hK K
  refine pi_end (by kernel_rfl) ?_
  go_wp2
  go_ret
  have hx2 : Ext w w1.drew := Below.drew hx1
  rcases hr with ⟨rfl, ha, hg, hm⟩ | ⟨rfl, ha, hx⟩
  · have hm' : Mod (fun k => k = c) w w2 := (hx2.mod _).trans hm
    exact .inl ⟨ha, rfl, HH.out.putg hg hm' ha, hm'⟩
  · exact .inr ⟨ha, rfl, hx2.trans' hx⟩
/-- Unlike ones, or none: both are refused. -/
theorem SMerge_nil (s : Nat) (w : World) :
    Calls Try.prog 37 #[.pointer (some ⟨s, 0, none⟩), .pointer none] w fun e w' => e = .returned (.int .i64 5) ∧ Ext w w' := by
  go_enter Try.func37, Try.ntmps37
  go_wp2_with fail
  refine Calls.mono (alike_nil s w) ?_
  rintro e w1 ⟨rfl, hx1⟩
  go_wp2
  go_ret
  exact ⟨rfl, hx1⟩
theorem SSubtract_nil (s : Nat) (w : World) :
    Calls Try.prog 39 #[.pointer (some ⟨s, 0, none⟩), .pointer none] w fun e w' => e = .returned (.int .i64 5) ∧ Ext w w' := by
  go_enter Try.func39, Try.ntmps39
  go_wp2_with fail
  refine Calls.mono (alike_nil s w) ?_
  rintro e w1 ⟨rfl, hx1⟩
  go_wp2
  go_ret
  exact ⟨rfl, hx1⟩
theorem SMerge_no (s b c s2 b2 c2 : Nat) (C C2 : Cfg) (lv lv2 : Int) (R W R2 W2 : Nat) (l l2 : List Int) (w : World) (h : SAt w s b c C lv R W l) (h2 : SAt w s2 b2 c2 C2 lv2 R2 W2 l2) (hp : PartsAt C2 lv2 C lv) :
    Calls Try.prog 37 #[.pointer (some ⟨s, 0, none⟩), .pointer (some ⟨s2, 0, none⟩)] w fun e w' => e = .returned (.int .i64 5) ∧ Ext w w' := by
  go_enter Try.func37, Try.ntmps37
  go_wp2_with fail
  refine Calls.mono (alike_no s b c s2 b2 c2 C C2 lv lv2 R W R2 W2 l l2 w h h2 hp) ?_
  rintro e w1 ⟨rfl, hx1⟩
  go_wp2
  go_ret
  exact ⟨rfl, hx1⟩
theorem SSubtract_no (s b c s2 b2 c2 : Nat) (C C2 : Cfg) (lv lv2 : Int) (R W R2 W2 : Nat) (l l2 : List Int) (w : World) (h : SAt w s b c C lv R W l) (h2 : SAt w s2 b2 c2 C2 lv2 R2 W2 l2) (hp : PartsAt C2 lv2 C lv) :
    Calls Try.prog 39 #[.pointer (some ⟨s, 0, none⟩), .pointer (some ⟨s2, 0, none⟩)] w fun e w' => e = .returned (.int .i64 5) ∧ Ext w w' := by
  go_enter Try.func39, Try.ntmps39
  go_wp2_with fail
  refine Calls.mono (alike_no s b c s2 b2 c2 C C2 lv lv2 R W R2 W2 l l2 w h h2 hp) ?_
  rintro e w1 ⟨rfl, hx1⟩
  go_wp2
  go_ret
  exact ⟨rfl, hx1⟩
end Go.Proofs.Ytpnbgoahjoabkaa

/- sketch.Load: cells that are set; too few or too many change nothing. -/
namespace Go.Proofs.Ytpnbgoahjoabkaa
set_option linter.unusedVariables false
open Go.RowKit

section
variable {P : Program} {w : World}
theorem run_append_zero (base : Nat) (t ty e : TypeId) (i : TypeInfo) (size : Nat) (ht : P.underlying t = some (.slice e)) (hi : P.info? e = some i)
    (v : Value) (n : Nat) (xs : List Value) (hown : w.ownsRow base e size v n xs) (p : Option Addr) (c : Nat) :
    (Builtin.append_ #[t, t] ty #[v, .slice p 0 c]).run P w = .ok v w := by
  rcases hown.2 with ⟨rfl, rfl⟩ | ⟨g, cap, cur, rfl, _, _, hnc, _⟩
  · cases p <;> simp [Builtin.append_, run_underlying ht, sizeOf, typeInfo, hi, Builtin.lenOf, Builtin.firstCells, loadCells, loadCellsFrom]
  · cases p <;> simp [Builtin.append_, run_underlying ht, sizeOf, typeInfo, hi, Builtin.lenOf, Builtin.firstCells, loadCells, loadCellsFrom, hnc, storeCells]
theorem wpList_append_zero {ops : Array Oper} {rest : List Oper} {o : Oper} {a : Act} {Q : Exit → Act → World → Prop} (hgd : o.guard = none) (s x : Operand) (t : TypeId)
    (ho : o.op = .call { callee := .builtin .append, args := #[s, x], argTypes := #[t, t] })
    (base : Nat) (e : TypeId) (i : TypeInfo) (size : Nat) (ht : P.underlying t = some (.slice e)) (hi : P.info? e = some i)
    (v : Value) (n : Nat) (xs : List Value) (hs : a.eval s = v) (hown : w.ownsRow base e size v n xs) (p : Option Addr) (c : Nat) (hx : a.eval x = .slice p 0 c)
    (h : wpList P ops Q rest (a.put o.dst v) w) : wpList P ops Q (o :: rest) a w := by
  refine wpList_plain hgd fun K hK => ?_
  have hrun := run_append_zero (P := P) (w := w) base t o.type e i size ht hi v n xs hown p c
  unfold Oper.wp
  simp [execOp, ho, resolve, invoke, builtin, hs, hx, hrun, Result.andThen]
  exact hK _ _ h
end
/-- A world in which what W has is as it was, but for block c. -/
structure Aft (c : Nat) (W : World) where
  w : World
  h : Mod (fun i => i = c) W w
instance (c : Nat) (W : World) : Nonempty (Aft c W) := ⟨⟨W, Mod.refl _ W⟩⟩
@[go_sem] theorem Aft.cell {c : Nat} {W : World} (x : Aft c W) {b o : Nat} (h : b < W.heap.size) (hn : b ≠ c) : x.w.cell? ⟨b, o, none⟩ = W.cell? ⟨b, o, none⟩ := mcell x.h h hn o
theorem aft_drew (c : Nat) (W : World) : ∃ x : Aft c W, W.drew = x.w := ⟨⟨_, Ext.mod _ (Below.drew (Ext.refl W))⟩, rfl⟩
theorem mod_put' {w w' : World} {g j : Nat} (h : Mod (fun i => i = g) w w') (u : Value) : Mod (fun i => i = g) w (w'.setCell ⟨g, j, none⟩ u) :=
  ⟨h.os, h.tape, h.output, by rw [size_setCell]; exact h.size, fun k hk hn => (setCell_other _ _ hn).trans (h.block k hk hn)⟩
theorem aft_put {c : Nat} {W w : World} {o : Nat} (h : ∃ x : Aft c W, w = x.w) (u : Value) : ∃ x : Aft c W, w.setCell ⟨c, o, none⟩ u = x.w := by
  obtain ⟨x, rfl⟩ := h
  exact ⟨⟨_, mod_put' x.h u⟩, rfl⟩
theorem Put_i (b c R W : Nat) (l : List Int) (w : World) (h : GAt w b c R W l) (rI kI : Int) (r k : Nat) (hrI : rI = r) (hkI : kI = k) (hr : r < R) (hk : k < W) (n : Int) :
    Calls Try.prog 145 #[.pointer (some ⟨b, 0, none⟩), .int .i64 rI, .int .i64 kI, .int .i64 n] w fun e w' => e = .returned (.bool true) ∧ w.setCell ⟨c, r * W + k, none⟩ (.int .i64 n) = w' := by
  subst hrI hkI
  exact Put_c b c R W l w h r k hr hk n
theorem SAt.setl {w : World} {s b c : Nat} {C : Cfg} {lv : Int} {R W : Nat} {l : List Int} (h : SAt w s b c C lv R W l) {i : Nat} (hi : i < l.length) {n : Int} (hn : I64 n) : SAt (w.setCell ⟨c, i, none⟩ (.int .i64 n)) s b c C lv R W (l.set i n) :=
  ⟨by rw [setCell_other _ _ h.nes]; exact h.ex, h.g.set hi n, h.ok, h.lo, h.hi, h.hr, h.hw, fun x hx => by
    rcases List.mem_or_eq_of_mem_set hx with h1 | h1
    · exact h.fit x h1
    · rw [h1]; exact hn⟩
set_option maxRecDepth 20000 in
set_option maxHeartbeats 4000000 in
theorem Load_yes (s b c : Nat) (C : Cfg) (lv : Int) (R W : Nat) (l m : List Int) (v : Value) (w : World) (h : SAt w s b c C lv R W l) (hv : IntsAt w v m) (hI : allI m) (hl : m.length = R * W)
    (hne : ∀ g off n cap, v = .slice (some ⟨g, off, none⟩) n cap → g ≠ c) :
    Calls Try.prog 210 #[.pointer (some ⟨s, 0, none⟩), v] w fun e w' => e = .returned (.bool true) ∧ SAt w' s b c C lv R W m ∧ Mod (fun k => k = c) w w' := by
  have hN1 : 1 ≤ R * W := Nat.mul_pos h.g.r1 h.g.w1
  have hN2 : R * W ≤ 1024 := Nat.le_trans (Nat.mul_le_mul h.g.r2 h.g.w2) (by decide)
  obtain ⟨vg, vo, vcap, rfl, hvl, hvc⟩ := hv.slice (by rw [hl]; omega)
  have hgc : vg ≠ c := hne _ _ _ _ rfl
  have hLl := h.g.len
  have hp0 : C.rows * C.width = ((R * W : Nat) : Int) := by rw [h.hr, h.hw]; simp
  have hW1 := h.g.w1
  have hR1 := h.g.r1
  have hdiv : ∀ k, k < R * W → k / W < R ∧ k % W < W ∧ k / W * W + k % W = k := by
    intro k hk
    refine ⟨Nat.div_lt_of_lt_mul (by rw [Nat.mul_comm]; exact hk), Nat.mod_lt _ hW1, ?_⟩
    have := Nat.div_add_mod k W; rw [Nat.mul_comm] at this; exact this
  rw [hl] at hvc ⊢
  generalize R * W = N at *
  have hp1 : 0 ≤ C.rows * C.width := by rw [hp0]; omega
  have hp2 : C.rows * C.width ≤ 1024 := by rw [hp0]; omega
  have hpt : ((N : Int) != C.rows * C.width) = false := by rw [hp0]; simp
  have c1 := (cell_of h.ex 2).trans rfl
  have c2 := (cell_of h.ex 3).trans rfl
  have lts := h.lts
  have HH := Lib.hid h
  have HVC := Lib.hid hvc
  have HL := Lib.hid hl
  have HLL := Lib.hid hLl
  have HD := Lib.hid hdiv
  have HW := Lib.hid h.hw
  clear h hv hl hne hvc hLl hp0 hdiv
  go_enter Try.func210, Try.ntmps210
  go_wp2_with fail
  refine wp_region_after (by kernel_rfl) (by kernel_rfl) ?_
  repeat (go_big_quiet_step (fail))
  refine wpQuiet_nil ?_
  rintro _ ⟨xx, rfl⟩
  obtain ⟨w1, hb1⟩ := xx
  try dsimp only
  have hS1 := HH.out.ext hb1
  have hlt' : vg < w1.heap.size := Nat.lt_of_lt_of_le hvl hb1.size
  have hsz1 := hb1.size
  clear c1 c2 hpt hp1 hp2
  go_wp2_with fail
  go_loopw [23] (fun u23 wr => ∃ k : Nat, k ≤ N ∧ u23 = .int .i64 k ∧ SAt wr s b c C lv R W (mixL (fun j => m.getD j 0) (fun j => l.getD j 0) k N) ∧ Mod (fun i => i = c) w1 wr) (fun u23 _ => N - (intOf u23).toNat)
  case atStart =>
    refine ⟨0, Nat.zero_le _, rfl, ?_, Mod.refl _ _⟩
    have e : mixL (fun j => m.getD j 0) (fun j => l.getD j 0) 0 N = l := by
      apply list_ext_getD
      · rw [mixL_len, HLL.out]
      · intro i hi
        rw [mixL_len] at hi
        rw [mixL_get _ _ hi, if_neg (by omega)]
    rw [e]; exact hS1
  case round =>
    obtain ⟨k, hk, rfl, hSr, hM⟩ := hrel
    have hMs := hM.size
    by_cases hgo : k < N
    · have x0 := (mcell hM (b := vg) hlt' hgc (vo + k)).trans (((bcell hb1).1 _ _ hvl).trans (HVC.out k hgo))
      have c0 := (cell_of hSr.ex 0).trans rfl
      have c2 := (cell_of hSr.ex 3).trans (show _ = some (Value.int .i64 (W : Int)) by rw [← HW.out]; rfl)
      obtain ⟨dv1, dv2, dv3⟩ := HD.out k hgo
      have lr := hSr.lts
      have hlr : vg < wr.heap.size := by omega
      have hxi : I64 (m.getD k 0) := getD_i64 hI k
      have hms := mixL_set (fun j => m.getD j 0) (fun j => l.getD j 0) (k := k) (n := N)
      have HMS := Lib.hid hms
      have HSR := Lib.hid hSr
      have HDV := Lib.hid dv3
      have hsc := HSR.out.nes
      have hq : (k : Int) / (W : Int) = ((k / W : Nat) : Int) := by simp
      have hqk : k / W ≤ k := Nat.div_le_self _ _
      have hq1 : 0 ≤ (k : Int) / (W : Int) := by rw [hq]; exact Int.natCast_nonneg _
      have h9 : k / W ≤ 1024 := Nat.le_trans hqk (by omega)
      have hq2 : (k : Int) / (W : Int) ≤ 1024 := by rw [hq]; exact_mod_cast h9
      clear hq
      have hw0 : ((W : Int) == 0) = false := by simp; omega
      have hw1 : (W = 0) = False := by simp; omega
      clear hms hSr dv3
      generalize hx : m.getD k 0 = x at *
      have HX := Lib.hid hx
      clear hx
      go_wp2_with fail
      have hC0 := aft_drew c wr
      have hG := HSR.out.g.ext (Below.drew (Ext.refl wr))
      refine pi_start (fun w' => ∃ x : Aft c wr, w' = x.w) [] (by kernel_rfl) ?_
      refine pi_t 0 rfl (by kernel_rfl) (by kernel_rfl) (fun _ _ _ _ h => h) (fun K hK => ?_)
      go_big_quiet_op
      refine hK _ ?_
      clear hK K
      refine pi_t 1 rfl (by kernel_rfl) (by kernel_rfl) (fun _ _ _ _ h => h) (fun K hK => ?_)
      go_big_quiet_op
      refine hK _ ?_
      clear hK K
      refine pi_t 2 rfl (by kernel_rfl) (by kernel_rfl) (fun _ _ _ _ h => h) (fun K hK => ?_)
      go_big_quiet_op
      refine hK _ ?_
      clear hK K
      refine pi_t 3 rfl (by kernel_rfl) (by kernel_rfl) (fun _ _ _ _ h => h) (fun K hK => ?_)
      go_big_quiet_op
      refine hK _ ?_
      clear hK K
      refine pi_c 4 (by assumption) rfl (by kernel_rfl) (by kernel_rfl) (fun _ _ _ _ h => h) (fun K hK => ?_)
      go_big_quiet_op
      refine hK _ ?_
      clear hK K
      refine pi_t 5 rfl (by kernel_rfl) (by kernel_rfl) (fun _ _ _ _ h => h) (fun K hK => ?_)
      go_big_quiet_op
      refine hK _ ?_
      clear hK K
      refine pi_t 6 rfl (by kernel_rfl) (by kernel_rfl) (fun _ _ _ _ h => h) (fun K hK => ?_)
      go_big_quiet_op
      refine hK _ ?_
      clear hK K
      refine pi_t 7 rfl (by kernel_rfl) (by kernel_rfl) (fun _ _ _ _ h => h) (fun K hK => ?_)
      go_big_quiet_op
      refine hK _ ?_
      clear hK K
      refine pi_t 8 rfl (by kernel_rfl) (by kernel_rfl) (fun _ _ _ _ h => h) (fun K hK => ?_)
      go_big_quiet_op
      refine hK _ ?_
      clear hK K
      refine pi_t 9 rfl (by kernel_rfl) (by kernel_rfl) (fun _ _ _ _ h => h) (fun K hK => ?_)
      go_big_quiet_op
      refine hK _ ?_
      clear hK K
      refine pi_c 10 (by assumption) rfl (by kernel_rfl) (by kernel_rfl) (fun _ _ _ _ h => h) (fun K hK => ?_)
      go_big_quiet_op
      refine hK _ ?_
      clear hK K
      refine pi_t 11 rfl (by kernel_rfl) (by kernel_rfl) (fun _ _ _ _ h => h) (fun K hK => ?_)
      go_big_quiet_op
      refine hK _ ?_
      clear hK K
      refine pi_t 12 rfl (by kernel_rfl) (by kernel_rfl) (fun _ _ _ _ h => h) (fun K hK => ?_)
      go_big_quiet_op
      refine hK _ ?_
      clear hK K
      refine pi_t 13 rfl (by kernel_rfl) (by kernel_rfl) (fun _ _ _ _ h => h) (fun K hK => ?_)
      go_big_quiet_op
      refine hK _ ?_
      clear hK K
      refine pi_t 14 rfl (by kernel_rfl) (by kernel_rfl) (fun _ _ _ _ h => h) (fun K hK => ?_)
      go_big_quiet_op
      refine hK _ ?_
      clear hK K
      refine pi_t 15 rfl (by kernel_rfl) (by kernel_rfl) (fun _ _ _ _ h => h) (fun K hK => ?_)
      go_big_quiet_op
      refine hK _ ?_
      clear hK K
      refine pi_t 16 rfl (by kernel_rfl) (by kernel_rfl) (fun _ _ _ _ h => h) (fun K hK => ?_)
      go_big_quiet_op
      refine hK _ ?_
      clear hK K
      refine pi_c 17 (by assumption) rfl (by kernel_rfl) (by kernel_rfl) (fun _ _ _ _ h => h) (fun K hK => ?_)
      go_big_quiet_op
      refine hK _ ?_
      clear hK K
      refine pi_t 18 rfl (by kernel_rfl) (by kernel_rfl) (fun _ _ _ _ h => h) (fun K hK => ?_)
      go_big_quiet_op
      refine hK _ ?_
      clear hK K
      refine pi_t 19 rfl (by kernel_rfl) (by kernel_rfl) (fun _ _ _ _ h => h) (fun K hK => ?_)
      go_big_quiet_op
      refine hK _ ?_
      clear hK K
      refine pi_l 20 rfl (by kernel_rfl) (fun K hK => ?_)
      go_wp2_with (go_at_call 145; refine (Put_i b c R W _ _ hG _ _ (k / W) (k % W) (by simp) (by simp) dv1 dv2 x).mono ?_; rintro e w' ⟨rfl, rfl⟩)
      refine hK _ _ (fun _ h => aft_put h _) ?_
      clear hK K
      refine pi_end (by kernel_rfl) ?_
      rw [HDV.out]
      go_wp2
      go_roundw
      case rel =>
        refine ⟨k + 1, by omega, by go_num, ?_, ?_⟩
        · rw [← HMS.out]
          exact (HSR.out.setl (by rw [mixL_len]; exact hgo) hxi).ext (Below.drew (Ext.refl _))
        · exact (mod_put' hM _).trans (Ext.mod _ (Below.drew (Ext.refl _)))
      case measure => simp [intOf]; omega
    · obtain rfl : k = N := by omega
      have e : mixL (fun j => m.getD j 0) (fun j => l.getD j 0) k k = m := by
        apply list_ext_getD
        · rw [mixL_len, HL.out]
        · intro i hi
          rw [mixL_len] at hi
          rw [mixL_get _ _ hi, if_pos hi]
      rw [e] at hSr
      have HSR := Lib.hid hSr
      clear hSr e
      go_wp2
      go_ret
      exact ⟨rfl, HSR.out, (hb1.mod _).trans hM⟩
set_option maxRecDepth 20000 in
set_option maxHeartbeats 4000000 in
theorem Load_no (s b c : Nat) (C : Cfg) (lv : Int) (R W : Nat) (l : List Int) (p : Option Addr) (n cap : Nat) (w : World) (h : SAt w s b c C lv R W l) (hl : n ≠ R * W) :
    Calls Try.prog 210 #[.pointer (some ⟨s, 0, none⟩), .slice p n cap] w fun e w' => e = .returned (.bool false) ∧ Ext w w' := by
  have hN1 : 1 ≤ R * W := Nat.mul_pos h.g.r1 h.g.w1
  have hN2 : R * W ≤ 1024 := Nat.le_trans (Nat.mul_le_mul h.g.r2 h.g.w2) (by decide)
  have hp0 : C.rows * C.width = ((R * W : Nat) : Int) := by rw [h.hr, h.hw]; simp
  generalize R * W = N at *
  have hp1 : 0 ≤ C.rows * C.width := by rw [hp0]; omega
  have hp2 : C.rows * C.width ≤ 1024 := by rw [hp0]; omega
  have hpt : ((n : Int) != C.rows * C.width) = true := by rw [hp0]; simp; omega
  have c1 := (cell_of h.ex 2).trans rfl
  have c2 := (cell_of h.ex 3).trans rfl
  have lts := h.lts
  clear h hp0
  go_enter Try.func210, Try.ntmps210
  go_wp2_with fail
  refine wp_region_after (by kernel_rfl) (by kernel_rfl) ?_
  repeat (go_big_quiet_step (fail))
  refine wpQuiet_nil ?_
  rintro _ ⟨xx, rfl⟩
  obtain ⟨w1, hb1⟩ := xx
  try dsimp only
  go_wp2
  go_ret
  exact ⟨rfl, hb1⟩
end Go.Proofs.Ytpnbgoahjoabkaa

/- append of a row of updates to a row of the call's own. -/
namespace Go.Proofs.Ytpnbgoahjoabkaa
set_option linter.unusedVariables false
open Go.RowKit
/-- Updates that lie at a place. -/
def UCells (W : World) (g off : Nat) (l : List (Int × Int)) : Prop :=
  ∀ k, k < l.length → W.cell? ⟨g, off + k * 2, none⟩ = some (.int .u64 (l.getD k (0, 0)).1) ∧ W.cell? ⟨g, off + k * 2 + 1, none⟩ = some (.int .i64 (l.getD k (0, 0)).2)
theorem UCells.ext {W W' : World} {g off : Nat} {l : List (Int × Int)} (h : UCells W g off l) (hg : g < W.heap.size) (he : Ext W W') : UCells W' g off l :=
  fun k hk => ⟨((bcell he).1 _ _ hg).trans (h k hk).1, ((bcell he).1 _ _ hg).trans (h k hk).2⟩
theorem UCells.take {W : World} {g off : Nat} {l : List (Int × Int)} (h : UCells W g off l) (n : Nat) : UCells W g off (l.take n) := by
  intro k hk
  rw [List.length_take] at hk
  have := h k (by omega)
  have e : (l.take n).getD k (0, 0) = l.getD k (0, 0) := by
    rw [List.getD_eq_getElem?_getD, List.getD_eq_getElem?_getD, List.getElem?_take_of_lt (by omega)]
  rw [e]; exact this
theorem UCells.drop {W : World} {g off : Nat} {l : List (Int × Int)} (h : UCells W g off l) (n : Nat) : UCells W g (off + n * 2) (l.drop n) := by
  intro k hk
  rw [List.length_drop] at hk
  have := h (n + k) (by omega)
  have e : (l.drop n).getD k (0, 0) = l.getD (n + k) (0, 0) := by
    rw [List.getD_eq_getElem?_getD, List.getD_eq_getElem?_getD, List.getElem?_drop]
  rw [e, show off + n * 2 + k * 2 = off + (n + k) * 2 by omega]; exact this
theorem updV_get {l : List (Int × Int)} {j : Nat} {v : Value} (h : (updV l)[j]? = some v) : ∃ k, k < l.length ∧ ((j = k * 2 ∧ v = .int .u64 (l.getD k (0, 0)).1) ∨ (j = k * 2 + 1 ∧ v = .int .i64 (l.getD k (0, 0)).2)) := by
  have hj := (List.getElem?_eq_some_iff.1 h).1
  rw [updV_len] at hj
  have hk : j / 2 < l.length := by omega
  obtain ⟨a1, a2⟩ := updV_at hk
  refine ⟨j / 2, hk, ?_⟩
  by_cases he : j % 2 = 0
  · left
    have hj2 : j = j / 2 * 2 := by omega
    rw [← hj2, h] at a1
    exact ⟨hj2, Option.some.inj a1⟩
  · right
    have hj2 : j = j / 2 * 2 + 1 := by omega
    rw [← hj2, h] at a2
    exact ⟨hj2, Option.some.inj a2⟩
/-- A slice is not longer than its row. -/
def SlCap (v : Value) : Prop := ∀ p n c, v = .slice p n c → n ≤ c
/-- A slice of updates is cells. -/
theorem UpsAt.place {w : World} {p : Option Addr} {c : Nat} {us : List (Int × Int)} (h : UpsAt w (.slice p us.length c) us) (hl : 0 < us.length) :
    ∃ g off, p = some ⟨g, off, none⟩ ∧ g < w.heap.size ∧ UCells w g off us := by
  obtain ⟨g, off, cap, hvv, hgl, hcell⟩ := h.resolve_left (fun h => by rw [h.2] at hl; simp at hl)
  have := Value.slice.inj hvv
  exact ⟨g, off, this.1, hgl, hcell⟩
section
variable {P : Program}
theorem wpList_appus (W : World) {ops : Array Oper} {rest : List Oper} {o : Oper} {a : Act} {Q : Exit → Act → World → Prop} (l xs : List (Int × Int)) (v : Value) (base : Nat) (e : TypeId) (hown : W.ownsRow base e 2 v xs.length (updV xs)) (t : TypeId)
    (hgd : o.guard = none) (s y : Operand) (ho : o.op = .call { callee := .builtin .append, args := #[s, y], argTypes := #[t, t] })
    (i0 : TypeInfo) (z : Value) (hi : P.info? e = some i0) (hz0 : i0.zero = some z) (hz1 : i0.size = 2) (hz2 : i0.bytes = 16) (hzs : z.cells.size = 2) (ht : P.underlying t = some (.slice e))
    (hs : a.eval s = v) (g off m c : Nat) (hx : a.eval y = .slice (some ⟨g, off, none⟩) m c) (hm : m = l.length) (hc : UCells W g off l)
    (hl : xs.length + m ≤ 1000000000) (hbase : base ≤ W.heap.size)
    (h : ∀ v' w', w'.ownsRow base e 2 v' (xs ++ l).length (updV (xs ++ l)) → W.grownBy w' v.ownBlock → (v'.ownBlock = v.ownBlock ∨ v'.ownBlock = some W.heap.size) → wpList P ops Q rest (a.put o.dst v') w') :
    wpList P ops Q (o :: rest) a W := by
  subst hm
  refine wpList_append_sep _ hgd s y t ho base e i0 z 2 16 ht hi hz0 hz1 hz2 hzs (by decide) v xs.length (updV xs) hs hown ⟨g, off, none⟩ l.length c (updV l) hx (by rw [updV_len]) ?_ ?_ (by unfold maxLen; omega) (by omega) hbase ?_
  · intro j u hu
    obtain ⟨k, hk, ⟨rfl, rfl⟩ | ⟨rfl, rfl⟩⟩ := updV_get hu
    · rw [show (⟨g, off, none⟩ : Addr).add (k * 2) = ⟨g, off + k * 2, none⟩ by simp [Addr.add]]
      exact (hc k hk).1
    · rw [show (⟨g, off, none⟩ : Addr).add (k * 2 + 1) = ⟨g, off + k * 2 + 1, none⟩ by simp [Addr.add, Nat.add_assoc]]
      exact (hc k hk).2
  · intro u hu
    obtain ⟨j, hj⟩ := List.getElem?_of_mem hu
    obtain ⟨k, hk, ⟨_, rfl⟩ | ⟨_, rfl⟩⟩ := updV_get hj <;> rfl
  · intro v' w' h1 h2 h3
    refine h v' w' ?_ h2 h3
    rw [List.length_append, updV_append]
    exact h1
/-- The same, of a slice that may have nothing. -/
theorem wpList_appz (W : World) {ops : Array Oper} {rest : List Oper} {o : Oper} {a : Act} {Q : Exit → Act → World → Prop} (l xs : List (Int × Int)) (v : Value) (base : Nat) (e : TypeId) (hown : W.ownsRow base e 2 v xs.length (updV xs)) (t : TypeId)
    (hgd : o.guard = none) (s y : Operand) (ho : o.op = .call { callee := .builtin .append, args := #[s, y], argTypes := #[t, t] })
    (i0 : TypeInfo) (z : Value) (hi : P.info? e = some i0) (hz0 : i0.zero = some z) (hz1 : i0.size = 2) (hz2 : i0.bytes = 16) (hzs : z.cells.size = 2) (ht : P.underlying t = some (.slice e))
    (hs : a.eval s = v) (hx : ∃ p c, a.eval y = .slice p l.length c ∧ (l = [] ∨ ∃ g off, p = some ⟨g, off, none⟩ ∧ UCells W g off l))
    (hl : xs.length + l.length ≤ 1000000000) (hbase : base ≤ W.heap.size)
    (h : ∀ (v' : Value) (w' : World), w'.ownsRow base e 2 v' (xs ++ l).length (updV (xs ++ l)) → (∀ W0 : World, Ext W0 W → W0.heap.size ≤ base → Ext W0 w') → (∀ (k : Nat) (cur : Array Value) (t' : TypeId), W.heap[k]? = some (Obj.cells cur t' (0, 0)) → t' ≠ e → w'.heap[k]? = some (Obj.cells cur t' (0, 0))) → wpList P ops Q rest (a.put o.dst v') w') :
    wpList P ops Q (o :: rest) a W := by
  obtain ⟨p, c, hx, hc⟩ := hx
  by_cases hl0 : l = []
  · subst hl0
    refine wpList_append_zero hgd s y t ho base e i0 2 ht hi v xs.length (updV xs) hs hown p c hx ?_
    refine h v W (by rw [List.append_nil]; exact hown) (fun W0 h _ => h) (fun k cur t' hk _ => hk)
  · obtain ⟨g, off, rfl, huc⟩ := hc.resolve_left hl0
    refine wpList_appus W l xs v base e hown t hgd s y ho i0 z hi hz0 hz1 hz2 hzs ht hs g off l.length c hx rfl huc hl hbase ?_
    intro v' w' h1 h2 h3
    refine h v' w' h1 (fun W0 hE hb => ext_grown0 hE h2 fun k hk => Nat.le_trans hb (own_blk hown hk)) (fun k cur t' hk ht' => ?_)
    rw [h2.block k (lt_of hk) (fun he => ?_)]
    · exact hk
    · obtain ⟨cur', hc'⟩ := own_type hown he.symm
      rw [hk] at hc'
      injection hc' with hc'
      injection hc' with _ hc' _
      exact ht' hc'
end
/-- A row lies on, where another block is changed. -/
theorem own_off {W Wf : World} {base n b : Nat} {e t : TypeId} {v : Value} {xs : List Value} {cur : Array Value} (ho : W.ownsRow base e 2 v n xs) (hy : W.heap[b]? = some (Obj.cells cur t (0, 0))) (ht : t ≠ e) (hof : ∀ j, j ≠ b → Wf.heap[j]? = W.heap[j]?) : Wf.ownsRow base e 2 v n xs := by
  refine ⟨ho.1, ?_⟩
  rcases ho.2 with h | ⟨g, cap, cur', hv, hg, hh, hr⟩
  · exact .inl h
  · refine .inr ⟨g, cap, cur', hv, hg, ?_, hr⟩
    rw [hof g (fun he => ?_)]
    · exact hh
    · subst he
      rw [hh] at hy
      injection hy with hy
      injection hy with _ hy _
      exact ht hy.symm
theorem fin6 {Φ : World → Prop} {w W : World} {b : Nat} {x0 x1 x2 x3 x4 x5 : Value} {t : TypeId} (h : W.heap[b]? = some (.cells #[x0, x1, x2, x3, x4, x5] t (0, 0))) (hE : Ext w W) (hb : w.heap.size ≤ b) {u0 u1 u2 u3 u4 u5 : Value}
    (k : ∀ Wf, Wf.heap[b]? = some (.cells #[u0, u1, u2, u3, u4, u5] t (0, 0)) → Ext w Wf → (∀ j, j ≠ b → Wf.heap[j]? = W.heap[j]?) → Φ Wf) :
    Φ ((((((W.setCell ⟨b, 0, none⟩ u0).setCell ⟨b, 1, none⟩ u1).setCell ⟨b, 2, none⟩ u2).setCell ⟨b, 3, none⟩ u3).setCell ⟨b, 4, none⟩ u4).setCell ⟨b, 5, none⟩ u5) := by
  refine k _ ?_ ((((((hE.setR hb _).setR hb _).setR hb _).setR hb _).setR hb _).setR hb _) (fun j hj => ?_)
  · rw [setCell_same (setCell_same (setCell_same (setCell_same (setCell_same (setCell_same h 0 u0) 1 u1) 2 u2) 3 u3) 4 u4) 5 u5]; rfl
  · rw [setCell_other _ _ hj, setCell_other _ _ hj, setCell_other _ _ hj, setCell_other _ _ hj, setCell_other _ _ hj, setCell_other _ _ hj]
end Go.Proofs.Ytpnbgoahjoabkaa
