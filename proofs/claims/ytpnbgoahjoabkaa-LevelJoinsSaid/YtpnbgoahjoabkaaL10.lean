/- Part. No condition. -/
import Derived.Test.YtpnbgoahjoabkaaL3
import Derived.ProofKit
import Derived.OpenShut
import Derived.ChangeOld
import Derived.Below
import Derived.SizedLaws
import Derived.Deep.Slices
import Derived.Deep.Fields

/- What the arguments of the statements read as: a config, updates, a play. No condition. -/
namespace Go.Proofs.Ytpnbgoahjoabkaa
set_option linter.unusedVariables false
open Go.ChangeShapes Go.WideShapes Go.ChangeAt Go.RowKit Go.Deep

theorem wf_u64 {x : Int} (h : (Lit.int IntKind.u64 x).wf = true) : U64 x := by
  have := bounds_u64 h
  exact ⟨this.1, by omega⟩
theorem wf_i64 {x : Int} (h : (Lit.int IntKind.i64 x).wf = true) : I64 x := by
  have := bounds_i64 h
  exact ⟨this.1, by omega⟩
section
variable {H : Type} {enc : TypeId × Value → H} {w : World} {base : Nat} {spare : Nat → Bool} {held : Bool}
set_option maxRecDepth 100000 in
/-- Five cells that read as a config. -/
theorem cfg_of {n : Nat} {cs : List Value} {y : DataW H × List MemPlace} (h : DataW.trod enc Try.prog w base spare held n 24 cs = some y) :
    ∃ C : Cfg, C.Raw ∧ cs = [.int .i64 C.bits, .int .i64 C.rows, .int .i64 C.width, .int .i64 C.mode, .int .u64 C.seed] := by
  obtain ⟨xs, n, _, _, hl, hx, hg⟩ := DataW.trod_struct Try.underlying24 h
  have hl' : cs.length = 5 := hl.trans (by kernel_rfl)
  match cs, hl' with
  | [c0, c1, c2, c3, c4], _ =>
    have hx' : xs.length = 5 := hx.trans (by kernel_rfl)
    match xs, hx' with
    | [x0, x1, x2, x3, x4], _ =>
      have e0 : DataW.trod enc Try.prog w base spare held n 3 [c0] = some x0 := hg 0 _ rfl
      have e1 : DataW.trod enc Try.prog w base spare held n 3 [c1] = some x1 := hg 1 _ rfl
      have e2 : DataW.trod enc Try.prog w base spare held n 3 [c2] = some x2 := hg 2 _ rfl
      have e3 : DataW.trod enc Try.prog w base spare held n 3 [c3] = some x3 := hg 3 _ rfl
      have e4 : DataW.trod enc Try.prog w base spare held n 22 [c4] = some x4 := hg 4 _ rfl
      obtain ⟨a0, h0, _, w0⟩ := DataW.trod_int Try.underlying3 e0
      obtain ⟨a1, h1, _, w1⟩ := DataW.trod_int Try.underlying3 e1
      obtain ⟨a2, h2, _, w2⟩ := DataW.trod_int Try.underlying3 e2
      obtain ⟨a3, h3, _, w3⟩ := DataW.trod_int Try.underlying3 e3
      obtain ⟨a4, h4, _, w4⟩ := DataW.trod_int Try.underlying22 e4
      simp only [List.cons.injEq, and_true] at h0 h1 h2 h3 h4
      exact ⟨⟨a0, a1, a2, a3, a4⟩, ⟨wf_i64 w0, wf_i64 w1, wf_i64 w2, wf_i64 w3, wf_u64 w4⟩, by rw [h0, h1, h2, h3, h4]⟩
set_option maxRecDepth 100000 in
/-- Two cells that read as an update. -/
theorem upd_of {n : Nat} {cs : List Value} {y : DataW H × List MemPlace} (h : DataW.trod enc Try.prog w base spare held n 38 cs = some y) :
    ∃ u : Int × Int, (U64 u.1 ∧ I64 u.2) ∧ cs = [.int .u64 u.1, .int .i64 u.2] := by
  obtain ⟨xs, n, _, _, hl, hx, hg⟩ := DataW.trod_struct Try.underlying38 h
  have hl' : cs.length = 2 := hl.trans (by kernel_rfl)
  match cs, hl' with
  | [c0, c1], _ =>
    have hx' : xs.length = 2 := hx.trans (by kernel_rfl)
    match xs, hx' with
    | [x0, x1], _ =>
      have e0 : DataW.trod enc Try.prog w base spare held n 22 [c0] = some x0 := hg 0 _ rfl
      have e1 : DataW.trod enc Try.prog w base spare held n 2 [c1] = some x1 := hg 1 _ rfl
      obtain ⟨a0, h0, _, w0⟩ := DataW.trod_int Try.underlying22 e0
      obtain ⟨a1, h1, _, w1⟩ := DataW.trod_int Try.underlying2 e1
      simp only [List.cons.injEq, and_true] at h0 h1
      exact ⟨(a0, a1), ⟨wf_u64 w0, wf_i64 w1⟩, by rw [h0, h1]⟩
theorem add_plain0 (b off i : Nat) : (Addr.add ⟨b, off, none⟩ i) = ⟨b, off + i, none⟩ := by
  unfold Addr.add
  by_cases h : i = 0
  · subst h; simp
  · simp [h]
theorem choose_list {α : Type} (P : Nat → α → Prop) : ∀ n, (∀ i, i < n → ∃ x, P i x) → ∃ l : List α, l.length = n ∧ ∀ i (h : i < l.length), P i l[i] := by
  intro n
  induction n with
  | zero => intro _; exact ⟨[], rfl, fun i h => by simp at h⟩
  | succ n ih =>
    intro h
    obtain ⟨l, hl, hP⟩ := ih (fun i hi => h i (by omega))
    obtain ⟨x, hx⟩ := h n (by omega)
    refine ⟨l ++ [x], by simp [hl], fun i hi => ?_⟩
    by_cases e : i < l.length
    · rw [List.getElem_append_left e]; exact hP i e
    · have : i = n := by simp at hi; omega
      subst this
      rw [List.getElem_append_right (by omega)]
      simp [hl, hx]
/-- A cell that reads as a slice of updates. -/
theorem ups_of {n : Nat} {v : Value} {y : DataW H × List MemPlace} (h : DataW.trod enc Try.prog w 0 (fun _ => true) held n 25 [v] = some y) :
    ∃ us : List (Int × Int), UpsOk us ∧ UpsAt w v us ∧ (us = [] ∨ ∃ el sp : List (DataW H), y.1 = .slice el sp ∧ el.length = us.length) := by
  rcases open_slice Try.underlying25 h with ⟨hcs, _⟩ | ⟨a, len, cap, m, n', D, Pl, hcs, _, hlc, hcm, hm, hx, hi⟩
  · simp only [List.cons.injEq, and_true] at hcs
    subst hcs
    exact ⟨[], (by intro u hu; cases hu), .inl ⟨⟨_, rfl⟩, rfl⟩, .inl rfl⟩
  · simp only [List.cons.injEq, and_true] at hcs
    subst hcs
    simp only [if_true] at hm
    rw [hm] at hi hx
    clear hm
    have hC : Try.prog.cellsOf 38 = 2 := by kernel_rfl
    rw [hC] at hi
    have key : ∀ i, i < len → ∃ u : Int × Int, (U64 u.1 ∧ I64 u.2) ∧ w.cell? (a.add (i * 2)) = some (.int .u64 u.1) ∧ w.cell? (a.add (i * 2 + 1)) = some (.int .i64 u.2) := by
      intro i hil
      obtain ⟨cs', hc, ht⟩ := hi i (by omega)
      obtain ⟨u, hu, rfl⟩ := upd_of ht
      obtain ⟨_, _, hat⟩ := World.cells?_some hc
      refine ⟨u, hu, ?_, ?_⟩
      · have := hat 0 (by omega); rw [add_add, Nat.add_zero] at this; exact this
      · have := hat 1 (by omega); rw [add_add] at this; exact this
    obtain ⟨us, hul, hus⟩ := choose_list _ len key
    by_cases h0 : cap = 0
    · have hl0 : len = 0 := by omega
      subst hl0 h0
      obtain rfl : us = [] := List.length_eq_zero_iff.1 hul
      exact ⟨[], (by intro u hu; cases hu), .inl ⟨⟨_, rfl⟩, rfl⟩, .inl rfl⟩
    · obtain ⟨cs', hc, ht⟩ := hi 0 (by omega)
      obtain ⟨u, _, rfl⟩ := upd_of ht
      obtain ⟨_, _, hat⟩ := World.cells?_some hc
      have h1 := hat 0 (by omega)
      obtain ⟨b, off, spot⟩ := a
      have hspot : spot = none := by simpa [Addr.add] using World.cell?_spot h1
      subst hspot
      have hb : b < w.heap.size := by
        rcases Nat.lt_or_ge b w.heap.size with h' | h'
        · exact h'
        · simp [World.cell?, Addr.add, Array.getElem?_eq_none h'] at h1
      refine ⟨us, ?_, .inr ⟨b, off, cap, by rw [hul], hb, fun k hk => ?_⟩, .inr ⟨_, _, by rw [hx], by simp [hul]⟩⟩
      · intro u hu
        obtain ⟨i, hi', rfl⟩ := List.getElem_of_mem hu
        exact (hus i hi').1
      · have := (hus k hk).2
        have hg : us.getD k (0, 0) = us[k] := by simp [hk]
        rw [hg]
        rw [add_plain0, add_plain0] at this
        simpa only [Nat.add_assoc] using this
theorem reach_of {ts : List TypeId} {ds : List (DataW H)} {j : Nat} {t : TypeId} {d : DataW H} (hsz : (DataW.weightsEach Try.prog ts ds).all (· ≤ reachBytes) = true) (ht : ts[j]? = some t) (hd : ds[j]? = some d) {n : Nat} (hn : n ∈ d.weights Try.prog t) : n ≤ reachBytes := by
  have := List.all_eq_true.1 hsz _ (DataW.weights_mem_each ht hd n hn)
  simpa using this
end
end Go.Proofs.Ytpnbgoahjoabkaa

/- What a play of the later laws reads as. No condition. -/
namespace Go.Proofs.Ytpnbgoahjoabkaa
set_option linter.unusedVariables false
open Go.ChangeShapes Go.WideShapes Go.ChangeAt Go.RowKit Go.Deep

theorem own : ownKnob Try.prog.godebug = none := by kernel_rfl
theorem laidOut : laidOutB Try.prog = true := by kernel_rfl
section
variable {H : Type} {enc : TypeId × Value → H} {w : World} {held : Bool}
set_option maxRecDepth 100000 in
theorem cfgarg_of {r : Reach} {b0 : Nat} {v : Value} {d : DataW H} {p : List MemPlace} (hv : Value.okWide Try.prog w r b0 24 v) (h : DataW.Trod enc Try.prog w 0 (fun _ => true) held 24 v d p) :
    ∃ (x : Cfg), x.Raw ∧ v = .agg #[.int .i64 x.bits, .int .i64 x.rows, .int .i64 x.width, .int .i64 x.mode, .int .u64 x.seed] := by
  obtain ⟨cs, rfl, hsz⟩ := okWide_struct Try.underlying24 hv
  obtain ⟨fuel, hf⟩ := h
  obtain ⟨l⟩ := cs
  obtain ⟨x, hxr, hc⟩ := cfg_of hf
  have hc' : l = _ := hc
  subst hc'
  exact ⟨x, hxr, rfl⟩
set_option maxRecDepth 100000 in
theorem updarg_of {r : Reach} {b0 : Nat} {v : Value} {d : DataW H} {p : List MemPlace} (hv : Value.okWide Try.prog w r b0 38 v) (h : DataW.Trod enc Try.prog w 0 (fun _ => true) held 38 v d p) :
    ∃ (n m : Int), U64 n ∧ I64 m ∧ v = .agg #[.int .u64 n, .int .i64 m] := by
  obtain ⟨cs, rfl, hsz⟩ := okWide_struct Try.underlying38 hv
  obtain ⟨fuel, hf⟩ := h
  obtain ⟨l⟩ := cs
  obtain ⟨u, hu, hc⟩ := upd_of hf
  have hc' : l = _ := hc
  subst hc'
  exact ⟨u.1, u.2, hu.1, hu.2, rfl⟩
set_option maxRecDepth 100000 in
theorem play15_of {r : Reach} {b0 : Nat} {v : Value} {d : DataW H} {p : List MemPlace} (hv : Value.okWide Try.prog w r b0 64 v) (h : DataW.Trod enc Try.prog w 0 (fun _ => true) held 64 v d p) :
    ∃ (x : Cfg) (us : List (Int × Int)) (u : Value), x.Raw ∧ UpsOk us ∧ UpsAt w u us ∧ v = .agg #[.int .i64 x.bits, .int .i64 x.rows, .int .i64 x.width, .int .i64 x.mode, .int .u64 x.seed, u] ∧
      ∀ (ts : List TypeId) (ds : List (DataW H)) (j : Nat), (DataW.weightsEach Try.prog ts ds).all (· ≤ reachBytes) = true → ts[j]? = some 64 → ds[j]? = some d → us.length ≤ 140737488355328 := by
  obtain ⟨cs, rfl, hsz⟩ := okWide_struct Try.underlying64 hv
  obtain ⟨fuel, hf⟩ := h
  obtain ⟨l⟩ := cs
  obtain ⟨xs, n, _, hd, hl, hx, hg⟩ := DataW.trod_struct Try.underlying64 hf
  have hl' : l.length = 6 := hsz.trans (by kernel_rfl)
  match l, hl' with
  | [c0, c1, c2, c3, c4, c6], _ =>
    have hx' : xs.length = 2 := hx.trans (by kernel_rfl)
    match xs, hx' with
    | [x0, x2], _ =>
      have e0 : DataW.trod enc Try.prog w 0 (fun _ => true) held n 24 [c0, c1, c2, c3, c4] = some x0 := hg 0 _ rfl
      have e2 : DataW.trod enc Try.prog w 0 (fun _ => true) held n 25 [c6] = some x2 := hg 1 _ rfl
      obtain ⟨x, hxr, hc⟩ := cfg_of e0
      obtain ⟨us, hu, hat, hlen⟩ := ups_of e2
      simp only [List.cons.injEq, and_true] at hc
      obtain ⟨rfl, rfl, rfl, rfl, rfl⟩ := hc
      simp only [Prod.mk.injEq] at hd
      refine ⟨x, us, c6, hxr, hu, hat, rfl, fun ts ds j hs ht hj => ?_⟩
      rcases hlen with rfl | ⟨el, sp, hx2, hel⟩
      · simp
      · have hb : Try.prog.bytesOf 38 = 16 := by kernel_rfl
        have := reach_of hs ht hj (n := (el.length + sp.length) * Try.prog.bytesOf 38) (by
          rw [hd.1]
          simp [DataW.weights, DataW.weightsEach, hx2, Try.underlying64, Try.underlying25])
        rw [hb] at this
        simp only [reachBytes] at this
        omega
set_option maxRecDepth 100000 in
theorem cap_of {n : Nat} {v : Value} {y : DataW H × List MemPlace} (h : DataW.trod enc Try.prog w 0 (fun _ => true) held n 25 [v] = some y) : ∀ p n c, v = .slice p n c → n ≤ c := by
  rcases open_slice Try.underlying25 h with ⟨hcs, _⟩ | ⟨a, len, cap, m, n', D, Pl, hcs, _, hlc, _⟩
  · simp only [List.cons.injEq, and_true] at hcs
    rintro p n c rfl
    cases hcs
    exact Nat.le_refl _
  · simp only [List.cons.injEq, and_true] at hcs
    rintro p n c rfl
    cases hcs
    exact hlc
set_option maxRecDepth 100000 in
theorem cap15_of {r : Reach} {b0 : Nat} {v : Value} {d : DataW H} {p : List MemPlace} (hv : Value.okWide Try.prog w r b0 64 v) (h : DataW.Trod enc Try.prog w 0 (fun _ => true) held 64 v d p) :
    ∀ a0 a1 a2 a3 a4 u, v = .agg #[a0, a1, a2, a3, a4, u] → ∀ p n c, u = .slice p n c → n ≤ c := by
  obtain ⟨cs, rfl, hsz⟩ := okWide_struct Try.underlying64 hv
  obtain ⟨fuel, hf⟩ := h
  obtain ⟨l⟩ := cs
  obtain ⟨xs, n, _, hd, hl, hx, hg⟩ := DataW.trod_struct Try.underlying64 hf
  have hl' : l.length = 6 := hsz.trans (by kernel_rfl)
  match l, hl' with
  | [c0, c1, c2, c3, c4, c6], _ =>
    have hx' : xs.length = 2 := hx.trans (by kernel_rfl)
    match xs, hx' with
    | [x0, x2], _ =>
      have e2 : DataW.trod enc Try.prog w 0 (fun _ => true) held n 25 [c6] = some x2 := hg 1 _ rfl
      intro a0 a1 a2 a3 a4 u he
      have he' := Value.agg.inj he
      simp only [Array.mk.injEq, List.cons.injEq, and_true] at he'
      rw [← he'.2.2.2.2.2]
      exact cap_of e2
set_option maxRecDepth 100000 in
theorem play16_of {r : Reach} {b0 : Nat} {v : Value} {d : DataW H} {p : List MemPlace} (hv : Value.okWide Try.prog w r b0 97 v) (h : DataW.Trod enc Try.prog w 0 (fun _ => true) held 97 v d p) :
    ∃ (x : Cfg) (us : List (Int × Int)) (u : Value), x.Raw ∧ UpsOk us ∧ UpsAt w u us ∧ v = .agg #[.int .i64 x.bits, .int .i64 x.rows, .int .i64 x.width, .int .i64 x.mode, .int .u64 x.seed, u] ∧
      ∀ (ts : List TypeId) (ds : List (DataW H)) (j : Nat), (DataW.weightsEach Try.prog ts ds).all (· ≤ reachBytes) = true → ts[j]? = some 97 → ds[j]? = some d → us.length ≤ 140737488355328 := by
  obtain ⟨cs, rfl, hsz⟩ := okWide_struct Try.underlying97 hv
  obtain ⟨fuel, hf⟩ := h
  obtain ⟨l⟩ := cs
  obtain ⟨xs, n, _, hd, hl, hx, hg⟩ := DataW.trod_struct Try.underlying97 hf
  have hl' : l.length = 6 := hsz.trans (by kernel_rfl)
  match l, hl' with
  | [c0, c1, c2, c3, c4, c6], _ =>
    have hx' : xs.length = 2 := hx.trans (by kernel_rfl)
    match xs, hx' with
    | [x0, x2], _ =>
      have e0 : DataW.trod enc Try.prog w 0 (fun _ => true) held n 24 [c0, c1, c2, c3, c4] = some x0 := hg 0 _ rfl
      have e2 : DataW.trod enc Try.prog w 0 (fun _ => true) held n 25 [c6] = some x2 := hg 1 _ rfl
      obtain ⟨x, hxr, hc⟩ := cfg_of e0
      obtain ⟨us, hu, hat, hlen⟩ := ups_of e2
      simp only [List.cons.injEq, and_true] at hc
      obtain ⟨rfl, rfl, rfl, rfl, rfl⟩ := hc
      simp only [Prod.mk.injEq] at hd
      refine ⟨x, us, c6, hxr, hu, hat, rfl, fun ts ds j hs ht hj => ?_⟩
      rcases hlen with rfl | ⟨el, sp, hx2, hel⟩
      · simp
      · have hb : Try.prog.bytesOf 38 = 16 := by kernel_rfl
        have := reach_of hs ht hj (n := (el.length + sp.length) * Try.prog.bytesOf 38) (by
          rw [hd.1]
          simp [DataW.weights, DataW.weightsEach, hx2, Try.underlying97, Try.underlying25])
        rw [hb] at this
        simp only [reachBytes] at this
        omega
set_option maxRecDepth 100000 in
theorem play17_of {r : Reach} {b0 : Nat} {v : Value} {d : DataW H} {p : List MemPlace} (hv : Value.okWide Try.prog w r b0 109 v) (h : DataW.Trod enc Try.prog w 0 (fun _ => true) held 109 v d p) :
    ∃ (x : Cfg) (us : List (Int × Int)) (u : Value), x.Raw ∧ UpsOk us ∧ UpsAt w u us ∧ v = .agg #[.int .i64 x.bits, .int .i64 x.rows, .int .i64 x.width, .int .i64 x.mode, .int .u64 x.seed, u] ∧
      ∀ (ts : List TypeId) (ds : List (DataW H)) (j : Nat), (DataW.weightsEach Try.prog ts ds).all (· ≤ reachBytes) = true → ts[j]? = some 109 → ds[j]? = some d → us.length ≤ 140737488355328 := by
  obtain ⟨cs, rfl, hsz⟩ := okWide_struct Try.underlying109 hv
  obtain ⟨fuel, hf⟩ := h
  obtain ⟨l⟩ := cs
  obtain ⟨xs, n, _, hd, hl, hx, hg⟩ := DataW.trod_struct Try.underlying109 hf
  have hl' : l.length = 6 := hsz.trans (by kernel_rfl)
  match l, hl' with
  | [c0, c1, c2, c3, c4, c6], _ =>
    have hx' : xs.length = 2 := hx.trans (by kernel_rfl)
    match xs, hx' with
    | [x0, x2], _ =>
      have e0 : DataW.trod enc Try.prog w 0 (fun _ => true) held n 24 [c0, c1, c2, c3, c4] = some x0 := hg 0 _ rfl
      have e2 : DataW.trod enc Try.prog w 0 (fun _ => true) held n 25 [c6] = some x2 := hg 1 _ rfl
      obtain ⟨x, hxr, hc⟩ := cfg_of e0
      obtain ⟨us, hu, hat, hlen⟩ := ups_of e2
      simp only [List.cons.injEq, and_true] at hc
      obtain ⟨rfl, rfl, rfl, rfl, rfl⟩ := hc
      simp only [Prod.mk.injEq] at hd
      refine ⟨x, us, c6, hxr, hu, hat, rfl, fun ts ds j hs ht hj => ?_⟩
      rcases hlen with rfl | ⟨el, sp, hx2, hel⟩
      · simp
      · have hb : Try.prog.bytesOf 38 = 16 := by kernel_rfl
        have := reach_of hs ht hj (n := (el.length + sp.length) * Try.prog.bytesOf 38) (by
          rw [hd.1]
          simp [DataW.weights, DataW.weightsEach, hx2, Try.underlying109, Try.underlying25])
        rw [hb] at this
        simp only [reachBytes] at this
        omega
set_option maxRecDepth 100000 in
theorem play13_of {r : Reach} {b0 : Nat} {v : Value} {d : DataW H} {p : List MemPlace} (hv : Value.okWide Try.prog w r b0 118 v) (h : DataW.Trod enc Try.prog w 0 (fun _ => true) held 118 v d p) :
    ∃ (x : Cfg) (lv : Int) (us : List (Int × Int)) (u : Value), x.Raw ∧ I64 lv ∧ UpsOk us ∧ UpsAt w u us ∧ v = .agg #[.int .i64 x.bits, .int .i64 x.rows, .int .i64 x.width, .int .i64 x.mode, .int .u64 x.seed, .int .i64 lv, u] ∧
      ∀ (ts : List TypeId) (ds : List (DataW H)) (j : Nat), (DataW.weightsEach Try.prog ts ds).all (· ≤ reachBytes) = true → ts[j]? = some 118 → ds[j]? = some d → us.length ≤ 140737488355328 := by
  obtain ⟨cs, rfl, hsz⟩ := okWide_struct Try.underlying118 hv
  obtain ⟨fuel, hf⟩ := h
  obtain ⟨l⟩ := cs
  obtain ⟨xs, n, _, hd, hl, hx, hg⟩ := DataW.trod_struct Try.underlying118 hf
  have hl' : l.length = 7 := hsz.trans (by kernel_rfl)
  match l, hl' with
  | [c0, c1, c2, c3, c4, c5, c6], _ =>
    have hx' : xs.length = 3 := hx.trans (by kernel_rfl)
    match xs, hx' with
    | [x0, x1, x2], _ =>
      have e0 : DataW.trod enc Try.prog w 0 (fun _ => true) held n 24 [c0, c1, c2, c3, c4] = some x0 := hg 0 _ rfl
      have e1 : DataW.trod enc Try.prog w 0 (fun _ => true) held n 3 [c5] = some x1 := hg 1 _ rfl
      have e2 : DataW.trod enc Try.prog w 0 (fun _ => true) held n 25 [c6] = some x2 := hg 2 _ rfl
      obtain ⟨x, hxr, hc⟩ := cfg_of e0
      obtain ⟨lv, h1, _, w1⟩ := DataW.trod_int Try.underlying3 e1
      obtain ⟨us, hu, hat, hlen⟩ := ups_of e2
      simp only [List.cons.injEq, and_true] at hc h1
      obtain ⟨rfl, rfl, rfl, rfl, rfl⟩ := hc
      subst h1
      simp only [Prod.mk.injEq] at hd
      refine ⟨x, lv, us, c6, hxr, wf_i64 w1, hu, hat, rfl, fun ts ds j hs ht hj => ?_⟩
      rcases hlen with rfl | ⟨el, sp, hx2, hel⟩
      · simp
      · have hb : Try.prog.bytesOf 38 = 16 := by kernel_rfl
        have := reach_of hs ht hj (n := (el.length + sp.length) * Try.prog.bytesOf 38) (by
          rw [hd.1]
          simp [DataW.weights, DataW.weightsEach, hx2, Try.underlying118, Try.underlying25])
        rw [hb] at this
        simp only [reachBytes] at this
        omega
end
end Go.Proofs.Ytpnbgoahjoabkaa
