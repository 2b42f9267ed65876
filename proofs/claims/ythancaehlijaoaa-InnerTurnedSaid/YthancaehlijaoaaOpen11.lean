/- What a config, a pair of numbers, and two rows of updates read as. No condition. -/
import Derived.Test.YthancaehlijaoaaOpen10
namespace Go.Proofs.Ythancaehlijaoaa
set_option linter.unusedVariables false
open Go.ChangeShapes Go.WideShapes Go.ChangeAt Go.RowKit Go.Deep
section
variable {H : Type} {enc : TypeId × Value → H} {w : World} {held : Bool}
set_option maxRecDepth 100000 in
theorem cfgarg_of {r : Reach} {b0 : Nat} {v : Value} {d : DataW H} {p : List MemPlace} (hv : Value.okWide Try.prog w r b0 24 v) (h : DataW.Trod enc Try.prog w 0 (fun _ => true) held 24 v d p) :
    ∃ (x : Cfg), x.Raw ∧ v = .agg #[.int .i64 x.bits, .int .i64 x.rows, .int .i64 x.width, .int .i64 x.mode, .int .u64 x.seed] := by
  obtain ⟨cs, rfl, hsz⟩ := okWide_struct Try.underlying24 hv
  obtain ⟨fuel, hf⟩ := h
  obtain ⟨l⟩ := cs
  obtain ⟨x, hxr, hc⟩ := cfg_of hf
  have hc' : l = _ := hc
  subst hc'
  exact ⟨x, hxr, rfl⟩
set_option maxRecDepth 100000 in
theorem pairarg_of {r : Reach} {b0 : Nat} {v : Value} {d : DataW H} {p : List MemPlace} (hv : Value.okWide Try.prog w r b0 78 v) (h : DataW.Trod enc Try.prog w 0 (fun _ => true) held 78 v d p) :
    ∃ (a b : Int), I64 a ∧ I64 b ∧ v = .agg #[.int .i64 a, .int .i64 b] := by
  have hv' : ∃ cs, v = .agg cs ∧ cs.size = 2 := by
    simp only [Value.okWide, Try.underlying78] at hv
    obtain ⟨cs, h1, h2, _⟩ := hv
    exact ⟨cs, h1, h2.trans (by kernel_rfl)⟩
  obtain ⟨cs, rfl, hsz⟩ := hv'
  obtain ⟨fuel, hf⟩ := h
  obtain ⟨l⟩ := cs
  obtain ⟨xs, m, _, _, _, hl, hel⟩ := DataW.trod_array Try.underlying78 hf
  match l, hsz with
  | [c0, c1], _ =>
    match xs, hl with
    | [x0, x1], _ =>
      have hC : Try.prog.cellsOf 3 = 1 := by kernel_rfl
      have e0 : DataW.trod enc Try.prog w 0 (fun _ => true) held m 3 [c0] = some x0 := by have := hel 0 (by decide); rw [hC] at this; exact this
      have e1 : DataW.trod enc Try.prog w 0 (fun _ => true) held m 3 [c1] = some x1 := by have := hel 1 (by decide); rw [hC] at this; exact this
      obtain ⟨a0, h0, _, w0⟩ := DataW.trod_int Try.underlying3 e0
      obtain ⟨a1, h1, _, w1⟩ := DataW.trod_int Try.underlying3 e1
      simp only [List.cons.injEq, and_true] at h0 h1
      subst h0 h1
      exact ⟨a0, a1, wf_i64 w0, wf_i64 w1, rfl⟩
set_option maxRecDepth 100000 in
theorem two_of {r : Reach} {b0 : Nat} {v : Value} {d : DataW H} {p : List MemPlace} (hv : Value.okWide Try.prog w r b0 60 v) (h : DataW.Trod enc Try.prog w 0 (fun _ => true) held 60 v d p) :
    ∃ (x : Cfg) (lv : Int) (us : List (Int × Int)) (u : Value) (ms : List (Int × Int)) (m : Value), x.Raw ∧ I64 lv ∧ UpsOk us ∧ UpsAt w u us ∧ UpsOk ms ∧ UpsAt w m ms ∧ v = .agg #[.int .i64 x.bits, .int .i64 x.rows, .int .i64 x.width, .int .i64 x.mode, .int .u64 x.seed, .int .i64 lv, u, m] ∧
      ∀ (ts : List TypeId) (ds : List (DataW H)) (j : Nat), (DataW.weightsEach Try.prog ts ds).all (· ≤ reachBytes) = true → ts[j]? = some 60 → ds[j]? = some d → us.length ≤ 140737488355328 ∧ ms.length ≤ 140737488355328 := by
  obtain ⟨cs, rfl, hsz⟩ := okWide_struct Try.underlying60 hv
  obtain ⟨fuel, hf⟩ := h
  obtain ⟨l⟩ := cs
  obtain ⟨xs, n, _, hd, hl, hx, hg⟩ := DataW.trod_struct Try.underlying60 hf
  have hl' : l.length = 8 := hsz.trans (by kernel_rfl)
  match l, hl' with
  | [c0, c1, c2, c3, c4, c5, c6, c7], _ =>
    have hx' : xs.length = 4 := hx.trans (by kernel_rfl)
    match xs, hx' with
    | [x0, x1, x2, x3], _ =>
      have e0 : DataW.trod enc Try.prog w 0 (fun _ => true) held n 24 [c0, c1, c2, c3, c4] = some x0 := hg 0 _ rfl
      have e1 : DataW.trod enc Try.prog w 0 (fun _ => true) held n 3 [c5] = some x1 := hg 1 _ rfl
      have e2 : DataW.trod enc Try.prog w 0 (fun _ => true) held n 25 [c6] = some x2 := hg 2 _ rfl
      have e3 : DataW.trod enc Try.prog w 0 (fun _ => true) held n 25 [c7] = some x3 := hg 3 _ rfl
      obtain ⟨x, hxr, hc⟩ := cfg_of e0
      obtain ⟨lv, h1, _, w1⟩ := DataW.trod_int Try.underlying3 e1
      obtain ⟨us, hu, hat, hlen⟩ := ups_of e2
      obtain ⟨ms, hm, hmt, hmlen⟩ := ups_of e3
      simp only [List.cons.injEq, and_true] at hc h1
      obtain ⟨rfl, rfl, rfl, rfl, rfl⟩ := hc
      subst h1
      simp only [Prod.mk.injEq] at hd
      have hb : Try.prog.bytesOf 34 = 16 := by kernel_rfl
      refine ⟨x, lv, us, c6, ms, c7, hxr, wf_i64 w1, hu, hat, hm, hmt, rfl, fun ts ds j hs ht hj => ⟨?_, ?_⟩⟩
      · rcases hlen with rfl | ⟨el, sp, hx2, hel⟩
        · simp
        · have := reach_of hs ht hj (n := (el.length + sp.length) * Try.prog.bytesOf 34) (by
            rw [hd.1]
            simp [DataW.weights, DataW.weightsEach, hx2, Try.underlying60, Try.underlying25])
          rw [hb] at this
          simp only [reachBytes] at this
          omega
      · rcases hmlen with rfl | ⟨el, sp, hx2, hel⟩
        · simp
        · have := reach_of hs ht hj (n := (el.length + sp.length) * Try.prog.bytesOf 34) (by
            rw [hd.1]
            simp [DataW.weights, DataW.weightsEach, hx2, Try.underlying60, Try.underlying25])
          rw [hb] at this
          simp only [reachBytes] at this
          omega
end
end Go.Proofs.Ythancaehlijaoaa
