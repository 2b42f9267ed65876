/- What a play reads as. No condition. -/
import Derived.Test.YthancaehlijaoaaOpen
namespace Go.Proofs.Ythancaehlijaoaa
set_option linter.unusedVariables false
open Go.ChangeShapes Go.WideShapes Go.ChangeAt Go.RowKit Go.Deep

theorem own : ownKnob Try.prog.godebug = none := by kernel_rfl
theorem laidOut : laidOutB Try.prog = true := by kernel_rfl
section
variable {H : Type} {enc : TypeId × Value → H} {w : World} {held : Bool}
set_option maxRecDepth 100000 in
theorem play_of {r : Reach} {b0 : Nat} {v : Value} {d : DataW H} {p : List MemPlace} (hv : Value.okWide Try.prog w r b0 27 v) (h : DataW.Trod enc Try.prog w 0 (fun _ => true) held 27 v d p) :
    ∃ (x : Cfg) (lv : Int) (us : List (Int × Int)) (u : Value), x.Raw ∧ I64 lv ∧ UpsOk us ∧ UpsAt w u us ∧ v = .agg #[.int .i64 x.bits, .int .i64 x.rows, .int .i64 x.width, .int .i64 x.mode, .int .u64 x.seed, .int .i64 lv, u] ∧
      ∀ (ts : List TypeId) (ds : List (DataW H)) (j : Nat), (DataW.weightsEach Try.prog ts ds).all (· ≤ reachBytes) = true → ts[j]? = some 27 → ds[j]? = some d → us.length ≤ 140737488355328 := by
  obtain ⟨cs, rfl, hsz⟩ := okWide_struct Try.underlying27 hv
  obtain ⟨fuel, hf⟩ := h
  obtain ⟨l⟩ := cs
  obtain ⟨xs, n, _, hd, hl, hx, hg⟩ := DataW.trod_struct Try.underlying27 hf
  have hl' : l.length = 7 := hsz.trans (by kernel_rfl)
  match l, hl' with
  | [c0, c1, c2, c3, c4, c5, c6], _ =>
    have hx' : xs.length = 3 := hx.trans (by kernel_rfl)
    match xs, hx' with
    | [x0, x1, x2], _ =>
      have e0 : DataW.trod enc Try.prog w 0 (fun _ => true) held n 24 [c0, c1, c2, c3, c4] = some x0 := hg 0 _ rfl
      have e1 : DataW.trod enc Try.prog w 0 (fun _ => true) held n 3 [c5] = some x1 := hg 1 _ rfl
      have e2 : DataW.trod enc Try.prog w 0 (fun _ => true) held n 25 [c6] = some x2 := hg 2 _ rfl
      obtain ⟨x, hxr, hc⟩ := cfg_of e0
      obtain ⟨lv, h1, _, w1⟩ := DataW.trod_int Try.underlying3 e1
      obtain ⟨us, hu, hat, hlen⟩ := ups_of e2
      simp only [List.cons.injEq, and_true] at hc h1
      obtain ⟨rfl, rfl, rfl, rfl, rfl⟩ := hc
      subst h1
      simp only [Prod.mk.injEq] at hd
      refine ⟨x, lv, us, c6, hxr, wf_i64 w1, hu, hat, rfl, fun ts ds j hs ht hj => ?_⟩
      rcases hlen with rfl | ⟨el, sp, hx2, hel⟩
      · simp
      · have hb : Try.prog.bytesOf 34 = 16 := by kernel_rfl
        have := reach_of hs ht hj (n := (el.length + sp.length) * Try.prog.bytesOf 34) (by
          rw [hd.1]
          simp [DataW.weights, DataW.weightsEach, hx2, Try.underlying27, Try.underlying25])
        rw [hb] at this
        simp only [reachBytes] at this
        omega
end
end Go.Proofs.Ythancaehlijaoaa
