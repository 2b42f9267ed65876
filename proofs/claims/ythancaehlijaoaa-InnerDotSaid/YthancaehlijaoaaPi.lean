/- A region whose order is open is walked in one order of the prover's choice: operations that yield one value in a class of worlds are taken first, the others when nothing else may come up. -/
import Derived.Test.YthancaehlijaoaaTail
import Derived.OrdersHeld
namespace Go.Proofs.Ythancaehlijaoaa
set_option linter.unusedVariables false
open Go.RowKit
section
variable {P : Program} {ops : Array Oper} {md : Region.Mode} {C D : World → Prop} {ex : List Nat} {Q : Exit → Act → World → Prop}

/-- Whatever order is picked from here on; behind each operation but those of 'ex' the world is of the class. -/
def anyC (P : Program) (md : Region.Mode) (ops : Array Oper) (Q : Exit → Act → World → Prop) (C : World → Prop) (ex : List Nat) : Nat → Array Bool → Act → World → Prop
  | 0, listed, a, w => Region.ready md ops listed = [] ∧ Q .normal a w
  | f + 1, listed, a, w => (Region.ready md ops listed = [] → Q .normal a w) ∧
    ∀ i ∈ Region.ready md ops listed, wpOp P ops Q i (fun a' w' => (ex.contains i = false → C w → C w') ∧ anyC P md ops Q C ex f (listed.setIfInBounds i true) a' w') a w

theorem any_of_anyC : ∀ (f : Nat) (listed : Array Bool) (a : Act) (w : World), anyC P md ops Q C ex f listed a w → wpAny P md ops Q f listed a w := by
  intro f
  induction f with
  | zero => intro _ _ _ h; exact h
  | succ f ih => intro _ _ _ h; exact ⟨h.1, fun i hi => wpOp_mono (fun a' w' h' => ih _ a' w' h'.2) (h.2 i hi)⟩

theorem anyC_first {i : Nat} {oi : Oper} {v : Value} (hi : ops[i]? = some oi) (hsel : ∀ (j : Nat) (o : Oper) cs b, ops[j]? = some o → o.op ≠ .select cs b)
    (hQ : ∀ c a w, Q (.panic c) (a.put oi.dst v) w → Q (.panic c) a w)
    (hex : (∀ w, D w) ∨ (D = C ∧ ∀ j oj, ops[j]? = some oj → ex.contains j = true → ∃ e ∈ oj.after, Region.binds md e = true ∧ e.on = i)) :
    ∀ (f : Nat) (listed : Array Bool) (a : Act) (w : World),
      (∀ j oj, ops[j]? = some oj → j ≠ i → listed.getD j true = false → (∀ e ∈ oj.after, Region.binds md e = true → e.on ≠ i) → oi.apart ops oj = true) →
      i ∈ Region.ready md ops listed → YieldsIf P ops D oi v a → D w →
      anyC P md ops Q C ex f (listed.setIfInBounds i true) (a.put oi.dst v) w → anyC P md ops Q C ex (f + 1) listed a w := by
  intro f
  induction f with
  | zero =>
    intro listed a w _ hr hy hD H
    refine ⟨fun h => (by rw [h] at hr; cases hr), fun j hj => ?_⟩
    by_cases hji : j = i
    · subst hji
      exact hy.wpOp hi hD ⟨fun _ h => h, H⟩
    · have := ready_mono hj hji
      rw [H.1] at this
      cases this
  | succ f ih =>
    intro listed a w hfree hr hy hD H
    refine ⟨fun h => (by rw [h] at hr; cases hr), fun j hj => ?_⟩
    by_cases hji : j = i
    · subst hji
      exact hy.wpOp hi hD ⟨fun _ h => h, H⟩
    · have h1 := H.2 j (ready_mono hj hji)
      obtain ⟨hjun, oj, hoj, hall⟩ := mem_ready.1 hj
      have hnot : ∀ e ∈ oj.after, Region.binds md e = true → e.on ≠ i := fun e he hb heq => by
        have h1 := hall e he hb
        have h0 := (mem_ready.1 hr).1
        rw [heq, getD_both h0] at h1
        cases h1
      have h2 := wpOp_putIf hoj (hfree j oj hoj hji hjun hnot) (fun cs b => hsel i oi cs b hi) (fun cs b => hsel j oj cs b hoj) hQ hy h1
      refine wpOp_mono (fun a' w' h3 => ⟨h3.2.1, ?_⟩) h2
      have hfree' : ∀ k ok, ops[k]? = some ok → k ≠ i → (listed.setIfInBounds j true).getD k true = false →
          (∀ e ∈ ok.after, Region.binds md e = true → e.on ≠ i) → oi.apart ops ok = true := fun k ok hk hki hun hno => by
        refine hfree k ok hk hki ?_ hno
        by_cases hjk : j = k
        · subst hjk; exact hjun
        · rw [getD_set_ne true hjk] at hun; exact hun
      have H3 : anyC P md ops Q C ex f ((listed.setIfInBounds j true).setIfInBounds i true) (a'.put oi.dst v) w' := by
        rw [Array.setIfInBounds_comm _ _ hji]
        exact h3.2.2
      refine ih _ a' w' hfree' (ready_mono hr (Ne.symm hji)) h3.1 ?_ H3
      rcases hex with hex | ⟨rfl, hex⟩
      · exact hex w'
      · cases hexj : ex.contains j with
        | false => exact h3.2.1 hexj hD
        | true =>
          obtain ⟨e, he, hb, ho⟩ := hex j oj hoj hexj
          exact absurd ho (hnot e he hb)

/-- Operations that hand back a value, if anything. -/
def plainOp : Op → Bool
  | .move _ | .assign _ | .pick .. | .load .. | .nilCheck _ | .binOp .. | .unOp .. | .convert .. | .fieldAddr .. | .field .. | .indexAddr .. | .index .. | .slice .. | .extract .. | .makeInterface .. | .makeFunc .. | .build .. | .typeAssert .. | .lookup .. => true
  | .call { callee := .builtin .len, .. } | .call { callee := .builtin .min, .. } | .call { callee := .builtin .max, .. } => true
  | _ => false
theorem plain_value {o : Oper} (hp : plainOp o.op = true) {ρ : Operand → Value} {w w' : World} {n : Next} (h : (execOp ρ o).run P w = .ok n w') : ∃ u, n = .value u := by
  have key : ∀ s : Sem Value, Sem.run P (do pure (.value (← s))) w = .ok n w' → ∃ u, n = Next.value u := by
    intro s hs
    simp only [Sem.run_bind, Result.andThen] at hs
    split at hs
    · simp at hs; exact ⟨_, hs.1.symm⟩
    · cases hs
  rw [execOp.eq_def] at h
  cases hop : o.op <;> simp only [hop, plainOp, Bool.false_eq_true] at hp h
  all_goals try exact key _ h
  case move => simp at h; exact ⟨_, h.1.symm⟩
  case assign => simp at h; exact ⟨_, h.1.symm⟩
  case pick =>
    simp only [Sem.run_bind, Result.andThen] at h
    split at h
    · simp at h; exact ⟨_, h.1.symm⟩
    · cases h
  case nilCheck x =>
    have np : ∀ {α : Type} (r : α) (v : World), Sem.run P (runtimePanic .nilDeref : Sem α) w = .ok r v → False := by
      intro α r v hh
      simp only [runtimePanic, Sem.run_bind, Result.andThen] at hh
      simp [goPanic] at hh
    split at h
    any_goals exact (np _ _ h).elim
    · split at h
      · exact (np _ _ h).elim
      · simp only [Sem.run_bind, Result.andThen] at h
        repeat' (split at h)
        all_goals first | (simp at h; exact ⟨_, h.1.symm⟩) | cases h | skip
      · simp at h; exact ⟨_, h.1.symm⟩
    · simp at h; exact ⟨_, h.1.symm⟩
  case call c =>
    obtain ⟨callee, args, argTypes⟩ := c
    cases callee with
    | builtin b =>
      simp only [resolve, Sem.run_bind, Sem.run_pure, Result.andThen, invoke] at h
      cases b <;> simp only [Bool.false_eq_true] at hp
      all_goals exact key _ h
    | value f => simp at hp
    | invoke r n => simp at hp
theorem yields_of_quiet {o : Oper} {a : Act} {K : Act → Prop} (hw : Region.wanted o (yielded ops a.tmps) = true) (hp : plainOp o.op = true) (h : o.quiet P a D K) (hne : ∃ w, D w) : ∃ v, YieldsIf P ops D o v a ∧ K (a.put o.dst v) := by
  obtain ⟨v, h1, h2⟩ := h
  refine ⟨v, .inl ⟨hw, fun w hw' => ?_⟩, h2⟩
  have h3 := h1 w hw'
  unfold Oper.quietAt at h3
  cases hr : (execOp a.eval o).run P w with
  | halt x w' => rw [hr] at h3; exact h3.elim
  | ok n w' =>
    obtain ⟨u, rfl⟩ := plain_value hp hr
    rw [hr] at h3
    obtain ⟨e1, e2⟩ := h3
    rw [e1, e2]

/-- Every operation of 'ex' waits for number i. -/
def waitsB (md : Region.Mode) (ops : Array Oper) (ex : List Nat) (i : Nat) : Bool := ex.all fun j => Region.waitsFor md ops j i
theorem waitsB_spec {i : Nat} (h : waitsB md ops ex i = true) (j : Nat) (oj : Oper) (hj : ops[j]? = some oj) (hex : ex.contains j = true) : ∃ e ∈ oj.after, Region.binds md e = true ∧ e.on = i := by
  have h1 := List.all_eq_true.1 h j (by simpa using hex)
  obtain ⟨o', ho', e, he, hb, hon⟩ := Region.waitsFor_spec h1
  have : o' = oj := Option.some.inj (ho'.symm.trans hj)
  subst this
  exact ⟨e, he, hb, hon⟩

/-- An operation that touches no memory. -/
theorem pi_t (i : Nat) {l : List Oper} {oi : Oper} {f : Nat} {listed : Array Bool} {a : Act} {w : World} (hi' : l[i]? = some oi) (hB : (Region.noSelect l.toArray && Region.free md l.toArray listed i && (Region.ready md l.toArray listed).contains i && plainOp oi.op) = true)
    (hw : Region.wanted oi (yielded l.toArray a.tmps) = true) (hQ : ∀ v c a w, Q (.panic c) (a.put oi.dst v) w → Q (.panic c) a w)
    (h : ∀ K : Act → Prop, (∀ a', anyC P md l.toArray Q C ex f (listed.setIfInBounds i true) a' w → K a') → oi.quiet P a (fun _ => True) K) : anyC P md l.toArray Q C ex (f + 1) listed a w := by
  have hi : l.toArray[i]? = some oi := by simpa using hi'
  simp only [Bool.and_eq_true] at hB
  obtain ⟨⟨⟨hs, hf⟩, hr⟩, hp⟩ := hB
  obtain ⟨v, hy, hK⟩ := yields_of_quiet hw hp (h _ fun _ h => h) ⟨w, trivial⟩
  exact anyC_first hi (Region.noSelect_spec hs) (hQ v) (.inl fun _ => trivial) f listed a w (Region.free_spec hi hf) (by simpa using hr) hy trivial hK
/-- An operation that reads what every world of the class has. -/
theorem pi_c (i : Nat) {l : List Oper} {oi : Oper} {f : Nat} {listed : Array Bool} {a : Act} {w : World} (hC : C w) (hi' : l[i]? = some oi) (hB : (Region.noSelect l.toArray && Region.free md l.toArray listed i && (Region.ready md l.toArray listed).contains i && plainOp oi.op && waitsB md l.toArray ex i) = true)
    (hw : Region.wanted oi (yielded l.toArray a.tmps) = true) (hQ : ∀ v c a w, Q (.panic c) (a.put oi.dst v) w → Q (.panic c) a w)
    (h : ∀ K : Act → Prop, (∀ a', anyC P md l.toArray Q C ex f (listed.setIfInBounds i true) a' w → K a') → oi.quiet P a C K) : anyC P md l.toArray Q C ex (f + 1) listed a w := by
  have hi : l.toArray[i]? = some oi := by simpa using hi'
  simp only [Bool.and_eq_true] at hB
  obtain ⟨⟨⟨⟨hs, hf⟩, hr⟩, hp⟩, hx⟩ := hB
  obtain ⟨v, hy, hK⟩ := yields_of_quiet hw hp (h _ fun _ h => h) ⟨w, hC⟩
  exact anyC_first hi (Region.noSelect_spec hs) (hQ v) (.inr ⟨rfl, waitsB_spec hx⟩) f listed a w (Region.free_spec hi hf) (by simpa using hr) hy hC hK
/-- An operation whose guard says no. -/
theorem pi_no (i : Nat) {l : List Oper} {oi : Oper} {f : Nat} {listed : Array Bool} {a : Act} {w : World} (hi' : l[i]? = some oi) (hB : (Region.noSelect l.toArray && Region.free md l.toArray listed i && (Region.ready md l.toArray listed).contains i) = true)
    (hw : Region.wanted oi (yielded l.toArray a.tmps) = false) (hQ : ∀ v c a w, Q (.panic c) (a.put oi.dst v) w → Q (.panic c) a w)
    (h : anyC P md l.toArray Q C ex f (listed.setIfInBounds i true) (a.put oi.dst undef) w) : anyC P md l.toArray Q C ex (f + 1) listed a w := by
  have hi : l.toArray[i]? = some oi := by simpa using hi'
  simp only [Bool.and_eq_true] at hB
  obtain ⟨⟨hs, hf⟩, hr⟩ := hB
  exact anyC_first (D := fun _ => True) hi (Region.noSelect_spec hs) (hQ undef) (.inl fun _ => trivial) f listed a w (Region.free_spec hi hf) (by simpa using hr) (.inr ⟨hw, rfl⟩) trivial h
/-- An operation that is carried out when nothing else may come up; behind it the world is of the class, if not all that reads has come up. -/
theorem pi_l (i : Nat) {l : List Oper} {oi : Oper} {f : Nat} {listed : Array Bool} {a : Act} {w : World} (hi' : l[i]? = some oi) (hr : decide (Region.ready md l.toArray listed = [i]) = true)
    (h : ∀ K : Act → World → Prop, (∀ a' w', (ex.contains i = false → C w → C w') → anyC P md l.toArray Q C ex f (listed.setIfInBounds i true) a' w' → K a' w') → wpList P l.toArray (Exit.then K Q) [oi] a w) : anyC P md l.toArray Q C ex (f + 1) listed a w := by
  have hi : l.toArray[i]? = some oi := by simpa using hi'
  have hr' : Region.ready md l.toArray listed = [i] := of_decide_eq_true hr
  refine ⟨fun h => (by rw [hr'] at h; cases h), fun j hj => ?_⟩
  rw [hr'] at hj
  obtain rfl : j = i := by simpa using hj
  have H := h _ fun a' w' h1 h2 => And.intro h1 h2
  unfold wpOp
  simp only [hi]
  unfold wpList at H
  by_cases hw : Region.wanted oi (yielded l.toArray a.tmps) = true
  · simp only [hw, if_true] at H ⊢
    rcases H with H | ⟨H1, H2⟩
    · left
      unfold Oper.wp at H ⊢
      generalize (execOp a.eval oi).run P w = r at *
      cases r with
      | ok n w' =>
        cases n <;> simp only [Oper.upon] at H ⊢
        case value u => exact H
        case skip => exact H
        case defer d => exact H
        case enter g args =>
          refine Calls.mono H fun e w'' he => ?_
          cases e with
          | returned u => exact he
          | panicked c => exact he
          | outgrown => exact he
        case row row args => exact H
      | halt x w' => cases x <;> simp only [Oper.upon] at H ⊢; exact H
    · right
      refine ⟨H1, ?_⟩
      exact H2
  · simp only [hw] at H ⊢
    exact H
/-- One of them. -/
theorem pi_w (i : Nat) {l : List Oper} {oi : Oper} {f : Nat} {listed : Array Bool} {a : Act} {w : World} (hi' : l[i]? = some oi)
    (h : ∀ K : Act → World → Prop, (∀ a' w', (ex.contains i = false → C w → C w') → anyC P md l.toArray Q C ex f (listed.setIfInBounds i true) a' w' → K a' w') → wpList P l.toArray (Exit.then K Q) [oi] a w) :
    wpOp P l.toArray Q i (fun a' w' => (ex.contains i = false → C w → C w') ∧ anyC P md l.toArray Q C ex f (listed.setIfInBounds i true) a' w') a w := by
  have hi : l.toArray[i]? = some oi := by simpa using hi'
  have H := h _ fun a' w' h1 h2 => And.intro h1 h2
  unfold wpOp
  simp only [hi]
  unfold wpList at H
  by_cases hw : Region.wanted oi (yielded l.toArray a.tmps) = true
  · simp only [hw, if_true] at H ⊢
    rcases H with H | ⟨H1, H2⟩
    · left
      unfold Oper.wp at H ⊢
      generalize (execOp a.eval oi).run P w = r at *
      cases r with
      | ok n w' =>
        cases n <;> simp only [Oper.upon] at H ⊢
        case value u => exact H
        case skip => exact H
        case defer d => exact H
        case enter g args =>
          refine Calls.mono H fun e w'' he => ?_
          cases e with
          | returned u => exact he
          | panicked c => exact he
          | outgrown => exact he
        case row row args => exact H
      | halt x w' => cases x <;> simp only [Oper.upon] at H ⊢; exact H
    · exact .inr ⟨H1, H2⟩
  · simp only [hw] at H ⊢
    exact H
/-- Two operations may come up: whichever does. -/
theorem pi_b (i j : Nat) {l : List Oper} {oi oj : Oper} {f : Nat} {listed : Array Bool} {a : Act} {w : World} (hi' : l[i]? = some oi) (hj' : l[j]? = some oj) (hr : decide (Region.ready md l.toArray listed = [i, j]) = true)
    (h1 : ∀ K : Act → World → Prop, (∀ a' w', (ex.contains i = false → C w → C w') → anyC P md l.toArray Q C ex f (listed.setIfInBounds i true) a' w' → K a' w') → wpList P l.toArray (Exit.then K Q) [oi] a w)
    (h2 : ∀ K : Act → World → Prop, (∀ a' w', (ex.contains j = false → C w → C w') → anyC P md l.toArray Q C ex f (listed.setIfInBounds j true) a' w' → K a' w') → wpList P l.toArray (Exit.then K Q) [oj] a w) : anyC P md l.toArray Q C ex (f + 1) listed a w := by
  have hr' : Region.ready md l.toArray listed = [i, j] := of_decide_eq_true hr
  refine ⟨fun h => (by rw [hr'] at h; cases h), fun k hk => ?_⟩
  rw [hr'] at hk
  simp only [List.mem_cons, List.not_mem_nil, or_false] at hk
  rcases hk with rfl | rfl
  · exact pi_w _ hi' h1
  · exact pi_w _ hj' h2
theorem pi_end {f : Nat} {listed : Array Bool} {a : Act} {w : World} (hr : (Region.ready md ops listed).isEmpty = true) (h : Q .normal a w) : anyC P md ops Q C ex f listed a w := by
  have hr' : Region.ready md ops listed = [] := List.isEmpty_iff.1 hr
  cases f with
  | zero => exact ⟨hr', h⟩
  | succ f => exact ⟨fun _ => h, (by rw [hr']; intro i hi; cases hi)⟩
theorem pi_start {id : Nat} {l : List Oper} {a : Act} {w : World} (C : World → Prop) (ex : List Nat) (hm : P.follows .mixedOrders = true)
    (h : anyC P .any l.toArray Q C ex l.length (Array.replicate l.length false) a w.drew) : (Code.region id l.toArray true).wp P Q a w := by
  refine wp_region_any hm ?_
  have := any_of_anyC _ _ _ _ h
  simpa using this
end
theorem af_step {W w w' : World} (h : ∃ x : After W, w = x.w) (he : Ext w w') : ∃ x : After W, w' = x.w := by
  obtain ⟨x, rfl⟩ := h
  exact ⟨⟨_, x.h.trans' he⟩, rfl⟩
/-- A world that meets S. -/
structure Holds (S : World → Prop) where
  w : World
  h : S w
theorem hs_mk {S : World → Prop} {w : World} (h : S w) : ∃ x : Holds S, w = x.w := ⟨⟨w, h⟩, rfl⟩
theorem af_set {W w : World} {p : Addr} (h : ∃ x : After W, w = x.w) (hp : W.heap.size ≤ p.block) (u : Value) : ∃ x : After W, w.setCell p u = x.w := by
  obtain ⟨x, rfl⟩ := h
  exact ⟨⟨_, x.h.setR hp u⟩, rfl⟩
theorem af_drew (W : World) : ∃ x : After W, W.drew = x.w := ⟨⟨_, (Ext.refl _).drew⟩, rfl⟩
theorem af_self (W : World) : ∃ x : After W, W = x.w := ⟨⟨_, Ext.refl _⟩, rfl⟩
end Go.Proofs.Ythancaehlijaoaa
