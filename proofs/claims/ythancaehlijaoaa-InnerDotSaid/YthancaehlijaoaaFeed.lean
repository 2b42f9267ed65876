/- Plain law: small updates made to a sketch of noughts are never refused. -/
import Derived.Test.YthancaehlijaoaaAny
namespace Go.Proofs.Ythancaehlijaoaa
set_option linter.unusedVariables false
open Go.RowKit

def Bnd (B : Int) (l : List Int) : Prop := ∀ x ∈ l, -B ≤ x ∧ x ≤ B
theorem Bnd.getD {B : Int} {l : List Int} (h : Bnd B l) (hB : 0 ≤ B) (k : Nat) : -B ≤ l.getD k 0 ∧ l.getD k 0 ≤ B := by
  rcases Nat.lt_or_ge k l.length with h' | h'
  · exact h _ (getD_mem h')
  · rw [show l.getD k 0 = 0 by simp [h']]; omega
theorem Bnd.readL {B : Int} {l : List Int} (h : Bnd B l) (hB : 0 ≤ B) (W : Nat) (cs : List Int) : Bnd B (readL W l cs) := by
  intro x hx
  simp only [Go.Proofs.Ythancaehlijaoaa.readL, List.mem_map, List.mem_range] at hx
  obtain ⟨j, _, rfl⟩ := hx
  exact h.getD hB _
theorem Bnd.minL {B : Int} {l : List Int} (h : Bnd B l) (hB : 0 ≤ B) : -B ≤ minL l ∧ Go.Proofs.Ythancaehlijaoaa.minL l ≤ B := by
  by_cases he : l = []
  · subst he; simp [Go.Proofs.Ythancaehlijaoaa.minL]; omega
  · exact h _ (minL_spec l he).1
theorem upd_bnd {C : Cfg} {lv : Int} {R W : Nat} {l : List Int} {key d B T : Int} (h : Bnd B l) (hB : 0 ≤ B) (hT : 0 ≤ T) (hd : -T ≤ d ∧ d ≤ T) : Bnd (B + T) (updL C lv R W l key d) := by
  intro x hx
  unfold updL at hx
  cases hm : decide (C.mode = 2) with
  | true =>
    rw [hm] at hx
    rcases putK_mem R hx with h1 | ⟨j, _, rfl⟩
    · have := h x h1; omega
    · have h2 := h.getD hB (at_ W (cols C lv key) j)
      have h3 := (h.readL hB W (cols C lv key)).minL hB
      omega
  | false =>
    rw [hm] at hx
    rcases putK_mem R hx with h1 | ⟨j, _, rfl⟩
    · have := h x h1; omega
    · have h2 := h.getD hB (at_ W (cols C lv key) j)
      omega
theorem upd_ok {C : Cfg} {lv : Int} {R W : Nat} {l : List Int} {key d B T : Int} (h : Bnd B l) (hB : 0 ≤ B) (hT : 0 ≤ T) (hd : -T ≤ d ∧ d ≤ T) (hs : B + T ≤ 4611686018427387904) (hk : key < keys C lv) (hm : C.mode = 2 → 0 ≤ d) : errU C lv R W l key d = 0 := by
  by_cases hmode : C.mode = 2
  · have hd0 := hm hmode
    have h3 := (h.readL hB W (cols C lv key)).minL hB
    rw [errU_con hk hmode (by omega), fitB_yes (by unfold I64; omega)]; rfl
  · rw [errU_sum hk hmode, allFit_iff.2]
    · rfl
    · intro k _
      have h2 := h.getD hB (at_ W (cols C lv key) k)
      unfold I64; omega
/-- Updates, cut, made one after the other. -/
def feed (C : Cfg) (lv : Int) (R W : Nat) (us : List (Int × Int)) (l : List Int) : List Int := us.foldl (fun l u => updL C lv R W l (cutK C lv u.1) (cutD C.mode u.2)) l
theorem feed_snoc (C : Cfg) (lv : Int) (R W : Nat) (us : List (Int × Int)) (u : Int × Int) (l : List Int) : feed C lv R W (us ++ [u]) l = updL C lv R W (feed C lv R W us l) (cutK C lv u.1) (cutD C.mode u.2) := by
  unfold feed; rw [List.foldl_append]; rfl
theorem feed_bnd (C : Cfg) (lv : Int) (R W : Nat) (us : List (Int × Int)) : Bnd (us.length * 1099511627776) (feed C lv R W us (zs (R * W))) := by
  have key : ∀ (us : List (Int × Int)) (l : List Int) (B : Int), 0 ≤ B → Bnd B l → Bnd (B + us.length * 1099511627776) (feed C lv R W us l) := by
    intro us
    induction us with
    | nil => intro l B _ h; simpa [feed] using h
    | cons u us ih =>
      intro l B hB h
      have h1 := upd_bnd (C := C) (lv := lv) (R := R) (W := W) (key := cutK C lv u.1) h hB (show (0 : Int) ≤ 1099511627776 by decide) (d := cutD C.mode u.2) (by have := cutD_bd C.mode u.2; omega)
      have h2 := ih _ (B + 1099511627776) (by omega) h1
      have e : B + ((u :: us).length : Int) * 1099511627776 = B + 1099511627776 + us.length * 1099511627776 := by
        rw [List.length_cons]; push_cast; omega
      rw [e]
      exact h2
  have h0 : Bnd 0 (zs (R * W)) := by
    intro x hx
    simp only [zs, List.mem_replicate] at hx
    omega
  have := key us _ 0 (Int.le_refl _) h0
  rwa [Int.zero_add] at this
theorem cutD_nn {m d : Int} (h : m = 2) : 0 ≤ cutD m d := by
  unfold cutD; rw [decide_eq_true h]; show 0 ≤ max _ _; omega
theorem feed_ok (C : Cfg) (hok : C.Ok) (lv : Int) (hlv : 0 ≤ lv) (R W : Nat) (us : List (Int × Int)) (hl : us.length ≤ 1000) (u : Int × Int) :
    errU C lv R W (feed C lv R W us (zs (R * W))) (cutK C lv u.1) (cutD C.mode u.2) = 0 := by
  refine upd_ok (feed_bnd C lv R W us) (by omega) (show (0 : Int) ≤ 1099511627776 by decide) (by have := cutD_bd C.mode u.2; omega) (by omega) (cutK_bd C hok lv u.1 hlv).2 (fun h => cutD_nn h)
/-- A slice of updates that can be read. -/
def UpsAt (w : World) (v : Value) (us : List (Int × Int)) : Prop :=
  ((∃ p, v = .slice p 0 0) ∧ us = []) ∨ ∃ g off cap, v = .slice (some ⟨g, off, none⟩) us.length cap ∧ g < w.heap.size ∧
    ∀ k, k < us.length → w.cell? ⟨g, off + k * 2, none⟩ = some (.int .u64 (us.getD k (0, 0)).1) ∧ w.cell? ⟨g, off + k * 2 + 1, none⟩ = some (.int .i64 (us.getD k (0, 0)).2)
def UpsOk (us : List (Int × Int)) : Prop := ∀ u ∈ us, U64 u.1 ∧ I64 u.2
end Go.Proofs.Ythancaehlijaoaa
