/- Part. No condition. -/
import Derived.Test.YteoblkcbemeamaaGreatL12

/- A window beside a stack that lies between two bounds. -/
namespace Go.Proofs.YteoblkcbemeamaaGreat
set_option linter.unusedVariables false
open Go.RowKit
/-- A window whose cells do not lie between two bounds. -/
def WB (w : World) (N M1 M2 p : Nat) (C : Cfg) (B n : Nat) (US : List (List Upd)) : Prop :=
  ∃ b sm bk, WAt w N p b C B n sm bk ∧ US.length = n ∧ (∀ k, k ≤ B → sm.ls k = feedK C US.flatten k) ∧ (∀ i, i < n → ∀ k, k ≤ B → (bk i).ls k = feedK C (US.getD i []) k) ∧
    (∀ k, WFoot p b B n bk k → k < M1 ∨ M2 ≤ k) ∧ ∀ m, m ≤ B → (sm.L m).c < M1 ∨ M2 ≤ (sm.L m).c
section
variable {w w' : World} {N M1 M2 p : Nat} {C : Cfg} {B n : Nat} {US : List (List Upd)}
theorem WB.ws (h : WB w N M1 M2 p C B n US) : WS w N p C B n US := by
  obtain ⟨b, sm, bk, h1, h2, h3, h4, _⟩ := h
  exact ⟨b, sm, bk, h1, h2, h3, h4⟩
theorem WB.ext (h : WB w N M1 M2 p C B n US) (he : Ext w w') : WB w' N M1 M2 p C B n US := by
  obtain ⟨b, sm, bk, h1, h⟩ := h
  exact ⟨b, sm, bk, h1.ext he, h⟩
theorem WS.wb (h : WS w N p C B n US) (hM : w.heap.size ≤ M1) : WB w N M1 M2 p C B n US := by
  obtain ⟨b, sm, bk, h1, h2, h3, h4⟩ := h
  refine ⟨b, sm, bk, h1, h2, h3, h4, fun k hk => .inl ?_, fun m hm => .inl ?_⟩
  · rcases hk with rfl | rfl | ⟨i, hi, m, hm, rfl⟩
    · exact Nat.lt_of_lt_of_le h1.ltp hM
    · exact Nat.lt_of_lt_of_le h1.ltb hM
    · exact Nat.lt_of_lt_of_le ((KAt.lev (h1.bks i hi)) m hm).ltc hM
  · exact Nat.lt_of_lt_of_le ((KAt.lev h1.sum) m hm).ltc hM
/-- What is done to cells between the bounds leaves a window. -/
theorem WB.mod {T : Nat → Prop} (h : WB w N M1 M2 p C B n US) (hm : Mod T w w') (hT : ∀ k, T k → M1 ≤ k ∧ k < M2) (hc : ∀ k, T k → k < w.heap.size → ∃ cur, w.heap[k]? = some (.cells cur 2 (0, 0))) : WB w' N M1 M2 p C B n US := by
  obtain ⟨b, sm, bk, h1, h2, h3, h4, h5, h6⟩ := h
  refine ⟨b, sm, bk, ⟨?_, ?_, KAt.mod h1.sum hm hc (fun k hk ht => by have := hT _ ht; have := h6 k hk; omega), fun i hi => KAt.mod (h1.bks i hi) hm hc (fun k hk ht => by have := hT _ ht; have := h5 _ (.inr (.inr ⟨i, hi, k, hk, rfl⟩)); omega), h1.sepS, h1.sepB, h1.n1, h1.n2, h1.md, h1.loP, h1.loB, h1.loC⟩, h2, h3, h4, h5, h6⟩
  · obtain ⟨cap, a1, a2⟩ := h1.st
    exact ⟨cap, hm.keep a1 (fun ht => by have := hT _ ht; have := h5 p (.inl rfl); omega), a2⟩
  · obtain ⟨cur, a1, a2⟩ := h1.row
    exact ⟨cur, hm.keep a1 (fun ht => by have := hT _ ht; have := h5 b (.inr (.inl rfl)); omega), a2⟩
end
/-- A block that a window's change may touch: its own two, or numbers. -/
def okT (w : World) (k : Nat) : Prop := ∃ cur T, w.heap[k]? = some (.cells cur T (0, 0)) ∧ (T = 2 ∨ T = 199 ∨ T = 28)
theorem WAt.footT {w : World} {N p b : Nat} {C : Cfg} {B n : Nat} {sm : Bk} {bk : Nat → Bk} (h : WAt w N p b C B n sm bk) {k : Nat} (hk : WFoot p b B n bk k) : okT w k := by
  rcases hk with rfl | rfl | ⟨i, hi, hc⟩
  · obtain ⟨cap, h1, _⟩ := h.st; exact ⟨_, _, h1, .inr (.inl rfl)⟩
  · obtain ⟨cur, h1, _⟩ := h.row; exact ⟨_, _, h1, .inr (.inr rfl)⟩
  · obtain ⟨cur, h1⟩ := KAt.isc (h.bks i hi) hc; exact ⟨_, _, h1, .inl rfl⟩
/-- A change of a window, beside what lies between the bounds. -/
def OffB (N M1 M2 : Nat) (w w' : World) : Prop := ∃ S, Mod S w w' ∧ ∀ k, S k → (N ≤ k ∧ (k < M1 ∨ M2 ≤ k)) ∧ okT w k
theorem OffB.below {N M1 M2 : Nat} {w w' : World} (h : OffB N M1 M2 w w') (hN : N ≤ w.heap.size) : Below N w w' := by
  obtain ⟨S, hm, hS⟩ := h
  exact hm.below hN (fun k hk => (hS k hk).1.1)
/-- A stack between the bounds is kept. -/
theorem KAt.offB {w w' : World} {N M1 M2 s g : Nat} {C : Cfg} {B : Nat} {L : Nat → Lev} {ls : Nat → List Int} (h : KAt w s g C B L ls) (ho : OffB N M1 M2 w w') (hs : M1 ≤ s) (hg : M1 ≤ g) (hF : KFresh M1 B L) (hl : KLow M2 s g B L) : KAt w' s g C B L ls := by
  obtain ⟨S, hM, hS⟩ := ho
  have hk : ∀ k, k < w.heap.size → M1 ≤ k → k < M2 → w'.heap[k]? = w.heap[k]? := fun k h1 h2 h4 => hM.block k h1 (fun h3 => by have := (hS k h3).1; omega)
  refine ⟨?_, ?_, fun n hn => (h.lev n hn).keep (hk _ (h.lev n hn).lts (hF n hn).1 (hl.ls n hn)) (hk _ (h.lev n hn).ltb (hF n hn).2.1 (hl.lb n hn)) (hk _ (h.lev n hn).ltc (hF n hn).2.2 (hl.lc n hn)), h.sep, h.ok, h.hB⟩
  · rw [hk s h.lts hs hl.s]; exact h.ex
  · rw [hk g h.ltg hg hl.g]; exact h.row
theorem WB_upd {w : World} {N M1 M2 p : Nat} {C : Cfg} {B n : Nat} {vs : List (List Upd)} {a : List Upd} (h : WB w N M1 M2 p C B n (vs ++ [a])) (hM2 : M2 ≤ w.heap.size) (hok : C.Ok) (hB : C.bits = B) (ht : (vs ++ [a]).flatten.length ≤ 1000) (u : Upd) (hk : U64 (cutK C 0 u.1)) (hd : I64 (cutD C.mode u.2)) :
    Calls Tryz.prog 65 #[.pointer (some ⟨p, 0, none⟩), .int .u64 (cutK C 0 u.1), .int .i64 (cutD C.mode u.2)] w fun e w' => e = .returned (.int .i64 0) ∧ OffB N M1 M2 w w' ∧ WB w' N M1 M2 p C B n (vs ++ [a ++ [u]]) := by
  obtain ⟨b, sm, bk, h1, h2, h3, h4, h5, h6⟩ := h
  have hn : n = vs.length + 1 := by rw [← h2]; simp
  have hal : a.length ≤ 1000 := by have : (vs ++ [a]).flatten.length = vs.flatten.length + a.length := by simp
                                   omega
  have hkk := cutK_bd C hok 0 u.1 (Int.le_refl 0)
  have hdd := cutD_bd C.mode u.2
  have hla : ∀ k, k ≤ B → (bk (n - 1)).ls k = feedK C a k := fun k hk => by
    rw [h4 (n - 1) (by omega) k hk]
    have : (vs ++ [a]).getD (n - 1) [] = a := by rw [hn]; simp
    rw [this]
  have e1 : errK C B sm.ls (cutK C 0 u.1) (cutD C.mode u.2) = 0 := errK_ok hok hB (B' := (vs ++ [a]).flatten.length * 1099511627776) (T := 1099511627776) (fun k hk => by rw [h3 k hk]; exact feedK_bnd C _ k) (by omega) (by decide) (by omega) (by omega) hkk.1 hkk.2 (fun h => cutD_nn h)
  have e2 : errK C B (bk (n - 1)).ls (cutK C 0 u.1) (cutD C.mode u.2) = 0 := errK_ok hok hB (B' := a.length * 1099511627776) (T := 1099511627776) (fun k hk => by rw [hla k hk]; exact feedK_bnd C _ k) (by omega) (by decide) (by omega) (by omega) hkk.1 hkk.2 (fun h => cutD_nn h)
  have hw : wErr C B n sm bk (cutK C 0 u.1) (cutD C.mode u.2) = 0 := by unfold wErr; rw [if_pos e1]; exact e2
  refine (WUpdate_c h1 _ _ hk hd).mono ?_
  rintro e w' ⟨rfl, hM, (⟨_, s, g, L, hFr, hW⟩ | ⟨hne, _⟩)⟩
  · rw [hw]
    have hLL : ∀ i, (setB bk (n - 1) ((bk (n - 1)).upd C (cutK C 0 u.1) (cutD C.mode u.2)) i).L = (bk i).L := fun i => by
      by_cases he : i = n - 1
      · rw [he, setB_same]; rfl
      · rw [setB_ne _ _ he]
    refine ⟨rfl, ⟨_, hM, fun k hk => ⟨⟨h1.foot hk, h5 k hk⟩, h1.footT hk⟩⟩, ⟨b, _, _, hW, by rw [← h2]; simp, fun k hk => ?_, fun i hi k hk => ?_, fun k hk => ?_, fun m hm => .inr (Nat.le_trans hM2 (hFr m hm).2.2)⟩⟩
    · rw [← win_upd]
      exact updK_cong (h3 k hk)
    · by_cases hl : i = n - 1
      · rw [hl, setB_same]
        have : (vs ++ [a ++ [u]]).getD (n - 1) [] = a ++ [u] := by rw [hn]; simp
        rw [this, feedK_snoc]
        exact updK_cong (hla k hk)
      · rw [setB_ne _ _ hl, h4 i hi k hk]
        have h5 : i < vs.length := by omega
        have e3 : (vs ++ [a ++ [u]]).getD i [] = (vs ++ [a]).getD i [] := by
          simp [List.getD_eq_getElem?_getD, List.getElem?_append_left h5]
        rw [e3]
    · refine h5 k ?_
      rcases hk with hk | hk | ⟨i, hi, hk⟩
      · exact .inl hk
      · exact .inr (.inl hk)
      · rw [hLL] at hk; exact .inr (.inr ⟨i, hi, hk⟩)
  · exact absurd hw hne
theorem WB_tick {w : World} {N M1 M2 p : Nat} {C : Cfg} {B n : Nat} {a : List Upd} {vs : List (List Upd)} (h : WB w N M1 M2 p C B n (a :: vs)) (hM2 : M2 ≤ w.heap.size) (hok : C.Ok) (hB : C.bits = B) (ha : UpsOk a) (hv : UpsOk vs.flatten) (ht : vs.flatten.length ≤ 1000) :
    Calls Tryz.prog 64 #[.pointer (some ⟨p, 0, none⟩)] w fun e w' => e = .returned (.int .i64 0) ∧ OffB N M1 M2 w w' ∧ WB w' N M1 M2 p C B n (vs ++ [[]]) := by
  obtain ⟨b, sm, bk, h1, h2, h3, h4, h5, h6⟩ := h
  have hn : n = vs.length + 1 := by rw [← h2]; simp
  have hmi := WS_less (w := w) (N := N) (p := p) (b := b) (n := n) hok h1.md hB ha hv h3 (fun k hk => h4 0 (by omega) k hk)
  have hall : ∀ k, k ≤ B → allI (minusL (sm.ls k) ((bk 0).ls k)) := fun k hk => by rw [hmi k hk]; exact (feedK_bnd C _ k).allI (by omega)
  refine (WTick_c h1 hok).mono ?_
  rintro e w' ⟨rfl, hM, (⟨_, s, g, L, s2, g2, L2, hF1, hF2, hW⟩ | ⟨hne, _⟩)⟩
  · rw [chkE_yes hall]
    refine ⟨rfl, ⟨_, hM, fun k hk => ⟨⟨h1.foot hk, h5 k hk⟩, h1.footT hk⟩⟩, ⟨b, _, _, hW, by rw [hn]; simp, fun k hk => ?_, fun i hi k hk => ?_, fun k hk => ?_, fun m hm => .inr (Nat.le_trans hM2 (hF1 m hm).2.2)⟩⟩
    · rw [win_new C vs]; exact hmi k hk
    · by_cases hl : i + 1 = n
      · rw [shiftB_last hl]
        have : (vs ++ [[]]).getD i [] = [] := by
          have : i = vs.length := by omega
          rw [this]; simp
        rw [this]; exact (feedK_nil C k).symm
      · rw [shiftB_less hl, h4 (i + 1) (by omega) k hk]
        have h6 : i < vs.length := by omega
        have e3 : (vs ++ [[]]).getD i [] = (a :: vs).getD (i + 1) [] := by
          simp [List.getD_eq_getElem?_getD, List.getElem?_append_left h6]
        rw [e3]
    · rcases hk with hk | hk | ⟨i, hi, m, hm, rfl⟩
      · exact h5 k (.inl hk)
      · exact h5 k (.inr (.inl hk))
      · by_cases hl : i + 1 = n
        · rw [shiftB_last hl]; exact .inr (Nat.le_trans hM2 (hF2 m hm).2.2)
        · rw [shiftB_less hl]; exact h5 _ (.inr (.inr ⟨i + 1, by omega, m, hm, rfl⟩))
  · exact absurd hall hne
theorem WB_opU {w : World} {N M1 M2 p : Nat} {C : Cfg} {B n : Nat} {os : List Opn} {k : Nat} (hM2 : M2 ≤ w.heap.size) (hk : k < os.length) (h60 : k ≤ 60) (hn : 1 ≤ n) (hos : OpsOk os) (hok : C.Ok) (hB : C.bits = B) (ht : isT os[k] = false) (h : WB w N M1 M2 p C B n (winO n (os.take k))) :
    Calls Tryz.prog 65 #[.pointer (some ⟨p, 0, none⟩), .int .u64 (cutK C 0 os[k].2.1), .int .i64 (cutD C.mode os[k].2.2)] w fun e w' => e = .returned (.int .i64 0) ∧ OffB N M1 M2 w w' ∧ WB w' N M1 M2 p C B n (winO n (os.take (k + 1))) := by
  have hU := winO_U hn hos h60
  obtain ⟨_, vs, a, e⟩ := two_ends hU.len hn
  rw [winO_take hk, e, stepW_u ht]
  have hfl := hU.fl
  rw [e] at h hfl
  have h1 := cutK_bd C hok 0 os[k].2.1 (Int.le_refl 0)
  have h2 := keys_bd C hok 0 (Int.le_refl 0)
  have h3 := cutD_bd C.mode os[k].2.2
  exact WB_upd h hM2 hok hB hfl os[k].2 (by unfold U64; omega) (by unfold I64; omega)
theorem WB_opT {w : World} {N M1 M2 p : Nat} {C : Cfg} {B n : Nat} {os : List Opn} {k : Nat} (hM2 : M2 ≤ w.heap.size) (hk : k < os.length) (h60 : k ≤ 60) (hn : 1 ≤ n) (hos : OpsOk os) (hok : C.Ok) (hB : C.bits = B) (ht : isT os[k] = true) (h : WB w N M1 M2 p C B n (winO n (os.take k))) :
    Calls Tryz.prog 64 #[.pointer (some ⟨p, 0, none⟩)] w fun e w' => e = .returned (.int .i64 0) ∧ OffB N M1 M2 w w' ∧ WB w' N M1 M2 p C B n (winO n (os.take (k + 1))) := by
  have hU := winO_U hn hos h60
  obtain ⟨⟨a, vs, e⟩, _⟩ := two_ends hU.len hn
  rw [winO_take hk, e, stepW_t ht]
  have hfl := hU.fl
  have hup := hU.ok
  rw [e] at h hfl hup
  exact WB_tick h hM2 hok hB (upsOk_cons hup).1 (upsOk_cons hup).2 (fl_cons hfl)
end Go.Proofs.YteoblkcbemeamaaGreat

/- A change of a window, beside what lies between bounds. -/
namespace Go.Proofs.YteoblkcbemeamaaGreat
set_option linter.unusedVariables false
open Go.RowKit
theorem OffB.size {N M1 M2 : Nat} {w w' : World} (h : OffB N M1 M2 w w') : w.heap.size ≤ w'.heap.size := by
  obtain ⟨S, hm, _⟩ := h
  exact hm.size
theorem below_off {N M1 M2 : Nat} {w3 w w' : World} (hN : w3.heap.size = N) (h : Ext w3 w) (o : OffB N M1 M2 w w') : Ext w3 w' := by
  subst hN
  exact Below.trans h (o.below h.size)
end Go.Proofs.YteoblkcbemeamaaGreat
