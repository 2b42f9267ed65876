/- Part. No condition. -/
import Derived.Test.YteoblkcbemeamaaL8
import Derived.Test.YteoblkcbemeamaaL9
import Derived.Test.YteoblkcbemeamaaL5
import Derived.Test.YteoblkcbemeamaaL4
import Derived.Test.YteoblkcbemeamaaL6
import Derived.Test.YteoblkcbemeamaaL3

/- Four things that lie apart. -/
namespace Go.Proofs.Yteoblkcbemeamaa
set_option linter.unusedVariables false
open Go.RowKit
structure Own4 (N : Nat) (w : World) (F1 F2 F3 F4 : Nat → Prop) (P1 P2 P3 P4 : World → Prop) : Prop where
  o1 : Own F1 P1 w
  o2 : Own F2 P2 w
  o3 : Own F3 P3 w
  o4 : Own F4 P4 w
  d12 : Dj F1 F2
  d13 : Dj F1 F3
  d14 : Dj F1 F4
  d23 : Dj F2 F3
  d24 : Dj F2 F4
  d34 : Dj F3 F4
  n1 : ∀ k, F1 k → N ≤ k
  n2 : ∀ k, F2 k → N ≤ k
  n3 : ∀ k, F3 k → N ≤ k
  n4 : ∀ k, F4 k → N ≤ k
  nw : N ≤ w.heap.size
section
variable {N : Nat} {w w' : World} {F1 F2 F3 F4 : Nat → Prop} {P1 P2 P3 P4 : World → Prop}
theorem Own4.swap (h : Own4 N w F1 F2 F3 F4 P1 P2 P3 P4) : Own4 N w F2 F1 F3 F4 P2 P1 P3 P4 :=
  ⟨h.o2, h.o1, h.o3, h.o4, h.d12.symm, h.d23, h.d24, h.d13, h.d14, h.d34, h.n2, h.n1, h.n3, h.n4, h.nw⟩
theorem Own4.rot (h : Own4 N w F1 F2 F3 F4 P1 P2 P3 P4) : Own4 N w F3 F4 F1 F2 P3 P4 P1 P2 :=
  ⟨h.o3, h.o4, h.o1, h.o2, h.d34, h.d13.symm, h.d23.symm, h.d14.symm, h.d24.symm, h.d12, h.n3, h.n4, h.n1, h.n2, h.nw⟩
theorem Own4.swap2 (h : Own4 N w F1 F2 F3 F4 P1 P2 P3 P4) : Own4 N w F1 F2 F4 F3 P1 P2 P4 P3 := h.rot.swap.rot
theorem Own4.ext (h : Own4 N w F1 F2 F3 F4 P1 P2 P3 P4) (he : Ext w w') : Own4 N w' F1 F2 F3 F4 P1 P2 P3 P4 :=
  ⟨h.o1.ext he, h.o2.ext he, h.o3.ext he, h.o4.ext he, h.d12, h.d13, h.d14, h.d23, h.d24, h.d34, h.n1, h.n2, h.n3, h.n4, Nat.le_trans h.nw he.size⟩
/-- The first is changed, or put anew. -/
theorem Own4.step {F1' S : Nat → Prop} {P1' : World → Prop} (h : Own4 N w F1 F2 F3 F4 P1 P2 P3 P4) (hm : Mod S w w') (hS : ∀ k, S k → F1 k) (h1 : Own F1' P1' w') (hF : ∀ k, F1' k → F1 k ∨ w.heap.size ≤ k) : Own4 N w' F1' F2 F3 F4 P1' P2 P3 P4 := by
  refine ⟨h1, h.o2.mod hm (fun k hk hs => h.d12 k (hS k hs) hk), h.o3.mod hm (fun k hk hs => h.d13 k (hS k hs) hk), h.o4.mod hm (fun k hk hs => h.d14 k (hS k hs) hk), ?_, ?_, ?_, h.d23, h.d24, h.d34, fun k hk => ?_, h.n2, h.n3, h.n4, Nat.le_trans h.nw hm.size⟩
  · exact (h.o2.grow h.d12.symm hF).symm
  · exact (h.o3.grow h.d13.symm hF).symm
  · exact (h.o4.grow h.d14.symm hF).symm
  · rcases hF k hk with h2 | h2
    · exact h.n1 k h2
    · exact Nat.le_trans h.nw h2
theorem Own4.low {S : Nat → Prop} (h : Own4 N w F1 F2 F3 F4 P1 P2 P3 P4) (hm : Mod S w w') (hS : ∀ k, S k → F1 k) : Below N w w' := hm.below h.nw (fun k hk => h.n1 k (hS k hk))
end
theorem below_of {N : Nat} {w w' : World} (h : Ext w w') (hN : N ≤ w.heap.size) : Below N w w' := ⟨h.os, h.tape, h.output, h.size, fun k hk => h.block k (Nat.lt_of_lt_of_le hk hN)⟩
theorem Own4.mk4 {N z1 z2 z3 : Nat} {w : World} {F1 F2 F3 F4 : Nat → Prop} {P1 P2 P3 P4 : World → Prop} (o1 : Own F1 P1 w) (o2 : Own F2 P2 w) (o3 : Own F3 P3 w) (o4 : Own F4 P4 w)
    (b1 : ∀ k, F1 k → N ≤ k ∧ k < z1) (b2 : ∀ k, F2 k → z1 ≤ k ∧ k < z2) (b3 : ∀ k, F3 k → z2 ≤ k ∧ k < z3) (b4 : ∀ k, F4 k → z3 ≤ k) (h1 : N ≤ z1) (h2 : z1 ≤ z2) (h3 : z2 ≤ z3) (hw : N ≤ w.heap.size) : Own4 N w F1 F2 F3 F4 P1 P2 P3 P4 :=
  ⟨o1, o2, o3, o4, fun k h h' => by have := b1 k h; have := b2 k h'; omega, fun k h h' => by have := b1 k h; have := b3 k h'; omega, fun k h h' => by have := b1 k h; have := b4 k h'; omega, fun k h h' => by have := b2 k h; have := b3 k h'; omega, fun k h h' => by have := b2 k h; have := b4 k h'; omega, fun k h h' => by have := b3 k h; have := b4 k h'; omega,
    fun k h => (b1 k h).1, fun k h => by have := b2 k h; omega, fun k h => by have := b3 k h; omega, fun k h => by have := b4 k h; omega, hw⟩
end Go.Proofs.Yteoblkcbemeamaa

/- Two sketches of the program and two of the references, side by side. -/
namespace Go.Proofs.Yteoblkcbemeamaa
set_option linter.unusedVariables false
open Go.RowKit
def sF (s b c : Nat) (k : Nat) : Prop := k = s ∨ k = b ∨ k = c
theorem SAt.own {w : World} {s b c : Nat} {C : Cfg} {lv : Int} {R W : Nat} {l : List Int} (h : SAt w s b c C lv R W l) : Own (sF s b c) (fun w => SAt w s b c C lv R W l) w :=
  ⟨h, fun w w' h hk => h.keep (hk s (.inl rfl)) (hk b (.inr (.inl rfl))) (hk c (.inr (.inr rfl))), fun k hk => by
    rcases hk with rfl | rfl | rfl
    · exact h.lts
    · exact h.g.ltb
    · exact h.g.ltc⟩
set_option maxRecDepth 20000 in
set_option maxHeartbeats 4000000 in
theorem SSub_mode (s b c s2 b2 c2 : Nat) (C : Cfg) (lv : Int) (R W : Nat) (l l2 : List Int) (w : World) (h : SAt w s b c C lv R W l) (h2 : SAt w s2 b2 c2 C lv R W l2) (hm : C.mode = 2) :
    Calls Try.prog 21 #[.pointer (some ⟨s, 0, none⟩), .pointer (some ⟨s2, 0, none⟩)] w fun e w' => e = .returned (.int .i64 3) ∧ Ext w w' := by
  have HJ := Lib.hid (alike_yes s b c s2 b2 c2 C lv R W l l2 w h h2)
  have HH := Lib.hid h
  have HM := Lib.hid hm
  clear h h2 hm
  go_enter Try.func21, Try.ntmps21
  go_wp2_with fail
  refine Calls.mono HJ.out ?_
  rintro e w1 ⟨rfl, hx1⟩
  have h' := HH.out.ext hx1
  have c4 := (cell_of h'.ex 4).trans (show _ = some (Value.int .i64 2) by rw [← HM.out]; rfl)
  have l1 := h'.lts
  clear h'
  go_wp2
  go_ret
  exact ⟨rfl, hx1⟩
set_option maxRecDepth 20000 in
set_option maxHeartbeats 2000000 in
theorem SPoint_no (s b c : Nat) (C : Cfg) (lv : Int) (R W : Nat) (l : List Int) (key : Int) (w : World) (h : SAt w s b c C lv R W l) (hk1 : keys C lv ≤ key) :
    Calls Try.prog 15 #[.pointer (some ⟨s, 0, none⟩), .int .u64 key] w fun e w' => e = .returned (.tuple #[.int .i64 0, .int .i64 2]) ∧ Ext w w' := by
  have hlt := h.lts
  have c0 := (cell_of h.ex 0).trans rfl
  have c1 := (cell_of h.ex 1).trans rfl
  have c2 := (cell_of h.ex 2).trans rfl
  have c3 := (cell_of h.ex 3).trans rfl
  have c4 := (cell_of h.ex 4).trans rfl
  have c5 := (cell_of h.ex 5).trans rfl
  have c6 := (cell_of h.ex 6).trans rfl
  have hnil := fun (x : World) (p : Option Addr) (n k : Nat) => Lib.run_eql_slice_nil (P := Try.prog) x 89 3 p n k 0 0 Try.underlying89
  go_enter Try.func15, Try.ntmps15
  go_wp2
  have hC0 := af_drew w
  refine pi_start (fun w' => ∃ x : After w, w' = x.w) [] (by kernel_rfl) ?_
  refine pi_t 0 rfl (by kernel_rfl) (by kernel_rfl) (fun _ _ _ _ h => h) (fun K hK => ?_)
  go_big_quiet_op
  refine hK _ ?_
  clear hK K
  refine pi_t 1 rfl (by kernel_rfl) (by kernel_rfl) (fun _ _ _ _ h => h) (fun K hK => ?_)
  go_big_quiet_op
  refine hK _ ?_
  clear hK K
  refine pi_t 2 rfl (by kernel_rfl) (by kernel_rfl) (fun _ _ _ _ h => h) (fun K hK => ?_)
  go_big_quiet_op
  refine hK _ ?_
  clear hK K
  refine pi_c 3 (by assumption) rfl (by kernel_rfl) (by kernel_rfl) (fun _ _ _ _ h => h) (fun K hK => ?_)
  go_big_quiet_op
  refine hK _ ?_
  clear hK K
  refine pi_t 4 rfl (by kernel_rfl) (by kernel_rfl) (fun _ _ _ _ h => h) (fun K hK => ?_)
  go_big_quiet_op
  refine hK _ ?_
  clear hK K
  refine pi_t 5 rfl (by kernel_rfl) (by kernel_rfl) (fun _ _ _ _ h => h) (fun K hK => ?_)
  go_big_quiet_op
  refine hK _ ?_
  clear hK K
  refine pi_t 6 rfl (by kernel_rfl) (by kernel_rfl) (fun _ _ _ _ h => h) (fun K hK => ?_)
  go_big_quiet_op
  refine hK _ ?_
  clear hK K
  refine pi_c 7 (by assumption) rfl (by kernel_rfl) (by kernel_rfl) (fun _ _ _ _ h => h) (fun K hK => ?_)
  go_big_quiet_op
  refine hK _ ?_
  clear hK K
  refine pi_t 8 rfl (by kernel_rfl) (by kernel_rfl) (fun _ _ _ _ h => h) (fun K hK => ?_)
  go_big_quiet_op
  refine hK _ ?_
  clear hK K
  refine pi_l 9 rfl (by kernel_rfl) (fun K hK => ?_)
  go_wp2_with (go_at_call 39; refine (Columns_no C h.ok lv key h.lo h.hi hk1 _).mono ?_; rintro e w1 ⟨rfl, hx0⟩)
  refine hK _ _ (fun _ h => af_step h hx0) ?_
  clear hK K
  refine pi_t 10 rfl (by kernel_rfl) (by kernel_rfl) (fun _ _ _ _ h => h) (fun K hK => ?_)
  go_big_quiet_op
  refine hK _ ?_
  clear hK K
  refine pi_end (by kernel_rfl) ?_
  have hx : Ext w w1 := Ext.trans' (Below.drew (Ext.refl w)) hx0
  go_wp2
  go_ret2
  exact ⟨rfl, hx⟩
theorem SPointAny_c (s b c : Nat) (C : Cfg) (lv : Int) (R W : Nat) (l : List Int) (key : Int) (w : World) (h : SAt w s b c C lv R W l) (hk : U64 key) :
    Calls Try.prog 15 #[.pointer (some ⟨s, 0, none⟩), .int .u64 key] w fun e w' => ∃ x r, e = .returned (.tuple #[.int .i64 x, .int .i64 r]) ∧ ptS C lv R W l key x r ∧ Ext w w' := by
  by_cases hlt : key < keys C lv
  · refine (Point_c s b c C lv R W l key w h hk.1 hlt).mono ?_
    rintro e w' ⟨x, rfl, h1, h2⟩
    exact ⟨x, 0, rfl, .inr ⟨hlt, h1, rfl⟩, h2⟩
  · refine (SPoint_no s b c C lv R W l key w h (by omega)).mono ?_
    rintro e w' ⟨rfl, h2⟩
    exact ⟨0, 2, rfl, .inl ⟨by omega, rfl, rfl⟩, h2⟩
theorem ptS_unique {C : Cfg} {lv : Int} {R W : Nat} {l : List Int} {key x r y t : Int} (h : ptS C lv R W l key x r) (h2 : ptS C lv R W l key y t) : x = y ∧ r = t := by
  rcases h with ⟨a, rfl, rfl⟩ | ⟨a, b, rfl⟩ <;> rcases h2 with ⟨a2, rfl, rfl⟩ | ⟨a2, b2, rfl⟩
  · exact ⟨rfl, rfl⟩
  · omega
  · omega
  · exact ⟨kth_unique b b2, rfl⟩
/-- What an update leaves. -/
def updN (C : Cfg) (lv : Int) (R W : Nat) (l : List Int) (key d : Int) : List Int := if errU C lv R W l key d = 0 then updL C lv R W l key d else l
/-- What putting together answers and leaves. -/
noncomputable def jE (ms : List Int) : Int := by classical exact if allI ms then 0 else 4
noncomputable def jL (ms l : List Int) : List Int := by classical exact if allI ms then ms else l
theorem jE_yes {ms : List Int} (h : allI ms) : jE ms = 0 := by unfold jE; exact if_pos h
theorem jE_no {ms : List Int} (h : ¬ allI ms) : jE ms = 4 := by unfold jE; exact if_neg h
theorem jL_yes {ms l : List Int} (h : allI ms) : jL ms l = ms := by unfold jL; exact if_pos h
theorem jL_no {ms l : List Int} (h : ¬ allI ms) : jL ms l = l := by unfold jL; exact if_neg h
/-- The same, of taking away. -/
noncomputable def subE (C : Cfg) (l m : List Int) : Int := if C.mode = 2 then 3 else jE (minusL l m)
noncomputable def subN (C : Cfg) (l m : List Int) : List Int := if C.mode = 2 then l else jL (minusL l m) l
/-- Two sketches, and two of the references. -/
def Q4 (N : Nat) (w : World) (C : Cfg) (lv : Int) (R W : Nat) (s o r q : Nat) (l m l' m' : List Int) : Prop :=
  ∃ b c b2 c2 G G2, Own4 N w (sF s b c) (sF o b2 c2) (rsF r G R) (rsF q G2 R) (fun w => SAt w s b c C lv R W l) (fun w => SAt w o b2 c2 C lv R W m) (fun w => RSAt w r G C lv R W l') (fun w => RSAt w q G2 C lv R W m')
section
variable {N : Nat} {w w' : World} {C : Cfg} {lv : Int} {R W : Nat} {s o r q : Nat} {l m l' m' : List Int}
theorem Q4.swap (h : Q4 N w C lv R W s o r q l m l' m') : Q4 N w C lv R W o s q r m l m' l' := by
  obtain ⟨b, c, b2, c2, G, G2, h⟩ := h
  exact ⟨b2, c2, b, c, G2, G, h.swap.swap2⟩
theorem Q4.ext (h : Q4 N w C lv R W s o r q l m l' m') (he : Ext w w') : Q4 N w' C lv R W s o r q l m l' m' := by
  obtain ⟨b, c, b2, c2, G, G2, h⟩ := h
  exact ⟨b, c, b2, c2, G, G2, h.ext he⟩
theorem Q4_upd (h : Q4 N w C lv R W s o r q l m l' m') (key d : Int) (hk : U64 key) (hd : I64 d) :
    Calls Try.prog 10 #[.pointer (some ⟨s, 0, none⟩), .int .u64 key, .int .i64 d] w fun e w' => e = .returned (.int .i64 (errU C lv R W l key d)) ∧ Q4 N w' C lv R W s o r q (updN C lv R W l key d) m l' m' ∧ Below N w w' := by
  obtain ⟨b, c, b2, c2, G, G2, h⟩ := h
  refine (Update_c s b c C lv R W l key d w h.o1.h hd hk.1).mono ?_
  rintro e w' ⟨rfl, (⟨h0, hS, hM⟩ | ⟨h0, hE⟩)⟩
  · refine ⟨rfl, ⟨b, c, b2, c2, G, G2, ?_⟩, h.low hM (fun k hk => .inr (.inr hk))⟩
    unfold updN
    rw [if_pos h0]
    exact h.step hM (fun k hk => .inr (.inr hk)) hS.own (fun k hk => .inl hk)
  · refine ⟨rfl, ⟨b, c, b2, c2, G, G2, ?_⟩, h.low (hE.mod (fun _ => False)) (fun k hk => hk.elim)⟩
    unfold updN
    rw [if_neg h0]
    exact h.ext hE
theorem Q4_rupd (h : Q4 N w C lv R W s o r q l m l' m') (key d : Int) (hk : U64 key) (hd : I64 d) :
    Calls Try.prog 11 #[.pointer (some ⟨r, 0, none⟩), .int .u64 key, .int .i64 d] w fun e w' => e = .returned (.int .i64 (errU C lv R W l' key d)) ∧ Q4 N w' C lv R W s o r q l m (updN C lv R W l' key d) m' ∧ Below N w w' := by
  obtain ⟨b, c, b2, c2, G, G2, h⟩ := h
  refine (RSUpdate_c r G C lv R W l' key d w h.o3.h hk hd).mono ?_
  rintro e w' ⟨rfl, (⟨h0, hS, hM⟩ | ⟨h0, hE⟩)⟩
  · refine ⟨rfl, ⟨b, c, b2, c2, G, G2, ?_⟩, h.rot.low hM (fun k hk => .inr hk)⟩
    unfold updN
    rw [if_pos h0]
    exact (h.rot.step hM (fun k hk => .inr hk) hS.own (fun k hk => .inl hk)).rot
  · refine ⟨rfl, ⟨b, c, b2, c2, G, G2, ?_⟩, h.rot.low (hE.mod (fun _ => False)) (fun k hk => hk.elim)⟩
    unfold updN
    rw [if_neg h0]
    exact h.ext hE
theorem Q4_merge (h : Q4 N w C lv R W s o r q l m l' m') :
    Calls Try.prog 19 #[.pointer (some ⟨s, 0, none⟩), .pointer (some ⟨o, 0, none⟩)] w fun e w' => e = .returned (.int .i64 (jE (plusL l m))) ∧ Q4 N w' C lv R W s o r q (jL (plusL l m) l) m l' m' ∧ Below N w w' := by
  obtain ⟨b, c, b2, c2, G, G2, h⟩ := h
  refine Calls.mono (SMerge_c s b c o b2 c2 C lv R W l m w h.o1.h h.o2.h) ?_
  rintro e w' (⟨h0, rfl, hS, hM⟩ | ⟨h0, rfl, hE⟩)
  · refine ⟨by rw [jE_yes h0], ⟨b, c, b2, c2, G, G2, ?_⟩, h.low hM (fun k hk => .inr (.inr hk))⟩
    rw [jL_yes h0]
    exact h.step hM (fun k hk => .inr (.inr hk)) hS.own (fun k hk => .inl hk)
  · refine ⟨by rw [jE_no h0], ⟨b, c, b2, c2, G, G2, ?_⟩, h.low (hE.mod (fun _ => False)) (fun k hk => hk.elim)⟩
    rw [jL_no h0]
    exact h.ext hE
theorem Q4_sub (h : Q4 N w C lv R W s o r q l m l' m') :
    Calls Try.prog 21 #[.pointer (some ⟨s, 0, none⟩), .pointer (some ⟨o, 0, none⟩)] w fun e w' => e = .returned (.int .i64 (subE C l m)) ∧ Q4 N w' C lv R W s o r q (subN C l m) m l' m' ∧ Below N w w' := by
  obtain ⟨b, c, b2, c2, G, G2, h⟩ := h
  unfold subE subN
  by_cases hmd : C.mode = 2
  · rw [if_pos hmd, if_pos hmd]
    refine Calls.mono (SSub_mode s b c o b2 c2 C lv R W l m w h.o1.h h.o2.h hmd) ?_
    rintro e w' ⟨rfl, hE⟩
    exact ⟨rfl, ⟨b, c, b2, c2, G, G2, h.ext hE⟩, h.low (hE.mod (fun _ => False)) (fun k hk => hk.elim)⟩
  · rw [if_neg hmd, if_neg hmd]
    refine Calls.mono (SSubtract_c s b c o b2 c2 C lv R W l m w h.o1.h h.o2.h hmd) ?_
    rintro e w' (⟨h0, rfl, hS, hM⟩ | ⟨h0, rfl, hE⟩)
    · refine ⟨by rw [jE_yes h0], ⟨b, c, b2, c2, G, G2, ?_⟩, h.low hM (fun k hk => .inr (.inr hk))⟩
      rw [jL_yes h0]
      exact h.step hM (fun k hk => .inr (.inr hk)) hS.own (fun k hk => .inl hk)
    · refine ⟨by rw [jE_no h0], ⟨b, c, b2, c2, G, G2, ?_⟩, h.low (hE.mod (fun _ => False)) (fun k hk => hk.elim)⟩
      rw [jL_no h0]
      exact h.ext hE
theorem Q4_rplus (h : Q4 N w C lv R W s o r q l m l' m') :
    Calls Try.prog 20 #[.pointer (some ⟨r, 0, none⟩), .pointer (some ⟨q, 0, none⟩), .int .i64 1] w fun e w' => e = .returned (.int .i64 (jE (plusL l' m'))) ∧ Q4 N w' C lv R W s o r q l m (jL (plusL l' m') l') m' ∧ Below N w w' := by
  obtain ⟨b, c, b2, c2, G, G2, h⟩ := h
  refine Calls.mono (RSJoinPlus_c r q G G2 C lv R W l' m' w h.o3.h h.o4.h (fun h => absurd h (by decide))) ?_
  rintro e w' (⟨h0, rfl, G', hS, hF, hM⟩ | ⟨h0, rfl, hE⟩)
  · refine ⟨by rw [jE_yes h0], ⟨b, c, b2, c2, G', G2, ?_⟩, h.rot.low hM (fun k hk => hk)⟩
    rw [jL_yes h0]
    exact (h.rot.step hM (fun k hk => hk) hS.own hF).rot
  · refine ⟨by rw [jE_no h0], ⟨b, c, b2, c2, G, G2, ?_⟩, h.low (hE.mod (fun _ => False)) (fun k hk => hk.elim)⟩
    rw [jL_no h0]
    exact h.ext hE
theorem Q4_rminus (h : Q4 N w C lv R W s o r q l m l' m') :
    Calls Try.prog 20 #[.pointer (some ⟨r, 0, none⟩), .pointer (some ⟨q, 0, none⟩), .int .i64 (-1)] w fun e w' => e = .returned (.int .i64 (subE C l' m')) ∧ Q4 N w' C lv R W s o r q l m (subN C l' m') m' ∧ Below N w w' := by
  obtain ⟨b, c, b2, c2, G, G2, h⟩ := h
  unfold subE subN
  by_cases hmd : C.mode = 2
  · rw [if_pos hmd, if_pos hmd]
    refine Calls.mono (RSJoin_mode r q G G2 C lv R W l' m' w h.o3.h h.o4.h hmd) ?_
    rintro e w' ⟨rfl, hE⟩
    exact ⟨rfl, ⟨b, c, b2, c2, G, G2, h.ext hE⟩, h.low (hE.mod (fun _ => False)) (fun k hk => hk.elim)⟩
  · rw [if_neg hmd, if_neg hmd]
    refine Calls.mono (RSJoinMinus_c r q G G2 C lv R W l' m' w h.o3.h h.o4.h (fun _ => hmd)) ?_
    rintro e w' (⟨h0, rfl, G', hS, hF, hM⟩ | ⟨h0, rfl, hE⟩)
    · refine ⟨by rw [jE_yes h0], ⟨b, c, b2, c2, G', G2, ?_⟩, h.rot.low hM (fun k hk => hk)⟩
      rw [jL_yes h0]
      exact (h.rot.step hM (fun k hk => hk) hS.own hF).rot
    · refine ⟨by rw [jE_no h0], ⟨b, c, b2, c2, G, G2, ?_⟩, h.low (hE.mod (fun _ => False)) (fun k hk => hk.elim)⟩
      rw [jL_no h0]
      exact h.ext hE
theorem Q4_copy (h : Q4 N w C lv R W s o r q l m l' m') :
    Calls Try.prog 22 #[.pointer (some ⟨o, 0, none⟩)] w fun e w' => ∃ t, e = .returned (.pointer (some ⟨t, 0, none⟩)) ∧ Q4 N w' C lv R W t o r q m m l' m' ∧ Ext w w' := by
  obtain ⟨b, c, b2, c2, G, G2, h⟩ := h
  refine (SCopy_c o b2 c2 C lv R W m w h.o2.h).mono ?_
  rintro e w' ⟨t, b', c', rfl, hS, h1, h2, h3, hE⟩
  refine ⟨t, rfl, ⟨b', c', b2, c2, G, G2, h.step (hE.mod (fun _ => False)) (fun k hk => hk.elim) hS.own (fun k hk => .inr ?_)⟩, hE⟩
  rcases hk with rfl | rfl | rfl
  · exact h1
  · exact h2
  · exact h3
theorem Q4_rcopy (h : Q4 N w C lv R W s o r q l m l' m') :
    Calls Try.prog 18 #[.pointer (some ⟨q, 0, none⟩)] w fun e w' => ∃ t, e = .returned (.pointer (some ⟨t, 0, none⟩)) ∧ Q4 N w' C lv R W s o t q l m m' m' ∧ Ext w w' := by
  obtain ⟨b, c, b2, c2, G, G2, h⟩ := h
  refine (RSCopy_c q G2 C lv R W m' w h.o4.h).mono ?_
  rintro e w' ⟨t, G', rfl, hS, hF, hE⟩
  exact ⟨t, rfl, ⟨b, c, b2, c2, G', G2, (h.rot.step (hE.mod (fun _ => False)) (fun k hk => hk.elim) hS.own (fun k hk => .inr (hF k hk))).rot⟩, hE⟩
theorem Q4_pt (h : Q4 N w C lv R W s o r q l m l' m') (key : Int) (hk : U64 key) :
    Calls Try.prog 15 #[.pointer (some ⟨s, 0, none⟩), .int .u64 key] w fun e w' => ∃ x t, e = .returned (.tuple #[.int .i64 x, .int .i64 t]) ∧ ptS C lv R W l key x t ∧ Ext w w' := by
  obtain ⟨b, c, b2, c2, G, G2, h⟩ := h
  exact SPointAny_c s b c C lv R W l key w h.o1.h hk
theorem Q4_rpt (h : Q4 N w C lv R W s o r q l m l' m') (key : Int) (hk : U64 key) :
    Calls Try.prog 16 #[.pointer (some ⟨r, 0, none⟩), .int .u64 key] w fun e w' => ∃ x t, e = .returned (.tuple #[.int .i64 x, .int .i64 t]) ∧ ptS C lv R W l' key x t ∧ Ext w w' := by
  obtain ⟨b, c, b2, c2, G, G2, h⟩ := h
  exact RSPoint_c r G C lv R W l' key w h.o3.h hk
theorem Q4_chk (h : Q4 N w C lv R W s o r q l m l' m') (key d : Int) (hk : U64 key) (hd : I64 d) :
    Calls Try.prog 17 #[.pointer (some ⟨s, 0, none⟩), .int .u64 key, .int .i64 d] w fun e w' => e = .returned (.int .i64 (errU C lv R W l key d)) ∧ Ext w w' := by
  obtain ⟨b, c, b2, c2, G, G2, h⟩ := h
  exact Check_c s b c C lv R W l key d w h.o1.h hd hk.1
theorem Q4_rcp (h : Q4 N w C lv R W s o r q l m l' m') :
    Calls Try.prog 18 #[.pointer (some ⟨r, 0, none⟩)] w (RSNewPost w C lv R W l') := by
  obtain ⟨b, c, b2, c2, G, G2, h⟩ := h
  exact RSCopy_c r G C lv R W l' w h.o3.h
theorem Q4_cells (h : Q4 N w C lv R W s o r q l m l' m') :
    Calls Try.prog 24 #[.pointer (some ⟨s, 0, none⟩)] w fun e w' => ∃ v, e = .returned v ∧ IntsAt w' v l ∧ Ext w w' := by
  obtain ⟨b, c, b2, c2, G, G2, h⟩ := h
  refine (SCells_c s b c C lv R W l w h.o1.h).mono ?_
  rintro e w' ⟨v, rfl, h1, _, h2⟩
  exact ⟨v, rfl, IntsAt.of_row h1, h2⟩
/-- What a reference's sketch points to. -/
theorem Q4.grid (h : Q4 N w C lv R W s o r q l m l' m') : ∃ G : Gr, r < w.heap.size ∧ w.cell? ⟨r, 6, none⟩ = some (.pointer (some ⟨G.g, 0, none⟩)) ∧ RGAt w G R W l' := by
  obtain ⟨b, c, b2, c2, G, G2, h⟩ := h
  exact ⟨G, h.o3.h.lts, (cell_of h.o3.h.ex 6).trans rfl, h.o3.h.g⟩
theorem Q4.at1 (h : Q4 N w C lv R W s o r q l m l' m') : ∃ b c, SAt w s b c C lv R W l := by
  obtain ⟨b, c, b2, c2, G, G2, h⟩ := h
  exact ⟨b, c, h.o1.h⟩
end
end Go.Proofs.Yteoblkcbemeamaa

/- inner.Inner: the least product of two rows. -/
namespace Go.Proofs.Yteoblkcbemeamaa
set_option linter.unusedVariables false
open Go.RowKit

def zw : Value := .agg #[.int .i64 0, .int .u64 0]
theorem Dot_no (p1 p2 : Option Addr) (n1 c1 n2 c2 : Nat) (w : World) (hn : n1 ≠ n2) (h1 : n1 ≤ 1152921504606846976) (h2 : n2 ≤ 1152921504606846976) :
    Calls Try.prog 34 #[.slice p1 n1 c1, .slice p2 n2 c2] w fun e w' => e = .returned (.tuple #[.agg #[.int .i64 0, .int .u64 0], .bool false]) ∧ Ext w w' := by
  have hne : ((n1 : Int) != (n2 : Int)) = true := by simp; omega
  go_enter Try.func34, Try.ntmps34
  go_wp2_with fail
  refine bodyPost_ret (v := .tuple #[.agg #[.int .i64 0, .int .u64 0], .bool false]) (by simp [results, Try.results34, go_sem]) rfl ⟨rfl, by (repeat' (first | exact Ext.refl _ | assumption | apply Ext.allocR | apply Ext.drewR | apply Ext.drewNR | (refine Ext.trans' ?_ (by assumption))))⟩
def rowP (l : List Int) (W r : Nat) : List Int := (List.range W).map fun k => l.getD (r * W + k) 0
theorem rowP_len (l : List Int) (W r : Nat) : (rowP l W r).length = W := by simp [rowP]
theorem rowP_get (l : List Int) {W r k : Nat} (h : k < W) : (rowP l W r).getD k 0 = l.getD (r * W + k) 0 := by simp [rowP, h]
theorem rowP_all {l : List Int} (h : allI l) (W r : Nat) : ∀ x ∈ rowP l W r, I64 x := by
  intro x hx
  simp only [rowP, List.mem_map, List.mem_range] at hx
  obtain ⟨k, _, rfl⟩ := hx
  exact getD_i64 h _
/-- The least of the products of the first r rows, if each fits. -/
def innF (l m : List Int) (W : Nat) : Nat → Option Int
  | 0 => some 0
  | r + 1 => (innF l m W r).bind fun best => (dotF (rowP l W r) (rowP m W r) W).bind fun n => some (bif decide (r = 0) || decide (n < best) then n else best)
theorem innF_w {l m : List Int} {W : Nat} : ∀ {r : Nat} {s : Int}, innF l m W r = some s → W128 s := by
  intro r
  induction r with
  | zero => intro s h; cases h; unfold W128; omega
  | succ r ih =>
    intro s h
    simp only [innF] at h
    cases hb : innF l m W r with
    | none => rw [hb] at h; cases h
    | some best =>
      cases hd : dotF (rowP l W r) (rowP m W r) W with
      | none => rw [hb, hd] at h; cases h
      | some n =>
        rw [hb, hd] at h
        simp only [Option.bind_some] at h
        cases hc : (decide (r = 0) || decide (n < best)) with
        | false => rw [hc] at h; cases h; exact ih hb
        | true => rw [hc] at h; cases h; exact dotF_w hd
theorem innF_none {l m : List Int} {W r : Nat} (h : innF l m W r = none) : ∀ {n : Nat}, r ≤ n → innF l m W n = none := by
  intro n hn
  induction n with
  | zero => obtain rfl : r = 0 := by omega
            exact h
  | succ n ih =>
    rcases Nat.lt_or_ge n r with h1 | h1
    · obtain rfl : r = n + 1 := by omega
      exact h
    · simp only [innF, ih h1, Option.bind_none]
def innV : Option Int → Value
  | some s => .tuple #[.agg #[.int .i64 (hi s), .int .u64 (lo s)], .int .i64 0]
  | none => .tuple #[.agg #[.int .i64 0, .int .u64 0], .int .i64 4]
theorem Inner_nil1 (p : Option Addr) (w : World) :
    Calls Try.prog 12 #[.pointer none, .pointer p] w fun e w' => e = .returned (.tuple #[.agg #[.int .i64 0, .int .u64 0], .int .i64 5]) ∧ Ext w w' := by
  go_enter Try.func12, Try.ntmps12
  go_wp2_with fail
  refine bodyPost_ret (v := .tuple #[.agg #[.int .i64 0, .int .u64 0], .int .i64 5]) (by simp [results, Try.results12, go_sem]) rfl ⟨rfl, by (repeat' (first | exact Ext.refl _ | assumption | apply Ext.allocR | apply Ext.drewR | apply Ext.drewNR | (refine Ext.trans' ?_ (by assumption))))⟩
theorem Inner_nil2 (s : Nat) (w : World) :
    Calls Try.prog 12 #[.pointer (some ⟨s, 0, none⟩), .pointer none] w fun e w' => e = .returned (.tuple #[.agg #[.int .i64 0, .int .u64 0], .int .i64 5]) ∧ Ext w w' := by
  go_enter Try.func12, Try.ntmps12
  go_wp2_with fail
  refine bodyPost_ret (v := .tuple #[.agg #[.int .i64 0, .int .u64 0], .int .i64 5]) (by simp [results, Try.results12, go_sem]) rfl ⟨rfl, by (repeat' (first | exact Ext.refl _ | assumption | apply Ext.allocR | apply Ext.drewR | apply Ext.drewNR | (refine Ext.trans' ?_ (by assumption))))⟩
theorem zbox {w0 wx : World} {b : Nat} (h : w0.heap[b]? = some (.cells #[.int .i64 0, .int .u64 0] 40 (0, 0))) (hE : Ext w0 wx) :
    wx.cell? ⟨b, 0, none⟩ = some (.int .i64 0) ∧ wx.cell? ⟨b, 1, none⟩ = some (.int .u64 0) ∧ wx.frozen? ⟨b, 0, none⟩ = false ∧ wx.frozen? ⟨b, 1, none⟩ = false ∧ b < wx.heap.size :=
  have h' := hE.keep h
  ⟨(cell_of h' 0).trans rfl, (cell_of h' 1).trans rfl, frozen_of h' 0, frozen_of h' 1, lt_of h'⟩
set_option maxRecDepth 20000 in
set_option maxHeartbeats 4000000 in
theorem Inner_unlike (s b c s2 b2 c2 : Nat) (C C2 : Cfg) (lv lv2 : Int) (R W R2 W2 : Nat) (l l2 : List Int) (w : World) (h : SAt w s b c C lv R W l) (h2 : SAt w s2 b2 c2 C2 lv2 R2 W2 l2) (hp : PartsAt C lv C2 lv2) :
    Calls Try.prog 12 #[.pointer (some ⟨s, 0, none⟩), .pointer (some ⟨s2, 0, none⟩)] w fun e w' => e = .returned (.tuple #[.agg #[.int .i64 0, .int .u64 0], .int .i64 5]) ∧ Ext w w' := by
  have H := Lib.hid h
  have H2 := Lib.hid h2
  clear h h2
  go_enter Try.func12, Try.ntmps12
  go_upto_region 1 with (fail)
  have hz0 := heap_at w (.cells #[.int .i64 0, .int .u64 0] 40) rfl
  have hE0 : Ext w (w.alloc (.cells #[.int .i64 0, .int .u64 0] 40)) := Ext.alloc' _ _
  generalize w.alloc (.cells #[.int .i64 0, .int .u64 0] 40) = w0 at *
  have HZ0 := Lib.hid hz0
  clear hz0
  go_cut [34] (fun s34 wx => s34 = .bool true ∧ Ext w0 wx)
  case first =>
    cases hp
    all_goals
      go_wp2_with (first | (go_at_call 26; refine (SConfig_c s b c C lv R W l _ (H.out.ext (by (repeat' (first | exact Ext.refl _ | assumption | apply Ext.allocR | apply Ext.drewR | apply Ext.drewNR | (refine Ext.trans' ?_ (by assumption))))))).mono ?_; rintro e w1 ⟨rfl, hb1⟩) | (go_at_call 26; refine (SConfig_c s2 b2 c2 C2 lv2 R2 W2 l2 _ (H2.out.ext (by (repeat' (first | exact Ext.refl _ | assumption | apply Ext.allocR | apply Ext.drewR | apply Ext.drewNR | (refine Ext.trans' ?_ (by assumption))))))).mono ?_; rintro e w2 ⟨rfl, hb2⟩) | (go_at_call 27; refine (SLevel_c s b c C lv R W l _ (H.out.ext (by (repeat' (first | exact Ext.refl _ | assumption | apply Ext.allocR | apply Ext.drewR | apply Ext.drewNR | (refine Ext.trans' ?_ (by assumption))))))).mono ?_; rintro e w3 ⟨rfl, rfl⟩) | (go_at_call 27; refine (SLevel_c s2 b2 c2 C2 lv2 R2 W2 l2 _ (H2.out.ext (by (repeat' (first | exact Ext.refl _ | assumption | apply Ext.allocR | apply Ext.drewR | apply Ext.drewNR | (refine Ext.trans' ?_ (by assumption))))))).mono ?_; rintro e w4 ⟨rfl, rfl⟩))
      go_meet
      exact ⟨by first | rfl | simp [bne, *], by (repeat' (first | exact Ext.refl _ | assumption | apply Ext.allocR | apply Ext.drewR | apply Ext.drewNR | (refine Ext.trans' ?_ (by assumption))))⟩
  case rest =>
    obtain ⟨rfl, hEc⟩ := hcut
    obtain ⟨p0, p1, f0, f1, hl⟩ := zbox HZ0.out hEc
    go_wp2_with fail
    refine bodyPost_ret (v := .tuple #[.agg #[.int .i64 0, .int .u64 0], .int .i64 5]) (by simp [results, Try.results12, go_sem, *]) rfl ⟨rfl, ?_⟩
    exact ((hE0.trans' hEc).setR (Nat.le_refl _) _).setR (Nat.le_refl _) _
set_option maxRecDepth 20000 in
set_option maxHeartbeats 4000000 in
theorem Inner_mode (s b c s2 b2 c2 : Nat) (C : Cfg) (lv : Int) (R W : Nat) (l l2 : List Int) (w : World) (h : SAt w s b c C lv R W l) (h2 : SAt w s2 b2 c2 C lv R W l2) (hm : C.mode ≠ 1) :
    Calls Try.prog 12 #[.pointer (some ⟨s, 0, none⟩), .pointer (some ⟨s2, 0, none⟩)] w fun e w' => e = .returned (.tuple #[.agg #[.int .i64 0, .int .u64 0], .int .i64 3]) ∧ Ext w w' := by
  have H := Lib.hid h
  have H2 := Lib.hid h2
  have hm' : (C.mode != 1) = true := by simpa using hm
  clear h h2 hm
  go_enter Try.func12, Try.ntmps12
  go_upto_region 1 with (fail)
  have hz0 := heap_at w (.cells #[.int .i64 0, .int .u64 0] 40) rfl
  have hE0 : Ext w (w.alloc (.cells #[.int .i64 0, .int .u64 0] 40)) := Ext.alloc' _ _
  generalize w.alloc (.cells #[.int .i64 0, .int .u64 0] 40) = w0 at *
  have HZ0 := Lib.hid hz0
  clear hz0
  go_cut [34] (fun s34 wx => s34 = .bool false ∧ Ext w0 wx)
  case first =>
    go_wp2_with (first | (go_at_call 26; refine (SConfig_c s b c C lv R W l _ (H.out.ext (by (repeat' (first | exact Ext.refl _ | assumption | apply Ext.allocR | apply Ext.drewR | apply Ext.drewNR | (refine Ext.trans' ?_ (by assumption))))))).mono ?_; rintro e w1 ⟨rfl, hb1⟩) | (go_at_call 26; refine (SConfig_c s2 b2 c2 C lv R W l2 _ (H2.out.ext (by (repeat' (first | exact Ext.refl _ | assumption | apply Ext.allocR | apply Ext.drewR | apply Ext.drewNR | (refine Ext.trans' ?_ (by assumption))))))).mono ?_; rintro e w2 ⟨rfl, hb2⟩) | (go_at_call 27; refine (SLevel_c s b c C lv R W l _ (H.out.ext (by (repeat' (first | exact Ext.refl _ | assumption | apply Ext.allocR | apply Ext.drewR | apply Ext.drewNR | (refine Ext.trans' ?_ (by assumption))))))).mono ?_; rintro e w3 ⟨rfl, rfl⟩) | (go_at_call 27; refine (SLevel_c s2 b2 c2 C lv R W l2 _ (H2.out.ext (by (repeat' (first | exact Ext.refl _ | assumption | apply Ext.allocR | apply Ext.drewR | apply Ext.drewNR | (refine Ext.trans' ?_ (by assumption))))))).mono ?_; rintro e w4 ⟨rfl, rfl⟩))
    go_meet
    exact ⟨by first | rfl | simp, by (repeat' (first | exact Ext.refl _ | assumption | apply Ext.allocR | apply Ext.drewR | apply Ext.drewNR | (refine Ext.trans' ?_ (by assumption))))⟩
  case rest =>
    obtain ⟨rfl, hEc⟩ := hcut
    go_wp2_with fail
    refine Calls.mono (SConfig_c s b c C lv R W l _ (H.out.ext ?hx)) ?_
    case hx => (repeat' (first | exact Ext.refl _ | assumption | apply Ext.allocR | apply Ext.drewR | apply Ext.drewNR | (refine Ext.trans' ?_ (by assumption))))
    rintro e w1 ⟨rfl, hb1⟩
    have hE1 : Ext w0 w1 := by (repeat' (first | exact Ext.refl _ | assumption | apply Ext.allocR | apply Ext.drewR | apply Ext.drewNR | (refine Ext.trans' ?_ (by assumption))))
    obtain ⟨p0, p1, f0, f1, hl⟩ := zbox HZ0.out hE1
    go_wp2_with fail
    refine bodyPost_ret (v := .tuple #[.agg #[.int .i64 0, .int .u64 0], .int .i64 3]) (by simp [results, Try.results12, go_sem, *]) rfl ⟨rfl, ?_⟩
    exact (((hE0.trans' hE1).setR (p := ⟨w.heap.size, 0, none⟩) (Nat.le_refl _) _).setR (p := ⟨w.heap.size, 1, none⟩) (Nat.le_refl _) _).allocR _
end Go.Proofs.Yteoblkcbemeamaa

/- inner.Inner of two sketches of one config in the mode Linear: the least product of two rows. -/
namespace Go.Proofs.Yteoblkcbemeamaa
set_option linter.unusedVariables false
open Go.RowKit

set_option maxRecDepth 20000 in
set_option maxHeartbeats 8000000 in
theorem Inner_c (s b c s2 b2 c2 : Nat) (C : Cfg) (lv : Int) (R W : Nat) (l m : List Int) (w : World) (h : SAt w s b c C lv R W l) (h2 : SAt w s2 b2 c2 C lv R W m) (hm : C.mode = 1) :
    Calls Try.prog 12 #[.pointer (some ⟨s, 0, none⟩), .pointer (some ⟨s2, 0, none⟩)] w fun e w' => e = .returned (innV (innF l m W R)) ∧ Ext w w' := by
  have H := Lib.hid h
  have H2 := Lib.hid h2
  have hm' : (C.mode != 1) = false := by simp [hm]
  have hR := h.hr
  have hW := h.hw
  have hR1 := h.g.r1
  have hR8 := h.g.r2
  have hW1 := h.g.w1
  have hW8 := h.g.w2
  have HR := Lib.hid hR
  have HW := Lib.hid hW
  have HL := Lib.hid h.g.len
  have HL2 := Lib.hid h2.g.len
  have HI := Lib.hid h.fit
  have HI2 := Lib.hid h2.fit
  clear h h2 hm hR hW
  go_enter Try.func12, Try.ntmps12
  go_upto_region 1 with (fail)
  have hz0 := heap_at w (.cells #[.int .i64 0, .int .u64 0] 40) rfl
  have hE0 : Ext w (w.alloc (.cells #[.int .i64 0, .int .u64 0] 40)) := Ext.alloc' _ _
  generalize w.alloc (.cells #[.int .i64 0, .int .u64 0] 40) = w0 at *
  have HZ0 := Lib.hid hz0
  clear hz0
  go_cut [34] (fun s34 wx => s34 = .bool false ∧ Ext w0 wx)
  case first =>
    go_wp2_with (first | (go_at_call 26; refine (SConfig_c s b c C lv R W l _ (H.out.ext (by (repeat' (first | exact Ext.refl _ | assumption | apply Ext.allocR | apply Ext.drewR | apply Ext.drewNR | (refine Ext.trans' ?_ (by assumption))))))).mono ?_; rintro e w1 ⟨rfl, hb1⟩) | (go_at_call 26; refine (SConfig_c s2 b2 c2 C lv R W m _ (H2.out.ext (by (repeat' (first | exact Ext.refl _ | assumption | apply Ext.allocR | apply Ext.drewR | apply Ext.drewNR | (refine Ext.trans' ?_ (by assumption))))))).mono ?_; rintro e w2 ⟨rfl, hb2⟩) | (go_at_call 27; refine (SLevel_c s b c C lv R W l _ (H.out.ext (by (repeat' (first | exact Ext.refl _ | assumption | apply Ext.allocR | apply Ext.drewR | apply Ext.drewNR | (refine Ext.trans' ?_ (by assumption))))))).mono ?_; rintro e w3 ⟨rfl, rfl⟩) | (go_at_call 27; refine (SLevel_c s2 b2 c2 C lv R W m _ (H2.out.ext (by (repeat' (first | exact Ext.refl _ | assumption | apply Ext.allocR | apply Ext.drewR | apply Ext.drewNR | (refine Ext.trans' ?_ (by assumption))))))).mono ?_; rintro e w4 ⟨rfl, rfl⟩))
    go_meet
    exact ⟨by first | rfl | simp, by (repeat' (first | exact Ext.refl _ | assumption | apply Ext.allocR | apply Ext.drewR | apply Ext.drewNR | (refine Ext.trans' ?_ (by assumption))))⟩
  case rest =>
    obtain ⟨rfl, hEc⟩ := hcut
    go_wp2_with fail
    refine Calls.mono (SConfig_c s b c C lv R W l _ (H.out.ext ?hx)) ?_
    case hx => (repeat' (first | exact Ext.refl _ | assumption | apply Ext.allocR | apply Ext.drewR | apply Ext.drewNR | (refine Ext.trans' ?_ (by assumption))))
    rintro e w1 ⟨rfl, hb1⟩
    have hE1 : Ext w0 w1 := by (repeat' (first | exact Ext.refl _ | assumption | apply Ext.allocR | apply Ext.drewR | apply Ext.drewNR | (refine Ext.trans' ?_ (by assumption))))
    have hCb : CfgAt (w1.alloc (.cells #[.int .i64 C.bits, .int .i64 C.rows, .int .i64 C.width, .int .i64 C.mode, .int .u64 C.seed] 24)) w1.heap.size C := CfgAt.box C _ rfl
    have hEB : Ext w1 (w1.alloc (.cells #[.int .i64 C.bits, .int .i64 C.rows, .int .i64 C.width, .int .i64 C.mode, .int .u64 C.seed] 24)) := Ext.alloc' _ _
    clear hb1 hEc
    go_wp2_with fail
    generalize w1.alloc (.cells #[.int .i64 C.bits, .int .i64 C.rows, .int .i64 C.width, .int .i64 C.mode, .int .u64 C.seed] 24) = w2 at *
    have hE2 := hE1.trans' hEB
    refine Calls.mono (SCells_c s b c C lv R W l _ (H.out.ext (by (repeat' (first | exact Ext.refl _ | assumption | apply Ext.allocR | apply Ext.drewR | apply Ext.drewNR | (refine Ext.trans' ?_ (by assumption))))))) ?_
    rintro e w3 ⟨v3, rfl, ho3, _, hx3⟩
    have hE3 : Ext w2 w3 := hx3
    have hi3 := IntsAt.of_row ho3
    obtain ⟨g1, o1, k1, rfl, hg1, hc1⟩ := hi3.slice (by rw [HL.out]; exact Nat.mul_pos hR1 hW1)
    obtain ⟨cp1, hcp1⟩ : ∃ c1, R * W ≤ k1 := ⟨0, by
      have h2 := ho3.2.resolve_left (fun h => by cases h.1)
      obtain ⟨g', cap', cur, hv', _, _, hc', _⟩ := h2
      have := (Value.slice.inj hv').2.2
      rw [HL.out] at hc'
      omega⟩
    rw [HL.out] at hi3 hc1 ⊢
    have HC1 := Lib.hid hc1
    clear ho3 hx3 hi3 hc1
    go_wp2_with fail
    refine Calls.mono (SCells_c s2 b2 c2 C lv R W m _ (H2.out.ext (by (repeat' (first | exact Ext.refl _ | assumption | apply Ext.allocR | apply Ext.drewR | apply Ext.drewNR | (refine Ext.trans' ?_ (by assumption))))))) ?_
    rintro e w4 ⟨v4, rfl, ho4, _, hx4⟩
    have hE4 : Ext w3 w4 := hx4
    have hi4 := IntsAt.of_row ho4
    obtain ⟨g2, o2, k2, rfl, hg2, hc2⟩ := hi4.slice (by rw [HL2.out]; exact Nat.mul_pos hR1 hW1)
    obtain ⟨cp2, hcp2⟩ : ∃ c1, R * W ≤ k2 := ⟨0, by
      have h2 := ho4.2.resolve_left (fun h => by cases h.1)
      obtain ⟨g', cap', cur, hv', _, _, hc', _⟩ := h2
      have := (Value.slice.inj hv').2.2
      rw [HL2.out] at hc'
      omega⟩
    rw [HL2.out] at hi4 hc2 ⊢
    have HC2 := Lib.hid hc2
    have hCb4 := hCb.ext (hE3.trans' hE4)
    have c1' := hCb4.c1
    have cl := hCb4.lt
    rw [HR.out] at c1'
    clear ho4 hx4 hi4 hc2
    have hE24 := hE3.trans' hE4
    have hEw4 : Ext w w4 := hE0.trans' (hE2.trans' hE24)
    have hz4 := (hE2.trans' hE24).keep HZ0.out
    have HZ4 := Lib.hid hz4
    have hg13 : g1 < w4.heap.size := Nat.lt_of_lt_of_le hg1 hE4.size
    have hc14 : ∀ j, j < R * W → w4.cell? ⟨g1, o1 + j, none⟩ = some (.int .i64 (l.getD j 0)) := fun j hj => ((bcell hE4).1 g1 _ hg1).trans (HC1.out j hj)
    have HC14 := Lib.hid hc14
    have HCB4 := Lib.hid hCb4
    have hN2 : R * W ≤ 1024 := Nat.le_trans (Nat.mul_le_mul hR8 hW8) (by decide)
    clear hz4 hc14 hCb4 hCb hE24 hE3 hE4 hE2 hE1 hEB HZ0 HC1 H H2
    go_wp2_with fail
    go_loopw [48] (fun u wr => ∃ (r : Nat) (best : Int), r ≤ R ∧ u = .int .i64 r ∧ innF l m W r = some best ∧ Ext w4 wr ∧ wr.heap[w4.heap.size]? = some (.cells #[.int .i64 (hi best), .int .u64 (lo best)] 40 (0, 0))) (fun u _ => R - (intOf u).toNat)
    case atStart => exact ⟨0, 0, Nat.zero_le _, rfl, rfl, Ext.alloc' _ _, heap_at _ _ rfl⟩
    case round =>
      obtain ⟨r, best, hr, rfl, hin, hE, hg9⟩ := hrel
      clear c1' cl
      by_cases hgo : r < R
      · have hCr := HCB4.out.ext hE
        have c2' := hCr.c2
        have cl := hCr.lt
        rw [HW.out] at c2'
        obtain ⟨f, hf⟩ : ∃ f, r * W = f := ⟨_, rfl⟩
        have hf1 : (r : Int) * (W : Int) = (f : Int) := by rw [← hf]; simp
        have hf2 : ((r : Int) + 1) * (W : Int) = ((f + W : Nat) : Int) := by rw [Int.add_mul, hf1]; simp
        have hfN : f + W ≤ R * W := by rw [← hf, ← Nat.succ_mul]; exact Nat.mul_le_mul_right _ hgo
        have hf1b : f + W ≤ 1024 := by omega
        have HIN := Lib.hid hin
        have HG9 := Lib.hid hg9
        have HFF := Lib.hid hf
        clear hin hg9 hCr hf
        go_wp2_with fail
        refine wp_region_after (by kernel_rfl) (by kernel_rfl) ?_
        repeat (go_big_quiet_step (fail))
        refine wpQuiet_nil ?_
        rintro _ ⟨xx, rfl⟩
        obtain ⟨wq, hq⟩ := xx
        try dsimp only
        obtain ⟨dt, hdt⟩ : ∃ dt, dotF (rowP l W r) (rowP m W r) W = dt := ⟨_, rfl⟩
        obtain ⟨rh, rl, ok, hdv, hok1, hok0⟩ : ∃ (rh rl : Int) (ok : Bool), dotV dt = .tuple #[.agg #[.int .i64 rh, .int .u64 rl], .bool ok] ∧ (ok = true → ∃ n, dt = some n ∧ rh = hi n ∧ rl = lo n) ∧ (ok = false → dt = none) := by
          cases dt with
          | none => exact ⟨0, 0, false, rfl, (fun h => by cases h), (fun _ => rfl)⟩
          | some n => exact ⟨hi n, lo n, true, rfl, (fun _ => ⟨n, rfl, rfl, rfl⟩), (fun h => by cases h)⟩
        have hEq : Ext w4 wq := hE.trans' hq
        have hi1 : ∀ (cc : Nat) (w' : World), Ext w4 w' → IntsAt w' (.slice (some ⟨g1, o1 + f, none⟩) W cc) (rowP l W r) := fun cc w' hE' => .inr ⟨g1, o1 + f, cc, by rw [rowP_len], Nat.lt_of_lt_of_le hg13 hE'.size, fun k hk => by
          rw [rowP_len] at hk
          rw [rowP_get _ hk, HFF.out, Nat.add_assoc]
          exact ((bcell hE').1 g1 _ hg13).trans (HC14.out (f + k) (by omega))⟩
        have hi2 : ∀ (cc : Nat) (w' : World), Ext w4 w' → IntsAt w' (.slice (some ⟨g2, o2 + f, none⟩) W cc) (rowP m W r) := fun cc w' hE' => .inr ⟨g2, o2 + f, cc, by rw [rowP_len], Nat.lt_of_lt_of_le hg2 hE'.size, fun k hk => by
          rw [rowP_len] at hk
          rw [rowP_get _ hk, HFF.out, Nat.add_assoc]
          exact ((bcell hE').1 g2 _ hg2).trans (HC2.out (f + k) (by omega))⟩
        have hdot : ∀ (cc cc2 : Nat) (w' : World), Ext w4 w' → Calls Try.prog 34 #[.slice (some ⟨g1, o1 + f, none⟩) W cc, .slice (some ⟨g2, o2 + f, none⟩) W cc2] w' fun e w'' => e = .returned (.tuple #[.agg #[.int .i64 rh, .int .u64 rl], .bool ok]) ∧ Ext w' w'' := by
          intro cc cc2 w' hE'
          have := Dot_c (rowP l W r) (rowP m W r) _ _ w' (rowP_all HI.out W r) (rowP_all HI2.out W r) (by rw [rowP_len, rowP_len]) (by rw [rowP_len]; omega) (hi1 cc w' hE') (hi2 cc2 w' hE')
          rw [rowP_len, hdt, hdv] at this
          exact this
        have HDOT := Lib.hid hdot
        have HDT := Lib.hid hdt
        have HOK1 := Lib.hid hok1
        have HOK0 := Lib.hid hok0
        clear hi1 hi2 hdot hdv hok1 hok0 hdt c2' cl hf1 hf2
        go_upto_region 12 with (fail)
        go_cut [13, 14] (fun s13 s14 wx => ∃ z : Nat, s13 = .pointer (some ⟨z, 0, none⟩) ∧ s14 = .bool ok ∧ wx.heap[z]? = some (.cells #[.int .i64 rh, .int .u64 rl] 40 (0, 0)) ∧ Ext wq wx ∧ wq.heap.size ≤ z)
        case first =>
          have hC0 := af_drew wq
          refine pi_start (fun w' => ∃ x : After wq, w' = x.w) [] (by kernel_rfl) ?_
          refine pi_t 0 rfl (by kernel_rfl) (by kernel_rfl) (fun _ _ _ _ h => h) (fun K hK => ?_)
          go_big_quiet_op
          refine hK _ ?_
          clear hK K
          refine pi_t 1 rfl (by kernel_rfl) (by kernel_rfl) (fun _ _ _ _ h => h) (fun K hK => ?_)
          go_big_quiet_op
          refine hK _ ?_
          clear hK K
          refine pi_t 2 rfl (by kernel_rfl) (by kernel_rfl) (fun _ _ _ _ h => h) (fun K hK => ?_)
          go_big_quiet_op
          refine hK _ ?_
          clear hK K
          refine pi_t 3 rfl (by kernel_rfl) (by kernel_rfl) (fun _ _ _ _ h => h) (fun K hK => ?_)
          go_big_quiet_op
          refine hK _ ?_
          clear hK K
          refine pi_t 4 rfl (by kernel_rfl) (by kernel_rfl) (fun _ _ _ _ h => h) (fun K hK => ?_)
          go_big_quiet_op
          refine hK _ ?_
          clear hK K
          refine pi_t 5 rfl (by kernel_rfl) (by kernel_rfl) (fun _ _ _ _ h => h) (fun K hK => ?_)
          go_big_quiet_op
          refine hK _ ?_
          clear hK K
          refine pi_t 6 rfl (by kernel_rfl) (by kernel_rfl) (fun _ _ _ _ h => h) (fun K hK => ?_)
          go_big_quiet_op
          refine hK _ ?_
          clear hK K
          refine pi_t 7 rfl (by kernel_rfl) (by kernel_rfl) (fun _ _ _ _ h => h) (fun K hK => ?_)
          go_big_quiet_op
          refine hK _ ?_
          clear hK K
          refine pi_t 8 rfl (by kernel_rfl) (by kernel_rfl) (fun _ _ _ _ h => h) (fun K hK => ?_)
          go_big_quiet_op
          refine hK _ ?_
          clear hK K
          refine pi_t 9 rfl (by kernel_rfl) (by kernel_rfl) (fun _ _ _ _ h => h) (fun K hK => ?_)
          go_big_quiet_op
          refine hK _ ?_
          clear hK K
          refine pi_b 10 14 rfl rfl (by kernel_rfl) (fun K hK => ?_) (fun K hK => ?_)
          · rw [Nat.add_sub_cancel_left]
            go_wp2_with (go_at_call 34; refine (HDOT.out _ _ _ (hEq.trans' (by (repeat' (first | exact Ext.refl _ | assumption | apply Ext.allocR | apply Ext.drewR | apply Ext.drewNR | (refine Ext.trans' ?_ (by assumption))))))).mono ?_; rintro e wa ⟨rfl, hxa⟩)
            refine hK _ _ (fun _ h => af_step h hxa) ?_
            clear hK K
            have hEa : Ext wq wa := Ext.trans' (Below.drew (Ext.refl wq)) hxa
            refine pi_t 11 rfl (by kernel_rfl) (by kernel_rfl) (fun _ _ _ _ h => h) (fun K hK => ?_)
            go_big_quiet_op
            refine hK _ ?_
            clear hK K
            refine pi_t 12 rfl (by kernel_rfl) (by kernel_rfl) (fun _ _ _ _ h => h) (fun K hK => ?_)
            go_big_quiet_op
            refine hK _ ?_
            clear hK K
            refine pi_t 13 rfl (by kernel_rfl) (by kernel_rfl) (fun _ _ _ _ h => h) (fun K hK => ?_)
            go_big_quiet_op
            refine hK _ ?_
            clear hK K
            refine pi_l 14 rfl (by kernel_rfl) (fun K hK => ?_)
            go_wp2
            refine hK _ _ (fun _ h => af_step h (Ext.alloc' _ _)) ?_
            clear hK K
            refine pi_l 15 rfl (by kernel_rfl) (fun K hK => ?_)
            go_wp2
            have hsz := hEa.size
            refine hK _ _ (fun _ h => ⟨⟨_, hEa.allocR _⟩, rfl⟩) ?_
            clear hK K
            refine pi_t 16 rfl (by kernel_rfl) (by kernel_rfl) (fun _ _ _ _ h => h) (fun K hK => ?_)
            go_big_quiet_op
            refine hK _ ?_
            clear hK K
            refine pi_end (by kernel_rfl) ?_
            go_wp2_with fail
            go_meet
            exact ⟨_, rfl, rfl, heap_at _ _ rfl, hEa.allocR _, hsz⟩
          · go_wp2
            refine hK _ _ (fun _ h => af_step h (Ext.alloc' _ _)) ?_
            clear hK K
            refine pi_l 10 rfl (by kernel_rfl) (fun K hK => ?_)
            rw [Nat.add_sub_cancel_left]
            go_wp2_with (go_at_call 34; refine (HDOT.out _ _ _ (hEq.trans' (by (repeat' (first | exact Ext.refl _ | assumption | apply Ext.allocR | apply Ext.drewR | apply Ext.drewNR | (refine Ext.trans' ?_ (by assumption))))))).mono ?_; rintro e wa ⟨rfl, hxa⟩)
            refine hK _ _ (fun _ h => af_step h hxa) ?_
            clear hK K
            have hEa : Ext wq wa := Ext.trans' (Ext.alloc' wq _) (Ext.trans' (Below.drew (Ext.refl _)) hxa)
            have hbx : wa.heap[wq.heap.size]? = some (.cells #[.int .i64 0, .int .u64 0] 40 (0, 0)) := hxa.keep (heap_at wq.drew _ rfl)
            have p0 := (cell_of hbx 0).trans rfl
            have p1 := (cell_of hbx 1).trans rfl
            have f0 := frozen_of hbx 0
            have f1 := frozen_of hbx 1
            have HBX := Lib.hid hbx
            clear hbx
            refine pi_t 11 rfl (by kernel_rfl) (by kernel_rfl) (fun _ _ _ _ h => h) (fun K hK => ?_)
            go_big_quiet_op
            refine hK _ ?_
            clear hK K
            refine pi_t 12 rfl (by kernel_rfl) (by kernel_rfl) (fun _ _ _ _ h => h) (fun K hK => ?_)
            go_big_quiet_op
            refine hK _ ?_
            clear hK K
            refine pi_t 13 rfl (by kernel_rfl) (by kernel_rfl) (fun _ _ _ _ h => h) (fun K hK => ?_)
            go_big_quiet_op
            refine hK _ ?_
            clear hK K
            refine pi_l 15 rfl (by kernel_rfl) (fun K hK => ?_)
            go_wp2
            refine hK _ _ (fun _ h => ⟨⟨_, (hEa.setR (p := ⟨wq.heap.size, 0, none⟩) (Nat.le_refl _) _).setR (p := ⟨wq.heap.size, 1, none⟩) (Nat.le_refl _) _⟩, rfl⟩) ?_
            clear hK K
            refine pi_t 16 rfl (by kernel_rfl) (by kernel_rfl) (fun _ _ _ _ h => h) (fun K hK => ?_)
            go_big_quiet_op
            refine hK _ ?_
            clear hK K
            refine pi_end (by kernel_rfl) ?_
            go_wp2_with fail
            go_meet
            exact ⟨_, rfl, rfl, set2 HBX.out _ _, (hEa.setR (p := ⟨wq.heap.size, 0, none⟩) (Nat.le_refl _) _).setR (p := ⟨wq.heap.size, 1, none⟩) (Nat.le_refl _) _, Nat.le_refl _⟩
        case rest =>
          obtain ⟨z, rfl, rfl, hz, hEc, hzz⟩ := hcut
          have hEx := hEq.trans' hEc
          have y0 := (cell_of hz 0).trans rfl
          have y1 := (cell_of hz 1).trans rfl
          have zl := lt_of hz
          have hg9 := (hq.trans' hEc).keep HG9.out
          have hls := lt_of HG9.out
          have hqs := hq.size
          cases ok
          · have hnn : innF l m W (r + 1) = none := by
              have h1 := HOK0.out rfl
              simp only [innF, HIN.out, HDT.out, h1, Option.bind_some, Option.bind_none]
            have hnil := innF_none hnn (n := R) (by omega)
            obtain ⟨p0, p1, f0, f1, hl⟩ := zbox HZ4.out hEx
            have HNIL := Lib.hid hnil
            clear hg9 hnn hnil
            go_wp2_with fail
            refine bodyPost_ret (v := .tuple #[.agg #[.int .i64 0, .int .u64 0], .int .i64 4]) (by simp [results, Try.results12, go_sem, *]) rfl ⟨by rw [HNIL.out]; rfl, ?_⟩
            exact ((hEw4.trans' hEx).setR (p := ⟨w.heap.size, 0, none⟩) (Nat.le_refl _) _).setR (p := ⟨w.heap.size, 1, none⟩) (Nat.le_refl _) _
          · obtain ⟨n, rfl, rfl, rfl⟩ := HOK1.out rfl
            have a0 := (cell_of hg9 0).trans rfl
            have a1 := (cell_of hg9 1).trans rfl
            have f0 := frozen_of hg9 0
            have f1 := frozen_of hg9 1
            have HG9' := Lib.hid hg9
            have hss : innF l m W (r + 1) = some (bif decide (r = 0) || decide (n < best) then n else best) := by
              simp only [innF, HIN.out, HDT.out, Option.bind_some]
            by_cases hr0 : r = 0
            · have hr0' : ((r : Int) == 0) = true := by simp [hr0]
              have hdd : (decide (r = 0) || decide (n < best)) = true := by simp [hr0]
              rw [hdd] at hss
              have HSS := Lib.hid hss
              clear hg9 hss hdd hr0
              go_wp2_with fail
              go_roundw
              case rel =>
                exact ⟨r + 1, n, by omega, by go_num, HSS.out, (hEx.setR (p := ⟨w4.heap.size, 0, none⟩) (Nat.le_refl _) _).setR (p := ⟨w4.heap.size, 1, none⟩) (Nat.le_refl _) _, set2 HG9'.out _ _⟩
              case measure => simp [intOf]; omega
            · have hr0' : ((r : Int) == 0) = false := by simpa using hr0
              by_cases hlt : n < best
              · have hdd : (decide (r = 0) || decide (n < best)) = true := by simp [hlt]
                rw [hdd] at hss
                have HSS := Lib.hid hss
                clear hg9 hss hdd hr0
                go_wp2_with fail
                refine Calls.mono (Less_c n best _) ?_
                rintro e wl ⟨rfl, hxl⟩
                rw [decide_eq_true hlt]
                have hz' := hxl.keep hz
                have y0' := (cell_of hz' 0).trans rfl
                have y1' := (cell_of hz' 1).trans rfl
                have zl' := lt_of hz'
                have hg9' := hxl.keep HG9'.out
                have a0' := (cell_of hg9' 0).trans rfl
                have a1' := (cell_of hg9' 1).trans rfl
                have f0' := frozen_of hg9' 0
                have f1' := frozen_of hg9' 1
                have HG9'' := Lib.hid hg9'
                clear hg9' hz'
                go_wp2_with fail
                go_roundw
                case rel =>
                  exact ⟨r + 1, n, by omega, by go_num, HSS.out, ((hEx.trans' hxl).setR (p := ⟨w4.heap.size, 0, none⟩) (Nat.le_refl _) _).setR (p := ⟨w4.heap.size, 1, none⟩) (Nat.le_refl _) _, set2 HG9''.out _ _⟩
                case measure => simp [intOf]; omega
              · have hdd : (decide (r = 0) || decide (n < best)) = false := by simp [hlt, hr0]
                rw [hdd] at hss
                have HSS := Lib.hid hss
                clear hg9 hss hdd hr0
                go_wp2_with fail
                refine Calls.mono (Less_c n best _) ?_
                rintro e wl ⟨rfl, hxl⟩
                rw [decide_eq_false (show ¬ n < best by omega)]
                have hg9' := hxl.keep HG9'.out
                have HG9'' := Lib.hid hg9'
                clear hg9'
                go_wp2_with fail
                go_roundw
                case rel => exact ⟨r + 1, best, by omega, by go_num, HSS.out, hEx.trans' hxl, HG9''.out⟩
                case measure => simp [intOf]; omega
      · obtain rfl : r = R := by omega
        have HIN := Lib.hid hin
        have a0 := (cell_of hg9 0).trans rfl
        have a1 := (cell_of hg9 1).trans rfl
        have al := lt_of hg9
        obtain ⟨p0, p1, f0, f1, hl⟩ := zbox HZ4.out hE
        clear hin hg9
        go_wp2_with fail
        refine bodyPost_ret (v := .tuple #[.agg #[.int .i64 (hi best), .int .u64 (lo best)], .int .i64 0]) (by simp [results, Try.results12, go_sem, *]) rfl ⟨by rw [HIN.out]; rfl, ?_⟩
        exact ((hEw4.trans' hE).setR (p := ⟨w.heap.size, 0, none⟩) (Nat.le_refl _) _).setR (p := ⟨w.heap.size, 1, none⟩) (Nat.le_refl _) _
end Go.Proofs.Yteoblkcbemeamaa

/- gaugerlaw11.shown. -/
namespace Go.Proofs.Yteoblkcbemeamaa
set_option linter.unusedVariables false
open Go.RowKit

def D0 : Cfg := ⟨2, 2, 1, 1, 0⟩
theorem D0_ok : D0.Ok := by constructor <;> simp [D0, U64]
theorem D0_cols (k : Int) : cols D0 0 k = [0, 0] := by
  have h0 := col_bd D0 (by simp [D0]) 0 k (0 : Nat)
  have h1 := col_bd D0 (by simp [D0]) 0 k (1 : Nat)
  have e0 : col D0 0 k (0 : Nat) = 0 := by have : D0.width = 1 := rfl; omega
  have e1 : col D0 0 k (1 : Nat) = 0 := by have : D0.width = 1 := rfl; omega
  show (List.range 2).map _ = _
  rw [show List.range 2 = [0, 1] from rfl]
  simp only [List.map_cons, List.map_nil]
  rw [e0, e1]
theorem D0_keys : keys D0 0 = 4 := by simp [keys, D0]
theorem D0_e1 : errU D0 0 2 1 [0, 0] 1 5 = 0 := by unfold errU; rw [D0_cols, D0_keys]; rfl
theorem D0_u1 : updL D0 0 2 1 [0, 0] 1 5 = [5, 5] := by unfold updL; rw [D0_cols]; rfl
theorem D0_e2 : errU D0 0 2 1 [0, 0] 2 7 = 0 := by unfold errU; rw [D0_cols, D0_keys]; rfl
theorem D0_u2 : updL D0 0 2 1 [0, 0] 2 7 = [7, 7] := by unfold updL; rw [D0_cols]; rfl
theorem D0_in : innF [5, 5] [7, 7] 1 2 = some 35 := by decide
theorem D_m5 : dotF [1, 2] [3, -4] 2 = some (-5) := by decide
theorem V35 : innV (some 35) = .tuple #[.agg #[.int .i64 0, .int .u64 35], .int .i64 0] := rfl
theorem Vm5 : dotV (some (-5)) = .tuple #[.agg #[.int .i64 (-1), .int .u64 18446744073709551611], .bool true] := rfl
theorem Of35 (w : World) : Calls Try.prog 35 #[.int .i64 35] w fun e w' => e = .returned (.agg #[.int .i64 0, .int .u64 35]) ∧ Ext w w' := Of_c 35 (by unfold I64; omega) w
theorem Ofm5 (w : World) : Calls Try.prog 35 #[.int .i64 (-5)] w fun e w' => e = .returned (.agg #[.int .i64 (-1), .int .u64 18446744073709551611]) ∧ Ext w w' := Of_c (-5) (by unfold I64; omega) w
theorem wbox {w0 wx : World} {b : Nat} {x y : Value} (h : w0.heap[b]? = some (.cells #[x, y] 40 (0, 0))) (hE : Ext w0 wx) :
    wx.cell? ⟨b, 0, none⟩ = some x ∧ wx.cell? ⟨b, 1, none⟩ = some y ∧ b < wx.heap.size :=
  have h' := hE.keep h
  ⟨(cell_of h' 0).trans rfl, (cell_of h' 1).trans rfl, lt_of h'⟩
theorem updpost {w w' : World} {s b c : Nat} {C : Cfg} {lv : Int} {R W : Nat} {l : List Int} {key d : Int} {e : Ending} (h : UpdPost w s b c C lv R W l key d e w') (he : errU C lv R W l key d = 0) :
    e = .returned (.int .i64 0) ∧ SAt w' s b c C lv R W (updL C lv R W l key d) ∧ Mod (fun k => k = c) w w' := by
  obtain ⟨h1, h2⟩ := h
  obtain ⟨_, hS, hM⟩ := h2.resolve_right (fun h => h.1 he)
  rw [he] at h1
  exact ⟨h1, hS, hM⟩
set_option maxRecDepth 20000 in
set_option maxHeartbeats 4000000 in
theorem shown11_c (w : World) : Calls Try.prog 6 #[] w fun e w' => e = .returned (.bool true) ∧ Ext w w' := by
  go_enter Try.func6, Try.ntmps6
  go_wp2_with fail
  have hCb : CfgAt (w.alloc (.cells #[.int .i64 2, .int .i64 2, .int .i64 1, .int .i64 1, .int .u64 0] 24)) w.heap.size D0 := CfgAt.box D0 _ rfl
  have hE0 : Ext w (w.alloc (.cells #[.int .i64 2, .int .i64 2, .int .i64 1, .int .i64 1, .int .u64 0] 24)) := Ext.alloc' _ _
  generalize w.alloc (.cells #[.int .i64 2, .int .i64 2, .int .i64 1, .int .i64 1, .int .u64 0] 24) = w0 at *
  refine (SNew_c D0 D0_ok 0 (by decide) (by decide) 2 1 rfl rfl _).mono ?_
  rintro e w1 ⟨s, b, c, rfl, hS, hs, hb, hc, hx1⟩
  have hE1 : Ext w0 w1 := by (repeat' (first | exact Ext.refl _ | assumption | apply Ext.allocR | apply Ext.drewR | apply Ext.drewNR | (refine Ext.trans' ?_ (by assumption))))
  have hC1 := hCb.ext hE1
  have d0 : w1.cell? ⟨w.heap.size, 0, none⟩ = some (.int .i64 2) := hC1.c0
  have d1 : w1.cell? ⟨w.heap.size, 1, none⟩ = some (.int .i64 2) := hC1.c1
  have d2 : w1.cell? ⟨w.heap.size, 2, none⟩ = some (.int .i64 1) := hC1.c2
  have d3 : w1.cell? ⟨w.heap.size, 3, none⟩ = some (.int .i64 1) := hC1.c3
  have d4 : w1.cell? ⟨w.heap.size, 4, none⟩ = some (.int .u64 0) := hC1.c4
  have dl := hC1.lt
  have hlt1 := hS.lts
  have hlt2 := hS.g.ltb
  have hlt3 := hS.g.ltc
  have hsz0 := hE0.size
  have hsz1 := hE1.size
  have HS := Lib.hid hS
  clear hx1 hC1 hCb hS
  go_wp2_with fail
  refine (SNew_c D0 D0_ok 0 (by decide) (by decide) 2 1 rfl rfl _).mono ?_
  rintro e w2 ⟨s2, b2, c2, rfl, hS2, hs2, hb2, hc2, hx2⟩
  have hE2 : Ext w1 w2 := by (repeat' (first | exact Ext.refl _ | assumption | apply Ext.allocR | apply Ext.drewR | apply Ext.drewNR | (refine Ext.trans' ?_ (by assumption))))
  have hsz2 := hE2.size
  have hlt4 := hS2.lts
  have hlt5 := hS2.g.ltb
  have hlt6 := hS2.g.ltc
  have HS2 := Lib.hid hS2
  clear hx2 d0 d1 d2 d3 d4 dl hS2
  go_wp2_with fail
  refine Calls.mono (Update_c s b c D0 0 2 1 _ 1 5 _ ((HS.out.ext hE2).ext ?hx) (by unfold I64; omega) (by decide)) ?_
  case hx => (repeat' (first | exact Ext.refl _ | assumption | apply Ext.allocR | apply Ext.drewR | apply Ext.drewNR | (refine Ext.trans' ?_ (by assumption))))
  intro e w3 hup
  obtain ⟨rfl, hS3, hM3⟩ := updpost hup D0_e1
  rw [show updL D0 0 2 1 (zs (2 * 1)) 1 5 = [5, 5] from D0_u1] at hS3
  have hT3 := HS2.out.mod hM3 (by omega) (by omega) (by omega)
  have hE3 : Ext w w3 := Below.trans (hE0.trans' (hE1.trans' hE2)) (hM3.below (B := w.heap.size) (by show _ ≤ w2.heap.size; omega) (fun i hi => by omega))
  have hsz3 := hM3.size
  have HS3 := Lib.hid hS3
  have HT3 := Lib.hid hT3
  clear hM3 hup hS3 hT3 HS HS2 hE0 hE1 hE2
  go_wp2_with fail
  refine Calls.mono (Update_c s2 b2 c2 D0 0 2 1 _ 2 7 _ (HT3.out.ext ?hx) (by unfold I64; omega) (by decide)) ?_
  case hx => (repeat' (first | exact Ext.refl _ | assumption | apply Ext.allocR | apply Ext.drewR | apply Ext.drewNR | (refine Ext.trans' ?_ (by assumption))))
  intro e w4 hup
  obtain ⟨rfl, hT4, hM4⟩ := updpost hup D0_e2
  rw [show updL D0 0 2 1 (zs (2 * 1)) 2 7 = [7, 7] from D0_u2] at hT4
  have hS4 := HS3.out.mod hM4 (by omega) (by omega) (by omega)
  have hE4 : Ext w w4 := Below.trans hE3 (hM4.below (B := w.heap.size) (by have := hE3.size; omega) (fun i hi => by omega))
  have HS4 := Lib.hid hS4
  have HT4 := Lib.hid hT4
  clear hM4 hup hS4 hT4 HS3 HT3 hE3
  go_wp2_with fail
  refine Calls.mono (Inner_c s b c s2 b2 c2 D0 0 2 1 [5, 5] [7, 7] _ (HS4.out.ext ?hx) (HT4.out.ext ?hy) rfl) ?_
  case hx => (repeat' (first | exact Ext.refl _ | assumption | apply Ext.allocR | apply Ext.drewR | apply Ext.drewNR | (refine Ext.trans' ?_ (by assumption))))
  case hy => (repeat' (first | exact Ext.refl _ | assumption | apply Ext.allocR | apply Ext.drewR | apply Ext.drewNR | (refine Ext.trans' ?_ (by assumption))))
  rw [D0_in, V35]
  rintro e w5 ⟨rfl, hx5⟩
  have hE5 : Ext w4 w5 := by (repeat' (first | exact Ext.refl _ | assumption | apply Ext.allocR | apply Ext.drewR | apply Ext.drewNR | (refine Ext.trans' ?_ (by assumption))))
  have hnb := heap_at w5 (.cells #[.int .i64 0, .int .u64 35] 40) rfl
  have hE5b : Ext w5 (w5.alloc (.cells #[.int .i64 0, .int .u64 35] 40)) := Ext.alloc' _ _
  go_wp2_with fail
  generalize w5.alloc (.cells #[.int .i64 0, .int .u64 35] 40) = w5b at *
  refine Calls.mono (Inner_nil2 s _) ?_
  rintro e w6 ⟨rfl, hx6⟩
  have hE6 : Ext w5b w6 := by (repeat' (first | exact Ext.refl _ | assumption | apply Ext.allocR | apply Ext.drewR | apply Ext.drewNR | (refine Ext.trans' ?_ (by assumption))))
  clear hx5 hx6
  go_wp2_with fail
  refine Calls.mono (Dot_c [1, 2] [3, -4] _ _ _ (by intro x hx; simp at hx; unfold I64; omega) (by intro x hx; simp at hx; unfold I64; omega) rfl (by simp) (.inr ⟨_, 0, 2, rfl, ?q1, ?q2⟩) (.inr ⟨_, 0, 2, rfl, ?q3, ?q4⟩)) ?_
  case q1 => simp only [size_alloc]; omega
  case q3 => simp only [size_alloc]; omega
  case q2 =>
    intro k hk
    have : k = 0 ∨ k = 1 := by simp at hk; omega
    rcases this with rfl | rfl <;> simp [go_sem]
  case q4 =>
    intro k hk
    have : k = 0 ∨ k = 1 := by simp at hk; omega
    rcases this with rfl | rfl <;> simp [go_sem]
  rw [show ([1, 2] : List Int).length = 2 from rfl, D_m5, Vm5]
  rintro e w7 ⟨rfl, hx7⟩
  have hE7 : Ext w6 w7 := by (repeat' (first | exact Ext.refl _ | assumption | apply Ext.allocR | apply Ext.drewR | apply Ext.drewNR | (refine Ext.trans' ?_ (by assumption))))
  have hdb := heap_at w7 (.cells #[.int .i64 (-1), .int .u64 18446744073709551611] 40) rfl
  have hE7b : Ext w7 (w7.alloc (.cells #[.int .i64 (-1), .int .u64 18446744073709551611] 40)) := Ext.alloc' _ _
  clear hx7
  go_wp2_with fail
  generalize w7.alloc (.cells #[.int .i64 (-1), .int .u64 18446744073709551611] 40) = w7b at *
  refine Calls.mono (Dot_no _ _ 1 1 0 0 _ (by decide) (by decide) (by decide)) ?_
  rintro e w8 ⟨rfl, hx8⟩
  have hE8 : Ext w7b w8 := by (repeat' (first | exact Ext.refl _ | assumption | apply Ext.allocR | apply Ext.drewR | apply Ext.drewNR | (refine Ext.trans' ?_ (by assumption))))
  obtain ⟨a0, a1, al⟩ := wbox hnb (hE6.trans' (hE7.trans' (hE7b.trans' hE8)))
  obtain ⟨b0, b1, bl⟩ := wbox hdb hE8
  have hEw : Ext w w8 := hE4.trans' (hE5.trans' (hE5b.trans' (hE6.trans' (hE7.trans' (hE7b.trans' hE8)))))
  clear hx8 hnb hdb hE4 hE5 hE5b hE6 hE7 hE7b hE8 HS4 HT4
  go_wp2_with fail
  refine wp_region_after (by kernel_rfl) (by kernel_rfl) ?_
  repeat (go_big_quiet_step ((first | (go_at_call 35; exact quiet_after (Of35 _)) | (go_at_call 35; exact quiet_after (Ofm5 _)))))
  refine wpQuiet_nil ?_
  rintro _ ⟨xx, rfl⟩
  obtain ⟨wq, hq⟩ := xx
  try dsimp only
  go_wp2
  go_ret
  exact ⟨rfl, (hEw.allocR _).trans' hq⟩
end Go.Proofs.Yteoblkcbemeamaa

/- Plain laws: products of rows fit, and it does not matter which is named first. -/
namespace Go.Proofs.Yteoblkcbemeamaa
set_option linter.unusedVariables false

def dotS (a b : List Int) : Nat → Int
  | 0 => 0
  | k + 1 => dotS a b k + a.getD k 0 * b.getD k 0
theorem dotF_comm (a b : List Int) : ∀ k, dotF a b k = dotF b a k := by
  intro k
  induction k with
  | zero => rfl
  | succ k ih =>
    simp only [dotF]
    rw [ih]
    congr 1
    funext s
    rw [Int.mul_comm (a.getD k 0)]
theorem innF_comm (l m : List Int) (W : Nat) : ∀ r, innF l m W r = innF m l W r := by
  intro r
  induction r with
  | zero => rfl
  | succ r ih =>
    simp only [innF]
    rw [ih, dotF_comm]
theorem dotF_fit {a b : List Int} (ha : Bnd 35184372088832 a) (hb : Bnd 35184372088832 b) : ∀ k, k ≤ 1000 → dotF a b k = some (dotS a b k) ∧ -((k : Int) * 1237940039285380274899124224) ≤ dotS a b k ∧ dotS a b k ≤ (k : Int) * 1237940039285380274899124224 := by
  intro k
  induction k with
  | zero => intro _; exact ⟨rfl, by simp [dotS], by simp [dotS]⟩
  | succ k ih =>
    intro hk
    obtain ⟨h1, h2, h3⟩ := ih (by omega)
    have hp := mul_abs (ha.getD (by omega) k) (hb.getD (by omega) k)
    have hw : W128 (dotS a b k + a.getD k 0 * b.getD k 0) := by unfold W128; omega
    refine ⟨dotF_yes h1 hw, ?_, ?_⟩
    · show _ ≤ dotS a b k + a.getD k 0 * b.getD k 0; push_cast; omega
    · show dotS a b k + a.getD k 0 * b.getD k 0 ≤ _; push_cast; omega
theorem Bnd.row {B : Int} {l : List Int} (h : Bnd B l) (hB : 0 ≤ B) (W r : Nat) : Bnd B (rowP l W r) := by
  intro x hx
  simp only [rowP, List.mem_map, List.mem_range] at hx
  obtain ⟨k, _, rfl⟩ := hx
  exact h.getD hB _
theorem Bnd.le {A B : Int} {l : List Int} (h : Bnd A l) (hAB : A ≤ B) : Bnd B l := fun x hx => ⟨by have := (h x hx).1; omega, by have := (h x hx).2; omega⟩
/-- The least of the sums of products of the first r rows. -/
def innS (l m : List Int) (W : Nat) : Nat → Int
  | 0 => 0
  | r + 1 => bif decide (r = 0) || decide (dotS (rowP l W r) (rowP m W r) W < innS l m W r) then dotS (rowP l W r) (rowP m W r) W else innS l m W r
theorem innF_fit {l m : List Int} (hl : Bnd 35184372088832 l) (hm : Bnd 35184372088832 m) {W : Nat} (hW : W ≤ 1000) : ∀ r, innF l m W r = some (innS l m W r) := by
  intro r
  induction r with
  | zero => rfl
  | succ r ih =>
    have hd := (dotF_fit (hl.row (by omega) W r) (hm.row (by omega) W r) W hW).1
    simp only [innF, ih, hd, Option.bind_some, innS]
end Go.Proofs.Yteoblkcbemeamaa

/- The box of two rows of updates; a config in the mode Linear, and a level of it. -/
namespace Go.Proofs.Yteoblkcbemeamaa
set_option linter.unusedVariables false

structure TwoAt (w : World) (b : Nat) (x : Cfg) (lv : Int) (u m : Value) : Prop where
  c : CfgAt w b x
  c5 : w.cell? ⟨b, 5, none⟩ = some (.int .i64 lv)
  c6 : w.cell? ⟨b, 6, none⟩ = some u
  c7 : w.cell? ⟨b, 7, none⟩ = some m
theorem TwoAt.of {w : World} {b : Nat} {x : Cfg} {lv : Int} {u m : Value} {t : TypeId} (h : w.heap[b]? = some (.cells #[.int .i64 x.bits, .int .i64 x.rows, .int .i64 x.width, .int .i64 x.mode, .int .u64 x.seed, .int .i64 lv, u, m] t (0, 0))) : TwoAt w b x lv u m :=
  ⟨⟨lt_of h, (cell_of h 0).trans rfl, (cell_of h 1).trans rfl, (cell_of h 2).trans rfl, (cell_of h 3).trans rfl, (cell_of h 4).trans rfl⟩, (cell_of h 5).trans rfl, (cell_of h 6).trans rfl, (cell_of h 7).trans rfl⟩
theorem TwoAt.ext {w w' : World} {b : Nat} {x : Cfg} {lv : Int} {u m : Value} (h : TwoAt w b x lv u m) (he : Ext w w') : TwoAt w' b x lv u m :=
  ⟨h.c.ext he, ((bcell he).1 _ _ h.c.lt).trans h.c5, ((bcell he).1 _ _ h.c.lt).trans h.c6, ((bcell he).1 _ _ h.c.lt).trans h.c7⟩
theorem TwoAt.mod {S : Nat → Prop} {w w' : World} {b : Nat} {x : Cfg} {lv : Int} {u m : Value} (h : TwoAt w b x lv u m) (he : Mod S w w') (hs : ¬ S b) : TwoAt w' b x lv u m :=
  ⟨h.c.mod he hs, (mcell he h.c.lt hs 5).trans h.c5, (mcell he h.c.lt hs 6).trans h.c6, (mcell he h.c.lt hs 7).trans h.c7⟩
/-- A config in the mode Linear. -/
def tcfg (x : Cfg) (nb : Int) : Cfg := { mkC x nb 9 with mode := 1 }
theorem tcfg_ok (x : Cfg) (hs : U64 x.seed) {nb : Int} (h1 : 1 ≤ nb) (h2 : nb ≤ 20) : (tcfg x nb).Ok := by
  obtain ⟨a1, a2, a3, a4, a5, a6, a7, a8, a9⟩ := mkC_ok x hs h1 h2 (show (1 : Int) ≤ 9 by decide) (show (9 : Int) ≤ 20 by decide)
  exact ⟨a1, a2, a3, a4, a5, a6, show (1 : Int) ≤ 1 by decide, show (1 : Int) ≤ 3 by decide, a9⟩
theorem tmod20 (d : Int) : -1048576 < d.tmod 1048576 ∧ d.tmod 1048576 < 1048576 := ⟨Int.lt_tmod_of_pos d (by decide), Int.tmod_lt_of_pos d (by decide)⟩
end Go.Proofs.Yteoblkcbemeamaa
