/- The calls seeds.Mix, Draw, Pair, hash.Bucket tell what they compute, and leave what was there. Numbers lie below 2 to the power of 64. -/
import Derived.Test.YthancaehlijaoaaField
namespace Go.Proofs.Ythancaehlijaoaa
open Go.RowKit

def C1 : Int := 13787848793156543929
def C2 : Int := 10723151780598845931
def GD : Int := 11400714819323198485
def xsh (x d : Int) : Int := bits .xor .u64 x (x / d)
def wu (x : Int) : Int := IntKind.u64.wrap x
theorem wu_u (x : Int) : U64 (wu x) := by unfold wu U64; rw [IntKind.wrap_u64]; omega
theorem xsh_u (x d : Int) : U64 (xsh x d) := by
  unfold xsh
  exact wu_u _
def mixA (z : Int) : Int := wu (xsh z 1073741824 * C1)
def mixB (z : Int) : Int := wu (xsh z 134217728 * C2)
def mix (z : Int) : Int := xsh (mixB (mixA z)) 2147483648
theorem mix_u (z : Int) : U64 (mix z) := xsh_u _ _
set_option maxHeartbeats 400000 in
theorem steps_c (w : World) :
    Calls Try.prog 122 #[] w fun e w' => e = .returned (.agg #[.int .u64 30, .int .u64 C1, .int .u64 27, .int .u64 C2, .int .u64 31, .int .u64 1]) ∧ Ext w w' := by
  go_enter Try.func122, Try.ntmps122
  go_wp2
  exact bodyPost_ret (v := .agg #[.int .u64 30, .int .u64 C1, .int .u64 27, .int .u64 C2, .int .u64 31, .int .u64 1]) (by simp [results, Try.results122, go_sem, C1, C2]) rfl ⟨rfl, (Below.refl _ _).alloc (Nat.le_refl _) _⟩
set_option maxHeartbeats 400000 in
theorem Mix_c (z : Int) (h : U64 z) (w : World) :
    Calls Try.prog 111 #[.int .u64 z] w fun e w' => e = .returned (.int .u64 (mix z)) ∧ Ext w w' := by
  have i0 : ∀ w, Sem.run Try.prog (Instr.index 158 (.agg #[.int .u64 30, .int .u64 C1, .int .u64 27, .int .u64 C2, .int .u64 31, .int .u64 1]) (.int .i64 0)) w = .ok (.agg #[.int .u64 30, .int .u64 C1]) w := fun w => by kernel_rfl
  have i1 : ∀ w, Sem.run Try.prog (Instr.index 158 (.agg #[.int .u64 30, .int .u64 C1, .int .u64 27, .int .u64 C2, .int .u64 31, .int .u64 1]) (.int .i64 1)) w = .ok (.agg #[.int .u64 27, .int .u64 C2]) w := fun w => by kernel_rfl
  have i2 : ∀ w, Sem.run Try.prog (Instr.index 158 (.agg #[.int .u64 30, .int .u64 C1, .int .u64 27, .int .u64 C2, .int .u64 31, .int .u64 1]) (.int .i64 2)) w = .ok (.agg #[.int .u64 31, .int .u64 1]) w := fun w => by kernel_rfl
  obtain ⟨h0, h1⟩ := h
  have hx := wu_u (xsh (mixB (mixA z)) 2147483648)
  have hxx : wu (xsh (mixB (mixA z)) 2147483648) = mix z := IntWalk.u64_in _ (by have := mix_u z; unfold U64 mix at this; omega)
  have HX := Lib.hid hxx
  clear hxx hx
  go_enter Try.func111, Try.ntmps111
  go_wp2_with (go_at_call 122; refine (steps_c _).mono ?_; rintro e w1 ⟨rfl, hb⟩)
  have HB := Lib.hid hb
  clear hb
  refine wp_loop_rounds 4 ?_
  rw [rounds_succ]
  go_wp2
  rw [rounds_succ]
  go_wp2
  rw [rounds_succ]
  go_wp2
  rw [rounds_succ]
  go_wp2
  go_ret
  refine ⟨?_, ?_⟩
  · rw [← HX.out]; rfl
  · have hb := HB.out
    have hs := hb.size
    go_grown
def drw (s i : Int) : Int := mix (wu (s + wu (wu (i + 1) * GD)))
theorem drw_u (s i : Int) : U64 (drw s i) := mix_u _
set_option maxHeartbeats 400000 in
theorem Draw_c (s i : Int) (hs : U64 s) (hi : 0 ≤ i) (hi' : i < 10000) (w : World) :
    Calls Try.prog 88 #[.int .u64 s, .int .u64 i] w fun e w' => e = .returned (.int .u64 (drw s i)) ∧ Ext w w' := by
  obtain ⟨h0, h1⟩ := hs
  have e1 : drw s i = mix (wu (s + wu ((i + 1) * GD))) := by
    unfold drw; rw [show wu (i + 1) = i + 1 from IntWalk.u64_in _ (by omega)]
  have HE := Lib.hid e1
  clear e1
  go_enter Try.func88, Try.ntmps88
  go_wp2_with (go_at_call 111; refine (Mix_c _ (wu_u _) _).mono ?_; rintro e w1 ⟨rfl, hb⟩)
  go_ret
  exact ⟨by rw [HE.out]; rfl, hb⟩
def prA (s l r : Int) : Int := 1 + drw s (2 * (l * 8 + r)) % 2305843009213693950
def prB (s l r : Int) : Int := drw s (2 * (l * 8 + r) + 1) % 2305843009213693951
theorem prA_bd (s l r : Int) : 1 ≤ prA s l r ∧ prA s l r ≤ 2305843009213693950 := by unfold prA; omega
theorem prB_bd (s l r : Int) : 0 ≤ prB s l r ∧ prB s l r ≤ 2305843009213693950 := by unfold prB; omega
theorem prA_u (s l r : Int) : U64 (prA s l r) := by unfold prA U64; omega
theorem prB_u (s l r : Int) : U64 (prB s l r) := by unfold prB U64; omega
set_option maxHeartbeats 1000000 in
theorem Pair_c (s l r : Int) (hs : U64 s) (hl : 0 ≤ l) (hl' : l ≤ 59) (hr : 0 ≤ r) (hr' : r < 8) (w : World) :
    Calls Try.prog 57 #[.int .u64 s, .int .i64 l, .int .i64 r] w fun e w' => e = .returned (.tuple #[.int .u64 (prA s l r), .int .u64 (prB s l r)]) ∧ Ext w w' := by
  have g1 : decide (l < 0) = false := by simp; omega
  have g2 : decide (59 < l) = false := by simp; omega
  have g3 : decide (r < 0) = false := by simp; omega
  have g4 : decide (8 ≤ r) = false := by simp; omega
  have b1 := drw_u s (2 * (l * 8 + r))
  have b2 := drw_u s (2 * (l * 8 + r) + 1)
  obtain ⟨b11, b12⟩ := b1
  obtain ⟨b21, b22⟩ := b2
  go_enter Try.func57, Try.ntmps57
  go_wp2_with fail
  refine (Draw_c _ _ hs (by omega) (by omega) _).mono ?_
  rintro e w1 ⟨rfl, hb1⟩
  go_wp2_with fail
  refine (Draw_c _ _ hs (by omega) (by omega) _).mono ?_
  rintro e w2 ⟨rfl, hb2⟩
  go_wp2
  go_ret2
  exact ⟨rfl, hb1.trans' hb2⟩
end Go.Proofs.Ythancaehlijaoaa
