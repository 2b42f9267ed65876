/- SpanFar: a span whose parts have too much has no answer, and one whose parts make up for each other has. No condition: every input. -/
import Derived.Test.YtpnbgoahjoabkaaL4
import Derived.Test.YtpnbgoahjoabkaaL5
import Derived.Test.YtpnbgoahjoabkaaL9
import Derived.Test.YtpnbgoahjoabkaaL7
import Derived.Test.YtpnbgoahjoabkaaL10

/- exact.Load; stack.Load. -/
namespace Go.Proofs.Ytpnbgoahjoabkaa
set_option linter.unusedVariables false
open Go.RowKit
theorem Put_e (b c W : Nat) (l : List Int) (w : World) (h : GAt w b c 1 W l) (k : Nat) (hk : k < W) (n : Int) :
    Calls Try.prog 145 #[.pointer (some ⟨b, 0, none⟩), .int .i64 0, .int .i64 k, .int .i64 n] w fun e w' => e = .returned (.bool true) ∧ w.setCell ⟨c, k, none⟩ (.int .i64 n) = w' := by
  have := Put_c b c 1 W l w h 0 k (by decide) hk n
  rw [Nat.zero_mul, Nat.zero_add] at this
  exact this
set_option maxRecDepth 20000 in
set_option maxHeartbeats 4000000 in
theorem ELoad_yes (s b c : Nat) (C : Cfg) (lv : Int) (N : Nat) (l m : List Int) (v : Value) (w : World) (h : EAt w s b c C lv N l) (hv : IntsAt w v m) (hI : allI m) (hl : m.length = N)
    (hne : ∀ g off n cap, v = .slice (some ⟨g, off, none⟩) n cap → g ≠ c) :
    Calls Try.prog 214 #[.pointer (some ⟨s, 0, none⟩), v] w fun e w' => e = .returned (.bool true) ∧ EAt w' s b c C lv N m ∧ Mod (fun k => k = c) w w' := by
  have hN1 : 1 ≤ N := h.g.w1
  have hN2 : N ≤ 128 := h.g.w2
  obtain ⟨vg, vo, vcap, rfl, hvl, hvc⟩ := hv.slice (by rw [hl]; omega)
  have hgc : vg ≠ c := hne _ _ _ _ rfl
  have hLl := h.len
  rw [hl] at hvc ⊢
  have c6 := (cell_of h.ex 6).trans rfl
  have lts := h.lts
  have HH := Lib.hid h
  have HVC := Lib.hid hvc
  have HL := Lib.hid hl
  have HLL := Lib.hid hLl
  clear h hv hl hne hvc hLl
  go_enter Try.func214, Try.ntmps214
  go_wp2_with fail
  refine Calls.mono (Width_c b c 1 N l _ HH.out.g) ?_
  rintro e w1 ⟨rfl, hx1⟩
  subst hx1
  clear c6
  go_wp2_with fail
  go_loopw [17] (fun u23 wr => ∃ k : Nat, k ≤ N ∧ u23 = .int .i64 k ∧ EAt wr s b c C lv N (mixL (fun j => m.getD j 0) (fun j => l.getD j 0) k N) ∧ Mod (fun i => i = c) w wr) (fun u23 _ => N - (intOf u23).toNat)
  case atStart =>
    refine ⟨0, Nat.zero_le _, rfl, ?_, Mod.refl _ _⟩
    have e : mixL (fun j => m.getD j 0) (fun j => l.getD j 0) 0 N = l := by
      apply list_ext_getD
      · rw [mixL_len, HLL.out]
      · intro i hi
        rw [mixL_len] at hi
        rw [mixL_get _ _ hi, if_neg (by omega)]
    rw [e]; exact HH.out
  case round =>
    obtain ⟨k, hk, rfl, hSr, hM⟩ := hrel
    have hMs := hM.size
    by_cases hgo : k < N
    · have x0 := (mcell hM (b := vg) hvl hgc (vo + k)).trans (HVC.out k hgo)
      have c6 := (cell_of hSr.ex 6).trans rfl
      have lr := hSr.lts
      have hlr : vg < wr.heap.size := by omega
      have hxi : I64 (m.getD k 0) := getD_i64 hI k
      have hms := mixL_set (fun j => m.getD j 0) (fun j => l.getD j 0) (k := k) (n := N)
      have HMS := Lib.hid hms
      have HSR := Lib.hid hSr
      clear hms hSr
      generalize hx : m.getD k 0 = x at *
      have HX := Lib.hid hx
      clear hx
      go_wp2_with fail
      refine Calls.mono (Put_e b c N _ _ HSR.out.g k hgo x) ?_
      rintro e w2 ⟨rfl, rfl⟩
      go_wp2
      go_roundw
      case rel =>
        refine ⟨k + 1, by omega, by go_num, ?_, mod_put' hM _⟩
        rw [← HMS.out]
        exact HSR.out.setl (by rw [mixL_len]; exact hgo) hxi
      case measure => simp [intOf]; omega
    · obtain rfl : k = N := by omega
      have e : mixL (fun j => m.getD j 0) (fun j => l.getD j 0) k k = m := by
        apply list_ext_getD
        · rw [mixL_len, HL.out]
        · intro i hi
          rw [mixL_len] at hi
          rw [mixL_get _ _ hi, if_pos hi]
      rw [e] at hSr
      have HSR := Lib.hid hSr
      clear hSr e
      go_wp2
      go_ret
      exact ⟨rfl, HSR.out, hM⟩
set_option maxRecDepth 20000 in
set_option maxHeartbeats 4000000 in
theorem ELoad_no (s b c : Nat) (C : Cfg) (lv : Int) (N : Nat) (l : List Int) (p : Option Addr) (n cap : Nat) (w : World) (h : EAt w s b c C lv N l) (hl : n ≠ N) :
    Calls Try.prog 214 #[.pointer (some ⟨s, 0, none⟩), .slice p n cap] w fun e w' => e = .returned (.bool false) ∧ w = w' := by
  have c6 := (cell_of h.ex 6).trans rfl
  have lts := h.lts
  have HH := Lib.hid h
  have hb : ((n : Int) == (N : Int)) = false := by simp; omega
  have hb2 : (n = N) = False := eq_false hl
  clear h
  go_enter Try.func214, Try.ntmps214
  go_wp2_with fail
  refine Calls.mono (Width_c b c 1 N l _ HH.out.g) ?_
  rintro e w1 ⟨rfl, hx1⟩
  subst hx1
  go_wp2
  go_ret
  exact ⟨rfl, rfl⟩
set_option maxRecDepth 20000 in
set_option maxHeartbeats 2000000 in
theorem KLoad_yes (s g : Nat) (C : Cfg) (B : Nat) (L : Nat → Lev) (ls : Nat → List Int) (w : World) (h : KAt w s g C B L ls) (n : Nat) (hn : n ≤ B) (m : List Int) (v : Value) (hv : IntsAt w v m) (hI : allI m) (hl : m.length = lvN C n)
    (hne : ∀ g off k cap, v = .slice (some ⟨g, off, none⟩) k cap → g ≠ (L n).c) :
    Calls Try.prog 83 #[.pointer (some ⟨s, 0, none⟩), .int .i64 n, v] w fun e w' => e = .returned (.bool true) ∧ KAt w' s g C B L (fun k => if k = n then m else ls k) ∧ Mod (fun k => k = (L n).c) w w' := by
  cases hx : isX C n with
  | true =>
    have hA := (h.lev n hn).x hx
    have hl' : m.length = kN C n := by rw [hl]; unfold lvN; rw [hx]; rfl
    have HX := Lib.hid hx
    clear hx
    go_enter Try.func83, Try.ntmps83
    go_wp2_with fail
    refine (level_yes s g C B L ls w h n hn).mono ?_
    rintro e w1 ⟨rfl, rfl⟩
    rw [lvV_x HX.out]
    go_wp2_with fail
    refine Calls.mono (ELoad_yes _ _ _ C _ _ _ m v _ hA hv hI hl' hne) ?_
    rintro e w2 ⟨rfl, hA2, hM⟩
    go_wp2
    go_ret
    exact ⟨rfl, h.put hn hM (.inl ⟨HX.out, hA2⟩), hM⟩
  | false =>
    have hA := (h.lev n hn).sk hx
    have hl' : m.length = rN C * wN C := by rw [hl]; unfold lvN; rw [hx]; rfl
    have HX := Lib.hid hx
    clear hx
    go_enter Try.func83, Try.ntmps83
    go_wp2_with fail
    refine (level_yes s g C B L ls w h n hn).mono ?_
    rintro e w1 ⟨rfl, rfl⟩
    rw [lvV_s HX.out]
    go_wp2_with fail
    refine Calls.mono (Load_yes _ _ _ C _ _ _ _ m v _ hA hv hI hl' hne) ?_
    rintro e w2 ⟨rfl, hA2, hM⟩
    go_wp2
    go_ret
    exact ⟨rfl, h.put hn hM (.inr ⟨HX.out, hA2⟩), hM⟩
end Go.Proofs.Ytpnbgoahjoabkaa

/- gaugerlaw16.SpanFar, walked. -/
namespace Go.Proofs.Ytpnbgoahjoabkaa
set_option linter.unusedVariables false
open Go.RowKit
theorem and3i (x : Int) : bits BinOp.and IntKind.i64 x 3 = x % 4 := by
  show IntKind.i64.wrap ((BitVec.ofInt 64 x &&& BitVec.ofInt 64 3).toNat : Int) = _
  have e1 : (BitVec.ofInt 64 (3 : Int)).toNat = 2 ^ 2 - 1 := by decide
  rw [BitVec.toNat_and, e1, Nat.and_two_pow_sub_one_eq_mod, BitVec.toNat_ofInt, IntKind.wrap_i64]
  have : (x % ((2 ^ 64 : Nat) : Int)).toNat % 2 ^ 2 < 4 := Nat.mod_lt _ (by decide)
  omega
def K2 : Cfg := ⟨2, 1, 4, 1, 0⟩
theorem K2_ok : K2.Ok := by constructor <;> simp [K2, U64]
theorem K2_x (n : Nat) (h : n ≤ 2) : isX K2 n = true := by
  match n, h with
  | 0, _ => decide
  | 1, _ => decide
  | 2, _ => decide
/-- A sum, if it fits. -/
theorem add16_c (a b : Int) (ha : I64 a) (hb : I64 b) (w : World) :
    Calls Try.prog 84 #[.int .i64 a, .int .i64 b] w fun e w' => ∃ z, e = .returned (.tuple #[.int .i64 z, .bool (fitB (a + b))]) ∧ (I64 (a + b) → z = a + b) ∧ w = w' := by
  obtain ⟨a1, a2⟩ := ha
  obtain ⟨b1, b2⟩ := hb
  have hz : I64 (a + b) → wrap64 (a + b) = a + b := by
    intro h
    unfold I64 at h
    unfold wrap64
    omega
  have key : fitB (a + b) = true ∧ (a < 0 → b < 0 → wrap64 (a + b) < 0) ∧ (¬ a < 0 → ¬ b < 0 → ¬ wrap64 (a + b) < 0) ∨ fitB (a + b) = false ∧ ((a < 0 ∧ b < 0 ∧ ¬ wrap64 (a + b) < 0) ∨ (¬ a < 0 ∧ ¬ b < 0 ∧ wrap64 (a + b) < 0)) := by
    by_cases h : I64 (a + b)
    · refine .inl ⟨fitB_yes h, fun _ _ => ?_, fun _ _ => ?_⟩ <;> (rw [hz h]; omega)
    · refine .inr ⟨fitB_no h, ?_⟩
      unfold I64 at h
      unfold wrap64
      omega
  have HZ := Lib.hid hz
  generalize hS : wrap64 (a + b) = S at *
  generalize fitB (a + b) = F at *
  have HK := Lib.hid key
  clear hz key
  by_cases h1 : a < 0
  · by_cases h2 : b < 0
    · by_cases h3 : S < 0
      · obtain rfl : F = true := HK.out.elim (fun h => h.1) (fun h => by omega)
        go_enter Try.func84, Try.ntmps84
        go_wp2
        go_ret2
        exact ⟨_, rfl, HZ.out, rfl⟩
      · obtain rfl : F = false := HK.out.elim (fun h => absurd (h.2.1 h1 h2) h3) (fun h => h.1)
        go_enter Try.func84, Try.ntmps84
        go_wp2
        go_ret2
        exact ⟨_, rfl, HZ.out, rfl⟩
    · obtain rfl : F = true := HK.out.elim (fun h => h.1) (fun h => by omega)
      go_enter Try.func84, Try.ntmps84
      go_wp2
      go_ret2
      exact ⟨_, rfl, fun _ => rfl, rfl⟩
  · by_cases h2 : b < 0
    · obtain rfl : F = true := HK.out.elim (fun h => h.1) (fun h => by omega)
      go_enter Try.func84, Try.ntmps84
      go_wp2
      go_ret2
      exact ⟨_, rfl, fun _ => rfl, rfl⟩
    · by_cases h3 : S < 0
      · obtain rfl : F = false := HK.out.elim (fun h => absurd h3 (h.2.2 h1 h2)) (fun h => h.1)
        go_enter Try.func84, Try.ntmps84
        go_wp2
        go_ret2
        exact ⟨_, rfl, HZ.out, rfl⟩
      · obtain rfl : F = true := HK.out.elim (fun h => h.1) (fun h => by omega)
        go_enter Try.func84, Try.ntmps84
        go_wp2
        go_ret2
        exact ⟨_, rfl, HZ.out, rfl⟩
def ptF (ls : Nat → List Int) (n : Nat) (i : Int) : Int := (ls n).getD i.toNat 0
theorem uniq_F {ls : Nat → List Int} : Uniq K2 2 ls (ptF ls) := by
  intro n i x hn _ _ h
  rcases h with ⟨_, h⟩ | ⟨h, _⟩
  · exact h
  · rw [K2_x n hn] at h; cases h
set_option maxRecDepth 20000 in
set_option maxHeartbeats 8000000 in
theorem SFarL_c (a0 a1 a2 a3 : Int) (h0 : I64 a0) (h1 : I64 a1) (h2 : I64 a2) (h3 : I64 a3) (x : Int) (hx : I64 x) (y : Int) (hy : I64 y) (w : World) :
    Calls Try.prog 21 #[.agg #[.int .i64 a0, .int .i64 a1, .int .i64 a2, .int .i64 a3], .int .i64 x, .int .i64 y] w fun e w' => e = .returned (.bool true) ∧ Ext w w' := by
  have hx1 := and1i x
  have hy3 := and3i y
  go_enter Try.func21, Try.ntmps21
  go_wp2_with fail
  refine (shown16_c _).mono ?_
  rintro e w1 ⟨rfl, hb1⟩
  have hE1 : Ext w w1 := by (repeat' (first | exact Ext.refl _ | assumption | apply Ext.allocR | apply Ext.drewR | apply Ext.drewNR | (refine Ext.trans' ?_ (by assumption))))
  have hP1 := hb1.keep (heap_at w (.cells #[.int .i64 a0, .int .i64 a1, .int .i64 a2, .int .i64 a3] 125) rfl)
  clear hb1
  have p0 := (cell_of hP1 0).trans rfl
  have p1 := (cell_of hP1 1).trans rfl
  have p2 := (cell_of hP1 2).trans rfl
  have p3 := (cell_of hP1 3).trans rfl
  have pl := lt_of hP1
  go_wp2_with fail
  refine (KNew_c K2 K2_ok _).mono ?_
  rintro e w2 ⟨s, g, L, rfl, hK, hs, hg, hL, hx2⟩
  have hE2 : Ext w w2 := by (repeat' (first | exact Ext.refl _ | assumption | apply Ext.allocR | apply Ext.drewR | apply Ext.drewNR | (refine Ext.trans' ?_ (by assumption))))
  have hF : KFresh w1.heap.size 2 L := hL
  have hl1 := lt_of hP1
  have hP2 := hx2.keep hP1
  replace hK : KAt w2 s g K2 2 L (fun n => zs (lvN K2 n)) := hK
  have hnc : ∀ n, n ≤ 2 → w.heap.size ≠ (L n).c := fun n hn => by have := (hF n hn).2.2; omega
  clear p0 p1 p2 p3 pl hP1 hx2 hL hs hg
  have p0 := (cell_of hP2 0).trans rfl
  have p1 := (cell_of hP2 1).trans rfl
  have p2 := (cell_of hP2 2).trans rfl
  have p3 := (cell_of hP2 3).trans rfl
  have pl := lt_of hP2
  have hm4 : allI [a0, a1, a2, a3] := by
    intro z hz
    simp only [List.mem_cons, List.not_mem_nil, or_false] at hz
    rcases hz with rfl | rfl | rfl | rfl <;> assumption
  have hv4 : IntsAt w2 (.slice (some ⟨w.heap.size, 0, none⟩) 4 4) [a0, a1, a2, a3] := by
    refine .inr ⟨w.heap.size, 0, 4, rfl, pl, fun k hk => ?_⟩
    match k, hk with
    | 0, _ => exact p0
    | 1, _ => exact p1
    | 2, _ => exact p2
    | 3, _ => exact p3
  have HP2 := Lib.hid hP2
  have HM4 := Lib.hid hm4
  clear hP2 hm4
  go_wp2_with fail
  refine Calls.mono (KLoad_yes s g K2 2 L _ _ hK 0 (by decide) [a0, a1, a2, a3] _ hv4 HM4.out (show (4 : Nat) = lvN K2 (0 : Nat) by decide) (fun g' off k cap e => by obtain ⟨rfl, _⟩ := Value.slice.inj e |>.imp (fun h => congrArg Addr.block (Option.some.inj h)) id; exact hnc 0 (by decide))) ?_
  rintro e w3 ⟨rfl, hK3, hM3⟩
  have hE3 : Ext w w3 := Below.trans hE2 (hM3.below (B := w.heap.size) hE2.size (fun k hk => by have := (hF 0 (by decide)).2.2; have := hE1.size; omega))
  have hP3 := hM3.keep HP2.out (fun h => hnc 0 (by decide) h)
  clear p0 p1 p2 p3 pl hv4 hK hM3 HM4
  have p0 := (cell_of hP3 0).trans rfl
  have p1 := (cell_of hP3 1).trans rfl
  have p2 := (cell_of hP3 2).trans rfl
  have p3 := (cell_of hP3 3).trans rfl
  have pl := lt_of hP3
  have HP3 := Lib.hid hP3
  clear hP3 HP2
  go_wp2_with fail
  refine Calls.mono (KLoad_yes s g K2 2 L _ _ (hK3.ext (Ext.alloc' _ _)) 1 (by decide) [a0, a3] _ (ints2 w3 a0 a3 _) (fun z hz => by
    simp only [List.mem_cons, List.not_mem_nil, or_false] at hz
    rcases hz with rfl | rfl <;> assumption) (show (2 : Nat) = lvN K2 (1 : Nat) by decide) (fun g' off k cap e => by obtain ⟨rfl, _⟩ := Value.slice.inj e |>.imp (fun h => congrArg Addr.block (Option.some.inj h)) id; have h5 := (hK3.lev 1 (by decide)).ltc; exact fun e => by have e' : w3.heap.size = (L 1).c := e; omega)) ?_
  rintro e w4 ⟨rfl, hK4, hM4⟩
  have hE4 : Ext w w4 := Below.trans (hE3.allocR _) (hM4.below (B := w.heap.size) (by rw [size_alloc]; have := hE3.size; omega) (fun k hk => by have := (hF 1 (by decide)).2.2; have := hE1.size; omega))
  have hP4 := hM4.keep ((Ext.alloc' w3 _).keep HP3.out) (fun h => hnc 1 (by decide) h)
  obtain ⟨ls, hls⟩ : ∃ ls : Nat → List Int, (fun k : Nat => if k = 1 then [a0, a3] else (fun k : Nat => if k = 0 then [a0, a1, a2, a3] else (fun n : Nat => zs (lvN K2 n)) k) k) = ls := ⟨_, rfl⟩
  have hK4' : KAt w4 s g K2 2 L ls := by rw [← hls]; exact hK4
  have e1 : ls 1 = [a0, a3] := by rw [← hls]; rfl
  have e0 : ls 0 = [a0, a1, a2, a3] := by rw [← hls]; rfl
  have hI : ∀ n i, I64 (ptF ls n i) := by
    intro n i
    unfold ptF
    refine getD_i64 (fun z hz => ?_) _
    rcases Nat.lt_or_ge 2 n with h | h
    · rw [← hls] at hz
      simp only [show n ≠ 1 by omega, show n ≠ 0 by omega, if_false] at hz
      unfold zs at hz
      rw [List.eq_of_mem_replicate hz]
      exact ⟨by decide, by decide⟩
    · exact (hK4'.lev n h).fit z hz
  clear p0 p1 p2 p3 pl hK3 hK4 hM4 hls hE3 hE2 HP3
  have p0 := (cell_of hP4 0).trans rfl
  have p1 := (cell_of hP4 1).trans rfl
  have p2 := (cell_of hP4 2).trans rfl
  have p3 := (cell_of hP4 3).trans rfl
  have pl := lt_of hP4
  obtain ⟨j, hj⟩ : ∃ j : Nat, y % 4 = j := ⟨(y % 4).toNat, by omega⟩
  have hj4 : j < 4 := by omega
  have hpj : w4.cell? ⟨w.heap.size, j, none⟩ = some (.int .i64 ([a0, a1, a2, a3].getD j 0)) := by
    match j, hj4 with
    | 0, _ => exact p0
    | 1, _ => exact p1
    | 2, _ => exact p2
    | 3, _ => exact p3
  have hRj : ∀ W', Ext w4 W' → Calls Try.prog 73 #[.pointer (some ⟨s, 0, none⟩), .int .u64 j, .int .u64 j] W' (fun e w' => e = .returned (.tuple #[.int .i64 ([a0, a1, a2, a3].getD j 0), .int .i64 0]) ∧ Ext W' w') := fun W' h => by
    have := Range_c s g K2 2 L _ W' (hK4'.ext h) _ uniq_F hI j j (by unfold U64; omega) (by unfold U64; omega)
    refine this.mono fun e w' h => ?_
    have ec : lsum (cvV (ptF ls) 2 j j) = [a0, a1, a2, a3].getD j 0 := by
      unfold cvV
      rw [cov_self]
      show lsum [ptF ls 0 j] = _
      rw [lsum_one]
      unfold ptF
      rw [e0]
      rfl
    have hi : I64 (lsum (cvV (ptF ls) 2 j j)) := by
      have := hI 0 j
      unfold ptF at this
      rw [e0] at this
      rw [ec]; exact this
    have h := range_ok h (Int.le_refl _) (by show (j : Int) < 2 ^ 2; omega) hi
    rw [ec] at h
    exact h
  have HPJ := Lib.hid hpj
  have HRJ := Lib.hid hRj
  have HP4 := Lib.hid hP4
  clear hpj hRj hP4
  generalize [a0, a1, a2, a3].getD j 0 = aj at *
  have hy64 : (j : Int) ≤ 3 := by omega
  rcases (show x % 2 = 0 ∨ x % 2 = 1 by omega) with hp | hp
  · have hR : ∀ W', Ext w4 W' → Calls Try.prog 73 #[.pointer (some ⟨s, 0, none⟩), .int .u64 0, .int .u64 2] W' (RangePost W' 2 (ptF ls) 0 2) := fun W' h => Range_c s g K2 2 L _ W' (hK4'.ext h) _ uniq_F hI 0 2 ⟨by decide, by decide⟩ ⟨by decide, by decide⟩
    have ec : lsum (cvV (ptF ls) 2 0 2) = a0 + a2 := by
      show lsum [ptF ls 1 0, ptF ls 0 2] = _
      unfold ptF
      rw [e0, e1, lsum_cons, lsum_one]
      rfl
    have hRf : ∀ W', Ext w4 W' → I64 (a0 + a2) → Calls Try.prog 73 #[.pointer (some ⟨s, 0, none⟩), .int .u64 0, .int .u64 2] W' (fun e w' => e = .returned (.tuple #[.int .i64 (a0 + a2), .int .i64 0]) ∧ Ext W' w') := fun W' h hf => (hR W' h).mono fun e w' h => by
      have h := range_ok h (by decide) (by decide) (by rw [ec]; exact hf)
      rw [ec] at h
      exact h
    have hRn : ∀ W', Ext w4 W' → ¬ I64 (a0 + a2) → Calls Try.prog 73 #[.pointer (some ⟨s, 0, none⟩), .int .u64 0, .int .u64 2] W' (fun e w' => e = .returned (.tuple #[.int .i64 0, .int .i64 4]) ∧ Ext W' w') := fun W' h hf => (hR W' h).mono fun e w' h => by
      obtain ⟨h | h | h | h, hE⟩ := h
      · exact absurd h.1 (by decide)
      · exact absurd h.1.2 (by decide)
      · rw [ec] at h; exact absurd h.2.1 hf
      · exact ⟨h.2.2, hE⟩
    have HRF := Lib.hid hRf
    have HRN := Lib.hid hRn
    clear hR hRf hRn ec e0 e1 hI hK4'
    by_cases hf : I64 (a0 + a2)
    · have hfb := fitB_yes hf
      go_wp2_with fail
      refine (HRF.out _ (Ext.refl _) hf).mono ?_
      rintro e w5 ⟨rfl, hE5⟩
      have hP5 := hE5.keep HP4.out
      have q0 := (cell_of hP5 0).trans rfl
      have q1 := (cell_of hP5 1).trans rfl
      have q2 := (cell_of hP5 2).trans rfl
      have q3 := (cell_of hP5 3).trans rfl
      have ql := lt_of hP5
      clear p0 p1 p2 p3 pl
      go_upto_region 12 with (fail)
      obtain ⟨W5, hW5⟩ : ∃ W5, w5.alloc (.cells #[.int .i64 a0, .int .i64 a2] 2) = W5 := ⟨_, rfl⟩
      have hbk : W5.heap[w5.heap.size]? = some (.cells #[.int .i64 a0, .int .i64 a2] 2 (0, 0)) := by rw [← hW5]; exact heap_at _ _ (by simp)
      have hE6 : Ext w5 W5 := by rw [← hW5]; exact Ext.alloc' _ _
      have hP6 := hE6.keep hP5
      have r0 := (cell_of hbk 0).trans rfl
      have r1 := (cell_of hbk 1).trans rfl
      have rl := lt_of hbk
      rw [hW5]
      clear hW5 q0 q1 q2 q3 ql hP5
      have hC0 := af_drew W5
      refine pi_start (fun w' => ∃ x : After W5, w' = x.w) [] (by kernel_rfl) ?_
      refine pi_t 0 rfl (by kernel_rfl) (by kernel_rfl) (fun _ _ _ _ h => h) (fun K hK => ?_)
      go_big_quiet_op
      refine hK _ ?_
      clear hK K
      refine pi_t 1 rfl (by kernel_rfl) (by kernel_rfl) (fun _ _ _ _ h => h) (fun K hK => ?_)
      go_big_quiet_op
      refine hK _ ?_
      clear hK K
      refine pi_t 3 rfl (by kernel_rfl) (by kernel_rfl) (fun _ _ _ _ h => h) (fun K hK => ?_)
      go_big_quiet_op
      refine hK _ ?_
      clear hK K
      refine pi_t 4 rfl (by kernel_rfl) (by kernel_rfl) (fun _ _ _ _ h => h) (fun K hK => ?_)
      go_big_quiet_op
      refine hK _ ?_
      clear hK K
      refine pi_c 2 (by assumption) rfl (by kernel_rfl) (by kernel_rfl) (fun _ _ _ _ h => h) (fun K hK => ?_)
      go_big_quiet_op
      refine hK _ ?_
      clear hK K
      refine pi_c 5 (by assumption) rfl (by kernel_rfl) (by kernel_rfl) (fun _ _ _ _ h => h) (fun K hK => ?_)
      go_big_quiet_op
      refine hK _ ?_
      clear hK K
      refine pi_l 6 rfl (by kernel_rfl) (fun K hK => ?_)
      go_wp2_with fail
      refine (add16_c a0 a2 (by assumption) (by assumption) _).mono ?_
      rintro e w7 ⟨z, rfl, hz, rfl⟩
      rw [hfb]
      go_wp2
      refine hK _ _ (fun _ h => h) ?_
      clear hK K
      refine pi_t 7 rfl (by kernel_rfl) (by kernel_rfl) (fun _ _ _ _ h => h) (fun K hK => ?_)
      go_big_quiet_op
      refine hK _ ?_
      clear hK K
      refine pi_t 8 rfl (by kernel_rfl) (by kernel_rfl) (fun _ _ _ _ h => h) (fun K hK => ?_)
      go_big_quiet_op
      refine hK _ ?_
      clear hK K
      refine pi_t 9 rfl (by kernel_rfl) (by kernel_rfl) (fun _ _ _ _ h => h) (fun K hK => ?_)
      go_big_quiet_op
      refine hK _ ?_
      clear hK K
      refine pi_t 10 rfl (by kernel_rfl) (by kernel_rfl) (fun _ _ _ _ h => h) (fun K hK => ?_)
      go_big_quiet_op
      refine hK _ ?_
      clear hK K
      refine pi_t 11 rfl (by kernel_rfl) (by kernel_rfl) (fun _ _ _ _ h => h) (fun K hK => ?_)
      go_big_quiet_op
      refine hK _ ?_
      clear hK K
      refine pi_end (by kernel_rfl) ?_
      obtain rfl := hz hf
      go_wp2_with fail
      refine (HRJ.out _ ((hE5.trans' hE6).trans' (Ext.drewR (Ext.refl _)))).mono ?_
      rintro e w8 ⟨rfl, hx8⟩
      have hE8 : Ext W5 w8 := Ext.trans' (Ext.drewR (Ext.refl _)) hx8
      have hP8 := hE8.keep hP6
      have ql := lt_of hP8
      have qj := ((bcell (hE5.trans' (hE6.trans' hE8))).1 _ _ (lt_of HP4.out)).trans HPJ.out
      clear r0 r1 rl hbk hP6 hP8 hx8
      go_wp2
      go_ret
      exact ⟨rfl, hE4.trans' (hE5.trans' (hE6.trans' hE8))⟩
    · have hfb := fitB_no hf
      go_wp2_with fail
      refine (HRN.out _ (Ext.refl _) hf).mono ?_
      rintro e w5 ⟨rfl, hE5⟩
      have hP5 := hE5.keep HP4.out
      have q0 := (cell_of hP5 0).trans rfl
      have q1 := (cell_of hP5 1).trans rfl
      have q2 := (cell_of hP5 2).trans rfl
      have q3 := (cell_of hP5 3).trans rfl
      have ql := lt_of hP5
      clear p0 p1 p2 p3 pl
      go_upto_region 12 with (fail)
      obtain ⟨W5, hW5⟩ : ∃ W5, w5.alloc (.cells #[.int .i64 a0, .int .i64 a2] 2) = W5 := ⟨_, rfl⟩
      have hbk : W5.heap[w5.heap.size]? = some (.cells #[.int .i64 a0, .int .i64 a2] 2 (0, 0)) := by rw [← hW5]; exact heap_at _ _ (by simp)
      have hE6 : Ext w5 W5 := by rw [← hW5]; exact Ext.alloc' _ _
      have hP6 := hE6.keep hP5
      have r0 := (cell_of hbk 0).trans rfl
      have r1 := (cell_of hbk 1).trans rfl
      have rl := lt_of hbk
      rw [hW5]
      clear hW5 q0 q1 q2 q3 ql hP5
      have hC0 := af_drew W5
      refine pi_start (fun w' => ∃ x : After W5, w' = x.w) [] (by kernel_rfl) ?_
      refine pi_t 0 rfl (by kernel_rfl) (by kernel_rfl) (fun _ _ _ _ h => h) (fun K hK => ?_)
      go_big_quiet_op
      refine hK _ ?_
      clear hK K
      refine pi_t 1 rfl (by kernel_rfl) (by kernel_rfl) (fun _ _ _ _ h => h) (fun K hK => ?_)
      go_big_quiet_op
      refine hK _ ?_
      clear hK K
      refine pi_t 3 rfl (by kernel_rfl) (by kernel_rfl) (fun _ _ _ _ h => h) (fun K hK => ?_)
      go_big_quiet_op
      refine hK _ ?_
      clear hK K
      refine pi_t 4 rfl (by kernel_rfl) (by kernel_rfl) (fun _ _ _ _ h => h) (fun K hK => ?_)
      go_big_quiet_op
      refine hK _ ?_
      clear hK K
      refine pi_c 2 (by assumption) rfl (by kernel_rfl) (by kernel_rfl) (fun _ _ _ _ h => h) (fun K hK => ?_)
      go_big_quiet_op
      refine hK _ ?_
      clear hK K
      refine pi_c 5 (by assumption) rfl (by kernel_rfl) (by kernel_rfl) (fun _ _ _ _ h => h) (fun K hK => ?_)
      go_big_quiet_op
      refine hK _ ?_
      clear hK K
      refine pi_l 6 rfl (by kernel_rfl) (fun K hK => ?_)
      go_wp2_with fail
      refine (add16_c a0 a2 (by assumption) (by assumption) _).mono ?_
      rintro e w7 ⟨z, rfl, hz, rfl⟩
      rw [hfb]
      go_wp2
      refine hK _ _ (fun _ h => h) ?_
      clear hK K
      refine pi_t 7 rfl (by kernel_rfl) (by kernel_rfl) (fun _ _ _ _ h => h) (fun K hK => ?_)
      go_big_quiet_op
      refine hK _ ?_
      clear hK K
      refine pi_t 8 rfl (by kernel_rfl) (by kernel_rfl) (fun _ _ _ _ h => h) (fun K hK => ?_)
      go_big_quiet_op
      refine hK _ ?_
      clear hK K
      refine pi_t 9 rfl (by kernel_rfl) (by kernel_rfl) (fun _ _ _ _ h => h) (fun K hK => ?_)
      go_big_quiet_op
      refine hK _ ?_
      clear hK K
      refine pi_t 10 rfl (by kernel_rfl) (by kernel_rfl) (fun _ _ _ _ h => h) (fun K hK => ?_)
      go_big_quiet_op
      refine hK _ ?_
      clear hK K
      refine pi_t 11 rfl (by kernel_rfl) (by kernel_rfl) (fun _ _ _ _ h => h) (fun K hK => ?_)
      go_big_quiet_op
      refine hK _ ?_
      clear hK K
      refine pi_end (by kernel_rfl) ?_
      clear hz
      go_wp2_with fail
      refine (HRJ.out _ ((hE5.trans' hE6).trans' (Ext.drewR (Ext.refl _)))).mono ?_
      rintro e w8 ⟨rfl, hx8⟩
      have hE8 : Ext W5 w8 := Ext.trans' (Ext.drewR (Ext.refl _)) hx8
      have hP8 := hE8.keep hP6
      have ql := lt_of hP8
      have qj := ((bcell (hE5.trans' (hE6.trans' hE8))).1 _ _ (lt_of HP4.out)).trans HPJ.out
      clear r0 r1 rl hbk hP6 hP8 hx8
      go_wp2
      go_ret
      exact ⟨rfl, hE4.trans' (hE5.trans' (hE6.trans' hE8))⟩
  · have hR : ∀ W', Ext w4 W' → Calls Try.prog 73 #[.pointer (some ⟨s, 0, none⟩), .int .u64 1, .int .u64 3] W' (RangePost W' 2 (ptF ls) 1 3) := fun W' h => Range_c s g K2 2 L _ W' (hK4'.ext h) _ uniq_F hI 1 3 ⟨by decide, by decide⟩ ⟨by decide, by decide⟩
    have ec : lsum (cvV (ptF ls) 2 1 3) = a1 + a3 := by
      show lsum [ptF ls 0 1, ptF ls 1 1] = _
      unfold ptF
      rw [e0, e1, lsum_cons, lsum_one]
      rfl
    have hRf : ∀ W', Ext w4 W' → I64 (a1 + a3) → Calls Try.prog 73 #[.pointer (some ⟨s, 0, none⟩), .int .u64 1, .int .u64 3] W' (fun e w' => e = .returned (.tuple #[.int .i64 (a1 + a3), .int .i64 0]) ∧ Ext W' w') := fun W' h hf => (hR W' h).mono fun e w' h => by
      have h := range_ok h (by decide) (by decide) (by rw [ec]; exact hf)
      rw [ec] at h
      exact h
    have hRn : ∀ W', Ext w4 W' → ¬ I64 (a1 + a3) → Calls Try.prog 73 #[.pointer (some ⟨s, 0, none⟩), .int .u64 1, .int .u64 3] W' (fun e w' => e = .returned (.tuple #[.int .i64 0, .int .i64 4]) ∧ Ext W' w') := fun W' h hf => (hR W' h).mono fun e w' h => by
      obtain ⟨h | h | h | h, hE⟩ := h
      · exact absurd h.1 (by decide)
      · exact absurd h.1.2 (by decide)
      · rw [ec] at h; exact absurd h.2.1 hf
      · exact ⟨h.2.2, hE⟩
    have HRF := Lib.hid hRf
    have HRN := Lib.hid hRn
    clear hR hRf hRn ec e0 e1 hI hK4'
    by_cases hf : I64 (a1 + a3)
    · have hfb := fitB_yes hf
      go_wp2_with fail
      refine (HRF.out _ (Ext.refl _) hf).mono ?_
      rintro e w5 ⟨rfl, hE5⟩
      have hP5 := hE5.keep HP4.out
      have q0 := (cell_of hP5 0).trans rfl
      have q1 := (cell_of hP5 1).trans rfl
      have q2 := (cell_of hP5 2).trans rfl
      have q3 := (cell_of hP5 3).trans rfl
      have ql := lt_of hP5
      clear p0 p1 p2 p3 pl
      go_upto_region 12 with (fail)
      obtain ⟨W5, hW5⟩ : ∃ W5, (w5.alloc (.cells #[.int .i64 a0, .int .i64 a2] 2)).alloc (.cells #[.int .i64 a1, .int .i64 a3] 2) = W5 := ⟨_, rfl⟩
      have hbk : W5.heap[w5.heap.size + 1]? = some (.cells #[.int .i64 a1, .int .i64 a3] 2 (0, 0)) := by rw [← hW5]; exact heap_at _ _ (by simp)
      have hE6 : Ext w5 W5 := by rw [← hW5]; exact (Ext.alloc' _ _).allocR _
      have hP6 := hE6.keep hP5
      have r0 := (cell_of hbk 0).trans rfl
      have r1 := (cell_of hbk 1).trans rfl
      have rl := lt_of hbk
      rw [hW5]
      clear hW5 q0 q1 q2 q3 ql hP5
      have hC0 := af_drew W5
      refine pi_start (fun w' => ∃ x : After W5, w' = x.w) [] (by kernel_rfl) ?_
      refine pi_t 0 rfl (by kernel_rfl) (by kernel_rfl) (fun _ _ _ _ h => h) (fun K hK => ?_)
      go_big_quiet_op
      refine hK _ ?_
      clear hK K
      refine pi_t 1 rfl (by kernel_rfl) (by kernel_rfl) (fun _ _ _ _ h => h) (fun K hK => ?_)
      go_big_quiet_op
      refine hK _ ?_
      clear hK K
      refine pi_t 3 rfl (by kernel_rfl) (by kernel_rfl) (fun _ _ _ _ h => h) (fun K hK => ?_)
      go_big_quiet_op
      refine hK _ ?_
      clear hK K
      refine pi_t 4 rfl (by kernel_rfl) (by kernel_rfl) (fun _ _ _ _ h => h) (fun K hK => ?_)
      go_big_quiet_op
      refine hK _ ?_
      clear hK K
      refine pi_c 2 (by assumption) rfl (by kernel_rfl) (by kernel_rfl) (fun _ _ _ _ h => h) (fun K hK => ?_)
      go_big_quiet_op
      refine hK _ ?_
      clear hK K
      refine pi_c 5 (by assumption) rfl (by kernel_rfl) (by kernel_rfl) (fun _ _ _ _ h => h) (fun K hK => ?_)
      go_big_quiet_op
      refine hK _ ?_
      clear hK K
      refine pi_l 6 rfl (by kernel_rfl) (fun K hK => ?_)
      go_wp2_with fail
      refine (add16_c a1 a3 (by assumption) (by assumption) _).mono ?_
      rintro e w7 ⟨z, rfl, hz, rfl⟩
      rw [hfb]
      go_wp2
      refine hK _ _ (fun _ h => h) ?_
      clear hK K
      refine pi_t 7 rfl (by kernel_rfl) (by kernel_rfl) (fun _ _ _ _ h => h) (fun K hK => ?_)
      go_big_quiet_op
      refine hK _ ?_
      clear hK K
      refine pi_t 8 rfl (by kernel_rfl) (by kernel_rfl) (fun _ _ _ _ h => h) (fun K hK => ?_)
      go_big_quiet_op
      refine hK _ ?_
      clear hK K
      refine pi_t 9 rfl (by kernel_rfl) (by kernel_rfl) (fun _ _ _ _ h => h) (fun K hK => ?_)
      go_big_quiet_op
      refine hK _ ?_
      clear hK K
      refine pi_t 10 rfl (by kernel_rfl) (by kernel_rfl) (fun _ _ _ _ h => h) (fun K hK => ?_)
      go_big_quiet_op
      refine hK _ ?_
      clear hK K
      refine pi_t 11 rfl (by kernel_rfl) (by kernel_rfl) (fun _ _ _ _ h => h) (fun K hK => ?_)
      go_big_quiet_op
      refine hK _ ?_
      clear hK K
      refine pi_end (by kernel_rfl) ?_
      obtain rfl := hz hf
      go_wp2_with fail
      refine (HRJ.out _ ((hE5.trans' hE6).trans' (Ext.drewR (Ext.refl _)))).mono ?_
      rintro e w8 ⟨rfl, hx8⟩
      have hE8 : Ext W5 w8 := Ext.trans' (Ext.drewR (Ext.refl _)) hx8
      have hP8 := hE8.keep hP6
      have ql := lt_of hP8
      have qj := ((bcell (hE5.trans' (hE6.trans' hE8))).1 _ _ (lt_of HP4.out)).trans HPJ.out
      clear r0 r1 rl hbk hP6 hP8 hx8
      go_wp2
      go_ret
      exact ⟨rfl, hE4.trans' (hE5.trans' (hE6.trans' hE8))⟩
    · have hfb := fitB_no hf
      go_wp2_with fail
      refine (HRN.out _ (Ext.refl _) hf).mono ?_
      rintro e w5 ⟨rfl, hE5⟩
      have hP5 := hE5.keep HP4.out
      have q0 := (cell_of hP5 0).trans rfl
      have q1 := (cell_of hP5 1).trans rfl
      have q2 := (cell_of hP5 2).trans rfl
      have q3 := (cell_of hP5 3).trans rfl
      have ql := lt_of hP5
      clear p0 p1 p2 p3 pl
      go_upto_region 12 with (fail)
      obtain ⟨W5, hW5⟩ : ∃ W5, (w5.alloc (.cells #[.int .i64 a0, .int .i64 a2] 2)).alloc (.cells #[.int .i64 a1, .int .i64 a3] 2) = W5 := ⟨_, rfl⟩
      have hbk : W5.heap[w5.heap.size + 1]? = some (.cells #[.int .i64 a1, .int .i64 a3] 2 (0, 0)) := by rw [← hW5]; exact heap_at _ _ (by simp)
      have hE6 : Ext w5 W5 := by rw [← hW5]; exact (Ext.alloc' _ _).allocR _
      have hP6 := hE6.keep hP5
      have r0 := (cell_of hbk 0).trans rfl
      have r1 := (cell_of hbk 1).trans rfl
      have rl := lt_of hbk
      rw [hW5]
      clear hW5 q0 q1 q2 q3 ql hP5
      have hC0 := af_drew W5
      refine pi_start (fun w' => ∃ x : After W5, w' = x.w) [] (by kernel_rfl) ?_
      refine pi_t 0 rfl (by kernel_rfl) (by kernel_rfl) (fun _ _ _ _ h => h) (fun K hK => ?_)
      go_big_quiet_op
      refine hK _ ?_
      clear hK K
      refine pi_t 1 rfl (by kernel_rfl) (by kernel_rfl) (fun _ _ _ _ h => h) (fun K hK => ?_)
      go_big_quiet_op
      refine hK _ ?_
      clear hK K
      refine pi_t 3 rfl (by kernel_rfl) (by kernel_rfl) (fun _ _ _ _ h => h) (fun K hK => ?_)
      go_big_quiet_op
      refine hK _ ?_
      clear hK K
      refine pi_t 4 rfl (by kernel_rfl) (by kernel_rfl) (fun _ _ _ _ h => h) (fun K hK => ?_)
      go_big_quiet_op
      refine hK _ ?_
      clear hK K
      refine pi_c 2 (by assumption) rfl (by kernel_rfl) (by kernel_rfl) (fun _ _ _ _ h => h) (fun K hK => ?_)
      go_big_quiet_op
      refine hK _ ?_
      clear hK K
      refine pi_c 5 (by assumption) rfl (by kernel_rfl) (by kernel_rfl) (fun _ _ _ _ h => h) (fun K hK => ?_)
      go_big_quiet_op
      refine hK _ ?_
      clear hK K
      refine pi_l 6 rfl (by kernel_rfl) (fun K hK => ?_)
      go_wp2_with fail
      refine (add16_c a1 a3 (by assumption) (by assumption) _).mono ?_
      rintro e w7 ⟨z, rfl, hz, rfl⟩
      rw [hfb]
      go_wp2
      refine hK _ _ (fun _ h => h) ?_
      clear hK K
      refine pi_t 7 rfl (by kernel_rfl) (by kernel_rfl) (fun _ _ _ _ h => h) (fun K hK => ?_)
      go_big_quiet_op
      refine hK _ ?_
      clear hK K
      refine pi_t 8 rfl (by kernel_rfl) (by kernel_rfl) (fun _ _ _ _ h => h) (fun K hK => ?_)
      go_big_quiet_op
      refine hK _ ?_
      clear hK K
      refine pi_t 9 rfl (by kernel_rfl) (by kernel_rfl) (fun _ _ _ _ h => h) (fun K hK => ?_)
      go_big_quiet_op
      refine hK _ ?_
      clear hK K
      refine pi_t 10 rfl (by kernel_rfl) (by kernel_rfl) (fun _ _ _ _ h => h) (fun K hK => ?_)
      go_big_quiet_op
      refine hK _ ?_
      clear hK K
      refine pi_t 11 rfl (by kernel_rfl) (by kernel_rfl) (fun _ _ _ _ h => h) (fun K hK => ?_)
      go_big_quiet_op
      refine hK _ ?_
      clear hK K
      refine pi_end (by kernel_rfl) ?_
      clear hz
      go_wp2_with fail
      refine (HRJ.out _ ((hE5.trans' hE6).trans' (Ext.drewR (Ext.refl _)))).mono ?_
      rintro e w8 ⟨rfl, hx8⟩
      have hE8 : Ext W5 w8 := Ext.trans' (Ext.drewR (Ext.refl _)) hx8
      have hP8 := hE8.keep hP6
      have ql := lt_of hP8
      have qj := ((bcell (hE5.trans' (hE6.trans' hE8))).1 _ _ (lt_of HP4.out)).trans HPJ.out
      clear r0 r1 rl hbk hP6 hP8 hx8
      go_wp2
      go_ret
      exact ⟨rfl, hE4.trans' (hE5.trans' (hE6.trans' hE8))⟩
end Go.Proofs.Ytpnbgoahjoabkaa

/- What arrays a config, a pair of numbers, and two rows of updates read as. No condition. -/
namespace Go.Proofs.Ytpnbgoahjoabkaa
set_option linter.unusedVariables false
open Go.ChangeShapes Go.WideShapes Go.ChangeAt Go.RowKit Go.Deep
section
variable {H : Type} {enc : TypeId × Value → H} {w : World} {held : Bool}
set_option maxRecDepth 100000 in
theorem pairarg_of {r : Reach} {b0 : Nat} {v : Value} {d : DataW H} {p : List MemPlace} (hv : Value.okWide Try.prog w r b0 130 v) (h : DataW.Trod enc Try.prog w 0 (fun _ => true) held 130 v d p) :
    ∃ (a b : Int), I64 a ∧ I64 b ∧ v = .agg #[.int .i64 a, .int .i64 b] := by
  have hv' : ∃ cs, v = .agg cs ∧ cs.size = 2 := by
    simp only [Value.okWide, Try.underlying130] at hv
    obtain ⟨cs, h1, h2, _⟩ := hv
    exact ⟨cs, h1, h2.trans (by kernel_rfl)⟩
  obtain ⟨cs, rfl, hsz⟩ := hv'
  obtain ⟨fuel, hf⟩ := h
  obtain ⟨l⟩ := cs
  obtain ⟨xs, m, _, _, _, hl, hel⟩ := DataW.trod_array Try.underlying130 hf
  match l, hsz with
  | [c0, c1], _ =>
    match xs, hl with
    | [x0, x1], _ =>
      have hC : Try.prog.cellsOf 3 = 1 := by kernel_rfl
      have e0 : DataW.trod enc Try.prog w 0 (fun _ => true) held m 3 [c0] = some x0 := by have := hel 0 (by decide); rw [hC] at this; exact this
      have e1 : DataW.trod enc Try.prog w 0 (fun _ => true) held m 3 [c1] = some x1 := by have := hel 1 (by decide); rw [hC] at this; exact this
      obtain ⟨a0, h0, _, w0⟩ := DataW.trod_int Try.underlying3 e0
      obtain ⟨a1, h1, _, w1⟩ := DataW.trod_int Try.underlying3 e1
      simp only [List.cons.injEq, and_true] at h0 h1
      subst h0 h1
      exact ⟨a0, a1, wf_i64 w0, wf_i64 w1, rfl⟩
set_option maxRecDepth 100000 in
theorem fourarg_of {r : Reach} {b0 : Nat} {v : Value} {d : DataW H} {p : List MemPlace} (hv : Value.okWide Try.prog w r b0 125 v) (h : DataW.Trod enc Try.prog w 0 (fun _ => true) held 125 v d p) :
    ∃ (a b c d : Int), I64 a ∧ I64 b ∧ I64 c ∧ I64 d ∧ v = .agg #[.int .i64 a, .int .i64 b, .int .i64 c, .int .i64 d] := by
  have hv' : ∃ cs, v = .agg cs ∧ cs.size = 4 := by
    simp only [Value.okWide, Try.underlying125] at hv
    obtain ⟨cs, h1, h2, _⟩ := hv
    exact ⟨cs, h1, h2.trans (by kernel_rfl)⟩
  obtain ⟨cs, rfl, hsz⟩ := hv'
  obtain ⟨fuel, hf⟩ := h
  obtain ⟨l⟩ := cs
  obtain ⟨xs, m, _, _, _, hl, hel⟩ := DataW.trod_array Try.underlying125 hf
  match l, hsz with
  | [c0, c1, c2, c3], _ =>
    match xs, hl with
    | [x0, x1, x2, x3], _ =>
      have hC : Try.prog.cellsOf 2 = 1 := by kernel_rfl
      have e0 : DataW.trod enc Try.prog w 0 (fun _ => true) held m 2 [c0] = some x0 := by have := hel 0 (by decide); rw [hC] at this; exact this
      have e1 : DataW.trod enc Try.prog w 0 (fun _ => true) held m 2 [c1] = some x1 := by have := hel 1 (by decide); rw [hC] at this; exact this
      have e2 : DataW.trod enc Try.prog w 0 (fun _ => true) held m 2 [c2] = some x2 := by have := hel 2 (by decide); rw [hC] at this; exact this
      have e3 : DataW.trod enc Try.prog w 0 (fun _ => true) held m 2 [c3] = some x3 := by have := hel 3 (by decide); rw [hC] at this; exact this
      obtain ⟨a0, h0, _, w0⟩ := DataW.trod_int Try.underlying2 e0
      obtain ⟨a1, h1, _, w1⟩ := DataW.trod_int Try.underlying2 e1
      obtain ⟨a2, h2, _, w2⟩ := DataW.trod_int Try.underlying2 e2
      obtain ⟨a3, h3, _, w3⟩ := DataW.trod_int Try.underlying2 e3
      simp only [List.cons.injEq, and_true] at h0 h1 h2 h3
      subst h0 h1 h2 h3
      exact ⟨a0, a1, a2, a3, wf_i64 w0, wf_i64 w1, wf_i64 w2, wf_i64 w3, rfl⟩
end
end Go.Proofs.Ytpnbgoahjoabkaa

/- SpanFar: a span whose parts have too much has no answer, and one whose parts make up for each other has. No condition: every input. -/
namespace Go.Proofs.Ytpnbgoahjoabkaa
set_option linter.unusedVariables false
open Go.ChangeShapes Go.WideShapes Go.ChangeAt Go.RowKit

set_option maxRecDepth 100000 in
theorem spanFar_lifted (os : Os) (started : os.Started) (H : Type) (enc : TypeId × Value → H) :
    ReturnsInHanded {} Try.checked os 21 .any (Rows.spanFarSpec.pre6 enc Try.prog Try.f21 Rows.spanFarRow.domain false) (Rows.spanFarSpec.post enc Try.prog Try.f21 false true false false) := by
  refine returnsInHanded_of_change_sized (C := Try.checked) own started (by kernel_rfl) Try.func21
    (ChangeSpec.witness6 (enc := enc) (C := Try.checked) false ⟨#[], #[.agg #[.int .i64 0, .int .i64 0, .int .i64 0, .int .i64 0], .int .i64 0, .int .i64 0], []⟩ 8 (by kernel_rfl) (by kernel_rfl) (by kernel_rfl) (by kernel_rfl)) ?_
  intro W base args ds gs before hval0 hW hcnd hsz0 _
  have hval : ∀ (j : Nat) t v, Try.f21.params[j]? = some t → args[j]? = some v → Value.okWide Try.prog W .any base t v := hval0
  have hW' := hW
  obtain ⟨p, q, hA0, hV, rfl, hfz, hnd⟩ := hW
  have hA : DataW.TrodAll enc Try.prog W 0 (fun _ => true) true Try.f21.params.toList args.toList ds p := hA0
  have hsz : (DataW.weightsEach Try.prog (Try.f21.params.toList ++ Rows.spanFarSpec.plain.varTypes Try.prog) (ds ++ gs)).all (· ≤ reachBytes) = true := hsz0
  rw [Try.params21] at hA hval hsz
  obtain ⟨v0, vs0, d0, ds0, p0, q0, hargs, rfl, rfl, h0, r0⟩ := trodAll_cons hA
  obtain ⟨v1, vs1, d1, ds1, p1, q1, rfl, rfl, rfl, h1, r1⟩ := trodAll_cons r0
  obtain ⟨v2, vs2, d2, ds2, p2, q2, rfl, rfl, rfl, h2, r2⟩ := trodAll_cons r1
  obtain ⟨rfl, rfl, rfl⟩ := trodAll_nil r2
  obtain rfl : args = #[v0, v1, v2] := by cases args; simp_all
  obtain ⟨rfl, rfl⟩ := trodVars_none hV
  have k0 := h0
  have k1 := h1
  have k2 := h2
  have lt0 : ∀ x ∈ p0, x.block < W.heap.size := by obtain ⟨m, hm⟩ := k0; exact DataW.trod_lt m _ _ _ hm
  have lt1 : ∀ x ∈ p1, x.block < W.heap.size := by obtain ⟨m, hm⟩ := k1; exact DataW.trod_lt m _ _ _ hm
  have lt2 : ∀ x ∈ p2, x.block < W.heap.size := by obtain ⟨m, hm⟩ := k2; exact DataW.trod_lt m _ _ _ hm
  obtain ⟨n0, m0, k0a, k0b, hn0, hm0, hka0, hkb0, rfl⟩ := fourarg_of (hval 0 _ v0 rfl rfl) h0
  obtain ⟨n1, rfl, _, _, wf1⟩ := open_int Try.underlying3 (hval 1 _ v1 rfl rfl) h1
  have hn1 := wf_i64 wf1
  obtain ⟨n2, rfl, _, _, wf2⟩ := open_int Try.underlying3 (hval 2 _ v2 rfl rfl) h2
  have hn2 := wf_i64 wf2
  clear hA0 hval0
  refine (SFarL_c n0 m0 k0a k0b hn0 hm0 hka0 hkb0 n1 hn1 n2 hn2 W).mono fun e W' ⟨he, bel⟩ => ?_
  subst he
  exact ⟨_, rfl, _, _, _, [], _, [], hW', trodAll_mk1 (shut_bool Try.underlying4 _), (trodAll_cons_mk (Below.trod laidOut (by kernel_rfl) (of_decide_eq_true (by kernel_rfl)) k0 bel lt0) (trodAll_cons_mk (Below.trod laidOut (by kernel_rfl) (of_decide_eq_true (by kernel_rfl)) k1 bel lt1) (trodAll_cons_mk (Below.trod laidOut (by kernel_rfl) (of_decide_eq_true (by kernel_rfl)) k2 bel lt2) trodAll_mk0))), rfl, bel.frame _, fun h => by cases h⟩
end Go.Proofs.Ytpnbgoahjoabkaa
