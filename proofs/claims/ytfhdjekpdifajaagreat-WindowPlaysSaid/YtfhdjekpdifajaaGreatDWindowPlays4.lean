/- Part. No condition. -/
import Derived.Test.YtfhdjekpdifajaaGreatDWindowPlays3
import Derived.Test.YtfhdjekpdifajaaGreatDWindowPlays1
import Derived.Test.YtfhdjekpdifajaaGreatDWindowPlays2
import Derived.RangeFuncNested
import Derived.RangeFuncBound
import Derived.RangeFuncCalls
import Derived.RangeFuncLeaves
import Derived.Shelf.Abstract
import Derived.Shelf.RegionOpen
import Derived.WalkKit
import Derived.OwnWalkIn
import Derived.TacticsInMore
import Derived.LoopNIn
import Derived.LoopIn
import Derived.RangeFuncFrom
namespace Go.Proofs.YtfhdjekpdifajaaGreat
set_option linter.unusedVariables false
open Go.RowKit
/-- A stack at s: its levels lie at L, and have the cells ls. -/
structure KAt (w : World) (s g : Nat) (C : Cfg) (B : Nat) (L : Nat → Lev) (ls : Nat → List Int) : Prop where
  ex : ∃ cap, w.heap[s]? = some (.cells #[.int .i64 C.bits, .int .i64 C.rows, .int .i64 C.width, .int .i64 C.mode, .int .u64 C.seed, .slice (some ⟨g, 0, none⟩) (B + 1) cap] 149 (0, 0)) ∧ B + 1 ≤ cap
  row : ∃ cur, w.heap[g]? = some (.cells cur 62 (0, 0)) ∧ ∀ n, n ≤ B → cur[n]? = some (lvV C n (L n))
  lev : ∀ n, n ≤ B → LvAt w (L n) C n (ls n)
  sep : ∀ m n, m ≤ B → n ≤ B → m ≠ n → (L m).c ≠ (L n).c
  ok : C.Ok
  hB : C.bits = B
/-- The blocks of its cells. -/
def cellsOf (B : Nat) (L : Nat → Lev) (k : Nat) : Prop := ∃ n, n ≤ B ∧ k = (L n).c
theorem KAt.lts {w : World} {s g : Nat} {C : Cfg} {B : Nat} {L : Nat → Lev} {ls : Nat → List Int} (h : KAt w s g C B L ls) : s < w.heap.size := by
  obtain ⟨cap, h1, _⟩ := h.ex; exact lt_of h1
theorem KAt.ltg {w : World} {s g : Nat} {C : Cfg} {B : Nat} {L : Nat → Lev} {ls : Nat → List Int} (h : KAt w s g C B L ls) : g < w.heap.size := by
  obtain ⟨cur, h1, _⟩ := h.row; exact lt_of h1
theorem KAt.cell {w : World} {s g : Nat} {C : Cfg} {B : Nat} {L : Nat → Lev} {ls : Nat → List Int} (h : KAt w s g C B L ls) {n : Nat} (hn : n ≤ B) : w.cell? ⟨g, n, none⟩ = some (lvV C n (L n)) := by
  obtain ⟨cur, h1, h2⟩ := h.row; rw [cell_of h1]; exact h2 n hn
theorem KAt.isc {w : World} {s g : Nat} {C : Cfg} {B : Nat} {L : Nat → Lev} {ls : Nat → List Int} (h : KAt w s g C B L ls) {k : Nat} (hk : cellsOf B L k) : ∃ cur, w.heap[k]? = some (.cells cur 2 (0, 0)) := by
  obtain ⟨n, hn, rfl⟩ := hk; exact (h.lev n hn).isc
theorem KAt.ltc {w : World} {s g : Nat} {C : Cfg} {B : Nat} {L : Nat → Lev} {ls : Nat → List Int} (h : KAt w s g C B L ls) {k : Nat} (hk : cellsOf B L k) : k < w.heap.size := by
  obtain ⟨n, hn, rfl⟩ := hk; exact (h.lev n hn).ltc
theorem KAt.nots {w : World} {s g : Nat} {C : Cfg} {B : Nat} {L : Nat → Lev} {ls : Nat → List Int} (h : KAt w s g C B L ls) : ¬ cellsOf B L s := by
  intro hk
  obtain ⟨cur, h1⟩ := h.isc hk
  obtain ⟨cap, h2, _⟩ := h.ex
  exact blk_ne h1 h2 (by decide) rfl
theorem KAt.notg {w : World} {s g : Nat} {C : Cfg} {B : Nat} {L : Nat → Lev} {ls : Nat → List Int} (h : KAt w s g C B L ls) : ¬ cellsOf B L g := by
  intro hk
  obtain ⟨cur, h1⟩ := h.isc hk
  obtain ⟨cur', h2, _⟩ := h.row
  exact blk_ne h1 h2 (by decide) rfl
theorem KAt.ext {w w' : World} {s g : Nat} {C : Cfg} {B : Nat} {L : Nat → Lev} {ls : Nat → List Int} (h : KAt w s g C B L ls) (he : Ext w w') : KAt w' s g C B L ls :=
  ⟨by rw [he.block s h.lts]; exact h.ex, by rw [he.block g h.ltg]; exact h.row, fun n hn => (h.lev n hn).ext he, h.sep, h.ok, h.hB⟩
/-- What other cells are changed to does not touch a stack. -/
theorem KAt.mod {S : Nat → Prop} {w w' : World} {s g : Nat} {C : Cfg} {B : Nat} {L : Nat → Lev} {ls : Nat → List Int} (h : KAt w s g C B L ls) (he : Mod S w w') (hS : ∀ k, S k → k < w.heap.size → ∃ cur, w.heap[k]? = some (.cells cur 2 (0, 0))) (hc : ∀ n, n ≤ B → ¬ S (L n).c) : KAt w' s g C B L ls := by
  refine ⟨?_, ?_, fun n hn => (h.lev n hn).mod he hS (hc n hn), h.sep, h.ok, h.hB⟩
  · rw [he.block s h.lts fun hs => ?_]
    · exact h.ex
    · obtain ⟨cur, h1⟩ := hS _ hs h.lts
      obtain ⟨cap, h2, _⟩ := h.ex
      exact blk_ne h1 h2 (by decide) rfl
  · rw [he.block g h.ltg fun hs => ?_]
    · exact h.row
    · obtain ⟨cur, h1⟩ := hS _ hs h.ltg
      obtain ⟨cur', h2, _⟩ := h.row
      exact blk_ne h1 h2 (by decide) rfl
theorem SKConfig_c (s g : Nat) (C : Cfg) (B : Nat) (L : Nat → Lev) (ls : Nat → List Int) (w : World) (h : KAt w s g C B L ls) :
    Calls Tryz.prog 31 #[.pointer (some ⟨s, 0, none⟩)] w fun e w' => e = .returned (.agg #[.int .i64 C.bits, .int .i64 C.rows, .int .i64 C.width, .int .i64 C.mode, .int .u64 C.seed]) ∧ Ext w w' := by
  have hlt := h.lts
  obtain ⟨cap, hex, _⟩ := h.ex
  have c0 := (cell_of hex 0).trans rfl
  have c1 := (cell_of hex 1).trans rfl
  have c2 := (cell_of hex 2).trans rfl
  have c3 := (cell_of hex 3).trans rfl
  have c4 := (cell_of hex 4).trans rfl
  clear h hex
  go_enter Tryz.func31, Tryz.ntmps31
  go_wp2
  exact bodyPost_ret (v := .agg #[.int .i64 C.bits, .int .i64 C.rows, .int .i64 C.width, .int .i64 C.mode, .int .u64 C.seed]) (by simp [results, Tryz.results31, go_sem]) rfl ⟨rfl, by (repeat' (first | exact Ext.refl _ | assumption | apply Ext.allocR | apply Ext.drewR | apply Ext.drewNR | (refine Ext.trans' ?_ (by assumption))))⟩
set_option maxRecDepth 20000 in
theorem level_yes (s g : Nat) (C : Cfg) (B : Nat) (L : Nat → Lev) (ls : Nat → List Int) (w : World) (h : KAt w s g C B L ls) (n : Nat) (hn : n ≤ B) :
    Calls Tryz.prog 86 #[.pointer (some ⟨s, 0, none⟩), .int .i64 n] w fun e w' => e = .returned (.tuple #[lvV C n (L n), .bool true]) ∧ w = w' := by
  have hlt := h.lts
  have hlg := h.ltg
  obtain ⟨cap, hex, hcap⟩ := h.ex
  have c5 := (cell_of hex 5).trans rfl
  have cn := h.cell hn
  have hbt := h.ok.b2
  have hB := h.hB
  generalize lvV C n (L n) = v at *
  clear h hex
  go_enter Tryz.func86, Tryz.ntmps86
  go_wp2
  go_ret2
  exact ⟨rfl, rfl⟩
set_option maxRecDepth 20000 in
theorem KCells_c (s g : Nat) (C : Cfg) (B : Nat) (L : Nat → Lev) (ls : Nat → List Int) (w : World) (h : KAt w s g C B L ls) (n : Nat) (hn : n ≤ B) :
    Calls Tryz.prog 23 #[.pointer (some ⟨s, 0, none⟩), .int .i64 n] w fun e w' => ∃ v, e = .returned v ∧ w'.ownsRow w.heap.size 2 1 v (ls n).length (ints (ls n)) ∧ (v = .slice none 0 0 → False) ∧ Ext w w' := by
  cases hx : isX C n with
  | true =>
    have hA := (h.lev n hn).x hx
    have HX := Lib.hid hx
    clear hx
    go_enter Tryz.func23, Tryz.ntmps23
    go_wp2_with fail
    refine (level_yes s g C B L ls w h n hn).mono ?_
    rintro e w1 ⟨rfl, rfl⟩
    rw [lvV_x HX.out]
    go_wp2_with fail
    refine (ECells_c _ _ _ C _ _ _ _ hA).mono ?_
    rintro e w1 ⟨v, rfl, h1, h2, h3⟩
    go_wp2
    go_ret
    exact ⟨v, rfl, h1, h2, h3⟩
  | false =>
    have hA := (h.lev n hn).sk hx
    have HX := Lib.hid hx
    clear hx
    go_enter Tryz.func23, Tryz.ntmps23
    go_wp2_with fail
    refine (level_yes s g C B L ls w h n hn).mono ?_
    rintro e w1 ⟨rfl, rfl⟩
    rw [lvV_s HX.out]
    go_wp2_with fail
    refine (SCells_c _ _ _ C _ _ _ _ _ hA).mono ?_
    rintro e w1 ⟨v, rfl, h1, h2, h3⟩
    go_wp2
    go_ret
    exact ⟨v, rfl, h1, h2, h3⟩
theorem keys_top {C : Cfg} {B : Nat} (hB : C.bits = B) : keys C B = 1 := by unfold keys; rw [hB]; simp
theorem isX_top {C : Cfg} (h : C.Ok) {B : Nat} (hB : C.bits = B) : isX C B = true := by
  unfold isX; rw [keys_top hB]; have := h.w1; simpa using this
set_option maxRecDepth 20000 in
theorem KTotal_c (s g : Nat) (C : Cfg) (B : Nat) (L : Nat → Lev) (ls : Nat → List Int) (w : World) (h : KAt w s g C B L ls) :
    Calls Tryz.prog 28 #[.pointer (some ⟨s, 0, none⟩)] w fun e w' => e = .returned (.int .i64 ((ls B).getD 0 0)) ∧ Ext w w' := by
  have hlt := h.lts
  have hlg := h.ltg
  obtain ⟨cap, hex, hcap⟩ := h.ex
  have c0 := (cell_of hex 0).trans (show _ = some (Value.int .i64 (B : Int)) by rw [← h.hB]; rfl)
  have c5 := (cell_of hex 5).trans rfl
  have cn := (h.cell (Nat.le_refl B)).trans (by rw [lvV_x (isX_top h.ok h.hB)])
  have hb2 : B ≤ 59 := by have := h.ok.b2; have := h.hB; omega
  have hA := ((h.lev B (Nat.le_refl B)).x (isX_top h.ok h.hB)).ext (Below.drew (Ext.refl w))
  have hk := keys_top h.hB
  clear h hex
  go_enter Tryz.func28, Tryz.ntmps28
  go_wp2
  have hC0 := af_drew w
  refine pi_start (fun w' => ∃ x : After w, w' = x.w) [] (by kernel_rfl) ?_
  refine pi_t 0 rfl (by kernel_rfl) (by kernel_rfl) (fun _ _ _ _ h => h) (fun K hK => ?_)
  go_big_quiet_op
  refine hK _ ?_
  clear hK K
  refine pi_t 1 rfl (by kernel_rfl) (by kernel_rfl) (fun _ _ _ _ h => h) (fun K hK => ?_)
  go_big_quiet_op
  refine hK _ ?_
  clear hK K
  refine pi_t 2 rfl (by kernel_rfl) (by kernel_rfl) (fun _ _ _ _ h => h) (fun K hK => ?_)
  go_big_quiet_op
  refine hK _ ?_
  clear hK K
  refine pi_t 4 rfl (by kernel_rfl) (by kernel_rfl) (fun _ _ _ _ h => h) (fun K hK => ?_)
  go_big_quiet_op
  refine hK _ ?_
  clear hK K
  refine pi_t 5 rfl (by kernel_rfl) (by kernel_rfl) (fun _ _ _ _ h => h) (fun K hK => ?_)
  go_big_quiet_op
  refine hK _ ?_
  clear hK K
  refine pi_t 6 rfl (by kernel_rfl) (by kernel_rfl) (fun _ _ _ _ h => h) (fun K hK => ?_)
  go_big_quiet_op
  refine hK _ ?_
  clear hK K
  refine pi_t 7 rfl (by kernel_rfl) (by kernel_rfl) (fun _ _ _ _ h => h) (fun K hK => ?_)
  go_big_quiet_op
  refine hK _ ?_
  clear hK K
  refine pi_c 3 (by assumption) rfl (by kernel_rfl) (by kernel_rfl) (fun _ _ _ _ h => h) (fun K hK => ?_)
  go_big_quiet_op
  refine hK _ ?_
  clear hK K
  refine pi_c 8 (by assumption) rfl (by kernel_rfl) (by kernel_rfl) (fun _ _ _ _ h => h) (fun K hK => ?_)
  go_big_quiet_op
  refine hK _ ?_
  clear hK K
  refine pi_t 9 rfl (by kernel_rfl) (by kernel_rfl) (fun _ _ _ _ h => h) (fun K hK => ?_)
  go_big_quiet_op
  refine hK _ ?_
  clear hK K
  refine pi_c 10 (by assumption) rfl (by kernel_rfl) (by kernel_rfl) (fun _ _ _ _ h => h) (fun K hK => ?_)
  go_big_quiet_op
  refine hK _ ?_
  clear hK K
  refine pi_l 11 rfl (by kernel_rfl) (fun K hK => ?_)
  go_wp2_with fail
  refine (EPoint_c _ _ _ C _ _ _ 0 _ hA (by decide) (by rw [hk]; decide)).mono ?_
  rintro e w1 ⟨rfl, rfl⟩
  go_wp2
  refine hK _ _ (fun _ h => h) ?_
  clear hK K
  refine pi_t 12 rfl (by kernel_rfl) (by kernel_rfl) (fun _ _ _ _ h => h) (fun K hK => ?_)
  go_big_quiet_op
  refine hK _ ?_
  clear hK K
  refine pi_t 13 rfl (by kernel_rfl) (by kernel_rfl) (fun _ _ _ _ h => h) (fun K hK => ?_)
  go_big_quiet_op
  refine hK _ ?_
  clear hK K
  refine pi_t 14 rfl (by kernel_rfl) (by kernel_rfl) (fun _ _ _ _ h => h) (fun K hK => ?_)
  go_big_quiet_op
  refine hK _ ?_
  clear hK K
  refine pi_t 15 rfl (by kernel_rfl) (by kernel_rfl) (fun _ _ _ _ h => h) (fun K hK => ?_)
  go_big_quiet_op
  refine hK _ ?_
  clear hK K
  refine pi_t 16 rfl (by kernel_rfl) (by kernel_rfl) (fun _ _ _ _ h => h) (fun K hK => ?_)
  go_big_quiet_op
  refine hK _ ?_
  clear hK K
  refine pi_end (by kernel_rfl) ?_
  go_wp2
  go_ret
  exact ⟨rfl, Below.drew (Ext.refl w)⟩
end Go.Proofs.YtfhdjekpdifajaaGreat
namespace Go.Proofs.YtfhdjekpdifajaaGreat
set_option linter.unusedVariables false
theorem updL_len' (C : Cfg) (lv : Int) (R W : Nat) (l : List Int) (key d : Int) : (updL C lv R W l key d).length = l.length := by
  unfold updL
  cases decide (C.mode = 2) <;> exact putK_len _ _ _ _ _
theorem zs_get0 (n i : Nat) : (zs n).getD i 0 = 0 := by
  unfold zs
  rw [List.getD_eq_getElem?_getD]
  rcases Nat.lt_or_ge i n with h | h
  · simp [h]
  · simp [h]
end Go.Proofs.YtfhdjekpdifajaaGreat
namespace Go.Proofs.YtfhdjekpdifajaaGreat
set_option linter.unusedVariables false
open Go.RowKit
/-- What a key is at a level. -/
def sh (n : Nat) (key : Int) : Int := key / 2 ^ n
def lvE (C : Cfg) (lv : Int) (l : List Int) (key d : Int) : Int := bif isX C lv then errX C lv l key d else errU C lv (rN C) (wN C) l key d
def lvU (C : Cfg) (lv : Int) (l : List Int) (key d : Int) : List Int := bif isX C lv then updX l key d else updL C lv (rN C) (wN C) l key d
theorem lvE_x {C : Cfg} {lv : Int} (h : isX C lv = true) (l : List Int) (key d : Int) : lvE C lv l key d = errX C lv l key d := by unfold lvE; rw [h]; rfl
theorem lvE_s {C : Cfg} {lv : Int} (h : isX C lv = false) (l : List Int) (key d : Int) : lvE C lv l key d = errU C lv (rN C) (wN C) l key d := by unfold lvE; rw [h]; rfl
theorem lvU_x {C : Cfg} {lv : Int} (h : isX C lv = true) (l : List Int) (key d : Int) : lvU C lv l key d = updX l key d := by unfold lvU; rw [h]; rfl
theorem lvU_s {C : Cfg} {lv : Int} (h : isX C lv = false) (l : List Int) (key d : Int) : lvU C lv l key d = updL C lv (rN C) (wN C) l key d := by unfold lvU; rw [h]; rfl
def fst_ (a b : Int) : Int := bif decide (a = 0) then b else a
/-- What the first levels say of an update. -/
def errs (C : Cfg) (ls : Nat → List Int) (key d : Int) : Nat → Int
  | 0 => 0
  | n + 1 => fst_ (errs C ls key d n) (lvE C n (ls n) (sh n key) d)
def errK (C : Cfg) (B : Nat) (ls : Nat → List Int) (key d : Int) : Int := bif decide (keys C 0 ≤ key) then 2 else errs C ls key d (B + 1)
def updK (C : Cfg) (ls : Nat → List Int) (key d : Int) (n : Nat) : List Int := lvU C n (ls n) (sh n key) d
theorem errs_zero {C : Cfg} {ls : Nat → List Int} {key d : Int} {m : Nat} : errs C ls key d m = 0 ↔ ∀ n, n < m → lvE C n (ls n) (sh n key) d = 0 := by
  induction m with
  | zero => simp [errs]
  | succ m ih =>
    unfold errs fst_
    by_cases h : errs C ls key d m = 0
    · rw [decide_eq_true h]
      constructor
      · intro e n hn
        rcases Nat.lt_or_ge n m with h' | h'
        · exact ih.1 h n h'
        · obtain rfl : n = m := by omega
          exact e
      · intro e; exact e m (by omega)
    · rw [decide_eq_false h]
      constructor
      · intro e; exact absurd e h
      · intro e; exact absurd (ih.2 fun n hn => e n (by omega)) h
theorem errK_zero {C : Cfg} {B : Nat} {ls : Nat → List Int} {key d : Int} : errK C B ls key d = 0 ↔ key < keys C 0 ∧ ∀ n, n ≤ B → lvE C n (ls n) (sh n key) d = 0 := by
  unfold errK
  by_cases h : keys C 0 ≤ key
  · rw [decide_eq_true h]
    constructor
    · intro e; exact absurd (show (2 : Int) = 0 from e) (by decide)
    · rintro ⟨h1, _⟩; omega
  · rw [decide_eq_false h]
    constructor
    · intro e; exact ⟨by omega, fun n hn => errs_zero.1 e n (by omega)⟩
    · rintro ⟨_, e⟩; exact errs_zero.2 fun n hn => e n (by omega)
theorem sh_nn {key : Int} (h : 0 ≤ key) (n : Nat) : 0 ≤ sh n key := Int.ediv_nonneg h (Int.le_of_lt (Int.pow_pos (by decide)))
theorem sh_u64 {key : Int} (h : U64 key) (n : Nat) : U64 (sh n key) := by
  refine ⟨sh_nn h.1 n, ?_⟩
  have h2 := h.2
  refine Int.lt_of_le_of_lt ?_ h2
  exact Int.ediv_le_self _ h.1
theorem cutK_sh {C : Cfg} (hok : C.Ok) {n : Nat} (hn : (n : Int) ≤ C.bits) {key : Int} (h : 0 ≤ key) : cutK C n (key / 2 ^ n) = sh n (cutK C 0 key) := by
  have hb := hok.b1
  unfold cutK sh keys
  obtain ⟨B, hB⟩ : ∃ B : Nat, C.bits = B := ⟨C.bits.toNat, by omega⟩
  obtain ⟨m, rfl⟩ : ∃ m, B = n + m := ⟨B - n, by omega⟩
  obtain ⟨k, rfl⟩ : ∃ k : Nat, key = k := ⟨key.toNat, by omega⟩
  rw [hB, show (((n + m : Nat) : Int) - (n : Int)).toNat = m by omega, show (((n + m : Nat) : Int) - 0).toNat = n + m by omega]
  have : k / 2 ^ n % 2 ^ m = k % 2 ^ (n + m) / 2 ^ n := by
    rw [Nat.pow_add, Nat.mod_mul_right_div_self]
  exact_mod_cast this
/-- The same updates, told of what keys are at a level. -/
def shU (n : Nat) (us : List (Int × Int)) : List (Int × Int) := us.map fun u => (u.1 / 2 ^ n, u.2)
/-- The pairs that a level is told. -/
def stP (C : Cfg) (n : Nat) (us : List (Int × Int)) : List (Int × Int) := us.map fun u => (sh n (cutK C 0 u.1), cutD C.mode u.2)
theorem stP_snoc (C : Cfg) (n : Nat) (us : List (Int × Int)) (u : Int × Int) : stP C n (us ++ [u]) = stP C n us ++ [(sh n (cutK C 0 u.1), cutD C.mode u.2)] := by simp [stP]
/-- What a level has behind updates. -/
def feedK (C : Cfg) (us : List (Int × Int)) (n : Nat) : List Int := us.foldl (fun l u => lvU C n l (sh n (cutK C 0 u.1)) (cutD C.mode u.2)) (zs (lvN C n))
theorem feedK_nil (C : Cfg) (n : Nat) : feedK C [] n = zs (lvN C n) := rfl
theorem feedK_snoc (C : Cfg) (us : List (Int × Int)) (u : Int × Int) : feedK C (us ++ [u]) = updK C (feedK C us) (cutK C 0 u.1) (cutD C.mode u.2) := by
  funext n; unfold feedK updK; rw [List.foldl_append]; rfl
theorem lvU_len (C : Cfg) (lv : Int) (l : List Int) (key d : Int) : (lvU C lv l key d).length = l.length := by
  unfold lvU
  cases isX C lv
  · exact updL_len' _ _ _ _ _ _ _
  · show (updX l key d).length = _
    simp [updX]
theorem feedK_len (C : Cfg) (us : List (Int × Int)) (n : Nat) : (feedK C us n).length = lvN C n := by
  unfold feedK
  have : ∀ l : List Int, (us.foldl (fun l u => lvU C n l (sh n (cutK C 0 u.1)) (cutD C.mode u.2)) l).length = l.length := by
    induction us with
    | nil => intro l; rfl
    | cons u us ih => intro l; rw [List.foldl_cons, ih, lvU_len]
  rw [this, zs_len]
theorem updX_get {l : List Int} {key d : Int} (hk0 : 0 ≤ key) (hk : key < l.length) (j : Nat) : (updX l key d).getD j 0 = l.getD j 0 + bif key == (j : Int) then d else 0 := by
  unfold updX
  by_cases h : key = (j : Int)
  · subst h
    simp only [beq_self_eq_true, cond_true, Int.toNat_natCast]
    rw [List.getD_eq_getElem?_getD, List.getElem?_set_self (by omega)]
    rfl
  · have hb : (key == (j : Int)) = false := by simpa using h
    rw [hb, List.getD_eq_getElem?_getD, List.getElem?_set_ne (by omega), ← List.getD_eq_getElem?_getD]
    simp
theorem sh_lt {C : Cfg} (hok : C.Ok) {n : Nat} (hn : (n : Int) ≤ C.bits) {key : Int} (h0 : 0 ≤ key) (h : key < keys C 0) : sh n key < keys C n := by
  have hb := hok.b1
  unfold sh keys at *
  obtain ⟨B, hB⟩ : ∃ B : Nat, C.bits = B := ⟨C.bits.toNat, by omega⟩
  obtain ⟨m, rfl⟩ : ∃ m, B = n + m := ⟨B - n, by omega⟩
  rw [hB] at h ⊢
  rw [show (((n + m : Nat) : Int) - (n : Int)).toNat = m by omega]
  rw [show (((n + m : Nat) : Int) - 0).toNat = n + m by omega] at h
  apply Int.ediv_lt_of_lt_mul (Int.pow_pos (by decide))
  rw [← Int.pow_add, Nat.add_comm]; exact h
theorem kN_eq' {C : Cfg} (h : C.Ok) (n : Nat) : keys C n = (kN C n : Int) := kN_eq h (Int.natCast_nonneg n)
/-- An exact level tells what its keys have. -/
theorem feedK_x {C : Cfg} (hok : C.Ok) {n : Nat} (hn : (n : Int) ≤ C.bits) {us : List (Int × Int)} (hus : UpsOk us) (hx : isX C n = true) (j : Nat) : (feedK C us n).getD j 0 = hasP (j : Int) (stP C n us) := by
  refine snoc_ind (P := fun us => UpsOk us → (feedK C us n).getD j 0 = hasP (j : Int) (stP C n us)) ?_ ?_ us hus
  · intro _
    rw [feedK_nil]
    unfold zs hasP stP sumIf
    rw [List.getD_eq_getElem?_getD]
    rcases Nat.lt_or_ge j (lvN C n) with h | h <;> simp [h, lsum]
  · intro us u ih hus
    have hu := hus u (by simp)
    have ih' := ih (fun v hv => hus v (by simp [hv]))
    have hk := cutK_bd C hok 0 u.1 (Int.le_refl 0)
    have h1 := sh_lt hok hn hk.1 hk.2
    have hl : (feedK C us n).length = kN C n := by rw [feedK_len]; unfold lvN; rw [hx]; rfl
    rw [feedK_snoc, stP_snoc]
    unfold hasP at *
    rw [sumIf_snoc]
    unfold updK
    rw [lvU_x hx, updX_get (sh_nn hk.1 n) (by rw [hl, ← kN_eq' hok]; exact h1), ih']
end Go.Proofs.YtfhdjekpdifajaaGreat
namespace Go.Proofs.YtfhdjekpdifajaaGreat
set_option linter.unusedVariables false
open Go.RowKit
section
variable {P : Program} {ops : Array Oper} {md : Region.Mode} {Q : Exit → Act → World → Prop} {l n : Nat}
theorem rowsR {row : String} {args : Array Value} {w : World} {R : Value → World → Prop} (h : Rows P row args w R) : RowsIn (Fence.wide.inRound l) n P row args w R :=
  fun c cs _ => let ⟨v, w', r, s⟩ := h c cs; ⟨v, w', r, by rw [fenced_inRound]; exact stepsIn_wide.2 s⟩
theorem callsR {f : FuncId} {args : Array Value} {w : World} {R : Ending → World → Prop} (h : Calls P f args w R) : CallsIn (Fence.wide.inRound l) n P f args w R :=
  CallsIn.inRound l (callsIn_wide.2 h)
theorem operR {o : Oper} {a : Act} {w : World} {K : Act → World → Prop} (hd : ∀ c, o.op ≠ .defer c) (h : o.wp P a w K Q) : o.wpIn (Fence.wide.inRound l) n P a w K Q := by
  unfold Oper.wpIn
  refine ⟨fun _ _ => trivial, ?_⟩
  rw [show (Fence.wide.inRound l).round = some l from rfl, Oper.semAt_some l a.eval o hd]
  unfold Oper.wp at h
  generalize (execOp a.eval o).run P w = r at *
  cases r with
  | ok x w' =>
    cases x <;> simp only [Oper.upon, Oper.uponIn] at h ⊢ <;> first
      | exact h
      | exact ⟨fun hh => (by cases hh), callsR h⟩
      | exact ⟨fun hh => (by cases hh), rowsR h⟩
      | exact h.elim
  | halt x w' => cases x <;> simp only [Oper.upon, Oper.uponIn] at h ⊢ <;> exact h
def noDefer (l : List Oper) : Bool := l.all fun o => match o.op with | .defer _ => false | _ => true
theorem noDefer_spec {l : List Oper} (h : noDefer l = true) {i : Nat} {o : Oper} (ho : l.toArray[i]? = some o) : ∀ c, o.op ≠ .defer c := by
  intro c hc
  unfold noDefer at h
  rw [List.all_eq_true] at h
  have := h o (List.mem_of_getElem? (by simpa using ho))
  rw [hc] at this
  cases this
theorem listR (hq : ¬ LetsOut Q) : ∀ (ls : List Oper) (hd : noDefer ls = true) (a : Act) (w : World), wpList P ops Q ls a w → wpListIn (Fence.wide.inRound l) n P ops Q ls a w := by
  intro ls
  induction ls with
  | nil => intro _ _ _ h; exact h
  | cons o rest ih =>
    intro hd a w h
    have hd2 : noDefer rest = true := by
      unfold noDefer at hd ⊢
      rw [List.all_cons, Bool.and_eq_true] at hd
      exact hd.2
    have ho : ∀ c, o.op ≠ .defer c := noDefer_spec (l := o :: rest) hd (i := 0) (by simp)
    unfold wpList at h
    unfold wpListIn
    split
    · rename_i hw
      simp only [hw, if_true] at h
      exact operR ho (Oper.wp_mono (fun a w h => ih hd2 _ _ h) (h.resolve_right fun hh => hq hh.2))
    · rename_i hw
      simp only [hw] at h
      exact ⟨fun _ _ => trivial, ih hd2 _ _ h⟩
theorem region_plainR {id : Nat} {ls : List Oper} {a : Act} {w : World} (hq : ¬ LetsOut Q) (hd : noDefer ls = true) (h : wpList P ls.toArray Q ls a w) : (Code.region id ls.toArray false).wpIn (Fence.wide.inRound l) n P Q a w :=
  wpIn_region_lit (listR hq ls hd a w h)
theorem anyR {ls : List Oper} (hq : ¬ LetsOut Q) (hd : noDefer ls = true) : ∀ (f : Nat) (listed : Array Bool) (a : Act) (w : World), wpAny P md ls.toArray Q f listed a w → wpAnyIn (Fence.wide.inRound l) n P md ls.toArray Q f listed a w := by
  intro f
  induction f with
  | zero => intro _ _ _ h; exact h
  | succ f ih =>
    intro listed a w h
    refine ⟨h.1, fun i hi => ?_⟩
    have h2 := h.2 i hi
    unfold wpOp at h2
    unfold wpOpIn
    cases ho : ls.toArray[i]? with
    | none => simp only [ho] at h2; exact ih _ _ _ h2
    | some o =>
      simp only [ho] at h2 ⊢
      split
      · rename_i hw
        simp only [hw, if_true] at h2
        refine operR (noDefer_spec hd ho) ?_
        exact Oper.wp_mono (fun a w h => ih _ _ _ h) (h2.resolve_right fun hh => hq hh.2)
      · rename_i hw
        simp only [hw] at h2
        exact ⟨fun _ _ => trivial, ih _ _ _ h2⟩
theorem pi_startR {id : Nat} {ls : List Oper} {a : Act} {w : World} (C : World → Prop) (ex : List Nat) (hm : P.follows .mixedOrders = true) (hq : ¬ LetsOut Q) (hd : noDefer ls = true)
    (h : anyC P .any ls.toArray Q C ex ls.length (Array.replicate ls.length false) a w.drew) : (Code.region id ls.toArray true).wpIn (Fence.wide.inRound l) n P Q a w := by
  refine wpIn_region_any hm ?_
  have := anyR (l := l) (n := n) hq hd _ _ _ _ (any_of_anyC _ _ _ _ h)
  simpa using this
end
end Go.Proofs.YtfhdjekpdifajaaGreat
namespace Go.Proofs.YtfhdjekpdifajaaGreat
set_option linter.unusedVariables false
open Go.RowKit
attribute [local go_sem] Oper.semAt_some
theorem Kat_c (s : Nat) (key : Int) (w : World) :
    Calls Tryz.prog 89 #[.pointer (some ⟨s, 0, none⟩), .int .u64 key] w fun e w' => e = .returned (.func (.func 147) #[] #[.pointer (some ⟨w.heap.size, 0, none⟩), .pointer (some ⟨w.heap.size + 1, 0, none⟩)]) ∧
      w' = (w.alloc (.cells #[.pointer (some ⟨s, 0, none⟩)] 28)).alloc (.cells #[.int .u64 key] 22) := by
  have hmf : ∀ (fn : Fn) (first cap : Array Value) (w : World), (Instr.makeFunc fn first cap).run Tryz.prog w = .ok (.func fn first cap) w := fun _ _ _ _ => rfl
  go_enter Tryz.func89, Tryz.ntmps89
  go_wp2
  go_ret
  exact ⟨rfl, rfl⟩
/-- What a round that goes on keeps: whatever lay below n₀, but for the blocks of S. -/
def KpS (n₀ : Nat) (S : Nat → Prop) (W W' : World) : Prop := ∀ b, b < n₀ → ¬ S b → W'.heap[b]? = W.heap[b]?
theorem KpS.t {n₀ : Nat} {S : Nat → Prop} {A B C : World} (h : KpS n₀ S A B) (k : KpS n₀ S B C) : KpS n₀ S A C := fun b hb hs => (k b hb hs).trans (h b hb hs)
theorem KpS.b {n₀ : Nat} {S : Nat → Prop} {w : World} (hn : n₀ ≤ w.heap.size) (W : World) (l : Nat) (o o' : Obj) (hl : w.heap.size ≤ l) (h : W.heap[l]? = some o) (_ : o.isCells = false) (_ : o.isWalk = false) : KpS n₀ S W (W.putObj l o') := by
  intro b hb _
  exact World.putObj_heap_other (by omega)
theorem KpS.cell {n₀ : Nat} {S : Nat → Prop} {W W' : World} (h : KpS n₀ S W W') {b o : Nat} (hb : b < n₀) (hs : ¬ S b) : W'.cell? ⟨b, o, none⟩ = W.cell? ⟨b, o, none⟩ := by
  unfold World.cell?; rw [show (⟨b, o, none⟩ : Addr).block = b from rfl, h b hb hs]
def lvEnc (C : Cfg) (L : Nat → Lev) (B : Nat) (key : Int) (x : {n : Nat // n ≤ B}) : Array Value := #[lvV C x.1 (L x.1), .int .u64 (sh x.1 key)]
set_option maxRecDepth 100000 in
set_option maxHeartbeats 2000000 in
theorem kat1_in (n l Bs Bk n₀ s g cap : Nat) (S : Nat → Prop) (C : Cfg) (L : Nat → Lev) (B : Nat) (key : Int) (hkey : U64 key) (hB : B ≤ 59) (J Jx : List {n : Nat // n ≤ B} → World → Prop)
    (hbs : Bs < n₀) (hbk : Bk < n₀) (hs : s < n₀) (hg : g < n₀) (nbs : ¬ S Bs) (nbk : ¬ S Bk) (ns : ¬ S s) (ng : ¬ S g)
    (hY : ∀ pre x W, J pre W → pre.length < B + 1 → YieldAt Fence.wide (n - 1) Tryz.prog l (lvEnc C L B key x) W fun e W' =>
      (e = .returned (.bool true) ∧ J (pre ++ [x]) W' ∧ KpS n₀ S W W') ∨ (e = .returned (.bool false) ∧ Jx (pre ++ [x]) W'))
    (W : World) (hBs : W.cell? ⟨Bs, 0, none⟩ = some (.pointer (some ⟨s, 0, none⟩))) (hBk : W.cell? ⟨Bk, 0, none⟩ = some (.int .u64 key))
    (h5 : W.cell? ⟨s, 5, none⟩ = some (.slice (some ⟨g, 0, none⟩) (B + 1) cap)) (hc : ∀ n, n ≤ B → W.cell? ⟨g, n, none⟩ = some (lvV C n (L n))) (h0 : J [] W) :
    CallsIn Fence.wide n Tryz.prog 147 #[.func (.yield l) #[] #[], .pointer (some ⟨Bs, 0, none⟩), .pointer (some ⟨Bk, 0, none⟩)] W fun e W' => (∃ v, e = .returned v) ∧
      ((∃ ys, ys.map (fun x : {n : Nat // n ≤ B} => x.1) = List.range (B + 1) ∧ J ys W') ∨ (∃ pre, True ∧ Jx pre W')) := by
  refine callsIn_of_wp Tryz.func147 rfl trivial ?_ rfl
  simp only [Tryz.ntmps147, List.size_toArray, List.length_cons, List.length_nil, Nat.reduceAdd, Nat.reduceSub, Array.replicate_succ, Array.replicate_zero, List.push_toArray, List.append_toArray, List.nil_append, List.cons_append]
  gi_wp2
  gi_loopw [11] (fun i wr => ∃ (k : Nat) (pre : List {n : Nat // n ≤ B}), k ≤ B + 1 ∧ i = .int .i64 k ∧ pre.map (fun x : {n : Nat // n ≤ B} => x.1) = List.range k ∧ J pre wr ∧ KpS n₀ S W wr)
    (fun i _ => B + 1 - (intOf i).toNat)
  case atStart => exact ⟨0, [], Nat.zero_le _, rfl, rfl, h0, fun _ _ _ => rfl⟩
  case round =>
    obtain ⟨k, pre, hk, rfl, hpre, hJs, hnx⟩ := hrel
    have hlen : pre.length = k := by have := congrArg List.length hpre; simpa using this
    by_cases hlt : k < B + 1
    · have hcx := (hnx.cell (o := k) hg ng).trans (hc k (by omega))
      have hkx := (hnx.cell (o := 0) hbk nbk).trans hBk
      obtain ⟨fn, tmps, assign, body, hy, hR⟩ := hY pre ⟨k, by omega⟩ wr hJs (by omega)
      dsimp only [lvEnc, sh] at hy
      gi_wp2
      refine ⟨fun h => (by cases h), hR.mono ?_⟩
      rintro e W3 (⟨rfl, hJ3, hk3⟩ | ⟨rfl, hJx3⟩)
      · gi_wp2
        go_roundw
        case rel => exact ⟨k + 1, pre ++ [⟨k, by omega⟩], by omega, by simp, by rw [List.map_append, hpre, List.range_succ]; rfl, hJ3, hnx.t hk3⟩
        case measure => simp [intOf]; omega
      · gi_wp2
        refine bodyPost_ret (results_none rfl _ _ _) rfl ?_
        exact ⟨⟨_, rfl⟩, .inr ⟨_, trivial, hJx3⟩⟩
    · obtain rfl : k = B + 1 := by omega
      gi_wp2
      go_end0
      exact ⟨⟨_, rfl⟩, .inl ⟨pre, hpre, hJs⟩⟩
theorem kat1_stops (n Bs Bk n₀ s g cap : Nat) (S : Nat → Prop) (C : Cfg) (L : Nat → Lev) (B : Nat) (key : Int) (hkey : U64 key) (hB : B ≤ 59)
    (hbs : Bs < n₀) (hbk : Bk < n₀) (hs : s < n₀) (hg : g < n₀) (nbs : ¬ S Bs) (nbk : ¬ S Bk) (ns : ¬ S s) (ng : ¬ S g) (w : World) (hn : n₀ ≤ w.heap.size)
    (hBs : w.cell? ⟨Bs, 0, none⟩ = some (.pointer (some ⟨s, 0, none⟩))) (hBk : w.cell? ⟨Bk, 0, none⟩ = some (.int .u64 key))
    (h5 : w.cell? ⟨s, 5, none⟩ = some (.slice (some ⟨g, 0, none⟩) (B + 1) cap)) (hc : ∀ n, n ≤ B → w.cell? ⟨g, n, none⟩ = some (lvV C n (L n))) :
    SeqStopsK Fence.wide n Tryz.prog 147 #[.pointer (some ⟨Bs, 0, none⟩), .pointer (some ⟨Bk, 0, none⟩)] (lvEnc C L B key) (KpS n₀ S) (fun ys => ys.map (fun x : {n : Nat // n ≤ B} => x.1) = List.range (B + 1)) (fun _ => True) (B + 1) w := by
  intro l J Jx W hW hJ hJx hY h0
  refine kat1_in n l Bs Bk n₀ s g cap S C L B key hkey hB J Jx hbs hbk hs hg nbs nbk ns ng hY W ?_ ?_ ?_ (fun n hn' => ?_) h0
  · exact (hW.cell (p := ⟨Bs, 0, none⟩) (Nat.lt_of_lt_of_le hbs hn)).trans hBs
  · exact (hW.cell (p := ⟨Bk, 0, none⟩) (Nat.lt_of_lt_of_le hbk hn)).trans hBk
  · exact (hW.cell (p := ⟨s, 5, none⟩) (Nat.lt_of_lt_of_le hs hn)).trans h5
  · exact (hW.cell (p := ⟨g, n, none⟩) (Nat.lt_of_lt_of_le hg hn)).trans (hc n hn')
set_option maxRecDepth 20000 in
theorem first_c (g cap : Nat) (a b : Int) (w : World) (h0 : w.cell? ⟨g, 0, none⟩ = some (.int .i64 a)) (h1 : w.cell? ⟨g, 1, none⟩ = some (.int .i64 b)) :
    Calls Tryz.prog 90 #[.slice (some ⟨g, 0, none⟩) 2 cap] w fun e w' => e = .returned (.int .i64 (fst_ a b)) ∧ w = w' := by
  by_cases ha : a = 0
  · have e0 : fst_ a b = b := by unfold fst_; rw [decide_eq_true ha]; rfl
    rw [e0]
    subst ha
    by_cases hb : b = 0
    · subst hb
      go_enter Tryz.func90, Tryz.ntmps90
      go_wp2
      refine wp_loop_rounds 3 ?_
      iterate 3 (rw [rounds_succ]; go_wp2)
      go_ret
      exact ⟨rfl, rfl⟩
    · go_enter Tryz.func90, Tryz.ntmps90
      go_wp2
      refine wp_loop_rounds 2 ?_
      iterate 2 (rw [rounds_succ]; go_wp2)
      go_ret
      exact ⟨rfl, rfl⟩
  · have e0 : fst_ a b = a := by unfold fst_; rw [decide_eq_false ha]; rfl
    rw [e0]
    go_enter Tryz.func90, Tryz.ntmps90
    go_wp2
    refine wp_loop_rounds 1 ?_
    iterate 1 (rw [rounds_succ]; go_wp2)
    go_ret
    exact ⟨rfl, rfl⟩
end Go.Proofs.YtfhdjekpdifajaaGreat
namespace Go.Proofs.YtfhdjekpdifajaaGreat
set_option linter.unusedVariables false
open Go.RowKit
theorem keepsO_ext {w w' : World} (h : Ext w w') : KeepsOthers w w' :=
  ⟨h.size, fun k o hk _ => (h.block k (Array.getElem?_eq_some_iff.1 hk).1).trans hk⟩
theorem keepsO_mod {S : Nat → Prop} {w w' : World} (h : Mod S w w') (hS : ∀ k, S k → k < w.heap.size → ∃ cur t f, w.heap[k]? = some (.cells cur t f)) : KeepsOthers w w' :=
  ⟨h.size, fun k o hk ho => by
    have hlt := (Array.getElem?_eq_some_iff.1 hk).1
    refine (h.block k hlt fun hs => ?_).trans hk
    obtain ⟨cur, t, f, hc⟩ := hS k hs hlt
    rw [hk] at hc
    injection hc with hc
    subst hc
    cases ho⟩
theorem kps_mod {n₀ : Nat} {S : Nat → Prop} {w w' : World} (h : Mod S w w') (hn : n₀ ≤ w.heap.size) : KpS n₀ S w w' := fun b hb hs => h.block b (by omega) hs
theorem kps_ext {n₀ : Nat} {S : Nat → Prop} {w w' : World} (h : Ext w w') (hn : n₀ ≤ w.heap.size) : KpS n₀ S w w' := fun b hb _ => h.block b (by omega)
/-- What lies below a bound is carried by whatever grows from there. -/
theorem grown_low {W W' : World} {row : Option Nat} {B k : Nat} (hg : W.grownBy W' row) (hr : ∀ r, row = some r → B ≤ r) (hk : k < W.heap.size) (hB : k < B) : W'.heap[k]? = W.heap[k]? :=
  hg.block k hk (fun e => by have := hr k e.symm; omega)
theorem ownFrom_mod {β : Type} {S : Nat → Prop} {B : Nat} {w₀ : World} (hB : w₀.heap.size ≤ B) : OwnFrom B (fun (_ : β) W => Mod S w₀ W) :=
  fun _ _ _ _ hs hg hr => ⟨hg.os.trans hs.os, hg.tape.trans hs.tape, hg.output.trans hs.output, Nat.le_trans hs.size hg.size, fun k hk hn => (grown_low hg (fun r e => (hr r e).1) (Nat.lt_of_lt_of_le hk hs.size) (by omega)).trans (hs.block k hk hn)⟩
theorem ownFrom_box {β : Type} {B b : Nat} (hb : b < B) (f : β → Obj) : OwnFrom B (fun (s : β) W => W.heap[b]? = some (f s)) :=
  fun s W W' row hs hg hr => (grown_low hg (fun r e => (hr r e).1) (lt_of hs) hb).trans hs
/-- A stack's blocks lie below a bound. -/
structure KLow (N s g B : Nat) (L : Nat → Lev) : Prop where
  s : s < N
  g : g < N
  ls : ∀ n, n ≤ B → (L n).s < N
  lb : ∀ n, n ≤ B → (L n).b < N
  lc : ∀ n, n ≤ B → (L n).c < N
theorem KAt.low {w : World} {s g : Nat} {C : Cfg} {B : Nat} {L : Nat → Lev} {ls : Nat → List Int} (h : KAt w s g C B L ls) : KLow w.heap.size s g B L :=
  ⟨h.lts, h.ltg, fun n hn => (h.lev n hn).lts, fun n hn => (h.lev n hn).ltb, fun n hn => (h.lev n hn).ltc⟩
theorem KLow.mono {N M s g B : Nat} {L : Nat → Lev} (h : KLow N s g B L) (hM : N ≤ M) : KLow M s g B L :=
  ⟨Nat.lt_of_lt_of_le h.s hM, Nat.lt_of_lt_of_le h.g hM, fun n hn => Nat.lt_of_lt_of_le (h.ls n hn) hM, fun n hn => Nat.lt_of_lt_of_le (h.lb n hn) hM, fun n hn => Nat.lt_of_lt_of_le (h.lc n hn) hM⟩
theorem KAt.keepN {w w' : World} {N s g : Nat} {C : Cfg} {B : Nat} {L : Nat → Lev} {ls : Nat → List Int} (h : KAt w s g C B L ls) (hl : KLow N s g B L) (hk : ∀ k, k < w.heap.size → k < N → w'.heap[k]? = w.heap[k]?) : KAt w' s g C B L ls :=
  ⟨by rw [hk s h.lts hl.s]; exact h.ex, by rw [hk g h.ltg hl.g]; exact h.row, fun n hn => (h.lev n hn).keep (hk _ (h.lev n hn).lts (hl.ls n hn)) (hk _ (h.lev n hn).ltb (hl.lb n hn)) (hk _ (h.lev n hn).ltc (hl.lc n hn)), h.sep, h.ok, h.hB⟩
/-- One level is changed. -/
theorem KAt.put {w w' : World} {s g : Nat} {C : Cfg} {B : Nat} {L : Nat → Lev} {ls : Nat → List Int} (h : KAt w s g C B L ls) {n : Nat} (hn : n ≤ B) (hm : Mod (fun k => k = (L n).c) w w') {l : List Int} (hl : LvAt w' (L n) C n l) :
    KAt w' s g C B L (fun m => if m = n then l else ls m) := by
  have hcs : ∀ k, k = (L n).c → k < w.heap.size → ∃ cur, w.heap[k]? = some (.cells cur 2 (0, 0)) := by
    rintro k rfl _; exact (h.lev n hn).isc
  refine ⟨?_, ?_, fun m hm' => ?_, h.sep, h.ok, h.hB⟩
  · rw [hm.block s h.lts fun e => h.nots ⟨n, hn, e⟩]; exact h.ex
  · rw [hm.block g h.ltg fun e => h.notg ⟨n, hn, e⟩]; exact h.row
  · by_cases e : m = n
    · subst e; rw [if_pos rfl]; exact hl
    · rw [if_neg e]; exact (h.lev m hm').mod hm hcs (h.sep m n hm' hn e)
theorem KAt.mod1 {w w' : World} {s g : Nat} {C : Cfg} {B : Nat} {L : Nat → Lev} {ls : Nat → List Int} (h : KAt w s g C B L ls) {n : Nat} (hn : n ≤ B) (hm : Mod (fun k => k = (L n).c) w w') : Mod (cellsOf B L) w w' :=
  hm.mono fun k hk _ => ⟨n, hn, hk⟩
theorem KAt.cellsT {w : World} {s g : Nat} {C : Cfg} {B : Nat} {L : Nat → Lev} {ls : Nat → List Int} (h : KAt w s g C B L ls) (k : Nat) (hk : cellsOf B L k) (_ : k < w.heap.size) : ∃ cur t f, w.heap[k]? = some (.cells cur t f) := by
  obtain ⟨cur, hc⟩ := h.isc hk; exact ⟨_, _, _, hc⟩
theorem mod_new {w W0 W : World} {b : Nat} (he : Ext w W0) (hm : Mod (fun k => k = b) W0 W) (hb : w.heap.size ≤ b) : Mod (fun _ => False) w W :=
  ⟨hm.os.trans he.os, hm.tape.trans he.tape, hm.output.trans he.output, Nat.le_trans he.size hm.size, fun k hk _ => (hm.block k (Nat.lt_of_lt_of_le hk he.size) (by omega)).trans (he.block k hk)⟩
theorem mod_putD {S : Nat → Prop} {w W : World} {D : Nat} {o : Obj} (h : Mod S w W) (hD : w.heap.size ≤ D) : Mod S w (W.putObj D o) :=
  ⟨h.os, h.tape, h.output, Nat.le_trans h.size (by simp [World.putObj]), fun k hk hn => (World.putObj_heap_other (by omega)).trans (h.block k hk hn)⟩
/-- A round that has written one box. -/
theorem chk_round {W0 W w3 : World} {b : Nat} {t : TypeId} {u v : Value} {o : Obj} (hb : W.heap[b]? = some (.cells #[u] t (0, 0))) (hx : Ext W w3) (hM : Mod (fun k => k = b) W0 W) :
    KeepsOthers W ((w3.setCell ⟨b, 0, none⟩ v).alloc o) ∧ KpS W0.heap.size (fun k => k = b) W ((w3.setCell ⟨b, 0, none⟩ v).alloc o) ∧ ((w3.setCell ⟨b, 0, none⟩ v).alloc o).heap[b]? = some (.cells #[v] t (0, 0)) ∧ Mod (fun k => k = b) W0 ((w3.setCell ⟨b, 0, none⟩ v).alloc o) := by
  have h3 := hx.keep hb
  have hl := lt_of h3
  have hm : Mod (fun k => k = b) W ((w3.setCell ⟨b, 0, none⟩ v).alloc o) := ((hx.mod _).trans (mod_set _ _ _ _)).trans ((Ext.alloc' _ _).mod _)
  refine ⟨keepsO_mod hm ?_, kps_mod hm hM.size, ?_, hM.trans hm⟩
  · rintro k rfl _; exact ⟨_, _, _, hb⟩
  · rw [heap_old _ _ (by rw [size_setCell]; exact hl), setCell_same h3]; rfl
/-- The numbers of some levels. -/
def vals {B : Nat} (pre : List {n : Nat // n ≤ B}) : List Nat := pre.map fun x => x.1
theorem vals_snoc {B : Nat} (pre : List {n : Nat // n ≤ B}) (x : {n : Nat // n ≤ B}) : vals (pre ++ [x]) = vals pre ++ [x.1] := by unfold vals; rw [List.map_append]; rfl
/-- What the levels say that have been asked. -/
def errF (C : Cfg) (ls : Nat → List Int) (key d : Int) (pre : List Nat) : Int := pre.foldl (fun (b : Int) (n : Nat) => fst_ b (lvE C n (ls n) (sh n key) d)) 0
theorem errF_snoc (C : Cfg) (ls : Nat → List Int) (key d : Int) (pre : List Nat) (n : Nat) : errF C ls key d (pre ++ [n]) = fst_ (errF C ls key d pre) (lvE C n (ls n) (sh n key) d) := by
  unfold errF; rw [List.foldl_append]; rfl
theorem errF_range (C : Cfg) (ls : Nat → List Int) (key d : Int) (m : Nat) : errF C ls key d (List.range m) = errs C ls key d m := by
  induction m with
  | zero => rfl
  | succ m ih => rw [List.range_succ, errF_snoc, ih]; rfl
/-- The levels, when some have been told of an update. -/
def partK (C : Cfg) (ls : Nat → List Int) (key d : Int) (pre : List Nat) (n : Nat) : List Int := if n ∈ pre then updK C ls key d n else ls n
/-- A round that has told a level of an update. -/
theorem upd_round {W2 W w3 : World} {s g : Nat} {C : Cfg} {B : Nat} {L : Nat → Lev} {ls ls' : Nat → List Int} {key d : Int} {pre : List {n : Nat // n ≤ B}} {x : {n : Nat // n ≤ B}} {D : Nat}
    (h : KAt W s g C B L ls') (hp : (vals pre).Nodup → ∀ n, ls' n = partK C ls key d (vals pre) n) (hM : Mod (cellsOf B L) W2 W) (hD : W.heap[D]? = some (.deferred (some [])))
    (hall : ∀ n, n ≤ B → lvE C n (ls n) (sh n key) d = 0)
    (hres : (lvE C x.1 (ls' x.1) (sh x.1 key) d = 0 ∧ LvAt w3 (L x.1) C x.1 (lvU C x.1 (ls' x.1) (sh x.1 key) d) ∧ Mod (fun k => k = (L x.1).c) W w3) ∨ (lvE C x.1 (ls' x.1) (sh x.1 key) d ≠ 0 ∧ Ext W w3)) :
    KeepsOthers W w3 ∧ KpS W2.heap.size (cellsOf B L) W w3 ∧ w3.heap[D]? = some (.deferred (some [])) ∧ (∃ ls'', KAt w3 s g C B L ls'' ∧ ((vals (pre ++ [x])).Nodup → ∀ n, ls'' n = partK C ls key d (vals (pre ++ [x])) n)) ∧ Mod (cellsOf B L) W2 w3 := by
  have old : (vals (pre ++ [x])).Nodup → (vals pre).Nodup ∧ x.1 ∉ vals pre := by
    intro hn
    rw [vals_snoc, List.nodup_append] at hn
    exact ⟨hn.1, fun hx => hn.2.2 _ hx x.1 (by simp) rfl⟩
  rcases hres with ⟨he, hl, hm⟩ | ⟨he, hx⟩
  · have hmm := h.mod1 x.2 hm
    have hko := keepsO_mod hmm (fun k hk hlt => h.cellsT k hk hlt)
    refine ⟨hko, kps_mod hmm hM.size, hko.same _ _ hD rfl, ⟨_, h.put x.2 hm hl, fun hn n => ?_⟩, hM.trans hmm⟩
    obtain ⟨h1, h2⟩ := old hn
    by_cases e : n = x.1
    · subst e
      rw [if_pos rfl, hp h1]
      unfold partK
      rw [if_neg h2, if_pos (by rw [vals_snoc]; simp)]
      rfl
    · rw [if_neg e, hp h1]
      unfold partK
      rw [vals_snoc]
      simp only [List.mem_append, List.mem_singleton, e, or_false]
  · have hko := keepsO_ext hx
    refine ⟨hko, kps_ext hx hM.size, hko.same _ _ hD rfl, ⟨ls', h.ext hx, fun hn n => ?_⟩, hM.trans (hx.mod _)⟩
    obtain ⟨h1, h2⟩ := old hn
    exfalso
    apply he
    rw [hp h1]
    unfold partK
    rw [if_neg h2]
    exact hall _ x.2
theorem part_end {C : Cfg} {B : Nat} {ls ls' : Nat → List Int} {key d : Int} {xs : List {n : Nat // n ≤ B}} (hxs : xs.map (fun x => x.1) = List.range (B + 1)) (hp : (vals xs).Nodup → ∀ n, ls' n = partK C ls key d (vals xs) n) :
    ∀ n, n ≤ B → ls' n = updK C ls key d n := by
  have e : vals xs = List.range (B + 1) := hxs
  intro n hn
  rw [hp (by rw [e]; exact List.nodup_range), e]
  unfold partK
  rw [if_pos (by rw [List.mem_range]; omega)]
theorem KAt.cong {w : World} {s g : Nat} {C : Cfg} {B : Nat} {L : Nat → Lev} {ls ls' : Nat → List Int} (h : KAt w s g C B L ls) (he : ∀ n, n ≤ B → ls n = ls' n) : KAt w s g C B L ls' :=
  ⟨h.ex, h.row, fun n hn => he n hn ▸ h.lev n hn, h.sep, h.ok, h.hB⟩
end Go.Proofs.YtfhdjekpdifajaaGreat
namespace Go.Proofs.YtfhdjekpdifajaaGreat
set_option linter.unusedVariables false
open Go.RowKit
section
variable {P : Program}
/-- 's = append(s, x)', x of one cell, s a row of the call's own. -/
theorem wpList_appv (W : World) {ops : Array Oper} {rest : List Oper} {o : Oper} {a : Act} {Q : Exit → Act → World → Prop} (x : Value) (hx1 : x.oneCell' = true) (xs : List Value) (v : Value) (base : Nat) (e : TypeId) (hown : W.ownsRow base e 1 v xs.length xs) (t : TypeId)
    (hgd : o.guard = none) (s y : Operand) (ho : o.op = .call { callee := .builtin .append, args := #[s, y], argTypes := #[t, t] })
    (i0 : TypeInfo) (z0 : Value) (hi : P.info? e = some i0) (hz0 : i0.zero = some z0) (hz1 : i0.size = 1) (hz2 : i0.bytes = 16) (hz3 : z0.cells.size = 1) (ht : P.underlying t = some (.slice e))
    (hs : a.eval s = v) (hx : a.eval y = .slice (some ⟨W.heap.size, 0, none⟩) 1 1)
    (hl : xs.length ≤ 1000000) (hbase : base ≤ W.heap.size)
    (h : ∀ v' w', w'.ownsRow base e 1 v' (xs ++ [x]).length (xs ++ [x]) → (W.alloc (.cells #[x] e)).grownBy w' v.ownBlock → wpList P ops Q rest (a.put o.dst v') w') :
    wpList P ops Q (o :: rest) a (W.alloc (.cells #[x] e)) := by
  refine wpList_append_sep _ hgd s y t ho base e i0 z0 1 16 ht hi hz0 hz1 hz2 hz3 (by decide) v xs.length xs hs (hown.alloc _) ⟨W.heap.size, 0, none⟩ 1 1 [x] hx rfl ?_ ?_ (by unfold maxLen; omega) (by omega) (by rw [size_alloc]; omega) ?_
  · intro j u hu
    have hj : j = 0 := by
      have := (List.getElem?_eq_some_iff.1 hu).1
      simp at this; exact this
    subst hj
    rw [show (⟨W.heap.size, 0, none⟩ : Addr).add 0 = ⟨W.heap.size, 0, none⟩ by simp [Addr.add], cell_of (heap_at W _ rfl) 0]
    exact hu
  · intro u hu
    simp at hu
    subst hu
    exact hx1
  · intro v' w' h1 h2 h3
    refine h v' w' ?_ h2
    rw [List.length_append]
    exact h1
end
theorem own_type {w : World} {base n size : Nat} {e : TypeId} {v : Value} {xs : List Value} (h : w.ownsRow base e size v n xs) {k : Nat} (hk : v.ownBlock = some k) : ∃ cur, w.heap[k]? = some (.cells cur e (0, 0)) := by
  rcases h.2 with ⟨rfl, _⟩ | ⟨g, cap, cur, rfl, _, hg, _⟩
  · cases hk
  · cases hk; exact ⟨cur, hg⟩
theorem info_lev : ∃ i z, Tryz.prog.info? 62 = some i ∧ i.zero = some z ∧ i.size = 1 ∧ i.bytes = 16 ∧ z.cells.size = 1 := by
  have h : (Tryz.prog.info? 62).map (fun i => (i.zero, i.size, i.bytes)) = some (some .nilIface, 1, 16) := by kernel_rfl
  match hi : Tryz.prog.info? 62, h with
  | some i, h =>
    simp only [Option.map_some, Option.some.injEq, Prod.mk.injEq] at h
    exact ⟨i, .nilIface, rfl, h.1, h.2.1, h.2.2, rfl⟩
def lvVs (C : Cfg) (L : Nat → Lev) (n : Nat) : List Value := (List.range n).map fun (i : Nat) => lvV C i (L i)
theorem lvVs_len (C : Cfg) (L : Nat → Lev) (n : Nat) : (lvVs C L n).length = n := by simp [lvVs]
theorem lvVs_succ (C : Cfg) (L : Nat → Lev) (n : Nat) : lvVs C L (n + 1) = lvVs C L n ++ [lvV C n (L n)] := by
  unfold lvVs; rw [List.range_succ, List.map_append]; rfl
theorem lvVs_cong (C : Cfg) {L L' : Nat → Lev} {n : Nat} (h : ∀ i, i < n → L i = L' i) : lvVs C L n = lvVs C L' n := by
  unfold lvVs
  apply List.map_congr_left
  intro i hi
  rw [List.mem_range] at hi
  rw [h i hi]
theorem lvVs_get (C : Cfg) (L : Nat → Lev) {n i : Nat} (h : i < n) : (lvVs C L n)[i]? = some (lvV C i (L i)) := by
  unfold lvVs; rw [List.getElem?_map, List.getElem?_range h]; rfl
/-- A row of levels' block is no level's. -/
theorem LvAt.norow {w : World} {L : Lev} {C : Cfg} {lv : Int} {l : List Int} (h : LvAt w L C lv l) {k : Nat} {cur : Array Value} (hk : w.heap[k]? = some (.cells cur 62 (0, 0))) : k ≠ L.s ∧ k ≠ L.b ∧ k ≠ L.c := by
  refine ⟨?_, ?_, ?_⟩
  · rcases h with ⟨_, h⟩ | ⟨_, h⟩ <;> exact blk_ne hk h.ex (by decide)
  · rcases h with ⟨_, h⟩ | ⟨_, h⟩ <;> (obtain ⟨cap, h1, _⟩ := h.g.ex; exact blk_ne hk h1 (by decide))
  · obtain ⟨cur', h1⟩ := h.isc
    exact blk_ne hk h1 (by decide)
theorem LvAt.grown {w w' : World} {o : Obj} {row : Option Nat} {L : Lev} {C : Cfg} {lv : Int} {l : List Int} (h : LvAt w L C lv l) (hg : (w.alloc o).grownBy w' row) (hr : ∀ i, row = some i → ∃ cur, w.heap[i]? = some (.cells cur 62 (0, 0))) : LvAt w' L C lv l := by
  have key : ∀ k, k < w.heap.size → (∀ i, row = some i → i ≠ k) → w'.heap[k]? = w.heap[k]? := fun k hk hn => grown_old hg hk (fun e => hn k e.symm rfl)
  refine h.keep (key _ h.lts fun i hi => ?_) (key _ h.ltb fun i hi => ?_) (key _ h.ltc fun i hi => ?_)
  all_goals
    obtain ⟨cur, hc⟩ := hr i hi
    have := h.norow hc
  · exact this.1
  · exact this.2.1
  · exact this.2.2
/-- Some levels that have been made. -/
structure Made (w : World) (B0 : Nat) (C : Cfg) (k : Nat) (L : Nat → Lev) (ls : Nat → List Int) (v : Value) : Prop where
  row : w.ownsRow B0 62 1 v (lvVs C L k).length (lvVs C L k)
  lev : ∀ n, n < k → LvAt w (L n) C n (ls n)
  new : ∀ n, n < k → B0 ≤ (L n).s ∧ B0 ≤ (L n).b ∧ B0 ≤ (L n).c
  sep : ∀ m n, m < k → n < k → m ≠ n → (L m).c ≠ (L n).c
theorem Made.ext {w w' : World} {B0 k : Nat} {C : Cfg} {L : Nat → Lev} {ls : Nat → List Int} {v : Value} (h : Made w B0 C k L ls v) (he : Ext w w') : Made w' B0 C k L ls v :=
  ⟨own_ext h.row he, fun n hn => (h.lev n hn).ext he, h.new, h.sep⟩
/-- One more. -/
theorem Made.next {w w' : World} {B0 k : Nat} {C : Cfg} {L : Nat → Lev} {ls : Nat → List Int} {v v' : Value} {M : Lev} {l : List Int} {o : Obj} {N : Nat} (h : Made w B0 C k L ls v) (hM : LvAt w M C k l) (hN : ∀ n, n < k → (L n).c < N) (hB : B0 ≤ N) (h1 : N ≤ M.s) (h2 : N ≤ M.b) (h3 : N ≤ M.c)
    (hl : l = ls k) (hown : w'.ownsRow B0 62 1 v' (lvVs C L k ++ [lvV C k M]).length (lvVs C L k ++ [lvV C k M])) (hg : (w.alloc o).grownBy w' v.ownBlock) : Made w' B0 C (k + 1) (fun n => if n = k then M else L n) ls v' := by
  subst hl
  have hr : ∀ i, v.ownBlock = some i → ∃ cur, w.heap[i]? = some (.cells cur 62 (0, 0)) := fun i hi => own_type h.row hi
  refine ⟨?_, fun n hn => ?_, fun n hn => ?_, fun m n hm hn hmn => ?_⟩
  · rw [lvVs_succ, if_pos rfl, lvVs_cong C (L' := L) (fun i hi => if_neg (by omega))]
    exact hown
  · by_cases e : n = k
    · subst e; rw [if_pos rfl]; exact hM.grown hg hr
    · rw [if_neg e]; exact (h.lev n (by omega)).grown hg hr
  · by_cases e : n = k
    · rw [if_pos e]; exact ⟨by omega, by omega, by omega⟩
    · rw [if_neg e]; exact h.new n (by omega)
  · by_cases e : m = k
    · subst e
      rw [if_pos rfl, if_neg (by omega)]
      have := hN n (by omega)
      omega
    · rw [if_neg e]
      by_cases e' : n = k
      · subst e'
        rw [if_pos rfl]
        have := hN m (by omega)
        omega
      · rw [if_neg e']; exact h.sep m n (by omega) (by omega) hmn
theorem Made.ltN {w : World} {B0 k : Nat} {C : Cfg} {L : Nat → Lev} {ls : Nat → List Int} {v : Value} (h : Made w B0 C k L ls v) (n : Nat) (hn : n < k) : (L n).c < w.heap.size := (h.lev n hn).ltc
/-- All levels, and the stack's own block: a stack. -/
theorem Made.stack {w : World} {s B0 B : Nat} {C : Cfg} {L : Nat → Lev} {ls : Nat → List Int} {v : Value} (h : Made w B0 C (B + 1) L ls v) (hok : C.Ok) (hB : C.bits = B) (hs : w.heap[s]? = some (.cells #[.int .i64 C.bits, .int .i64 C.rows, .int .i64 C.width, .int .i64 C.mode, .int .u64 C.seed, v] 149 (0, 0))) :
    ∃ g, B0 ≤ g ∧ KAt w s g C B L ls := by
  have hl := lvVs_len C L (B + 1)
  rcases h.row.2 with ⟨_, h0⟩ | ⟨g, cap, cur, rfl, hbg, hg, hnc, hcm, hcs, htake⟩
  · rw [hl] at h0; omega
  · rw [hl] at hs hnc
    refine ⟨g, hbg, ⟨⟨cap, hs, hnc⟩, ⟨cur, hg, fun n hn => ?_⟩, fun n hn => h.lev n (by omega), fun m n hm hn => h.sep m n (by omega) (by omega), hok, hB⟩⟩
    have h1 := h.row.cells (g := g) rfl n _ (lvVs_get C L (show n < B + 1 by omega))
    rw [show ((⟨g, 0, none⟩ : Addr).add n) = ⟨g, n, none⟩ by (simp [Addr.add]; intro e; exact e.symm), cell_of hg] at h1
    exact h1
theorem Made.setc {w : World} {B0 k : Nat} {C : Cfg} {L : Nat → Lev} {ls : Nat → List Int} {v : Value} (h : Made w B0 C k L ls v) {b : Nat} (hb : b < B0) (o : Nat) (u : Value) : Made (w.setCell ⟨b, o, none⟩ u) B0 C k L ls v :=
  ⟨own_setc h.row hb o u, fun n hn => (h.lev n hn).keep (setCell_other _ _ (by have := h.new n hn; omega)) (setCell_other _ _ (by have := h.new n hn; omega)) (setCell_other _ _ (by have := h.new n hn; omega)), h.new, h.sep⟩
def KNewPost (w : World) (C : Cfg) (e : Ending) (w' : World) : Prop :=
  ∃ (s g : Nat) (L : Nat → Lev), e = .returned (.tuple #[.pointer (some ⟨s, 0, none⟩), .int .i64 0]) ∧ KAt w' s g C C.bits.toNat L (fun n => zs (lvN C n)) ∧ w.heap.size ≤ s ∧ w.heap.size ≤ g ∧ (∀ n, n ≤ C.bits.toNat → w.heap.size ≤ (L n).s ∧ w.heap.size ≤ (L n).b ∧ w.heap.size ≤ (L n).c) ∧ Ext w w'
set_option maxRecDepth 20000 in
set_option maxHeartbeats 4000000 in
theorem KNew_c (C : Cfg) (h : C.Ok) (w : World) :
    Calls Tryz.prog 16 #[.agg #[.int .i64 C.bits, .int .i64 C.rows, .int .i64 C.width, .int .i64 C.mode, .int .u64 C.seed]] w (KNewPost w C) := by
  have hb1 := h.b1
  have hb2 := h.b2
  obtain ⟨B, hB⟩ : ∃ B : Nat, C.bits = B := ⟨C.bits.toNat, by omega⟩
  have hBt : C.bits.toNat = B := by omega
  unfold KNewPost
  rw [hBt]
  have HB := Lib.hid hB
  have HBT := Lib.hid hBt
  clear hB hBt
  go_enter Tryz.func16, Tryz.ntmps16
  go_wp2_with fail
  refine (Right_c C h _).mono ?_
  rintro e w1 ⟨rfl, hx1⟩
  have hE1 : Ext w w1 := (Ext.alloc' w _).trans' hx1
  have hcb := hx1.keep (heap_at w (.cells #[.int .i64 C.bits, .int .i64 C.rows, .int .i64 C.width, .int .i64 C.mode, .int .u64 C.seed] 24) rfl)
  have hC1 := CfgAt.of hcb
  have c0 := hC1.c0
  have c1 := hC1.c1
  have c2 := hC1.c2
  have c3 := hC1.c3
  have c4 := hC1.c4
  have cl := hC1.lt
  have hs1 := hE1.size
  have hbits : C.bits + 1 = (B : Int) + 1 := by rw [HB.out]
  go_wp2
  go_loopw [5, 18] (fun u5 u18 wr => ∃ (k : Nat) (L : Nat → Lev), k ≤ B + 1 ∧ u18 = .int .i64 k ∧ Ext w wr ∧ wr.heap[w.heap.size]? = some (.cells #[.int .i64 C.bits, .int .i64 C.rows, .int .i64 C.width, .int .i64 C.mode, .int .u64 C.seed] 24 (0, 0)) ∧
      wr.heap[w1.heap.size]? = some (.cells #[.int .i64 C.bits, .int .i64 C.rows, .int .i64 C.width, .int .i64 C.mode, .int .u64 C.seed, .slice none 0 0] 149 (0, 0)) ∧
      Made wr (w1.heap.size + 1) C k L (fun n => zs (lvN C n)) u5) (fun _ u18 _ => B + 1 - (intOf u18).toNat)
  case atStart =>
    refine ⟨0, fun _ => ⟨0, 0, 0⟩, Nat.zero_le _, rfl, hE1.allocR _, by rw [heap_old _ _ (by omega)]; exact hcb, heap_at _ _ rfl, ⟨⟨rfl, .inl ⟨rfl, rfl⟩⟩, ?_, ?_, ?_⟩⟩ <;> (intros; omega)
  case round =>
    obtain ⟨k, L, hk, rfl, hE, hcr, hbox, hM⟩ := hrel
    have hC := CfgAt.of hcr
    have d0 := hC.c0
    have d1 := hC.c1
    have d2 := hC.c2
    have d3 := hC.c3
    have d4 := hC.c4
    have dl := hC.lt
    have hbl := lt_of hbox
    have HC := Lib.hid hcr
    have HBX := Lib.hid hbox
    have HM := Lib.hid hM
    clear hC hcr hbox hM
    by_cases hlt : k < B + 1
    · go_wp2_with fail
      refine (LNew_c C h k (by omega) (by have := HB.out; omega) _).mono ?_
      rintro e w2 ⟨M, rfl, hL, n1, n2, n3, hx2⟩
      have hown := own_ext HM.out.row hx2
      have hszz := hx2.size
      obtain ⟨T, hT⟩ : ∃ T, lvV C k M = .iface T (.pointer (some ⟨M.s, 0, none⟩)) := ⟨lvT C k, rfl⟩
      rw [hT]
      have HT := Lib.hid hT
      clear hT
      have hll := lvVs_len C L k
      obtain ⟨i0, z0, hi0, hz0, hz1, hz2, hz3⟩ := info_lev
      go_wp2_with (at_builtin; refine wpList_appv w2 (.iface T (.pointer (some ⟨M.s, 0, none⟩))) rfl (lvVs C L k) u5 (w1.heap.size + 1) 62 hown 147 rfl _ _ rfl i0 z0 hi0 hz0 hz1 hz2 hz3 Tryz.underlying147 rfl rfl ?a1 ?a2 ?_)
      case a1 => omega
      case a2 => omega
      intro v' w' hown' hgr
      have hmade := HM.out.ext hx2
      have hnext := hmade.next (N := wr.heap.size) (ls := fun n => zs (lvN C n)) hL (fun n hn => HM.out.ltN n hn) (by omega) n1 n2 n3 rfl (by rw [HT.out, List.length_append, hll]; exact hown') hgr
      have hge : ∀ i, u5.ownBlock = some i → w1.heap.size + 1 ≤ i := fun i hi => own_blk hown hi
      have hex : Ext w w' := ext_grown (hE.trans' hx2) hgr (fun i hi => by have := hge i hi; omega)
      have hCx := (grown_old hgr (show w.heap.size < w2.heap.size by omega) (fun e => by have := hge _ e.symm; omega)).trans (hx2.keep HC.out)
      have hbx := (grown_old hgr (show w1.heap.size < w2.heap.size by omega) (fun e => by have := hge _ e.symm; omega)).trans (hx2.keep HBX.out)
      go_wp2
      go_roundw
      case rel => exact ⟨k + 1, _, by omega, by go_num, hex, hCx, hbx, hnext⟩
      case measure => simp [intOf]; omega
    · obtain rfl : k = B + 1 := by omega
      obtain ⟨p5, k5, c5, rfl⟩ := own_slice HM.out.row
      have hfz := frozen_of HBX.out 5
      have hbc := (cell_of HBX.out 5).trans rfl
      go_wp2
      go_ret2
      have hm := HM.out.setc (show w1.heap.size < w1.heap.size + 1 by omega) 5 (.slice p5 k5 c5)
      obtain ⟨g, hg, hK⟩ := hm.stack h HB.out ((setCell_same HBX.out 5 (.slice p5 k5 c5)).trans rfl)
      refine ⟨w1.heap.size, g, L, rfl, hK, hs1, by omega, fun n hn => ?_, hE.setR (p := ⟨w1.heap.size, 5, none⟩) hs1 _⟩
      have := HM.out.new n (by omega)
      omega
end Go.Proofs.YtfhdjekpdifajaaGreat
namespace Go.Proofs.YtfhdjekpdifajaaGreat
set_option linter.unusedVariables false
open Go.RowKit
def pcV (ps : List (Nat × Int)) : List Value := ps.flatMap fun p => [.int .i64 (p.1 : Int), .int .u64 p.2]
/-- Pieces that lie at a place. -/
def PCells (W : World) (g off : Nat) (ps : List (Nat × Int)) : Prop :=
  ∀ k, k < ps.length → W.cell? ⟨g, off + k * 2, none⟩ = some (.int .i64 ((ps.getD k (0, 0)).1 : Int)) ∧ W.cell? ⟨g, off + k * 2 + 1, none⟩ = some (.int .u64 (ps.getD k (0, 0)).2)
theorem PCells.ext {W W' : World} {g off : Nat} {ps : List (Nat × Int)} (h : PCells W g off ps) (hg : g < W.heap.size) (he : Ext W W') : PCells W' g off ps :=
  fun k hk => ⟨((bcell he).1 _ _ hg).trans (h k hk).1, ((bcell he).1 _ _ hg).trans (h k hk).2⟩
end Go.Proofs.YtfhdjekpdifajaaGreat
namespace Go.Proofs.YtfhdjekpdifajaaGreat
set_option linter.unusedVariables false
open Go.RowKit
def updV (ps : List (Int × Int)) : List Value := ps.flatMap fun u => [.int .u64 u.1, .int .i64 u.2]
theorem updV_len (ps : List (Int × Int)) : (updV ps).length = ps.length * 2 := by
  induction ps with
  | nil => rfl
  | cons u ps ih =>
    have : updV (u :: ps) = .int .u64 u.1 :: .int .i64 u.2 :: updV ps := rfl
    rw [this, List.length_cons, List.length_cons, List.length_cons, ih]; omega
theorem updV_at {ps : List (Int × Int)} : ∀ {k : Nat} (h : k < ps.length), (updV ps)[k * 2]? = some (.int .u64 (ps.getD k (0, 0)).1) ∧ (updV ps)[k * 2 + 1]? = some (.int .i64 (ps.getD k (0, 0)).2) := by
  induction ps with
  | nil => intro k h; simp at h
  | cons u ps ih =>
    intro k h
    have e : updV (u :: ps) = .int .u64 u.1 :: .int .i64 u.2 :: updV ps := rfl
    rw [e]
    cases k with
    | zero => exact ⟨rfl, rfl⟩
    | succ k =>
      have := ih (k := k) (by simpa using h)
      rw [show (k + 1) * 2 = k * 2 + 1 + 1 by omega]
      simp only [List.getElem?_cons_succ, List.getD_cons_succ]
      exact this
theorem UpsAt.of_row {w : World} {base : Nat} {e : TypeId} {v : Value} {n : Nat} {ps : List (Int × Int)} (h : w.ownsRow base e 2 v n (updV ps)) : UpsAt w v ps := by
  obtain ⟨h1, h2⟩ := h
  have hn : n = ps.length := by rw [updV_len] at h1; omega
  subst hn
  rcases h2 with ⟨h2, h3⟩ | ⟨g, cap, cur, rfl, _, hh, hc, _, hs, ht⟩
  · refine .inl ⟨⟨_, h2⟩, ?_⟩
    exact List.length_eq_zero_iff.1 h3
  · refine .inr ⟨g, 0, cap, rfl, lt_of hh, fun k hk => ?_⟩
    obtain ⟨a1, a2⟩ := updV_at hk
    rw [← ht] at a1 a2
    rw [List.getElem?_take_of_lt (by omega)] at a1 a2
    simp only [Array.getElem?_toList] at a1 a2
    rw [cell_of hh, cell_of hh, Nat.zero_add]
    exact ⟨a1, a2⟩
section
variable {P : Program}
end
end Go.Proofs.YtfhdjekpdifajaaGreat
namespace Go.Proofs.YtfhdjekpdifajaaGreat
set_option linter.unusedVariables false
open Go.RowKit
set_option maxRecDepth 20000 in
theorem GPlus_c (b c b2 c2 R W : Nat) (l l2 : List Int) (w : World) (h : GAt w b c R W l) (h2 : GAt w b2 c2 R W l2) (hI : allI l) (hI2 : allI l2) :
    Calls Tryz.prog 163 #[.pointer (some ⟨b, 0, none⟩), .pointer (some ⟨b2, 0, none⟩)] w (JoinPost w b c R W (plusL l l2)) := by
  go_enter Tryz.func163, Tryz.ntmps163
  go_wp2_with fail
  refine Calls.mono (allPlus_c b c b2 c2 R W l l2 w h h2 hI hI2) ?_
  rintro e w' h
  rcases h with ⟨ha, rfl, hg, hm⟩ | ⟨ha, rfl, hx⟩
  · go_wp2
    go_ret
    exact .inl ⟨ha, rfl, hg, hm⟩
  · go_wp2
    go_ret
    exact .inr ⟨ha, rfl, hx⟩
set_option maxRecDepth 20000 in
theorem GMinus_c (b c b2 c2 R W : Nat) (l l2 : List Int) (w : World) (h : GAt w b c R W l) (h2 : GAt w b2 c2 R W l2) (hI : allI l) (hI2 : allI l2) :
    Calls Tryz.prog 166 #[.pointer (some ⟨b, 0, none⟩), .pointer (some ⟨b2, 0, none⟩)] w (JoinPost w b c R W (minusL l l2)) := by
  go_enter Tryz.func166, Tryz.ntmps166
  go_wp2_with fail
  refine Calls.mono (allMinus_c b c b2 c2 R W l l2 w h h2 hI hI2) ?_
  rintro e w' h
  rcases h with ⟨ha, rfl, hg, hm⟩ | ⟨ha, rfl, hx⟩
  · go_wp2
    go_ret
    exact .inl ⟨ha, rfl, hg, hm⟩
  · go_wp2
    go_ret
    exact .inr ⟨ha, rfl, hx⟩
set_option maxRecDepth 20000 in
set_option maxHeartbeats 2000000 in
theorem alike_yes (s b c s2 b2 c2 : Nat) (C : Cfg) (lv : Int) (R W : Nat) (l l2 : List Int) (w : World) (h : SAt w s b c C lv R W l) (h2 : SAt w s2 b2 c2 C lv R W l2) :
    Calls Tryz.prog 162 #[.pointer (some ⟨s, 0, none⟩), .pointer (some ⟨s2, 0, none⟩)] w fun e w' => e = .returned (.bool true) ∧ Ext w w' := by
  have c1 := (cell_of h.ex 1).trans rfl
  have c2 := (cell_of h.ex 2).trans rfl
  have c3 := (cell_of h.ex 3).trans rfl
  have c4 := (cell_of h.ex 4).trans rfl
  have c5 := (cell_of h.ex 5).trans rfl
  have c6 := (cell_of h.ex 6).trans rfl
  have d1 := (cell_of h2.ex 1).trans rfl
  have d2 := (cell_of h2.ex 2).trans rfl
  have d3 := (cell_of h2.ex 3).trans rfl
  have d4 := (cell_of h2.ex 4).trans rfl
  have d5 := (cell_of h2.ex 5).trans rfl
  have d6 := (cell_of h2.ex 6).trans rfl
  have l1 := h.lts
  have l2 := h2.lts
  clear h h2
  go_enter Tryz.func162, Tryz.ntmps162
  go_wp2_with fail
  refine wp_region_after (by kernel_rfl) (by kernel_rfl) ?_
  repeat (go_big_quiet_step (fail))
  refine wpQuiet_nil ?_
  rintro _ ⟨xx, rfl⟩
  obtain ⟨w1, hb1⟩ := xx
  try dsimp only
  go_wp2
  go_ret
  exact ⟨rfl, hb1⟩
def MergePost (w : World) (s b c : Nat) (C : Cfg) (lv : Int) (R W : Nat) (m : List Int) (e : Ending) (w' : World) : Prop :=
  (allI m ∧ e = .returned (.int .i64 0) ∧ SAt w' s b c C lv R W m ∧ Mod (fun k => k = c) w w') ∨ (¬ allI m ∧ e = .returned (.int .i64 4) ∧ Ext w w')
theorem SAt.putg {w w' : World} {s b c : Nat} {C : Cfg} {lv : Int} {R W : Nat} {l m : List Int} (h : SAt w s b c C lv R W l) (hg : GAt w' b c R W m) (hm : Mod (fun k => k = c) w w') (hi : allI m) : SAt w' s b c C lv R W m :=
  ⟨by rw [hm.block s h.lts h.nes]; exact h.ex, hg, h.ok, h.lo, h.hi, h.hr, h.hw, hi⟩
theorem join_ret {w w' : World} {b c R W : Nat} {m : List Int} {e : Ending} (h : JoinPost w b c R W m e w') : ∃ z, e = .returned (.int .i64 z) ∧ ((z = 0 ∧ allI m ∧ GAt w' b c R W m ∧ Mod (fun k => k = c) w w') ∨ (z = 4 ∧ ¬ allI m ∧ Ext w w')) := by
  rcases h with ⟨ha, rfl, hg, hm⟩ | ⟨ha, rfl, hx⟩
  · exact ⟨_, rfl, .inl ⟨rfl, ha, hg, hm⟩⟩
  · exact ⟨_, rfl, .inr ⟨rfl, ha, hx⟩⟩
set_option maxRecDepth 20000 in
set_option maxHeartbeats 4000000 in
theorem SMerge_c (s b c s2 b2 c2 : Nat) (C : Cfg) (lv : Int) (R W : Nat) (l l2 : List Int) (w : World) (h : SAt w s b c C lv R W l) (h2 : SAt w s2 b2 c2 C lv R W l2) :
    Calls Tryz.prog 110 #[.pointer (some ⟨s, 0, none⟩), .pointer (some ⟨s2, 0, none⟩)] w (MergePost w s b c C lv R W (plusL l l2)) := by
  have HH := Lib.hid h
  go_enter Tryz.func110, Tryz.ntmps110
  go_wp2_with fail
  refine Calls.mono (alike_yes s b c s2 b2 c2 C lv R W l l2 w h h2) ?_
  rintro e w1 ⟨rfl, hx1⟩
  have h' := h.ext hx1
  have h2' := h2.ext hx1
  have c0 := (cell_of h'.ex 0).trans rfl
  have d0 := (cell_of h2'.ex 0).trans rfl
  have l1 := h'.lts
  have l2' := h2'.lts
  clear h h2
  go_wp2_with fail
  have hC0 := af_drew w1
  have hG1 := h'.g.ext (Below.drew (Ext.refl w1))
  have hG2 := h2'.g.ext (Below.drew (Ext.refl w1))
  refine pi_start (fun w' => ∃ x : After w1, w' = x.w) [10] (by kernel_rfl) ?_
  refine pi_t 0 rfl (by kernel_rfl) (by kernel_rfl) (fun _ _ _ _ h => h) (fun K hK => ?_)
  go_big_quiet_op
  refine hK _ ?_
  clear hK K
  refine pi_t 1 rfl (by kernel_rfl) (by kernel_rfl) (fun _ _ _ _ h => h) (fun K hK => ?_)
  go_big_quiet_op
  refine hK _ ?_
  clear hK K
  refine pi_t 2 rfl (by kernel_rfl) (by kernel_rfl) (fun _ _ _ _ h => h) (fun K hK => ?_)
  go_big_quiet_op
  refine hK _ ?_
  clear hK K
  refine pi_t 3 rfl (by kernel_rfl) (by kernel_rfl) (fun _ _ _ _ h => h) (fun K hK => ?_)
  go_big_quiet_op
  refine hK _ ?_
  clear hK K
  refine pi_c 4 (by assumption) rfl (by kernel_rfl) (by kernel_rfl) (fun _ _ _ _ h => h) (fun K hK => ?_)
  go_big_quiet_op
  refine hK _ ?_
  clear hK K
  refine pi_t 5 rfl (by kernel_rfl) (by kernel_rfl) (fun _ _ _ _ h => h) (fun K hK => ?_)
  go_big_quiet_op
  refine hK _ ?_
  clear hK K
  refine pi_t 6 rfl (by kernel_rfl) (by kernel_rfl) (fun _ _ _ _ h => h) (fun K hK => ?_)
  go_big_quiet_op
  refine hK _ ?_
  clear hK K
  refine pi_t 7 rfl (by kernel_rfl) (by kernel_rfl) (fun _ _ _ _ h => h) (fun K hK => ?_)
  go_big_quiet_op
  refine hK _ ?_
  clear hK K
  refine pi_t 8 rfl (by kernel_rfl) (by kernel_rfl) (fun _ _ _ _ h => h) (fun K hK => ?_)
  go_big_quiet_op
  refine hK _ ?_
  clear hK K
  refine pi_c 9 (by assumption) rfl (by kernel_rfl) (by kernel_rfl) (fun _ _ _ _ h => h) (fun K hK => ?_)
  go_big_quiet_op
  refine hK _ ?_
  clear hK K
  refine pi_l 10 rfl (by kernel_rfl) (fun K hK => ?_)
  go_wp2_with (go_at_call 163; refine Calls.mono (GPlus_c b c b2 c2 R W l l2 _ hG1 hG2 h'.fit h2'.fit) ?_; intro e w2 hr0; obtain ⟨z, rfl, hr⟩ := join_ret hr0)
  refine hK _ _ (by simp) ?_
  clear hK K
  refine pi_t 11 rfl (by kernel_rfl) (by kernel_rfl) (fun _ _ _ _ h => h) (fun K hK => ?_)
  go_big_quiet_op
  refine hK _ ?_
  clear hK K
  refine pi_end (by kernel_rfl) ?_
  go_wp2
  go_ret
  have hx2 : Ext w w1.drew := Below.drew hx1
  rcases hr with ⟨rfl, ha, hg, hm⟩ | ⟨rfl, ha, hx⟩
  · have hm' : Mod (fun k => k = c) w w2 := (hx2.mod _).trans hm
    exact .inl ⟨ha, rfl, HH.out.putg hg hm' ha, hm'⟩
  · exact .inr ⟨ha, rfl, hx2.trans' hx⟩
set_option maxRecDepth 20000 in
set_option maxHeartbeats 4000000 in
theorem SSubtract_c (s b c s2 b2 c2 : Nat) (C : Cfg) (lv : Int) (R W : Nat) (l l2 : List Int) (w : World) (h : SAt w s b c C lv R W l) (h2 : SAt w s2 b2 c2 C lv R W l2) (hm : C.mode ≠ 2) :
    Calls Tryz.prog 115 #[.pointer (some ⟨s, 0, none⟩), .pointer (some ⟨s2, 0, none⟩)] w (MergePost w s b c C lv R W (minusL l l2)) := by
  have HH := Lib.hid h
  have hmb : (C.mode == 2) = false := by simpa using hm
  clear hm
  go_enter Tryz.func115, Tryz.ntmps115
  go_wp2_with fail
  refine Calls.mono (alike_yes s b c s2 b2 c2 C lv R W l l2 w h h2) ?_
  rintro e w1 ⟨rfl, hx1⟩
  have h' := h.ext hx1
  have h2' := h2.ext hx1
  have c0 := (cell_of h'.ex 0).trans rfl
  have c4 := (cell_of h'.ex 4).trans rfl
  have d0 := (cell_of h2'.ex 0).trans rfl
  have l1 := h'.lts
  have l2' := h2'.lts
  clear h h2
  go_wp2_with fail
  have hC0 := af_drew w1
  have hG1 := h'.g.ext (Below.drew (Ext.refl w1))
  have hG2 := h2'.g.ext (Below.drew (Ext.refl w1))
  refine pi_start (fun w' => ∃ x : After w1, w' = x.w) [10] (by kernel_rfl) ?_
  refine pi_t 0 rfl (by kernel_rfl) (by kernel_rfl) (fun _ _ _ _ h => h) (fun K hK => ?_)
  go_big_quiet_op
  refine hK _ ?_
  clear hK K
  refine pi_t 1 rfl (by kernel_rfl) (by kernel_rfl) (fun _ _ _ _ h => h) (fun K hK => ?_)
  go_big_quiet_op
  refine hK _ ?_
  clear hK K
  refine pi_t 2 rfl (by kernel_rfl) (by kernel_rfl) (fun _ _ _ _ h => h) (fun K hK => ?_)
  go_big_quiet_op
  refine hK _ ?_
  clear hK K
  refine pi_t 3 rfl (by kernel_rfl) (by kernel_rfl) (fun _ _ _ _ h => h) (fun K hK => ?_)
  go_big_quiet_op
  refine hK _ ?_
  clear hK K
  refine pi_c 4 (by assumption) rfl (by kernel_rfl) (by kernel_rfl) (fun _ _ _ _ h => h) (fun K hK => ?_)
  go_big_quiet_op
  refine hK _ ?_
  clear hK K
  refine pi_t 5 rfl (by kernel_rfl) (by kernel_rfl) (fun _ _ _ _ h => h) (fun K hK => ?_)
  go_big_quiet_op
  refine hK _ ?_
  clear hK K
  refine pi_t 6 rfl (by kernel_rfl) (by kernel_rfl) (fun _ _ _ _ h => h) (fun K hK => ?_)
  go_big_quiet_op
  refine hK _ ?_
  clear hK K
  refine pi_t 7 rfl (by kernel_rfl) (by kernel_rfl) (fun _ _ _ _ h => h) (fun K hK => ?_)
  go_big_quiet_op
  refine hK _ ?_
  clear hK K
  refine pi_t 8 rfl (by kernel_rfl) (by kernel_rfl) (fun _ _ _ _ h => h) (fun K hK => ?_)
  go_big_quiet_op
  refine hK _ ?_
  clear hK K
  refine pi_c 9 (by assumption) rfl (by kernel_rfl) (by kernel_rfl) (fun _ _ _ _ h => h) (fun K hK => ?_)
  go_big_quiet_op
  refine hK _ ?_
  clear hK K
  refine pi_l 10 rfl (by kernel_rfl) (fun K hK => ?_)
  go_wp2_with (go_at_call 166; refine Calls.mono (GMinus_c b c b2 c2 R W l l2 _ hG1 hG2 h'.fit h2'.fit) ?_; intro e w2 hr0; obtain ⟨z, rfl, hr⟩ := join_ret hr0)
  refine hK _ _ (by simp) ?_
  clear hK K
  refine pi_t 11 rfl (by kernel_rfl) (by kernel_rfl) (fun _ _ _ _ h => h) (fun K hK => ?_)
  go_big_quiet_op
  refine hK _ ?_
  clear hK K
  refine pi_end (by kernel_rfl) ?_
  go_wp2
  go_ret
  have hx2 : Ext w w1.drew := Below.drew hx1
  rcases hr with ⟨rfl, ha, hg, hm⟩ | ⟨rfl, ha, hx⟩
  · have hm' : Mod (fun k => k = c) w w2 := (hx2.mod _).trans hm
    exact .inl ⟨ha, rfl, HH.out.putg hg hm' ha, hm'⟩
  · exact .inr ⟨ha, rfl, hx2.trans' hx⟩
end Go.Proofs.YtfhdjekpdifajaaGreat
namespace Go.Proofs.YtfhdjekpdifajaaGreat
set_option linter.unusedVariables false
open Go.RowKit
section
variable {P : Program} {w : World}
end
/-- A world in which what W has is as it was, but for block c. -/
structure Aft (c : Nat) (W : World) where
  w : World
  h : Mod (fun i => i = c) W w
instance (c : Nat) (W : World) : Nonempty (Aft c W) := ⟨⟨W, Mod.refl _ W⟩⟩
@[go_sem] theorem Aft.cell {c : Nat} {W : World} (x : Aft c W) {b o : Nat} (h : b < W.heap.size) (hn : b ≠ c) : x.w.cell? ⟨b, o, none⟩ = W.cell? ⟨b, o, none⟩ := mcell x.h h hn o
theorem aft_drew (c : Nat) (W : World) : ∃ x : Aft c W, W.drew = x.w := ⟨⟨_, Ext.mod _ (Below.drew (Ext.refl W))⟩, rfl⟩
theorem mod_put' {w w' : World} {g j : Nat} (h : Mod (fun i => i = g) w w') (u : Value) : Mod (fun i => i = g) w (w'.setCell ⟨g, j, none⟩ u) :=
  ⟨h.os, h.tape, h.output, by rw [size_setCell]; exact h.size, fun k hk hn => (setCell_other _ _ hn).trans (h.block k hk hn)⟩
theorem aft_put {c : Nat} {W w : World} {o : Nat} (h : ∃ x : Aft c W, w = x.w) (u : Value) : ∃ x : Aft c W, w.setCell ⟨c, o, none⟩ u = x.w := by
  obtain ⟨x, rfl⟩ := h
  exact ⟨⟨_, mod_put' x.h u⟩, rfl⟩
theorem Put_i (b c R W : Nat) (l : List Int) (w : World) (h : GAt w b c R W l) (rI kI : Int) (r k : Nat) (hrI : rI = r) (hkI : kI = k) (hr : r < R) (hk : k < W) (n : Int) :
    Calls Tryz.prog 257 #[.pointer (some ⟨b, 0, none⟩), .int .i64 rI, .int .i64 kI, .int .i64 n] w fun e w' => e = .returned (.bool true) ∧ w.setCell ⟨c, r * W + k, none⟩ (.int .i64 n) = w' := by
  subst hrI hkI
  exact Put_c b c R W l w h r k hr hk n
theorem SAt.setl {w : World} {s b c : Nat} {C : Cfg} {lv : Int} {R W : Nat} {l : List Int} (h : SAt w s b c C lv R W l) {i : Nat} (hi : i < l.length) {n : Int} (hn : I64 n) : SAt (w.setCell ⟨c, i, none⟩ (.int .i64 n)) s b c C lv R W (l.set i n) :=
  ⟨by rw [setCell_other _ _ h.nes]; exact h.ex, h.g.set hi n, h.ok, h.lo, h.hi, h.hr, h.hw, fun x hx => by
    rcases List.mem_or_eq_of_mem_set hx with h1 | h1
    · exact h.fit x h1
    · rw [h1]; exact hn⟩
set_option maxRecDepth 20000 in
set_option maxHeartbeats 4000000 in
theorem Load_yes (s b c : Nat) (C : Cfg) (lv : Int) (R W : Nat) (l m : List Int) (v : Value) (w : World) (h : SAt w s b c C lv R W l) (hv : IntsAt w v m) (hI : allI m) (hl : m.length = R * W)
    (hne : ∀ g off n cap, v = .slice (some ⟨g, off, none⟩) n cap → g ≠ c) :
    Calls Tryz.prog 251 #[.pointer (some ⟨s, 0, none⟩), v] w fun e w' => e = .returned (.bool true) ∧ SAt w' s b c C lv R W m ∧ Mod (fun k => k = c) w w' := by
  have hN1 : 1 ≤ R * W := Nat.mul_pos h.g.r1 h.g.w1
  have hN2 : R * W ≤ 1024 := Nat.le_trans (Nat.mul_le_mul h.g.r2 h.g.w2) (by decide)
  obtain ⟨vg, vo, vcap, rfl, hvl, hvc⟩ := hv.slice (by rw [hl]; omega)
  have hgc : vg ≠ c := hne _ _ _ _ rfl
  have hLl := h.g.len
  have hp0 : C.rows * C.width = ((R * W : Nat) : Int) := by rw [h.hr, h.hw]; simp
  have hW1 := h.g.w1
  have hR1 := h.g.r1
  have hdiv : ∀ k, k < R * W → k / W < R ∧ k % W < W ∧ k / W * W + k % W = k := by
    intro k hk
    refine ⟨Nat.div_lt_of_lt_mul (by rw [Nat.mul_comm]; exact hk), Nat.mod_lt _ hW1, ?_⟩
    have := Nat.div_add_mod k W; rw [Nat.mul_comm] at this; exact this
  rw [hl] at hvc ⊢
  generalize R * W = N at *
  have hp1 : 0 ≤ C.rows * C.width := by rw [hp0]; omega
  have hp2 : C.rows * C.width ≤ 1024 := by rw [hp0]; omega
  have hpt : ((N : Int) != C.rows * C.width) = false := by rw [hp0]; simp
  have c1 := (cell_of h.ex 2).trans rfl
  have c2 := (cell_of h.ex 3).trans rfl
  have lts := h.lts
  have HH := Lib.hid h
  have HVC := Lib.hid hvc
  have HL := Lib.hid hl
  have HLL := Lib.hid hLl
  have HD := Lib.hid hdiv
  have HW := Lib.hid h.hw
  clear h hv hl hne hvc hLl hp0 hdiv
  go_enter Tryz.func251, Tryz.ntmps251
  go_wp2_with fail
  refine wp_region_after (by kernel_rfl) (by kernel_rfl) ?_
  repeat (go_big_quiet_step (fail))
  refine wpQuiet_nil ?_
  rintro _ ⟨xx, rfl⟩
  obtain ⟨w1, hb1⟩ := xx
  try dsimp only
  have hS1 := HH.out.ext hb1
  have hlt' : vg < w1.heap.size := Nat.lt_of_lt_of_le hvl hb1.size
  have hsz1 := hb1.size
  clear c1 c2 hpt hp1 hp2
  go_wp2_with fail
  go_loopw [23] (fun u23 wr => ∃ k : Nat, k ≤ N ∧ u23 = .int .i64 k ∧ SAt wr s b c C lv R W (mixL (fun j => m.getD j 0) (fun j => l.getD j 0) k N) ∧ Mod (fun i => i = c) w1 wr) (fun u23 _ => N - (intOf u23).toNat)
  case atStart =>
    refine ⟨0, Nat.zero_le _, rfl, ?_, Mod.refl _ _⟩
    have e : mixL (fun j => m.getD j 0) (fun j => l.getD j 0) 0 N = l := by
      apply list_ext_getD
      · rw [mixL_len, HLL.out]
      · intro i hi
        rw [mixL_len] at hi
        rw [mixL_get _ _ hi, if_neg (by omega)]
    rw [e]; exact hS1
  case round =>
    obtain ⟨k, hk, rfl, hSr, hM⟩ := hrel
    have hMs := hM.size
    by_cases hgo : k < N
    · have x0 := (mcell hM (b := vg) hlt' hgc (vo + k)).trans (((bcell hb1).1 _ _ hvl).trans (HVC.out k hgo))
      have c0 := (cell_of hSr.ex 0).trans rfl
      have c2 := (cell_of hSr.ex 3).trans (show _ = some (Value.int .i64 (W : Int)) by rw [← HW.out]; rfl)
      obtain ⟨dv1, dv2, dv3⟩ := HD.out k hgo
      have lr := hSr.lts
      have hlr : vg < wr.heap.size := by omega
      have hxi : I64 (m.getD k 0) := getD_i64 hI k
      have hms := mixL_set (fun j => m.getD j 0) (fun j => l.getD j 0) (k := k) (n := N)
      have HMS := Lib.hid hms
      have HSR := Lib.hid hSr
      have HDV := Lib.hid dv3
      have hsc := HSR.out.nes
      have hq : (k : Int) / (W : Int) = ((k / W : Nat) : Int) := by simp
      have hqk : k / W ≤ k := Nat.div_le_self _ _
      have hq1 : 0 ≤ (k : Int) / (W : Int) := by rw [hq]; exact Int.natCast_nonneg _
      have h9 : k / W ≤ 1024 := Nat.le_trans hqk (by omega)
      have hq2 : (k : Int) / (W : Int) ≤ 1024 := by rw [hq]; exact_mod_cast h9
      clear hq
      have hw0 : ((W : Int) == 0) = false := by simp; omega
      have hw1 : (W = 0) = False := by simp; omega
      clear hms hSr dv3
      generalize hx : m.getD k 0 = x at *
      have HX := Lib.hid hx
      clear hx
      go_wp2_with fail
      have hC0 := aft_drew c wr
      have hG := HSR.out.g.ext (Below.drew (Ext.refl wr))
      refine pi_start (fun w' => ∃ x : Aft c wr, w' = x.w) [] (by kernel_rfl) ?_
      refine pi_t 0 rfl (by kernel_rfl) (by kernel_rfl) (fun _ _ _ _ h => h) (fun K hK => ?_)
      go_big_quiet_op
      refine hK _ ?_
      clear hK K
      refine pi_t 1 rfl (by kernel_rfl) (by kernel_rfl) (fun _ _ _ _ h => h) (fun K hK => ?_)
      go_big_quiet_op
      refine hK _ ?_
      clear hK K
      refine pi_t 2 rfl (by kernel_rfl) (by kernel_rfl) (fun _ _ _ _ h => h) (fun K hK => ?_)
      go_big_quiet_op
      refine hK _ ?_
      clear hK K
      refine pi_t 3 rfl (by kernel_rfl) (by kernel_rfl) (fun _ _ _ _ h => h) (fun K hK => ?_)
      go_big_quiet_op
      refine hK _ ?_
      clear hK K
      refine pi_c 4 (by assumption) rfl (by kernel_rfl) (by kernel_rfl) (fun _ _ _ _ h => h) (fun K hK => ?_)
      go_big_quiet_op
      refine hK _ ?_
      clear hK K
      refine pi_t 5 rfl (by kernel_rfl) (by kernel_rfl) (fun _ _ _ _ h => h) (fun K hK => ?_)
      go_big_quiet_op
      refine hK _ ?_
      clear hK K
      refine pi_t 6 rfl (by kernel_rfl) (by kernel_rfl) (fun _ _ _ _ h => h) (fun K hK => ?_)
      go_big_quiet_op
      refine hK _ ?_
      clear hK K
      refine pi_t 7 rfl (by kernel_rfl) (by kernel_rfl) (fun _ _ _ _ h => h) (fun K hK => ?_)
      go_big_quiet_op
      refine hK _ ?_
      clear hK K
      refine pi_t 8 rfl (by kernel_rfl) (by kernel_rfl) (fun _ _ _ _ h => h) (fun K hK => ?_)
      go_big_quiet_op
      refine hK _ ?_
      clear hK K
      refine pi_t 9 rfl (by kernel_rfl) (by kernel_rfl) (fun _ _ _ _ h => h) (fun K hK => ?_)
      go_big_quiet_op
      refine hK _ ?_
      clear hK K
      refine pi_c 10 (by assumption) rfl (by kernel_rfl) (by kernel_rfl) (fun _ _ _ _ h => h) (fun K hK => ?_)
      go_big_quiet_op
      refine hK _ ?_
      clear hK K
      refine pi_t 11 rfl (by kernel_rfl) (by kernel_rfl) (fun _ _ _ _ h => h) (fun K hK => ?_)
      go_big_quiet_op
      refine hK _ ?_
      clear hK K
      refine pi_t 12 rfl (by kernel_rfl) (by kernel_rfl) (fun _ _ _ _ h => h) (fun K hK => ?_)
      go_big_quiet_op
      refine hK _ ?_
      clear hK K
      refine pi_t 13 rfl (by kernel_rfl) (by kernel_rfl) (fun _ _ _ _ h => h) (fun K hK => ?_)
      go_big_quiet_op
      refine hK _ ?_
      clear hK K
      refine pi_t 14 rfl (by kernel_rfl) (by kernel_rfl) (fun _ _ _ _ h => h) (fun K hK => ?_)
      go_big_quiet_op
      refine hK _ ?_
      clear hK K
      refine pi_t 15 rfl (by kernel_rfl) (by kernel_rfl) (fun _ _ _ _ h => h) (fun K hK => ?_)
      go_big_quiet_op
      refine hK _ ?_
      clear hK K
      refine pi_t 16 rfl (by kernel_rfl) (by kernel_rfl) (fun _ _ _ _ h => h) (fun K hK => ?_)
      go_big_quiet_op
      refine hK _ ?_
      clear hK K
      refine pi_c 17 (by assumption) rfl (by kernel_rfl) (by kernel_rfl) (fun _ _ _ _ h => h) (fun K hK => ?_)
      go_big_quiet_op
      refine hK _ ?_
      clear hK K
      refine pi_t 18 rfl (by kernel_rfl) (by kernel_rfl) (fun _ _ _ _ h => h) (fun K hK => ?_)
      go_big_quiet_op
      refine hK _ ?_
      clear hK K
      refine pi_t 19 rfl (by kernel_rfl) (by kernel_rfl) (fun _ _ _ _ h => h) (fun K hK => ?_)
      go_big_quiet_op
      refine hK _ ?_
      clear hK K
      refine pi_l 20 rfl (by kernel_rfl) (fun K hK => ?_)
      go_wp2_with (go_at_call 257; refine (Put_i b c R W _ _ hG _ _ (k / W) (k % W) (by simp) (by simp) dv1 dv2 x).mono ?_; rintro e w' ⟨rfl, rfl⟩)
      refine hK _ _ (fun _ h => aft_put h _) ?_
      clear hK K
      refine pi_end (by kernel_rfl) ?_
      rw [HDV.out]
      go_wp2
      go_roundw
      case rel =>
        refine ⟨k + 1, by omega, by go_num, ?_, ?_⟩
        · rw [← HMS.out]
          exact (HSR.out.setl (by rw [mixL_len]; exact hgo) hxi).ext (Below.drew (Ext.refl _))
        · exact (mod_put' hM _).trans (Ext.mod _ (Below.drew (Ext.refl _)))
      case measure => simp [intOf]; omega
    · obtain rfl : k = N := by omega
      have e : mixL (fun j => m.getD j 0) (fun j => l.getD j 0) k k = m := by
        apply list_ext_getD
        · rw [mixL_len, HL.out]
        · intro i hi
          rw [mixL_len] at hi
          rw [mixL_get _ _ hi, if_pos hi]
      rw [e] at hSr
      have HSR := Lib.hid hSr
      clear hSr e
      go_wp2
      go_ret
      exact ⟨rfl, HSR.out, (hb1.mod _).trans hM⟩
end Go.Proofs.YtfhdjekpdifajaaGreat
namespace Go.Proofs.YtfhdjekpdifajaaGreat
set_option linter.unusedVariables false
open Go.RowKit
/-- Updates that lie at a place. -/
def UCells (W : World) (g off : Nat) (l : List (Int × Int)) : Prop :=
  ∀ k, k < l.length → W.cell? ⟨g, off + k * 2, none⟩ = some (.int .u64 (l.getD k (0, 0)).1) ∧ W.cell? ⟨g, off + k * 2 + 1, none⟩ = some (.int .i64 (l.getD k (0, 0)).2)
theorem UCells.ext {W W' : World} {g off : Nat} {l : List (Int × Int)} (h : UCells W g off l) (hg : g < W.heap.size) (he : Ext W W') : UCells W' g off l :=
  fun k hk => ⟨((bcell he).1 _ _ hg).trans (h k hk).1, ((bcell he).1 _ _ hg).trans (h k hk).2⟩
theorem UCells.take {W : World} {g off : Nat} {l : List (Int × Int)} (h : UCells W g off l) (n : Nat) : UCells W g off (l.take n) := by
  intro k hk
  rw [List.length_take] at hk
  have := h k (by omega)
  have e : (l.take n).getD k (0, 0) = l.getD k (0, 0) := by
    rw [List.getD_eq_getElem?_getD, List.getD_eq_getElem?_getD, List.getElem?_take_of_lt (by omega)]
  rw [e]; exact this
theorem UCells.drop {W : World} {g off : Nat} {l : List (Int × Int)} (h : UCells W g off l) (n : Nat) : UCells W g (off + n * 2) (l.drop n) := by
  intro k hk
  rw [List.length_drop] at hk
  have := h (n + k) (by omega)
  have e : (l.drop n).getD k (0, 0) = l.getD (n + k) (0, 0) := by
    rw [List.getD_eq_getElem?_getD, List.getD_eq_getElem?_getD, List.getElem?_drop]
  rw [e, show off + n * 2 + k * 2 = off + (n + k) * 2 by omega]; exact this
section
variable {P : Program}
end
end Go.Proofs.YtfhdjekpdifajaaGreat
namespace Go.Proofs.YtfhdjekpdifajaaGreat
set_option linter.unusedVariables false
open Go.RowKit
section
variable {P : Program}
end
theorem own_keepB {w w' : World} {base n size : Nat} {e : TypeId} {v : Value} {xs : List Value} (h : w.ownsRow base e size v n xs) (hk : ∀ k, v.ownBlock = some k → w'.heap[k]? = w.heap[k]?) : w'.ownsRow base e size v n xs := by
  refine ⟨h.1, ?_⟩
  rcases h.2 with h' | ⟨g, cap, cur, rfl, hb, hh, hr⟩
  · exact .inl h'
  · exact .inr ⟨g, cap, cur, rfl, hb, (hk g rfl).trans hh, hr⟩
theorem own_lt {w : World} {base n size : Nat} {e : TypeId} {v : Value} {xs : List Value} (h : w.ownsRow base e size v n xs) {k : Nat} (hk : v.ownBlock = some k) : k < w.heap.size := by
  obtain ⟨cur, hc⟩ := own_type h hk; exact lt_of hc
theorem own_notB {w : World} {base n size b : Nat} {e t : TypeId} {v : Value} {xs : List Value} {cur : Array Value} (h : w.ownsRow base e size v n xs) (hb : w.heap[b]? = some (.cells cur t (0, 0))) (ht : t ≠ e) : v.ownBlock ≠ some b := by
  intro hk
  obtain ⟨cur', hc⟩ := own_type h hk
  rw [hb] at hc
  injection hc with hc
  injection hc with _ hc _
  exact ht hc
/-- Two rows do not lie in one block. -/
def Dja (v u : Value) : Prop := ∀ i, v.ownBlock = some i → u.ownBlock ≠ some i
theorem Dja.symm {v u : Value} (h : Dja v u) : Dja u v := fun i h1 h2 => h i h2 h1
/-- Two rows of pieces that lie apart, each in a box. -/
structure CovW (w W : World) (b6 b8 : Nat) (v6 v8 : Value) (pre suf : List (Nat × Int)) : Prop where
  x6 : W.heap[b6]? = some (.cells #[v6] 165 (0, 0))
  x8 : W.heap[b8]? = some (.cells #[v8] 165 (0, 0))
  o6 : W.ownsRow w.heap.size 39 2 v6 pre.length (pcV pre)
  o8 : W.ownsRow w.heap.size 39 2 v8 suf.length (pcV suf)
  dj : Dja v6 v8
  g6 : w.heap.size ≤ b6
  g8 : w.heap.size ≤ b8
  ne : b6 ≠ b8
  ext : Ext w W
theorem CovW.symm {w W : World} {b6 b8 : Nat} {v6 v8 : Value} {pre suf : List (Nat × Int)} (h : CovW w W b6 b8 v6 v8 pre suf) : CovW w W b8 b6 v8 v6 suf pre := ⟨h.x8, h.x6, h.o8, h.o6, h.dj.symm, h.g8, h.g6, h.ne.symm, h.ext⟩
theorem CovW.set {w W : World} {b6 b8 : Nat} {v6 v8 : Value} {pre suf : List (Nat × Int)} (h : CovW w W b6 b8 v6 v8 pre suf) : CovW w (W.setCell ⟨b6, 0, none⟩ v6) b6 b8 v6 v8 pre suf :=
  ⟨by rw [setCell_same h.x6]; rfl, by rw [setCell_other _ _ h.ne.symm]; exact h.x8, own_keepB h.o6 (fun k hk => setCell_other _ _ (fun e => own_notB h.o6 h.x6 (by decide) (e ▸ hk))), own_keepB h.o8 (fun k hk => setCell_other _ _ (fun e => own_notB h.o8 h.x6 (by decide) (e ▸ hk))), h.dj, h.g6, h.g8, h.ne, h.ext.setR (p := ⟨b6, 0, none⟩) h.g6 _⟩
end Go.Proofs.YtfhdjekpdifajaaGreat
namespace Go.Proofs.YtfhdjekpdifajaaGreat
set_option linter.unusedVariables false
open Go.RowKit
/-- Where it lies: its block, its row of rows, its rows, and how many cells they could have. -/
structure Gr where
  g : Nat
  m : Nat
  r : Nat → Nat
  c : Nat → Nat
def Gr.foot (G : Gr) (R : Nat) (k : Nat) : Prop := k = G.g ∨ k = G.m ∨ ∃ r, r < R ∧ k = G.r r
def Gr.row (G : Gr) (W r : Nat) : Value := .slice (some ⟨G.r r, 0, none⟩) W (G.c r)
structure RGAt (w : World) (G : Gr) (R W : Nat) (l : List Int) : Prop where
  ex : ∃ cap, w.heap[G.g]? = some (.cells #[.slice (some ⟨G.m, 0, none⟩) R cap] 161 (0, 0)) ∧ R ≤ cap
  row : ∃ cur, w.heap[G.m]? = some (.cells cur 43 (0, 0)) ∧ ∀ r, r < R → cur[r]? = some (G.row W r)
  cells : ∀ r, r < R → ∃ cur, w.heap[G.r r]? = some (.cells cur 2 (0, 0)) ∧ ∀ k, k < W → cur[k]? = some (.int .i64 (l.getD (r * W + k) 0))
  capc : ∀ r, r < R → W ≤ G.c r
  sep : ∀ r q, r < R → q < R → r ≠ q → G.r r ≠ G.r q
  len : l.length = R * W
  r1 : 1 ≤ R
  r2 : R ≤ 8
  w1 : 1 ≤ W
  w2 : W ≤ 128
section
variable {w : World} {G : Gr} {R W : Nat} {l : List Int}
theorem RGAt.ltg (h : RGAt w G R W l) : G.g < w.heap.size := by obtain ⟨cap, h1, _⟩ := h.ex; exact lt_of h1
theorem RGAt.ltm (h : RGAt w G R W l) : G.m < w.heap.size := by obtain ⟨cur, h1, _⟩ := h.row; exact lt_of h1
theorem RGAt.ltr (h : RGAt w G R W l) {r : Nat} (hr : r < R) : G.r r < w.heap.size := by obtain ⟨cur, h1, _⟩ := h.cells r hr; exact lt_of h1
theorem RGAt.lt (h : RGAt w G R W l) {k : Nat} (hk : G.foot R k) : k < w.heap.size := by
  rcases hk with rfl | rfl | ⟨r, hr, rfl⟩
  · exact h.ltg
  · exact h.ltm
  · exact h.ltr hr
theorem RGAt.ngr (h : RGAt w G R W l) {r : Nat} (hr : r < R) : G.g ≠ G.r r := by
  obtain ⟨cap, h1, _⟩ := h.ex
  obtain ⟨cur, h2, _⟩ := h.cells r hr
  exact blk_ne h1 h2 (by decide)
theorem RGAt.nmr (h : RGAt w G R W l) {r : Nat} (hr : r < R) : G.m ≠ G.r r := by
  obtain ⟨c1, h1, _⟩ := h.row
  obtain ⟨cur, h2, _⟩ := h.cells r hr
  exact blk_ne h1 h2 (by decide)
theorem RGAt.ngm (h : RGAt w G R W l) : G.g ≠ G.m := by
  obtain ⟨cap, h1, _⟩ := h.ex
  obtain ⟨cur, h2, _⟩ := h.row
  exact blk_ne h1 h2 (by decide)
theorem RGAt.keep {w' : World} (h : RGAt w G R W l) (hk : ∀ k, G.foot R k → w'.heap[k]? = w.heap[k]?) : RGAt w' G R W l :=
  ⟨by rw [hk _ (.inl rfl)]; exact h.ex, by rw [hk _ (.inr (.inl rfl))]; exact h.row, fun r hr => by rw [hk _ (.inr (.inr ⟨r, hr, rfl⟩))]; exact h.cells r hr, h.capc, h.sep, h.len, h.r1, h.r2, h.w1, h.w2⟩
theorem RGAt.ext {w' : World} (h : RGAt w G R W l) (he : Ext w w') : RGAt w' G R W l := h.keep fun k hk => he.block k (h.lt hk)
theorem RGAt.mod {S : Nat → Prop} {w' : World} (h : RGAt w G R W l) (he : Mod S w w') (hn : ∀ k, G.foot R k → ¬ S k) : RGAt w' G R W l := h.keep fun k hk => he.block k (h.lt hk) (hn k hk)
theorem RGAt.cg (h : RGAt w G R W l) : ∃ cap, w.cell? ⟨G.g, 0, none⟩ = some (.slice (some ⟨G.m, 0, none⟩) R cap) ∧ R ≤ cap := by
  obtain ⟨cap, h1, h2⟩ := h.ex
  exact ⟨cap, (cell_of h1 0).trans rfl, h2⟩
theorem RGAt.cm (h : RGAt w G R W l) {r : Nat} (hr : r < R) : w.cell? ⟨G.m, r, none⟩ = some (.slice (some ⟨G.r r, 0, none⟩) W (G.c r)) := by
  obtain ⟨cur, h1, h2⟩ := h.row
  rw [cell_of h1]; exact h2 r hr
theorem RGAt.fm (h : RGAt w G R W l) (r : Nat) : w.frozen? ⟨G.m, r, none⟩ = false := by
  obtain ⟨cur, h1, h2⟩ := h.row
  exact frozen_of h1 r
theorem RGAt.cr (h : RGAt w G R W l) {r k : Nat} (hr : r < R) (hk : k < W) : w.cell? ⟨G.r r, k, none⟩ = some (.int .i64 (l.getD (r * W + k) 0)) := by
  obtain ⟨cur, h1, h2⟩ := h.cells r hr
  rw [cell_of h1]; exact h2 k hk
theorem RGAt.fr (h : RGAt w G R W l) {r : Nat} (hr : r < R) (k : Nat) : w.frozen? ⟨G.r r, k, none⟩ = false := by
  obtain ⟨cur, h1, h2⟩ := h.cells r hr
  exact frozen_of h1 k
/-- A row of its cells. -/
def rowL (l : List Int) (W r : Nat) : List Int := (List.range W).map fun k => l.getD (r * W + k) 0
theorem rowL_len (l : List Int) (W r : Nat) : (rowL l W r).length = W := by simp [rowL]
theorem rowL_get {l : List Int} {W r k : Nat} (hk : k < W) : (rowL l W r).getD k 0 = l.getD (r * W + k) 0 := by simp [rowL, hk]
theorem RGAt.ints (h : RGAt w G R W l) {r : Nat} (hr : r < R) : IntsAt w (.slice (some ⟨G.r r, 0, none⟩) W (G.c r)) (rowL l W r) :=
  .inr ⟨G.r r, 0, G.c r, by rw [rowL_len], h.ltr hr, fun k hk => by rw [rowL_len] at hk; rw [Nat.zero_add, rowL_get hk]; exact h.cr hr hk⟩
/-- One cell set. -/
theorem RGAt.set (h : RGAt w G R W l) {r k : Nat} (hr : r < R) (hk : k < W) (x : Int) : RGAt (w.setCell ⟨G.r r, k, none⟩ (.int .i64 x)) G R W (l.set (r * W + k) x) := by
  have hlt : r * W + k < l.length := by
    rw [h.len]
    calc r * W + k < r * W + W := by omega
      _ = (r + 1) * W := by rw [Nat.add_mul, Nat.one_mul]
      _ ≤ R * W := Nat.mul_le_mul_right W hr
  refine ⟨by rw [setCell_other _ _ (h.ngr hr)]; exact h.ex, by rw [setCell_other _ _ (h.nmr hr)]; exact h.row, fun q hq => ?_, h.capc, h.sep, by rw [List.length_set]; exact h.len, h.r1, h.r2, h.w1, h.w2⟩
  obtain ⟨cur, h1, h2⟩ := h.cells q hq
  by_cases e : q = r
  · subst e
    refine ⟨_, setCell_same h1 _ _, fun j hj => ?_⟩
    by_cases ej : j = k
    · subst ej
      have hsz : j < cur.size := by
        have := h2 j hj
        rw [Array.getElem?_eq_some_iff] at this
        exact this.1
      rw [Array.getElem?_setIfInBounds_self_of_lt hsz, List.getD_eq_getElem?_getD, List.getElem?_set_self hlt]
      rfl
    · rw [Array.getElem?_setIfInBounds_ne (fun e => ej e.symm), h2 j hj, List.getD_eq_getElem?_getD, List.getD_eq_getElem?_getD, List.getElem?_set_ne (by omega)]
  · refine ⟨cur, by rw [setCell_other _ _ (h.sep q r hq hr e)]; exact h1, fun j hj => ?_⟩
    rw [h2 j hj, List.getD_eq_getElem?_getD, List.getD_eq_getElem?_getD, List.getElem?_set_ne (at_ne hk hj (.inl fun e' => e e'.symm))]
theorem mod_rset {w : World} {G : Gr} {R r : Nat} (hr : r < R) (k : Nat) (v : Value) : Mod (G.foot R) w (w.setCell ⟨G.r r, k, none⟩ v) :=
  ⟨rfl, rfl, rfl, by rw [size_setCell]; exact Nat.le_refl _, fun j _ hj => setCell_other _ _ (fun e => hj (.inr (.inr ⟨r, hr, e⟩)))⟩
end
/-- Rows that have been made. -/
structure GMade (w : World) (B0 : Nat) (G : Gr) (W k : Nat) (v : Value) (f : Nat → Nat → Int) : Prop where
  row : w.ownsRow B0 43 1 v ((List.range k).map (G.row W)).length ((List.range k).map (G.row W))
  cells : ∀ r, r < k → ∃ cur, w.heap[G.r r]? = some (.cells cur 2 (0, 0)) ∧ ∀ j, j < W → cur[j]? = some (.int .i64 (f r j))
  capc : ∀ r, r < k → W ≤ G.c r
  new : ∀ r, r < k → B0 ≤ G.r r
  sep : ∀ r q, r < k → q < k → r ≠ q → G.r r ≠ G.r q
theorem GMade.zero (w : World) (B0 : Nat) (G : Gr) (W : Nat) (f : Nat → Nat → Int) : GMade w B0 G W 0 (.slice none 0 0) f :=
  ⟨⟨rfl, .inl ⟨rfl, rfl⟩⟩, by intros; omega, by intros; omega, by intros; omega, by intros; omega⟩
theorem GMade.ext {w w' : World} {B0 W k : Nat} {G : Gr} {v : Value} {f : Nat → Nat → Int} (h : GMade w B0 G W k v f) (he : Ext w w') : GMade w' B0 G W k v f :=
  ⟨own_ext h.row he, fun r hr => by obtain ⟨cur, h1, h2⟩ := h.cells r hr; exact ⟨cur, he.keep h1, h2⟩, h.capc, h.new, h.sep⟩
theorem GMade.lt {w : World} {B0 W k : Nat} {G : Gr} {v : Value} {f : Nat → Nat → Int} (h : GMade w B0 G W k v f) {r : Nat} (hr : r < k) : G.r r < w.heap.size := by
  obtain ⟨cur, h1, _⟩ := h.cells r hr; exact lt_of h1
theorem GMade.setc {w : World} {B0 W k : Nat} {G : Gr} {v : Value} {f : Nat → Nat → Int} (h : GMade w B0 G W k v f) {b : Nat} (hb : b < B0) (o : Nat) (u : Value) : GMade (w.setCell ⟨b, o, none⟩ u) B0 G W k v f :=
  ⟨own_setc h.row hb o u, fun r hr => by obtain ⟨cur, h1, h2⟩ := h.cells r hr; exact ⟨cur, by rw [setCell_other _ _ (by have := h.new r hr; omega)]; exact h1, h2⟩, h.capc, h.new, h.sep⟩
/-- A row that the call has made. -/
theorem own_row1 {w : World} {N : Nat} {u : Value} {xs : List Int} (h : w.ownsRow N 2 1 u xs.length (ints xs)) (hx : 0 < xs.length) :
    ∃ z cap cur, u = .slice (some ⟨z, 0, none⟩) xs.length cap ∧ xs.length ≤ cap ∧ N ≤ z ∧ w.heap[z]? = some (.cells cur 2 (0, 0)) ∧ ∀ j, j < xs.length → cur[j]? = some (.int .i64 (xs.getD j 0)) := by
  obtain ⟨z, cap, hv, hz, hc⟩ := CAt.of_row h hx
  obtain ⟨cur, h1, h2, h3⟩ := hc.ex
  exact ⟨z, cap, cur, hv, hc.le, hz, h1, fun j hj => by rw [← cell_of h1]; exact hc.cell hj⟩
/-- One more. -/
theorem GMade.next {w w' : World} {B0 W k N : Nat} {G : Gr} {v v' : Value} {f : Nat → Nat → Int} {z cap : Nat} {cur : Array Value} {o : Obj} (h : GMade w B0 G W k v f)
    (hz : w.heap[z]? = some (.cells cur 2 (0, 0))) (hf : ∀ j, j < W → cur[j]? = some (.int .i64 (f k j))) (hcap : W ≤ cap) (hN : ∀ r, r < k → G.r r < N) (hB : B0 ≤ N) (hzN : N ≤ z)
    (hown : w'.ownsRow B0 43 1 v' ((List.range k).map (G.row W) ++ [Value.slice (some ⟨z, 0, none⟩) W cap]).length ((List.range k).map (G.row W) ++ [Value.slice (some ⟨z, 0, none⟩) W cap])) (hg : (w.alloc o).grownBy w' v.ownBlock) :
    GMade w' B0 ⟨G.g, G.m, fun r => if r = k then z else G.r r, fun r => if r = k then cap else G.c r⟩ W (k + 1) v' f := by
  have hold : ∀ (j : Nat) (cu : Array Value), w.heap[j]? = some (Obj.cells cu 2 (0, 0)) → w'.heap[j]? = some (Obj.cells cu 2 (0, 0)) := fun j cu hj =>
    (grown_old hg (lt_of hj) (fun e => own_notB h.row hj (by decide) e.symm)).trans hj
  refine ⟨?_, fun r hr => ?_, fun r hr => ?_, fun r hr => ?_, fun r q hr hq hrq => ?_⟩
  · have e : (List.range (k + 1)).map (Gr.row ⟨G.g, G.m, fun r => if r = k then z else G.r r, fun r => if r = k then cap else G.c r⟩ W) = (List.range k).map (G.row W) ++ [Value.slice (some ⟨z, 0, none⟩) W cap] := by
      rw [List.range_succ, List.map_append]
      congr 1
      · apply List.map_congr_left
        intro i hi
        rw [List.mem_range] at hi
        simp only [Gr.row, if_neg (show ¬ i = k by omega)]
      · simp [Gr.row]
    rw [e]; exact hown
  · by_cases e : r = k
    · subst e
      refine ⟨cur, ?_, hf⟩
      simp only [if_pos]
      exact hold _ _ hz
    · obtain ⟨cu, h1, h2⟩ := h.cells r (by omega)
      refine ⟨cu, ?_, h2⟩
      simp only [if_neg e]
      exact hold _ _ h1
  · by_cases e : r = k
    · simp only [if_pos e]; exact hcap
    · simp only [if_neg e]; exact h.capc r (by omega)
  · by_cases e : r = k
    · simp only [if_pos e]; omega
    · simp only [if_neg e]; exact h.new r (by omega)
  · by_cases e : r = k
    · subst e
      simp only [if_pos, if_neg (show ¬ q = r by omega)]
      have := hN q (by omega)
      omega
    · by_cases e' : q = k
      · subst e'
        simp only [if_pos, if_neg e]
        have := hN r (by omega)
        omega
      · simp only [if_neg e, if_neg e']
        exact h.sep r q (by omega) (by omega) hrq
/-- All rows, and the grid's own block: a grid. -/
theorem GMade.grid {w : World} {B0 R W g : Nat} {G : Gr} {v : Value} {f : Nat → Nat → Int} {l : List Int} (h : GMade w B0 G W R v f) (hg : w.heap[g]? = some (.cells #[v] 161 (0, 0)))
    (hl : l.length = R * W) (hf : ∀ r k, r < R → k < W → f r k = l.getD (r * W + k) 0) (r1 : 1 ≤ R) (r2 : R ≤ 8) (w1 : 1 ≤ W) (w2 : W ≤ 128) :
    ∃ m, B0 ≤ m ∧ RGAt w ⟨g, m, G.r, G.c⟩ R W l := by
  have hlen : ((List.range R).map (G.row W)).length = R := by simp
  rcases h.row.2 with ⟨_, h0⟩ | ⟨m, cap, cur, rfl, hbg, hm, hnc, hcm, hcs, htake⟩
  · rw [hlen] at h0; omega
  · rw [hlen] at hg hnc
    refine ⟨m, hbg, ⟨⟨cap, hg, hnc⟩, ⟨cur, hm, fun r hr => ?_⟩, fun r hr => ?_, h.capc, h.sep, hl, r1, r2, w1, w2⟩⟩
    · have hget : ((List.range R).map (G.row W))[r]? = some (G.row W r) := by rw [List.getElem?_map, List.getElem?_range hr]; rfl
      have h1 := h.row.cells (g := m) rfl r _ hget
      rw [show ((⟨m, 0, none⟩ : Addr).add r) = ⟨m, r, none⟩ by (simp [Addr.add]; intro e; exact e.symm), cell_of hm] at h1
      exact h1
    · obtain ⟨cu, h1, h2⟩ := h.cells r hr
      exact ⟨cu, h1, fun k hk => by rw [h2 k hk, hf r k hr hk]⟩
theorem info_row : ∃ i z, Tryz.prog.info? 43 = some i ∧ i.zero = some z ∧ i.size = 1 ∧ i.bytes = 24 ∧ z.cells.size = 1 := by
  have h : (Tryz.prog.info? 43).map (fun i => (i.zero, i.size, i.bytes)) = some (some (.slice none 0 0), 1, 24) := by kernel_rfl
  match hi : Tryz.prog.info? 43, h with
  | some i, h =>
    simp only [Option.map_some, Option.some.injEq, Prod.mk.injEq] at h
    exact ⟨i, .slice none 0 0, rfl, h.1, h.2.1, h.2.2, rfl⟩
section
variable {P : Program}
/-- 's = append(s, x)', x of one cell and so many bytes, s a row of the call's own. -/
theorem wpList_appB (W : World) {ops : Array Oper} {rest : List Oper} {o : Oper} {a : Act} {Q : Exit → Act → World → Prop} (by_ : Nat) (hby : by_ ≤ 64) (x : Value) (hx1 : x.oneCell' = true) (xs : List Value) (v : Value) (base : Nat) (e : TypeId) (hown : W.ownsRow base e 1 v xs.length xs) (t : TypeId)
    (hgd : o.guard = none) (s y : Operand) (ho : o.op = .call { callee := .builtin .append, args := #[s, y], argTypes := #[t, t] })
    (i0 : TypeInfo) (z0 : Value) (hi : P.info? e = some i0) (hz0 : i0.zero = some z0) (hz1 : i0.size = 1) (hz2 : i0.bytes = by_) (hz3 : z0.cells.size = 1) (ht : P.underlying t = some (.slice e))
    (hs : a.eval s = v) (hx : a.eval y = .slice (some ⟨W.heap.size, 0, none⟩) 1 1)
    (hl : xs.length ≤ 1000000) (hbase : base ≤ W.heap.size)
    (h : ∀ v' w', w'.ownsRow base e 1 v' (xs ++ [x]).length (xs ++ [x]) → (W.alloc (.cells #[x] e)).grownBy w' v.ownBlock → wpList P ops Q rest (a.put o.dst v') w') :
    wpList P ops Q (o :: rest) a (W.alloc (.cells #[x] e)) := by
  refine wpList_append_sep _ hgd s y t ho base e i0 z0 1 by_ ht hi hz0 hz1 hz2 hz3 (by decide) v xs.length xs hs (hown.alloc _) ⟨W.heap.size, 0, none⟩ 1 1 [x] hx rfl ?_ ?_ (by unfold maxLen; omega) ?_ (by rw [size_alloc]; omega) ?_
  · intro j u hu
    have hj : j = 0 := by
      have := (List.getElem?_eq_some_iff.1 hu).1
      simp at this; exact this
    subst hj
    rw [show (⟨W.heap.size, 0, none⟩ : Addr).add 0 = ⟨W.heap.size, 0, none⟩ by simp [Addr.add], cell_of (heap_at W _ rfl) 0]
    exact hu
  · intro u hu
    simp at hu
    subst hu
    exact hx1
  · have : (xs.length + 1) * by_ ≤ 1000001 * 64 := Nat.mul_le_mul (by omega) hby
    omega
  · intro v' w' h1 h2 h3
    refine h v' w' ?_ h2
    rw [List.length_append]
    exact h1
end
end Go.Proofs.YtfhdjekpdifajaaGreat
