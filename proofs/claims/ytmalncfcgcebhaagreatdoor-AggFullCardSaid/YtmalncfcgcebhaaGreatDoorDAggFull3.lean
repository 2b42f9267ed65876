/- Part. No condition. -/
import Derived.Test.YtmalncfcgcebhaaGreatDoorDAggFull1
import Derived.Test.YtmalncfcgcebhaaGreatDoorDAggFull2
import Derived.RangeFuncNested
import Derived.RangeFuncBound
import Derived.RangeFuncCalls
import Derived.RangeFuncLeaves
import Derived.Shelf.Abstract
import Derived.Shelf.RegionOpen
import Derived.WalkKit
import Derived.OwnWalkIn
import Derived.TacticsInMore
import Derived.LoopNIn
import Derived.LoopIn
import Derived.RangeFuncFrom
namespace Go.Proofs.YtmalncfcgcebhaaGreatDoor
set_option linter.unusedVariables false
open Go.RowKit
def updV (ps : List (Int × Int)) : List Value := ps.flatMap fun u => [.int .u64 u.1, .int .i64 u.2]
theorem updV_len (ps : List (Int × Int)) : (updV ps).length = ps.length * 2 := by
  induction ps with
  | nil => rfl
  | cons u ps ih =>
    have : updV (u :: ps) = .int .u64 u.1 :: .int .i64 u.2 :: updV ps := rfl
    rw [this, List.length_cons, List.length_cons, List.length_cons, ih]; omega
theorem updV_at {ps : List (Int × Int)} : ∀ {k : Nat} (h : k < ps.length), (updV ps)[k * 2]? = some (.int .u64 (ps.getD k (0, 0)).1) ∧ (updV ps)[k * 2 + 1]? = some (.int .i64 (ps.getD k (0, 0)).2) := by
  induction ps with
  | nil => intro k h; simp at h
  | cons u ps ih =>
    intro k h
    have e : updV (u :: ps) = .int .u64 u.1 :: .int .i64 u.2 :: updV ps := rfl
    rw [e]
    cases k with
    | zero => exact ⟨rfl, rfl⟩
    | succ k =>
      have := ih (k := k) (by simpa using h)
      rw [show (k + 1) * 2 = k * 2 + 1 + 1 by omega]
      simp only [List.getElem?_cons_succ, List.getD_cons_succ]
      exact this
theorem UpsAt.of_row {w : World} {base : Nat} {e : TypeId} {v : Value} {n : Nat} {ps : List (Int × Int)} (h : w.ownsRow base e 2 v n (updV ps)) : UpsAt w v ps := by
  obtain ⟨h1, h2⟩ := h
  have hn : n = ps.length := by rw [updV_len] at h1; omega
  subst hn
  rcases h2 with ⟨h2, h3⟩ | ⟨g, cap, cur, rfl, _, hh, hc, _, hs, ht⟩
  · refine .inl ⟨⟨_, h2⟩, ?_⟩
    exact List.length_eq_zero_iff.1 h3
  · refine .inr ⟨g, 0, cap, rfl, lt_of hh, fun k hk => ?_⟩
    obtain ⟨a1, a2⟩ := updV_at hk
    rw [← ht] at a1 a2
    rw [List.getElem?_take_of_lt (by omega)] at a1 a2
    simp only [Array.getElem?_toList] at a1 a2
    rw [cell_of hh, cell_of hh, Nat.zero_add]
    exact ⟨a1, a2⟩
section
variable {P : Program}
end
end Go.Proofs.YtmalncfcgcebhaaGreatDoor
namespace Go.Proofs.YtmalncfcgcebhaaGreatDoor
set_option linter.unusedVariables false
open Go.RowKit
section
variable {P : Program} {w : World}
end
/-- A world in which what W has is as it was, but for block c. -/
structure Aft (c : Nat) (W : World) where
  w : World
  h : Mod (fun i => i = c) W w
instance (c : Nat) (W : World) : Nonempty (Aft c W) := ⟨⟨W, Mod.refl _ W⟩⟩
@[go_sem] theorem Aft.cell {c : Nat} {W : World} (x : Aft c W) {b o : Nat} (h : b < W.heap.size) (hn : b ≠ c) : x.w.cell? ⟨b, o, none⟩ = W.cell? ⟨b, o, none⟩ := mcell x.h h hn o
theorem SAt.setl {w : World} {s b c : Nat} {C : Cfg} {lv : Int} {R W : Nat} {l : List Int} (h : SAt w s b c C lv R W l) {i : Nat} (hi : i < l.length) {n : Int} (hn : I64 n) : SAt (w.setCell ⟨c, i, none⟩ (.int .i64 n)) s b c C lv R W (l.set i n) :=
  ⟨by rw [setCell_other _ _ h.nes]; exact h.ex, h.g.set hi n, h.ok, h.lo, h.hi, h.hr, h.hw, fun x hx => by
    rcases List.mem_or_eq_of_mem_set hx with h1 | h1
    · exact h.fit x h1
    · rw [h1]; exact hn⟩
end Go.Proofs.YtmalncfcgcebhaaGreatDoor
namespace Go.Proofs.YtmalncfcgcebhaaGreatDoor
set_option linter.unusedVariables false
open Go.RowKit
/-- Is a level exact? -/
def isX (C : Cfg) (lv : Int) : Bool := decide (keys C lv ≤ C.width)
def kN (C : Cfg) (lv : Int) : Nat := (keys C lv).toNat
theorem kN_eq {C : Cfg} (h : C.Ok) {lv : Int} (h0 : 0 ≤ lv) : keys C lv = (kN C lv : Int) := by
  have := (keys_bd C h lv h0).1
  unfold kN; omega
set_option maxRecDepth 20000 in
set_option maxHeartbeats 2000000 in
theorem Exact_c (C : Cfg) (h : C.Ok) (lv : Int) (h0 : 0 ≤ lv) (h1 : lv ≤ C.bits) (w : World) :
    Calls Tryz.prog 105 #[.agg #[.int .i64 C.bits, .int .i64 C.rows, .int .i64 C.width, .int .i64 C.mode, .int .u64 C.seed], .int .i64 lv] w fun e w' => e = .returned (.bool (isX C lv)) ∧ Ext w w' := by
  have hk := keys_bd C h lv h0
  have w1' := h.w1
  have w2' := h.w2
  have hI : isX C lv = decide (keys C lv ≤ C.width) := rfl
  go_enter Tryz.func105, Tryz.ntmps105
  go_wp2_with fail
  refine (Keys_c C h lv h0 h1 _).mono ?_
  rintro e w1 ⟨rfl, hb⟩
  have hE : Ext w w1 := by (repeat' (first | exact Ext.refl _ | assumption | apply Ext.allocR | apply Ext.drewR | apply Ext.drewNR | (refine Ext.trans' ?_ (by assumption))))
  have hC := (CfgAt.box (w := w) C 24 rfl).ext hb
  have c2 := hC.c2
  have cl := hC.lt
  have HI := Lib.hid hI
  generalize keys C lv = N at *
  clear hb hI hC
  by_cases hx : N ≤ C.width
  · go_wp2
    go_ret
    exact ⟨by rw [HI.out, decide_eq_true hx]; rfl, hE⟩
  · go_wp2
    go_ret
    exact ⟨by rw [HI.out, decide_eq_false (by omega)]; rfl, hE⟩
/-- An array. -/
structure EAt (w : World) (s b c : Nat) (C : Cfg) (lv : Int) (K : Nat) (l : List Int) : Prop where
  ex : w.heap[s]? = some (.cells #[.int .i64 C.bits, .int .i64 C.rows, .int .i64 C.width, .int .i64 C.mode, .int .u64 C.seed, .int .i64 lv, .pointer (some ⟨b, 0, none⟩)] 310 (0, 0))
  g : GAt w b c 1 K l
  ok : C.Ok
  lo : 0 ≤ lv
  hi : lv ≤ C.bits
  hk : keys C lv = K
  fit : ∀ x ∈ l, I64 x
theorem EAt.lts {w : World} {s b c : Nat} {C : Cfg} {lv : Int} {K : Nat} {l : List Int} (h : EAt w s b c C lv K l) : s < w.heap.size := lt_of h.ex
theorem EAt.keep {w w' : World} {s b c : Nat} {C : Cfg} {lv : Int} {K : Nat} {l : List Int} (h : EAt w s b c C lv K l) (hs : w'.heap[s]? = w.heap[s]?) (hb : w'.heap[b]? = w.heap[b]?) (hc : w'.heap[c]? = w.heap[c]?) : EAt w' s b c C lv K l :=
  ⟨by rw [hs]; exact h.ex, h.g.keep hb hc, h.ok, h.lo, h.hi, h.hk, h.fit⟩
theorem EAt.ext {w w' : World} {s b c : Nat} {C : Cfg} {lv : Int} {K : Nat} {l : List Int} (h : EAt w s b c C lv K l) (he : Ext w w') : EAt w' s b c C lv K l :=
  h.keep (he.block s h.lts) (he.block b h.g.ltb) (he.block c h.g.ltc)
theorem EAt.nes {w : World} {s b c : Nat} {C : Cfg} {lv : Int} {K : Nat} {l : List Int} (h : EAt w s b c C lv K l) : s ≠ c := by
  intro e
  obtain ⟨cap, h1, h2⟩ := h.g.ex
  obtain ⟨cur, h3, _⟩ := h2.ex
  have := h.ex
  rw [e, h3] at this
  simp at this
theorem EAt.mod {S : Nat → Prop} {w w' : World} {s b c : Nat} {C : Cfg} {lv : Int} {K : Nat} {l : List Int} (h : EAt w s b c C lv K l) (he : Mod S w w') (h1 : ¬ S s) (h2 : ¬ S b) (h3 : ¬ S c) : EAt w' s b c C lv K l :=
  h.keep (he.block s h.lts h1) (he.block b h.g.ltb h2) (he.block c h.g.ltc h3)
theorem EAt.len {w : World} {s b c : Nat} {C : Cfg} {lv : Int} {K : Nat} {l : List Int} (h : EAt w s b c C lv K l) : l.length = K := by
  rw [h.g.len, Nat.one_mul]
def ENewPost (w : World) (C : Cfg) (lv : Int) (N : Nat) (e : Ending) (w' : World) : Prop :=
  ∃ s b c, e = .returned (.tuple #[.pointer (some ⟨s, 0, none⟩), .int .i64 0]) ∧ EAt w' s b c C lv N (zs N) ∧ w.heap.size ≤ s ∧ w.heap.size ≤ b ∧ w.heap.size ≤ c ∧ Ext w w'
set_option maxRecDepth 20000 in
set_option maxHeartbeats 2000000 in
theorem ENew_c (C : Cfg) (h : C.Ok) (lv : Int) (h0 : 0 ≤ lv) (h1 : lv ≤ C.bits) (N : Nat) (hN : keys C lv = N) (hx : isX C lv = true) (w : World) :
    Calls Tryz.prog 149 #[.agg #[.int .i64 C.bits, .int .i64 C.rows, .int .i64 C.width, .int .i64 C.mode, .int .u64 C.seed], .int .i64 lv] w (ENewPost w C lv N) := by
  have hk := keys_bd C h lv h0
  have w2' := h.w2
  have hx' : keys C lv ≤ C.width := by simpa [isX] using hx
  have HX := Lib.hid hx
  have HN := Lib.hid hN
  rw [hN] at hk hx'
  clear hx hN
  go_enter Tryz.func149, Tryz.ntmps149
  go_wp2_with fail
  refine (Exact_c C h lv h0 h1 _).mono ?_
  rintro e w1 ⟨rfl, hb⟩
  rw [HX.out]
  have hE : Ext w w1 := by (repeat' (first | exact Ext.refl _ | assumption | apply Ext.allocR | apply Ext.drewR | apply Ext.drewNR | (refine Ext.trans' ?_ (by assumption))))
  have hC := (CfgAt.box (w := w) C 24 rfl).ext hb
  have d0 := hC.c0
  have d1 := hC.c1
  have d2 := hC.c2
  have d3 := hC.c3
  have d4 := hC.c4
  have cl := hC.lt
  clear hb hC
  go_wp2
  have hC0 := af_drew w1
  refine pi_start (fun w' => ∃ x : After w1, w' = x.w) [] (by kernel_rfl) ?_
  refine pi_t 1 rfl (by kernel_rfl) (by kernel_rfl) (fun _ _ _ _ h => h) (fun K hK => ?_)
  go_big_quiet_op
  refine hK _ ?_
  clear hK K
  refine pi_t 3 rfl (by kernel_rfl) (by kernel_rfl) (fun _ _ _ _ h => h) (fun K hK => ?_)
  go_big_quiet_op
  refine hK _ ?_
  clear hK K
  refine pi_c 0 (by assumption) rfl (by kernel_rfl) (by kernel_rfl) (fun _ _ _ _ h => h) (fun K hK => ?_)
  go_big_quiet_op
  refine hK _ ?_
  clear hK K
  refine pi_c 2 (by assumption) rfl (by kernel_rfl) (by kernel_rfl) (fun _ _ _ _ h => h) (fun K hK => ?_)
  go_big_quiet_op
  refine hK _ ?_
  clear hK K
  refine pi_l 4 rfl (by kernel_rfl) (fun K hK => ?_)
  go_wp2_with (go_at_call 61; refine (Keys_c C h lv h0 h1 _).mono ?_; rintro e w2 ⟨rfl, hx2⟩)
  refine hK _ _ (fun _ h => af_step h hx2) ?_
  clear hK K
  rw [HN.out]
  refine pi_t 5 rfl (by kernel_rfl) (by kernel_rfl) (fun _ _ _ _ h => h) (fun K hK => ?_)
  go_big_quiet_op
  refine hK _ ?_
  clear hK K
  refine pi_l 6 rfl (by kernel_rfl) (fun K hK => ?_)
  go_wp2_with (go_at_call 189; refine (GNew_c 1 N _ (by decide) (by decide) (by omega) (by omega)).mono ?_; rintro e w3 ⟨gb, gc, rfl, hG, hgb, hgc, hx3⟩)
  refine hK _ _ (fun _ h => af_step h hx3) ?_
  clear hK K
  refine pi_t 7 rfl (by kernel_rfl) (by kernel_rfl) (fun _ _ _ _ h => h) (fun K hK => ?_)
  go_big_quiet_op
  refine hK _ ?_
  clear hK K
  refine pi_l 8 rfl (by kernel_rfl) (fun K hK => ?_)
  go_wp2
  refine hK _ _ (fun _ h => af_step h (Ext.alloc' _ _)) ?_
  clear hK K
  refine pi_t 9 rfl (by kernel_rfl) (by kernel_rfl) (fun _ _ _ _ h => h) (fun K hK => ?_)
  go_big_quiet_op
  refine hK _ ?_
  clear hK K
  refine pi_t 10 rfl (by kernel_rfl) (by kernel_rfl) (fun _ _ _ _ h => h) (fun K hK => ?_)
  go_big_quiet_op
  refine hK _ ?_
  clear hK K
  refine pi_end (by kernel_rfl) ?_
  go_wp2
  go_ret2
  have hx2' : Ext w1 w2 := Ext.trans' (Below.drew (Ext.refl w1)) hx2
  have hs2 := hx2'.size
  have hs3 := hx3.size
  have hs1 := hE.size
  rw [Nat.one_mul] at hG
  refine ⟨w3.heap.size, gb, gc, rfl, ⟨?_, hG.keep (heap_old _ _ hG.ltb) (heap_old _ _ hG.ltc), h, h0, h1, HN.out, ?_⟩, by omega, by omega, by omega, by (repeat' (first | exact Ext.refl _ | assumption | apply Ext.allocR | apply Ext.drewR | apply Ext.drewNR | (refine Ext.trans' ?_ (by assumption))))⟩
  · rw [heap_at _ _ rfl]
  · intro x hx
    simp only [zs, List.mem_replicate] at hx
    rw [hx.2]
    unfold I64; omega
end Go.Proofs.YtmalncfcgcebhaaGreatDoor
namespace Go.Proofs.YtmalncfcgcebhaaGreatDoor
set_option linter.unusedVariables false
open Go.RowKit
/-- What Check tells of an array. -/
def errX (C : Cfg) (lv : Int) (l : List Int) (key d : Int) : Int :=
  bif decide (key < keys C lv) then (bif decide (C.mode = 2) && decide (d < 0) then 3 else bif fitB (l.getD key.toNat 0 + d) then 0 else 4) else 2
def updX (l : List Int) (key d : Int) : List Int := l.set key.toNat (l.getD key.toNat 0 + d)
theorem errX_key {C : Cfg} {lv : Int} {l : List Int} {key d : Int} (h : keys C lv ≤ key) : errX C lv l key d = 2 := by
  unfold errX; rw [decide_eq_false (by omega)]; rfl
theorem errX_neg {C : Cfg} {lv : Int} {l : List Int} {key d : Int} (h : key < keys C lv) (hm : C.mode = 2) (hd : d < 0) : errX C lv l key d = 3 := by
  unfold errX; rw [decide_eq_true h, decide_eq_true hm, decide_eq_true hd]; rfl
theorem errX_sum {C : Cfg} {lv : Int} {l : List Int} {key d : Int} (h : key < keys C lv) (hm : ¬ (C.mode = 2 ∧ d < 0)) : errX C lv l key d = bif fitB (l.getD key.toNat 0 + d) then 0 else 4 := by
  unfold errX
  rw [decide_eq_true h]
  have : (decide (C.mode = 2) && decide (d < 0)) = false := by
    rw [Bool.and_eq_false_iff, decide_eq_false_iff_not, decide_eq_false_iff_not]
    by_cases hc : C.mode = 2
    · exact .inr (fun h => hm ⟨hc, h⟩)
    · exact .inl hc
  rw [this]; rfl
theorem At_k {b c N : Nat} {l : List Int} {w : World} (h : GAt w b c 1 N l) {key : Int} (h0 : 0 ≤ key) (h1 : key < N) :
    Calls Tryz.prog 320 #[.pointer (some ⟨b, 0, none⟩), .int .i64 0, .int .i64 key] w fun e w' => e = .returned (.int .i64 (l.getD key.toNat 0)) ∧ w = w' := by
  obtain ⟨k, rfl⟩ := Int.eq_ofNat_of_zero_le h0
  have := At_c b c 1 N l w h 0 k (by decide) (by omega)
  rw [Nat.zero_mul, Nat.zero_add] at this
  exact this
theorem Put_k {b c N : Nat} {l : List Int} {w : World} (h : GAt w b c 1 N l) {key : Int} (h0 : 0 ≤ key) (h1 : key < N) (n : Int) :
    Calls Tryz.prog 321 #[.pointer (some ⟨b, 0, none⟩), .int .i64 0, .int .i64 key, .int .i64 n] w fun e w' => e = .returned (.bool true) ∧ w.setCell ⟨c, key.toNat, none⟩ (.int .i64 n) = w' := by
  obtain ⟨k, rfl⟩ := Int.eq_ofNat_of_zero_le h0
  have := Put_c b c 1 N l w h 0 k (by decide) (by omega) n
  rw [Nat.zero_mul, Nat.zero_add] at this
  exact this
set_option maxRecDepth 20000 in
set_option maxHeartbeats 2000000 in
theorem ECheck_c (s b c : Nat) (C : Cfg) (lv : Int) (N : Nat) (l : List Int) (key d : Int) (w : World) (h : EAt w s b c C lv N l) (hd : I64 d) (hk : U64 key) :
    Calls Tryz.prog 315 #[.pointer (some ⟨s, 0, none⟩), .int .u64 key, .int .i64 d] w fun e w' => e = .returned (.int .i64 (errX C lv l key d)) ∧ Ext w w' := by
  have c3 := (cell_of h.ex 3).trans rfl
  have c6 := (cell_of h.ex 6).trans rfl
  have hlt := h.lts
  have hg := h.g
  have hN := h.hk
  have w2' := h.g.w2
  have hy := getD_i64 h.fit key.toNat
  obtain ⟨hk0, hk1⟩ := hk
  have HG := Lib.hid hg
  have HN := Lib.hid hN
  have hd' := hd
  unfold I64 at hd
  by_cases hkey : N ≤ key
  · have he := errX_key (l := l) (d := d) (show keys C lv ≤ key by rw [hN]; exact hkey)
    have HE := Lib.hid he
    clear he h hg hN
    go_enter Tryz.func315, Tryz.ntmps315
    go_wp2_with fail
    refine (Width_c b c 1 N l _ HG.out).mono ?_
    rintro e w1 ⟨rfl, rfl⟩
    go_wp2
    go_ret
    exact ⟨by rw [HE.out]; rfl, Ext.refl _⟩
  · have hkl : key < keys C lv := by rw [hN]; omega
    by_cases hm : C.mode = 2 ∧ d < 0
    · obtain ⟨hm1, hm2⟩ := hm
      have he := errX_neg (l := l) hkl hm1 hm2
      have hmb : (C.mode == 2) = true := by simpa using hm1
      have HE := Lib.hid he
      clear he h hg hN hm1 hkl
      go_enter Tryz.func315, Tryz.ntmps315
      go_wp2_with fail
      refine (Width_c b c 1 N l _ HG.out).mono ?_
      rintro e w1 ⟨rfl, rfl⟩
      go_wp2
      go_ret
      exact ⟨by rw [HE.out]; rfl, Ext.refl _⟩
    · have he := errX_sum (l := l) hkl hm
      have HE := Lib.hid he
      have hmb : ((C.mode == 2) = false) ∨ ((C.mode == 2) = true ∧ ¬ d < 0) := by
        by_cases hc : C.mode = 2
        · exact .inr ⟨by simpa using hc, fun h => hm ⟨hc, h⟩⟩
        · exact .inl (by simpa using hc)
      obtain ⟨y, hyy⟩ : ∃ y, l.getD key.toNat 0 = y := ⟨_, rfl⟩
      rw [hyy] at hy
      have HY := Lib.hid hyy
      clear he h hg hN hm hkl hyy
      have hkN : key < N := by omega
      rcases hmb with hmb | ⟨hmb, hdn⟩
      all_goals
        by_cases hf : I64 (y + d)
        · have hfb := fitB_yes hf
          go_enter Tryz.func315, Tryz.ntmps315
          go_wp2_with fail
          refine (Width_c b c 1 N l _ HG.out).mono ?_
          rintro e w1 ⟨rfl, rfl⟩
          go_wp2_with fail
          refine (At_k HG.out hk0 hkN).mono ?_
          rintro e w1 ⟨rfl, rfl⟩
          rw [HY.out]
          go_wp2_with fail
          refine (Plus_c y d hy hd' _).mono ?_
          rintro e w1 ⟨rfl, hx1⟩
          rw [hfb]
          go_wp2
          go_ret
          exact ⟨by rw [HE.out, HY.out, hfb]; rfl, hx1⟩
        · have hfb := fitB_no hf
          go_enter Tryz.func315, Tryz.ntmps315
          go_wp2_with fail
          refine (Width_c b c 1 N l _ HG.out).mono ?_
          rintro e w1 ⟨rfl, rfl⟩
          go_wp2_with fail
          refine (At_k HG.out hk0 hkN).mono ?_
          rintro e w1 ⟨rfl, rfl⟩
          rw [HY.out]
          go_wp2_with fail
          refine (Plus_c y d hy hd' _).mono ?_
          rintro e w1 ⟨rfl, hx1⟩
          rw [hfb]
          go_wp2
          go_ret
          exact ⟨by rw [HE.out, HY.out, hfb]; rfl, hx1⟩
/-- What Update does to an array. -/
def EUpdPost (w : World) (s b c : Nat) (C : Cfg) (lv : Int) (N : Nat) (l : List Int) (key d : Int) (e : Ending) (w' : World) : Prop :=
  e = .returned (.int .i64 (errX C lv l key d)) ∧
    ((errX C lv l key d = 0 ∧ EAt w' s b c C lv N (updX l key d) ∧ Mod (fun k => k = c) w w') ∨ (errX C lv l key d ≠ 0 ∧ Ext w w'))
theorem errX_zero {C : Cfg} {lv : Int} {l : List Int} {key d : Int} (h : errX C lv l key d = 0) : key < keys C lv ∧ I64 (l.getD key.toNat 0 + d) := by
  rcases Int.lt_or_le key (keys C lv) with h' | h'
  · refine ⟨h', ?_⟩
    by_cases hm : C.mode = 2 ∧ d < 0
    · rw [errX_neg h' hm.1 hm.2] at h; cases h
    · rw [errX_sum h' hm] at h
      by_cases hf : I64 (l.getD key.toNat 0 + d)
      · exact hf
      · rw [fitB_no hf] at h; cases h
  · rw [errX_key h'] at h; cases h
theorem EAt.setl {w : World} {s b c : Nat} {C : Cfg} {lv : Int} {N : Nat} {l : List Int} (h : EAt w s b c C lv N l) {i : Nat} (hi : i < l.length) {n : Int} (hn : I64 n) : EAt (w.setCell ⟨c, i, none⟩ (.int .i64 n)) s b c C lv N (l.set i n) :=
  ⟨by rw [setCell_other _ _ h.nes]; exact h.ex, h.g.set hi n, h.ok, h.lo, h.hi, h.hk, fun x hx => by
    rcases List.mem_or_eq_of_mem_set hx with h1 | h1
    · exact h.fit x h1
    · rw [h1]; exact hn⟩
set_option maxRecDepth 20000 in
set_option maxHeartbeats 2000000 in
theorem EUpdate_c (s b c : Nat) (C : Cfg) (lv : Int) (N : Nat) (l : List Int) (key d : Int) (w : World) (h : EAt w s b c C lv N l) (hd : I64 d) (hk : U64 key) :
    Calls Tryz.prog 318 #[.pointer (some ⟨s, 0, none⟩), .int .u64 key, .int .i64 d] w (EUpdPost w s b c C lv N l key d) := by
  by_cases he0 : errX C lv l key d = 0
  · have hz := errX_zero he0
    have hN := h.hk
    have w2' := h.g.w2
    have hkN : key < N := by omega
    have hsum := hz.2
    have hlen := h.len
    have HE := Lib.hid he0
    obtain ⟨hk0, hk1⟩ := hk
    clear he0 hz
    go_enter Tryz.func318, Tryz.ntmps318
    go_wp2_with fail
    refine (ECheck_c s b c C lv N l key d _ h hd ⟨hk0, hk1⟩).mono ?_
    rintro e w1 ⟨rfl, hx1⟩
    rw [HE.out]
    have h' := h.ext hx1
    have c6 := (cell_of h'.ex 6).trans rfl
    have hlt := h'.lts
    have hG := h'.g.ext (Below.drew (Ext.refl w1))
    obtain ⟨y, hyy⟩ : ∃ y, l.getD key.toNat 0 = y := ⟨_, rfl⟩
    have HY := Lib.hid hyy
    have HS := Lib.hid hsum
    rw [hyy] at hsum
    unfold I64 at hsum hd
    clear hyy hN
    have HH := Lib.hid h'
    clear h h'
    go_wp2
    have hC0 := af_drew w1
    refine pi_start (fun w' => ∃ x : After w1, w' = x.w) [15] (by kernel_rfl) ?_
    refine pi_t 0 rfl (by kernel_rfl) (by kernel_rfl) (fun _ _ _ _ h => h) (fun K hK => ?_)
    go_big_quiet_op
    refine hK _ ?_
    clear hK K
    refine pi_t 1 rfl (by kernel_rfl) (by kernel_rfl) (fun _ _ _ _ h => h) (fun K hK => ?_)
    go_big_quiet_op
    refine hK _ ?_
    clear hK K
    refine pi_t 2 rfl (by kernel_rfl) (by kernel_rfl) (fun _ _ _ _ h => h) (fun K hK => ?_)
    go_big_quiet_op
    refine hK _ ?_
    clear hK K
    refine pi_t 4 rfl (by kernel_rfl) (by kernel_rfl) (fun _ _ _ _ h => h) (fun K hK => ?_)
    go_big_quiet_op
    refine hK _ ?_
    clear hK K
    refine pi_t 5 rfl (by kernel_rfl) (by kernel_rfl) (fun _ _ _ _ h => h) (fun K hK => ?_)
    go_big_quiet_op
    refine hK _ ?_
    clear hK K
    refine pi_t 6 rfl (by kernel_rfl) (by kernel_rfl) (fun _ _ _ _ h => h) (fun K hK => ?_)
    go_big_quiet_op
    refine hK _ ?_
    clear hK K
    refine pi_t 7 rfl (by kernel_rfl) (by kernel_rfl) (fun _ _ _ _ h => h) (fun K hK => ?_)
    go_big_quiet_op
    refine hK _ ?_
    clear hK K
    refine pi_t 8 rfl (by kernel_rfl) (by kernel_rfl) (fun _ _ _ _ h => h) (fun K hK => ?_)
    go_big_quiet_op
    refine hK _ ?_
    clear hK K
    refine pi_t 10 rfl (by kernel_rfl) (by kernel_rfl) (fun _ _ _ _ h => h) (fun K hK => ?_)
    go_big_quiet_op
    refine hK _ ?_
    clear hK K
    refine pi_t 11 rfl (by kernel_rfl) (by kernel_rfl) (fun _ _ _ _ h => h) (fun K hK => ?_)
    go_big_quiet_op
    refine hK _ ?_
    clear hK K
    refine pi_t 13 rfl (by kernel_rfl) (by kernel_rfl) (fun _ _ _ _ h => h) (fun K hK => ?_)
    go_big_quiet_op
    refine hK _ ?_
    clear hK K
    refine pi_c 3 (by assumption) rfl (by kernel_rfl) (by kernel_rfl) (fun _ _ _ _ h => h) (fun K hK => ?_)
    go_big_quiet_op
    refine hK _ ?_
    clear hK K
    refine pi_l 9 rfl (by kernel_rfl) (fun K hK => ?_)
    go_wp2
    refine hK _ _ (fun _ h => h) ?_
    clear hK K
    refine pi_l 12 rfl (by kernel_rfl) (fun K hK => ?_)
    go_wp2_with (go_at_call 320; refine (At_k hG hk0 hkN).mono ?_; rintro e w2 ⟨rfl, rfl⟩; rw [HY.out])
    refine hK _ _ (fun _ h => h) ?_
    clear hK K
    refine pi_t 14 rfl (by kernel_rfl) (by kernel_rfl) (fun _ _ _ _ h => h) (fun K hK => ?_)
    go_big_quiet_op
    refine hK _ ?_
    clear hK K
    refine pi_l 15 rfl (by kernel_rfl) (fun K hK => ?_)
    go_wp2_with (go_at_call 321; refine (Put_k hG hk0 hkN (y + d)).mono ?_; rintro e w2 ⟨rfl, rfl⟩)
    refine hK _ _ (by simp) ?_
    clear hK K
    refine pi_end (by kernel_rfl) ?_
    go_wp2
    go_ret
    refine ⟨by rw [HE.out]; rfl, .inl ⟨HE.out, ?_, ?_⟩⟩
    · have := (HH.out.ext (Below.drew (Ext.refl w1))).setl (i := key.toNat) (by rw [hlen]; omega) (n := y + d) (by unfold I64; omega)
      unfold updX
      rw [HY.out]
      exact this
    · exact (hx1.mod _).trans ((Ext.mod _ (Below.drew (Ext.refl w1))).trans (mod_set _ _ _ _))
  · have hb : (errX C lv l key d == 0) = false := by simpa using he0
    go_enter Tryz.func318, Tryz.ntmps318
    go_wp2_with fail
    refine (ECheck_c s b c C lv N l key d _ h hd hk).mono ?_
    rintro e w0 ⟨rfl, hx00⟩
    go_wp2
    go_ret
    exact ⟨rfl, .inr ⟨he0, hx00⟩⟩
set_option maxRecDepth 20000 in
theorem EPoint_c (s b c : Nat) (C : Cfg) (lv : Int) (N : Nat) (l : List Int) (key : Int) (w : World) (h : EAt w s b c C lv N l) (hk0 : 0 ≤ key) (hk1 : key < keys C lv) :
    Calls Tryz.prog 317 #[.pointer (some ⟨s, 0, none⟩), .int .u64 key] w fun e w' => e = .returned (.tuple #[.int .i64 (l.getD key.toNat 0), .int .i64 0]) ∧ w = w' := by
  have c6 := (cell_of h.ex 6).trans rfl
  have hlt := h.lts
  have hG := h.g
  have w2' := h.g.w2
  have hkN : key < N := by rw [← h.hk]; exact hk1
  have HG := Lib.hid hG
  clear h hG hk1
  go_enter Tryz.func317, Tryz.ntmps317
  go_wp2_with fail
  refine (Width_c b c 1 N l _ HG.out).mono ?_
  rintro e w1 ⟨rfl, rfl⟩
  go_wp2_with fail
  refine (At_k HG.out hk0 hkN).mono ?_
  rintro e w1 ⟨rfl, rfl⟩
  go_wp2
  go_ret2
  exact ⟨rfl, rfl⟩
set_option maxRecDepth 20000 in
set_option maxHeartbeats 2000000 in
theorem ECopy_c (s b c : Nat) (C : Cfg) (lv : Int) (N : Nat) (l : List Int) (w : World) (h : EAt w s b c C lv N l) :
    Calls Tryz.prog 246 #[.pointer (some ⟨s, 0, none⟩)] w fun e w' => ∃ s' b' c', e = .returned (.pointer (some ⟨s', 0, none⟩)) ∧ EAt w' s' b' c' C lv N l ∧ w.heap.size ≤ s' ∧ w.heap.size ≤ b' ∧ w.heap.size ≤ c' ∧ Ext w w' := by
  have c0 := (cell_of h.ex 0).trans rfl
  have c1 := (cell_of h.ex 1).trans rfl
  have c2 := (cell_of h.ex 2).trans rfl
  have c3 := (cell_of h.ex 3).trans rfl
  have c4 := (cell_of h.ex 4).trans rfl
  have c5 := (cell_of h.ex 5).trans rfl
  have c6 := (cell_of h.ex 6).trans rfl
  have hlt := h.lts
  have hG := h.g.ext (Below.drew (Ext.refl w))
  have HH := Lib.hid h
  clear h
  go_enter Tryz.func246, Tryz.ntmps246
  go_wp2
  have hC0 := af_drew w
  refine pi_start (fun w' => ∃ x : After w, w' = x.w) [] (by kernel_rfl) ?_
  refine pi_t 0 rfl (by kernel_rfl) (by kernel_rfl) (fun _ _ _ _ h => h) (fun K hK => ?_)
  go_big_quiet_op
  refine hK _ ?_
  clear hK K
  refine pi_t 1 rfl (by kernel_rfl) (by kernel_rfl) (fun _ _ _ _ h => h) (fun K hK => ?_)
  go_big_quiet_op
  refine hK _ ?_
  clear hK K
  refine pi_t 2 rfl (by kernel_rfl) (by kernel_rfl) (fun _ _ _ _ h => h) (fun K hK => ?_)
  go_big_quiet_op
  refine hK _ ?_
  clear hK K
  refine pi_t 4 rfl (by kernel_rfl) (by kernel_rfl) (fun _ _ _ _ h => h) (fun K hK => ?_)
  go_big_quiet_op
  refine hK _ ?_
  clear hK K
  refine pi_t 5 rfl (by kernel_rfl) (by kernel_rfl) (fun _ _ _ _ h => h) (fun K hK => ?_)
  go_big_quiet_op
  refine hK _ ?_
  clear hK K
  refine pi_t 6 rfl (by kernel_rfl) (by kernel_rfl) (fun _ _ _ _ h => h) (fun K hK => ?_)
  go_big_quiet_op
  refine hK _ ?_
  clear hK K
  refine pi_t 8 rfl (by kernel_rfl) (by kernel_rfl) (fun _ _ _ _ h => h) (fun K hK => ?_)
  go_big_quiet_op
  refine hK _ ?_
  clear hK K
  refine pi_t 9 rfl (by kernel_rfl) (by kernel_rfl) (fun _ _ _ _ h => h) (fun K hK => ?_)
  go_big_quiet_op
  refine hK _ ?_
  clear hK K
  refine pi_t 10 rfl (by kernel_rfl) (by kernel_rfl) (fun _ _ _ _ h => h) (fun K hK => ?_)
  go_big_quiet_op
  refine hK _ ?_
  clear hK K
  refine pi_c 3 (by assumption) rfl (by kernel_rfl) (by kernel_rfl) (fun _ _ _ _ h => h) (fun K hK => ?_)
  go_big_quiet_op
  refine hK _ ?_
  clear hK K
  refine pi_c 7 (by assumption) rfl (by kernel_rfl) (by kernel_rfl) (fun _ _ _ _ h => h) (fun K hK => ?_)
  go_big_quiet_op
  refine hK _ ?_
  clear hK K
  refine pi_c 11 (by assumption) rfl (by kernel_rfl) (by kernel_rfl) (fun _ _ _ _ h => h) (fun K hK => ?_)
  go_big_quiet_op
  refine hK _ ?_
  clear hK K
  refine pi_l 12 rfl (by kernel_rfl) (fun K hK => ?_)
  go_wp2_with (go_at_call 274; refine (GCopy_c b c 1 N l _ hG).mono ?_; rintro e w1 ⟨b', c', rfl, hg', hb', hc', hx1⟩)
  refine hK _ _ (fun _ h => af_step h hx1) ?_
  clear hK K
  refine pi_t 13 rfl (by kernel_rfl) (by kernel_rfl) (fun _ _ _ _ h => h) (fun K hK => ?_)
  go_big_quiet_op
  refine hK _ ?_
  clear hK K
  refine pi_l 14 rfl (by kernel_rfl) (fun K hK => ?_)
  go_wp2
  refine hK _ _ (fun _ h => af_step h (Ext.alloc' _ _)) ?_
  clear hK K
  refine pi_t 15 rfl (by kernel_rfl) (by kernel_rfl) (fun _ _ _ _ h => h) (fun K hK => ?_)
  go_big_quiet_op
  refine hK _ ?_
  clear hK K
  refine pi_end (by kernel_rfl) ?_
  go_wp2
  go_ret
  have hx1' : Ext w w1 := Ext.trans' (Below.drew (Ext.refl w)) hx1
  have hs1 := hx1'.size
  have H := HH.out
  refine ⟨w1.heap.size, b', c', rfl, ⟨heap_at _ _ rfl, hg'.keep (heap_old _ _ hg'.ltb) (heap_old _ _ hg'.ltc), H.ok, H.lo, H.hi, H.hk, H.fit⟩, hs1, hb', hc', by (repeat' (first | exact Ext.refl _ | assumption | apply Ext.allocR | apply Ext.drewR | apply Ext.drewNR | (refine Ext.trans' ?_ (by assumption))))⟩
set_option maxRecDepth 20000 in
set_option maxHeartbeats 2000000 in
theorem SCopy_c (s b c : Nat) (C : Cfg) (lv : Int) (R W : Nat) (l : List Int) (w : World) (h : SAt w s b c C lv R W l) :
    Calls Tryz.prog 247 #[.pointer (some ⟨s, 0, none⟩)] w fun e w' => ∃ s' b' c', e = .returned (.pointer (some ⟨s', 0, none⟩)) ∧ SAt w' s' b' c' C lv R W l ∧ w.heap.size ≤ s' ∧ w.heap.size ≤ b' ∧ w.heap.size ≤ c' ∧ Ext w w' := by
  have c0 := (cell_of h.ex 0).trans rfl
  have c1 := (cell_of h.ex 1).trans rfl
  have c2 := (cell_of h.ex 2).trans rfl
  have c3 := (cell_of h.ex 3).trans rfl
  have c4 := (cell_of h.ex 4).trans rfl
  have c5 := (cell_of h.ex 5).trans rfl
  have c6 := (cell_of h.ex 6).trans rfl
  have hlt := h.lts
  have hG := h.g.ext (Below.drew (Ext.refl w))
  have HH := Lib.hid h
  clear h
  go_enter Tryz.func247, Tryz.ntmps247
  go_wp2
  have hC0 := af_drew w
  refine pi_start (fun w' => ∃ x : After w, w' = x.w) [] (by kernel_rfl) ?_
  refine pi_t 0 rfl (by kernel_rfl) (by kernel_rfl) (fun _ _ _ _ h => h) (fun K hK => ?_)
  go_big_quiet_op
  refine hK _ ?_
  clear hK K
  refine pi_t 1 rfl (by kernel_rfl) (by kernel_rfl) (fun _ _ _ _ h => h) (fun K hK => ?_)
  go_big_quiet_op
  refine hK _ ?_
  clear hK K
  refine pi_t 2 rfl (by kernel_rfl) (by kernel_rfl) (fun _ _ _ _ h => h) (fun K hK => ?_)
  go_big_quiet_op
  refine hK _ ?_
  clear hK K
  refine pi_t 3 rfl (by kernel_rfl) (by kernel_rfl) (fun _ _ _ _ h => h) (fun K hK => ?_)
  go_big_quiet_op
  refine hK _ ?_
  clear hK K
  refine pi_t 7 rfl (by kernel_rfl) (by kernel_rfl) (fun _ _ _ _ h => h) (fun K hK => ?_)
  go_big_quiet_op
  refine hK _ ?_
  clear hK K
  refine pi_t 8 rfl (by kernel_rfl) (by kernel_rfl) (fun _ _ _ _ h => h) (fun K hK => ?_)
  go_big_quiet_op
  refine hK _ ?_
  clear hK K
  refine pi_t 9 rfl (by kernel_rfl) (by kernel_rfl) (fun _ _ _ _ h => h) (fun K hK => ?_)
  go_big_quiet_op
  refine hK _ ?_
  clear hK K
  refine pi_t 11 rfl (by kernel_rfl) (by kernel_rfl) (fun _ _ _ _ h => h) (fun K hK => ?_)
  go_big_quiet_op
  refine hK _ ?_
  clear hK K
  refine pi_t 12 rfl (by kernel_rfl) (by kernel_rfl) (fun _ _ _ _ h => h) (fun K hK => ?_)
  go_big_quiet_op
  refine hK _ ?_
  clear hK K
  refine pi_t 13 rfl (by kernel_rfl) (by kernel_rfl) (fun _ _ _ _ h => h) (fun K hK => ?_)
  go_big_quiet_op
  refine hK _ ?_
  clear hK K
  refine pi_c 4 (by assumption) rfl (by kernel_rfl) (by kernel_rfl) (fun _ _ _ _ h => h) (fun K hK => ?_)
  go_big_quiet_op
  refine hK _ ?_
  clear hK K
  refine pi_c 10 (by assumption) rfl (by kernel_rfl) (by kernel_rfl) (fun _ _ _ _ h => h) (fun K hK => ?_)
  go_big_quiet_op
  refine hK _ ?_
  clear hK K
  refine pi_c 14 (by assumption) rfl (by kernel_rfl) (by kernel_rfl) (fun _ _ _ _ h => h) (fun K hK => ?_)
  go_big_quiet_op
  refine hK _ ?_
  clear hK K
  refine pi_l 5 rfl (by kernel_rfl) (fun K hK => ?_)
  go_wp2_with (go_at_call 274; refine (GCopy_c b c R W l _ hG).mono ?_; rintro e w1 ⟨b', c', rfl, hg', hb', hc', hx1⟩)
  refine hK _ _ (fun _ h => af_step h hx1) ?_
  clear hK K
  refine pi_t 6 rfl (by kernel_rfl) (by kernel_rfl) (fun _ _ _ _ h => h) (fun K hK => ?_)
  go_big_quiet_op
  refine hK _ ?_
  clear hK K
  refine pi_t 15 rfl (by kernel_rfl) (by kernel_rfl) (fun _ _ _ _ h => h) (fun K hK => ?_)
  go_big_quiet_op
  refine hK _ ?_
  clear hK K
  refine pi_l 16 rfl (by kernel_rfl) (fun K hK => ?_)
  go_wp2
  refine hK _ _ (fun _ h => af_step h (Ext.alloc' _ _)) ?_
  clear hK K
  refine pi_t 17 rfl (by kernel_rfl) (by kernel_rfl) (fun _ _ _ _ h => h) (fun K hK => ?_)
  go_big_quiet_op
  refine hK _ ?_
  clear hK K
  refine pi_end (by kernel_rfl) ?_
  go_wp2
  go_ret
  have hx1' : Ext w w1 := Ext.trans' (Below.drew (Ext.refl w)) hx1
  have hs1 := hx1'.size
  have H := HH.out
  refine ⟨w1.heap.size, b', c', rfl, ⟨heap_at _ _ rfl, hg'.keep (heap_old _ _ hg'.ltb) (heap_old _ _ hg'.ltc), H.ok, H.lo, H.hi, H.hr, H.hw, H.fit⟩, hs1, hb', hc', by (repeat' (first | exact Ext.refl _ | assumption | apply Ext.allocR | apply Ext.drewR | apply Ext.drewNR | (refine Ext.trans' ?_ (by assumption))))⟩
end Go.Proofs.YtmalncfcgcebhaaGreatDoor
namespace Go.Proofs.YtmalncfcgcebhaaGreatDoor
set_option linter.unusedVariables false
open Go.RowKit
def rN (C : Cfg) : Nat := C.rows.toNat
def wN (C : Cfg) : Nat := C.width.toNat
theorem rN_eq {C : Cfg} (h : C.Ok) : C.rows = (rN C : Int) := by have := h.r1; unfold rN; omega
theorem wN_eq {C : Cfg} (h : C.Ok) : C.width = (wN C : Int) := by have := h.w1; unfold wN; omega
/-- How many cells a level has. -/
def lvN (C : Cfg) (lv : Int) : Nat := bif isX C lv then kN C lv else rN C * wN C
/-- Where a level lies: what it is, its grid, its cells. -/
structure Lev where
  s : Nat
  b : Nat
  c : Nat
def LvAt (w : World) (L : Lev) (C : Cfg) (lv : Int) (l : List Int) : Prop :=
  (isX C lv = true ∧ EAt w L.s L.b L.c C lv (kN C lv) l) ∨ (isX C lv = false ∧ SAt w L.s L.b L.c C lv (rN C) (wN C) l)
def lvT (C : Cfg) (lv : Int) : TypeId := bif isX C lv then 267 else 270
def lvV (C : Cfg) (lv : Int) (L : Lev) : Value := .iface (lvT C lv) (.pointer (some ⟨L.s, 0, none⟩))
theorem lvV_x {C : Cfg} {lv : Int} (h : isX C lv = true) (L : Lev) : lvV C lv L = .iface 267 (.pointer (some ⟨L.s, 0, none⟩)) := by unfold lvV lvT; rw [h]; rfl
theorem lvV_s {C : Cfg} {lv : Int} (h : isX C lv = false) (L : Lev) : lvV C lv L = .iface 270 (.pointer (some ⟨L.s, 0, none⟩)) := by unfold lvV lvT; rw [h]; rfl
theorem LvAt.x {w : World} {L : Lev} {C : Cfg} {lv : Int} {l : List Int} (h : LvAt w L C lv l) (hx : isX C lv = true) : EAt w L.s L.b L.c C lv (kN C lv) l := by
  rcases h with ⟨_, h⟩ | ⟨h, _⟩
  · exact h
  · rw [hx] at h; cases h
theorem LvAt.sk {w : World} {L : Lev} {C : Cfg} {lv : Int} {l : List Int} (h : LvAt w L C lv l) (hx : isX C lv = false) : SAt w L.s L.b L.c C lv (rN C) (wN C) l := by
  rcases h with ⟨h, _⟩ | ⟨_, h⟩
  · rw [hx] at h; cases h
  · exact h
theorem LvAt.lts {w : World} {L : Lev} {C : Cfg} {lv : Int} {l : List Int} (h : LvAt w L C lv l) : L.s < w.heap.size := by
  rcases h with ⟨_, h⟩ | ⟨_, h⟩ <;> exact h.lts
theorem LvAt.ltb {w : World} {L : Lev} {C : Cfg} {lv : Int} {l : List Int} (h : LvAt w L C lv l) : L.b < w.heap.size := by
  rcases h with ⟨_, h⟩ | ⟨_, h⟩ <;> exact h.g.ltb
theorem LvAt.ltc {w : World} {L : Lev} {C : Cfg} {lv : Int} {l : List Int} (h : LvAt w L C lv l) : L.c < w.heap.size := by
  rcases h with ⟨_, h⟩ | ⟨_, h⟩ <;> exact h.g.ltc
theorem LvAt.ok {w : World} {L : Lev} {C : Cfg} {lv : Int} {l : List Int} (h : LvAt w L C lv l) : C.Ok := by
  rcases h with ⟨_, h⟩ | ⟨_, h⟩ <;> exact h.ok
theorem LvAt.lo {w : World} {L : Lev} {C : Cfg} {lv : Int} {l : List Int} (h : LvAt w L C lv l) : 0 ≤ lv := by
  rcases h with ⟨_, h⟩ | ⟨_, h⟩ <;> exact h.lo
theorem LvAt.hi {w : World} {L : Lev} {C : Cfg} {lv : Int} {l : List Int} (h : LvAt w L C lv l) : lv ≤ C.bits := by
  rcases h with ⟨_, h⟩ | ⟨_, h⟩ <;> exact h.hi
theorem LvAt.fit {w : World} {L : Lev} {C : Cfg} {lv : Int} {l : List Int} (h : LvAt w L C lv l) : ∀ x ∈ l, I64 x := by
  rcases h with ⟨_, h⟩ | ⟨_, h⟩ <;> exact h.fit
theorem LvAt.len {w : World} {L : Lev} {C : Cfg} {lv : Int} {l : List Int} (h : LvAt w L C lv l) : l.length = lvN C lv := by
  unfold lvN
  rcases h with ⟨hx, h⟩ | ⟨hx, h⟩
  · rw [hx]; exact h.len
  · rw [hx]; exact h.g.len
theorem LvAt.keep {w w' : World} {L : Lev} {C : Cfg} {lv : Int} {l : List Int} (h : LvAt w L C lv l) (hs : w'.heap[L.s]? = w.heap[L.s]?) (hb : w'.heap[L.b]? = w.heap[L.b]?) (hc : w'.heap[L.c]? = w.heap[L.c]?) : LvAt w' L C lv l := by
  rcases h with ⟨hx, h⟩ | ⟨hx, h⟩
  · exact .inl ⟨hx, h.keep hs hb hc⟩
  · exact .inr ⟨hx, h.keep hs hb hc⟩
theorem LvAt.ext {w w' : World} {L : Lev} {C : Cfg} {lv : Int} {l : List Int} (h : LvAt w L C lv l) (he : Ext w w') : LvAt w' L C lv l :=
  h.keep (he.block _ h.lts) (he.block _ h.ltb) (he.block _ h.ltc)
/-- A block of cells is a block of int64. -/
theorem LvAt.isc {w : World} {L : Lev} {C : Cfg} {lv : Int} {l : List Int} (h : LvAt w L C lv l) : ∃ cur, w.heap[L.c]? = some (.cells cur 2 (0, 0)) := by
  rcases h with ⟨_, h⟩ | ⟨_, h⟩ <;> (obtain ⟨cap, _, h2⟩ := h.g.ex; obtain ⟨cur, h3, _⟩ := h2.ex; exact ⟨cur, h3⟩)
theorem LvAt.iss {w : World} {L : Lev} {C : Cfg} {lv : Int} {l : List Int} (h : LvAt w L C lv l) : ∃ cur t, w.heap[L.s]? = some (.cells cur t (0, 0)) ∧ t ≠ 2 := by
  rcases h with ⟨_, h⟩ | ⟨_, h⟩ <;> exact ⟨_, _, h.ex, by decide⟩
theorem LvAt.isb {w : World} {L : Lev} {C : Cfg} {lv : Int} {l : List Int} (h : LvAt w L C lv l) : ∃ cur t, w.heap[L.b]? = some (.cells cur t (0, 0)) ∧ t ≠ 2 := by
  rcases h with ⟨_, h⟩ | ⟨_, h⟩ <;> (obtain ⟨cap, h1, _⟩ := h.g.ex; exact ⟨_, _, h1, by decide⟩)
theorem blk_ne {w : World} {i j : Nat} {cur cur' : Array Value} {t t' : TypeId} {f f' : Nat × Nat} (h : w.heap[i]? = some (.cells cur t f)) (h' : w.heap[j]? = some (.cells cur' t' f')) (ht : t ≠ t') : i ≠ j := by
  intro e
  subst e
  rw [h] at h'
  injection h' with h'
  injection h' with _ h' _
  exact ht h'
/-- What another level's cells are changed to does not touch a level. -/
theorem LvAt.mod {S : Nat → Prop} {w w' : World} {L : Lev} {C : Cfg} {lv : Int} {l : List Int} (h : LvAt w L C lv l) (he : Mod S w w') (hS : ∀ k, S k → k < w.heap.size → ∃ cur, w.heap[k]? = some (.cells cur 2 (0, 0))) (hc : ¬ S L.c) : LvAt w' L C lv l := by
  refine h.keep (he.block _ h.lts fun hs => ?_) (he.block _ h.ltb fun hs => ?_) (he.block _ h.ltc hc)
  · obtain ⟨cur, t, h1, h2⟩ := h.iss
    obtain ⟨cur', h3⟩ := hS _ hs h.lts
    exact blk_ne h1 h3 h2 rfl
  · obtain ⟨cur, t, h1, h2⟩ := h.isb
    obtain ⟨cur', h3⟩ := hS _ hs h.ltb
    exact blk_ne h1 h3 h2 rfl
/-- Is a level an array, or a sketch? -/
@[go_sem] theorem ta_xx (p : Option Addr) (w : World) : (Instr.typeAssert (.iface 267 (.pointer p)) 120 267 true).run Tryz.prog w = .ok (.tuple #[.pointer p, .bool true]) w := by kernel_rfl
@[go_sem] theorem ta_xs (p : Option Addr) (w : World) : (Instr.typeAssert (.iface 267 (.pointer p)) 120 270 true).run Tryz.prog w = .ok (.tuple #[.pointer none, .bool false]) w := by kernel_rfl
@[go_sem] theorem ta_sx (p : Option Addr) (w : World) : (Instr.typeAssert (.iface 270 (.pointer p)) 120 267 true).run Tryz.prog w = .ok (.tuple #[.pointer none, .bool false]) w := by kernel_rfl
@[go_sem] theorem ta_ss (p : Option Addr) (w : World) : (Instr.typeAssert (.iface 270 (.pointer p)) 120 270 true).run Tryz.prog w = .ok (.tuple #[.pointer p, .bool true]) w := by kernel_rfl
@[go_sem] theorem ta_nx (w : World) : (Instr.typeAssert .nilIface 120 267 true).run Tryz.prog w = .ok (.tuple #[.pointer none, .bool false]) w := by kernel_rfl
@[go_sem] theorem ta_ns (w : World) : (Instr.typeAssert .nilIface 120 270 true).run Tryz.prog w = .ok (.tuple #[.pointer none, .bool false]) w := by kernel_rfl
@[go_sem] theorem tm_ss (p : Option Addr) (w : World) : (Instr.typeAssert (.iface 270 (.pointer p)) 120 270 false).run Tryz.prog w = .ok (.pointer p) w := by kernel_rfl
def LNewPost (w : World) (C : Cfg) (lv : Int) (e : Ending) (w' : World) : Prop :=
  ∃ L : Lev, e = .returned (.tuple #[lvV C lv L, .int .i64 0]) ∧ LvAt w' L C lv (zs (lvN C lv)) ∧ w.heap.size ≤ L.s ∧ w.heap.size ≤ L.b ∧ w.heap.size ≤ L.c ∧ Ext w w'
set_option maxRecDepth 20000 in
set_option maxHeartbeats 2000000 in
theorem LNew_c (C : Cfg) (h : C.Ok) (lv : Int) (h0 : 0 ≤ lv) (h1 : lv ≤ C.bits) (w : World) :
    Calls Tryz.prog 102 #[.agg #[.int .i64 C.bits, .int .i64 C.rows, .int .i64 C.width, .int .i64 C.mode, .int .u64 C.seed], .int .i64 lv] w (LNewPost w C lv) := by
  cases hx : isX C lv with
  | true =>
    have HX := Lib.hid hx
    clear hx
    go_enter Tryz.func102, Tryz.ntmps102
    go_wp2_with fail
    refine (Exact_c C h lv h0 h1 _).mono ?_
    rintro e w1 ⟨rfl, hb⟩
    rw [HX.out]
    have hE : Ext w w1 := by (repeat' (first | exact Ext.refl _ | assumption | apply Ext.allocR | apply Ext.drewR | apply Ext.drewNR | (refine Ext.trans' ?_ (by assumption))))
    have hC := (CfgAt.box (w := w) C 24 rfl).ext hb
    have d0 := hC.c0
    have d1 := hC.c1
    have d2 := hC.c2
    have d3 := hC.c3
    have d4 := hC.c4
    have cl := hC.lt
    have hs := hE.size
    clear hb hC
    go_wp2_with fail
    refine (ENew_c C h lv h0 h1 (kN C lv) (kN_eq h h0) HX.out _).mono ?_
    rintro e w2 ⟨s, b, c, rfl, hA, hs1, hb1, hc1, hx2⟩
    go_wp2
    go_ret2
    refine ⟨⟨s, b, c⟩, by rw [lvV_x HX.out]; rfl, .inl ⟨HX.out, ?_⟩, Nat.le_trans hs hs1, Nat.le_trans hs hb1, Nat.le_trans hs hc1, hE.trans' hx2⟩
    unfold lvN; rw [HX.out]; exact hA
  | false =>
    have HX := Lib.hid hx
    clear hx
    go_enter Tryz.func102, Tryz.ntmps102
    go_wp2_with fail
    refine (Exact_c C h lv h0 h1 _).mono ?_
    rintro e w1 ⟨rfl, hb⟩
    rw [HX.out]
    have hE : Ext w w1 := by (repeat' (first | exact Ext.refl _ | assumption | apply Ext.allocR | apply Ext.drewR | apply Ext.drewNR | (refine Ext.trans' ?_ (by assumption))))
    have hC := (CfgAt.box (w := w) C 24 rfl).ext hb
    have d0 := hC.c0
    have d1 := hC.c1
    have d2 := hC.c2
    have d3 := hC.c3
    have d4 := hC.c4
    have cl := hC.lt
    have hs := hE.size
    clear hb hC
    go_wp2_with fail
    refine (SNew_c C h lv h0 h1 (rN C) (wN C) (rN_eq h) (wN_eq h) _).mono ?_
    rintro e w2 ⟨s, b, c, rfl, hA, hs1, hb1, hc1, hx2⟩
    go_wp2
    go_ret2
    refine ⟨⟨s, b, c⟩, by rw [lvV_s HX.out]; rfl, .inr ⟨HX.out, ?_⟩, Nat.le_trans hs hs1, Nat.le_trans hs hb1, Nat.le_trans hs hc1, hE.trans' hx2⟩
    unfold lvN; rw [HX.out]; exact hA
def LCopyPost (w : World) (C : Cfg) (lv : Int) (l : List Int) (e : Ending) (w' : World) : Prop :=
  ∃ L' : Lev, e = .returned (lvV C lv L') ∧ LvAt w' L' C lv l ∧ w.heap.size ≤ L'.s ∧ w.heap.size ≤ L'.b ∧ w.heap.size ≤ L'.c ∧ Ext w w'
set_option maxRecDepth 20000 in
set_option maxHeartbeats 2000000 in
theorem LCopy_c (C : Cfg) (lv : Int) (L : Lev) (l : List Int) (w : World) (h : LvAt w L C lv l) :
    Calls Tryz.prog 206 #[lvV C lv L] w (LCopyPost w C lv l) := by
  cases hx : isX C lv with
  | true =>
    have hA := h.x hx
    have HX := Lib.hid hx
    rw [lvV_x hx]
    clear hx
    go_enter Tryz.func206, Tryz.ntmps206
    go_wp2_with fail
    refine (ECopy_c L.s L.b L.c C lv _ l _ hA).mono ?_
    rintro e w1 ⟨s', b', c', rfl, hA', h1, h2, h3, hx1⟩
    go_wp2
    go_ret
    exact ⟨⟨s', b', c'⟩, by rw [lvV_x HX.out]; rfl, .inl ⟨HX.out, hA'⟩, h1, h2, h3, hx1⟩
  | false =>
    have hA := h.sk hx
    have HX := Lib.hid hx
    rw [lvV_s hx]
    clear hx
    go_enter Tryz.func206, Tryz.ntmps206
    go_wp2_with fail
    refine (SCopy_c L.s L.b L.c C lv _ _ l _ hA).mono ?_
    rintro e w1 ⟨s', b', c', rfl, hA', h1, h2, h3, hx1⟩
    go_wp2
    go_ret
    exact ⟨⟨s', b', c'⟩, by rw [lvV_s HX.out]; rfl, .inr ⟨HX.out, hA'⟩, h1, h2, h3, hx1⟩
end Go.Proofs.YtmalncfcgcebhaaGreatDoor
namespace Go.Proofs.YtmalncfcgcebhaaGreatDoor
set_option linter.unusedVariables false
open Go.RowKit
/-- A stack at s: its levels lie at L, and have the cells ls. -/
structure KAt (w : World) (s g : Nat) (C : Cfg) (B : Nat) (L : Nat → Lev) (ls : Nat → List Int) : Prop where
  ex : ∃ cap, w.heap[s]? = some (.cells #[.int .i64 C.bits, .int .i64 C.rows, .int .i64 C.width, .int .i64 C.mode, .int .u64 C.seed, .slice (some ⟨g, 0, none⟩) (B + 1) cap] 118 (0, 0)) ∧ B + 1 ≤ cap
  row : ∃ cur, w.heap[g]? = some (.cells cur 120 (0, 0)) ∧ ∀ n, n ≤ B → cur[n]? = some (lvV C n (L n))
  lev : ∀ n, n ≤ B → LvAt w (L n) C n (ls n)
  sep : ∀ m n, m ≤ B → n ≤ B → m ≠ n → (L m).c ≠ (L n).c
  ok : C.Ok
  hB : C.bits = B
/-- The blocks of its cells. -/
def cellsOf (B : Nat) (L : Nat → Lev) (k : Nat) : Prop := ∃ n, n ≤ B ∧ k = (L n).c
theorem KAt.lts {w : World} {s g : Nat} {C : Cfg} {B : Nat} {L : Nat → Lev} {ls : Nat → List Int} (h : KAt w s g C B L ls) : s < w.heap.size := by
  obtain ⟨cap, h1, _⟩ := h.ex; exact lt_of h1
theorem KAt.ltg {w : World} {s g : Nat} {C : Cfg} {B : Nat} {L : Nat → Lev} {ls : Nat → List Int} (h : KAt w s g C B L ls) : g < w.heap.size := by
  obtain ⟨cur, h1, _⟩ := h.row; exact lt_of h1
theorem KAt.cell {w : World} {s g : Nat} {C : Cfg} {B : Nat} {L : Nat → Lev} {ls : Nat → List Int} (h : KAt w s g C B L ls) {n : Nat} (hn : n ≤ B) : w.cell? ⟨g, n, none⟩ = some (lvV C n (L n)) := by
  obtain ⟨cur, h1, h2⟩ := h.row; rw [cell_of h1]; exact h2 n hn
theorem KAt.isc {w : World} {s g : Nat} {C : Cfg} {B : Nat} {L : Nat → Lev} {ls : Nat → List Int} (h : KAt w s g C B L ls) {k : Nat} (hk : cellsOf B L k) : ∃ cur, w.heap[k]? = some (.cells cur 2 (0, 0)) := by
  obtain ⟨n, hn, rfl⟩ := hk; exact (h.lev n hn).isc
theorem KAt.ltc {w : World} {s g : Nat} {C : Cfg} {B : Nat} {L : Nat → Lev} {ls : Nat → List Int} (h : KAt w s g C B L ls) {k : Nat} (hk : cellsOf B L k) : k < w.heap.size := by
  obtain ⟨n, hn, rfl⟩ := hk; exact (h.lev n hn).ltc
theorem KAt.nots {w : World} {s g : Nat} {C : Cfg} {B : Nat} {L : Nat → Lev} {ls : Nat → List Int} (h : KAt w s g C B L ls) : ¬ cellsOf B L s := by
  intro hk
  obtain ⟨cur, h1⟩ := h.isc hk
  obtain ⟨cap, h2, _⟩ := h.ex
  exact blk_ne h1 h2 (by decide) rfl
theorem KAt.notg {w : World} {s g : Nat} {C : Cfg} {B : Nat} {L : Nat → Lev} {ls : Nat → List Int} (h : KAt w s g C B L ls) : ¬ cellsOf B L g := by
  intro hk
  obtain ⟨cur, h1⟩ := h.isc hk
  obtain ⟨cur', h2, _⟩ := h.row
  exact blk_ne h1 h2 (by decide) rfl
theorem KAt.ext {w w' : World} {s g : Nat} {C : Cfg} {B : Nat} {L : Nat → Lev} {ls : Nat → List Int} (h : KAt w s g C B L ls) (he : Ext w w') : KAt w' s g C B L ls :=
  ⟨by rw [he.block s h.lts]; exact h.ex, by rw [he.block g h.ltg]; exact h.row, fun n hn => (h.lev n hn).ext he, h.sep, h.ok, h.hB⟩
/-- What other cells are changed to does not touch a stack. -/
theorem KAt.mod {S : Nat → Prop} {w w' : World} {s g : Nat} {C : Cfg} {B : Nat} {L : Nat → Lev} {ls : Nat → List Int} (h : KAt w s g C B L ls) (he : Mod S w w') (hS : ∀ k, S k → k < w.heap.size → ∃ cur, w.heap[k]? = some (.cells cur 2 (0, 0))) (hc : ∀ n, n ≤ B → ¬ S (L n).c) : KAt w' s g C B L ls := by
  refine ⟨?_, ?_, fun n hn => (h.lev n hn).mod he hS (hc n hn), h.sep, h.ok, h.hB⟩
  · rw [he.block s h.lts fun hs => ?_]
    · exact h.ex
    · obtain ⟨cur, h1⟩ := hS _ hs h.lts
      obtain ⟨cap, h2, _⟩ := h.ex
      exact blk_ne h1 h2 (by decide) rfl
  · rw [he.block g h.ltg fun hs => ?_]
    · exact h.row
    · obtain ⟨cur, h1⟩ := hS _ hs h.ltg
      obtain ⟨cur', h2, _⟩ := h.row
      exact blk_ne h1 h2 (by decide) rfl
theorem SKConfig_c (s g : Nat) (C : Cfg) (B : Nat) (L : Nat → Lev) (ls : Nat → List Int) (w : World) (h : KAt w s g C B L ls) :
    Calls Tryz.prog 20 #[.pointer (some ⟨s, 0, none⟩)] w fun e w' => e = .returned (.agg #[.int .i64 C.bits, .int .i64 C.rows, .int .i64 C.width, .int .i64 C.mode, .int .u64 C.seed]) ∧ Ext w w' := by
  have hlt := h.lts
  obtain ⟨cap, hex, _⟩ := h.ex
  have c0 := (cell_of hex 0).trans rfl
  have c1 := (cell_of hex 1).trans rfl
  have c2 := (cell_of hex 2).trans rfl
  have c3 := (cell_of hex 3).trans rfl
  have c4 := (cell_of hex 4).trans rfl
  clear h hex
  go_enter Tryz.func20, Tryz.ntmps20
  go_wp2
  exact bodyPost_ret (v := .agg #[.int .i64 C.bits, .int .i64 C.rows, .int .i64 C.width, .int .i64 C.mode, .int .u64 C.seed]) (by simp [results, Tryz.results20, go_sem]) rfl ⟨rfl, by (repeat' (first | exact Ext.refl _ | assumption | apply Ext.allocR | apply Ext.drewR | apply Ext.drewNR | (refine Ext.trans' ?_ (by assumption))))⟩
theorem keys_top {C : Cfg} {B : Nat} (hB : C.bits = B) : keys C B = 1 := by unfold keys; rw [hB]; simp
theorem isX_top {C : Cfg} (h : C.Ok) {B : Nat} (hB : C.bits = B) : isX C B = true := by
  unfold isX; rw [keys_top hB]; have := h.w1; simpa using this
set_option maxRecDepth 20000 in
theorem KTotal_c (s g : Nat) (C : Cfg) (B : Nat) (L : Nat → Lev) (ls : Nat → List Int) (w : World) (h : KAt w s g C B L ls) :
    Calls Tryz.prog 130 #[.pointer (some ⟨s, 0, none⟩)] w fun e w' => e = .returned (.int .i64 ((ls B).getD 0 0)) ∧ Ext w w' := by
  have hlt := h.lts
  have hlg := h.ltg
  obtain ⟨cap, hex, hcap⟩ := h.ex
  have c0 := (cell_of hex 0).trans (show _ = some (Value.int .i64 (B : Int)) by rw [← h.hB]; rfl)
  have c5 := (cell_of hex 5).trans rfl
  have cn := (h.cell (Nat.le_refl B)).trans (by rw [lvV_x (isX_top h.ok h.hB)])
  have hb2 : B ≤ 59 := by have := h.ok.b2; have := h.hB; omega
  have hA := ((h.lev B (Nat.le_refl B)).x (isX_top h.ok h.hB)).ext (Below.drew (Ext.refl w))
  have hk := keys_top h.hB
  clear h hex
  go_enter Tryz.func130, Tryz.ntmps130
  go_wp2
  have hC0 := af_drew w
  refine pi_start (fun w' => ∃ x : After w, w' = x.w) [] (by kernel_rfl) ?_
  refine pi_t 0 rfl (by kernel_rfl) (by kernel_rfl) (fun _ _ _ _ h => h) (fun K hK => ?_)
  go_big_quiet_op
  refine hK _ ?_
  clear hK K
  refine pi_t 1 rfl (by kernel_rfl) (by kernel_rfl) (fun _ _ _ _ h => h) (fun K hK => ?_)
  go_big_quiet_op
  refine hK _ ?_
  clear hK K
  refine pi_t 2 rfl (by kernel_rfl) (by kernel_rfl) (fun _ _ _ _ h => h) (fun K hK => ?_)
  go_big_quiet_op
  refine hK _ ?_
  clear hK K
  refine pi_t 4 rfl (by kernel_rfl) (by kernel_rfl) (fun _ _ _ _ h => h) (fun K hK => ?_)
  go_big_quiet_op
  refine hK _ ?_
  clear hK K
  refine pi_t 5 rfl (by kernel_rfl) (by kernel_rfl) (fun _ _ _ _ h => h) (fun K hK => ?_)
  go_big_quiet_op
  refine hK _ ?_
  clear hK K
  refine pi_t 6 rfl (by kernel_rfl) (by kernel_rfl) (fun _ _ _ _ h => h) (fun K hK => ?_)
  go_big_quiet_op
  refine hK _ ?_
  clear hK K
  refine pi_t 7 rfl (by kernel_rfl) (by kernel_rfl) (fun _ _ _ _ h => h) (fun K hK => ?_)
  go_big_quiet_op
  refine hK _ ?_
  clear hK K
  refine pi_c 3 (by assumption) rfl (by kernel_rfl) (by kernel_rfl) (fun _ _ _ _ h => h) (fun K hK => ?_)
  go_big_quiet_op
  refine hK _ ?_
  clear hK K
  refine pi_c 8 (by assumption) rfl (by kernel_rfl) (by kernel_rfl) (fun _ _ _ _ h => h) (fun K hK => ?_)
  go_big_quiet_op
  refine hK _ ?_
  clear hK K
  refine pi_t 9 rfl (by kernel_rfl) (by kernel_rfl) (fun _ _ _ _ h => h) (fun K hK => ?_)
  go_big_quiet_op
  refine hK _ ?_
  clear hK K
  refine pi_c 10 (by assumption) rfl (by kernel_rfl) (by kernel_rfl) (fun _ _ _ _ h => h) (fun K hK => ?_)
  go_big_quiet_op
  refine hK _ ?_
  clear hK K
  refine pi_l 11 rfl (by kernel_rfl) (fun K hK => ?_)
  go_wp2_with fail
  refine (EPoint_c _ _ _ C _ _ _ 0 _ hA (by decide) (by rw [hk]; decide)).mono ?_
  rintro e w1 ⟨rfl, rfl⟩
  go_wp2
  refine hK _ _ (fun _ h => h) ?_
  clear hK K
  refine pi_t 12 rfl (by kernel_rfl) (by kernel_rfl) (fun _ _ _ _ h => h) (fun K hK => ?_)
  go_big_quiet_op
  refine hK _ ?_
  clear hK K
  refine pi_t 13 rfl (by kernel_rfl) (by kernel_rfl) (fun _ _ _ _ h => h) (fun K hK => ?_)
  go_big_quiet_op
  refine hK _ ?_
  clear hK K
  refine pi_t 14 rfl (by kernel_rfl) (by kernel_rfl) (fun _ _ _ _ h => h) (fun K hK => ?_)
  go_big_quiet_op
  refine hK _ ?_
  clear hK K
  refine pi_t 15 rfl (by kernel_rfl) (by kernel_rfl) (fun _ _ _ _ h => h) (fun K hK => ?_)
  go_big_quiet_op
  refine hK _ ?_
  clear hK K
  refine pi_t 16 rfl (by kernel_rfl) (by kernel_rfl) (fun _ _ _ _ h => h) (fun K hK => ?_)
  go_big_quiet_op
  refine hK _ ?_
  clear hK K
  refine pi_end (by kernel_rfl) ?_
  go_wp2
  go_ret
  exact ⟨rfl, Below.drew (Ext.refl w)⟩
end Go.Proofs.YtmalncfcgcebhaaGreatDoor
namespace Go.Proofs.YtmalncfcgcebhaaGreatDoor
set_option linter.unusedVariables false
open Go.RowKit
/-- What a key is at a level. -/
def sh (n : Nat) (key : Int) : Int := key / 2 ^ n
def lvE (C : Cfg) (lv : Int) (l : List Int) (key d : Int) : Int := bif isX C lv then errX C lv l key d else errU C lv (rN C) (wN C) l key d
def lvU (C : Cfg) (lv : Int) (l : List Int) (key d : Int) : List Int := bif isX C lv then updX l key d else updL C lv (rN C) (wN C) l key d
theorem lvE_x {C : Cfg} {lv : Int} (h : isX C lv = true) (l : List Int) (key d : Int) : lvE C lv l key d = errX C lv l key d := by unfold lvE; rw [h]; rfl
theorem lvE_s {C : Cfg} {lv : Int} (h : isX C lv = false) (l : List Int) (key d : Int) : lvE C lv l key d = errU C lv (rN C) (wN C) l key d := by unfold lvE; rw [h]; rfl
theorem lvU_x {C : Cfg} {lv : Int} (h : isX C lv = true) (l : List Int) (key d : Int) : lvU C lv l key d = updX l key d := by unfold lvU; rw [h]; rfl
theorem lvU_s {C : Cfg} {lv : Int} (h : isX C lv = false) (l : List Int) (key d : Int) : lvU C lv l key d = updL C lv (rN C) (wN C) l key d := by unfold lvU; rw [h]; rfl
def fst_ (a b : Int) : Int := bif decide (a = 0) then b else a
/-- What the first levels say of an update. -/
def errs (C : Cfg) (ls : Nat → List Int) (key d : Int) : Nat → Int
  | 0 => 0
  | n + 1 => fst_ (errs C ls key d n) (lvE C n (ls n) (sh n key) d)
def errK (C : Cfg) (B : Nat) (ls : Nat → List Int) (key d : Int) : Int := bif decide (keys C 0 ≤ key) then 2 else errs C ls key d (B + 1)
def updK (C : Cfg) (ls : Nat → List Int) (key d : Int) (n : Nat) : List Int := lvU C n (ls n) (sh n key) d
theorem errs_zero {C : Cfg} {ls : Nat → List Int} {key d : Int} {m : Nat} : errs C ls key d m = 0 ↔ ∀ n, n < m → lvE C n (ls n) (sh n key) d = 0 := by
  induction m with
  | zero => simp [errs]
  | succ m ih =>
    unfold errs fst_
    by_cases h : errs C ls key d m = 0
    · rw [decide_eq_true h]
      constructor
      · intro e n hn
        rcases Nat.lt_or_ge n m with h' | h'
        · exact ih.1 h n h'
        · obtain rfl : n = m := by omega
          exact e
      · intro e; exact e m (by omega)
    · rw [decide_eq_false h]
      constructor
      · intro e; exact absurd e h
      · intro e; exact absurd (ih.2 fun n hn => e n (by omega)) h
theorem sh_nn {key : Int} (h : 0 ≤ key) (n : Nat) : 0 ≤ sh n key := Int.ediv_nonneg h (Int.le_of_lt (Int.pow_pos (by decide)))
theorem sh_u64 {key : Int} (h : U64 key) (n : Nat) : U64 (sh n key) := by
  refine ⟨sh_nn h.1 n, ?_⟩
  have h2 := h.2
  refine Int.lt_of_le_of_lt ?_ h2
  exact Int.ediv_le_self _ h.1
/-- What a level has behind updates. -/
def feedK (C : Cfg) (us : List (Int × Int)) (n : Nat) : List Int := us.foldl (fun l u => lvU C n l (sh n (cutK C 0 u.1)) (cutD C.mode u.2)) (zs (lvN C n))
end Go.Proofs.YtmalncfcgcebhaaGreatDoor
namespace Go.Proofs.YtmalncfcgcebhaaGreatDoor
set_option linter.unusedVariables false
open Go.RowKit
section
variable {P : Program} {ops : Array Oper} {md : Region.Mode} {Q : Exit → Act → World → Prop} {l n : Nat}
theorem rowsR {row : String} {args : Array Value} {w : World} {R : Value → World → Prop} (h : Rows P row args w R) : RowsIn (Fence.wide.inRound l) n P row args w R :=
  fun c cs _ => let ⟨v, w', r, s⟩ := h c cs; ⟨v, w', r, by rw [fenced_inRound]; exact stepsIn_wide.2 s⟩
theorem callsR {f : FuncId} {args : Array Value} {w : World} {R : Ending → World → Prop} (h : Calls P f args w R) : CallsIn (Fence.wide.inRound l) n P f args w R :=
  CallsIn.inRound l (callsIn_wide.2 h)
theorem operR {o : Oper} {a : Act} {w : World} {K : Act → World → Prop} (hd : ∀ c, o.op ≠ .defer c) (h : o.wp P a w K Q) : o.wpIn (Fence.wide.inRound l) n P a w K Q := by
  unfold Oper.wpIn
  refine ⟨fun _ _ => trivial, ?_⟩
  rw [show (Fence.wide.inRound l).round = some l from rfl, Oper.semAt_some l a.eval o hd]
  unfold Oper.wp at h
  generalize (execOp a.eval o).run P w = r at *
  cases r with
  | ok x w' =>
    cases x <;> simp only [Oper.upon, Oper.uponIn] at h ⊢ <;> first
      | exact h
      | exact ⟨fun hh => (by cases hh), callsR h⟩
      | exact ⟨fun hh => (by cases hh), rowsR h⟩
      | exact h.elim
  | halt x w' => cases x <;> simp only [Oper.upon, Oper.uponIn] at h ⊢ <;> exact h
def noDefer (l : List Oper) : Bool := l.all fun o => match o.op with | .defer _ => false | _ => true
theorem noDefer_spec {l : List Oper} (h : noDefer l = true) {i : Nat} {o : Oper} (ho : l.toArray[i]? = some o) : ∀ c, o.op ≠ .defer c := by
  intro c hc
  unfold noDefer at h
  rw [List.all_eq_true] at h
  have := h o (List.mem_of_getElem? (by simpa using ho))
  rw [hc] at this
  cases this
theorem listR (hq : ¬ LetsOut Q) : ∀ (ls : List Oper) (hd : noDefer ls = true) (a : Act) (w : World), wpList P ops Q ls a w → wpListIn (Fence.wide.inRound l) n P ops Q ls a w := by
  intro ls
  induction ls with
  | nil => intro _ _ _ h; exact h
  | cons o rest ih =>
    intro hd a w h
    have hd2 : noDefer rest = true := by
      unfold noDefer at hd ⊢
      rw [List.all_cons, Bool.and_eq_true] at hd
      exact hd.2
    have ho : ∀ c, o.op ≠ .defer c := noDefer_spec (l := o :: rest) hd (i := 0) (by simp)
    unfold wpList at h
    unfold wpListIn
    split
    · rename_i hw
      simp only [hw, if_true] at h
      exact operR ho (Oper.wp_mono (fun a w h => ih hd2 _ _ h) (h.resolve_right fun hh => hq hh.2))
    · rename_i hw
      simp only [hw] at h
      exact ⟨fun _ _ => trivial, ih hd2 _ _ h⟩
theorem region_plainR {id : Nat} {ls : List Oper} {a : Act} {w : World} (hq : ¬ LetsOut Q) (hd : noDefer ls = true) (h : wpList P ls.toArray Q ls a w) : (Code.region id ls.toArray false).wpIn (Fence.wide.inRound l) n P Q a w :=
  wpIn_region_lit (listR hq ls hd a w h)
theorem anyR {ls : List Oper} (hq : ¬ LetsOut Q) (hd : noDefer ls = true) : ∀ (f : Nat) (listed : Array Bool) (a : Act) (w : World), wpAny P md ls.toArray Q f listed a w → wpAnyIn (Fence.wide.inRound l) n P md ls.toArray Q f listed a w := by
  intro f
  induction f with
  | zero => intro _ _ _ h; exact h
  | succ f ih =>
    intro listed a w h
    refine ⟨h.1, fun i hi => ?_⟩
    have h2 := h.2 i hi
    unfold wpOp at h2
    unfold wpOpIn
    cases ho : ls.toArray[i]? with
    | none => simp only [ho] at h2; exact ih _ _ _ h2
    | some o =>
      simp only [ho] at h2 ⊢
      split
      · rename_i hw
        simp only [hw, if_true] at h2
        refine operR (noDefer_spec hd ho) ?_
        exact Oper.wp_mono (fun a w h => ih _ _ _ h) (h2.resolve_right fun hh => hq hh.2)
      · rename_i hw
        simp only [hw] at h2
        exact ⟨fun _ _ => trivial, ih _ _ _ h2⟩
theorem pi_startR {id : Nat} {ls : List Oper} {a : Act} {w : World} (C : World → Prop) (ex : List Nat) (hm : P.follows .mixedOrders = true) (hq : ¬ LetsOut Q) (hd : noDefer ls = true)
    (h : anyC P .any ls.toArray Q C ex ls.length (Array.replicate ls.length false) a w.drew) : (Code.region id ls.toArray true).wpIn (Fence.wide.inRound l) n P Q a w := by
  refine wpIn_region_any hm ?_
  have := anyR (l := l) (n := n) hq hd _ _ _ _ (any_of_anyC _ _ _ _ h)
  simpa using this
end
end Go.Proofs.YtmalncfcgcebhaaGreatDoor
namespace Go.Proofs.YtmalncfcgcebhaaGreatDoor
set_option linter.unusedVariables false
open Go.RowKit
attribute [local go_sem] Oper.semAt_some
theorem Kat_c (s : Nat) (key : Int) (w : World) :
    Calls Tryz.prog 167 #[.pointer (some ⟨s, 0, none⟩), .int .u64 key] w fun e w' => e = .returned (.func (.func 207) #[] #[.pointer (some ⟨w.heap.size, 0, none⟩), .pointer (some ⟨w.heap.size + 1, 0, none⟩)]) ∧
      w' = (w.alloc (.cells #[.pointer (some ⟨s, 0, none⟩)] 40)).alloc (.cells #[.int .u64 key] 22) := by
  have hmf : ∀ (fn : Fn) (first cap : Array Value) (w : World), (Instr.makeFunc fn first cap).run Tryz.prog w = .ok (.func fn first cap) w := fun _ _ _ _ => rfl
  go_enter Tryz.func167, Tryz.ntmps167
  go_wp2
  go_ret
  exact ⟨rfl, rfl⟩
/-- What a round that goes on keeps: whatever lay below n₀, but for the blocks of S. -/
def KpS (n₀ : Nat) (S : Nat → Prop) (W W' : World) : Prop := ∀ b, b < n₀ → ¬ S b → W'.heap[b]? = W.heap[b]?
theorem KpS.t {n₀ : Nat} {S : Nat → Prop} {A B C : World} (h : KpS n₀ S A B) (k : KpS n₀ S B C) : KpS n₀ S A C := fun b hb hs => (k b hb hs).trans (h b hb hs)
theorem KpS.b {n₀ : Nat} {S : Nat → Prop} {w : World} (hn : n₀ ≤ w.heap.size) (W : World) (l : Nat) (o o' : Obj) (hl : w.heap.size ≤ l) (h : W.heap[l]? = some o) (_ : o.isCells = false) (_ : o.isWalk = false) : KpS n₀ S W (W.putObj l o') := by
  intro b hb _
  exact World.putObj_heap_other (by omega)
theorem KpS.cell {n₀ : Nat} {S : Nat → Prop} {W W' : World} (h : KpS n₀ S W W') {b o : Nat} (hb : b < n₀) (hs : ¬ S b) : W'.cell? ⟨b, o, none⟩ = W.cell? ⟨b, o, none⟩ := by
  unfold World.cell?; rw [show (⟨b, o, none⟩ : Addr).block = b from rfl, h b hb hs]
def lvEnc (C : Cfg) (L : Nat → Lev) (B : Nat) (key : Int) (x : {n : Nat // n ≤ B}) : Array Value := #[lvV C x.1 (L x.1), .int .u64 (sh x.1 key)]
set_option maxRecDepth 100000 in
set_option maxHeartbeats 2000000 in
theorem kat1_in (n l Bs Bk n₀ s g cap : Nat) (S : Nat → Prop) (C : Cfg) (L : Nat → Lev) (B : Nat) (key : Int) (hkey : U64 key) (hB : B ≤ 59) (J Jx : List {n : Nat // n ≤ B} → World → Prop)
    (hbs : Bs < n₀) (hbk : Bk < n₀) (hs : s < n₀) (hg : g < n₀) (nbs : ¬ S Bs) (nbk : ¬ S Bk) (ns : ¬ S s) (ng : ¬ S g)
    (hY : ∀ pre x W, J pre W → pre.length < B + 1 → YieldAt Fence.wide (n - 1) Tryz.prog l (lvEnc C L B key x) W fun e W' =>
      (e = .returned (.bool true) ∧ J (pre ++ [x]) W' ∧ KpS n₀ S W W') ∨ (e = .returned (.bool false) ∧ Jx (pre ++ [x]) W'))
    (W : World) (hBs : W.cell? ⟨Bs, 0, none⟩ = some (.pointer (some ⟨s, 0, none⟩))) (hBk : W.cell? ⟨Bk, 0, none⟩ = some (.int .u64 key))
    (h5 : W.cell? ⟨s, 5, none⟩ = some (.slice (some ⟨g, 0, none⟩) (B + 1) cap)) (hc : ∀ n, n ≤ B → W.cell? ⟨g, n, none⟩ = some (lvV C n (L n))) (h0 : J [] W) :
    CallsIn Fence.wide n Tryz.prog 207 #[.func (.yield l) #[] #[], .pointer (some ⟨Bs, 0, none⟩), .pointer (some ⟨Bk, 0, none⟩)] W fun e W' => (∃ v, e = .returned v) ∧
      ((∃ ys, ys.map (fun x : {n : Nat // n ≤ B} => x.1) = List.range (B + 1) ∧ J ys W') ∨ (∃ pre, True ∧ Jx pre W')) := by
  refine callsIn_of_wp Tryz.func207 rfl trivial ?_ rfl
  simp only [Tryz.ntmps207, List.size_toArray, List.length_cons, List.length_nil, Nat.reduceAdd, Nat.reduceSub, Array.replicate_succ, Array.replicate_zero, List.push_toArray, List.append_toArray, List.nil_append, List.cons_append]
  gi_wp2
  gi_loopw [11] (fun i wr => ∃ (k : Nat) (pre : List {n : Nat // n ≤ B}), k ≤ B + 1 ∧ i = .int .i64 k ∧ pre.map (fun x : {n : Nat // n ≤ B} => x.1) = List.range k ∧ J pre wr ∧ KpS n₀ S W wr)
    (fun i _ => B + 1 - (intOf i).toNat)
  case atStart => exact ⟨0, [], Nat.zero_le _, rfl, rfl, h0, fun _ _ _ => rfl⟩
  case round =>
    obtain ⟨k, pre, hk, rfl, hpre, hJs, hnx⟩ := hrel
    have hlen : pre.length = k := by have := congrArg List.length hpre; simpa using this
    by_cases hlt : k < B + 1
    · have hcx := (hnx.cell (o := k) hg ng).trans (hc k (by omega))
      have hkx := (hnx.cell (o := 0) hbk nbk).trans hBk
      obtain ⟨fn, tmps, assign, body, hy, hR⟩ := hY pre ⟨k, by omega⟩ wr hJs (by omega)
      dsimp only [lvEnc, sh] at hy
      gi_wp2
      refine ⟨fun h => (by cases h), hR.mono ?_⟩
      rintro e W3 (⟨rfl, hJ3, hk3⟩ | ⟨rfl, hJx3⟩)
      · gi_wp2
        go_roundw
        case rel => exact ⟨k + 1, pre ++ [⟨k, by omega⟩], by omega, by simp, by rw [List.map_append, hpre, List.range_succ]; rfl, hJ3, hnx.t hk3⟩
        case measure => simp [intOf]; omega
      · gi_wp2
        refine bodyPost_ret (results_none rfl _ _ _) rfl ?_
        exact ⟨⟨_, rfl⟩, .inr ⟨_, trivial, hJx3⟩⟩
    · obtain rfl : k = B + 1 := by omega
      gi_wp2
      go_end0
      exact ⟨⟨_, rfl⟩, .inl ⟨pre, hpre, hJs⟩⟩
theorem kat1_stops (n Bs Bk n₀ s g cap : Nat) (S : Nat → Prop) (C : Cfg) (L : Nat → Lev) (B : Nat) (key : Int) (hkey : U64 key) (hB : B ≤ 59)
    (hbs : Bs < n₀) (hbk : Bk < n₀) (hs : s < n₀) (hg : g < n₀) (nbs : ¬ S Bs) (nbk : ¬ S Bk) (ns : ¬ S s) (ng : ¬ S g) (w : World) (hn : n₀ ≤ w.heap.size)
    (hBs : w.cell? ⟨Bs, 0, none⟩ = some (.pointer (some ⟨s, 0, none⟩))) (hBk : w.cell? ⟨Bk, 0, none⟩ = some (.int .u64 key))
    (h5 : w.cell? ⟨s, 5, none⟩ = some (.slice (some ⟨g, 0, none⟩) (B + 1) cap)) (hc : ∀ n, n ≤ B → w.cell? ⟨g, n, none⟩ = some (lvV C n (L n))) :
    SeqStopsK Fence.wide n Tryz.prog 207 #[.pointer (some ⟨Bs, 0, none⟩), .pointer (some ⟨Bk, 0, none⟩)] (lvEnc C L B key) (KpS n₀ S) (fun ys => ys.map (fun x : {n : Nat // n ≤ B} => x.1) = List.range (B + 1)) (fun _ => True) (B + 1) w := by
  intro l J Jx W hW hJ hJx hY h0
  refine kat1_in n l Bs Bk n₀ s g cap S C L B key hkey hB J Jx hbs hbk hs hg nbs nbk ns ng hY W ?_ ?_ ?_ (fun n hn' => ?_) h0
  · exact (hW.cell (p := ⟨Bs, 0, none⟩) (Nat.lt_of_lt_of_le hbs hn)).trans hBs
  · exact (hW.cell (p := ⟨Bk, 0, none⟩) (Nat.lt_of_lt_of_le hbk hn)).trans hBk
  · exact (hW.cell (p := ⟨s, 5, none⟩) (Nat.lt_of_lt_of_le hs hn)).trans h5
  · exact (hW.cell (p := ⟨g, n, none⟩) (Nat.lt_of_lt_of_le hg hn)).trans (hc n hn')
set_option maxRecDepth 20000 in
theorem first_c (g cap : Nat) (a b : Int) (w : World) (h0 : w.cell? ⟨g, 0, none⟩ = some (.int .i64 a)) (h1 : w.cell? ⟨g, 1, none⟩ = some (.int .i64 b)) :
    Calls Tryz.prog 168 #[.slice (some ⟨g, 0, none⟩) 2 cap] w fun e w' => e = .returned (.int .i64 (fst_ a b)) ∧ w = w' := by
  by_cases ha : a = 0
  · have e0 : fst_ a b = b := by unfold fst_; rw [decide_eq_true ha]; rfl
    rw [e0]
    subst ha
    by_cases hb : b = 0
    · subst hb
      go_enter Tryz.func168, Tryz.ntmps168
      go_wp2
      refine wp_loop_rounds 3 ?_
      iterate 3 (rw [rounds_succ]; go_wp2)
      go_ret
      exact ⟨rfl, rfl⟩
    · go_enter Tryz.func168, Tryz.ntmps168
      go_wp2
      refine wp_loop_rounds 2 ?_
      iterate 2 (rw [rounds_succ]; go_wp2)
      go_ret
      exact ⟨rfl, rfl⟩
  · have e0 : fst_ a b = a := by unfold fst_; rw [decide_eq_false ha]; rfl
    rw [e0]
    go_enter Tryz.func168, Tryz.ntmps168
    go_wp2
    refine wp_loop_rounds 1 ?_
    iterate 1 (rw [rounds_succ]; go_wp2)
    go_ret
    exact ⟨rfl, rfl⟩
end Go.Proofs.YtmalncfcgcebhaaGreatDoor
namespace Go.Proofs.YtmalncfcgcebhaaGreatDoor
set_option linter.unusedVariables false
open Go.RowKit
theorem keepsO_ext {w w' : World} (h : Ext w w') : KeepsOthers w w' :=
  ⟨h.size, fun k o hk _ => (h.block k (Array.getElem?_eq_some_iff.1 hk).1).trans hk⟩
theorem keepsO_mod {S : Nat → Prop} {w w' : World} (h : Mod S w w') (hS : ∀ k, S k → k < w.heap.size → ∃ cur t f, w.heap[k]? = some (.cells cur t f)) : KeepsOthers w w' :=
  ⟨h.size, fun k o hk ho => by
    have hlt := (Array.getElem?_eq_some_iff.1 hk).1
    refine (h.block k hlt fun hs => ?_).trans hk
    obtain ⟨cur, t, f, hc⟩ := hS k hs hlt
    rw [hk] at hc
    injection hc with hc
    subst hc
    cases ho⟩
theorem kps_mod {n₀ : Nat} {S : Nat → Prop} {w w' : World} (h : Mod S w w') (hn : n₀ ≤ w.heap.size) : KpS n₀ S w w' := fun b hb hs => h.block b (by omega) hs
theorem kps_ext {n₀ : Nat} {S : Nat → Prop} {w w' : World} (h : Ext w w') (hn : n₀ ≤ w.heap.size) : KpS n₀ S w w' := fun b hb _ => h.block b (by omega)
/-- What lies below a bound is carried by whatever grows from there. -/
theorem grown_low {W W' : World} {row : Option Nat} {B k : Nat} (hg : W.grownBy W' row) (hr : ∀ r, row = some r → B ≤ r) (hk : k < W.heap.size) (hB : k < B) : W'.heap[k]? = W.heap[k]? :=
  hg.block k hk (fun e => by have := hr k e.symm; omega)
theorem ownFrom_mod {β : Type} {S : Nat → Prop} {B : Nat} {w₀ : World} (hB : w₀.heap.size ≤ B) : OwnFrom B (fun (_ : β) W => Mod S w₀ W) :=
  fun _ _ _ _ hs hg hr => ⟨hg.os.trans hs.os, hg.tape.trans hs.tape, hg.output.trans hs.output, Nat.le_trans hs.size hg.size, fun k hk hn => (grown_low hg (fun r e => (hr r e).1) (Nat.lt_of_lt_of_le hk hs.size) (by omega)).trans (hs.block k hk hn)⟩
theorem ownFrom_box {β : Type} {B b : Nat} (hb : b < B) (f : β → Obj) : OwnFrom B (fun (s : β) W => W.heap[b]? = some (f s)) :=
  fun s W W' row hs hg hr => (grown_low hg (fun r e => (hr r e).1) (lt_of hs) hb).trans hs
/-- A stack's blocks lie below a bound. -/
structure KLow (N s g B : Nat) (L : Nat → Lev) : Prop where
  s : s < N
  g : g < N
  ls : ∀ n, n ≤ B → (L n).s < N
  lb : ∀ n, n ≤ B → (L n).b < N
  lc : ∀ n, n ≤ B → (L n).c < N
theorem KAt.low {w : World} {s g : Nat} {C : Cfg} {B : Nat} {L : Nat → Lev} {ls : Nat → List Int} (h : KAt w s g C B L ls) : KLow w.heap.size s g B L :=
  ⟨h.lts, h.ltg, fun n hn => (h.lev n hn).lts, fun n hn => (h.lev n hn).ltb, fun n hn => (h.lev n hn).ltc⟩
theorem KLow.mono {N M s g B : Nat} {L : Nat → Lev} (h : KLow N s g B L) (hM : N ≤ M) : KLow M s g B L :=
  ⟨Nat.lt_of_lt_of_le h.s hM, Nat.lt_of_lt_of_le h.g hM, fun n hn => Nat.lt_of_lt_of_le (h.ls n hn) hM, fun n hn => Nat.lt_of_lt_of_le (h.lb n hn) hM, fun n hn => Nat.lt_of_lt_of_le (h.lc n hn) hM⟩
theorem KAt.keepN {w w' : World} {N s g : Nat} {C : Cfg} {B : Nat} {L : Nat → Lev} {ls : Nat → List Int} (h : KAt w s g C B L ls) (hl : KLow N s g B L) (hk : ∀ k, k < w.heap.size → k < N → w'.heap[k]? = w.heap[k]?) : KAt w' s g C B L ls :=
  ⟨by rw [hk s h.lts hl.s]; exact h.ex, by rw [hk g h.ltg hl.g]; exact h.row, fun n hn => (h.lev n hn).keep (hk _ (h.lev n hn).lts (hl.ls n hn)) (hk _ (h.lev n hn).ltb (hl.lb n hn)) (hk _ (h.lev n hn).ltc (hl.lc n hn)), h.sep, h.ok, h.hB⟩
/-- One level is changed. -/
theorem KAt.put {w w' : World} {s g : Nat} {C : Cfg} {B : Nat} {L : Nat → Lev} {ls : Nat → List Int} (h : KAt w s g C B L ls) {n : Nat} (hn : n ≤ B) (hm : Mod (fun k => k = (L n).c) w w') {l : List Int} (hl : LvAt w' (L n) C n l) :
    KAt w' s g C B L (fun m => if m = n then l else ls m) := by
  have hcs : ∀ k, k = (L n).c → k < w.heap.size → ∃ cur, w.heap[k]? = some (.cells cur 2 (0, 0)) := by
    rintro k rfl _; exact (h.lev n hn).isc
  refine ⟨?_, ?_, fun m hm' => ?_, h.sep, h.ok, h.hB⟩
  · rw [hm.block s h.lts fun e => h.nots ⟨n, hn, e⟩]; exact h.ex
  · rw [hm.block g h.ltg fun e => h.notg ⟨n, hn, e⟩]; exact h.row
  · by_cases e : m = n
    · subst e; rw [if_pos rfl]; exact hl
    · rw [if_neg e]; exact (h.lev m hm').mod hm hcs (h.sep m n hm' hn e)
theorem KAt.mod1 {w w' : World} {s g : Nat} {C : Cfg} {B : Nat} {L : Nat → Lev} {ls : Nat → List Int} (h : KAt w s g C B L ls) {n : Nat} (hn : n ≤ B) (hm : Mod (fun k => k = (L n).c) w w') : Mod (cellsOf B L) w w' :=
  hm.mono fun k hk _ => ⟨n, hn, hk⟩
theorem KAt.cellsT {w : World} {s g : Nat} {C : Cfg} {B : Nat} {L : Nat → Lev} {ls : Nat → List Int} (h : KAt w s g C B L ls) (k : Nat) (hk : cellsOf B L k) (_ : k < w.heap.size) : ∃ cur t f, w.heap[k]? = some (.cells cur t f) := by
  obtain ⟨cur, hc⟩ := h.isc hk; exact ⟨_, _, _, hc⟩
theorem mod_new {w W0 W : World} {b : Nat} (he : Ext w W0) (hm : Mod (fun k => k = b) W0 W) (hb : w.heap.size ≤ b) : Mod (fun _ => False) w W :=
  ⟨hm.os.trans he.os, hm.tape.trans he.tape, hm.output.trans he.output, Nat.le_trans he.size hm.size, fun k hk _ => (hm.block k (Nat.lt_of_lt_of_le hk he.size) (by omega)).trans (he.block k hk)⟩
theorem mod_putD {S : Nat → Prop} {w W : World} {D : Nat} {o : Obj} (h : Mod S w W) (hD : w.heap.size ≤ D) : Mod S w (W.putObj D o) :=
  ⟨h.os, h.tape, h.output, Nat.le_trans h.size (by simp [World.putObj]), fun k hk hn => (World.putObj_heap_other (by omega)).trans (h.block k hk hn)⟩
/-- A round that has written one box. -/
theorem chk_round {W0 W w3 : World} {b : Nat} {t : TypeId} {u v : Value} {o : Obj} (hb : W.heap[b]? = some (.cells #[u] t (0, 0))) (hx : Ext W w3) (hM : Mod (fun k => k = b) W0 W) :
    KeepsOthers W ((w3.setCell ⟨b, 0, none⟩ v).alloc o) ∧ KpS W0.heap.size (fun k => k = b) W ((w3.setCell ⟨b, 0, none⟩ v).alloc o) ∧ ((w3.setCell ⟨b, 0, none⟩ v).alloc o).heap[b]? = some (.cells #[v] t (0, 0)) ∧ Mod (fun k => k = b) W0 ((w3.setCell ⟨b, 0, none⟩ v).alloc o) := by
  have h3 := hx.keep hb
  have hl := lt_of h3
  have hm : Mod (fun k => k = b) W ((w3.setCell ⟨b, 0, none⟩ v).alloc o) := ((hx.mod _).trans (mod_set _ _ _ _)).trans ((Ext.alloc' _ _).mod _)
  refine ⟨keepsO_mod hm ?_, kps_mod hm hM.size, ?_, hM.trans hm⟩
  · rintro k rfl _; exact ⟨_, _, _, hb⟩
  · rw [heap_old _ _ (by rw [size_setCell]; exact hl), setCell_same h3]; rfl
/-- The numbers of some levels. -/
def vals {B : Nat} (pre : List {n : Nat // n ≤ B}) : List Nat := pre.map fun x => x.1
theorem vals_snoc {B : Nat} (pre : List {n : Nat // n ≤ B}) (x : {n : Nat // n ≤ B}) : vals (pre ++ [x]) = vals pre ++ [x.1] := by unfold vals; rw [List.map_append]; rfl
/-- What the levels say that have been asked. -/
def errF (C : Cfg) (ls : Nat → List Int) (key d : Int) (pre : List Nat) : Int := pre.foldl (fun (b : Int) (n : Nat) => fst_ b (lvE C n (ls n) (sh n key) d)) 0
theorem errF_snoc (C : Cfg) (ls : Nat → List Int) (key d : Int) (pre : List Nat) (n : Nat) : errF C ls key d (pre ++ [n]) = fst_ (errF C ls key d pre) (lvE C n (ls n) (sh n key) d) := by
  unfold errF; rw [List.foldl_append]; rfl
theorem errF_range (C : Cfg) (ls : Nat → List Int) (key d : Int) (m : Nat) : errF C ls key d (List.range m) = errs C ls key d m := by
  induction m with
  | zero => rfl
  | succ m ih => rw [List.range_succ, errF_snoc, ih]; rfl
/-- The levels, when some have been told of an update. -/
def partK (C : Cfg) (ls : Nat → List Int) (key d : Int) (pre : List Nat) (n : Nat) : List Int := if n ∈ pre then updK C ls key d n else ls n
/-- A round that has told a level of an update. -/
theorem upd_round {W2 W w3 : World} {s g : Nat} {C : Cfg} {B : Nat} {L : Nat → Lev} {ls ls' : Nat → List Int} {key d : Int} {pre : List {n : Nat // n ≤ B}} {x : {n : Nat // n ≤ B}} {D : Nat}
    (h : KAt W s g C B L ls') (hp : (vals pre).Nodup → ∀ n, ls' n = partK C ls key d (vals pre) n) (hM : Mod (cellsOf B L) W2 W) (hD : W.heap[D]? = some (.deferred (some [])))
    (hall : ∀ n, n ≤ B → lvE C n (ls n) (sh n key) d = 0)
    (hres : (lvE C x.1 (ls' x.1) (sh x.1 key) d = 0 ∧ LvAt w3 (L x.1) C x.1 (lvU C x.1 (ls' x.1) (sh x.1 key) d) ∧ Mod (fun k => k = (L x.1).c) W w3) ∨ (lvE C x.1 (ls' x.1) (sh x.1 key) d ≠ 0 ∧ Ext W w3)) :
    KeepsOthers W w3 ∧ KpS W2.heap.size (cellsOf B L) W w3 ∧ w3.heap[D]? = some (.deferred (some [])) ∧ (∃ ls'', KAt w3 s g C B L ls'' ∧ ((vals (pre ++ [x])).Nodup → ∀ n, ls'' n = partK C ls key d (vals (pre ++ [x])) n)) ∧ Mod (cellsOf B L) W2 w3 := by
  have old : (vals (pre ++ [x])).Nodup → (vals pre).Nodup ∧ x.1 ∉ vals pre := by
    intro hn
    rw [vals_snoc, List.nodup_append] at hn
    exact ⟨hn.1, fun hx => hn.2.2 _ hx x.1 (by simp) rfl⟩
  rcases hres with ⟨he, hl, hm⟩ | ⟨he, hx⟩
  · have hmm := h.mod1 x.2 hm
    have hko := keepsO_mod hmm (fun k hk hlt => h.cellsT k hk hlt)
    refine ⟨hko, kps_mod hmm hM.size, hko.same _ _ hD rfl, ⟨_, h.put x.2 hm hl, fun hn n => ?_⟩, hM.trans hmm⟩
    obtain ⟨h1, h2⟩ := old hn
    by_cases e : n = x.1
    · subst e
      rw [if_pos rfl, hp h1]
      unfold partK
      rw [if_neg h2, if_pos (by rw [vals_snoc]; simp)]
      rfl
    · rw [if_neg e, hp h1]
      unfold partK
      rw [vals_snoc]
      simp only [List.mem_append, List.mem_singleton, e, or_false]
  · have hko := keepsO_ext hx
    refine ⟨hko, kps_ext hx hM.size, hko.same _ _ hD rfl, ⟨ls', h.ext hx, fun hn n => ?_⟩, hM.trans (hx.mod _)⟩
    obtain ⟨h1, h2⟩ := old hn
    exfalso
    apply he
    rw [hp h1]
    unfold partK
    rw [if_neg h2]
    exact hall _ x.2
theorem part_end {C : Cfg} {B : Nat} {ls ls' : Nat → List Int} {key d : Int} {xs : List {n : Nat // n ≤ B}} (hxs : xs.map (fun x => x.1) = List.range (B + 1)) (hp : (vals xs).Nodup → ∀ n, ls' n = partK C ls key d (vals xs) n) :
    ∀ n, n ≤ B → ls' n = updK C ls key d n := by
  have e : vals xs = List.range (B + 1) := hxs
  intro n hn
  rw [hp (by rw [e]; exact List.nodup_range), e]
  unfold partK
  rw [if_pos (by rw [List.mem_range]; omega)]
theorem KAt.cong {w : World} {s g : Nat} {C : Cfg} {B : Nat} {L : Nat → Lev} {ls ls' : Nat → List Int} (h : KAt w s g C B L ls) (he : ∀ n, n ≤ B → ls n = ls' n) : KAt w s g C B L ls' :=
  ⟨h.ex, h.row, fun n hn => he n hn ▸ h.lev n hn, h.sep, h.ok, h.hB⟩
end Go.Proofs.YtmalncfcgcebhaaGreatDoor
namespace Go.Proofs.YtmalncfcgcebhaaGreatDoor
set_option linter.unusedVariables false
open Go.RowKit
section
variable {P : Program}
/-- 's = append(s, x)', x of one cell, s a row of the call's own. -/
theorem wpList_appv (W : World) {ops : Array Oper} {rest : List Oper} {o : Oper} {a : Act} {Q : Exit → Act → World → Prop} (x : Value) (hx1 : x.oneCell' = true) (xs : List Value) (v : Value) (base : Nat) (e : TypeId) (hown : W.ownsRow base e 1 v xs.length xs) (t : TypeId)
    (hgd : o.guard = none) (s y : Operand) (ho : o.op = .call { callee := .builtin .append, args := #[s, y], argTypes := #[t, t] })
    (i0 : TypeInfo) (z0 : Value) (hi : P.info? e = some i0) (hz0 : i0.zero = some z0) (hz1 : i0.size = 1) (hz2 : i0.bytes = 16) (hz3 : z0.cells.size = 1) (ht : P.underlying t = some (.slice e))
    (hs : a.eval s = v) (hx : a.eval y = .slice (some ⟨W.heap.size, 0, none⟩) 1 1)
    (hl : xs.length ≤ 1000000) (hbase : base ≤ W.heap.size)
    (h : ∀ v' w', w'.ownsRow base e 1 v' (xs ++ [x]).length (xs ++ [x]) → (W.alloc (.cells #[x] e)).grownBy w' v.ownBlock → wpList P ops Q rest (a.put o.dst v') w') :
    wpList P ops Q (o :: rest) a (W.alloc (.cells #[x] e)) := by
  refine wpList_append_sep _ hgd s y t ho base e i0 z0 1 16 ht hi hz0 hz1 hz2 hz3 (by decide) v xs.length xs hs (hown.alloc _) ⟨W.heap.size, 0, none⟩ 1 1 [x] hx rfl ?_ ?_ (by unfold maxLen; omega) (by omega) (by rw [size_alloc]; omega) ?_
  · intro j u hu
    have hj : j = 0 := by
      have := (List.getElem?_eq_some_iff.1 hu).1
      simp at this; exact this
    subst hj
    rw [show (⟨W.heap.size, 0, none⟩ : Addr).add 0 = ⟨W.heap.size, 0, none⟩ by simp [Addr.add], cell_of (heap_at W _ rfl) 0]
    exact hu
  · intro u hu
    simp at hu
    subst hu
    exact hx1
  · intro v' w' h1 h2 h3
    refine h v' w' ?_ h2
    rw [List.length_append]
    exact h1
end
theorem own_type {w : World} {base n size : Nat} {e : TypeId} {v : Value} {xs : List Value} (h : w.ownsRow base e size v n xs) {k : Nat} (hk : v.ownBlock = some k) : ∃ cur, w.heap[k]? = some (.cells cur e (0, 0)) := by
  rcases h.2 with ⟨rfl, _⟩ | ⟨g, cap, cur, rfl, _, hg, _⟩
  · cases hk
  · cases hk; exact ⟨cur, hg⟩
theorem info_lev : ∃ i z, Tryz.prog.info? 120 = some i ∧ i.zero = some z ∧ i.size = 1 ∧ i.bytes = 16 ∧ z.cells.size = 1 := by
  have h : (Tryz.prog.info? 120).map (fun i => (i.zero, i.size, i.bytes)) = some (some .nilIface, 1, 16) := by kernel_rfl
  match hi : Tryz.prog.info? 120, h with
  | some i, h =>
    simp only [Option.map_some, Option.some.injEq, Prod.mk.injEq] at h
    exact ⟨i, .nilIface, rfl, h.1, h.2.1, h.2.2, rfl⟩
def lvVs (C : Cfg) (L : Nat → Lev) (n : Nat) : List Value := (List.range n).map fun (i : Nat) => lvV C i (L i)
theorem lvVs_len (C : Cfg) (L : Nat → Lev) (n : Nat) : (lvVs C L n).length = n := by simp [lvVs]
theorem lvVs_succ (C : Cfg) (L : Nat → Lev) (n : Nat) : lvVs C L (n + 1) = lvVs C L n ++ [lvV C n (L n)] := by
  unfold lvVs; rw [List.range_succ, List.map_append]; rfl
theorem lvVs_cong (C : Cfg) {L L' : Nat → Lev} {n : Nat} (h : ∀ i, i < n → L i = L' i) : lvVs C L n = lvVs C L' n := by
  unfold lvVs
  apply List.map_congr_left
  intro i hi
  rw [List.mem_range] at hi
  rw [h i hi]
theorem lvVs_get (C : Cfg) (L : Nat → Lev) {n i : Nat} (h : i < n) : (lvVs C L n)[i]? = some (lvV C i (L i)) := by
  unfold lvVs; rw [List.getElem?_map, List.getElem?_range h]; rfl
/-- A row of levels' block is no level's. -/
theorem LvAt.norow {w : World} {L : Lev} {C : Cfg} {lv : Int} {l : List Int} (h : LvAt w L C lv l) {k : Nat} {cur : Array Value} (hk : w.heap[k]? = some (.cells cur 120 (0, 0))) : k ≠ L.s ∧ k ≠ L.b ∧ k ≠ L.c := by
  refine ⟨?_, ?_, ?_⟩
  · rcases h with ⟨_, h⟩ | ⟨_, h⟩ <;> exact blk_ne hk h.ex (by decide)
  · rcases h with ⟨_, h⟩ | ⟨_, h⟩ <;> (obtain ⟨cap, h1, _⟩ := h.g.ex; exact blk_ne hk h1 (by decide))
  · obtain ⟨cur', h1⟩ := h.isc
    exact blk_ne hk h1 (by decide)
theorem LvAt.grown {w w' : World} {o : Obj} {row : Option Nat} {L : Lev} {C : Cfg} {lv : Int} {l : List Int} (h : LvAt w L C lv l) (hg : (w.alloc o).grownBy w' row) (hr : ∀ i, row = some i → ∃ cur, w.heap[i]? = some (.cells cur 120 (0, 0))) : LvAt w' L C lv l := by
  have key : ∀ k, k < w.heap.size → (∀ i, row = some i → i ≠ k) → w'.heap[k]? = w.heap[k]? := fun k hk hn => grown_old hg hk (fun e => hn k e.symm rfl)
  refine h.keep (key _ h.lts fun i hi => ?_) (key _ h.ltb fun i hi => ?_) (key _ h.ltc fun i hi => ?_)
  all_goals
    obtain ⟨cur, hc⟩ := hr i hi
    have := h.norow hc
  · exact this.1
  · exact this.2.1
  · exact this.2.2
/-- Some levels that have been made. -/
structure Made (w : World) (B0 : Nat) (C : Cfg) (k : Nat) (L : Nat → Lev) (ls : Nat → List Int) (v : Value) : Prop where
  row : w.ownsRow B0 120 1 v (lvVs C L k).length (lvVs C L k)
  lev : ∀ n, n < k → LvAt w (L n) C n (ls n)
  new : ∀ n, n < k → B0 ≤ (L n).s ∧ B0 ≤ (L n).b ∧ B0 ≤ (L n).c
  sep : ∀ m n, m < k → n < k → m ≠ n → (L m).c ≠ (L n).c
theorem Made.ext {w w' : World} {B0 k : Nat} {C : Cfg} {L : Nat → Lev} {ls : Nat → List Int} {v : Value} (h : Made w B0 C k L ls v) (he : Ext w w') : Made w' B0 C k L ls v :=
  ⟨own_ext h.row he, fun n hn => (h.lev n hn).ext he, h.new, h.sep⟩
/-- One more. -/
theorem Made.next {w w' : World} {B0 k : Nat} {C : Cfg} {L : Nat → Lev} {ls : Nat → List Int} {v v' : Value} {M : Lev} {l : List Int} {o : Obj} {N : Nat} (h : Made w B0 C k L ls v) (hM : LvAt w M C k l) (hN : ∀ n, n < k → (L n).c < N) (hB : B0 ≤ N) (h1 : N ≤ M.s) (h2 : N ≤ M.b) (h3 : N ≤ M.c)
    (hl : l = ls k) (hown : w'.ownsRow B0 120 1 v' (lvVs C L k ++ [lvV C k M]).length (lvVs C L k ++ [lvV C k M])) (hg : (w.alloc o).grownBy w' v.ownBlock) : Made w' B0 C (k + 1) (fun n => if n = k then M else L n) ls v' := by
  subst hl
  have hr : ∀ i, v.ownBlock = some i → ∃ cur, w.heap[i]? = some (.cells cur 120 (0, 0)) := fun i hi => own_type h.row hi
  refine ⟨?_, fun n hn => ?_, fun n hn => ?_, fun m n hm hn hmn => ?_⟩
  · rw [lvVs_succ, if_pos rfl, lvVs_cong C (L' := L) (fun i hi => if_neg (by omega))]
    exact hown
  · by_cases e : n = k
    · subst e; rw [if_pos rfl]; exact hM.grown hg hr
    · rw [if_neg e]; exact (h.lev n (by omega)).grown hg hr
  · by_cases e : n = k
    · rw [if_pos e]; exact ⟨by omega, by omega, by omega⟩
    · rw [if_neg e]; exact h.new n (by omega)
  · by_cases e : m = k
    · subst e
      rw [if_pos rfl, if_neg (by omega)]
      have := hN n (by omega)
      omega
    · rw [if_neg e]
      by_cases e' : n = k
      · subst e'
        rw [if_pos rfl]
        have := hN m (by omega)
        omega
      · rw [if_neg e']; exact h.sep m n (by omega) (by omega) hmn
theorem Made.ltN {w : World} {B0 k : Nat} {C : Cfg} {L : Nat → Lev} {ls : Nat → List Int} {v : Value} (h : Made w B0 C k L ls v) (n : Nat) (hn : n < k) : (L n).c < w.heap.size := (h.lev n hn).ltc
/-- All levels, and the stack's own block: a stack. -/
theorem Made.stack {w : World} {s B0 B : Nat} {C : Cfg} {L : Nat → Lev} {ls : Nat → List Int} {v : Value} (h : Made w B0 C (B + 1) L ls v) (hok : C.Ok) (hB : C.bits = B) (hs : w.heap[s]? = some (.cells #[.int .i64 C.bits, .int .i64 C.rows, .int .i64 C.width, .int .i64 C.mode, .int .u64 C.seed, v] 118 (0, 0))) :
    ∃ g, B0 ≤ g ∧ KAt w s g C B L ls := by
  have hl := lvVs_len C L (B + 1)
  rcases h.row.2 with ⟨_, h0⟩ | ⟨g, cap, cur, rfl, hbg, hg, hnc, hcm, hcs, htake⟩
  · rw [hl] at h0; omega
  · rw [hl] at hs hnc
    refine ⟨g, hbg, ⟨⟨cap, hs, hnc⟩, ⟨cur, hg, fun n hn => ?_⟩, fun n hn => h.lev n (by omega), fun m n hm hn => h.sep m n (by omega) (by omega), hok, hB⟩⟩
    have h1 := h.row.cells (g := g) rfl n _ (lvVs_get C L (show n < B + 1 by omega))
    rw [show ((⟨g, 0, none⟩ : Addr).add n) = ⟨g, n, none⟩ by (simp [Addr.add]; intro e; exact e.symm), cell_of hg] at h1
    exact h1
theorem Made.setc {w : World} {B0 k : Nat} {C : Cfg} {L : Nat → Lev} {ls : Nat → List Int} {v : Value} (h : Made w B0 C k L ls v) {b : Nat} (hb : b < B0) (o : Nat) (u : Value) : Made (w.setCell ⟨b, o, none⟩ u) B0 C k L ls v :=
  ⟨own_setc h.row hb o u, fun n hn => (h.lev n hn).keep (setCell_other _ _ (by have := h.new n hn; omega)) (setCell_other _ _ (by have := h.new n hn; omega)) (setCell_other _ _ (by have := h.new n hn; omega)), h.new, h.sep⟩
def KNewPost (w : World) (C : Cfg) (e : Ending) (w' : World) : Prop :=
  ∃ (s g : Nat) (L : Nat → Lev), e = .returned (.tuple #[.pointer (some ⟨s, 0, none⟩), .int .i64 0]) ∧ KAt w' s g C C.bits.toNat L (fun n => zs (lvN C n)) ∧ w.heap.size ≤ s ∧ w.heap.size ≤ g ∧ (∀ n, n ≤ C.bits.toNat → w.heap.size ≤ (L n).s ∧ w.heap.size ≤ (L n).b ∧ w.heap.size ≤ (L n).c) ∧ Ext w w'
set_option maxRecDepth 20000 in
set_option maxHeartbeats 4000000 in
theorem KNew_c (C : Cfg) (h : C.Ok) (w : World) :
    Calls Tryz.prog 55 #[.agg #[.int .i64 C.bits, .int .i64 C.rows, .int .i64 C.width, .int .i64 C.mode, .int .u64 C.seed]] w (KNewPost w C) := by
  have hb1 := h.b1
  have hb2 := h.b2
  obtain ⟨B, hB⟩ : ∃ B : Nat, C.bits = B := ⟨C.bits.toNat, by omega⟩
  have hBt : C.bits.toNat = B := by omega
  unfold KNewPost
  rw [hBt]
  have HB := Lib.hid hB
  have HBT := Lib.hid hBt
  clear hB hBt
  go_enter Tryz.func55, Tryz.ntmps55
  go_wp2_with fail
  refine (Right_c C h _).mono ?_
  rintro e w1 ⟨rfl, hx1⟩
  have hE1 : Ext w w1 := (Ext.alloc' w _).trans' hx1
  have hcb := hx1.keep (heap_at w (.cells #[.int .i64 C.bits, .int .i64 C.rows, .int .i64 C.width, .int .i64 C.mode, .int .u64 C.seed] 24) rfl)
  have hC1 := CfgAt.of hcb
  have c0 := hC1.c0
  have c1 := hC1.c1
  have c2 := hC1.c2
  have c3 := hC1.c3
  have c4 := hC1.c4
  have cl := hC1.lt
  have hs1 := hE1.size
  have hbits : C.bits + 1 = (B : Int) + 1 := by rw [HB.out]
  go_wp2
  go_loopw [5, 18] (fun u5 u18 wr => ∃ (k : Nat) (L : Nat → Lev), k ≤ B + 1 ∧ u18 = .int .i64 k ∧ Ext w wr ∧ wr.heap[w.heap.size]? = some (.cells #[.int .i64 C.bits, .int .i64 C.rows, .int .i64 C.width, .int .i64 C.mode, .int .u64 C.seed] 24 (0, 0)) ∧
      wr.heap[w1.heap.size]? = some (.cells #[.int .i64 C.bits, .int .i64 C.rows, .int .i64 C.width, .int .i64 C.mode, .int .u64 C.seed, .slice none 0 0] 118 (0, 0)) ∧
      Made wr (w1.heap.size + 1) C k L (fun n => zs (lvN C n)) u5) (fun _ u18 _ => B + 1 - (intOf u18).toNat)
  case atStart =>
    refine ⟨0, fun _ => ⟨0, 0, 0⟩, Nat.zero_le _, rfl, hE1.allocR _, by rw [heap_old _ _ (by omega)]; exact hcb, heap_at _ _ rfl, ⟨⟨rfl, .inl ⟨rfl, rfl⟩⟩, ?_, ?_, ?_⟩⟩ <;> (intros; omega)
  case round =>
    obtain ⟨k, L, hk, rfl, hE, hcr, hbox, hM⟩ := hrel
    have hC := CfgAt.of hcr
    have d0 := hC.c0
    have d1 := hC.c1
    have d2 := hC.c2
    have d3 := hC.c3
    have d4 := hC.c4
    have dl := hC.lt
    have hbl := lt_of hbox
    have HC := Lib.hid hcr
    have HBX := Lib.hid hbox
    have HM := Lib.hid hM
    clear hC hcr hbox hM
    by_cases hlt : k < B + 1
    · go_wp2_with fail
      refine (LNew_c C h k (by omega) (by have := HB.out; omega) _).mono ?_
      rintro e w2 ⟨M, rfl, hL, n1, n2, n3, hx2⟩
      have hown := own_ext HM.out.row hx2
      have hszz := hx2.size
      obtain ⟨T, hT⟩ : ∃ T, lvV C k M = .iface T (.pointer (some ⟨M.s, 0, none⟩)) := ⟨lvT C k, rfl⟩
      rw [hT]
      have HT := Lib.hid hT
      clear hT
      have hll := lvVs_len C L k
      obtain ⟨i0, z0, hi0, hz0, hz1, hz2, hz3⟩ := info_lev
      go_wp2_with (at_builtin; refine wpList_appv w2 (.iface T (.pointer (some ⟨M.s, 0, none⟩))) rfl (lvVs C L k) u5 (w1.heap.size + 1) 120 hown 116 rfl _ _ rfl i0 z0 hi0 hz0 hz1 hz2 hz3 Tryz.underlying116 rfl rfl ?a1 ?a2 ?_)
      case a1 => omega
      case a2 => omega
      intro v' w' hown' hgr
      have hmade := HM.out.ext hx2
      have hnext := hmade.next (N := wr.heap.size) (ls := fun n => zs (lvN C n)) hL (fun n hn => HM.out.ltN n hn) (by omega) n1 n2 n3 rfl (by rw [HT.out, List.length_append, hll]; exact hown') hgr
      have hge : ∀ i, u5.ownBlock = some i → w1.heap.size + 1 ≤ i := fun i hi => own_blk hown hi
      have hex : Ext w w' := ext_grown (hE.trans' hx2) hgr (fun i hi => by have := hge i hi; omega)
      have hCx := (grown_old hgr (show w.heap.size < w2.heap.size by omega) (fun e => by have := hge _ e.symm; omega)).trans (hx2.keep HC.out)
      have hbx := (grown_old hgr (show w1.heap.size < w2.heap.size by omega) (fun e => by have := hge _ e.symm; omega)).trans (hx2.keep HBX.out)
      go_wp2
      go_roundw
      case rel => exact ⟨k + 1, _, by omega, by go_num, hex, hCx, hbx, hnext⟩
      case measure => simp [intOf]; omega
    · obtain rfl : k = B + 1 := by omega
      obtain ⟨p5, k5, c5, rfl⟩ := own_slice HM.out.row
      have hfz := frozen_of HBX.out 5
      have hbc := (cell_of HBX.out 5).trans rfl
      go_wp2
      go_ret2
      have hm := HM.out.setc (show w1.heap.size < w1.heap.size + 1 by omega) 5 (.slice p5 k5 c5)
      obtain ⟨g, hg, hK⟩ := hm.stack h HB.out ((setCell_same HBX.out 5 (.slice p5 k5 c5)).trans rfl)
      refine ⟨w1.heap.size, g, L, rfl, hK, hs1, by omega, fun n hn => ?_, hE.setR (p := ⟨w1.heap.size, 5, none⟩) hs1 _⟩
      have := HM.out.new n (by omega)
      omega
end Go.Proofs.YtmalncfcgcebhaaGreatDoor
namespace Go.Proofs.YtmalncfcgcebhaaGreatDoor
set_option linter.unusedVariables false
open Go.RowKit
/-- Updates that lie at a place. -/
def UCells (W : World) (g off : Nat) (l : List (Int × Int)) : Prop :=
  ∀ k, k < l.length → W.cell? ⟨g, off + k * 2, none⟩ = some (.int .u64 (l.getD k (0, 0)).1) ∧ W.cell? ⟨g, off + k * 2 + 1, none⟩ = some (.int .i64 (l.getD k (0, 0)).2)
theorem UCells.ext {W W' : World} {g off : Nat} {l : List (Int × Int)} (h : UCells W g off l) (hg : g < W.heap.size) (he : Ext W W') : UCells W' g off l :=
  fun k hk => ⟨((bcell he).1 _ _ hg).trans (h k hk).1, ((bcell he).1 _ _ hg).trans (h k hk).2⟩
theorem UCells.take {W : World} {g off : Nat} {l : List (Int × Int)} (h : UCells W g off l) (n : Nat) : UCells W g off (l.take n) := by
  intro k hk
  rw [List.length_take] at hk
  have := h k (by omega)
  have e : (l.take n).getD k (0, 0) = l.getD k (0, 0) := by
    rw [List.getD_eq_getElem?_getD, List.getD_eq_getElem?_getD, List.getElem?_take_of_lt (by omega)]
  rw [e]; exact this
theorem UCells.drop {W : World} {g off : Nat} {l : List (Int × Int)} (h : UCells W g off l) (n : Nat) : UCells W g (off + n * 2) (l.drop n) := by
  intro k hk
  rw [List.length_drop] at hk
  have := h (n + k) (by omega)
  have e : (l.drop n).getD k (0, 0) = l.getD (n + k) (0, 0) := by
    rw [List.getD_eq_getElem?_getD, List.getD_eq_getElem?_getD, List.getElem?_drop]
  rw [e, show off + n * 2 + k * 2 = off + (n + k) * 2 by omega]; exact this
section
variable {P : Program}
end
end Go.Proofs.YtmalncfcgcebhaaGreatDoor
namespace Go.Proofs.YtmalncfcgcebhaaGreatDoor
set_option linter.unusedVariables false
open Go.RowKit
section
variable {P : Program}
end
theorem own_keepB {w w' : World} {base n size : Nat} {e : TypeId} {v : Value} {xs : List Value} (h : w.ownsRow base e size v n xs) (hk : ∀ k, v.ownBlock = some k → w'.heap[k]? = w.heap[k]?) : w'.ownsRow base e size v n xs := by
  refine ⟨h.1, ?_⟩
  rcases h.2 with h' | ⟨g, cap, cur, rfl, hb, hh, hr⟩
  · exact .inl h'
  · exact .inr ⟨g, cap, cur, rfl, hb, (hk g rfl).trans hh, hr⟩
theorem own_lt {w : World} {base n size : Nat} {e : TypeId} {v : Value} {xs : List Value} (h : w.ownsRow base e size v n xs) {k : Nat} (hk : v.ownBlock = some k) : k < w.heap.size := by
  obtain ⟨cur, hc⟩ := own_type h hk; exact lt_of hc
theorem own_notB {w : World} {base n size b : Nat} {e t : TypeId} {v : Value} {xs : List Value} {cur : Array Value} (h : w.ownsRow base e size v n xs) (hb : w.heap[b]? = some (.cells cur t (0, 0))) (ht : t ≠ e) : v.ownBlock ≠ some b := by
  intro hk
  obtain ⟨cur', hc⟩ := own_type h hk
  rw [hb] at hc
  injection hc with hc
  injection hc with _ hc _
  exact ht hc
/-- Two rows do not lie in one block. -/
def Dja (v u : Value) : Prop := ∀ i, v.ownBlock = some i → u.ownBlock ≠ some i
theorem Dja.symm {v u : Value} (h : Dja v u) : Dja u v := fun i h1 h2 => h i h2 h1
/-- Two rows of pieces that lie apart, each in a box. -/
structure CovW (w W : World) (b6 b8 : Nat) (v6 v8 : Value) (pre suf : List (Nat × Int)) : Prop where
  x6 : W.heap[b6]? = some (.cells #[v6] 62 (0, 0))
  x8 : W.heap[b8]? = some (.cells #[v8] 62 (0, 0))
  o6 : W.ownsRow w.heap.size 52 2 v6 pre.length (pcV pre)
  o8 : W.ownsRow w.heap.size 52 2 v8 suf.length (pcV suf)
  dj : Dja v6 v8
  g6 : w.heap.size ≤ b6
  g8 : w.heap.size ≤ b8
  ne : b6 ≠ b8
  ext : Ext w W
theorem CovW.symm {w W : World} {b6 b8 : Nat} {v6 v8 : Value} {pre suf : List (Nat × Int)} (h : CovW w W b6 b8 v6 v8 pre suf) : CovW w W b8 b6 v8 v6 suf pre := ⟨h.x8, h.x6, h.o8, h.o6, h.dj.symm, h.g8, h.g6, h.ne.symm, h.ext⟩
theorem CovW.set {w W : World} {b6 b8 : Nat} {v6 v8 : Value} {pre suf : List (Nat × Int)} (h : CovW w W b6 b8 v6 v8 pre suf) : CovW w (W.setCell ⟨b6, 0, none⟩ v6) b6 b8 v6 v8 pre suf :=
  ⟨by rw [setCell_same h.x6]; rfl, by rw [setCell_other _ _ h.ne.symm]; exact h.x8, own_keepB h.o6 (fun k hk => setCell_other _ _ (fun e => own_notB h.o6 h.x6 (by decide) (e ▸ hk))), own_keepB h.o8 (fun k hk => setCell_other _ _ (fun e => own_notB h.o8 h.x6 (by decide) (e ▸ hk))), h.dj, h.g6, h.g8, h.ne, h.ext.setR (p := ⟨b6, 0, none⟩) h.g6 _⟩
/-- One of them has a piece more. -/
theorem CovW.app {w W w1 : World} {b6 b8 : Nat} {v6 v8 v' : Value} {pre suf : List (Nat × Int)} {p : Nat × Int} {o : Obj} (h : CovW w W b6 b8 v6 v8 pre suf)
    (h1 : w1.ownsRow w.heap.size 52 2 v' (pre.length + 1) (pcV (pre ++ [p]))) (h2 : (W.alloc o).grownBy w1 v6.ownBlock) (h3 : v'.ownBlock = v6.ownBlock ∨ v'.ownBlock = some (W.heap.size + 1)) :
    CovW w (w1.setCell ⟨b6, 0, none⟩ v') b6 b8 v' v8 (pre ++ [p]) suf := by
  replace h1 : w1.ownsRow w.heap.size 52 2 v' (pre ++ [p]).length (pcV (pre ++ [p])) := by rw [List.length_append]; exact h1
  have old : ∀ k, k < W.heap.size → v6.ownBlock ≠ some k → w1.heap[k]? = W.heap[k]? := fun k hk hn => grown_old h2 hk (fun e => hn e.symm)
  have k6 := (old b6 (lt_of h.x6) (own_notB h.o6 h.x6 (by decide))).trans h.x6
  have k8 := (old b8 (lt_of h.x8) (own_notB h.o6 h.x8 (by decide))).trans h.x8
  have r8 : w1.ownsRow w.heap.size 52 2 v8 suf.length (pcV suf) := own_keepB h.o8 (fun k hk => old k (own_lt h.o8 hk) (fun e => h.dj k e hk))
  refine ⟨by rw [setCell_same k6]; rfl, by rw [setCell_other _ _ h.ne.symm]; exact k8, own_keepB h1 (fun k hk => setCell_other _ _ (fun e => own_notB h1 k6 (by decide) (e ▸ hk))), own_keepB r8 (fun k hk => setCell_other _ _ (fun e => own_notB r8 k6 (by decide) (e ▸ hk))), ?_, h.g6, h.g8, h.ne, ?_⟩
  · intro i hi hu
    rcases h3 with h3 | h3
    · exact h.dj i (h3 ▸ hi) hu
    · have := own_lt h.o8 hu
      rw [h3] at hi
      have := Option.some.inj hi
      omega
  · have h2' : Ext w w1 := by
      refine Below.grown (h.ext.allocR o) h2 (by rw [size_alloc]; have := h.ext.size; omega) (fun k hk => own_blk h.o6 hk)
    exact h2'.setR (p := ⟨b6, 0, none⟩) h.g6 _
end Go.Proofs.YtmalncfcgcebhaaGreatDoor
namespace Go.Proofs.YtmalncfcgcebhaaGreatDoor
set_option linter.unusedVariables false
open Go.RowKit
section
variable {P : Program}
/-- 's = append(s, ..)', the new ones in a block that was laid just now. -/
theorem wpList_appK (W : World) {ops : Array Oper} {rest : List Oper} {o : Oper} {a : Act} {Q : Exit → Act → World → Prop} (size by_ m : Nat) (hsz : 0 < size) (hby : by_ ≤ 64) (news : List Value) (hnl : news.length = m * size) (h1 : ∀ u ∈ news, u.oneCell' = true)
    (xs : List Value) (n : Nat) (v : Value) (base : Nat) (e e' : TypeId) (hown : W.ownsRow base e size v n xs) (t : TypeId)
    (hgd : o.guard = none) (s y : Operand) (ho : o.op = .call { callee := .builtin .append, args := #[s, y], argTypes := #[t, t] })
    (hinfo : ∃ i z, P.info? e = some i ∧ i.zero = some z ∧ i.size = size ∧ i.bytes = by_ ∧ z.cells.size = size) (ht : P.underlying t = some (.slice e))
    (cells : Array Value) (hcl : cells.toList = news)
    (hs : a.eval s = v) (hx : a.eval y = .slice (some ⟨W.heap.size, 0, none⟩) m m)
    (hl : n + m ≤ 1000000000) (hbase : base ≤ W.heap.size)
    (h : ∀ v' w', w'.ownsRow base e size v' (n + m) (xs ++ news) → (W.alloc (.cells cells e')).grownBy w' v.ownBlock → (v'.ownBlock = v.ownBlock ∨ v'.ownBlock = some (W.heap.size + 1)) → wpList P ops Q rest (a.put o.dst v') w') :
    wpList P ops Q (o :: rest) a (W.alloc (.cells cells e')) := by
  obtain ⟨i0, z, hi, hz0, hz1, hz2, hz3⟩ := hinfo
  refine wpList_append_sep _ hgd s y t ho base e i0 z size by_ ht hi hz0 hz1 hz2 hz3 hsz v n xs hs (hown.alloc _) ⟨W.heap.size, 0, none⟩ m m news hx hnl ?_ h1 (by unfold maxLen; omega) ?_ (by rw [size_alloc]; omega) ?_
  · intro j u hu
    rw [show (⟨W.heap.size, 0, none⟩ : Addr).add j = ⟨W.heap.size, j, none⟩ by (simp [Addr.add]; try omega), cell_of (heap_at W _ rfl) j, ← Array.getElem?_toList, hcl]
    exact hu
  · have h2 : (n + m) * by_ ≤ 1000000000 * 64 := Nat.mul_le_mul hl hby
    omega
  · intro v' w' h1 h2 h3
    rw [size_alloc] at h3
    exact h v' w' h1 h2 h3
end
theorem own_bmono {w : World} {base base' n size : Nat} {e : TypeId} {v : Value} {xs : List Value} (h : w.ownsRow base e size v n xs) (hb : base' ≤ base) : w.ownsRow base' e size v n xs := by
  obtain ⟨h1, h2⟩ := h
  refine ⟨h1, ?_⟩
  rcases h2 with h2 | ⟨g, cap, cur, h3, h4, h5⟩
  · exact .inl h2
  · exact .inr ⟨g, cap, cur, h3, Nat.le_trans hb h4, h5⟩
theorem own_geB {w : World} {base n size : Nat} {e : TypeId} {v : Value} {xs : List Value} (h : w.ownsRow base e size v n xs) {k : Nat} (hk : v.ownBlock = some k) : base ≤ k := by
  rcases h.2 with ⟨rfl, _⟩ | ⟨g, cap, cur, rfl, hb, _⟩
  · cases hk
  · have : g = k := Option.some.inj hk
    omega
theorem own_row_cells {w : World} {base n size : Nat} {e : TypeId} {v : Value} {xs : List Value} (h : w.ownsRow base e size v n xs) (hn : 0 < n) : ∃ g cap, v = .slice (some ⟨g, 0, none⟩) n cap ∧ base ≤ g ∧ g < w.heap.size ∧ ∀ j, j < n * size → w.cell? ⟨g, j, none⟩ = xs[j]? := by
  rcases h.2 with ⟨_, h0⟩ | ⟨g, cap, cur, rfl, hb, hh, hc, hm, hs, ht⟩
  · omega
  · refine ⟨g, cap, rfl, hb, lt_of hh, fun j hj => ?_⟩
    rw [cell_of hh, ← ht, List.getElem?_take_of_lt hj, Array.getElem?_toList]
end Go.Proofs.YtmalncfcgcebhaaGreatDoor
