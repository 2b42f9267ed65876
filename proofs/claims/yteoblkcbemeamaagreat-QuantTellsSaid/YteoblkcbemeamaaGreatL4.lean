/- Part. No condition. -/
import Derived.Test.YteoblkcbemeamaaGreatL3
import Derived.Laws.CopyOwn

/- Package exact: what its calls tell, and what they change. -/
namespace Go.Proofs.YteoblkcbemeamaaGreat
set_option linter.unusedVariables false
open Go.RowKit

theorem EConfig_c (s b c : Nat) (C : Cfg) (lv : Int) (N : Nat) (l : List Int) (w : World) (h : EAt w s b c C lv N l) :
    Calls Tryz.prog 127 #[.pointer (some ⟨s, 0, none⟩)] w fun e w' => e = .returned (.agg #[.int .i64 C.bits, .int .i64 C.rows, .int .i64 C.width, .int .i64 C.mode, .int .u64 C.seed]) ∧ Ext w w' := by
  have c0 := (cell_of h.ex 0).trans rfl
  have c1 := (cell_of h.ex 1).trans rfl
  have c2 := (cell_of h.ex 2).trans rfl
  have c3 := (cell_of h.ex 3).trans rfl
  have c4 := (cell_of h.ex 4).trans rfl
  have hlt := h.lts
  clear h
  go_enter Tryz.func127, Tryz.ntmps127
  go_wp2
  exact bodyPost_ret (v := .agg #[.int .i64 C.bits, .int .i64 C.rows, .int .i64 C.width, .int .i64 C.mode, .int .u64 C.seed]) (by simp [results, Tryz.results127, go_sem]) rfl ⟨rfl, by (repeat' (first | exact Ext.refl _ | assumption | apply Ext.allocR | apply Ext.drewR | apply Ext.drewNR | (refine Ext.trans' ?_ (by assumption))))⟩
theorem ELevel_c (s b c : Nat) (C : Cfg) (lv : Int) (N : Nat) (l : List Int) (w : World) (h : EAt w s b c C lv N l) :
    Calls Tryz.prog 128 #[.pointer (some ⟨s, 0, none⟩)] w fun e w' => e = .returned (.int .i64 lv) ∧ w = w' := by
  have c5 := (cell_of h.ex 5).trans rfl
  have hlt := h.lts
  clear h
  go_enter Tryz.func128, Tryz.ntmps128
  go_wp2
  go_ret
  exact ⟨rfl, rfl⟩
theorem ECells_c (s b c : Nat) (C : Cfg) (lv : Int) (N : Nat) (l : List Int) (w : World) (h : EAt w s b c C lv N l) :
    Calls Tryz.prog 130 #[.pointer (some ⟨s, 0, none⟩)] w fun e w' => ∃ v, e = .returned v ∧ w'.ownsRow w.heap.size 2 1 v l.length (ints l) ∧ (v = .slice none 0 0 → False) ∧ Ext w w' := by
  have c6 := (cell_of h.ex 6).trans rfl
  have hlt := h.lts
  have hg := h.g
  clear h
  go_enter Tryz.func130, Tryz.ntmps130
  go_wp2_with fail
  refine (GCells_c b c 1 N l _ hg).mono ?_
  rintro e w1 ⟨v, rfl, h1, h2, h3⟩
  go_wp2
  go_ret
  exact ⟨v, rfl, h1, h2, h3⟩
/-- What Check tells of an array. -/
def errX (C : Cfg) (lv : Int) (l : List Int) (key d : Int) : Int :=
  bif decide (key < keys C lv) then (bif decide (C.mode = 2) && decide (d < 0) then 3 else bif fitB (l.getD key.toNat 0 + d) then 0 else 4) else 2
def updX (l : List Int) (key d : Int) : List Int := l.set key.toNat (l.getD key.toNat 0 + d)
theorem errX_key {C : Cfg} {lv : Int} {l : List Int} {key d : Int} (h : keys C lv ≤ key) : errX C lv l key d = 2 := by
  unfold errX; rw [decide_eq_false (by omega)]; rfl
theorem errX_neg {C : Cfg} {lv : Int} {l : List Int} {key d : Int} (h : key < keys C lv) (hm : C.mode = 2) (hd : d < 0) : errX C lv l key d = 3 := by
  unfold errX; rw [decide_eq_true h, decide_eq_true hm, decide_eq_true hd]; rfl
theorem errX_sum {C : Cfg} {lv : Int} {l : List Int} {key d : Int} (h : key < keys C lv) (hm : ¬ (C.mode = 2 ∧ d < 0)) : errX C lv l key d = bif fitB (l.getD key.toNat 0 + d) then 0 else 4 := by
  unfold errX
  rw [decide_eq_true h]
  have : (decide (C.mode = 2) && decide (d < 0)) = false := by
    rw [Bool.and_eq_false_iff, decide_eq_false_iff_not, decide_eq_false_iff_not]
    by_cases hc : C.mode = 2
    · exact .inr (fun h => hm ⟨hc, h⟩)
    · exact .inl hc
  rw [this]; rfl
theorem At_k {b c N : Nat} {l : List Int} {w : World} (h : GAt w b c 1 N l) {key : Int} (h0 : 0 ≤ key) (h1 : key < N) :
    Calls Tryz.prog 222 #[.pointer (some ⟨b, 0, none⟩), .int .i64 0, .int .i64 key] w fun e w' => e = .returned (.int .i64 (l.getD key.toNat 0)) ∧ w = w' := by
  obtain ⟨k, rfl⟩ := Int.eq_ofNat_of_zero_le h0
  have := At_c b c 1 N l w h 0 k (by decide) (by omega)
  rw [Nat.zero_mul, Nat.zero_add] at this
  exact this
theorem Put_k {b c N : Nat} {l : List Int} {w : World} (h : GAt w b c 1 N l) {key : Int} (h0 : 0 ≤ key) (h1 : key < N) (n : Int) :
    Calls Tryz.prog 214 #[.pointer (some ⟨b, 0, none⟩), .int .i64 0, .int .i64 key, .int .i64 n] w fun e w' => e = .returned (.bool true) ∧ w.setCell ⟨c, key.toNat, none⟩ (.int .i64 n) = w' := by
  obtain ⟨k, rfl⟩ := Int.eq_ofNat_of_zero_le h0
  have := Put_c b c 1 N l w h 0 k (by decide) (by omega) n
  rw [Nat.zero_mul, Nat.zero_add] at this
  exact this
set_option maxRecDepth 20000 in
set_option maxHeartbeats 2000000 in
theorem ECheck_c (s b c : Nat) (C : Cfg) (lv : Int) (N : Nat) (l : List Int) (key d : Int) (w : World) (h : EAt w s b c C lv N l) (hd : I64 d) (hk : U64 key) :
    Calls Tryz.prog 239 #[.pointer (some ⟨s, 0, none⟩), .int .u64 key, .int .i64 d] w fun e w' => e = .returned (.int .i64 (errX C lv l key d)) ∧ Ext w w' := by
  have c3 := (cell_of h.ex 3).trans rfl
  have c6 := (cell_of h.ex 6).trans rfl
  have hlt := h.lts
  have hg := h.g
  have hN := h.hk
  have w2' := h.g.w2
  have hy := getD_i64 h.fit key.toNat
  obtain ⟨hk0, hk1⟩ := hk
  have HG := Lib.hid hg
  have HN := Lib.hid hN
  have hd' := hd
  unfold I64 at hd
  by_cases hkey : N ≤ key
  · have he := errX_key (l := l) (d := d) (show keys C lv ≤ key by rw [hN]; exact hkey)
    have HE := Lib.hid he
    clear he h hg hN
    go_enter Tryz.func239, Tryz.ntmps239
    go_wp2_with fail
    refine (Width_c b c 1 N l _ HG.out).mono ?_
    rintro e w1 ⟨rfl, rfl⟩
    go_wp2
    go_ret
    exact ⟨by rw [HE.out]; rfl, Ext.refl _⟩
  · have hkl : key < keys C lv := by rw [hN]; omega
    by_cases hm : C.mode = 2 ∧ d < 0
    · obtain ⟨hm1, hm2⟩ := hm
      have he := errX_neg (l := l) hkl hm1 hm2
      have hmb : (C.mode == 2) = true := by simpa using hm1
      have HE := Lib.hid he
      clear he h hg hN hm1 hkl
      go_enter Tryz.func239, Tryz.ntmps239
      go_wp2_with fail
      refine (Width_c b c 1 N l _ HG.out).mono ?_
      rintro e w1 ⟨rfl, rfl⟩
      go_wp2
      go_ret
      exact ⟨by rw [HE.out]; rfl, Ext.refl _⟩
    · have he := errX_sum (l := l) hkl hm
      have HE := Lib.hid he
      have hmb : ((C.mode == 2) = false) ∨ ((C.mode == 2) = true ∧ ¬ d < 0) := by
        by_cases hc : C.mode = 2
        · exact .inr ⟨by simpa using hc, fun h => hm ⟨hc, h⟩⟩
        · exact .inl (by simpa using hc)
      obtain ⟨y, hyy⟩ : ∃ y, l.getD key.toNat 0 = y := ⟨_, rfl⟩
      rw [hyy] at hy
      have HY := Lib.hid hyy
      clear he h hg hN hm hkl hyy
      have hkN : key < N := by omega
      rcases hmb with hmb | ⟨hmb, hdn⟩
      all_goals
        by_cases hf : I64 (y + d)
        · have hfb := fitB_yes hf
          go_enter Tryz.func239, Tryz.ntmps239
          go_wp2_with fail
          refine (Width_c b c 1 N l _ HG.out).mono ?_
          rintro e w1 ⟨rfl, rfl⟩
          go_wp2_with fail
          refine (At_k HG.out hk0 hkN).mono ?_
          rintro e w1 ⟨rfl, rfl⟩
          rw [HY.out]
          go_wp2_with fail
          refine (Plus_c y d hy hd' _).mono ?_
          rintro e w1 ⟨rfl, hx1⟩
          rw [hfb]
          go_wp2
          go_ret
          exact ⟨by rw [HE.out, HY.out, hfb]; rfl, hx1⟩
        · have hfb := fitB_no hf
          go_enter Tryz.func239, Tryz.ntmps239
          go_wp2_with fail
          refine (Width_c b c 1 N l _ HG.out).mono ?_
          rintro e w1 ⟨rfl, rfl⟩
          go_wp2_with fail
          refine (At_k HG.out hk0 hkN).mono ?_
          rintro e w1 ⟨rfl, rfl⟩
          rw [HY.out]
          go_wp2_with fail
          refine (Plus_c y d hy hd' _).mono ?_
          rintro e w1 ⟨rfl, hx1⟩
          rw [hfb]
          go_wp2
          go_ret
          exact ⟨by rw [HE.out, HY.out, hfb]; rfl, hx1⟩
/-- What Update does to an array. -/
def EUpdPost (w : World) (s b c : Nat) (C : Cfg) (lv : Int) (N : Nat) (l : List Int) (key d : Int) (e : Ending) (w' : World) : Prop :=
  e = .returned (.int .i64 (errX C lv l key d)) ∧
    ((errX C lv l key d = 0 ∧ EAt w' s b c C lv N (updX l key d) ∧ Mod (fun k => k = c) w w') ∨ (errX C lv l key d ≠ 0 ∧ Ext w w'))
theorem errX_zero {C : Cfg} {lv : Int} {l : List Int} {key d : Int} (h : errX C lv l key d = 0) : key < keys C lv ∧ I64 (l.getD key.toNat 0 + d) := by
  rcases Int.lt_or_le key (keys C lv) with h' | h'
  · refine ⟨h', ?_⟩
    by_cases hm : C.mode = 2 ∧ d < 0
    · rw [errX_neg h' hm.1 hm.2] at h; cases h
    · rw [errX_sum h' hm] at h
      by_cases hf : I64 (l.getD key.toNat 0 + d)
      · exact hf
      · rw [fitB_no hf] at h; cases h
  · rw [errX_key h'] at h; cases h
theorem EAt.setl {w : World} {s b c : Nat} {C : Cfg} {lv : Int} {N : Nat} {l : List Int} (h : EAt w s b c C lv N l) {i : Nat} (hi : i < l.length) {n : Int} (hn : I64 n) : EAt (w.setCell ⟨c, i, none⟩ (.int .i64 n)) s b c C lv N (l.set i n) :=
  ⟨by rw [setCell_other _ _ h.nes]; exact h.ex, h.g.set hi n, h.ok, h.lo, h.hi, h.hk, fun x hx => by
    rcases List.mem_or_eq_of_mem_set hx with h1 | h1
    · exact h.fit x h1
    · rw [h1]; exact hn⟩
set_option maxRecDepth 20000 in
set_option maxHeartbeats 2000000 in
theorem EUpdate_c (s b c : Nat) (C : Cfg) (lv : Int) (N : Nat) (l : List Int) (key d : Int) (w : World) (h : EAt w s b c C lv N l) (hd : I64 d) (hk : U64 key) :
    Calls Tryz.prog 242 #[.pointer (some ⟨s, 0, none⟩), .int .u64 key, .int .i64 d] w (EUpdPost w s b c C lv N l key d) := by
  by_cases he0 : errX C lv l key d = 0
  · have hz := errX_zero he0
    have hN := h.hk
    have w2' := h.g.w2
    have hkN : key < N := by omega
    have hsum := hz.2
    have hlen := h.len
    have HE := Lib.hid he0
    obtain ⟨hk0, hk1⟩ := hk
    clear he0 hz
    go_enter Tryz.func242, Tryz.ntmps242
    go_wp2_with fail
    refine (ECheck_c s b c C lv N l key d _ h hd ⟨hk0, hk1⟩).mono ?_
    rintro e w1 ⟨rfl, hx1⟩
    rw [HE.out]
    have h' := h.ext hx1
    have c6 := (cell_of h'.ex 6).trans rfl
    have hlt := h'.lts
    have hG := h'.g.ext (Below.drew (Ext.refl w1))
    obtain ⟨y, hyy⟩ : ∃ y, l.getD key.toNat 0 = y := ⟨_, rfl⟩
    have HY := Lib.hid hyy
    have HS := Lib.hid hsum
    rw [hyy] at hsum
    unfold I64 at hsum hd
    clear hyy hN
    have HH := Lib.hid h'
    clear h h'
    go_wp2
    have hC0 := af_drew w1
    refine pi_start (fun w' => ∃ x : After w1, w' = x.w) [15] (by kernel_rfl) ?_
    refine pi_t 0 rfl (by kernel_rfl) (by kernel_rfl) (fun _ _ _ _ h => h) (fun K hK => ?_)
    go_big_quiet_op
    refine hK _ ?_
    clear hK K
    refine pi_t 1 rfl (by kernel_rfl) (by kernel_rfl) (fun _ _ _ _ h => h) (fun K hK => ?_)
    go_big_quiet_op
    refine hK _ ?_
    clear hK K
    refine pi_t 2 rfl (by kernel_rfl) (by kernel_rfl) (fun _ _ _ _ h => h) (fun K hK => ?_)
    go_big_quiet_op
    refine hK _ ?_
    clear hK K
    refine pi_t 4 rfl (by kernel_rfl) (by kernel_rfl) (fun _ _ _ _ h => h) (fun K hK => ?_)
    go_big_quiet_op
    refine hK _ ?_
    clear hK K
    refine pi_t 5 rfl (by kernel_rfl) (by kernel_rfl) (fun _ _ _ _ h => h) (fun K hK => ?_)
    go_big_quiet_op
    refine hK _ ?_
    clear hK K
    refine pi_t 6 rfl (by kernel_rfl) (by kernel_rfl) (fun _ _ _ _ h => h) (fun K hK => ?_)
    go_big_quiet_op
    refine hK _ ?_
    clear hK K
    refine pi_t 7 rfl (by kernel_rfl) (by kernel_rfl) (fun _ _ _ _ h => h) (fun K hK => ?_)
    go_big_quiet_op
    refine hK _ ?_
    clear hK K
    refine pi_t 8 rfl (by kernel_rfl) (by kernel_rfl) (fun _ _ _ _ h => h) (fun K hK => ?_)
    go_big_quiet_op
    refine hK _ ?_
    clear hK K
    refine pi_t 10 rfl (by kernel_rfl) (by kernel_rfl) (fun _ _ _ _ h => h) (fun K hK => ?_)
    go_big_quiet_op
    refine hK _ ?_
    clear hK K
    refine pi_t 11 rfl (by kernel_rfl) (by kernel_rfl) (fun _ _ _ _ h => h) (fun K hK => ?_)
    go_big_quiet_op
    refine hK _ ?_
    clear hK K
    refine pi_t 13 rfl (by kernel_rfl) (by kernel_rfl) (fun _ _ _ _ h => h) (fun K hK => ?_)
    go_big_quiet_op
    refine hK _ ?_
    clear hK K
    refine pi_c 3 (by assumption) rfl (by kernel_rfl) (by kernel_rfl) (fun _ _ _ _ h => h) (fun K hK => ?_)
    go_big_quiet_op
    refine hK _ ?_
    clear hK K
    refine pi_l 9 rfl (by kernel_rfl) (fun K hK => ?_)
    go_wp2
    refine hK _ _ (fun _ h => h) ?_
    clear hK K
    refine pi_l 12 rfl (by kernel_rfl) (fun K hK => ?_)
    go_wp2_with (go_at_call 222; refine (At_k hG hk0 hkN).mono ?_; rintro e w2 ⟨rfl, rfl⟩; rw [HY.out])
    refine hK _ _ (fun _ h => h) ?_
    clear hK K
    refine pi_t 14 rfl (by kernel_rfl) (by kernel_rfl) (fun _ _ _ _ h => h) (fun K hK => ?_)
    go_big_quiet_op
    refine hK _ ?_
    clear hK K
    refine pi_l 15 rfl (by kernel_rfl) (fun K hK => ?_)
    go_wp2_with (go_at_call 214; refine (Put_k hG hk0 hkN (y + d)).mono ?_; rintro e w2 ⟨rfl, rfl⟩)
    refine hK _ _ (by simp) ?_
    clear hK K
    refine pi_end (by kernel_rfl) ?_
    go_wp2
    go_ret
    refine ⟨by rw [HE.out]; rfl, .inl ⟨HE.out, ?_, ?_⟩⟩
    · have := (HH.out.ext (Below.drew (Ext.refl w1))).setl (i := key.toNat) (by rw [hlen]; omega) (n := y + d) (by unfold I64; omega)
      unfold updX
      rw [HY.out]
      exact this
    · exact (hx1.mod _).trans ((Ext.mod _ (Below.drew (Ext.refl w1))).trans (mod_set _ _ _ _))
  · have hb : (errX C lv l key d == 0) = false := by simpa using he0
    go_enter Tryz.func242, Tryz.ntmps242
    go_wp2_with fail
    refine (ECheck_c s b c C lv N l key d _ h hd hk).mono ?_
    rintro e w0 ⟨rfl, hx00⟩
    go_wp2
    go_ret
    exact ⟨rfl, .inr ⟨he0, hx00⟩⟩
set_option maxRecDepth 20000 in
theorem EPoint_c (s b c : Nat) (C : Cfg) (lv : Int) (N : Nat) (l : List Int) (key : Int) (w : World) (h : EAt w s b c C lv N l) (hk0 : 0 ≤ key) (hk1 : key < keys C lv) :
    Calls Tryz.prog 241 #[.pointer (some ⟨s, 0, none⟩), .int .u64 key] w fun e w' => e = .returned (.tuple #[.int .i64 (l.getD key.toNat 0), .int .i64 0]) ∧ w = w' := by
  have c6 := (cell_of h.ex 6).trans rfl
  have hlt := h.lts
  have hG := h.g
  have w2' := h.g.w2
  have hkN : key < N := by rw [← h.hk]; exact hk1
  have HG := Lib.hid hG
  clear h hG hk1
  go_enter Tryz.func241, Tryz.ntmps241
  go_wp2_with fail
  refine (Width_c b c 1 N l _ HG.out).mono ?_
  rintro e w1 ⟨rfl, rfl⟩
  go_wp2_with fail
  refine (At_k HG.out hk0 hkN).mono ?_
  rintro e w1 ⟨rfl, rfl⟩
  go_wp2
  go_ret2
  exact ⟨rfl, rfl⟩
set_option maxRecDepth 20000 in
theorem EPoint_no (s b c : Nat) (C : Cfg) (lv : Int) (N : Nat) (l : List Int) (key : Int) (w : World) (h : EAt w s b c C lv N l) (hk : U64 key) (hk1 : keys C lv ≤ key) :
    Calls Tryz.prog 241 #[.pointer (some ⟨s, 0, none⟩), .int .u64 key] w fun e w' => e = .returned (.tuple #[.int .i64 0, .int .i64 2]) ∧ w = w' := by
  have c6 := (cell_of h.ex 6).trans rfl
  have hlt := h.lts
  have hG := h.g
  have w2' := h.g.w2
  have hkN : N ≤ key := by rw [← h.hk]; exact hk1
  have HG := Lib.hid hG
  obtain ⟨hk0, hk2⟩ := hk
  clear h hG hk1
  go_enter Tryz.func241, Tryz.ntmps241
  go_wp2_with fail
  refine (Width_c b c 1 N l _ HG.out).mono ?_
  rintro e w1 ⟨rfl, rfl⟩
  go_wp2
  go_ret2
  exact ⟨rfl, rfl⟩
set_option maxRecDepth 20000 in
set_option maxHeartbeats 2000000 in
theorem ECopy_c (s b c : Nat) (C : Cfg) (lv : Int) (N : Nat) (l : List Int) (w : World) (h : EAt w s b c C lv N l) :
    Calls Tryz.prog 124 #[.pointer (some ⟨s, 0, none⟩)] w fun e w' => ∃ s' b' c', e = .returned (.pointer (some ⟨s', 0, none⟩)) ∧ EAt w' s' b' c' C lv N l ∧ w.heap.size ≤ s' ∧ w.heap.size ≤ b' ∧ w.heap.size ≤ c' ∧ Ext w w' := by
  have c0 := (cell_of h.ex 0).trans rfl
  have c1 := (cell_of h.ex 1).trans rfl
  have c2 := (cell_of h.ex 2).trans rfl
  have c3 := (cell_of h.ex 3).trans rfl
  have c4 := (cell_of h.ex 4).trans rfl
  have c5 := (cell_of h.ex 5).trans rfl
  have c6 := (cell_of h.ex 6).trans rfl
  have hlt := h.lts
  have hG := h.g.ext (Below.drew (Ext.refl w))
  have HH := Lib.hid h
  clear h
  go_enter Tryz.func124, Tryz.ntmps124
  go_wp2
  have hC0 := af_drew w
  refine pi_start (fun w' => ∃ x : After w, w' = x.w) [] (by kernel_rfl) ?_
  refine pi_t 0 rfl (by kernel_rfl) (by kernel_rfl) (fun _ _ _ _ h => h) (fun K hK => ?_)
  go_big_quiet_op
  refine hK _ ?_
  clear hK K
  refine pi_t 1 rfl (by kernel_rfl) (by kernel_rfl) (fun _ _ _ _ h => h) (fun K hK => ?_)
  go_big_quiet_op
  refine hK _ ?_
  clear hK K
  refine pi_t 2 rfl (by kernel_rfl) (by kernel_rfl) (fun _ _ _ _ h => h) (fun K hK => ?_)
  go_big_quiet_op
  refine hK _ ?_
  clear hK K
  refine pi_t 4 rfl (by kernel_rfl) (by kernel_rfl) (fun _ _ _ _ h => h) (fun K hK => ?_)
  go_big_quiet_op
  refine hK _ ?_
  clear hK K
  refine pi_t 5 rfl (by kernel_rfl) (by kernel_rfl) (fun _ _ _ _ h => h) (fun K hK => ?_)
  go_big_quiet_op
  refine hK _ ?_
  clear hK K
  refine pi_t 6 rfl (by kernel_rfl) (by kernel_rfl) (fun _ _ _ _ h => h) (fun K hK => ?_)
  go_big_quiet_op
  refine hK _ ?_
  clear hK K
  refine pi_t 8 rfl (by kernel_rfl) (by kernel_rfl) (fun _ _ _ _ h => h) (fun K hK => ?_)
  go_big_quiet_op
  refine hK _ ?_
  clear hK K
  refine pi_t 9 rfl (by kernel_rfl) (by kernel_rfl) (fun _ _ _ _ h => h) (fun K hK => ?_)
  go_big_quiet_op
  refine hK _ ?_
  clear hK K
  refine pi_t 10 rfl (by kernel_rfl) (by kernel_rfl) (fun _ _ _ _ h => h) (fun K hK => ?_)
  go_big_quiet_op
  refine hK _ ?_
  clear hK K
  refine pi_c 3 (by assumption) rfl (by kernel_rfl) (by kernel_rfl) (fun _ _ _ _ h => h) (fun K hK => ?_)
  go_big_quiet_op
  refine hK _ ?_
  clear hK K
  refine pi_c 7 (by assumption) rfl (by kernel_rfl) (by kernel_rfl) (fun _ _ _ _ h => h) (fun K hK => ?_)
  go_big_quiet_op
  refine hK _ ?_
  clear hK K
  refine pi_c 11 (by assumption) rfl (by kernel_rfl) (by kernel_rfl) (fun _ _ _ _ h => h) (fun K hK => ?_)
  go_big_quiet_op
  refine hK _ ?_
  clear hK K
  refine pi_l 12 rfl (by kernel_rfl) (fun K hK => ?_)
  go_wp2_with (go_at_call 159; refine (GCopy_c b c 1 N l _ hG).mono ?_; rintro e w1 ⟨b', c', rfl, hg', hb', hc', hx1⟩)
  refine hK _ _ (fun _ h => af_step h hx1) ?_
  clear hK K
  refine pi_t 13 rfl (by kernel_rfl) (by kernel_rfl) (fun _ _ _ _ h => h) (fun K hK => ?_)
  go_big_quiet_op
  refine hK _ ?_
  clear hK K
  refine pi_l 14 rfl (by kernel_rfl) (fun K hK => ?_)
  go_wp2
  refine hK _ _ (fun _ h => af_step h (Ext.alloc' _ _)) ?_
  clear hK K
  refine pi_t 15 rfl (by kernel_rfl) (by kernel_rfl) (fun _ _ _ _ h => h) (fun K hK => ?_)
  go_big_quiet_op
  refine hK _ ?_
  clear hK K
  refine pi_end (by kernel_rfl) ?_
  go_wp2
  go_ret
  have hx1' : Ext w w1 := Ext.trans' (Below.drew (Ext.refl w)) hx1
  have hs1 := hx1'.size
  have H := HH.out
  refine ⟨w1.heap.size, b', c', rfl, ⟨heap_at _ _ rfl, hg'.keep (heap_old _ _ hg'.ltb) (heap_old _ _ hg'.ltc), H.ok, H.lo, H.hi, H.hk, H.fit⟩, hs1, hb', hc', by (repeat' (first | exact Ext.refl _ | assumption | apply Ext.allocR | apply Ext.drewR | apply Ext.drewNR | (refine Ext.trans' ?_ (by assumption))))⟩
set_option maxRecDepth 20000 in
set_option maxHeartbeats 2000000 in
theorem SCopy_c (s b c : Nat) (C : Cfg) (lv : Int) (R W : Nat) (l : List Int) (w : World) (h : SAt w s b c C lv R W l) :
    Calls Tryz.prog 125 #[.pointer (some ⟨s, 0, none⟩)] w fun e w' => ∃ s' b' c', e = .returned (.pointer (some ⟨s', 0, none⟩)) ∧ SAt w' s' b' c' C lv R W l ∧ w.heap.size ≤ s' ∧ w.heap.size ≤ b' ∧ w.heap.size ≤ c' ∧ Ext w w' := by
  have c0 := (cell_of h.ex 0).trans rfl
  have c1 := (cell_of h.ex 1).trans rfl
  have c2 := (cell_of h.ex 2).trans rfl
  have c3 := (cell_of h.ex 3).trans rfl
  have c4 := (cell_of h.ex 4).trans rfl
  have c5 := (cell_of h.ex 5).trans rfl
  have c6 := (cell_of h.ex 6).trans rfl
  have hlt := h.lts
  have hG := h.g.ext (Below.drew (Ext.refl w))
  have HH := Lib.hid h
  clear h
  go_enter Tryz.func125, Tryz.ntmps125
  go_wp2
  have hC0 := af_drew w
  refine pi_start (fun w' => ∃ x : After w, w' = x.w) [] (by kernel_rfl) ?_
  refine pi_t 0 rfl (by kernel_rfl) (by kernel_rfl) (fun _ _ _ _ h => h) (fun K hK => ?_)
  go_big_quiet_op
  refine hK _ ?_
  clear hK K
  refine pi_t 1 rfl (by kernel_rfl) (by kernel_rfl) (fun _ _ _ _ h => h) (fun K hK => ?_)
  go_big_quiet_op
  refine hK _ ?_
  clear hK K
  refine pi_t 2 rfl (by kernel_rfl) (by kernel_rfl) (fun _ _ _ _ h => h) (fun K hK => ?_)
  go_big_quiet_op
  refine hK _ ?_
  clear hK K
  refine pi_t 3 rfl (by kernel_rfl) (by kernel_rfl) (fun _ _ _ _ h => h) (fun K hK => ?_)
  go_big_quiet_op
  refine hK _ ?_
  clear hK K
  refine pi_t 7 rfl (by kernel_rfl) (by kernel_rfl) (fun _ _ _ _ h => h) (fun K hK => ?_)
  go_big_quiet_op
  refine hK _ ?_
  clear hK K
  refine pi_t 8 rfl (by kernel_rfl) (by kernel_rfl) (fun _ _ _ _ h => h) (fun K hK => ?_)
  go_big_quiet_op
  refine hK _ ?_
  clear hK K
  refine pi_t 9 rfl (by kernel_rfl) (by kernel_rfl) (fun _ _ _ _ h => h) (fun K hK => ?_)
  go_big_quiet_op
  refine hK _ ?_
  clear hK K
  refine pi_t 11 rfl (by kernel_rfl) (by kernel_rfl) (fun _ _ _ _ h => h) (fun K hK => ?_)
  go_big_quiet_op
  refine hK _ ?_
  clear hK K
  refine pi_t 12 rfl (by kernel_rfl) (by kernel_rfl) (fun _ _ _ _ h => h) (fun K hK => ?_)
  go_big_quiet_op
  refine hK _ ?_
  clear hK K
  refine pi_t 13 rfl (by kernel_rfl) (by kernel_rfl) (fun _ _ _ _ h => h) (fun K hK => ?_)
  go_big_quiet_op
  refine hK _ ?_
  clear hK K
  refine pi_c 4 (by assumption) rfl (by kernel_rfl) (by kernel_rfl) (fun _ _ _ _ h => h) (fun K hK => ?_)
  go_big_quiet_op
  refine hK _ ?_
  clear hK K
  refine pi_c 10 (by assumption) rfl (by kernel_rfl) (by kernel_rfl) (fun _ _ _ _ h => h) (fun K hK => ?_)
  go_big_quiet_op
  refine hK _ ?_
  clear hK K
  refine pi_c 14 (by assumption) rfl (by kernel_rfl) (by kernel_rfl) (fun _ _ _ _ h => h) (fun K hK => ?_)
  go_big_quiet_op
  refine hK _ ?_
  clear hK K
  refine pi_l 5 rfl (by kernel_rfl) (fun K hK => ?_)
  go_wp2_with (go_at_call 159; refine (GCopy_c b c R W l _ hG).mono ?_; rintro e w1 ⟨b', c', rfl, hg', hb', hc', hx1⟩)
  refine hK _ _ (fun _ h => af_step h hx1) ?_
  clear hK K
  refine pi_t 6 rfl (by kernel_rfl) (by kernel_rfl) (fun _ _ _ _ h => h) (fun K hK => ?_)
  go_big_quiet_op
  refine hK _ ?_
  clear hK K
  refine pi_t 15 rfl (by kernel_rfl) (by kernel_rfl) (fun _ _ _ _ h => h) (fun K hK => ?_)
  go_big_quiet_op
  refine hK _ ?_
  clear hK K
  refine pi_l 16 rfl (by kernel_rfl) (fun K hK => ?_)
  go_wp2
  refine hK _ _ (fun _ h => af_step h (Ext.alloc' _ _)) ?_
  clear hK K
  refine pi_t 17 rfl (by kernel_rfl) (by kernel_rfl) (fun _ _ _ _ h => h) (fun K hK => ?_)
  go_big_quiet_op
  refine hK _ ?_
  clear hK K
  refine pi_end (by kernel_rfl) ?_
  go_wp2
  go_ret
  have hx1' : Ext w w1 := Ext.trans' (Below.drew (Ext.refl w)) hx1
  have hs1 := hx1'.size
  have H := HH.out
  refine ⟨w1.heap.size, b', c', rfl, ⟨heap_at _ _ rfl, hg'.keep (heap_old _ _ hg'.ltb) (heap_old _ _ hg'.ltc), H.ok, H.lo, H.hi, H.hr, H.hw, H.fit⟩, hs1, hb', hc', by (repeat' (first | exact Ext.refl _ | assumption | apply Ext.allocR | apply Ext.drewR | apply Ext.drewNR | (refine Ext.trans' ?_ (by assumption))))⟩
end Go.Proofs.YteoblkcbemeamaaGreat

/- Package level: a level is an array or a sketch that lies in memory. -/
namespace Go.Proofs.YteoblkcbemeamaaGreat
set_option linter.unusedVariables false
open Go.RowKit

def rN (C : Cfg) : Nat := C.rows.toNat
def wN (C : Cfg) : Nat := C.width.toNat
theorem rN_eq {C : Cfg} (h : C.Ok) : C.rows = (rN C : Int) := by have := h.r1; unfold rN; omega
theorem wN_eq {C : Cfg} (h : C.Ok) : C.width = (wN C : Int) := by have := h.w1; unfold wN; omega
/-- How many cells a level has. -/
def lvN (C : Cfg) (lv : Int) : Nat := bif isX C lv then kN C lv else rN C * wN C
/-- Where a level lies: what it is, its grid, its cells. -/
structure Lev where
  s : Nat
  b : Nat
  c : Nat
def LvAt (w : World) (L : Lev) (C : Cfg) (lv : Int) (l : List Int) : Prop :=
  (isX C lv = true ∧ EAt w L.s L.b L.c C lv (kN C lv) l) ∨ (isX C lv = false ∧ SAt w L.s L.b L.c C lv (rN C) (wN C) l)
def lvT (C : Cfg) (lv : Int) : TypeId := bif isX C lv then 174 else 169
def lvV (C : Cfg) (lv : Int) (L : Lev) : Value := .iface (lvT C lv) (.pointer (some ⟨L.s, 0, none⟩))
theorem lvV_x {C : Cfg} {lv : Int} (h : isX C lv = true) (L : Lev) : lvV C lv L = .iface 174 (.pointer (some ⟨L.s, 0, none⟩)) := by unfold lvV lvT; rw [h]; rfl
theorem lvV_s {C : Cfg} {lv : Int} (h : isX C lv = false) (L : Lev) : lvV C lv L = .iface 169 (.pointer (some ⟨L.s, 0, none⟩)) := by unfold lvV lvT; rw [h]; rfl
theorem LvAt.x {w : World} {L : Lev} {C : Cfg} {lv : Int} {l : List Int} (h : LvAt w L C lv l) (hx : isX C lv = true) : EAt w L.s L.b L.c C lv (kN C lv) l := by
  rcases h with ⟨_, h⟩ | ⟨h, _⟩
  · exact h
  · rw [hx] at h; cases h
theorem LvAt.sk {w : World} {L : Lev} {C : Cfg} {lv : Int} {l : List Int} (h : LvAt w L C lv l) (hx : isX C lv = false) : SAt w L.s L.b L.c C lv (rN C) (wN C) l := by
  rcases h with ⟨h, _⟩ | ⟨_, h⟩
  · rw [hx] at h; cases h
  · exact h
theorem LvAt.lts {w : World} {L : Lev} {C : Cfg} {lv : Int} {l : List Int} (h : LvAt w L C lv l) : L.s < w.heap.size := by
  rcases h with ⟨_, h⟩ | ⟨_, h⟩ <;> exact h.lts
theorem LvAt.ltb {w : World} {L : Lev} {C : Cfg} {lv : Int} {l : List Int} (h : LvAt w L C lv l) : L.b < w.heap.size := by
  rcases h with ⟨_, h⟩ | ⟨_, h⟩ <;> exact h.g.ltb
theorem LvAt.ltc {w : World} {L : Lev} {C : Cfg} {lv : Int} {l : List Int} (h : LvAt w L C lv l) : L.c < w.heap.size := by
  rcases h with ⟨_, h⟩ | ⟨_, h⟩ <;> exact h.g.ltc
theorem LvAt.ok {w : World} {L : Lev} {C : Cfg} {lv : Int} {l : List Int} (h : LvAt w L C lv l) : C.Ok := by
  rcases h with ⟨_, h⟩ | ⟨_, h⟩ <;> exact h.ok
theorem LvAt.lo {w : World} {L : Lev} {C : Cfg} {lv : Int} {l : List Int} (h : LvAt w L C lv l) : 0 ≤ lv := by
  rcases h with ⟨_, h⟩ | ⟨_, h⟩ <;> exact h.lo
theorem LvAt.hi {w : World} {L : Lev} {C : Cfg} {lv : Int} {l : List Int} (h : LvAt w L C lv l) : lv ≤ C.bits := by
  rcases h with ⟨_, h⟩ | ⟨_, h⟩ <;> exact h.hi
theorem LvAt.fit {w : World} {L : Lev} {C : Cfg} {lv : Int} {l : List Int} (h : LvAt w L C lv l) : ∀ x ∈ l, I64 x := by
  rcases h with ⟨_, h⟩ | ⟨_, h⟩ <;> exact h.fit
theorem LvAt.len {w : World} {L : Lev} {C : Cfg} {lv : Int} {l : List Int} (h : LvAt w L C lv l) : l.length = lvN C lv := by
  unfold lvN
  rcases h with ⟨hx, h⟩ | ⟨hx, h⟩
  · rw [hx]; exact h.len
  · rw [hx]; exact h.g.len
theorem LvAt.keep {w w' : World} {L : Lev} {C : Cfg} {lv : Int} {l : List Int} (h : LvAt w L C lv l) (hs : w'.heap[L.s]? = w.heap[L.s]?) (hb : w'.heap[L.b]? = w.heap[L.b]?) (hc : w'.heap[L.c]? = w.heap[L.c]?) : LvAt w' L C lv l := by
  rcases h with ⟨hx, h⟩ | ⟨hx, h⟩
  · exact .inl ⟨hx, h.keep hs hb hc⟩
  · exact .inr ⟨hx, h.keep hs hb hc⟩
theorem LvAt.ext {w w' : World} {L : Lev} {C : Cfg} {lv : Int} {l : List Int} (h : LvAt w L C lv l) (he : Ext w w') : LvAt w' L C lv l :=
  h.keep (he.block _ h.lts) (he.block _ h.ltb) (he.block _ h.ltc)
/-- A block of cells is a block of int64. -/
theorem LvAt.isc {w : World} {L : Lev} {C : Cfg} {lv : Int} {l : List Int} (h : LvAt w L C lv l) : ∃ cur, w.heap[L.c]? = some (.cells cur 2 (0, 0)) := by
  rcases h with ⟨_, h⟩ | ⟨_, h⟩ <;> (obtain ⟨cap, _, h2⟩ := h.g.ex; obtain ⟨cur, h3, _⟩ := h2.ex; exact ⟨cur, h3⟩)
theorem LvAt.iss {w : World} {L : Lev} {C : Cfg} {lv : Int} {l : List Int} (h : LvAt w L C lv l) : ∃ cur t, w.heap[L.s]? = some (.cells cur t (0, 0)) ∧ t ≠ 2 := by
  rcases h with ⟨_, h⟩ | ⟨_, h⟩ <;> exact ⟨_, _, h.ex, by decide⟩
theorem LvAt.isb {w : World} {L : Lev} {C : Cfg} {lv : Int} {l : List Int} (h : LvAt w L C lv l) : ∃ cur t, w.heap[L.b]? = some (.cells cur t (0, 0)) ∧ t ≠ 2 := by
  rcases h with ⟨_, h⟩ | ⟨_, h⟩ <;> (obtain ⟨cap, h1, _⟩ := h.g.ex; exact ⟨_, _, h1, by decide⟩)
theorem blk_ne {w : World} {i j : Nat} {cur cur' : Array Value} {t t' : TypeId} {f f' : Nat × Nat} (h : w.heap[i]? = some (.cells cur t f)) (h' : w.heap[j]? = some (.cells cur' t' f')) (ht : t ≠ t') : i ≠ j := by
  intro e
  subst e
  rw [h] at h'
  injection h' with h'
  injection h' with _ h' _
  exact ht h'
/-- What another level's cells are changed to does not touch a level. -/
theorem LvAt.mod {S : Nat → Prop} {w w' : World} {L : Lev} {C : Cfg} {lv : Int} {l : List Int} (h : LvAt w L C lv l) (he : Mod S w w') (hS : ∀ k, S k → k < w.heap.size → ∃ cur, w.heap[k]? = some (.cells cur 2 (0, 0))) (hc : ¬ S L.c) : LvAt w' L C lv l := by
  refine h.keep (he.block _ h.lts fun hs => ?_) (he.block _ h.ltb fun hs => ?_) (he.block _ h.ltc hc)
  · obtain ⟨cur, t, h1, h2⟩ := h.iss
    obtain ⟨cur', h3⟩ := hS _ hs h.lts
    exact blk_ne h1 h3 h2 rfl
  · obtain ⟨cur, t, h1, h2⟩ := h.isb
    obtain ⟨cur', h3⟩ := hS _ hs h.ltb
    exact blk_ne h1 h3 h2 rfl
/-- Is a level an array, or a sketch? -/
@[go_sem] theorem ta_xx (p : Option Addr) (w : World) : (Instr.typeAssert (.iface 174 (.pointer p)) 82 174 true).run Tryz.prog w = .ok (.tuple #[.pointer p, .bool true]) w := by kernel_rfl
@[go_sem] theorem ta_xs (p : Option Addr) (w : World) : (Instr.typeAssert (.iface 174 (.pointer p)) 82 169 true).run Tryz.prog w = .ok (.tuple #[.pointer none, .bool false]) w := by kernel_rfl
@[go_sem] theorem ta_sx (p : Option Addr) (w : World) : (Instr.typeAssert (.iface 169 (.pointer p)) 82 174 true).run Tryz.prog w = .ok (.tuple #[.pointer none, .bool false]) w := by kernel_rfl
@[go_sem] theorem ta_ss (p : Option Addr) (w : World) : (Instr.typeAssert (.iface 169 (.pointer p)) 82 169 true).run Tryz.prog w = .ok (.tuple #[.pointer p, .bool true]) w := by kernel_rfl
@[go_sem] theorem ta_nx (w : World) : (Instr.typeAssert .nilIface 82 174 true).run Tryz.prog w = .ok (.tuple #[.pointer none, .bool false]) w := by kernel_rfl
@[go_sem] theorem ta_ns (w : World) : (Instr.typeAssert .nilIface 82 169 true).run Tryz.prog w = .ok (.tuple #[.pointer none, .bool false]) w := by kernel_rfl
@[go_sem] theorem tm_ss (p : Option Addr) (w : World) : (Instr.typeAssert (.iface 169 (.pointer p)) 82 169 false).run Tryz.prog w = .ok (.pointer p) w := by kernel_rfl
def LNewPost (w : World) (C : Cfg) (lv : Int) (e : Ending) (w' : World) : Prop :=
  ∃ L : Lev, e = .returned (.tuple #[lvV C lv L, .int .i64 0]) ∧ LvAt w' L C lv (zs (lvN C lv)) ∧ w.heap.size ≤ L.s ∧ w.heap.size ≤ L.b ∧ w.heap.size ≤ L.c ∧ Ext w w'
set_option maxRecDepth 20000 in
set_option maxHeartbeats 2000000 in
theorem LNew_c (C : Cfg) (h : C.Ok) (lv : Int) (h0 : 0 ≤ lv) (h1 : lv ≤ C.bits) (w : World) :
    Calls Tryz.prog 46 #[.agg #[.int .i64 C.bits, .int .i64 C.rows, .int .i64 C.width, .int .i64 C.mode, .int .u64 C.seed], .int .i64 lv] w (LNewPost w C lv) := by
  cases hx : isX C lv with
  | true =>
    have HX := Lib.hid hx
    clear hx
    go_enter Tryz.func46, Tryz.ntmps46
    go_wp2_with fail
    refine (Exact_c C h lv h0 h1 _).mono ?_
    rintro e w1 ⟨rfl, hb⟩
    rw [HX.out]
    have hE : Ext w w1 := by (repeat' (first | exact Ext.refl _ | assumption | apply Ext.allocR | apply Ext.drewR | apply Ext.drewNR | (refine Ext.trans' ?_ (by assumption))))
    have hC := (CfgAt.box (w := w) C 24 rfl).ext hb
    have d0 := hC.c0
    have d1 := hC.c1
    have d2 := hC.c2
    have d3 := hC.c3
    have d4 := hC.c4
    have cl := hC.lt
    have hs := hE.size
    clear hb hC
    go_wp2_with fail
    refine (ENew_c C h lv h0 h1 (kN C lv) (kN_eq h h0) HX.out _).mono ?_
    rintro e w2 ⟨s, b, c, rfl, hA, hs1, hb1, hc1, hx2⟩
    go_wp2
    go_ret2
    refine ⟨⟨s, b, c⟩, by rw [lvV_x HX.out]; rfl, .inl ⟨HX.out, ?_⟩, Nat.le_trans hs hs1, Nat.le_trans hs hb1, Nat.le_trans hs hc1, hE.trans' hx2⟩
    unfold lvN; rw [HX.out]; exact hA
  | false =>
    have HX := Lib.hid hx
    clear hx
    go_enter Tryz.func46, Tryz.ntmps46
    go_wp2_with fail
    refine (Exact_c C h lv h0 h1 _).mono ?_
    rintro e w1 ⟨rfl, hb⟩
    rw [HX.out]
    have hE : Ext w w1 := by (repeat' (first | exact Ext.refl _ | assumption | apply Ext.allocR | apply Ext.drewR | apply Ext.drewNR | (refine Ext.trans' ?_ (by assumption))))
    have hC := (CfgAt.box (w := w) C 24 rfl).ext hb
    have d0 := hC.c0
    have d1 := hC.c1
    have d2 := hC.c2
    have d3 := hC.c3
    have d4 := hC.c4
    have cl := hC.lt
    have hs := hE.size
    clear hb hC
    go_wp2_with fail
    refine (SNew_c C h lv h0 h1 (rN C) (wN C) (rN_eq h) (wN_eq h) _).mono ?_
    rintro e w2 ⟨s, b, c, rfl, hA, hs1, hb1, hc1, hx2⟩
    go_wp2
    go_ret2
    refine ⟨⟨s, b, c⟩, by rw [lvV_s HX.out]; rfl, .inr ⟨HX.out, ?_⟩, Nat.le_trans hs hs1, Nat.le_trans hs hb1, Nat.le_trans hs hc1, hE.trans' hx2⟩
    unfold lvN; rw [HX.out]; exact hA
def LCopyPost (w : World) (C : Cfg) (lv : Int) (l : List Int) (e : Ending) (w' : World) : Prop :=
  ∃ L' : Lev, e = .returned (lvV C lv L') ∧ LvAt w' L' C lv l ∧ w.heap.size ≤ L'.s ∧ w.heap.size ≤ L'.b ∧ w.heap.size ≤ L'.c ∧ Ext w w'
set_option maxRecDepth 20000 in
set_option maxHeartbeats 2000000 in
theorem LCopy_c (C : Cfg) (lv : Int) (L : Lev) (l : List Int) (w : World) (h : LvAt w L C lv l) :
    Calls Tryz.prog 54 #[lvV C lv L] w (LCopyPost w C lv l) := by
  cases hx : isX C lv with
  | true =>
    have hA := h.x hx
    have HX := Lib.hid hx
    rw [lvV_x hx]
    clear hx
    go_enter Tryz.func54, Tryz.ntmps54
    go_wp2_with fail
    refine (ECopy_c L.s L.b L.c C lv _ l _ hA).mono ?_
    rintro e w1 ⟨s', b', c', rfl, hA', h1, h2, h3, hx1⟩
    go_wp2
    go_ret
    exact ⟨⟨s', b', c'⟩, by rw [lvV_x HX.out]; rfl, .inl ⟨HX.out, hA'⟩, h1, h2, h3, hx1⟩
  | false =>
    have hA := h.sk hx
    have HX := Lib.hid hx
    rw [lvV_s hx]
    clear hx
    go_enter Tryz.func54, Tryz.ntmps54
    go_wp2_with fail
    refine (SCopy_c L.s L.b L.c C lv _ _ l _ hA).mono ?_
    rintro e w1 ⟨s', b', c', rfl, hA', h1, h2, h3, hx1⟩
    go_wp2
    go_ret
    exact ⟨⟨s', b', c'⟩, by rw [lvV_s HX.out]; rfl, .inr ⟨HX.out, hA'⟩, h1, h2, h3, hx1⟩
set_option maxRecDepth 20000 in
theorem LCopy_nil (w : World) :
    Calls Tryz.prog 54 #[.nilIface] w fun e w' => e = .returned .nilIface ∧ w = w' := by
  go_enter Tryz.func54, Tryz.ntmps54
  go_wp2
  go_ret
  exact ⟨rfl, rfl⟩
set_option maxRecDepth 20000 in
theorem AsSketch_x (s : Nat) (w : World) :
    Calls Tryz.prog 101 #[.iface 174 (.pointer (some ⟨s, 0, none⟩))] w fun e w' => e = .returned (.tuple #[.pointer none, .bool false]) ∧ w = w' := by
  go_enter Tryz.func101, Tryz.ntmps101
  go_wp2
  go_ret2
  exact ⟨rfl, rfl⟩
set_option maxRecDepth 20000 in
theorem AsSketch_s (s : Nat) (w : World) :
    Calls Tryz.prog 101 #[.iface 169 (.pointer (some ⟨s, 0, none⟩))] w fun e w' => e = .returned (.tuple #[.pointer (some ⟨s, 0, none⟩), .bool true]) ∧ w = w' := by
  go_enter Tryz.func101, Tryz.ntmps101
  go_wp2
  go_ret2
  exact ⟨rfl, rfl⟩
set_option maxRecDepth 20000 in
theorem MustSketch_s (s : Nat) (w : World) :
    Calls Tryz.prog 102 #[.iface 169 (.pointer (some ⟨s, 0, none⟩))] w fun e w' => e = .returned (.pointer (some ⟨s, 0, none⟩)) ∧ w = w' := by
  go_enter Tryz.func102, Tryz.ntmps102
  go_wp2
  go_ret
  exact ⟨rfl, rfl⟩
end Go.Proofs.YteoblkcbemeamaaGreat

/- grid.Plus, grid.Minus: two grids, cell by cell; nothing is changed if one cell does not fit. -/
namespace Go.Proofs.YteoblkcbemeamaaGreat
set_option linter.unusedVariables false
open Go.RowKit

def allI (l : List Int) : Prop := ∀ x ∈ l, I64 x
def JoinPost (w : World) (b c R W : Nat) (m : List Int) (e : Ending) (w' : World) : Prop :=
  (allI m ∧ e = .returned (.int .i64 0) ∧ GAt w' b c R W m ∧ Mod (fun k => k = c) w w') ∨ (¬ allI m ∧ e = .returned (.int .i64 4) ∧ Ext w w')
def plusL (l m : List Int) : List Int := (List.range l.length).map fun k => l.getD k 0 + m.getD k 0
def minusL (l m : List Int) : List Int := (List.range l.length).map fun k => l.getD k 0 - m.getD k 0
theorem plusL_len (l m : List Int) : (plusL l m).length = l.length := by simp [plusL]
theorem minusL_len (l m : List Int) : (minusL l m).length = l.length := by simp [minusL]
theorem map_all {f : Nat → Int} {n : Nat} (h : ∀ j, j < n → I64 (f j)) : allI ((List.range n).map f) := by
  intro x hx
  simp only [List.mem_map, List.mem_range] at hx
  obtain ⟨j, hj, rfl⟩ := hx
  exact h j hj
theorem map_not {f : Nat → Int} {n j : Nat} (hj : j < n) (h : ¬ I64 (f j)) : ¬ allI ((List.range n).map f) := by
  intro ha
  exact h (ha _ (by simp only [List.mem_map, List.mem_range]; exact ⟨j, hj, rfl⟩))
theorem ints_one {l : List Int} : ∀ v ∈ ints l, v.oneCell' = true := by
  intro v hv
  simp only [ints, List.mem_map] at hv
  obtain ⟨x, _, rfl⟩ := hv
  rfl
theorem CAt.copied {w : World} {c cap : Nat} {l m : List Int} {cur : Array Value} (hg : w.heap[c]? = some (.cells cur 2 (0, 0))) (hs : cur.size = cap) (hle : l.length ≤ cap) (hmx : cap ≤ maxLen) (hm : m.length = l.length) :
    CAt (w.setRow c (cur.toList.take 0 ++ (Go.Proofs.YteoblkcbemeamaaGreat.ints m ++ cur.toList.drop (0 + (Go.Proofs.YteoblkcbemeamaaGreat.ints m).length))).toArray) c cap m := by
  refine ⟨⟨_, setRow_heap w c _ _ _ _ hg, ?_, ?_⟩, by omega, hmx⟩
  · simp [Go.Proofs.YteoblkcbemeamaaGreat.ints]; omega
  · simp [Go.Proofs.YteoblkcbemeamaaGreat.ints]
theorem CAt.copied' {w : World} {c cap : Nat} {l m : List Int} {cur : Array Value} (hg : w.heap[c]? = some (.cells cur 2 (0, 0))) (hs : cur.size = cap) (hle : l.length ≤ cap) (hmx : cap ≤ maxLen) (hm : m.length = l.length) :
    CAt (w.setRow c (Go.Proofs.YteoblkcbemeamaaGreat.ints m ++ cur.toList.drop (Go.Proofs.YteoblkcbemeamaaGreat.ints m).length).toArray) c cap m := by
  have := CAt.copied (w := w) (l := l) (m := m) hg hs hle hmx hm
  simpa using this
theorem mod_row {w w' : World} {c : Nat} (h : Mod (fun k => k = c) w w') (cs : Array Value) : Mod (fun k => k = c) w (w'.setRow c cs) :=
  ⟨h.os, h.tape, h.output, by rw [size_setRow]; exact h.size, fun k hk hn => (setRow_other _ _ _ _ hn).trans (h.block k hk hn)⟩
theorem addr_plain (b off i : Nat) : (Addr.add ⟨b, off, none⟩ i) = ⟨b, off + i, none⟩ := by
  unfold Addr.add
  by_cases h : i = 0
  · subst h; simp
  · simp [h]
theorem GAt.row {w wr : World} {b c R W : Nat} {l m : List Int} (h : GAt w b c R W l) (hE : Ext w wr) {cur : Array Value} {cap : Nat} (hb : w.heap[b]? = some (.cells #[.int .i64 R, .int .i64 W, .slice (some ⟨c, 0, none⟩) l.length cap] 244 (0, 0))) (hc : CAt w c cap l)
    (hg : wr.heap[c]? = some (.cells cur 2 (0, 0))) (hs : cur.size = cap) (hm : m.length = l.length) :
    GAt (wr.setRow c (ints m ++ cur.toList.drop (ints m).length).toArray) b c R W m :=
  ⟨⟨cap, by rw [setRow_other _ _ _ _ h.ne, hE.block b h.ltb, hm]; exact hb, CAt.copied' hg hs hc.le hc.mx hm⟩, h.r1, h.r2, h.w1, h.w2, by rw [hm]; exact h.len⟩
theorem Plus_fit (a b : Int) (ha : I64 a) (hb : I64 b) (h : I64 (a + b)) (w : World) :
    Calls Tryz.prog 178 #[.int .i64 a, .int .i64 b] w fun e w' => e = .returned (.tuple #[.int .i64 (a + b), .bool true]) ∧ Ext w w' :=
  (Plus_c a b ha hb w).mono fun _ _ ⟨he, hx⟩ => ⟨by rw [he, fitN, fitB_yes h]; rfl, hx⟩
theorem Plus_no (a b : Int) (ha : I64 a) (hb : I64 b) (h : ¬ I64 (a + b)) (w : World) :
    Calls Tryz.prog 178 #[.int .i64 a, .int .i64 b] w fun e w' => e = .returned (.tuple #[.int .i64 0, .bool false]) ∧ Ext w w' :=
  (Plus_c a b ha hb w).mono fun _ _ ⟨he, hx⟩ => ⟨by rw [he, fitN, fitB_no h]; rfl, hx⟩
set_option maxRecDepth 20000 in
set_option maxHeartbeats 2000000 in
theorem allPlus_c (b c b2 c2 R W : Nat) (l l2 : List Int) (w : World) (h : GAt w b c R W l) (h2 : GAt w b2 c2 R W l2) (hI : allI l) (hI2 : allI l2) :
    Calls Tryz.prog 179 #[.agg #[.pointer (some ⟨b, 0, none⟩), .func (.func 178) #[] #[]], .pointer (some ⟨b2, 0, none⟩)] w (JoinPost w b c R W (plusL l l2)) := by
  obtain ⟨cap, hb, hc⟩ := h.ex
  obtain ⟨cap2, hb2, hc2⟩ := h2.ex
  have hl := h.len
  have hl2 := h2.len
  have hN1 : R * W ≤ 1024 := Nat.le_trans (Nat.mul_le_mul h.r2 h.w2) (by decide)
  have hN2 : 1 ≤ R * W := Nat.mul_pos h.r1 h.w1
  have hLL : plusL l l2 = (List.range l.length).map fun k => l.getD k 0 + l2.getD k 0 := rfl
  rw [hLL]
  have HB := Lib.hid hb
  rw [hl] at hb ⊢
  rw [hl2] at hb2
  generalize hNN : R * W = N at *
  obtain ⟨f, hf⟩ : ∃ f : Nat → Int, f = fun k => l.getD k 0 + l2.getD k 0 := ⟨_, rfl⟩
  rw [← hf]
  have HF := Lib.hid hf
  have HL := Lib.hid hl
  have HL2 := Lib.hid hl2
  have HNN := Lib.hid hNN
  have e0 := (cell_of hb 0).trans rfl
  have e1 := (cell_of hb 1).trans rfl
  have e2 := (cell_of hb 2).trans rfl
  have k0 := (cell_of hb2 0).trans rfl
  have k1 := (cell_of hb2 1).trans rfl
  have k2 := (cell_of hb2 2).trans rfl
  have ltb := h.ltb
  have ltc := h.ltc
  have ltb2 := h2.ltb
  have ltc2 := h2.ltc
  obtain ⟨ii, hi, hz0, hz1, hz2⟩ := info_parts info_i64
  have hmk := fun (x : World) => run_make_ints 43 2 ii Tryz.underlying43 hi hz0 hz1 hz2 N (by omega) f x
  have HH := Lib.hid h
  have HH2 := Lib.hid h2
  have HC := Lib.hid hc
  have HC2 := Lib.hid hc2
  clear hf hl hl2 hNN hb hb2 h h2 hc hc2 hLL hi hz0 hz1 hz2
  go_enter Tryz.func179, Tryz.ntmps179
  go_wp2_with fail
  refine wp_region_after (by kernel_rfl) (by kernel_rfl) ?_
  repeat (go_big_quiet_step (fail))
  refine wpQuiet_nil ?_
  rintro _ ⟨xx, rfl⟩
  obtain ⟨w1, hb1⟩ := xx
  try dsimp only
  have hj0 : w1.cell? ⟨w.heap.size, 0, none⟩ = some (.pointer (some ⟨b, 0, none⟩)) := by rw [(bcell hb1).1 _ _ (by rw [size_alloc]; omega)]; simp [go_sem]
  have hj1 : w1.cell? ⟨w.heap.size, 1, none⟩ = some (.func (.func 178) #[] #[]) := by rw [(bcell hb1).1 _ _ (by rw [size_alloc]; omega)]; simp [go_sem]
  have hbs := hb1.size
  rw [size_alloc] at hbs
  have hE : Ext w w1 := by (repeat' (first | exact Ext.refl _ | assumption | apply Ext.allocR | apply Ext.drewR | apply Ext.drewNR | (refine Ext.trans' ?_ (by assumption))))
  clear hb1
  have e2' := ((bcell hE).1 _ _ ltb).trans e2
  have k2' := ((bcell hE).1 _ _ ltb2).trans k2
  have lb1 : b < w1.heap.size := Nat.lt_of_lt_of_le ltb hE.size
  have lb2 : b2 < w1.heap.size := Nat.lt_of_lt_of_le ltb2 hE.size
  clear e0 e1 k0 k1 e2 k2
  go_wp2_with fail
  clear hmk
  go_loopw [48] (fun u48 wr => ∃ k : Nat, k ≤ N ∧ u48 = .int .i64 k ∧ (∀ j, j < k → I64 (f j)) ∧ Ext w1 wr ∧ w1.heap.size < wr.heap.size ∧ wr.heap[w1.heap.size]? = some (.cells (fillA f k N) 2 (0, 0))) (fun u48 _ => N - (intOf u48).toNat)
  case atStart => exact ⟨0, Nat.zero_le _, rfl, fun j hj => absurd hj (Nat.not_lt_zero j), Ext.alloc' _ _, by rw [size_alloc]; omega, heap_at _ _ rfl⟩
  case round =>
    obtain ⟨k, hk, rfl, hfit, hx, hsz, hg2⟩ := hrel
    have HFIT := Lib.hid hfit
    clear hfit
    have hEw : Ext w wr := hE.trans' hx
    have j0 := ((bcell hx).1 _ 0 (show w.heap.size < w1.heap.size by omega)).trans hj0
    have j1 := ((bcell hx).1 _ 1 (show w.heap.size < w1.heap.size by omega)).trans hj1
    have g2 := ((bcell hx).1 _ 2 (show b < w1.heap.size by omega)).trans e2'
    have m2 := ((bcell hx).1 _ 2 (show b2 < w1.heap.size by omega)).trans k2'
    have s0 : w.heap.size < wr.heap.size := by omega
    have s1 : b < wr.heap.size := by omega
    have s2 : b2 < wr.heap.size := by omega
    have s3 : c < wr.heap.size := by omega
    have s4 : c2 < wr.heap.size := by omega
    by_cases hlt : k < N
    · have x0 := ((bcell hEw).1 _ k ltc).trans (HC.out.cell (i := k) (by rw [HL.out]; exact hlt))
      have x1 := ((bcell hEw).1 _ k ltc2).trans (HC2.out.cell (i := k) (by rw [HL2.out]; exact hlt))
      have hfk : f k = l.getD k 0 + l2.getD k 0 := by rw [HF.out]
      have i0 := getD_i64 hI k
      have i1 := getD_i64 hI2 k
      generalize l.getD k 0 = a at *
      generalize l2.getD k 0 = a2 at *
      obtain ⟨v0, d0⟩ : ∃ v0, wr.cell? ⟨w1.heap.size, k, none⟩ = some v0 := ⟨_, (cell_of hg2 k).trans (fillA_at _ _ _ _ hlt)⟩
      have d1 := frozen_of hg2 k
      have HG := Lib.hid hg2
      clear hg2
      by_cases hf : I64 (a + a2)
      · have HFK := Lib.hid hfk
        have HFI := Lib.hid hf
        clear hfk hf
        go_wp2_with fail
        refine wp_region_after (by kernel_rfl) (by kernel_rfl) ?_
        repeat (go_big_quiet_step ((go_at_call 178; exact quiet_after (Plus_fit a a2 i0 i1 HFI.out _))))
        refine wpQuiet_nil ?_
        rintro _ ⟨xx, rfl⟩
        obtain ⟨w5, hb5⟩ := xx
        try dsimp only
        have d0' := ((bcell hb5).1 _ _ hsz).trans d0
        have d1' := ((bcell hb5).2 _ _ hsz).trans d1
        have hg5 := (hb5.block _ hsz).trans HG.out
        have HG5 := Lib.hid hg5
        have hx5 := hx.trans' hb5
        have hs5 := hb5.size
        clear hg5 d0 d1
        go_wp2_with fail
        go_roundw
        case rel =>
          refine ⟨k + 1, by omega, by go_num, fun j hj => ?_, hx5.setR (Nat.le_refl _) _, by rw [size_setCell]; omega, ?_⟩
          · by_cases hjk : j < k
            · exact HFIT.out j hjk
            · obtain rfl : j = k := by omega
              rw [HFK.out]; exact HFI.out
          · rw [setCell_same HG5.out, ← fillA_set, HFK.out]
        case measure => simp [intOf]; omega
      · have HFK := Lib.hid hfk
        have HFI := Lib.hid hf
        clear hfk hf
        go_wp2_with fail
        refine wp_region_after (by kernel_rfl) (by kernel_rfl) ?_
        repeat (go_big_quiet_step ((go_at_call 178; exact quiet_after (Plus_no a a2 i0 i1 HFI.out _))))
        refine wpQuiet_nil ?_
        rintro _ ⟨xx, rfl⟩
        obtain ⟨w5, hb5⟩ := xx
        try dsimp only
        go_wp2_with fail
        go_ret
        refine .inr ⟨?_, rfl, hEw.trans' hb5⟩
        exact map_not hlt (by rw [HFK.out]; exact HFI.out)
    · have HG := Lib.hid hg2
      clear hg2
      obtain rfl : k = N := by omega
      obtain ⟨cur, hcur, hcs, hct⟩ := (HC.out.keep (hEw.block c ltc)).ex
      have HCUR := Lib.hid hcur
      have HCS := Lib.hid hcs
      clear hcur hcs hct
      go_wp2_with (with_reducible refine wpList_copy_own rfl _ _ 43 43 rfl 2 Tryz.underlying43 (by kernel_rfl) c 0 _ _ ⟨w1.heap.size, 0, none⟩ _ _ rfl rfl cur 2 HCUR.out (ints ((List.range k).map f)) ?a1 ?a2 ?a3 ints_one ?_)
      case a1 => simp [ints]
      case a2 =>
        intro j v hj
        rw [addr_plain, Nat.zero_add, cell_of HG.out j, ← Array.getElem?_toList, fillA_done]
        exact hj
      case a3 =>
        have := HCS.out
        have := HC.out.le
        rw [HL.out] at this
        simp only [ints, List.length_map, List.length_range]
        omega
      go_ret
      refine .inl ⟨map_all HFIT.out, rfl, ?_, ?_⟩
      · exact HH.out.row hEw HB.out HC.out HCUR.out HCS.out (by rw [HL.out]; simp)
      · exact mod_row (hEw.mod _) _
theorem Minus_fit (a b : Int) (ha : I64 a) (hb : I64 b) (h : I64 (a - b)) (w : World) :
    Calls Tryz.prog 95 #[.int .i64 a, .int .i64 b] w fun e w' => e = .returned (.tuple #[.int .i64 (a - b), .bool true]) ∧ Ext w w' :=
  (Minus_c a b ha hb w).mono fun _ _ ⟨he, hx⟩ => ⟨by rw [he, fitN, fitB_yes h]; rfl, hx⟩
theorem Minus_no (a b : Int) (ha : I64 a) (hb : I64 b) (h : ¬ I64 (a - b)) (w : World) :
    Calls Tryz.prog 95 #[.int .i64 a, .int .i64 b] w fun e w' => e = .returned (.tuple #[.int .i64 0, .bool false]) ∧ Ext w w' :=
  (Minus_c a b ha hb w).mono fun _ _ ⟨he, hx⟩ => ⟨by rw [he, fitN, fitB_no h]; rfl, hx⟩
set_option maxRecDepth 20000 in
set_option maxHeartbeats 2000000 in
theorem allMinus_c (b c b2 c2 R W : Nat) (l l2 : List Int) (w : World) (h : GAt w b c R W l) (h2 : GAt w b2 c2 R W l2) (hI : allI l) (hI2 : allI l2) :
    Calls Tryz.prog 179 #[.agg #[.pointer (some ⟨b, 0, none⟩), .func (.func 95) #[] #[]], .pointer (some ⟨b2, 0, none⟩)] w (JoinPost w b c R W (minusL l l2)) := by
  obtain ⟨cap, hb, hc⟩ := h.ex
  obtain ⟨cap2, hb2, hc2⟩ := h2.ex
  have hl := h.len
  have hl2 := h2.len
  have hN1 : R * W ≤ 1024 := Nat.le_trans (Nat.mul_le_mul h.r2 h.w2) (by decide)
  have hN2 : 1 ≤ R * W := Nat.mul_pos h.r1 h.w1
  have hLL : minusL l l2 = (List.range l.length).map fun k => l.getD k 0 - l2.getD k 0 := rfl
  rw [hLL]
  have HB := Lib.hid hb
  rw [hl] at hb ⊢
  rw [hl2] at hb2
  generalize hNN : R * W = N at *
  obtain ⟨f, hf⟩ : ∃ f : Nat → Int, f = fun k => l.getD k 0 - l2.getD k 0 := ⟨_, rfl⟩
  rw [← hf]
  have HF := Lib.hid hf
  have HL := Lib.hid hl
  have HL2 := Lib.hid hl2
  have HNN := Lib.hid hNN
  have e0 := (cell_of hb 0).trans rfl
  have e1 := (cell_of hb 1).trans rfl
  have e2 := (cell_of hb 2).trans rfl
  have k0 := (cell_of hb2 0).trans rfl
  have k1 := (cell_of hb2 1).trans rfl
  have k2 := (cell_of hb2 2).trans rfl
  have ltb := h.ltb
  have ltc := h.ltc
  have ltb2 := h2.ltb
  have ltc2 := h2.ltc
  obtain ⟨ii, hi, hz0, hz1, hz2⟩ := info_parts info_i64
  have hmk := fun (x : World) => run_make_ints 43 2 ii Tryz.underlying43 hi hz0 hz1 hz2 N (by omega) f x
  have HH := Lib.hid h
  have HH2 := Lib.hid h2
  have HC := Lib.hid hc
  have HC2 := Lib.hid hc2
  clear hf hl hl2 hNN hb hb2 h h2 hc hc2 hLL hi hz0 hz1 hz2
  go_enter Tryz.func179, Tryz.ntmps179
  go_wp2_with fail
  refine wp_region_after (by kernel_rfl) (by kernel_rfl) ?_
  repeat (go_big_quiet_step (fail))
  refine wpQuiet_nil ?_
  rintro _ ⟨xx, rfl⟩
  obtain ⟨w1, hb1⟩ := xx
  try dsimp only
  have hj0 : w1.cell? ⟨w.heap.size, 0, none⟩ = some (.pointer (some ⟨b, 0, none⟩)) := by rw [(bcell hb1).1 _ _ (by rw [size_alloc]; omega)]; simp [go_sem]
  have hj1 : w1.cell? ⟨w.heap.size, 1, none⟩ = some (.func (.func 95) #[] #[]) := by rw [(bcell hb1).1 _ _ (by rw [size_alloc]; omega)]; simp [go_sem]
  have hbs := hb1.size
  rw [size_alloc] at hbs
  have hE : Ext w w1 := by (repeat' (first | exact Ext.refl _ | assumption | apply Ext.allocR | apply Ext.drewR | apply Ext.drewNR | (refine Ext.trans' ?_ (by assumption))))
  clear hb1
  have e2' := ((bcell hE).1 _ _ ltb).trans e2
  have k2' := ((bcell hE).1 _ _ ltb2).trans k2
  have lb1 : b < w1.heap.size := Nat.lt_of_lt_of_le ltb hE.size
  have lb2 : b2 < w1.heap.size := Nat.lt_of_lt_of_le ltb2 hE.size
  clear e0 e1 k0 k1 e2 k2
  go_wp2_with fail
  clear hmk
  go_loopw [48] (fun u48 wr => ∃ k : Nat, k ≤ N ∧ u48 = .int .i64 k ∧ (∀ j, j < k → I64 (f j)) ∧ Ext w1 wr ∧ w1.heap.size < wr.heap.size ∧ wr.heap[w1.heap.size]? = some (.cells (fillA f k N) 2 (0, 0))) (fun u48 _ => N - (intOf u48).toNat)
  case atStart => exact ⟨0, Nat.zero_le _, rfl, fun j hj => absurd hj (Nat.not_lt_zero j), Ext.alloc' _ _, by rw [size_alloc]; omega, heap_at _ _ rfl⟩
  case round =>
    obtain ⟨k, hk, rfl, hfit, hx, hsz, hg2⟩ := hrel
    have HFIT := Lib.hid hfit
    clear hfit
    have hEw : Ext w wr := hE.trans' hx
    have j0 := ((bcell hx).1 _ 0 (show w.heap.size < w1.heap.size by omega)).trans hj0
    have j1 := ((bcell hx).1 _ 1 (show w.heap.size < w1.heap.size by omega)).trans hj1
    have g2 := ((bcell hx).1 _ 2 (show b < w1.heap.size by omega)).trans e2'
    have m2 := ((bcell hx).1 _ 2 (show b2 < w1.heap.size by omega)).trans k2'
    have s0 : w.heap.size < wr.heap.size := by omega
    have s1 : b < wr.heap.size := by omega
    have s2 : b2 < wr.heap.size := by omega
    have s3 : c < wr.heap.size := by omega
    have s4 : c2 < wr.heap.size := by omega
    by_cases hlt : k < N
    · have x0 := ((bcell hEw).1 _ k ltc).trans (HC.out.cell (i := k) (by rw [HL.out]; exact hlt))
      have x1 := ((bcell hEw).1 _ k ltc2).trans (HC2.out.cell (i := k) (by rw [HL2.out]; exact hlt))
      have hfk : f k = l.getD k 0 - l2.getD k 0 := by rw [HF.out]
      have i0 := getD_i64 hI k
      have i1 := getD_i64 hI2 k
      generalize l.getD k 0 = a at *
      generalize l2.getD k 0 = a2 at *
      obtain ⟨v0, d0⟩ : ∃ v0, wr.cell? ⟨w1.heap.size, k, none⟩ = some v0 := ⟨_, (cell_of hg2 k).trans (fillA_at _ _ _ _ hlt)⟩
      have d1 := frozen_of hg2 k
      have HG := Lib.hid hg2
      clear hg2
      by_cases hf : I64 (a - a2)
      · have HFK := Lib.hid hfk
        have HFI := Lib.hid hf
        clear hfk hf
        go_wp2_with fail
        refine wp_region_after (by kernel_rfl) (by kernel_rfl) ?_
        repeat (go_big_quiet_step ((go_at_call 95; exact quiet_after (Minus_fit a a2 i0 i1 HFI.out _))))
        refine wpQuiet_nil ?_
        rintro _ ⟨xx, rfl⟩
        obtain ⟨w5, hb5⟩ := xx
        try dsimp only
        have d0' := ((bcell hb5).1 _ _ hsz).trans d0
        have d1' := ((bcell hb5).2 _ _ hsz).trans d1
        have hg5 := (hb5.block _ hsz).trans HG.out
        have HG5 := Lib.hid hg5
        have hx5 := hx.trans' hb5
        have hs5 := hb5.size
        clear hg5 d0 d1
        go_wp2_with fail
        go_roundw
        case rel =>
          refine ⟨k + 1, by omega, by go_num, fun j hj => ?_, hx5.setR (Nat.le_refl _) _, by rw [size_setCell]; omega, ?_⟩
          · by_cases hjk : j < k
            · exact HFIT.out j hjk
            · obtain rfl : j = k := by omega
              rw [HFK.out]; exact HFI.out
          · rw [setCell_same HG5.out, ← fillA_set, HFK.out]
        case measure => simp [intOf]; omega
      · have HFK := Lib.hid hfk
        have HFI := Lib.hid hf
        clear hfk hf
        go_wp2_with fail
        refine wp_region_after (by kernel_rfl) (by kernel_rfl) ?_
        repeat (go_big_quiet_step ((go_at_call 95; exact quiet_after (Minus_no a a2 i0 i1 HFI.out _))))
        refine wpQuiet_nil ?_
        rintro _ ⟨xx, rfl⟩
        obtain ⟨w5, hb5⟩ := xx
        try dsimp only
        go_wp2_with fail
        go_ret
        refine .inr ⟨?_, rfl, hEw.trans' hb5⟩
        exact map_not hlt (by rw [HFK.out]; exact HFI.out)
    · have HG := Lib.hid hg2
      clear hg2
      obtain rfl : k = N := by omega
      obtain ⟨cur, hcur, hcs, hct⟩ := (HC.out.keep (hEw.block c ltc)).ex
      have HCUR := Lib.hid hcur
      have HCS := Lib.hid hcs
      clear hcur hcs hct
      go_wp2_with (with_reducible refine wpList_copy_own rfl _ _ 43 43 rfl 2 Tryz.underlying43 (by kernel_rfl) c 0 _ _ ⟨w1.heap.size, 0, none⟩ _ _ rfl rfl cur 2 HCUR.out (ints ((List.range k).map f)) ?a1 ?a2 ?a3 ints_one ?_)
      case a1 => simp [ints]
      case a2 =>
        intro j v hj
        rw [addr_plain, Nat.zero_add, cell_of HG.out j, ← Array.getElem?_toList, fillA_done]
        exact hj
      case a3 =>
        have := HCS.out
        have := HC.out.le
        rw [HL.out] at this
        simp only [ints, List.length_map, List.length_range]
        omega
      go_ret
      refine .inl ⟨map_all HFIT.out, rfl, ?_, ?_⟩
      · exact HH.out.row hEw HB.out HC.out HCUR.out HCS.out (by rw [HL.out]; simp)
      · exact mod_row (hEw.mod _) _
end Go.Proofs.YteoblkcbemeamaaGreat

/- Plain laws: sums of cells are the cells of all updates. -/
namespace Go.Proofs.YteoblkcbemeamaaGreat
set_option linter.unusedVariables false

theorem sumIf_append (p : Int → Bool) (a b : List (Int × Int)) : sumIf p (a ++ b) = sumIf p a + sumIf p b := by
  unfold sumIf; rw [List.map_append, lsum_append]
theorem cutP_append (C : Cfg) (lv : Int) (a b : List (Int × Int)) : cutP C lv (a ++ b) = cutP C lv a ++ cutP C lv b := by simp [cutP]
theorem list_ext_getD {a b : List Int} (hl : a.length = b.length) (h : ∀ i, i < a.length → a.getD i 0 = b.getD i 0) : a = b := by
  apply List.ext_getElem hl
  intro i h1 h2
  have := h i h1
  simpa [h1, h2] using this
theorem plusL_get {l m : List Int} {i : Nat} (h : i < l.length) : (plusL l m).getD i 0 = l.getD i 0 + m.getD i 0 := by simp [plusL, h]
theorem minusL_get {l m : List Int} {i : Nat} (h : i < l.length) : (minusL l m).getD i 0 = l.getD i 0 - m.getD i 0 := by simp [minusL, h]
theorem feed_plus (C : Cfg) (hok : C.Ok) (lv : Int) (R W : Nat) (hr : C.rows = R) (hw : C.width = W) (hm : C.mode ≠ 2) (us vs : List (Int × Int)) :
    plusL (feed C lv R W us (zs (R * W))) (feed C lv R W vs (zs (R * W))) = feed C lv R W (us ++ vs) (zs (R * W)) := by
  have hW : 0 < W := by have := hok.w1; omega
  apply list_ext_getD
  · rw [plusL_len, feed_len, feed_len]
  · intro i hi
    rw [plusL_len] at hi
    rw [plusL_get hi]
    rw [feed_len, zs_len] at hi
    have h1 : i / W < R := Nat.div_lt_of_lt_mul (by rw [Nat.mul_comm]; exact hi)
    have h2 : i % W < W := Nat.mod_lt _ hW
    have e : i = i / W * W + i % W := by have := Nat.div_add_mod i W; rw [Nat.mul_comm] at this; exact this.symm
    rw [e, feed_cell C hok lv R W hr hw hm us h1 h2, feed_cell C hok lv R W hr hw hm vs h1 h2, feed_cell C hok lv R W hr hw hm (us ++ vs) h1 h2, cutP_append, sumIf_append]
theorem minus_plus {a b : List Int} (h : a.length = b.length) : minusL (plusL a b) b = a := by
  apply list_ext_getD
  · rw [minusL_len, plusL_len]
  · intro i hi
    rw [minusL_len] at hi
    rw [minusL_get hi]
    rw [plusL_len] at hi
    rw [plusL_get hi]
    omega
theorem minus_self (a : List Int) : minusL a a = zs a.length := by
  apply list_ext_getD
  · rw [minusL_len, zs_len]
  · intro i hi
    rw [minusL_len] at hi
    rw [minusL_get hi]
    simp [zs, hi]
theorem feed_fit (C : Cfg) (lv : Int) (R W : Nat) (us : List (Int × Int)) (hl : us.length ≤ 1000) : allI (feed C lv R W us (zs (R * W))) := by
  intro x hx
  have := feed_bnd C lv R W us x hx
  unfold I64
  constructor <;> omega
theorem fus_cat (us : List (Int × Int)) {k : Nat} (hk : k ≤ 60) : fus us 0 k ++ fus us k 60 = fus us 0 60 := by
  unfold fus
  rw [List.drop_zero, List.drop_zero]
  have : us.take k = (us.take 60).take k := by rw [List.take_take, Nat.min_eq_left hk]
  rw [this, List.take_append_drop]
theorem zs_fit (n : Nat) : allI (zs n) := by
  intro x hx
  simp only [zs, List.mem_replicate] at hx
  rw [hx.2]; unfold I64; omega
theorem IntsAt.mod {S : Nat → Prop} {w w' : World} {v : Value} {xs : List Int} (h : IntsAt w v xs) (hm : Mod S w w') (hne : ∀ g off n cap, v = .slice (some ⟨g, off, none⟩) n cap → ¬ S g) : IntsAt w' v xs := by
  rcases h with h | ⟨g, off, cap, h1, h2, h3⟩
  · exact .inl h
  · exact .inr ⟨g, off, cap, h1, Nat.lt_of_lt_of_le h2 hm.size, fun k hk => (mcell hm h2 (hne _ _ _ _ h1) _).trans (h3 k hk)⟩
theorem SAt.mod {S : Nat → Prop} {w w' : World} {s b c : Nat} {C : Cfg} {lv : Int} {R W : Nat} {l : List Int} (h : SAt w s b c C lv R W l) (hm : Mod S w w') (h1 : ¬ S s) (h2 : ¬ S b) (h3 : ¬ S c) : SAt w' s b c C lv R W l :=
  h.keep (hm.block s h.lts h1) (hm.block b h.g.ltb h2) (hm.block c h.g.ltc h3)
end Go.Proofs.YteoblkcbemeamaaGreat

/- Plain law: the least of what is read in a key's columns. -/
namespace Go.Proofs.YteoblkcbemeamaaGreat
set_option linter.unusedVariables false

theorem kth0_spec {l : List Int} {x : Int} (h : IsKth l 0 x) : x ∈ l ∧ ∀ y ∈ l, x ≤ y := by
  have hx : x ∈ l := sameN_pos (by have := h.1; have := h.2; omega)
  have hm := kth0_min h
  have hs := minL_spec l (by intro e; rw [e] at hx; cases hx)
  rw [hm] at hs
  exact hs
theorem least_of {own : Int} {f : Nat → Int} {R : Nat} {n : Int} (h : IsKth ((List.range R).map fun r => own + f r) 0 n) : n = own + leastF f R := by
  obtain ⟨h1, h2⟩ := kth0_spec h
  simp only [List.mem_map, List.mem_range] at h1 h2
  obtain ⟨r, hr, rfl⟩ := h1
  obtain ⟨j, hj, hj'⟩ := leastF_mem f R (by omega)
  have a1 := (leastF_le f R).2 r hr
  have a2 := h2 (own + f j) ⟨j, hj, rfl⟩
  omega
/-- No key of the first k updates has less than 0. -/
def plainK (C : Cfg) (LV : Int) (us : List (Int × Int)) (P : List (Int × Int)) (k : Nat) : Bool := (us.take k).all fun u => decide (0 ≤ hasP (cutK C LV u.1) P)
theorem plainK_zero (C : Cfg) (LV : Int) (us P : List (Int × Int)) : plainK C LV us P 0 = true := rfl
theorem plainK_succ (C : Cfg) (LV : Int) (us P : List (Int × Int)) {k : Nat} (hk : k < us.length) : plainK C LV us P (k + 1) = (plainK C LV us P k && decide (0 ≤ hasP (cutK C LV us[k].1) P)) := by
  unfold plainK
  rw [List.take_succ_eq_append_getElem hk, List.all_append]
  simp
theorem plainK_end (C : Cfg) (LV : Int) (us P : List (Int × Int)) {k : Nat} (h60 : k ≤ 60) (hk : k ≤ us.length) (he : ¬ (k < us.length ∧ k < 60)) : plainK C LV us P k = plainK C LV us P 60 := by
  unfold plainK
  by_cases h : k = 60
  · rw [h]
  · have : k = us.length := by omega
    rw [this, List.take_length, List.take_of_length_le (by omega)]
theorem least_nn {C : Cfg} {LV key : Int} {us : List (Int × Int)} {R : Nat} (hR : 0 < R) (h : plainK C LV us (cutP C LV (fus us 0 60)) 60 = true) : 0 ≤ leastF (fun r => othP C LV key r (cutP C LV (fus us 0 60))) R := by
  obtain ⟨r, _, hr⟩ := leastF_mem (fun r => othP C LV key r (cutP C LV (fus us 0 60))) R hR
  rw [hr]
  refine oth_nn (fun u hu => ?_)
  simp only [cutP, List.mem_map] at hu
  obtain ⟨v, hv, rfl⟩ := hu
  unfold plainK at h
  rw [List.all_eq_true] at h
  have := h v (by unfold fus at hv; simpa using hv)
  simpa using this
theorem leastF_bd (f : Nat → Int) (B : Int) (hf : ∀ r, -B ≤ f r ∧ f r ≤ B) (k : Nat) : -B ≤ leastF f k ∧ leastF f k ≤ B := by
  induction k with
  | zero => exact hf 0
  | succ k ih =>
    rw [leastF_succ]
    have := hf k
    omega
end Go.Proofs.YteoblkcbemeamaaGreat

/- Plain laws: conservative cells lie between what a key has and the sums. -/
namespace Go.Proofs.YteoblkcbemeamaaGreat
set_option linter.unusedVariables false

/-- The same config in the mode Linear. -/
def lin (C : Cfg) : Cfg := { C with mode := 1 }
theorem cons_cell {C : Cfg} {lv : Int} {R W : Nat} (hok : C.Ok) (hr : C.rows = R) (hw : C.width = W) (hm : C.mode = 2) {l : List Int} (hl : l.length = R * W) (key d : Int) {r a : Nat} (hrr : r < R) (ha : a < W) :
    (updL C lv R W l key d).getD (r * W + a) 0 = if (cols C lv key).getD r 0 = (a : Int) then max (l.getD (r * W + a) 0) (minL (readL W l (cols C lv key)) + d) else l.getD (r * W + a) 0 := by
  have hme := cols_meets C hok lv key hr hw
  unfold updL
  rw [decide_eq_true hm]
  show (putK W _ _ R _).getD _ 0 = _
  rw [putK_get hme hl hrr ha R (Nat.le_refl _)]
  by_cases he : (cols C lv key).getD r 0 = (a : Int)
  · rw [if_pos ⟨hrr, he⟩, if_pos he]
    have hat : at_ W (cols C lv key) r = r * W + a := by unfold at_; omega
    rw [hat]
  · rw [if_neg (fun h => he h.2), if_neg he]
theorem updL_len' (C : Cfg) (lv : Int) (R W : Nat) (l : List Int) (key d : Int) : (updL C lv R W l key d).length = l.length := by
  unfold updL
  cases decide (C.mode = 2) <;> exact putK_len _ _ _ _ _
theorem min_read {C : Cfg} {lv : Int} {R W : Nat} (hok : C.Ok) (hr : C.rows = R) (hw : C.width = W) (l : List Int) (key : Int) :
    (∃ r, r < R ∧ minL (readL W l (cols C lv key)) = l.getD (at_ W (cols C lv key) r) 0) ∧ ∀ r, r < R → minL (readL W l (cols C lv key)) ≤ l.getD (at_ W (cols C lv key) r) 0 := by
  have hme := cols_meets C hok lv key hr hw
  have hR : 0 < R := by have := hok.r1; omega
  have hlen : (readL W l (cols C lv key)).length = R := by rw [readL_len, hme.len]
  have hs := minL_spec (readL W l (cols C lv key)) (by intro e; rw [e] at hlen; simp at hlen; omega)
  constructor
  · have := hs.1
    simp only [readL, List.mem_map, List.mem_range] at this
    obtain ⟨j, hj, he⟩ := this
    rw [hme.len] at hj
    exact ⟨j, hj, he.symm⟩
  · intro r hrr
    refine hs.2 _ ?_
    simp only [readL, List.mem_map, List.mem_range]
    exact ⟨r, by rw [hme.len]; exact hrr, rfl⟩
theorem at_col {C : Cfg} {lv : Int} {R W : Nat} (hok : C.Ok) (hr : C.rows = R) (hw : C.width = W) (key : Int) {r : Nat} (hrr : r < R) :
    ∃ a, a < W ∧ at_ W (cols C lv key) r = r * W + a ∧ (cols C lv key).getD r 0 = (a : Int) := by
  have hme := cols_meets C hok lv key hr hw
  have h0 := hme.lo r hrr
  have h1 := hme.hi r hrr
  exact ⟨((cols C lv key).getD r 0).toNat, by omega, rfl, by omega⟩
theorem feed_len' (C : Cfg) (lv : Int) (R W : Nat) (us : List (Int × Int)) : (feed C lv R W us (zs (R * W))).length = R * W := by rw [feed_len, zs_len]
theorem zs_get0 (n i : Nat) : (zs n).getD i 0 = 0 := by
  unfold zs
  rw [List.getD_eq_getElem?_getD]
  rcases Nat.lt_or_ge i n with h | h
  · simp [h]
  · simp [h]
/-- Each cell of a key's columns holds not less than what it has. -/
theorem cons_low (C : Cfg) (hok : C.Ok) (lv : Int) (R W : Nat) (hr : C.rows = R) (hw : C.width = W) (hm : C.mode = 2) (us : List (Int × Int)) (key : Int) :
    ∀ r, r < R → hasP key (cutP C lv us) ≤ (feed C lv R W us (zs (R * W))).getD (at_ W (cols C lv key) r) 0 := by
  refine snoc_ind (P := fun us => ∀ r, r < R → hasP key (cutP C lv us) ≤ (feed C lv R W us (zs (R * W))).getD (at_ W (cols C lv key) r) 0) ?_ ?_ us
  · intro r hrr
    show (0 : Int) ≤ (zs (R * W)).getD _ 0
    rw [zs_get0]; exact Int.le_refl _
  · intro us u ih r hrr
    obtain ⟨a, ha, hat, hc⟩ := at_col (lv := lv) hok hr hw key hrr
    have ih' := ih r hrr
    rw [feed_snoc, cutP_snoc, hat]
    rw [hat] at ih'
    unfold hasP at ih' ⊢
    rw [sumIf_snoc]
    rw [cons_cell hok hr hw hm (feed_len' C lv R W us) _ _ hrr ha]
    obtain ⟨⟨j, hj, hj'⟩, _⟩ := min_read (lv := lv) hok hr hw (feed C lv R W us (zs (R * W))) (cutK C lv u.1)
    by_cases hk : cutK C lv u.1 = key
    · have ihj := ih j hj
      unfold hasP at ihj
      rw [hk] at hj' ⊢
      rw [if_pos hc, hj']
      simp only [BEq.rfl, cond_true]
      omega
    · have hb : (cutK C lv u.1 == key) = false := by simpa using hk
      simp only [hb, cond_false]
      by_cases he : (cols C lv (cutK C lv u.1)).getD r 0 = (a : Int)
      · rw [if_pos he]; omega
      · rw [if_neg he]; omega
/-- No cell holds more than the sum. -/
theorem cons_high (C : Cfg) (hok : C.Ok) (lv : Int) (R W : Nat) (hr : C.rows = R) (hw : C.width = W) (hm : C.mode = 2) (us : List (Int × Int)) :
    ∀ r a, r < R → a < W → (feed C lv R W us (zs (R * W))).getD (r * W + a) 0 ≤ sumIf (fun k => (cols C lv k).getD r 0 == (a : Int)) (cutP C lv us) := by
  refine snoc_ind (P := fun us => ∀ r a, r < R → a < W → (feed C lv R W us (zs (R * W))).getD (r * W + a) 0 ≤ sumIf (fun k => (cols C lv k).getD r 0 == (a : Int)) (cutP C lv us)) ?_ ?_ us
  · intro r a hrr ha
    show (zs (R * W)).getD _ 0 ≤ (0 : Int)
    rw [zs_get0]; exact Int.le_refl _
  · intro us u ih r a hrr ha
    have ih' := ih r a hrr ha
    rw [feed_snoc, cutP_snoc, sumIf_snoc, cons_cell hok hr hw hm (feed_len' C lv R W us) _ _ hrr ha]
    have hd := cutD_nn (d := u.2) hm
    by_cases he : (cols C lv (cutK C lv u.1)).getD r 0 = (a : Int)
    · have hb : ((cols C lv (cutK C lv u.1)).getD r 0 == (a : Int)) = true := by simpa using he
      have hmn := (min_read (lv := lv) hok hr hw (feed C lv R W us (zs (R * W))) (cutK C lv u.1)).2 r hrr
      have hat : at_ W (cols C lv (cutK C lv u.1)) r = r * W + a := by unfold at_; omega
      rw [hat] at hmn
      rw [if_pos he]
      simp only [hb, cond_true]
      omega
    · have hb : ((cols C lv (cutK C lv u.1)).getD r 0 == (a : Int)) = false := by simpa using he
      rw [if_neg he]
      simp only [hb, cond_false]
      omega
theorem cols_lin (C : Cfg) (lv key : Int) : cols (lin C) lv key = cols C lv key := rfl
theorem keys_lin (C : Cfg) (lv : Int) : keys (lin C) lv = keys C lv := rfl
theorem lin_ok {C : Cfg} (h : C.Ok) : (lin C).Ok := by
  obtain ⟨a1, a2, a3, a4, a5, a6, a7, a8, a9⟩ := h
  exact ⟨a1, a2, a3, a4, a5, a6, show (1:Int) ≤ 1 by decide, show (1:Int) ≤ 3 by decide, a9⟩
theorem fcfg_lin (x : Cfg) : fcfg x 1 = lin (fcfg x 2) := rfl
/-- Cut once more, cut updates are as they are. -/
theorem cutP_lin (C : Cfg) (hok : C.Ok) (lv : Int) (h0 : 0 ≤ lv) (us : List (Int × Int)) : cutP (lin C) lv (cutP C lv us) = cutP C lv us := by
  unfold cutP
  rw [List.map_map]
  apply List.map_congr_left
  intro u _
  have hk := cutK_bd C hok lv u.1 h0
  have hd := cutD_bd C.mode u.2
  show (cutK (lin C) lv (cutK C lv u.1), cutD 1 (cutD C.mode u.2)) = _
  have e1 : cutK (lin C) lv (cutK C lv u.1) = cutK C lv u.1 := Int.emod_eq_of_lt hk.1 hk.2
  have e2 : cutD 1 (cutD C.mode u.2) = cutD C.mode u.2 := by
    generalize cutD C.mode u.2 = d at *
    show d.tmod 1099511627776 = d
    rcases Int.le_total 0 d with h | h
    · exact Int.tmod_eq_of_lt h (by omega)
    · have := Int.neg_tmod (-d) 1099511627776
      rw [Int.neg_neg] at this
      rw [this, Int.tmod_eq_of_lt (by omega) (by omega), Int.neg_neg]
  rw [e1, e2]
theorem fus_full (ps : List (Int × Int)) (h : ps.length ≤ 60) : fus ps 0 60 = ps := by
  unfold fus
  rw [List.drop_zero, List.take_of_length_le h]
theorem bounds_law {C : Cfg} (hok : C.Ok) {lv : Int} (h0 : 0 ≤ lv) {R W : Nat} (hr : C.rows = R) (hw : C.width = W) (hm : C.mode = 2) (us : List (Int × Int)) {k : Nat} (hk : k ≤ 60) (key a b : Int)
    (ha : IsKth (readL W (plusL (feed C lv R W (fus us 0 k) (zs (R * W))) (feed C lv R W (fus us k 60) (zs (R * W)))) (cols C lv key)) 0 a)
    (hb : IsKth (readL W (feed (lin C) lv R W (fus (cutP C lv (fus us 0 60)) 0 60) (zs (R * W))) (cols (lin C) lv key)) 0 b) :
    hasP key (cutP C lv (fus us 0 60)) ≤ a ∧ a ≤ b := by
  have hme := cols_meets C hok lv key hr hw
  rw [fus_full _ (by rw [cutP_len]; exact fus_len us 0 60), cols_lin] at hb
  obtain ⟨a1, a2⟩ := kth0_spec ha
  obtain ⟨b1, _⟩ := kth0_spec hb
  have hpl : ∀ r, r < R → ∃ q, q < W ∧ at_ W (cols C lv key) r = r * W + q ∧ (plusL (feed C lv R W (fus us 0 k) (zs (R * W))) (feed C lv R W (fus us k 60) (zs (R * W)))).getD (r * W + q) 0 = (feed C lv R W (fus us 0 k) (zs (R * W))).getD (r * W + q) 0 + (feed C lv R W (fus us k 60) (zs (R * W))).getD (r * W + q) 0 := by
    intro r hrr
    obtain ⟨q, hq, hat, _⟩ := at_col (lv := lv) hok hr hw key hrr
    exact ⟨q, hq, hat, plusL_get (by rw [feed_len']; exact idx_lt hrr hq)⟩
  simp only [readL, List.mem_map, List.mem_range, hme.len] at a1 a2 b1
  constructor
  · obtain ⟨r, hrr, rfl⟩ := a1
    obtain ⟨q, hq, hat, hp⟩ := hpl r hrr
    have l1 := cons_low C hok lv R W hr hw hm (fus us 0 k) key r hrr
    have l2 := cons_low C hok lv R W hr hw hm (fus us k 60) key r hrr
    rw [hat] at l1 l2 ⊢
    rw [hp, ← fus_cat us hk, cutP_append]
    unfold hasP at *
    rw [sumIf_append]
    omega
  · obtain ⟨r, hrr, rfl⟩ := b1
    obtain ⟨q, hq, hat, hp⟩ := hpl r hrr
    have hle := a2 _ ⟨r, hrr, rfl⟩
    have u1 := cons_high C hok lv R W hr hw hm (fus us 0 k) r q hrr hq
    have u2 := cons_high C hok lv R W hr hw hm (fus us k 60) r q hrr hq
    have fc := feed_cell (lin C) (lin_ok hok) lv R W hr hw (show (1:Int) ≠ 2 by decide) (cutP C lv (fus us 0 60)) hrr hq
    rw [cutP_lin C hok lv h0, ← fus_cat us hk, cutP_append, sumIf_append] at fc
    rw [hat] at hle ⊢
    rw [hp] at hle
    rw [← fus_cat us hk, cutP_append, fc]
    have e : ∀ r, (fun k => (cols (lin C) lv k).getD r 0 == (q : Int)) = (fun k => (cols C lv k).getD r 0 == (q : Int)) := fun _ => rfl
    rw [e]
    omega
end Go.Proofs.YteoblkcbemeamaaGreat

/- Plain law: what an update makes of all levels of a stack. -/
namespace Go.Proofs.YteoblkcbemeamaaGreat
set_option linter.unusedVariables false
open Go.RowKit

/-- What a key is at a level. -/
def sh (n : Nat) (key : Int) : Int := key / 2 ^ n
def lvE (C : Cfg) (lv : Int) (l : List Int) (key d : Int) : Int := bif isX C lv then errX C lv l key d else errU C lv (rN C) (wN C) l key d
def lvU (C : Cfg) (lv : Int) (l : List Int) (key d : Int) : List Int := bif isX C lv then updX l key d else updL C lv (rN C) (wN C) l key d
theorem lvE_x {C : Cfg} {lv : Int} (h : isX C lv = true) (l : List Int) (key d : Int) : lvE C lv l key d = errX C lv l key d := by unfold lvE; rw [h]; rfl
theorem lvE_s {C : Cfg} {lv : Int} (h : isX C lv = false) (l : List Int) (key d : Int) : lvE C lv l key d = errU C lv (rN C) (wN C) l key d := by unfold lvE; rw [h]; rfl
theorem lvU_x {C : Cfg} {lv : Int} (h : isX C lv = true) (l : List Int) (key d : Int) : lvU C lv l key d = updX l key d := by unfold lvU; rw [h]; rfl
theorem lvU_s {C : Cfg} {lv : Int} (h : isX C lv = false) (l : List Int) (key d : Int) : lvU C lv l key d = updL C lv (rN C) (wN C) l key d := by unfold lvU; rw [h]; rfl
def fst_ (a b : Int) : Int := bif decide (a = 0) then b else a
/-- What the first levels say of an update. -/
def errs (C : Cfg) (ls : Nat → List Int) (key d : Int) : Nat → Int
  | 0 => 0
  | n + 1 => fst_ (errs C ls key d n) (lvE C n (ls n) (sh n key) d)
def errK (C : Cfg) (B : Nat) (ls : Nat → List Int) (key d : Int) : Int := bif decide (keys C 0 ≤ key) then 2 else errs C ls key d (B + 1)
def updK (C : Cfg) (ls : Nat → List Int) (key d : Int) (n : Nat) : List Int := lvU C n (ls n) (sh n key) d
theorem errs_zero {C : Cfg} {ls : Nat → List Int} {key d : Int} {m : Nat} : errs C ls key d m = 0 ↔ ∀ n, n < m → lvE C n (ls n) (sh n key) d = 0 := by
  induction m with
  | zero => simp [errs]
  | succ m ih =>
    unfold errs fst_
    by_cases h : errs C ls key d m = 0
    · rw [decide_eq_true h]
      constructor
      · intro e n hn
        rcases Nat.lt_or_ge n m with h' | h'
        · exact ih.1 h n h'
        · obtain rfl : n = m := by omega
          exact e
      · intro e; exact e m (by omega)
    · rw [decide_eq_false h]
      constructor
      · intro e; exact absurd e h
      · intro e; exact absurd (ih.2 fun n hn => e n (by omega)) h
theorem errK_zero {C : Cfg} {B : Nat} {ls : Nat → List Int} {key d : Int} : errK C B ls key d = 0 ↔ key < keys C 0 ∧ ∀ n, n ≤ B → lvE C n (ls n) (sh n key) d = 0 := by
  unfold errK
  by_cases h : keys C 0 ≤ key
  · rw [decide_eq_true h]
    constructor
    · intro e; exact absurd (show (2 : Int) = 0 from e) (by decide)
    · rintro ⟨h1, _⟩; omega
  · rw [decide_eq_false h]
    constructor
    · intro e; exact ⟨by omega, fun n hn => errs_zero.1 e n (by omega)⟩
    · rintro ⟨_, e⟩; exact errs_zero.2 fun n hn => e n (by omega)
theorem sh_nn {key : Int} (h : 0 ≤ key) (n : Nat) : 0 ≤ sh n key := Int.ediv_nonneg h (Int.le_of_lt (Int.pow_pos (by decide)))
theorem sh_u64 {key : Int} (h : U64 key) (n : Nat) : U64 (sh n key) := by
  refine ⟨sh_nn h.1 n, ?_⟩
  have h2 := h.2
  refine Int.lt_of_le_of_lt ?_ h2
  exact Int.ediv_le_self _ h.1
theorem cutK_sh {C : Cfg} (hok : C.Ok) {n : Nat} (hn : (n : Int) ≤ C.bits) {key : Int} (h : 0 ≤ key) : cutK C n (key / 2 ^ n) = sh n (cutK C 0 key) := by
  have hb := hok.b1
  unfold cutK sh keys
  obtain ⟨B, hB⟩ : ∃ B : Nat, C.bits = B := ⟨C.bits.toNat, by omega⟩
  obtain ⟨m, rfl⟩ : ∃ m, B = n + m := ⟨B - n, by omega⟩
  obtain ⟨k, rfl⟩ : ∃ k : Nat, key = k := ⟨key.toNat, by omega⟩
  rw [hB, show (((n + m : Nat) : Int) - (n : Int)).toNat = m by omega, show (((n + m : Nat) : Int) - 0).toNat = n + m by omega]
  have : k / 2 ^ n % 2 ^ m = k % 2 ^ (n + m) / 2 ^ n := by
    rw [Nat.pow_add, Nat.mod_mul_right_div_self]
  exact_mod_cast this
/-- The same updates, told of what keys are at a level. -/
def shU (n : Nat) (us : List (Int × Int)) : List (Int × Int) := us.map fun u => (u.1 / 2 ^ n, u.2)
/-- The pairs that a level is told. -/
def stP (C : Cfg) (n : Nat) (us : List (Int × Int)) : List (Int × Int) := us.map fun u => (sh n (cutK C 0 u.1), cutD C.mode u.2)
theorem stP_cutP {C : Cfg} (hok : C.Ok) {n : Nat} (hn : (n : Int) ≤ C.bits) {us : List (Int × Int)} (hus : UpsOk us) : cutP C n (shU n us) = stP C n us := by
  unfold cutP shU stP
  rw [List.map_map]
  apply List.map_congr_left
  intro u hu
  show (cutK C n (u.1 / 2 ^ n), _) = _
  rw [cutK_sh hok hn (hus u hu).1.1]
theorem stP_snoc (C : Cfg) (n : Nat) (us : List (Int × Int)) (u : Int × Int) : stP C n (us ++ [u]) = stP C n us ++ [(sh n (cutK C 0 u.1), cutD C.mode u.2)] := by simp [stP]
/-- What a level has behind updates. -/
def feedK (C : Cfg) (us : List (Int × Int)) (n : Nat) : List Int := us.foldl (fun l u => lvU C n l (sh n (cutK C 0 u.1)) (cutD C.mode u.2)) (zs (lvN C n))
theorem feedK_nil (C : Cfg) (n : Nat) : feedK C [] n = zs (lvN C n) := rfl
theorem feedK_snoc (C : Cfg) (us : List (Int × Int)) (u : Int × Int) : feedK C (us ++ [u]) = updK C (feedK C us) (cutK C 0 u.1) (cutD C.mode u.2) := by
  funext n; unfold feedK updK; rw [List.foldl_append]; rfl
theorem lvU_len (C : Cfg) (lv : Int) (l : List Int) (key d : Int) : (lvU C lv l key d).length = l.length := by
  unfold lvU
  cases isX C lv
  · exact updL_len' _ _ _ _ _ _ _
  · show (updX l key d).length = _
    simp [updX]
theorem feedK_len (C : Cfg) (us : List (Int × Int)) (n : Nat) : (feedK C us n).length = lvN C n := by
  unfold feedK
  have : ∀ l : List Int, (us.foldl (fun l u => lvU C n l (sh n (cutK C 0 u.1)) (cutD C.mode u.2)) l).length = l.length := by
    induction us with
    | nil => intro l; rfl
    | cons u us ih => intro l; rw [List.foldl_cons, ih, lvU_len]
  rw [this, zs_len]
/-- A sketch's level is fed as a sketch is. -/
theorem feedK_s {C : Cfg} (hok : C.Ok) {n : Nat} (hn : (n : Int) ≤ C.bits) {us : List (Int × Int)} (hus : UpsOk us) (hx : isX C n = false) : feedK C us n = feed C n (rN C) (wN C) (shU n us) (zs (rN C * wN C)) := by
  unfold feedK feed shU
  rw [show lvN C n = rN C * wN C by unfold lvN; rw [hx]; rfl]
  have : ∀ l : List Int, us.foldl (fun l u => lvU C n l (sh n (cutK C 0 u.1)) (cutD C.mode u.2)) l = (us.map fun u => (u.1 / 2 ^ n, u.2)).foldl (fun l u => updL C n (rN C) (wN C) l (cutK C n u.1) (cutD C.mode u.2)) l := by
    induction us with
    | nil => intro l; rfl
    | cons u us ih =>
      intro l
      rw [List.foldl_cons, List.map_cons, List.foldl_cons, ih (fun v hv => hus v (by simp [hv]))]
      congr 1
      rw [lvU_s hx, cutK_sh hok hn (hus u (by simp)).1.1]
  exact this _
theorem updX_get {l : List Int} {key d : Int} (hk0 : 0 ≤ key) (hk : key < l.length) (j : Nat) : (updX l key d).getD j 0 = l.getD j 0 + bif key == (j : Int) then d else 0 := by
  unfold updX
  by_cases h : key = (j : Int)
  · subst h
    simp only [beq_self_eq_true, cond_true, Int.toNat_natCast]
    rw [List.getD_eq_getElem?_getD, List.getElem?_set_self (by omega)]
    rfl
  · have hb : (key == (j : Int)) = false := by simpa using h
    rw [hb, List.getD_eq_getElem?_getD, List.getElem?_set_ne (by omega), ← List.getD_eq_getElem?_getD]
    simp
theorem sh_lt {C : Cfg} (hok : C.Ok) {n : Nat} (hn : (n : Int) ≤ C.bits) {key : Int} (h0 : 0 ≤ key) (h : key < keys C 0) : sh n key < keys C n := by
  have hb := hok.b1
  unfold sh keys at *
  obtain ⟨B, hB⟩ : ∃ B : Nat, C.bits = B := ⟨C.bits.toNat, by omega⟩
  obtain ⟨m, rfl⟩ : ∃ m, B = n + m := ⟨B - n, by omega⟩
  rw [hB] at h ⊢
  rw [show (((n + m : Nat) : Int) - (n : Int)).toNat = m by omega]
  rw [show (((n + m : Nat) : Int) - 0).toNat = n + m by omega] at h
  apply Int.ediv_lt_of_lt_mul (Int.pow_pos (by decide))
  rw [← Int.pow_add, Nat.add_comm]; exact h
theorem kN_eq' {C : Cfg} (h : C.Ok) (n : Nat) : keys C n = (kN C n : Int) := kN_eq h (Int.natCast_nonneg n)
/-- An exact level tells what its keys have. -/
theorem feedK_x {C : Cfg} (hok : C.Ok) {n : Nat} (hn : (n : Int) ≤ C.bits) {us : List (Int × Int)} (hus : UpsOk us) (hx : isX C n = true) (j : Nat) : (feedK C us n).getD j 0 = hasP (j : Int) (stP C n us) := by
  refine snoc_ind (P := fun us => UpsOk us → (feedK C us n).getD j 0 = hasP (j : Int) (stP C n us)) ?_ ?_ us hus
  · intro _
    rw [feedK_nil]
    unfold zs hasP stP sumIf
    rw [List.getD_eq_getElem?_getD]
    rcases Nat.lt_or_ge j (lvN C n) with h | h <;> simp [h, lsum]
  · intro us u ih hus
    have hu := hus u (by simp)
    have ih' := ih (fun v hv => hus v (by simp [hv]))
    have hk := cutK_bd C hok 0 u.1 (Int.le_refl 0)
    have h1 := sh_lt hok hn hk.1 hk.2
    have hl : (feedK C us n).length = kN C n := by rw [feedK_len]; unfold lvN; rw [hx]; rfl
    rw [feedK_snoc, stP_snoc]
    unfold hasP at *
    rw [sumIf_snoc]
    unfold updK
    rw [lvU_x hx, updX_get (sh_nn hk.1 n) (by rw [hl, ← kN_eq' hok]; exact h1), ih']
end Go.Proofs.YteoblkcbemeamaaGreat

/- A level's methods, called through the interface: by the level's kind, once for both. -/
namespace Go.Proofs.YteoblkcbemeamaaGreat
set_option linter.unusedVariables false
open Go.RowKit
/-- The function behind a method of a level. -/
def lvF (C : Cfg) (lv : Int) (x s : Nat) : Nat := bif isX C lv then x else s
theorem lvF_x {C : Cfg} {lv : Int} (h : isX C lv = true) (x s : Nat) : lvF C lv x s = x := by unfold lvF; rw [h]; rfl
theorem lvF_s {C : Cfg} {lv : Int} (h : isX C lv = false) (x s : Nat) : lvF C lv x s = s := by unfold lvF; rw [h]; rfl
theorem lvV_eq (C : Cfg) (lv : Int) (L : Lev) : lvV C lv L = .iface (lvT C lv) (.pointer (some ⟨L.s, 0, none⟩)) := rfl
theorem lvm_Update (C : Cfg) (lv : Int) (p : Option Addr) (w : World) : Sem.run Tryz.prog (method 395 (lvT C lv) (.pointer p) "Update") w = .ok (lvF C lv 242 210, .pointer p) w := by
  unfold lvT lvF
  cases isX C lv with
  | true => kernel_rfl
  | false => kernel_rfl
theorem lve_Update (C : Cfg) (lv : Int) (args : Array Value) (w : World) : (callFunc (lvF C lv 242 210) args).run Tryz.prog w = .ok (.enter (lvF C lv 242 210) args) w := by
  unfold lvF
  cases isX C lv with
  | true => kernel_rfl
  | false => kernel_rfl
theorem lvm_Cells (C : Cfg) (lv : Int) (p : Option Addr) (w : World) : Sem.run Tryz.prog (method 395 (lvT C lv) (.pointer p) "Cells") w = .ok (lvF C lv 130 162, .pointer p) w := by
  unfold lvT lvF
  cases isX C lv with
  | true => kernel_rfl
  | false => kernel_rfl
theorem lve_Cells (C : Cfg) (lv : Int) (args : Array Value) (w : World) : (callFunc (lvF C lv 130 162) args).run Tryz.prog w = .ok (.enter (lvF C lv 130 162) args) w := by
  unfold lvF
  cases isX C lv with
  | true => kernel_rfl
  | false => kernel_rfl
theorem lvm_Config (C : Cfg) (lv : Int) (p : Option Addr) (w : World) : Sem.run Tryz.prog (method 395 (lvT C lv) (.pointer p) "Config") w = .ok (lvF C lv 127 160, .pointer p) w := by
  unfold lvT lvF
  cases isX C lv with
  | true => kernel_rfl
  | false => kernel_rfl
theorem lve_Config (C : Cfg) (lv : Int) (args : Array Value) (w : World) : (callFunc (lvF C lv 127 160) args).run Tryz.prog w = .ok (.enter (lvF C lv 127 160) args) w := by
  unfold lvF
  cases isX C lv with
  | true => kernel_rfl
  | false => kernel_rfl
theorem lvm_Level (C : Cfg) (lv : Int) (p : Option Addr) (w : World) : Sem.run Tryz.prog (method 395 (lvT C lv) (.pointer p) "Level") w = .ok (lvF C lv 128 161, .pointer p) w := by
  unfold lvT lvF
  cases isX C lv with
  | true => kernel_rfl
  | false => kernel_rfl
theorem lve_Level (C : Cfg) (lv : Int) (args : Array Value) (w : World) : (callFunc (lvF C lv 128 161) args).run Tryz.prog w = .ok (.enter (lvF C lv 128 161) args) w := by
  unfold lvF
  cases isX C lv with
  | true => kernel_rfl
  | false => kernel_rfl
def LvUpdPost (w : World) (L : Lev) (C : Cfg) (lv : Int) (l : List Int) (key d : Int) (e : Ending) (w' : World) : Prop :=
  e = .returned (.int .i64 (lvE C lv l key d)) ∧ ((lvE C lv l key d = 0 ∧ LvAt w' L C lv (lvU C lv l key d) ∧ Mod (fun k => k = L.c) w w') ∨ (lvE C lv l key d ≠ 0 ∧ Ext w w'))
theorem LUpdate_c (C : Cfg) (lv : Int) (L : Lev) (l : List Int) (key d : Int) (w : World) (h : LvAt w L C lv l) (hd : I64 d) (hk : U64 key) :
    Calls Tryz.prog (lvF C lv 242 210) #[.pointer (some ⟨L.s, 0, none⟩), .int .u64 key, .int .i64 d] w (LvUpdPost w L C lv l key d) := by
  cases hx : isX C lv with
  | true =>
    rw [lvF_x hx]
    refine (EUpdate_c _ _ _ C lv _ l key d w (h.x hx) hd hk).mono ?_
    rintro e w' ⟨rfl, hr⟩
    unfold LvUpdPost
    rw [lvE_x hx, lvU_x hx]
    exact ⟨rfl, hr.imp (fun ⟨a, b, c⟩ => ⟨a, .inl ⟨hx, b⟩, c⟩) (fun h => h)⟩
  | false =>
    rw [lvF_s hx]
    refine (Update_c _ _ _ C lv _ _ l key d w (h.sk hx) hd hk.1).mono ?_
    rintro e w' ⟨rfl, hr⟩
    unfold LvUpdPost
    rw [lvE_s hx, lvU_s hx]
    exact ⟨rfl, hr.imp (fun ⟨a, b, c⟩ => ⟨a, .inr ⟨hx, b⟩, c⟩) (fun h => h)⟩
theorem LCells_c (C : Cfg) (lv : Int) (L : Lev) (l : List Int) (w : World) (h : LvAt w L C lv l) :
    Calls Tryz.prog (lvF C lv 130 162) #[.pointer (some ⟨L.s, 0, none⟩)] w fun e w' => ∃ v, e = .returned v ∧ w'.ownsRow w.heap.size 2 1 v l.length (ints l) ∧ (v = .slice none 0 0 → False) ∧ Ext w w' := by
  cases hx : isX C lv with
  | true => rw [lvF_x hx]; exact ECells_c _ _ _ C lv _ l w (h.x hx)
  | false => rw [lvF_s hx]; exact SCells_c _ _ _ C lv _ _ l w (h.sk hx)
theorem LConfig_c (C : Cfg) (lv : Int) (L : Lev) (l : List Int) (w : World) (h : LvAt w L C lv l) :
    Calls Tryz.prog (lvF C lv 127 160) #[.pointer (some ⟨L.s, 0, none⟩)] w fun e w' => e = .returned (.agg #[.int .i64 C.bits, .int .i64 C.rows, .int .i64 C.width, .int .i64 C.mode, .int .u64 C.seed]) ∧ Ext w w' := by
  cases hx : isX C lv with
  | true => rw [lvF_x hx]; exact EConfig_c _ _ _ C lv _ l w (h.x hx)
  | false => rw [lvF_s hx]; exact SConfig_c _ _ _ C lv _ _ l w (h.sk hx)
theorem LLevel_c (C : Cfg) (lv : Int) (L : Lev) (l : List Int) (w : World) (h : LvAt w L C lv l) :
    Calls Tryz.prog (lvF C lv 128 161) #[.pointer (some ⟨L.s, 0, none⟩)] w fun e w' => e = .returned (.int .i64 lv) ∧ w = w' := by
  cases hx : isX C lv with
  | true => rw [lvF_x hx]; exact ELevel_c _ _ _ C lv _ l w (h.x hx)
  | false => rw [lvF_s hx]; exact SLevel_c _ _ _ C lv _ _ l w (h.sk hx)
end Go.Proofs.YteoblkcbemeamaaGreat
