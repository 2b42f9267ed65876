/- Part. No condition. -/
import Derived.Test.YtmalncfcgcebhaaGreatDoorDAggFull6
import Derived.Test.YtmalncfcgcebhaaGreatDoorDAggFull3
import Derived.Test.YtmalncfcgcebhaaGreatDoorDAggFull4
import Derived.Test.YtmalncfcgcebhaaGreatDoorDAggFull5
import Derived.Maps.AppendAt
namespace Go.Proofs.YtmalncfcgcebhaaGreatDoor
set_option linter.unusedVariables false
open Go.Proofs Go.RowKit
def zerosK (C : Cfg) : Nat → List Int := fun n => zs (lvN C n)
def createF (S : St) (C : Cfg) : (Option Rep × Int) × St := if okB C = true then madeF S (.st C C.bits.toNat (zerosK C)) else ((none, 1), S)
/-- A thing that a call has made has a handle. -/
theorem DoPost.made {w w1 w' : World} {N p m : Nat} {l : List (Nat × Th)} {last : Nat} {T : Th} {e : Ending} (hx : Ext w w1) (hf : ∀ k, T.cs k → w.heap.size ≤ k)
    (h : ∃ v l' last', e = .returned (.tuple #[v, .int .i64 (madeF (stOf l last) T.ab).1.2]) ∧ (∀ base w2, RepOAt base w2 v (madeF (stOf l last) T.ab).1.1) ∧ AgAt w' N p m l' last' ∧ stOf l' last' = (madeF (stOf l last) T.ab).2 ∧ (∀ k, AgF p m l' k → AgF p m l k ∨ T.cs k) ∧ Mod (AgF p m l) w1 w') : DoPost w N p m l last (madeF (stOf l last) T.ab) e w' := by
  obtain ⟨v, l', last', h1, h2, h3, h4, h5, h6⟩ := h
  refine ⟨⟨v, l', last', h1, h2 _ _, h3, h4, fun k hk => ?_⟩, (hx.mod _).trans h6⟩
  rcases h5 k hk with h7 | h7
  · exact .inl h7
  · exact .inr (hf k h7)
set_option maxRecDepth 20000 in
set_option maxHeartbeats 4000000 in
theorem DoCreate_c {w : World} {N p m : Nat} {l : List (Nat × Th)} {last : Nat} (h : AgAt w N p m l last) (C : Cfg) (hs : U64 C.seed) (hl : last < 1000000) :
    Calls Tryz.prog 43 #[.pointer (some ⟨p, 0, none⟩), .iface 167 (.agg #[.int .i64 C.bits, .int .i64 C.rows, .int .i64 C.width, .int .i64 C.mode, .int .u64 C.seed])] w (DoPost w N p m l last (createF (stOf l last) C)) := by
  have hpl := h.ltp
  have HL := Lib.hid h
  have hNw : N ≤ w.heap.size := Nat.le_trans h.lo.1 (Nat.le_of_lt hpl)
  clear h
  by_cases hok : okB C = true
  · have hm : createF (stOf l last) C = madeF (stOf l last) (.st C C.bits.toNat (zerosK C)) := by unfold createF; rw [if_pos hok]
    rw [hm]
    have HK := fun w' => Lib.hid (KNew_c C (okB_ok hok hs) w')
    clear hm hok
    go_enter Tryz.func43, Tryz.ntmps43
    go_wp2_with fail
    refine Calls.mono (HK _).out ?_
    rintro e w1 ⟨s, g, L, rfl, hK1, h2, h3, h4, hx⟩
    have hx1 : Ext w w1 := (Ext.alloc' _ _).trans' hx
    have HX := Lib.hid hx1
    have hT : Th.At w1 (.st ⟨s, g, L, zerosK C⟩ C C.bits.toNat) := hK1
    have hfr : ∀ k, Th.cs (.st ⟨s, g, L, zerosK C⟩ C C.bits.toNat) k → w.heap.size ≤ k := by
      rintro k ⟨n, hn, rfl⟩
      have := (h4 n hn).2.2
      rw [size_alloc] at this
      exact Nat.le_trans (Nat.le_succ _) this
    have HM := Lib.hid (AMade_c (HL.out.ext hx1) _ hT (fun k hk hk2 => by have := hfr k hk; have := HL.out.flt hk2; omega) (fun k hk => Nat.le_trans hNw (hfr k hk)) hl)
    clear hK1 h2 h3 h4 hx hx1 hT
    go_wp2_with fail
    refine Calls.mono HM.out ?_
    intro e w2 h5
    have h6 := DoPost.made HX.out hfr h5
    obtain ⟨v, l', last', rfl, _⟩ := h5
    have H6 := Lib.hid h6
    clear h6
    go_wp2
    go_ret2
    exact H6.out
  · have hm : createF (stOf l last) C = ((none, 1), stOf l last) := by unfold createF; rw [if_neg hok]
    rw [hm]
    have hno : okB C = false := by simpa using hok
    have HK := fun w' => Lib.hid (KNew_no C hno w')
    clear hm hok hno
    go_enter Tryz.func43, Tryz.ntmps43
    go_wp2_with fail
    refine Calls.mono (HK _).out ?_
    rintro e w1 ⟨rfl, hx⟩
    have HX := Lib.hid ((Ext.alloc' _ _).trans' hx)
    clear hx
    go_wp2_with fail
    refine Calls.mono (AMade_err p none none 1 (by decide) _) ?_
    rintro e w2 ⟨rfl, hx2⟩
    have HX2 := Lib.hid (HX.out.trans' hx2)
    clear hx2
    go_wp2
    go_ret2
    exact DoPost.same HL.out HX2.out rfl
end Go.Proofs.YtmalncfcgcebhaaGreatDoor
namespace Go.Proofs.YtmalncfcgcebhaaGreatDoor
set_option linter.unusedVariables false
open Go.Proofs Go.RowKit
def Th.C : Th → Cfg
  | .st _ C _ => C
  | .wi _ _ C _ _ _ _ => C
def Th.B : Th → Nat
  | .st _ _ B => B
  | .wi _ _ _ B _ _ _ => B
def Th.ls : Th → Nat → List Int
  | .st k _ _ => k.ls
  | .wi _ _ _ _ _ sm _ => sm.ls
def AT.C : AT → Cfg
  | .st C _ _ => C
  | .wi C _ _ _ _ => C
def AT.B : AT → Nat
  | .st _ B _ => B
  | .wi _ B _ _ _ => B
def AT.ls : AT → Nat → List Int
  | .st _ _ ls => ls
  | .wi _ _ _ sm _ => sm
theorem Th.ab_C (T : Th) : T.ab.C = T.C := by cases T <;> rfl
theorem Th.ab_B (T : Th) : T.ab.B = T.B := by cases T <;> rfl
theorem Th.ab_ls (T : Th) : T.ab.ls = T.ls := by cases T <;> rfl
def AStackPost (w : World) (T : Th) (e : Ending) (w' : World) : Prop :=
  ∃ s g L, e = .returned (.pointer (some ⟨s, 0, none⟩)) ∧ KAt w' s g T.C T.B L T.ls ∧ Ext w w'
set_option maxRecDepth 20000 in
theorem AStack_c (T : Th) (w : World) (h : T.At w) : Calls Tryz.prog 129 #[T.v] w (AStackPost w T) := by
  cases T with
  | st k C B =>
    have HK := Lib.hid h
    clear h
    show Calls _ _ #[.agg #[.pointer (some ⟨k.s, 0, none⟩), .pointer none]] _ _
    go_enter Tryz.func129, Tryz.ntmps129
    go_wp2
    go_ret
    exact ⟨k.s, k.g, k.L, rfl, KAt.ext HK.out (Ext.alloc' _ _), Ext.alloc' _ _⟩
  | wi p b C B n sm bk =>
    have HK := fun (x : World) (hx : Ext w x) => Lib.hid (WSum_c (WAt.ext h hx))
    show Calls _ _ #[.agg #[.pointer none, .pointer (some ⟨p, 0, none⟩)]] _ _
    clear h
    go_enter Tryz.func129, Tryz.ntmps129
    go_wp2_with fail
    refine Calls.mono (HK _ (Ext.alloc' _ _)).out ?_
    rintro e w1 ⟨s, g, L, rfl, h1, _, _, _, hx⟩
    have HX := Lib.hid ((Ext.alloc' _ _).trans' hx)
    have H1 := Lib.hid h1
    clear h1 hx
    go_wp2
    go_ret
    exact ⟨s, g, L, rfl, H1.out, HX.out⟩
end Go.Proofs.YtmalncfcgcebhaaGreatDoor
namespace Go.Proofs.YtmalncfcgcebhaaGreatDoor
set_option linter.unusedVariables false
open Go.Proofs Go.RowKit
theorem AgAt.look_a {w W1 : World} {N p m : Nat} {l : List (Nat × Th)} {last : Nat} (h : AgAt w N p m l last) (hx : Ext w W1) {k : Int} (hk : I64 k) {x : Nat × Th} (hf : fnd l k = some x) :
    ∀ y : After W1, (Instr.lookup 142 (.map (some m)) (.int .i64 k) true).run Tryz.prog y.w = .ok (.tuple #[x.2.v, .bool true]) y.w := fun y => ((h.ext (hx.trans' y.h)).look hk hf).1
theorem AgAt.lookno_a {w W1 : World} {N p m : Nat} {l : List (Nat × Th)} {last : Nat} (h : AgAt w N p m l last) (hx : Ext w W1) {k : Int} (hk : I64 k) (hf : fnd l k = none) :
    ∀ y : After W1, (Instr.lookup 142 (.map (some m)) (.int .i64 k) true).run Tryz.prog y.w = .ok (.tuple #[zT, .bool false]) y.w := fun y => (h.ext (hx.trans' y.h)).lookno hk hf
set_option maxRecDepth 20000 in
set_option maxHeartbeats 4000000 in
theorem AQuery_no {w : World} {N p m : Nat} {l : List (Nat × Th)} {last : Nat} (h : AgAt w N p m l last) (what : ByteArray) (k : Int) (s : Value) (hs1 : s.oneCell' = true) (hk : I64 k) (hf : fnd l k = none) :
    Calls Tryz.prog 86 #[.pointer (some ⟨p, 0, none⟩), .agg #[.string what, .int .i64 k, s]] w fun e w' => e = .returned (.tuple #[.nilIface, .int .i64 10]) ∧ Ext w w' := by
  have hpl := h.ltp
  have hx1 : Ext w (w.alloc (.cells #[.string what, .int .i64 k, s] 179)) := Ext.alloc' _ _
  have hlk := h.lookno_a hx1 hk hf
  unfold zT at hlk
  have HL := Lib.hid h
  have hhp := hx1.keep h.hp
  have hb := heap_at w (.cells #[.string what, .int .i64 k, s] 179) rfl
  clear h
  go_enter Tryz.func86, Tryz.ntmps86
  go_wp2_with fail
  obtain ⟨W1, hW1⟩ : ∃ W1, w.alloc (.cells #[.string what, .int .i64 k, s] 179) = W1 := ⟨_, rfl⟩
  rw [hW1] at hx1 hlk hhp hb ⊢
  clear hW1
  have p0 := (cell_of hhp 0).trans rfl
  have p1 := (cell_of hhp 1).trans rfl
  have pl1 := lt_of hhp
  have b0 := (cell_of hb 0).trans rfl
  have b1 := (cell_of hb 1).trans rfl
  have b2 := (cell_of hb 2).trans rfl
  have bl := lt_of hb
  have HX1 := Lib.hid hx1
  have HB := Lib.hid hb
  have HP := Lib.hid hhp
  clear hx1 hhp hb
  have hC0 := af_drew W1
  refine pi_start (fun w' => ∃ x : After W1, w' = x.w) [] (by kernel_rfl) ?_
  refine pi_t 0 rfl (by kernel_rfl) (by kernel_rfl) (fun _ _ _ _ h => h) (fun K hK => ?_)
  go_big_quiet_op
  refine hK _ ?_
  clear hK K
  refine pi_t 1 rfl (by kernel_rfl) (by kernel_rfl) (fun _ _ _ _ h => h) (fun K hK => ?_)
  go_big_quiet_op
  refine hK _ ?_
  clear hK K
  refine pi_t 2 rfl (by kernel_rfl) (by kernel_rfl) (fun _ _ _ _ h => h) (fun K hK => ?_)
  go_big_quiet_op
  refine hK _ ?_
  clear hK K
  refine pi_t 4 rfl (by kernel_rfl) (by kernel_rfl) (fun _ _ _ _ h => h) (fun K hK => ?_)
  go_big_quiet_op
  refine hK _ ?_
  clear hK K
  refine pi_c 3 (by assumption) rfl (by kernel_rfl) (by kernel_rfl) (fun _ _ _ _ h => h) (fun K hK => ?_)
  go_big_quiet_op
  refine hK _ ?_
  clear hK K
  refine pi_c 5 (by assumption) rfl (by kernel_rfl) (by kernel_rfl) (fun _ _ _ _ h => h) (fun K hK => ?_)
  go_big_quiet_op
  refine hK _ ?_
  clear hK K
  refine pi_c 6 (by assumption) rfl (by kernel_rfl) (by kernel_rfl) (fun _ _ _ _ h => h) (fun K hK => ?_)
  go_big_quiet_op
  refine hK _ ?_
  clear hK K
  refine pi_t 7 rfl (by kernel_rfl) (by kernel_rfl) (fun _ _ _ _ h => h) (fun K hK => ?_)
  go_big_quiet_op
  refine hK _ ?_
  clear hK K
  refine pi_t 8 rfl (by kernel_rfl) (by kernel_rfl) (fun _ _ _ _ h => h) (fun K hK => ?_)
  go_big_quiet_op
  refine hK _ ?_
  clear hK K
  refine pi_t 9 rfl (by kernel_rfl) (by kernel_rfl) (fun _ _ _ _ h => h) (fun K hK => ?_)
  go_big_quiet_op
  refine hK _ ?_
  clear hK K
  refine pi_l 10 rfl (by kernel_rfl) (fun K hK => ?_)
  go_wp2
  refine hK _ _ (fun _ h => af_step h (Ext.alloc' _ _)) ?_
  clear hK K
  refine pi_l 11 rfl (by kernel_rfl) (fun K hK => ?_)
  go_wp2
  refine hK _ _ (fun _ _ => ⟨⟨_, (Ext.alloc' W1 _).drewR⟩, rfl⟩) ?_
  clear hK K
  refine pi_t 12 rfl (by kernel_rfl) (by kernel_rfl) (fun _ _ _ _ h => h) (fun K hK => ?_)
  go_big_quiet_op
  refine hK _ ?_
  clear hK K
  refine pi_end (by kernel_rfl) ?_
  go_wp2
  go_ret2
  exact ⟨rfl, HX1.out.trans' ((Ext.alloc' W1 _).drewR)⟩
/-- A handle goes. -/
theorem stOf_drop (l : List (Nat × Th)) (last : Nat) (k : Int) : stOf (dropL l k) last = ⟨dropL (stOf l last).l k, last⟩ := by unfold stOf; rw [ab_drop]
set_option maxRecDepth 20000 in
set_option maxHeartbeats 4000000 in
theorem AQuery_drop {w : World} {N p m : Nat} {l : List (Nat × Th)} {last : Nat} (h : AgAt w N p m l last) (k : Int) (s : Value) (hs1 : s.oneCell' = true) (hk : I64 k) {z : Nat × Th} (hf : fnd l k = some z) :
    Calls Tryz.prog 86 #[.pointer (some ⟨p, 0, none⟩), .agg #[.string ⟨#[100, 114, 111, 112]⟩, .int .i64 k, s]] w (DoPost w N p m l last ((some .done, 0), ⟨dropL (stOf l last).l k, last⟩)) := by
  obtain ⟨x, y, hv⟩ := z.2.v_two
  have hpl := h.ltp
  have hx1 : Ext w (w.alloc (.cells #[.string ⟨#[100, 114, 111, 112]⟩, .int .i64 k, s] 179)) := Ext.alloc' _ _
  have hlk := h.look_a hx1 hk hf
  rw [hv] at hlk
  have HL := Lib.hid h
  have hhp := hx1.keep h.hp
  have hb := heap_at w (.cells #[.string ⟨#[100, 114, 111, 112]⟩, .int .i64 k, s] 179) rfl
  clear h
  go_enter Tryz.func86, Tryz.ntmps86
  go_wp2_with fail
  obtain ⟨W1, hW1⟩ : ∃ W1, w.alloc (.cells #[.string ⟨#[100, 114, 111, 112]⟩, .int .i64 k, s] 179) = W1 := ⟨_, rfl⟩
  rw [hW1] at hx1 hlk hhp hb ⊢
  clear hW1
  have p0 := (cell_of hhp 0).trans rfl
  have p1 := (cell_of hhp 1).trans rfl
  have pl1 := lt_of hhp
  have b0 := (cell_of hb 0).trans rfl
  have b1 := (cell_of hb 1).trans rfl
  have b2 := (cell_of hb 2).trans rfl
  have bl := lt_of hb
  have HX1 := Lib.hid hx1
  have HB := Lib.hid hb
  have HP := Lib.hid hhp
  clear hx1 hhp hb
  have hC0 := af_drew W1
  refine pi_start (fun w' => ∃ x : After W1, w' = x.w) [] (by kernel_rfl) ?_
  refine pi_t 0 rfl (by kernel_rfl) (by kernel_rfl) (fun _ _ _ _ h => h) (fun K hK => ?_)
  go_big_quiet_op
  refine hK _ ?_
  clear hK K
  refine pi_t 1 rfl (by kernel_rfl) (by kernel_rfl) (fun _ _ _ _ h => h) (fun K hK => ?_)
  go_big_quiet_op
  refine hK _ ?_
  clear hK K
  refine pi_t 2 rfl (by kernel_rfl) (by kernel_rfl) (fun _ _ _ _ h => h) (fun K hK => ?_)
  go_big_quiet_op
  refine hK _ ?_
  clear hK K
  refine pi_t 4 rfl (by kernel_rfl) (by kernel_rfl) (fun _ _ _ _ h => h) (fun K hK => ?_)
  go_big_quiet_op
  refine hK _ ?_
  clear hK K
  refine pi_c 3 (by assumption) rfl (by kernel_rfl) (by kernel_rfl) (fun _ _ _ _ h => h) (fun K hK => ?_)
  go_big_quiet_op
  refine hK _ ?_
  clear hK K
  refine pi_c 5 (by assumption) rfl (by kernel_rfl) (by kernel_rfl) (fun _ _ _ _ h => h) (fun K hK => ?_)
  go_big_quiet_op
  refine hK _ ?_
  clear hK K
  refine pi_c 6 (by assumption) rfl (by kernel_rfl) (by kernel_rfl) (fun _ _ _ _ h => h) (fun K hK => ?_)
  go_big_quiet_op
  refine hK _ ?_
  clear hK K
  refine pi_t 7 rfl (by kernel_rfl) (by kernel_rfl) (fun _ _ _ _ h => h) (fun K hK => ?_)
  go_big_quiet_op
  refine hK _ ?_
  clear hK K
  refine pi_t 8 rfl (by kernel_rfl) (by kernel_rfl) (fun _ _ _ _ h => h) (fun K hK => ?_)
  go_big_quiet_op
  refine hK _ ?_
  clear hK K
  refine pi_t 9 rfl (by kernel_rfl) (by kernel_rfl) (fun _ _ _ _ h => h) (fun K hK => ?_)
  go_big_quiet_op
  refine hK _ ?_
  clear hK K
  refine pi_l 10 rfl (by kernel_rfl) (fun K hK => ?_)
  go_wp2
  refine hK _ _ (fun _ h => af_step h (Ext.alloc' _ _)) ?_
  clear hK K
  refine pi_l 11 rfl (by kernel_rfl) (fun K hK => ?_)
  go_wp2
  refine hK _ _ (fun _ _ => ⟨⟨_, (Ext.alloc' W1 _).drewR⟩, rfl⟩) ?_
  clear hK K
  refine pi_t 12 rfl (by kernel_rfl) (by kernel_rfl) (fun _ _ _ _ h => h) (fun K hK => ?_)
  go_big_quiet_op
  refine hK _ ?_
  clear hK K
  refine pi_end (by kernel_rfl) ?_
  have hx2 : Ext W1 (W1.alloc (.cells #[.pointer x, .pointer y] 152)).drew := (Ext.alloc' W1 _).drewR
  have hb2 : (W1.alloc (.cells #[.pointer x, .pointer y] 152)).drew.heap[W1.heap.size]? = some (.cells #[.pointer x, .pointer y] 152 (0, 0)) := heap_at W1 _ rfl
  obtain ⟨W2, hW2⟩ : ∃ W2, (W1.alloc (.cells #[.pointer x, .pointer y] 152)).drew = W2 := ⟨_, rfl⟩
  rw [hW2] at hx2 hb2 ⊢
  clear hW2 hC0 hlk
  have HX2 := Lib.hid (HX1.out.trans' hx2)
  have t0 := (cell_of hb2 0).trans rfl
  have t1 := (cell_of hb2 1).trans rfl
  have tl := lt_of hb2
  have hb' := hx2.keep HB.out
  have hp' := hx2.keep HP.out
  clear b0 b1 b2 bl p0 p1 pl1
  have b0 := (cell_of hb' 0).trans rfl
  have b1 := (cell_of hb' 1).trans rfl
  have b2 := (cell_of hb' 2).trans rfl
  have bl := lt_of hb'
  have p0 := (cell_of hp' 0).trans rfl
  have p1 := (cell_of hp' 1).trans rfl
  have pl1 := lt_of hp'
  clear hb' hp' hb2 hx2
  obtain ⟨nn, hown, hnn⟩ := (HL.out.ext HX2.out).hm
  have HO := Lib.hid hown
  clear hown
  go_wp2_with fail
  have hC0 := af_drew W2
  refine pi_start (fun w' => ∃ x : After W2, w' = x.w) [6] (by kernel_rfl) ?_
  refine pi_t 0 rfl (by kernel_rfl) (by kernel_rfl) (fun _ _ _ _ h => h) (fun K hK => ?_)
  go_big_quiet_op
  refine hK _ ?_
  clear hK K
  refine pi_t 1 rfl (by kernel_rfl) (by kernel_rfl) (fun _ _ _ _ h => h) (fun K hK => ?_)
  go_big_quiet_op
  refine hK _ ?_
  clear hK K
  refine pi_t 2 rfl (by kernel_rfl) (by kernel_rfl) (fun _ _ _ _ h => h) (fun K hK => ?_)
  go_big_quiet_op
  refine hK _ ?_
  clear hK K
  refine pi_t 4 rfl (by kernel_rfl) (by kernel_rfl) (fun _ _ _ _ h => h) (fun K hK => ?_)
  go_big_quiet_op
  refine hK _ ?_
  clear hK K
  refine pi_c 3 (by assumption) rfl (by kernel_rfl) (by kernel_rfl) (fun _ _ _ _ h => h) (fun K hK => ?_)
  go_big_quiet_op
  refine hK _ ?_
  clear hK K
  refine pi_c 5 (by assumption) rfl (by kernel_rfl) (by kernel_rfl) (fun _ _ _ _ h => h) (fun K hK => ?_)
  go_big_quiet_op
  refine hK _ ?_
  clear hK K
  refine pi_l 6 rfl (by kernel_rfl) (fun K hK => ?_)
  refine wpList_delete_own _ rfl _ _ 142 3 rfl 152 (Maps.int_keyed Tryz.underlying3) Tryz.underlying142 Rh m nn _ rfl HO.out.drew _ _ rfl (key_int _ _ Tryz.underlying3 _ hk) ?_
  intro w3 hown3 hturn
  have hM2 : Mod (fun k => k = m) W2 w3 := ⟨(turn_mod hturn).os, (turn_mod hturn).tape, (turn_mod hturn).output, (turn_mod hturn).size, (turn_mod hturn).block⟩
  have HM2 := Lib.hid hM2
  have HO2 := Lib.hid hown3
  clear hown3 hturn hM2
  go_wp2
  refine hK _ _ (by simp) ?_
  clear hK K
  refine pi_end (by kernel_rfl) ?_
  go_wp2
  go_ret2
  have hA := (HL.out.ext HX2.out).less HO2.out hnn HM2.out
  have hM : Mod (AgF p m l) w w3 := (HX2.out.mod _).trans (HM2.out.mono (fun k hk _ => by subst hk; exact .inr (.inl rfl)))
  exact ⟨⟨_, dropL l k, last, rfl, rfl, hA, stOf_drop l last k, fun i hi => .inl (agF_drop hi)⟩, hM⟩
/-- The state is left, something is told. -/
theorem DoPost.told {w w' : World} {N p m : Nat} {l : List (Nat × Th)} {last : Nat} (h : AgAt w N p m l last) (hx : Ext w w') {v : Value} {r : Rep} (hv : RepAt w.heap.size w' v r) : DoPost w N p m l last ((some r, 0), stOf l last) (.returned (.tuple #[v, .int .i64 0])) w' := DoPost.same h hx (r := some r) hv
set_option maxRecDepth 20000 in
set_option maxHeartbeats 4000000 in
theorem AQuery_total {w : World} {N p m : Nat} {l : List (Nat × Th)} {last : Nat} (h : AgAt w N p m l last) (k : Int) (s : Value) (hs1 : s.oneCell' = true) (hk : I64 k) {z : Nat × Th} (hf : fnd l k = some z) :
    Calls Tryz.prog 86 #[.pointer (some ⟨p, 0, none⟩), .agg #[.string ⟨#[116, 111, 116, 97, 108]⟩, .int .i64 k, s]] w (DoPost w N p m l last ((some (.number ((z.2.ls z.2.B).getD 0 0)), 0), stOf l last)) := by
  obtain ⟨x, y, hv⟩ := z.2.v_two
  have HS := fun w' (hw : Ext w w') => Lib.hid (AStack_c z.2 w' ((h.th z (fnd_mem hf).1).ext hw))
  have hpl := h.ltp
  have hx1 : Ext w (w.alloc (.cells #[.string ⟨#[116, 111, 116, 97, 108]⟩, .int .i64 k, s] 179)) := Ext.alloc' _ _
  have hlk := h.look_a hx1 hk hf
  rw [hv] at hlk
  have HL := Lib.hid h
  have hhp := hx1.keep h.hp
  have hb := heap_at w (.cells #[.string ⟨#[116, 111, 116, 97, 108]⟩, .int .i64 k, s] 179) rfl
  clear h
  go_enter Tryz.func86, Tryz.ntmps86
  go_wp2_with fail
  obtain ⟨W1, hW1⟩ : ∃ W1, w.alloc (.cells #[.string ⟨#[116, 111, 116, 97, 108]⟩, .int .i64 k, s] 179) = W1 := ⟨_, rfl⟩
  rw [hW1] at hx1 hlk hhp hb ⊢
  clear hW1
  have p0 := (cell_of hhp 0).trans rfl
  have p1 := (cell_of hhp 1).trans rfl
  have pl1 := lt_of hhp
  have b0 := (cell_of hb 0).trans rfl
  have b1 := (cell_of hb 1).trans rfl
  have b2 := (cell_of hb 2).trans rfl
  have bl := lt_of hb
  have HX1 := Lib.hid hx1
  have HB := Lib.hid hb
  have HP := Lib.hid hhp
  clear hx1 hhp hb
  have hC0 := af_drew W1
  refine pi_start (fun w' => ∃ x : After W1, w' = x.w) [] (by kernel_rfl) ?_
  refine pi_t 0 rfl (by kernel_rfl) (by kernel_rfl) (fun _ _ _ _ h => h) (fun K hK => ?_)
  go_big_quiet_op
  refine hK _ ?_
  clear hK K
  refine pi_t 1 rfl (by kernel_rfl) (by kernel_rfl) (fun _ _ _ _ h => h) (fun K hK => ?_)
  go_big_quiet_op
  refine hK _ ?_
  clear hK K
  refine pi_t 2 rfl (by kernel_rfl) (by kernel_rfl) (fun _ _ _ _ h => h) (fun K hK => ?_)
  go_big_quiet_op
  refine hK _ ?_
  clear hK K
  refine pi_t 4 rfl (by kernel_rfl) (by kernel_rfl) (fun _ _ _ _ h => h) (fun K hK => ?_)
  go_big_quiet_op
  refine hK _ ?_
  clear hK K
  refine pi_c 3 (by assumption) rfl (by kernel_rfl) (by kernel_rfl) (fun _ _ _ _ h => h) (fun K hK => ?_)
  go_big_quiet_op
  refine hK _ ?_
  clear hK K
  refine pi_c 5 (by assumption) rfl (by kernel_rfl) (by kernel_rfl) (fun _ _ _ _ h => h) (fun K hK => ?_)
  go_big_quiet_op
  refine hK _ ?_
  clear hK K
  refine pi_c 6 (by assumption) rfl (by kernel_rfl) (by kernel_rfl) (fun _ _ _ _ h => h) (fun K hK => ?_)
  go_big_quiet_op
  refine hK _ ?_
  clear hK K
  refine pi_t 7 rfl (by kernel_rfl) (by kernel_rfl) (fun _ _ _ _ h => h) (fun K hK => ?_)
  go_big_quiet_op
  refine hK _ ?_
  clear hK K
  refine pi_t 8 rfl (by kernel_rfl) (by kernel_rfl) (fun _ _ _ _ h => h) (fun K hK => ?_)
  go_big_quiet_op
  refine hK _ ?_
  clear hK K
  refine pi_t 9 rfl (by kernel_rfl) (by kernel_rfl) (fun _ _ _ _ h => h) (fun K hK => ?_)
  go_big_quiet_op
  refine hK _ ?_
  clear hK K
  refine pi_l 10 rfl (by kernel_rfl) (fun K hK => ?_)
  go_wp2
  refine hK _ _ (fun _ h => af_step h (Ext.alloc' _ _)) ?_
  clear hK K
  refine pi_l 11 rfl (by kernel_rfl) (fun K hK => ?_)
  go_wp2
  refine hK _ _ (fun _ _ => ⟨⟨_, (Ext.alloc' W1 _).drewR⟩, rfl⟩) ?_
  clear hK K
  refine pi_t 12 rfl (by kernel_rfl) (by kernel_rfl) (fun _ _ _ _ h => h) (fun K hK => ?_)
  go_big_quiet_op
  refine hK _ ?_
  clear hK K
  refine pi_end (by kernel_rfl) ?_
  have hx2 : Ext W1 (W1.alloc (.cells #[.pointer x, .pointer y] 152)).drew := (Ext.alloc' W1 _).drewR
  have hb2 : (W1.alloc (.cells #[.pointer x, .pointer y] 152)).drew.heap[W1.heap.size]? = some (.cells #[.pointer x, .pointer y] 152 (0, 0)) := heap_at W1 _ rfl
  obtain ⟨W2, hW2⟩ : ∃ W2, (W1.alloc (.cells #[.pointer x, .pointer y] 152)).drew = W2 := ⟨_, rfl⟩
  rw [hW2] at hx2 hb2 ⊢
  clear hW2 hC0 hlk
  have HX2 := Lib.hid (HX1.out.trans' hx2)
  have t0 := (cell_of hb2 0).trans rfl
  have t1 := (cell_of hb2 1).trans rfl
  have tl := lt_of hb2
  have hb' := hx2.keep HB.out
  have hp' := hx2.keep HP.out
  clear b0 b1 b2 bl p0 p1 pl1
  have b0 := (cell_of hb' 0).trans rfl
  have b1 := (cell_of hb' 1).trans rfl
  have b2 := (cell_of hb' 2).trans rfl
  have bl := lt_of hb'
  have p0 := (cell_of hp' 0).trans rfl
  have p1 := (cell_of hp' 1).trans rfl
  have pl1 := lt_of hp'
  clear hb' hp' hb2 hx2
  rw [hv] at HS
  go_wp2_with fail
  refine Calls.mono (HS _ HX2.out).out ?_
  rintro e w3 ⟨s3, g3, L3, rfl, hK3, hx3⟩
  have hx23 := HX2.out.trans' hx3
  have HX3 := Lib.hid hx23
  have HK3 := Lib.hid hK3
  have c0 := (hx3.cell (p := ⟨w.heap.size, 0, none⟩) bl).trans b0
  have bl3 := Nat.lt_of_lt_of_le bl hx3.size
  clear b0 b1 b2 bl p0 p1 pl1 t0 t1 tl hx3 hK3 hx23
  go_wp2_with fail
  refine Calls.mono (KTotal_c _ _ _ _ _ _ _ HK3.out) ?_
  rintro e w4 ⟨rfl, hx4⟩
  have HX4 := Lib.hid (HX3.out.trans' hx4)
  clear c0 bl3 hx4
  go_wp2
  go_ret2
  exact DoPost.told HL.out HX4.out rfl
end Go.Proofs.YtmalncfcgcebhaaGreatDoor
namespace Go.Proofs.YtmalncfcgcebhaaGreatDoor
set_option linter.unusedVariables false
open Go.Proofs Go.RowKit
theorem RepOAt.mono {b b' : Nat} {w : World} {v : Value} {r : Option Rep} (h : RepOAt b w v r) (hb : b' ≤ b) : RepOAt b' w v r := by
  cases r with
  | none => exact h
  | some r =>
    cases r with
    | list D => obtain ⟨s, h1, h2⟩ := h; exact ⟨s, h1, own_bmono h2 hb⟩
    | bytes bs => obtain ⟨s, h1, h2⟩ := h; exact ⟨s, h1, own_bmono h2 hb⟩
    | done => exact h
    | handle => exact h
    | number => exact h
    | key => exact h
    | wide => exact h
theorem DoPost.back {w w1 w' : World} {N p m : Nat} {l : List (Nat × Th)} {last : Nat} {R : (Option Rep × Int) × St} {e : Ending} (h : DoPost w1 N p m l last R e w') (hx : Ext w w1) : DoPost w N p m l last R e w' := by
  obtain ⟨⟨v, l', last', h1, h2, h3, h4, h5⟩, h6⟩ := h
  refine ⟨⟨v, l', last', h1, h2.mono hx.size, h3, h4, fun k hk => ?_⟩, (hx.mod _).trans h6⟩
  rcases h5 k hk with h7 | h7
  · exact .inl h7
  · exact .inr (Nat.le_trans hx.size h7)
set_option maxRecDepth 20000 in
set_option maxHeartbeats 4000000 in
theorem DoQuery_c {w : World} {N p m : Nat} {l : List (Nat × Th)} {last : Nat} {R : (Option Rep × Int) × St} (hpl : p < w.heap.size) (what : ByteArray) (k : Int) (q : Option Addr) (n c : Nat)
    (H : ∀ w1, Ext w w1 → Calls Tryz.prog 86 #[.pointer (some ⟨p, 0, none⟩), .agg #[.string what, .int .i64 k, .slice q n c]] w1 (DoPost w1 N p m l last R)) :
    Calls Tryz.prog 43 #[.pointer (some ⟨p, 0, none⟩), .iface 179 (.agg #[.string what, .int .i64 k, .slice q n c])] w (DoPost w N p m l last R) := by
  have HH := Lib.hid H
  clear H
  go_enter Tryz.func43, Tryz.ntmps43
  go_wp2_with fail
  refine Calls.mono (HH.out _ (Ext.alloc' _ _)) ?_
  intro e w2 h5
  have h6 := h5.back (Ext.alloc' w _)
  obtain ⟨⟨v, l', last', rfl, _⟩, _⟩ := h5
  have H6 := Lib.hid h6
  clear h6
  go_wp2
  go_ret2
  exact H6.out
end Go.Proofs.YtmalncfcgcebhaaGreatDoor
namespace Go.Proofs.YtmalncfcgcebhaaGreatDoor
set_option linter.unusedVariables false
open Go.Proofs Go.RowKit
set_option maxRecDepth 20000 in
set_option maxHeartbeats 4000000 in
theorem AAdd_no {w : World} {N p m : Nat} {l : List (Nat × Th)} {last : Nat} (h : AgAt w N p m l last) (k : Int) (nm : Bool) (name : ByteArray) (key d : Int) (hk : I64 k) (hf : fnd l k = none) :
    Calls Tryz.prog 84 #[.pointer (some ⟨p, 0, none⟩), .agg #[.int .i64 k, .bool nm, .string name, .int .u64 key, .int .i64 d]] w fun e w' => e = .returned (.tuple #[.nilIface, .int .i64 10]) ∧ Ext w w' := by
  have hpl := h.ltp
  have hx1 : Ext w (w.alloc (.cells #[.int .i64 k, .bool nm, .string name, .int .u64 key, .int .i64 d] 174)) := Ext.alloc' _ _
  have hlk := h.lookno_a hx1 hk hf
  unfold zT at hlk
  have HL := Lib.hid h
  have hhp := hx1.keep h.hp
  have hb := heap_at w (.cells #[.int .i64 k, .bool nm, .string name, .int .u64 key, .int .i64 d] 174) rfl
  clear h
  go_enter Tryz.func84, Tryz.ntmps84
  go_wp2_with fail
  obtain ⟨W1, hW1⟩ : ∃ W1, w.alloc (.cells #[.int .i64 k, .bool nm, .string name, .int .u64 key, .int .i64 d] 174) = W1 := ⟨_, rfl⟩
  rw [hW1] at hx1 hlk hhp hb ⊢
  clear hW1
  have p0 := (cell_of hhp 0).trans rfl
  have p1 := (cell_of hhp 1).trans rfl
  have pl1 := lt_of hhp
  have b0 := (cell_of hb 0).trans rfl
  have b1 := (cell_of hb 1).trans rfl
  have b2 := (cell_of hb 2).trans rfl
  have b3 := (cell_of hb 3).trans rfl
  have b4 := (cell_of hb 4).trans rfl
  have bl := lt_of hb
  have HX1 := Lib.hid hx1
  have HB := Lib.hid hb
  have HP := Lib.hid hhp
  clear hx1 hhp hb
  have hC0 := af_drew W1
  refine pi_start (fun w' => ∃ x : After W1, w' = x.w) [] (by kernel_rfl) ?_
  refine pi_t 0 rfl (by kernel_rfl) (by kernel_rfl) (fun _ _ _ _ h => h) (fun K hK => ?_)
  go_big_quiet_op
  refine hK _ ?_
  clear hK K
  refine pi_t 1 rfl (by kernel_rfl) (by kernel_rfl) (fun _ _ _ _ h => h) (fun K hK => ?_)
  go_big_quiet_op
  refine hK _ ?_
  clear hK K
  refine pi_t 2 rfl (by kernel_rfl) (by kernel_rfl) (fun _ _ _ _ h => h) (fun K hK => ?_)
  go_big_quiet_op
  refine hK _ ?_
  clear hK K
  refine pi_t 4 rfl (by kernel_rfl) (by kernel_rfl) (fun _ _ _ _ h => h) (fun K hK => ?_)
  go_big_quiet_op
  refine hK _ ?_
  clear hK K
  refine pi_c 3 (by assumption) rfl (by kernel_rfl) (by kernel_rfl) (fun _ _ _ _ h => h) (fun K hK => ?_)
  go_big_quiet_op
  refine hK _ ?_
  clear hK K
  refine pi_c 5 (by assumption) rfl (by kernel_rfl) (by kernel_rfl) (fun _ _ _ _ h => h) (fun K hK => ?_)
  go_big_quiet_op
  refine hK _ ?_
  clear hK K
  refine pi_c 6 (by assumption) rfl (by kernel_rfl) (by kernel_rfl) (fun _ _ _ _ h => h) (fun K hK => ?_)
  go_big_quiet_op
  refine hK _ ?_
  clear hK K
  refine pi_t 7 rfl (by kernel_rfl) (by kernel_rfl) (fun _ _ _ _ h => h) (fun K hK => ?_)
  go_big_quiet_op
  refine hK _ ?_
  clear hK K
  refine pi_t 8 rfl (by kernel_rfl) (by kernel_rfl) (fun _ _ _ _ h => h) (fun K hK => ?_)
  go_big_quiet_op
  refine hK _ ?_
  clear hK K
  refine pi_t 9 rfl (by kernel_rfl) (by kernel_rfl) (fun _ _ _ _ h => h) (fun K hK => ?_)
  go_big_quiet_op
  refine hK _ ?_
  clear hK K
  refine pi_l 10 rfl (by kernel_rfl) (fun K hK => ?_)
  go_wp2
  refine hK _ _ (fun _ h => af_step h (Ext.alloc' _ _)) ?_
  clear hK K
  refine pi_l 11 rfl (by kernel_rfl) (fun K hK => ?_)
  go_wp2
  refine hK _ _ (fun _ _ => ⟨⟨_, (Ext.alloc' W1 _).drewR⟩, rfl⟩) ?_
  clear hK K
  refine pi_t 12 rfl (by kernel_rfl) (by kernel_rfl) (fun _ _ _ _ h => h) (fun K hK => ?_)
  go_big_quiet_op
  refine hK _ ?_
  clear hK K
  refine pi_end (by kernel_rfl) ?_
  go_wp2
  go_ret2
  exact ⟨rfl, HX1.out.trans' ((Ext.alloc' W1 _).drewR)⟩
/-- The key of a command that adds. -/
def addK (C : Cfg) (nm : Bool) (key : Int) : Int := bif nm then key % keys C 0 else key
/-- What adding to a thing answers, and leaves. -/
def addT (T : AT) (key d : Int) : Int × AT :=
  match T with
  | .st C B ls => (errK C B ls key d, .st C B (updK C ls key d))
  | .wi C B n sm bk => (if errK C B sm key d = 0 then errK C B (bk (n - 1)) key d else errK C B sm key d, .wi C B n (updK C sm key d) (fun i => if i = n - 1 then updK C (bk (n - 1)) key d else bk i))
def addF (S : St) (h : Int) (nm : Bool) (key d : Int) : (Option Rep × Int) × St :=
  match S.l.find? (fun x => decide ((x.1 : Int) = h)) with
  | none => ((none, 10), S)
  | some (i, T) => (doneF (addT T (addK T.C nm key) d).1, if (addT T (addK T.C nm key) d).1 = 0 then ⟨setL S.l i (addT T (addK T.C nm key) d).2, S.last⟩ else S)
theorem addF_none {l : List (Nat × Th)} {last : Nat} {h : Int} (hf : fnd l h = none) (nm : Bool) (key d : Int) : addF (stOf l last) h nm key d = ((none, 10), stOf l last) := by
  unfold addF
  rw [show (stOf l last).l.find? (fun x => decide ((x.1 : Int) = h)) = (fnd l h).map fun x => (x.1, x.2.ab) from fnd_ab l h, hf]
  rfl
theorem addF_some {l : List (Nat × Th)} {last : Nat} {h : Int} {z : Nat × Th} (hf : fnd l h = some z) (nm : Bool) (key d : Int) : addF (stOf l last) h nm key d = (doneF (addT z.2.ab (addK z.2.C nm key) d).1, if (addT z.2.ab (addK z.2.C nm key) d).1 = 0 then ⟨setL (stOf l last).l z.1 (addT z.2.ab (addK z.2.C nm key) d).2, last⟩ else stOf l last) := by
  unfold addF
  rw [show (stOf l last).l.find? (fun x => decide ((x.1 : Int) = h)) = (fnd l h).map fun x => (x.1, x.2.ab) from fnd_ab l h, hf]
  simp only [Option.map_some, Th.ab_C]
  rfl
theorem keys0 {C : Cfg} (h : C.Ok) : keys C 0 = 2 ^ C.bits.toNat := by unfold keys; rw [Int.sub_zero]
/-- A stack is changed in its place. -/
theorem DoPost.upd {w w1 w' : World} {N p m : Nat} {l : List (Nat × Th)} {last : Nat} (h : AgAt w N p m l last) (hx : Ext w w1) {k : Int} {z : Nat × Th} (hf : fnd l k = some z) {T : Th} (hv : T.v = z.2.v) (hT : T.At w') (hM : Mod z.2.cs w1 w') (hc : ∀ i, T.cs i → z.2.cs i ∨ w1.heap.size ≤ i) {v : Value} {r : Option Rep} {c : Int} (hr : RepOAt w.heap.size w' v r) :
    DoPost w N p m l last ((r, c), ⟨setL (stOf l last).l z.1 T.ab, last⟩) (.returned (.tuple #[v, .int .i64 c])) w' := by
  obtain ⟨a, b, hl⟩ := fnd_split hf
  obtain ⟨i, T0⟩ := z
  subst hl
  have h1 := h.ext hx
  have hA := h1.chg (T := T) hv hT hM hc
  have hmod : Mod (AgF p m (a ++ (i, T0) :: b)) w w' := (hx.mod _).trans (hM.mono fun j hj _ => .inr (.inr ⟨(i, T0), by simp, hj⟩))
  refine ⟨⟨v, a ++ (i, T) :: b, last, rfl, hr, hA, ?_, fun j hj => ?_⟩, hmod⟩
  · unfold stOf
    congr 1
    show _ = setL ((a ++ (i, T0) :: b).map fun x => (x.1, x.2.ab)) i T.ab
    rw [← setL_ab, setL_at h.up]
  · rcases hj with hj | hj | ⟨x, hx2, hj⟩
    · exact .inl (.inl hj)
    · exact .inl (.inr (.inl hj))
    · rcases List.mem_append.1 hx2 with hx2 | hx2
      · exact .inl (.inr (.inr ⟨x, by simp [hx2], hj⟩))
      · rcases List.mem_cons.1 hx2 with rfl | hx2
        · rcases hc j hj with h2 | h2
          · exact .inl (.inr (.inr ⟨(i, T0), by simp, h2⟩))
          · exact .inr (Nat.le_trans hx.size h2)
        · exact .inl (.inr (.inr ⟨x, by simp [hx2], hj⟩))
/-- What is told behind an update of a stack. -/
theorem addEnd {w w2 w3 w4 : World} {N p m : Nat} {l : List (Nat × Th)} {last : Nat} (h : AgAt w N p m l last) (hx : Ext w w2) {k : Int} {i : Nat} {bk : Bk} {C : Cfg} {B : Nat} (hf : fnd l k = some (i, .st bk C B)) {nm : Bool} {key d er : Int} {R : (Option Rep × Int) × St}
    (hR : R = (doneF (addT (Th.st bk C B).ab (addK C nm key) d).1, if (addT (Th.st bk C B).ab (addK C nm key) d).1 = 0 then ⟨setL (stOf l last).l i (addT (Th.st bk C B).ab (addK C nm key) d).2, last⟩ else stOf l last))
    (he : errK C B bk.ls (addK C nm key) d = er) (hK : KAt w3 bk.s bk.g C B bk.L (bif decide (er = 0) then updK C bk.ls (addK C nm key) d else bk.ls)) (hM : Mod (cellsOf B bk.L) w2 w3) (hx4 : Ext w3 w4) {v : Value} (hv : RepOAt w.heap.size w4 v (doneF er).1) :
    DoPost w N p m l last R (.returned (.tuple #[v, .int .i64 (doneF er).2])) w4 := by
  subst hR
  have e1 : (addT (Th.st bk C B).ab (addK C nm key) d).1 = er := he
  rw [e1]
  by_cases h0 : er = 0
  · subst h0
    rw [if_pos rfl]
    exact DoPost.upd (T := .st ⟨bk.s, bk.g, bk.L, updK C bk.ls (addK C nm key) d⟩ C B) h hx hf rfl (KAt.ext hK hx4) (hM.extR hx4) (fun j hj => .inl hj) hv
  · rw [if_neg h0]
    rw [decide_eq_false h0] at hK
    obtain ⟨a, b, hl⟩ := fnd_split hf
    subst hl
    have hA := (h.ext hx).chg (T := .st bk C B) rfl (KAt.ext hK hx4) (hM.extR hx4) (fun j hj => .inl hj)
    exact ⟨⟨v, _, last, rfl, hv, hA, rfl, fun j hj => .inl hj⟩, (hx.mod _).trans ((hM.extR hx4).mono fun j hj _ => .inr (.inr ⟨(i, .st bk C B), by simp, hj⟩))⟩
set_option maxRecDepth 20000 in
set_option maxHeartbeats 4000000 in
theorem AAdd_st {w : World} {N p m : Nat} {l : List (Nat × Th)} {last : Nat} (h : AgAt w N p m l last) (k : Int) (nm : Bool) (name : ByteArray) (key d : Int) (hk : I64 k) (hkey : U64 key) (hd : I64 d) {i : Nat} {bk : Bk} {C : Cfg} {B : Nat} (hf : fnd l k = some (i, .st bk C B)) :
    Calls Tryz.prog 84 #[.pointer (some ⟨p, 0, none⟩), .agg #[.int .i64 k, .bool nm, .string name, .int .u64 key, .int .i64 d]] w (DoPost w N p m l last (addF (stOf l last) k nm key d)) := by
  have hth : bk.At w C B := h.th _ (fnd_mem hf).1
  have hok : C.Ok := KAt.ok hth
  have hadd := Lib.hid (addF_some (last := last) hf nm key d)
  have HTH := Lib.hid hth
  clear hth
  have hpl := h.ltp
  have hx1 : Ext w (w.alloc (.cells #[.int .i64 k, .bool nm, .string name, .int .u64 key, .int .i64 d] 174)) := Ext.alloc' _ _
  have hlk := h.look_a hx1 hk hf
  unfold Th.v at hlk
  have HL := Lib.hid h
  have hhp := hx1.keep h.hp
  have hb := heap_at w (.cells #[.int .i64 k, .bool nm, .string name, .int .u64 key, .int .i64 d] 174) rfl
  clear h
  go_enter Tryz.func84, Tryz.ntmps84
  go_wp2_with fail
  obtain ⟨W1, hW1⟩ : ∃ W1, w.alloc (.cells #[.int .i64 k, .bool nm, .string name, .int .u64 key, .int .i64 d] 174) = W1 := ⟨_, rfl⟩
  rw [hW1] at hx1 hlk hhp hb ⊢
  clear hW1
  have p0 := (cell_of hhp 0).trans rfl
  have p1 := (cell_of hhp 1).trans rfl
  have pl1 := lt_of hhp
  have b0 := (cell_of hb 0).trans rfl
  have b1 := (cell_of hb 1).trans rfl
  have b2 := (cell_of hb 2).trans rfl
  have b3 := (cell_of hb 3).trans rfl
  have b4 := (cell_of hb 4).trans rfl
  have bl := lt_of hb
  have HX1 := Lib.hid hx1
  have HB := Lib.hid hb
  have HP := Lib.hid hhp
  clear hx1 hhp hb
  have hC0 := af_drew W1
  refine pi_start (fun w' => ∃ x : After W1, w' = x.w) [] (by kernel_rfl) ?_
  refine pi_t 0 rfl (by kernel_rfl) (by kernel_rfl) (fun _ _ _ _ h => h) (fun K hK => ?_)
  go_big_quiet_op
  refine hK _ ?_
  clear hK K
  refine pi_t 1 rfl (by kernel_rfl) (by kernel_rfl) (fun _ _ _ _ h => h) (fun K hK => ?_)
  go_big_quiet_op
  refine hK _ ?_
  clear hK K
  refine pi_t 2 rfl (by kernel_rfl) (by kernel_rfl) (fun _ _ _ _ h => h) (fun K hK => ?_)
  go_big_quiet_op
  refine hK _ ?_
  clear hK K
  refine pi_t 4 rfl (by kernel_rfl) (by kernel_rfl) (fun _ _ _ _ h => h) (fun K hK => ?_)
  go_big_quiet_op
  refine hK _ ?_
  clear hK K
  refine pi_c 3 (by assumption) rfl (by kernel_rfl) (by kernel_rfl) (fun _ _ _ _ h => h) (fun K hK => ?_)
  go_big_quiet_op
  refine hK _ ?_
  clear hK K
  refine pi_c 5 (by assumption) rfl (by kernel_rfl) (by kernel_rfl) (fun _ _ _ _ h => h) (fun K hK => ?_)
  go_big_quiet_op
  refine hK _ ?_
  clear hK K
  refine pi_c 6 (by assumption) rfl (by kernel_rfl) (by kernel_rfl) (fun _ _ _ _ h => h) (fun K hK => ?_)
  go_big_quiet_op
  refine hK _ ?_
  clear hK K
  refine pi_t 7 rfl (by kernel_rfl) (by kernel_rfl) (fun _ _ _ _ h => h) (fun K hK => ?_)
  go_big_quiet_op
  refine hK _ ?_
  clear hK K
  refine pi_t 8 rfl (by kernel_rfl) (by kernel_rfl) (fun _ _ _ _ h => h) (fun K hK => ?_)
  go_big_quiet_op
  refine hK _ ?_
  clear hK K
  refine pi_t 9 rfl (by kernel_rfl) (by kernel_rfl) (fun _ _ _ _ h => h) (fun K hK => ?_)
  go_big_quiet_op
  refine hK _ ?_
  clear hK K
  refine pi_l 10 rfl (by kernel_rfl) (fun K hK => ?_)
  go_wp2
  refine hK _ _ (fun _ h => af_step h (Ext.alloc' _ _)) ?_
  clear hK K
  refine pi_l 11 rfl (by kernel_rfl) (fun K hK => ?_)
  go_wp2
  refine hK _ _ (fun _ _ => ⟨⟨_, (Ext.alloc' W1 _).drewR⟩, rfl⟩) ?_
  clear hK K
  refine pi_t 12 rfl (by kernel_rfl) (by kernel_rfl) (fun _ _ _ _ h => h) (fun K hK => ?_)
  go_big_quiet_op
  refine hK _ ?_
  clear hK K
  refine pi_end (by kernel_rfl) ?_
  have hx2 : Ext W1 (W1.alloc (.cells #[.pointer (some ⟨bk.s, 0, none⟩), .pointer none] 152)).drew := (Ext.alloc' W1 _).drewR
  have hb2 : (W1.alloc (.cells #[.pointer (some ⟨bk.s, 0, none⟩), .pointer none] 152)).drew.heap[W1.heap.size]? = some (.cells #[.pointer (some ⟨bk.s, 0, none⟩), .pointer none] 152 (0, 0)) := heap_at W1 _ rfl
  obtain ⟨W2, hW2⟩ : ∃ W2, (W1.alloc (.cells #[.pointer (some ⟨bk.s, 0, none⟩), .pointer none] 152)).drew = W2 := ⟨_, rfl⟩
  rw [hW2] at hx2 hb2 ⊢
  clear hW2 hC0 hlk
  have HX2 := Lib.hid (HX1.out.trans' hx2)
  have t0 := (cell_of hb2 0).trans rfl
  have t1 := (cell_of hb2 1).trans rfl
  have tl := lt_of hb2
  have hb' := hx2.keep HB.out
  have hp' := hx2.keep HP.out
  clear b0 b1 b2 b3 b4 bl p0 p1 pl1
  have b0 := (cell_of hb' 0).trans rfl
  have b1 := (cell_of hb' 1).trans rfl
  have b2 := (cell_of hb' 2).trans rfl
  have b3 := (cell_of hb' 3).trans rfl
  have b4 := (cell_of hb' 4).trans rfl
  have bl := lt_of hb'
  have p0 := (cell_of hp' 0).trans rfl
  have p1 := (cell_of hp' 1).trans rfl
  have pl1 := lt_of hp'
  clear hb' hp' hb2 hx2
  cases nm with
  | false =>
    have HKU := Lib.hid hkey
    have HXX := HX2
    have hNM : addK C false key = key := rfl
    go_wp2_with fail
    refine Calls.mono (KUpdate_c _ _ _ _ _ _ key d _ (KAt.ext HTH.out HXX.out) hd HKU.out) ?_
    rintro e w3 ⟨rfl, hK3, hM3⟩
    have HK3 := Lib.hid hK3
    have HM3 := Lib.hid hM3
    clear hK3 hM3
    generalize her : errK C B bk.ls key d = er at *
    have HER := Lib.hid her
    clear her
    go_wp2_with fail
    refine Calls.mono (ADone_c er _) ?_
    rintro e w4 ⟨v, rfl, hv, hx4⟩
    have HX4 := Lib.hid hx4
    have HV := Lib.hid hv
    clear hx4 hv
    go_wp2
    go_ret2
    exact addEnd HL.out HXX.out hf hadd.out (by rw [hNM]; exact HER.out) HK3.out HM3.out HX4.out (HV.out _ _)
  | true =>
    have hkk := keys_bd C hok 0 (Int.le_refl 0)
    have hk0 := keys0 hok
    have hpw := pow_bd C.bits.toNat (by have := hok.b2; omega)
    have hb1 := hok.b1
    have hb2 := hok.b2
    have hfd : ∀ w, (Instr.field 24 (.agg #[.int .i64 C.bits, .int .i64 C.rows, .int .i64 C.width, .int .i64 C.mode, .int .u64 C.seed]) 0).run Tryz.prog w = .ok (.int .i64 C.bits) w := fun _ => by kernel_rfl
    go_wp2_with fail
    refine Calls.mono (SKConfig_c _ _ _ _ _ _ _ (KAt.ext HTH.out HX2.out)) ?_
    rintro e w5 ⟨rfl, hx5⟩
    have hkk2 : key.tmod (2 ^ C.bits.toNat) = addK C true key := by
      show _ = key % keys C 0
      rw [hk0, Int.tmod_eq_emod_of_nonneg hkey.1]
    have hku : U64 (addK C true key) := by
      show U64 (key % keys C 0)
      unfold U64 at hkey ⊢
      have h1 := Int.emod_nonneg key (show keys C 0 ≠ 0 by omega)
      have h2 := Int.emod_lt_of_pos key (show 0 < keys C 0 by omega)
      omega
    have HKU := Lib.hid hku
    have HXX := Lib.hid (HX2.out.trans' hx5)
    generalize hNM : addK C true key = kk at *
    have s0 := (hx5.cell (p := ⟨W1.heap.size, 0, none⟩) tl).trans t0
    have s1 := (hx5.cell (p := ⟨W1.heap.size, 1, none⟩) tl).trans t1
    have s4 := (hx5.cell (p := ⟨w.heap.size, 4, none⟩) bl).trans b4
    have tl5 := Nat.lt_of_lt_of_le tl hx5.size
    have bl5 := Nat.lt_of_lt_of_le bl hx5.size
    clear t0 t1 tl b0 b1 b2 b3 b4 bl p0 p1 pl1 hx5 hk0 hkk hku
    have HNM := Lib.hid hNM
    clear hNM
    go_wp2_with fail
    refine Calls.mono (KUpdate_c _ _ _ _ _ _ kk d _ (KAt.ext HTH.out HXX.out) hd HKU.out) ?_
    rintro e w3 ⟨rfl, hK3, hM3⟩
    have HK3 := Lib.hid hK3
    have HM3 := Lib.hid hM3
    clear hK3 hM3
    generalize her : errK C B bk.ls kk d = er at *
    have HER := Lib.hid her
    clear her
    go_wp2_with fail
    refine Calls.mono (ADone_c er _) ?_
    rintro e w4 ⟨v, rfl, hv, hx4⟩
    have HX4 := Lib.hid hx4
    have HV := Lib.hid hv
    clear hx4 hv
    go_wp2
    go_ret2
    exact addEnd HL.out HXX.out hf hadd.out (by rw [HNM.out]; exact HER.out) (by rw [HNM.out]; exact HK3.out) HM3.out HX4.out (HV.out _ _)
end Go.Proofs.YtmalncfcgcebhaaGreatDoor
namespace Go.Proofs.YtmalncfcgcebhaaGreatDoor
set_option linter.unusedVariables false
open Go.Proofs Go.RowKit
/-- A line is done: the text, whether there is one, what is left. -/
structure LinePost (w : World) (N p m : Nat) (l : List (Nat × Th)) (last : Nat) (R : Option (List UInt8) × St) (e : Ending) (w' : World) : Prop where
  ex : ∃ l' last', e = .returned (.tuple #[strV (R.1.getD []), .bool R.1.isSome]) ∧ AgAt w' N p m l' last' ∧ stOf l' last' = R.2 ∧ ∀ k, AgF p m l' k → AgF p m l k ∨ w.heap.size ≤ k
  md : Mod (AgF p m l) w w'
theorem AgAt.tabs {w w' : World} {N p m : Nat} {l : List (Nat × Th)} {last : Nat} (h : AgAt w N p m l last) (hN : 10 ≤ N) (hT : Tabs w) (hM : Mod (AgF p m l) w w') : Tabs w' := hT.below hN (h.below hM)
theorem LinePost.same {w w' : World} {N p m : Nat} {l : List (Nat × Th)} {last : Nat} (h : AgAt w N p m l last) (hx : Ext w w') (r : Option (List UInt8)) : LinePost w N p m l last (r, stOf l last) (.returned (.tuple #[strV (r.getD []), .bool r.isSome])) w' :=
  ⟨⟨l, last, rfl, h.ext hx, rfl, fun k hk => .inl hk⟩, hx.mod _⟩
/-- A line that is none of ours. -/
theorem ALine_err {w : World} {N p m : Nat} {l : List (Nat × Th)} {last : Nat} (h : AgAt w N p m l last) (hT : Tabs w) (s : ByteArray) (hs : s.size ≤ 100000000) {at_ c : Int} (hp : parseS s = (none, at_, c)) (hc : c ≠ 0) (ha : I64 at_) (hc2 : I64 c) :
    Calls Tryz.prog 15 #[.pointer (some ⟨p, 0, none⟩), .string s] w (LinePost w N p m l last (some (errT c ++ [32, 97, 116, 32] ++ Lib.itoa at_), stOf l last)) := by
  have HL := Lib.hid h
  have HP := Lib.hid (Parse_c s hs w hT)
  rw [hp] at HP
  have HT := Lib.hid hT
  have hn : (c != 0) = true := by simpa using hc
  have h1 := Lib.itoa_length_le c hc2.1 hc2.2
  have h2 := Lib.itoa_length_le at_ ha.1 ha.2
  have h3 : (errT c).length ≤ 27 := by unfold errT; simp; omega
  clear h hT hp hc
  go_enter Tryz.func15, Tryz.ntmps15
  go_wp2_with fail
  refine Calls.mono HP.out ?_
  rintro e w1 ⟨⟨v, rfl, hv⟩, hx1⟩
  have HX := Lib.hid hx1
  clear hx1
  go_wp2_with fail
  refine Calls.mono (Error_c c hc2 _ (HT.out.ext HX.out)) ?_
  rintro e w2 ⟨rfl, hx2⟩
  have HX2 := Lib.hid (HX.out.trans' hx2)
  clear hx2
  unfold strV
  go_wp2_with fail
  refine Calls.mono (Itoa_c at_ ha _ (HT.out.ext HX2.out)) ?_
  rintro e w3 ⟨rfl, hx3⟩
  have HX3 := Lib.hid (HX2.out.trans' hx3)
  clear hx3
  unfold strV
  go_wp2
  go_ret2
  have e1 : (⟨(errT c).toArray⟩ ++ ⟨#[32, 97, 116, 32]⟩ ++ ⟨(Lib.itoa at_).toArray⟩ : ByteArray) = ⟨(errT c ++ [32, 97, 116, 32] ++ Lib.itoa at_).toArray⟩ := by
    rw [show (⟨#[32, 97, 116, 32]⟩ : ByteArray) = ⟨([32, 97, 116, 32] : List UInt8).toArray⟩ from rfl, cat_str, cat_str]
  rw [e1]
  exact LinePost.same HL.out HX3.out (some _)
/-- A line without words. -/
theorem ALine_none {w : World} {N p m : Nat} {l : List (Nat × Th)} {last : Nat} (h : AgAt w N p m l last) (hT : Tabs w) (s : ByteArray) (hs : s.size ≤ 100000000) {at_ : Int} (hp : parseS s = (none, at_, 0)) :
    Calls Tryz.prog 15 #[.pointer (some ⟨p, 0, none⟩), .string s] w (LinePost w N p m l last (none, stOf l last)) := by
  have HL := Lib.hid h
  have HP := Lib.hid (Parse_c s hs w hT)
  rw [hp] at HP
  clear h hT hp
  go_enter Tryz.func15, Tryz.ntmps15
  go_wp2_with fail
  refine Calls.mono HP.out ?_
  rintro e w1 ⟨⟨v, rfl, hv⟩, hx1⟩
  obtain rfl : v = .nilIface := hv
  have HX := Lib.hid hx1
  clear hx1
  go_wp2
  go_ret2
  exact LinePost.same HL.out HX.out none
theorem cmd_iface {base : Nat} {w : World} {v : Value} {c : Cmd} (h : CmdAt base w v c) : ∃ t u, v = .iface t u := by
  cases c with
  | query => obtain ⟨s, h, _⟩ := h; exact ⟨_, _, h⟩
  | imp => obtain ⟨s, h, _⟩ := h; exact ⟨_, _, h⟩
  | create => exact ⟨_, _, h⟩
  | window => exact ⟨_, _, h⟩
  | add => exact ⟨_, _, h⟩
  | tick => exact ⟨_, _, h⟩
  | pair => exact ⟨_, _, h⟩
/-- The text of what a command answers. -/
def repT : Rep → List UInt8
  | .done => [100, 111, 110, 101]
  | .handle h => [104, 97, 110, 100, 108, 101, 32] ++ Lib.itoa h
  | .number n => [110, 117, 109, 98, 101, 114, 32] ++ Lib.itoa n
  | .key k => [107, 101, 121, 32] ++ Lib.decDigits k.toNat
  | .wide x => [119, 105, 100, 101, 32] ++ Lib.itoa x
  | .list D => [108, 105, 115, 116] ++ D.flatMap fun f => [32] ++ Lib.itoa f.1 ++ [58] ++ Lib.decDigits f.2.1.toNat ++ [58] ++ Lib.itoa f.2.2
  | .bytes bs => [98, 121, 116, 101, 115, 32] ++ bs.flatMap fun b => [hexDigs.getD (b / 16).toNat 0, hexDigs.getD (b % 16).toNat 0]
def ansT (r : Option Rep × Int) : List UInt8 := if r.2 = 0 then (match r.1 with | some x => repT x | none => []) else errT r.2
/-- A line whose command is done. -/
theorem ALine_cmd {w : World} {N p m : Nat} {l : List (Nat × Th)} {last : Nat} (h : AgAt w N p m l last) (hN : 10 ≤ N) (hT : Tabs w) (s : ByteArray) (hs : s.size ≤ 100000000) {c : Cmd} {at_ : Int} (hp : parseS s = (some c, at_, 0)) {R : (Option Rep × Int) × St} (hR : R.1.2 = 0 → ∃ x, R.1.1 = some x) (hR2 : I64 R.1.2)
    (hdo : ∀ w1 v, Ext w w1 → CmdAt w.heap.size w1 v c → Calls Tryz.prog 43 #[.pointer (some ⟨p, 0, none⟩), v] w1 (DoPost w1 N p m l last R))
    (htx : ∀ x base w1 v, R.1.1 = some x → RepAt base w1 v x → Tabs w1 → Calls Tryz.prog 46 #[v] w1 fun e w' => e = .returned (strV (repT x)) ∧ Ext w1 w') :
    Calls Tryz.prog 15 #[.pointer (some ⟨p, 0, none⟩), .string s] w (LinePost w N p m l last (some (ansT R.1), R.2)) := by
  have HL := Lib.hid h
  have HP := Lib.hid (Parse_c s hs w hT)
  rw [hp] at HP
  have HT := Lib.hid hT
  have HD := Lib.hid hdo
  have HX0 := Lib.hid htx
  clear h hT hp hdo htx
  obtain ⟨⟨ro, er⟩, S'⟩ := R
  dsimp only at hR hR2
  go_enter Tryz.func15, Tryz.ntmps15
  go_wp2_with fail
  refine Calls.mono HP.out ?_
  rintro e w1 ⟨⟨v, rfl, hv⟩, hx1⟩
  have HV := Lib.hid hv
  obtain ⟨t, u, rfl⟩ := cmd_iface (show CmdAt w.heap.size w1 v c from hv)
  have HX := Lib.hid hx1
  clear hx1 hv
  go_wp2_with fail
  refine Calls.mono (HD.out _ _ HX.out HV.out) ?_
  intro e w2 h5
  have h6 := h5.back HX.out
  obtain ⟨⟨v2, l', last', rfl, h7, h8, h9, h10⟩, h11⟩ := h5
  have H6 := Lib.hid h6
  have H7 := Lib.hid h7
  have H8 := Lib.hid h8
  have H9 := Lib.hid h9
  have HT2 := Lib.hid ((HL.out.ext HX.out).tabs hN (HT.out.ext HX.out) h11)
  clear h6 h7 h8 h9 h10 h11
  by_cases h0 : er = 0
  · obtain ⟨x, rfl⟩ := hR h0
    subst h0
    go_wp2_with fail
    refine Calls.mono (HX0.out x _ _ _ rfl H7.out HT2.out) ?_
    rintro e w3 ⟨rfl, hx3⟩
    obtain ⟨⟨_, l2, last2, _, _, g3, g4, g5⟩, g6⟩ := H6.out
    have G := Lib.hid (show LinePost w N p m l last (some (ansT (some x, 0)), S') (.returned (.tuple #[strV (repT x), .bool true])) w3 from ⟨⟨l2, last2, rfl, g3.ext hx3, g4, g5⟩, g6.extR hx3⟩)
    clear hx3 g3 g4 g5 g6
    go_wp2
    go_ret2
    exact G.out
  · have hn : (er != 0) = true := by simpa using h0
    go_wp2_with fail
    refine Calls.mono (Error_c er hR2 _ HT2.out) ?_
    rintro e w3 ⟨rfl, hx3⟩
    obtain ⟨⟨_, l2, last2, _, _, g3, g4, g5⟩, g6⟩ := H6.out
    have G := Lib.hid (show LinePost w N p m l last (some (ansT (ro, er)), S') (.returned (.tuple #[strV (errT er), .bool true])) w3 from ⟨⟨l2, last2, by unfold ansT; rw [if_neg h0]; rfl, g3.ext hx3, g4, g5⟩, g6.extR hx3⟩)
    clear hx3 g3 g4 g5 g6
    go_wp2
    go_ret2
    exact G.out
end Go.Proofs.YtmalncfcgcebhaaGreatDoor
namespace Go.Proofs.YtmalncfcgcebhaaGreatDoor
set_option linter.unusedVariables false
open Go.Proofs Go.RowKit
/-- What the iterator hands out, round by round; between two rounds J holds, and abides the iterator's own cell. -/
def CellSeq (P : Program) (n gf : Nat) (lb : Array Value) (arg : Nat → Value → Prop) (many : Nat) (bx : Nat → Prop) (Bs : Nat) (w : World) : Prop :=
  ∀ (l : Nat) (J : Nat → World → Prop) (W : World), (∀ b, bx b → W.heap[b]? = w.heap[b]?) → (∀ k W v, J k W → J k (W.setCell ⟨Bs, 0, none⟩ v)) →
    (∀ k x W1, J k W1 → k < many → arg k x → YieldAt Fence.wide (n - 1) P l #[x] W1 fun e W' => e = .returned (.bool true) ∧ J (k + 1) W' ∧ ∀ b, bx b → W'.heap[b]? = W1.heap[b]?) →
    J 0 W → CallsIn Fence.wide n P gf (#[.func (.yield l) #[] #[]] ++ lb) W fun e W' => (∃ v, e = .returned v) ∧ J many W'
theorem cells_not {W : World} {b l : Nat} {cur : Array Value} {t : TypeId} {f : Nat × Nat} {o : Obj} (h : W.heap[b]? = some (.cells cur t f)) (hl : W.heap[l]? = some o) (ho : o.isCells = false) : b ≠ l := by
  rintro rfl
  rw [h] at hl
  cases hl
  cases ho
theorem put_other (W : World) {b l : Nat} (o : Obj) (h : b ≠ l) : (W.putObj l o).heap[b]? = W.heap[b]? := World.putObj_heap_other h
theorem wpIn_range_cells {P : Program} {n : Nat} {g : Operand} {p : Tmp} {assign body : Code} {Q : Exit → Act → World → Prop} {a : Act} {w : World} (h1 : 1 ≤ n) {gf : Nat} {lb : Array Value}
    (hg : a.eval g = .func (.func gf) #[] lb) (eg : ∀ args w, (callFunc gf args).run P w = .ok (.enter gf args) w) {arg : Nat → Value → Prop} {many : Nat} {bx : Nat → Prop} {Bs : Nat} (hbx : ∀ b, bx b → b < w.heap.size) (hBs : Bs < w.heap.size)
    (hseq : CellSeq P (n - 1) gf lb arg many bx Bs w) (I : Nat → World → Prop) (h0 : I 0 w)
    (hI1 : ∀ k W v, I k W → I k (W.setCell ⟨Bs, 0, none⟩ v)) (hI2 : ∀ k W o, I k W → I k (W.alloc o)) (hI3 : ∀ k W l o o', I k W → w.heap.size ≤ l → W.heap[l]? = some o → o.isCells = false → I k (W.putObj l o')) (a₁ : Value → Act)
    (hassign : ∀ (l : Nat) (x : Value) (W : World) (K : Act → World → Prop), K (a₁ x) W →
      assign.wpIn (Fence.wide.inRound l) (n - 1 - 1) P (Exit.then K (fun _ _ _ => False)) { tmps := (#[p].zip #[x]).foldl (fun t (p, v) => t.setIfInBounds p v) a.tmps, defers := [] } W)
    (hbody : ∀ (l k : Nat) (x : Value) (W : World), I k W → k < many → arg k x →
      body.wpIn (Fence.wide.inRound l) (n - 1 - 1) P (fun e a' W' => e = .normal ∧ KeepsFrom w.heap.size W W' ∧ I (k + 1) W' ∧ ∀ b, bx b → W'.heap[b]? = W.heap[b]?) (a₁ x) W)
    (hdone : ∀ (D : Nat) (W : World), w.heap.size ≤ D → I many W → W.heap[D]? = some (.deferred (some [])) → Q .normal { a with defers := { target := .collected D, args := #[] } :: a.defers } W) :
    (Code.rangeFunc g #[p] assign body).wpIn Fence.wide n P Q a w := by
  refine wpIn_rangeFunc ?_
  intro fn hfn
  obtain ⟨rec, hrec⟩ : ∃ rec : LoopState → Option Code → Loop, rec = fun st pe => { state := st, pending := pe, fn, tmps := a.tmps, params := #[p], assign, body, defers := w.heap.size } := ⟨_, rfl⟩
  obtain ⟨W1, hW1⟩ : ∃ W1, (w.alloc (.deferred (some []))).alloc (.loop (rec .ready none)) = W1 := ⟨_, rfl⟩
  have hL1 : W1.heap[w.heap.size + 1]? = some (.loop (rec .ready none)) := by rw [← hW1]; exact heap_at _ _ (by simp)
  have hK1 : W1.heap[w.heap.size]? = some (.deferred (some [])) := by rw [← hW1, heap_old _ _ (by simp)]; exact heap_at _ _ rfl
  refine ⟨w.heap.size + 1, [{ target := .collected w.heap.size, args := #[] }], W1, { target := .fn (.func gf) lb, args := #[.func (.yield (w.heap.size + 1)) #[] #[]] }, W1, gf,
    #[.func (.yield (w.heap.size + 1)) #[] #[]] ++ lb, W1, ?_, ?_, fun _ _ => trivial, ?_, fun _ => h1, ?_⟩
  · rw [← hW1, hrec]; exact run_enterLoop_outer _ _ _ _ _
  · simp only [resolve, hg]
    simp [go_sem]
  · simp [invoke, go_sem, eg]
  refine (hseq (w.heap.size + 1) (fun k W => I k W ∧ W.heap[w.heap.size + 1]? = some (.loop (rec .ready none)) ∧ W.heap[w.heap.size]? = some (.deferred (some []))) W1 ?_ ?_ ?_ ⟨?_, hL1, hK1⟩).mono ?_
  · intro b hb
    have := hbx b hb
    rw [← hW1, heap_old _ _ (by simp; omega), heap_old _ _ this]
  · rintro k W v ⟨h2, h3, h4⟩
    exact ⟨hI1 k W v h2, (setCell_other _ _ (by omega)).trans h3, (setCell_other _ _ (by omega)).trans h4⟩
  · rintro k x W ⟨hi, hl, hk⟩ hlt hx
    have hy := run_yield (P := P) (args := #[x]) hl (by rw [hrec]; rfl)
    rw [hrec] at hy
    refine ⟨fn, _, assign, body, hy, roundIn_of_wpIn hfn (hassign _ x W _ ?_)⟩
    refine ⟨_, run_beginRound hl (by rw [hrec]), ?_⟩
    have hl2 : (W.putObj (w.heap.size + 1) (.loop { rec .ready none with state := .busy })).heap[w.heap.size + 1]? = some (.loop { rec .ready none with state := .busy }) := World.putObj_heap_same (lt_of hl)
    have hk2 : (W.putObj (w.heap.size + 1) (.loop { rec .ready none with state := .busy })).heap[w.heap.size]? = some (.deferred (some [])) := (put_other _ _ (by omega)).trans hk
    refine wpIn_mono (hbody _ k x _ (hI3 k W _ _ _ hi (by omega) hl rfl) hlt hx) ?_
    rintro e a3 W3 ⟨rfl, hkf, hi3, hb3⟩
    have hl3 := hkf.same _ _ (by omega) hl2 rfl
    have hk3 := hkf.same _ _ (Nat.le_refl _) hk2 rfl
    have hr := run_endRound (P := P) none hl3
    refine ⟨_, _, hr, rfl, ⟨hI3 _ _ _ _ _ hi3 (by omega) hl3 rfl, ?_, (put_other _ _ (by omega)).trans hk3⟩, fun b hb => ?_⟩
    · rw [hrec]
      rw [hrec] at hl3
      exact World.putObj_heap_same (lt_of hl3)
    · have := hbx b hb
      exact (put_other _ _ (by omega)).trans ((hb3 b hb).trans (put_other _ _ (by omega)))
  · rw [← hW1]; exact hI2 _ _ _ (hI2 _ _ _ h0)
  · rintro e W2 ⟨⟨v, rfl⟩, hi, hl, hk⟩
    exact ⟨none, _, by have := run_endLoop (P := P) hl (by rw [hrec]; simp); rw [hrec] at this; exact this, hdone _ _ (Nat.le_refl _) (hI3 _ _ _ _ _ hi (by omega) hl rfl) ((put_other _ _ (by omega)).trans hk)⟩
end Go.Proofs.YtmalncfcgcebhaaGreatDoor
namespace Go.Proofs.YtmalncfcgcebhaaGreatDoor
set_option linter.unusedVariables false
open Go.Proofs Go.RowKit
attribute [local go_sem] Oper.semAt_some
/-- The lines of a text. -/
def splitL : List UInt8 → List (List UInt8)
  | [] => [[]]
  | c :: r => if c = 10 then [] :: splitL r else (c :: (splitL r).headD []) :: (splitL r).tail
theorem splitL_ne (l : List UInt8) : splitL l ≠ [] := by
  cases l with
  | nil => simp [splitL]
  | cons c r => unfold splitL; split <;> simp
theorem splitL_app (l r : List UInt8) : splitL (l ++ 10 :: r) = splitL l ++ splitL r := by
  induction l with
  | nil => simp [splitL]
  | cons c l ih =>
    rw [List.cons_append, splitL, splitL, ih]
    by_cases h : c = 10
    · rw [if_pos h, if_pos h]; rfl
    · rw [if_neg h, if_neg h]
      obtain ⟨x, t, e⟩ : ∃ x t, splitL l = x :: t := by
        cases hs : splitL l with
        | nil => exact absurd hs (splitL_ne l)
        | cons x t => exact ⟨x, t, rfl⟩
      rw [e]
      rfl
theorem ixb_ge (c : UInt8) : ∀ l : List UInt8, -1 ≤ Lib.indexByte l c
  | [] => by simp [Lib.indexByte]
  | b :: l => by
    have := ixb_ge c l
    unfold Lib.indexByte
    split
    · omega
    · split <;> omega
theorem ixb_eq (c : UInt8) (l : List UInt8) : Lib.indexByte (c :: l) 10 = if c = 10 then 0 else if Lib.indexByte l 10 < 0 then -1 else Lib.indexByte l 10 + 1 := by
  have h1 := ixb_ge 10 l
  show (if (c == 10) = true then (0 : Int) else if (Lib.indexByte l 10 == -1) = true then -1 else Lib.indexByte l 10 + 1) = _
  by_cases hc : c = 10
  · rw [if_pos (by simpa using hc), if_pos hc]
  · rw [if_neg (by simpa using hc), if_neg hc]
    by_cases h2 : Lib.indexByte l 10 < 0
    · rw [if_pos (by simp; omega), if_pos h2]
    · rw [if_neg (by simp; omega), if_neg h2]
theorem splitL_none {l : List UInt8} (h : Lib.indexByte l 10 < 0) : splitL l = [l] := by
  induction l with
  | nil => rfl
  | cons c l ih =>
    rw [ixb_eq] at h
    by_cases hc : c = 10
    · subst hc; simp at h
    · rw [if_neg hc] at h
      have h2 : Lib.indexByte l 10 < 0 := by
        by_cases h3 : Lib.indexByte l 10 < 0
        · exact h3
        · rw [if_neg h3] at h; omega
      rw [splitL, if_neg hc, ih h2]
      rfl
theorem indexByte_split {l : List UInt8} {j : Nat} (h : Lib.indexByte l 10 = (j : Int)) : ∃ a b, l = a ++ 10 :: b ∧ a.length = j ∧ ∀ c ∈ a, c ≠ 10 := by
  induction l generalizing j with
  | nil => simp [Lib.indexByte] at h
  | cons c l ih =>
    rw [ixb_eq] at h
    by_cases hc : c = 10
    · rw [if_pos hc] at h
      exact ⟨[], l, by rw [hc]; rfl, by simp; omega, by simp⟩
    · rw [if_neg hc] at h
      by_cases h3 : Lib.indexByte l 10 < 0
      · rw [if_pos h3] at h; omega
      · rw [if_neg h3] at h
        obtain ⟨a, b, h4, h5, h6⟩ := ih (j := j - 1) (by omega)
        refine ⟨c :: a, b, by rw [h4]; rfl, by simp; omega, fun d hd => ?_⟩
        rcases List.mem_cons.1 hd with rfl | hd
        · exact hc
        · exact h6 d hd
theorem splitL_word {a : List UInt8} (h : ∀ c ∈ a, c ≠ 10) : splitL a = [a] := by
  induction a with
  | nil => rfl
  | cons c a ih =>
    rw [splitL, if_neg (h c (by simp)), ih (fun d hd => h d (by simp [hd]))]
    rfl
theorem splitL_some {l : List UInt8} {j : Nat} (h : Lib.indexByte l 10 = (j : Int)) : j < l.length ∧ splitL l = l.take j :: splitL (l.drop (j + 1)) := by
  obtain ⟨a, b, rfl, rfl, h6⟩ := indexByte_split h
  refine ⟨by simp, ?_⟩
  rw [splitL_app, splitL_word h6]
  simp
theorem SIxByte_c (s : ByteArray) (c : Int) (w : World) :
    Calls Tryz.prog 162 #[.string s, .int .u8 c] w fun e w' => e = .returned (.int .i64 (Lib.indexByte s.data.toList c.toNat.toUInt8)) ∧ w' = w := Any.stringslite_IndexByte { Tryz.ixbL with } s c w
set_option maxRecDepth 20000 in
set_option maxHeartbeats 4000000 in
theorem SIndex_c (s : ByteArray) (w : World) :
    Calls Tryz.prog 203 #[.string s, .string ⟨#[10]⟩] w fun e w' => e = .returned (.int .i64 (Lib.indexByte s.data.toList 10)) ∧ w' = w := by
  by_cases hs : s = ⟨#[10]⟩
  · subst hs
    go_enter Tryz.func203, Tryz.ntmps203
    go_wp2_with fail
    go_ret
    exact ⟨rfl, rfl⟩
  · have hbe : (([10] : List UInt8) == s.toList) = false := by
      rw [beq_eq_false_iff_ne]
      intro e
      have h2 : s = ⟨s.toList.toArray⟩ := by rw [Lib.toList_data]
      rw [← e] at h2
      exact hs h2
    have hc0 : (⟨#[10]⟩ : ByteArray)[0].toNat = 10 := rfl
    go_enter Tryz.func203, Tryz.ntmps203
    go_wp2_with fail
    refine Calls.mono (SIxByte_c s _ w) ?_
    rintro e w1 ⟨rfl, rfl⟩
    go_wp2
    go_ret
    exact ⟨rfl, rfl⟩
theorem Index_c (s : ByteArray) (w : World) :
    Calls Tryz.prog 160 #[.string s, .string ⟨#[10]⟩] w fun e w' => e = .returned (.int .i64 (Lib.indexByte s.data.toList 10)) ∧ w' = w := by
  have HS := Lib.hid (SIndex_c s w)
  go_enter Tryz.func160, Tryz.ntmps160
  go_wp2_with fail
  refine Calls.mono HS.out ?_
  rintro e w1 ⟨rfl, rfl⟩
  go_wp2
  go_ret
  exact ⟨rfl, rfl⟩
theorem SplitSeq_c (s : ByteArray) (w : World) :
    Calls Tryz.prog 77 #[.string s, .string ⟨#[10]⟩] w fun e w' => e = .returned (.func (.func 159) #[] #[.pointer (some ⟨w.heap.size + 1, 0, none⟩), .pointer (some ⟨w.heap.size, 0, none⟩), .pointer (some ⟨w.heap.size + 2, 0, none⟩)]) ∧
      w' = ((w.alloc (.cells #[.string s] 9)).alloc (.cells #[.string ⟨#[10]⟩] 9)).alloc (.cells #[.int .i64 0] 3) := by
  have hmf : ∀ (fn : Fn) (first cap : Array Value) (w : World), (Instr.makeFunc fn first cap).run Tryz.prog w = .ok (.func fn first cap) w := fun _ _ _ _ => rfl
  go_enter Tryz.func77, Tryz.ntmps77
  go_wp2
  go_ret
  exact ⟨rfl, rfl⟩
def bx3 (a b c : Nat) (k : Nat) : Prop := k = a ∨ k = b ∨ k = c
/-- What is left of a text, in the iterator's cell. -/
def leftS (Bs : Nat) (W : World) : Nat := match W.cell? ⟨Bs, 0, none⟩ with | some (.string s) => s.size | _ => 0
set_option maxRecDepth 100000 in
set_option maxHeartbeats 4000000 in
theorem split_in (n Bq Bs Bv : Nat) (t : ByteArray) (ht : t.size ≤ 100000000) (w : World) (hq : w.heap[Bq]? = some (.cells #[.string ⟨#[10]⟩] 9 (0, 0))) (hs : w.heap[Bs]? = some (.cells #[.string t] 9 (0, 0))) (hv : w.heap[Bv]? = some (.cells #[.int .i64 0] 3 (0, 0))) (nq : Bq ≠ Bs) (nv : Bv ≠ Bs) :
    CellSeq Tryz.prog n 159 #[.pointer (some ⟨Bq, 0, none⟩), .pointer (some ⟨Bs, 0, none⟩), .pointer (some ⟨Bv, 0, none⟩)] (fun k x => ∃ s : ByteArray, x = .string s ∧ (splitL t.data.toList)[k]? = some s.data.toList) (splitL t.data.toList).length (bx3 Bq Bs Bv) Bs w := by
  intro l J W hbx hJ hY h0
  have hq := (hbx Bq (.inl rfl)).trans hq
  have hs := (hbx Bs (.inr (.inl rfl))).trans hs
  have hv := (hbx Bv (.inr (.inr rfl))).trans hv
  refine callsIn_of_wp Tryz.func159 rfl trivial ?_ rfl
  simp only [Tryz.ntmps159, List.size_toArray, List.length_cons, List.length_nil, Nat.reduceAdd, Nat.reduceSub, Array.replicate_succ, Array.replicate_zero, List.push_toArray, List.append_toArray, List.nil_append, List.cons_append]
  have c0 := (cell_of hq 0).trans rfl
  gi_wp2
  gi_loopw [7, 8] (fun _ _ wr => ∃ (s : ByteArray) (pre : List (List UInt8)), splitL t.data.toList = pre ++ splitL s.data.toList ∧ s.size ≤ t.size ∧ wr.heap[Bq]? = some (.cells #[.string ⟨#[10]⟩] 9 (0, 0)) ∧ wr.heap[Bs]? = some (.cells #[.string s] 9 (0, 0)) ∧ wr.heap[Bv]? = some (.cells #[.int .i64 0] 3 (0, 0)) ∧ J pre.length wr)
    (fun _ _ wr => leftS Bs wr)
  case atStart => exact ⟨t, [], rfl, Nat.le_refl _, hq, hs, hv, h0⟩
  case round =>
    obtain ⟨s, pre, hp, hz, rq, rs, rv, hJ0⟩ := hrel
    have q0 := (cell_of rq 0).trans rfl
    have s0 := (cell_of rs 0).trans rfl
    have sf := frozen_of rs 0
    have sl := lt_of rs
    have v0 := (cell_of rv 0).trans rfl
    have HL : leftS Bs wr = s.size := by unfold leftS; rw [show wr.cell? ⟨Bs, 0, none⟩ = some (.string s) from s0]
    have HP := Lib.hid hp
    have HLL := Lib.hid HL
    have hzs := Lib.size_eq s
    gi_wp2_with fail
    refine ⟨trivial, fun h => (by cases h), (callsIn_wide.2 (Index_c s _)).mono ?_⟩
    rintro e w1 ⟨rfl, rfl⟩
    by_cases hlt : Lib.indexByte s.data.toList 10 < 0
    · have hsp := splitL_none hlt
      rw [hsp] at hp
      have HP2 := Lib.hid hp
      have hlen : (splitL t.data.toList).length = pre.length + 1 := by rw [hp]; simp
      obtain ⟨fn, tmps, assign, body, hy, hR⟩ := hY pre.length (.string s) w1 hJ0 (by omega) ⟨s, rfl, by rw [hp]; simp⟩
      generalize Lib.indexByte s.data.toList 10 = ix at *
      clear hp hsp
      gi_wp2
      refine ⟨fun h => (by cases h), hR.mono ?_⟩
      rintro e W3 ⟨rfl, hJ3, hb3⟩
      gi_wp2
      go_end0
      rw [hlen]
      exact ⟨⟨_, rfl⟩, hJ3⟩
    · obtain ⟨j, hj⟩ : ∃ j : Nat, Lib.indexByte s.data.toList 10 = (j : Int) := ⟨(Lib.indexByte s.data.toList 10).toNat, by omega⟩
      obtain ⟨hjl, hsp⟩ := splitL_some hj
      rw [hj]
      rw [hsp] at hp
      have hlen : (splitL t.data.toList).length = pre.length + 1 + (splitL (s.data.toList.drop (j + 1))).length := by rw [hp]; simp; omega
      have hpos := List.length_pos_iff.2 (splitL_ne (s.data.toList.drop (j + 1)))
      obtain ⟨fn, tmps, assign, body, hy, hR⟩ := hY pre.length (.string (s.extract 0 j)) w1 hJ0 (by omega) ⟨_, rfl, by rw [hp, Lib.extract_data]; simp⟩
      have HP2 := Lib.hid hp
      have hjs : (j : Int) ≤ (s.size : Int) := by omega
      have hsl : ∀ W, (Instr.slice 9 (.string s) none (some (.int .i64 (j : Int))) none).run Tryz.prog W = .ok (.string (s.extract 0 j)) W := fun W => by
        rw [run_slice_string_to_if (w := W) 9 s .i64 _ Tryz.underlying9, if_pos ⟨by omega, by omega⟩]; rfl
      obtain ⟨m, hm⟩ : ∃ m : Nat, (j : Int) + 1 = (m : Int) := ⟨j + 1, by omega⟩
      have hmj : m = j + 1 := by omega
      have hms : (m : Int) ≤ (s.size : Int) := by omega
      have hmt : (m : Int).toNat = m := by omega
      have hsl2 : ∀ W, (Instr.slice 9 (.string s) (some (.int .i64 (m : Int))) none none).run Tryz.prog W = .ok (.string (s.extract m s.size)) W := fun W => by
        rw [run_slice_string_from_if (w := W) 9 s .i64 _ Tryz.underlying9, if_pos ⟨by omega, by omega⟩]; rfl
      have HMJ := Lib.hid hmj
      clear hp hsp hj hlt hjl hpos hmj
      gi_wp2
      refine ⟨fun h => (by cases h), hR.mono ?_⟩
      rintro e W3 ⟨rfl, hJ3, hb3⟩
      have rq3 := (hb3 Bq (.inl rfl)).trans rq
      have rs3 := (hb3 Bs (.inr (.inl rfl))).trans rs
      have rv3 := (hb3 Bv (.inr (.inr rfl))).trans rv
      have q0' := (cell_of rq3 0).trans rfl
      have s0' := (cell_of rs3 0).trans rfl
      have sf' := frozen_of rs3 0
      have sl' := lt_of rs3
      have HJ3 := Lib.hid hJ3
      have HRQ := Lib.hid rq3
      have HRS := Lib.hid rs3
      have HRV := Lib.hid rv3
      have v0' := (cell_of rv3 0).trans rfl
      clear q0 s0 sf sl v0 hb3 hJ3 hR hy rq rs rv hq hs hv hJ0 rq3 rs3 rv3 HL
      gi_wp2
      refine ⟨fun _ _ => trivial, ?_⟩
      simp [go_sem, Oper.semAt, execOp, hsl2]
      gi_wp2
      refine ⟨fun _ _ => trivial, ?_⟩
      simp [go_sem, Oper.semAt, execOp, s0', sf']
      gi_wp2
      go_roundw
      case rel =>
        refine ⟨s.extract m s.size, pre ++ [s.data.toList.take j], ?_, ?_, (setCell_other _ _ nq).trans HRQ.out, setCell_same HRS.out 0 _, (setCell_other _ _ nv).trans HRV.out, ?_⟩
        · rw [HP2.out, Lib.extract_data, HMJ.out]
          have : (s.data.toList.drop (j + 1)).take (s.size - (j + 1)) = s.data.toList.drop (j + 1) := List.take_of_length_le (by rw [List.length_drop, ← hzs]; omega)
          rw [this]; simp
        · have := Lib.size_eq (s.extract m s.size)
          rw [Lib.extract_data, List.length_take, List.length_drop] at this
          have := HMJ.out
          omega
        · rw [List.length_append, List.length_singleton]
          exact hJ _ _ _ HJ3.out
      case measure =>
        have e1 : leftS Bs (W3.setCell ⟨Bs, 0, none⟩ (.string (s.extract m s.size))) = (s.extract m s.size).size := by
          unfold leftS
          rw [show (W3.setCell ⟨Bs, 0, none⟩ (.string (s.extract m s.size))).cell? ⟨Bs, 0, none⟩ = some (.string (s.extract m s.size)) from (cell_of (setCell_same HRS.out 0 _) 0).trans rfl]
        rw [e1, HLL.out]
        have := Lib.size_eq (s.extract m s.size)
        rw [Lib.extract_data, List.length_take, List.length_drop] at this
        have := HMJ.out
        omega
end Go.Proofs.YtmalncfcgcebhaaGreatDoor
namespace Go.Proofs.YtmalncfcgcebhaaGreatDoor
set_option linter.unusedVariables false
open Go.Proofs Go.RowKit
attribute [local go_sem] Oper.semAt_some
/-- What a line answers in a state, and leaves. -/
def LineIs (S : St) (s : ByteArray) (R : Option (List UInt8) × St) : Prop :=
  ∀ (w : World) (N p m : Nat) (l : List (Nat × Th)) (last : Nat), AgAt w N p m l last → stOf l last = S → 10 ≤ N → Tabs w → last < 1000000 → Calls Tryz.prog 15 #[.pointer (some ⟨p, 0, none⟩), .string s] w (LinePost w N p m l last R)
def stepR (F : St → List UInt8 → Option (List UInt8) × St) (q : List (List UInt8) × St) (x : List UInt8) : List (List UInt8) × St := (q.1 ++ (F q.2 x).1.toList, (F q.2 x).2)
/-- What lines answer, one behind the other, and what is left. -/
def runK (F : St → List UInt8 → Option (List UInt8) × St) (S : St) (L : List (List UInt8)) : List (List UInt8) × St := L.foldl (stepR F) ([], S)
theorem runK_snoc (F : St → List UInt8 → Option (List UInt8) × St) (S : St) (L : List (List UInt8)) (x : List UInt8) : runK F S (L ++ [x]) = stepR F (runK F S L) x := by unfold runK; rw [List.foldl_append]; rfl
def st0 : St := ⟨[], 0⟩
def strVs (l : List (List UInt8)) : List Value := l.map strV
/-- Replies in a box. -/
def OutAt (n0 Bo : Nat) (o : List (List UInt8)) (W : World) : Prop := ∃ v, W.heap[Bo]? = some (.cells #[v] 75 (0, 0)) ∧ W.ownsRow n0 9 1 v o.length (strVs o)
structure RunI (n0 r0 p m Ba Bo : Nat) (q : List (List UInt8) × St) (w W : World) : Prop where
  ag : ∃ l last, AgAt W n0 p m l last ∧ stOf l last = q.2
  ba : W.heap[Ba]? = some (.cells #[.pointer (some ⟨p, 0, none⟩)] 32 (0, 0))
  out : OutAt r0 Bo q.1 W
  ext : Ext w W
theorem own_keep {w w' : World} {B n size : Nat} {e : TypeId} {v : Value} {xs : List Value} (h : w.ownsRow B e size v n xs) (hk : ∀ g, v.ownBlock = some g → w'.heap[g]? = w.heap[g]?) : w'.ownsRow B e size v n xs := by
  obtain ⟨h1, h2⟩ := h
  refine ⟨h1, ?_⟩
  rcases h2 with h2 | ⟨g, cap, cur, rfl, hb, hh, h3⟩
  · exact .inl h2
  · exact .inr ⟨g, cap, cur, rfl, hb, (hk g rfl).trans hh, h3⟩
theorem own_typ {w : World} {B n size : Nat} {e : TypeId} {v : Value} {xs : List Value} (h : w.ownsRow B e size v n xs) {g : Nat} (hg : v.ownBlock = some g) : ∃ cur, w.heap[g]? = some (.cells cur e (0, 0)) := by
  rcases h.2 with ⟨rfl, _⟩ | ⟨g', cap, cur, rfl, _, hh, _⟩
  · cases hg
  · simp only [Value.ownBlock, Option.some.injEq] at hg
    subst hg
    exact ⟨cur, hh⟩
/-- A block of this type is none of an agg's. -/
theorem AgAt.notF {w : World} {N p m : Nat} {l : List (Nat × Th)} {last : Nat} (h : AgAt w N p m l last) {k : Nat} {cur : Array Value} {t : TypeId} {f : Nat × Nat} (hk : w.heap[k]? = some (.cells cur t f)) (h1 : t ≠ 2) (h2 : t ≠ 240) (h3 : t ≠ 40) (h4 : t ≠ 144) : ¬ AgF p m l k := by
  have key : ∀ {cur' : Array Value} {t' : TypeId} {f' : Nat × Nat}, w.heap[k]? = some (.cells cur' t' f') → t' = t := fun h' => by rw [h'] at hk; injection hk with hk; injection hk
  rintro (rfl | rfl | ⟨x, hx, hc⟩)
  · exact h4 (key h.hp).symm
  · obtain ⟨es, c, hm⟩ := h.ism
    rw [hm] at hk; cases hk
  · have hth := h.th x hx
    cases hxt : x.2 with
    | st kk C B =>
      rw [hxt] at hc hth
      obtain ⟨cu, h5⟩ := KAt.isc hth hc
      exact h1 (key h5).symm
    | wi p' b C B n sm bk =>
      rw [hxt] at hc hth
      obtain ⟨cap, s1, _⟩ := WAt.st hth
      obtain ⟨cu, s2, _⟩ := WAt.row hth
      rcases hc with rfl | rfl | hc | ⟨j, hj, hc⟩
      · exact h2 (key s1).symm
      · exact h3 (key s2).symm
      · obtain ⟨cu, h5⟩ := KAt.isc (WAt.sum hth) hc
        exact h1 (key h5).symm
      · obtain ⟨cu, h5⟩ := KAt.isc (WAt.bks hth j hj) hc
        exact h1 (key h5).symm
/-- What is written beside an agg leaves it. -/
theorem AgAt.beside {S : Nat → Prop} {w w' : World} {N p m : Nat} {l : List (Nat × Th)} {last : Nat} (h : AgAt w N p m l last) (hM : Mod S w w') (hS : ∀ k, S k → k < w.heap.size → ∃ cur t f, w.heap[k]? = some (.cells cur t f) ∧ (t = 9 ∨ t = 75)) : AgAt w' N p m l last := by
  refine h.keepS hM (fun k hk hl => ?_) (fun k hk hk2 => ?_)
  · obtain ⟨cur, t, f, h1, h2⟩ := hS k hk hl
    exact .inl ⟨cur, t, f, h1, .inr (.inr (.inr (.inr h2)))⟩
  · obtain ⟨cur, t, f, h1, h2⟩ := hS k hk2 (h.flt hk)
    exact h.notF h1 (by rcases h2 with rfl | rfl <;> decide) (by rcases h2 with rfl | rfl <;> decide) (by rcases h2 with rfl | rfl <;> decide) (by rcases h2 with rfl | rfl <;> decide) hk
theorem AgAt.putO {w : World} {N p m : Nat} {l : List (Nat × Th)} {last : Nat} (h : AgAt w N p m l last) {b : Nat} {o o' : Obj} (hb : w.heap[b]? = some o) (ho : o.isCells = false) (hm : b ≠ m) : AgAt (w.putObj b o') N p m l last := by
  have hM : Mod (fun k => k = b) w (w.putObj b o') := ⟨rfl, rfl, rfl, by simp [World.putObj], fun k hk hn => World.putObj_heap_other hn⟩
  refine h.keepS hM (fun k hk hl => by subst hk; exact .inr ⟨o, hb, ho⟩) (fun k hk hk2 => ?_)
  subst hk2
  rcases hk with rfl | rfl | ⟨x, hx, hc⟩
  · have := h.hp
    rw [hb] at this; cases this; cases ho
  · exact hm rfl
  · obtain ⟨cur, t, f, h1, _⟩ := (h.th x hx).csT hc
    rw [hb] at h1; cases h1; cases ho
theorem OutAt.keep {r0 Bo : Nat} {o : List (List UInt8)} {W W' : World} (h : OutAt r0 Bo o W) (hk : ∀ k, (∃ cur t f, W.heap[k]? = some (.cells cur t f) ∧ (t = 9 ∨ t = 75)) → k = Bo ∨ r0 ≤ k → W'.heap[k]? = W.heap[k]?) : OutAt r0 Bo o W' := by
  obtain ⟨v, h1, h2⟩ := h
  refine ⟨v, (hk Bo ⟨_, _, _, h1, .inr rfl⟩ (.inl rfl)).trans h1, own_keep h2 fun g hg => ?_⟩
  obtain ⟨cur, h3⟩ := own_typ h2 hg
  exact hk g ⟨cur, _, _, h3, .inl rfl⟩ (.inr (own_geB h2 hg))
/-- Behind a line. -/
theorem RunI.line {n0 r0 p m Ba Bo : Nat} {q : List (List UInt8) × St} {w W W' : World} (h : RunI n0 r0 p m Ba Bo q w W) (hn : w.heap.size ≤ n0) {l l' : List (Nat × Th)} {last last' : Nat} (hA : AgAt W n0 p m l last) (hM : Mod (AgF p m l) W W') (hA' : AgAt W' n0 p m l' last') {S' : St} (hs : stOf l' last' = S') : RunI n0 r0 p m Ba Bo (q.1, S') w W' := by
  refine ⟨⟨l', last', hA', hs⟩, hM.keep h.ba (hA.notF h.ba (by decide) (by decide) (by decide) (by decide)), h.out.keep fun k ⟨cur, t, f, h1, h2⟩ _ => hM.block k (lt_of h1) (hA.notF h1 ?_ ?_ ?_ ?_), Below.trans h.ext (hM.below h.ext.size fun k hk => Nat.le_trans hn (hA.flo hk))⟩
  all_goals (rcases h2 with rfl | rfl <;> decide)
/-- Behind an append to the replies. -/
theorem RunI.app {n0 r0 p m Ba Bo : Nat} {q : List (List UInt8) × St} {w W W' : World} {v v' : Value} {y : List UInt8} {c : Obj} (h : RunI n0 r0 p m Ba Bo q w W) (hr : w.heap.size ≤ r0) (hBo : w.heap.size ≤ Bo) (hba : Ba ≠ Bo) (hv : W.heap[Bo]? = some (.cells #[v] 75 (0, 0))) (hown : W.ownsRow r0 9 1 v q.1.length (strVs q.1))
    (hg : (W.alloc c).grownBy W' v.ownBlock) (hown' : W'.ownsRow r0 9 1 v' (q.1.length + 1) (strVs q.1 ++ [strV y])) : RunI n0 r0 p m Ba Bo (q.1 ++ [y], q.2) w (W'.setCell ⟨Bo, 0, none⟩ v') ∧ Mod (fun k => v.ownBlock = some k ∨ k = Bo) W (W'.setCell ⟨Bo, 0, none⟩ v') := by
  have hM1 : Mod (fun k => v.ownBlock = some k ∨ k = Bo) (W.alloc c) W' := ⟨hg.os, hg.tape, hg.output, hg.size, fun k hk hn => hg.block k hk (fun e => hn (.inl e.symm))⟩
  have hM2 : Mod (fun k => v.ownBlock = some k ∨ k = Bo) W' (W'.setCell ⟨Bo, 0, none⟩ v') := ⟨rfl, rfl, rfl, by rw [size_setCell]; exact Nat.le_refl _, fun k hk hn => setCell_other _ _ (fun e => hn (.inr e))⟩
  have hM : Mod (fun k => v.ownBlock = some k ∨ k = Bo) W (W'.setCell ⟨Bo, 0, none⟩ v') := (((Ext.alloc' W c).mod _).trans hM1).trans hM2
  have hne : ∀ g, v.ownBlock = some g → g ≠ Bo := fun g hg2 e => by
    obtain ⟨cur, h3⟩ := own_typ hown hg2
    subst e
    exact blk_ne h3 hv (by decide) rfl
  have hbo : W'.heap[Bo]? = some (.cells #[v] 75 (0, 0)) := by
    rw [hg.block Bo (by rw [size_alloc]; exact Nat.lt_succ_of_lt (lt_of hv)) (fun e => hne _ e.symm rfl), heap_old _ _ (lt_of hv)]
    exact hv
  have hbas : ¬ (v.ownBlock = some Ba ∨ Ba = Bo) := by
    rintro (e | e)
    · obtain ⟨cur, h3⟩ := own_typ hown e
      exact blk_ne h3 h.ba (by decide) rfl
    · exact hba e
  refine ⟨⟨?_, hM.keep h.ba hbas, ⟨v', setCell_same hbo 0 _, ?_⟩, ?_⟩, hM⟩
  · obtain ⟨l, last, h1, h2⟩ := h.ag
    refine ⟨l, last, h1.beside hM fun k hk _ => ?_, h2⟩
    rcases hk with hk | rfl
    · obtain ⟨cur, h3⟩ := own_typ hown hk
      exact ⟨cur, _, _, h3, .inl rfl⟩
    · exact ⟨_, _, _, hv, .inr rfl⟩
  · have e1 : strVs (q.1 ++ [y]) = strVs q.1 ++ [strV y] := by simp [strVs]
    rw [e1, List.length_append, List.length_singleton]
    refine own_keep hown' fun g hg2 => setCell_other _ _ (fun e => ?_)
    obtain ⟨cur, h3⟩ := own_typ hown' hg2
    subst e
    exact blk_ne h3 hbo (by decide) rfl
  · refine Below.trans h.ext (hM.below h.ext.size fun k hk => ?_)
    rcases hk with hk | rfl
    · exact Nat.le_trans hr (own_geB hown hk)
    · exact hBo
theorem KeepsFrom.modC {S : Nat → Prop} {B : Nat} {W W' : World} (h : Mod S W W') (hS : ∀ k o, S k → B ≤ k → W.heap[k]? = some o → o.isCells = true) : KeepsFrom B W W' :=
  ⟨h.size, fun k o hB hk ho => (h.block k (lt_of hk) (fun hs => by rw [hS k o hs hB hk] at ho; cases ho)).trans hk⟩
theorem AgAt.cellsF {w : World} {N p m : Nat} {l : List (Nat × Th)} {last : Nat} (h : AgAt w N p m l last) {k : Nat} {o : Obj} (hk : AgF p m l k) (hm : k ≠ m) (ho : w.heap[k]? = some o) : o.isCells = true := by
  rcases hk with rfl | rfl | ⟨x, hx, hc⟩
  · have := h.hp
    rw [ho] at this; cases this; rfl
  · exact absurd rfl hm
  · obtain ⟨cur, t, f, h1, _⟩ := (h.th x hx).csT hc
    rw [ho] at h1; cases h1; rfl
end Go.Proofs.YtmalncfcgcebhaaGreatDoor
namespace Go.Proofs.YtmalncfcgcebhaaGreatDoor
set_option linter.unusedVariables false
open Go.Proofs Go.RowKit
attribute [local go_sem] Oper.semAt_some
theorem info_str : ∃ i, Tryz.prog.info? 9 = some i ∧ i.zero = some (.string ⟨#[]⟩) ∧ i.size = 1 ∧ i.bytes = 16 := by
  obtain ⟨i, h1, h2, h3, h4⟩ := info_parts (by kernel_rfl : (Tryz.prog.info? 9).map (fun i => (i.zero, i.size, i.bytes)) = some (some (.string ⟨#[]⟩), 1, 16))
  exact ⟨i, h1, h2, h3, h4⟩
theorem splitL_len (l : List UInt8) : (splitL l).length ≤ l.length + 1 := by
  induction l with
  | nil => simp [splitL]
  | cons c l ih =>
    unfold splitL
    split
    · simp; omega
    · simp; omega
theorem runK_len (F : St → List UInt8 → Option (List UInt8) × St) (S : St) (L : List (List UInt8)) : (runK F S L).1.length ≤ L.length := by
  have key : ∀ (L : List (List UInt8)) (q : List (List UInt8) × St), (L.foldl (stepR F) q).1.length ≤ q.1.length + L.length := by
    intro L
    induction L with
    | nil => intro q; simp
    | cons x L ih =>
      intro q
      rw [List.foldl_cons]
      have := ih (stepR F q x)
      have h2 : (stepR F q x).1.length ≤ q.1.length + 1 := by
        unfold stepR
        rw [List.length_append]
        cases (F q.2 x).1 <;> simp
      rw [List.length_cons]
      omega
  have := key L ([], S)
  simpa [runK] using this
/-- The iterator's own three boxes stand. -/
structure BoxI (Bq Bs Bv n : Nat) (W : World) : Prop where
  q : ∃ c, W.heap[Bq]? = some (.cells c 9 (0, 0))
  s : ∃ c, W.heap[Bs]? = some (.cells c 9 (0, 0))
  v : ∃ c, W.heap[Bv]? = some (.cells c 3 (0, 0))
  sz : n ≤ W.heap.size
theorem BoxI.set {Bq Bs Bv n : Nat} {W : World} (h : BoxI Bq Bs Bv n W) (h1 : Bq ≠ Bs) (h2 : Bv ≠ Bs) (v : Value) : BoxI Bq Bs Bv n (W.setCell ⟨Bs, 0, none⟩ v) := by
  obtain ⟨⟨a, ha⟩, ⟨b, hb⟩, ⟨c, hc⟩, hs⟩ := h
  exact ⟨⟨a, (setCell_other _ _ h1).trans ha⟩, ⟨_, setCell_same hb 0 _⟩, ⟨c, (setCell_other _ _ h2).trans hc⟩, by rw [size_setCell]; exact hs⟩
theorem BoxI.mod {Bq Bs Bv n : Nat} {S : Nat → Prop} {W W' : World} (h : BoxI Bq Bs Bv n W) (hM : Mod S W W') (h1 : ∀ k c t, W.heap[k]? = some (.cells c t (0, 0)) → t = 9 ∨ t = 3 → k = Bq ∨ k = Bs ∨ k = Bv → ¬ S k) : BoxI Bq Bs Bv n W' := by
  obtain ⟨⟨a, ha⟩, ⟨b, hb⟩, ⟨c, hc⟩, hs⟩ := h
  exact ⟨⟨a, hM.keep ha (h1 _ _ _ ha (.inl rfl) (.inl rfl))⟩, ⟨b, hM.keep hb (h1 _ _ _ hb (.inl rfl) (.inr (.inl rfl)))⟩, ⟨c, hM.keep hc (h1 _ _ _ hc (.inr rfl) (.inr (.inr rfl)))⟩, Nat.le_trans hs hM.size⟩
set_option maxRecDepth 100000 in
set_option maxHeartbeats 4000000 in
theorem Run_c (F : St → List UInt8 → Option (List UInt8) × St) (t : ByteArray) (ht : t.size ≤ 100000)
    (hF : ∀ (k : Nat) (s : ByteArray), (splitL t.data.toList)[k]? = some s.data.toList → LineIs (runK F st0 ((splitL t.data.toList).take k)).2 s (F (runK F st0 ((splitL t.data.toList).take k)).2 s.data.toList))
    (hlast : ∀ k, (runK F st0 ((splitL t.data.toList).take k)).2.last < 1000000) (w : World) (hT : Tabs w) :
    Calls Tryz.prog 41 #[.string t] w fun e w' => ∃ v, e = .returned v ∧ w'.ownsRow w.heap.size 9 1 v (runK F st0 (splitL t.data.toList)).1.length (strVs (runK F st0 (splitL t.data.toList)).1) ∧ Ext w w' := by
  have hB := hT.size
  have HF := Lib.hid hF
  have HLA := Lib.hid hlast
  have HT := Lib.hid hT
  clear hF hlast hT
  refine (callsIn_wide (n := 5)).1 ?_
  refine callsIn_of_wp_marks Tryz.func41 rfl trivial ?_ rfl
  simp only [Tryz.ntmps41, List.size_toArray, List.length_cons, List.length_nil, Nat.reduceAdd, Nat.reduceSub, Array.replicate_succ, Array.replicate_zero, List.push_toArray, List.append_toArray, List.nil_append, List.cons_append]
  gi_wp2_with fail
  refine ⟨trivial, (callsIn_wide.2 (ANew_c _)).mono ?_⟩
  rintro e w1 ⟨rfl, hA, hx1⟩
  obtain ⟨Wa, hWa⟩ : ∃ Wa, w.alloc (.cells #[.slice none 0 0] 75) = Wa := ⟨_, rfl⟩
  rw [hWa] at hA hx1 ⊢
  have hsa : Wa.heap.size = w.heap.size + 1 := by rw [← hWa, size_alloc]
  have hxa : Ext w Wa := by rw [← hWa]; exact Ext.alloc' _ _
  have hoa : Wa.heap[w.heap.size]? = some (.cells #[.slice none 0 0] 75 (0, 0)) := by rw [← hWa]; exact heap_at _ _ rfl
  have ho1 := hx1.keep hoa
  have HA := Lib.hid hA
  have hx1' := hxa.trans' hx1
  have hs1 := hx1'.size
  have hlt1 := lt_of ho1
  clear hA hoa hxa hx1 hWa
  gi_wp2_with fail
  refine ⟨trivial, (callsIn_wide.2 (SplitSeq_c t _)).mono ?_⟩
  rintro e w2 ⟨rfl, hw2⟩
  gi_wp2_with fail
  rw [← hw2]
  have hE2 : Ext w1 w2 := by rw [hw2]; exact (((Ext.alloc' _ _).allocR _).allocR _).allocR _
  have hs2 : w2.heap.size = w1.heap.size + 4 := by rw [hw2]; simp
  have hBa : w2.heap[w1.heap.size]? = some (.cells #[.pointer (some ⟨w.heap.size + 1 + 1, 0, none⟩)] 32 (0, 0)) := by
    rw [hw2, heap_old _ _ (by simp; omega), heap_old _ _ (by simp; omega), heap_old _ _ (by simp)]; exact heap_at _ _ rfl
  have hBs : w2.heap[w1.heap.size + 1]? = some (.cells #[.string t] 9 (0, 0)) := by
    rw [hw2, heap_old _ _ (by simp), heap_old _ _ (by simp)]; exact heap_at _ _ (by simp)
  have hBq : w2.heap[w1.heap.size + 1 + 1]? = some (.cells #[.string ⟨#[10]⟩] 9 (0, 0)) := by
    rw [hw2, heap_old _ _ (by simp)]; exact heap_at _ _ (by simp)
  have hBv : w2.heap[w1.heap.size + 1 + 2]? = some (.cells #[.int .i64 0] 3 (0, 0)) := by
    rw [hw2]; exact heap_at _ _ (by simp)
  have hAx : AgAt w2 (w.heap.size + 1) (w.heap.size + 1 + 1) (w.heap.size + 1) [] 0 := by
    have := HA.out.ext hE2
    rw [hsa] at this
    exact this
  have ho2 := hE2.keep ho1
  have hx2 := hx1'.trans' hE2
  clear hw2 HA
  have hLl := splitL_len t.data.toList
  rw [← Lib.size_eq] at hLl
  obtain ⟨i0, hi, hz0, hz1, hz2⟩ := info_str
  generalize hL : splitL t.data.toList = L at *
  have hnil : ∀ k x, L[k]? = some x → L.take (k + 1) = L.take k ++ [x] := fun k x h => by
    obtain ⟨h1, rfl⟩ := List.getElem?_eq_some_iff.1 h
    exact List.take_succ_eq_append_getElem h1
  have hit := split_in 4 (w1.heap.size + 1 + 1) (w1.heap.size + 1) (w1.heap.size + 1 + 2) t (by omega) w2 hBq hBs hBv (by omega) (by omega)
  rw [hL] at hit
  refine wpIn_range_cells (n := 5) (by omega) (gf := 159) rfl (enters_of Tryz.func159 (by kernel_rfl) rfl) (by rintro b (rfl | rfl | rfl) <;> omega) (by omega) hit
    (fun k W => RunI (w.heap.size + 1) w2.heap.size (w.heap.size + 1 + 1) (w.heap.size + 1) w1.heap.size w.heap.size (runK F st0 (L.take k)) w W ∧ BoxI (w1.heap.size + 1 + 1) (w1.heap.size + 1) (w1.heap.size + 1 + 2) w2.heap.size W)
    ?h0 ?hI1 ?hI2 ?hI3 (fun x => { tmps := #[.string t, undef, .slice none 0 0, .pointer (some ⟨w.heap.size, 0, none⟩), .pointer (some ⟨w1.heap.size, 0, none⟩), x, undef, undef, .string t, .int .i64 t.size, .bool (decide ((1048576 : Int) < t.size)), undef, undef, undef, .pointer (some ⟨w.heap.size + 1 + 1, 0, none⟩), .string t, .func (.func 159) #[] #[.pointer (some ⟨w1.heap.size + 1 + 1, 0, none⟩), .pointer (some ⟨w1.heap.size + 1, 0, none⟩), .pointer (some ⟨w1.heap.size + 1 + 2, 0, none⟩)], x, undef, undef, undef, undef, undef, undef, undef, undef, undef, undef, undef, undef], defers := [] }) ?assign ?body ?done
  case h0 =>
    refine ⟨⟨⟨[], 0, hAx, rfl⟩, hBa, ⟨_, ho2, rfl, .inl ⟨rfl, rfl⟩⟩, hx2⟩, ⟨_, hBq⟩, ⟨_, hBs⟩, ⟨_, hBv⟩, Nat.le_refl _⟩
  case hI1 =>
    rintro k W v ⟨hI, hbx⟩
    obtain ⟨c, hbs⟩ := hbx.s
    have hM : Mod (fun k => k = w1.heap.size + 1) W (W.setCell ⟨w1.heap.size + 1, 0, none⟩ v) := ⟨rfl, rfl, rfl, by rw [size_setCell]; exact Nat.le_refl _, fun k hk hn => setCell_other _ _ hn⟩
    refine ⟨⟨?_, hM.keep hI.ba (by omega), hI.out.keep fun j hx hj => hM.block j ?_ ?_, Below.trans hI.ext (hM.below hI.ext.size fun j hj => by omega)⟩, hbx.set (by omega) (by omega) _⟩
    · obtain ⟨l, last, h1, h2⟩ := hI.ag
      exact ⟨l, last, h1.beside hM (fun j hj _ => by subst hj; exact ⟨_, _, _, hbs, .inl rfl⟩), h2⟩
    · obtain ⟨_, _, _, hx, _⟩ := hx
      exact lt_of hx
    · omega
  case hI2 =>
    rintro k W o ⟨hI, hbx⟩
    have hX : Ext W (W.alloc o) := Ext.alloc' _ _
    refine ⟨⟨?_, hX.keep hI.ba, hI.out.keep fun j ⟨_, _, _, hx, _⟩ _ => hX.block j (lt_of hx), hI.ext.allocR o⟩, hbx.mod (hX.mod fun _ => False) fun _ _ _ _ _ _ h => h⟩
    obtain ⟨l, last, h1, h2⟩ := hI.ag
    exact ⟨l, last, h1.ext hX, h2⟩
  case hI3 =>
    rintro k W b o o' ⟨hI, hbx⟩ hb hbo ho
    have hM : Mod (fun k => k = b) W (W.putObj b o') := ⟨rfl, rfl, rfl, by simp [World.putObj], fun k hk hn => World.putObj_heap_other hn⟩
    refine ⟨⟨?_, hM.keep hI.ba (cells_not hI.ba hbo ho), hI.out.keep fun j ⟨_, _, _, hx, _⟩ _ => hM.block j (lt_of hx) (cells_not hx hbo ho), Below.trans hI.ext (hM.below hI.ext.size fun j hj => by omega)⟩, hbx.mod hM fun k c t h1 _ _ => cells_not h1 hbo ho⟩
    obtain ⟨l, last, h1, h2⟩ := hI.ag
    exact ⟨l, last, h1.putO hbo ho (by omega), h2⟩
  case assign =>
    intro l x W K hK
    gi_wp2
    exact hK
  case body =>
    rintro l k x W ⟨hI, hbx⟩ hk ⟨s, rfl, hs⟩
    have hpa := (cell_of hI.ba 0).trans rfl
    obtain ⟨la, last, hag, hst⟩ := hI.ag
    have hlst : last < 1000000 := by
      have := HLA.out k
      rw [← hst] at this
      exact this
    have HLN := Lib.hid (HF.out k s hs W _ _ _ la last hag hst (by omega) (HT.out.ext hI.ext) hlst)
    have hsn := hnil k _ hs
    have hq : runK F st0 (L.take (k + 1)) = stepR F (runK F st0 (L.take k)) s.data.toList := by rw [hsn, runK_snoc]
    have HQ := Lib.hid hq
    have HI := Lib.hid hI
    have HAG := Lib.hid hag
    have HBX := Lib.hid hbx
    have hw2W := hI.ext.size
    have hw22 := hbx.sz
    have hbal := lt_of hI.ba
    clear hI hag hbx hq hsn hs hst
    generalize hR : F (runK F st0 (L.take k)).2 s.data.toList = R at *
    have HR := Lib.hid hR
    clear hR
    obtain ⟨ro, S'⟩ := R
    gi_wp2_with fail
    refine ⟨trivial, (callsR HLN.out).mono ?_⟩
    rintro e w3 ⟨⟨l', last', rfl, hA', hst', hfn⟩, hM⟩
    have hI3 := HI.out.line (by omega) HAG.out hM hA' hst'
    have hnF : ∀ k c t, W.heap[k]? = some (.cells c t (0, 0)) → t = 9 ∨ t = 3 → ¬ AgF (w.heap.size + 1 + 1) (w.heap.size + 1) la k := fun k c t h1 h2 => HAG.out.notF h1 (by rcases h2 with rfl | rfl <;> decide) (by rcases h2 with rfl | rfl <;> decide) (by rcases h2 with rfl | rfl <;> decide) (by rcases h2 with rfl | rfl <;> decide)
    have hB3 := HBX.out.mod hM fun k c t h1 h2 _ => hnF k c t h1 h2
    have hK3 : KeepsFrom w2.heap.size W w3 := KeepsFrom.modC hM fun k o hk hB ho => HAG.out.cellsF hk (by omega) ho
    have hb3 : ∀ b, bx3 (w1.heap.size + 1 + 1) (w1.heap.size + 1) (w1.heap.size + 1 + 2) b → w3.heap[b]? = W.heap[b]? := by
      intro b hb
      obtain ⟨⟨_, g1⟩, ⟨_, g2⟩, ⟨_, g3⟩, _⟩ := HBX.out
      rcases hb with rfl | rfl | rfl
      · exact hM.block _ (lt_of g1) (hnF _ _ _ g1 (.inl rfl))
      · exact hM.block _ (lt_of g2) (hnF _ _ _ g2 (.inl rfl))
      · exact hM.block _ (lt_of g3) (hnF _ _ _ g3 (.inr rfl))
    have H3 := Lib.hid hI3
    have HB3 := Lib.hid hB3
    have HK3 := Lib.hid hK3
    have HBB := Lib.hid hb3
    clear hB3 hK3 hb3 hnF
    cases ro with
    | none =>
      clear hI3 hM hA' hst' hfn hpa
      gi_wp2
      refine ⟨rfl, HK3.out, ⟨?_, HB3.out⟩, HBB.out⟩
      rw [HQ.out]
      unfold stepR
      rw [HR.out]
      simpa using H3.out
    | some y =>
      obtain ⟨v, hv, hown⟩ := hI3.out
      have hvc := (cell_of hv 0).trans rfl
      have hvf := frozen_of hv 0
      have hvl := lt_of hv
      have hs3 := hI3.ext.size
      have hql := runK_len F st0 (L.take k)
      rw [List.length_take] at hql
      have hm3 := hM.size
      have HO := Lib.hid hown
      have HV := Lib.hid hv
      clear hI3 hown hv hM hA' hst' hfn hpa
      obtain ⟨yb, hyb⟩ : ∃ yb, strV y = .string yb := ⟨_, rfl⟩
      rw [show strV ((some y, S').fst.getD []) = .string yb from hyb]
      gi_wp2_with (gi_at_builtin; refine wpListIn_append_own _ rfl _ _ 75 rfl w2.heap.size 9 i0 (.string ⟨#[]⟩) 1 16 Tryz.underlying75 hi hz0 hz1 hz2 rfl (by decide) _ _ _ rfl (HO.out.alloc _) ⟨w3.heap.size, 0, none⟩ 1 1 [.string yb] rfl rfl (cell_one_new _ _ _) (by simp [Value.oneCell']) (by unfold maxLen; omega) (by omega) (by simp; omega) ?_)
      intro v' w4 hown4 hg4 _
      have hown5 := own_bmono hown4 (show w2.heap.size ≤ w1.heap.size + 4 by omega)
      obtain ⟨hI5, hM5⟩ := H3.out.app (by omega) (Nat.le_refl _) (by omega) HV.out HO.out hg4 (by rw [hyb]; exact hown5)
      have hne : ∀ g, v.ownBlock = some g → g ≠ w.heap.size := fun g hg2 e => by
        obtain ⟨cur, h3⟩ := own_typ HO.out hg2
        subst e
        exact blk_ne h3 HV.out (by decide) rfl
      have hbo : w4.heap[w.heap.size]? = some (.cells #[v] 75 (0, 0)) := by
        rw [hg4.block w.heap.size (by rw [size_alloc]; omega) (fun e => hne _ e.symm rfl), heap_old _ _ hvl]
        exact HV.out
      have hc4 := (cell_of hbo 0).trans rfl
      have hf4 := frozen_of hbo 0
      have hl4 := lt_of hbo
      have hK5 : KeepsFrom w2.heap.size w3 (w4.setCell ⟨w.heap.size, 0, none⟩ v') := KeepsFrom.modC hM5 fun k o hk hB ho => by
        rcases hk with hk | rfl
        · obtain ⟨cur, h3⟩ := own_typ HO.out hk
          rw [h3] at ho; cases ho; rfl
        · omega
      have hnb : ∀ b, bx3 (w1.heap.size + 1 + 1) (w1.heap.size + 1) (w1.heap.size + 1 + 2) b → ¬ (v.ownBlock = some b ∨ b = w.heap.size) := by
        rintro b hb (hk | hk)
        · have := own_geB HO.out hk
          rcases hb with rfl | rfl | rfl <;> omega
        · rcases hb with rfl | rfl | rfl <;> omega
      have hB5 := HB3.out.mod hM5 fun k c t h1 h2 h3 => hnb k h3
      have HI5 := Lib.hid hI5
      have HM5 := Lib.hid hM5
      have HK5 := Lib.hid hK5
      have HB5 := Lib.hid hB5
      clear hI5 hM5 hK5 hB5 hbo hne hg4 hown4
      obtain ⟨po, co, rfl⟩ := own_sl hown5
      clear hown5
      gi_wp2
      refine ⟨rfl, HK3.out.trans HK5.out, ⟨?_, HB5.out⟩, fun b hb => ?_⟩
      · rw [HQ.out]
        unfold stepR
        rw [HR.out]
        exact HI5.out
      · refine (HM5.out.block b ?_ (hnb b hb)).trans (HBB.out b hb)
        obtain ⟨⟨_, g1⟩, ⟨_, g2⟩, ⟨_, g3⟩, _⟩ := HB3.out
        rcases hb with rfl | rfl | rfl
        · exact lt_of g1
        · exact lt_of g2
        · exact lt_of g3
  case done =>
    rintro D W hD ⟨hI, hbx⟩ hdef
    obtain ⟨v, hv, hown⟩ := hI.out
    have hvc := (cell_of hv 0).trans rfl
    have hvl := lt_of hv
    have HO := Lib.hid hown
    have HE := Lib.hid hI.ext
    clear hv hown hI hbx
    obtain ⟨po, co, rfl⟩ := own_sl HO.out
    gi_wp2
    refine ⟨by simp, .inl ⟨_, _, rfl, run_takeDeferred hdef, ?_⟩⟩
    have hM : Mod (fun k => k = D) W (W.putObj D (.deferred none)) := ⟨rfl, rfl, rfl, by simp [World.putObj], fun k hk hn => World.putObj_heap_other hn⟩
    rw [hL]
    rw [List.take_length] at HO
    refine ⟨_, results_tmp rfl _ _ _, _, rfl, own_bmono (own_keep HO.out fun g hg => hM.block g ?_ ?_) (by omega), Below.trans HE.out (hM.below HE.out.size fun j hj => by have := hE2.size; omega)⟩
    · obtain ⟨cur, h3⟩ := own_typ HO.out hg; exact lt_of h3
    · obtain ⟨cur, h3⟩ := own_typ HO.out hg; exact cells_not h3 hdef rfl
end Go.Proofs.YtmalncfcgcebhaaGreatDoor
namespace Go.Proofs.YtmalncfcgcebhaaGreatDoor
set_option linter.unusedVariables false
open Go.Proofs Go.RowKit
/-- A word of its own: it has signs, none is a blank, and it begins with no quote. -/
structure WordOk (l : List UInt8) : Prop where
  ne : l ≠ []
  sp : ∀ c ∈ l, c ≠ 32
  hd : l.getD 0 0 ≠ 34
/-- Words with one blank between. -/
def joinW : List (List UInt8) → List UInt8
  | [] => []
  | [a] => a
  | a :: l => a ++ 32 :: joinW l
/-- The places of words. -/
def plcW : Nat → List (List UInt8) → List (Nat × Nat)
  | _, [] => []
  | a, x :: l => (a, a + x.length) :: plcW (a + x.length + 1) l
theorem joinW_cons (a : List UInt8) {l : List (List UInt8)} (h : l ≠ []) : joinW (a :: l) = a ++ 32 :: joinW l := by
  cases l with
  | nil => exact absurd rfl h
  | cons b l => rfl
theorem wordEnd_at (s : ByteArray) : ∀ (x r pre : List UInt8) (f : Nat), s.data.toList = pre ++ (x ++ r) → (∀ c ∈ x, c ≠ 32) → (r = [] ∨ ∃ t, r = 32 :: t) → x.length ≤ f → wordEnd s f pre.length = pre.length + x.length
  | [], r, pre, f, hs, _, hr, hf => by
    cases f with
    | zero => rfl
    | succ f =>
      unfold wordEnd
      rw [if_neg]
      · simp
      · rintro ⟨h1, h2⟩
        rw [Lib.size_eq, hs] at h1
        rw [hs] at h2
        rcases hr with rfl | ⟨t, rfl⟩
        · simp at h1
        · exact h2 (by simp [List.getD_eq_getElem?_getD])
  | c :: x, r, pre, f, hs, hx, hr, hf => by
    obtain ⟨f, rfl⟩ : ∃ g, f = g + 1 := ⟨f - 1, by simp at hf; omega⟩
    have hs' : s.data.toList = (pre ++ [c]) ++ (x ++ r) := by rw [hs]; simp
    unfold wordEnd
    rw [if_pos]
    · have := wordEnd_at s x r (pre ++ [c]) f hs' (fun d hd => hx d (by simp [hd])) hr (by simp at hf; omega)
      rw [List.length_append, List.length_singleton] at this
      rw [this, List.length_cons]
      omega
    · refine ⟨?_, ?_⟩
      · rw [Lib.size_eq, hs]; simp
      · rw [hs]
        have : (pre ++ (c :: x ++ r)).getD pre.length 0 = c := by simp [List.getD_eq_getElem?_getD]
        rw [this]
        exact hx c (by simp)
theorem words_one (s : ByteArray) {x r pre : List UInt8} {f : Nat} (hs : s.data.toList = pre ++ (x ++ r)) (hx : WordOk x) (hr : r = [] ∨ ∃ t, r = 32 :: t) :
    wordsFrom s (f + 1) pre.length = (pre.length, pre.length + x.length) :: wordsFrom s f (pre.length + x.length) := by
  have hxl : 0 < x.length := List.length_pos_iff.2 hx.ne
  have hlt : pre.length < s.size := by rw [Lib.size_eq, hs]; simp; omega
  have hg : s.data.toList.getD pre.length 0 = x.getD 0 0 := by
    rw [hs]
    simp [List.getD_eq_getElem?_getD, List.getElem?_append_right, List.getElem?_append_left hxl]
  have hm : x.getD 0 0 ∈ x := by
    cases x with
    | nil => exact absurd rfl hx.ne
    | cons c x => simp
  have hsk : wordSkip s pre.length = pre.length := by
    unfold wordSkip
    rw [if_neg (by rw [hg]; exact hx.hd)]
  have he := wordEnd_at s x r pre s.size hs hx.sp hr (by rw [Lib.size_eq, hs]; simp; omega)
  rw [wordsFrom, if_pos hlt, if_neg (by rw [hg]; exact hx.sp _ hm), hsk, he]
theorem words_sp (s : ByteArray) {r pre : List UInt8} {f : Nat} (hs : s.data.toList = pre ++ (32 :: r)) : wordsFrom s (f + 1) pre.length = wordsFrom s f (pre.length + 1) := by
  have hlt : pre.length < s.size := by rw [Lib.size_eq, hs]; simp
  rw [wordsFrom, if_pos hlt, if_pos (by rw [hs]; simp [List.getD_eq_getElem?_getD])]
theorem words_end (s : ByteArray) (f : Nat) : wordsFrom s f s.size = [] := by
  cases f with
  | zero => rfl
  | succ f => rw [wordsFrom, if_neg (Nat.lt_irrefl _)]
theorem words_join (s : ByteArray) : ∀ (ws : List (List UInt8)) (pre : List UInt8) (f : Nat), s.data.toList = pre ++ joinW ws → ws ≠ [] → (∀ x ∈ ws, WordOk x) → 2 * ws.length ≤ f → wordsFrom s f pre.length = plcW pre.length ws
  | [], _, _, _, h, _, _ => absurd rfl h
  | [x], pre, f, hs, _, hx, hf => by
    obtain ⟨f, rfl⟩ : ∃ g, f = g + 1 := ⟨f - 1, by simp at hf; omega⟩
    have hs' : s.data.toList = pre ++ (x ++ []) := by rw [hs]; simp [joinW]
    rw [words_one s hs' (hx x (by simp)) (.inl rfl)]
    have e : pre.length + x.length = s.size := by rw [Lib.size_eq, hs']; simp
    rw [e, words_end]
    simp [plcW, e]
  | x :: y :: ws, pre, f, hs, _, hx, hf => by
    obtain ⟨f, rfl⟩ : ∃ g, f = g + 1 + 1 := ⟨f - 2, by simp at hf; omega⟩
    have hs' : s.data.toList = pre ++ (x ++ 32 :: joinW (y :: ws)) := by rw [hs]; rfl
    rw [words_one s hs' (hx x (by simp)) (.inr ⟨_, rfl⟩)]
    have hs2 : s.data.toList = (pre ++ x) ++ (32 :: joinW (y :: ws)) := by rw [hs']; simp
    have e2 := words_sp (f := f) s hs2
    rw [List.length_append] at e2
    rw [e2]
    have hs3 : s.data.toList = (pre ++ x ++ [32]) ++ joinW (y :: ws) := by rw [hs']; simp
    have e3 := words_join s (y :: ws) (pre ++ x ++ [32]) f hs3 (by simp) (fun z hz => hx z (by simp [hz])) (by simp at hf ⊢; omega)
    rw [List.length_append, List.length_append, List.length_singleton] at e3
    rw [e3]
    rfl
/-- The words with their places, as Parse has them. -/
def wpl : Nat → List (List UInt8) → List (ByteArray × Nat)
  | _, [] => []
  | a, x :: l => (⟨x.toArray⟩, a) :: wpl (a + x.length + 1) l
theorem wpl_len : ∀ (ws : List (List UInt8)) (a : Nat), (wpl a ws).length = ws.length
  | [], _ => rfl
  | x :: l, a => by unfold wpl; rw [List.length_cons, wpl_len l, List.length_cons]
theorem joinW_len {ws : List (List UInt8)} (h : ∀ x ∈ ws, WordOk x) : 2 * ws.length ≤ (joinW ws).length + 1 := by
  induction ws with
  | nil => simp
  | cons x ws ih =>
    have hx : 0 < x.length := List.length_pos_iff.2 (h x (by simp)).ne
    by_cases hw : ws = []
    · subst hw; simp [joinW]; omega
    · rw [joinW_cons x hw]
      have := ih (fun y hy => h y (by simp [hy]))
      simp
      omega
theorem ext_words (s : ByteArray) : ∀ (ws : List (List UInt8)) (pre : List UInt8), s.data.toList = pre ++ joinW ws → (plcW pre.length ws).map (fun p => (s.extract p.1 p.2, p.1)) = wpl pre.length ws
  | [], _, _ => rfl
  | [x], pre, hs => by
    have e : s.extract pre.length (pre.length + x.length) = ⟨x.toArray⟩ := by
      have h1 : (s.extract pre.length (pre.length + x.length)).data.toList = x := by
        rw [Lib.extract_data, hs]; simp [joinW]
      cases hh : s.extract pre.length (pre.length + x.length) with
      | mk d =>
        rw [hh] at h1
        rw [← h1]
    simp only [plcW, wpl, List.map_cons, List.map_nil, e]
  | x :: y :: ws, pre, hs => by
    have hs' : s.data.toList = pre ++ (x ++ 32 :: joinW (y :: ws)) := by rw [hs]; rfl
    have e : s.extract pre.length (pre.length + x.length) = ⟨x.toArray⟩ := by
      have h1 : (s.extract pre.length (pre.length + x.length)).data.toList = x := by
        rw [Lib.extract_data, hs']; simp
      cases hh : s.extract pre.length (pre.length + x.length) with
      | mk d =>
        rw [hh] at h1
        rw [← h1]
    have hs3 : s.data.toList = (pre ++ x ++ [32]) ++ joinW (y :: ws) := by rw [hs']; simp
    have e3 := ext_words s (y :: ws) (pre ++ x ++ [32]) hs3
    rw [List.length_append, List.length_append, List.length_singleton] at e3
    rw [plcW, List.map_cons, e, e3]
    rfl
theorem wds_join {s : ByteArray} {ws : List (List UInt8)} (hs : s.data.toList = joinW ws) (hw : ws ≠ []) (h : ∀ x ∈ ws, WordOk x) : wds s = wpl 0 ws := by
  have h1 := words_join s ws [] (s.size + 1) (by rw [hs]; rfl) hw h (by rw [Lib.size_eq, hs]; exact joinW_len h)
  have h2 := ext_words s ws [] (by rw [hs]; rfl)
  unfold wds wordsS
  rw [show (0 : Nat) = ([] : List UInt8).length from rfl, h1]
  exact h2
theorem itoa_word (n : Int) : WordOk (Lib.itoa n) := by
  refine ⟨itoa_ne n, fun c hc e => ?_, fun e => ?_⟩
  · subst e
    rcases itoa_mem n _ hc with h | h
    · exact absurd h (by decide)
    · exact absurd h.1 (by decide)
  · have hm : (Lib.itoa n).getD 0 0 ∈ Lib.itoa n := by
      cases h : Lib.itoa n with
      | nil => exact absurd h (itoa_ne n)
      | cons c x => simp
    rw [e] at hm
    rcases itoa_mem n _ hm with h | h
    · exact absurd h (by decide)
    · exact absurd h.1 (by decide)
theorem num_itoa {n : Int} (h : I64 n) : numOf (Lib.itoa n) = some n := by
  rw [numOf_ok (parse_itoa h.1 h.2), if_pos rfl]
end Go.Proofs.YtmalncfcgcebhaaGreatDoor
