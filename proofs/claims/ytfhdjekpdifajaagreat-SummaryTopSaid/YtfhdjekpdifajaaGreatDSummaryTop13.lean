/- Part. No condition. -/
import Derived.Test.YtfhdjekpdifajaaGreatDSummaryTop12
import Derived.Test.YtfhdjekpdifajaaGreatDSummaryTop9
import Derived.Test.YtfhdjekpdifajaaGreatDSummaryTop3
import Derived.ProofKit
import Derived.OpenShut
import Derived.ChangeOld
import Derived.Below
import Derived.SizedLaws
import Derived.Deep.Slices
import Derived.Deep.Fields
namespace Go.Proofs.YtfhdjekpdifajaaGreat
set_option linter.unusedVariables false
open Go.RowKit
set_option maxRecDepth 20000 in
set_option maxHeartbeats 2000000 in
theorem Or2e_c (g : Nat) (a b : Int) (w : World) (hg : g < w.heap.size) (c0 : w.cell? ⟨g, 0, none⟩ = some (.int .i64 a)) (c1 : w.cell? ⟨g, 1, none⟩ = some (.int .i64 b)) :
    Calls Tryz.prog 138 #[.slice (some ⟨g, 0, none⟩) 2 2] w fun e w' => e = .returned (.int .i64 (if a = 0 then b else a)) ∧ w' = w := by
  by_cases ha : a = 0
  · subst ha
    rw [if_pos rfl]
    by_cases hb : b = 0
    · subst hb
      go_enter Tryz.func138, Tryz.ntmps138
      go_wp2_with fail
      go_loopw [8] (fun u8 wr => ∃ k : Nat, k ≤ 2 ∧ u8 = .int .i64 k ∧ wr = w) (fun u8 _ => 2 - (intOf u8).toNat)
      case atStart => exact ⟨0, by omega, rfl, by trivial⟩
      case round =>
        obtain ⟨k, hk, rfl, rfl⟩ := hrel
        match k, hk with
        | 0, _ =>
          go_wp2
          go_roundw
          case rel => exact ⟨1, by omega, rfl, by trivial⟩
          case measure => simp [intOf]
        | 1, _ =>
          go_wp2
          go_roundw
          case rel => exact ⟨2, by omega, rfl, by trivial⟩
          case measure => simp [intOf]
        | 2, _ =>
          go_wp2
          go_ret
          exact ⟨rfl, rfl⟩
    · have hb0 : (b == 0) = false := beq_eq_false_iff_ne.2 hb
      go_enter Tryz.func138, Tryz.ntmps138
      go_wp2_with fail
      go_loopw [8] (fun u8 wr => ∃ k : Nat, k ≤ 1 ∧ u8 = .int .i64 k ∧ wr = w) (fun u8 _ => 2 - (intOf u8).toNat)
      case atStart => exact ⟨0, by omega, rfl, by trivial⟩
      case round =>
        obtain ⟨k, hk, rfl, rfl⟩ := hrel
        match k, hk with
        | 0, _ =>
          go_wp2
          go_roundw
          case rel => exact ⟨1, by omega, rfl, by trivial⟩
          case measure => simp [intOf]
        | 1, _ =>
          go_wp2
          go_ret
          exact ⟨rfl, rfl⟩
  · have ha0 : (a == 0) = false := beq_eq_false_iff_ne.2 ha
    rw [if_neg ha]
    go_enter Tryz.func138, Tryz.ntmps138
    go_wp2_with fail
    go_loopw [8] (fun u8 wr => ∃ k : Nat, k ≤ 0 ∧ u8 = .int .i64 k ∧ wr = w) (fun u8 _ => 2 - (intOf u8).toNat)
    case atStart => exact ⟨0, by omega, rfl, by trivial⟩
    case round =>
      obtain ⟨k, hk, rfl, rfl⟩ := hrel
      match k, hk with
      | 0, _ =>
        go_wp2
        go_ret
        exact ⟨rfl, rfl⟩
theorem OrCmpE_c (g : Nat) (i m j n : Int) (w : World) (hg : g < w.heap.size) (c0 : w.cell? ⟨g, 0, none⟩ = some (.int .i64 (cmpI n m))) (c1 : w.cell? ⟨g, 1, none⟩ = some (.int .i64 (cmpI i j))) :
    Calls Tryz.prog 138 #[.slice (some ⟨g, 0, none⟩) 2 2] w fun e w' => e = .returned (.int .i64 (cmpV i m j n)) ∧ w' = w :=
  Or2e_c g _ _ w hg c0 c1
set_option maxRecDepth 20000 in
set_option maxHeartbeats 4000000 in
theorem TopCmpE_c (la i m lb j n : Int) (w : World) :
    Calls Tryz.prog 137 #[.agg #[.int .i64 la, .int .u64 i, .int .i64 m], .agg #[.int .i64 lb, .int .u64 j, .int .i64 n]] w fun e w' => e = .returned (.int .i64 (cmpV i m j n)) ∧ Ext w w' ∧ w.drawn ≤ w'.drawn := by
  go_enter Tryz.func137, Tryz.ntmps137
  go_wp2
  obtain ⟨W, hW⟩ : ∃ W, (w.alloc (.cells #[.int .i64 la, .int .u64 i, .int .i64 m] 130)).alloc (.cells #[.int .i64 lb, .int .u64 j, .int .i64 n] 130) = W := ⟨_, rfl⟩
  have hE : Ext w W := by rw [← hW]; exact (Ext.alloc' _ _).allocR _
  have hd : W.drawn = w.drawn := by rw [← hW]; rfl
  have ha : W.heap[w.heap.size]? = some (.cells #[.int .i64 la, .int .u64 i, .int .i64 m] 130 (0, 0)) := by
    rw [← hW, heap_old _ _ (by rw [size_alloc]; omega)]; exact heap_at _ _ rfl
  have hb : W.heap[w.heap.size + 1]? = some (.cells #[.int .i64 lb, .int .u64 j, .int .i64 n] 130 (0, 0)) := by
    rw [← hW]; exact heap_at _ _ (by rw [size_alloc])
  rw [hW]
  clear hW
  have HD := Lib.hid hd
  clear hd
  have a1 := (cell_of ha 1).trans rfl
  have a2 := (cell_of ha 2).trans rfl
  have b1 := (cell_of hb 1).trans rfl
  have b2 := (cell_of hb 2).trans rfl
  have al := lt_of ha
  have bl := lt_of hb
  have hC0 := af_drew W
  clear ha hb
  refine pi_start (fun w' => ∃ x : After W, w' = x.w) [] (by kernel_rfl) ?_
  refine pi_t 0 rfl (by kernel_rfl) (by kernel_rfl) (fun _ _ _ _ h => h) (fun K hK => ?_)
  go_big_quiet_op
  refine hK _ ?_
  clear hK K
  refine pi_t 2 rfl (by kernel_rfl) (by kernel_rfl) (fun _ _ _ _ h => h) (fun K hK => ?_)
  go_big_quiet_op
  refine hK _ ?_
  clear hK K
  refine pi_t 5 rfl (by kernel_rfl) (by kernel_rfl) (fun _ _ _ _ h => h) (fun K hK => ?_)
  go_big_quiet_op
  refine hK _ ?_
  clear hK K
  refine pi_t 6 rfl (by kernel_rfl) (by kernel_rfl) (fun _ _ _ _ h => h) (fun K hK => ?_)
  go_big_quiet_op
  refine hK _ ?_
  clear hK K
  refine pi_t 8 rfl (by kernel_rfl) (by kernel_rfl) (fun _ _ _ _ h => h) (fun K hK => ?_)
  go_big_quiet_op
  refine hK _ ?_
  clear hK K
  refine pi_t 9 rfl (by kernel_rfl) (by kernel_rfl) (fun _ _ _ _ h => h) (fun K hK => ?_)
  go_big_quiet_op
  refine hK _ ?_
  clear hK K
  refine pi_c 1 (by assumption) rfl (by kernel_rfl) (by kernel_rfl) (fun _ _ _ _ h => h) (fun K hK => ?_)
  go_big_quiet_op
  refine hK _ ?_
  clear hK K
  refine pi_c 3 (by assumption) rfl (by kernel_rfl) (by kernel_rfl) (fun _ _ _ _ h => h) (fun K hK => ?_)
  go_big_quiet_op
  refine hK _ ?_
  clear hK K
  refine pi_c 7 (by assumption) rfl (by kernel_rfl) (by kernel_rfl) (fun _ _ _ _ h => h) (fun K hK => ?_)
  go_big_quiet_op
  refine hK _ ?_
  clear hK K
  refine pi_c 10 (by assumption) rfl (by kernel_rfl) (by kernel_rfl) (fun _ _ _ _ h => h) (fun K hK => ?_)
  go_big_quiet_op
  refine hK _ ?_
  clear hK K
  refine pi_l 4 rfl (by kernel_rfl) (fun K hK => ?_)
  go_wp2_with (go_at_call 139; refine (CompareI_c n m _).mono ?_; rintro e w1 ⟨rfl, rfl⟩)
  refine hK _ _ (fun _ h => h) ?_
  clear hK K
  refine pi_l 11 rfl (by kernel_rfl) (fun K hK => ?_)
  go_wp2_with (go_at_call 140; refine (CompareU_c i j _).mono ?_; rintro e w1 ⟨rfl, rfl⟩)
  refine hK _ _ (fun _ h => h) ?_
  clear hK K
  refine pi_l 12 rfl (by kernel_rfl) (fun K hK => ?_)
  go_wp2
  refine hK _ _ (fun _ h => af_step h (Ext.alloc' _ _)) ?_
  clear hK K
  refine pi_l 13 rfl (by kernel_rfl) (fun K hK => ?_)
  go_wp2_with (go_at_call 138; refine (OrCmpE_c W.heap.size i m j n _ (by simp) (by simp) (by simp)).mono ?_; rintro e w1 ⟨rfl, rfl⟩)
  refine hK _ _ (fun _ h => h) ?_
  clear hK K
  refine pi_t 14 rfl (by kernel_rfl) (by kernel_rfl) (fun _ _ _ _ h => h) (fun K hK => ?_)
  go_big_quiet_op
  refine hK _ ?_
  clear hK K
  refine pi_end (by kernel_rfl) ?_
  go_wp2
  go_ret
  refine ⟨rfl, by (repeat' (first | exact Ext.refl _ | assumption | apply Ext.allocR | apply Ext.drewR | apply Ext.drewNR | (refine Ext.trans' ?_ (by assumption)))), ?_⟩
  rw [← HD.out]
  exact Nat.le_succ _
open Go.Sort
/-- What only blocks of its own and draws part from a world. -/
theorem ext_grow {w w' : World} (h : Ext w w') (hd : w.drawn ≤ w'.drawn) : ∃ q os, w' = grow (w.drewN q) os := by
  refine ⟨w'.drawn - w.drawn, w'.heap.extract w.heap.size w'.heap.size, ?_⟩
  obtain ⟨h1, h2, h3, h4, h5⟩ := h
  have hh : w'.heap = w.heap ++ w'.heap.extract w.heap.size w'.heap.size := by
    apply Array.ext_getElem?
    intro k
    rw [Array.getElem?_append]
    by_cases hk : k < w.heap.size
    · rw [if_pos hk]; exact h5 k hk
    · rw [if_neg hk, Array.getElem?_extract]
      by_cases h6 : k < w'.heap.size
      · rw [if_pos (by omega)]
        congr 1
        omega
      · rw [if_neg (by omega), Array.getElem?_eq_none (by omega)]
  obtain ⟨heap, tape, drawn, os, output⟩ := w
  obtain ⟨heap', tape', drawn', os', output'⟩ := w'
  simp only at h1 h2 h3 h4 hd hh
  subst h1 h2 h3
  unfold grow World.drewN
  simp only
  rw [← hh, show drawn + (drawn' - drawn) = drawn' by omega]
def encF (f : Fd) : List Value := [.int .i64 (f.1 : Int), .int .u64 f.2.1, .int .i64 f.2.2]
theorem flat_fdV (d : Array Fd) : (flatK encF 3 d).toList = fdV d.toList := by
  apply List.ext_getElem?
  intro j
  by_cases hj : j < d.size * 3
  · obtain ⟨i, c, hc, rfl⟩ : ∃ i c, c < 3 ∧ j = i * 3 + c := ⟨j / 3, j % 3, Nat.mod_lt _ (by decide), by omega⟩
    have hi : i < d.size := by omega
    have h1 := get_flatK encF 3 d (i * 3 + c) hj
    rw [show (i * 3 + c) / 3 = i by omega, show (i * 3 + c) % 3 = c by omega] at h1
    have hsz : i * 3 + c < (flatK encF 3 d).size := by rw [size_flatK]; exact hj
    rw [getElem!_pos (flatK encF 3 d) (i * 3 + c) hsz] at h1
    have h2 := fdV_getAt (D := d.toList) (k := i) (by rw [Array.length_toList]; exact hi)
    rw [Array.getElem_toList, ← getElem!_pos d i hi] at h2
    rw [Array.getElem?_toList, Array.getElem?_eq_getElem hsz, h1]
    match c, hc with
    | 0, _ => exact h2.1.symm
    | 1, _ => exact h2.2.1.symm
    | 2, _ => exact h2.2.2.symm
  · rw [List.getElem?_eq_none (by rw [Array.length_toList, size_flatK]; omega), List.getElem?_eq_none (by rw [fdV_len, Array.length_toList]; omega)]
theorem RowD.holdsK {base g cap : Nat} {w0 w : World} {d : Array Fd} (h : RowD base g cap w0 w d) : HoldsK encF 3 w g 0 d := by
  intro j hj
  rw [size_flatK] at hj
  obtain ⟨i, c, hc, rfl⟩ : ∃ i c, c < 3 ∧ j = i * 3 + c := ⟨j / 3, j % 3, Nat.mod_lt _ (by decide), by omega⟩
  have hi : i < d.size := by omega
  rw [get_flatK encF 3 d _ hj, show (i * 3 + c) / 3 = i by omega, show (i * 3 + c) % 3 = c by omega, Nat.zero_add]
  obtain ⟨c0, c1, c2⟩ := h.cells hi
  obtain ⟨f0, f1, f2, _⟩ := h.some hi
  match c, hc with
  | 0, _ => exact ⟨c0, f0⟩
  | 1, _ => exact ⟨c1, f1⟩
  | 2, _ => exact ⟨c2, f2⟩
theorem put_take (F cur : Array Value) (h : F.size ≤ cur.size) : (putCells id 0 F cur).toList.take F.size = F.toList := by
  apply List.ext_getElem?
  intro k
  by_cases hk : k < F.size
  · rw [List.getElem?_take_of_lt hk, Array.getElem?_toList, Array.getElem?_toList]
    unfold putCells
    rw [Array.getElem?_mapIdx, Array.getElem?_eq_getElem (show k < cur.size by omega), Array.getElem?_eq_getElem hk]
    simp only [Option.map_some]
    rw [if_pos (by omega), Nat.sub_zero, getElem!_pos F k hk]
    rfl
  · rw [List.getElem?_eq_none (by rw [List.length_take]; omega), List.getElem?_eq_none (by rw [Array.length_toList]; omega)]
theorem put_size (F cur : Array Value) : (putCells id 0 F cur).size = cur.size := by unfold putCells; simp
theorem RowD.sorted {base g cap : Nat} {w0 w : World} {d d' : Array Fd} (h : RowD base g cap w0 w d) (hs : d'.size = d.size) (n : Nat) (os : Array Obj) : RowD base g cap w0 (sortWorldK encF 3 w g 0 n d' os) d' := by
  obtain ⟨_, _, hmx, _⟩ : ∃ c, ∃ t : Nat, cap ≤ maxLen ∧ c = t := by
    obtain ⟨gg, cc, cur, hv, hb, hh, hcc, hm, hcs, _⟩ := h.own.2.resolve_left (fun h => by cases h.1)
    cases hv
    exact ⟨0, 0, hm, rfl⟩
  obtain ⟨cur, hh, hcs, hdc, hb⟩ := h.blk
  have hg := lt_of hh
  have hblk : ∀ k, k < w.heap.size → (sortWorldK encF 3 w g 0 n d' os).heap[k]? = (if g = k then w.heap[k]?.map (onCells (putCells id 0 (flatK encF 3 d'))) else w.heap[k]?) := fun k hk => by
    unfold sortWorldK grow putRowK putRow mapBlock
    show (w.heap.modify g (onCells (putCells id 0 (flatK encF 3 d'))) ++ os)[k]? = _
    rw [Array.getElem?_append_left (by simpa using hk), Array.getElem?_modify]
  refine ⟨⟨?_, .inr ⟨g, cap, putCells id 0 (flatK encF 3 d') cur, rfl, hb, ?_, by omega, hmx, ?_, ?_⟩⟩, fun v h1 h2 => ?_⟩
  · rw [fdV_len, Array.length_toList]
  · rw [hblk g hg, if_pos rfl, hh]; rfl
  · rw [put_size]; exact hcs
  · have h3 := put_take (flatK encF 3 d') cur (by rw [size_flatK]; omega)
    rw [size_flatK] at h3
    rw [h3, flat_fdV]
  · have h3 := h.ext v h1 h2
    refine ⟨h3.os, h3.tape, h3.output, ?_, fun k hk => ?_⟩
    · refine Nat.le_trans h3.size ?_
      exact size_sortWorldK_c encF 3 w g 0 n d' os
    · rw [hblk k (Nat.lt_of_lt_of_le hk h3.size), if_neg (by omega)]
      exact h3.block k hk
theorem cmpLaysC (g n : Nat) (w : World) : CmpLays Tryz.prog 137 #[] encF 3 (fun x y : Fd => cmpV x.2.1 x.2.2 y.2.1 y.2.2) g 0 n w := fun m os dk _ x y =>
  (TopCmpE_c (x.1 : Int) x.2.1 x.2.2 (y.1 : Int) y.2.1 y.2.2 _).mono fun e w' ⟨he, hE, hd⟩ => ⟨he, ext_grow hE hd⟩
theorem sorts_all (N : Nat) (hN : N ≤ 1000000) : SortsTo N := by
  intro base g cap w0 w d h hn
  have eg : ∀ args w, (callFunc 137 args).run Tryz.prog w = .ok (.enter 137 args) w := enters_of Tryz.func137 (by kernel_rfl) rfl
  have hO : SWO (ltOf fun x y : Fd => cmpV x.2.1 x.2.2 y.2.1 y.2.2) := swoC
  have hcon := AnyQ.slices_SortFunc Tryz.sortFd 3 Tryz.isAgg130 Tryz.sizeOf130 encF (fun _ => rfl) (fun x v hv => by simp [encF] at hv; rcases hv with rfl | rfl | rfl <;> rfl) (fun x y : Fd => cmpV x.2.1 x.2.2 y.2.1 y.2.2) hO 137 #[] g 0 cap d w eg (cmpLaysC g d.size w) h.holdsK (by obtain ⟨_, hh, _⟩ := h.blk; exact lt_of hh) (by omega)
  refine Calls.mono (P := Tryz.prog) (f := 136) hcon ?_
  rintro e w' ⟨rfl, d', n, os, hp, hs, rfl⟩
  obtain ⟨h1, h2⟩ := srt_of hp hs
  exact ⟨rfl, d', h1, h2, h.sorted h1 n os⟩
end Go.Proofs.YtfhdjekpdifajaaGreat
namespace Go.Proofs.YtfhdjekpdifajaaGreat
set_option linter.unusedVariables false
open Go.RowKit
theorem hvGo_le (pt : Nat → Int → Int) (least budget : Int) (K : Nat) (hb : budget ≤ K) : ∀ (m : Nat) (asked : Int) (row : List Int) (out l : List Fd), (out.length : Int) ≤ asked → asked ≤ K → hvGo pt least budget m asked row out = some l → l.length ≤ K
  | 0, asked, row, out, l, h1, h2, h => by
    have : out = l := Option.some.inj h
    subst this
    omega
  | m + 1, asked, row, out, l, h1, h2, h => by
    by_cases hg : budget < asked + row.length
    · rw [hvGo_no hg] at h; cases h
    · rw [hvGo_yes (by omega)] at h
      have := hvF_len pt least m row
      exact hvGo_le pt least budget K hb m _ _ _ l (by rw [List.length_append]; omega) (by omega) h
theorem heavyP_le (pt : Nat → Int → Int) (least budget : Int) (B K : Nat) (hb : budget ≤ K) : (heavyP pt least budget B).1.length ≤ K := by
  by_cases hbad : least < 1 ∨ 4096 < budget
  · rw [heavyP_bad hbad]; simp
  · rw [heavyP_go (by omega) (by omega)]
    match hh : hvGo pt least budget (B + 1) 0 [0] [] with
    | none => simp [hvRes]
    | some l => exact hvGo_le pt least budget K hb _ _ _ _ l (by simp) (by omega) hh
theorem keep_len (l : List Fd) : (keepD l).length ≤ l.length := by unfold keepD; exact List.length_filter_le _ _
/-- As many as a hundred: cut to a hundred or not is one. -/
theorem take_hundred {S : List Fd} (h : S.length ≤ 100) (n : Int) : S.take (max n 0).toNat = S.take (min n 100).toNat := by
  by_cases hn : n ≤ 100
  · congr 1; omega
  · rw [List.take_of_length_le (by omega), List.take_of_length_le (by omega)]
set_option maxRecDepth 20000 in
set_option maxHeartbeats 16000000 in
theorem TopL_c (x : Cfg) (hx : x.Raw) (us : List (Int × Int)) (hus : UpsOk us) (v : Value) (nn bb ll : Int) (hnn : I64 nn) (hbb : I64 bb) (hll : I64 ll) (w : World) (hv : UpsAt w v us) (hul : us.length ≤ 140737488355328) :
    Calls Tryz.prog 10 #[.agg #[.int .i64 x.bits, .int .i64 x.rows, .int .i64 x.width, .int .i64 x.mode, .int .u64 x.seed, v, .int .i64 nn, .int .i64 bb, .int .i64 ll]] w fun e w' => e = .returned (.bool true) ∧ Ext w w' := by
  obtain ⟨vp, vc, rfl⟩ := hv.sl
  have HV := Lib.hid hv
  clear hv
  obtain ⟨hn0, hn1⟩ := hnn
  obtain ⟨hb0, hb1⟩ := hbb
  obtain ⟨hl0, hl1⟩ := hll
  go_enter Tryz.func10, Tryz.ntmps10
  go_wp2_with fail
  refine (shown19_c _).mono ?_
  rintro e w1 ⟨rfl, hb1'⟩
  have hE1 : Ext w w1 := by (repeat' (first | exact Ext.refl _ | assumption | apply Ext.allocR | apply Ext.drewR | apply Ext.drewNR | (refine Ext.trans' ?_ (by assumption))))
  have hT1 := hb1'.keep (heap_at w (.cells #[.int .i64 x.bits, .int .i64 x.rows, .int .i64 x.width, .int .i64 x.mode, .int .u64 x.seed, .slice vp us.length vc, .int .i64 nn, .int .i64 bb, .int .i64 ll] 121) rfl)
  clear hb1'
  have d0 := (cell_of hT1 0).trans rfl
  have d1 := (cell_of hT1 1).trans rfl
  have d2 := (cell_of hT1 2).trans rfl
  have d3 := (cell_of hT1 3).trans rfl
  have d4 := (cell_of hT1 4).trans rfl
  have d5 := (cell_of hT1 5).trans rfl
  have dl := lt_of hT1
  go_wp2_with fail
  refine Calls.mono (Made_c 5 (.inl rfl) x hx us hus _ _ (HV.out.ext hE1) hul) ?_
  rintro e w2 ⟨B, s, r, N, y, rfl, hB, hok, hKP, hN, hx2⟩
  have hE2 := hE1.trans' hx2
  have hT2 := hx2.keep hT1
  have hU := ptU_uniq hKP
  have hpI := ptU_I (mkC x 5 9) y
  have HKP := Lib.hid hKP
  have HU := Lib.hid hU
  have HPI := Lib.hid hpI
  have HT2 := Lib.hid hT2
  clear hKP hU hpI d0 d1 d2 d3 d4 d5 dl hT1 hx2 hE1
  generalize mkC x 5 9 = C at *
  generalize ptU C y = pt at *
  have d6 := (cell_of hT2 6).trans rfl
  have d7 := (cell_of hT2 7).trans rfl
  have d8 := (cell_of hT2 8).trans rfl
  have dl := lt_of hT2
  clear hT2
  obtain ⟨b', hb'⟩ : ∃ b, (if bb ≤ 4096 then min bb 100 else bb) = b := ⟨_, rfl⟩
  have hbI : I64 b' := by rw [← hb']; unfold I64; split <;> omega
  have hbud : 4096 < b' ∨ b' ≤ (100 : Nat) := by rw [← hb']; split <;> omega
  have HB' := Lib.hid hb'
  clear hb'
  go_upto_if 24 with (fail)
  go_cut [6] (fun s6 wx => s6 = .int .i64 b' ∧ wx = w2)
  case first =>
    by_cases hc : bb ≤ 4096
    · have e1 := HB'.out
      rw [if_pos hc] at e1
      have E1 := Lib.hid e1
      clear e1
      go_wp2_with fail
      go_meet
      exact ⟨by rw [E1.out], rfl⟩
    · have e1 := HB'.out
      rw [if_neg hc] at e1
      have E1 := Lib.hid e1
      clear e1
      go_wp2_with fail
      go_meet
      exact ⟨by rw [E1.out], rfl⟩
  case rest =>
    obtain ⟨rfl, rfl⟩ := hcut
    rename World => w2
    obtain ⟨g, L, t, L2, z, k1, _, _, k4, _⟩ := HKP.out
    have hS4 := sorts_all 4096 (by decide)
    have hlen := heavyP_len pt ll b' B
    have hkl := keep_len (heavyP pt ll b' B).1
    have hTop := Top_c 4096 hS4 s g C B L y w2 k1 pt HU.out nn ll b' (by omega)
    have hRT := fun W' (h : Ext w2 W') => RTop_c r t C B L2 y W' (k4.ext h) pt HU.out HPI.out (min nn 100) ll b' hbI (by omega)
    have hl100 : (keepD (heavyP pt ll b' B).1).length ≤ 100 := by
      rcases hbud with h | h
      · rw [heavyP_bad (.inr h)]; simp [keepD]
      · have := heavyP_le pt ll b' B 100 h
        omega
    generalize heavyP pt ll b' B = H at *
    obtain ⟨D, er⟩ := H
    dsimp only at hl100
    have HTOP := Lib.hid hTop
    have HRT := Lib.hid hRT
    have HL := Lib.hid hl100
    clear hTop hRT hl100 hlen hkl hS4 k1 k4 hbud
    go_wp2_with fail
    refine Calls.mono HTOP.out ?_
    rintro e w3 ⟨v3, S, rfl, hS, ho3, hx3⟩
    have hT3 := hx3.keep HT2.out
    have c6 := (cell_of hT3 6).trans rfl
    have c8 := (cell_of hT3 8).trans rfl
    have cl := lt_of hT3
    have HS := Lib.hid hS
    have HX3 := Lib.hid hx3
    have hSl : S.length ≤ 100 := by rw [hS.perm.length_eq]; exact HL.out
    have hth := take_hundred hSl nn
    have htl : (S.take (max nn 0).toNat).length ≤ 100 := by rw [List.length_take]; omega
    generalize S.take (max nn 0).toNat = T at *
    generalize htt : T.length = m at *
    have HTT := Lib.hid htt
    have HTH := Lib.hid hth
    have HO3 := Lib.hid ho3
    obtain ⟨p3, k3, rfl⟩ := own_sl ho3
    clear hT3 d6 d7 d8 dl hS ho3 hx3 HTOP htt hth hSl
    go_wp2_with fail
    refine Calls.mono (HRT.out _ HX3.out) ?_
    rintro e w4 ⟨v4, S2, rfl, hS2, ho4, hx4⟩
    obtain rfl : S = S2 := srt_unique HS.out hS2 keep_zero
    rw [← HTH.out, HTT.out] at ho4
    have ho3' := own_ext HO3.out hx4
    have hE4 := hE2.trans' (HX3.out.trans' hx4)
    obtain ⟨p4, k4, rfl⟩ := own_sl ho4
    have HO4 := Lib.hid ho4
    have HO3' := Lib.hid ho3'
    clear ho4 ho3' hS2 HO3 c6 c8 cl hx4 HRT HL HTH
    have her : (er != er) = false := by simp
    go_wp2_with fail
    go_loopw [11] (fun u11 wr => ∃ i : Nat, i ≤ m ∧ u11 = .int .i64 i ∧ Ext w4 wr) (fun u11 _ => m - (intOf u11).toNat)
    case atStart => exact ⟨0, Nat.zero_le _, rfl, Ext.refl _⟩
    case round =>
      obtain ⟨i, hi, rfl, hE⟩ := hrel
      by_cases hlt : i < m
      · have hiT : i < T.length := by rw [HTT.out]; exact hlt
        obtain ⟨ga, rfl, hga, a0, a1, a2⟩ := fd_cells (own_ext HO3'.out hE) hiT
        obtain ⟨gb, rfl, hgb, b0, b1, b2⟩ := fd_cells (own_ext HO4.out hE) hiT
        generalize T[i] = f at *
        obtain ⟨f0, f1, f2⟩ := f
        dsimp only at a0 a1 a2 b0 b1 b2
        generalize (f0 : Int) = f0' at *
        go_wp2_with fail
        refine wp_region_after (by kernel_rfl) (by kernel_rfl) ?_
        repeat (go_big_quiet_step (fail))
        refine wpQuiet_nil ?_
        rintro _ ⟨xx, rfl⟩
        obtain ⟨w5, hb5⟩ := xx
        try dsimp only
        have hE5 := hE.trans' hb5
        clear hb5 a0 a1 a2 b0 b1 b2
        go_wp2
        go_roundw
        case rel => exact ⟨i + 1, by omega, by go_num, hE5⟩
        case measure => simp [intOf] <;> omega
      · obtain rfl : i = m := by omega
        go_wp2
        go_ret
        exact ⟨rfl, hE4.trans' hE⟩
end Go.Proofs.YtfhdjekpdifajaaGreat
namespace Go.Proofs.YtfhdjekpdifajaaGreat
set_option linter.unusedVariables false
open Go.ChangeShapes Go.WideShapes Go.ChangeAt Go.RowKit Go.Deep
theorem wf_u64 {x : Int} (h : (Lit.int IntKind.u64 x).wf = true) : U64 x := by
  have := bounds_u64 h
  exact ⟨this.1, by omega⟩
theorem wf_i64 {x : Int} (h : (Lit.int IntKind.i64 x).wf = true) : I64 x := by
  have := bounds_i64 h
  exact ⟨this.1, by omega⟩
section
variable {H : Type} {enc : TypeId × Value → H} {w : World} {base : Nat} {spare : Nat → Bool} {held : Bool}
set_option maxRecDepth 100000 in
/-- Five cells that read as a config. -/
theorem cfg_of {n : Nat} {cs : List Value} {y : DataW H × List MemPlace} (h : DataW.trod enc Tryz.prog w base spare held n 24 cs = some y) :
    ∃ C : Cfg, C.Raw ∧ cs = [.int .i64 C.bits, .int .i64 C.rows, .int .i64 C.width, .int .i64 C.mode, .int .u64 C.seed] := by
  obtain ⟨xs, n, _, _, hl, hx, hg⟩ := DataW.trod_struct Tryz.underlying24 h
  have hl' : cs.length = 5 := hl.trans (by kernel_rfl)
  match cs, hl' with
  | [c0, c1, c2, c3, c4], _ =>
    have hx' : xs.length = 5 := hx.trans (by kernel_rfl)
    match xs, hx' with
    | [x0, x1, x2, x3, x4], _ =>
      have e0 : DataW.trod enc Tryz.prog w base spare held n 3 [c0] = some x0 := hg 0 _ rfl
      have e1 : DataW.trod enc Tryz.prog w base spare held n 3 [c1] = some x1 := hg 1 _ rfl
      have e2 : DataW.trod enc Tryz.prog w base spare held n 3 [c2] = some x2 := hg 2 _ rfl
      have e3 : DataW.trod enc Tryz.prog w base spare held n 3 [c3] = some x3 := hg 3 _ rfl
      have e4 : DataW.trod enc Tryz.prog w base spare held n 22 [c4] = some x4 := hg 4 _ rfl
      obtain ⟨a0, h0, _, w0⟩ := DataW.trod_int Tryz.underlying3 e0
      obtain ⟨a1, h1, _, w1⟩ := DataW.trod_int Tryz.underlying3 e1
      obtain ⟨a2, h2, _, w2⟩ := DataW.trod_int Tryz.underlying3 e2
      obtain ⟨a3, h3, _, w3⟩ := DataW.trod_int Tryz.underlying3 e3
      obtain ⟨a4, h4, _, w4⟩ := DataW.trod_int Tryz.underlying22 e4
      simp only [List.cons.injEq, and_true] at h0 h1 h2 h3 h4
      exact ⟨⟨a0, a1, a2, a3, a4⟩, ⟨wf_i64 w0, wf_i64 w1, wf_i64 w2, wf_i64 w3, wf_u64 w4⟩, by rw [h0, h1, h2, h3, h4]⟩
set_option maxRecDepth 100000 in
/-- Two cells that read as an update. -/
theorem upd_of {n : Nat} {cs : List Value} {y : DataW H × List MemPlace} (h : DataW.trod enc Tryz.prog w base spare held n 138 cs = some y) :
    ∃ u : Int × Int, (U64 u.1 ∧ I64 u.2) ∧ cs = [.int .u64 u.1, .int .i64 u.2] := by
  obtain ⟨xs, n, _, _, hl, hx, hg⟩ := DataW.trod_struct Tryz.underlying138 h
  have hl' : cs.length = 2 := hl.trans (by kernel_rfl)
  match cs, hl' with
  | [c0, c1], _ =>
    have hx' : xs.length = 2 := hx.trans (by kernel_rfl)
    match xs, hx' with
    | [x0, x1], _ =>
      have e0 : DataW.trod enc Tryz.prog w base spare held n 22 [c0] = some x0 := hg 0 _ rfl
      have e1 : DataW.trod enc Tryz.prog w base spare held n 2 [c1] = some x1 := hg 1 _ rfl
      obtain ⟨a0, h0, _, w0⟩ := DataW.trod_int Tryz.underlying22 e0
      obtain ⟨a1, h1, _, w1⟩ := DataW.trod_int Tryz.underlying2 e1
      simp only [List.cons.injEq, and_true] at h0 h1
      exact ⟨(a0, a1), ⟨wf_u64 w0, wf_i64 w1⟩, by rw [h0, h1]⟩
theorem add_plain0 (b off i : Nat) : (Addr.add ⟨b, off, none⟩ i) = ⟨b, off + i, none⟩ := by
  unfold Addr.add
  by_cases h : i = 0
  · subst h; simp
  · simp [h]
theorem choose_list {α : Type} (P : Nat → α → Prop) : ∀ n, (∀ i, i < n → ∃ x, P i x) → ∃ l : List α, l.length = n ∧ ∀ i (h : i < l.length), P i l[i] := by
  intro n
  induction n with
  | zero => intro _; exact ⟨[], rfl, fun i h => by simp at h⟩
  | succ n ih =>
    intro h
    obtain ⟨l, hl, hP⟩ := ih (fun i hi => h i (by omega))
    obtain ⟨x, hx⟩ := h n (by omega)
    refine ⟨l ++ [x], by simp [hl], fun i hi => ?_⟩
    by_cases e : i < l.length
    · rw [List.getElem_append_left e]; exact hP i e
    · have : i = n := by simp at hi; omega
      subst this
      rw [List.getElem_append_right (by omega)]
      simp [hl, hx]
/-- A cell that reads as a slice of updates. -/
theorem ups_of {n : Nat} {v : Value} {y : DataW H × List MemPlace} (h : DataW.trod enc Tryz.prog w 0 (fun _ => true) held n 105 [v] = some y) :
    ∃ us : List (Int × Int), UpsOk us ∧ UpsAt w v us ∧ (us = [] ∨ ∃ el sp : List (DataW H), y.1 = .slice el sp ∧ el.length = us.length) := by
  rcases open_slice Tryz.underlying105 h with ⟨hcs, _⟩ | ⟨a, len, cap, m, n', D, Pl, hcs, _, hlc, hcm, hm, hx, hi⟩
  · simp only [List.cons.injEq, and_true] at hcs
    subst hcs
    exact ⟨[], (by intro u hu; cases hu), .inl ⟨⟨_, rfl⟩, rfl⟩, .inl rfl⟩
  · simp only [List.cons.injEq, and_true] at hcs
    subst hcs
    simp only [if_true] at hm
    rw [hm] at hi hx
    clear hm
    have hC : Tryz.prog.cellsOf 138 = 2 := by kernel_rfl
    rw [hC] at hi
    have key : ∀ i, i < len → ∃ u : Int × Int, (U64 u.1 ∧ I64 u.2) ∧ w.cell? (a.add (i * 2)) = some (.int .u64 u.1) ∧ w.cell? (a.add (i * 2 + 1)) = some (.int .i64 u.2) := by
      intro i hil
      obtain ⟨cs', hc, ht⟩ := hi i (by omega)
      obtain ⟨u, hu, rfl⟩ := upd_of ht
      obtain ⟨_, _, hat⟩ := World.cells?_some hc
      refine ⟨u, hu, ?_, ?_⟩
      · have := hat 0 (by omega); rw [add_add, Nat.add_zero] at this; exact this
      · have := hat 1 (by omega); rw [add_add] at this; exact this
    obtain ⟨us, hul, hus⟩ := choose_list _ len key
    by_cases h0 : cap = 0
    · have hl0 : len = 0 := by omega
      subst hl0 h0
      obtain rfl : us = [] := List.length_eq_zero_iff.1 hul
      exact ⟨[], (by intro u hu; cases hu), .inl ⟨⟨_, rfl⟩, rfl⟩, .inl rfl⟩
    · obtain ⟨cs', hc, ht⟩ := hi 0 (by omega)
      obtain ⟨u, _, rfl⟩ := upd_of ht
      obtain ⟨_, _, hat⟩ := World.cells?_some hc
      have h1 := hat 0 (by omega)
      obtain ⟨b, off, spot⟩ := a
      have hspot : spot = none := by simpa [Addr.add] using World.cell?_spot h1
      subst hspot
      have hb : b < w.heap.size := by
        rcases Nat.lt_or_ge b w.heap.size with h' | h'
        · exact h'
        · simp [World.cell?, Addr.add, Array.getElem?_eq_none h'] at h1
      refine ⟨us, ?_, .inr ⟨b, off, cap, by rw [hul], hb, fun k hk => ?_⟩, .inr ⟨_, _, by rw [hx], by simp [hul]⟩⟩
      · intro u hu
        obtain ⟨i, hi', rfl⟩ := List.getElem_of_mem hu
        exact (hus i hi').1
      · have := (hus k hk).2
        have hg : us.getD k (0, 0) = us[k] := by simp [hk]
        rw [hg]
        rw [add_plain0, add_plain0] at this
        simpa only [Nat.add_assoc] using this
theorem reach_of {ts : List TypeId} {ds : List (DataW H)} {j : Nat} {t : TypeId} {d : DataW H} (hsz : (DataW.weightsEach Tryz.prog ts ds).all (· ≤ reachBytes) = true) (ht : ts[j]? = some t) (hd : ds[j]? = some d) {n : Nat} (hn : n ∈ d.weights Tryz.prog t) : n ≤ reachBytes := by
  have := List.all_eq_true.1 hsz _ (DataW.weights_mem_each ht hd n hn)
  simpa using this
end
end Go.Proofs.YtfhdjekpdifajaaGreat
namespace Go.Proofs.YtfhdjekpdifajaaGreat
set_option linter.unusedVariables false
open Go.ChangeShapes Go.WideShapes Go.ChangeAt Go.RowKit Go.Deep
theorem own : ownKnob Tryz.prog.godebug = none := by kernel_rfl
theorem laidOut : laidOutB Tryz.prog = true := by kernel_rfl
section
variable {H : Type} {enc : TypeId × Value → H} {w : World} {held : Bool}
end
end Go.Proofs.YtfhdjekpdifajaaGreat
namespace Go.Proofs.YtfhdjekpdifajaaGreat
set_option linter.unusedVariables false
open Go.ChangeShapes Go.WideShapes Go.ChangeAt Go.RowKit Go.Deep
section
variable {H : Type} {enc : TypeId × Value → H} {w : World} {held : Bool}
set_option maxRecDepth 100000 in
theorem ask19_of {r : Reach} {b0 : Nat} {v : Value} {d : DataW H} {p : List MemPlace} (hv : Value.okWide Tryz.prog w r b0 121 v) (h : DataW.Trod enc Tryz.prog w 0 (fun _ => true) held 121 v d p) :
    ∃ (x : Cfg) (us : List (Int × Int)) (u : Value) (na nb nc : Int), x.Raw ∧ UpsOk us ∧ UpsAt w u us ∧ I64 na ∧ I64 nb ∧ I64 nc ∧ v = .agg #[.int .i64 x.bits, .int .i64 x.rows, .int .i64 x.width, .int .i64 x.mode, .int .u64 x.seed, u, .int .i64 na, .int .i64 nb, .int .i64 nc] ∧
      ∀ (ts : List TypeId) (ds : List (DataW H)) (j : Nat), (DataW.weightsEach Tryz.prog ts ds).all (· ≤ reachBytes) = true → ts[j]? = some 121 → ds[j]? = some d → us.length ≤ 140737488355328 := by
  obtain ⟨cs, rfl, hsz⟩ := okWide_struct Tryz.underlying121 hv
  obtain ⟨fuel, hf⟩ := h
  obtain ⟨l⟩ := cs
  obtain ⟨xs, n, _, hd, hl, hx, hg⟩ := DataW.trod_struct Tryz.underlying121 hf
  have hl' : l.length = 9 := hsz.trans (by kernel_rfl)
  match l, hl' with
  | [c0, c1, c2, c3, c4, c6, c7, c8, c9], _ =>
    have hx' : xs.length = 4 := hx.trans (by kernel_rfl)
    match xs, hx' with
    | [y0, y1, y2, y3], _ =>
      have f0 : DataW.trod enc Tryz.prog w 0 (fun _ => true) held n 107 [c0, c1, c2, c3, c4, c6] = some y0 := hg 0 _ rfl
      have f1 : DataW.trod enc Tryz.prog w 0 (fun _ => true) held n 3 [c7] = some y1 := hg 1 _ rfl
      have f2 : DataW.trod enc Tryz.prog w 0 (fun _ => true) held n 3 [c8] = some y2 := hg 2 _ rfl
      have f3 : DataW.trod enc Tryz.prog w 0 (fun _ => true) held n 2 [c9] = some y3 := hg 3 _ rfl
      obtain ⟨xs2, n2, _, hd2, hl2, hx2, hg2⟩ := DataW.trod_struct Tryz.underlying107 f0
      have hx2' : xs2.length = 2 := hx2.trans (by kernel_rfl)
      match xs2, hx2' with
      | [x0, x2], _ =>
        have e0 : DataW.trod enc Tryz.prog w 0 (fun _ => true) held n2 24 [c0, c1, c2, c3, c4] = some x0 := hg2 0 _ rfl
        have e2 : DataW.trod enc Tryz.prog w 0 (fun _ => true) held n2 105 [c6] = some x2 := hg2 1 _ rfl
        obtain ⟨x, hxr, hc⟩ := cfg_of e0
        obtain ⟨us, hu, hat, hlen⟩ := ups_of e2
        obtain ⟨a1, h1, _, w1⟩ := DataW.trod_int Tryz.underlying3 f1
        obtain ⟨a2, h2, _, w2⟩ := DataW.trod_int Tryz.underlying3 f2
        obtain ⟨a3, h3, _, w3⟩ := DataW.trod_int Tryz.underlying2 f3
        simp only [List.cons.injEq, and_true] at hc h1 h2 h3
        obtain ⟨rfl, rfl, rfl, rfl, rfl⟩ := hc
        subst h1 h2 h3
        refine ⟨x, us, c6, a1, a2, a3, hxr, hu, hat, wf_i64 w1, wf_i64 w2, wf_i64 w3, rfl, fun ts ds j hs ht hj => ?_⟩
        rcases hlen with rfl | ⟨el, sp, hxe, hel⟩
        · simp
        · have hb : Tryz.prog.bytesOf 138 = 16 := by kernel_rfl
          have hy : y0.1 = _ := congrArg Prod.fst hd2
          have := reach_of hs ht hj (n := (el.length + sp.length) * Tryz.prog.bytesOf 138) (by
            simp only [Prod.mk.injEq] at hd
            rw [hd.1]
            simp [DataW.weights, DataW.weightsEach, hy, hxe, Tryz.underlying121, Tryz.underlying107, Tryz.underlying105])
          rw [hb] at this
          simp only [reachBytes] at this
          omega
end
end Go.Proofs.YtfhdjekpdifajaaGreat
namespace Go.Proofs.YtfhdjekpdifajaaGreat
set_option linter.unusedVariables false
open Go.ChangeShapes Go.WideShapes Go.ChangeAt Go.RowKit
set_option maxRecDepth 100000 in
theorem summaryTop_lifted (os : Os) (started : os.Started) (H : Type) (enc : TypeId × Value → H) :
    ReturnsInHanded {} Tryz.checked os 10 .any (Rows.summaryTopSpec.pre6 enc Tryz.prog Tryz.f10 Rows.summaryTopRow.domain false) (Rows.summaryTopSpec.post enc Tryz.prog Tryz.f10 false true false false) := by
  refine returnsInHanded_of_change_sized (C := Tryz.checked) own started (by kernel_rfl) Tryz.func10
    (ChangeSpec.witness6 (enc := enc) (C := Tryz.checked) false ⟨#[], #[.agg #[.int .i64 0, .int .i64 0, .int .i64 0, .int .i64 0, .int .u64 0, .slice none 0 0, .int .i64 0, .int .i64 0, .int .i64 0]], []⟩ 8 (by kernel_rfl) (by kernel_rfl) (by kernel_rfl) (by kernel_rfl)) ?_
  intro W base args ds gs before hval0 hW hcnd hsz0 _
  have hval : ∀ (j : Nat) t v, Tryz.f10.params[j]? = some t → args[j]? = some v → Value.okWide Tryz.prog W .any base t v := hval0
  have hW' := hW
  obtain ⟨p, q, hA0, hV, rfl, hfz, hnd⟩ := hW
  have hA : DataW.TrodAll enc Tryz.prog W 0 (fun _ => true) true Tryz.f10.params.toList args.toList ds p := hA0
  have hsz : (DataW.weightsEach Tryz.prog (Tryz.f10.params.toList ++ Rows.summaryTopSpec.plain.varTypes Tryz.prog) (ds ++ gs)).all (· ≤ reachBytes) = true := hsz0
  rw [Tryz.params10] at hA hval hsz
  obtain ⟨v0, vs0, d0, ds0, p0, q0, hargs, rfl, rfl, h0, r0⟩ := trodAll_cons hA
  obtain ⟨rfl, rfl, rfl⟩ := trodAll_nil r0
  obtain rfl : args = #[v0] := by cases args; simp_all
  obtain ⟨rfl, rfl⟩ := trodVars_none hV
  have k0 := h0
  have lt0 : ∀ x ∈ p0, x.block < W.heap.size := by obtain ⟨m, hm⟩ := k0; exact DataW.trod_lt m _ _ _ hm
  obtain ⟨x0, us0, u0, na0, nb0, nc0, hx0, hus0, hat0, hna0, hnb0, hnc0, rfl, hr0⟩ := ask19_of (hval 0 _ v0 rfl rfl) h0
  have hul0 := hr0 _ _ 0 hsz rfl rfl
  clear hA0 hval0
  refine (TopL_c x0 hx0 us0 hus0 u0 na0 nb0 nc0 hna0 hnb0 hnc0 W hat0 hul0).mono fun e W' ⟨he, bel⟩ => ?_
  subst he
  exact ⟨_, rfl, _, _, _, [], _, [], hW', trodAll_mk1 (shut_bool Tryz.underlying4 _), (trodAll_cons_mk (Below.trod laidOut (by kernel_rfl) (of_decide_eq_true (by kernel_rfl)) k0 bel lt0) trodAll_mk0), rfl, bel.frame _, fun h => by cases h⟩
end Go.Proofs.YtfhdjekpdifajaaGreat
