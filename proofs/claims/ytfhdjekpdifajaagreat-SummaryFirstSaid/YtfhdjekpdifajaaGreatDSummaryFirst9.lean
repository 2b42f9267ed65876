/- Part. No condition. -/
import Derived.Test.YtfhdjekpdifajaaGreatDSummaryFirst7
import Derived.Test.YtfhdjekpdifajaaGreatDSummaryFirst8
import Derived.Test.YtfhdjekpdifajaaGreatDSummaryFirst6
import Derived.Test.YtfhdjekpdifajaaGreatDSummaryFirst1
import Derived.Test.YtfhdjekpdifajaaGreatDSummaryFirst5
import Derived.Test.YtfhdjekpdifajaaGreatDSummaryFirst3
import Derived.Test.YtfhdjekpdifajaaGreatDSummaryFirst4
import Derived.Test.YtfhdjekpdifajaaGreatDSummaryFirst2
import Derived.Shelf.SlSortCmp.NoneTotal
namespace Go.Proofs.YtfhdjekpdifajaaGreat
set_option linter.unusedVariables false
open Go.RowKit
set_option maxRecDepth 20000 in
set_option maxHeartbeats 4000000 in
theorem PdqQ_c (p : Option Addr) (n cap : Nat) (lim : Int) (hn : n ≤ 12) (Q : World → Prop) (w : World)
    (HI : Calls Tryz.prog 204 #[.slice p n cap, .int .i64 0, .int .i64 n, .func (.func 137) #[] #[]] w fun e w' => e = .returned (.tuple #[]) ∧ Q w') :
    Calls Tryz.prog 182 #[.slice p n cap, .int .i64 0, .int .i64 n, .int .i64 lim, .func (.func 137) #[] #[]] w fun e w' => e = .returned (.tuple #[]) ∧ Q w' := by
  have HI' := Lib.hid HI
  clear HI
  go_enter Tryz.func182, Tryz.ntmps182
  go_wp2_with fail
  refine wp_loop_rounds 1 ?_
  rw [rounds_succ]
  go_wp2_with fail
  refine Calls.mono HI'.out ?_
  rintro e w1 ⟨rfl, hq⟩
  have HQ := Lib.hid hq
  clear hq
  go_wp2
  (try simp only [Exit.inBlock, Exit.then]); refine bodyPost_ret (results_none rfl _ _ _) rfl ?_
  exact ⟨rfl, HQ.out⟩
set_option maxRecDepth 20000 in
set_option maxHeartbeats 4000000 in
theorem SortQ_c (p : Option Addr) (n cap : Nat) (hn : n ≤ 12) (Q : World → Prop) (w : World)
    (HI : Calls Tryz.prog 204 #[.slice p n cap, .int .i64 0, .int .i64 n, .func (.func 137) #[] #[]] w fun e w' => e = .returned (.tuple #[]) ∧ Q w') :
    Calls Tryz.prog 136 #[.slice p n cap, .func (.func 137) #[] #[]] w fun e w' => e = .returned (.tuple #[]) ∧ Q w' := by
  have HI' := Lib.hid HI
  clear HI
  go_enter Tryz.func136, Tryz.ntmps136
  go_wp2_with fail
  refine Calls.mono (Len_c n _ (by omega) (by omega)) ?_
  rintro e w1 ⟨rfl, rfl⟩
  go_wp2_with fail
  refine Calls.mono (PdqQ_c p n cap _ hn Q _ HI'.out) ?_
  rintro e w1 ⟨rfl, hq⟩
  have HQ := Lib.hid hq
  clear hq
  go_wp2
  go_end0
  exact ⟨rfl, HQ.out⟩
set_option maxRecDepth 20000 in
set_option maxHeartbeats 4000000 in
theorem Ins0_c (p : Option Addr) (cap : Nat) (w : World) :
    Calls Tryz.prog 204 #[.slice p 0 cap, .int .i64 0, .int .i64 0, .func (.func 137) #[] #[]] w fun e w' => e = .returned (.tuple #[]) ∧ w' = w := by
  go_enter Tryz.func204, Tryz.ntmps204
  go_wp2_with fail
  refine wp_loop_rounds 1 ?_
  rw [rounds_succ]
  go_wp2
  go_end0
  exact ⟨rfl, rfl⟩
end Go.Proofs.YtfhdjekpdifajaaGreat
namespace Go.Proofs.YtfhdjekpdifajaaGreat
set_option linter.unusedVariables false
open Go.RowKit
theorem ltC_iff (x y : Fd) : ltC x y = decide (y.2.2 < x.2.2 ∨ (y.2.2 = x.2.2 ∧ x.2.1 < y.2.1)) := by
  unfold ltC cmpV cmpI
  by_cases h1 : y.2.2 < x.2.2
  · simp [h1]
  · by_cases h2 : x.2.2 < y.2.2
    · simp [h1, h2]; omega
    · by_cases h3 : x.2.1 < y.2.1
      · simp [h1, h2, h3]; omega
      · by_cases h4 : y.2.1 < x.2.1
        · simp [h1, h2, h3, h4]
        · simp [h1, h2, h3, h4]
theorem swoC : Sort.SWO ltC where
  irrefl x := by rw [ltC_iff]; simp
  trans x y z h1 h2 := by rw [ltC_iff] at *; simp at *; omega
  ntrans x y z h1 h2 := by rw [ltC_iff] at *; simp at *; omega
/-- 'l' is 'd', sorted. -/
structure SrtOf (d l : List Fd) : Prop where
  perm : l.Perm d
  sorted : ∀ (i j : Nat) (hij : i < j) (hj : j < l.length), ltC l[j] (l[i]'(Nat.lt_trans hij hj)) = false
/-- Rows up to this length are sorted. -/
def SortsTo (N : Nat) : Prop := ∀ (base g cap : Nat) (w0 w : World) (d : Array Fd), RowD base g cap w0 w d → d.size ≤ N →
  Calls Tryz.prog 136 #[.slice (some ⟨g, 0, none⟩) d.size cap, .func (.func 137) #[] #[]] w fun e w' => e = .returned (.tuple #[]) ∧ ∃ d' : Array Fd, d'.size = d.size ∧ SrtOf d.toList d'.toList ∧ RowD base g cap w0 w' d'
theorem srt_of {d d' : Array Fd} (hp : Sort.PermIn 0 d.size d d') (hs : Sort.SortedIn ltC 0 d.size d') : d'.size = d.size ∧ SrtOf d.toList d'.toList := by
  obtain ⟨h1, _, h2⟩ := hp
  refine ⟨h1, ?_, fun i j hij hj => ?_⟩
  · rw [Array.extract_eq_self_of_le (by omega), Array.extract_eq_self_of_le (by omega)] at h2
    exact h2
  · have hj2 : j < d'.size := by rw [← Array.length_toList]; exact hj
    have := hs i j (Nat.zero_le _) hij (by omega)
    rw [getElem!_pos d' j hj2, getElem!_pos d' i (by omega)] at this
    rw [Array.getElem_toList, Array.getElem_toList]
    exact this
theorem sorts_12 : SortsTo 12 := by
  intro base g cap w0 w d h hn
  have hi := (Ins_c base g cap w0 w d 0 d.size h (Nat.zero_le _) (Nat.le_refl _) (by omega)).mono (R' := fun e w' => e = .returned (.tuple #[]) ∧ ∃ d' : Array Fd, d'.size = d.size ∧ SrtOf d.toList d'.toList ∧ RowD base g cap w0 w' d') fun e w' ⟨he, hr⟩ => by
    obtain ⟨h1, h2⟩ := Sort.insertionSort_holds swoC d 0 d.size (Nat.zero_le _) (Nat.le_refl _)
    obtain ⟨h3, h4⟩ := srt_of h1 h2
    exact ⟨he, _, h3, h4, hr⟩
  exact SortQ_c (some ⟨g, 0, none⟩) d.size cap hn _ w hi
end Go.Proofs.YtfhdjekpdifajaaGreat
namespace Go.Proofs.YtfhdjekpdifajaaGreat
set_option linter.unusedVariables false
open Go.RowKit
/-- Of two of the lowest level the one with the lesser number comes first. -/
def AscR (a b : Fd) : Prop := a.1 = 0 → b.1 = 0 → a.2.1 < b.2.1
theorem hvF_lv {pt : Nat → Int → Int} {least : Int} {n : Nat} {row : List Int} {f : Fd} (h : f ∈ hvF pt least n row) : f.1 = n := by
  unfold hvF at h
  simp only [List.mem_map] at h
  obtain ⟨i, _, rfl⟩ := h
  rfl
theorem hvF_asc {pt : Nat → Int → Int} {least : Int} {n : Nat} {row : List Int} (h : row.Pairwise (· < ·)) : (hvF pt least n row).Pairwise AscR := by
  unfold hvF
  rw [List.pairwise_map]
  refine (h.filter _).imp ?_
  intro a b hab _ _
  exact hab
theorem hvN_asc {pt : Nat → Int → Int} {least : Int} {n : Nat} {row : List Int} (h : row.Pairwise (· < ·)) : (hvN pt least n row).Pairwise (· < ·) := by
  unfold hvN
  split
  · exact List.Pairwise.nil
  · rw [List.pairwise_flatMap]
    refine ⟨fun a _ => ?_, (h.filter _).imp ?_⟩
    · simp
      omega
    · intro a b hab x hx y hy
      simp at hx hy
      rcases hx with rfl | rfl <;> rcases hy with rfl | rfl <;> omega
theorem hvGo_asc (pt : Nat → Int → Int) (least budget : Int) : ∀ (m : Nat) (a : Int) (row : List Int) (out l : List Fd), row.Pairwise (· < ·) → out.Pairwise AscR → (∀ f ∈ out, m ≤ f.1) → hvGo pt least budget m a row out = some l → l.Pairwise AscR
  | 0, a, row, out, l, _, h2, _, h => by
    have : out = l := Option.some.inj h
    exact this ▸ h2
  | m + 1, a, row, out, l, h1, h2, h3, h => by
    by_cases hb : budget < a + row.length
    · rw [hvGo_no hb] at h; cases h
    · rw [hvGo_yes (by omega)] at h
      refine hvGo_asc pt least budget m _ _ _ l (hvN_asc h1) ?_ ?_ h
      · rw [List.pairwise_append]
        refine ⟨h2, hvF_asc h1, fun x hx y hy e _ => ?_⟩
        have := h3 x hx
        omega
      · intro f hf
        rcases List.mem_append.1 hf with hf | hf
        · have := h3 f hf; omega
        · have := hvF_lv hf; omega
theorem heavyP_asc (pt : Nat → Int → Int) (least budget : Int) (B : Nat) : (heavyP pt least budget B).1.Pairwise AscR := by
  by_cases hb : least < 1 ∨ 4096 < budget
  · rw [heavyP_bad hb]; exact List.Pairwise.nil
  · rw [heavyP_go (by omega) (by omega)]
    match hh : hvGo pt least budget (B + 1) 0 [0] [] with
    | none => exact List.Pairwise.nil
    | some l => exact hvGo_asc pt least budget _ _ _ _ l (by simp) List.Pairwise.nil (by simp) hh
theorem keep_nodup {l : List Fd} (h : l.Pairwise AscR) : (keepD l).Nodup := by
  unfold keepD
  refine List.Pairwise.imp_of_mem ?_ (h.filter (fun f => decide (f.1 = 0)))
  rintro a b ha hb hab rfl
  rw [List.mem_filter] at ha
  have h0 : a.1 = 0 := by simpa using ha.2
  have := hab h0 h0
  omega
theorem srt_unique {d S S' : List Fd} (h : SrtOf d S) (h' : SrtOf d S') (hz : ∀ f ∈ d, f.1 = 0) : S = S' := by
  have htot : ∀ a b : Fd, ltC a b = false → ltC b a = false → a.2 = b.2 := fun a b h1 h2 => by
    rw [ltC_iff, decide_eq_false_iff_not] at h1 h2
    have e1 : a.2.2 = b.2.2 := by
      rcases Int.lt_trichotomy a.2.2 b.2.2 with h | h | h
      · exact absurd (.inl h) h2
      · exact h
      · exact absurd (.inl h) h1
    have e2 : a.2.1 = b.2.1 := by
      rcases Int.lt_trichotomy a.2.1 b.2.1 with h | h | h
      · exact absurd (.inr ⟨e1.symm, h⟩) h1
      · exact h
      · exact absurd (.inr ⟨e1, h⟩) h2
    exact Prod.ext e2 e1
  have hp1 : S.Pairwise (fun a b => ltC b a = false) := List.pairwise_iff_getElem.2 fun i j hi hj hij => h.sorted i j hij hj
  have hp2 : S'.Pairwise (fun a b => ltC b a = false) := List.pairwise_iff_getElem.2 fun i j hi hj hij => h'.sorted i j hij hj
  refine List.Perm.eq_of_pairwise (le := fun a b => ltC b a = false) ?_ hp1 hp2 (h.perm.trans h'.perm.symm)
  intro a b ha hb h1 h2
  have za := hz a (h.perm.mem_iff.1 ha)
  have zb := hz b (h'.perm.mem_iff.1 hb)
  exact Prod.ext (za.trans zb.symm) (htot a b h2 h1)
theorem keep_zero {l : List Fd} : ∀ f ∈ keepD l, f.1 = 0 := fun f hf => by
  unfold keepD at hf
  rw [List.mem_filter] at hf
  simpa using hf.2
end Go.Proofs.YtfhdjekpdifajaaGreat
namespace Go.Proofs.YtfhdjekpdifajaaGreat
set_option linter.unusedVariables false
open Go.RowKit
theorem hvGo_len (pt : Nat → Int → Int) (least budget : Int) : ∀ (m : Nat) (asked : Int) (row : List Int) (out l : List Fd), budget ≤ 4096 → (out.length : Int) ≤ asked → asked ≤ 4096 → hvGo pt least budget m asked row out = some l → l.length ≤ 4096
  | 0, asked, row, out, l, _, h1, h2, h => by
    have : out = l := Option.some.inj h
    subst this
    omega
  | m + 1, asked, row, out, l, hb, h1, h2, h => by
    by_cases hg : budget < asked + row.length
    · rw [hvGo_no hg] at h; cases h
    · rw [hvGo_yes (by omega)] at h
      have := hvF_len pt least m row
      exact hvGo_len pt least budget m _ _ _ l hb (by rw [List.length_append]; omega) (by omega) h
theorem heavyP_len (pt : Nat → Int → Int) (least budget : Int) (B : Nat) : (heavyP pt least budget B).1.length ≤ 4096 := by
  by_cases hb : least < 1 ∨ 4096 < budget
  · rw [heavyP_bad hb]; simp
  · rw [heavyP_go (by omega) (by omega)]
    match hh : hvGo pt least budget (B + 1) 0 [0] [] with
    | none => simp [hvRes]
    | some l => exact hvGo_len pt least budget _ _ _ _ l (by omega) (by simp) (by omega) hh
theorem heavyP_err (pt : Nat → Int → Int) (least budget : Int) (B : Nat) : (heavyP pt least budget B).2 = 0 ∨ (heavyP pt least budget B).1 = [] := by
  by_cases hb : least < 1 ∨ 4096 < budget
  · rw [heavyP_bad hb]; exact .inr rfl
  · rw [heavyP_go (by omega) (by omega)]
    match hvGo pt least budget (B + 1) 0 [0] [] with
    | none => exact .inr rfl
    | some l => exact .inl rfl
def TopPost (w : World) (H : List Fd × Int) (n : Int) (e : Ending) (w' : World) : Prop :=
  ∃ v S, e = .returned (.tuple #[v, .int .i64 H.2]) ∧ SrtOf (keepD H.1) S ∧ w'.ownsRow w.heap.size 130 3 v (S.take (max n 0).toNat).length (fdV (S.take (max n 0).toNat)) ∧ Ext w w'
theorem srt_nil : SrtOf [] [] := ⟨List.Perm.refl _, fun i j _ hj => by simp at hj⟩
set_option maxRecDepth 20000 in
set_option maxHeartbeats 8000000 in
theorem Top_c (N : Nat) (hS : SortsTo N) (s g : Nat) (C : Cfg) (B : Nat) (L : Nat → Lev) (ls : Nat → List Int) (w : World) (h : KAt w s g C B L ls) (pt : Nat → Int → Int) (hU : Uniq C B ls pt) (n least budget : Int)
    (hN : (keepD (heavyP pt least budget B).1).length ≤ N) :
    Calls Tryz.prog 76 #[.pointer (some ⟨s, 0, none⟩), .int .i64 n, .int .i64 least, .int .i64 budget] w (TopPost w (heavyP pt least budget B) n) := by
  have hH := Heavy_c s g C B L ls w h pt hU least budget
  have hlen := heavyP_len pt least budget B
  have herr := heavyP_err pt least budget B
  unfold HeavyPost at hH
  generalize heavyP pt least budget B = H at *
  obtain ⟨D, er⟩ := H
  dsimp only at hH hlen herr hN
  have HHV := Lib.hid hH
  have HS := Lib.hid hS
  clear hH h hU hS
  by_cases he : er = 0
  · subst he
    clear herr
    go_enter Tryz.func76, Tryz.ntmps76
    go_wp2_with fail
    refine Calls.mono HHV.out ?_
    rintro e w1 ⟨v, rfl, ho, hx1⟩
    obtain ⟨p, cap, rfl⟩ := own_sl ho
    have hdel := Delete_c w.heap.size p cap D w1 ho (by omega)
    have HDEL := Lib.hid hdel
    have HX1 := Lib.hid hx1
    clear hdel ho hx1
    generalize hld : D.length = ld at *
    go_wp2_with fail
    refine Calls.mono HDEL.out ?_
    rintro e w2 ⟨p2, cap2, rfl, ho2, hx2⟩
    have hE2 := hx2 w HX1.out (Nat.le_refl _)
    clear hx2 HDEL
    generalize hkd : keepD D = K at *
    have HKD := Lib.hid hkd
    clear hkd
    have HE2 := Lib.hid hE2
    have HO2 := Lib.hid ho2
    clear ho2 hE2
    by_cases hk : 0 < K.length
    · obtain ⟨gr, cr, hv, hb, hg, _⟩ := own_row_cells HO2.out hk
      cases hv
      have hrow : RowD w.heap.size gr cap2 w2 w2 K.toArray := ⟨by simpa using HO2.out, fun v h1 _ => h1⟩
      have hsort := HS.out w.heap.size gr cap2 w2 w2 K.toArray hrow (by simpa using hN)
      rw [show K.toArray.size = K.length by simp] at hsort
      have HSO := Lib.hid hsort
      clear hrow hsort
      generalize hlk : K.length = lk at *
      go_wp2_with fail
      refine Calls.mono HSO.out ?_
      rintro e w3 ⟨rfl, d', hd, hsr, hrow⟩
      have hown := hrow.own
      have hE3 := hrow.ext w HE2.out (Nat.le_refl _)
      rw [hd] at hown
      have HSR := Lib.hid hsr
      have HE3 := Lib.hid hE3
      have HOW := Lib.hid hown
      have HDL := Lib.hid hd
      clear hrow hown hE3 hsr hd
      have hcap : lk ≤ cap2 := by
        obtain ⟨_, _, _, hv2, _, _, hcc, _⟩ := HOW.out.2.resolve_left (fun h => by cases h.1)
        cases hv2
        exact hcc
      have hdl : d'.toList.length = lk := by rw [Array.length_toList, HDL.out]
      have HD2 := Lib.hid hdl
      clear hdl
      go_wp2
      go_ret2
      have hm : (min (max n 0) (lk : Int)).toNat = (d'.toList.take (max n 0).toNat).length := by rw [List.length_take, HD2.out]; omega
      have hml : (d'.toList.take (max n 0).toNat).length ≤ lk := by rw [List.length_take, HD2.out]; omega
      have hcut := own_cut HOW.out hml
      rw [fdV_take, List.length_take, ← List.take_eq_take_min, ← List.length_take] at hcut
      refine ⟨.slice (some ⟨gr, 0, none⟩) (min (max n 0) (lk : Int)).toNat cap2, d'.toList, rfl, by rw [show keepD (D, (0 : Int)).1 = K from HKD.out]; simpa using HSR.out, ?_, HE3.out⟩
      rw [hm]
      exact hcut
    · obtain rfl : K = [] := List.length_eq_zero_iff.1 (by omega)
      have hsort := SortQ_c p2 0 cap2 (by decide) (fun w' => w' = w2) w2 (Ins0_c p2 cap2 w2)
      have HSO := Lib.hid hsort
      have h0 : (min (max n 0) 0).toNat = 0 := by omega
      clear hsort
      go_wp2_with fail
      refine Calls.mono HSO.out ?_
      rintro e w3 ⟨rfl, rfl⟩
      go_wp2
      go_ret2
      refine ⟨.slice p2 0 cap2, [], rfl, by rw [show keepD (D, (0 : Int)).1 = [] from HKD.out]; exact srt_nil, ?_, HE2.out⟩
      rw [List.take_nil]
      exact HO2.out
  · obtain rfl : D = [] := herr.resolve_left he
    have hne : (er == 0) = false := beq_eq_false_iff_ne.2 he
    go_enter Tryz.func76, Tryz.ntmps76
    go_wp2_with fail
    refine Calls.mono HHV.out ?_
    rintro e w1 ⟨v, rfl, ho, hx1⟩
    have HX1 := Lib.hid hx1
    clear hx1 ho
    go_wp2
    go_ret2
    refine ⟨.slice none 0 0, [], rfl, srt_nil, ?_, HX1.out⟩
    rw [List.take_nil]
    exact ⟨rfl, .inl ⟨rfl, rfl⟩⟩
end Go.Proofs.YtfhdjekpdifajaaGreat
namespace Go.Proofs.YtfhdjekpdifajaaGreat
set_option linter.unusedVariables false
open Go.RowKit
theorem fd_cells {w : World} {base : Nat} {e : TypeId} {p : Option Addr} {n c : Nat} {l : List Fd} (h : w.ownsRow base e 3 (.slice p n c) n (fdV l)) {k : Nat} (hk : k < l.length) :
    ∃ g, p = some ⟨g, 0, none⟩ ∧ g < w.heap.size ∧ w.cell? ⟨g, k * 3, none⟩ = some (.int .i64 (l[k].1 : Int)) ∧ w.cell? ⟨g, k * 3 + 1, none⟩ = some (.int .u64 l[k].2.1) ∧ w.cell? ⟨g, k * 3 + 2, none⟩ = some (.int .i64 l[k].2.2) := by
  have hl : n = l.length := by have := h.1; rw [fdV_len] at this; omega
  obtain ⟨g, cap, hv, _, hg, hc⟩ := own_row_cells h (by omega)
  cases hv
  obtain ⟨h1, h2, h3⟩ := fdV_getAt hk
  exact ⟨g, rfl, hg, (hc _ (by omega)).trans h1, (hc _ (by omega)).trans h2, (hc _ (by omega)).trans h3⟩
end Go.Proofs.YtfhdjekpdifajaaGreat
namespace Go.Proofs.YtfhdjekpdifajaaGreat
set_option linter.unusedVariables false
open Go.RowKit
def sF (s b c : Nat) (k : Nat) : Prop := k = s ∨ k = b ∨ k = c
theorem SAt.own {w : World} {s b c : Nat} {C : Cfg} {lv : Int} {R W : Nat} {l : List Int} (h : SAt w s b c C lv R W l) : Own (sF s b c) (fun w => SAt w s b c C lv R W l) w :=
  ⟨h, fun w w' h hk => h.keep (hk s (.inl rfl)) (hk b (.inr (.inl rfl))) (hk c (.inr (.inr rfl))), fun k hk => by
    rcases hk with rfl | rfl | rfl
    · exact h.lts
    · exact h.g.ltb
    · exact h.g.ltc⟩
/-- Two sketches, and two of the references. -/
def Q4 (N : Nat) (w : World) (C : Cfg) (lv : Int) (R W : Nat) (s o r q : Nat) (l m l' m' : List Int) : Prop :=
  ∃ b c b2 c2 G G2, Own4 N w (sF s b c) (sF o b2 c2) (rsF r G R) (rsF q G2 R) (fun w => SAt w s b c C lv R W l) (fun w => SAt w o b2 c2 C lv R W m) (fun w => RSAt w r G C lv R W l') (fun w => RSAt w q G2 C lv R W m')
section
variable {N : Nat} {w w' : World} {C : Cfg} {lv : Int} {R W : Nat} {s o r q : Nat} {l m l' m' : List Int}
theorem Q4.ext (h : Q4 N w C lv R W s o r q l m l' m') (he : Ext w w') : Q4 N w' C lv R W s o r q l m l' m' := by
  obtain ⟨b, c, b2, c2, G, G2, h⟩ := h
  exact ⟨b, c, b2, c2, G, G2, h.ext he⟩
end
end Go.Proofs.YtfhdjekpdifajaaGreat
namespace Go.Proofs.YtfhdjekpdifajaaGreat
set_option linter.unusedVariables false
open Go.RowKit
/-- The blocks of a stack. -/
def kF (s g B : Nat) (L : Nat → Lev) (k : Nat) : Prop := k = s ∨ k = g ∨ ∃ n, n ≤ B ∧ (k = (L n).s ∨ k = (L n).b ∨ k = (L n).c)
theorem KAt.keep {w w' : World} {s g : Nat} {C : Cfg} {B : Nat} {L : Nat → Lev} {ls : Nat → List Int} (h : KAt w s g C B L ls) (hk : ∀ k, kF s g B L k → w'.heap[k]? = w.heap[k]?) : KAt w' s g C B L ls :=
  ⟨by rw [hk s (.inl rfl)]; exact h.ex, by rw [hk g (.inr (.inl rfl))]; exact h.row, fun n hn => (h.lev n hn).keep (hk _ (.inr (.inr ⟨n, hn, .inl rfl⟩))) (hk _ (.inr (.inr ⟨n, hn, .inr (.inl rfl)⟩))) (hk _ (.inr (.inr ⟨n, hn, .inr (.inr rfl)⟩))), h.sep, h.ok, h.hB⟩
theorem KAt.own {w : World} {s g : Nat} {C : Cfg} {B : Nat} {L : Nat → Lev} {ls : Nat → List Int} (h : KAt w s g C B L ls) : Own (kF s g B L) (fun w => KAt w s g C B L ls) w :=
  ⟨h, fun w w' h hk => h.keep hk, fun k hk => by
    rcases hk with rfl | rfl | ⟨n, hn, rfl | rfl | rfl⟩
    · exact h.lts
    · exact h.ltg
    · exact (h.lev n hn).lts
    · exact (h.lev n hn).ltb
    · exact (h.lev n hn).ltc⟩
section
variable {N : Nat} {w w' : World} {F1 F2 F3 F4 : Nat → Prop} {P1 P2 P3 P4 : World → Prop} {C : Cfg} {B s r : Nat} {g t : Nat} {L : Nat → Lev} {M : Nat → RLev} {l l' : Nat → List Int}
end
end Go.Proofs.YtfhdjekpdifajaaGreat
namespace Go.Proofs.YtfhdjekpdifajaaGreat
set_option linter.unusedVariables false
open Go.RowKit
/-- A stack of the program and one of the references that have the same cells. -/
def S2 (N : Nat) (w : World) (C : Cfg) (B : Nat) (v1 v2 : Value) : Prop :=
  ∃ s g L r t M l, v1 = .pointer (some ⟨s, 0, none⟩) ∧ v2 = .pointer (some ⟨r, 0, none⟩) ∧ Own4 N w (kF s g B L) (fun _ => False) (rkF r t C B M) (fun _ => False) (fun w => KAt w s g C B L l) (fun _ => True) (fun w => RKAt w r t C B M l) (fun _ => True)
theorem S2.mk {N : Nat} {w : World} {C : Cfg} {B s g r t : Nat} {L : Nat → Lev} {M : Nat → RLev} {l : Nat → List Int} (h : Own4 N w (kF s g B L) (fun _ => False) (rkF r t C B M) (fun _ => False) (fun w => KAt w s g C B L l) (fun _ => True) (fun w => RKAt w r t C B M l) (fun _ => True)) : S2 N w C B (.pointer (some ⟨s, 0, none⟩)) (.pointer (some ⟨r, 0, none⟩)) := ⟨s, g, L, r, t, M, l, rfl, rfl, h⟩
end Go.Proofs.YtfhdjekpdifajaaGreat
namespace Go.Proofs.YtfhdjekpdifajaaGreat
set_option linter.unusedVariables false
open Go.RowKit
/-- A row of one's own. -/
def ZAt (w : World) (z K : Nat) (xs : List Int) : Prop := xs.length = K ∧ (∀ x ∈ xs, I64 x) ∧ ∃ cur, w.heap[z]? = some (.cells cur 2 (0, 0)) ∧ ∀ j, j < K → cur[j]? = some (.int .i64 (xs.getD j 0))
theorem ZAt.set {w : World} {z K i : Nat} {xs : List Int} {d : Int} (h : ZAt w z K xs) (hi : i < K) (hd : I64 d) : ZAt (w.setCell ⟨z, i, none⟩ (.int .i64 d)) z K (xs.set i d) := by
  obtain ⟨rfl, h2, cur, h3, h4⟩ := h
  refine ⟨List.length_set, fun y hy => ?_, _, setCell_same h3 i _, fun k hk => ?_⟩
  · rcases List.mem_or_eq_of_mem_set hy with h | rfl
    · exact h2 y h
    · exact hd
  · by_cases e : k = i
    · subst e
      have hsz : k < cur.size := by
        have := h4 k hk
        rw [Array.getElem?_eq_some_iff] at this
        exact this.1
      rw [Array.getElem?_setIfInBounds_self_of_lt hsz, List.getD_eq_getElem?_getD, List.getElem?_set_self hk]
      rfl
    · rw [Array.getElem?_setIfInBounds_ne (fun h => e h.symm), h4 k hk, List.getD_eq_getElem?_getD, List.getD_eq_getElem?_getD, List.getElem?_set_ne (fun h => e h.symm)]
theorem ZAt.ints {w : World} {z K zc : Nat} {xs : List Int} (h : ZAt w z K xs) : IntsAt w (.slice (some ⟨z, 0, none⟩) K zc) xs := by
  obtain ⟨rfl, h2, cur, h3, h4⟩ := h
  exact .inr ⟨z, 0, zc, rfl, lt_of h3, fun k hk => by rw [cell_of h3, Nat.zero_add]; exact h4 k hk⟩
theorem ZAt.lt {w : World} {z K : Nat} {xs : List Int} (h : ZAt w z K xs) : z < w.heap.size := by obtain ⟨_, _, cur, h3, _⟩ := h; exact lt_of h3
theorem ZAt.cell {w : World} {z K i : Nat} {xs : List Int} (h : ZAt w z K xs) (hi : i < K) : w.cell? ⟨z, i, none⟩ = some (.int .i64 (xs.getD i 0)) ∧ w.frozen? ⟨z, i, none⟩ = false := by
  obtain ⟨_, _, cur, h3, h4⟩ := h; exact ⟨(cell_of h3 i).trans (h4 i hi), frozen_of h3 i⟩
end Go.Proofs.YtfhdjekpdifajaaGreat
namespace Go.Proofs.YtfhdjekpdifajaaGreat
set_option linter.unusedVariables false
open Go.RowKit
def u64s (l : List Int) : List Value := l.map fun x => .int .u64 x
theorem u64s_len (l : List Int) : (u64s l).length = l.length := by unfold u64s; rw [List.length_map]
theorem u64s_append (a b : List Int) : u64s (a ++ b) = u64s a ++ u64s b := by unfold u64s; rw [List.map_append]
theorem info_u64 : ∃ i z, Tryz.prog.info? 22 = some i ∧ i.zero = some z ∧ i.size = 1 ∧ i.bytes = 8 ∧ z.cells.size = 1 := by
  have h : (Tryz.prog.info? 22).map (fun i => (i.zero, i.size, i.bytes)) = some (some (.int .u64 0), 1, 8) := by kernel_rfl
  match hi : Tryz.prog.info? 22, h with
  | some i, h =>
    simp only [Option.map_some, Option.some.injEq, Prod.mk.injEq] at h
    exact ⟨i, _, rfl, h.1, h.2.1, h.2.2, rfl⟩
/-- A slice of uint64s. -/
def UAt (w : World) (v : Value) (xs : List Int) : Prop :=
  (v = .slice none 0 0 ∧ xs = []) ∨ ∃ g off cap, v = .slice (some ⟨g, off, none⟩) xs.length cap ∧ g < w.heap.size ∧ ∀ k, k < xs.length → w.cell? ⟨g, off + k, none⟩ = some (.int .u64 (xs.getD k 0))
theorem UAt.ext {w w' : World} {v : Value} {xs : List Int} (h : UAt w v xs) (he : Ext w w') : UAt w' v xs := by
  rcases h with h | ⟨g, off, cap, h1, h2, h3⟩
  · exact .inl h
  · exact .inr ⟨g, off, cap, h1, Nat.lt_of_lt_of_le h2 he.size, fun k hk => ((bcell he).1 _ _ h2).trans (h3 k hk)⟩
theorem UAt.of_row {w : World} {base : Nat} {e : TypeId} {v : Value} {n : Nat} {xs : List Int} (h : w.ownsRow base e 1 v n (u64s xs)) : UAt w v xs := by
  have hn : n = xs.length := by have := h.1; rw [u64s_len] at this; omega
  subst hn
  by_cases h0 : 0 < xs.length
  · obtain ⟨g, cap, rfl, _, hg, hc⟩ := own_row_cells h h0
    refine .inr ⟨g, 0, cap, rfl, hg, fun k hk => ?_⟩
    rw [show (0 + k) = k by omega, hc k (by omega)]
    unfold u64s
    rw [List.getElem?_map, List.getElem?_eq_getElem hk]
    simp [List.getD, hk]
  · have hx : xs = [] := List.length_eq_zero_iff.1 (by omega)
    subst hx
    rcases h.2 with ⟨rfl, _⟩ | ⟨g, cap, cur, rfl, _, hh, _⟩
    · exact .inl ⟨rfl, rfl⟩
    · exact .inr ⟨g, 0, cap, rfl, lt_of hh, fun k hk => by simp at hk⟩
theorem UAt.sl {w : World} {v : Value} {xs : List Int} (h : UAt w v xs) : ∃ p c, v = .slice p xs.length c := by
  rcases h with ⟨rfl, rfl⟩ | ⟨g, off, cap, rfl, _⟩
  · exact ⟨none, 0, rfl⟩
  · exact ⟨_, _, rfl⟩
theorem UAt.one {w : World} {p : Option Addr} {n c : Nat} {xs : List Int} (h : UAt w (.slice p n c) xs) {k : Nat} (hk : k < n) : ∃ g off, p = some ⟨g, off, none⟩ ∧ g < w.heap.size ∧ w.cell? ⟨g, off + k, none⟩ = some (.int .u64 (xs.getD k 0)) := by
  rcases h with ⟨h1, _⟩ | ⟨g, off, cap, h1, h2, h3⟩
  · cases h1; omega
  · cases h1
    exact ⟨g, off, rfl, h2, h3 k hk⟩
theorem IntsAt.oneH {w : World} {p : Option Addr} {n c : Nat} {xs : List Int} (h : IntsAt w (.slice p n c) xs) {k : Nat} (hk : k < n) : ∃ g off, p = some ⟨g, off, none⟩ ∧ g < w.heap.size ∧ w.cell? ⟨g, off + k, none⟩ = some (.int .i64 (xs.getD k 0)) := by
  rcases h with ⟨h1, _⟩ | ⟨g, off, cap, h1, h2, h3⟩
  · cases h1; omega
  · cases h1
    exact ⟨g, off, rfl, h2, h3 k hk⟩
/-- One after the other, up to the first error. -/
def eachR {α : Type} (f : α → Int × Int) (l : List α) : List Int × Int := match l.find? (fun x => decide ((f x).2 ≠ 0)) with | none => (l.map fun x => (f x).1, 0) | some x => ([], (f x).2)
theorem eachR_ok {α : Type} {f : α → Int × Int} {l : List α} (h : ∀ x ∈ l, (f x).2 = 0) : eachR f l = (l.map fun x => (f x).1, 0) := by
  unfold eachR
  rw [List.find?_eq_none.2 (fun x hx => by simp [h x hx])]
theorem eachR_err {α : Type} {f : α → Int × Int} {pre suf : List α} {x : α} (h : ∀ y ∈ pre, (f y).2 = 0) (hx : (f x).2 ≠ 0) : eachR f (pre ++ x :: suf) = ([], (f x).2) := by
  unfold eachR
  have h1 : (pre ++ x :: suf).find? (fun x => decide ((f x).2 ≠ 0)) = some x := by
    rw [List.find?_append, List.find?_eq_none.2 (fun y hy => by simp [h y hy])]
    simp [hx]
  rw [h1]
theorem list_split {α : Type} {l : List α} {k : Nat} (h : k < l.length) : l = l.take k ++ l[k] :: l.drop (k + 1) := by
  rw [← List.drop_eq_getElem_cons h, List.take_append_drop]
theorem take_map_snoc {α : Type} {f : α → Int × Int} {l : List α} {k : Nat} (h : k < l.length) : (l.take (k + 1)).map (fun x => (f x).1) = (l.take k).map (fun x => (f x).1) ++ [(f l[k]).1] := by
  rw [List.take_add_one, List.getElem?_eq_getElem h, List.map_append]; rfl
def EachPost (w : World) (r : List Int × Int) (e : Ending) (w' : World) : Prop :=
  ∃ v, e = .returned (.tuple #[v, .int .i64 r.2]) ∧ w'.ownsRow w.heap.size 22 1 v r.1.length (u64s r.1) ∧ Ext w w'
set_option maxRecDepth 20000 in
set_option maxHeartbeats 4000000 in
theorem Ask1_c (s b : Nat) (f : Int → Int × Int) (k : Int) (w : World) (hb : w.cell? ⟨b, 0, none⟩ = some (.pointer (some ⟨s, 0, none⟩))) (hbl : b < w.heap.size)
    (hq : Calls Tryz.prog 33 #[.pointer (some ⟨s, 0, none⟩), .int .i64 k] w fun e w' => e = .returned (.tuple #[.int .u64 (f k).1, .int .i64 (f k).2]) ∧ Ext w w') :
    Calls Tryz.prog 130 #[.int .i64 k, .pointer (some ⟨b, 0, none⟩)] w fun e w' => e = .returned (.tuple #[.int .u64 (f k).1, .int .i64 (f k).2]) ∧ Ext w w' := by
  have HQ := Lib.hid hq
  clear hq
  go_enter Tryz.func130, Tryz.ntmps130
  go_wp2_with fail
  refine Calls.mono HQ.out ?_
  rintro e w1 ⟨rfl, hx1⟩
  go_wp2
  go_ret2
  exact ⟨rfl, hx1⟩
set_option maxRecDepth 20000 in
set_option maxHeartbeats 8000000 in
theorem Each1_c (b : Nat) (f : Int → Int × Int) (ks : List Int) (p : Option Addr) (cap : Nat) (w : World) (hks : IntsAt w (.slice p ks.length cap) ks) (hl : ks.length ≤ 100000)
    (hask : ∀ k ∈ ks, ∀ W', Ext w W' → Calls Tryz.prog 130 #[.int .i64 k, .pointer (some ⟨b, 0, none⟩)] W' fun e w' => e = .returned (.tuple #[.int .u64 (f k).1, .int .i64 (f k).2]) ∧ Ext W' w') :
    Calls Tryz.prog 129 #[.slice p ks.length cap, .func (.func 130) #[] #[.pointer (some ⟨b, 0, none⟩)]] w (EachPost w (eachR f ks)) := by
  have HK := Lib.hid hks
  have HA := Lib.hid hask
  clear hks hask
  generalize hn : ks.length = n at *
  have HN := Lib.hid hn
  clear hn
  go_enter Tryz.func129, Tryz.ntmps129
  go_wp2_with fail
  go_loopw [6, 13] (fun u6 u13 wr => ∃ k : Nat, k ≤ n ∧ u13 = .int .i64 k ∧ (∀ x ∈ ks.take k, (f x).2 = 0) ∧ wr.ownsRow w.heap.size 22 1 u6 k (u64s ((ks.take k).map fun x => (f x).1)) ∧ Ext w wr) (fun _ u13 _ => n - (intOf u13).toNat)
  case atStart => exact ⟨0, Nat.zero_le _, rfl, by simp, ⟨rfl, .inl ⟨rfl, rfl⟩⟩, Ext.refl _⟩
  case round =>
    obtain ⟨k, hk, rfl, hall, hown, hE⟩ := hrel
    obtain ⟨po, co, rfl⟩ := own_sl hown
    have HO := Lib.hid hown
    have HALL := Lib.hid hall
    clear hown hall
    by_cases hlt : k < n
    · have hkl : k < ks.length := by rw [HN.out]; exact hlt
      obtain ⟨g, off, rfl, hg, hc⟩ := (HK.out.ext hE).oneH hlt
      have hx : ks.getD k 0 = ks[k] := by simp [List.getD, hkl]
      rw [hx] at hc
      have hcall := HA.out ks[k] (List.getElem_mem hkl) wr hE
      have hsp := list_split hkl
      have hsn := take_map_snoc (f := f) hkl
      have HSP := Lib.hid hsp
      have HSN := Lib.hid hsn
      have hts : ks.take (k + 1) = ks.take k ++ [ks[k]] := by rw [List.take_add_one, List.getElem?_eq_getElem hkl]; rfl
      have HTS := Lib.hid hts
      have HCALL := Lib.hid hcall
      clear hcall hsp hsn hx hts
      generalize ks[k] = kk at *
      go_wp2_with fail
      refine Calls.mono HCALL.out ?_
      rintro e w2 ⟨rfl, hx2⟩
      have hE2 := hE.trans' hx2
      have HO2 := Lib.hid (own_ext HO.out hx2)
      clear hx2 hc hg
      by_cases he : (f kk).2 = 0
      · rw [he]
        have hs2 := hE2.size
        generalize hfv : (f kk).1 = y at *
        go_wp2_with (at_builtin; refine wpList_appK w2 1 8 1 (by decide) (by decide) [.int .u64 y] rfl (by simp [Value.oneCell']) _ k _ w.heap.size 22 _ HO2.out 110 rfl _ _ rfl info_u64 Tryz.underlying110 _ rfl (by rfl) (by rfl) ?a1 ?a2 ?_)
        case a1 => omega
        case a2 => exact hs2
        intro v' w3 g1 g2 _
        have hE3 : Ext w w3 := ext_grown hE2 g2 (fun j hj => own_geB HO2.out hj)
        obtain ⟨po3, co3, rfl⟩ := own_sl g1
        have G1 := Lib.hid g1
        clear g1 g2
        go_wp2
        go_roundw
        case rel => exact ⟨k + 1, by omega, by go_num, fun x hx => by
          rw [HTS.out] at hx
          rcases List.mem_append.1 hx with hx | hx
          · exact HALL.out x hx
          · rw [List.mem_singleton.1 hx]; exact he, by rw [HSN.out, u64s_append, List.map_take]; exact G1.out, hE3⟩
        case measure => simp [intOf]; omega
      · have hne : ((f kk).2 == 0) = false := beq_eq_false_iff_ne.2 he
        have hres : eachR f ks = ([], (f kk).2) := by
          rw [HSP.out]; exact eachR_err HALL.out he
        have HRES := Lib.hid hres
        clear hres
        generalize (f kk).2 = er at *
        go_wp2
        go_ret2
        refine ⟨.slice none 0 0, ?_, ?_, hE2⟩
        · rw [HRES.out]; rfl
        · rw [HRES.out]; exact ⟨rfl, .inl ⟨rfl, rfl⟩⟩
    · obtain rfl : k = n := by omega
      have htk : ks.take k = ks := List.take_of_length_le (by rw [HN.out]; exact Nat.le_refl _)
      have hres : eachR f ks = (ks.map fun x => (f x).1, 0) := eachR_ok (fun x hx => HALL.out x (by rw [htk]; exact hx))
      have ho := HO.out
      rw [htk] at ho
      have HO3 := Lib.hid ho
      have HRES := Lib.hid hres
      clear htk hres ho
      go_wp2
      go_ret2
      refine ⟨.slice po k co, ?_, ?_, hE⟩
      · rw [HRES.out]; rfl
      · rw [HRES.out]
        show World.ownsRow _ _ _ _ _ (ks.map _).length _
        rw [List.length_map, HN.out]
        exact HO3.out
end Go.Proofs.YtfhdjekpdifajaaGreat
namespace Go.Proofs.YtfhdjekpdifajaaGreat
set_option linter.unusedVariables false
open Go.RowKit
set_option maxRecDepth 20000 in
set_option maxHeartbeats 4000000 in
theorem Quantiles_c (s : Nat) (f : Int → Int × Int) (ks : List Int) (p : Option Addr) (cap : Nat) (w : World) (hks : IntsAt w (.slice p ks.length cap) ks) (hl : ks.length ≤ 100000)
    (hq : ∀ k ∈ ks, ∀ W', Ext w W' → Calls Tryz.prog 33 #[.pointer (some ⟨s, 0, none⟩), .int .i64 k] W' fun e w' => e = .returned (.tuple #[.int .u64 (f k).1, .int .i64 (f k).2]) ∧ Ext W' w') :
    Calls Tryz.prog 71 #[.pointer (some ⟨s, 0, none⟩), .slice p ks.length cap] w (EachPost w (eachR f ks)) := by
  have hx0 : Ext w (w.alloc (.cells #[.pointer (some ⟨s, 0, none⟩)] 28)) := Ext.alloc' _ _
  have hbx := heap_at w (.cells #[.pointer (some ⟨s, 0, none⟩)] 28) rfl
  have hE := Each1_c w.heap.size f ks p cap _ (hks.ext hx0) hl (fun k hk W' hE' => Ask1_c s w.heap.size f k W' ((cell_of (hE'.keep hbx) 0).trans rfl) (lt_of (hE'.keep hbx)) (hq k hk W' (hx0.trans' hE')))
  have HE := Lib.hid hE
  clear hE hq hks hbx
  generalize hn : ks.length = n at *
  go_enter Tryz.func71, Tryz.ntmps71
  go_wp2_with fail
  refine Calls.mono HE.out ?_
  rintro e w1 ⟨v, rfl, ho, hx1⟩
  have HX1 := Lib.hid (hx0.trans' hx1)
  have HO := Lib.hid (own_bmono ho hx0.size)
  clear ho hx1 hx0
  go_wp2
  go_ret2
  exact ⟨v, rfl, HO.out, HX1.out⟩
end Go.Proofs.YtfhdjekpdifajaaGreat
namespace Go.Proofs.YtfhdjekpdifajaaGreat
set_option linter.unusedVariables false
open Go.RowKit
def spV (l : List (Int × Int)) : List Value := l.flatMap fun p => [.int .u64 p.1, .int .u64 p.2]
theorem spV_append (a b : List (Int × Int)) : spV (a ++ b) = spV a ++ spV b := by unfold spV; rw [List.flatMap_append]
theorem spV_at {l : List (Int × Int)} : ∀ {k : Nat} (h : k < l.length), (spV l)[k * 2]? = some (.int .u64 l[k].1) ∧ (spV l)[k * 2 + 1]? = some (.int .u64 l[k].2) := by
  induction l with
  | nil => intro k h; simp at h
  | cons u l ih =>
    intro k h
    have e : spV (u :: l) = .int .u64 u.1 :: .int .u64 u.2 :: spV l := rfl
    rw [e]
    cases k with
    | zero => exact ⟨rfl, rfl⟩
    | succ k =>
      have := ih (k := k) (by simpa using h)
      rw [show (k + 1) * 2 = k * 2 + 1 + 1 by omega]
      simp only [List.getElem?_cons_succ, List.getElem_cons_succ]
      exact this
theorem info_2u : ∃ i z, Tryz.prog.info? 209 = some i ∧ i.zero = some z ∧ i.size = 2 ∧ i.bytes = 16 ∧ z.cells.size = 2 := by
  have h : (Tryz.prog.info? 209).map (fun i => (i.zero, i.size, i.bytes)) = some (some (.agg #[.int .u64 0, .int .u64 0]), 2, 16) := by kernel_rfl
  match hi : Tryz.prog.info? 209, h with
  | some i, h =>
    simp only [Option.map_some, Option.some.injEq, Prod.mk.injEq] at h
    exact ⟨i, _, rfl, h.1, h.2.1, h.2.2, rfl⟩
theorem info_i64e : ∃ i z, Tryz.prog.info? 2 = some i ∧ i.zero = some z ∧ i.size = 1 ∧ i.bytes = 8 ∧ z.cells.size = 1 := by
  have h : (Tryz.prog.info? 2).map (fun i => (i.zero, i.size, i.bytes)) = some (some (.int .i64 0), 1, 8) := by kernel_rfl
  match hi : Tryz.prog.info? 2, h with
  | some i, h =>
    simp only [Option.map_some, Option.some.injEq, Prod.mk.injEq] at h
    exact ⟨i, _, rfl, h.1, h.2.1, h.2.2, rfl⟩
def EachIPost (w : World) (r : List Int × Int) (e : Ending) (w' : World) : Prop :=
  ∃ v, e = .returned (.tuple #[v, .int .i64 r.2]) ∧ w'.ownsRow w.heap.size 2 1 v r.1.length (ints r.1) ∧ Ext w w'
set_option maxRecDepth 20000 in
set_option maxHeartbeats 4000000 in
theorem Ask2_c (s b : Nat) (f : Int × Int → Int × Int) (x y : Int) (w : World) (hb : w.cell? ⟨b, 0, none⟩ = some (.pointer (some ⟨s, 0, none⟩))) (hbl : b < w.heap.size)
    (hq : ∀ W', Ext w W' → Calls Tryz.prog 80 #[.pointer (some ⟨s, 0, none⟩), .int .u64 x, .int .u64 y] W' fun e w' => e = .returned (.tuple #[.int .i64 (f (x, y)).1, .int .i64 (f (x, y)).2]) ∧ Ext W' w') :
    Calls Tryz.prog 132 #[.agg #[.int .u64 x, .int .u64 y], .pointer (some ⟨b, 0, none⟩)] w fun e w' => e = .returned (.tuple #[.int .i64 (f (x, y)).1, .int .i64 (f (x, y)).2]) ∧ Ext w w' := by
  have hx0 : Ext w (w.alloc (.cells #[.int .u64 x, .int .u64 y] 209)) := Ext.alloc' _ _
  have HQ := Lib.hid (hq _ hx0)
  clear hq
  go_enter Tryz.func132, Tryz.ntmps132
  go_wp2_with fail
  refine Calls.mono HQ.out ?_
  rintro e w1 ⟨rfl, hx1⟩
  have hE := hx0.trans' hx1
  go_wp2
  go_ret2
  exact ⟨rfl, hE⟩
set_option maxRecDepth 20000 in
set_option maxHeartbeats 8000000 in
theorem EachS_c (b : Nat) (f : Int × Int → Int × Int) (ks : List (Int × Int)) (base : Nat) (p : Option Addr) (cap : Nat) (w : World) (hks : w.ownsRow base 209 2 (.slice p ks.length cap) ks.length (spV ks)) (hl : ks.length ≤ 100000)
    (hask : ∀ k ∈ ks, ∀ W', Ext w W' → Calls Tryz.prog 132 #[.agg #[.int .u64 k.1, .int .u64 k.2], .pointer (some ⟨b, 0, none⟩)] W' fun e w' => e = .returned (.tuple #[.int .i64 (f k).1, .int .i64 (f k).2]) ∧ Ext W' w') :
    Calls Tryz.prog 131 #[.slice p ks.length cap, .func (.func 132) #[] #[.pointer (some ⟨b, 0, none⟩)]] w (EachIPost w (eachR f ks)) := by
  have HK := Lib.hid hks
  have HA := Lib.hid hask
  clear hks hask
  generalize hn : ks.length = n at *
  have HN := Lib.hid hn
  clear hn
  go_enter Tryz.func131, Tryz.ntmps131
  go_wp2_with fail
  go_loopw [6, 13] (fun u6 u13 wr => ∃ k : Nat, k ≤ n ∧ u13 = .int .i64 k ∧ (∀ x ∈ ks.take k, (f x).2 = 0) ∧ wr.ownsRow w.heap.size 2 1 u6 k (ints ((ks.take k).map fun x => (f x).1)) ∧ Ext w wr) (fun _ u13 _ => n - (intOf u13).toNat)
  case atStart => exact ⟨0, Nat.zero_le _, rfl, by simp, ⟨rfl, .inl ⟨rfl, rfl⟩⟩, Ext.refl _⟩
  case round =>
    obtain ⟨k, hk, rfl, hall, hown, hE⟩ := hrel
    obtain ⟨po, co, rfl⟩ := own_sl hown
    have HO := Lib.hid hown
    have HALL := Lib.hid hall
    clear hown hall
    by_cases hlt : k < n
    · have hkl : k < ks.length := by rw [HN.out]; exact hlt
      obtain ⟨g, capk, hv, _, hg, hcell⟩ := own_row_cells (own_ext HK.out hE) (by omega)
      cases hv
      have hcs := spV_at hkl
      have c0 := (hcell (k * 2) (by omega)).trans hcs.1
      have c1 := (hcell (k * 2 + 1) (by omega)).trans hcs.2
      have hEa : Ext w (wr.alloc (.cells #[.int .u64 ks[k].1, .int .u64 ks[k].2] 209)) := hE.allocR _
      have hcall := HA.out ks[k] (List.getElem_mem hkl) _ hEa
      have hsp := list_split hkl
      have hsn := take_map_snoc (f := f) hkl
      have HSP := Lib.hid hsp
      have HSN := Lib.hid hsn
      have hts : ks.take (k + 1) = ks.take k ++ [ks[k]] := by rw [List.take_add_one, List.getElem?_eq_getElem hkl]; rfl
      have HTS := Lib.hid hts
      have HCALL := Lib.hid hcall
      have HOA := Lib.hid (HO.out.alloc (.cells #[.int .u64 ks[k].1, .int .u64 ks[k].2] 209))
      clear hcall hsp hsn hts hcs hcell HO
      generalize ks[k] = kk at *
      go_wp2_with fail
      refine Calls.mono HCALL.out ?_
      rintro e w2 ⟨rfl, hx2⟩
      have hE2 := hEa.trans' hx2
      have HO2 := Lib.hid (own_ext HOA.out hx2)
      clear hx2 c0 c1 hg
      by_cases he : (f kk).2 = 0
      · rw [he]
        have hs2 := hE2.size
        generalize hfv : (f kk).1 = y at *
        go_wp2_with (at_builtin; refine wpList_appK w2 1 8 1 (by decide) (by decide) [.int .i64 y] rfl (by simp [Value.oneCell']) _ k _ w.heap.size 2 _ HO2.out 43 rfl _ _ rfl info_i64e Tryz.underlying43 _ rfl (by rfl) (by rfl) ?a1 ?a2 ?_)
        case a1 => omega
        case a2 => exact hs2
        intro v' w3 g1 g2 _
        have hE3 : Ext w w3 := ext_grown hE2 g2 (fun j hj => own_geB HO2.out hj)
        obtain ⟨po3, co3, rfl⟩ := own_sl g1
        have G1 := Lib.hid g1
        clear g1 g2
        go_wp2
        go_roundw
        case rel => exact ⟨k + 1, by omega, by go_num, fun x hx => by
          rw [HTS.out] at hx
          rcases List.mem_append.1 hx with hx | hx
          · exact HALL.out x hx
          · rw [List.mem_singleton.1 hx]; exact he, by rw [HSN.out, ints_app, List.map_take]; exact G1.out, hE3⟩
        case measure => simp [intOf]; omega
      · have hne : ((f kk).2 == 0) = false := beq_eq_false_iff_ne.2 he
        have hres : eachR f ks = ([], (f kk).2) := by
          rw [HSP.out]; exact eachR_err HALL.out he
        have HRES := Lib.hid hres
        clear hres
        generalize (f kk).2 = er at *
        go_wp2
        go_ret2
        refine ⟨.slice none 0 0, ?_, ?_, hE2⟩
        · rw [HRES.out]; rfl
        · rw [HRES.out]; exact ⟨rfl, .inl ⟨rfl, rfl⟩⟩
    · obtain rfl : k = n := by omega
      have htk : ks.take k = ks := List.take_of_length_le (by rw [HN.out]; exact Nat.le_refl _)
      have hres : eachR f ks = (ks.map fun x => (f x).1, 0) := eachR_ok (fun x hx => HALL.out x (by rw [htk]; exact hx))
      have ho := HO.out
      rw [htk] at ho
      have HO3 := Lib.hid ho
      have HRES := Lib.hid hres
      clear htk hres ho
      go_wp2
      go_ret2
      refine ⟨.slice po k co, ?_, ?_, hE⟩
      · rw [HRES.out]; rfl
      · rw [HRES.out]
        show World.ownsRow _ _ _ _ _ (ks.map _).length _
        rw [List.length_map, HN.out]
        exact HO3.out
/-- Do the cuts rise? -/
def Rise (cuts : List Int) (k : Nat) : Prop := ∀ j, j + 1 < k → cuts.getD j 0 < cuts.getD (j + 1) 0
/-- Are the cuts keys, but for 0? -/
def Inner (K : Int) (cuts : List Int) : Prop := ∀ c ∈ cuts, 1 ≤ c ∧ c < K
def spansL (K : Int) : Int → List Int → List (Int × Int)
  | a, [] => [(a, K - 1)]
  | a, c :: r => (a, c - 1) :: spansL K c r
open Classical in
noncomputable def histR (f : Int × Int → Int × Int) (K : Int) (cuts : List Int) : List Int × Int :=
  if ¬ Rise cuts cuts.length then ([], 1) else if ¬ Inner K cuts then ([], 2) else eachR f (spansL K 0 cuts)
end Go.Proofs.YtfhdjekpdifajaaGreat
namespace Go.Proofs.YtfhdjekpdifajaaGreat
set_option linter.unusedVariables false
open Go.RowKit
theorem spans_step {K a c : Int} {r : List Int} {pre tot : List (Int × Int)} (h : tot = pre ++ spansL K a (c :: r)) : tot = (pre ++ [(a, c - 1)]) ++ spansL K c r := by
  rw [h, List.append_assoc]; rfl
theorem drop_getD {l : List Int} {k : Nat} (h : k < l.length) : l.drop k = l.getD k 0 :: l.drop (k + 1) := by
  rw [List.drop_eq_getElem_cons h]; simp [List.getD, h]
theorem hist_rise {f : Int × Int → Int × Int} {K : Int} {cuts : List Int} (h : ¬ Rise cuts cuts.length) : histR f K cuts = ([], 1) := by unfold histR; rw [if_pos h]
theorem hist_key {f : Int × Int → Int × Int} {K : Int} {cuts : List Int} (h : Rise cuts cuts.length) (h2 : ¬ Inner K cuts) : histR f K cuts = ([], 2) := by unfold histR; rw [if_neg (fun h3 => h3 h), if_pos h2]
theorem hist_ok {f : Int × Int → Int × Int} {K : Int} {cuts : List Int} (h : Rise cuts cuts.length) (h2 : Inner K cuts) : histR f K cuts = eachR f (spansL K 0 cuts) := by unfold histR; rw [if_neg (fun h3 => h3 h), if_neg (fun h3 => h3 h2)]
set_option maxRecDepth 20000 in
set_option maxHeartbeats 8000000 in
theorem Hist_c (s g : Nat) (C : Cfg) (B : Nat) (L : Nat → Lev) (ls : Nat → List Int) (w : World) (h : KAt w s g C B L ls) (f : Int × Int → Int × Int) (cuts : List Int) (p : Option Addr) (cap : Nat) (hcu : UAt w (.slice p cuts.length cap) cuts) (hU : ∀ c ∈ cuts, U64 c) (hl : cuts.length ≤ 90000)
    (hq : ∀ x y, U64 x → U64 y → ∀ W', Ext w W' → Calls Tryz.prog 80 #[.pointer (some ⟨s, 0, none⟩), .int .u64 x, .int .u64 y] W' fun e w' => e = .returned (.tuple #[.int .i64 (f (x, y)).1, .int .i64 (f (x, y)).2]) ∧ Ext W' w') :
    Calls Tryz.prog 74 #[.pointer (some ⟨s, 0, none⟩), .slice p cuts.length cap] w (EachIPost w (histR f (keys C 0) cuts)) := by
  have hkb := keys_bd C h.ok 0 (Int.le_refl 0)
  have hok := h.ok
  have hx0 : Ext w (w.alloc (.cells #[.pointer (some ⟨s, 0, none⟩)] 28)) := Ext.alloc' _ _
  have hbx := heap_at w (.cells #[.pointer (some ⟨s, 0, none⟩)] 28) rfl
  have c0 := (cell_of hbx 0).trans rfl
  have cl := lt_of hbx
  have HBX := Lib.hid hbx
  have HH := Lib.hid (h.ext hx0)
  have HC := Lib.hid (hcu.ext hx0)
  have HQ := Lib.hid hq
  have HUC := Lib.hid hU
  have HOK := Lib.hid hok
  have HX0 := Lib.hid hx0
  clear h hcu hq hU hbx hok hx0
  generalize hn : cuts.length = n at *
  have HN := Lib.hid hn
  clear hn
  go_enter Tryz.func74, Tryz.ntmps74
  go_wp2_with fail
  generalize w.alloc (.cells #[.pointer (some ⟨s, 0, none⟩)] 28) = W0 at *
  refine (SKConfig_c s g C B L ls _ HH.out).mono ?_
  rintro e w1 ⟨rfl, hx1⟩
  go_wp2_with fail
  refine (Keys_c C HOK.out 0 (Int.le_refl 0) (by have := HOK.out.b1; omega) _).mono ?_
  rintro e w2 ⟨rfl, hx2⟩
  have HE0 := Lib.hid (hx1.trans' hx2)
  have hE2 := HX0.out.trans' HE0.out
  have HBX2 := Lib.hid (HE0.out.keep HBX.out)
  have HC2 := Lib.hid (HC.out.ext HE0.out)
  clear c0 cl HBX HH HC hx1 hx2 HX0
  generalize keys C 0 = K at *
  go_wp2_with fail
  go_loopw [18] (fun u18 wr => ∃ k : Nat, k ≤ n ∧ u18 = .int .i64 k ∧ Rise cuts k ∧ w2 = wr) (fun u18 _ => n - (intOf u18).toNat)
  case atStart => exact ⟨0, Nat.zero_le _, rfl, fun j hj => by omega, rfl⟩
  case round =>
    obtain ⟨k, hk, rfl, hri, rfl⟩ := hrel
    have HRI := Lib.hid hri
    clear hri
    by_cases hlt : k < n
    · obtain ⟨gc, off, rfl, hg, hc⟩ := HC2.out.one hlt
      cases k with
      | zero =>
        rw [Nat.add_zero] at hc
        generalize cuts.getD 0 0 = x at hc
        go_wp2
        go_roundw
        case rel => exact ⟨1, by omega, rfl, fun j hj => by omega, by trivial⟩
        case measure => simp [intOf]; omega
      | succ q =>
        obtain ⟨gc2, off2, hp2, hg2, hc2⟩ := HC2.out.one (k := q) (by omega)
        cases hp2
        have hwp : IntKind.i64.wrap (q : Int) = (q : Int) := by rw [IntKind.wrap_i64]; omega
        by_cases hle : cuts.getD (q + 1) 0 ≤ cuts.getD q 0
        · have hres := hist_rise (f := f) (K := K) (cuts := cuts) (fun h => by have := h q (by have := HN.out; omega); omega)
          have HRES := Lib.hid hres
          clear hres
          generalize cuts.getD (q + 1) 0 = x at *
          generalize cuts.getD q 0 = y at *
          go_wp2
          go_ret2
          refine ⟨.slice none 0 0, ?_, ?_, hE2⟩
          · rw [HRES.out]; rfl
          · rw [HRES.out]; exact ⟨rfl, .inl ⟨rfl, rfl⟩⟩
        · have hri2 : Rise cuts (q + 1 + 1) := fun j hj => by
            by_cases e : j = q
            · subst e; omega
            · exact HRI.out j (by omega)
          have HRI2 := Lib.hid hri2
          clear hri2
          generalize cuts.getD (q + 1) 0 = x at *
          generalize cuts.getD q 0 = y at *
          go_wp2
          go_roundw
          case rel => exact ⟨q + 1 + 1, by omega, by go_num, HRI2.out, by trivial⟩
          case measure => simp [intOf]; omega
    · obtain rfl : n = k := by omega
      have hrise : Rise cuts cuts.length := by rw [HN.out]; exact HRI.out
      have HRISE := Lib.hid hrise
      clear hrise
      go_wp2_with fail
      go_loopw [9, 10, 37] (fun u9 u10 u37 wr => ∃ (k : Nat) (a : Int) (pre : List (Int × Int)), k ≤ n ∧ u37 = .int .i64 k ∧ u10 = .int .u64 a ∧ 0 ≤ a ∧ a < K ∧ (∀ c ∈ cuts.take k, 1 ≤ c ∧ c < K) ∧ pre.length = k ∧ spansL K 0 cuts = pre ++ spansL K a (cuts.drop k) ∧ (∀ x ∈ pre, U64 x.1 ∧ U64 x.2) ∧ wr.ownsRow w2.heap.size 209 2 u9 k (spV pre) ∧ Ext w2 wr) (fun _ _ u37 _ => n - (intOf u37).toNat)
      case atStart => exact ⟨0, 0, [], Nat.zero_le _, rfl, rfl, by omega, by omega, by simp, rfl, rfl, by simp, ⟨rfl, .inl ⟨rfl, rfl⟩⟩, Ext.refl _⟩
      case round =>
        obtain ⟨k, a, pre, hk, rfl, rfl, ha0, ha1, hin, hpl, hsp, hpu, hown, hE⟩ := hrel
        obtain ⟨po, co, rfl⟩ := own_sl hown
        have HO := Lib.hid hown
        have HIN := Lib.hid hin
        have HSP := Lib.hid hsp
        have HPL := Lib.hid hpl
        have HPU := Lib.hid hpu
        have hEw := hE2.trans' hE
        clear hown hin hsp hpl hpu
        by_cases hlt : k < n
        · have hkl : k < cuts.length := by rw [HN.out]; exact hlt
          obtain ⟨gc, off, hp2, hg, hc⟩ := (HC2.out.ext hE).one hlt
          subst hp2
          have hmem : cuts.getD k 0 ∈ cuts := by simp [List.getD, hkl]
          have hcu := HUC.out _ hmem
          have hts : cuts.take (k + 1) = cuts.take k ++ [cuts.getD k 0] := by rw [List.take_add_one, List.getElem?_eq_getElem hkl]; simp [List.getD, hkl]
          have hdr := drop_getD hkl
          have HTS := Lib.hid hts
          have HDR := Lib.hid hdr
          have HMEM := Lib.hid hmem
          clear hts hdr hmem
          generalize cuts.getD k 0 = c at *
          obtain ⟨hc0, hc1⟩ := hcu
          by_cases hz : c = 0
          · have hres := hist_key (f := f) (K := K) HRISE.out (fun h => by have := h c HMEM.out; omega)
            have HRES := Lib.hid hres
            clear hres
            subst hz
            go_wp2
            go_ret2
            refine ⟨.slice none 0 0, ?_, ?_, hEw⟩
            · rw [HRES.out]; rfl
            · rw [HRES.out]; exact ⟨rfl, .inl ⟨rfl, rfl⟩⟩
          · have hz0 : (c == 0) = false := beq_eq_false_iff_ne.2 hz
            by_cases hKc : K ≤ c
            · have hres := hist_key (f := f) (K := K) HRISE.out (fun h => by have := h c HMEM.out; omega)
              have HRES := Lib.hid hres
              clear hres
              go_wp2
              go_ret2
              refine ⟨.slice none 0 0, ?_, ?_, hEw⟩
              · rw [HRES.out]; rfl
              · rw [HRES.out]; exact ⟨rfl, .inl ⟨rfl, rfl⟩⟩
            · have hsz := hE.size
              have hwp : IntKind.u64.wrap (c - 1) = c - 1 := by rw [IntKind.wrap_u64]; omega
              go_wp2_with (at_builtin; refine wpList_appK wr 2 16 1 (by decide) (by decide) [.int .u64 a, .int .u64 (c - 1)] rfl (by simp [Value.oneCell']) _ k _ w2.heap.size 209 _ HO.out 208 rfl _ _ rfl info_2u Tryz.underlying208 _ rfl (by rfl) (by rfl) (by omega) hsz ?_)
              intro v' w3 g1 g2 _
              have hE3 : Ext w2 w3 := ext_grown hE g2 (fun j hj => own_geB HO.out hj)
              obtain ⟨po3, co3, rfl⟩ := own_sl g1
              have G1 := Lib.hid g1
              clear g1 g2 hc
              go_wp2
              go_roundw
              case rel =>
                refine ⟨k + 1, c, pre ++ [(a, c - 1)], by omega, by go_num, rfl, by omega, by omega, ?_, by rw [List.length_append, HPL.out]; rfl, spans_step (by rw [← HDR.out]; exact HSP.out), ?_, by rw [spV_append]; exact G1.out, hE3⟩
                · intro x hx
                  rw [HTS.out] at hx
                  rcases List.mem_append.1 hx with hx | hx
                  · exact HIN.out x hx
                  · rw [List.mem_singleton.1 hx]; omega
                · intro x hx
                  rcases List.mem_append.1 hx with hx | hx
                  · exact HPU.out x hx
                  · rw [List.mem_singleton.1 hx]; unfold U64; dsimp only; omega
              case measure => simp [intOf]; omega
        · obtain rfl : n = k := by omega
          have htk : cuts.take n = cuts := List.take_of_length_le (by rw [HN.out]; exact Nat.le_refl _)
          have hinn : Inner K cuts := fun c hc => HIN.out c (by rw [htk]; exact hc)
          have hres := hist_ok (f := f) HRISE.out hinn
          have hsp2 : spansL K 0 cuts = pre ++ [(a, K - 1)] := by
            rw [HSP.out, List.drop_of_length_le (by rw [HN.out]; exact Nat.le_refl _)]; rfl
          rw [hsp2] at hres
          have HRES := Lib.hid hres
          clear htk hinn hres hsp2
          have hsz := hE.size
          have hwp : IntKind.u64.wrap (K - 1) = K - 1 := by rw [IntKind.wrap_u64]; omega
          go_wp2_with (at_builtin; go_loud (refine wpList_appK wr 2 16 1 (by decide) (by decide) [.int .u64 a, .int .u64 (K - 1)] rfl (by simp [Value.oneCell']) _ n _ w2.heap.size 209 _ HO.out 208 rfl _ _ rfl info_2u Tryz.underlying208 _ rfl (by rfl) (by rfl) (by omega) hsz ?_))
          intro v' w3 g1 g2 _
          have hE3 : Ext w2 w3 := ext_grown hE g2 (fun j hj => own_geB HO.out hj)
          obtain ⟨po3, co3, rfl⟩ := own_sl g1
          have hb3 := hE3.keep HBX2.out
          have hpl2 : (pre ++ [(a, K - 1)]).length = n + 1 := by rw [List.length_append, HPL.out]; rfl
          have hE03 := hE2.trans' hE3
          have hea := EachS_c w.heap.size f (pre ++ [(a, K - 1)]) w2.heap.size po3 co3 w3 (by rw [hpl2, spV_append]; exact g1) (by omega) (fun x hx W' hE' => by
            have hxu : U64 x.1 ∧ U64 x.2 := by
              rcases List.mem_append.1 hx with hx | hx
              · exact HPU.out x hx
              · rw [List.mem_singleton.1 hx]; unfold U64; dsimp only; omega
            have hb4 := hE'.keep hb3
            exact Ask2_c s w.heap.size f x.1 x.2 W' ((cell_of hb4 0).trans rfl) (lt_of hb4) (fun W'' hE'' => HQ.out x.1 x.2 hxu.1 hxu.2 W'' ((hE03.trans' hE').trans' hE'')))
          rw [hpl2] at hea
          have HEA := Lib.hid hea
          clear g1 g2 hea hpl2 hb3
          go_wp2_with fail
          refine Calls.mono HEA.out ?_
          rintro e w4 ⟨v, rfl, ho, hx4⟩
          have hE4 := hE03.trans' hx4
          have HO4 := Lib.hid (own_bmono ho hE03.size)
          clear ho hx4
          go_wp2
          go_ret2
          refine ⟨v, ?_, ?_, hE4⟩
          · rw [HRES.out]; rfl
          · rw [HRES.out]; exact HO4.out
end Go.Proofs.YtfhdjekpdifajaaGreat
namespace Go.Proofs.YtfhdjekpdifajaaGreat
set_option linter.unusedVariables false
open Go.RowKit
def K9 : Cfg := ⟨2, 1, 4, 1, 0⟩
theorem K9_ok : K9.Ok := by constructor <;> simp [K9, U64]
def us9 : List (Int × Int) := [(1, 5), (2, 3)]
theorem us9_ok : UpsOk us9 := by
  intro u hu
  simp only [us9, List.mem_cons, List.not_mem_nil, or_false] at hu
  rcases hu with rfl | rfl <;> (constructor <;> simp [U64, I64])
theorem K9_c1 : cutK K9 0 1 = 1 := by decide
theorem K9_c2 : cutK K9 0 2 = 2 := by decide
theorem K9_d5 : cutD K9.mode 5 = 5 := by decide
theorem K9_d3 : cutD K9.mode 3 = 3 := by decide
theorem K9_s1 : updK K9 (feedK K9 []) 1 5 = feedK K9 [(1, 5)] := by
  have h := feedK_snoc K9 [] (1, 5)
  rw [K9_c1, K9_d5] at h
  exact h.symm
theorem K9_s2 : updK K9 (feedK K9 [(1, 5)]) 2 3 = feedK K9 us9 := by
  have h := feedK_snoc K9 [(1, 5)] (2, 3)
  rw [K9_c2, K9_d3] at h
  exact h.symm
theorem K9_e1 : errK K9 2 (feedK K9 []) 1 5 = 0 := by
  have h := feedK_ok K9 K9_ok (B := 2) rfl [] (by decide) (1, 5)
  rw [K9_c1, K9_d5] at h
  exact h
theorem K9_e2 : errK K9 2 (feedK K9 [(1, 5)]) 2 3 = 0 := by
  have h := feedK_ok K9 K9_ok (B := 2) rfl [(1, 5)] (by decide) (2, 3)
  rw [K9_c2, K9_d3] at h
  exact h
theorem us9_p : psU K9 us9 = [(1, 5), (2, 3)] := by decide
theorem K9_x (n : Nat) (h : n ≤ 2) : isX K9 n = true := by
  match n, h with
  | 0, _ => decide
  | 1, _ => decide
  | 2, _ => decide
def pt9 : Nat → Int → Int := pcS [(1, 5), (2, 3)]
theorem K9_u : Uniq K9 2 (feedK K9 us9) pt9 := fun n i x hn h0 h1 h => by
  have : x = ptK K9 2 us9 n i := ptK_of hn h0 h1 h
  rw [this, ptK_x K9_ok rfl us9_ok hn h0 h1 (K9_x n hn), us9_p]
  rfl
theorem pt9_I (n : Nat) (i : Int) : I64 (pt9 n i) := by
  show I64 (lsum [bif sh n 1 == i then 5 else 0, bif sh n 2 == i then 3 else 0])
  generalize (sh n 1 == i) = a
  generalize (sh n 2 == i) = b
  unfold I64
  cases a <;> cases b <;> decide
theorem K9_t : (feedK K9 us9 2).getD 0 0 = 8 := by
  have h := feed_total K9_ok (B := 2) rfl us9_ok
  rw [show fus us9 0 60 = us9 from rfl, hasK_pc, us9_p] at h
  rw [h]
  decide
theorem h9 : heavyP pt9 1 7 2 = ([(2, 0, 8), (1, 0, 5), (1, 1, 3), (0, 1, 5), (0, 2, 3)], 0) := by decide
theorem srt9 {S : List Fd} (h : SrtOf [(0, 1, 5), (0, 2, 3)] S) : S = [(0, 1, 5), (0, 2, 3)] := by
  obtain ⟨hp, hs⟩ := h
  have hl := hp.length_eq
  match S, hl with
  | [a, b], _ =>
    have h1 := hs 0 1 (by decide) (by simp)
    have ha : a ∈ [((0 : Nat), (1 : Int), (5 : Int)), (0, 2, 3)] := hp.subset (by simp)
    have hb : b ∈ [((0 : Nat), (1 : Int), (5 : Int)), (0, 2, 3)] := hp.subset (by simp)
    have hd : a ≠ b := by
      intro e
      subst e
      have := hp.nodup_iff.2 (by decide)
      simp at this
    simp only [List.mem_cons, List.not_mem_nil, or_false] at ha hb
    rcases ha with rfl | rfl <;> rcases hb with rfl | rfl
    · exact absurd rfl hd
    · rfl
    · exfalso
      revert h1
      decide
    · exact absurd rfl hd
theorem e9_q : eachR (quanR pt9 2 8) [5, 6] = ([1, 2], 0) := by decide
def f9 (x : Int × Int) : Int × Int := rangR 2 pt9 x.1 x.2
theorem k9 : keys K9 0 = 4 := by decide
theorem h9_a : histR f9 (keys K9 0) [2] = ([5, 3], 0) := by
  rw [k9, hist_ok (fun j hj => by simp at hj) (fun c hc => by simp at hc; omega)]
  decide
theorem h9_b : histR f9 (keys K9 0) [2, 2] = ([], 1) :=
  hist_rise (fun h => by have := h 0 (by decide); revert this; decide)
theorem u1 (w : World) (a : Int) (t : TypeId) : UAt (w.alloc (.cells #[.int .u64 a] t)) (.slice (some ⟨w.heap.size, 0, none⟩) 1 1) [a] := by
  have h0 := (cell_of (heap_at w (.cells #[.int .u64 a] t) rfl) 0).trans rfl
  refine .inr ⟨w.heap.size, 0, 1, rfl, by rw [size_alloc]; omega, fun k hk => ?_⟩
  match k, hk with
  | 0, _ => exact h0
theorem u2 (w : World) (a b : Int) (t : TypeId) : UAt (w.alloc (.cells #[.int .u64 a, .int .u64 b] t)) (.slice (some ⟨w.heap.size, 0, none⟩) 2 2) [a, b] := by
  have h0 := (cell_of (heap_at w (.cells #[.int .u64 a, .int .u64 b] t) rfl) 0).trans rfl
  have h1 := (cell_of (heap_at w (.cells #[.int .u64 a, .int .u64 b] t) rfl) 1).trans rfl
  refine .inr ⟨w.heap.size, 0, 2, rfl, by rw [size_alloc]; omega, fun k hk => ?_⟩
  match k, hk with
  | 0, _ => exact h0
  | 1, _ => exact h1
set_option maxRecDepth 20000 in
set_option maxHeartbeats 8000000 in
theorem shown19_c (w : World) : Calls Tryz.prog 69 #[] w fun e w' => e = .returned (.bool true) ∧ Ext w w' := by
  go_enter Tryz.func69, Tryz.ntmps69
  go_wp2_with fail
  refine (KNew_c K9 K9_ok _).mono ?_
  rintro e w1 ⟨s, g, L, rfl, hK, hs, hg, hL, hx1⟩
  have hE1 : Ext w w1 := by (repeat' (first | exact Ext.refl _ | assumption | apply Ext.allocR | apply Ext.drewR | apply Ext.drewNR | (refine Ext.trans' ?_ (by assumption))))
  have hF : KFresh w.heap.size 2 L := hL
  replace hK : KAt w1 s g K9 2 L (feedK K9 []) := hK
  clear hx1 hL hg hs
  go_wp2_with fail
  refine Calls.mono (KUpdate_c s g K9 2 L _ 1 5 _ (hK.ext ?hx) (by unfold I64; omega) (by unfold U64; omega)) ?_
  case hx => (repeat' (first | exact Ext.refl _ | assumption | apply Ext.allocR | apply Ext.drewR | apply Ext.drewNR | (refine Ext.trans' ?_ (by assumption))))
  rintro e w3 ⟨rfl, hK3, hM3⟩
  have hE3 : Ext w w3 := hF.ext (by (repeat' (first | exact Ext.refl _ | assumption | apply Ext.allocR | apply Ext.drewR | apply Ext.drewNR | (refine Ext.trans' ?_ (by assumption))))) hM3
  rw [K9_e1] at hK3 ⊢
  replace hK3 : KAt w3 s g K9 2 L (updK K9 (feedK K9 []) 1 5) := hK3
  rw [K9_s1] at hK3
  clear hM3 hE1 hK
  go_wp2_with fail
  refine Calls.mono (KUpdate_c s g K9 2 L _ 2 3 _ (hK3.ext ?hx) (by unfold I64; omega) (by unfold U64; omega)) ?_
  case hx => (repeat' (first | exact Ext.refl _ | assumption | apply Ext.allocR | apply Ext.drewR | apply Ext.drewNR | (refine Ext.trans' ?_ (by assumption))))
  rintro e w4 ⟨rfl, hK4, hM4⟩
  have hE4 : Ext w w4 := hF.ext (by (repeat' (first | exact Ext.refl _ | assumption | apply Ext.allocR | apply Ext.drewR | apply Ext.drewNR | (refine Ext.trans' ?_ (by assumption))))) hM4
  rw [K9_e2] at hK4 ⊢
  replace hK4 : KAt w4 s g K9 2 L (updK K9 (feedK K9 [(1, 5)]) 2 3) := hK4
  rw [K9_s2] at hK4
  clear hM4 hE3 hK3
  have hQ : ∀ W' k, Ext w4 W' → I64 k → Calls Tryz.prog 33 #[.pointer (some ⟨s, 0, none⟩), .int .i64 k] W' fun e w' => e = .returned (.tuple #[.int .u64 (quanR pt9 2 8 k).1, .int .i64 (quanR pt9 2 8 k).2]) ∧ Ext W' w' := fun W' k h hk => by
    have := Quan_of s 2 (by decide) pt9 ((feedK K9 us9 2).getD 0 0) k W' (fun W'' hE => WayR_c s g K9 2 L (feedK K9 us9) W'' ((hK4.ext h).ext hE) k hk pt9 K9_u pt9_I)
    rw [K9_t] at this
    exact this
  have hR : ∀ x y, U64 x → U64 y → ∀ W', Ext w4 W' → Calls Tryz.prog 80 #[.pointer (some ⟨s, 0, none⟩), .int .u64 x, .int .u64 y] W' fun e w' => e = .returned (.tuple #[.int .i64 (rangR 2 pt9 x y).1, .int .i64 (rangR 2 pt9 x y).2]) ∧ Ext W' w' := fun x y hx hy W' h =>
    (Range_c s g K9 2 L (feedK K9 us9) W' (hK4.ext h) pt9 K9_u pt9_I x y hx hy).mono fun e w' h => rang_of h
  have HK := Lib.hid hK4
  have HQ := Lib.hid hQ
  have HR := Lib.hid hR
  clear hK4 hQ hR hF
  go_wp2_with fail
  have hEa : Ext w4 (w4.alloc (.cells #[.int .i64 5, .int .i64 6] 2)) := Ext.alloc' _ _
  refine Calls.mono (Quantiles_c s (quanR pt9 2 8) [5, 6] (some ⟨w4.heap.size, 0, none⟩) 2 _ (ints2 w4 5 6 _) (by decide) (fun k hk W' h => HQ.out W' k (hEa.trans' h) (by simp at hk; unfold I64; omega))) ?_
  rintro e w5 ⟨v5, rfl, ho5, hx5⟩
  rw [e9_q] at ho5 ⊢
  obtain ⟨g5, c5, rfl, _, hg5, hc5⟩ := own_row_cells ho5 (by decide)
  have q0 := (hc5 0 (by decide)).trans (show _ = some (Value.int .u64 1) from rfl)
  have q1 := (hc5 1 (by decide)).trans (show _ = some (Value.int .u64 2) from rfl)
  have hE5 : Ext w4 w5 := hEa.trans' hx5
  have Q := Lib.hid (And.intro q0 q1)
  clear ho5 hx5 hc5 q0 q1 hEa
  go_wp2_with fail
  have hEb : Ext w4 (w5.alloc (.cells #[.int .u64 2] 22)) := hE5.allocR _
  refine Calls.mono (Hist_c s g K9 2 L (feedK K9 us9) _ (HK.out.ext hEb) f9 [2] (some ⟨w5.heap.size, 0, none⟩) 1 (u1 w5 2 _) (fun c hc => by simp at hc; subst hc; unfold U64; omega) (by decide) (fun x y hx hy W' h => HR.out x y hx hy W' (hEb.trans' h))) ?_
  rintro e w6 ⟨v6, rfl, ho6, hx6⟩
  rw [h9_a] at ho6 ⊢
  have HI6 := Lib.hid (IntsAt.of_row ho6)
  have hE6 : Ext w4 w6 := hEb.trans' hx6
  have hE56 : Ext w5 w6 := (Ext.alloc' _ _).trans' hx6
  obtain ⟨p6, c6, rfl⟩ := own_sl ho6
  clear ho6 hx6 hEb hE5
  go_wp2_with fail
  refine Calls.mono (Top_c 12 sorts_12 s g K9 2 L (feedK K9 us9) _ (HK.out.ext hE6) pt9 K9_u 1 1 7 (by rw [h9]; decide)) ?_
  rintro e w7 ⟨v7, S, rfl, hS, ho7, hx7⟩
  rw [h9] at hS ⊢
  have hS2 := srt9 (S := S) hS
  subst hS2
  obtain ⟨g7, c7, rfl, _, hg7, hc7⟩ := own_row_cells ho7 (by decide)
  have t0 := (hc7 0 (by decide)).trans (show _ = some (Value.int .i64 0) from rfl)
  have t1 := (hc7 1 (by decide)).trans (show _ = some (Value.int .u64 1) from rfl)
  have t2 := (hc7 2 (by decide)).trans (show _ = some (Value.int .i64 5) from rfl)
  have T7 := Lib.hid (And.intro t0 (And.intro t1 t2))
  have hE7 : Ext w4 w7 := hE6.trans' hx7
  have hE57 := hE56.trans' hx7
  have HX7 := Lib.hid hx7
  clear ho7 hc7 hS t0 t1 t2 hx7 hE6 hE56
  go_wp2_with fail
  have hEc : Ext w4 (w7.alloc (.cells #[.int .u64 2, .int .u64 2] 22)) := hE7.allocR _
  refine Calls.mono (Hist_c s g K9 2 L (feedK K9 us9) _ (HK.out.ext hEc) f9 [2, 2] (some ⟨w7.heap.size, 0, none⟩) 2 (u2 w7 2 2 _) (fun c hc => by simp at hc; subst hc; unfold U64; omega) (by decide) (fun x y hx hy W' h => HR.out x y hx hy W' (hEc.trans' h))) ?_
  rintro e w8 ⟨v8, rfl, ho8, hx8⟩
  rw [h9_b] at ho8 ⊢
  have hE78 : Ext w7 w8 := (Ext.alloc' _ _).trans' hx8
  have hE58 := hE57.trans' hE78
  have hE8 := hE4.trans' (hE7.trans' hE78)
  obtain ⟨q0', q1'⟩ := Q.out
  obtain ⟨t0', t1', t2'⟩ := T7.out
  have q0 := ((bcell hE58).1 _ _ hg5).trans q0'
  have q1 := ((bcell hE58).1 _ _ hg5).trans q1'
  have t0 := ((bcell hE78).1 _ _ hg7).trans t0'
  have t1 := ((bcell hE78).1 _ _ hg7).trans t1'
  have t2 := ((bcell hE78).1 _ _ hg7).trans t2'
  have gl5 := Nat.lt_of_lt_of_le hg5 hE58.size
  have gl7 := Nat.lt_of_lt_of_le hg7 hE78.size
  have HI8 := Lib.hid (HI6.out.ext (HX7.out.trans' hE78))
  clear ho8 hx8 hEc hE7 hE57 hE58 hE78 q0' q1' t0' t1' t2' hg5 hg7
  go_wp2_with fail
  refine Calls.mono (Same_c _ _ [5, 3] [5, 3] _ (HI8.out.ext (Ext.alloc' _ _)) (ints2 w8 5 3 _) (by decide) (by decide)) ?_
  rintro e w9 ⟨rfl, hx9⟩
  have hE89 : Ext w8 w9 := (Ext.alloc' _ _).trans' hx9
  have hE9 := hE8.trans' hE89
  have q0' := ((bcell hE89).1 _ _ gl5).trans q0
  have q1' := ((bcell hE89).1 _ _ gl5).trans q1
  have t0' := ((bcell hE89).1 _ _ gl7).trans t0
  have t1' := ((bcell hE89).1 _ _ gl7).trans t1
  have t2' := ((bcell hE89).1 _ _ gl7).trans t2
  have gl5' := Nat.lt_of_lt_of_le gl5 hE89.size
  have gl7' := Nat.lt_of_lt_of_le gl7 hE89.size
  clear q0 q1 t0 t1 t2 gl5 gl7 hx9 hE89
  rw [decide_eq_true rfl]
  go_wp2
  go_ret
  exact ⟨rfl, hE9⟩
end Go.Proofs.YtfhdjekpdifajaaGreat
namespace Go.Proofs.YtfhdjekpdifajaaGreat
set_option linter.unusedVariables false
open Go.Proofs Go.Shelf Go.RowKit Go.Sort
def Tryz.sortFd_ren : Go.Shelf.Ren := ⟨fun | 6 => 136 | 15 => 183 | 14 => 182 | 28 => 212 | 29 => 213 | 20 => 204 | 21 => 205 | 22 => 206 | 23 => 207 | 24 => 208 | 25 => 209 | 26 => 210 | 27 => 211 | 46 => 222 | 47 => 223 | 48 => 224 | 49 => 225 | 50 => 226 | 57 => 231 | n => n, fun | 22 => 122 | 24 => 130 | 25 => 219 | 3 => 3 | 39 => 136 | 0 => 0 | 53 => 303 | 55 => 22 | 4 => 4 | 46 => 296 | 45 => 295 | 50 => 300 | 5 => 5 | 9 => 9 | 66 => 310 | 70 => 314 | 76 => 317 | 77 => 318 | n => n, fun | n => n⟩
theorem Tryz.sortFd : Go.Proofs.SlLaysF0.n6 Tryz.prog Tryz.sortFd_ren := {
  mixed := by kernel_rfl
  f6 := ⟨Tryz.f136.name, by decide, Tryz.func136.trans (congrArg some (by kernel_rfl))⟩
  f14 := ⟨Tryz.f182.name, by decide, Tryz.func182.trans (congrArg some (by kernel_rfl))⟩
  f15 := Tryz.func183.trans (congrArg some (by kernel_rfl))
  f20 := ⟨Tryz.f204.name, by decide, Tryz.func204.trans (congrArg some (by kernel_rfl))⟩
  f21 := ⟨Tryz.f205.name, by decide, Tryz.func205.trans (congrArg some (by kernel_rfl))⟩
  f22 := ⟨Tryz.f206.name, by decide, Tryz.func206.trans (congrArg some (by kernel_rfl))⟩
  f23 := ⟨Tryz.f207.name, by decide, Tryz.func207.trans (congrArg some (by kernel_rfl))⟩
  f24 := ⟨Tryz.f208.name, by decide, Tryz.func208.trans (congrArg some (by kernel_rfl))⟩
  f25 := ⟨Tryz.f209.name, by decide, Tryz.func209.trans (congrArg some (by kernel_rfl))⟩
  f26 := ⟨Tryz.f210.name, by decide, Tryz.func210.trans (congrArg some (by kernel_rfl))⟩
  f27 := ⟨Tryz.f211.name, by decide, Tryz.func211.trans (congrArg some (by kernel_rfl))⟩
  f28 := Tryz.func212.trans (congrArg some (by kernel_rfl))
  f29 := Tryz.func213.trans (congrArg some (by kernel_rfl))
  f46 := ⟨Tryz.f222.name, by decide, Tryz.func222.trans (congrArg some (by kernel_rfl))⟩
  f47 := Tryz.func223.trans (congrArg some (by kernel_rfl))
  f48 := Tryz.func224.trans (congrArg some (by kernel_rfl))
  f49 := ⟨Tryz.f225.name, by decide, Tryz.func225.trans (congrArg some (by kernel_rfl))⟩
  f50 := ⟨Tryz.f226.name, by decide, Tryz.func226.trans (congrArg some (by kernel_rfl))⟩
  f57 := ⟨Tryz.f231.name, by decide, Tryz.func231.trans (congrArg some (by kernel_rfl))⟩
  t0 := Tryz.underlying0
  a0 := Tryz.isAgg0
  z0 := Tryz.sizeOf0
  v0 := Tryz.zeroValue0
  t3 := Tryz.underlying3
  a3 := Tryz.isAgg3
  z3 := Tryz.sizeOf3
  v3 := Tryz.zeroValue3
  t4 := Tryz.underlying4
  a4 := Tryz.isAgg4
  z4 := Tryz.sizeOf4
  v4 := Tryz.zeroValue4
  t5 := Tryz.underlying5
  a5 := Tryz.isAgg5
  z5 := Tryz.sizeOf5
  v5 := Tryz.zeroValue5
  t9 := Tryz.underlying9
  a9 := Tryz.isAgg9
  z9 := Tryz.sizeOf9
  v9 := Tryz.zeroValue9
  t22 := Tryz.underlying122
  a22 := Tryz.isAgg122
  z22 := Tryz.sizeOf122
  v22 := Tryz.zeroValue122
  t25 := Tryz.underlying219
  a25 := Tryz.isAgg219
  z25 := Tryz.sizeOf219
  v25 := Tryz.zeroValue219
  t39 := Tryz.underlying136
  a39 := Tryz.isAgg136
  z39 := Tryz.sizeOf136
  v39 := Tryz.zeroValue136
  t45 := Tryz.underlying295
  a45 := Tryz.isAgg295
  z45 := Tryz.sizeOf295
  v45 := Tryz.zeroValue295
  t46 := Tryz.underlying296
  a46 := Tryz.isAgg296
  z46 := Tryz.sizeOf296
  v46 := Tryz.zeroValue296
  t50 := Tryz.underlying300
  a50 := Tryz.isAgg300
  z50 := Tryz.sizeOf300
  v50 := Tryz.zeroValue300
  t53 := Tryz.underlying303
  a53 := Tryz.isAgg303
  z53 := Tryz.sizeOf303
  v53 := Tryz.zeroValue303
  t55 := Tryz.underlying22
  a55 := Tryz.isAgg22
  z55 := Tryz.sizeOf22
  v55 := Tryz.zeroValue22
  t66 := Tryz.underlying310
  a66 := Tryz.isAgg310
  z66 := Tryz.sizeOf310
  v66 := Tryz.zeroValue310
  t70 := Tryz.underlying314
  a70 := Tryz.isAgg314
  z70 := Tryz.sizeOf314
  v70 := Tryz.zeroValue314
  t76 := Tryz.underlying317
  a76 := Tryz.isAgg317
  z76 := Tryz.sizeOf317
  v76 := Tryz.zeroValue317
  t77 := Tryz.underlying318
  a77 := Tryz.isAgg318
  z77 := Tryz.sizeOf318
  v77 := Tryz.zeroValue318 }
end Go.Proofs.YtfhdjekpdifajaaGreat
namespace Go.Proofs.YtfhdjekpdifajaaGreat
set_option linter.unusedVariables false
open Go.RowKit
set_option maxRecDepth 20000 in
set_option maxHeartbeats 2000000 in
theorem Or2e_c (g : Nat) (a b : Int) (w : World) (hg : g < w.heap.size) (c0 : w.cell? ⟨g, 0, none⟩ = some (.int .i64 a)) (c1 : w.cell? ⟨g, 1, none⟩ = some (.int .i64 b)) :
    Calls Tryz.prog 138 #[.slice (some ⟨g, 0, none⟩) 2 2] w fun e w' => e = .returned (.int .i64 (if a = 0 then b else a)) ∧ w' = w := by
  by_cases ha : a = 0
  · subst ha
    rw [if_pos rfl]
    by_cases hb : b = 0
    · subst hb
      go_enter Tryz.func138, Tryz.ntmps138
      go_wp2_with fail
      go_loopw [8] (fun u8 wr => ∃ k : Nat, k ≤ 2 ∧ u8 = .int .i64 k ∧ wr = w) (fun u8 _ => 2 - (intOf u8).toNat)
      case atStart => exact ⟨0, by omega, rfl, by trivial⟩
      case round =>
        obtain ⟨k, hk, rfl, rfl⟩ := hrel
        match k, hk with
        | 0, _ =>
          go_wp2
          go_roundw
          case rel => exact ⟨1, by omega, rfl, by trivial⟩
          case measure => simp [intOf]
        | 1, _ =>
          go_wp2
          go_roundw
          case rel => exact ⟨2, by omega, rfl, by trivial⟩
          case measure => simp [intOf]
        | 2, _ =>
          go_wp2
          go_ret
          exact ⟨rfl, rfl⟩
    · have hb0 : (b == 0) = false := beq_eq_false_iff_ne.2 hb
      go_enter Tryz.func138, Tryz.ntmps138
      go_wp2_with fail
      go_loopw [8] (fun u8 wr => ∃ k : Nat, k ≤ 1 ∧ u8 = .int .i64 k ∧ wr = w) (fun u8 _ => 2 - (intOf u8).toNat)
      case atStart => exact ⟨0, by omega, rfl, by trivial⟩
      case round =>
        obtain ⟨k, hk, rfl, rfl⟩ := hrel
        match k, hk with
        | 0, _ =>
          go_wp2
          go_roundw
          case rel => exact ⟨1, by omega, rfl, by trivial⟩
          case measure => simp [intOf]
        | 1, _ =>
          go_wp2
          go_ret
          exact ⟨rfl, rfl⟩
  · have ha0 : (a == 0) = false := beq_eq_false_iff_ne.2 ha
    rw [if_neg ha]
    go_enter Tryz.func138, Tryz.ntmps138
    go_wp2_with fail
    go_loopw [8] (fun u8 wr => ∃ k : Nat, k ≤ 0 ∧ u8 = .int .i64 k ∧ wr = w) (fun u8 _ => 2 - (intOf u8).toNat)
    case atStart => exact ⟨0, by omega, rfl, by trivial⟩
    case round =>
      obtain ⟨k, hk, rfl, rfl⟩ := hrel
      match k, hk with
      | 0, _ =>
        go_wp2
        go_ret
        exact ⟨rfl, rfl⟩
theorem OrCmpE_c (g : Nat) (i m j n : Int) (w : World) (hg : g < w.heap.size) (c0 : w.cell? ⟨g, 0, none⟩ = some (.int .i64 (cmpI n m))) (c1 : w.cell? ⟨g, 1, none⟩ = some (.int .i64 (cmpI i j))) :
    Calls Tryz.prog 138 #[.slice (some ⟨g, 0, none⟩) 2 2] w fun e w' => e = .returned (.int .i64 (cmpV i m j n)) ∧ w' = w :=
  Or2e_c g _ _ w hg c0 c1
set_option maxRecDepth 20000 in
set_option maxHeartbeats 4000000 in
theorem TopCmpE_c (la i m lb j n : Int) (w : World) :
    Calls Tryz.prog 137 #[.agg #[.int .i64 la, .int .u64 i, .int .i64 m], .agg #[.int .i64 lb, .int .u64 j, .int .i64 n]] w fun e w' => e = .returned (.int .i64 (cmpV i m j n)) ∧ Ext w w' ∧ w.drawn ≤ w'.drawn := by
  go_enter Tryz.func137, Tryz.ntmps137
  go_wp2
  obtain ⟨W, hW⟩ : ∃ W, (w.alloc (.cells #[.int .i64 la, .int .u64 i, .int .i64 m] 130)).alloc (.cells #[.int .i64 lb, .int .u64 j, .int .i64 n] 130) = W := ⟨_, rfl⟩
  have hE : Ext w W := by rw [← hW]; exact (Ext.alloc' _ _).allocR _
  have hd : W.drawn = w.drawn := by rw [← hW]; rfl
  have ha : W.heap[w.heap.size]? = some (.cells #[.int .i64 la, .int .u64 i, .int .i64 m] 130 (0, 0)) := by
    rw [← hW, heap_old _ _ (by rw [size_alloc]; omega)]; exact heap_at _ _ rfl
  have hb : W.heap[w.heap.size + 1]? = some (.cells #[.int .i64 lb, .int .u64 j, .int .i64 n] 130 (0, 0)) := by
    rw [← hW]; exact heap_at _ _ (by rw [size_alloc])
  rw [hW]
  clear hW
  have HD := Lib.hid hd
  clear hd
  have a1 := (cell_of ha 1).trans rfl
  have a2 := (cell_of ha 2).trans rfl
  have b1 := (cell_of hb 1).trans rfl
  have b2 := (cell_of hb 2).trans rfl
  have al := lt_of ha
  have bl := lt_of hb
  have hC0 := af_drew W
  clear ha hb
  refine pi_start (fun w' => ∃ x : After W, w' = x.w) [] (by kernel_rfl) ?_
  refine pi_t 0 rfl (by kernel_rfl) (by kernel_rfl) (fun _ _ _ _ h => h) (fun K hK => ?_)
  go_big_quiet_op
  refine hK _ ?_
  clear hK K
  refine pi_t 2 rfl (by kernel_rfl) (by kernel_rfl) (fun _ _ _ _ h => h) (fun K hK => ?_)
  go_big_quiet_op
  refine hK _ ?_
  clear hK K
  refine pi_t 5 rfl (by kernel_rfl) (by kernel_rfl) (fun _ _ _ _ h => h) (fun K hK => ?_)
  go_big_quiet_op
  refine hK _ ?_
  clear hK K
  refine pi_t 6 rfl (by kernel_rfl) (by kernel_rfl) (fun _ _ _ _ h => h) (fun K hK => ?_)
  go_big_quiet_op
  refine hK _ ?_
  clear hK K
  refine pi_t 8 rfl (by kernel_rfl) (by kernel_rfl) (fun _ _ _ _ h => h) (fun K hK => ?_)
  go_big_quiet_op
  refine hK _ ?_
  clear hK K
  refine pi_t 9 rfl (by kernel_rfl) (by kernel_rfl) (fun _ _ _ _ h => h) (fun K hK => ?_)
  go_big_quiet_op
  refine hK _ ?_
  clear hK K
  refine pi_c 1 (by assumption) rfl (by kernel_rfl) (by kernel_rfl) (fun _ _ _ _ h => h) (fun K hK => ?_)
  go_big_quiet_op
  refine hK _ ?_
  clear hK K
  refine pi_c 3 (by assumption) rfl (by kernel_rfl) (by kernel_rfl) (fun _ _ _ _ h => h) (fun K hK => ?_)
  go_big_quiet_op
  refine hK _ ?_
  clear hK K
  refine pi_c 7 (by assumption) rfl (by kernel_rfl) (by kernel_rfl) (fun _ _ _ _ h => h) (fun K hK => ?_)
  go_big_quiet_op
  refine hK _ ?_
  clear hK K
  refine pi_c 10 (by assumption) rfl (by kernel_rfl) (by kernel_rfl) (fun _ _ _ _ h => h) (fun K hK => ?_)
  go_big_quiet_op
  refine hK _ ?_
  clear hK K
  refine pi_l 4 rfl (by kernel_rfl) (fun K hK => ?_)
  go_wp2_with (go_at_call 139; refine (CompareI_c n m _).mono ?_; rintro e w1 ⟨rfl, rfl⟩)
  refine hK _ _ (fun _ h => h) ?_
  clear hK K
  refine pi_l 11 rfl (by kernel_rfl) (fun K hK => ?_)
  go_wp2_with (go_at_call 140; refine (CompareU_c i j _).mono ?_; rintro e w1 ⟨rfl, rfl⟩)
  refine hK _ _ (fun _ h => h) ?_
  clear hK K
  refine pi_l 12 rfl (by kernel_rfl) (fun K hK => ?_)
  go_wp2
  refine hK _ _ (fun _ h => af_step h (Ext.alloc' _ _)) ?_
  clear hK K
  refine pi_l 13 rfl (by kernel_rfl) (fun K hK => ?_)
  go_wp2_with (go_at_call 138; refine (OrCmpE_c W.heap.size i m j n _ (by simp) (by simp) (by simp)).mono ?_; rintro e w1 ⟨rfl, rfl⟩)
  refine hK _ _ (fun _ h => h) ?_
  clear hK K
  refine pi_t 14 rfl (by kernel_rfl) (by kernel_rfl) (fun _ _ _ _ h => h) (fun K hK => ?_)
  go_big_quiet_op
  refine hK _ ?_
  clear hK K
  refine pi_end (by kernel_rfl) ?_
  go_wp2
  go_ret
  refine ⟨rfl, by (repeat' (first | exact Ext.refl _ | assumption | apply Ext.allocR | apply Ext.drewR | apply Ext.drewNR | (refine Ext.trans' ?_ (by assumption)))), ?_⟩
  rw [← HD.out]
  exact Nat.le_succ _
open Go.Sort
/-- What only blocks of its own and draws part from a world. -/
theorem ext_grow {w w' : World} (h : Ext w w') (hd : w.drawn ≤ w'.drawn) : ∃ q os, w' = grow (w.drewN q) os := by
  refine ⟨w'.drawn - w.drawn, w'.heap.extract w.heap.size w'.heap.size, ?_⟩
  obtain ⟨h1, h2, h3, h4, h5⟩ := h
  have hh : w'.heap = w.heap ++ w'.heap.extract w.heap.size w'.heap.size := by
    apply Array.ext_getElem?
    intro k
    rw [Array.getElem?_append]
    by_cases hk : k < w.heap.size
    · rw [if_pos hk]; exact h5 k hk
    · rw [if_neg hk, Array.getElem?_extract]
      by_cases h6 : k < w'.heap.size
      · rw [if_pos (by omega)]
        congr 1
        omega
      · rw [if_neg (by omega), Array.getElem?_eq_none (by omega)]
  obtain ⟨heap, tape, drawn, os, output⟩ := w
  obtain ⟨heap', tape', drawn', os', output'⟩ := w'
  simp only at h1 h2 h3 h4 hd hh
  subst h1 h2 h3
  unfold grow World.drewN
  simp only
  rw [← hh, show drawn + (drawn' - drawn) = drawn' by omega]
def encF (f : Fd) : List Value := [.int .i64 (f.1 : Int), .int .u64 f.2.1, .int .i64 f.2.2]
theorem flat_fdV (d : Array Fd) : (flatK encF 3 d).toList = fdV d.toList := by
  apply List.ext_getElem?
  intro j
  by_cases hj : j < d.size * 3
  · obtain ⟨i, c, hc, rfl⟩ : ∃ i c, c < 3 ∧ j = i * 3 + c := ⟨j / 3, j % 3, Nat.mod_lt _ (by decide), by omega⟩
    have hi : i < d.size := by omega
    have h1 := get_flatK encF 3 d (i * 3 + c) hj
    rw [show (i * 3 + c) / 3 = i by omega, show (i * 3 + c) % 3 = c by omega] at h1
    have hsz : i * 3 + c < (flatK encF 3 d).size := by rw [size_flatK]; exact hj
    rw [getElem!_pos (flatK encF 3 d) (i * 3 + c) hsz] at h1
    have h2 := fdV_getAt (D := d.toList) (k := i) (by rw [Array.length_toList]; exact hi)
    rw [Array.getElem_toList, ← getElem!_pos d i hi] at h2
    rw [Array.getElem?_toList, Array.getElem?_eq_getElem hsz, h1]
    match c, hc with
    | 0, _ => exact h2.1.symm
    | 1, _ => exact h2.2.1.symm
    | 2, _ => exact h2.2.2.symm
  · rw [List.getElem?_eq_none (by rw [Array.length_toList, size_flatK]; omega), List.getElem?_eq_none (by rw [fdV_len, Array.length_toList]; omega)]
theorem RowD.holdsK {base g cap : Nat} {w0 w : World} {d : Array Fd} (h : RowD base g cap w0 w d) : HoldsK encF 3 w g 0 d := by
  intro j hj
  rw [size_flatK] at hj
  obtain ⟨i, c, hc, rfl⟩ : ∃ i c, c < 3 ∧ j = i * 3 + c := ⟨j / 3, j % 3, Nat.mod_lt _ (by decide), by omega⟩
  have hi : i < d.size := by omega
  rw [get_flatK encF 3 d _ hj, show (i * 3 + c) / 3 = i by omega, show (i * 3 + c) % 3 = c by omega, Nat.zero_add]
  obtain ⟨c0, c1, c2⟩ := h.cells hi
  obtain ⟨f0, f1, f2, _⟩ := h.some hi
  match c, hc with
  | 0, _ => exact ⟨c0, f0⟩
  | 1, _ => exact ⟨c1, f1⟩
  | 2, _ => exact ⟨c2, f2⟩
theorem put_take (F cur : Array Value) (h : F.size ≤ cur.size) : (putCells id 0 F cur).toList.take F.size = F.toList := by
  apply List.ext_getElem?
  intro k
  by_cases hk : k < F.size
  · rw [List.getElem?_take_of_lt hk, Array.getElem?_toList, Array.getElem?_toList]
    unfold putCells
    rw [Array.getElem?_mapIdx, Array.getElem?_eq_getElem (show k < cur.size by omega), Array.getElem?_eq_getElem hk]
    simp only [Option.map_some]
    rw [if_pos (by omega), Nat.sub_zero, getElem!_pos F k hk]
    rfl
  · rw [List.getElem?_eq_none (by rw [List.length_take]; omega), List.getElem?_eq_none (by rw [Array.length_toList]; omega)]
theorem put_size (F cur : Array Value) : (putCells id 0 F cur).size = cur.size := by unfold putCells; simp
theorem RowD.sorted {base g cap : Nat} {w0 w : World} {d d' : Array Fd} (h : RowD base g cap w0 w d) (hs : d'.size = d.size) (n : Nat) (os : Array Obj) : RowD base g cap w0 (sortWorldK encF 3 w g 0 n d' os) d' := by
  obtain ⟨_, _, hmx, _⟩ : ∃ c, ∃ t : Nat, cap ≤ maxLen ∧ c = t := by
    obtain ⟨gg, cc, cur, hv, hb, hh, hcc, hm, hcs, _⟩ := h.own.2.resolve_left (fun h => by cases h.1)
    cases hv
    exact ⟨0, 0, hm, rfl⟩
  obtain ⟨cur, hh, hcs, hdc, hb⟩ := h.blk
  have hg := lt_of hh
  have hblk : ∀ k, k < w.heap.size → (sortWorldK encF 3 w g 0 n d' os).heap[k]? = (if g = k then w.heap[k]?.map (onCells (putCells id 0 (flatK encF 3 d'))) else w.heap[k]?) := fun k hk => by
    unfold sortWorldK grow putRowK putRow mapBlock
    show (w.heap.modify g (onCells (putCells id 0 (flatK encF 3 d'))) ++ os)[k]? = _
    rw [Array.getElem?_append_left (by simpa using hk), Array.getElem?_modify]
  refine ⟨⟨?_, .inr ⟨g, cap, putCells id 0 (flatK encF 3 d') cur, rfl, hb, ?_, by omega, hmx, ?_, ?_⟩⟩, fun v h1 h2 => ?_⟩
  · rw [fdV_len, Array.length_toList]
  · rw [hblk g hg, if_pos rfl, hh]; rfl
  · rw [put_size]; exact hcs
  · have h3 := put_take (flatK encF 3 d') cur (by rw [size_flatK]; omega)
    rw [size_flatK] at h3
    rw [h3, flat_fdV]
  · have h3 := h.ext v h1 h2
    refine ⟨h3.os, h3.tape, h3.output, ?_, fun k hk => ?_⟩
    · refine Nat.le_trans h3.size ?_
      exact size_sortWorldK_c encF 3 w g 0 n d' os
    · rw [hblk k (Nat.lt_of_lt_of_le hk h3.size), if_neg (by omega)]
      exact h3.block k hk
theorem cmpLaysC (g n : Nat) (w : World) : CmpLays Tryz.prog 137 #[] encF 3 (fun x y : Fd => cmpV x.2.1 x.2.2 y.2.1 y.2.2) g 0 n w := fun m os dk _ x y =>
  (TopCmpE_c (x.1 : Int) x.2.1 x.2.2 (y.1 : Int) y.2.1 y.2.2 _).mono fun e w' ⟨he, hE, hd⟩ => ⟨he, ext_grow hE hd⟩
theorem sorts_all (N : Nat) (hN : N ≤ 1000000) : SortsTo N := by
  intro base g cap w0 w d h hn
  have eg : ∀ args w, (callFunc 137 args).run Tryz.prog w = .ok (.enter 137 args) w := enters_of Tryz.func137 (by kernel_rfl) rfl
  have hO : SWO (ltOf fun x y : Fd => cmpV x.2.1 x.2.2 y.2.1 y.2.2) := swoC
  have hcon := AnyQ.slices_SortFunc Tryz.sortFd 3 Tryz.isAgg130 Tryz.sizeOf130 encF (fun _ => rfl) (fun x v hv => by simp [encF] at hv; rcases hv with rfl | rfl | rfl <;> rfl) (fun x y : Fd => cmpV x.2.1 x.2.2 y.2.1 y.2.2) hO 137 #[] g 0 cap d w eg (cmpLaysC g d.size w) h.holdsK (by obtain ⟨_, hh, _⟩ := h.blk; exact lt_of hh) (by omega)
  refine Calls.mono (P := Tryz.prog) (f := 136) hcon ?_
  rintro e w' ⟨rfl, d', n, os, hp, hs, rfl⟩
  obtain ⟨h1, h2⟩ := srt_of hp hs
  exact ⟨rfl, d', h1, h2, h.sorted h1 n os⟩
end Go.Proofs.YtfhdjekpdifajaaGreat
namespace Go.Proofs.YtfhdjekpdifajaaGreat
set_option linter.unusedVariables false
open Go.RowKit
theorem keep_len (l : List Fd) : (keepD l).length ≤ l.length := by unfold keepD; exact List.length_filter_le _ _
end Go.Proofs.YtfhdjekpdifajaaGreat
