/- gaugerlaw11.InnerDot, walked. -/
import Derived.Test.YthancaehlijaoaaShown11
import Derived.Test.YthancaehlijaoaaRefDot
import Derived.Test.YthancaehlijaoaaLoad
import Derived.Test.YthancaehlijaoaaAppl
namespace Go.Proofs.Ythancaehlijaoaa
set_option linter.unusedVariables false
open Go.RowKit

theorem RefDot_no (p1 p2 : Option Addr) (n1 c1 n2 c2 : Nat) (w : World) (hn : n1 ≠ n2) (h1 : n1 ≤ 1152921504606846976) (h2 : n2 ≤ 1152921504606846976) :
    Calls Try.prog 32 #[.slice p1 n1 c1, .slice p2 n2 c2] w fun e w' => e = .returned (.tuple #[.agg #[.int .i64 0, .int .u64 0], .bool false]) ∧ Ext w w' := by
  have hne : ((n1 : Int) != (n2 : Int)) = true := by simp; omega
  go_enter Try.func32, Try.ntmps32
  go_wp2_with fail
  refine bodyPost_ret (v := .tuple #[.agg #[.int .i64 0, .int .u64 0], .bool false]) (by simp [results, Try.results32, go_sem]) rfl ⟨rfl, by (repeat' (first | exact Ext.refl _ | assumption | apply Ext.allocR | apply Ext.drewR | apply Ext.drewNR | (refine Ext.trans' ?_ (by assumption))))⟩
set_option maxRecDepth 20000 in
set_option maxHeartbeats 8000000 in
theorem DotL_c (a : List Int) (q0 : Option Addr) (n0 c0 : Nat) (b : List Int) (q1 : Option Addr) (n1 c1 : Nat) (w : World) (ha : allI a) (hb : allI b) (h0 : SlArg w q0 n0 c0 a) (h1 : SlArg w q1 n1 c1 b) (hn0 : n0 ≤ 281474976710656) (hn1 : n1 ≤ 281474976710656) :
    Calls Try.prog 8 #[.slice q0 n0 c0, .slice q1 n1 c1] w fun e w' => e = .returned (.bool true) ∧ Ext w w' := by
  have H0 := Lib.hid h0
  have H1 := Lib.hid h1
  clear h0 h1
  go_enter Try.func8, Try.ntmps8
  go_wp2_with fail
  refine (shown11_c _).mono ?_
  rintro e w1 ⟨rfl, hb1⟩
  have hE1 : Ext w w1 := by (repeat' (first | exact Ext.refl _ | assumption | apply Ext.allocR | apply Ext.drewR | apply Ext.drewNR | (refine Ext.trans' ?_ (by assumption))))
  clear hb1
  go_upto_region 2 with (fail)
  go_cut [0] (fun s0 wx => ∃ v, s0 = v ∧ IntsAt wx v (a.take 200) ∧ Ext w1 wx)
  case first =>
    obtain ⟨hln, hcap, hd⟩ := H0.out
    have ho0 : (w1.alloc (.cells #[] 2)).ownsRow w1.heap.size 2 1 (.slice (some ⟨w1.heap.size, 0, none⟩) 0 0) ([] : List Int).length (ints []) := ⟨rfl, .inr ⟨w1.heap.size, 0, #[], rfl, Nat.le_refl _, heap_at _ _ rfl, Nat.le_refl _, Nat.zero_le _, rfl, rfl⟩⟩
    rcases hd with ⟨hz, hpn⟩ | ⟨g, off, rfl, hg, hc⟩
    · obtain rfl : a = [] := List.length_eq_zero_iff.1 (by omega)
      subst hz
      clear hln hcap
      obtain ⟨i0, hi0, _, _, _⟩ := info_parts info_i64
      go_wp2_with (at_builtin; refine wpList_append_zero rfl _ _ 32 rfl w1.heap.size 2 i0 1 Try.underlying32 hi0 (.slice (some ⟨w1.heap.size, 0, none⟩) 0 0) _ _ rfl ho0 q0 c0 rfl ?_)
      go_wp2_with fail
      go_meet
      exact ⟨_, rfl, IntsAt.of_row ho0, Ext.alloc' _ _⟩
    · by_cases hz : n0 = 0
      · obtain rfl : a = [] := List.length_eq_zero_iff.1 (by omega)
        subst hz
        clear hln hcap hc
        obtain ⟨i0, hi0, _, _, _⟩ := info_parts info_i64
        go_wp2_with (at_builtin; refine wpList_append_zero rfl _ _ 32 rfl w1.heap.size 2 i0 1 Try.underlying32 hi0 (.slice (some ⟨w1.heap.size, 0, none⟩) 0 0) _ _ rfl ho0 (some ⟨g, off, none⟩) c0 rfl ?_)
        go_wp2_with fail
        go_meet
        exact ⟨_, rfl, IntsAt.of_row ho0, Ext.alloc' _ _⟩
      · by_cases hle : n0 ≤ 200
        · have hle' : (n0 : Int) ≤ 200 := by omega
          have HLN := Lib.hid hln
          clear hln
          have hc0 : c0 ≠ 0 := by omega
          go_wp2_with (at_builtin; refine wpList_appl _ (a.take 200) [] _ w1.heap.size 2 ho0 32 rfl _ _ rfl info_i64 Try.underlying32 rfl g off n0 c0 rfl (by rw [List.length_take]; first | omega | (have := HLN.out; omega)) ?a1 (by simp only [List.length_nil]; omega) (by rw [size_alloc]; exact Nat.le_succ _) ?_)
          case a1 =>
            intro k hk
            have h2 := hc k (by omega)
            have e : (a.take 200).getD k 0 = a.getD k 0 := by simp [List.getElem?_take_of_lt (show k < 200 by omega)]
            show _ = some (Value.int IntKind.i64 ((a.take 200).getD k 0))
            rw [e]
            exact ((bcell (hE1.trans' (Ext.alloc' _ _))).1 g _ hg).trans h2
          intro v1 W1 ho1 hgr _
          have hEW : Ext w1 W1 := ext_grown0 (Ext.alloc' _ _) hgr (by intro k hk; cases hk; exact Nat.le_refl _)
          clear hgr ho0
          go_wp2_with fail
          go_meet
          exact ⟨_, rfl, IntsAt.of_row ho1, hEW⟩
        · have hle' : ¬ (n0 : Int) ≤ 200 := by omega
          have hc0 : c0 ≠ 0 := by omega
          have hc2 : 200 ≤ c0 := by omega
          go_wp2_with (at_builtin; refine wpList_appl _ (a.take 200) [] _ w1.heap.size 2 ho0 32 rfl _ _ rfl info_i64 Try.underlying32 rfl g off 200 c0 rfl (by rw [List.length_take]; first | omega | (have := HLN.out; omega)) ?a1 (by simp only [List.length_nil]; omega) (by rw [size_alloc]; exact Nat.le_succ _) ?_)
          case a1 =>
            intro k hk
            have h2 := hc k (by omega)
            have e : (a.take 200).getD k 0 = a.getD k 0 := by simp [List.getElem?_take_of_lt (show k < 200 by omega)]
            show _ = some (Value.int IntKind.i64 ((a.take 200).getD k 0))
            rw [e]
            exact ((bcell (hE1.trans' (Ext.alloc' _ _))).1 g _ hg).trans h2
          intro v1 W1 ho1 hgr _
          have hEW : Ext w1 W1 := ext_grown0 (Ext.alloc' _ _) hgr (by intro k hk; cases hk; exact Nat.le_refl _)
          clear hgr ho0
          go_wp2_with fail
          go_meet
          exact ⟨_, rfl, IntsAt.of_row ho1, hEW⟩
  case rest =>
    obtain ⟨va, rfl, hiva, hEva⟩ := hcut
    rename World => wa
    have hEwa := hE1.trans' hEva
    go_upto_region 3 with (fail)
    go_cut [1] (fun s0 wx => ∃ v, s0 = v ∧ IntsAt wx v (b.take 200) ∧ Ext wa wx)
    case first =>
      obtain ⟨hln, hcap, hd⟩ := H1.out
      have ho0 : (wa.alloc (.cells #[] 2)).ownsRow wa.heap.size 2 1 (.slice (some ⟨wa.heap.size, 0, none⟩) 0 0) ([] : List Int).length (ints []) := ⟨rfl, .inr ⟨wa.heap.size, 0, #[], rfl, Nat.le_refl _, heap_at _ _ rfl, Nat.le_refl _, Nat.zero_le _, rfl, rfl⟩⟩
      rcases hd with ⟨hz, hpn⟩ | ⟨g, off, rfl, hg, hc⟩
      · obtain rfl : b = [] := List.length_eq_zero_iff.1 (by omega)
        subst hz
        clear hln hcap
        obtain ⟨i0, hi0, _, _, _⟩ := info_parts info_i64
        go_wp2_with (at_builtin; refine wpList_append_zero rfl _ _ 32 rfl wa.heap.size 2 i0 1 Try.underlying32 hi0 (.slice (some ⟨wa.heap.size, 0, none⟩) 0 0) _ _ rfl ho0 q1 c1 rfl ?_)
        go_wp2_with fail
        go_meet
        exact ⟨_, rfl, IntsAt.of_row ho0, Ext.alloc' _ _⟩
      · by_cases hz : n1 = 0
        · obtain rfl : b = [] := List.length_eq_zero_iff.1 (by omega)
          subst hz
          clear hln hcap hc
          obtain ⟨i0, hi0, _, _, _⟩ := info_parts info_i64
          go_wp2_with (at_builtin; refine wpList_append_zero rfl _ _ 32 rfl wa.heap.size 2 i0 1 Try.underlying32 hi0 (.slice (some ⟨wa.heap.size, 0, none⟩) 0 0) _ _ rfl ho0 (some ⟨g, off, none⟩) c1 rfl ?_)
          go_wp2_with fail
          go_meet
          exact ⟨_, rfl, IntsAt.of_row ho0, Ext.alloc' _ _⟩
        · by_cases hle : n1 ≤ 200
          · have hle' : (n1 : Int) ≤ 200 := by omega
            have HLN := Lib.hid hln
            clear hln
            have hc0 : c1 ≠ 0 := by omega
            go_wp2_with (at_builtin; refine wpList_appl _ (b.take 200) [] _ wa.heap.size 2 ho0 32 rfl _ _ rfl info_i64 Try.underlying32 rfl g off n1 c1 rfl (by rw [List.length_take]; first | omega | (have := HLN.out; omega)) ?a1 (by simp only [List.length_nil]; omega) (by rw [size_alloc]; exact Nat.le_succ _) ?_)
            case a1 =>
              intro k hk
              have h2 := hc k (by omega)
              have e : (b.take 200).getD k 0 = b.getD k 0 := by simp [List.getElem?_take_of_lt (show k < 200 by omega)]
              show _ = some (Value.int IntKind.i64 ((b.take 200).getD k 0))
              rw [e]
              exact ((bcell (hEwa.trans' (Ext.alloc' _ _))).1 g _ hg).trans h2
            intro v1 W1 ho1 hgr _
            have hEW : Ext wa W1 := ext_grown0 (Ext.alloc' _ _) hgr (by intro k hk; cases hk; exact Nat.le_refl _)
            clear hgr ho0
            go_wp2_with fail
            go_meet
            exact ⟨_, rfl, IntsAt.of_row ho1, hEW⟩
          · have hle' : ¬ (n1 : Int) ≤ 200 := by omega
            have hc0 : c1 ≠ 0 := by omega
            have hc2 : 200 ≤ c1 := by omega
            go_wp2_with (at_builtin; refine wpList_appl _ (b.take 200) [] _ wa.heap.size 2 ho0 32 rfl _ _ rfl info_i64 Try.underlying32 rfl g off 200 c1 rfl (by rw [List.length_take]; first | omega | (have := HLN.out; omega)) ?a1 (by simp only [List.length_nil]; omega) (by rw [size_alloc]; exact Nat.le_succ _) ?_)
            case a1 =>
              intro k hk
              have h2 := hc k (by omega)
              have e : (b.take 200).getD k 0 = b.getD k 0 := by simp [List.getElem?_take_of_lt (show k < 200 by omega)]
              show _ = some (Value.int IntKind.i64 ((b.take 200).getD k 0))
              rw [e]
              exact ((bcell (hEwa.trans' (Ext.alloc' _ _))).1 g _ hg).trans h2
            intro v1 W1 ho1 hgr _
            have hEW : Ext wa W1 := ext_grown0 (Ext.alloc' _ _) hgr (by intro k hk; cases hk; exact Nat.le_refl _)
            clear hgr ho0
            go_wp2_with fail
            go_meet
            exact ⟨_, rfl, IntsAt.of_row ho1, hEW⟩
    case rest =>
      obtain ⟨vb, rfl, hivb, hEvb⟩ := hcut
      rename World => wb
      have hEwb := hEwa.trans' hEvb
      have hivaB := hiva.ext hEvb
      have hA : allI (a.take 200) := fun x hx => ha x (List.mem_of_mem_take hx)
      have hB : allI (b.take 200) := fun x hx => hb x (List.mem_of_mem_take hx)
      have hla : (a.take 200).length ≤ 200 := by rw [List.length_take]; omega
      have hlb : (b.take 200).length ≤ 200 := by rw [List.length_take]; omega
      clear H0 H1 hiva hEva hEvb hEwa hE1
      generalize a.take 200 = A at *
      generalize b.take 200 = B at *
      obtain ⟨pa, ca, rfl⟩ := hivaB.sl
      obtain ⟨pb, cb, rfl⟩ := hivb.sl
      have HIA := Lib.hid hivaB
      have HIB := Lib.hid hivb
      clear hivaB hivb
      obtain ⟨D, rh, rl, ok, hV, hD1, hD2⟩ : ∃ (D : Unit) (rh rl : Int) (ok : Bool), True ∧ (∀ w' : World, Ext wb w' → Calls Try.prog 31 #[.slice pa A.length ca, .slice pb B.length cb] w' fun e w'' => e = .returned (.tuple #[.agg #[.int .i64 rh, .int .u64 rl], .bool ok]) ∧ Ext w' w'') ∧ (∀ w' : World, Ext wb w' → Calls Try.prog 32 #[.slice pa A.length ca, .slice pb B.length cb] w' fun e w'' => e = .returned (.tuple #[.agg #[.int .i64 rh, .int .u64 rl], .bool ok]) ∧ Ext w' w'') := by
        by_cases hl : A.length = B.length
        · have h1 := fun (w' : World) (hE' : Ext wb w') => Dot_c A B _ _ w' hA hB hl (by omega) (HIA.out.ext hE') (HIB.out.ext hE')
          have h2 := fun (w' : World) (hE' : Ext wb w') => RefDot_c A B _ _ w' hA hB hl (by omega) (HIA.out.ext hE') (HIB.out.ext hE')
          cases hd : dotF A B A.length with
          | none =>
            rw [hd] at h1 h2
            exact ⟨(), 0, 0, false, trivial, h1, h2⟩
          | some s =>
            rw [hd] at h1 h2
            exact ⟨(), hi s, lo s, true, trivial, h1, h2⟩
        · exact ⟨(), 0, 0, false, trivial, fun w' _ => Dot_no pa pb _ ca _ cb w' hl (by omega) (by omega), fun w' _ => RefDot_no pa pb _ ca _ cb w' hl (by omega) (by omega)⟩
      have HD1 := Lib.hid hD1
      have HD2 := Lib.hid hD2
      clear hD1 hD2 hV hA hB hla hlb
      go_wp2_with fail
      refine Calls.mono (HD1.out _ (by (repeat' (first | exact Ext.refl _ | assumption | apply Ext.allocR | apply Ext.drewR | apply Ext.drewNR | (refine Ext.trans' ?_ (by assumption)))))) ?_
      rintro e wc ⟨rfl, hxc⟩
      have hEc : Ext wb wc := by (repeat' (first | exact Ext.refl _ | assumption | apply Ext.allocR | apply Ext.drewR | apply Ext.drewNR | (refine Ext.trans' ?_ (by assumption))))
      have hnb := heap_at wc (.cells #[.int .i64 rh, .int .u64 rl] 56) rfl
      have hEcb : Ext wc (wc.alloc (.cells #[.int .i64 rh, .int .u64 rl] 56)) := Ext.alloc' _ _
      go_upto_region 5 with (fail)
      generalize wc.alloc (.cells #[.int .i64 rh, .int .u64 rl] 56) = wcb at *
      go_wp2_with fail
      refine Calls.mono (HD2.out _ (hEc.trans' hEcb)) ?_
      rintro e wd ⟨rfl, hxd⟩
      have hEd : Ext wcb wd := by (repeat' (first | exact Ext.refl _ | assumption | apply Ext.allocR | apply Ext.drewR | apply Ext.drewNR | (refine Ext.trans' ?_ (by assumption))))
      obtain ⟨a0, a1, al⟩ := wbox hnb hEd
      have hEF := hEwb.trans' (hEc.trans' (hEcb.trans' hEd))
      clear hxc hxd hnb hEc hEcb hEd
      go_wp2
      go_ret
      exact ⟨by first | rfl | simp, by (repeat' (first | exact Ext.refl _ | assumption | apply Ext.allocR | apply Ext.drewR | apply Ext.drewNR | (refine Ext.trans' ?_ (by assumption))))⟩
end Go.Proofs.Ythancaehlijaoaa
