/- QuantLoaded: the key of a rank is what the document says, of any cells that are set. No condition: every input. -/
import Derived.Test.YtfhdjekpdifajaaGreatL15
import Derived.Test.YtfhdjekpdifajaaGreatL16
import Derived.Test.YtfhdjekpdifajaaGreatL3
import Derived.Test.YtfhdjekpdifajaaGreatL13
import Derived.Test.YtfhdjekpdifajaaGreatL2
import Derived.ChangeSlices

/- gaugerlaw17.QuantLoaded, walked. -/
namespace Go.Proofs.YtfhdjekpdifajaaGreat
set_option linter.unusedVariables false
open Go.RowKit
theorem uniq_r {w : World} {C : Cfg} {B r t : Nat} {M : Nat → RLev} {l : Nat → List Int} (h : RKAt w r t C B M l) : Uniq C B l (ptU C l) := by
  intro n i x hn h0 hi hx
  have hI : I64 x := ptA_I (r := 0) (.inr ⟨hi, hx, rfl⟩) (h.lev n hn).fit
  have he : ∃ y, I64 y ∧ lvPt C n (l n) i y := ⟨x, hI, hx⟩
  unfold ptU
  rw [dif_pos he]
  exact lvPt_unique hx he.choose_spec.2
theorem KR_quan {w : World} {C : Cfg} {B s g r t : Nat} {L : Nat → Lev} {M : Nat → RLev} {l : Nat → List Int} (h1 : KAt w s g C B L l) (h2 : RKAt w r t C B M l) (k : Int) (hk : I64 k) :
    Calls Tryz.prog 33 #[.pointer (some ⟨s, 0, none⟩), .int .i64 k] w fun e w' => e = .returned (.tuple #[.int .u64 (quanR (ptU C l) B ((l B).getD 0 0) k).1, .int .i64 (quanR (ptU C l) B ((l B).getD 0 0) k).2]) ∧ Ext w w' :=
  Quan_of s B (by have := h1.ok.b2; have := h1.hB; omega) (ptU C l) _ k w (fun W' hE => WayR_c s g C B L l W' (h1.ext hE) k hk (ptU C l) (uniq_r h2) (ptU_I C l))
theorem RR_quan {w : World} {C : Cfg} {B r t : Nat} {M : Nat → RLev} {l : Nat → List Int} (h2 : RKAt w r t C B M l) (k : Int) (hk : I64 k) :
    Calls Tryz.prog 34 #[.pointer (some ⟨r, 0, none⟩), .int .i64 k] w fun e w' => e = .returned (.tuple #[.int .u64 (quanR (ptU C l) B ((l B).getD 0 0) k).1, .int .i64 (quanR (ptU C l) B ((l B).getD 0 0) k).2]) ∧ Ext w w' :=
  RQuan_of r B (by have := h2.ok.b2; have := h2.hB; omega) (ptU C l) _ k w (fun W' hE => RWay_c r t C B M l W' (h2.ext hE) k hk (ptU C l) (uniq_r h2) (ptU_I C l))
/-- A row of one's own. -/
def ZAt (w : World) (z K : Nat) (xs : List Int) : Prop := xs.length = K ∧ (∀ x ∈ xs, I64 x) ∧ ∃ cur, w.heap[z]? = some (.cells cur 2 (0, 0)) ∧ ∀ j, j < K → cur[j]? = some (.int .i64 (xs.getD j 0))
theorem ZAt.set {w : World} {z K i : Nat} {xs : List Int} {d : Int} (h : ZAt w z K xs) (hi : i < K) (hd : I64 d) : ZAt (w.setCell ⟨z, i, none⟩ (.int .i64 d)) z K (xs.set i d) := by
  obtain ⟨rfl, h2, cur, h3, h4⟩ := h
  refine ⟨List.length_set, fun y hy => ?_, _, setCell_same h3 i _, fun k hk => ?_⟩
  · rcases List.mem_or_eq_of_mem_set hy with h | rfl
    · exact h2 y h
    · exact hd
  · by_cases e : k = i
    · subst e
      have hsz : k < cur.size := by
        have := h4 k hk
        rw [Array.getElem?_eq_some_iff] at this
        exact this.1
      rw [Array.getElem?_setIfInBounds_self_of_lt hsz, List.getD_eq_getElem?_getD, List.getElem?_set_self hk]
      rfl
    · rw [Array.getElem?_setIfInBounds_ne (fun h => e h.symm), h4 k hk, List.getD_eq_getElem?_getD, List.getD_eq_getElem?_getD, List.getElem?_set_ne (fun h => e h.symm)]
theorem ZAt.ints {w : World} {z K zc : Nat} {xs : List Int} (h : ZAt w z K xs) : IntsAt w (.slice (some ⟨z, 0, none⟩) K zc) xs := by
  obtain ⟨rfl, h2, cur, h3, h4⟩ := h
  exact .inr ⟨z, 0, zc, rfl, lt_of h3, fun k hk => by rw [cell_of h3, Nat.zero_add]; exact h4 k hk⟩
theorem ZAt.lt {w : World} {z K : Nat} {xs : List Int} (h : ZAt w z K xs) : z < w.heap.size := by obtain ⟨_, _, cur, h3, _⟩ := h; exact lt_of h3
theorem ZAt.cell {w : World} {z K i : Nat} {xs : List Int} (h : ZAt w z K xs) (hi : i < K) : w.cell? ⟨z, i, none⟩ = some (.int .i64 (xs.getD i 0)) ∧ w.frozen? ⟨z, i, none⟩ = false := by
  obtain ⟨_, _, cur, h3, h4⟩ := h; exact ⟨(cell_of h3 i).trans (h4 i hi), frozen_of h3 i⟩
theorem sl_one {w : World} {p : Option Addr} {n c : Nat} {l : List Int} (h : SlArg w p n c l) {k : Nat} (hk : k < n) : ∃ g off, p = some ⟨g, off, none⟩ ∧ g < w.heap.size ∧ w.cell? ⟨g, off + k, none⟩ = some (.int .i64 (l.getD k 0)) := by
  obtain ⟨_, _, ⟨h, _⟩ | ⟨g, off, h1, h2, h3⟩⟩ := h
  · omega
  · exact ⟨g, off, h1, h2, h3 k hk⟩
set_option maxRecDepth 20000 in
set_option maxHeartbeats 16000000 in
theorem QLoadedL_c (x : Cfg) (hx : x.Raw) (cs : List Int) (vp : Option Addr) (Kc vc : Nat) (ka : Int) (hka : I64 ka) (w : World) (hv : SlArg w vp Kc vc cs) (hI : allI cs) (hul : Kc ≤ 281474976710656) :
    Calls Tryz.prog 4 #[.agg #[.int .i64 x.bits, .int .i64 x.rows, .int .i64 x.width, .int .i64 x.mode, .int .u64 x.seed], .slice vp Kc vc, .int .i64 ka] w fun e w' => e = .returned (.bool true) ∧ Ext w w' := by
  have HV := Lib.hid hv
  have HI := Lib.hid hI
  have HKA := Lib.hid hka
  clear hv hI hka
  go_enter Tryz.func4, Tryz.ntmps4
  go_wp2_with fail
  refine (shown17_c _).mono ?_
  rintro e w1 ⟨rfl, hb1⟩
  have hE1 : Ext w w1 := by (repeat' (first | exact Ext.refl _ | assumption | apply Ext.allocR | apply Ext.drewR | apply Ext.drewNR | (refine Ext.trans' ?_ (by assumption))))
  have hC := (CfgAt.box (w := w) x 24 rfl).ext hb1
  have c0 := hC.c0
  have c1 := hC.c1
  have c2 := hC.c2
  have c3 := hC.c3
  have c4 := hC.c4
  have cl := hC.lt
  clear hC hb1
  go_wp2_with fail
  refine (Any_c x hx 4 5 (by decide) (by decide) (by decide) (by decide) _).mono ?_
  rintro e w2 ⟨rfl, hx2⟩
  have hok := mkC_ok x hx.s (nb := 4) (nw := 5) (by decide) (by decide) (by decide) (by decide)
  have hE2 : Ext w w2 := by (repeat' (first | exact Ext.refl _ | assumption | apply Ext.allocR | apply Ext.drewR | apply Ext.drewNR | (refine Ext.trans' ?_ (by assumption))))
  generalize mkC x 4 5 = C at *
  have hb1 := hok.b1
  have hb2 := hok.b2
  clear c0 c1 c2 c3 c4 cl hx2 hE1
  obtain ⟨B, hB⟩ : ∃ B : Nat, C.bits = B := ⟨C.bits.toNat, by omega⟩
  have hBt : C.bits.toNat = B := by omega
  have HBB := Lib.hid (And.intro hb1 (And.intro hb2 hB))
  have HKN := Lib.hid (fun W' => KNew_c C hok W')
  have HRN := Lib.hid (fun W' => RKNew_c C hok B hB W')
  have HBT := Lib.hid hBt
  have HOK := Lib.hid hok
  clear hB hBt
  go_upto_region 3 with (fail)
  obtain ⟨w3, hw3⟩ : ∃ w3, w2.alloc (.cells #[.int .i64 C.bits, .int .i64 C.rows, .int .i64 C.width, .int .i64 C.mode, .int .u64 C.seed] 24) = w3 := ⟨_, rfl⟩
  have hQ : w3.heap[w2.heap.size]? = some (.cells #[.int .i64 C.bits, .int .i64 C.rows, .int .i64 C.width, .int .i64 C.mode, .int .u64 C.seed] 24 (0, 0)) := by rw [← hw3]; exact heap_at _ _ rfl
  have hE3 : Ext w w3 := by rw [← hw3]; exact hE2.allocR _
  try rw [hw3]
  have HE3 := Lib.hid hE3
  have HQ := Lib.hid hQ
  have hC3 := CfgAt.of hQ
  clear hw3 hE2 hb1 hb2
  have c0 := hC3.c0
  have c1 := hC3.c1
  have c2 := hC3.c2
  have c3 := hC3.c3
  have c4 := hC3.c4
  have cl := hC3.lt
  clear hC3 hQ hE3 hok
  go_wp2_with fail
  refine (HKN.out _).mono ?_
  rintro e w4 ⟨s, g, L, rfl, hK, s1, s2, hF, hx4⟩
  rw [HBT.out] at hK hF
  have HK := Lib.hid hK
  have HF := Lib.hid (show KFresh w3.heap.size B L from hF)
  have HS := Lib.hid (And.intro s1 s2)
  have HX4 := Lib.hid hx4
  have hC4 := CfgAt.of (hx4.keep HQ.out)
  clear c0 c1 c2 c3 c4 cl hK hF s1 s2 hx4
  have c0 := hC4.c0
  have c1 := hC4.c1
  have c2 := hC4.c2
  have c3 := hC4.c3
  have c4 := hC4.c4
  have cl := hC4.lt
  clear hC4
  go_wp2_with fail
  refine (HRN.out _).mono ?_
  rintro e w5 ⟨r, t, M, rfl, hR, hRF, hx5⟩
  have hE35 := HX4.out.trans' hx5
  have hlow := HK.out.own.lt
  have hS5 : S2 w3.heap.size w5 C B (.pointer (some ⟨s, 0, none⟩)) (.pointer (some ⟨r, 0, none⟩)) := S2.mk (l := fun n => zs (lvN C n))
    (Own4.mk4 (z1 := w4.heap.size) (z2 := w4.heap.size) (z3 := w5.heap.size) (HK.out.own.ext hx5) (own_none _) hR.own (own_none _) (fun k hk => ⟨kF_fresh HS.out.1 HS.out.2 HF.out k hk, hlow k hk⟩) (fun k hk => hk.elim) (fun k hk => ⟨hRF k hk, hR.own.lt k hk⟩) (fun k hk => hk.elim) HX4.out.size (Nat.le_refl _) hx5.size hE35.size)
  have HS5 := Lib.hid hS5
  clear c0 c1 c2 c3 c4 cl hR hRF hx5 hS5 HK HF HS HX4 HKN HRN hlow L M g t
  obtain ⟨N, hN⟩ : ∃ N, w3.heap.size = N := ⟨_, rfl⟩
  have hwN : w.heap.size ≤ N := by rw [← hN]; exact HE3.out.size
  have hqN : w2.heap.size < N := by rw [← hN]; exact lt_of HQ.out
  rw [hN] at HS5
  have HN := Lib.hid hN
  have hB59 : B ≤ 59 := by have := HBB.out.2.1; have := HBB.out.2.2; omega
  clear hN
  go_wp2_with fail
  go_loopw [12, 13] (fun u12 u13 wr => ∃ n a : Nat, n ≤ B + 1 ∧ a ≤ n * 1024 ∧ u13 = .int .i64 n ∧ u12 = .int .i64 a ∧ Ext w3 wr ∧ S2 N wr C B (.pointer (some ⟨s, 0, none⟩)) (.pointer (some ⟨r, 0, none⟩))) (fun _ u13 _ => B + 1 - (intOf u13).toNat)
  case atStart => exact ⟨0, 0, Nat.zero_le _, Nat.zero_le _, rfl, rfl, hE35, HS5.out⟩
  case round =>
    clear hE35 HS5
    obtain ⟨n, a, hn1, ha1, rfl, rfl, hE, hS0⟩ := hrel
    obtain ⟨g, L, t, M, l, hS⟩ := hS0.eqs
    have HS := Lib.hid hS
    have HE := Lib.hid hE
    have hCq := CfgAt.of (hE.keep HQ.out)
    have q0 := hCq.c0
    have ql := hCq.lt
    clear hS hS0 hE hCq
    rename World => wo
    by_cases hnB : n ≤ B
    · have hq : decide ((n : Int) ≤ C.bits) = true := decide_eq_true (by have := HBB.out.2.2; omega)
      have hnz : (n : Int) < (B : Int) + 1 := by omega
      obtain ⟨cap, hex, hcap⟩ := HS.out.o3.h.ex
      have r1 := (cell_of hex 1).trans rfl
      have r5 := (cell_of hex 5).trans rfl
      have rl := lt_of hex
      have tc := HS.out.o3.h.cell hnB
      have tl := HS.out.o3.h.ltt
      have HLV := Lib.hid (HS.out.o3.h.lev n hnB)
      have HLN := Lib.hid HLV.out.len
      have HLF := Lib.hid HLV.out.fit
      have hp0 : 0 < (l n).length := by rw [HLN.out]; exact lvN_posU HOK.out (Int.natCast_nonneg n)
      have hp1 : (l n).length ≤ 1024 := by rw [HLN.out]; exact lvN_leU HOK.out _
      clear hex
      go_wp2_with fail
      refine Calls.mono (RLCells_c (M n) C n (l n) _ HLV.out) ?_
      rintro e wa ⟨va, rfl, hown, hxa⟩
      obtain ⟨z, zc, cur, rfl, hzc, hz, hzh, hzcur⟩ := own_row1 hown hp0
      have HZ0 : Hid (ZAt wa z (l n).length (l n)) := Lib.hid ⟨rfl, HLF.out, cur, hzh, hzcur⟩
      have HXA := Lib.hid hxa
      have HZ := Lib.hid hz
      clear hown hz hzh hzcur hxa q0 ql r1 r5 rl tc tl
      generalize (l n).length = K1 at *
      go_wp2_with fail
      go_loopw [12, 15] (fun u12 u15 wr => ∃ (i b : Nat) (xs : List Int), i ≤ K1 ∧ b ≤ n * 1024 + i ∧ u15 = .int .i64 i ∧ u12 = .int .i64 b ∧ Ext wo wr ∧ ZAt wr z K1 xs) (fun _ u15 _ => K1 - (intOf u15).toNat)
      case atStart => exact ⟨0, a, _, Nat.zero_le _, ha1, rfl, rfl, HXA.out, HZ0.out⟩
      case round =>
        clear HZ0 HXA ha1
        obtain ⟨i, b, xs, hi, hb, rfl, rfl, hEi, hZi⟩ := hrel
        have HZI := Lib.hid hZi
        have HEI := Lib.hid hEi
        have hEw : Ext w ‹World› := HE3.out.trans' (HE.out.trans' hEi)
        have HEW := Lib.hid hEw
        clear hZi hEi hEw
        by_cases hik : i < K1
        · have hiz : (i : Int) < (K1 : Int) := by omega
          have HIK := Lib.hid hik
          have hbz : b ≤ 100000 := by omega
          have HBI := Lib.hid hb
          clear hb
          have hzl := HZI.out.lt
          obtain ⟨zc1, zf1⟩ := HZI.out.cell hik
          clear hik
          by_cases hgo : b < Kc ∧ b < 60
          · obtain ⟨hg1, hg2⟩ := hgo
            obtain ⟨ug, off, rfl, hul0, d0'⟩ := sl_one HV.out hg1
            have d0 := ((bcell HEW.out).1 _ _ hul0).trans d0'
            have gl := Nat.lt_of_lt_of_le hul0 HEW.out.size
            have hdI : I64 (cs.getD b 0) := getD_i64 HI.out b
            generalize cs.getD b 0 = dd at *
            have HDI := Lib.hid hdI
            have hgz : (b : Int) < (Kc : Int) := by omega
            have HG1 := Lib.hid hg1
            clear d0' hdI hg1
            go_wp2
            go_roundw
            case rel => have hik := HIK.out; have hb := HBI.out; exact ⟨i + 1, b + 1, xs.set i dd, by omega, by omega, by go_num, by go_num, HEI.out.setR (p := ⟨z, i, none⟩) HZ.out _, HZI.out.set HIK.out HDI.out⟩
            case measure => simp [intOf]; omega
          · have hge : ¬ b < Kc ∨ ¬ b < 60 := by omega
            clear hgo
            rename World => wi
            go_upto_region 15 with (fail)
            go_cut [63] (fun s63 wx => s63 = .bool false ∧ wx = wi)
            case first =>
              by_cases hgl : b < Kc
              · have hg6 : ¬ b < 60 := by omega
                go_wp2_with fail
                go_meet
                exact ⟨by first | rfl | exact congrArg Value.bool (decide_eq_false (by omega)), rfl⟩
              · first
                  | (go_wp2_with fail
                     go_meet
                     exact ⟨rfl, rfl⟩)
                  | (clear hge
                     go_wp2_with fail
                     go_meet
                     exact ⟨by first | rfl | exact congrArg Value.bool (decide_eq_false (by omega)), rfl⟩)
            case rest =>
              obtain ⟨rfl, rfl⟩ := hcut
              clear hge
              go_wp2
              go_roundw
              case rel => have hik := HIK.out; have hb := HBI.out; exact ⟨i + 1, b + 1, xs, by omega, by omega, by go_num, by go_num, HEI.out, HZI.out⟩
              case measure => simp [intOf]; omega
        · obtain rfl : i = K1 := by omega
          rename World => wi
          have HSb := Lib.hid (HS.out.ext HEI.out)
          have HIZ := Lib.hid (HZI.out.ints (zc := zc))
          have HFi := Lib.hid HZI.out.2.1
          have HLs : Hid (xs.length = lvN C n) := Lib.hid (HZI.out.1.trans HLN.out)
          obtain ⟨capb, hexb, hcapb⟩ := HSb.out.o3.h.ex
          have r5 := (cell_of hexb 5).trans rfl
          have rl := lt_of hexb
          have tc := HSb.out.o3.h.cell hnB
          have tl := HSb.out.o3.h.ltt
          have HZK := Lib.hid (fun j (hj : kF s g B L j) (e : j = z) => show False by have := HS.out.o1.lt j hj; have := HZ.out; omega)
          have HZR := Lib.hid (fun j (hj : rkF r t C B M j) (e : j = z) => show False by have := HS.out.o3.lt j hj; have := HZ.out; omega)
          clear hexb
          go_wp2_with fail
          refine Calls.mono (o_rload HSb.out hnB xs _ HIZ.out HFi.out HLs.out ?hne) ?_
          case hne =>
            rintro g1 o1 k1 c1 e hf
            have := HZR.out g1 (.inr (.inr ⟨n, hnB, hf⟩))
            obtain ⟨e1, _, _⟩ := Value.slice.inj e
            injection e1 with e1
            injection e1 with e1
            exact this e1.symm
          rintro e wc ⟨M', rfl, hSc, hMc, hBc⟩
          have HSc := Lib.hid hSc
          have HIc := Lib.hid (HIZ.out.mod hMc (fun g1 o1 k1 c1 e hf => by
            have := HZR.out g1 (.inr (.inr ⟨n, hnB, hf⟩))
            obtain ⟨e1, _, _⟩ := Value.slice.inj e
            injection e1 with e1
            injection e1 with e1
            exact this e1.symm))
          have HBc := Lib.hid hBc
          clear hSc hMc hBc r5 rl tc tl
          go_wp2_with fail
          refine Calls.mono (o_load HSc.out hnB xs _ HIc.out HFi.out HLs.out ?hne2) ?_
          case hne2 =>
            rintro g1 o1 k1 c1 e hf
            have := HZK.out g1 (by rw [hf]; exact .inr (.inr ⟨n, hnB, .inr (.inr rfl)⟩))
            obtain ⟨e1, _, _⟩ := Value.slice.inj e
            injection e1 with e1
            injection e1 with e1
            exact this e1.symm
          rintro e wd ⟨rfl, hSd, hMd, hBd⟩
          have HSd := Lib.hid hSd
          have hBd' : Below N wo wd := Below.trans (below_of HEI.out (by have := HE.out.size; have := HN.out; omega)) (Below.trans HBc.out hBd)
          have hE8 : Ext w3 wd := Below.trans HE.out (by rw [HN.out]; exact hBd')
          have hb2 : b ≤ (n + 1) * 1024 := by omega
          clear hSd hMd hBd hBd'
          go_wp2
          go_roundw
          case rel => exact ⟨n + 1, b, by omega, hb2, by go_num, rfl, hE8, S2.mk HSd.out⟩
          case measure => simp [intOf]; omega
    · obtain rfl : n = B + 1 := by omega
      have hq : decide (((B + 1 : Nat) : Int) ≤ C.bits) = false := decide_eq_false (by have := HBB.out.2.2; omega)
      have hq2 : decide ((B : Int) + 1 ≤ C.bits) = false := decide_eq_false (by have := HBB.out.2.2; omega)
      have HEW := Lib.hid (HE3.out.trans' HE.out)
      have qB : wo.cell? ⟨w2.heap.size, 0, none⟩ = some (.int .i64 (B : Int)) := q0.trans (by rw [HBB.out.2.2])
      clear q0
      by_cases hk0 : 0 < Kc
      · obtain ⟨m, rfl⟩ : ∃ m, Kc = m + 1 := ⟨Kc - 1, by omega⟩
        obtain ⟨ug, off, hvp, hul0, d0'⟩ := sl_one HV.out (Nat.lt_succ_self m)
        subst hvp
        have hmz : m ≤ 281474976710656 := by omega
        have hvm : (vc = m) = False := eq_false (by have := HV.out.2.1; omega)
        have hdI : I64 (cs.getD m 0) := getD_i64 HI.out m
        have hdd := ((bcell HEW.out).1 _ _ hul0).trans d0'
        have hugN : ug < N := Nat.lt_of_lt_of_le hul0 hwN
        generalize cs.getD m 0 = dd at *
        have HV1 : Hid (IntsAt wo (.slice (some ⟨ug, off + m, none⟩) 1 (vc - m)) [dd]) := Lib.hid (.inr ⟨ug, off + m, vc - m, rfl, Nat.lt_of_lt_of_le hul0 HEW.out.size, fun k hk => by
          obtain rfl : k = 0 := by simp at hk; exact hk
          rw [Nat.add_zero]
          exact hdd⟩)
        have HVI : Hid (∀ y ∈ [dd], I64 y) := Lib.hid (fun y hy => by rw [List.mem_singleton] at hy; rw [hy]; exact hdI)
        have HVL : Hid ([dd].length = lvN C (B : Nat)) := Lib.hid (by
          unfold lvN
          rw [isX_top HOK.out HBB.out.2.2]
          have := kN_eq' HOK.out B
          rw [keys_top HBB.out.2.2] at this
          show 1 = kN C B
          omega)
        clear hk0 hq hq2 hn1 d0' hul hdd hdI
        go_wp2_with fail
        have hC0 := af_drew wo
        refine pi_start (fun w' => ∃ x : After wo, w' = x.w) [12] (by kernel_rfl) ?_
        refine pi_t 0 rfl (by kernel_rfl) (by kernel_rfl) (fun _ _ _ _ h => h) (fun K hK => ?_)
        go_big_quiet_op
        refine hK _ ?_
        clear hK K
        refine pi_t 1 rfl (by kernel_rfl) (by kernel_rfl) (fun _ _ _ _ h => h) (fun K hK => ?_)
        go_big_quiet_op
        refine hK _ ?_
        clear hK K
        refine pi_t 2 rfl (by kernel_rfl) (by kernel_rfl) (fun _ _ _ _ h => h) (fun K hK => ?_)
        go_big_quiet_op
        refine hK _ ?_
        clear hK K
        refine pi_t 3 rfl (by kernel_rfl) (by kernel_rfl) (fun _ _ _ _ h => h) (fun K hK => ?_)
        go_big_quiet_op
        refine hK _ ?_
        clear hK K
        refine pi_t 4 rfl (by kernel_rfl) (by kernel_rfl) (fun _ _ _ _ h => h) (fun K hK => ?_)
        go_big_quiet_op
        refine hK _ ?_
        clear hK K
        refine pi_t 5 rfl (by kernel_rfl) (by kernel_rfl) (fun _ _ _ _ h => h) (fun K hK => ?_)
        go_big_quiet_op
        refine hK _ ?_
        clear hK K
        refine pi_t 7 rfl (by kernel_rfl) (by kernel_rfl) (fun _ _ _ _ h => h) (fun K hK => ?_)
        go_big_quiet_op
        refine hK _ ?_
        clear hK K
        refine pi_t 8 rfl (by kernel_rfl) (by kernel_rfl) (fun _ _ _ _ h => h) (fun K hK => ?_)
        go_big_quiet_op
        refine hK _ ?_
        clear hK K
        refine pi_t 9 rfl (by kernel_rfl) (by kernel_rfl) (fun _ _ _ _ h => h) (fun K hK => ?_)
        go_big_quiet_op
        refine hK _ ?_
        clear hK K
        refine pi_t 10 rfl (by kernel_rfl) (by kernel_rfl) (fun _ _ _ _ h => h) (fun K hK => ?_)
        go_big_quiet_op
        refine hK _ ?_
        clear hK K
        refine pi_t 11 rfl (by kernel_rfl) (by kernel_rfl) (fun _ _ _ _ h => h) (fun K hK => ?_)
        go_big_quiet_op
        refine hK _ ?_
        clear hK K
        refine pi_c 6 (by assumption) rfl (by kernel_rfl) (by kernel_rfl) (fun _ _ _ _ h => h) (fun K hK => ?_)
        go_big_quiet_op
        refine hK _ ?_
        clear hK K
        refine pi_l 12 rfl (by kernel_rfl) (fun K hK => ?_)
        go_wp2_with (go_at_call 22; refine Calls.mono (o_load (HS.out.ext (Below.drew (Ext.refl wo))) (Nat.le_refl B) [dd] _ (HV1.out.ext (Below.drew (Ext.refl wo))) HVI.out HVL.out ?hne) ?_; rotate_left; rintro e wa ⟨rfl, hSa, hMa, hBa⟩)
        case hne =>
          rintro g1 o1 k1 c1 e hf
          have := HS.out.n1 g1 (by rw [hf]; exact .inr (.inr ⟨B, Nat.le_refl B, .inr (.inr rfl)⟩))
          obtain ⟨e1, _, _⟩ := Value.slice.inj e
          injection e1 with e1
          injection e1 with e1
          omega
        have hB1 : Below N wo wa := Below.trans (below_of (Below.drew (Ext.refl wo)) (by have := HE.out.size; have := HN.out; omega)) hBa
        have HB1 := Lib.hid hB1
        refine hK _ _ (by simp) ?_
        clear hK K
        have qB' := cell_below hB1 hqN qB
        have ql' := Nat.lt_of_lt_of_le ql hB1.size
        have HV2 := Lib.hid (HV1.out.mod (mod_below hB1) (fun g1 o1 k1 c1 e hf => by
          obtain ⟨e1, _, _⟩ := Value.slice.inj e
          injection e1 with e1
          injection e1 with e1
          have hf' : N ≤ g1 := hf
          omega))
        have HSa := Lib.hid hSa
        clear hSa hMa hBa hB1 qB ql
        refine pi_t 13 rfl (by kernel_rfl) (by kernel_rfl) (fun _ _ _ _ h => h) (fun K hK => ?_)
        go_big_quiet_op
        refine hK _ ?_
        clear hK K
        refine pi_t 14 rfl (by kernel_rfl) (by kernel_rfl) (fun _ _ _ _ h => h) (fun K hK => ?_)
        go_big_quiet_op
        refine hK _ ?_
        clear hK K
        refine pi_end (by kernel_rfl) ?_
        obtain ⟨cap, hex, hcap⟩ := HSa.out.o3.h.ex
        have r5 := (cell_of hex 5).trans rfl
        have r1 := (cell_of hex 1).trans rfl
        have rl := lt_of hex
        have tc := HSa.out.o3.h.cell (Nat.le_refl B)
        have tl := HSa.out.o3.h.ltt
        obtain ⟨S, hS⟩ : ∃ S : Nat → Prop, (M B).foot C B = S := ⟨_, rfl⟩
        have HSS := Lib.hid hS
        have ns1 : ¬ S r := fun hf => by
          rw [← hS] at hf
          exact ((HSa.out.o3.h.lev B (Nat.le_refl B)).ty hf hex).2 rfl
        have ns2 : ¬ S t := fun hf => by
          rw [← hS] at hf
          obtain ⟨cur, h3, _⟩ := HSa.out.o3.h.row
          exact ((HSa.out.o3.h.lev B (Nat.le_refl B)).ty hf h3).1 rfl
        have ns3 : ¬ S w2.heap.size := fun hf => by
          rw [← hS] at hf
          have := HSa.out.n3 _ (.inr (.inr ⟨B, Nat.le_refl B, hf⟩))
          omega
        clear hex hS
        go_wp2_with fail
        have hC0 := afs_drew S wa
        refine pi_start (fun w' => ∃ x : AftS S wa, w' = x.w) [] (by kernel_rfl) ?_
        refine pi_t 0 rfl (by kernel_rfl) (by kernel_rfl) (fun _ _ _ _ h => h) (fun K hK => ?_)
        go_big_quiet_op
        refine hK _ ?_
        clear hK K
        refine pi_t 1 rfl (by kernel_rfl) (by kernel_rfl) (fun _ _ _ _ h => h) (fun K hK => ?_)
        go_big_quiet_op
        refine hK _ ?_
        clear hK K
        refine pi_t 2 rfl (by kernel_rfl) (by kernel_rfl) (fun _ _ _ _ h => h) (fun K hK => ?_)
        go_big_quiet_op
        refine hK _ ?_
        clear hK K
        refine pi_t 4 rfl (by kernel_rfl) (by kernel_rfl) (fun _ _ _ _ h => h) (fun K hK => ?_)
        go_big_quiet_op
        refine hK _ ?_
        clear hK K
        refine pi_t 8 rfl (by kernel_rfl) (by kernel_rfl) (fun _ _ _ _ h => h) (fun K hK => ?_)
        go_big_quiet_op
        refine hK _ ?_
        clear hK K
        refine pi_t 9 rfl (by kernel_rfl) (by kernel_rfl) (fun _ _ _ _ h => h) (fun K hK => ?_)
        go_big_quiet_op
        refine hK _ ?_
        clear hK K
        refine pi_t 10 rfl (by kernel_rfl) (by kernel_rfl) (fun _ _ _ _ h => h) (fun K hK => ?_)
        go_big_quiet_op
        refine hK _ ?_
        clear hK K
        refine pi_t 11 rfl (by kernel_rfl) (by kernel_rfl) (fun _ _ _ _ h => h) (fun K hK => ?_)
        go_big_quiet_op
        refine hK _ ?_
        clear hK K
        refine pi_t 12 rfl (by kernel_rfl) (by kernel_rfl) (fun _ _ _ _ h => h) (fun K hK => ?_)
        go_big_quiet_op
        refine hK _ ?_
        clear hK K
        refine pi_c 3 (by assumption) rfl (by kernel_rfl) (by kernel_rfl) (fun _ _ _ _ h => h) (fun K hK => ?_)
        go_big_quiet_op
        refine hK _ ?_
        clear hK K
        refine pi_c 5 (by assumption) rfl (by kernel_rfl) (by kernel_rfl) (fun _ _ _ _ h => h) (fun K hK => ?_)
        go_big_quiet_op
        refine hK _ ?_
        clear hK K
        refine pi_t 6 rfl (by kernel_rfl) (by kernel_rfl) (fun _ _ _ _ h => h) (fun K hK => ?_)
        go_big_quiet_op
        refine hK _ ?_
        clear hK K
        refine pi_c 7 (by assumption) rfl (by kernel_rfl) (by kernel_rfl) (fun _ _ _ _ h => h) (fun K hK => ?_)
        go_big_quiet_op
        refine hK _ ?_
        clear hK K
        refine pi_l 13 rfl (by kernel_rfl) (fun K hK => ?_)
        go_wp2_with (go_at_call 25; refine Calls.mono (o_rload (HSa.out.ext (Below.drew (Ext.refl wa))) (Nat.le_refl B) [dd] _ (HV2.out.ext (Below.drew (Ext.refl wa))) HVI.out HVL.out ?hne2) ?_; rotate_left; rintro e we ⟨M', rfl, hSb, hMb, hBb⟩)
        case hne2 =>
          rintro g1 o1 k1 c1 e hf
          have := HSa.out.n3 g1 (.inr (.inr ⟨B, Nat.le_refl B, hf⟩))
          obtain ⟨e1, _, _⟩ := Value.slice.inj e
          injection e1 with e1
          injection e1 with e1
          omega
        have hBe : Below N wo we := Below.trans HB1.out (Below.trans (below_of (Below.drew (Ext.refl wa)) (by have := HE.out.size; have := HN.out; have := HB1.out.size; omega)) hBb)
        have HEE := Lib.hid (HE3.out.trans' (Below.trans HE.out (by rw [HN.out]; exact hBe) : Ext w3 we))
        refine hK _ _ (fun _ _ => ⟨⟨we, by rw [← HSS.out]; exact (Ext.mod _ (Below.drew (Ext.refl wa))).trans hMb⟩, rfl⟩) ?_
        clear hK K
        refine pi_end (by kernel_rfl) ?_
        have hSE := hSb
        clear hSb hMb hBb hBe r5 r1 rl tc tl qB' ql'
        generalize (fun k => if k = B then [dd] else l k) = lf at *
        have HSE := Lib.hid hSE
        have HPA := Lib.hid (fun W' (h : Ext we W') => KR_quan (HSE.out.o1.h.ext h) (HSE.out.o3.h.ext h) ka HKA.out)
        have HPB := Lib.hid (fun W' (h : Ext we W') => RR_quan (HSE.out.o3.h.ext h) ka HKA.out)
        generalize quanR (ptU C lf) B ((lf B).getD 0 0) ka = pr at *
        obtain ⟨qn, qe⟩ := pr
        clear hSE
        go_wp2_with fail
        refine Calls.mono (HPA.out _ (Ext.refl _)) ?_
        rintro e wf ⟨rfl, hxf⟩
        have HXF := Lib.hid hxf
        clear hxf
        go_wp2_with fail
        refine Calls.mono (HPB.out _ HXF.out) ?_
        rintro e wg ⟨rfl, hxg⟩
        have hfin := HEE.out.trans' (HXF.out.trans' hxg)
        clear hxg
        go_wp2
        go_ret
        exact ⟨rfl, hfin⟩
      · obtain rfl : Kc = 0 := by omega
        have HEE := HEW
        have hSE := HS.out
        clear hk0 hq hq2 hn1 hul
        go_wp2_with fail
        have hC0 := af_drew wo
        refine pi_start (fun w' => ∃ x : After wo, w' = x.w) [] (by kernel_rfl) ?_
        refine pi_t 0 rfl (by kernel_rfl) (by kernel_rfl) (fun _ _ _ _ h => h) (fun K hK => ?_)
        go_big_quiet_op
        refine hK _ ?_
        clear hK K
        refine pi_t 1 rfl (by kernel_rfl) (by kernel_rfl) (fun _ _ _ _ h => h) (fun K hK => ?_)
        go_big_quiet_op
        refine hK _ ?_
        clear hK K
        refine pi_t 2 rfl (by kernel_rfl) (by kernel_rfl) (fun _ _ _ _ h => h) (fun K hK => ?_)
        go_big_quiet_op
        refine hK _ ?_
        clear hK K
        refine pi_t 3 rfl (by kernel_rfl) (by kernel_rfl) (fun _ _ _ _ h => h) (fun K hK => ?_)
        go_big_quiet_op
        refine hK _ ?_
        clear hK K
        refine pi_no 4 rfl (by kernel_rfl) (by kernel_rfl) (fun _ _ _ _ h => h) ?_
        simp only [Act.put, List.setIfInBounds_toArray, List.set_cons_zero, List.set_cons_succ]
        refine pi_no 5 rfl (by kernel_rfl) (by kernel_rfl) (fun _ _ _ _ h => h) ?_
        simp only [Act.put, List.setIfInBounds_toArray, List.set_cons_zero, List.set_cons_succ]
        refine pi_no 6 rfl (by kernel_rfl) (by kernel_rfl) (fun _ _ _ _ h => h) ?_
        simp only [Act.put, List.setIfInBounds_toArray, List.set_cons_zero, List.set_cons_succ]
        refine pi_no 7 rfl (by kernel_rfl) (by kernel_rfl) (fun _ _ _ _ h => h) ?_
        simp only [Act.put, List.setIfInBounds_toArray, List.set_cons_zero, List.set_cons_succ]
        refine pi_no 8 rfl (by kernel_rfl) (by kernel_rfl) (fun _ _ _ _ h => h) ?_
        simp only [Act.put, List.setIfInBounds_toArray, List.set_cons_zero, List.set_cons_succ]
        refine pi_no 9 rfl (by kernel_rfl) (by kernel_rfl) (fun _ _ _ _ h => h) ?_
        simp only [Act.put, List.setIfInBounds_toArray, List.set_cons_zero, List.set_cons_succ]
        refine pi_no 10 rfl (by kernel_rfl) (by kernel_rfl) (fun _ _ _ _ h => h) ?_
        simp only [Act.put, List.setIfInBounds_toArray, List.set_cons_zero, List.set_cons_succ]
        refine pi_no 11 rfl (by kernel_rfl) (by kernel_rfl) (fun _ _ _ _ h => h) ?_
        simp only [Act.put, List.setIfInBounds_toArray, List.set_cons_zero, List.set_cons_succ]
        refine pi_no 12 rfl (by kernel_rfl) (by kernel_rfl) (fun _ _ _ _ h => h) ?_
        simp only [Act.put, List.setIfInBounds_toArray, List.set_cons_zero, List.set_cons_succ]
        refine pi_no 13 rfl (by kernel_rfl) (by kernel_rfl) (fun _ _ _ _ h => h) ?_
        simp only [Act.put, List.setIfInBounds_toArray, List.set_cons_zero, List.set_cons_succ]
        refine pi_t 14 rfl (by kernel_rfl) (by kernel_rfl) (fun _ _ _ _ h => h) (fun K hK => ?_)
        go_big_quiet_op
        refine hK _ ?_
        clear hK K
        refine pi_end (by kernel_rfl) ?_
        have hSE' := hSE.ext (Below.drew (Ext.refl wo))
        have HEE2 := Lib.hid (HEE.out.trans' (Below.drew (Ext.refl wo)))
        clear hSE HEE
        have hSE := hSE'
        have HEE := HEE2
        clear hSE' HEE2
        generalize wo.drew = we at *
        generalize l = lf at *
        have HSE := Lib.hid hSE
        have HPA := Lib.hid (fun W' (h : Ext we W') => KR_quan (HSE.out.o1.h.ext h) (HSE.out.o3.h.ext h) ka HKA.out)
        have HPB := Lib.hid (fun W' (h : Ext we W') => RR_quan (HSE.out.o3.h.ext h) ka HKA.out)
        generalize quanR (ptU C lf) B ((lf B).getD 0 0) ka = pr at *
        obtain ⟨qn, qe⟩ := pr
        clear hSE
        go_wp2_with fail
        refine Calls.mono (HPA.out _ (Ext.refl _)) ?_
        rintro e wf ⟨rfl, hxf⟩
        have HXF := Lib.hid hxf
        clear hxf
        go_wp2_with fail
        refine Calls.mono (HPB.out _ HXF.out) ?_
        rintro e wg ⟨rfl, hxg⟩
        have hfin := HEE.out.trans' (HXF.out.trans' hxg)
        clear hxg
        go_wp2
        go_ret
        exact ⟨rfl, hfin⟩
end Go.Proofs.YtfhdjekpdifajaaGreat

/- What a slice of numbers reads as. No condition. -/
namespace Go.Proofs.YtfhdjekpdifajaaGreat
set_option linter.unusedVariables false
open Go.ChangeShapes Go.WideShapes Go.ChangeAt Go.RowKit Go.Deep
section
variable {H : Type} {enc : TypeId × Value → H} {w : World} {held : Bool}
set_option maxRecDepth 100000 in
theorem intsarg_of {r : Reach} {b0 : Nat} {v : Value} {d : DataW H} {p : List MemPlace} (hv : Value.okWide Tryz.prog w r b0 43 v) (h : DataW.Trod enc Tryz.prog w 0 (fun _ => true) held 43 v d p) :
    ∃ (l : List Int) (q : Option Addr) (n cap : Nat), allI l ∧ SlArg w q n cap l ∧ v = .slice q n cap ∧
      ∀ (ts : List TypeId) (ds : List (DataW H)) (j : Nat), (DataW.weightsEach Tryz.prog ts ds).all (· ≤ reachBytes) = true → ts[j]? = some 43 → ds[j]? = some d → n ≤ 281474976710656 := by
  obtain ⟨q, n, cap, rfl⟩ := okWide_slice Tryz.underlying43 hv
  obtain ⟨fuel, hf⟩ := h
  rcases open_ints Tryz.underlying43 Tryz.underlying2 (by kernel_rfl) hf with ⟨hcs, _⟩ | ⟨a, len, cap', zs, hcs, _, hlc, hcm, hzl, hx, hi, hwf⟩
  · have hcs' : [Value.slice q n cap] = [Value.slice none 0 0] := hcs
    simp only [List.cons.injEq, and_true, Value.slice.injEq] at hcs'
    obtain ⟨rfl, rfl, rfl⟩ := hcs'
    exact ⟨[], none, 0, 0, (by intro x hx; cases hx), ⟨rfl, Nat.le_refl _, .inl ⟨rfl, fun _ => rfl⟩⟩, rfl, fun _ _ _ _ _ _ => Nat.zero_le _⟩
  · have hcs' : [Value.slice q n cap] = [Value.slice (some a) len cap'] := hcs
    simp only [List.cons.injEq, and_true, Value.slice.injEq] at hcs'
    obtain ⟨rfl, rfl, rfl⟩ := hcs'
    simp only [if_true] at hzl
    refine ⟨zs.take n, some a, n, cap, ?_, ⟨by rw [List.length_take]; omega, hlc, ?_⟩, rfl, ?_⟩
    · intro x hx'
      exact wf_i64 (hwf x (List.mem_of_mem_take hx'))
    · by_cases h0 : n = 0
      · exact .inl ⟨h0, fun h => by cases h⟩
      · have h1 := hi 0 (by omega)
        obtain ⟨b, off, spot⟩ := a
        have hspot : spot = none := by simpa [Addr.add] using World.cell?_spot h1
        subst hspot
        have hb : b < w.heap.size := by
          rcases Nat.lt_or_ge b w.heap.size with h' | h'
          · exact h'
          · simp [World.cell?, Addr.add, Array.getElem?_eq_none h'] at h1
        refine .inr ⟨b, off, rfl, hb, fun k hk => ?_⟩
        have := hi k (by omega)
        rw [add_plain0] at this
        rw [this]
        simp [List.getElem?_take_of_lt hk]
    · intro ts ds j hs ht hj
      have hb : Tryz.prog.bytesOf 2 = 8 := by kernel_rfl
      simp only [Prod.mk.injEq] at hx
      have := reach_of hs ht hj (n := ((lits .i64 (zs.take n)).length + (lits .i64 (zs.drop n)).length) * Tryz.prog.bytesOf 2) (by
        rw [hx.1]
        simp [DataW.weights, DataW.weightsEach, Tryz.underlying43]
        exact .inl rfl)
      rw [hb] at this
      simp only [reachBytes, lits, List.length_map, List.length_take, List.length_drop] at this
      omega
end
end Go.Proofs.YtfhdjekpdifajaaGreat

/- QuantLoaded: the key of a rank is what the document says, of any cells that are set. No condition: every input. -/
namespace Go.Proofs.YtfhdjekpdifajaaGreat
set_option linter.unusedVariables false
open Go.ChangeShapes Go.WideShapes Go.ChangeAt Go.RowKit

set_option maxRecDepth 100000 in
theorem quantLoaded_lifted (os : Os) (started : os.Started) (H : Type) (enc : TypeId × Value → H) :
    ReturnsInHanded {} Tryz.checked os 4 .any (Rows.quantLoadedSpec.pre6 enc Tryz.prog Tryz.f4 Rows.quantLoadedRow.domain false) (Rows.quantLoadedSpec.post enc Tryz.prog Tryz.f4 false true false false) := by
  refine returnsInHanded_of_change_sized (C := Tryz.checked) own started (by kernel_rfl) Tryz.func4
    (ChangeSpec.witness6 (enc := enc) (C := Tryz.checked) false ⟨#[], #[.agg #[.int .i64 0, .int .i64 0, .int .i64 0, .int .i64 0, .int .u64 0], .slice none 0 0, .int .i64 0], []⟩ 8 (by kernel_rfl) (by kernel_rfl) (by kernel_rfl) (by kernel_rfl)) ?_
  intro W base args ds gs before hval0 hW hcnd hsz0 _
  have hval : ∀ (j : Nat) t v, Tryz.f4.params[j]? = some t → args[j]? = some v → Value.okWide Tryz.prog W .any base t v := hval0
  have hW' := hW
  obtain ⟨p, q, hA0, hV, rfl, hfz, hnd⟩ := hW
  have hA : DataW.TrodAll enc Tryz.prog W 0 (fun _ => true) true Tryz.f4.params.toList args.toList ds p := hA0
  have hsz : (DataW.weightsEach Tryz.prog (Tryz.f4.params.toList ++ Rows.quantLoadedSpec.plain.varTypes Tryz.prog) (ds ++ gs)).all (· ≤ reachBytes) = true := hsz0
  rw [Tryz.params4] at hA hval hsz
  obtain ⟨v0, vs0, d0, ds0, p0, q0, hargs, rfl, rfl, h0, r0⟩ := trodAll_cons hA
  obtain ⟨v1, vs1, d1, ds1, p1, q1, rfl, rfl, rfl, h1, r1⟩ := trodAll_cons r0
  obtain ⟨v2, vs2, d2, ds2, p2, q2, rfl, rfl, rfl, h2, r2⟩ := trodAll_cons r1
  obtain ⟨rfl, rfl, rfl⟩ := trodAll_nil r2
  obtain rfl : args = #[v0, v1, v2] := by cases args; simp_all
  obtain ⟨rfl, rfl⟩ := trodVars_none hV
  have k0 := h0
  have k1 := h1
  have k2 := h2
  have lt0 : ∀ x ∈ p0, x.block < W.heap.size := by obtain ⟨m, hm⟩ := k0; exact DataW.trod_lt m _ _ _ hm
  have lt1 : ∀ x ∈ p1, x.block < W.heap.size := by obtain ⟨m, hm⟩ := k1; exact DataW.trod_lt m _ _ _ hm
  have lt2 : ∀ x ∈ p2, x.block < W.heap.size := by obtain ⟨m, hm⟩ := k2; exact DataW.trod_lt m _ _ _ hm
  obtain ⟨x0, hx0, rfl⟩ := cfgarg_of (hval 0 _ v0 rfl rfl) h0
  obtain ⟨l1, q1, n1, c1, hl1, hat1, rfl, hr1⟩ := intsarg_of (hval 1 _ v1 rfl rfl) h1
  have hul1 := hr1 _ _ 1 hsz rfl rfl
  obtain ⟨n2, rfl, _, _, wf2⟩ := open_int Tryz.underlying2 (hval 2 _ v2 rfl rfl) h2
  have hn2 := wf_i64 wf2
  clear hA0 hval0
  refine (QLoadedL_c x0 hx0 l1 q1 n1 c1 n2 hn2 W hat1 hl1 hul1).mono fun e W' ⟨he, bel⟩ => ?_
  subst he
  exact ⟨_, rfl, _, _, _, [], _, [], hW', trodAll_mk1 (shut_bool Tryz.underlying4 _), (trodAll_cons_mk (Below.trod laidOut (by kernel_rfl) (of_decide_eq_true (by kernel_rfl)) k0 bel lt0) (trodAll_cons_mk (Below.trod laidOut (by kernel_rfl) (of_decide_eq_true (by kernel_rfl)) k1 bel lt1) (trodAll_cons_mk (Below.trod laidOut (by kernel_rfl) (of_decide_eq_true (by kernel_rfl)) k2 bel lt2) trodAll_mk0))), rfl, bel.frame _, fun h => by cases h⟩
end Go.Proofs.YtfhdjekpdifajaaGreat
