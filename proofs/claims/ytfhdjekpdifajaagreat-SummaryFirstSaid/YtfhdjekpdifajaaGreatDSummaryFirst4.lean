/- Part. No condition. -/
import Derived.Test.YtfhdjekpdifajaaGreatDSummaryFirst3
import Derived.Test.YtfhdjekpdifajaaGreatDSummaryFirst1
import Derived.RangeFuncFrom
import Derived.RangeFuncBox
namespace Go.Proofs.YtfhdjekpdifajaaGreat
set_option linter.unusedVariables false
open Go.RowKit
attribute [local go_sem] Oper.semAt_some
theorem Kat_c (s : Nat) (key : Int) (w : World) :
    Calls Tryz.prog 89 #[.pointer (some ⟨s, 0, none⟩), .int .u64 key] w fun e w' => e = .returned (.func (.func 147) #[] #[.pointer (some ⟨w.heap.size, 0, none⟩), .pointer (some ⟨w.heap.size + 1, 0, none⟩)]) ∧
      w' = (w.alloc (.cells #[.pointer (some ⟨s, 0, none⟩)] 28)).alloc (.cells #[.int .u64 key] 22) := by
  have hmf : ∀ (fn : Fn) (first cap : Array Value) (w : World), (Instr.makeFunc fn first cap).run Tryz.prog w = .ok (.func fn first cap) w := fun _ _ _ _ => rfl
  go_enter Tryz.func89, Tryz.ntmps89
  go_wp2
  go_ret
  exact ⟨rfl, rfl⟩
/-- What a round that goes on keeps: whatever lay below n₀, but for the blocks of S. -/
def KpS (n₀ : Nat) (S : Nat → Prop) (W W' : World) : Prop := ∀ b, b < n₀ → ¬ S b → W'.heap[b]? = W.heap[b]?
theorem KpS.t {n₀ : Nat} {S : Nat → Prop} {A B C : World} (h : KpS n₀ S A B) (k : KpS n₀ S B C) : KpS n₀ S A C := fun b hb hs => (k b hb hs).trans (h b hb hs)
theorem KpS.b {n₀ : Nat} {S : Nat → Prop} {w : World} (hn : n₀ ≤ w.heap.size) (W : World) (l : Nat) (o o' : Obj) (hl : w.heap.size ≤ l) (h : W.heap[l]? = some o) (_ : o.isCells = false) (_ : o.isWalk = false) : KpS n₀ S W (W.putObj l o') := by
  intro b hb _
  exact World.putObj_heap_other (by omega)
theorem KpS.cell {n₀ : Nat} {S : Nat → Prop} {W W' : World} (h : KpS n₀ S W W') {b o : Nat} (hb : b < n₀) (hs : ¬ S b) : W'.cell? ⟨b, o, none⟩ = W.cell? ⟨b, o, none⟩ := by
  unfold World.cell?; rw [show (⟨b, o, none⟩ : Addr).block = b from rfl, h b hb hs]
def lvEnc (C : Cfg) (L : Nat → Lev) (B : Nat) (key : Int) (x : {n : Nat // n ≤ B}) : Array Value := #[lvV C x.1 (L x.1), .int .u64 (sh x.1 key)]
set_option maxRecDepth 100000 in
set_option maxHeartbeats 2000000 in
theorem kat1_in (n l Bs Bk n₀ s g cap : Nat) (S : Nat → Prop) (C : Cfg) (L : Nat → Lev) (B : Nat) (key : Int) (hkey : U64 key) (hB : B ≤ 59) (J Jx : List {n : Nat // n ≤ B} → World → Prop)
    (hbs : Bs < n₀) (hbk : Bk < n₀) (hs : s < n₀) (hg : g < n₀) (nbs : ¬ S Bs) (nbk : ¬ S Bk) (ns : ¬ S s) (ng : ¬ S g)
    (hY : ∀ pre x W, J pre W → pre.length < B + 1 → YieldAt Fence.wide (n - 1) Tryz.prog l (lvEnc C L B key x) W fun e W' =>
      (e = .returned (.bool true) ∧ J (pre ++ [x]) W' ∧ KpS n₀ S W W') ∨ (e = .returned (.bool false) ∧ Jx (pre ++ [x]) W'))
    (W : World) (hBs : W.cell? ⟨Bs, 0, none⟩ = some (.pointer (some ⟨s, 0, none⟩))) (hBk : W.cell? ⟨Bk, 0, none⟩ = some (.int .u64 key))
    (h5 : W.cell? ⟨s, 5, none⟩ = some (.slice (some ⟨g, 0, none⟩) (B + 1) cap)) (hc : ∀ n, n ≤ B → W.cell? ⟨g, n, none⟩ = some (lvV C n (L n))) (h0 : J [] W) :
    CallsIn Fence.wide n Tryz.prog 147 #[.func (.yield l) #[] #[], .pointer (some ⟨Bs, 0, none⟩), .pointer (some ⟨Bk, 0, none⟩)] W fun e W' => (∃ v, e = .returned v) ∧
      ((∃ ys, ys.map (fun x : {n : Nat // n ≤ B} => x.1) = List.range (B + 1) ∧ J ys W') ∨ (∃ pre, True ∧ Jx pre W')) := by
  refine callsIn_of_wp Tryz.func147 rfl trivial ?_ rfl
  simp only [Tryz.ntmps147, List.size_toArray, List.length_cons, List.length_nil, Nat.reduceAdd, Nat.reduceSub, Array.replicate_succ, Array.replicate_zero, List.push_toArray, List.append_toArray, List.nil_append, List.cons_append]
  gi_wp2
  gi_loopw [11] (fun i wr => ∃ (k : Nat) (pre : List {n : Nat // n ≤ B}), k ≤ B + 1 ∧ i = .int .i64 k ∧ pre.map (fun x : {n : Nat // n ≤ B} => x.1) = List.range k ∧ J pre wr ∧ KpS n₀ S W wr)
    (fun i _ => B + 1 - (intOf i).toNat)
  case atStart => exact ⟨0, [], Nat.zero_le _, rfl, rfl, h0, fun _ _ _ => rfl⟩
  case round =>
    obtain ⟨k, pre, hk, rfl, hpre, hJs, hnx⟩ := hrel
    have hlen : pre.length = k := by have := congrArg List.length hpre; simpa using this
    by_cases hlt : k < B + 1
    · have hcx := (hnx.cell (o := k) hg ng).trans (hc k (by omega))
      have hkx := (hnx.cell (o := 0) hbk nbk).trans hBk
      obtain ⟨fn, tmps, assign, body, hy, hR⟩ := hY pre ⟨k, by omega⟩ wr hJs (by omega)
      dsimp only [lvEnc, sh] at hy
      gi_wp2
      refine ⟨fun h => (by cases h), hR.mono ?_⟩
      rintro e W3 (⟨rfl, hJ3, hk3⟩ | ⟨rfl, hJx3⟩)
      · gi_wp2
        go_roundw
        case rel => exact ⟨k + 1, pre ++ [⟨k, by omega⟩], by omega, by simp, by rw [List.map_append, hpre, List.range_succ]; rfl, hJ3, hnx.t hk3⟩
        case measure => simp [intOf]; omega
      · gi_wp2
        refine bodyPost_ret (results_none rfl _ _ _) rfl ?_
        exact ⟨⟨_, rfl⟩, .inr ⟨_, trivial, hJx3⟩⟩
    · obtain rfl : k = B + 1 := by omega
      gi_wp2
      go_end0
      exact ⟨⟨_, rfl⟩, .inl ⟨pre, hpre, hJs⟩⟩
theorem kat1_stops (n Bs Bk n₀ s g cap : Nat) (S : Nat → Prop) (C : Cfg) (L : Nat → Lev) (B : Nat) (key : Int) (hkey : U64 key) (hB : B ≤ 59)
    (hbs : Bs < n₀) (hbk : Bk < n₀) (hs : s < n₀) (hg : g < n₀) (nbs : ¬ S Bs) (nbk : ¬ S Bk) (ns : ¬ S s) (ng : ¬ S g) (w : World) (hn : n₀ ≤ w.heap.size)
    (hBs : w.cell? ⟨Bs, 0, none⟩ = some (.pointer (some ⟨s, 0, none⟩))) (hBk : w.cell? ⟨Bk, 0, none⟩ = some (.int .u64 key))
    (h5 : w.cell? ⟨s, 5, none⟩ = some (.slice (some ⟨g, 0, none⟩) (B + 1) cap)) (hc : ∀ n, n ≤ B → w.cell? ⟨g, n, none⟩ = some (lvV C n (L n))) :
    SeqStopsK Fence.wide n Tryz.prog 147 #[.pointer (some ⟨Bs, 0, none⟩), .pointer (some ⟨Bk, 0, none⟩)] (lvEnc C L B key) (KpS n₀ S) (fun ys => ys.map (fun x : {n : Nat // n ≤ B} => x.1) = List.range (B + 1)) (fun _ => True) (B + 1) w := by
  intro l J Jx W hW hJ hJx hY h0
  refine kat1_in n l Bs Bk n₀ s g cap S C L B key hkey hB J Jx hbs hbk hs hg nbs nbk ns ng hY W ?_ ?_ ?_ (fun n hn' => ?_) h0
  · exact (hW.cell (p := ⟨Bs, 0, none⟩) (Nat.lt_of_lt_of_le hbs hn)).trans hBs
  · exact (hW.cell (p := ⟨Bk, 0, none⟩) (Nat.lt_of_lt_of_le hbk hn)).trans hBk
  · exact (hW.cell (p := ⟨s, 5, none⟩) (Nat.lt_of_lt_of_le hs hn)).trans h5
  · exact (hW.cell (p := ⟨g, n, none⟩) (Nat.lt_of_lt_of_le hg hn)).trans (hc n hn')
set_option maxRecDepth 20000 in
theorem first_c (g cap : Nat) (a b : Int) (w : World) (h0 : w.cell? ⟨g, 0, none⟩ = some (.int .i64 a)) (h1 : w.cell? ⟨g, 1, none⟩ = some (.int .i64 b)) :
    Calls Tryz.prog 90 #[.slice (some ⟨g, 0, none⟩) 2 cap] w fun e w' => e = .returned (.int .i64 (fst_ a b)) ∧ w = w' := by
  by_cases ha : a = 0
  · have e0 : fst_ a b = b := by unfold fst_; rw [decide_eq_true ha]; rfl
    rw [e0]
    subst ha
    by_cases hb : b = 0
    · subst hb
      go_enter Tryz.func90, Tryz.ntmps90
      go_wp2
      refine wp_loop_rounds 3 ?_
      iterate 3 (rw [rounds_succ]; go_wp2)
      go_ret
      exact ⟨rfl, rfl⟩
    · go_enter Tryz.func90, Tryz.ntmps90
      go_wp2
      refine wp_loop_rounds 2 ?_
      iterate 2 (rw [rounds_succ]; go_wp2)
      go_ret
      exact ⟨rfl, rfl⟩
  · have e0 : fst_ a b = a := by unfold fst_; rw [decide_eq_false ha]; rfl
    rw [e0]
    go_enter Tryz.func90, Tryz.ntmps90
    go_wp2
    refine wp_loop_rounds 1 ?_
    iterate 1 (rw [rounds_succ]; go_wp2)
    go_ret
    exact ⟨rfl, rfl⟩
end Go.Proofs.YtfhdjekpdifajaaGreat
namespace Go.Proofs.YtfhdjekpdifajaaGreat
set_option linter.unusedVariables false
open Go.RowKit
theorem keepsO_ext {w w' : World} (h : Ext w w') : KeepsOthers w w' :=
  ⟨h.size, fun k o hk _ => (h.block k (Array.getElem?_eq_some_iff.1 hk).1).trans hk⟩
theorem keepsO_mod {S : Nat → Prop} {w w' : World} (h : Mod S w w') (hS : ∀ k, S k → k < w.heap.size → ∃ cur t f, w.heap[k]? = some (.cells cur t f)) : KeepsOthers w w' :=
  ⟨h.size, fun k o hk ho => by
    have hlt := (Array.getElem?_eq_some_iff.1 hk).1
    refine (h.block k hlt fun hs => ?_).trans hk
    obtain ⟨cur, t, f, hc⟩ := hS k hs hlt
    rw [hk] at hc
    injection hc with hc
    subst hc
    cases ho⟩
theorem kps_mod {n₀ : Nat} {S : Nat → Prop} {w w' : World} (h : Mod S w w') (hn : n₀ ≤ w.heap.size) : KpS n₀ S w w' := fun b hb hs => h.block b (by omega) hs
theorem kps_ext {n₀ : Nat} {S : Nat → Prop} {w w' : World} (h : Ext w w') (hn : n₀ ≤ w.heap.size) : KpS n₀ S w w' := fun b hb _ => h.block b (by omega)
/-- What lies below a bound is carried by whatever grows from there. -/
theorem grown_low {W W' : World} {row : Option Nat} {B k : Nat} (hg : W.grownBy W' row) (hr : ∀ r, row = some r → B ≤ r) (hk : k < W.heap.size) (hB : k < B) : W'.heap[k]? = W.heap[k]? :=
  hg.block k hk (fun e => by have := hr k e.symm; omega)
theorem ownFrom_mod {β : Type} {S : Nat → Prop} {B : Nat} {w₀ : World} (hB : w₀.heap.size ≤ B) : OwnFrom B (fun (_ : β) W => Mod S w₀ W) :=
  fun _ _ _ _ hs hg hr => ⟨hg.os.trans hs.os, hg.tape.trans hs.tape, hg.output.trans hs.output, Nat.le_trans hs.size hg.size, fun k hk hn => (grown_low hg (fun r e => (hr r e).1) (Nat.lt_of_lt_of_le hk hs.size) (by omega)).trans (hs.block k hk hn)⟩
theorem ownFrom_box {β : Type} {B b : Nat} (hb : b < B) (f : β → Obj) : OwnFrom B (fun (s : β) W => W.heap[b]? = some (f s)) :=
  fun s W W' row hs hg hr => (grown_low hg (fun r e => (hr r e).1) (lt_of hs) hb).trans hs
/-- A stack's blocks lie below a bound. -/
structure KLow (N s g B : Nat) (L : Nat → Lev) : Prop where
  s : s < N
  g : g < N
  ls : ∀ n, n ≤ B → (L n).s < N
  lb : ∀ n, n ≤ B → (L n).b < N
  lc : ∀ n, n ≤ B → (L n).c < N
theorem KAt.low {w : World} {s g : Nat} {C : Cfg} {B : Nat} {L : Nat → Lev} {ls : Nat → List Int} (h : KAt w s g C B L ls) : KLow w.heap.size s g B L :=
  ⟨h.lts, h.ltg, fun n hn => (h.lev n hn).lts, fun n hn => (h.lev n hn).ltb, fun n hn => (h.lev n hn).ltc⟩
theorem KLow.mono {N M s g B : Nat} {L : Nat → Lev} (h : KLow N s g B L) (hM : N ≤ M) : KLow M s g B L :=
  ⟨Nat.lt_of_lt_of_le h.s hM, Nat.lt_of_lt_of_le h.g hM, fun n hn => Nat.lt_of_lt_of_le (h.ls n hn) hM, fun n hn => Nat.lt_of_lt_of_le (h.lb n hn) hM, fun n hn => Nat.lt_of_lt_of_le (h.lc n hn) hM⟩
theorem KAt.keepN {w w' : World} {N s g : Nat} {C : Cfg} {B : Nat} {L : Nat → Lev} {ls : Nat → List Int} (h : KAt w s g C B L ls) (hl : KLow N s g B L) (hk : ∀ k, k < w.heap.size → k < N → w'.heap[k]? = w.heap[k]?) : KAt w' s g C B L ls :=
  ⟨by rw [hk s h.lts hl.s]; exact h.ex, by rw [hk g h.ltg hl.g]; exact h.row, fun n hn => (h.lev n hn).keep (hk _ (h.lev n hn).lts (hl.ls n hn)) (hk _ (h.lev n hn).ltb (hl.lb n hn)) (hk _ (h.lev n hn).ltc (hl.lc n hn)), h.sep, h.ok, h.hB⟩
/-- One level is changed. -/
theorem KAt.put {w w' : World} {s g : Nat} {C : Cfg} {B : Nat} {L : Nat → Lev} {ls : Nat → List Int} (h : KAt w s g C B L ls) {n : Nat} (hn : n ≤ B) (hm : Mod (fun k => k = (L n).c) w w') {l : List Int} (hl : LvAt w' (L n) C n l) :
    KAt w' s g C B L (fun m => if m = n then l else ls m) := by
  have hcs : ∀ k, k = (L n).c → k < w.heap.size → ∃ cur, w.heap[k]? = some (.cells cur 2 (0, 0)) := by
    rintro k rfl _; exact (h.lev n hn).isc
  refine ⟨?_, ?_, fun m hm' => ?_, h.sep, h.ok, h.hB⟩
  · rw [hm.block s h.lts fun e => h.nots ⟨n, hn, e⟩]; exact h.ex
  · rw [hm.block g h.ltg fun e => h.notg ⟨n, hn, e⟩]; exact h.row
  · by_cases e : m = n
    · subst e; rw [if_pos rfl]; exact hl
    · rw [if_neg e]; exact (h.lev m hm').mod hm hcs (h.sep m n hm' hn e)
theorem KAt.mod1 {w w' : World} {s g : Nat} {C : Cfg} {B : Nat} {L : Nat → Lev} {ls : Nat → List Int} (h : KAt w s g C B L ls) {n : Nat} (hn : n ≤ B) (hm : Mod (fun k => k = (L n).c) w w') : Mod (cellsOf B L) w w' :=
  hm.mono fun k hk _ => ⟨n, hn, hk⟩
theorem KAt.cellsT {w : World} {s g : Nat} {C : Cfg} {B : Nat} {L : Nat → Lev} {ls : Nat → List Int} (h : KAt w s g C B L ls) (k : Nat) (hk : cellsOf B L k) (_ : k < w.heap.size) : ∃ cur t f, w.heap[k]? = some (.cells cur t f) := by
  obtain ⟨cur, hc⟩ := h.isc hk; exact ⟨_, _, _, hc⟩
theorem mod_new {w W0 W : World} {b : Nat} (he : Ext w W0) (hm : Mod (fun k => k = b) W0 W) (hb : w.heap.size ≤ b) : Mod (fun _ => False) w W :=
  ⟨hm.os.trans he.os, hm.tape.trans he.tape, hm.output.trans he.output, Nat.le_trans he.size hm.size, fun k hk _ => (hm.block k (Nat.lt_of_lt_of_le hk he.size) (by omega)).trans (he.block k hk)⟩
theorem mod_putD {S : Nat → Prop} {w W : World} {D : Nat} {o : Obj} (h : Mod S w W) (hD : w.heap.size ≤ D) : Mod S w (W.putObj D o) :=
  ⟨h.os, h.tape, h.output, Nat.le_trans h.size (by simp [World.putObj]), fun k hk hn => (World.putObj_heap_other (by omega)).trans (h.block k hk hn)⟩
/-- A round that has written one box. -/
theorem chk_round {W0 W w3 : World} {b : Nat} {t : TypeId} {u v : Value} {o : Obj} (hb : W.heap[b]? = some (.cells #[u] t (0, 0))) (hx : Ext W w3) (hM : Mod (fun k => k = b) W0 W) :
    KeepsOthers W ((w3.setCell ⟨b, 0, none⟩ v).alloc o) ∧ KpS W0.heap.size (fun k => k = b) W ((w3.setCell ⟨b, 0, none⟩ v).alloc o) ∧ ((w3.setCell ⟨b, 0, none⟩ v).alloc o).heap[b]? = some (.cells #[v] t (0, 0)) ∧ Mod (fun k => k = b) W0 ((w3.setCell ⟨b, 0, none⟩ v).alloc o) := by
  have h3 := hx.keep hb
  have hl := lt_of h3
  have hm : Mod (fun k => k = b) W ((w3.setCell ⟨b, 0, none⟩ v).alloc o) := ((hx.mod _).trans (mod_set _ _ _ _)).trans ((Ext.alloc' _ _).mod _)
  refine ⟨keepsO_mod hm ?_, kps_mod hm hM.size, ?_, hM.trans hm⟩
  · rintro k rfl _; exact ⟨_, _, _, hb⟩
  · rw [heap_old _ _ (by rw [size_setCell]; exact hl), setCell_same h3]; rfl
/-- The numbers of some levels. -/
def vals {B : Nat} (pre : List {n : Nat // n ≤ B}) : List Nat := pre.map fun x => x.1
theorem vals_snoc {B : Nat} (pre : List {n : Nat // n ≤ B}) (x : {n : Nat // n ≤ B}) : vals (pre ++ [x]) = vals pre ++ [x.1] := by unfold vals; rw [List.map_append]; rfl
/-- What the levels say that have been asked. -/
def errF (C : Cfg) (ls : Nat → List Int) (key d : Int) (pre : List Nat) : Int := pre.foldl (fun (b : Int) (n : Nat) => fst_ b (lvE C n (ls n) (sh n key) d)) 0
theorem errF_snoc (C : Cfg) (ls : Nat → List Int) (key d : Int) (pre : List Nat) (n : Nat) : errF C ls key d (pre ++ [n]) = fst_ (errF C ls key d pre) (lvE C n (ls n) (sh n key) d) := by
  unfold errF; rw [List.foldl_append]; rfl
theorem errF_range (C : Cfg) (ls : Nat → List Int) (key d : Int) (m : Nat) : errF C ls key d (List.range m) = errs C ls key d m := by
  induction m with
  | zero => rfl
  | succ m ih => rw [List.range_succ, errF_snoc, ih]; rfl
/-- The levels, when some have been told of an update. -/
def partK (C : Cfg) (ls : Nat → List Int) (key d : Int) (pre : List Nat) (n : Nat) : List Int := if n ∈ pre then updK C ls key d n else ls n
/-- A round that has told a level of an update. -/
theorem upd_round {W2 W w3 : World} {s g : Nat} {C : Cfg} {B : Nat} {L : Nat → Lev} {ls ls' : Nat → List Int} {key d : Int} {pre : List {n : Nat // n ≤ B}} {x : {n : Nat // n ≤ B}} {D : Nat}
    (h : KAt W s g C B L ls') (hp : (vals pre).Nodup → ∀ n, ls' n = partK C ls key d (vals pre) n) (hM : Mod (cellsOf B L) W2 W) (hD : W.heap[D]? = some (.deferred (some [])))
    (hall : ∀ n, n ≤ B → lvE C n (ls n) (sh n key) d = 0)
    (hres : (lvE C x.1 (ls' x.1) (sh x.1 key) d = 0 ∧ LvAt w3 (L x.1) C x.1 (lvU C x.1 (ls' x.1) (sh x.1 key) d) ∧ Mod (fun k => k = (L x.1).c) W w3) ∨ (lvE C x.1 (ls' x.1) (sh x.1 key) d ≠ 0 ∧ Ext W w3)) :
    KeepsOthers W w3 ∧ KpS W2.heap.size (cellsOf B L) W w3 ∧ w3.heap[D]? = some (.deferred (some [])) ∧ (∃ ls'', KAt w3 s g C B L ls'' ∧ ((vals (pre ++ [x])).Nodup → ∀ n, ls'' n = partK C ls key d (vals (pre ++ [x])) n)) ∧ Mod (cellsOf B L) W2 w3 := by
  have old : (vals (pre ++ [x])).Nodup → (vals pre).Nodup ∧ x.1 ∉ vals pre := by
    intro hn
    rw [vals_snoc, List.nodup_append] at hn
    exact ⟨hn.1, fun hx => hn.2.2 _ hx x.1 (by simp) rfl⟩
  rcases hres with ⟨he, hl, hm⟩ | ⟨he, hx⟩
  · have hmm := h.mod1 x.2 hm
    have hko := keepsO_mod hmm (fun k hk hlt => h.cellsT k hk hlt)
    refine ⟨hko, kps_mod hmm hM.size, hko.same _ _ hD rfl, ⟨_, h.put x.2 hm hl, fun hn n => ?_⟩, hM.trans hmm⟩
    obtain ⟨h1, h2⟩ := old hn
    by_cases e : n = x.1
    · subst e
      rw [if_pos rfl, hp h1]
      unfold partK
      rw [if_neg h2, if_pos (by rw [vals_snoc]; simp)]
      rfl
    · rw [if_neg e, hp h1]
      unfold partK
      rw [vals_snoc]
      simp only [List.mem_append, List.mem_singleton, e, or_false]
  · have hko := keepsO_ext hx
    refine ⟨hko, kps_ext hx hM.size, hko.same _ _ hD rfl, ⟨ls', h.ext hx, fun hn n => ?_⟩, hM.trans (hx.mod _)⟩
    obtain ⟨h1, h2⟩ := old hn
    exfalso
    apply he
    rw [hp h1]
    unfold partK
    rw [if_neg h2]
    exact hall _ x.2
theorem part_end {C : Cfg} {B : Nat} {ls ls' : Nat → List Int} {key d : Int} {xs : List {n : Nat // n ≤ B}} (hxs : xs.map (fun x => x.1) = List.range (B + 1)) (hp : (vals xs).Nodup → ∀ n, ls' n = partK C ls key d (vals xs) n) :
    ∀ n, n ≤ B → ls' n = updK C ls key d n := by
  have e : vals xs = List.range (B + 1) := hxs
  intro n hn
  rw [hp (by rw [e]; exact List.nodup_range), e]
  unfold partK
  rw [if_pos (by rw [List.mem_range]; omega)]
theorem KAt.cong {w : World} {s g : Nat} {C : Cfg} {B : Nat} {L : Nat → Lev} {ls ls' : Nat → List Int} (h : KAt w s g C B L ls) (he : ∀ n, n ≤ B → ls n = ls' n) : KAt w s g C B L ls' :=
  ⟨h.ex, h.row, fun n hn => he n hn ▸ h.lev n hn, h.sep, h.ok, h.hB⟩
end Go.Proofs.YtfhdjekpdifajaaGreat
namespace Go.Proofs.YtfhdjekpdifajaaGreat
set_option linter.unusedVariables false
open Go.RowKit
section
variable {P : Program}
/-- 's = append(s, x)', x of one cell, s a row of the call's own. -/
theorem wpList_appv (W : World) {ops : Array Oper} {rest : List Oper} {o : Oper} {a : Act} {Q : Exit → Act → World → Prop} (x : Value) (hx1 : x.oneCell' = true) (xs : List Value) (v : Value) (base : Nat) (e : TypeId) (hown : W.ownsRow base e 1 v xs.length xs) (t : TypeId)
    (hgd : o.guard = none) (s y : Operand) (ho : o.op = .call { callee := .builtin .append, args := #[s, y], argTypes := #[t, t] })
    (i0 : TypeInfo) (z0 : Value) (hi : P.info? e = some i0) (hz0 : i0.zero = some z0) (hz1 : i0.size = 1) (hz2 : i0.bytes = 16) (hz3 : z0.cells.size = 1) (ht : P.underlying t = some (.slice e))
    (hs : a.eval s = v) (hx : a.eval y = .slice (some ⟨W.heap.size, 0, none⟩) 1 1)
    (hl : xs.length ≤ 1000000) (hbase : base ≤ W.heap.size)
    (h : ∀ v' w', w'.ownsRow base e 1 v' (xs ++ [x]).length (xs ++ [x]) → (W.alloc (.cells #[x] e)).grownBy w' v.ownBlock → wpList P ops Q rest (a.put o.dst v') w') :
    wpList P ops Q (o :: rest) a (W.alloc (.cells #[x] e)) := by
  refine wpList_append_sep _ hgd s y t ho base e i0 z0 1 16 ht hi hz0 hz1 hz2 hz3 (by decide) v xs.length xs hs (hown.alloc _) ⟨W.heap.size, 0, none⟩ 1 1 [x] hx rfl ?_ ?_ (by unfold maxLen; omega) (by omega) (by rw [size_alloc]; omega) ?_
  · intro j u hu
    have hj : j = 0 := by
      have := (List.getElem?_eq_some_iff.1 hu).1
      simp at this; exact this
    subst hj
    rw [show (⟨W.heap.size, 0, none⟩ : Addr).add 0 = ⟨W.heap.size, 0, none⟩ by simp [Addr.add], cell_of (heap_at W _ rfl) 0]
    exact hu
  · intro u hu
    simp at hu
    subst hu
    exact hx1
  · intro v' w' h1 h2 h3
    refine h v' w' ?_ h2
    rw [List.length_append]
    exact h1
end
theorem own_type {w : World} {base n size : Nat} {e : TypeId} {v : Value} {xs : List Value} (h : w.ownsRow base e size v n xs) {k : Nat} (hk : v.ownBlock = some k) : ∃ cur, w.heap[k]? = some (.cells cur e (0, 0)) := by
  rcases h.2 with ⟨rfl, _⟩ | ⟨g, cap, cur, rfl, _, hg, _⟩
  · cases hk
  · cases hk; exact ⟨cur, hg⟩
theorem info_lev : ∃ i z, Tryz.prog.info? 62 = some i ∧ i.zero = some z ∧ i.size = 1 ∧ i.bytes = 16 ∧ z.cells.size = 1 := by
  have h : (Tryz.prog.info? 62).map (fun i => (i.zero, i.size, i.bytes)) = some (some .nilIface, 1, 16) := by kernel_rfl
  match hi : Tryz.prog.info? 62, h with
  | some i, h =>
    simp only [Option.map_some, Option.some.injEq, Prod.mk.injEq] at h
    exact ⟨i, .nilIface, rfl, h.1, h.2.1, h.2.2, rfl⟩
def lvVs (C : Cfg) (L : Nat → Lev) (n : Nat) : List Value := (List.range n).map fun (i : Nat) => lvV C i (L i)
theorem lvVs_len (C : Cfg) (L : Nat → Lev) (n : Nat) : (lvVs C L n).length = n := by simp [lvVs]
theorem lvVs_succ (C : Cfg) (L : Nat → Lev) (n : Nat) : lvVs C L (n + 1) = lvVs C L n ++ [lvV C n (L n)] := by
  unfold lvVs; rw [List.range_succ, List.map_append]; rfl
theorem lvVs_cong (C : Cfg) {L L' : Nat → Lev} {n : Nat} (h : ∀ i, i < n → L i = L' i) : lvVs C L n = lvVs C L' n := by
  unfold lvVs
  apply List.map_congr_left
  intro i hi
  rw [List.mem_range] at hi
  rw [h i hi]
theorem lvVs_get (C : Cfg) (L : Nat → Lev) {n i : Nat} (h : i < n) : (lvVs C L n)[i]? = some (lvV C i (L i)) := by
  unfold lvVs; rw [List.getElem?_map, List.getElem?_range h]; rfl
/-- A row of levels' block is no level's. -/
theorem LvAt.norow {w : World} {L : Lev} {C : Cfg} {lv : Int} {l : List Int} (h : LvAt w L C lv l) {k : Nat} {cur : Array Value} (hk : w.heap[k]? = some (.cells cur 62 (0, 0))) : k ≠ L.s ∧ k ≠ L.b ∧ k ≠ L.c := by
  refine ⟨?_, ?_, ?_⟩
  · rcases h with ⟨_, h⟩ | ⟨_, h⟩ <;> exact blk_ne hk h.ex (by decide)
  · rcases h with ⟨_, h⟩ | ⟨_, h⟩ <;> (obtain ⟨cap, h1, _⟩ := h.g.ex; exact blk_ne hk h1 (by decide))
  · obtain ⟨cur', h1⟩ := h.isc
    exact blk_ne hk h1 (by decide)
theorem LvAt.grown {w w' : World} {o : Obj} {row : Option Nat} {L : Lev} {C : Cfg} {lv : Int} {l : List Int} (h : LvAt w L C lv l) (hg : (w.alloc o).grownBy w' row) (hr : ∀ i, row = some i → ∃ cur, w.heap[i]? = some (.cells cur 62 (0, 0))) : LvAt w' L C lv l := by
  have key : ∀ k, k < w.heap.size → (∀ i, row = some i → i ≠ k) → w'.heap[k]? = w.heap[k]? := fun k hk hn => grown_old hg hk (fun e => hn k e.symm rfl)
  refine h.keep (key _ h.lts fun i hi => ?_) (key _ h.ltb fun i hi => ?_) (key _ h.ltc fun i hi => ?_)
  all_goals
    obtain ⟨cur, hc⟩ := hr i hi
    have := h.norow hc
  · exact this.1
  · exact this.2.1
  · exact this.2.2
/-- Some levels that have been made. -/
structure Made (w : World) (B0 : Nat) (C : Cfg) (k : Nat) (L : Nat → Lev) (ls : Nat → List Int) (v : Value) : Prop where
  row : w.ownsRow B0 62 1 v (lvVs C L k).length (lvVs C L k)
  lev : ∀ n, n < k → LvAt w (L n) C n (ls n)
  new : ∀ n, n < k → B0 ≤ (L n).s ∧ B0 ≤ (L n).b ∧ B0 ≤ (L n).c
  sep : ∀ m n, m < k → n < k → m ≠ n → (L m).c ≠ (L n).c
theorem Made.ext {w w' : World} {B0 k : Nat} {C : Cfg} {L : Nat → Lev} {ls : Nat → List Int} {v : Value} (h : Made w B0 C k L ls v) (he : Ext w w') : Made w' B0 C k L ls v :=
  ⟨own_ext h.row he, fun n hn => (h.lev n hn).ext he, h.new, h.sep⟩
/-- One more. -/
theorem Made.next {w w' : World} {B0 k : Nat} {C : Cfg} {L : Nat → Lev} {ls : Nat → List Int} {v v' : Value} {M : Lev} {l : List Int} {o : Obj} {N : Nat} (h : Made w B0 C k L ls v) (hM : LvAt w M C k l) (hN : ∀ n, n < k → (L n).c < N) (hB : B0 ≤ N) (h1 : N ≤ M.s) (h2 : N ≤ M.b) (h3 : N ≤ M.c)
    (hl : l = ls k) (hown : w'.ownsRow B0 62 1 v' (lvVs C L k ++ [lvV C k M]).length (lvVs C L k ++ [lvV C k M])) (hg : (w.alloc o).grownBy w' v.ownBlock) : Made w' B0 C (k + 1) (fun n => if n = k then M else L n) ls v' := by
  subst hl
  have hr : ∀ i, v.ownBlock = some i → ∃ cur, w.heap[i]? = some (.cells cur 62 (0, 0)) := fun i hi => own_type h.row hi
  refine ⟨?_, fun n hn => ?_, fun n hn => ?_, fun m n hm hn hmn => ?_⟩
  · rw [lvVs_succ, if_pos rfl, lvVs_cong C (L' := L) (fun i hi => if_neg (by omega))]
    exact hown
  · by_cases e : n = k
    · subst e; rw [if_pos rfl]; exact hM.grown hg hr
    · rw [if_neg e]; exact (h.lev n (by omega)).grown hg hr
  · by_cases e : n = k
    · rw [if_pos e]; exact ⟨by omega, by omega, by omega⟩
    · rw [if_neg e]; exact h.new n (by omega)
  · by_cases e : m = k
    · subst e
      rw [if_pos rfl, if_neg (by omega)]
      have := hN n (by omega)
      omega
    · rw [if_neg e]
      by_cases e' : n = k
      · subst e'
        rw [if_pos rfl]
        have := hN m (by omega)
        omega
      · rw [if_neg e']; exact h.sep m n (by omega) (by omega) hmn
theorem Made.ltN {w : World} {B0 k : Nat} {C : Cfg} {L : Nat → Lev} {ls : Nat → List Int} {v : Value} (h : Made w B0 C k L ls v) (n : Nat) (hn : n < k) : (L n).c < w.heap.size := (h.lev n hn).ltc
/-- All levels, and the stack's own block: a stack. -/
theorem Made.stack {w : World} {s B0 B : Nat} {C : Cfg} {L : Nat → Lev} {ls : Nat → List Int} {v : Value} (h : Made w B0 C (B + 1) L ls v) (hok : C.Ok) (hB : C.bits = B) (hs : w.heap[s]? = some (.cells #[.int .i64 C.bits, .int .i64 C.rows, .int .i64 C.width, .int .i64 C.mode, .int .u64 C.seed, v] 149 (0, 0))) :
    ∃ g, B0 ≤ g ∧ KAt w s g C B L ls := by
  have hl := lvVs_len C L (B + 1)
  rcases h.row.2 with ⟨_, h0⟩ | ⟨g, cap, cur, rfl, hbg, hg, hnc, hcm, hcs, htake⟩
  · rw [hl] at h0; omega
  · rw [hl] at hs hnc
    refine ⟨g, hbg, ⟨⟨cap, hs, hnc⟩, ⟨cur, hg, fun n hn => ?_⟩, fun n hn => h.lev n (by omega), fun m n hm hn => h.sep m n (by omega) (by omega), hok, hB⟩⟩
    have h1 := h.row.cells (g := g) rfl n _ (lvVs_get C L (show n < B + 1 by omega))
    rw [show ((⟨g, 0, none⟩ : Addr).add n) = ⟨g, n, none⟩ by (simp [Addr.add]; intro e; exact e.symm), cell_of hg] at h1
    exact h1
theorem Made.setc {w : World} {B0 k : Nat} {C : Cfg} {L : Nat → Lev} {ls : Nat → List Int} {v : Value} (h : Made w B0 C k L ls v) {b : Nat} (hb : b < B0) (o : Nat) (u : Value) : Made (w.setCell ⟨b, o, none⟩ u) B0 C k L ls v :=
  ⟨own_setc h.row hb o u, fun n hn => (h.lev n hn).keep (setCell_other _ _ (by have := h.new n hn; omega)) (setCell_other _ _ (by have := h.new n hn; omega)) (setCell_other _ _ (by have := h.new n hn; omega)), h.new, h.sep⟩
def KNewPost (w : World) (C : Cfg) (e : Ending) (w' : World) : Prop :=
  ∃ (s g : Nat) (L : Nat → Lev), e = .returned (.tuple #[.pointer (some ⟨s, 0, none⟩), .int .i64 0]) ∧ KAt w' s g C C.bits.toNat L (fun n => zs (lvN C n)) ∧ w.heap.size ≤ s ∧ w.heap.size ≤ g ∧ (∀ n, n ≤ C.bits.toNat → w.heap.size ≤ (L n).s ∧ w.heap.size ≤ (L n).b ∧ w.heap.size ≤ (L n).c) ∧ Ext w w'
set_option maxRecDepth 20000 in
set_option maxHeartbeats 4000000 in
theorem KNew_c (C : Cfg) (h : C.Ok) (w : World) :
    Calls Tryz.prog 16 #[.agg #[.int .i64 C.bits, .int .i64 C.rows, .int .i64 C.width, .int .i64 C.mode, .int .u64 C.seed]] w (KNewPost w C) := by
  have hb1 := h.b1
  have hb2 := h.b2
  obtain ⟨B, hB⟩ : ∃ B : Nat, C.bits = B := ⟨C.bits.toNat, by omega⟩
  have hBt : C.bits.toNat = B := by omega
  unfold KNewPost
  rw [hBt]
  have HB := Lib.hid hB
  have HBT := Lib.hid hBt
  clear hB hBt
  go_enter Tryz.func16, Tryz.ntmps16
  go_wp2_with fail
  refine (Right_c C h _).mono ?_
  rintro e w1 ⟨rfl, hx1⟩
  have hE1 : Ext w w1 := (Ext.alloc' w _).trans' hx1
  have hcb := hx1.keep (heap_at w (.cells #[.int .i64 C.bits, .int .i64 C.rows, .int .i64 C.width, .int .i64 C.mode, .int .u64 C.seed] 24) rfl)
  have hC1 := CfgAt.of hcb
  have c0 := hC1.c0
  have c1 := hC1.c1
  have c2 := hC1.c2
  have c3 := hC1.c3
  have c4 := hC1.c4
  have cl := hC1.lt
  have hs1 := hE1.size
  have hbits : C.bits + 1 = (B : Int) + 1 := by rw [HB.out]
  go_wp2
  go_loopw [5, 18] (fun u5 u18 wr => ∃ (k : Nat) (L : Nat → Lev), k ≤ B + 1 ∧ u18 = .int .i64 k ∧ Ext w wr ∧ wr.heap[w.heap.size]? = some (.cells #[.int .i64 C.bits, .int .i64 C.rows, .int .i64 C.width, .int .i64 C.mode, .int .u64 C.seed] 24 (0, 0)) ∧
      wr.heap[w1.heap.size]? = some (.cells #[.int .i64 C.bits, .int .i64 C.rows, .int .i64 C.width, .int .i64 C.mode, .int .u64 C.seed, .slice none 0 0] 149 (0, 0)) ∧
      Made wr (w1.heap.size + 1) C k L (fun n => zs (lvN C n)) u5) (fun _ u18 _ => B + 1 - (intOf u18).toNat)
  case atStart =>
    refine ⟨0, fun _ => ⟨0, 0, 0⟩, Nat.zero_le _, rfl, hE1.allocR _, by rw [heap_old _ _ (by omega)]; exact hcb, heap_at _ _ rfl, ⟨⟨rfl, .inl ⟨rfl, rfl⟩⟩, ?_, ?_, ?_⟩⟩ <;> (intros; omega)
  case round =>
    obtain ⟨k, L, hk, rfl, hE, hcr, hbox, hM⟩ := hrel
    have hC := CfgAt.of hcr
    have d0 := hC.c0
    have d1 := hC.c1
    have d2 := hC.c2
    have d3 := hC.c3
    have d4 := hC.c4
    have dl := hC.lt
    have hbl := lt_of hbox
    have HC := Lib.hid hcr
    have HBX := Lib.hid hbox
    have HM := Lib.hid hM
    clear hC hcr hbox hM
    by_cases hlt : k < B + 1
    · go_wp2_with fail
      refine (LNew_c C h k (by omega) (by have := HB.out; omega) _).mono ?_
      rintro e w2 ⟨M, rfl, hL, n1, n2, n3, hx2⟩
      have hown := own_ext HM.out.row hx2
      have hszz := hx2.size
      obtain ⟨T, hT⟩ : ∃ T, lvV C k M = .iface T (.pointer (some ⟨M.s, 0, none⟩)) := ⟨lvT C k, rfl⟩
      rw [hT]
      have HT := Lib.hid hT
      clear hT
      have hll := lvVs_len C L k
      obtain ⟨i0, z0, hi0, hz0, hz1, hz2, hz3⟩ := info_lev
      go_wp2_with (at_builtin; refine wpList_appv w2 (.iface T (.pointer (some ⟨M.s, 0, none⟩))) rfl (lvVs C L k) u5 (w1.heap.size + 1) 62 hown 147 rfl _ _ rfl i0 z0 hi0 hz0 hz1 hz2 hz3 Tryz.underlying147 rfl rfl ?a1 ?a2 ?_)
      case a1 => omega
      case a2 => omega
      intro v' w' hown' hgr
      have hmade := HM.out.ext hx2
      have hnext := hmade.next (N := wr.heap.size) (ls := fun n => zs (lvN C n)) hL (fun n hn => HM.out.ltN n hn) (by omega) n1 n2 n3 rfl (by rw [HT.out, List.length_append, hll]; exact hown') hgr
      have hge : ∀ i, u5.ownBlock = some i → w1.heap.size + 1 ≤ i := fun i hi => own_blk hown hi
      have hex : Ext w w' := ext_grown (hE.trans' hx2) hgr (fun i hi => by have := hge i hi; omega)
      have hCx := (grown_old hgr (show w.heap.size < w2.heap.size by omega) (fun e => by have := hge _ e.symm; omega)).trans (hx2.keep HC.out)
      have hbx := (grown_old hgr (show w1.heap.size < w2.heap.size by omega) (fun e => by have := hge _ e.symm; omega)).trans (hx2.keep HBX.out)
      go_wp2
      go_roundw
      case rel => exact ⟨k + 1, _, by omega, by go_num, hex, hCx, hbx, hnext⟩
      case measure => simp [intOf]; omega
    · obtain rfl : k = B + 1 := by omega
      obtain ⟨p5, k5, c5, rfl⟩ := own_slice HM.out.row
      have hfz := frozen_of HBX.out 5
      have hbc := (cell_of HBX.out 5).trans rfl
      go_wp2
      go_ret2
      have hm := HM.out.setc (show w1.heap.size < w1.heap.size + 1 by omega) 5 (.slice p5 k5 c5)
      obtain ⟨g, hg, hK⟩ := hm.stack h HB.out ((setCell_same HBX.out 5 (.slice p5 k5 c5)).trans rfl)
      refine ⟨w1.heap.size, g, L, rfl, hK, hs1, by omega, fun n hn => ?_, hE.setR (p := ⟨w1.heap.size, 5, none⟩) hs1 _⟩
      have := HM.out.new n (by omega)
      omega
end Go.Proofs.YtfhdjekpdifajaaGreat
namespace Go.Proofs.YtfhdjekpdifajaaGreat
set_option linter.unusedVariables false
open Go.RowKit
/-- Updates that lie at a place. -/
def UCells (W : World) (g off : Nat) (l : List (Int × Int)) : Prop :=
  ∀ k, k < l.length → W.cell? ⟨g, off + k * 2, none⟩ = some (.int .u64 (l.getD k (0, 0)).1) ∧ W.cell? ⟨g, off + k * 2 + 1, none⟩ = some (.int .i64 (l.getD k (0, 0)).2)
theorem UCells.ext {W W' : World} {g off : Nat} {l : List (Int × Int)} (h : UCells W g off l) (hg : g < W.heap.size) (he : Ext W W') : UCells W' g off l :=
  fun k hk => ⟨((bcell he).1 _ _ hg).trans (h k hk).1, ((bcell he).1 _ _ hg).trans (h k hk).2⟩
theorem UCells.take {W : World} {g off : Nat} {l : List (Int × Int)} (h : UCells W g off l) (n : Nat) : UCells W g off (l.take n) := by
  intro k hk
  rw [List.length_take] at hk
  have := h k (by omega)
  have e : (l.take n).getD k (0, 0) = l.getD k (0, 0) := by
    rw [List.getD_eq_getElem?_getD, List.getD_eq_getElem?_getD, List.getElem?_take_of_lt (by omega)]
  rw [e]; exact this
theorem UCells.drop {W : World} {g off : Nat} {l : List (Int × Int)} (h : UCells W g off l) (n : Nat) : UCells W g (off + n * 2) (l.drop n) := by
  intro k hk
  rw [List.length_drop] at hk
  have := h (n + k) (by omega)
  have e : (l.drop n).getD k (0, 0) = l.getD (n + k) (0, 0) := by
    rw [List.getD_eq_getElem?_getD, List.getD_eq_getElem?_getD, List.getElem?_drop]
  rw [e, show off + n * 2 + k * 2 = off + (n + k) * 2 by omega]; exact this
section
variable {P : Program}
end
end Go.Proofs.YtfhdjekpdifajaaGreat
namespace Go.Proofs.YtfhdjekpdifajaaGreat
set_option linter.unusedVariables false
open Go.RowKit
theorem pcV_append (a b : List (Nat × Int)) : pcV (a ++ b) = pcV a ++ pcV b := by unfold pcV; rw [List.flatMap_append]
section
variable {P : Program}
/-- 's = append(s, p)', p a piece, s a row of the call's own. -/
theorem wpList_appp (W : World) {ops : Array Oper} {rest : List Oper} {o : Oper} {a : Act} {Q : Exit → Act → World → Prop} (p : Nat × Int) (l : List (Nat × Int)) (v : Value) (base : Nat) (e e' : TypeId) (hown : W.ownsRow base e 2 v l.length (pcV l)) (t : TypeId)
    (hgd : o.guard = none) (s y : Operand) (ho : o.op = .call { callee := .builtin .append, args := #[s, y], argTypes := #[t, t] })
    (i0 : TypeInfo) (z : Value) (hi : P.info? e = some i0) (hz0 : i0.zero = some z) (hz1 : i0.size = 2) (hz2 : i0.bytes = 16) (hzs : z.cells.size = 2) (ht : P.underlying t = some (.slice e))
    (hs : a.eval s = v) (hx : a.eval y = .slice (some ⟨W.heap.size, 0, none⟩) 1 1)
    (hl : l.length ≤ 1000000000) (hbase : base ≤ W.heap.size)
    (h : ∀ v' w', w'.ownsRow base e 2 v' (l ++ [p]).length (pcV (l ++ [p])) → (W.alloc (.cells #[.int .i64 (p.1 : Int), .int .u64 p.2] e')).grownBy w' v.ownBlock → (v'.ownBlock = v.ownBlock ∨ v'.ownBlock = some (W.heap.size + 1)) → wpList P ops Q rest (a.put o.dst v') w') :
    wpList P ops Q (o :: rest) a (W.alloc (.cells #[.int .i64 (p.1 : Int), .int .u64 p.2] e')) := by
  refine wpList_append_sep _ hgd s y t ho base e i0 z 2 16 ht hi hz0 hz1 hz2 hzs (by decide) v l.length (pcV l) hs (hown.alloc _) ⟨W.heap.size, 0, none⟩ 1 1 [.int .i64 (p.1 : Int), .int .u64 p.2] hx rfl ?_ ?_ (by unfold maxLen; omega) (by omega) (by rw [size_alloc]; omega) ?_
  · intro j v hv
    have hj : j = 0 ∨ j = 1 := by
      have := (List.getElem?_eq_some_iff.1 hv).1
      simp at this; omega
    rcases hj with rfl | rfl
    · rw [show (⟨W.heap.size, 0, none⟩ : Addr).add 0 = ⟨W.heap.size, 0, none⟩ by simp [Addr.add], cell_of (heap_at W _ rfl) 0]
      exact hv
    · rw [show (⟨W.heap.size, 0, none⟩ : Addr).add 1 = ⟨W.heap.size, 1, none⟩ by simp [Addr.add], cell_of (heap_at W _ rfl) 1]
      exact hv
  · intro x hx
    simp at hx
    rcases hx with rfl | rfl <;> rfl
  · intro v' w' h1 h2 h3
    refine h v' w' ?_ h2 ?_
    · rw [List.length_append, pcV_append]
      exact h1
    · rw [size_alloc] at h3; exact h3
theorem wpList_apppz (W : World) {ops : Array Oper} {rest : List Oper} {o : Oper} {a : Act} {Q : Exit → Act → World → Prop} (l xs : List (Nat × Int)) (v : Value) (base : Nat) (e : TypeId) (hown : W.ownsRow base e 2 v xs.length (pcV xs)) (t : TypeId)
    (hgd : o.guard = none) (s y : Operand) (ho : o.op = .call { callee := .builtin .append, args := #[s, y], argTypes := #[t, t] })
    (i0 : TypeInfo) (z : Value) (hi : P.info? e = some i0) (hz0 : i0.zero = some z) (hz1 : i0.size = 2) (hz2 : i0.bytes = 16) (hzs : z.cells.size = 2) (ht : P.underlying t = some (.slice e))
    (hs : a.eval s = v) (u : Value) (hx : a.eval y = u) (base' : Nat) (hu : W.ownsRow base' e 2 u l.length (pcV l))
    (hl : xs.length + l.length ≤ 1000000000) (hbase : base ≤ W.heap.size)
    (h : ∀ (v' : Value) (w' : World), w'.ownsRow base e 2 v' (xs ++ l).length (pcV (xs ++ l)) → (∀ W0 : World, Ext W0 W → W0.heap.size ≤ base → Ext W0 w') → (∀ (k : Nat) (cur : Array Value) (t' : TypeId), W.heap[k]? = some (Obj.cells cur t' (0, 0)) → t' ≠ e → w'.heap[k]? = some (Obj.cells cur t' (0, 0))) → wpList P ops Q rest (a.put o.dst v') w') :
    wpList P ops Q (o :: rest) a W := by
  rcases hu.2 with ⟨rfl, h0⟩ | ⟨g, cap, cur, rfl, hb, hh, hnc, hcm, hcs, htk⟩
  · have hl0 : l = [] := List.length_eq_zero_iff.1 h0
    subst hl0
    refine wpList_append_zero hgd s y t ho base e i0 2 ht hi v xs.length (pcV xs) hs hown none 0 hx ?_
    exact h v W (by rw [List.append_nil]; exact hown) (fun W0 h _ => h) (fun k cur t' hk _ => hk)
  · refine wpList_append_sep _ hgd s y t ho base e i0 z 2 16 ht hi hz0 hz1 hz2 hzs (by decide) v xs.length (pcV xs) hs hown ⟨g, 0, none⟩ l.length cap (pcV l) hx (by rw [pcV_len]) ?_ ?_ (by unfold maxLen; omega) (by omega) hbase ?_
    · intro j u' hu'
      have hj := (List.getElem?_eq_some_iff.1 hu').1
      rw [pcV_len] at hj
      rw [← htk, List.getElem?_take_of_lt hj, Array.getElem?_toList] at hu'
      rw [show (⟨g, 0, none⟩ : Addr).add j = ⟨g, j, none⟩ by (simp [Addr.add]; try omega), cell_of hh]
      exact hu'
    · intro u' hu'
      obtain ⟨j, hj⟩ := List.getElem?_of_mem hu'
      obtain ⟨k, hk, ⟨_, rfl⟩ | ⟨_, rfl⟩⟩ := pcV_get hj <;> rfl
    · intro v' w' h1 h2 h3
      refine h v' w' (by rw [List.length_append, pcV_append]; exact h1) (fun W0 hE hb => ext_grown0 hE h2 fun k hk => Nat.le_trans hb (own_blk hown hk)) (fun k cur t' hk ht' => ?_)
      rw [h2.block k (lt_of hk) (fun he => ?_)]
      · exact hk
      · obtain ⟨cur', hc'⟩ := own_type hown he.symm
        rw [hk] at hc'
        injection hc' with hc'
        injection hc' with _ hc' _
        exact ht' hc'
end
theorem own_keepB {w w' : World} {base n size : Nat} {e : TypeId} {v : Value} {xs : List Value} (h : w.ownsRow base e size v n xs) (hk : ∀ k, v.ownBlock = some k → w'.heap[k]? = w.heap[k]?) : w'.ownsRow base e size v n xs := by
  refine ⟨h.1, ?_⟩
  rcases h.2 with h' | ⟨g, cap, cur, rfl, hb, hh, hr⟩
  · exact .inl h'
  · exact .inr ⟨g, cap, cur, rfl, hb, (hk g rfl).trans hh, hr⟩
theorem own_lt {w : World} {base n size : Nat} {e : TypeId} {v : Value} {xs : List Value} (h : w.ownsRow base e size v n xs) {k : Nat} (hk : v.ownBlock = some k) : k < w.heap.size := by
  obtain ⟨cur, hc⟩ := own_type h hk; exact lt_of hc
theorem own_notB {w : World} {base n size b : Nat} {e t : TypeId} {v : Value} {xs : List Value} {cur : Array Value} (h : w.ownsRow base e size v n xs) (hb : w.heap[b]? = some (.cells cur t (0, 0))) (ht : t ≠ e) : v.ownBlock ≠ some b := by
  intro hk
  obtain ⟨cur', hc⟩ := own_type h hk
  rw [hb] at hc
  injection hc with hc
  injection hc with _ hc _
  exact ht hc
/-- Two rows do not lie in one block. -/
def Dja (v u : Value) : Prop := ∀ i, v.ownBlock = some i → u.ownBlock ≠ some i
theorem Dja.symm {v u : Value} (h : Dja v u) : Dja u v := fun i h1 h2 => h i h2 h1
/-- Two rows of pieces that lie apart, each in a box. -/
structure CovW (w W : World) (b6 b8 : Nat) (v6 v8 : Value) (pre suf : List (Nat × Int)) : Prop where
  x6 : W.heap[b6]? = some (.cells #[v6] 165 (0, 0))
  x8 : W.heap[b8]? = some (.cells #[v8] 165 (0, 0))
  o6 : W.ownsRow w.heap.size 39 2 v6 pre.length (pcV pre)
  o8 : W.ownsRow w.heap.size 39 2 v8 suf.length (pcV suf)
  dj : Dja v6 v8
  g6 : w.heap.size ≤ b6
  g8 : w.heap.size ≤ b8
  ne : b6 ≠ b8
  ext : Ext w W
theorem CovW.symm {w W : World} {b6 b8 : Nat} {v6 v8 : Value} {pre suf : List (Nat × Int)} (h : CovW w W b6 b8 v6 v8 pre suf) : CovW w W b8 b6 v8 v6 suf pre := ⟨h.x8, h.x6, h.o8, h.o6, h.dj.symm, h.g8, h.g6, h.ne.symm, h.ext⟩
theorem CovW.set {w W : World} {b6 b8 : Nat} {v6 v8 : Value} {pre suf : List (Nat × Int)} (h : CovW w W b6 b8 v6 v8 pre suf) : CovW w (W.setCell ⟨b6, 0, none⟩ v6) b6 b8 v6 v8 pre suf :=
  ⟨by rw [setCell_same h.x6]; rfl, by rw [setCell_other _ _ h.ne.symm]; exact h.x8, own_keepB h.o6 (fun k hk => setCell_other _ _ (fun e => own_notB h.o6 h.x6 (by decide) (e ▸ hk))), own_keepB h.o8 (fun k hk => setCell_other _ _ (fun e => own_notB h.o8 h.x6 (by decide) (e ▸ hk))), h.dj, h.g6, h.g8, h.ne, h.ext.setR (p := ⟨b6, 0, none⟩) h.g6 _⟩
theorem CovW.app0 {w W w1 : World} {b6 b8 : Nat} {v6 v8 : Value} {pre suf : List (Nat × Int)} {o : Obj} (h : CovW w W b6 b8 v6 v8 pre suf) (h2 : (W.alloc o).grownBy w1 v6.ownBlock) : w1.heap[b6]? = some (.cells #[v6] 165 (0, 0)) :=
  (grown_old h2 (lt_of h.x6) (fun e => own_notB h.o6 h.x6 (by decide) e.symm)).trans h.x6
/-- One of them has a piece more. -/
theorem CovW.app {w W w1 : World} {b6 b8 : Nat} {v6 v8 v' : Value} {pre suf : List (Nat × Int)} {p : Nat × Int} {o : Obj} (h : CovW w W b6 b8 v6 v8 pre suf)
    (h1 : w1.ownsRow w.heap.size 39 2 v' (pre.length + 1) (pcV (pre ++ [p]))) (h2 : (W.alloc o).grownBy w1 v6.ownBlock) (h3 : v'.ownBlock = v6.ownBlock ∨ v'.ownBlock = some (W.heap.size + 1)) :
    CovW w (w1.setCell ⟨b6, 0, none⟩ v') b6 b8 v' v8 (pre ++ [p]) suf := by
  replace h1 : w1.ownsRow w.heap.size 39 2 v' (pre ++ [p]).length (pcV (pre ++ [p])) := by rw [List.length_append]; exact h1
  have old : ∀ k, k < W.heap.size → v6.ownBlock ≠ some k → w1.heap[k]? = W.heap[k]? := fun k hk hn => grown_old h2 hk (fun e => hn e.symm)
  have k6 := (old b6 (lt_of h.x6) (own_notB h.o6 h.x6 (by decide))).trans h.x6
  have k8 := (old b8 (lt_of h.x8) (own_notB h.o6 h.x8 (by decide))).trans h.x8
  have r8 : w1.ownsRow w.heap.size 39 2 v8 suf.length (pcV suf) := own_keepB h.o8 (fun k hk => old k (own_lt h.o8 hk) (fun e => h.dj k e hk))
  refine ⟨by rw [setCell_same k6]; rfl, by rw [setCell_other _ _ h.ne.symm]; exact k8, own_keepB h1 (fun k hk => setCell_other _ _ (fun e => own_notB h1 k6 (by decide) (e ▸ hk))), own_keepB r8 (fun k hk => setCell_other _ _ (fun e => own_notB r8 k6 (by decide) (e ▸ hk))), ?_, h.g6, h.g8, h.ne, ?_⟩
  · intro i hi hu
    rcases h3 with h3 | h3
    · exact h.dj i (h3 ▸ hi) hu
    · have := own_lt h.o8 hu
      rw [h3] at hi
      have := Option.some.inj hi
      omega
  · have h2' : Ext w w1 := by
      refine Below.grown (h.ext.allocR o) h2 (by rw [size_alloc]; have := h.ext.size; omega) (fun k hk => own_blk h.o6 hk)
    exact h2'.setR (p := ⟨b6, 0, none⟩) h.g6 _
end Go.Proofs.YtfhdjekpdifajaaGreat
namespace Go.Proofs.YtfhdjekpdifajaaGreat
set_option linter.unusedVariables false
open Go.RowKit
attribute [local go_sem] Oper.semAt_some
/-- A slice of pieces that lies below a block. -/
def PcsAt (n₀ : Nat) (W : World) (v : Value) (ps : List (Nat × Int)) : Prop :=
  (v = .slice none 0 0 ∧ ps = []) ∨ ∃ g cap, v = .slice (some ⟨g, 0, none⟩) ps.length cap ∧ g < n₀ ∧ PCells W g 0 ps
theorem PcsAt.below {n₀ : Nat} {A B : World} {v : Value} {ps : List (Nat × Int)} (h : PcsAt n₀ A v ps) (hb : Below n₀ A B) : PcsAt n₀ B v ps := by
  rcases h with h | ⟨g, cap, h1, h2, h3⟩
  · exact .inl h
  · exact .inr ⟨g, cap, h1, h2, fun k hk => ⟨(hb.cell (p := ⟨g, _, none⟩) h2).trans (h3 k hk).1, (hb.cell (p := ⟨g, _, none⟩) h2).trans (h3 k hk).2⟩⟩
theorem PcsAt.of_own {w : World} {base n₀ : Nat} {e : TypeId} {v : Value} {ps : List (Nat × Int)} (h : w.ownsRow base e 2 v ps.length (pcV ps)) (hn : w.heap.size ≤ n₀) : PcsAt n₀ w v ps := by
  rcases h.2 with ⟨h1, h2⟩ | ⟨g, cap, cur, rfl, _, hh, hc, _, hs, ht⟩
  · exact .inl ⟨h1, List.length_eq_zero_iff.1 h2⟩
  · refine .inr ⟨g, cap, rfl, Nat.lt_of_lt_of_le (lt_of hh) hn, fun k hk => ?_⟩
    obtain ⟨a1, a2⟩ := pcV_at hk
    rw [← ht] at a1 a2
    rw [List.getElem?_take_of_lt (by omega)] at a1 a2
    simp only [Array.getElem?_toList] at a1 a2
    rw [cell_of hh, cell_of hh, Nat.zero_add]
    exact ⟨a1, a2⟩
def pcEnc (ps : List (Nat × Int)) (x : {p : Nat × Int // p ∈ ps}) : Array Value := #[.agg #[.int .i64 (x.1.1 : Int), .int .u64 x.1.2]]
theorem getD_in {ps : List (Nat × Int)} {k : Nat} (h : k < ps.length) : ps.getD k (0, 0) ∈ ps := by simp [h]
set_option maxRecDepth 100000 in
set_option maxHeartbeats 2000000 in
theorem values1_in (n l Bs n₀ g cap : Nat) (ps : List (Nat × Int)) (hg : g < n₀) (hl : ps.length ≤ 1000000) (J Jx : List {p : Nat × Int // p ∈ ps} → World → Prop)
    (W : World) (hW : n₀ ≤ W.heap.size) (hJ : AbidesFrom W.heap.size J)
    (hY : ∀ pre x W, J pre W → pre.length < ps.length → YieldAt Fence.wide (n - 1) Tryz.prog l (pcEnc ps x) W fun e W' =>
      (e = .returned (.bool true) ∧ J (pre ++ [x]) W' ∧ Below n₀ W W') ∨ (e = .returned (.bool false) ∧ Jx (pre ++ [x]) W'))
    (hBs : W.cell? ⟨Bs, 0, none⟩ = some (.slice (some ⟨g, 0, none⟩) ps.length cap)) (hc : PCells W g 0 ps) (h0 : J [] W) :
    CallsIn Fence.wide n Tryz.prog 216 #[.func (.yield l) #[] #[], .pointer (some ⟨Bs, 0, none⟩)] W fun e W' => (∃ v, e = .returned v) ∧
      ((∃ ys, ys.map (fun x : {p : Nat × Int // p ∈ ps} => x.1) = ps ∧ J ys W') ∨ (∃ pre, True ∧ Jx pre W')) := by
  refine callsIn_of_wp Tryz.func216 rfl trivial ?_ rfl
  simp only [Tryz.ntmps216, List.size_toArray, List.length_cons, List.length_nil, Nat.reduceAdd, Nat.reduceSub, Array.replicate_succ, Array.replicate_zero, List.push_toArray, List.append_toArray, List.nil_append, List.cons_append]
  gi_wp2
  generalize hn : ps.length = m at *
  have HN := Lib.hid hn
  clear hn
  gi_loopw [7] (fun i wr => ∃ (k : Nat) (pre : List {p : Nat × Int // p ∈ ps}), k ≤ m ∧ i = .int .i64 k ∧ pre.map (fun x : {p : Nat × Int // p ∈ ps} => x.1) = ps.take k ∧ J pre wr ∧ Below n₀ W wr)
    (fun i _ => m - (intOf i).toNat)
  case atStart => exact ⟨0, [], Nat.zero_le _, rfl, rfl, h0, Below.refl _ _⟩
  case round =>
    obtain ⟨k, pre, hk, rfl, hpre, hJs, hnx⟩ := hrel
    have hlen : pre.length = k := by
      have := congrArg List.length hpre
      rw [List.length_map, List.length_take, HN.out] at this
      omega
    by_cases hlt : k < m
    · have hkp : k < ps.length := by rw [HN.out]; exact hlt
      have hgw : g < wr.heap.size := by have := hnx.size; omega
      obtain ⟨d0, d1⟩ := hc k hkp
      rw [Nat.zero_add] at d0 d1
      have c0 := (hnx.cell (p := ⟨g, k * 2, none⟩) hg).trans d0
      have c1 := (hnx.cell (p := ⟨g, k * 2 + 1, none⟩) hg).trans d1
      have hmem := getD_in hkp
      have htk : ps.take (k + 1) = ps.take k ++ [ps.getD k (0, 0)] := by
        rw [List.take_succ_eq_append_getElem hkp]; simp [hkp]
      generalize ps.getD k (0, 0) = p at *
      obtain ⟨p1, p2⟩ := p
      dsimp only at c0 c1 d0 d1
      have hJn : J pre (wr.alloc (.cells #[.int .i64 (p1 : Int), .int .u64 p2] 39)) := hJ pre wr _ none hJs (World.grownBy_alloc wr _ none) (fun r e => by cases e)
      obtain ⟨fn, tmps, assign, body, hy, hR⟩ := hY pre ⟨(p1, p2), hmem⟩ _ hJn (by omega)
      have hbel : Below n₀ W (wr.alloc (.cells #[.int .i64 (p1 : Int), .int .u64 p2] 39)) := hnx.alloc (by have := hnx.size; omega) _
      dsimp only [pcEnc] at hy
      gi_wp2
      refine ⟨fun h => (by cases h), hR.mono ?_⟩
      rintro e W3 (⟨rfl, hJ3, hk3⟩ | ⟨rfl, hJx3⟩)
      · gi_wp2
        go_roundw
        case rel => exact ⟨k + 1, pre ++ [⟨(p1, p2), hmem⟩], by omega, by simp, by rw [List.map_append, hpre, htk]; rfl, hJ3, hbel.trans hk3⟩
        case measure => simp [intOf]; omega
      · gi_wp2
        refine bodyPost_ret (results_none rfl _ _ _) rfl ?_
        exact ⟨⟨_, rfl⟩, .inr ⟨_, trivial, hJx3⟩⟩
    · obtain rfl : k = m := by omega
      gi_wp2
      go_end0
      exact ⟨⟨_, rfl⟩, .inl ⟨pre, by rw [hpre, ← HN.out, List.take_length], hJs⟩⟩
set_option maxRecDepth 100000 in
set_option maxHeartbeats 1000000 in
theorem values1_nil (n l Bs : Nat) (J : List {p : Nat × Int // p ∈ ([] : List (Nat × Int))} → World → Prop) (W : World) (hBs : W.cell? ⟨Bs, 0, none⟩ = some (.slice none 0 0)) (h0 : J [] W) :
    CallsIn Fence.wide n Tryz.prog 216 #[.func (.yield l) #[] #[], .pointer (some ⟨Bs, 0, none⟩)] W fun e W' => (∃ v, e = .returned v) ∧ J [] W' := by
  refine callsIn_of_wp Tryz.func216 rfl trivial ?_ rfl
  simp only [Tryz.ntmps216, List.size_toArray, List.length_cons, List.length_nil, Nat.reduceAdd, Nat.reduceSub, Array.replicate_succ, Array.replicate_zero, List.push_toArray, List.append_toArray, List.nil_append, List.cons_append]
  gi_wp2
  gi_loopw [7] (fun i wr => i = .int .i64 0 ∧ J [] wr) (fun _ _ => 0)
  case atStart => exact ⟨rfl, h0⟩
  case round =>
    obtain ⟨rfl, hJs⟩ := hrel
    gi_wp2
    go_end0
    exact ⟨⟨_, rfl⟩, hJs⟩
theorem Values_c (p : Option Addr) (n c : Nat) (w : World) :
    Calls Tryz.prog 188 #[.slice p n c] w fun e w' => e = .returned (.func (.func 216) #[] #[.pointer (some ⟨w.heap.size, 0, none⟩)]) ∧
      w' = w.alloc (.cells #[.slice p n c] 165) := by
  have hmf : ∀ (fn : Fn) (first cap : Array Value) (w : World), (Instr.makeFunc fn first cap).run Tryz.prog w = .ok (.func fn first cap) w := fun _ _ _ _ => rfl
  go_enter Tryz.func188, Tryz.ntmps188
  go_wp2
  go_ret
  exact ⟨rfl, rfl⟩
theorem values_stops (n Bs n₀ : Nat) (sv : Value) (ps : List (Nat × Int)) (hl : ps.length ≤ 1000000) (w : World) (hBs : Bs < w.heap.size) (hn₀ : n₀ ≤ w.heap.size)
    (hc : w.cell? ⟨Bs, 0, none⟩ = some sv) (hI : PcsAt n₀ w sv ps) :
    SeqStopsK Fence.wide n Tryz.prog 216 #[.pointer (some ⟨Bs, 0, none⟩)] (pcEnc ps) (Below n₀) (fun ys => ys.map (fun x : {p : Nat × Int // p ∈ ps} => x.1) = ps) (fun _ => True) ps.length w := by
  intro l J Jx W hW hJ hJx hY h0
  have hc' := (hW.cell (p := ⟨Bs, 0, none⟩) hBs).trans hc
  have hsz := hW.size
  rcases hI.below (hW.mono hn₀) with ⟨rfl, hp⟩ | ⟨g, cap, rfl, hg, hcs⟩
  · subst hp
    exact (values1_nil n l Bs J W hc' h0).mono fun e W' ⟨he, hj⟩ => ⟨he, .inl ⟨[], rfl, hj⟩⟩
  · exact values1_in n l Bs n₀ g cap ps hg hl J Jx W (by omega) hJ hY hc' hcs h0
end Go.Proofs.YtfhdjekpdifajaaGreat
namespace Go.Proofs.YtfhdjekpdifajaaGreat
set_option linter.unusedVariables false
open Go.RowKit
/-- Element m of a row whose first and last k have changed places. -/
def rvF (ps : List (Nat × Int)) (k m : Nat) : Nat × Int := if m < k ∨ ps.length ≤ m + k then ps.getD (ps.length - 1 - m) (0, 0) else ps.getD m (0, 0)
theorem rvF_zero (ps : List (Nat × Int)) {m : Nat} (h : m < ps.length) : rvF ps 0 m = ps.getD m (0, 0) := by
  unfold rvF; rw [if_neg (by omega)]
theorem rvF_end (ps : List (Nat × Int)) {k m : Nat} (h : m < ps.length) (hk : ps.length ≤ 2 * k + 1) : rvF ps k m = ps.reverse.getD m (0, 0) := by
  have e : ps.reverse.getD m (0, 0) = ps.getD (ps.length - 1 - m) (0, 0) := by
    rw [List.getD_eq_getElem?_getD, List.getD_eq_getElem?_getD, List.getElem?_reverse h]
  rw [e]
  unfold rvF
  by_cases hc : m < k ∨ ps.length ≤ m + k
  · rw [if_pos hc]
  · rw [if_neg hc]
    congr 1
    omega
def CellsF (cur : Array Value) (n : Nat) (f : Nat → Nat × Int) : Prop := ∀ m, m < n → cur[m * 2]? = some (.int .i64 ((f m).1 : Int)) ∧ cur[m * 2 + 1]? = some (.int .u64 (f m).2)
theorem cellsF_swap {cur : Array Value} {ps : List (Nat × Int)} {k j : Nat} (hc : CellsF cur ps.length (rvF ps k)) (hs : ps.length * 2 ≤ cur.size) (hkj : k < j) (hj : j + k + 1 = ps.length) :
    CellsF ((((cur.setIfInBounds (k * 2) (.int .i64 ((rvF ps k j).1 : Int))).setIfInBounds (k * 2 + 1) (.int .u64 (rvF ps k j).2)).setIfInBounds (j * 2) (.int .i64 ((rvF ps k k).1 : Int))).setIfInBounds (j * 2 + 1) (.int .u64 (rvF ps k k).2)) ps.length (rvF ps (k + 1)) := by
  intro m hm
  have e1 : rvF ps k j = ps.getD j (0, 0) := by unfold rvF; rw [if_neg (by omega)]
  have e2 : rvF ps k k = ps.getD k (0, 0) := by unfold rvF; rw [if_neg (by omega)]
  rw [e1, e2]
  obtain ⟨a1, a2⟩ := hc m hm
  by_cases hmk : m = k
  · subst hmk
    have e : rvF ps (m + 1) m = ps.getD j (0, 0) := by unfold rvF; rw [if_pos (by omega)]; congr 1; omega
    rw [e]
    constructor
    · rw [Array.getElem?_setIfInBounds_ne (by omega), Array.getElem?_setIfInBounds_ne (by omega), Array.getElem?_setIfInBounds_ne (by omega), Array.getElem?_setIfInBounds_self_of_lt (by omega)]
    · rw [Array.getElem?_setIfInBounds_ne (by omega), Array.getElem?_setIfInBounds_ne (by omega), Array.getElem?_setIfInBounds_self_of_lt (by rw [Array.size_setIfInBounds]; omega)]
  · by_cases hmj : m = j
    · subst hmj
      have e : rvF ps (k + 1) m = ps.getD k (0, 0) := by unfold rvF; rw [if_pos (by omega)]; congr 1; omega
      rw [e]
      constructor
      · rw [Array.getElem?_setIfInBounds_ne (by omega), Array.getElem?_setIfInBounds_self_of_lt (by simp only [Array.size_setIfInBounds]; omega)]
      · rw [Array.getElem?_setIfInBounds_self_of_lt (by simp only [Array.size_setIfInBounds]; omega)]
    · have e : rvF ps (k + 1) m = rvF ps k m := by
        unfold rvF
        by_cases hc : m < k ∨ ps.length ≤ m + k
        · rw [if_pos hc, if_pos (by omega)]
        · rw [if_neg hc, if_neg (by omega)]
      rw [e]
      constructor
      · rw [Array.getElem?_setIfInBounds_ne (by omega), Array.getElem?_setIfInBounds_ne (by omega), Array.getElem?_setIfInBounds_ne (by omega), Array.getElem?_setIfInBounds_ne (by omega)]; exact a1
      · rw [Array.getElem?_setIfInBounds_ne (by omega), Array.getElem?_setIfInBounds_ne (by omega), Array.getElem?_setIfInBounds_ne (by omega), Array.getElem?_setIfInBounds_ne (by omega)]; exact a2
theorem cellsF_take {cur : Array Value} {n : Nat} {f : Nat → Nat × Int} {ps : List (Nat × Int)} (hc : CellsF cur n f) (hl : ps.length = n) (hf : ∀ m, m < n → f m = ps.getD m (0, 0)) : cur.toList.take (n * 2) = pcV ps := by
  subst hl
  apply List.ext_getElem?
  intro i
  by_cases hi : i < ps.length * 2
  · rw [List.getElem?_take_of_lt hi, Array.getElem?_toList]
    obtain ⟨b1, b2⟩ := hc (i / 2) (by omega)
    obtain ⟨a1, a2⟩ := pcV_at (ps := ps) (k := i / 2) (by omega)
    rw [hf (i / 2) (by omega)] at b1 b2
    by_cases he : i % 2 = 0
    · rw [show i = i / 2 * 2 by omega, b1, a1]
    · rw [show i = i / 2 * 2 + 1 by omega, b2, a2]
  · rw [List.getElem?_eq_none (by rw [List.length_take]; omega), List.getElem?_eq_none (by rw [pcV_len]; omega)]
theorem cellsF_of {cur : Array Value} {ps : List (Nat × Int)} (h : cur.toList.take (ps.length * 2) = pcV ps) : CellsF cur ps.length (rvF ps 0) := by
  intro m hm
  obtain ⟨a1, a2⟩ := pcV_at hm
  rw [← h] at a1 a2
  rw [List.getElem?_take_of_lt (by omega)] at a1 a2
  simp only [Array.getElem?_toList] at a1 a2
  rw [rvF_zero _ hm]
  exact ⟨a1, a2⟩
/-- The world in which a row is being turned round. -/
def RvAt (w : World) (g : Nat) (ps : List (Nat × Int)) (cs k : Nat) (W : World) : Prop :=
  (∃ cur, W.heap[g]? = some (.cells cur 39 (0, 0)) ∧ cur.size = cs ∧ CellsF cur ps.length (rvF ps k)) ∧ Mod (fun b => b = g) w W
theorem rv_next {w W : World} {g : Nat} {ps : List (Nat × Int)} {cs k j : Nat} (h : RvAt w g ps cs k W) (hs : ps.length * 2 ≤ cs) (hkj : k < j) (hj : j + k + 1 = ps.length) {a c : Nat × Int} (ha : rvF ps k j = a) (hc : rvF ps k k = c) :
    RvAt w g ps cs (k + 1) ((((W.setCell ⟨g, k * 2, none⟩ (.int .i64 (a.1 : Int))).setCell ⟨g, k * 2 + 1, none⟩ (.int .u64 a.2)).setCell ⟨g, j * 2, none⟩ (.int .i64 (c.1 : Int))).setCell ⟨g, j * 2 + 1, none⟩ (.int .u64 c.2)).drew := by
  subst ha hc
  obtain ⟨⟨cur, h1, h2, h3⟩, hm⟩ := h
  have q := setCell_same (setCell_same (setCell_same (setCell_same h1 (k * 2) (.int .i64 ((rvF ps k j).1 : Int))) (k * 2 + 1) (.int .u64 (rvF ps k j).2)) (j * 2) (.int .i64 ((rvF ps k k).1 : Int))) (j * 2 + 1) (.int .u64 (rvF ps k k).2)
  refine ⟨⟨_, q, by simp only [Array.size_setIfInBounds]; exact h2, cellsF_swap h3 (by omega) hkj hj⟩, ?_⟩
  exact ((((hm.trans (mod_set _ _ _ _)).trans (mod_set _ _ _ _)).trans (mod_set _ _ _ _)).trans (mod_set _ _ _ _)).trans ((Ext.refl _).drewR.mod _)
def RevPost (w : World) (v : Value) (base : Nat) (ps : List (Nat × Int)) (e : Ending) (w' : World) : Prop :=
  e = .returned (.tuple #[]) ∧ w'.ownsRow base 39 2 v ps.length (pcV ps.reverse) ∧ Mod (fun k => v.ownBlock = some k) w w'
set_option maxRecDepth 20000 in
set_option maxHeartbeats 4000000 in
theorem Reverse_c (ps : List (Nat × Int)) (v : Value) (base : Nat) (w : World) (h : w.ownsRow base 39 2 v ps.length (pcV ps)) (hl : ps.length ≤ 1000000) :
    Calls Tryz.prog 215 #[v] w (RevPost w v base ps) := by
  rcases h.2 with ⟨rfl, h0⟩ | ⟨g, cap, cur, rfl, hb, hh, hnc, hcm, hcs, htk⟩
  · have e : ps = [] := List.length_eq_zero_iff.1 h0
    subst e
    have h' := h
    clear h h0
    go_enter Tryz.func215, Tryz.ntmps215
    go_wp2
    go_loopw [2, 3] (fun i j wr => i = .int .i64 0 ∧ j = .int .i64 (-1) ∧ wr = w) (fun _ _ _ => 0)
    case atStart => exact ⟨rfl, rfl, rfl⟩
    case round =>
      obtain ⟨rfl, rfl, rfl⟩ := hrel
      go_wp2
      go_end0
      exact ⟨rfl, h', Mod.refl _ _⟩
  · have hr0 : RvAt w g ps (cap * 2) 0 w := ⟨⟨cur, hh, hcs, cellsF_of htk⟩, Mod.refl _ _⟩
    have HR0 := Lib.hid hr0
    have hcap := hcm
    unfold maxLen at hcap
    clear h hr0 htk hh hcs
    generalize hn : ps.length = n at *
    have HN := Lib.hid hn
    clear hn
    go_enter Tryz.func215, Tryz.ntmps215
    go_wp2
    go_loopw [2, 3] (fun i j wr => ∃ (k : Nat) (z : Int), z + k + 1 = n ∧ 2 * k ≤ n ∧ i = .int .i64 k ∧ j = .int .i64 z ∧ RvAt w g ps (cap * 2) k wr) (fun i _ _ => n - (intOf i).toNat)
    case atStart => exact ⟨0, (n : Int) - 1, by omega, by omega, rfl, rfl, HR0.out⟩
    case round =>
      obtain ⟨k, z, hz, hk2, rfl, rfl, hR⟩ := hrel
      by_cases hlt : (k : Int) < z
      · obtain ⟨j, rfl⟩ : ∃ j : Nat, z = j := ⟨z.toNat, by omega⟩
        obtain ⟨cur', hh, hcs, hcf⟩ := hR.1
        have hgl : g < wr.heap.size := lt_of hh
        obtain ⟨k0, k1⟩ := hcf k (by rw [HN.out]; omega)
        obtain ⟨j0, j1⟩ := hcf j (by rw [HN.out]; omega)
        rw [← cell_of hh] at k0 k1 j0 j1
        have fz := fun o => frozen_of hh o
        have HH := Lib.hid hh
        have HR := Lib.hid hR
        clear hR hh hcs hcf
        generalize hvk : rvF ps k k = vk at *
        generalize hvj : rvF ps k j = vj at *
        have HV := Lib.hid (And.intro hvk hvj)
        clear hvk hvj
        obtain ⟨vk1, vk2⟩ := vk
        obtain ⟨vj1, vj2⟩ := vj
        dsimp only at k0 k1 j0 j1
        go_wp2_with fail
        have hC0 := af_drew wr
        refine pi_start (fun w' => ∃ x : After wr, w' = x.w) [13, 15] (by kernel_rfl) ?_
        refine pi_t 0 rfl (by kernel_rfl) (by kernel_rfl) (fun _ _ _ _ h => h) (fun K hK => ?_)
        go_big_quiet_op
        refine hK _ ?_
        clear hK K
        refine pi_t 1 rfl (by kernel_rfl) (by kernel_rfl) (fun _ _ _ _ h => h) (fun K hK => ?_)
        go_big_quiet_op
        refine hK _ ?_
        clear hK K
        refine pi_t 2 rfl (by kernel_rfl) (by kernel_rfl) (fun _ _ _ _ h => h) (fun K hK => ?_)
        go_big_quiet_op
        refine hK _ ?_
        clear hK K
        refine pi_t 3 rfl (by kernel_rfl) (by kernel_rfl) (fun _ _ _ _ h => h) (fun K hK => ?_)
        go_big_quiet_op
        refine hK _ ?_
        clear hK K
        refine pi_t 4 rfl (by kernel_rfl) (by kernel_rfl) (fun _ _ _ _ h => h) (fun K hK => ?_)
        go_big_quiet_op
        refine hK _ ?_
        clear hK K
        refine pi_t 5 rfl (by kernel_rfl) (by kernel_rfl) (fun _ _ _ _ h => h) (fun K hK => ?_)
        go_big_quiet_op
        refine hK _ ?_
        clear hK K
        refine pi_t 6 rfl (by kernel_rfl) (by kernel_rfl) (fun _ _ _ _ h => h) (fun K hK => ?_)
        go_big_quiet_op
        refine hK _ ?_
        clear hK K
        refine pi_t 8 rfl (by kernel_rfl) (by kernel_rfl) (fun _ _ _ _ h => h) (fun K hK => ?_)
        go_big_quiet_op
        refine hK _ ?_
        clear hK K
        refine pi_t 9 rfl (by kernel_rfl) (by kernel_rfl) (fun _ _ _ _ h => h) (fun K hK => ?_)
        go_big_quiet_op
        refine hK _ ?_
        clear hK K
        refine pi_t 10 rfl (by kernel_rfl) (by kernel_rfl) (fun _ _ _ _ h => h) (fun K hK => ?_)
        go_big_quiet_op
        refine hK _ ?_
        clear hK K
        refine pi_c 7 (by assumption) rfl (by kernel_rfl) (by kernel_rfl) (fun _ _ _ _ h => h) (fun K hK => ?_)
        go_big_quiet_op
        refine hK _ ?_
        clear hK K
        refine pi_c 11 (by assumption) rfl (by kernel_rfl) (by kernel_rfl) (fun _ _ _ _ h => h) (fun K hK => ?_)
        go_big_quiet_op
        refine hK _ ?_
        clear hK K
        refine pi_t 12 rfl (by kernel_rfl) (by kernel_rfl) (fun _ _ _ _ h => h) (fun K hK => ?_)
        go_big_quiet_op
        refine hK _ ?_
        clear hK K
        refine pi_l 13 rfl (by kernel_rfl) (fun K hK => ?_)
        go_wp2
        refine hK _ _ (by simp) ?_
        clear hK K
        refine pi_t 14 rfl (by kernel_rfl) (by kernel_rfl) (fun _ _ _ _ h => h) (fun K hK => ?_)
        go_big_quiet_op
        refine hK _ ?_
        clear hK K
        refine pi_l 15 rfl (by kernel_rfl) (fun K hK => ?_)
        go_wp2
        refine hK _ _ (by simp) ?_
        clear hK K
        refine pi_end (by kernel_rfl) ?_
        go_wp2_with fail
        go_roundw
        case rel =>
          have hN := rv_next (a := (vj1, vj2)) (c := (vk1, vk2)) HR.out (by rw [HN.out]; omega) (by omega) (by rw [HN.out]; omega) HV.out.2 HV.out.1
          exact ⟨k + 1, (j : Int) - 1, by omega, by omega, by go_num, by go_num, hN⟩
        case measure => simp [intOf]; omega
      · have hk3 : n ≤ 2 * k + 1 := by omega
        obtain ⟨⟨cur', h1, h2, h3⟩, hm⟩ := hR
        have hfin : wr.ownsRow base 39 2 (.slice (some ⟨g, 0, none⟩) n cap) n (pcV ps.reverse) :=
          ⟨by rw [pcV_len, List.length_reverse, HN.out], .inr ⟨g, cap, cur', rfl, hb, h1, hnc, hcm, h2, by rw [← HN.out]; exact cellsF_take h3 (List.length_reverse) (fun m hm => rvF_end ps hm (by rw [HN.out]; exact hk3))⟩⟩
        go_wp2
        go_end0
        exact ⟨rfl, by rw [HN.out]; exact hfin, hm.mono (fun k hk _ => by rw [hk]; rfl)⟩
end Go.Proofs.YtfhdjekpdifajaaGreat
namespace Go.Proofs.YtfhdjekpdifajaaGreat
set_option linter.unusedVariables false
open Go.RowKit
attribute [local go_sem] Oper.semAt_some
def KUpdPost (w : World) (s g : Nat) (C : Cfg) (B : Nat) (L : Nat → Lev) (ls : Nat → List Int) (key d : Int) (e : Ending) (w' : World) : Prop :=
  e = .returned (.int .i64 (errK C B ls key d)) ∧ KAt w' s g C B L (bif decide (errK C B ls key d = 0) then updK C ls key d else ls) ∧ Mod (cellsOf B L) w w'
set_option maxRecDepth 100000 in
set_option maxHeartbeats 4000000 in
theorem KUpdate_c (s g : Nat) (C : Cfg) (B : Nat) (L : Nat → Lev) (ls : Nat → List Int) (key d : Int) (w : World) (h : KAt w s g C B L ls) (hd : I64 d) (hk : U64 key) :
    Calls Tryz.prog 26 #[.pointer (some ⟨s, 0, none⟩), .int .u64 key, .int .i64 d] w (KUpdPost w s g C B L ls key d) := by
  have hok := h.ok
  have hlt := h.lts
  have hltg := h.ltg
  obtain ⟨cap, hex, hcap⟩ := h.ex
  have c0 := (cell_of hex 0).trans rfl
  have c1 := (cell_of hex 1).trans rfl
  have c2 := (cell_of hex 2).trans rfl
  have c3 := (cell_of hex 3).trans rfl
  have c4 := (cell_of hex 4).trans rfl
  have hb2 : C.bits ≤ 59 := hok.b2
  have hb1 : 1 ≤ C.bits := hok.b1
  have HE := Lib.hid hex
  have HH := Lib.hid h
  clear h hex
  refine (callsIn_wide (n := 5)).1 ?_
  refine callsIn_of_wp_marks Tryz.func26 rfl trivial ?_ rfl
  simp only [Tryz.ntmps26, List.size_toArray, List.length_cons, List.length_nil, Nat.reduceAdd, Nat.reduceSub, Array.replicate_succ, Array.replicate_zero, List.push_toArray, List.append_toArray, List.nil_append, List.cons_append]
  gi_wp2_with fail
  refine ⟨trivial, (callsIn_wide.2 (Keys_c C hok 0 (Int.le_refl 0) (by omega) _)).mono ?_⟩
  rintro e w1 ⟨rfl, hx1⟩
  have hE1 : Ext w w1 := (Ext.alloc' w _).trans' hx1
  have h1 := HH.out.ext hE1
  have db := hx1.keep (heap_at w (.cells #[.int .i64 d] 2) rfl)
  have hls := h1.lts
  by_cases hkey : keys C 0 ≤ key
  · have e1 : errK C B ls key d = 2 := by unfold errK; rw [decide_eq_true hkey]; rfl
    have hge : decide (keys C 0 ≤ key) = true := decide_eq_true hkey
    gi_wp2
    exact ⟨_, results_tmp rfl _ _ _, by rw [e1]; rfl, by rw [e1]; exact h1, hE1.mod _⟩
  · have hge : decide (keys C 0 ≤ key) = false := decide_eq_false hkey
    gi_wp2_with fail
    refine ⟨trivial, (callsIn_wide.2 (Kat_c s key _)).mono ?_⟩
    rintro e w2 ⟨rfl, rfl⟩
    gi_wp2
    obtain ⟨W0, hW0⟩ : ∃ W0, ((w1.alloc (.cells #[.int .i64 0] 29)).alloc (.cells #[.pointer (some ⟨s, 0, none⟩)] 28)).alloc (.cells #[.int .u64 key] 22) = W0 := ⟨_, rfl⟩
    have hsz : W0.heap.size = w1.heap.size + 3 := by rw [← hW0]; simp
    have hEW : Ext w1 W0 := by rw [← hW0]; exact ((Ext.alloc' _ _).allocR _).allocR _
    have hb0 : W0.heap[w1.heap.size]? = some (.cells #[.int .i64 0] 29 (0, 0)) := by rw [← hW0, heap_old _ _ (by simp; omega), heap_old _ _ (by simp)]; exact heap_at _ _ rfl
    have hb1' : W0.heap[w1.heap.size + 1]? = some (.cells #[.pointer (some ⟨s, 0, none⟩)] 28 (0, 0)) := by rw [← hW0, heap_old _ _ (by simp)]; exact heap_at _ _ (size_alloc _ _).symm
    have hb2' : W0.heap[w1.heap.size + 2]? = some (.cells #[.int .u64 key] 22 (0, 0)) := by rw [← hW0]; exact heap_at _ _ (by simp)
    rw [hW0]
    have h2 := h1.ext hEW
    obtain ⟨cap2, hex2, hcap2⟩ := h2.ex
    have H2 := Lib.hid h2
    have hBd : B ≤ 59 := by have := hok.b2; have := h2.hB; omega
    refine wpIn_rangeFunc_ownF rfl (by decide) (gf := 147) (lb := #[.pointer (some ⟨w1.heap.size + 1, 0, none⟩), .pointer (some ⟨w1.heap.size + 1 + 1, 0, none⟩)]) rfl trivial (enters_of Tryz.func147 (by kernel_rfl) rfl)
      (kat1_stops 4 (w1.heap.size + 1) (w1.heap.size + 2) W0.heap.size s g cap2 (fun k => k = w1.heap.size) C L B key hk hBd (by omega) (by omega) h2.lts h2.ltg (by omega) (by omega) (by omega) (by have := h1.ltg; omega) W0 (Nat.le_refl _)
        ((cell_of hb1' 0).trans rfl) ((cell_of hb2' 0).trans rfl) ((cell_of hex2 5).trans rfl) (fun n hn => h2.cell hn)) KpS.t (fun W l o o' hl ho hc hw => KpS.b (Nat.le_refl _) W l o o' hl ho hc hw) (Below.refl _ _) (fun _ => rfl)
      (fun pre W => W.heap[w1.heap.size]? = some (.cells #[.int .i64 (errF C ls key d (vals pre))] 29 (0, 0)) ∧ Mod (fun k => k = w1.heap.size) W0 W)
      (fun _ _ _ => False)
      (OwnFrom.and (ownFrom_box (by omega) _) (ownFrom_mod (Nat.le_refl _)))
      (fun _ _ _ _ _ hs _ _ => hs)
      ⟨hb0, Mod.refl _ _⟩
      (fun x => { tmps := #[.pointer (some ⟨s, 0, none⟩), .int .u64 key, .int .i64 d, undef, undef, .pointer (some ⟨w.heap.size, 0, none⟩), .int .i64 0, .pointer (some ⟨w1.heap.size, 0, none⟩), lvV C x.1 (L x.1), .int .u64 (sh x.1 key), undef, undef, .int .u64 key, .pointer (some ⟨s, 0, none⟩), .pointer (some ⟨s, 0, none⟩), .pointer (some ⟨s, 0, none⟩), .agg #[.int .i64 C.bits, .int .i64 C.rows, .int .i64 C.width, .int .i64 C.mode, .int .u64 C.seed], .int .u64 (keys C 0), .bool false, .pointer (some ⟨s, 0, none⟩), .int .u64 key, .func (.func 147) #[] #[.pointer (some ⟨w1.heap.size + 1, 0, none⟩), .pointer (some ⟨w1.heap.size + 1 + 1, 0, none⟩)], lvV C x.1 (L x.1), .int .u64 (sh x.1 key), undef, undef, undef, undef, undef, undef, undef, undef, undef, undef, undef, undef, undef, undef, undef, undef, undef, undef, undef], defers := [] }) ?assign ?body ?done ?stop
    case assign =>
      intro l x W K hK
      dsimp only [lvEnc]
      gi_wp2
      exact hK
    case body =>
      rintro l pre x W ⟨hbad, hM0⟩ hlen
      have hM := mod_new hEW hM0 (Nat.le_refl _)
      have hxn := x.2
      have h3 := h1.keepN h1.low (fun k hk _ => hM.block k hk (fun h => h))
      have hLx := h3.lev x.1 x.2
      have hbc := (cell_of hbad 0).trans rfl
      have hdW := hM.keep db (fun h => h)
      have hdc := (cell_of hdW 0).trans rfl
      have hbl := lt_of hbad
      have hdl := lt_of hdW
      have hkx := sh_u64 hk x.1
      gi_wp2
      cases hx : isX C x.1 with
      | true =>
        have hA := (hLx.x hx).ext (Below.drew (Ext.refl W))
        have HX := Lib.hid hx
        rw [lvV_x hx]
        clear hx
        refine pi_startR (fun w' => ∃ x : After W, w' = x.w) [7] (by kernel_rfl) (fun ⟨_, _, hh⟩ => hh) (by kernel_rfl) ?_
        have hC0 := af_drew W
        refine pi_c 0 (by assumption) rfl (by kernel_rfl) (by kernel_rfl) (fun _ _ _ _ h => h) (fun K hK => ?_)
        go_big_quiet_op
        refine hK _ ?_
        clear hK K
        refine pi_t 1 rfl (by kernel_rfl) (by kernel_rfl) (fun _ _ _ _ h => h) (fun K hK => ?_)
        go_big_quiet_op
        refine hK _ ?_
        clear hK K
        refine pi_t 2 rfl (by kernel_rfl) (by kernel_rfl) (fun _ _ _ _ h => h) (fun K hK => ?_)
        go_big_quiet_op
        refine hK _ ?_
        clear hK K
        refine pi_c 3 (by assumption) rfl (by kernel_rfl) (by kernel_rfl) (fun _ _ _ _ h => h) (fun K hK => ?_)
        go_big_quiet_op
        refine hK _ ?_
        clear hK K
        refine pi_l 4 rfl (by kernel_rfl) (fun K hK => ?_)
        go_wp2_with fail
        refine (ECheck_c _ _ _ C _ _ _ (sh x.1 key) d _ hA hd hkx).mono ?_
        rintro e w3 ⟨rfl, hx3⟩
        have hb3 := hx3.keep (show W.drew.heap[w1.heap.size]? = _ from hbad)
        have hbc3 := (cell_of hb3 0).trans rfl
        have hbl3 := lt_of hb3
        have hbf3 := frozen_of hb3 0
        go_wp2
        refine hK _ _ (fun _ h => af_step h hx3) ?_
        clear hK K
        refine pi_l 5 rfl (by kernel_rfl) (fun K hK => ?_)
        go_wp2
        refine hK _ _ (fun _ h => af_step h (Ext.alloc' _ _)) ?_
        clear hK K
        refine pi_l 6 rfl (by kernel_rfl) (fun K hK => ?_)
        go_wp2_with fail
        refine (first_c w3.heap.size 2 (errF C ls key d (vals pre)) (errX C x.1 (ls x.1) (sh x.1 key) d) _ ((cell_of (heap_at w3 _ rfl) 0).trans rfl) ((cell_of (heap_at w3 _ rfl) 1).trans rfl)).mono ?_
        rintro e w4 ⟨rfl, rfl⟩
        go_wp2
        refine hK _ _ (fun _ h => h) ?_
        clear hK K
        refine pi_l 7 rfl (by kernel_rfl) (fun K hK => ?_)
        go_wp2
        refine hK _ _ (by simp) ?_
        clear hK K
        refine pi_end (by kernel_rfl) ?_
        obtain ⟨r1, r2, r3, r4⟩ := chk_round (v := .int .i64 (fst_ (errF C ls key d (vals pre)) (errX C x.1 (ls x.1) (sh x.1 key) d))) (o := .cells #[.int .i64 (errF C ls key d (vals pre)), .int .i64 (errX C x.1 (ls x.1) (sh x.1 key) d)] 29) hbad (Ext.trans' (Below.drew (Ext.refl W)) hx3) hM0
        exact ⟨r1, r2, by rw [vals_snoc, errF_snoc, lvE_x HX.out]; exact r3, r4⟩
      | false =>
        have hA := (hLx.sk hx).ext (Below.drew (Ext.refl W))
        have HX := Lib.hid hx
        rw [lvV_s hx]
        clear hx
        refine pi_startR (fun w' => ∃ x : After W, w' = x.w) [7] (by kernel_rfl) (fun ⟨_, _, hh⟩ => hh) (by kernel_rfl) ?_
        have hC0 := af_drew W
        refine pi_c 0 (by assumption) rfl (by kernel_rfl) (by kernel_rfl) (fun _ _ _ _ h => h) (fun K hK => ?_)
        go_big_quiet_op
        refine hK _ ?_
        clear hK K
        refine pi_t 1 rfl (by kernel_rfl) (by kernel_rfl) (fun _ _ _ _ h => h) (fun K hK => ?_)
        go_big_quiet_op
        refine hK _ ?_
        clear hK K
        refine pi_t 2 rfl (by kernel_rfl) (by kernel_rfl) (fun _ _ _ _ h => h) (fun K hK => ?_)
        go_big_quiet_op
        refine hK _ ?_
        clear hK K
        refine pi_c 3 (by assumption) rfl (by kernel_rfl) (by kernel_rfl) (fun _ _ _ _ h => h) (fun K hK => ?_)
        go_big_quiet_op
        refine hK _ ?_
        clear hK K
        refine pi_l 4 rfl (by kernel_rfl) (fun K hK => ?_)
        go_wp2_with fail
        refine (Check_c _ _ _ C _ _ _ _ (sh x.1 key) d _ hA hd hkx.1).mono ?_
        rintro e w3 ⟨rfl, hx3⟩
        have hb3 := hx3.keep (show W.drew.heap[w1.heap.size]? = _ from hbad)
        have hbc3 := (cell_of hb3 0).trans rfl
        have hbl3 := lt_of hb3
        have hbf3 := frozen_of hb3 0
        go_wp2
        refine hK _ _ (fun _ h => af_step h hx3) ?_
        clear hK K
        refine pi_l 5 rfl (by kernel_rfl) (fun K hK => ?_)
        go_wp2
        refine hK _ _ (fun _ h => af_step h (Ext.alloc' _ _)) ?_
        clear hK K
        refine pi_l 6 rfl (by kernel_rfl) (fun K hK => ?_)
        go_wp2_with fail
        refine (first_c w3.heap.size 2 (errF C ls key d (vals pre)) (errU C x.1 (rN C) (wN C) (ls x.1) (sh x.1 key) d) _ ((cell_of (heap_at w3 _ rfl) 0).trans rfl) ((cell_of (heap_at w3 _ rfl) 1).trans rfl)).mono ?_
        rintro e w4 ⟨rfl, rfl⟩
        go_wp2
        refine hK _ _ (fun _ h => h) ?_
        clear hK K
        refine pi_l 7 rfl (by kernel_rfl) (fun K hK => ?_)
        go_wp2
        refine hK _ _ (by simp) ?_
        clear hK K
        refine pi_end (by kernel_rfl) ?_
        obtain ⟨r1, r2, r3, r4⟩ := chk_round (v := .int .i64 (fst_ (errF C ls key d (vals pre)) (errU C x.1 (rN C) (wN C) (ls x.1) (sh x.1 key) d))) (o := .cells #[.int .i64 (errF C ls key d (vals pre)), .int .i64 (errU C x.1 (rN C) (wN C) (ls x.1) (sh x.1 key) d)] 29) hbad (Ext.trans' (Below.drew (Ext.refl W)) hx3) hM0
        exact ⟨r1, r2, by rw [vals_snoc, errF_snoc, lvE_s HX.out]; exact r3, r4⟩
    case done =>
      rintro D xs W hD hxs ⟨hbad, hM0⟩ hdef
      have hM := mod_new hEW hM0 (Nat.le_refl _)
      have hz : errF C ls key d (vals xs) = errs C ls key d (B + 1) := by unfold vals; rw [hxs, errF_range]
      rw [hz] at hbad
      have hek : errK C B ls key d = errs C ls key d (B + 1) := by unfold errK; rw [hge]; rfl
      have h3 := h1.keepN h1.low (fun k hk _ => hM.block k hk (fun h => h))
      have hbc := (cell_of hbad 0).trans rfl
      have hdW := hM.keep db (fun h => h)
      have hdc := (cell_of hdW 0).trans rfl
      have hbl := lt_of hbad
      have hdl := lt_of hdW
      have HZ := Lib.hid hek
      have HXS := Lib.hid hz
      clear hek hz hxs
      by_cases hzz : errs C ls key d (B + 1) = 0
      · gi_wp2_with fail
        refine ⟨trivial, (callsIn_wide.2 (Kat_c s key _)).mono ?_⟩
        rintro e w2 ⟨rfl, rfl⟩
        gi_wp2
        obtain ⟨W2, hW2⟩ : ∃ W2, (W.alloc (.cells #[.pointer (some ⟨s, 0, none⟩)] 28)).alloc (.cells #[.int .u64 key] 22) = W2 := ⟨_, rfl⟩
        have hsz2 : W2.heap.size = W.heap.size + 2 := by rw [← hW2]; simp
        have hEW2 : Ext W W2 := by rw [← hW2]; exact (Ext.alloc' _ _).allocR _
        have hb1' : W2.heap[W.heap.size]? = some (.cells #[.pointer (some ⟨s, 0, none⟩)] 28 (0, 0)) := by rw [← hW2, heap_old _ _ (by simp)]; exact heap_at _ _ rfl
        have hb2' : W2.heap[W.heap.size + 1]? = some (.cells #[.int .u64 key] 22 (0, 0)) := by rw [← hW2]; exact heap_at _ _ (size_alloc _ _).symm
        have hdef2 := hEW2.keep hdef
        have hd2 := hEW2.keep hdW
        rw [hW2]
        have h4 := h3.ext hEW2
        obtain ⟨cap4, hex4, hcap4⟩ := h4.ex
        have hall : ∀ n, n ≤ B → lvE C n (ls n) (sh n key) d = 0 := fun n hn => errs_zero.1 hzz n (by omega)
        have hlt3 : ∀ k, cellsOf B L k → k < W.heap.size := fun k hk => h3.ltc hk
        have hlt0 : ∀ k, cellsOf B L k → k < w.heap.size := fun k hk => HH.out.ltc hk
        have hWl := hM.size
        have hDl := lt_of hdef
        refine wpIn_rangeFunc_ownF rfl (by decide) (gf := 147) (lb := #[.pointer (some ⟨W.heap.size, 0, none⟩), .pointer (some ⟨W.heap.size + 1, 0, none⟩)]) rfl trivial (enters_of Tryz.func147 (by kernel_rfl) rfl)
          (kat1_stops 4 W.heap.size (W.heap.size + 1) W2.heap.size s g cap4 (cellsOf B L) C L B key hk hBd (by omega) (by omega) h4.lts h4.ltg (fun h => absurd (hlt3 _ h) (by omega)) (fun h => absurd (hlt3 _ h) (by omega)) h3.nots h3.notg W2 (Nat.le_refl _)
            ((cell_of hb1' 0).trans rfl) ((cell_of hb2' 0).trans rfl) ((cell_of hex4 5).trans rfl) (fun n hn => h4.cell hn)) KpS.t (fun W l o o' hl ho hc hw => KpS.b (Nat.le_refl _) W l o o' hl ho hc hw) (Below.refl _ _) (fun _ => rfl)
          (fun pre W' => W'.heap[D]? = some (.deferred (some [])) ∧ (∃ ls', KAt W' s g C B L ls' ∧ ((vals pre).Nodup → ∀ n, ls' n = partK C ls key d (vals pre) n)) ∧ Mod (cellsOf B L) W2 W')
          (fun _ _ _ => False)
          (OwnFrom.and (ownFrom_box (by omega) (fun _ => _)) (OwnFrom.and (fun pre W' W'' row hs hg hr => by obtain ⟨ls', h, hp⟩ := hs; exact ⟨ls', h.keepN h4.low (fun k hk hN => grown_low hg (fun r e => (hr r e).1) hk hN), hp⟩) (ownFrom_mod (Nat.le_refl _))))
          (fun _ _ _ _ _ hs _ _ => hs)
          ⟨hdef2, ⟨ls, h4, fun _ n => rfl⟩, Mod.refl _ _⟩
          (fun x => { tmps := #[.pointer (some ⟨s, 0, none⟩), .int .u64 key, .int .i64 d, undef, undef, .pointer (some ⟨w.heap.size, 0, none⟩), .int .i64 0, .pointer (some ⟨w1.heap.size, 0, none⟩), undef, undef, lvV C x.1 (L x.1), .int .u64 (sh x.1 key), .int .u64 key, .pointer (some ⟨s, 0, none⟩), .pointer (some ⟨s, 0, none⟩), .pointer (some ⟨s, 0, none⟩), .agg #[.int .i64 C.bits, .int .i64 C.rows, .int .i64 C.width, .int .i64 C.mode, .int .u64 C.seed], .int .u64 (keys C 0), .bool false, .pointer (some ⟨s, 0, none⟩), .int .u64 key, .func (.func 147) #[] #[.pointer (some ⟨w1.heap.size + 1, 0, none⟩), .pointer (some ⟨w1.heap.size + 1 + 1, 0, none⟩)], undef, undef, undef, undef, undef, undef, undef, undef, undef, .int .i64 0, .bool false, undef, .pointer (some ⟨s, 0, none⟩), .int .u64 key, .func (.func 147) #[] #[.pointer (some ⟨W.heap.size, 0, none⟩), .pointer (some ⟨W.heap.size + 1, 0, none⟩)], lvV C x.1 (L x.1), .int .u64 (sh x.1 key), undef, undef, undef, undef], defers := [] }) ?assign2 ?body2 ?done2 ?stop2
        case assign2 =>
          intro l x W K hK
          dsimp only [lvEnc]
          gi_wp2
          exact hK
        case body2 =>
          rintro l pre x V ⟨hD5, ⟨ls', h5, hp5⟩, hM5⟩ hlen
          have hd5 := hM5.keep hd2 (fun h => absurd (hlt0 _ h) (by omega))
          have hdc5 := (cell_of hd5 0).trans rfl
          have hdl5 := lt_of hd5
          have hkx := sh_u64 hk x.1
          have hLx := h5.lev x.1 x.2
          have fin := fun w3 hres => upd_round (w3 := w3) (x := x) h5 hp5 hM5 hD5 hall hres
          cases hx : isX C x.1 with
          | true =>
            have hA := hLx.x hx
            have HX := Lib.hid hx
            rw [lvV_x hx]
            clear hx
            refine wpIn_block ?_
            refine region_plainR (fun ⟨_, _, hh⟩ => hh) (by kernel_rfl) ?_
            go_wp2_with fail
            refine Calls.mono (EUpdate_c _ _ _ C _ _ _ (sh x.1 key) d _ hA hd hkx) ?_
            rintro e w3 ⟨rfl, hres⟩
            gi_wp2
            rw [← lvE_x HX.out, ← lvU_x HX.out] at hres
            exact fin w3 (hres.imp (fun ⟨a, b, c⟩ => ⟨a, .inl ⟨HX.out, b⟩, c⟩) (fun h => h))
          | false =>
            have hA := hLx.sk hx
            have HX := Lib.hid hx
            rw [lvV_s hx]
            clear hx
            refine wpIn_block ?_
            refine region_plainR (fun ⟨_, _, hh⟩ => hh) (by kernel_rfl) ?_
            go_wp2_with fail
            refine Calls.mono (Update_c _ _ _ C _ _ _ _ (sh x.1 key) d _ hA hd hkx.1) ?_
            rintro e w3 ⟨rfl, hres⟩
            gi_wp2
            rw [← lvE_s HX.out, ← lvU_s HX.out] at hres
            exact fin w3 (hres.imp (fun ⟨a, b, c⟩ => ⟨a, .inr ⟨HX.out, b⟩, c⟩) (fun h => h))
        case done2 =>
          rintro D2 ys V hD2 hys ⟨hD5, ⟨ls', h5, hp5⟩, hM5⟩ hdef5
          gi_wp2
          have hne : D ≠ D2 := by omega
          refine ⟨by simp, .inl ⟨_, _, rfl, run_takeDeferred hdef5, ⟨by simp, .inl ⟨_, _, rfl, run_takeDeferred ((World.putObj_heap_other hne).trans hD5), ?_⟩⟩⟩⟩
          have hq : Mod (cellsOf B L) w V := (((hE1.mod _).trans (hM.mono (fun _ h _ => h.elim))).trans (hEW2.mod _)).trans hM5
          have hwl := hE1.size
          refine ⟨_, results_tmp rfl _ _ _, by rw [HZ.out, hzz]; rfl, ?_, mod_putD (mod_putD hq (by omega)) (by omega)⟩
          rw [HZ.out, hzz]
          refine KAt.cong (ls := ls') ?_ (part_end hys hp5)
          exact h5.keepN HH.out.low (fun k _ hN => (World.putObj_heap_other (by omega)).trans (World.putObj_heap_other (by omega)))
        case stop2 =>
          rintro D2 c pre V hD2 _ hh _
          exact hh.elim
      · gi_wp2
        refine ⟨by simp, .inl ⟨_, _, rfl, run_takeDeferred hdef, ?_⟩⟩
        have hp : Mod (fun _ => False) w1 (W.putObj D (.deferred none)) := mod_putD hM (by omega)
        refine ⟨_, results_tmp rfl _ _ _, by rw [HZ.out]; rfl, ?_, (hE1.mod _).trans (hp.mono (fun _ h _ => h.elim))⟩
        rw [HZ.out, decide_eq_false hzz]
        exact h1.keepN h1.low (fun k hk _ => hp.block k hk (fun h => h))
    case stop =>
      rintro D c pre W hD _ hh _
      exact hh.elim
end Go.Proofs.YtfhdjekpdifajaaGreat
namespace Go.Proofs.YtfhdjekpdifajaaGreat
set_option linter.unusedVariables false
open Go.RowKit
theorem zs_bnd (n : Nat) : Bnd 0 (zs n) := by
  intro x hx
  simp only [zs, List.mem_replicate] at hx
  omega
theorem lvE_ok {C : Cfg} {lv : Int} {l : List Int} {key d B T : Int} (h : Bnd B l) (hB : 0 ≤ B) (hT : 0 ≤ T) (hd : -T ≤ d ∧ d ≤ T) (hs : B + T ≤ 4611686018427387904) (hk : key < keys C lv) (hm : C.mode = 2 → 0 ≤ d) : lvE C lv l key d = 0 := by
  cases hx : isX C lv with
  | false => rw [lvE_s hx]; exact upd_ok h hB hT hd hs hk hm
  | true =>
    rw [lvE_x hx, errX_sum hk (fun hh => by have := hm hh.1; omega)]
    have h2 := h.getD hB key.toNat
    rw [fitB_yes (by unfold I64; omega)]
    rfl
theorem lvU_bnd {C : Cfg} {lv : Int} {l : List Int} {key d B T : Int} (h : Bnd B l) (hB : 0 ≤ B) (hT : 0 ≤ T) (hd : -T ≤ d ∧ d ≤ T) : Bnd (B + T) (lvU C lv l key d) := by
  cases hx : isX C lv with
  | false => rw [lvU_s hx]; exact upd_bnd h hB hT hd
  | true =>
    rw [lvU_x hx]
    intro x hx
    unfold updX at hx
    rcases List.mem_or_eq_of_mem_set hx with h1 | rfl
    · have := h x h1; omega
    · have h2 := h.getD hB key.toNat; omega
theorem updK_bnd {C : Cfg} {ls : Nat → List Int} {key d B' T : Int} {n : Nat} (h : Bnd B' (ls n)) (hB : 0 ≤ B') (hT : 0 ≤ T) (hd : -T ≤ d ∧ d ≤ T) : Bnd (B' + T) (updK C ls key d n) := lvU_bnd h hB hT hd
theorem errK_ok {C : Cfg} (hok : C.Ok) {B : Nat} (hBb : C.bits = B) {ls : Nat → List Int} {key d B' T : Int} (h : ∀ n, n ≤ B → Bnd B' (ls n)) (hB : 0 ≤ B') (hT : 0 ≤ T) (hd : -T ≤ d ∧ d ≤ T) (hs : B' + T ≤ 4611686018427387904) (hk0 : 0 ≤ key) (hk : key < keys C 0) (hm : C.mode = 2 → 0 ≤ d) : errK C B ls key d = 0 :=
  errK_zero.2 ⟨hk, fun n hn => lvE_ok (h n hn) hB hT hd hs (sh_lt hok (by omega) hk0 hk) hm⟩
theorem feedK_bnd (C : Cfg) (us : List (Int × Int)) (n : Nat) : Bnd (us.length * 1099511627776) (feedK C us n) := by
  refine snoc_ind (P := fun us => Bnd (us.length * 1099511627776) (feedK C us n)) ?_ ?_ us
  · exact zs_bnd _
  · intro us u ih
    rw [feedK_snoc]
    have := updK_bnd (C := C) (ls := feedK C us) (key := cutK C 0 u.1) (d := cutD C.mode u.2) (n := n) ih (by omega) (show (0 : Int) ≤ 1099511627776 by decide) (by have := cutD_bd C.mode u.2; omega)
    have e : ((us ++ [u]).length : Int) * 1099511627776 = us.length * 1099511627776 + 1099511627776 := by
      rw [List.length_append, List.length_singleton]; push_cast; omega
    rw [e]
    exact this
theorem feedK_ok (C : Cfg) (hok : C.Ok) {B : Nat} (hBb : C.bits = B) (us : List (Int × Int)) (hl : us.length ≤ 1000) (u : Int × Int) : errK C B (feedK C us) (cutK C 0 u.1) (cutD C.mode u.2) = 0 := by
  have hk := cutK_bd C hok 0 u.1 (Int.le_refl 0)
  refine errK_ok hok hBb (fun n _ => feedK_bnd C us n) (by omega) (show (0 : Int) ≤ 1099511627776 by decide) (by have := cutD_bd C.mode u.2; omega) (by omega) hk.1 hk.2 (fun h => cutD_nn h)
end Go.Proofs.YtfhdjekpdifajaaGreat
namespace Go.Proofs.YtfhdjekpdifajaaGreat
set_option linter.unusedVariables false
open Go.RowKit
def KFresh (N B : Nat) (L : Nat → Lev) : Prop := ∀ n, n ≤ B → N ≤ (L n).s ∧ N ≤ (L n).b ∧ N ≤ (L n).c
theorem KFresh.ext {w a b : World} {B : Nat} {L : Nat → Lev} (h : KFresh w.heap.size B L) (hE : Ext w a) (hM : Mod (cellsOf B L) a b) : Ext w b :=
  Below.trans hE (hM.below (B := w.heap.size) hE.size (fun k hk => by obtain ⟨n, hn, rfl⟩ := hk; exact (h n hn).2.2))
theorem ints2 (w : World) (a b : Int) (t : TypeId) : IntsAt (w.alloc (.cells #[.int .i64 a, .int .i64 b] t)) (.slice (some ⟨w.heap.size, 0, none⟩) 2 2) [a, b] := by
  have h0 := (cell_of (heap_at w (.cells #[.int .i64 a, .int .i64 b] t) rfl) 0).trans rfl
  have h1 := (cell_of (heap_at w (.cells #[.int .i64 a, .int .i64 b] t) rfl) 1).trans rfl
  refine .inr ⟨w.heap.size, 0, 2, rfl, by rw [size_alloc]; omega, fun k hk => ?_⟩
  match k, hk with
  | 0, _ => exact h0
  | 1, _ => exact h1
end Go.Proofs.YtfhdjekpdifajaaGreat
namespace Go.Proofs.YtfhdjekpdifajaaGreat
set_option linter.unusedVariables false
open Go.RowKit
set_option maxRecDepth 20000 in
set_option maxHeartbeats 2000000 in
theorem Cut15_c (c : Cfg) (hok : c.Ok) (key d : Int) (hk : U64 key) (hd : I64 d) (w : World) :
    Calls Tryz.prog 81 #[.agg #[.int .i64 c.bits, .int .i64 c.rows, .int .i64 c.width, .int .i64 c.mode, .int .u64 c.seed], .agg #[.int .u64 key, .int .i64 d]] w fun e w' => e = .returned (.agg #[.int .u64 (cutK c 0 key), .int .i64 (cutD c.mode d)]) ∧ Ext w w' := by
  obtain ⟨t1, t2⟩ := tmod_bd d
  obtain ⟨k1, k2⟩ := hk
  obtain ⟨kb1, kb2⟩ := keys_bd c hok 0 (Int.le_refl 0)
  obtain ⟨d1, d2⟩ := hd
  have kz : (keys c 0 == 0) = false := by simp; omega
  have kz2 : (keys c 0 = 0) = False := by simp; omega
  have hcd : cutD c.mode d = bif decide (c.mode = 2) then max (d.tmod 1099511627776) (-(d.tmod 1099511627776)) else d.tmod 1099511627776 := rfl
  have HCD := Lib.hid hcd
  have hck : cutK c 0 key = key % keys c 0 := rfl
  have HCK := Lib.hid hck
  clear hcd hck
  by_cases hm : c.mode = 2
  · have hmb : (c.mode == 2) = true := by simp [hm]
    have HM := Lib.hid hm
    clear hm
    by_cases hs0 : d.tmod 1099511627776 < 0
    · have hv : cutD c.mode d = -(d.tmod 1099511627776) := by rw [HCD.out, decide_eq_true HM.out]; show max _ _ = _; omega
      have HV := Lib.hid hv
      clear hv
      go_enter Tryz.func81, Tryz.ntmps81
      go_wp2
      refine wp_region_after_tail 7 (by kernel_rfl) (by kernel_rfl) ?_
      simp only [List.take_succ_cons, List.take_zero, List.drop_succ_cons, List.drop_zero]
      repeat (go_big_quiet_step ((go_at_call 79; exact quiet_after (KeysR_c c hok 0 (Int.le_refl 0) (by have := hok.b1; omega) _))))
      refine wpQuiet_nil ?_
      rintro _ ⟨xx, rfl⟩
      obtain ⟨w1, hb1⟩ := xx
      try dsimp only
      have hs := hb1.size
      simp only [size_alloc] at hs
      have hcell : w1.heap[w.heap.size + 1 + 1]? = some (.cells #[.int .u64 0, .int .i64 0] 138 (0, 0)) := by
        rw [hb1.block _ (by simp only [size_alloc]; omega)]
        exact heap_at _ _ (by simp only [size_alloc])
      have p0 := (cell_of hcell 0).trans rfl
      have p1 := (cell_of hcell 1).trans rfl
      have f0 := frozen_of hcell 0
      have f1 := frozen_of hcell 1
      have hE : Ext w w1 := by (repeat' (first | exact Ext.refl _ | assumption | apply Ext.allocR | apply Ext.drewR | apply Ext.drewNR | (refine Ext.trans' ?_ (by assumption))))
      clear hb1
      go_wp2
      have r0 := set2_0 hcell (.int .u64 (key % keys c 0))
      have r1 := set2_1 hcell (.int .u64 (key % keys c 0)) (.int .i64 (-(d.tmod 1099511627776)))
      refine bodyPost_ret (v := .agg #[.int .u64 (key % keys c 0), .int .i64 (-(d.tmod 1099511627776))]) (by simp [results, Tryz.results81, go_sem, r0, r1]) rfl ⟨by rw [HV.out, HCK.out], ?_⟩
      exact (hE.setR (by show w.heap.size ≤ w.heap.size + 1 + 1; omega) _).setR (by show w.heap.size ≤ w.heap.size + 1 + 1; omega) _
    · have hv : cutD c.mode d = d.tmod 1099511627776 := by rw [HCD.out, decide_eq_true HM.out]; show max _ _ = _; omega
      have HV := Lib.hid hv
      clear hv
      go_enter Tryz.func81, Tryz.ntmps81
      go_wp2
      refine wp_region_after_tail 7 (by kernel_rfl) (by kernel_rfl) ?_
      simp only [List.take_succ_cons, List.take_zero, List.drop_succ_cons, List.drop_zero]
      repeat (go_big_quiet_step ((go_at_call 79; exact quiet_after (KeysR_c c hok 0 (Int.le_refl 0) (by have := hok.b1; omega) _))))
      refine wpQuiet_nil ?_
      rintro _ ⟨xx, rfl⟩
      obtain ⟨w1, hb1⟩ := xx
      try dsimp only
      have hs := hb1.size
      simp only [size_alloc] at hs
      have hcell : w1.heap[w.heap.size + 1 + 1]? = some (.cells #[.int .u64 0, .int .i64 0] 138 (0, 0)) := by
        rw [hb1.block _ (by simp only [size_alloc]; omega)]
        exact heap_at _ _ (by simp only [size_alloc])
      have p0 := (cell_of hcell 0).trans rfl
      have p1 := (cell_of hcell 1).trans rfl
      have f0 := frozen_of hcell 0
      have f1 := frozen_of hcell 1
      have hE : Ext w w1 := by (repeat' (first | exact Ext.refl _ | assumption | apply Ext.allocR | apply Ext.drewR | apply Ext.drewNR | (refine Ext.trans' ?_ (by assumption))))
      clear hb1
      go_wp2
      have r0 := set2_0 hcell (.int .u64 (key % keys c 0))
      have r1 := set2_1 hcell (.int .u64 (key % keys c 0)) (.int .i64 (d.tmod 1099511627776))
      refine bodyPost_ret (v := .agg #[.int .u64 (key % keys c 0), .int .i64 (d.tmod 1099511627776)]) (by simp [results, Tryz.results81, go_sem, r0, r1]) rfl ⟨by rw [HV.out, HCK.out], ?_⟩
      exact (hE.setR (by show w.heap.size ≤ w.heap.size + 1 + 1; omega) _).setR (by show w.heap.size ≤ w.heap.size + 1 + 1; omega) _
  · have hmb : (c.mode == 2) = false := by simp [hm]
    have hv : cutD c.mode d = d.tmod 1099511627776 := by rw [HCD.out, decide_eq_false hm]; rfl
    have HV := Lib.hid hv
    clear hv hm
    go_enter Tryz.func81, Tryz.ntmps81
    go_wp2
    refine wp_region_after_tail 7 (by kernel_rfl) (by kernel_rfl) ?_
    simp only [List.take_succ_cons, List.take_zero, List.drop_succ_cons, List.drop_zero]
    repeat (go_big_quiet_step ((go_at_call 79; exact quiet_after (KeysR_c c hok 0 (Int.le_refl 0) (by have := hok.b1; omega) _))))
    refine wpQuiet_nil ?_
    rintro _ ⟨xx, rfl⟩
    obtain ⟨w1, hb1⟩ := xx
    try dsimp only
    have hs := hb1.size
    simp only [size_alloc] at hs
    have hcell : w1.heap[w.heap.size + 1 + 1]? = some (.cells #[.int .u64 0, .int .i64 0] 138 (0, 0)) := by
      rw [hb1.block _ (by simp only [size_alloc]; omega)]
      exact heap_at _ _ (by simp only [size_alloc])
    have p0 := (cell_of hcell 0).trans rfl
    have p1 := (cell_of hcell 1).trans rfl
    have f0 := frozen_of hcell 0
    have f1 := frozen_of hcell 1
    have hE : Ext w w1 := by (repeat' (first | exact Ext.refl _ | assumption | apply Ext.allocR | apply Ext.drewR | apply Ext.drewNR | (refine Ext.trans' ?_ (by assumption))))
    clear hb1
    go_wp2
    have r0 := set2_0 hcell (.int .u64 (key % keys c 0))
    have r1 := set2_1 hcell (.int .u64 (key % keys c 0)) (.int .i64 (d.tmod 1099511627776))
    refine bodyPost_ret (v := .agg #[.int .u64 (key % keys c 0), .int .i64 (d.tmod 1099511627776)]) (by simp [results, Tryz.results81, go_sem, r0, r1]) rfl ⟨by rw [HV.out, HCK.out], ?_⟩
    exact (hE.setR (by show w.heap.size ≤ w.heap.size + 1 + 1; omega) _).setR (by show w.heap.size ≤ w.heap.size + 1 + 1; omega) _
end Go.Proofs.YtfhdjekpdifajaaGreat
namespace Go.Proofs.YtfhdjekpdifajaaGreat
set_option linter.unusedVariables false
open Go.RowKit
/-- What the keys of a piece have of sixty updates. -/
def hasK (C : Cfg) (us : List (Int × Int)) (k n : Nat) (j : Int) : Int := hasP j (stP C n (fus us 0 k))
end Go.Proofs.YtfhdjekpdifajaaGreat
namespace Go.Proofs.YtfhdjekpdifajaaGreat
set_option linter.unusedVariables false
open Go.RowKit
/-- What a stack that was fed has in all. -/
theorem feed_total {C : Cfg} (hok : C.Ok) {B : Nat} (hB : C.bits = B) {us : List (Int × Int)} (hus : UpsOk us) : (feedK C (fus us 0 60) B).getD 0 0 = hasK C us 60 B 0 :=
  feedK_x hok (by omega) (fun u hu => hus u (List.mem_of_mem_take (List.mem_of_mem_drop hu))) (isX_top hok hB) 0
theorem fus_ok {us : List (Int × Int)} (hus : UpsOk us) (i j : Nat) : UpsOk (fus us i j) := fun u hu => hus u (List.mem_of_mem_take (List.mem_of_mem_drop hu))
theorem pt_x {C : Cfg} (hok : C.Ok) {n : Nat} (hn : (n : Int) ≤ C.bits) {us : List (Int × Int)} (hus : UpsOk us) (hx : isX C n = true) {j z : Int} (hj : 0 ≤ j) (h : lvPt C n (feedK C (fus us 0 60) n) j z) : z = hasK C us 60 n j := by
  rcases h with ⟨_, h⟩ | ⟨h, _⟩
  · rw [h, feedK_x hok hn (fus_ok hus 0 60) hx]
    unfold hasK
    rw [show ((j.toNat : Nat) : Int) = j by omega]
  · rw [hx] at h; cases h
end Go.Proofs.YtfhdjekpdifajaaGreat
namespace Go.Proofs.YtfhdjekpdifajaaGreat
set_option linter.unusedVariables false
open Go.RowKit
theorem sh_zero (key : Int) : sh 0 key = key := by unfold sh; simp
/-- What a level is told is what level 0 is told, of the keys there. -/
theorem sumIf_stP (C : Cfg) (n : Nat) (p : Int → Bool) : ∀ us : List (Int × Int), sumIf p (stP C n us) = sumIf (fun k => p (sh n k)) (stP C 0 us)
  | [] => rfl
  | u :: us => by
    have ih := sumIf_stP C n p us
    show sumIf p ((sh n (cutK C 0 u.1), cutD C.mode u.2) :: stP C n us) = sumIf (fun k => p (sh n k)) ((sh 0 (cutK C 0 u.1), cutD C.mode u.2) :: stP C 0 us)
    rw [sumIf_cons, sumIf_cons, ih, sh_zero]
end Go.Proofs.YtfhdjekpdifajaaGreat
namespace Go.Proofs.YtfhdjekpdifajaaGreat
set_option linter.unusedVariables false
open Go.RowKit
def pcS (ps : List (Int × Int)) (n : Nat) (i : Int) : Int := sumIf (fun u => sh n u == i) ps
end Go.Proofs.YtfhdjekpdifajaaGreat
namespace Go.Proofs.YtfhdjekpdifajaaGreat
set_option linter.unusedVariables false
open Go.RowKit
/-- The pieces of a span, from both sides, level by level. -/
def covL : Nat → Nat → Int → Int → List (Nat × Int)
  | 0, l, lo, _ => [(l, lo)]
  | f + 1, l, lo, hi =>
    if lo = hi then [(l, lo)]
    else (if lo % 2 = 1 then [(l, lo)] else []) ++
      ((if (if hi % 2 = 0 then hi - 1 else hi) < (if lo % 2 = 1 then lo + 1 else lo) then [] else covL f (l + 1) ((if lo % 2 = 1 then lo + 1 else lo) / 2) ((if hi % 2 = 0 then hi - 1 else hi) / 2)) ++
      (if hi % 2 = 0 then [(l, hi)] else []))
theorem pw (n : Nat) : (0 : Int) < 2 ^ n := Int.pow_pos (by decide)
theorem pw_succ (n : Nat) : (2 : Int) ^ (n + 1) = 2 * 2 ^ n := by rw [Int.pow_succ, Int.mul_comm]
theorem cov_lev : ∀ (f l : Nat) (lo hi : Int), ∀ p ∈ covL f l lo hi, l ≤ p.1 ∧ p.1 ≤ l + f
  | 0, l, lo, hi, p, hp => by
    simp only [covL, List.mem_singleton] at hp
    subst hp
    exact ⟨Nat.le_refl _, Nat.le_refl _⟩
  | f + 1, l, lo, hi, p, hp => by
    unfold covL at hp
    by_cases he : lo = hi
    · rw [if_pos he] at hp
      simp only [List.mem_singleton] at hp
      subst hp
      exact ⟨Nat.le_refl _, by simp⟩
    · rw [if_neg he] at hp
      simp only [List.mem_append] at hp
      rcases hp with hp | hp | hp
      · split at hp
        · simp only [List.mem_singleton] at hp; subst hp; exact ⟨Nat.le_refl _, by simp⟩
        · cases hp
      · by_cases hc : (if hi % 2 = 0 then hi - 1 else hi) < (if lo % 2 = 1 then lo + 1 else lo)
        · rw [if_pos hc] at hp; cases hp
        · rw [if_neg hc] at hp
          have := cov_lev f (l + 1) _ _ p hp
          omega
      · split at hp
        · simp only [List.mem_singleton] at hp; subst hp; exact ⟨Nat.le_refl _, by simp⟩
        · cases hp
theorem cov_len : ∀ (f l : Nat) (lo hi : Int), (covL f l lo hi).length ≤ 2 * f + 1
  | 0, _, _, _ => Nat.le_refl _
  | f + 1, l, lo, hi => by
    unfold covL
    split
    · simp
    · have := cov_len f (l + 1) ((if lo % 2 = 1 then lo + 1 else lo) / 2) ((if hi % 2 = 0 then hi - 1 else hi) / 2)
      simp only [List.length_append]
      split <;> split <;> split <;> simp_all <;> omega
theorem cov_bd : ∀ (f l : Nat) (lo hi : Int), 0 ≤ lo → lo ≤ hi → hi < 2 ^ f → ∀ p ∈ covL f l lo hi, 0 ≤ p.2 ∧ p.2 < 2 ^ (l + f - p.1)
  | 0, l, lo, hi, h0, h1, h2, p, hp => by
    have h2' : hi < 1 := h2
    simp only [covL, List.mem_singleton] at hp
    subst hp
    refine ⟨h0, ?_⟩
    show lo < 2 ^ (l + 0 - l)
    rw [Nat.add_zero, Nat.sub_self]
    show lo < 1
    omega
  | f + 1, l, lo, hi, h0, h1, h2, p, hp => by
    have hh := h2
    rw [pw_succ] at h2
    unfold covL at hp
    by_cases he : lo = hi
    · rw [if_pos he] at hp
      simp only [List.mem_singleton] at hp
      subst hp
      refine ⟨h0, ?_⟩
      show lo < 2 ^ (l + (f + 1) - l)
      rw [show l + (f + 1) - l = f + 1 by omega]; omega
    · rw [if_neg he] at hp
      simp only [List.mem_append] at hp
      rcases hp with hp | hp | hp
      · split at hp
        · simp only [List.mem_singleton] at hp; subst hp
          refine ⟨h0, ?_⟩
          show lo < 2 ^ (l + (f + 1) - l)
          rw [show l + (f + 1) - l = f + 1 by omega]; omega
        · cases hp
      · have h3 : 0 ≤ (if lo % 2 = 1 then lo + 1 else lo) := by split <;> omega
        have h4 : (if hi % 2 = 0 then hi - 1 else hi) ≤ hi := by split <;> omega
        generalize (if lo % 2 = 1 then lo + 1 else lo) = a at *
        generalize (if hi % 2 = 0 then hi - 1 else hi) = b at *
        by_cases hc : b < a
        · rw [if_pos hc] at hp; cases hp
        · rw [if_neg hc] at hp
          have := cov_bd f (l + 1) (a / 2) (b / 2) (by omega) (by omega) (by omega) p hp
          rw [show l + 1 + f = l + (f + 1) by omega] at this
          exact this
      · split at hp
        · simp only [List.mem_singleton] at hp; subst hp
          refine ⟨by omega, ?_⟩
          show hi < 2 ^ (l + (f + 1) - l)
          rw [show l + (f + 1) - l = f + 1 by omega]; omega
        · cases hp
theorem cov_self (f l : Nat) (i : Int) : covL f l i i = [(l, i)] := by
  cases f with
  | zero => rfl
  | succ f => unfold covL; rw [if_pos rfl]
end Go.Proofs.YtfhdjekpdifajaaGreat
