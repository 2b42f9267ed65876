/- Part. No condition. -/
import Derived.Test.YtmalncfcgcebhaaGreatDoorDAggFull5
import Derived.Test.YtmalncfcgcebhaaGreatDoorDAggFull7
import Derived.Test.YtmalncfcgcebhaaGreatDoorDAggFull6
import Derived.Test.YtmalncfcgcebhaaGreatDoorDAggFull2
import Derived.Test.YtmalncfcgcebhaaGreatDoorDAggFull1
import Derived.Test.YtmalncfcgcebhaaGreatDoorDAggFull4
import Derived.Shelf.SlIterI.Sorted
import Derived.Shelf.SortM.Plain
import Derived.Shelf.SortM.SortNone
import Derived.Defers
import Derived.Recover
import Derived.Laws.Pointers
import Derived.Shelf.Strconv.Itoa4
import Derived.Laws.BytesArg
import Derived.ProofKit
import Derived.OpenShut
import Derived.ChangeOld
import Derived.Below
import Derived.SizedLaws
import Derived.Deep.Slices
import Derived.Deep.Fields
import Derived.ChangeSlices
import Derived.Test.YtmalncfcgcebhaaGreatDoorRows
import Derived.Lib.LaidU8
import Derived.Stop.LaidErr
import Derived.Lay
import Derived.ChangeSame
import Derived.ChangeVars
import Derived.MakeChecks
namespace Go.Proofs.YtmalncfcgcebhaaGreatDoor
set_option linter.unusedVariables false
open Go.Proofs Go.RowKit
theorem tornFrom_ascii (s : ByteArray) (h : ∀ c ∈ s.data.toList, c.toNat < 128) : ∀ (f pos : Nat), tornFrom s f pos = -1
  | 0, _ => rfl
  | f + 1, pos => by
    unfold tornFrom
    by_cases hp : pos < s.size
    · rw [if_pos hp]
      have ha : (s[pos]'hp).toNat < 128 := by
        refine h _ ?_
        have : s.data.toList[pos]'(by rw [← Lib.size_eq]; exact hp) = s[pos]'hp := rfl
        rw [← this]
        exact List.getElem_mem _
      rw [decode_ascii s pos hp ha, if_neg, tornFrom_ascii s h f]
      intro e
      have := congrArg Prod.fst e
      dsimp only at this
      omega
    · rw [if_neg hp]
theorem torn_ascii {s : ByteArray} (h : ∀ c ∈ s.data.toList, c.toNat < 128) : tornS s = -1 := tornFrom_ascii s h _ _
theorem numR_at {W : List (ByteArray × Nat)} {E a : Nat} {n : Int} (ha : a < W.length) (hw : W[a].1.data.toList = Lib.itoa n) (hn : I64 n) : numR W E a none = (n, a + 1, none) := by
  obtain ⟨e1, e2⟩ := next_yes (E := E) ha
  unfold numR
  rw [e1, e2, hw, num_itoa hn]
/-- A verb and numbers: the words. -/
def lineW (verb : List UInt8) (ns : List Int) : List (List UInt8) := verb :: ns.map Lib.itoa
theorem wpl_get : ∀ (ws : List (List UInt8)) (a i : Nat) (h : i < (wpl a ws).length), (wpl a ws)[i].1.data.toList = ws.getD i []
  | [], a, i, h => by simp [wpl] at h
  | x :: l, a, 0, h => rfl
  | x :: l, a, i + 1, h => by
    have := wpl_get l (a + x.length + 1) i (by simp [wpl] at h; exact h)
    simpa [wpl] using this
theorem line_words {s : ByteArray} {verb : List UInt8} {ns : List Int} (hs : s.data.toList = joinW (lineW verb ns)) (hv : WordOk verb) : wds s = wpl 0 (lineW verb ns) :=
  wds_join hs (by simp [lineW]) (fun x hx => by
    rcases List.mem_cons.1 hx with rfl | hx
    · exact hv
    · obtain ⟨n, _, rfl⟩ := List.mem_map.1 hx
      exact itoa_word n)
theorem join_mem {P : UInt8 → Prop} (h32 : P 32) : ∀ {ws : List (List UInt8)}, (∀ x ∈ ws, ∀ c ∈ x, P c) → ∀ c ∈ joinW ws, P c
  | [], _, c, hc => by simp [joinW] at hc
  | [x], h, c, hc => h x (by simp) c hc
  | x :: y :: l, h, c, hc => by
    rw [joinW_cons x (by simp)] at hc
    rcases List.mem_append.1 hc with hc | hc
    · exact h x (by simp) c hc
    · rcases List.mem_cons.1 hc with rfl | hc
      · exact h32
      · exact join_mem h32 (fun z hz => h z (by simp [hz])) c hc
/-- What such a line says, if its words fit. -/
theorem line_says {s : ByteArray} {verb : List UInt8} {ns : List Int} {c : Cmd} (hs : s.data.toList = joinW (lineW verb ns)) (hv : WordOk verb) (ha : ∀ c ∈ verb, c.toNat < 128) (hz : s.size ≤ 65536)
    (hc : cmdR (wpl 0 (lineW verb ns)) s.size = (some c, ns.length + 1, none)) : parseS s = (some c, 0, 0) := by
  have hw := line_words hs hv
  have ht : ¬ 0 ≤ tornS s := by
    rw [torn_ascii (s := s) (fun c hc => by
      rw [hs] at hc
      refine join_mem (P := fun c => c.toNat < 128) (by decide) (fun x hx c hc => ?_) c hc
      rcases List.mem_cons.1 hx with hx | hx
      · rw [hx] at hc; exact ha _ hc
      · obtain ⟨n, _, rfl⟩ := List.mem_map.1 hx
        rcases itoa_mem n _ hc with h | h <;> omega)]
    decide
  have hn : wds s ≠ [] := by
    rw [hw]; unfold lineW wpl; simp
  have hb : badS (wds s) s.size = none := by
    rw [hw]
    unfold badS
    rw [hc]
    dsimp only
    rw [if_neg]
    rw [wpl_len]
    simp [lineW]
  rw [parse_none (by omega) ht hn hb, hw, hc]
theorem line_v0 (verb : List UInt8) (ns : List Int) : (nextT (wpl 0 (lineW verb ns)) 0 none).toList = verb := by
  have h : 0 < (wpl 0 (lineW verb ns)).length := by rw [wpl_len]; simp [lineW]
  rw [(next_yes (E := 0) h).1, Lib.toList_data, wpl_get]
  rfl
theorem one_at (verb : List UInt8) (n : Int) (hn : I64 n) (E : Nat) : numR (wpl 0 (lineW verb [n])) E 1 none = (n, 2, none) := by
  refine numR_at (by rw [wpl_len]; simp [lineW]) ?_ hn
  rw [wpl_get]
  rfl
theorem cmd_drop (n : Int) (hn : I64 n) (E : Nat) : cmdR (wpl 0 (lineW [100, 114, 111, 112] [n])) E = (some (.query ⟨#[100, 114, 111, 112]⟩ n []), 2, none) := by
  have h := one_at [100, 114, 111, 112] n hn E
  unfold cmdR
  rw [line_v0]
  dsimp only
  rw [if_neg (by decide), if_neg (by decide), if_neg (by decide), if_neg (by decide), if_neg (by decide), if_neg (by decide), if_pos rfl, h]
end Go.Proofs.YtmalncfcgcebhaaGreatDoor
namespace Go.Proofs.YtmalncfcgcebhaaGreatDoor
set_option linter.unusedVariables false
open Go.Proofs Go.RowKit
set_option maxRecDepth 20000 in
set_option maxHeartbeats 4000000 in
theorem DoAdd_c {w : World} {N p m : Nat} {l : List (Nat × Th)} {last : Nat} {R : (Option Rep × Int) × St} (hpl : p < w.heap.size) (h : Int) (nm : Bool) (name : ByteArray) (key d : Int)
    (H : ∀ w1, Ext w w1 → Calls Tryz.prog 84 #[.pointer (some ⟨p, 0, none⟩), addCV h nm name key d] w1 (DoPost w1 N p m l last R)) :
    Calls Tryz.prog 43 #[.pointer (some ⟨p, 0, none⟩), .iface 174 (addCV h nm name key d)] w (DoPost w N p m l last R) := by
  have HH := Lib.hid H
  clear H
  unfold addCV at *
  go_enter Tryz.func43, Tryz.ntmps43
  go_wp2_with fail
  refine Calls.mono (HH.out _ (Ext.alloc' _ _)) ?_
  intro e w2 h5
  have h6 := h5.back (Ext.alloc' w _)
  obtain ⟨⟨v, l', last', rfl, _⟩, _⟩ := h5
  have H6 := Lib.hid h6
  clear h6
  go_wp2
  go_ret2
  exact H6.out
/-- What a command answers in a state, and leaves. -/
def DoIs (S : St) (c : Cmd) (R : (Option Rep × Int) × St) : Prop :=
  ∀ (w : World) (N p m : Nat) (l : List (Nat × Th)) (last base : Nat) (v : Value), AgAt w N p m l last → stOf l last = S → 10 ≤ N → Tabs w → last < 1000000 → CmdAt base w v c → Calls Tryz.prog 43 #[.pointer (some ⟨p, 0, none⟩), v] w (DoPost w N p m l last R)
def TextIs (x : Rep) : Prop := ∀ (base : Nat) (w1 : World) (v : Value), RepAt base w1 v x → Tabs w1 → Calls Tryz.prog 46 #[v] w1 fun e w' => e = .returned (strV (repT x)) ∧ Ext w1 w'
/-- A line, by what commands do. -/
def lineF (D : St → Cmd → (Option Rep × Int) × St) (S : St) (l : List UInt8) : Option (List UInt8) × St :=
  match parseS ⟨l.toArray⟩ with
  | (r, at_, c) => if c = 0 then (match r with | none => (none, S) | some x => (some (ansT (D S x).1), (D S x).2)) else (some (errT c ++ [32, 97, 116, 32] ++ Lib.itoa at_), S)
def OfAg (S : St) : Prop := ∃ (w : World) (N p m : Nat) (l : List (Nat × Th)) (last : Nat), AgAt w N p m l last ∧ stOf l last = S
structure DoOk (S : St) (c : Cmd) (R : (Option Rep × Int) × St) : Prop where
  is : DoIs S c R
  yes : R.1.2 = 0 → ∃ x, R.1.1 = some x
  tx : OfAg S → ∀ x, R.1.1 = some x → TextIs x
  ie : I64 R.1.2
theorem lineF_is {D : St → Cmd → (Option Rep × Int) × St} {S : St} {s : ByteArray} (hs : s.size ≤ 100000000) (hI : I64 (parseS s).2.1 ∧ I64 (parseS s).2.2) (hn : (parseS s).2.2 ≠ 0 → (parseS s).1 = none) (h : ∀ c, (parseS s).1 = some c → DoOk S c (D S c)) : LineIs S s (lineF D S s.data.toList) := by
  intro w N p m l last hA hS hN hT hl
  have e1 : (⟨s.data.toList.toArray⟩ : ByteArray) = s := by cases s; simp
  unfold lineF
  rw [e1]
  generalize hp : parseS s = P at *
  obtain ⟨r, at_, c⟩ := P
  dsimp only at *
  by_cases h0 : c = 0
  · subst h0
    rw [if_pos rfl]
    cases r with
    | none => rw [← hS]; exact ALine_none hA hT s hs hp
    | some x =>
      have hx := h x rfl
      refine ALine_cmd hA hN hT s hs hp hx.yes hx.ie (fun w1 v hx1 hv => hx.is w1 N p m l last _ v (hA.ext hx1) hS hN (hT.ext hx1) hl hv) fun y base w1 v hy hr hT1 => hx.tx ⟨w, N, p, m, l, last, hA, hS⟩ y hy base w1 v hr hT1
  · rw [if_neg h0]
    rw [hn h0] at hp
    rw [← hS]
    exact ALine_err hA hT s hs hp h0 hI.1 hI.2
/-- Only stacks. -/
def AllSt (S : St) : Prop := ∀ x ∈ S.l, ∃ C B ls, x.2 = AT.st C B ls
theorem AllSt.th {l : List (Nat × Th)} {last : Nat} (h : AllSt (stOf l last)) {k : Int} {x : Nat × Th} (hf : fnd l k = some x) : ∃ i bk C B, x = (i, .st bk C B) := by
  obtain ⟨i, t⟩ := x
  obtain ⟨C, B, ls, h2⟩ := h (i, t.ab) (List.mem_map.2 ⟨_, (fnd_mem hf).1, rfl⟩)
  cases t with
  | st bk C B => exact ⟨_, _, _, _, rfl⟩
  | wi => cases h2
theorem stOf_find (l : List (Nat × Th)) (last : Nat) (k : Int) : (stOf l last).l.find? (fun x => decide ((x.1 : Int) = k)) = (fnd l k).map fun x => (x.1, x.2.ab) := fnd_ab l k
/-- What create, add, total and drop do. -/
def dropF (S : St) (h : Int) : (Option Rep × Int) × St := match S.l.find? (fun x => decide ((x.1 : Int) = h)) with
  | none => ((none, 10), S)
  | some _ => ((some .done, 0), ⟨dropL S.l h, S.last⟩)
def totalF (S : St) (h : Int) : (Option Rep × Int) × St := match S.l.find? (fun x => decide ((x.1 : Int) = h)) with
  | none => ((none, 10), S)
  | some (_, T) => ((some (.number ((T.ls T.B).getD 0 0)), 0), S)
theorem q_empty {base : Nat} {w : World} {v : Value} {what : ByteArray} {h : Int} {l : List Int} (hv : CmdAt base w v (.query what h l)) : ∃ q n c, v = .iface 179 (.agg #[.string what, .int .i64 h, .slice q n c]) := by
  obtain ⟨s, rfl, ⟨_, rfl⟩ | ⟨g, f, rfl, _⟩⟩ := hv
  · exact ⟨_, _, _, rfl⟩
  · exact ⟨_, _, _, rfl⟩
theorem DoOk.create (S : St) (C : Cfg) (hs : U64 C.seed) (hl : S.last < 1000000) : DoOk S (.create C.bits C.rows C.width C.mode C.seed) (createF S C) := by
  refine ⟨?_, ?_, ?_, ?_⟩
  · rintro w N p m l last base v hA rfl hN hT hl rfl
    exact DoCreate_c hA C hs hl
  · unfold createF madeF
    repeat' split
    all_goals simp
  · unfold createF madeF
    repeat' split
    · rintro _ x h; cases h
    · rintro _ x h
      cases h
      rintro base w v rfl hT
      exact AText_handle _ (by unfold I64; omega) w hT
    · rintro _ x h; cases h
  · unfold createF madeF I64
    repeat' split
    all_goals dsimp only; omega
theorem lvE_small (C : Cfg) (lv : Int) (l : List Int) (key d : Int) : 0 ≤ lvE C lv l key d ∧ lvE C lv l key d ≤ 4 := by
  have k : ∀ (b : Bool) (x y : Int), (0 ≤ x ∧ x ≤ 4) → (0 ≤ y ∧ y ≤ 4) → 0 ≤ (bif b then x else y) ∧ (bif b then x else y) ≤ 4 := fun b x y h1 h2 => by cases b <;> assumption
  unfold lvE errX errU
  refine k _ _ _ (k _ _ _ (k _ _ _ ?_ (k _ _ _ ?_ ?_)) ?_) (k _ _ _ (k _ _ _ (k _ _ _ ?_ (k _ _ _ ?_ ?_)) (k _ _ _ ?_ ?_)) ?_)
  all_goals omega
theorem err_small (C : Cfg) (B : Nat) (ls : Nat → List Int) (key d : Int) : 0 ≤ errK C B ls key d ∧ errK C B ls key d ≤ 4 := by
  have k : ∀ n, 0 ≤ errs C ls key d n ∧ errs C ls key d n ≤ 4 := by
    intro n
    induction n with
    | zero => simp [errs]
    | succ n ih =>
      unfold errs fst_
      cases decide (errs C ls key d n = 0)
      · exact ih
      · exact lvE_small _ _ _ _ _
  unfold errK
  cases decide (keys C 0 ≤ key)
  · exact k _
  · show 0 ≤ (2 : Int) ∧ (2 : Int) ≤ 4
    decide
theorem err_i {C : Cfg} {B : Nat} {ls : Nat → List Int} {key d : Int} : I64 (errK C B ls key d) := by
  have := err_small C B ls key d
  unfold I64; omega
theorem DoOk.add (S : St) (hS : AllSt S) (h : Int) (nm : Bool) (name : ByteArray) (key d : Int) (hh : I64 h) (hk : U64 key) (hd : I64 d) : DoOk S (.add h nm name key d) (addF S h nm key d) := by
  refine ⟨?_, ?_, ?_, ?_⟩
  · rintro w N p m l last base v hA rfl hN hT hl rfl
    refine DoAdd_c hA.ltp h nm name key d fun w1 hx => ?_
    cases hf : fnd l h with
    | none =>
      rw [addF_none hf]
      refine (AAdd_no (hA.ext hx) h nm name key d hh hf).mono ?_
      rintro e w' ⟨rfl, hx2⟩
      exact DoPost.same (hA.ext hx) hx2 (r := none) rfl
    | some x =>
      obtain ⟨i, bk, C, B, rfl⟩ := hS.th hf
      exact AAdd_st (hA.ext hx) h nm name key d hh hk hd hf
  · unfold addF doneF
    repeat' split
    all_goals simp_all
  · unfold addF doneF
    rintro _ x hx
    have : x = .done := by
      revert hx
      repeat' split
      all_goals simp_all
    subst this
    rintro base w v rfl hT
    exact AText_done w
  · unfold addF doneF
    repeat' split
    · unfold I64; dsimp only; omega
    · unfold I64; dsimp only; omega
    · rename_i i T hf he
      obtain ⟨C, B, ls, h2⟩ := hS _ (List.mem_of_find?_eq_some hf)
      dsimp only at h2
      subst h2
      exact err_i
theorem DoOk.drop (S : St) (h : Int) (hh : I64 h) (l : List Int) : DoOk S (.query ⟨#[100, 114, 111, 112]⟩ h l) (dropF S h) := by
  refine ⟨?_, ?_, ?_, ?_⟩
  · rintro w N p m l last base v hA rfl hN hT hl hv
    obtain ⟨q, n, c, rfl⟩ := q_empty hv
    refine DoQuery_c hA.ltp _ h q n c fun w1 hx => ?_
    unfold dropF
    rw [stOf_find]
    cases hf : fnd l h with
    | none =>
      refine (AQuery_no (hA.ext hx) _ h (.slice q n c) rfl hh hf).mono ?_
      rintro e w' ⟨rfl, hx2⟩
      exact DoPost.same (hA.ext hx) hx2 (r := none) rfl
    | some x => exact AQuery_drop (hA.ext hx) h _ rfl hh hf
  · unfold dropF
    split <;> simp
  · unfold dropF
    rintro _ x hx
    have : x = .done := by
      revert hx
      split
      all_goals simp_all
    subst this
    rintro base w v rfl hT
    exact AText_done w
  · unfold dropF I64
    split <;> (dsimp only; omega)
theorem tot_i {S : St} (hO : OfAg S) {h : Int} {i : Nat} {T : AT} (hf : S.l.find? (fun x => decide ((x.1 : Int) = h)) = some (i, T)) : I64 ((T.ls T.B).getD 0 0) := by
  obtain ⟨w, N, p, m, l, last, hA, rfl⟩ := hO
  rw [stOf_find] at hf
  obtain ⟨x, hx, he⟩ := Option.map_eq_some_iff.1 hf
  cases he
  rw [Th.ab_B, Th.ab_ls]
  have hth := hA.th x (fnd_mem hx).1
  have key : ∀ (l : List Int), (∀ y ∈ l, I64 y) → I64 (l.getD 0 0) := fun l hl => by
    cases l with
    | nil => simp [I64]
    | cons a l => simpa using hl a (by simp)
  obtain ⟨i, t⟩ := x
  cases t with
  | st bk C B => exact key _ (KAt.lev (show bk.At w C B from hth) B (Nat.le_refl _)).fit
  | wi p b C B n sm bk => exact key _ (KAt.lev (WAt.sum hth) B (Nat.le_refl _)).fit
theorem DoOk.total (S : St) (h : Int) (hh : I64 h) (l : List Int) : DoOk S (.query ⟨#[116, 111, 116, 97, 108]⟩ h l) (totalF S h) := by
  refine ⟨?_, ?_, ?_, ?_⟩
  · rintro w N p m l last base v hA rfl hN hT hl hv
    obtain ⟨q, n, c, rfl⟩ := q_empty hv
    refine DoQuery_c hA.ltp _ h q n c fun w1 hx => ?_
    unfold totalF
    rw [stOf_find]
    cases hf : fnd l h with
    | none =>
      refine (AQuery_no (hA.ext hx) _ h (.slice q n c) rfl hh hf).mono ?_
      rintro e w' ⟨rfl, hx2⟩
      exact DoPost.same (hA.ext hx) hx2 (r := none) rfl
    | some x =>
      have := AQuery_total (hA.ext hx) h (.slice q n c) rfl hh hf
      simp only [Option.map_some, Th.ab_B, Th.ab_ls]
      exact this
  · unfold totalF
    split <;> simp
  · intro hO x hx
    unfold totalF at hx
    split at hx
    · cases hx
    · rename_i hf
      cases hx
      rintro base w v rfl hT
      exact AText_num _ (tot_i hO hf) w hT
  · unfold totalF I64
    split <;> (dsimp only; omega)
/-- What the four do; of others nothing is said. -/
def doA (S : St) : Cmd → (Option Rep × Int) × St
  | .create B R W M s => createF S ⟨B, R, W, M, s⟩
  | .add h nm _ key d => addF S h nm key d
  | .query what h _ => if what = ⟨#[100, 114, 111, 112]⟩ then dropF S h else totalF S h
  | _ => ((none, 10), S)
def okA : Cmd → Prop
  | .create _ _ _ _ s => U64 s
  | .add h _ _ key d => I64 h ∧ U64 key ∧ I64 d
  | .query what h _ => (what = ⟨#[100, 114, 111, 112]⟩ ∨ what = ⟨#[116, 111, 116, 97, 108]⟩) ∧ I64 h
  | _ => False
theorem doA_is (S : St) (hS : AllSt S) (hl : S.last < 1000000) (c : Cmd) (hc : okA c) : DoOk S c (doA S c) := by
  cases c with
  | create B R W M s => exact DoOk.create S ⟨B, R, W, M, s⟩ hc hl
  | add h nm name key d => exact DoOk.add S hS h nm name key d hc.1 hc.2.1 hc.2.2
  | query what h l =>
    rcases hc with ⟨rfl | rfl, hh⟩
    · exact DoOk.drop S h hh l
    · exact DoOk.total S h hh l
  | _ => exact hc.elim
theorem mem_setL {l : List (Nat × AT)} {i : Nat} {x : AT} {y : Nat × AT} (h : y ∈ setL l i x) : y ∈ l ∨ y.2 = x := by
  unfold setL at h
  obtain ⟨z, hz, rfl⟩ := List.mem_map.1 h
  split
  · exact .inr rfl
  · exact .inl hz
theorem doA_st (S : St) (hS : AllSt S) (c : Cmd) : AllSt (doA S c).2 := by
  cases c with
  | create B R W M s =>
    show AllSt (createF S _).2
    unfold createF madeF
    repeat' split
    · exact hS
    · intro x hx
      rcases List.mem_append.1 hx with hx | hx
      · exact hS x hx
      · simp only [List.mem_singleton] at hx
        subst hx
        exact ⟨_, _, _, rfl⟩
    · exact hS
  | add h nm name key d =>
    show AllSt (addF S h nm key d).2
    unfold addF
    repeat' split
    · exact hS
    · rename_i i T hf he
      obtain ⟨C, B, ls, h2⟩ := hS _ (List.mem_of_find?_eq_some hf)
      dsimp only at h2
      subst h2
      intro x hx
      rcases mem_setL hx with hx | hx
      · exact hS x hx
      · exact ⟨_, _, _, hx⟩
    · exact hS
  | query what h l =>
    show AllSt (if what = ⟨#[100, 114, 111, 112]⟩ then dropF S h else totalF S h).2
    unfold dropF totalF
    repeat' split
    · exact hS
    · intro x hx
      exact hS x (List.mem_filter.1 hx).1
    · exact hS
    · exact hS
  | _ => exact hS
end Go.Proofs.YtmalncfcgcebhaaGreatDoor
namespace Go.Proofs.YtmalncfcgcebhaaGreatDoor
set_option linter.unusedVariables false
open Go.Proofs Go.Shelf Go.RowKit Go.Sort Go.Maps
def Tryz.keysA_ren : Go.Shelf.Ren := ⟨fun | 7 => 74 | 10 => 112 | n => n, fun | 23 => 142 | 26 => 3 | 3 => 152 | 28 => 148 | 0 => 0 | 27 => 147 | 33 => 65 | 4 => 4 | n => n, fun | n => n⟩
theorem Tryz.keysA : Go.Proofs.SlLaysZI.n7 Tryz.prog Tryz.keysA_ren := {
  mixed := by kernel_rfl
  f7 := ⟨Tryz.f74.name, by decide, Tryz.func74.trans (congrArg some (by kernel_rfl))⟩
  f10 := ⟨Tryz.f112.name, by decide, Tryz.func112.trans (congrArg some (by kernel_rfl))⟩
  t0 := Tryz.underlying0
  a0 := Tryz.isAgg0
  z0 := Tryz.sizeOf0
  v0 := Tryz.zeroValue0
  t4 := Tryz.underlying4
  a4 := Tryz.isAgg4
  z4 := Tryz.sizeOf4
  v4 := Tryz.zeroValue4
  t23 := Tryz.underlying142
  a23 := Tryz.isAgg142
  z23 := Tryz.sizeOf142
  v23 := Tryz.zeroValue142
  t26 := Tryz.underlying3
  a26 := Tryz.isAgg3
  z26 := Tryz.sizeOf3
  v26 := Tryz.zeroValue3
  t27 := Tryz.underlying147
  a27 := Tryz.isAgg147
  z27 := Tryz.sizeOf147
  v27 := Tryz.zeroValue147
  t28 := Tryz.underlying148
  a28 := Tryz.isAgg148
  z28 := Tryz.sizeOf148
  v28 := Tryz.zeroValue148
  t33 := Tryz.underlying65
  a33 := Tryz.isAgg65
  z33 := Tryz.sizeOf65
  v33 := Tryz.zeroValue65 }
def Tryz.sortedA_ren : Go.Shelf.Ren := ⟨fun | 6 => 73 | 8 => 110 | 9 => 111 | 11 => 155 | 13 => 157 | 12 => 156 | 23 => 202 | 24 => 151 | 14 => 193 | 15 => 194 | 16 => 195 | 17 => 196 | 18 => 197 | 19 => 198 | 20 => 199 | 21 => 200 | 22 => 201 | 25 => 235 | 26 => 236 | 27 => 237 | 28 => 238 | 29 => 239 | 30 => 240 | 31 => 267 | n => n, fun | 26 => 3 | 28 => 148 | 24 => 54 | 0 => 0 | 3 => 3 | 37 => 49 | 48 => 105 | 50 => 22 | 4 => 4 | 40 => 321 | 39 => 320 | 45 => 326 | 5 => 5 | 9 => 9 | 51 => 368 | 55 => 372 | 57 => 389 | 58 => 223 | 33 => 65 | n => n, fun | n => n⟩
theorem Tryz.sortedA : Go.Proofs.SlLaysZI.n6 Tryz.prog Tryz.sortedA_ren := {
  mixed := by kernel_rfl
  f6 := ⟨Tryz.f73.name, by decide, Tryz.func73.trans (congrArg some (by kernel_rfl))⟩
  f8 := ⟨Tryz.f110.name, by decide, Tryz.func110.trans (congrArg some (by kernel_rfl))⟩
  f11 := ⟨Tryz.f155.name, by decide, Tryz.func155.trans (congrArg some (by kernel_rfl))⟩
  t0 := Tryz.underlying0
  a0 := Tryz.isAgg0
  z0 := Tryz.sizeOf0
  v0 := Tryz.zeroValue0
  t24 := Tryz.underlying54
  a24 := Tryz.isAgg54
  z24 := Tryz.sizeOf54
  v24 := Tryz.zeroValue54
  t26 := Tryz.underlying3
  a26 := Tryz.isAgg3
  z26 := Tryz.sizeOf3
  v26 := Tryz.zeroValue3
  t28 := Tryz.underlying148
  a28 := Tryz.isAgg148
  z28 := Tryz.sizeOf148
  v28 := Tryz.zeroValue148
  i26 := by kernel_rfl }
def Tryz.sortA_ren : Go.Shelf.Ren := ⟨fun | 5 => 111 | 8 => 157 | 7 => 156 | 19 => 202 | 20 => 151 | 10 => 193 | 11 => 194 | 12 => 195 | 13 => 196 | 14 => 197 | 15 => 198 | 16 => 199 | 17 => 200 | 18 => 201 | 30 => 235 | 31 => 236 | 32 => 237 | 33 => 238 | 34 => 239 | 35 => 240 | 40 => 267 | n => n, fun | 23 => 54 | 25 => 3 | 3 => 3 | 32 => 49 | 22 => 54 | 0 => 0 | 44 => 105 | 46 => 22 | 4 => 4 | 36 => 321 | 35 => 320 | 41 => 326 | 5 => 5 | 9 => 9 | 53 => 368 | 57 => 372 | 63 => 389 | 64 => 223 | n => n, fun | n => n⟩
theorem Tryz.sortA : Go.Proofs.SlLaysM.n5 Tryz.prog Tryz.sortA_ren := {
  mixed := by kernel_rfl
  f5 := ⟨Tryz.f111.name, by decide, Tryz.func111.trans (congrArg some (by kernel_rfl))⟩
  f7 := ⟨Tryz.f156.name, by decide, Tryz.func156.trans (congrArg some (by kernel_rfl))⟩
  f8 := Tryz.func157.trans (congrArg some (by kernel_rfl))
  f10 := ⟨Tryz.f193.name, by decide, Tryz.func193.trans (congrArg some (by kernel_rfl))⟩
  f11 := ⟨Tryz.f194.name, by decide, Tryz.func194.trans (congrArg some (by kernel_rfl))⟩
  f12 := ⟨Tryz.f195.name, by decide, Tryz.func195.trans (congrArg some (by kernel_rfl))⟩
  f13 := ⟨Tryz.f196.name, by decide, Tryz.func196.trans (congrArg some (by kernel_rfl))⟩
  f14 := ⟨Tryz.f197.name, by decide, Tryz.func197.trans (congrArg some (by kernel_rfl))⟩
  f15 := ⟨Tryz.f198.name, by decide, Tryz.func198.trans (congrArg some (by kernel_rfl))⟩
  f16 := ⟨Tryz.f199.name, by decide, Tryz.func199.trans (congrArg some (by kernel_rfl))⟩
  f17 := ⟨Tryz.f200.name, by decide, Tryz.func200.trans (congrArg some (by kernel_rfl))⟩
  f18 := ⟨Tryz.f201.name, by decide, Tryz.func201.trans (congrArg some (by kernel_rfl))⟩
  f19 := Tryz.func202.trans (congrArg some (by kernel_rfl))
  f20 := Tryz.func151.trans (congrArg some (by kernel_rfl))
  f30 := ⟨Tryz.f235.name, by decide, Tryz.func235.trans (congrArg some (by kernel_rfl))⟩
  f31 := Tryz.func236.trans (congrArg some (by kernel_rfl))
  f32 := Tryz.func237.trans (congrArg some (by kernel_rfl))
  f33 := ⟨Tryz.f238.name, by decide, Tryz.func238.trans (congrArg some (by kernel_rfl))⟩
  f34 := ⟨Tryz.f239.name, by decide, Tryz.func239.trans (congrArg some (by kernel_rfl))⟩
  f35 := ⟨Tryz.f240.name, by decide, Tryz.func240.trans (congrArg some (by kernel_rfl))⟩
  f40 := ⟨Tryz.f267.name, by decide, Tryz.func267.trans (congrArg some (by kernel_rfl))⟩
  t0 := Tryz.underlying0
  a0 := Tryz.isAgg0
  z0 := Tryz.sizeOf0
  v0 := Tryz.zeroValue0
  t3 := Tryz.underlying3
  a3 := Tryz.isAgg3
  z3 := Tryz.sizeOf3
  v3 := Tryz.zeroValue3
  t4 := Tryz.underlying4
  a4 := Tryz.isAgg4
  z4 := Tryz.sizeOf4
  v4 := Tryz.zeroValue4
  t5 := Tryz.underlying5
  a5 := Tryz.isAgg5
  z5 := Tryz.sizeOf5
  v5 := Tryz.zeroValue5
  t9 := Tryz.underlying9
  a9 := Tryz.isAgg9
  z9 := Tryz.sizeOf9
  v9 := Tryz.zeroValue9
  t22 := Tryz.underlying54
  a22 := Tryz.isAgg54
  z22 := Tryz.sizeOf54
  v22 := Tryz.zeroValue54
  t23 := Tryz.underlying54
  a23 := Tryz.isAgg54
  z23 := Tryz.sizeOf54
  v23 := Tryz.zeroValue54
  t25 := Tryz.underlying3
  a25 := Tryz.isAgg3
  z25 := Tryz.sizeOf3
  v25 := Tryz.zeroValue3
  t32 := Tryz.underlying49
  a32 := Tryz.isAgg49
  z32 := Tryz.sizeOf49
  v32 := Tryz.zeroValue49
  t35 := Tryz.underlying320
  a35 := Tryz.isAgg320
  z35 := Tryz.sizeOf320
  v35 := Tryz.zeroValue320
  t36 := Tryz.underlying321
  a36 := Tryz.isAgg321
  z36 := Tryz.sizeOf321
  v36 := Tryz.zeroValue321
  t41 := Tryz.underlying326
  a41 := Tryz.isAgg326
  z41 := Tryz.sizeOf326
  v41 := Tryz.zeroValue326
  t44 := Tryz.underlying105
  a44 := Tryz.isAgg105
  z44 := Tryz.sizeOf105
  v44 := Tryz.zeroValue105
  t46 := Tryz.underlying22
  a46 := Tryz.isAgg22
  z46 := Tryz.sizeOf22
  v46 := Tryz.zeroValue22
  t53 := Tryz.underlying368
  a53 := Tryz.isAgg368
  z53 := Tryz.sizeOf368
  v53 := Tryz.zeroValue368
  t57 := Tryz.underlying372
  a57 := Tryz.isAgg372
  z57 := Tryz.sizeOf372
  v57 := Tryz.zeroValue372
  t63 := Tryz.underlying389
  a63 := Tryz.isAgg389
  z63 := Tryz.sizeOf389
  v63 := Tryz.zeroValue389
  t64 := Tryz.underlying223
  a64 := Tryz.isAgg223
  z64 := Tryz.sizeOf223
  v64 := Tryz.zeroValue223 }
theorem Tryz.sortsA (m : Nat) : AnyZI.SortsIn Tryz.prog Tryz.sortedA_ren Fence.wide m :=
  ⟨fun blk off cap ss W hH hblk hsz => callsIn_wide.2 (AnyM.slices_Sort_int Tryz.sortA blk off cap ss W hH hblk hsz),
   fun p cap W => callsIn_wide.2 (AnyM.slices_Sort_int_none Tryz.sortA p cap W)⟩
/-- The keys of the map's datum. -/
theorem keys_hD (l : List (Nat × Value)) : intKeys (hD l) = l.map fun x => (x.1 : Int) := by
  unfold hD
  show List.map (fun (p : Lit × DataW Value) => Go.intOf p.1) (List.map _ l) = _
  rw [List.map_map]
  rfl
set_option maxHeartbeats 1000000 in
theorem keysSorted_c (P0 : Nat) (b nn : Nat) (D0 : DataW Value) (w W : World) (hown : W.ownsMap Tryz.prog 3 Rh b nn D0) (hmax : Maps.size D0 ≤ maxLen) (hbytes : Maps.size D0 * 8 ≤ 140737488355328) (hp : W.cell? ⟨P0, 0, none⟩ = some (.map (some b))) (hpl : P0 < W.heap.size) :
    Calls Tryz.prog 39 #[.pointer (some ⟨P0, 0, none⟩)] W fun e w' => ∃ (v : Value) (ss : List Int), e = .returned v ∧ ss.Perm (intKeys D0) ∧
      w'.ownsRow W.heap.size 3 1 v ss.length ((ss.mergeSort (fun x y => decide (x ≤ y))).map encZ) ∧ (v = .slice none 0 0 ↔ ss = []) ∧ Ext W w' := by
  refine (callsIn_wide (n := 6)).1 ?_
  have hbl := hown.lt
  have hseq : SeqGives Fence.wide 2 Tryz.prog 112 #[.pointer (some ⟨W.heap.size, 0, none⟩)] encZ (fun ss => ss.Perm (intKeys D0)) (Maps.size D0) (W.alloc (.cells #[.map (some b)] 142)) :=
    AnyZI.keys_gives (ρ := Tryz.keysA_ren) { Tryz.keysA with } Fence.wide _ trivial rfl (by omega) W.heap.size b nn D0 _ (by simp) (by simp) (by
      obtain ⟨es, clock, hb, Ft, hs, hD⟩ := hown
      exact ⟨es, clock, (Below.heap_alloc _ _ b hbl).trans hb, Ft, hs, hD⟩)
  have cK : ∀ mb W, CallsIn Fence.wide 5 Tryz.prog 74 #[.map mb] W fun e w' => e = .returned (.func (.func 112) #[] #[.pointer (some ⟨W.heap.size, 0, none⟩)]) ∧ w' = W.alloc (.cells #[.map mb] 142) := fun mb W => AnyZI.keys_in Tryz.keysA Fence.wide 5 trivial rfl mb W
  have cS := AnyZI.sorted_in Tryz.sortedA Fence.wide 5 trivial trivial trivial trivial rfl (by omega) (Tryz.sortsA _) (enters_of Tryz.func111 (by kernel_rfl) rfl) 112 #[.pointer (some ⟨W.heap.size, 0, none⟩)] trivial (enters_of Tryz.func112 (by kernel_rfl) rfl) _ _ hmax hbytes _ hseq
  change CallsIn _ _ Tryz.prog 73 _ _ _ at cS
  have CK := Lib.hid cK
  have CS := Lib.hid cS
  clear hown hseq cK cS
  refine callsIn_of_wp Tryz.func39 rfl trivial ?_ rfl
  simp only [Tryz.ntmps39, List.size_toArray, List.length_cons, List.length_nil, Nat.reduceAdd, Nat.reduceSub, Array.replicate_succ, Array.replicate_zero, List.push_toArray, List.append_toArray, List.nil_append, List.cons_append]
  have hfK : Fence.wide.fn 74 := trivial
  have hfS : Fence.wide.fn 73 := trivial
  gi_wp2_with (first
    | (gi_at_call 74; refine (CK.out _ _).mono ?_; rintro e w' ⟨rfl, rfl⟩)
    | (gi_at_call 73; refine CS.out.mono ?_; rintro e w' ⟨v, ss, rfl, hS, hrow, hnil, hb⟩))
  have HB := Lib.hid (((Below.refl _ W).alloc (Nat.le_refl _) _).trans (hb.mono (by simp)))
  have HR := Lib.hid (ownsRow_base_a hrow (by simp : W.heap.size ≤ _))
  clear hb hrow
  go_ret
  exact ⟨v, ss, rfl, hS, HR.out, hnil, HB.out⟩
theorem merge_up {ss : List Int} {l : List (Nat × Th)} (hp : ss.Perm (l.map fun x => (x.1 : Int))) (hu : l.Pairwise fun a b => a.1 < b.1) : ss.mergeSort (fun x y => decide (x ≤ y)) = l.map fun x => (x.1 : Int) := by
  have h1 : (ss.mergeSort fun x y => decide (x ≤ y)).Perm (l.map fun x => (x.1 : Int)) := (List.mergeSort_perm ss _).trans hp
  have h2 : (ss.mergeSort fun x y => decide (x ≤ y)).Pairwise (fun x y => decide (x ≤ y) = true) :=
    List.pairwise_mergeSort (by intro a b c h1 h2; simp at *; omega) (by intro a b; simp; omega) ss
  have h3 : (l.map fun x => (x.1 : Int)).Pairwise (fun x y => decide (x ≤ y) = true) := by
    rw [List.pairwise_map]
    exact hu.imp (fun {a b} h => by simp; omega)
  exact h1.eq_of_pairwise (fun a b _ _ h4 h5 => by simp at *; omega) h2 h3
/-- The numbers of an agg's handles. -/
def hsL (l : List (Nat × Th)) : List Int := l.map fun x => (x.1 : Int)
set_option maxHeartbeats 1000000 in
theorem AHandles_c {w : World} {N p m : Nat} {l : List (Nat × Th)} {last : Nat} (h : AgAt w N p m l last) :
    Calls Tryz.prog 39 #[.pointer (some ⟨p, 0, none⟩)] w fun e w' => ∃ v, e = .returned v ∧ w'.ownsRow w.heap.size 3 1 v l.length (ints (hsL l)) ∧ Ext w w' := by
  obtain ⟨nn, hown, _⟩ := h.hm
  have hl := h.len
  have hsz : Maps.size (hD (l.map fun x => (x.1, x.2.v))) = l.length := by rw [hD_size, List.length_map]
  refine (keysSorted_c p m nn _ w w hown (by rw [hsz]; unfold maxLen; omega) (by rw [hsz]; omega) ((cell_of h.hp 0).trans rfl) h.ltp).mono ?_
  rintro e w' ⟨v, ss, rfl, hS, hrow, _, hx⟩
  have hk : intKeys (hD (l.map fun x => (x.1, x.2.v))) = l.map fun x => (x.1 : Int) := by rw [keys_hD, List.map_map]; rfl
  rw [hk] at hS
  rw [merge_up hS h.up, hS.length_eq, List.length_map] at hrow
  exact ⟨v, rfl, hrow, hx⟩
end Go.Proofs.YtmalncfcgcebhaaGreatDoor
namespace Go.Proofs.YtmalncfcgcebhaaGreatDoor
set_option linter.unusedVariables false
open Go.Proofs Go.RowKit
set_option maxRecDepth 100000 in
theorem ta_fails (w : World) : ∃ T cs E, (Instr.typeAssert (.iface 134 (.agg #[])) 89 132 false).run Tryz.prog w = .halt (.panic (.iface T (.pointer (some ⟨w.heap.size, 0, none⟩)))) (w.alloc (.cells cs E)) := ⟨_, _, _, rfl⟩
set_option maxRecDepth 100000 in
theorem MustNumber_no (w : World) : Calls Tryz.prog 69 #[.iface 134 (.agg #[])] w fun e w' => ∃ u pv, e = .panicked [{ v := .iface u pv, recovered := false }] ∧ Ext w w' := by
  obtain ⟨T, cs, E, ht⟩ := ta_fails w
  go_enter Tryz.func69, Tryz.ntmps69
  go_wp2
  exact ⟨rfl, _, _, rfl, Ext.alloc' _ _⟩
theorem nof_idle (a b : Nat) (w : World) :
    CallsD Tryz.prog 88 #[.pointer (some ⟨a, 0, none⟩), .pointer (some ⟨b, 0, none⟩)] .returning w fun e u' w' => e = .returned (.tuple #[]) ∧ u' = .returning ∧ w' = w := by
  refine callsD_of_wpS Tryz.func88 rfl fun c₀ cs hu => ?_
  apply wpS_seq
  apply wpS_region
  simp [wpOpsS, go_sem, recoverD, hu, Tryz.ntmps88, Exit.thenS]
  refine wpS_cond (t := false) (by simp [Act.eval, Array.replicate]) ?_
  simp only [Bool.false_eq_true, if_false]
  refine wpS_of_wp (wp_skip ?_)
  cases c₀
  simp_all [bodyPostS, results, Tryz.results88]
set_option maxRecDepth 100000 in
theorem nof_panic (a b : Nat) (x y : Int) (u : TypeId) (pv : Value) (older : List PanicEntry) (w : World) (ha : w.heap[a]? = some (.cells #[.int .i64 x] 2 (0, 0))) (hb : w.heap[b]? = some (.cells #[.int .i64 y] 41 (0, 0))) :
    CallsD Tryz.prog 88 #[.pointer (some ⟨a, 0, none⟩), .pointer (some ⟨b, 0, none⟩)] (.panicking ({ v := .iface u pv, recovered := false } :: older)) w fun e u' w' =>
      e = .returned (.tuple #[]) ∧ u' = .panicking ({ v := .iface u pv, recovered := true } :: older) ∧ w' = (w.setCell ⟨a, 0, none⟩ (.int .i64 0)).setCell ⟨b, 0, none⟩ (.int .i64 14) := by
  have c0 := (cell_of ha 0).trans rfl
  have f0 := frozen_of ha 0
  have c1 := (cell_of hb 0).trans rfl
  have f1 := frozen_of hb 0
  have hne : b ≠ a := by
    rintro rfl
    rw [ha] at hb
    simp at hb
  refine callsD_of_wpS Tryz.func88 rfl fun c₀ cs hu => ?_
  apply wpS_seq
  apply wpS_region
  simp [wpOpsS, go_sem, recoverD, hu, Tryz.ntmps88, Exit.thenS]
  refine wpS_cond (t := true) (by simp [Act.eval, Array.replicate]) ?_
  simp only [if_true]
  apply wpS_region
  have hb' : (w.setCell ⟨a, 0, none⟩ (.int .i64 0)).heap[b]? = some (.cells #[.int .i64 y] 41 (0, 0)) := (setCell_other _ _ hne).trans hb
  have d1 : (w.setCell ⟨a, 0, none⟩ (.int .i64 0)).cell? ⟨b, 0, none⟩ = some (.int .i64 y) := (cell_of hb' 0).trans rfl
  have g1 := frozen_of hb' 0
  have c0' : w.cell? ⟨a, 0, none⟩ = some (.int .i64 x) := c0
  simp [wpOpsS, go_sem, c0', f0, d1, g1, bodyPostS, results, Tryz.results88]
theorem NumberOf_yes (n : Int) (w : World) : Calls Tryz.prog 45 #[.iface 132 (.agg #[.int .i64 n])] w fun e w' => e = .returned (.tuple #[.int .i64 n, .int .i64 0]) ∧ Ext w w' := by
  have hmf : ∀ (fn : Fn) (first cap : Array Value) (w : World), (Instr.makeFunc fn first cap).run Tryz.prog w = .ok (.func fn first cap) w := fun _ _ _ _ => rfl
  go_enter_defers Tryz.func45, Tryz.ntmps45
  go_wp2_with fail
  refine Calls.mono (MustNumber_yes n _) ?_
  rintro e w1 ⟨rfl, rfl⟩
  go_wp2
  refine leaves_cons (f := 88) (args := #[.pointer (some ⟨w.heap.size, 0, none⟩), .pointer (some ⟨w.heap.size + 1, 0, none⟩)]) (by simp) (by simp [go_sem]) ?_
  refine (nof_idle _ _ _).mono ?_
  rintro e u' w'' ⟨rfl, rfl, rfl⟩
  have hx : Ext w ((w.alloc (.cells #[.int .i64 n] 2)).alloc (.cells #[.int .i64 0] 41)) := (Ext.alloc' _ _).allocR _
  have HX := Lib.hid hx
  clear hx
  simp [Leaves, settle, results, Tryz.results45, go_sem]
  exact HX.out
theorem NumberOf_no (w : World) : Calls Tryz.prog 45 #[.iface 134 (.agg #[])] w fun e w' => e = .returned (.tuple #[.int .i64 0, .int .i64 14]) ∧ Ext w w' := by
  have hmf : ∀ (fn : Fn) (first cap : Array Value) (w : World), (Instr.makeFunc fn first cap).run Tryz.prog w = .ok (.func fn first cap) w := fun _ _ _ _ => rfl
  go_enter_defers Tryz.func45, Tryz.ntmps45
  go_wp2_with fail
  refine Calls.mono (MustNumber_no _) ?_
  rintro e w1 ⟨u, pv, rfl, hx⟩
  go_wp2
  obtain ⟨W1, hW1⟩ : ∃ W1, (w.alloc (.cells #[.int .i64 0] 2)).alloc (.cells #[.int .i64 0] 41) = W1 := ⟨_, rfl⟩
  rw [hW1] at hx
  have hx0 : Ext w W1 := by rw [← hW1]; exact (Ext.alloc' _ _).allocR _
  have ha : w1.heap[w.heap.size]? = some (.cells #[.int .i64 0] 2 (0, 0)) := hx.keep (by rw [← hW1, heap_old _ _ (by simp)]; exact heap_at _ _ rfl)
  have hb : w1.heap[w.heap.size + 1]? = some (.cells #[.int .i64 0] 41 (0, 0)) := hx.keep (by rw [← hW1]; exact heap_at _ _ (by simp))
  have HX := Lib.hid (hx0.trans' hx)
  clear hW1 hx hx0
  refine leaves_cons (f := 88) (args := #[.pointer (some ⟨w.heap.size, 0, none⟩), .pointer (some ⟨w.heap.size + 1, 0, none⟩)]) (by simp) (by simp [go_sem]) ?_
  refine (nof_panic _ _ 0 0 u pv [] _ ha hb).mono ?_
  rintro e u' w'' ⟨rfl, rfl, rfl⟩
  have ha' : ((w1.setCell ⟨w.heap.size, 0, none⟩ (.int .i64 0)).setCell ⟨w.heap.size + 1, 0, none⟩ (.int .i64 14)).heap[w.heap.size]? = some (.cells #[.int .i64 0] 2 (0, 0)) := (setCell_other _ _ (by omega)).trans (setCell_same ha 0 _)
  have hb' : ((w1.setCell ⟨w.heap.size, 0, none⟩ (.int .i64 0)).setCell ⟨w.heap.size + 1, 0, none⟩ (.int .i64 14)).heap[w.heap.size + 1]? = some (.cells #[.int .i64 14] 41 (0, 0)) := setCell_same ((setCell_other _ _ (by omega)).trans hb) 0 _
  have HX2 := Lib.hid (show Ext w ((w1.setCell ⟨w.heap.size, 0, none⟩ (.int .i64 0)).setCell ⟨w.heap.size + 1, 0, none⟩ (.int .i64 14)) from (HX.out.setR (p := ⟨w.heap.size, 0, none⟩) (Nat.le_refl _) _).setR (p := ⟨w.heap.size + 1, 0, none⟩) (Nat.le_succ _) _)
  have c0 : _ = some (Value.int .i64 0) := cell_of ha' 0
  have c1 : _ = some (Value.int .i64 14) := cell_of hb' 0
  generalize (w1.setCell ⟨w.heap.size, 0, none⟩ (.int .i64 0)).setCell ⟨w.heap.size + 1, 0, none⟩ (.int .i64 14) = W3 at *
  clear ha' hb'
  simp [Leaves, settle, results, Tryz.results45, go_sem, c0, c1]
  exact HX2.out
end Go.Proofs.YtmalncfcgcebhaaGreatDoor
namespace Go.Proofs.YtmalncfcgcebhaaGreatDoor
set_option linter.unusedVariables false
open Go.Proofs Go.RowKit
theorem doA_last (S : St) (c : Cmd) : (doA S c).2.last ≤ S.last + 1 := by
  cases c with
  | create B R W M s =>
    show (createF S _).2.last ≤ _
    unfold createF madeF
    repeat' split
    all_goals simp
  | add h nm name key d =>
    show (addF S h nm key d).2.last ≤ _
    unfold addF
    repeat' split
    all_goals simp
  | query what h l =>
    show (if what = ⟨#[100, 114, 111, 112]⟩ then dropF S h else totalF S h).2.last ≤ _
    unfold dropF totalF
    repeat' split
    all_goals simp
  | _ => exact Nat.le_succ _
theorem lineF_P {D : St → Cmd → (Option Rep × Int) × St} {P : St → Prop} (hD : ∀ S c, P S → P (D S c).2) (S : St) (l : List UInt8) (h : P S) : P (lineF D S l).2 := by
  unfold lineF
  generalize parseS ⟨l.toArray⟩ = R
  obtain ⟨r, at_, c⟩ := R
  dsimp only
  split
  · cases r with
    | none => exact h
    | some x => exact hD S x h
  · exact h
theorem lineF_last {D : St → Cmd → (Option Rep × Int) × St} (hD : ∀ S c, (D S c).2.last ≤ S.last + 1) (S : St) (l : List UInt8) : (lineF D S l).2.last ≤ S.last + 1 := by
  unfold lineF
  generalize parseS ⟨l.toArray⟩ = R
  obtain ⟨r, at_, c⟩ := R
  dsimp only
  split
  · cases r with
    | none => exact Nat.le_succ _
    | some x => exact hD S x
  · exact Nat.le_succ _
theorem run_P {F : St → List UInt8 → Option (List UInt8) × St} {P : St → Prop} (hF : ∀ S l, P S → P (F S l).2) {S : St} (h : P S) (L : List (List UInt8)) : P (runK F S L).2 := by
  have key : ∀ (L : List (List UInt8)) (q : List (List UInt8) × St), P q.2 → P (L.foldl (stepR F) q).2 := by
    intro L
    induction L with
    | nil => intro q hq; exact hq
    | cons x L ih => intro q hq; exact ih _ (hF _ _ hq)
  exact key L ([], S) h
theorem run_last {F : St → List UInt8 → Option (List UInt8) × St} (hF : ∀ S l, (F S l).2.last ≤ S.last + 1) (S : St) (L : List (List UInt8)) : (runK F S L).2.last ≤ S.last + L.length := by
  have key : ∀ (L : List (List UInt8)) (q : List (List UInt8) × St), (L.foldl (stepR F) q).2.last ≤ q.2.last + L.length := by
    intro L
    induction L with
    | nil => intro q; exact Nat.le_refl _
    | cons x L ih =>
      intro q
      have h1 := ih (stepR F q x)
      have h2 : (stepR F q x).2.last ≤ q.2.last + 1 := hF _ _
      rw [List.foldl_cons, List.length_cons]
      omega
  exact key L ([], S)
def okAB : Cmd → Bool
  | .create _ _ _ _ s => decide (0 ≤ s ∧ s ≤ 18446744073709551615)
  | .add h _ _ key d => decide ((-9223372036854775808 ≤ h ∧ h ≤ 9223372036854775807) ∧ (0 ≤ key ∧ key ≤ 18446744073709551615) ∧ (-9223372036854775808 ≤ d ∧ d ≤ 9223372036854775807))
  | .query what h _ => (decide (what = ⟨#[100, 114, 111, 112]⟩) || decide (what = ⟨#[116, 111, 116, 97, 108]⟩)) && decide (-9223372036854775808 ≤ h ∧ h ≤ 9223372036854775807)
  | _ => false
theorem okA_of {c : Cmd} (h : okAB c = true) : okA c := by
  cases c with
  | create B R W M s =>
    have := of_decide_eq_true h
    unfold okA U64; omega
  | add k nm name key d =>
    have h3 : decide ((-9223372036854775808 ≤ k ∧ k ≤ 9223372036854775807) ∧ (0 ≤ key ∧ key ≤ 18446744073709551615) ∧ (-9223372036854775808 ≤ d ∧ d ≤ 9223372036854775807)) = true := h
    have h4 := of_decide_eq_true h3
    unfold okA I64 U64; omega
  | query what k l =>
    have h2 := h
    unfold okAB at h2
    rw [Bool.and_eq_true, Bool.or_eq_true, decide_eq_true_iff, decide_eq_true_iff, decide_eq_true_iff] at h2
    exact h2
  | _ => cases h
/-- A line that is long by no means, and says one of the four, or nothing, or is none. -/
def okL (l : List UInt8) : Bool :=
  match parseS ⟨l.toArray⟩ with
  | (r, at_, c) => decide (l.length ≤ 100000 ∧ (-9223372036854775808 ≤ at_ ∧ at_ ≤ 9223372036854775807) ∧ (-9223372036854775808 ≤ c ∧ c ≤ 9223372036854775807)) && (match r with | none => true | some x => decide (c = 0) && okAB x)
theorem okL_is {S : St} (hS : AllSt S) (hl : S.last < 1000000) {s : ByteArray} (h : okL s.data.toList = true) : LineIs S s (lineF doA S s.data.toList) := by
  have e1 : (⟨s.data.toList.toArray⟩ : ByteArray) = s := by cases s; simp
  unfold okL at h
  rw [e1] at h
  have h5 : ∀ r at_ c, parseS s = (r, at_, c) → (decide (s.data.toList.length ≤ 100000 ∧ (-9223372036854775808 ≤ at_ ∧ at_ ≤ 9223372036854775807) ∧ (-9223372036854775808 ≤ c ∧ c ≤ 9223372036854775807)) && (match r with | none => true | some x => decide (c = 0) && okAB x)) = true := by
    intro r at_ c he
    rw [he] at h
    exact h
  have h6 := h5 (parseS s).1 (parseS s).2.1 (parseS s).2.2 rfl
  rw [Bool.and_eq_true, decide_eq_true_iff] at h6
  obtain ⟨⟨h7, h8, h9⟩, h10⟩ := h6
  refine lineF_is ?_ ⟨h8, h9⟩ ?_ ?_
  · rw [Lib.size_eq]; omega
  · intro hn
    cases hr : (parseS s).1 with
    | none => rfl
    | some x =>
      rw [hr] at h10
      simp only [Bool.and_eq_true, decide_eq_true_iff] at h10
      exact absurd h10.1 hn
  · intro c hc
    rw [hc] at h10
    simp only [Bool.and_eq_true, decide_eq_true_iff] at h10
    exact doA_is S hS hl c (okA_of h10.2)
theorem all0 : AllSt st0 := fun x hx => by cases hx
theorem RunA_c (t : ByteArray) (ht : t.size ≤ 100000) (hok : ∀ l ∈ splitL t.data.toList, okL l = true) (w : World) (hT : Tabs w) :
    Calls Tryz.prog 41 #[.string t] w fun e w' => ∃ v, e = .returned v ∧ w'.ownsRow w.heap.size 9 1 v (runK (lineF doA) st0 (splitL t.data.toList)).1.length (strVs (runK (lineF doA) st0 (splitL t.data.toList)).1) ∧ Ext w w' := by
  have hl : ∀ k, (runK (lineF doA) st0 ((splitL t.data.toList).take k)).2.last < 1000000 := fun k => by
    have h1 := run_last (lineF_last doA_last) st0 ((splitL t.data.toList).take k)
    have h2 := splitL_len t.data.toList
    rw [← Lib.size_eq] at h2
    rw [List.length_take] at h1
    have h3 : st0.last = 0 := rfl
    omega
  refine Run_c (lineF doA) t ht (fun k s hs => ?_) hl w hT
  exact okL_is (run_P (fun S l hS => lineF_P (fun S c h => doA_st S h c) S l hS) all0 _) (hl k) (hok _ (List.mem_of_getElem? hs))
def shownT : ByteArray := ⟨#[99, 114, 101, 97, 116, 101, 32, 50, 32, 49, 32, 52, 32, 49, 32, 48, 10, 97, 100, 100, 32, 49, 32, 51, 32, 53, 10, 10, 116, 111, 116, 97, 108, 32, 49, 10, 100, 114, 111, 112, 32, 50, 10, 103, 111, 10]⟩
def shownR : List (List UInt8) := [[104, 97, 110, 100, 108, 101, 32, 49], [100, 111, 110, 101], [110, 117, 109, 98, 101, 114, 32, 53], [101, 114, 114, 111, 114, 32, 49, 48], [101, 114, 114, 111, 114, 32, 49, 50, 32, 97, 116, 32, 48]]
theorem shown_run : (runK (lineF doA) st0 (splitL shownT.data.toList)).1 = shownR := by kernel_rfl
theorem shown_ok : (splitL shownT.data.toList).all okL = true := by kernel_rfl
theorem ShownRun_c (w : World) (hT : Tabs w) :
    Calls Tryz.prog 41 #[.string shownT] w fun e w' => ∃ v, e = .returned v ∧ w'.ownsRow w.heap.size 9 1 v 5 (strVs shownR) ∧ Ext w w' := by
  have h := RunA_c shownT (by decide) (List.all_eq_true.1 shown_ok) w hT
  rw [shown_run] at h
  exact h
end Go.Proofs.YtmalncfcgcebhaaGreatDoor
namespace Go.Proofs.YtmalncfcgcebhaaGreatDoor
set_option linter.unusedVariables false
open Go.Proofs Go.RowKit
attribute [local go_sem] Oper.semAt_some
/-- A row's cells, of any values. -/
theorem own_any {w : World} {base g : Nat} {e : TypeId} {n cap : Nat} {xs : List Value} (h : w.ownsRow base e 1 (.slice (some ⟨g, 0, none⟩) n cap) n xs) : g < w.heap.size ∧ ∀ j (hj : j < n) v, xs[j]? = some v → w.cell? ⟨g, j, none⟩ = some v := by
  obtain ⟨h1, ⟨h2, _⟩ | ⟨g', cap', cur, h2, h3, h4, h5, h6, h7, h8⟩⟩ := h
  · cases h2
  · cases h2
    refine ⟨lt_of h4, fun j hj v hv => ?_⟩
    rw [cell_of h4]
    rw [← h8, Nat.mul_one, List.getElem?_take, if_pos hj] at hv
    rw [← hv, Array.getElem?_toList]
theorem own_some {w : World} {base : Nat} {e : TypeId} {v : Value} {n : Nat} {xs : List Value} (h : w.ownsRow base e 1 v n xs) (hn : n ≠ 0) : ∃ g cap, v = .slice (some ⟨g, 0, none⟩) n cap := by
  obtain ⟨h1, ⟨h2, h3⟩ | ⟨g', cap', cur, h2, h3⟩⟩ := h
  · exact absurd h3 hn
  · exact ⟨_, _, h2⟩
set_option maxRecDepth 100000 in
set_option maxHeartbeats 8000000 in
theorem shown26_c (w : World) (hT : Tabs w) : Calls Tryz.prog 33 #[] w fun e w' => e = .returned (.bool true) ∧ Ext w w' := by
  have HT := Lib.hid hT
  have HR := Lib.hid (ShownRun_c w hT)
  unfold shownT at HR
  clear hT
  go_enter Tryz.func33, Tryz.ntmps33
  go_wp2_with fail
  refine Calls.mono HR.out ?_
  rintro e w1 ⟨v, rfl, hv, hx1⟩
  obtain ⟨g, cap, rfl⟩ := own_some hv (by decide)
  obtain ⟨hgl, hg⟩ := own_any hv
  have c0 := hg 0 (by decide) _ rfl
  have c1 := hg 1 (by decide) _ rfl
  have c2 := hg 2 (by decide) _ rfl
  have c3 := hg 3 (by decide) _ rfl
  have c4 := hg 4 (by decide) _ rfl
  unfold strV at c0 c1 c2 c3 c4
  have HX1 := Lib.hid hx1
  clear hx1 hg hv
  go_wp2_with fail
  refine Calls.mono (NumberOf_yes _ _) ?_
  rintro e w2 ⟨rfl, hx2⟩
  have HX2 := Lib.hid (HX1.out.trans' hx2)
  go_wp2_with fail
  refine Calls.mono (NumberOf_no _) ?_
  rintro e w3 ⟨rfl, hx3⟩
  have HX3 := Lib.hid (HX2.out.trans' hx3)
  go_wp2_with fail
  refine Calls.mono (AsNumber_yes _ _) ?_
  rintro e w4 ⟨rfl, hx4⟩
  have HX4 := Lib.hid (HX3.out.trans' hx4)
  go_wp2_with fail
  refine Calls.mono (AsNumber_key _ _) ?_
  rintro e w5 ⟨rfl, hx5⟩
  have hx15 := ((hx2.trans' hx3).trans' hx4).trans' hx5
  have HX5 := Lib.hid (HX4.out.trans' hx5)
  have k0 := (hx15.cell hgl).trans c0
  have k1 := (hx15.cell hgl).trans c1
  have k2 := (hx15.cell hgl).trans c2
  have k3 := (hx15.cell hgl).trans c3
  have k4 := (hx15.cell hgl).trans c4
  have kl : g < w5.heap.size := Nat.lt_of_lt_of_le hgl hx15.size
  clear c0 c1 c2 c3 c4 hx2 hx3 hx4 hx5 hx15
  go_wp2_with fail
  refine Calls.mono (MustNumber_yes _ _) ?_
  rintro e w6 ⟨rfl, rfl⟩
  go_wp2_with fail
  refine Calls.mono (AText_list0 _) ?_
  rintro e w7 ⟨rfl, hx7⟩
  unfold strV
  have HX7 := Lib.hid (HX5.out.trans' hx7)
  clear hx7
  go_wp2
  refine bodyPost_ret (results_tmp rfl _ _ _) rfl ?_
  exact ⟨rfl, HX7.out⟩
end Go.Proofs.YtmalncfcgcebhaaGreatDoor
namespace Go.Proofs.YtmalncfcgcebhaaGreatDoor
set_option linter.unusedVariables false
open Go.RowKit
theorem and_16 (x : Int) (h0 : 0 ≤ x) (h1 : x < 18446744073709551616) : bits BinOp.and IntKind.u64 x 65535 = x % 65536 := and_mask x 16 (by decide) h0 h1
theorem w16 (x : Int) : wrap64 (x % 65536) = x % 65536 := by unfold wrap64; omega
theorem wa16 (x : Int) (h : U64 x) : wrap64 (bits BinOp.and IntKind.u64 x 65535) = x % 65536 := by rw [and_16 x h.1 h.2, w16]
/-- A number's digit to base 65536. -/
def dg (x : Int) (i : Nat) : Int := x / (65536 ^ i : Int) % 65536
theorem dg_bd (x : Int) (i : Nat) : 0 ≤ dg x i ∧ dg x i ≤ 65535 := by unfold dg; omega
theorem dg0 (x : Int) : dg x 0 = x % 65536 := by unfold dg; rw [show (65536 : Int) ^ 0 = 1 from rfl]; omega
theorem dg1 (x : Int) : dg x 1 = x / 65536 % 65536 := rfl
theorem dg2 (x : Int) : dg x 2 = x / 4294967296 % 65536 := rfl
theorem dg3 (x : Int) : dg x 3 = x / 281474976710656 % 65536 := rfl
theorem dg4 (x : Int) : dg x 4 = x / 18446744073709551616 % 65536 := rfl
theorem dg5 (x : Int) : dg x 5 = x / 1208925819614629174706176 % 65536 := rfl
theorem dg6 (x : Int) : dg x 6 = x / 79228162514264337593543950336 % 65536 := rfl
theorem dg7 (x : Int) : dg x 7 = x / 5192296858534827628530496329220096 % 65536 := rfl
theorem dg8 (x : Int) : dg x 8 = x / 340282366920938463463374607431768211456 % 65536 := rfl
theorem dg9 (x : Int) : dg x 9 = x / 22300745198530623141535718272648361505980416 % 65536 := rfl
def longA (d : Nat → Int) : Value := .agg #[.int .i64 (d 0), .int .i64 (d 1), .int .i64 (d 2), .int .i64 (d 3), .int .i64 (d 4), .int .i64 (d 5), .int .i64 (d 6), .int .i64 (d 7), .int .i64 (d 8), .int .i64 (d 9)]
def longV (x : Int) : Value := longA (dg x)
theorem hid_lo (x : Int) : lo x % 65536 = dg x 0 ∧ lo x / 65536 % 65536 = dg x 1 ∧ lo x / 4294967296 % 65536 = dg x 2 ∧ lo x / 281474976710656 % 65536 = dg x 3 := by
  rw [dg0, dg1, dg2, dg3]; unfold lo
  refine ⟨?_, ?_, ?_, ?_⟩ <;> omega
theorem div_u {x k : Int} (h : U64 x) (hk : 1 ≤ k) : U64 (x / k) := by
  refine ⟨Int.ediv_nonneg h.1 (by omega), ?_⟩
  have := Int.ediv_le_self k h.1
  have := h.2
  omega
set_option maxHeartbeats 1000000 in
theorem Below_c (d : Nat → Int) (h0 : 0 ≤ d 9) (h1 : d 9 ≤ 65535) (w : World) :
    Calls Tryz.prog 113 #[longA d] w fun e w' => e = .returned (.bool (decide (32768 ≤ d 9))) ∧ Ext w w' := by
  unfold longA
  go_enter Tryz.func113, Tryz.ntmps113
  go_wp2
  go_ret
  exact ⟨rfl, by (repeat' (first | exact Ext.refl _ | assumption | apply Ext.allocR | apply Ext.drewR | apply Ext.drewNR | (refine Ext.trans' ?_ (by assumption))))⟩
end Go.Proofs.YtmalncfcgcebhaaGreatDoor
namespace Go.Proofs.YtmalncfcgcebhaaGreatDoor
set_option linter.unusedVariables false
open Go.RowKit
theorem uu_dg (n : Int) : uu n % 65536 = dg n 0 ∧ uu n / 65536 % 65536 = dg n 1 ∧ uu n / 4294967296 % 65536 = dg n 2 ∧ uu n / 281474976710656 % 65536 = dg n 3 := hid_lo n
theorem hi_dg (n : Int) (h : I64 n) : ∀ i, 4 ≤ i → i < 10 → dg n i = (bif decide (n < 0) then 65535 else 0) := by
  intro i h1 h2
  unfold I64 at h
  have hc : i = 4 ∨ i = 5 ∨ i = 6 ∨ i = 7 ∨ i = 8 ∨ i = 9 := by omega
  by_cases hx : n < 0 <;> simp only [hx, decide_true, decide_false, cond_true, cond_false] <;> rcases hc with rfl | rfl | rfl | rfl | rfl | rfl
  all_goals first | rw [dg4] | rw [dg5] | rw [dg6] | rw [dg7] | rw [dg8] | rw [dg9]
  all_goals omega
set_option maxRecDepth 20000 in
set_option maxHeartbeats 4000000 in
theorem OfInt_core (n : Int) (b : Bool) (hb : decide (n < 0) = b) (hd : ∀ i, 4 ≤ i → i < 10 → dg n i = (bif b then 65535 else 0)) (w : World) :
    Calls Tryz.prog 76 #[.int .i64 n] w fun e w' => e = .returned (longV n) ∧ Ext w w' := by
  obtain ⟨y1, y2⟩ := uu_u n
  have e1 := u64_wrap n
  obtain ⟨g0, g1, g2, g3⟩ := uu_dg n
  have a4 := (wa16 (uu n) (uu_u _)).trans g0
  have a5 := (wa16 (uu n / 65536) (div_u (uu_u _) (by decide))).trans g1
  have a6 := (wa16 (uu n / 4294967296) (div_u (uu_u _) (by decide))).trans g2
  have a7 := (wa16 (uu n / 281474976710656) (div_u (uu_u _) (by decide))).trans g3
  have HD := Lib.hid hd
  clear hd g0 g1 g2 g3
  cases b
  all_goals
    go_enter Tryz.func76, Tryz.ntmps76
    go_wp2
    refine wp_loop_rounds 11 ?_
    iterate 10
      rw [rounds_succ]
      go_wp2_with fail
    rw [rounds_succ]
    go_wp2_with fail
    refine bodyPost_ret (v := longV n) ?_ rfl ⟨rfl, by (repeat' (first | exact Ext.refl _ | assumption | apply Ext.allocR | apply Ext.drewR | apply Ext.drewNR | (refine Ext.trans' ?_ (by assumption))))⟩
    unfold longV longA
    rw [HD.out 4 (by decide) (by decide), HD.out 5 (by decide) (by decide), HD.out 6 (by decide) (by decide), HD.out 7 (by decide) (by decide), HD.out 8 (by decide) (by decide), HD.out 9 (by decide) (by decide)]
    simp [results, Tryz.results76, go_sem]
theorem OfInt_c (n : Int) (h : I64 n) (w : World) :
    Calls Tryz.prog 76 #[.int .i64 n] w fun e w' => e = .returned (longV n) ∧ Ext w w' := OfInt_core n _ rfl (hi_dg n h) w
end Go.Proofs.YtmalncfcgcebhaaGreatDoor
namespace Go.Proofs.YtmalncfcgcebhaaGreatDoor
set_option linter.unusedVariables false
open Go.RowKit
theorem fill10 (s : Nat → Int) : fillA s 10 10 = #[.int .i64 (s 0), .int .i64 (s 1), .int .i64 (s 2), .int .i64 (s 3), .int .i64 (s 4), .int .i64 (s 5), .int .i64 (s 6), .int .i64 (s 7), .int .i64 (s 8), .int .i64 (s 9)] := by
  apply Array.ext
  · simp [fillA]
  · intro i h1 h2
    have hi : i < 10 := by simpa [fillA] using h1
    have hc : i = 0 ∨ i = 1 ∨ i = 2 ∨ i = 3 ∨ i = 4 ∨ i = 5 ∨ i = 6 ∨ i = 7 ∨ i = 8 ∨ i = 9 := by omega
    rcases hc with rfl | rfl | rfl | rfl | rfl | rfl | rfl | rfl | rfl | rfl <;> simp [fillA]
theorem pw_pos (i : Nat) : 0 < (65536 ^ i : Int) := Int.pow_pos (by decide)
end Go.Proofs.YtmalncfcgcebhaaGreatDoor
namespace Go.Proofs.YtmalncfcgcebhaaGreatDoor
set_option linter.unusedVariables false
open Go.RowKit
/-- What is left over when the digits from i on are divided by ten. -/
def rt (y : Int) (i : Nat) : Int := y / (65536 ^ i : Int) % 10
theorem rt_bd (y : Int) (i : Nat) : 0 ≤ rt y i ∧ rt y i ≤ 9 := by unfold rt; omega
theorem pw_succ (i : Nat) : (65536 ^ (i + 1) : Int) = 65536 ^ i * 65536 := Int.pow_succ _ _
theorem dv_ten (y : Int) (i : Nat) : y / 10 / (65536 ^ i : Int) = y / (65536 ^ i : Int) / 10 := by
  rw [Int.ediv_ediv_of_nonneg (by decide), Int.ediv_ediv_of_nonneg (by have := pw_pos i; omega), Int.mul_comm]
theorem ten_step (y : Int) (i : Nat) : (rt y (i + 1) * 65536 + dg y i) / 10 = dg (y / 10) i ∧ (rt y (i + 1) * 65536 + dg y i) % 10 = rt y i := by
  unfold rt dg
  rw [pw_succ, ← Int.ediv_ediv_of_nonneg (by have := pw_pos i; omega), dv_ten]
  generalize y / (65536 ^ i : Int) = q
  omega
theorem rt_top (y : Int) (h0 : 0 ≤ y) (h1 : y < 1461501637330902918203684832716283019655932542976) : rt y 10 = 0 := by
  unfold rt
  rw [Int.ediv_eq_zero_of_lt h0 (by have : (65536 ^ 10 : Int) = 1461501637330902918203684832716283019655932542976 := by decide
                                    omega)]
  rfl
theorem rt_zero (y : Int) : rt y 0 = y % 10 := by unfold rt; rw [show (65536 : Int) ^ 0 = 1 from rfl]; omega
theorem dv_succ (y : Int) (i : Nat) : y / (65536 ^ (i + 1) : Int) = y / (65536 ^ i : Int) / 65536 := by
  rw [pw_succ, ← Int.ediv_ediv_of_nonneg (by have := pw_pos i; omega)]
theorem dg_rest (y : Int) : ∀ n, (∀ i, i < n → dg y i = 0) → y = 65536 ^ n * (y / (65536 ^ n : Int)) := by
  intro n
  induction n with
  | zero => intro _; rw [show (65536 : Int) ^ 0 = 1 from rfl]; omega
  | succ n ih =>
    intro h
    have h1 := ih fun i hi => h i (by omega)
    have h2 := h n (by omega)
    unfold dg at h2
    rw [dv_succ, pw_succ, Int.mul_assoc]
    generalize y / (65536 ^ n : Int) = q at *
    have : 65536 * (q / 65536) = q := by omega
    rw [this]
    exact h1
/-- All digits are 0. -/
theorem dg_zero (y : Int) (h0 : 0 ≤ y) (h1 : y < 1461501637330902918203684832716283019655932542976) (h : ∀ i, i < 10 → dg y i = 0) : y = 0 := by
  have h2 := dg_rest y 10 h
  rw [Int.ediv_eq_zero_of_lt h0 (by have : (65536 ^ 10 : Int) = 1461501637330902918203684832716283019655932542976 := by decide
                                    omega)] at h2
  rw [h2, Int.mul_zero]
theorem dg_of_zero (i : Nat) : dg 0 i = 0 := by unfold dg; simp
/-- The digits of what is left to be told stand ahead of those that were told. -/
theorem dec_step {y : Nat} (s : List UInt8) : Lib.decDigits (y / 10) ++ (UInt8.ofNat (48 + y % 10) :: s) = (if y < 10 then [48] else []) ++ (Lib.decDigits y ++ s) := by
  by_cases h : y < 10
  · rw [if_pos h]
    have e : y / 10 = 0 := by omega
    rw [e, Lib.decDigits, dif_pos (by decide), Lib.decDigits, dif_pos h, Nat.mod_eq_of_lt h]
    rfl
  · rw [if_neg h]
    conv => rhs; rw [Lib.decDigits, dif_neg h]
    simp
end Go.Proofs.YtmalncfcgcebhaaGreatDoor
namespace Go.Proofs.YtmalncfcgcebhaaGreatDoor
set_option linter.unusedVariables false
open Go.Proofs Go.RowKit
/-- The digits of a number that is divided by ten: those below k are still to come. -/
def mixT (y : Int) (k : Nat) : Array Value := Array.ofFn fun j : Fin 10 => .int .i64 (if j.val < k then dg y j.val else dg (y / 10) j.val)
theorem mixT_at (y : Int) (k i : Nat) (h : i < 10) : (mixT y k)[i]? = some (.int .i64 (if i < k then dg y i else dg (y / 10) i)) := by simp [mixT, h]
theorem mixT_set (y : Int) (k : Nat) (h : k < 10) : (mixT y (k + 1)).setIfInBounds k (.int .i64 (dg (y / 10) k)) = mixT y k := by
  apply Array.ext
  · simp [mixT]
  · intro i h1 h2
    simp only [mixT, Array.size_setIfInBounds, Array.size_ofFn] at h1 h2
    rw [Array.getElem_setIfInBounds (by simpa [mixT] using h1)]
    simp only [mixT, Array.getElem_ofFn]
    by_cases e : k = i
    · subst e; simp
    · rw [if_neg e]
      by_cases h : i < k
      · rw [if_pos (by omega), if_pos h]
      · rw [if_neg (by omega), if_neg h]
theorem mixT_top (y : Int) : mixT y 10 = fillA (dg y) 10 10 := by
  apply Array.ext
  · simp [mixT, fillA]
  · intro i h1 h2
    simp only [mixT, Array.size_ofFn] at h1
    simp [mixT, fillA, h1]
theorem mixT_end (y : Int) : mixT y 0 = mixT (y / 10) 10 := by
  apply Array.ext
  · simp [mixT]
  · intro i h1 h2
    simp only [mixT, Array.size_ofFn] at h1
    simp [mixT, h1]
/-- Are the digits from k on 0? -/
def zeroT (y : Int) (k : Nat) : Bool := (List.range 10).all fun j => decide (j < k) || (dg (y / 10) j == 0)
theorem zeroT_iff (y : Int) (k : Nat) : zeroT y k = true ↔ ∀ j, k ≤ j → j < 10 → dg (y / 10) j = 0 := by
  unfold zeroT
  simp only [List.all_eq_true, List.mem_range, Bool.or_eq_true, decide_eq_true_eq, beq_iff_eq]
  exact ⟨fun h j h1 h2 => (h j h2).resolve_left (by omega), fun h j h2 => (Nat.lt_or_ge j k).imp id fun h1 => h j h1 h2⟩
theorem zeroT_top (y : Int) : zeroT y 10 = true := (zeroT_iff y 10).2 (fun j h1 h2 => by omega)
theorem zeroT_step (y : Int) {k : Nat} (h : k < 10) : zeroT y k = (zeroT y (k + 1) && (dg (y / 10) k == 0)) := by
  rw [Bool.eq_iff_iff, Bool.and_eq_true, zeroT_iff, zeroT_iff, beq_iff_eq]
  constructor
  · intro h1
    exact ⟨fun j h2 h3 => h1 j (by omega) h3, h1 k (Nat.le_refl _) h⟩
  · rintro ⟨h1, h2⟩ j h3 h4
    by_cases e : j = k
    · subst e; exact h2
    · exact h1 j (by omega) h4
theorem zeroT_zero {y : Int} (h0 : 0 ≤ y) (h1 : y < 1461501637330902918203684832716283019655932542976) : zeroT y 0 = decide (y < 10) := by
  rw [Bool.eq_iff_iff, zeroT_iff, decide_eq_true_iff]
  constructor
  · intro h
    have := dg_zero (y / 10) (by omega) (by omega) (fun i hi => h i (by omega) hi)
    omega
  · intro h j _ _
    have : y / 10 = 0 := by omega
    rw [this]
    exact dg_of_zero j
def lenV : Value → Nat
  | .string b => b.size
  | _ => 0
theorem dec_len : ∀ (k u : Nat), u < 10 ^ (k + 1) → (Lib.decDigits u).length ≤ k + 1 := by
  intro k
  induction k with
  | zero =>
    intro u h
    rw [Lib.decDigits, dif_pos (by simpa using h)]
    simp
  | succ k ih =>
    intro u h
    by_cases h2 : u < 10
    · rw [Lib.decDigits, dif_pos h2]; simp
    · rw [Lib.decDigits, dif_neg h2]
      have h3 : 10 ^ (k + 1 + 1) = 10 ^ (k + 1) * 10 := Nat.pow_succ ..
      have := ih (u / 10) (by omega)
      simp
      omega
theorem dec_pos' (u : Nat) : 0 < (Lib.decDigits u).length := by
  rw [Lib.decDigits]
  split <;> simp
theorem conv_one (W : World) (n : Int) : (convert 44 9 (.slice (some ⟨W.heap.size, 0, none⟩) 1 1)).run Tryz.prog (W.alloc (.cells #[.int .u8 n] 5)) = .ok (.string (strOfNums [n])) (W.alloc (.cells #[.int .u8 n] 5)) :=
  run_convert_bytes_arg _ 44 5 Tryz.underlying44 Tryz.underlying5 _ 0 1 1 [n] rfl (fun i hi => by
    obtain rfl : i = 0 := by omega
    exact (cell_of (heap_at W _ rfl) 0).trans rfl) 9 Tryz.underlying9
set_option maxRecDepth 20000 in
set_option maxHeartbeats 8000000 in
/-- The digits of a number that is not below 0. -/
theorem LTextPos_c (y : Int) (h0 : 0 ≤ y) (h1 : y < 730750818665451459101842416358141509827966271488) (w : World) :
    Calls Tryz.prog 75 #[longV y] w fun e w' => e = .returned (strV (Lib.decDigits y.toNat)) ∧ Ext w w' := by
  have hb : ∀ w1, Calls Tryz.prog 113 #[longV y] w1 fun e w' => e = .returned (.bool false) ∧ Ext w1 w' := fun w1 => by
    have hd := dg_bd y 9
    have := Below_c (dg y) hd.1 hd.2 w1
    rw [decide_eq_false (by rw [dg9]; omega)] at this
    exact this
  have HB := Lib.hid hb
  have hdl : (Lib.decDigits y.toNat).length ≤ 60 := dec_len 59 _ (by
    have h5 : (10 : Nat) ^ (59 + 1) = 1000000000000000000000000000000000000000000000000000000000000 := by decide
    omega)
  clear hb
  unfold longV longA at HB ⊢
  go_enter Tryz.func75, Tryz.ntmps75
  go_wp2_with fail
  refine Calls.mono (HB.out _) ?_
  rintro e w1 ⟨rfl, hx1⟩
  have hx0 := (Ext.alloc' w (.cells #[.int .i64 (dg y 0), .int .i64 (dg y 1), .int .i64 (dg y 2), .int .i64 (dg y 3), .int .i64 (dg y 4), .int .i64 (dg y 5), .int .i64 (dg y 6), .int .i64 (dg y 7), .int .i64 (dg y 8), .int .i64 (dg y 9)] 155)).trans' hx1
  have hm0 : w1.heap[w.heap.size]? = some (.cells (mixT y 10) 155 (0, 0)) := by
    rw [mixT_top, fill10]
    exact hx1.keep (heap_at _ _ rfl)
  have HX0 := Lib.hid hx0
  have HM0 := Lib.hid hm0
  clear hx0 hm0 hx1
  go_wp2_with fail
  go_loopw [4, 5, 6, 7, 8] (fun u4 u5 _ _ _ wr => ∃ (yk : Int) (sk : List UInt8) (zb : Bool), u4 = strV sk ∧ u5 = .bool zb ∧ wr.heap[w.heap.size]? = some (.cells (mixT yk 10) 155 (0, 0)) ∧ Ext w wr ∧ 0 ≤ yk ∧ yk < 730750818665451459101842416358141509827966271488 ∧ (zb = false → Lib.decDigits yk.toNat ++ sk = Lib.decDigits y.toNat) ∧ (zb = true → sk = Lib.decDigits y.toNat) ∧ sk.length ≤ 400 ∧ (sk = [] → zb = false)) (fun u4 _ _ _ _ _ => (Lib.decDigits y.toNat).length - lenV u4)
  case atStart =>
    exact ⟨y, [], false, rfl, rfl, HM0.out, HX0.out, h0, h1, fun _ => List.append_nil _, (fun h => (by cases h)), Nat.zero_le _, fun _ => rfl⟩
  case round =>
    obtain ⟨yk, sk, zb, rfl, rfl, hm, hE, hy0, hy1, hz0, hz1, hsl, hs0⟩ := hrel
    have HZ0 := Lib.hid hz0
    have HZ1 := Lib.hid hz1
    have HM := Lib.hid hm
    clear hz0 hz1 hm
    cases zb with
    | true =>
      have hsn : sk ≠ [] := fun h => by cases hs0 h
      have hsk := HZ1.out rfl
      obtain ⟨b, hb⟩ : ∃ b : ByteArray, b = ⟨sk.toArray⟩ := ⟨_, rfl⟩
      have hbe : b.toList.isEmpty = false := by
        rw [hb, Lib.toList_data]
        simpa using hsn
      have hbz : b.size ≤ 400 := by
        rw [hb, Lib.size_eq]
        simpa using hsl
      have hcat : (⟨#[]⟩ : ByteArray) ++ b = ⟨(Lib.decDigits y.toNat).toArray⟩ := by
        rw [hb, ← hsk]
        exact cat_str [] sk
      have HC := Lib.hid hcat
      rw [show strV sk = .string b from congrArg Value.string hb.symm]
      clear hsk hsn hs0 hcat hb
      go_wp2
      go_ret
      exact ⟨congrArg Ending.returned (congrArg Value.string HC.out), hE⟩
    | false =>
      go_wp2_with fail
      go_loopw [5, 6, 7, 8] (fun u5 u6 u7 _ wx => ∃ k : Nat, k ≤ 10 ∧ u7 = .int .i64 ((k : Int) - 1) ∧ u5 = .bool (zeroT yk k) ∧ u6 = .int .i64 (rt yk k) ∧ wx.heap[w.heap.size]? = some (.cells (mixT yk k) 155 (0, 0)) ∧ Ext w wx) (fun _ _ u7 _ _ => (intOf u7 + 1).toNat)
      case atStart =>
        exact ⟨10, Nat.le_refl _, rfl, by rw [zeroT_top], by rw [rt_top yk hy0 (by omega)], HM.out, hE⟩
      case round =>
        obtain ⟨k, hk, rfl, rfl, rfl, hmx, hEx⟩ := hrel
        by_cases hk0 : 0 < k
        · obtain ⟨j, rfl⟩ : ∃ j, k = j + 1 := ⟨k - 1, by omega⟩
          have hkj : ((j + 1 : Nat) : Int) - 1 = j := by omega
          rw [hkj]
          clear hkj
          have c0 := (cell_of hmx j).trans (mixT_at yk (j + 1) j (by omega))
          rw [if_pos (Nat.lt_succ_self j)] at c0
          have f0 := frozen_of hmx j
          have l0 := lt_of hmx
          have hsame := setCell_same hmx j (.int .i64 (dg (yk / 10) j))
          rw [mixT_set yk j (by omega)] at hsame
          have htz := zeroT_step yk (show j < 10 by omega)
          obtain ⟨t1, t2⟩ := ten_step yk j
          have hd1 := dg_bd yk j
          have hd2 := rt_bd yk (j + 1)
          have hd3 := dg_bd (yk / 10) j
          have hd4 := rt_bd yk j
          obtain ⟨d1, d2⟩ := hd1
          obtain ⟨d3, d4⟩ := hd2
          generalize hR : rt yk (j + 1) = R at *
          generalize hD : dg yk j = D at *
          generalize hD2 : dg (yk / 10) j = D2 at *
          generalize hR2 : rt yk j = R2 at *
          generalize hZ : zeroT yk (j + 1) = Z at *
          generalize hZ2 : zeroT yk j = Z2 at *
          have HMX := Lib.hid hsame
          have HR2 := Lib.hid hR2
          have HZ2 := Lib.hid hZ2
          have HX2 := Lib.hid (hEx.setR (p := ⟨w.heap.size, j, none⟩) (Nat.le_refl _) (.int .i64 D2))
          clear hmx hsame hR hD hD2 hR2 hZ hZ2
          cases Z
          · go_wp2_with fail
            go_roundw
            case rel =>
              exact ⟨j, by omega, rfl, by rw [HZ2.out, htz]; rfl, by rw [HR2.out, ← t2], HMX.out, HX2.out⟩
            case measure => simp only [intOf]; omega
          · by_cases hz : D2 = 0
            · subst hz
              go_wp2_with fail
              go_roundw
              case rel =>
                exact ⟨j, by omega, rfl, by rw [HZ2.out, htz]; rfl, by rw [HR2.out, ← t2], HMX.out, HX2.out⟩
              case measure => simp only [intOf]; omega
            · go_wp2_with fail
              go_roundw
              case rel =>
                exact ⟨j, by omega, rfl, by rw [HZ2.out, htz, Bool.true_and, beq_eq_false_iff_ne.2 hz], by rw [HR2.out, ← t2], HMX.out, HX2.out⟩
              case measure => simp only [intOf]; omega
        · obtain rfl : k = 0 := by omega
          have e0 : ((0 : Nat) : Int) - 1 = -1 := rfl
          rw [e0, rt_zero]
          have hlen : (strV sk) = .string ⟨sk.toArray⟩ := rfl
          obtain ⟨b, hb⟩ : ∃ b : ByteArray, b = ⟨sk.toArray⟩ := ⟨_, rfl⟩
          have hbz : b.size ≤ 400 := by
            rw [hb, Lib.size_eq]
            simpa using hsl
          rw [show strV sk = .string b from congrArg Value.string hb.symm]
          have HB3 := Lib.hid hb
          have HMX := Lib.hid hmx
          clear hb hmx hlen
          have kc := conv_one
          have hsz : (strOfNums [48 + yk % 10]).size = 1 := rfl
          go_wp2
          go_roundw
          case rel =>
            have hst : strOfNums [48 + yk % 10] ++ b = ⟨(UInt8.ofNat (48 + yk.toNat % 10) :: sk).toArray⟩ := by
              rw [HB3.out]
              refine (cat_str [UInt8.ofNat (48 + yk % 10).toNat] sk).trans ?_
              have : (48 + yk % 10).toNat = 48 + yk.toNat % 10 := by omega
              rw [this]
              rfl
            have hcon : Lib.decDigits yk.toNat ++ sk = Lib.decDigits y.toNat := by first | exact HZ0.out rfl | exact HZ0.out trivial
            have hds := dec_step (y := yk.toNat) sk
            rw [hcon] at hds
            have hlen : sk.length < (Lib.decDigits y.toNat).length := by
              rw [← hcon, List.length_append]
              have := dec_pos' yk.toNat
              omega
            have hq : (yk / 10).toNat = yk.toNat / 10 := by omega
            refine ⟨yk / 10, UInt8.ofNat (48 + yk.toNat % 10) :: sk, decide (yk < 10), congrArg Value.string hst, by rw [zeroT_zero hy0 (by omega)], ?_, hEx.allocR _, by omega, by omega, ?_, ?_, ?_, ?_⟩
            · rw [← mixT_end]
              exact (heap_old _ _ (lt_of HMX.out)).trans HMX.out
            · intro h
              have h10 := of_decide_eq_false h
              rw [hq, hds, if_neg (by omega)]
              rfl
            · intro h
              have h10 := of_decide_eq_true h
              rw [if_pos (by omega), show yk.toNat / 10 = 0 by omega, Lib.decDigits, dif_pos (by decide)] at hds
              exact (List.cons.inj hds).2
            · rw [List.length_cons]; omega
            · intro h; cases h
          case measure =>
            have hcon : Lib.decDigits yk.toNat ++ sk = Lib.decDigits y.toNat := by first | exact HZ0.out rfl | exact HZ0.out trivial
            have hlen : sk.length < (Lib.decDigits y.toNat).length := by
              rw [← hcon, List.length_append]
              have := dec_pos' yk.toNat
              omega
            have hbl : b.size = sk.length := by rw [HB3.out, Lib.size_eq]
            have : (strOfNums [48 + yk % 10] ++ b).size = 1 + b.size := by rw [ByteArray.size_append]; rfl
            have hls : lenV (strV sk) = sk.length := by
              show (ByteArray.mk sk.toArray).size = _
              rw [Lib.size_eq]
            rw [hls]
            simp only [lenV, this, hbl]
            omega
end Go.Proofs.YtmalncfcgcebhaaGreatDoor
namespace Go.Proofs.YtmalncfcgcebhaaGreatDoor
set_option linter.unusedVariables false
open Go.Proofs Go.RowKit
set_option maxHeartbeats 1000000 in
theorem RText_c (n : Int) (h0 : 0 ≤ n) (h1 : n ≤ 9223372036854775807) (w : World) : Calls Tryz.prog 40 #[.int .i64 n] w fun e w' => e = .returned (strV (Lib.itoa n)) ∧ Ext w w' := by
  have HO := fun w' => Lib.hid (OfInt_c n ⟨by omega, h1⟩ w')
  have HT := fun w' => Lib.hid (LTextPos_c n h0 (by omega) w')
  have hit : Lib.itoa n = Lib.decDigits n.toNat := by unfold Lib.itoa; rw [if_neg (by omega)]
  rw [hit]
  clear hit
  go_enter Tryz.func40, Tryz.ntmps40
  go_wp2_with fail
  refine Calls.mono (HO _).out ?_
  rintro e w1 ⟨rfl, hx1⟩
  have HX1 := Lib.hid hx1
  clear hx1
  have hlv : ∃ v, longV n = .agg v := ⟨_, rfl⟩
  generalize longV n = V at *
  obtain ⟨v, rfl⟩ := hlv
  go_wp2_with fail
  refine Calls.mono (HT _).out ?_
  rintro e w2 ⟨rfl, hx2⟩
  unfold strV
  go_wp2
  go_ret
  exact ⟨rfl, HX1.out.trans' hx2⟩
end Go.Proofs.YtmalncfcgcebhaaGreatDoor
namespace Go.Proofs.YtmalncfcgcebhaaGreatDoor
set_option linter.unusedVariables false
open Go.Proofs Go.RowKit
def CF1 : Cfg := ⟨1, 1, 1, 1, 0⟩
def T1 : AT := .st CF1 1 (zerosK CF1)
def createL : ByteArray := ⟨#[99, 114, 101, 97, 116, 101, 32, 49, 32, 49, 32, 49, 32, 49, 32, 48]⟩
theorem create_says : parseS createL = (some (.create 1 1 1 1 0), 0, 0) := by kernel_rfl
theorem create_ok : okL createL.data.toList = true := by kernel_rfl
theorem Create_is (S : St) (hS : AllSt S) (hl : S.last < 1000000) : LineIs S createL (some (ansT (madeF S T1).1), (madeF S T1).2) := by
  have h := okL_is hS hl (s := createL) create_ok
  have e : lineF doA S createL.data.toList = (some (ansT (madeF S T1).1), (madeF S T1).2) := by
    unfold lineF
    rw [show (⟨createL.data.toList.toArray⟩ : ByteArray) = createL from rfl, create_says]
    dsimp only
    rw [if_pos rfl]
    have : doA S (.create 1 1 1 1 0) = madeF S T1 := by
      show createF S CF1 = _
      unfold createF
      rw [if_pos (by decide)]
      rfl
    rw [this]
  rw [e] at h
  exact h
theorem Drop_is (S : St) (hS : AllSt S) (hl : S.last < 1000000) (k : Int) (h0 : 0 ≤ k) (h1 : k < 60) (s : ByteArray) (hs : s = ⟨([100, 114, 111, 112, 32] ++ Lib.itoa k).toArray⟩) : LineIs S s (some (ansT (dropF S k).1), (dropF S k).2) := by
  have hI : I64 k := ⟨by omega, by omega⟩
  have hlen := Lib.itoa_length_le k hI.1 hI.2
  have hd : s.data.toList = joinW (lineW [100, 114, 111, 112] [k]) := by rw [hs]; rfl
  have hz : s.size ≤ 65536 := by rw [Lib.size_eq, hs]; simp; omega
  have hp := line_says hd (c := .query ⟨#[100, 114, 111, 112]⟩ k []) ⟨by decide, by decide, by decide⟩ (by decide) hz (cmd_drop k hI _)
  have h := lineF_is (D := doA) (S := S) (s := s) (by omega) (by rw [hp]; exact ⟨by unfold I64; dsimp only; omega, by unfold I64; dsimp only; omega⟩) (by rw [hp]; intro h; exact absurd rfl h) (fun c hc => doA_is S hS hl c (by
    rw [hp] at hc
    cases hc
    exact ⟨.inl rfl, hI⟩))
  have e : lineF doA S s.data.toList = (some (ansT (dropF S k).1), (dropF S k).2) := by
    unfold lineF
    rw [show (⟨s.data.toList.toArray⟩ : ByteArray) = s by cases s; simp, hp]
    dsimp only
    rw [if_pos rfl]
    rfl
  rw [e] at h
  exact h
theorem err11 : errT 11 = [101, 114, 114, 111, 114, 32, 49, 49] := by kernel_rfl
theorem err10 : errT 10 = [101, 114, 114, 111, 114, 32, 49, 48] := by kernel_rfl
theorem len_of {l : List (Nat × Th)} {last : Nat} {S : St} (h : stOf l last = S) : l.length = S.l.length := by rw [← h, stOf_len]
/-- One goes. -/
theorem drop_len {α : Type} : ∀ {l : List (Nat × α)}, (l.Pairwise fun a b => a.1 < b.1) → ∀ {k : Int} {x : Nat × α}, l.find? (fun x => decide ((x.1 : Int) = k)) = some x → (dropL l k).length + 1 = l.length := by
  intro l
  induction l with
  | nil => intro _ k x h; cases h
  | cons a l ih =>
    intro hp k x h
    rw [List.pairwise_cons] at hp
    unfold dropL
    by_cases e : (a.1 : Int) = k
    · rw [List.filter_cons_of_neg (by simpa using e), List.length_cons]
      have : l.filter (fun x => !decide ((x.1 : Int) = k)) = l := by
        rw [List.filter_eq_self]
        intro b hb
        have := hp.1 b hb
        simp only [Bool.not_eq_true', decide_eq_false_iff_not]
        omega
      rw [this]
    · rw [List.filter_cons_of_pos (by simpa using e), List.length_cons, List.length_cons]
      rw [List.find?_cons_of_neg (by simpa using e)] at h
      exact congrArg Nat.succ (ih hp.2 h)
theorem st_up {l : List (Nat × Th)} {last : Nat} (h : l.Pairwise fun a b => a.1 < b.1) : (stOf l last).l.Pairwise fun a b => a.1 < b.1 := by
  unfold stOf
  rw [List.pairwise_map]
  exact h
/-- What is made, by how many there are. -/
theorem made_full {S : St} (h : 32 ≤ S.l.length) (T : AT) : (ansT (madeF S T).1, (madeF S T).2) = ([101, 114, 114, 111, 114, 32, 49, 49], S) := by
  unfold madeF ansT
  rw [if_pos h]
  dsimp only
  rw [if_neg (by decide), err11]
theorem made_free {S : St} (h : ¬ 32 ≤ S.l.length) (T : AT) : (ansT (madeF S T).1, (madeF S T).2) = ([104, 97, 110, 100, 108, 101, 32] ++ Lib.itoa ((S.last + 1 : Nat) : Int), ⟨S.l ++ [(S.last + 1, T)], S.last + 1⟩) := by
  unfold madeF ansT
  rw [if_neg h]
  dsimp only
  rw [if_pos rfl]
  rfl
theorem drop_two (S : St) (hu : S.l.Pairwise fun a b => a.1 < b.1) (k : Int) : (ansT (dropF S k).1 = [101, 114, 114, 111, 114, 32, 49, 48] ∧ (dropF S k).2 = S) ∨ (ansT (dropF S k).1 = [100, 111, 110, 101] ∧ (dropF S k).2.last = S.last ∧ (dropF S k).2.l.length + 1 = S.l.length) := by
  unfold dropF ansT
  split
  · refine .inl ⟨?_, rfl⟩
    dsimp only
    rw [if_neg (by decide), err10]
  · rename_i x hf
    refine .inr ⟨?_, rfl, drop_len hu hf⟩
    dsimp only
    rw [if_pos rfl]
    rfl
end Go.Proofs.YtmalncfcgcebhaaGreatDoor
namespace Go.Proofs.YtmalncfcgcebhaaGreatDoor
set_option linter.unusedVariables false
open Go.Proofs Go.RowKit
attribute [local go_sem] Oper.semAt_some
theorem and_FFFF {x : Int} (h : I64 x) : bits BinOp.and IntKind.i64 x 65535 = x % 65536 := by
  show IntKind.i64.wrap ((BitVec.ofInt 64 x &&& BitVec.ofInt 64 65535).toNat : Int) = _
  rw [BitVec.toNat_and, show (BitVec.ofInt 64 65535).toNat = 2 ^ 16 - 1 from rfl, Nat.and_two_pow_sub_one_eq_mod, BitVec.toNat_ofInt, IntKind.wrap_i64]
  omega
set_option maxRecDepth 20000 in
set_option maxHeartbeats 8000000 in
theorem FullL_c (n : Int) (hn : I64 n) (ds : List Int) (q : Option Addr) (nn c : Nat) (hds : ∀ x ∈ ds, I64 x) (w : World) (hat : SlArg w q nn c ds) (hul : nn ≤ 281474976710656) (hT : Tabs w) :
    Calls Tryz.prog 9 #[.int .i64 n, .slice q nn c] w fun e w' => e = .returned (.bool true) ∧ Ext w w' := by
  have hB := hT.size
  have HT := Lib.hid hT
  have HS := Lib.hid (shown26_c w hT)
  have hnl : nn = ds.length := hat.1
  have HAT := Lib.hid hat
  have HDS := Lib.hid hds
  have ha := and_FFFF hn
  have h51 : 0 ≤ n % 65536 % 51 ∧ n % 65536 % 51 ≤ 50 := by omega
  clear hT hat hds
  go_enter Tryz.func9, Tryz.ntmps9
  go_wp2_with fail
  refine Calls.mono HS.out ?_
  rintro e w1 ⟨rfl, hx1⟩
  have HX1 := Lib.hid hx1
  clear hx1
  go_wp2_with fail
  refine Calls.mono (ANew_c _) ?_
  rintro e w2 ⟨rfl, hA, hx2⟩
  have hx12 := HX1.out.trans' hx2
  have hs1 := HX1.out.size
  have hs2 := hx2.size
  have HA := Lib.hid hA
  have HX2 := Lib.hid hx12
  clear hA hx2 hx12
  go_wp2_with fail
  go_loopw [7, 8, 9, 10, 11, 12, 13] (fun u7 u8 u9 _ _ _ _ wr => ∃ (i : Nat) (l : List (Nat × Th)) (last : Nat), (i : Int) ≤ n % 65536 % 51 ∧ u9 = .int .i64 i ∧ u8 = .int .i64 (l.length : Nat) ∧ u7 = .int .i64 (last : Nat) ∧ AgAt wr w1.heap.size (w1.heap.size + 1) w1.heap.size l last ∧ AllSt (stOf l last) ∧ last ≤ i ∧ Ext w wr) (fun _ _ u9 _ _ _ _ _ => (50 - intOf u9).toNat)
  case atStart =>
    exact ⟨0, [], 0, by omega, rfl, rfl, rfl, HA.out, fun x hx => (by cases hx), Nat.le_refl _, HX2.out⟩
  case round =>
    obtain ⟨i, l, last, hi, rfl, rfl, rfl, hA, hall, hli, hE⟩ := hrel
    by_cases hlt : (i : Int) < n % 65536 % 51
    · have hll := hA.len
      have hcr := Create_is (stOf l last) hall (show last < 1000000 by omega) wr _ _ _ _ _ hA rfl (by omega) (HT.out.ext hE) (by omega)
      have HCR := Lib.hid hcr
      have HE := Lib.hid hE
      have HAG := Lib.hid hA
      have HALL := Lib.hid hall
      clear hcr hE hA hall
      unfold createL at HCR
      go_wp2_with fail
      refine Calls.mono HCR.out ?_
      rintro e w3 ⟨⟨l', last', rfl, hA', hst', hfn⟩, hM⟩
      have hE3 : Ext w w3 := Below.trans HE.out (hM.below HE.out.size fun k hk => Nat.le_trans hs1 (HAG.out.flo hk))
      have HE3 := Lib.hid hE3
      have HA3 := Lib.hid hA'
      have hll3 := hA'.len
      clear hE3 hA' hM hfn
      obtain ⟨rb, hrb⟩ : ∃ rb, rb = (⟨(ansT (madeF (stOf l last) T1).1).toArray⟩ : ByteArray) := ⟨_, rfl⟩
      rw [show strV ((some (ansT (madeF (stOf l last) T1).1), (madeF (stOf l last) T1).2).1.getD []) = .string rb from congrArg Value.string hrb.symm]
      have HRB := Lib.hid hrb
      have HST := Lib.hid hst'
      clear hrb hst'
      go_upto_if 32 with (fail)
      go_cut [7, 8] (fun s7 s8 wx => s8 = .int .i64 (l'.length : Nat) ∧ s7 = .int .i64 (last' : Nat) ∧ AgAt wx w1.heap.size (w1.heap.size + 1) w1.heap.size l' last' ∧ AllSt (stOf l' last') ∧ last' ≤ i + 1 ∧ Ext w wx)
      case first =>
        by_cases h32 : 32 ≤ l.length
        · have hmf := made_full (S := stOf l last) (by rw [stOf_len]; exact h32) T1
          rw [Prod.mk.injEq] at hmf
          obtain ⟨m1, m2⟩ := hmf
          have hst' := HST.out
          have hle : l'.length = l.length := by rw [len_of hst', m2, stOf_len]
          have hla : last' = last := by have := congrArg St.last (hst'.trans m2); exact this
          have hall' : AllSt (stOf l' last') := by rw [hst', m2]; exact HALL.out
          have hrb := HRB.out
          rw [m1] at hrb
          subst hrb
          have H5 := Lib.hid hall'
          clear hst' m1 m2 hall' HRB HST
          go_wp2_with fail
          go_meet
          exact ⟨by rw [hle], by rw [hla], HA3.out, H5.out, by omega, HE3.out⟩
        · have hmf := made_free (S := stOf l last) (by rw [stOf_len]; exact h32) T1
          rw [Prod.mk.injEq] at hmf
          obtain ⟨m1, m2⟩ := hmf
          have hst' := HST.out
          have hle : l'.length = l.length + 1 := by rw [len_of hst', m2, List.length_append, stOf_len]; rfl
          have hla : last' = last + 1 := by have := congrArg St.last (hst'.trans m2); exact this
          have hall' : AllSt (stOf l' last') := by
            rw [hst', m2]
            intro x hx
            rcases List.mem_append.1 hx with hx | hx
            · exact HALL.out x hx
            · simp only [List.mem_singleton] at hx
              subst hx
              exact ⟨_, _, _, rfl⟩
          have hrb := HRB.out
          rw [m1, show (stOf l last).last = last from rfl] at hrb
          have H5 := Lib.hid hall'
          have hitl := Lib.itoa_length_le ((last + 1 : Nat) : Int) (by omega) (by omega)
          obtain ⟨tb, htb⟩ : ∃ tb, tb = (⟨(Lib.itoa ((last + 1 : Nat) : Int)).toArray⟩ : ByteArray) := ⟨_, rfl⟩
          have htz : tb.size ≤ 21 := by rw [htb, Lib.size_eq]; simpa using hitl
          have hcat : (⟨#[104, 97, 110, 100, 108, 101, 32]⟩ : ByteArray) ++ tb = rb := by
            rw [htb, hrb]
            exact cat_str [104, 97, 110, 100, 108, 101, 32] _
          have HTX := fun w' => Lib.hid (RText_c ((last + 1 : Nat) : Int) (by omega) (by omega) w')
          rw [show strV (Lib.itoa ((last + 1 : Nat) : Int)) = .string tb from congrArg Value.string htb.symm] at HTX
          clear hst' m1 m2 hall' HRB HST hrb htb hitl
          have HCT := Lib.hid (show (last : Int) + 1 = ((last + 1 : Nat) : Int) by omega)
          have HCL := Lib.hid (show (l.length : Int) + 1 = ((l.length + 1 : Nat) : Int) by omega)
          go_wp2_with fail
          rw [HCT.out]
          refine Calls.mono (HTX _).out ?_
          rintro e w4 ⟨rfl, hx4⟩
          have HX4 := Lib.hid hx4
          clear hx4
          go_wp2_with fail
          go_meet
          refine ⟨?_, ?_, HA3.out.ext HX4.out, H5.out, by omega, HE3.out.trans' HX4.out⟩
          · rw [hle, HCL.out]
          · rw [hla, HCT.out]
      case rest =>
        obtain ⟨rfl, rfl, hA, hall, hli', hE⟩ := hcut
        clear HRB HST HA3 HE3 HE HAG HALL HCR
        have HE := Lib.hid hE
        have HA4 := Lib.hid hA
        have HALL := Lib.hid hall
        have hll4 := hA.len
        have hwc := hE.size
        have hpl := hA.ltp
        clear hE hA hall
        go_upto_if 47 with (fail)
        go_cut [8] (fun s8 wx => ∃ (l'' : List (Nat × Th)), s8 = .int .i64 (l''.length : Nat) ∧ AgAt wx w1.heap.size (w1.heap.size + 1) w1.heap.size l'' last' ∧ AllSt (stOf l'' last') ∧ Ext w wx)
        case first =>
          by_cases hid : i < ds.length
          · obtain ⟨g, off, rfl, hgl, hcl⟩ : ∃ g off, q = some ⟨g, off, none⟩ ∧ g < w.heap.size ∧ ∀ k, k < nn → w.cell? ⟨g, off + k, none⟩ = some (.int .i64 (ds.getD k 0)) := by
              rcases HAT.out.2.2 with ⟨h0, _⟩ | h
              · omega
              · exact h
            have hx := HDS.out (ds.getD i 0) (by
              rw [List.getD_eq_getElem?_getD, List.getElem?_eq_getElem hid]
              exact List.getElem_mem hid)
            have cx := (HE.out.cell hgl).trans (hcl i (by omega))
            have hgl2 : g < wc.heap.size := by omega
            generalize ds.getD i 0 = x at *
            have hax := and_FFFF hx
            clear hcl
            obtain ⟨k, hk⟩ : ∃ k, k = x % 65536 % 60 := ⟨_, rfl⟩
            have hk0 : 0 ≤ k ∧ k < 60 := by omega
            obtain ⟨tb, htb⟩ : ∃ tb, tb = (⟨(Lib.itoa k).toArray⟩ : ByteArray) := ⟨_, rfl⟩
            have hitl := Lib.itoa_length_le k (by omega) (by omega)
            have htz : tb.size ≤ 21 := by rw [htb, Lib.size_eq]; simpa using hitl
            have hcat : (⟨#[100, 114, 111, 112, 32]⟩ : ByteArray) ++ tb = ⟨([100, 114, 111, 112, 32] ++ Lib.itoa k).toArray⟩ := by
              rw [htb]
              exact cat_str [100, 114, 111, 112, 32] _
            obtain ⟨sb, hsb⟩ : ∃ sb, sb = (⟨([100, 114, 111, 112, 32] ++ Lib.itoa k).toArray⟩ : ByteArray) := ⟨_, rfl⟩
            rw [← hsb] at hcat
            have HTX := fun w' => Lib.hid (RText_c k hk0.1 (by omega) w')
            rw [show strV (Lib.itoa k) = .string tb from congrArg Value.string htb.symm] at HTX
            have HLN := fun w' (hx : Ext wc w') => Lib.hid (Drop_is (stOf l' last') HALL.out (show last' < 1000000 by omega) k hk0.1 hk0.2 sb hsb w' _ _ _ _ _ (HA4.out.ext hx) rfl (by omega) (HT.out.ext (HE.out.trans' hx)) (by omega))
            have hdt := drop_two (stOf l' last') (st_up HA4.out.up) k
            obtain ⟨rb, hrb⟩ : ∃ rb, rb = (⟨(ansT (dropF (stOf l' last') k).1).toArray⟩ : ByteArray) := ⟨_, rfl⟩
            have HDT := Lib.hid hdt
            have HRB := Lib.hid hrb
            rw [hk] at HTX
            clear hitl htb hsb hdt hrb
            go_wp2_with fail
            refine Calls.mono (HTX _).out ?_
            rintro e w4 ⟨rfl, hx4⟩
            have HX4 := Lib.hid hx4
            have HLN4 := HLN _ hx4
            clear hx4 HLN
            go_wp2_with fail
            refine Calls.mono HLN4.out ?_
            rintro e w5 ⟨⟨l5, last5, rfl, hA5, hst5, hfn⟩, hM⟩
            rw [show strV ((some (ansT (dropF (stOf l' last') k).1), (dropF (stOf l' last') k).2).1.getD []) = .string rb from congrArg Value.string HRB.out.symm]
            have hE5 : Ext w w5 := Below.trans (HE.out.trans' HX4.out) (hM.below (HE.out.trans' HX4.out).size fun k hk => Nat.le_trans hs1 (HA4.out.flo hk))
            have HE5 := Lib.hid hE5
            have HA5 := Lib.hid hA5
            have HST5 := Lib.hid hst5
            clear hE5 hA5 hM hfn hst5
            rcases HDT.out with ⟨m1, m2⟩ | ⟨m1, m2, m3⟩
            · have hst5 := HST5.out
              have hle : l5.length = l'.length := by rw [len_of hst5, m2, stOf_len]
              have hla : last5 = last' := by have := congrArg St.last (hst5.trans m2); exact this
              have hall5 : AllSt (stOf l5 last5) := by rw [hst5, m2]; exact HALL.out
              have hrb := HRB.out
              rw [m1] at hrb
              subst hrb hla
              have H5 := Lib.hid hall5
              clear hall5 hst5 m1 m2 HST5 HDT HRB
              go_wp2_with fail
              go_meet
              exact ⟨l5, by rw [hle], HA5.out, H5.out, HE5.out⟩
            · have hst5 := HST5.out
              have hle : l5.length + 1 = l'.length := by rw [len_of hst5, m3, stOf_len]
              have hla : last5 = last' := by have := congrArg St.last hst5; exact this.trans m2
              have hall5 : AllSt (stOf l5 last5) := by
                rw [hst5]
                exact doA_st (stOf l' last') HALL.out (.query ⟨#[100, 114, 111, 112]⟩ k [])
              have hrb := HRB.out
              rw [m1] at hrb
              subst hrb hla
              have H5 := Lib.hid hall5
              have HLE := Lib.hid (show ((l'.length : Nat) : Int) - 1 = ((l5.length : Nat) : Int) by omega)
              clear hall5 hst5 m1 m2 m3 HST5 HDT HRB
              go_wp2_with fail
              go_meet
              exact ⟨l5, by rw [HLE.out], HA5.out, H5.out, HE5.out⟩
          · go_wp2_with fail
            go_meet
            exact ⟨l', rfl, HA4.out, HALL.out, HE.out⟩
        case rest =>
          obtain ⟨l5, rfl, hA, hall, hE⟩ := hcut
          clear HE HA4 HALL
          have HHD := Lib.hid (AHandles_c hA)
          have HE := Lib.hid hE
          have HA4 := Lib.hid hA
          have HALL := Lib.hid hall
          have hll5 := hA.len
          clear hE hA hall
          go_wp2_with fail
          refine Calls.mono HHD.out ?_
          rintro e w6 ⟨v, rfl, hv, hx6⟩
          obtain ⟨po, co, rfl⟩ := own_sl hv
          have HX6 := Lib.hid hx6
          clear hv hx6 hll3 hll4
          go_wp2
          go_roundw
          case rel => exact ⟨i + 1, l5, last', by omega, by go_num, rfl, rfl, HA4.out.ext HX6.out, HALL.out, hli', HE.out.trans' HX6.out⟩
          case measure => simp [intOf]; omega
    · clear hA
      go_wp2
      go_ret
      exact ⟨rfl, hE⟩
end Go.Proofs.YtmalncfcgcebhaaGreatDoor
namespace Go.Proofs.YtmalncfcgcebhaaGreatDoor
set_option linter.unusedVariables false
open Go.ChangeShapes Go.WideShapes Go.ChangeAt Go.RowKit Go.Deep
theorem wf_i64 {x : Int} (h : (Lit.int IntKind.i64 x).wf = true) : I64 x := by
  have := bounds_i64 h
  exact ⟨this.1, by omega⟩
section
variable {H : Type} {enc : TypeId × Value → H} {w : World} {base : Nat} {spare : Nat → Bool} {held : Bool}
theorem add_plain0 (b off i : Nat) : (Addr.add ⟨b, off, none⟩ i) = ⟨b, off + i, none⟩ := by
  unfold Addr.add
  by_cases h : i = 0
  · subst h; simp
  · simp [h]
theorem reach_of {ts : List TypeId} {ds : List (DataW H)} {j : Nat} {t : TypeId} {d : DataW H} (hsz : (DataW.weightsEach Tryz.prog ts ds).all (· ≤ reachBytes) = true) (ht : ts[j]? = some t) (hd : ds[j]? = some d) {n : Nat} (hn : n ∈ d.weights Tryz.prog t) : n ≤ reachBytes := by
  have := List.all_eq_true.1 hsz _ (DataW.weights_mem_each ht hd n hn)
  simpa using this
end
end Go.Proofs.YtmalncfcgcebhaaGreatDoor
namespace Go.Proofs.YtmalncfcgcebhaaGreatDoor
set_option linter.unusedVariables false
open Go.ChangeShapes Go.WideShapes Go.ChangeAt Go.RowKit Go.Deep
theorem own : ownKnob Tryz.prog.godebug = none := by kernel_rfl
theorem laidOut : laidOutB Tryz.prog = true := by kernel_rfl
section
variable {H : Type} {enc : TypeId × Value → H} {w : World} {held : Bool}
end
end Go.Proofs.YtmalncfcgcebhaaGreatDoor
namespace Go.Proofs.YtmalncfcgcebhaaGreatDoor
set_option linter.unusedVariables false
open Go.ChangeShapes Go.WideShapes Go.ChangeAt Go.RowKit Go.Deep
section
variable {H : Type} {enc : TypeId × Value → H} {w : World} {held : Bool}
set_option maxRecDepth 100000 in
theorem intarg_of {r : Reach} {b0 : Nat} {v : Value} {d : DataW H} {p : List MemPlace} (hv : Value.okWide Tryz.prog w r b0 54 v) (h : DataW.Trod enc Tryz.prog w 0 (fun _ => true) held 54 v d p) :
    ∃ (l : List Int) (q : Option Addr) (n cap : Nat), allI l ∧ SlArg w q n cap l ∧ v = .slice q n cap ∧
      ∀ (ts : List TypeId) (ds : List (DataW H)) (j : Nat), (DataW.weightsEach Tryz.prog ts ds).all (· ≤ reachBytes) = true → ts[j]? = some 54 → ds[j]? = some d → n ≤ 281474976710656 := by
  obtain ⟨q, n, cap, rfl⟩ := okWide_slice Tryz.underlying54 hv
  obtain ⟨fuel, hf⟩ := h
  rcases open_ints Tryz.underlying54 Tryz.underlying3 (by kernel_rfl) hf with ⟨hcs, _⟩ | ⟨a, len, cap', zs, hcs, _, hlc, hcm, hzl, hx, hi, hwf⟩
  · have hcs' : [Value.slice q n cap] = [Value.slice none 0 0] := hcs
    simp only [List.cons.injEq, and_true, Value.slice.injEq] at hcs'
    obtain ⟨rfl, rfl, rfl⟩ := hcs'
    exact ⟨[], none, 0, 0, (by intro x hx; cases hx), ⟨rfl, Nat.le_refl _, .inl ⟨rfl, fun _ => rfl⟩⟩, rfl, fun _ _ _ _ _ _ => Nat.zero_le _⟩
  · have hcs' : [Value.slice q n cap] = [Value.slice (some a) len cap'] := hcs
    simp only [List.cons.injEq, and_true, Value.slice.injEq] at hcs'
    obtain ⟨rfl, rfl, rfl⟩ := hcs'
    simp only [if_true] at hzl
    refine ⟨zs.take n, some a, n, cap, ?_, ⟨by rw [List.length_take]; omega, hlc, ?_⟩, rfl, ?_⟩
    · intro x hx'
      exact wf_i64 (hwf x (List.mem_of_mem_take hx'))
    · by_cases h0 : n = 0
      · exact .inl ⟨h0, fun h => by cases h⟩
      · have h1 := hi 0 (by omega)
        obtain ⟨b, off, spot⟩ := a
        have hspot : spot = none := by simpa [Addr.add] using World.cell?_spot h1
        subst hspot
        have hb : b < w.heap.size := by
          rcases Nat.lt_or_ge b w.heap.size with h' | h'
          · exact h'
          · simp [World.cell?, Addr.add, Array.getElem?_eq_none h'] at h1
        refine .inr ⟨b, off, rfl, hb, fun k hk => ?_⟩
        have := hi k (by omega)
        rw [add_plain0] at this
        rw [this]
        simp [List.getElem?_take_of_lt hk]
    · intro ts ds j hs ht hj
      have hb : Tryz.prog.bytesOf 3 = 8 := by kernel_rfl
      simp only [Prod.mk.injEq] at hx
      have := reach_of hs ht hj (n := ((lits .i64 (zs.take n)).length + (lits .i64 (zs.drop n)).length) * Tryz.prog.bytesOf 3) (by
        rw [hx.1]
        simp [DataW.weights, Tryz.underlying54]
        exact .inl rfl)
      rw [hb] at this
      simp only [reachBytes, lits, List.length_map, List.length_take, List.length_drop] at this
      omega
end
end Go.Proofs.YtmalncfcgcebhaaGreatDoor
namespace Go.Proofs.YtmalncfcgcebhaaGreatDoor
set_option linter.unusedVariables false
open Go.Proofs Go.RowKit
set_option maxRecDepth 100000
def laid7 : List (String × DataW Unit) := [("math/bits.deBruijn32tab", Rows.laid_math_bits_deBruijn32tab), ("math/bits.deBruijn64tab", Rows.laid_math_bits_deBruijn64tab), ("internal/strconv.uint64pow10", Rows.laid_internal_strconv_uint64pow10), ("unicode/utf8.acceptRanges", Rows.laid_unicode_utf8_acceptRanges), ("strconv.ErrRange", Rows.laid_strconv_ErrRange), ("strconv.ErrSyntax", Rows.laid_strconv_ErrSyntax), ("unicode/utf8.first", Rows.laid_unicode_utf8_first)]
theorem first_is : Rows.laid_unicode_utf8_first = Lib.firstData := by kernel_rfl
theorem accept_is : (Rows.laid_unicode_utf8_acceptRanges : DataW Unit) = Lib.acceptData := by kernel_rfl
theorem pow_is : (Rows.laid_internal_strconv_uint64pow10 : DataW Unit) = Lib.tabData .u64 Lib.pow10Tab := by kernel_rfl
theorem g_pow : Tryz.prog.globalNamed "internal/strconv.uint64pow10" = some 4 := by kernel_rfl
theorem t_pow : (Tryz.prog.globals[4]?).map (·.type) = some 364 := by kernel_rfl
theorem g_first : Tryz.prog.globalNamed "unicode/utf8.first" = some 2 := by kernel_rfl
theorem t_first : (Tryz.prog.globals[2]?).map (·.type) = some 329 := by kernel_rfl
theorem g_acc : Tryz.prog.globalNamed "unicode/utf8.acceptRanges" = some 3 := by kernel_rfl
theorem t_acc : (Tryz.prog.globals[3]?).map (·.type) = some 332 := by kernel_rfl
theorem g_syn : Tryz.prog.globalNamed "strconv.ErrSyntax" = some 8 := by kernel_rfl
theorem t_syn : (Tryz.prog.globals[8]?).map (·.type) = some 199 := by kernel_rfl
theorem g_rng : Tryz.prog.globalNamed "strconv.ErrRange" = some 9 := by kernel_rfl
theorem t_rng : (Tryz.prog.globals[9]?).map (·.type) = some 199 := by kernel_rfl
theorem star : "*errors.errorString" = "*" ++ "errors.errorString" := rfl
theorem es_row : ∀ u, Tryz.prog.typeName? 3 u = some "*errors.errorString" → u = 410 := fun u h =>
  typeName_ptr_named (nm := "errors.errorString") (by rw [← star]; kernel_rfl) (by kernel_rfl) (by decide) u (by rw [← star]; exact h)
theorem sent_cell {n : String} {text : List UInt8} {r : List (String × DataW Unit)} {W : World} {g : Nat} (h : laidMet Tryz.prog ((n, .iface "*errors.errorString" (.ptr (.agg [.lit (.string text)]))) :: r) W)
    (hg : Tryz.prog.globalNamed n = some g) (ht : (Tryz.prog.globals[g]?).map (·.type) = some 199) : ∃ te pe, W.cell? ⟨g, 0, none⟩ = some (.iface te pe) := by
  obtain ⟨a, s, hv, _⟩ := laid_sentinel h hg ht Tryz.underlying199 es_row Tryz.underlying410 Tryz.underlying412 rfl rfl Tryz.underlying9 (by kernel_rfl) (by kernel_rfl)
  exact ⟨_, _, (World.var?_cell hg hv 0).trans rfl⟩
theorem tabs_laid {W : World} (h : laidMet Tryz.prog laid7 W) : Tabs W := by
  refine ⟨?_, ⟨fun c hc => ?_, fun i hi => ?_⟩, ?_, ?_⟩
  · have hr : Lib.VarReads Tryz.prog W "internal/strconv.uint64pow10" (Lib.tabData .u64 Lib.pow10Tab) := by
      rw [← pow_is]; exact Lib.laidMet.reads h (by unfold laid7; simp)
    obtain ⟨g, t, cs, fuel, p, hg, hty, hvar, hd⟩ := hr
    obtain rfl := Option.some.inj (g_pow.symm.trans hg)
    obtain rfl := Option.some.inj (t_pow.symm.trans hty)
    unfold Lib.TabIs
    rw [hvar, ← Lib.cells_of_tab Tryz.underlying364 Tryz.underlying22 (by kernel_rfl) (by kernel_rfl) hd]
  · have hr : Lib.VarReads Tryz.prog W "unicode/utf8.first" Lib.firstData := by
      rw [← first_is]; exact Lib.laidMet.reads h (by unfold laid7; simp)
    obtain ⟨g, t, cs, fuel, p, hg, hty, hvar, hd⟩ := hr
    obtain rfl := Option.some.inj (g_first.symm.trans hg)
    obtain rfl := Option.some.inj (t_first.symm.trans hty)
    have hcs := Lib.cells_of_tab Tryz.underlying329 Tryz.underlying5 (by kernel_rfl) (by kernel_rfl) hd
    have := World.var?_cell hg hvar c
    rw [this, ← Array.getElem?_toList, hcs]
    simp [Lib.firstTab, hc]
  · have hr : Lib.VarReads Tryz.prog W "unicode/utf8.acceptRanges" Lib.acceptData := by
      rw [← accept_is]; exact Lib.laidMet.reads h (by unfold laid7; simp)
    obtain ⟨g, t, cs, fuel, p, hg, hty, hvar, hd⟩ := hr
    obtain rfl := Option.some.inj (g_acc.symm.trans hg)
    obtain rfl := Option.some.inj (t_acc.symm.trans hty)
    obtain ⟨fuel', d, q, hdi, he⟩ := Lib.array_elem Tryz.underlying332 hd i hi
    simp only [List.getElem?_map, List.getElem?_range hi, Option.map_some, Option.some.injEq] at hdi
    subst hdi
    have c2 : Tryz.prog.cellsOf 331 = 2 := by kernel_rfl
    have c1 : Tryz.prog.cellsOf 5 = 1 := by kernel_rfl
    rw [c2] at he
    have hcs := Lib.ints_of_struct Tryz.underlying331 (fun j f hj => by
      match j, hj with
      | 0, hj => simp at hj; subst hj; exact ⟨Tryz.underlying5, rfl, c1⟩
      | 1, hj => simp at hj; subst hj; exact ⟨Tryz.underlying5, rfl, c1⟩
      | j + 2, hj => simp at hj) (by rw [c2]; rfl) he
    have e0 := congrArg (·[0]?) hcs
    have e1 := congrArg (·[1]?) hcs
    simp only [List.getElem?_take, List.getElem?_drop] at e0 e1
    constructor
    · rw [World.var?_cell hg hvar (2 * i), ← Array.getElem?_toList]
      simpa [Nat.mul_comm] using e0
    · rw [World.var?_cell hg hvar (2 * i + 1), ← Array.getElem?_toList]
      simpa [Nat.mul_comm] using e1
  · exact sent_cell (laidMet.tail (laidMet.tail (laidMet.tail (laidMet.tail (laidMet.tail h))))) g_syn t_syn
  · exact sent_cell (laidMet.tail (laidMet.tail (laidMet.tail (laidMet.tail h)))) g_rng t_rng
end Go.Proofs.YtmalncfcgcebhaaGreatDoor
namespace Go.Proofs.YtmalncfcgcebhaaGreatDoor
set_option linter.unusedVariables false
open Go.ChangeShapes Go.WideShapes Go.ChangeAt Go.RowKit
theorem aggFull_laid : Rows.aggFullRow.laid = laid7 := rfl
theorem aggFull_met (os : Os) (args : Array Value) : laidMetH Tryz.prog Rows.aggFullRow.laid ((World.laidAll Tryz.prog os Rows.aggFullRow.laid).forCall (fun _ _ => 0) ⟨#[], args, []⟩).memory := by
  rw [MakeChecks.laidMetH_plain _ _ _ (by kernel_rfl)]
  exact laidMet_laidAll _ (by kernel_rfl) (by kernel_rfl)
set_option maxRecDepth 100000 in
theorem aggFull_lifted (os : Os) (started : os.Started) (H : Type) (enc : TypeId × Value → H) :
    ReturnsInHanded {} Tryz.checked os 9 .any (fun w args => (Rows.aggFullSpec.pre enc Tryz.prog Tryz.f9 [] false w args ∧ laidMetH Tryz.prog Rows.aggFullRow.laid w) ∧ sizedMet enc Tryz.prog Tryz.f9 (OpenSpec.ofChange Rows.aggFullSpec) false w args)
      (Rows.aggFullSpec.post enc Tryz.prog Tryz.f9 false true false false) := by
  refine returnsInHanded_of_change_and (C := Tryz.checked) (X := fun w _ => laidMetH Tryz.prog Rows.aggFullRow.laid w) (fun _ _ _ hh h => h.of_heap hh) own started (by kernel_rfl) Tryz.func9
    (ChangeSpec.witness_shaped (enc := enc) (C := Tryz.checked) (os := os) (X := fun w _ => laidMetH Tryz.prog Rows.aggFullRow.laid w) false (World.laidAll Tryz.prog os Rows.aggFullRow.laid) #[.int .i64 0, .slice none 0 0] 8 (World.laidAll_os _ _ _)
      (World.shaped_of_ZipB (by kernel_rfl) (by kernel_rfl)) (by kernel_rfl) (by kernel_rfl) (by kernel_rfl) (aggFull_met os _)) ?_
  intro W base args ds gs before hval0 hW _ hsz0 hL _
  have hval : ∀ (j : Nat) t v, Tryz.f9.params[j]? = some t → args[j]? = some v → Value.okWide Tryz.prog W .any base t v := hval0
  have hW' := hW
  obtain ⟨p, q, hA0, hV, rfl, hfz, hnd⟩ := hW
  have hA : DataW.TrodAll enc Tryz.prog W 0 (fun _ => true) true Tryz.f9.params.toList args.toList ds p := hA0
  have hsz : (DataW.weightsEach Tryz.prog (Tryz.f9.params.toList ++ Rows.aggFullSpec.plain.varTypes Tryz.prog) (ds ++ gs)).all (· ≤ reachBytes) = true := hsz0
  rw [Tryz.params9] at hA hval hsz
  obtain ⟨v0, vs0, d0, ds0, p0, q0, hargs, rfl, rfl, h0, r0⟩ := trodAll_cons hA
  obtain ⟨v1, vs1, d1, ds1, p1, q1, rfl, rfl, rfl, h1, r1⟩ := trodAll_cons r0
  obtain ⟨rfl, rfl, rfl⟩ := trodAll_nil r1
  obtain rfl : args = #[v0, v1] := by cases args; simp_all
  obtain ⟨rfl, rfl⟩ := trodVars_none hV
  have k0 := h0
  have k1 := h1
  have lt0 : ∀ x ∈ p0, x.block < W.heap.size := by obtain ⟨m, hm⟩ := k0; exact DataW.trod_lt m _ _ _ hm
  have lt1 : ∀ x ∈ p1, x.block < W.heap.size := by obtain ⟨m, hm⟩ := k1; exact DataW.trod_lt m _ _ _ hm
  obtain ⟨n0, rfl, _, _, wf0⟩ := open_int Tryz.underlying3 (hval 0 _ v0 rfl rfl) h0
  have hn0 := wf_i64 wf0
  obtain ⟨l1, q1, n1, c1, hl1, hat1, rfl, hr1⟩ := intarg_of (hval 1 _ v1 rfl rfl) h1
  have hul1 := hr1 _ _ 1 hsz rfl rfl
  rw [MakeChecks.laidMetH_plain _ _ _ (by kernel_rfl), aggFull_laid] at hL
  have hT := tabs_laid hL
  clear hA0 hval0
  refine (FullL_c n0 hn0 l1 q1 n1 c1 hl1 W hat1 hul1 hT).mono fun e W' ⟨he, bel⟩ => ?_
  subst he
  exact ⟨_, rfl, _, _, _, [], _, [], hW', trodAll_mk1 (shut_bool Tryz.underlying4 _), (trodAll_cons_mk (Below.trod laidOut (by kernel_rfl) (of_decide_eq_true (by kernel_rfl)) k0 bel lt0) (trodAll_cons_mk (Below.trod laidOut (by kernel_rfl) (of_decide_eq_true (by kernel_rfl)) k1 bel lt1) trodAll_mk0)), rfl, bel.frame _, fun h => by cases h⟩
end Go.Proofs.YtmalncfcgcebhaaGreatDoor
