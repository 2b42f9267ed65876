/- Small laws that all other texts of this claim use: what one world keeps of another, and numbers. No condition. -/
import Derived.Test.YthancaehlijaoaaRows
import Derived.WalkKit
import Derived.WalkSpells
import Derived.WalkLawsBesides
import Derived.Handy
import Derived.PlainAid
import Derived.Deep.QuietTactic
import Derived.BigQuiet
import Derived.Deep.RegionHeld3
import Derived.RegionTactic
import Derived.BigRegion
import Derived.StillTailTactics
import Derived.Deep.DeepCutAuto
import Derived.Deep.DeepFit
import Derived.Lib.Hide
namespace Go.Proofs.Ythancaehlijaoaa
open Go.RowKit

/-- What was there is as it was, but for blocks in S. -/
structure Mod (S : Nat → Prop) (w w' : World) : Prop where
  os : w'.os = w.os
  tape : w'.tape = w.tape
  output : w'.output = w.output
  size : w.heap.size ≤ w'.heap.size
  block : ∀ k, k < w.heap.size → ¬ S k → w'.heap[k]? = w.heap[k]?

/-- Nothing that was there has turned. -/
abbrev Ext (w w' : World) : Prop := Below w.heap.size w w'

theorem Ext.refl (w : World) : Ext w w := Below.refl _ _
theorem Ext.alloc' (w : World) (o : Obj) : Ext w (w.alloc o) := (Below.refl _ _).alloc (Nat.le_refl _) o
theorem Ext.trans' {a b c : World} (h : Ext a b) (k : Ext b c) : Ext a c := Below.trans h (k.mono h.size)
theorem Ext.allocR {a b : World} (h : Ext a b) (o : Obj) : Ext a (b.alloc o) := h.trans' (Ext.alloc' _ _)
theorem Ext.drewR {a b : World} (h : Ext a b) : Ext a b.drew := Below.drew h
theorem Ext.drewNR {a b : World} (h : Ext a b) (n : Nat) : Ext a (b.drewN n) := ⟨h.os, h.tape, h.output, h.size, h.block⟩
theorem Ext.setR {a b : World} (h : Ext a b) {p : Addr} (hp : a.heap.size ≤ p.block) (u : Value) : Ext a (b.setCell p u) := Below.setCell h hp u
theorem Ext.mod {w w' : World} (S : Nat → Prop) (h : Ext w w') : Mod S w w' := ⟨h.os, h.tape, h.output, h.size, fun k hk _ => h.block k hk⟩
theorem Mod.refl (S : Nat → Prop) (w : World) : Mod S w w := ⟨rfl, rfl, rfl, Nat.le_refl _, fun _ _ _ => rfl⟩
theorem Mod.trans {S : Nat → Prop} {a b c : World} (h : Mod S a b) (k : Mod S b c) : Mod S a c :=
  ⟨k.os.trans h.os, k.tape.trans h.tape, k.output.trans h.output, Nat.le_trans h.size k.size, fun i hi hs => (k.block i (Nat.lt_of_lt_of_le hi h.size) hs).trans (h.block i hi hs)⟩
theorem Mod.mono {S S' : Nat → Prop} {a b : World} (h : Mod S a b) (hs : ∀ k, S k → k < a.heap.size → S' k) : Mod S' a b :=
  ⟨h.os, h.tape, h.output, h.size, fun i hi hn => h.block i hi (fun x => hn (hs i x hi))⟩
theorem Mod.below {S : Nat → Prop} {B : Nat} {a b : World} (h : Mod S a b) (hB : B ≤ a.heap.size) (hs : ∀ k, S k → B ≤ k) : Below B a b :=
  ⟨h.os, h.tape, h.output, h.size, fun k hk => h.block k (Nat.lt_of_lt_of_le hk hB) (fun hS => by have := hs k hS; omega)⟩
theorem Mod.of_below {S : Nat → Prop} {B : Nat} {a b : World} (h : Below B a b) (hs : ∀ k, k < a.heap.size → ¬ S k → k < B) : Mod S a b :=
  ⟨h.os, h.tape, h.output, h.size, fun k hk hn => h.block k (hs k hk hn)⟩

theorem bcell {W w1 : World} (hb : Ext W w1) : (∀ b o, b < W.heap.size → w1.cell? ⟨b, o, none⟩ = W.cell? ⟨b, o, none⟩) ∧ (∀ b o, b < W.heap.size → w1.frozen? ⟨b, o, none⟩ = W.frozen? ⟨b, o, none⟩) :=
  ⟨fun b o h => hb.cell (p := ⟨b, o, none⟩) h, fun b o h => hb.frozen (p := ⟨b, o, none⟩) h⟩

theorem cell_of {w : World} {b : Nat} {c : Array Value} {t : TypeId} {fz : Nat × Nat} (h : w.heap[b]? = some (.cells c t fz)) (o : Nat) : w.cell? ⟨b, o, none⟩ = c[o]? := by
  simp [World.cell?, h]
theorem frozen_of {w : World} {b : Nat} {c : Array Value} {t : TypeId} (h : w.heap[b]? = some (.cells c t (0, 0))) (o : Nat) : w.frozen? ⟨b, o, none⟩ = false := by
  simp [World.frozen?, h]
theorem lt_of {w : World} {b : Nat} {o : Obj} (h : w.heap[b]? = some o) : b < w.heap.size := by
  rcases Nat.lt_or_ge b w.heap.size with h' | h'
  · exact h'
  · rw [Array.getElem?_eq_none h'] at h; cases h
theorem Below.keep {B : Nat} {w w' : World} (h : Below B w w') {b : Nat} {o : Obj} (ho : w.heap[b]? = some o) (hb : b < B) : w'.heap[b]? = some o := by
  rw [h.block b hb, ho]
theorem Ext.keep {w w' : World} (h : Ext w w') {b : Nat} {o : Obj} (ho : w.heap[b]? = some o) : w'.heap[b]? = some o := by
  rw [h.block b (lt_of ho), ho]
theorem Mod.keep {S : Nat → Prop} {w w' : World} (h : Mod S w w') {b : Nat} {o : Obj} (ho : w.heap[b]? = some o) (hs : ¬ S b) : w'.heap[b]? = some o := by
  rw [h.block b (lt_of ho) hs, ho]

/-- A world in which what W has is as it was. -/
structure After (W : World) where
  w : World
  h : Ext W w
instance (W : World) : Nonempty (After W) := ⟨⟨W, Ext.refl W⟩⟩
@[go_sem] theorem After.cell {W : World} (x : After W) {b o : Nat} (h : b < W.heap.size) : x.w.cell? ⟨b, o, none⟩ = W.cell? ⟨b, o, none⟩ := x.h.cell (p := ⟨b, o, none⟩) h
@[go_sem] theorem After.frozen {W : World} (x : After W) {b o : Nat} (h : b < W.heap.size) : x.w.frozen? ⟨b, o, none⟩ = W.frozen? ⟨b, o, none⟩ := x.h.frozen (p := ⟨b, o, none⟩) h
theorem le_of_lt' {a b : Nat} (h : a < b) : (a ≤ b) = True := eq_true (Nat.le_of_lt h)
theorem wp_region_after {P : Program} {id : Nat} {Q : Exit → Act → World → Prop} {a : Act} {w : World} {l : List Oper} (hm : P.follows .mixedOrders = true) (hB : Region.lexB .any l.toArray = true)
    (h : wpQuiet P l.toArray (fun w' => ∃ x : After w, w' = x.w) (fun a' => ∀ w', (∃ x : After w, w' = x.w) → Q .normal a' w') l a) : (Code.region id l.toArray true).wp P Q a w :=
  wp_region_quiet (C := fun w' => ∃ x : After w, w' = x.w) hm hB ⟨⟨_, (Ext.refl w).drew⟩, rfl⟩ (by simpa using h)
theorem quiet_after {P : Program} {f : FuncId} {args : Array Value} {W : World} {v : Value} {x : After W}
    (h : Calls P f args x.w fun e w' => e = .returned v ∧ Ext x.w w') : Calls P f args x.w fun e w'' => e = .returned v ∧ ∃ y : After W, w'' = y.w :=
  h.mono fun _ _ ⟨he, hb⟩ => ⟨he, ⟨_, x.h.trans' hb⟩, rfl⟩
theorem quiet_after_same {P : Program} {f : FuncId} {args : Array Value} {W : World} {v : Value} {x : After W}
    (h : Calls P f args x.w fun e w' => e = .returned v ∧ x.w = w') : Calls P f args x.w fun e w'' => e = .returned v ∧ ∃ y : After W, w'' = y.w :=
  h.mono fun _ _ ⟨he, hb⟩ => ⟨he, x, hb.symm⟩

theorem size_alloc (w : World) (o : Obj) : (w.alloc o).heap.size = w.heap.size + 1 := by
  show (w.heap.push o).size = _
  simp
theorem heap_at (w : World) (o : Obj) {n : Nat} (h : n = w.heap.size) : (w.alloc o).heap[n]? = some o := by
  subst h
  show (w.heap.push o)[w.heap.size]? = some o
  simp
theorem heap_old (w : World) (o : Obj) {n : Nat} (h : n < w.heap.size) : (w.alloc o).heap[n]? = w.heap[n]? := Below.heap_alloc w o n h
theorem pow_bd (k : Nat) (h : k ≤ 59) : 1 ≤ (2 : Int) ^ k ∧ (2 : Int) ^ k ≤ 576460752303423488 := by
  have h1 : 2 ^ k ≤ 2 ^ 59 := Nat.pow_le_pow_right (by decide) h
  have h2 := Nat.two_pow_pos k
  have e : ((2 ^ k : Nat) : Int) = (2 : Int) ^ k := by push_cast; rfl
  omega

theorem ret_int {k : IntKind} {a b : Int} (h : a = b) : Ending.returned (.int k a) = .returned (.int k b) := by rw [h]
theorem ret_bool {a b : Bool} (h : a = b) : Ending.returned (.bool a) = .returned (.bool b) := by rw [h]

def U64 (x : Int) : Prop := 0 ≤ x ∧ x < 18446744073709551616
def I64 (x : Int) : Prop := -9223372036854775808 ≤ x ∧ x ≤ 9223372036854775807

theorem and_mask (x : Int) (k : Nat) (hk : k ≤ 63) (h0 : 0 ≤ x) (h1 : x < 18446744073709551616) : bits BinOp.and IntKind.u64 x ((2 ^ k - 1 : Nat) : Int) = x % ((2 ^ k : Nat) : Int) := by
  obtain ⟨n, rfl⟩ := Int.eq_ofNat_of_zero_le h0
  have hp : 2 ^ k < 2 ^ 64 := Nat.pow_lt_pow_right (by decide) (by omega)
  show IntKind.u64.wrap ((BitVec.ofInt 64 (n : Int) &&& BitVec.ofInt 64 ((2 ^ k - 1 : Nat) : Int)).toNat : Int) = _
  rw [BitVec.toNat_and, BitVec.ofInt_natCast, BitVec.ofInt_natCast, BitVec.toNat_ofNat, BitVec.toNat_ofNat, Nat.mod_eq_of_lt (a := n) (by omega), Nat.mod_eq_of_lt (a := 2 ^ k - 1) (by omega), Nat.and_two_pow_sub_one_eq_mod, IntKind.wrap_u64]
  have : n % 2 ^ k < 2 ^ k := Nat.mod_lt _ (Nat.two_pow_pos k)
  rw [← Int.natCast_emod]
  omega
theorem and_P (x : Int) (h0 : 0 ≤ x) (h1 : x < 18446744073709551616) : bits BinOp.and IntKind.u64 x 2305843009213693951 = x % 2305843009213693952 := and_mask x 61 (by decide) h0 h1
theorem and_1 (x : Int) (h0 : 0 ≤ x) (h1 : x < 18446744073709551616) : bits BinOp.and IntKind.u64 x 1 = x % 2 := and_mask x 1 (by decide) h0 h1
theorem or_add (x y : Int) (k : Nat) (hk : k ≤ 63) (hx0 : 0 ≤ x) (hx1 : x < 18446744073709551616) (hd : ((2 ^ k : Nat) : Int) ∣ x) (hy0 : 0 ≤ y) (hy : y < ((2 ^ k : Nat) : Int)) : bits BinOp.or IntKind.u64 x y = x + y := by
  obtain ⟨m, hm⟩ := hd
  obtain ⟨n, rfl⟩ := Int.eq_ofNat_of_zero_le hx0
  obtain ⟨y, rfl⟩ := Int.eq_ofNat_of_zero_le hy0
  have hp : 2 ^ k < 2 ^ 64 := Nat.pow_lt_pow_right (by decide) (by omega)
  have hpp := Nat.two_pow_pos k
  have hm0 : 0 ≤ m := by
    rcases Int.lt_or_le m 0 with h | h
    · exfalso
      have := Int.mul_neg_of_pos_of_neg (a := ((2 ^ k : Nat) : Int)) (b := m) (by omega) h
      omega
    · exact h
  obtain ⟨m, rfl⟩ := Int.eq_ofNat_of_zero_le hm0
  have hn : n = 2 ^ k * m := by exact_mod_cast hm
  show IntKind.u64.wrap ((BitVec.ofInt 64 (n : Int) ||| BitVec.ofInt 64 (y : Int)).toNat : Int) = _
  have hyn : y < 2 ^ k := by exact_mod_cast hy
  rw [BitVec.toNat_or, BitVec.ofInt_natCast, BitVec.ofInt_natCast, BitVec.toNat_ofNat, BitVec.toNat_ofNat, Nat.mod_eq_of_lt (a := n) (by omega), Nat.mod_eq_of_lt (a := y) (by omega), hn, ← Nat.two_pow_add_eq_or_of_lt hyn, IntKind.wrap_u64]
  have h64 : 2 ^ k * m + y < 2 ^ 64 := by
    have e : (2 ^ 64 : Nat) = 2 ^ k * 2 ^ (64 - k) := by rw [← Nat.pow_add]; congr 1; omega
    have hm' : m < 2 ^ (64 - k) := by
      have : 2 ^ k * m < 2 ^ k * 2 ^ (64 - k) := by rw [← e, ← hn]; omega
      exact Nat.lt_of_mul_lt_mul_left this
    rw [e]
    calc 2 ^ k * m + y < 2 ^ k * m + 2 ^ k := by omega
      _ = 2 ^ k * (m + 1) := by rw [Nat.mul_add, Nat.mul_one]
      _ ≤ 2 ^ k * 2 ^ (64 - k) := Nat.mul_le_mul_left _ hm'
  rw [← hn] at h64 ⊢
  omega

end Go.Proofs.Ythancaehlijaoaa
