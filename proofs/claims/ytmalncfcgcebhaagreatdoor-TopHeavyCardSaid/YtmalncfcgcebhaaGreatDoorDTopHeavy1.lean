/- Part. No condition. -/
import Derived.Test.YtmalncfcgcebhaaGreatDoorRows
import Derived.WalkKit
import Derived.WalkSpells
import Derived.WalkLawsBesides
import Derived.Handy
import Derived.PlainAid
import Derived.Deep.QuietTactic
import Derived.BigQuiet
import Derived.Deep.RegionHeld3
import Derived.RegionTactic
import Derived.BigRegion
import Derived.StillTailTactics
import Derived.Deep.DeepCutAuto
import Derived.Deep.DeepFit
import Derived.Lib.Hide
import Derived.Shelf.Bits.Mul64
import Derived.Laws.Externs
import Derived.Shelf.Spec.BitsCarry
import Derived.OrdersHeld
import Derived.Lib.SliceRun
namespace Go.Proofs.YtmalncfcgcebhaaGreatDoor
open Go.RowKit
structure Mod (S:Nat→Prop) (w w':World):Prop where
 os:w'.os=w.os
 tape:w'.tape=w.tape
 output:w'.output=w.output
 size:w.heap.size≤w'.heap.size
 block:∀ k,k < w.heap.size→¬ S k→w'.heap[k]?=w.heap[k]?
abbrev Ext (w w':World):Prop:=Below w.heap.size w w'
theorem Ext.refl (w:World):Ext w w:=Below.refl _ _
theorem Ext.alloc' (w:World) (o:Obj):Ext w (w.alloc o):=(Below.refl _ _).alloc (Nat.le_refl _) o
theorem Ext.trans' {a b c:World} (h:Ext a b) (k:Ext b c):Ext a c:=Below.trans h (k.mono h.size)
theorem Ext.allocR {a b:World} (h:Ext a b) (o:Obj):Ext a (b.alloc o):=h.trans' (Ext.alloc' _ _)
theorem Ext.drewR {a b:World} (h:Ext a b):Ext a b.drew:=Below.drew h
theorem Ext.setR {a b:World} (h:Ext a b) {p:Addr} (hp:a.heap.size≤p.block) (u:Value):Ext a (b.setCell p u):=Below.setCell h hp u
theorem Ext.mod {w w':World} (S:Nat→Prop) (h:Ext w w'):Mod S w w':=⟨h.os,h.tape,h.output,h.size,fun k hk _=>h.block k hk⟩
theorem Mod.refl (S:Nat→Prop) (w:World):Mod S w w:=⟨rfl,rfl,rfl,Nat.le_refl _,fun _ _ _=>rfl⟩
theorem Mod.trans {S:Nat→Prop} {a b c:World} (h:Mod S a b) (k:Mod S b c):Mod S a c :=
 ⟨k.os.trans h.os,k.tape.trans h.tape,k.output.trans h.output,Nat.le_trans h.size k.size,fun i hi hs=>(k.block i (Nat.lt_of_lt_of_le hi h.size) hs).trans (h.block i hi hs)⟩
theorem Mod.mono {S S':Nat→Prop} {a b:World} (h:Mod S a b) (hs:∀ k,S k→k < a.heap.size→S' k):Mod S' a b :=
 ⟨h.os,h.tape,h.output,h.size,fun i hi hn=>h.block i hi (fun x=>hn (hs i x hi))⟩
theorem Mod.below {S:Nat→Prop} {B:Nat} {a b:World} (h:Mod S a b) (hB:B≤a.heap.size) (hs:∀ k,S k→B≤k):Below B a b :=
 ⟨h.os,h.tape,h.output,h.size,fun k hk=>h.block k (Nat.lt_of_lt_of_le hk hB) (fun hS=>by have:=hs k hS; omega)⟩
theorem bcell {W w1:World} (hb:Ext W w1):(∀ b o,b < W.heap.size→w1.cell? ⟨b,o,none⟩=W.cell? ⟨b,o,none⟩)∧(∀ b o,b < W.heap.size→w1.frozen? ⟨b,o,none⟩=W.frozen? ⟨b,o,none⟩) :=
 ⟨fun b o h=>hb.cell (p:=⟨b,o,none⟩) h,fun b o h=>hb.frozen (p:=⟨b,o,none⟩) h⟩
theorem cell_of {w:World} {b:Nat} {c:Array Value} {t:TypeId} {fz:Nat × Nat} (h:w.heap[b]?=some (.cells c t fz)) (o:Nat):w.cell? ⟨b,o,none⟩=c[o]?:=by
 simp [World.cell?,h]
theorem frozen_of {w:World} {b:Nat} {c:Array Value} {t:TypeId} (h:w.heap[b]?=some (.cells c t (0,0))) (o:Nat):w.frozen? ⟨b,o,none⟩=false:=by
 simp [World.frozen?,h]
theorem lt_of {w:World} {b:Nat} {o:Obj} (h:w.heap[b]?=some o):b < w.heap.size:=by
 rcases Nat.lt_or_ge b w.heap.size with h' | h'
 · exact h'
 · rw [Array.getElem?_eq_none h'] at h; cases h
theorem Below.keep {B:Nat} {w w':World} (h:Below B w w') {b:Nat} {o:Obj} (ho:w.heap[b]?=some o) (hb:b < B):w'.heap[b]?=some o:=by
 rw [h.block b hb,ho]
theorem Ext.keep {w w':World} (h:Ext w w') {b:Nat} {o:Obj} (ho:w.heap[b]?=some o):w'.heap[b]?=some o:=by
 rw [h.block b (lt_of ho),ho]
theorem Mod.keep {S:Nat→Prop} {w w':World} (h:Mod S w w') {b:Nat} {o:Obj} (ho:w.heap[b]?=some o) (hs:¬ S b):w'.heap[b]?=some o:=by
 rw [h.block b (lt_of ho) hs,ho]
structure After (W:World) where
 w:World
 h:Ext W w
instance (W:World):Nonempty (After W):=⟨⟨W,Ext.refl W⟩⟩
@[go_sem] theorem After.cell {W:World} (x:After W) {b o:Nat} (h:b < W.heap.size):x.w.cell? ⟨b,o,none⟩=W.cell? ⟨b,o,none⟩:=x.h.cell (p:=⟨b,o,none⟩) h
@[go_sem] theorem After.frozen {W:World} (x:After W) {b o:Nat} (h:b < W.heap.size):x.w.frozen? ⟨b,o,none⟩=W.frozen? ⟨b,o,none⟩:=x.h.frozen (p:=⟨b,o,none⟩) h
theorem wp_region_after {P:Program} {id:Nat} {Q:Exit→Act→World→Prop} {a:Act} {w:World} {l:List Oper} (hm:P.follows .mixedOrders=true) (hB:Region.lexB .any l.toArray=true)
 (h:wpQuiet P l.toArray (fun w'=>∃ x:After w,w'=x.w) (fun a'=>∀ w',(∃ x:After w,w'=x.w)→Q .normal a' w') l a):(Code.region id l.toArray true).wp P Q a w :=
 wp_region_quiet (C:=fun w'=>∃ x:After w,w'=x.w) hm hB ⟨⟨_,(Ext.refl w).drew⟩,rfl⟩ (by simpa using h)
theorem quiet_after {P:Program} {f:FuncId} {args:Array Value} {W:World} {v:Value} {x:After W}
 (h:Calls P f args x.w fun e w'=>e=.returned v∧Ext x.w w'):Calls P f args x.w fun e w''=>e=.returned v∧∃ y:After W,w''=y.w :=
 h.mono fun _ _ ⟨he,hb⟩=>⟨he,⟨_,x.h.trans' hb⟩,rfl⟩
theorem quiet_after_same {P:Program} {f:FuncId} {args:Array Value} {W:World} {v:Value} {x:After W}
 (h:Calls P f args x.w fun e w'=>e=.returned v∧x.w=w'):Calls P f args x.w fun e w''=>e=.returned v∧∃ y:After W,w''=y.w :=
 h.mono fun _ _ ⟨he,hb⟩=>⟨he,x,hb.symm⟩
theorem size_alloc (w:World) (o:Obj):(w.alloc o).heap.size=w.heap.size+1:=by
 show (w.heap.push o).size=_
 simp
theorem heap_at (w:World) (o:Obj) {n:Nat} (h:n=w.heap.size):(w.alloc o).heap[n]?=some o:=by
 subst h
 show (w.heap.push o)[w.heap.size]?=some o
 simp
theorem heap_old (w:World) (o:Obj) {n:Nat} (h:n < w.heap.size):(w.alloc o).heap[n]?=w.heap[n]?:=Below.heap_alloc w o n h
theorem pow_bd (k:Nat) (h:k≤59):1≤(2:Int) ^ k∧(2:Int) ^ k≤576460752303423488:=by
 have h1:2 ^ k≤2 ^ 59:=Nat.pow_le_pow_right (by decide) h
 have h2:=Nat.two_pow_pos k
 have e:((2 ^ k:Nat):Int)=(2:Int) ^ k:=by push_cast; rfl
 omega
theorem ret_int {k:IntKind} {a b:Int} (h:a=b):Ending.returned (.int k a)=.returned (.int k b):=by rw [h]
def U64 (x:Int):Prop:=0≤x∧x < 18446744073709551616
def I64 (x:Int):Prop:=-9223372036854775808≤x∧x≤9223372036854775807
theorem and_mask (x:Int) (k:Nat) (hk:k≤63) (h0:0≤x) (h1:x < 18446744073709551616):bits BinOp.and IntKind.u64 x ((2 ^ k - 1:Nat):Int)=x % ((2 ^ k:Nat):Int):=by
 obtain ⟨n,rfl⟩:=Int.eq_ofNat_of_zero_le h0
 have hp:2 ^ k < 2 ^ 64:=Nat.pow_lt_pow_right (by decide) (by omega)
 show IntKind.u64.wrap ((BitVec.ofInt 64 (n:Int) &&& BitVec.ofInt 64 ((2 ^ k - 1:Nat):Int)).toNat:Int)=_
 rw [BitVec.toNat_and,BitVec.ofInt_natCast,BitVec.ofInt_natCast,BitVec.toNat_ofNat,BitVec.toNat_ofNat,Nat.mod_eq_of_lt (a:=n) (by omega),Nat.mod_eq_of_lt (a:=2 ^ k - 1) (by omega),Nat.and_two_pow_sub_one_eq_mod,IntKind.wrap_u64]
 have:n % 2 ^ k < 2 ^ k:=Nat.mod_lt _ (Nat.two_pow_pos k)
 rw [← Int.natCast_emod]
 omega
theorem and_P (x:Int) (h0:0≤x) (h1:x < 18446744073709551616):bits BinOp.and IntKind.u64 x 2305843009213693951=x % 2305843009213693952:=and_mask x 61 (by decide) h0 h1
theorem and_1 (x:Int) (h0:0≤x) (h1:x < 18446744073709551616):bits BinOp.and IntKind.u64 x 1=x % 2:=and_mask x 1 (by decide) h0 h1
theorem or_add (x y:Int) (k:Nat) (hk:k≤63) (hx0:0≤x) (hx1:x < 18446744073709551616) (hd:((2 ^ k:Nat):Int) ∣ x) (hy0:0≤y) (hy:y < ((2 ^ k:Nat):Int)):bits BinOp.or IntKind.u64 x y=x+y:=by
 obtain ⟨m,hm⟩:=hd
 obtain ⟨n,rfl⟩:=Int.eq_ofNat_of_zero_le hx0
 obtain ⟨y,rfl⟩:=Int.eq_ofNat_of_zero_le hy0
 have hp:2 ^ k < 2 ^ 64:=Nat.pow_lt_pow_right (by decide) (by omega)
 have hpp:=Nat.two_pow_pos k
 have hm0:0≤m:=by
  rcases Int.lt_or_le m 0 with h | h
  · exfalso
    have:=Int.mul_neg_of_pos_of_neg (a:=((2 ^ k:Nat):Int)) (b:=m) (by omega) h
    omega
  · exact h
 obtain ⟨m,rfl⟩:=Int.eq_ofNat_of_zero_le hm0
 have hn:n=2 ^ k*m:=by exact_mod_cast hm
 show IntKind.u64.wrap ((BitVec.ofInt 64 (n:Int) ||| BitVec.ofInt 64 (y:Int)).toNat:Int)=_
 have hyn:y < 2 ^ k:=by exact_mod_cast hy
 rw [BitVec.toNat_or,BitVec.ofInt_natCast,BitVec.ofInt_natCast,BitVec.toNat_ofNat,BitVec.toNat_ofNat,Nat.mod_eq_of_lt (a:=n) (by omega),Nat.mod_eq_of_lt (a:=y) (by omega),hn,← Nat.two_pow_add_eq_or_of_lt hyn,IntKind.wrap_u64]
 have h64:2 ^ k*m+y < 2 ^ 64:=by
  have e:(2 ^ 64:Nat)=2 ^ k*2 ^ (64 - k):=by rw [← Nat.pow_add]; congr 1; omega
  have hm':m < 2 ^ (64 - k):=by
   have:2 ^ k*m < 2 ^ k*2 ^ (64 - k):=by rw [← e,← hn]; omega
   exact Nat.lt_of_mul_lt_mul_left this
  rw [e]
  calc 2 ^ k*m+y < 2 ^ k*m+2 ^ k:=by omega
   _=2 ^ k*(m+1):=by rw [Nat.mul_add,Nat.mul_one]
   _≤2 ^ k*2 ^ (64 - k):=Nat.mul_le_mul_left _ hm'
 rw [← hn] at h64 ⊢
 omega
end Go.Proofs.YtmalncfcgcebhaaGreatDoor
namespace Go.Proofs.YtmalncfcgcebhaaGreatDoor
open Go.RowKit Go.Shelf
def lays264_ren:Go.Shelf.Ren:=⟨fun | 264=>192 | n=>n,fun | 53=>22 | 46=>49 | n=>n,fun | n=>n⟩
theorem lays264:Go.Proofs.Lays.n264 Tryz.prog lays264_ren:={
 mixed:=by kernel_rfl
 f264:=Tryz.func192.trans (congrArg some (by kernel_rfl))
 t46:=Tryz.underlying49
 a46:=Tryz.isAgg49
 z46:=Tryz.sizeOf49
 v46:=Tryz.zeroValue49
 t53:=Tryz.underlying22
 a53:=Tryz.isAgg22
 z53:=Tryz.sizeOf22
 v53:=Tryz.zeroValue22 }
theorem mul64 (x y:Int) (hx:U64 x) (hy:U64 y) (w:World) :
 Calls Tryz.prog 192 #[.int .u64 x,.int .u64 y] w fun e w'=>e=.returned (.tuple #[.int .u64 (x*y / 18446744073709551616),.int .u64 (x*y % 18446744073709551616)])∧w=w':=by
 obtain ⟨hx0,hx1⟩:=hx
 obtain ⟨hy0,hy1⟩:=hy
 obtain ⟨x,rfl⟩:=Int.eq_ofNat_of_zero_le hx0
 obtain ⟨y,rfl⟩:=Int.eq_ofNat_of_zero_le hy0
 refine (Any.bits_Mul64 lays264 x y (by omega) (by omega) w).mono ?_
 rintro e w' ⟨he,hw⟩
 exact ⟨he,hw.symm⟩
theorem add64 (x y c:Int) (hx:0≤x) (hy:0≤y) (hc0:0≤c) (hc:c≤1) (w:World):(callFunc 251 #[.int .u64 x,.int .u64 y,.int .u64 c]).run Tryz.prog w =
 .ok (.value (.tuple #[.int .u64 ((x+y+c) % 18446744073709551616),.int .u64 ((x+y+c) / 18446744073709551616)])) w:=by
 rw [run_callFunc_extern Tryz.func251 (by kernel_rfl) (by kernel_rfl) (by kernel_rfl) (e:=add64Entry) (by kernel_rfl),run_add64 x y c hx hy hc0 hc]
 rfl
theorem add64_0 (x y:Int) (hx:0≤x) (hy:0≤y) (w:World):(callFunc 251 #[.int .u64 x,.int .u64 y,.int .u64 0]).run Tryz.prog w =
 .ok (.value (.tuple #[.int .u64 ((x+y) % 18446744073709551616),.int .u64 ((x+y) / 18446744073709551616)])) w:=by
 simpa using add64 x y 0 hx hy (Int.le_refl 0) (by decide) w
def bor (x y:Int):Int:=if x < y then 1 else 0
theorem sub64 (x y b:Int) (hx:0≤x) (hy:0≤y) (hy':y < 18446744073709551616) (hb0:0≤b) (hb:b≤1) (w:World):(callFunc 275 #[.int .u64 x,.int .u64 y,.int .u64 b]).run Tryz.prog w =
 .ok (.value (.tuple #[.int .u64 ((x - y - b) % 18446744073709551616),.int .u64 (bor x (y+b))])) w:=by
 obtain ⟨x,rfl⟩:=Int.eq_ofNat_of_zero_le hx
 obtain ⟨y,rfl⟩:=Int.eq_ofNat_of_zero_le hy
 obtain ⟨b,rfl⟩:=Int.eq_ofNat_of_zero_le hb0
 have e1:(((x+18446744073709551616 - y - b) % 18446744073709551616:Nat):Int)=((x:Int) - y - b) % 18446744073709551616:=by omega
 have e2:((if x < y+b then 1 else 0:Nat):Int)=bor (x:Int) (y+b):=by unfold bor; split <;> split <;> omega
 rw [← e1,← e2]
 rw [run_callFunc_extern Tryz.func275 (by kernel_rfl) (by kernel_rfl) (by kernel_rfl) (e:=sub64Entry) (by kernel_rfl),run_sub64 x y b (by omega)]
 rfl
theorem sub64_0 (x y:Int) (hx:0≤x) (hy:0≤y) (hy':y < 18446744073709551616) (w:World):(callFunc 275 #[.int .u64 x,.int .u64 y,.int .u64 0]).run Tryz.prog w =
 .ok (.value (.tuple #[.int .u64 ((x - y) % 18446744073709551616),.int .u64 (bor x y)])) w:=by
 simpa using sub64 x y 0 hx hy hy' (Int.le_refl 0) (by decide) w
def fold (x:Int):Int:=x % 2305843009213693951
theorem fold_bd (x:Int):0≤fold x∧fold x < 2305843009213693951:=by unfold fold; omega
theorem fold_u (x:Int):U64 (fold x):=by unfold fold U64; omega
set_option maxHeartbeats 400000 in
theorem Fold_c (x:Int) (h:U64 x) (w:World) :
 Calls Tryz.prog 191 #[.int .u64 x] w fun e w'=>e=.returned (.int .u64 (fold x))∧w=w':=by
 obtain ⟨h0,h1⟩:=h
 have e1:=and_P x h0 h1
 go_enter Tryz.func191,Tryz.ntmps191
 go_wp2
 all_goals
  go_ret
  exact ⟨ret_int (by show _=x % 2305843009213693951; omega),rfl⟩
def fadd (a b:Int):Int:=fold (fold a+fold b)
set_option maxHeartbeats 400000 in
theorem Fadd_c (a b:Int) (ha:U64 a) (hb:U64 b) (w:World) :
 Calls Tryz.prog 153 #[.int .u64 a,.int .u64 b] w fun e w'=>e=.returned (.int .u64 (fadd a b))∧w=w':=by
 obtain ⟨a1,a2⟩:=fold_bd a
 obtain ⟨b1,b2⟩:=fold_bd b
 go_enter Tryz.func153,Tryz.ntmps153
 go_wp2_with (go_at_call 191; refine (Fold_c _ (by first | assumption | (unfold U64; omega)) _).mono ?_; rintro e w' ⟨rfl,rfl⟩)
 go_ret
 exact ⟨rfl,rfl⟩
def fmul (a b:Int):Int:=fadd (fold a*fold b / 2305843009213693952) (fold a*fold b % 2305843009213693952)
theorem mul_lt (a b:Int) (ha:0≤a) (ha':a < 2305843009213693951) (hb:0≤b) (hb':b < 2305843009213693951):0≤a*b∧a*b < 2305843009213693951*2305843009213693951:=by
 refine ⟨Int.mul_nonneg ha hb, ?_⟩
 rcases Int.lt_or_eq_of_le hb with h | h
 · exact Int.lt_of_lt_of_le (Int.mul_lt_mul_of_pos_right ha' h) (Int.mul_le_mul_of_nonneg_left (Int.le_of_lt hb') (by decide))
 · rw [← h]; simp
set_option maxHeartbeats 400000 in
theorem Fmul_c (a b:Int) (ha:U64 a) (hb:U64 b) (w:World) :
 Calls Tryz.prog 154 #[.int .u64 a,.int .u64 b] w fun e w'=>e=.returned (.int .u64 (fmul a b))∧w=w':=by
 obtain ⟨a1,a2⟩:=fold_bd a
 obtain ⟨b1,b2⟩:=fold_bd b
 obtain ⟨m1,m2⟩:=mul_lt _ _ a1 a2 b1 b2
 have e3:fold a*fold b % 18446744073709551616 / 2305843009213693952 < 8:=by omega
 have e4:0≤fold a*fold b % 18446744073709551616 / 2305843009213693952:=by omega
 have e5:bits BinOp.or IntKind.u64 (fold a*fold b / 18446744073709551616*8) (fold a*fold b % 18446744073709551616 / 2305843009213693952)=fold a*fold b / 2305843009213693952:=by
  rw [or_add _ _ 3 (by decide) (by omega) (by omega) ⟨fold a*fold b / 18446744073709551616,by omega⟩ (by omega) (by omega)]
  omega
 have e6:bits BinOp.and IntKind.u64 (fold a*fold b % 18446744073709551616) 2305843009213693951=fold a*fold b % 2305843009213693952:=by
  rw [and_P _ (by omega) (by omega)]; omega
 have e7:IntKind.u64.wrap (fold a*fold b / 18446744073709551616*8)=fold a*fold b / 18446744073709551616*8:=IntWalk.u64_in _ (by omega)
 go_enter Tryz.func154,Tryz.ntmps154
 go_wp2_with (first
  | (go_at_call 191; refine (Fold_c _ (by assumption) _).mono ?_; rintro e w' ⟨rfl,rfl⟩)
  | (go_at_call 192; refine (mul64 _ _ (fold_u _) (fold_u _) _).mono ?_; rintro e w' ⟨rfl,rfl⟩)
  | (go_at_call 153; refine (Fadd_c _ _ (by unfold U64; omega) (by unfold U64; omega) _).mono ?_; rintro e w' ⟨rfl,rfl⟩))
 go_ret
 exact ⟨rfl,rfl⟩
theorem fadd_u (a b:Int):U64 (fadd a b):=fold_u _
theorem fmul_u (a b:Int):U64 (fmul a b):=fold_u _
end Go.Proofs.YtmalncfcgcebhaaGreatDoor
namespace Go.Proofs.YtmalncfcgcebhaaGreatDoor
set_option linter.unusedVariables false
open Go.RowKit
def ints (l:List Int):List Value:=l.map (.int .i64)
theorem ints_len (l:List Int):(ints l).length=l.length:=by simp [ints]
def fillA (f:Nat→Int) (k n:Nat):Array Value:=Array.ofFn fun i:Fin n=>.int .i64 (if i.val < k then f i.val else 0)
theorem fillA_size (f:Nat→Int) (k n:Nat):(fillA f k n).size=n:=by simp [fillA]
theorem fillA_at (f:Nat→Int) (k n i:Nat) (h:i < n):(fillA f k n)[i]?=some (.int .i64 (if i < k then f i else 0)):=by
 simp [fillA,h]
theorem fillA_set (f:Nat→Int) (k n:Nat):(fillA f k n).setIfInBounds k (.int .i64 (f k))=fillA f (k+1) n:=by
 apply Array.ext
 · simp [fillA]
 · intro i h1 h2
   simp only [fillA,Array.size_setIfInBounds,Array.size_ofFn] at h1 h2
   rw [Array.getElem_setIfInBounds (by simpa [fillA] using h1)]
   simp only [fillA,Array.getElem_ofFn]
   by_cases e:k=i
   · subst e; simp
   · rw [if_neg e]
     by_cases h:i < k
     · rw [if_pos h,if_pos (by omega)]
     · rw [if_neg h,if_neg (by omega)]
theorem fillA_done (f:Nat→Int) (n:Nat):(fillA f n n).toList=ints ((List.range n).map f):=by
 apply List.ext_getElem
 · simp [fillA,ints]
 · intro i h1 h2
   simp only [fillA,Array.toList_ofFn,List.length_ofFn] at h1
   simp [fillA,ints]
theorem run_make_ints {P:Program} (t e:TypeId) (i:TypeInfo) (ht:P.underlying t=some (.slice e)) (hi:P.info? e=some i) (hz:i.zero=some (.int .i64 0)) (hs:i.size=1) (hb:i.bytes=8)
 (n:Nat) (hn:n≤1000000) (f:Nat→Int) (w:World) :
 (Instr.makeSlice t (.int .i64 (n:Int)) (.int .i64 (n:Int))).run P w=.ok (.slice (some ⟨w.heap.size,0,none⟩) n n) (w.alloc (.cells (fillA f 0 n) e)):=by
 have h:=run_make w t e i (.int .i64 0) ht hi hz .i64 .i64 n n (by omega) (by omega) (by rw [hb]; omega) (by omega)
 simp only [Int.toNat_natCast] at h
 rw [h,hs]
 congr 3
 apply Array.ext
 · rw [size_madeCells,fillA_size]; omega
 · intro j h1 h2
   rw [fillA_size] at h2
   simp [madeCells,fillA,Value.cells,Nat.mod_one]
theorem ownsRow_of {w:World} {base g:Nat} {e:TypeId} {cur:Array Value} {n cap:Nat} {xs:List Value} (h:w.heap[g]?=some (.cells cur e (0,0))) (hb:base≤g) (hn:n≤cap) (hc:cap≤maxLen) (hs:cur.size=cap) (hx:cur.toList.take n=xs) :
 w.ownsRow base e 1 (.slice (some ⟨g,0,none⟩) n cap) n xs:=by
 refine ⟨?_,.inr ⟨g,cap,cur,rfl,hb,h,hn,hc,by omega,by rw [Nat.mul_one]; exact hx⟩⟩
 rw [← hx]; simp; omega
theorem setCell_same {w:World} {b:Nat} {c:Array Value} {t:TypeId} {fz:Nat × Nat} (h:w.heap[b]?=some (.cells c t fz)) (o:Nat) (v:Value) :
 (w.setCell ⟨b,o,none⟩ v).heap[b]?=some (.cells (c.setIfInBounds o v) t fz):=by
 show (w.heap.modify b _)[b]?=_
 rw [Array.getElem?_modify,if_pos rfl,h]
 rfl
theorem setCell_other {w:World} {b b':Nat} (o:Nat) (v:Value) (hn:b'≠b):(w.setCell ⟨b,o,none⟩ v).heap[b']?=w.heap[b']? :=
 Below.heap_setCell _ _ _ _ hn
theorem size_setCell (w:World) (a:Addr) (v:Value):(w.setCell a v).heap.size=w.heap.size:=by simp [World.setCell]
def IntsAt (w:World) (v:Value) (xs:List Int):Prop :=
 (v=.slice none 0 0∧xs=[])∨∃ g off cap,v=.slice (some ⟨g,off,none⟩) xs.length cap∧g < w.heap.size∧∀ k,k < xs.length→w.cell? ⟨g,off+k,none⟩=some (.int .i64 (xs.getD k 0))
theorem IntsAt.ext {w w':World} {v:Value} {xs:List Int} (h:IntsAt w v xs) (he:Ext w w'):IntsAt w' v xs:=by
 rcases h with h | ⟨g,off,cap,h1,h2,h3⟩
 · exact .inl h
 · exact .inr ⟨g,off,cap,h1,Nat.lt_of_lt_of_le h2 he.size,fun k hk=>((bcell he).1 _ _ h2).trans (h3 k hk)⟩
theorem IntsAt.of_row {w:World} {base:Nat} {e:TypeId} {v:Value} {n:Nat} {xs:List Int} (h:w.ownsRow base e 1 v n (ints xs)):IntsAt w v xs:=by
 obtain ⟨h1,h2⟩:=h
 have hn:n=xs.length:=by simpa [ints] using h1.symm
 subst hn
 rcases h2 with ⟨h2,h3⟩ | ⟨g,cap,cur,rfl,_,hh,hc,_,hs,ht⟩
 · exact .inl ⟨h2,List.length_eq_zero_iff.1 h3⟩
 · refine .inr ⟨g,0,cap,rfl,lt_of hh,fun k hk=>?_⟩
   rw [cell_of hh,Nat.zero_add]
   have:(cur.toList.take (xs.length*1))[k]?=(ints xs)[k]?:=by rw [ht]
   rw [List.getElem?_take_of_lt (by omega)] at this
   simp only [Array.getElem?_toList] at this
   rw [this]
   simp [ints,hk]
def lsum (l:List Int):Int:=l.foldl (·+·) 0
theorem lsum_acc (l:List Int):∀ a:Int,l.foldl (·+·) a=a+lsum l:=by
 unfold lsum
 induction l with
 | nil=>intro a; simp
 | cons x l ih=>intro a; simp only [List.foldl_cons]; rw [ih (a+x),ih (0+x)]; omega
theorem lsum_cons (x:Int) (l:List Int):lsum (x :: l)=x+lsum l:=by
 show (x :: l).foldl (·+·) 0=_
 rw [List.foldl_cons,lsum_acc]; omega
theorem lsum_nil:lsum []=0:=rfl
theorem lsum_append (a b:List Int):lsum (a++b)=lsum a+lsum b:=by
 induction a with
 | nil=>simp [lsum_nil]
 | cons x a ih=>rw [List.cons_append,lsum_cons,lsum_cons,ih]; omega
theorem take_snoc {l:List Int} {k:Nat} (h:k < l.length):l.take (k+1)=l.take k++[l.getD k 0]:=by
 rw [List.take_succ_eq_append_getElem h]; simp [h]
theorem lsum_snoc {l:List Int} {k:Nat} (h:k < l.length):lsum (l.take (k+1))=lsum (l.take k)+l.getD k 0:=by
 rw [take_snoc h,lsum_append,lsum_cons,lsum_nil]; omega
theorem lsum_bd {l:List Int} {B:Int} (hb:0≤B) (h:∀ x∈l,-B≤x∧x≤B):-(l.length*B)≤lsum l∧lsum l≤l.length*B:=by
 induction l with
 | nil=>simp [lsum_nil]
 | cons x l ih =>
   have h1:=h x (by simp)
   have h2:=ih (fun y hy=>h y (by simp [hy]))
   rw [lsum_cons]
   have e:((x :: l).length:Int)*B=l.length*B+B:=by simp [Int.add_mul]
   omega
theorem getD_mem {l:List Int} {k:Nat} (h:k < l.length):l.getD k 0∈l:=by simp [h]
end Go.Proofs.YtmalncfcgcebhaaGreatDoor
namespace Go.Proofs.YtmalncfcgcebhaaGreatDoor
open Go.RowKit
section
variable {P:Program} {ops:Array Oper} {md:Region.Mode} {C:World→Prop}
def headQ (P:Program) (md:Region.Mode) (ops:Array Oper) (C:World→Prop) (n:Nat) (L:Array Bool→Act→Prop):Nat→Array Bool→Act→Prop
 | 0,listed,a=>L listed a
 | f+1,listed,a=>Region.ready md ops listed≠[]∧∀ i∈Region.ready md ops listed,i < n∧qOp P ops C i (headQ P md ops C n L f (listed.setIfInBounds i true)) a
theorem any_of_headQ {n g:Nat} {L:Array Bool→Act→Prop} {Q':Exit→Act→World→Prop} (hL:∀ listed a w,C w→L listed a→wpAny P md ops Q' g listed a w) :
 ∀ (f:Nat) (listed:Array Bool) (a:Act) (w:World),C w→headQ P md ops C n L f listed a→wpAny P md ops Q' (f+g) listed a w:=by
 intro f
 induction f with
 | zero=>intro listed a w hw h; rw [Nat.zero_add]; exact hL _ _ _ hw h
 | succ f ih =>
   intro listed a w hw h
   rw [show f+1+g=(f+g)+1 by omega]
   exact ⟨fun h0=>absurd h0 h.1,fun i hi=>wpOp_of_qOp hw (fun a' w' hw' h'=>ih _ a' w' hw' h') (h.2 i hi).2⟩
theorem headQ_first {n i:Nat} {oi:Oper} {v:Value} {L:Array Bool→Act→Prop} (hi:ops[i]?=some oi) (hsel:∀ (j:Nat) (o:Oper) cs b,ops[j]?=some o→o.op≠.select cs b)
 (hs:Region.sinkB md ops n=true) (hc:Region.chainB md ops n=true) (hn:n < ops.size) (hin:i < n)
 (hdone:∀ listed a,L listed a→∀ j∈Region.ready md ops listed,n≤j) :
 ∀ (f:Nat) (listed:Array Bool) (a:Act),HeadInv md ops n listed →
   (∀ j oj,ops[j]?=some oj→j≠i→listed.getD j true=false→(∀ e∈oj.after,Region.binds md e=true→e.on≠i)→oi.apart ops oj=true) →
   i∈Region.ready md ops listed→YieldsIn P ops C oi v a →
   headQ P md ops C n L f (listed.setIfInBounds i true) (a.put oi.dst v)→headQ P md ops C n L (f+1) listed a:=by
 intro f
 induction f with
 | zero =>
   intro listed a inv _ hr hy H
   have hun:=(mem_ready.1 hr).1
   refine ⟨fun h=>(by rw [h] at hr; cases hr),fun j hj=>?_⟩
   have hjn:j < n:=Nat.lt_of_not_le fun h=>tail_waits hs hc hn inv _ i rfl hin hun j h hj
   refine ⟨hjn, ?_⟩
   by_cases hji:j=i
   · subst hji; exact hy.qOp hi H
   · exact absurd (hdone _ _ H j (ready_mono hj hji)) (by omega)
 | succ f ih =>
   intro listed a inv hfree hr hy H
   have hun:=(mem_ready.1 hr).1
   refine ⟨fun h=>(by rw [h] at hr; cases hr),fun j hj=>?_⟩
   have hjn:j < n:=Nat.lt_of_not_le fun h=>tail_waits hs hc hn inv _ i rfl hin hun j h hj
   refine ⟨hjn, ?_⟩
   by_cases hji:j=i
   · subst hji; exact hy.qOp hi H
   · have h1:=(H.2 j (ready_mono hj hji)).2
     obtain ⟨hjun,oj,hoj,hall⟩:=mem_ready.1 hj
     have hnot:∀ e∈oj.after,Region.binds md e=true→e.on≠i:=fun e he hb heq=>by
      have h1:=hall e he hb
      rw [heq,getD_both hun] at h1
      cases h1
     have h2:=qOp_put hoj (hfree j oj hoj hji hjun hnot) (fun cs b=>hsel i oi cs b hi) (fun cs b=>hsel j oj cs b hoj) hy h1
     refine qOp_mono (fun a' h3=>ih (listed.setIfInBounds j true) a' (inv.set hj hjn) (fun k ok hk hki hun hno=>?_) (ready_mono hr (Ne.symm hji)) h3.1 ?_) h2
     · refine hfree k ok hk hki ?_ hno
       by_cases hjk:j=k
       · subst hjk; exact hjun
       · rw [getD_set_ne true hjk] at hun; exact hun
     · rw [Array.setIfInBounds_comm _ _ hji]
       exact h3.2
theorem headQ_lex {n g:Nat} {Lq:Act→Prop} (hsel:Region.noSelect ops=true) (hs:Region.sinkB md ops n=true) (hc:Region.chainB md ops n=true) (hn:n < ops.size) :
 ∀ (l:List Oper) (k:Nat) (listed:Array Bool) (a:Act),(∀ j,j < l.length→l[j]?=ops[k+j]?)→k+l.length=n→HeadInv md ops n listed →
 Region.lexHead md ops g l.length k listed=true→wpQuiet P ops C Lq l a →
 headQ P md ops C n (fun listed' a'=>Region.seqB md ops g n listed'=true∧Lq a') l.length listed a
 | [],k,listed,a,_,hk,_,hB,h=>by
   have:k=n:=by simpa using hk
   subst this
   exact ⟨by simpa [Region.lexHead] using hB,h⟩
 | o :: l,k,listed,a,hl,hk,inv,hB,h=>by
   have h0:ops[k]?=some o:=by simpa using (hl 0 (by simp)).symm
   simp only [List.length_cons,Region.lexHead,Bool.and_eq_true] at hB
   obtain ⟨⟨hr,hf⟩,hB'⟩:=hB
   have hkn:k < n:=by simp only [List.length_cons] at hk; omega
   have hr':k∈Region.ready md ops listed:=by simpa using hr
   have hst:qOp P ops C k (wpQuiet P ops C Lq l) a:=by unfold qOp; simp only [h0]; exact h
   obtain ⟨v,hy,hK⟩:=yieldsIn_of_qOp h0 hst
   exact headQ_first h0 (Region.noSelect_spec hsel) hs hc hn hkn (fun listed' a' hL=>seqB_ready hL.1) l.length listed a inv (Region.free_spec h0 hf) hr' hy
    (headQ_lex hsel hs hc hn l (k+1) _ _ (fun j hj=>by have:=hl (j+1) (by simp; omega); simpa [Nat.add_assoc,Nat.add_comm 1 j] using this) (by simp only [List.length_cons] at hk; omega) (inv.set hr' hkn) hB' hK)
theorem wp_region_quiet_tail {id:Nat} {Q:Exit→Act→World→Prop} {a:Act} {w:World} {l:List Oper} (n:Nat) (hm:P.follows .mixedOrders=true) (hB:Region.lexTailB .any l.toArray n=true) (hC:C { w with drawn:=w.drawn+1 })
 (h:wpQuiet P l.toArray C (fun a'=>∀ w',C w'→wpList P l.toArray Q (l.drop n) a' w') (l.take n) a):(Code.region id l.toArray true).wp P Q a w:=by
 simp only [Region.lexTailB,Bool.and_eq_true,decide_eq_true_eq] at hB
 obtain ⟨⟨⟨⟨hsel,hn⟩,hs⟩,hc⟩,hlex⟩:=hB
 have hn':n < l.length:=by simpa using hn
 have htl:(l.take n).length=n:=by simp; omega
 have hdl:(l.drop n).length=l.toArray.size - n:=by simp
 have inv0:HeadInv .any l.toArray n (Array.replicate l.toArray.size false) :=
  ⟨by simp,fun j oj _ hl=>(by rw [getD_replicate_false] at hl; cases hl),fun t _ ht=>getD_in (by simpa using ht) (getD_replicate_false _ _)⟩
 have H:=headQ_lex (md:=.any) (g:=l.toArray.size - n) hsel hs hc hn (l.take n) 0 _ a (fun j hj=>by
  have hj':j < n:=by rw [htl] at hj; exact hj
  simp [hj']) (by simpa using htl) inv0 (by rw [htl]; exact hlex) h
 refine wp_region_any hm ?_
 have:=any_of_headQ (Q':=Q) (g:=l.toArray.size - n) (fun listed a' w' hw' hL=>by
  have:=wpAny_of_seq (md:=.any) (Q':=Q) (l.drop n) n listed a' w' (fun j=>by simp [List.getElem?_drop]) (by rw [hdl]; exact hL.1) (hL.2 w' hw')
  rwa [hdl] at this) _ _ _ _ hC H
 rw [htl,show n+(l.toArray.size - n)=l.toArray.size by omega] at this
 exact this
end
theorem wp_region_after_tail {P:Program} {id:Nat} {Q:Exit→Act→World→Prop} {a:Act} {w:World} {l:List Oper} (n:Nat) (hm:P.follows .mixedOrders=true) (hB:Region.lexTailB .any l.toArray n=true)
 (h:wpQuiet P l.toArray (fun w'=>∃ x:After w,w'=x.w) (fun a'=>∀ w',(∃ x:After w,w'=x.w)→wpList P l.toArray Q (l.drop n) a' w') (l.take n) a):(Code.region id l.toArray true).wp P Q a w :=
 wp_region_quiet_tail n hm hB ⟨⟨_,(Ext.refl w).drew⟩,rfl⟩ h
end Go.Proofs.YtmalncfcgcebhaaGreatDoor
namespace Go.Proofs.YtmalncfcgcebhaaGreatDoor
set_option linter.unusedVariables false
open Go.RowKit
def hi (x:Int):Int:=x / 18446744073709551616
def lo (x:Int):Int:=x % 18446744073709551616
theorem lo_u (x:Int):U64 (lo x):=by unfold lo U64; omega
theorem hilo (x:Int):hi x*18446744073709551616+lo x=x:=by unfold hi lo; omega
def W128 (x:Int):Prop:=-170141183460469231731687303715884105728≤x∧x≤170141183460469231731687303715884105727
theorem w_of_i {x:Int} (h:I64 x):W128 x:=by unfold I64 at h; unfold W128; omega
set_option maxHeartbeats 400000 in
theorem Of_c (n:Int) (h:I64 n) (w:World) :
 Calls Tryz.prog 215 #[.int .i64 n] w fun e w'=>e=.returned (.agg #[.int .i64 (hi n),.int .u64 (lo n)])∧Ext w w':=by
 obtain ⟨h0,h1⟩:=h
 have e1:n / 9223372036854775808=hi n:=by unfold hi; omega
 have e2:IntKind.u64.wrap n=lo n:=by rw [IntKind.wrap_u64]; rfl
 go_enter Tryz.func215,Tryz.ntmps215
 go_wp2
 exact bodyPost_ret (v:=.agg #[.int .i64 (hi n),.int .u64 (lo n)]) (by simp [results,Tryz.results215,go_sem]) rfl ⟨rfl,(Below.refl _ _).alloc (Nat.le_refl _) _⟩
theorem w64_lo (x:Int) (h:I64 x):wrap64 (lo x)=x:=by
 unfold I64 at h; unfold lo wrap64; omega
theorem w64_i (x:Int):I64 (wrap64 x):=by unfold I64 wrap64; omega
theorem hi_ne (x:Int) (h:¬ I64 x):hi (wrap64 (lo x))≠hi x:=by
 unfold I64 at h; unfold hi lo wrap64; omega
set_option maxHeartbeats 1000000 in
theorem Int_yes (x:Int) (h:I64 x) (w:World) :
 Calls Tryz.prog 216 #[.agg #[.int .i64 (hi x),.int .u64 (lo x)]] w fun e w'=>e=.returned (.tuple #[.int .i64 x,.bool true])∧Ext w w':=by
 have e1:=w64_lo x h
 go_enter Tryz.func216,Tryz.ntmps216
 go_wp2
 refine wp_region_after (by kernel_rfl) (by kernel_rfl) ?_
 repeat (go_big_quiet_step ((go_at_call 215; exact quiet_after (Of_c _ h _))))
 refine wpQuiet_nil ?_
 rintro _ ⟨xx,rfl⟩
 obtain ⟨w1,hb1⟩:=xx
 try dsimp only
 go_wp2
 go_ret2
 exact ⟨by show Ending.returned (.tuple #[.int .i64 (wrap64 (lo x)),.bool true])=_; rw [e1],by (repeat' (first | exact Ext.refl _ | assumption | apply Ext.allocR | apply Ext.drewR | apply Ext.drewNR | (refine Ext.trans' ?_ (by assumption))))⟩
set_option maxHeartbeats 1000000 in
theorem Int_no (x:Int) (h:¬ I64 x) (w:World) :
 Calls Tryz.prog 216 #[.agg #[.int .i64 (hi x),.int .u64 (lo x)]] w fun e w'=>e=.returned (.tuple #[.int .i64 0,.bool false])∧Ext w w':=by
 have e1:(hi (wrap64 (lo x)) == hi x)=false:=by simpa using hi_ne x h
 have e2:(hi (wrap64 (lo x))=hi x)=False:=by simpa using hi_ne x h
 go_enter Tryz.func216,Tryz.ntmps216
 go_wp2
 refine wp_region_after (by kernel_rfl) (by kernel_rfl) ?_
 repeat (go_big_quiet_step ((go_at_call 215; exact quiet_after (Of_c _ (w64_i _) _))))
 refine wpQuiet_nil ?_
 rintro _ ⟨xx,rfl⟩
 obtain ⟨w1,hb1⟩:=xx
 try dsimp only
 go_wp2
 go_ret2
 exact ⟨rfl,by (repeat' (first | exact Ext.refl _ | assumption | apply Ext.allocR | apply Ext.drewR | apply Ext.drewNR | (refine Ext.trans' ?_ (by assumption))))⟩
theorem hi_neg (x:Int):(hi x < 0)=(x < 0):=by unfold hi; exact propext ⟨fun h=>by omega,fun h=>by omega⟩
theorem add_hi (x y:Int) (hx:W128 x) (hy:W128 y):(hi x % 18446744073709551616+hi y % 18446744073709551616+(lo x+lo y) / 18446744073709551616) % 18446744073709551616=hi (x+y) % 18446744073709551616:=by
 unfold hi lo; omega
theorem add_lo (x y:Int):(lo x+lo y) % 18446744073709551616=lo (x+y):=by unfold lo; omega
theorem wu0 (x:Int):0≤IntKind.u64.wrap x:=by rw [IntKind.wrap_u64]; omega
def car (x y:Int):Int:=(lo x+lo y) / 18446744073709551616
def hu (x:Int):Int:=hi x % 18446744073709551616
theorem add64_lo (x y:Int) (w:World):(callFunc 251 #[.int .u64 (lo x),.int .u64 (lo y),.int .u64 0]).run Tryz.prog w =
 .ok (.value (.tuple #[.int .u64 (lo (x+y)),.int .u64 (car x y)])) w:=by
 obtain ⟨x1,x2⟩:=lo_u x
 obtain ⟨y1,y2⟩:=lo_u y
 rw [add64_0 _ _ x1 y1,add_lo]; rfl
def car2 (x y:Int):Int:=(IntKind.u64.wrap (hi x)+IntKind.u64.wrap (hi y)+car x y) / 18446744073709551616
theorem add64_hi (x y:Int) (w:World):(callFunc 251 #[.int .u64 (IntKind.u64.wrap (hi x)),.int .u64 (IntKind.u64.wrap (hi y)),.int .u64 (car x y)]).run Tryz.prog w =
 .ok (.value (.tuple #[.int .u64 (hu (x+y)),.int .u64 (car2 x y)])) w:=by
 obtain ⟨x1,x2⟩:=lo_u x
 obtain ⟨y1,y2⟩:=lo_u y
 rw [add64 _ _ _ (wu0 _) (wu0 _) (by unfold car; omega) (by unfold car; omega)]
 rw [show (IntKind.u64.wrap (hi x)+IntKind.u64.wrap (hi y)+car x y) % 18446744073709551616=hu (x+y) by rw [IntKind.wrap_u64,IntKind.wrap_u64]; unfold car hu hi lo; omega]
 rfl
theorem w64_hu (x:Int) (h:W128 x):wrap64 (hu x)=hi x:=by unfold W128 at h; unfold hu hi wrap64; omega
def sumOk (b1 b2 b3:Bool):Bool:=!(b1 == b2 && b3 != b1)
def addV (x y r:Int) (ok:Bool):Value:=bif ok then .tuple #[.agg #[.int .i64 r,.int .u64 (lo (x+y))],.bool true] else .tuple #[.agg #[.int .i64 0,.int .u64 0],.bool false]
set_option maxHeartbeats 1000000 in
theorem Add_core (x y r:Int) (b1 b2 b3:Bool) (hr:wrap64 (hu (x+y))=r) (d1:decide (hi x < 0)=b1) (d2:decide (hi y < 0)=b2) (d3:decide (r < 0)=b3) (w:World) :
 Calls Tryz.prog 214 #[.agg #[.int .i64 (hi x),.int .u64 (lo x)],.agg #[.int .i64 (hi y),.int .u64 (lo y)]] w fun e w'=>e=.returned (addV x y r (sumOk b1 b2 b3))∧Ext w w':=by
 cases b1 <;> cases b2 <;> cases b3
 all_goals
  go_enter Tryz.func214,Tryz.ntmps214
  go_wp2_with (first | simp only [add64_lo] | simp only [add64_hi])
  exact bodyPost_ret (v:=addV x y r (sumOk _ _ _)) (by simp [results,Tryz.results214,go_sem,addV,sumOk, *]) rfl ⟨rfl,by (repeat' (first | exact Ext.refl _ | assumption | apply Ext.allocR | apply Ext.drewR | apply Ext.drewNR | (refine Ext.trans' ?_ (by assumption))))⟩
theorem sumOk_yes (x y:Int) (hx:W128 x) (hy:W128 y) (h:W128 (x+y)):sumOk (decide (hi x < 0)) (decide (hi y < 0)) (decide (hi (x+y) < 0))=true:=by
 simp only [hi_neg]
 unfold sumOk
 by_cases a:x < 0 <;> by_cases b:y < 0 <;> by_cases c:x+y < 0 <;> simp [a,b,c] <;> omega
theorem sumOk_no (x y:Int) (hx:W128 x) (hy:W128 y) (h:¬ W128 (x+y)):sumOk (decide (hi x < 0)) (decide (hi y < 0)) (decide (wrap64 (hu (x+y)) < 0))=false:=by
 have e:(wrap64 (hu (x+y)) < 0)=¬ (x+y < 0):=by
  unfold W128 at h hx hy; unfold hu hi wrap64
  exact propext ⟨fun h=>by omega,fun h=>by omega⟩
 simp only [hi_neg,e]
 unfold sumOk W128 at *
 by_cases a:x < 0 <;> by_cases b:y < 0 <;> by_cases c:x+y < 0 <;> simp [a,b,c] <;> omega
theorem Add_yes (x y:Int) (hx:W128 x) (hy:W128 y) (h:W128 (x+y)) (w:World) :
 Calls Tryz.prog 214 #[.agg #[.int .i64 (hi x),.int .u64 (lo x)],.agg #[.int .i64 (hi y),.int .u64 (lo y)]] w fun e w'=>e=.returned (.tuple #[.agg #[.int .i64 (hi (x+y)),.int .u64 (lo (x+y))],.bool true])∧Ext w w':=by
 have:=Add_core x y _ _ _ _ (w64_hu _ h) rfl rfl rfl w
 rwa [sumOk_yes x y hx hy h] at this
theorem Add_no (x y:Int) (hx:W128 x) (hy:W128 y) (h:¬ W128 (x+y)) (w:World) :
 Calls Tryz.prog 214 #[.agg #[.int .i64 (hi x),.int .u64 (lo x)],.agg #[.int .i64 (hi y),.int .u64 (lo y)]] w fun e w'=>e=.returned (.tuple #[.agg #[.int .i64 0,.int .u64 0],.bool false])∧Ext w w':=by
 have:=Add_core x y _ _ _ _ rfl rfl rfl rfl w
 rwa [sumOk_no x y hx hy h] at this
end Go.Proofs.YtmalncfcgcebhaaGreatDoor
namespace Go.Proofs.YtmalncfcgcebhaaGreatDoor
set_option linter.unusedVariables false
open Go.RowKit
section
variable {P:Program} {ops:Array Oper} {md:Region.Mode} {C D:World→Prop} {ex:List Nat} {Q:Exit→Act→World→Prop}
def anyC (P:Program) (md:Region.Mode) (ops:Array Oper) (Q:Exit→Act→World→Prop) (C:World→Prop) (ex:List Nat):Nat→Array Bool→Act→World→Prop
 | 0,listed,a,w=>Region.ready md ops listed=[]∧Q .normal a w
 | f+1,listed,a,w=>(Region.ready md ops listed=[]→Q .normal a w) ∧
   ∀ i∈Region.ready md ops listed,wpOp P ops Q i (fun a' w'=>(ex.contains i=false→C w→C w')∧anyC P md ops Q C ex f (listed.setIfInBounds i true) a' w') a w
theorem any_of_anyC:∀ (f:Nat) (listed:Array Bool) (a:Act) (w:World),anyC P md ops Q C ex f listed a w→wpAny P md ops Q f listed a w:=by
 intro f
 induction f with
 | zero=>intro _ _ _ h; exact h
 | succ f ih=>intro _ _ _ h; exact ⟨h.1,fun i hi=>wpOp_mono (fun a' w' h'=>ih _ a' w' h'.2) (h.2 i hi)⟩
theorem anyC_first {i:Nat} {oi:Oper} {v:Value} (hi:ops[i]?=some oi) (hsel:∀ (j:Nat) (o:Oper) cs b,ops[j]?=some o→o.op≠.select cs b)
 (hQ:∀ c a w,Q (.panic c) (a.put oi.dst v) w→Q (.panic c) a w)
 (hex:(∀ w,D w)∨(D=C∧∀ j oj,ops[j]?=some oj→ex.contains j=true→∃ e∈oj.after,Region.binds md e=true∧e.on=i)) :
 ∀ (f:Nat) (listed:Array Bool) (a:Act) (w:World),
   (∀ j oj,ops[j]?=some oj→j≠i→listed.getD j true=false→(∀ e∈oj.after,Region.binds md e=true→e.on≠i)→oi.apart ops oj=true) →
   i∈Region.ready md ops listed→YieldsIf P ops D oi v a→D w →
   anyC P md ops Q C ex f (listed.setIfInBounds i true) (a.put oi.dst v) w→anyC P md ops Q C ex (f+1) listed a w:=by
 intro f
 induction f with
 | zero =>
   intro listed a w _ hr hy hD H
   refine ⟨fun h=>(by rw [h] at hr; cases hr),fun j hj=>?_⟩
   by_cases hji:j=i
   · subst hji
     exact hy.wpOp hi hD ⟨fun _ h=>h,H⟩
   · have:=ready_mono hj hji
     rw [H.1] at this
     cases this
 | succ f ih =>
   intro listed a w hfree hr hy hD H
   refine ⟨fun h=>(by rw [h] at hr; cases hr),fun j hj=>?_⟩
   by_cases hji:j=i
   · subst hji
     exact hy.wpOp hi hD ⟨fun _ h=>h,H⟩
   · have h1:=H.2 j (ready_mono hj hji)
     obtain ⟨hjun,oj,hoj,hall⟩:=mem_ready.1 hj
     have hnot:∀ e∈oj.after,Region.binds md e=true→e.on≠i:=fun e he hb heq=>by
      have h1:=hall e he hb
      have h0:=(mem_ready.1 hr).1
      rw [heq,getD_both h0] at h1
      cases h1
     have h2:=wpOp_putIf hoj (hfree j oj hoj hji hjun hnot) (fun cs b=>hsel i oi cs b hi) (fun cs b=>hsel j oj cs b hoj) hQ hy h1
     refine wpOp_mono (fun a' w' h3=>⟨h3.2.1, ?_⟩) h2
     have hfree':∀ k ok,ops[k]?=some ok→k≠i→(listed.setIfInBounds j true).getD k true=false →
      (∀ e∈ok.after,Region.binds md e=true→e.on≠i)→oi.apart ops ok=true:=fun k ok hk hki hun hno=>by
      refine hfree k ok hk hki ?_ hno
      by_cases hjk:j=k
      · subst hjk; exact hjun
      · rw [getD_set_ne true hjk] at hun; exact hun
     have H3:anyC P md ops Q C ex f ((listed.setIfInBounds j true).setIfInBounds i true) (a'.put oi.dst v) w':=by
      rw [Array.setIfInBounds_comm _ _ hji]
      exact h3.2.2
     refine ih _ a' w' hfree' (ready_mono hr (Ne.symm hji)) h3.1 ?_ H3
     rcases hex with hex | ⟨rfl,hex⟩
     · exact hex w'
     · cases hexj:ex.contains j with
       | false=>exact h3.2.1 hexj hD
       | true =>
         obtain ⟨e,he,hb,ho⟩:=hex j oj hoj hexj
         exact absurd ho (hnot e he hb)
def plainOp:Op→Bool
 | .move _ | .assign _ | .pick .. | .load .. | .nilCheck _ | .binOp .. | .unOp .. | .convert .. | .fieldAddr .. | .field .. | .indexAddr .. | .index .. | .slice .. | .extract .. | .makeInterface .. | .makeFunc .. | .build .. | .typeAssert .. | .lookup ..=>true
 | .call { callee:=.builtin .len,.. } | .call { callee:=.builtin .min,.. } | .call { callee:=.builtin .max,.. }=>true
 | _=>false
theorem plain_value {o:Oper} (hp:plainOp o.op=true) {ρ:Operand→Value} {w w':World} {n:Next} (h:(execOp ρ o).run P w=.ok n w'):∃ u,n=.value u:=by
 have key:∀ s:Sem Value,Sem.run P (do pure (.value (← s))) w=.ok n w'→∃ u,n=Next.value u:=by
  intro s hs
  simp only [Sem.run_bind,Result.andThen] at hs
  split at hs
  · simp at hs; exact ⟨_,hs.1.symm⟩
  · cases hs
 rw [execOp.eq_def] at h
 cases hop:o.op <;> simp only [hop,plainOp,Bool.false_eq_true] at hp h
 all_goals try exact key _ h
 case move=>simp at h; exact ⟨_,h.1.symm⟩
 case assign=>simp at h; exact ⟨_,h.1.symm⟩
 case pick =>
  simp only [Sem.run_bind,Result.andThen] at h
  split at h
  · simp at h; exact ⟨_,h.1.symm⟩
  · cases h
 case nilCheck x =>
  have np:∀ {α:Type} (r:α) (v:World),Sem.run P (runtimePanic .nilDeref:Sem α) w=.ok r v→False:=by
   intro α r v hh
   simp only [runtimePanic,Sem.run_bind,Result.andThen] at hh
   simp [goPanic] at hh
  split at h
  any_goals exact (np _ _ h).elim
  · split at h
    · exact (np _ _ h).elim
    · simp only [Sem.run_bind,Result.andThen] at h
      repeat' (split at h)
      all_goals first | (simp at h; exact ⟨_,h.1.symm⟩) | cases h | skip
    · simp at h; exact ⟨_,h.1.symm⟩
  · simp at h; exact ⟨_,h.1.symm⟩
 case call c =>
  obtain ⟨callee,args,argTypes⟩:=c
  cases callee with
  | builtin b =>
    simp only [resolve,Sem.run_bind,Sem.run_pure,Result.andThen,invoke] at h
    cases b <;> simp only [Bool.false_eq_true] at hp
    all_goals exact key _ h
  | value f=>simp at hp
  | invoke r n=>simp at hp
theorem yields_of_quiet {o:Oper} {a:Act} {K:Act→Prop} (hw:Region.wanted o (yielded ops a.tmps)=true) (hp:plainOp o.op=true) (h:o.quiet P a D K) (hne:∃ w,D w):∃ v,YieldsIf P ops D o v a∧K (a.put o.dst v):=by
 obtain ⟨v,h1,h2⟩:=h
 refine ⟨v,.inl ⟨hw,fun w hw'=>?_⟩,h2⟩
 have h3:=h1 w hw'
 unfold Oper.quietAt at h3
 cases hr:(execOp a.eval o).run P w with
 | halt x w'=>rw [hr] at h3; exact h3.elim
 | ok n w' =>
   obtain ⟨u,rfl⟩:=plain_value hp hr
   rw [hr] at h3
   obtain ⟨e1,e2⟩:=h3
   rw [e1,e2]
def waitsB (md:Region.Mode) (ops:Array Oper) (ex:List Nat) (i:Nat):Bool:=ex.all fun j=>Region.waitsFor md ops j i
theorem waitsB_spec {i:Nat} (h:waitsB md ops ex i=true) (j:Nat) (oj:Oper) (hj:ops[j]?=some oj) (hex:ex.contains j=true):∃ e∈oj.after,Region.binds md e=true∧e.on=i:=by
 have h1:=List.all_eq_true.1 h j (by simpa using hex)
 obtain ⟨o',ho',e,he,hb,hon⟩:=Region.waitsFor_spec h1
 have:o'=oj:=Option.some.inj (ho'.symm.trans hj)
 subst this
 exact ⟨e,he,hb,hon⟩
theorem pi_t (i:Nat) {l:List Oper} {oi:Oper} {f:Nat} {listed:Array Bool} {a:Act} {w:World} (hi':l[i]?=some oi) (hB:(Region.noSelect l.toArray && Region.free md l.toArray listed i && (Region.ready md l.toArray listed).contains i && plainOp oi.op)=true)
 (hw:Region.wanted oi (yielded l.toArray a.tmps)=true) (hQ:∀ v c a w,Q (.panic c) (a.put oi.dst v) w→Q (.panic c) a w)
 (h:∀ K:Act→Prop,(∀ a',anyC P md l.toArray Q C ex f (listed.setIfInBounds i true) a' w→K a')→oi.quiet P a (fun _=>True) K):anyC P md l.toArray Q C ex (f+1) listed a w:=by
 have hi:l.toArray[i]?=some oi:=by simpa using hi'
 simp only [Bool.and_eq_true] at hB
 obtain ⟨⟨⟨hs,hf⟩,hr⟩,hp⟩:=hB
 obtain ⟨v,hy,hK⟩:=yields_of_quiet hw hp (h _ fun _ h=>h) ⟨w,trivial⟩
 exact anyC_first hi (Region.noSelect_spec hs) (hQ v) (.inl fun _=>trivial) f listed a w (Region.free_spec hi hf) (by simpa using hr) hy trivial hK
theorem pi_c (i:Nat) {l:List Oper} {oi:Oper} {f:Nat} {listed:Array Bool} {a:Act} {w:World} (hC:C w) (hi':l[i]?=some oi) (hB:(Region.noSelect l.toArray && Region.free md l.toArray listed i && (Region.ready md l.toArray listed).contains i && plainOp oi.op && waitsB md l.toArray ex i)=true)
 (hw:Region.wanted oi (yielded l.toArray a.tmps)=true) (hQ:∀ v c a w,Q (.panic c) (a.put oi.dst v) w→Q (.panic c) a w)
 (h:∀ K:Act→Prop,(∀ a',anyC P md l.toArray Q C ex f (listed.setIfInBounds i true) a' w→K a')→oi.quiet P a C K):anyC P md l.toArray Q C ex (f+1) listed a w:=by
 have hi:l.toArray[i]?=some oi:=by simpa using hi'
 simp only [Bool.and_eq_true] at hB
 obtain ⟨⟨⟨⟨hs,hf⟩,hr⟩,hp⟩,hx⟩:=hB
 obtain ⟨v,hy,hK⟩:=yields_of_quiet hw hp (h _ fun _ h=>h) ⟨w,hC⟩
 exact anyC_first hi (Region.noSelect_spec hs) (hQ v) (.inr ⟨rfl,waitsB_spec hx⟩) f listed a w (Region.free_spec hi hf) (by simpa using hr) hy hC hK
theorem pi_no (i:Nat) {l:List Oper} {oi:Oper} {f:Nat} {listed:Array Bool} {a:Act} {w:World} (hi':l[i]?=some oi) (hB:(Region.noSelect l.toArray && Region.free md l.toArray listed i && (Region.ready md l.toArray listed).contains i)=true)
 (hw:Region.wanted oi (yielded l.toArray a.tmps)=false) (hQ:∀ v c a w,Q (.panic c) (a.put oi.dst v) w→Q (.panic c) a w)
 (h:anyC P md l.toArray Q C ex f (listed.setIfInBounds i true) (a.put oi.dst undef) w):anyC P md l.toArray Q C ex (f+1) listed a w:=by
 have hi:l.toArray[i]?=some oi:=by simpa using hi'
 simp only [Bool.and_eq_true] at hB
 obtain ⟨⟨hs,hf⟩,hr⟩:=hB
 exact anyC_first (D:=fun _=>True) hi (Region.noSelect_spec hs) (hQ undef) (.inl fun _=>trivial) f listed a w (Region.free_spec hi hf) (by simpa using hr) (.inr ⟨hw,rfl⟩) trivial h
theorem pi_l (i:Nat) {l:List Oper} {oi:Oper} {f:Nat} {listed:Array Bool} {a:Act} {w:World} (hi':l[i]?=some oi) (hr:decide (Region.ready md l.toArray listed=[i])=true)
 (h:∀ K:Act→World→Prop,(∀ a' w',(ex.contains i=false→C w→C w')→anyC P md l.toArray Q C ex f (listed.setIfInBounds i true) a' w'→K a' w')→wpList P l.toArray (Exit.then K Q) [oi] a w):anyC P md l.toArray Q C ex (f+1) listed a w:=by
 have hi:l.toArray[i]?=some oi:=by simpa using hi'
 have hr':Region.ready md l.toArray listed=[i]:=of_decide_eq_true hr
 refine ⟨fun h=>(by rw [hr'] at h; cases h),fun j hj=>?_⟩
 rw [hr'] at hj
 obtain rfl:j=i:=by simpa using hj
 have H:=h _ fun a' w' h1 h2=>And.intro h1 h2
 unfold wpOp
 simp only [hi]
 unfold wpList at H
 by_cases hw:Region.wanted oi (yielded l.toArray a.tmps)=true
 · simp only [hw,if_true] at H ⊢
   rcases H with H | ⟨H1,H2⟩
   · left
     unfold Oper.wp at H ⊢
     generalize (execOp a.eval oi).run P w=r at *
     cases r with
     | ok n w' =>
       cases n <;> simp only [Oper.upon] at H ⊢
       case value u=>exact H
       case skip=>exact H
       case defer d=>exact H
       case enter g args =>
        refine Calls.mono H fun e w'' he=>?_
        cases e with
        | returned u=>exact he
        | panicked c=>exact he
        | outgrown=>exact he
       case row row args=>exact H
     | halt x w'=>cases x <;> simp only [Oper.upon] at H ⊢; exact H
   · right
     refine ⟨H1, ?_⟩
     exact H2
 · simp only [hw] at H ⊢
   exact H
theorem pi_w (i:Nat) {l:List Oper} {oi:Oper} {f:Nat} {listed:Array Bool} {a:Act} {w:World} (hi':l[i]?=some oi)
 (h:∀ K:Act→World→Prop,(∀ a' w',(ex.contains i=false→C w→C w')→anyC P md l.toArray Q C ex f (listed.setIfInBounds i true) a' w'→K a' w')→wpList P l.toArray (Exit.then K Q) [oi] a w) :
 wpOp P l.toArray Q i (fun a' w'=>(ex.contains i=false→C w→C w')∧anyC P md l.toArray Q C ex f (listed.setIfInBounds i true) a' w') a w:=by
 have hi:l.toArray[i]?=some oi:=by simpa using hi'
 have H:=h _ fun a' w' h1 h2=>And.intro h1 h2
 unfold wpOp
 simp only [hi]
 unfold wpList at H
 by_cases hw:Region.wanted oi (yielded l.toArray a.tmps)=true
 · simp only [hw,if_true] at H ⊢
   rcases H with H | ⟨H1,H2⟩
   · left
     unfold Oper.wp at H ⊢
     generalize (execOp a.eval oi).run P w=r at *
     cases r with
     | ok n w' =>
       cases n <;> simp only [Oper.upon] at H ⊢
       case value u=>exact H
       case skip=>exact H
       case defer d=>exact H
       case enter g args =>
        refine Calls.mono H fun e w'' he=>?_
        cases e with
        | returned u=>exact he
        | panicked c=>exact he
        | outgrown=>exact he
       case row row args=>exact H
     | halt x w'=>cases x <;> simp only [Oper.upon] at H ⊢; exact H
   · exact .inr ⟨H1,H2⟩
 · simp only [hw] at H ⊢
   exact H
theorem pi_b (i j:Nat) {l:List Oper} {oi oj:Oper} {f:Nat} {listed:Array Bool} {a:Act} {w:World} (hi':l[i]?=some oi) (hj':l[j]?=some oj) (hr:decide (Region.ready md l.toArray listed=[i,j])=true)
 (h1:∀ K:Act→World→Prop,(∀ a' w',(ex.contains i=false→C w→C w')→anyC P md l.toArray Q C ex f (listed.setIfInBounds i true) a' w'→K a' w')→wpList P l.toArray (Exit.then K Q) [oi] a w)
 (h2:∀ K:Act→World→Prop,(∀ a' w',(ex.contains j=false→C w→C w')→anyC P md l.toArray Q C ex f (listed.setIfInBounds j true) a' w'→K a' w')→wpList P l.toArray (Exit.then K Q) [oj] a w):anyC P md l.toArray Q C ex (f+1) listed a w:=by
 have hr':Region.ready md l.toArray listed=[i,j]:=of_decide_eq_true hr
 refine ⟨fun h=>(by rw [hr'] at h; cases h),fun k hk=>?_⟩
 rw [hr'] at hk
 simp only [List.mem_cons,List.not_mem_nil,or_false] at hk
 rcases hk with rfl | rfl
 · exact pi_w _ hi' h1
 · exact pi_w _ hj' h2
theorem pi_end {f:Nat} {listed:Array Bool} {a:Act} {w:World} (hr:(Region.ready md ops listed).isEmpty=true) (h:Q .normal a w):anyC P md ops Q C ex f listed a w:=by
 have hr':Region.ready md ops listed=[]:=List.isEmpty_iff.1 hr
 cases f with
 | zero=>exact ⟨hr',h⟩
 | succ f=>exact ⟨fun _=>h,(by rw [hr']; intro i hi; cases hi)⟩
theorem pi_start {id:Nat} {l:List Oper} {a:Act} {w:World} (C:World→Prop) (ex:List Nat) (hm:P.follows .mixedOrders=true)
 (h:anyC P .any l.toArray Q C ex l.length (Array.replicate l.length false) a w.drew):(Code.region id l.toArray true).wp P Q a w:=by
 refine wp_region_any hm ?_
 have:=any_of_anyC _ _ _ _ h
 simpa using this
end
theorem af_step {W w w':World} (h:∃ x:After W,w=x.w) (he:Ext w w'):∃ x:After W,w'=x.w:=by
 obtain ⟨x,rfl⟩:=h
 exact ⟨⟨_,x.h.trans' he⟩,rfl⟩
structure Holds (S:World→Prop) where
 w:World
 h:S w
theorem hs_mk {S:World→Prop} {w:World} (h:S w):∃ x:Holds S,w=x.w:=⟨⟨w,h⟩,rfl⟩
theorem af_drew (W:World):∃ x:After W,W.drew=x.w:=⟨⟨_,(Ext.refl _).drew⟩,rfl⟩
end Go.Proofs.YtmalncfcgcebhaaGreatDoor
namespace Go.Proofs.YtmalncfcgcebhaaGreatDoor
set_option linter.unusedVariables false
open Go.RowKit
def fitB (x:Int):Bool:=decide (-9223372036854775808≤x∧x≤9223372036854775807)
def fitN (x:Int):Int:=bif fitB x then x else 0
theorem fitB_yes {x:Int} (h:I64 x):fitB x=true:=decide_eq_true h
theorem fitB_no {x:Int} (h:¬ I64 x):fitB x=false:=decide_eq_false h
theorem fitN_yes {x:Int} (h:I64 x):fitN x=x:=by unfold fitN; rw [fitB_yes h]; rfl
theorem Int_c (x:Int) (w:World) :
 Calls Tryz.prog 216 #[.agg #[.int .i64 (hi x),.int .u64 (lo x)]] w fun e w'=>e=.returned (.tuple #[.int .i64 (fitN x),.bool (fitB x)])∧Ext w w':=by
 by_cases h:I64 x
 · rw [fitB_yes h,fitN_yes h]; exact Int_yes x h w
 · have:=Int_no x h w
   unfold fitN
   rw [fitB_no h]; exact this
theorem pre_w (xs:List Int) (hI:∀ x∈xs,I64 x) (hl:xs.length≤1152921504606846976) (k:Nat):W128 (lsum (xs.take k)):=by
 have h:=lsum_bd (l:=xs.take k) (B:=9223372036854775808) (by decide) (fun x hx=>by have:=hI x (List.mem_of_mem_take hx); unfold I64 at this; omega)
 have h2:(xs.take k).length≤xs.length:=List.length_take_le' _ _
 unfold W128
 generalize hg:((xs.take k).length:Int)=m at *
 have hm:m≤1152921504606846976:=by omega
 have:m*9223372036854775808≤1152921504606846976*9223372036854775808:=Int.mul_le_mul_of_nonneg_right hm (by decide)
 omega
set_option maxHeartbeats 2000000 in
theorem Sum_c (xs:List Int) (v:Value) (w:World) (hI:∀ x∈xs,I64 x) (hl:xs.length≤1152921504606846976) (hv:IntsAt w v xs) :
 Calls Tryz.prog 173 #[v] w fun e w'=>e=.returned (.tuple #[.int .i64 (fitN (lsum xs)),.bool (fitB (lsum xs))])∧Ext w w':=by
 obtain ⟨n,hn⟩:∃ n,n=xs.length:=⟨_,rfl⟩
 have HN:=Lib.hid hn
 rw [← hn] at hl
 rcases hv with ⟨rfl,rfl⟩ | ⟨g,off,cap,rfl,hg,hc⟩
 · clear hn
   go_enter Tryz.func173,Tryz.ntmps173
   go_wp2
   refine wp_loop_rounds 1 ?_
   rw [rounds_succ]
   go_wp2_with fail
   refine (Int_c 0 _).mono ?_
   rintro e w1 ⟨rfl,hb⟩
   go_wp2
   go_ret2
   refine ⟨rfl,by (repeat' (first | exact Ext.refl _ | assumption | apply Ext.allocR | apply Ext.drewR | apply Ext.drewNR | (refine Ext.trans' ?_ (by assumption))))⟩
 · rw [← hn]
   rw [← hn] at hc
   have HC:=Lib.hid hc
   clear hc hn
   go_enter Tryz.func173,Tryz.ntmps173
   go_wp2
   go_loopw [9] (fun v wr=>∃ k:Nat,k≤n∧v=.int .i64 k∧Ext w wr∧w.heap.size < wr.heap.size∧wr.heap[w.heap.size]?=some (.cells #[.int .i64 (hi (lsum (xs.take k))),.int .u64 (lo (lsum (xs.take k)))] 194 (0,0))) (fun v _=>n - (intOf v).toNat)
   case atStart=>exact ⟨0,Nat.zero_le _,rfl,Ext.alloc' _ _,by simp only [size_alloc]; omega,heap_at _ _ rfl⟩
   case round =>
    obtain ⟨k,hk,rfl,hx,hlt,hgg⟩:=hrel
    have c0:=cell_of hgg 0
    have c1:=cell_of hgg 1
    simp at c0 c1
    have f0:=frozen_of hgg 0
    have f1:=frozen_of hgg 1
    have HG:=Lib.hid hgg
    clear hgg
    by_cases hlt2:k < n
    · have d:=((bcell hx).1 g (off+k) hg).trans (HC.out k hlt2)
      have hkl:k < xs.length:=by rw [← HN.out]; exact hlt2
      have hi1:=hI _ (getD_mem hkl)
      have hw0:=pre_w xs hI (by rw [← HN.out]; exact hl) k
      have hw1:=pre_w xs hI (by rw [← HN.out]; exact hl) (k+1)
      have hs:=lsum_snoc hkl
      rw [hs] at hw1
      generalize xs.getD k 0=y at d hi1 hs hw1
      have HS:=Lib.hid hs
      clear hs
      go_wp2
      have hC0:=af_drew wr
      refine pi_start (fun w'=>∃ x:After wr,w'=x.w) [7] (by kernel_rfl) ?_
      refine pi_t 1 rfl (by kernel_rfl) (by kernel_rfl) (fun _ _ _ _ h=>h) (fun K hK=>?_)
      go_big_quiet_op
      refine hK _ ?_
      clear hK K
      refine pi_c 0 (by assumption) rfl (by kernel_rfl) (by kernel_rfl) (fun _ _ _ _ h=>h) (fun K hK=>?_)
      go_big_quiet_op
      refine hK _ ?_
      clear hK K
      refine pi_l 2 rfl (by kernel_rfl) (fun K hK=>?_)
      go_wp2_with (go_at_call 215; refine (Of_c _ hi1 _).mono ?_; rintro e w0 ⟨rfl,hb0⟩)
      refine hK _ _ (fun _ h=>af_step h hb0) ?_
      clear hK K
      refine pi_l 3 rfl (by kernel_rfl) (fun K hK=>?_)
      go_wp2_with (go_at_call 214; refine (Add_yes _ _ hw0 (w_of_i hi1) hw1 _).mono ?_; rintro e w1 ⟨rfl,hb1'⟩)
      have hb1:Ext wr w1:=by (repeat' (first | exact Ext.refl _ | assumption | apply Ext.allocR | apply Ext.drewR | apply Ext.drewNR | (refine Ext.trans' ?_ (by assumption))))
      refine hK _ _ (fun _ h=>af_step h hb1') ?_
      clear hK K hb1' hb0
      refine pi_t 4 rfl (by kernel_rfl) (by kernel_rfl) (fun _ _ _ _ h=>h) (fun K hK=>?_)
      go_big_quiet_op
      refine hK _ ?_
      clear hK K
      refine pi_t 5 rfl (by kernel_rfl) (by kernel_rfl) (fun _ _ _ _ h=>h) (fun K hK=>?_)
      go_big_quiet_op
      refine hK _ ?_
      clear hK K
      refine pi_t 6 rfl (by kernel_rfl) (by kernel_rfl) (fun _ _ _ _ h=>h) (fun K hK=>?_)
      go_big_quiet_op
      refine hK _ ?_
      clear hK K
      refine pi_l 7 rfl (by kernel_rfl) (fun K hK=>?_)
      have hg1:=hb1.keep HG.out
      have hz:=hb1.size
      have p0:=cell_of hg1 0
      have p1:=cell_of hg1 1
      simp at p0 p1
      have q0:=frozen_of hg1 0
      have q1:=frozen_of hg1 1
      have HG1:=Lib.hid hg1
      clear hg1 c0 c1 f0 f1
      go_wp2
      refine hK _ _ (fun h=>absurd h (by decide)) ?_
      clear hK K
      refine pi_end (by kernel_rfl) ?_
      go_wp2
      go_roundw
      case rel=>exact ⟨k+1,by omega,by go_num,((hx.trans' hb1).setR (Nat.le_refl _) _).setR (Nat.le_refl _) _,by rw [size_setCell,size_setCell]; omega,by rw [setCell_same (setCell_same HG1.out 0 _) 1 _,HS.out]; rfl⟩
      case measure=>simp [intOf]; omega
    · go_wp2_with fail
      refine (Int_c _ _).mono ?_
      rintro e w1 ⟨rfl,hb⟩
      go_wp2
      go_ret2
      refine ⟨?_,by (repeat' (first | exact Ext.refl _ | assumption | apply Ext.allocR | apply Ext.drewR | apply Ext.drewNR | (refine Ext.trans' ?_ (by assumption))))⟩
      obtain rfl:k=n:=by omega
      rw [HN.out,List.take_length]
      rfl
set_option maxHeartbeats 1000000 in
theorem Plus_c (a b:Int) (ha:I64 a) (hb:I64 b) (w:World) :
 Calls Tryz.prog 277 #[.int .i64 a,.int .i64 b] w fun e w'=>e=.returned (.tuple #[.int .i64 (fitN (a+b)),.bool (fitB (a+b))])∧Ext w w':=by
 have hs:lsum [a,b]=a+b:=by rw [lsum_cons,lsum_cons,lsum_nil]; omega
 have HS:=Lib.hid hs
 clear hs
 go_enter Tryz.func277,Tryz.ntmps277
 go_wp2_with fail
 refine (Sum_c [a,b] _ _ (by intro x hx; simp at hx; rcases hx with rfl | rfl <;> assumption) (by simp) (.inr ⟨_,0,2,rfl, ?_, ?_⟩)).mono ?_
 · simp only [size_alloc]; omega
 · intro k hk
   have:k=0∨k=1:=by simp at hk; omega
   rcases this with rfl | rfl <;> simp [go_sem]
 rintro e w1 ⟨rfl,hb1⟩
 rw [HS.out]
 go_wp2
 go_ret2
 exact ⟨rfl,by (repeat' (first | exact Ext.refl _ | assumption | apply Ext.allocR | apply Ext.drewR | apply Ext.drewNR | (refine Ext.trans' ?_ (by assumption))))⟩
def bw (x y:Int):Int:=bor (lo x) (lo y)
theorem sub64_lo (x y:Int) (w:World):(callFunc 275 #[.int .u64 (lo x),.int .u64 (lo y),.int .u64 0]).run Tryz.prog w =
 .ok (.value (.tuple #[.int .u64 (lo (x - y)),.int .u64 (bw x y)])) w:=by
 obtain ⟨x1,x2⟩:=lo_u x
 obtain ⟨y1,y2⟩:=lo_u y
 rw [sub64_0 _ _ x1 y1 y2,show (lo x - lo y) % 18446744073709551616=lo (x - y) by unfold lo; omega]; rfl
def bw2 (x y:Int):Int:=bor (IntKind.u64.wrap (hi x)) (IntKind.u64.wrap (hi y)+bw x y)
theorem sub64_hi (x y:Int) (w:World):(callFunc 275 #[.int .u64 (IntKind.u64.wrap (hi x)),.int .u64 (IntKind.u64.wrap (hi y)),.int .u64 (bw x y)]).run Tryz.prog w =
 .ok (.value (.tuple #[.int .u64 (hu (x - y)),.int .u64 (bw2 x y)])) w:=by
 obtain ⟨x1,x2⟩:=lo_u x
 obtain ⟨y1,y2⟩:=lo_u y
 rw [sub64 _ _ _ (wu0 _) (wu0 _) (by rw [IntKind.wrap_u64]; omega) (by unfold bw bor; split <;> omega) (by unfold bw bor; split <;> omega)]
 rw [show (IntKind.u64.wrap (hi x) - IntKind.u64.wrap (hi y) - bw x y) % 18446744073709551616=hu (x - y) by rw [IntKind.wrap_u64,IntKind.wrap_u64]; unfold bw bor hu hi lo; split <;> omega]
 rfl
def difOk (b1 b2 b3:Bool):Bool:=!(b1 != b2 && b3 != b1)
def subV (x y r:Int) (ok:Bool):Value:=bif ok then .tuple #[.agg #[.int .i64 r,.int .u64 (lo (x - y))],.bool true] else .tuple #[.agg #[.int .i64 0,.int .u64 0],.bool false]
set_option maxHeartbeats 1000000 in
theorem Sub_core (x y r:Int) (b1 b2 b3:Bool) (hr:wrap64 (hu (x - y))=r) (d1:decide (hi x < 0)=b1) (d2:decide (hi y < 0)=b2) (d3:decide (r < 0)=b3) (w:World) :
 Calls Tryz.prog 252 #[.agg #[.int .i64 (hi x),.int .u64 (lo x)],.agg #[.int .i64 (hi y),.int .u64 (lo y)]] w fun e w'=>e=.returned (subV x y r (difOk b1 b2 b3))∧Ext w w':=by
 cases b1 <;> cases b2 <;> cases b3
 all_goals
  go_enter Tryz.func252,Tryz.ntmps252
  go_wp2_with (first | simp only [sub64_lo] | simp only [sub64_hi])
  exact bodyPost_ret (v:=subV x y r (difOk _ _ _)) (by simp [results,Tryz.results252,go_sem,subV,difOk, *]) rfl ⟨rfl,by (repeat' (first | exact Ext.refl _ | assumption | apply Ext.allocR | apply Ext.drewR | apply Ext.drewNR | (refine Ext.trans' ?_ (by assumption))))⟩
theorem difOk_yes (x y:Int) (hx:W128 x) (hy:W128 y) (h:W128 (x - y)):difOk (decide (hi x < 0)) (decide (hi y < 0)) (decide (hi (x - y) < 0))=true:=by
 simp only [hi_neg]
 unfold difOk
 by_cases a:x < 0 <;> by_cases b:y < 0 <;> by_cases c:x - y < 0 <;> simp [a,b,c] <;> omega
theorem Sub_yes (x y:Int) (hx:W128 x) (hy:W128 y) (h:W128 (x - y)) (w:World) :
 Calls Tryz.prog 252 #[.agg #[.int .i64 (hi x),.int .u64 (lo x)],.agg #[.int .i64 (hi y),.int .u64 (lo y)]] w fun e w'=>e=.returned (.tuple #[.agg #[.int .i64 (hi (x - y)),.int .u64 (lo (x - y))],.bool true])∧Ext w w':=by
 have:=Sub_core x y _ _ _ _ (w64_hu _ h) rfl rfl rfl w
 rwa [difOk_yes x y hx hy h] at this
set_option maxHeartbeats 1000000 in
theorem Minus_c (a b:Int) (ha:I64 a) (hb:I64 b) (w:World) :
 Calls Tryz.prog 217 #[.int .i64 a,.int .i64 b] w fun e w'=>e=.returned (.tuple #[.int .i64 (fitN (a - b)),.bool (fitB (a - b))])∧Ext w w':=by
 have hd:W128 (a - b):=by unfold I64 at ha hb; unfold W128; omega
 go_enter Tryz.func217,Tryz.ntmps217
 go_wp2_with (first | (go_at_call 215; refine (Of_c _ (by assumption) _).mono ?_; rintro e w1 ⟨rfl,hb1⟩) | (go_at_call 252; refine (Sub_yes _ _ (w_of_i ha) (w_of_i hb) hd _).mono ?_; rintro e w3 ⟨rfl,hb3⟩) | (go_at_call 216; refine (Int_c _ _).mono ?_; rintro e w4 ⟨rfl,hb4⟩))
 go_ret2
 exact ⟨rfl,by (repeat' (first | exact Ext.refl _ | assumption | apply Ext.allocR | apply Ext.drewR | apply Ext.drewNR | (refine Ext.trans' ?_ (by assumption))))⟩
end Go.Proofs.YtmalncfcgcebhaaGreatDoor
namespace Go.Proofs.YtmalncfcgcebhaaGreatDoor
set_option linter.unusedVariables false
open Go.RowKit
theorem info_i64:(Tryz.prog.info? 2).map (fun i=>(i.zero,i.size,i.bytes))=some (some (.int .i64 0),1,8):=by kernel_rfl
structure CAt (w:World) (c cap:Nat) (l:List Int):Prop where
 ex:∃ cur:Array Value,w.heap[c]?=some (.cells cur 2 (0,0))∧cur.size=cap∧cur.toList.take l.length=ints l
 le:l.length≤cap
 mx:cap≤maxLen
structure GAt (w:World) (b c:Nat) (R W:Nat) (l:List Int):Prop where
 ex:∃ cap,w.heap[b]?=some (.cells #[.int .i64 R,.int .i64 W,.slice (some ⟨c,0,none⟩) l.length cap] 367 (0,0))∧CAt w c cap l
 r1:1≤R
 r2:R≤8
 w1:1≤W
 w2:W≤128
 len:l.length=R*W
theorem CAt.cell {w:World} {c cap:Nat} {l:List Int} (h:CAt w c cap l) {i:Nat} (hi:i < l.length):w.cell? ⟨c,i,none⟩=some (.int .i64 (l.getD i 0)):=by
 obtain ⟨cur,h1,h2,h3⟩:=h.ex
 rw [cell_of h1]
 have:(cur.toList.take l.length)[i]?=(ints l)[i]?:=by rw [h3]
 rw [List.getElem?_take_of_lt hi] at this
 simp only [Array.getElem?_toList] at this
 rw [this]
 simp [ints,hi]
theorem CAt.frozen {w:World} {c cap:Nat} {l:List Int} (h:CAt w c cap l) (i:Nat):w.frozen? ⟨c,i,none⟩=false:=by
 obtain ⟨cur,h1,h2,h3⟩:=h.ex
 exact frozen_of h1 i
theorem CAt.lt {w:World} {c cap:Nat} {l:List Int} (h:CAt w c cap l):c < w.heap.size:=by
 obtain ⟨cur,h1,_⟩:=h.ex
 exact lt_of h1
theorem CAt.keep {w w':World} {c cap:Nat} {l:List Int} (h:CAt w c cap l) (he:w'.heap[c]?=w.heap[c]?):CAt w' c cap l :=
 ⟨by rw [he]; exact h.ex,h.le,h.mx⟩
theorem CAt.of_row {w:World} {base n:Nat} {v:Value} {l:List Int} (h:w.ownsRow base 2 1 v n (Go.Proofs.YtmalncfcgcebhaaGreatDoor.ints l)) (hn:0 < n):∃ c cap,v=.slice (some ⟨c,0,none⟩) l.length cap∧base≤c∧CAt w c cap l:=by
 obtain ⟨h1,h2⟩:=h
 have hl:n=l.length:=by simpa [Go.Proofs.YtmalncfcgcebhaaGreatDoor.ints] using h1.symm
 subst hl
 rcases h2 with ⟨_,h3⟩ | ⟨g,cap,cur,rfl,hb,hh,hc,hm,hs,ht⟩
 · omega
 · exact ⟨g,cap,rfl,hb,⟨cur,hh,by omega,by rw [Nat.mul_one] at ht; exact ht⟩,hc,hm⟩
theorem CAt.set {w:World} {c cap:Nat} {l:List Int} (h:CAt w c cap l) {i:Nat} (hi:i < l.length) (n:Int):CAt (w.setCell ⟨c,i,none⟩ (.int .i64 n)) c cap (l.set i n):=by
 obtain ⟨cur,h1,h2,h3⟩:=h.ex
 refine ⟨⟨_,setCell_same h1 _ _,by simpa using h2, ?_⟩,by simpa using h.le,h.mx⟩
 rw [Array.toList_setIfInBounds,List.length_set,List.take_set,h3]
 simp [Go.Proofs.YtmalncfcgcebhaaGreatDoor.ints,List.map_set]
theorem GAt.keep {w w':World} {b c R W:Nat} {l:List Int} (h:GAt w b c R W l) (hb:w'.heap[b]?=w.heap[b]?) (hc:w'.heap[c]?=w.heap[c]?):GAt w' b c R W l:=by
 obtain ⟨cap,h1,h2⟩:=h.ex
 exact ⟨⟨cap,by rw [hb]; exact h1,h2.keep hc⟩,h.r1,h.r2,h.w1,h.w2,h.len⟩
theorem GAt.ltb {w:World} {b c R W:Nat} {l:List Int} (h:GAt w b c R W l):b < w.heap.size:=by
 obtain ⟨cap,h1,h2⟩:=h.ex
 exact lt_of h1
theorem GAt.ltc {w:World} {b c R W:Nat} {l:List Int} (h:GAt w b c R W l):c < w.heap.size:=by
 obtain ⟨cap,h1,h2⟩:=h.ex
 exact h2.lt
theorem GAt.ext {w w':World} {b c R W:Nat} {l:List Int} (h:GAt w b c R W l) (he:Ext w w'):GAt w' b c R W l :=
 h.keep (he.block b h.ltb) (he.block c h.ltc)
theorem GAt.ne {w:World} {b c R W:Nat} {l:List Int} (h:GAt w b c R W l):b≠c:=by
 obtain ⟨cap,h1,h2⟩:=h.ex
 obtain ⟨cur,h3,_⟩:=h2.ex
 intro e
 subst e
 rw [h1] at h3
 simp at h3
theorem GAt.set {w:World} {b c R W:Nat} {l:List Int} (h:GAt w b c R W l) {i:Nat} (hi:i < l.length) (n:Int):GAt (w.setCell ⟨c,i,none⟩ (.int .i64 n)) b c R W (l.set i n):=by
 have hne:=h.ne
 obtain ⟨cap,h1,h2⟩:=h.ex
 exact ⟨⟨cap,by rw [setCell_other _ _ hne,List.length_set]; exact h1,h2.set hi n⟩,h.r1,h.r2,h.w1,h.w2,by rw [List.length_set]; exact h.len⟩
theorem mod_set (w:World) (c i:Nat) (v:Value):Mod (fun k=>k=c) w (w.setCell ⟨c,i,none⟩ v) :=
 ⟨rfl,rfl,rfl,by rw [size_setCell]; exact Nat.le_refl _,fun k _ hk=>setCell_other _ _ hk⟩
theorem idx_lt {R W r c:Nat} (hr:r < R) (hc:c < W):r*W+c < R*W :=
 Nat.lt_of_lt_of_le (by rw [Nat.add_mul,Nat.one_mul]; omega) (Nat.mul_le_mul_right W (show r+1≤R by omega))
theorem idx_le {R W r c:Nat} (h2:R≤8) (h4:W≤128) (hr:r < R) (hc:c < W):r*W+c < 1024 :=
 Nat.lt_of_lt_of_le (idx_lt hr hc) (Nat.mul_le_mul h2 h4)
set_option maxRecDepth 20000 in
set_option maxHeartbeats 1000000 in
theorem place_yes (b c R W:Nat) (l:List Int) (w:World) (h:GAt w b c R W l) (r k:Nat) (hr:r < R) (hk:k < W) :
 Calls Tryz.prog 322 #[.pointer (some ⟨b,0,none⟩),.int .i64 r,.int .i64 k] w fun e w'=>e=.returned (.tuple #[.int .i64 ((r*W+k:Nat):Int),.bool true])∧w=w':=by
 obtain ⟨cap,h1,_⟩:=h.ex
 have c0:=cell_of h1 0
 have c1:=cell_of h1 1
 simp at c0 c1
 have hx:=idx_le h.r2 h.w2 hr hk
 have r2:=h.r2
 have w2:=h.w2
 have e1:((r*W+k:Nat):Int)=(r:Int)*W+k:=by push_cast; rfl
 have E1:=Lib.hid e1
 have g1:0≤(r:Int)*W:=Int.mul_nonneg (by omega) (by omega)
 have g2:(r:Int)*W+k < 1024:=by omega
 have d1:decide ((R:Int)≤r)=false:=by simp; omega
 have d2:decide ((W:Int)≤k)=false:=by simp; omega
 clear h1 h e1 hx
 go_enter Tryz.func322,Tryz.ntmps322
 go_wp2
 go_ret2
 exact ⟨by rw [E1.out]; rfl,rfl⟩
set_option maxHeartbeats 1000000 in
theorem At_c (b c R W:Nat) (l:List Int) (w:World) (h:GAt w b c R W l) (r k:Nat) (hr:r < R) (hk:k < W) :
 Calls Tryz.prog 320 #[.pointer (some ⟨b,0,none⟩),.int .i64 r,.int .i64 k] w fun e w'=>e=.returned (.int .i64 (l.getD (r*W+k) 0))∧w=w':=by
 have hp:=h
 obtain ⟨cap,h1,h2⟩:=h.ex
 have c2:=cell_of h1 2
 simp at c2
 have hlt:r*W+k < l.length:=by rw [h.len]; exact idx_lt hr hk
 have c3:=h2.cell hlt
 have hlen:=h2.le
 have hmx:=h2.mx
 unfold maxLen at hmx
 generalize hi:r*W+k=i at *
 generalize l.getD i 0=y at *
 have HI:=Lib.hid hi
 have HP:=Lib.hid hp
 generalize hn:l.length=n at *
 clear hi hn h h1 h2 hp
 go_enter Tryz.func320,Tryz.ntmps320
 go_wp2_with fail
 refine (place_yes b c R W l _ HP.out r k hr hk).mono ?_
 rintro e w' ⟨rfl,rfl⟩
 rw [HI.out]
 go_wp2
 go_ret
 exact ⟨rfl,rfl⟩
set_option maxHeartbeats 1000000 in
theorem Put_c (b c R W:Nat) (l:List Int) (w:World) (h:GAt w b c R W l) (r k:Nat) (hr:r < R) (hk:k < W) (n:Int) :
 Calls Tryz.prog 321 #[.pointer (some ⟨b,0,none⟩),.int .i64 r,.int .i64 k,.int .i64 n] w fun e w'=>e=.returned (.bool true)∧w.setCell ⟨c,r*W+k,none⟩ (.int .i64 n)=w':=by
 have hp:=h
 obtain ⟨cap,h1,h2⟩:=h.ex
 have c2:=cell_of h1 2
 simp at c2
 have hlt:r*W+k < l.length:=by rw [h.len]; exact idx_lt hr hk
 have c3:=h2.cell hlt
 have f3:=h2.frozen (r*W+k)
 have hlen:=h2.le
 have hmx:=h2.mx
 unfold maxLen at hmx
 generalize hi:r*W+k=i at *
 generalize l.getD i 0=y at *
 have HI:=Lib.hid hi
 have HP:=Lib.hid hp
 generalize hn:l.length=m at *
 clear hi hn h h1 h2 hp
 go_enter Tryz.func321,Tryz.ntmps321
 go_wp2_with fail
 refine (place_yes b c R W l _ HP.out r k hr hk).mono ?_
 rintro e w' ⟨rfl,rfl⟩
 rw [HI.out]
 go_wp2
 go_ret
 exact ⟨rfl,rfl⟩
set_option maxHeartbeats 400000 in
theorem Rows_c (b c R W:Nat) (l:List Int) (w:World) (h:GAt w b c R W l) :
 Calls Tryz.prog 337 #[.pointer (some ⟨b,0,none⟩)] w fun e w'=>e=.returned (.int .i64 R)∧w=w':=by
 obtain ⟨cap,h1,h2⟩:=h.ex
 have c0:=cell_of h1 0
 simp at c0
 clear h1
 go_enter Tryz.func337,Tryz.ntmps337
 go_wp2
 go_ret
 exact ⟨rfl,rfl⟩
set_option maxHeartbeats 400000 in
theorem Width_c (b c R W:Nat) (l:List Int) (w:World) (h:GAt w b c R W l) :
 Calls Tryz.prog 319 #[.pointer (some ⟨b,0,none⟩)] w fun e w'=>e=.returned (.int .i64 W)∧w=w':=by
 obtain ⟨cap,h1,h2⟩:=h.ex
 have c1:=cell_of h1 1
 simp at c1
 clear h1
 go_enter Tryz.func319,Tryz.ntmps319
 go_wp2
 go_ret
 exact ⟨rfl,rfl⟩
end Go.Proofs.YtmalncfcgcebhaaGreatDoor
namespace Go.Proofs.YtmalncfcgcebhaaGreatDoor
open Go.RowKit
def zs (n:Nat):List Int:=List.replicate n 0
theorem zs_len (n:Nat):(zs n).length=n:=by simp [zs]
theorem fill0 (f:Nat→Int) (n:Nat):(fillA f 0 n).toList=ints (zs n):=by
 apply List.ext_getElem
 · simp [fillA,ints,zs]
 · intro i h1 h2
   simp [fillA,ints,zs]
set_option maxRecDepth 20000 in
set_option maxHeartbeats 1000000 in
theorem GNew_c (R W:Nat) (w:World) (r1:1≤R) (r2:R≤8) (w1:1≤W) (w2:W≤128) :
 Calls Tryz.prog 189 #[.int .i64 R,.int .i64 W] w fun e w'=>∃ b c,e=.returned (.pointer (some ⟨b,0,none⟩))∧GAt w' b c R W (zs (R*W))∧w.heap.size≤b∧w.heap.size≤c∧Ext w w':=by
 obtain ⟨ii,hi,hz0,hz1,hz2⟩:=info_parts info_i64
 have hrw:R*W≤1024:=Nat.mul_le_mul r2 w2
 have hmk:=fun (x:World)=>run_make_ints 47 2 ii Tryz.underlying47 hi hz0 hz1 hz2 (R*W) (by omega) (fun _=>0) x
 have e1:IntKind.i64.wrap ((R:Int)*W)=(R:Int)*W:=IntWalk.i64_in _ (by rw [← Int.natCast_mul]; omega)
 rw [Int.natCast_mul] at hmk
 have m1:max (R:Int) 0=R:=by omega
 have m2:min (R:Int) 8=R:=by omega
 have m3:max (W:Int) 0=W:=by omega
 have m4:min (W:Int) 128=W:=by omega
 clear hi hz0 hz1 hz2
 go_enter Tryz.func189,Tryz.ntmps189
 go_wp2
 go_ret
 refine ⟨_,w.heap.size,rfl, ?_,by omega,Nat.le_refl _,by (repeat' (first | exact Ext.refl _ | assumption | apply Ext.allocR | apply Ext.drewR | apply Ext.drewNR | (refine Ext.trans' ?_ (by assumption))))⟩
 have hk:CAt (w.alloc (.cells (fillA (fun _=>0) 0 (R*W)) 2)) w.heap.size (R*W) (zs (R*W)) :=
  ⟨⟨_,heap_at _ _ rfl,fillA_size _ _ _,by rw [fill0,zs_len]; exact List.take_of_length_le (by rw [ints_len,zs_len]; exact Nat.le_refl _)⟩,by rw [zs_len]; exact Nat.le_refl _,by unfold maxLen; omega⟩
 refine ⟨⟨R*W, ?_,hk.keep (heap_old _ _ (by simp only [size_alloc]; omega))⟩,r1,r2,w1,w2,zs_len _⟩
 rw [zs_len]
 exact heap_at _ _ (by simp only [size_alloc])
set_option maxRecDepth 20000 in
set_option maxHeartbeats 1000000 in
theorem Clone_c (c cap:Nat) (l:List Int) (w:World) (h:CAt w c cap l) (hl:l.length≤100000) :
 Calls Tryz.prog 276 #[.slice (some ⟨c,0,none⟩) l.length cap] w fun e w'=>∃ v,e=.returned v∧w'.ownsRow w.heap.size 2 1 v l.length (ints l)∧(v=.slice none 0 0→False)∧Ext w w':=by
 obtain ⟨i0,hi,hz0,hz1,hz2⟩:=info_parts info_i64
 have hnil:=fun (x:World) (n k:Nat)=>Lib.run_eql_slice_nil (P:=Tryz.prog) x 47 2 (some ⟨c,0,none⟩) n k 0 0 Tryz.underlying47
 have hcell:=fun i (hi:i < l.length)=>h.cell hi
 have hlt:=h.lt
 have HC:=Lib.hid hcell
 have HL:=Lib.hid hl
 generalize hn:l.length=n at *
 have HN:=Lib.hid hn
 clear hcell h hn hl
 go_enter Tryz.func276,Tryz.ntmps276
 have hown:(w.alloc (.cells #[] 2)).ownsRow w.heap.size 2 1 (.slice (some ⟨w.heap.size,0,none⟩) 0 0) 0 [] :=
  ownsRow_of (heap_at _ _ rfl) (Nat.le_refl _) (Nat.le_refl _) (by unfold maxLen; omega) rfl rfl
 go_wp2_with (at_builtin; refine wpList_append_own _ rfl _ _ 47 rfl w.heap.size 2 i0 (.int .i64 0) 1 8 Tryz.underlying47 hi hz0 hz1 hz2 rfl (by decide) _ _ _ rfl hown ⟨c,0,none⟩ n cap (ints l) rfl ?c1 ?c2 ?c3 ?c4 ?c5 ?c6 ?_)
 case c1=>rw [ints_len,HN.out,Nat.mul_one]
 case c2 =>
  intro j u hu
  simp only [ints,List.getElem?_map,Option.map_eq_some_iff] at hu
  obtain ⟨x,hx,rfl⟩:=hu
  have hj:j < l.length:=(List.getElem?_eq_some_iff.1 hx).1
  have:=HC.out j (by rw [← HN.out]; exact hj)
  rw [show (⟨c,0,none⟩:Addr).add j=⟨c,j,none⟩ by (simp [Addr.add]; omega),World.cell?_alloc_lt _ _ _ hlt,this]
  simp [hx]
 case c3 =>
  intro u hu
  simp only [ints,List.mem_map] at hu
  obtain ⟨x,_,rfl⟩:=hu
  rfl
 case c4=>have:=HL.out; unfold maxLen; omega
 case c5=>have:=HL.out; omega
 case c6=>simp only [size_alloc]; omega
 intro v' w' h1 h2 h3
 go_wp2
 go_ret
 refine ⟨v',rfl, ?_, ?_, ?_⟩
 · exact h1
 · exact h3
 · exact (Ext.alloc' w (.cells #[] 2)).grown h2 (by simp only [size_alloc]; omega) (by intro k hk; simp [Value.ownBlock] at hk; omega)
set_option maxHeartbeats 400000 in
theorem GCells_c (b c R W:Nat) (l:List Int) (w:World) (h:GAt w b c R W l) :
 Calls Tryz.prog 260 #[.pointer (some ⟨b,0,none⟩)] w fun e w'=>∃ v,e=.returned v∧w'.ownsRow w.heap.size 2 1 v l.length (ints l)∧(v=.slice none 0 0→False)∧Ext w w':=by
 have hl:l.length≤1024:=by rw [h.len]; exact Nat.mul_le_mul h.r2 h.w2
 obtain ⟨cap,h1,h2⟩:=h.ex
 have c2:=cell_of h1 2
 simp at c2
 clear h1 h
 go_enter Tryz.func260,Tryz.ntmps260
 go_wp2_with fail
 refine (Clone_c c cap l _ h2 (by omega)).mono ?_
 rintro e w1 ⟨v,rfl,h3,h4,h5⟩
 go_wp2
 go_ret
 exact ⟨v,rfl,h3,h4,h5⟩
set_option maxHeartbeats 1000000 in
theorem GCopy_c (b c R W:Nat) (l:List Int) (w:World) (h:GAt w b c R W l) :
 Calls Tryz.prog 274 #[.pointer (some ⟨b,0,none⟩)] w fun e w'=>∃ b' c',e=.returned (.pointer (some ⟨b',0,none⟩))∧GAt w' b' c' R W l∧w.heap.size≤b'∧w.heap.size≤c'∧Ext w w':=by
 have hG:=h
 have hl:l.length≤1024:=by rw [h.len]; exact Nat.mul_le_mul h.r2 h.w2
 have hl0:0 < l.length:=by rw [h.len]; exact Nat.mul_pos (by have:=h.r1; omega) (by have:=h.w1; omega)
 have hb:=h.ltb
 obtain ⟨cap,h1,h2⟩:=h.ex
 have c0:=cell_of h1 0
 have c1:=cell_of h1 1
 have c2:=cell_of h1 2
 simp at c0 c1 c2
 clear h1 h
 go_enter Tryz.func274,Tryz.ntmps274
 go_wp2
 have hC0:=af_drew w
 refine pi_start (fun w'=>∃ x:After w,w'=x.w) [] (by kernel_rfl) ?_
 refine pi_t 0 rfl (by kernel_rfl) (by kernel_rfl) (fun _ _ _ _ h=>h) (fun K hK=>?_)
 go_big_quiet_op
 refine hK _ ?_
 clear hK K
 refine pi_t 1 rfl (by kernel_rfl) (by kernel_rfl) (fun _ _ _ _ h=>h) (fun K hK=>?_)
 go_big_quiet_op
 refine hK _ ?_
 clear hK K
 refine pi_t 2 rfl (by kernel_rfl) (by kernel_rfl) (fun _ _ _ _ h=>h) (fun K hK=>?_)
 go_big_quiet_op
 refine hK _ ?_
 clear hK K
 refine pi_c 3 (by assumption) rfl (by kernel_rfl) (by kernel_rfl) (fun _ _ _ _ h=>h) (fun K hK=>?_)
 go_big_quiet_op
 refine hK _ ?_
 clear hK K
 refine pi_t 4 rfl (by kernel_rfl) (by kernel_rfl) (fun _ _ _ _ h=>h) (fun K hK=>?_)
 go_big_quiet_op
 refine hK _ ?_
 clear hK K
 refine pi_t 5 rfl (by kernel_rfl) (by kernel_rfl) (fun _ _ _ _ h=>h) (fun K hK=>?_)
 go_big_quiet_op
 refine hK _ ?_
 clear hK K
 refine pi_t 6 rfl (by kernel_rfl) (by kernel_rfl) (fun _ _ _ _ h=>h) (fun K hK=>?_)
 go_big_quiet_op
 refine hK _ ?_
 clear hK K
 refine pi_c 7 (by assumption) rfl (by kernel_rfl) (by kernel_rfl) (fun _ _ _ _ h=>h) (fun K hK=>?_)
 go_big_quiet_op
 refine hK _ ?_
 clear hK K
 refine pi_t 8 rfl (by kernel_rfl) (by kernel_rfl) (fun _ _ _ _ h=>h) (fun K hK=>?_)
 go_big_quiet_op
 refine hK _ ?_
 clear hK K
 refine pi_t 9 rfl (by kernel_rfl) (by kernel_rfl) (fun _ _ _ _ h=>h) (fun K hK=>?_)
 go_big_quiet_op
 refine hK _ ?_
 clear hK K
 refine pi_t 10 rfl (by kernel_rfl) (by kernel_rfl) (fun _ _ _ _ h=>h) (fun K hK=>?_)
 go_big_quiet_op
 refine hK _ ?_
 clear hK K
 refine pi_c 11 (by assumption) rfl (by kernel_rfl) (by kernel_rfl) (fun _ _ _ _ h=>h) (fun K hK=>?_)
 go_big_quiet_op
 refine hK _ ?_
 clear hK K
 refine pi_l 12 rfl (by kernel_rfl) (fun K hK=>?_)
 go_wp2_with (go_at_call 276; refine (Clone_c c cap l _ (by exact h2.keep rfl) (by omega)).mono ?_; rintro e w1 ⟨v,rfl,h3,h4,h5⟩; obtain ⟨cc,cap2,rfl,hbc,hca⟩:=CAt.of_row h3 hl0)
 refine hK _ _ (fun _ h=>af_step h h5) ?_
 clear hK K
 refine pi_t 13 rfl (by kernel_rfl) (by kernel_rfl) (fun _ _ _ _ h=>h) (fun K hK=>?_)
 go_big_quiet_op
 refine hK _ ?_
 clear hK K
 refine pi_l 14 rfl (by kernel_rfl) (fun K hK=>?_)
 go_wp2
 refine hK _ _ (fun _ h=>af_step h (Ext.alloc' _ _)) ?_
 clear hK K
 refine pi_t 15 rfl (by kernel_rfl) (by kernel_rfl) (fun _ _ _ _ h=>h) (fun K hK=>?_)
 go_big_quiet_op
 refine hK _ ?_
 clear hK K
 refine pi_end (by kernel_rfl) ?_
 go_wp2
 go_ret
 have hsz:=h5.size
 refine ⟨w1.heap.size,cc,rfl,⟨⟨cap2,heap_at _ _ rfl,hca.keep (heap_old _ _ hca.lt)⟩,hG.r1,hG.r2,hG.w1,hG.w2,hG.len⟩,hsz,hbc, ?_⟩
 have:Ext w w1:=Ext.trans' (Below.drew (Ext.refl w)) h5
 (repeat' (first | exact Ext.refl _ | assumption | apply Ext.allocR | apply Ext.drewR | apply Ext.drewNR | (refine Ext.trans' ?_ (by assumption))))
end Go.Proofs.YtmalncfcgcebhaaGreatDoor
namespace Go.Proofs.YtmalncfcgcebhaaGreatDoor
open Go.RowKit
section
variable {P:Program}
theorem run_append_sep {w:World} (base:Nat) (t ty e:TypeId) (i:TypeInfo) (z:Value) (size bytes:Nat) (ht:P.underlying t=some (.slice e)) (hi:P.info? e=some i) (hz:i.zero=some z)
 (hsize:i.size=size) (hby:i.bytes=bytes) (hzs:z.cells.size=size) (hsz:0 < size)
 (v:Value) (n:Nat) (xs:List Value) (hown:w.ownsRow base e size v n xs)
 (a:Addr) (m c:Nat) (news:List Value) (hl:news.length=m*size) (hnews:∀ j u,news[j]?=some u→w.cell? (a.add j)=some u) (h1:∀ u∈news,u.oneCell'=true)
 (h63:n+m≤maxLen) (hbytes:(n+m)*bytes≤140737488355328) (hbase:base≤w.heap.size) :
 ∃ v' w',(Builtin.append_ #[t,t] ty #[v,.slice (some a) m c]).run P w=.ok v' w'∧w'.ownsRow base e size v' (n+m) (xs++news)∧w.grownBy w' v.ownBlock ∧
   (v'.ownBlock=v.ownBlock∨v'.ownBlock=some w.heap.size):=by
 obtain ⟨v',w',hr,h2,h3,h4⟩:=run_append_own w base t ty e i z size bytes ht hi hz hsize hby hzs hsz v n xs hown a m c news hl hnews h1 h63 hbytes hbase
 refine ⟨v',w',hr,h2,h3, ?_⟩
 rcases hown.2 with ⟨rfl,rfl⟩ | ⟨g,cap,cur,rfl,hbg,hg,hnc,hcm,hcs,htake⟩
 · by_cases hm:m=0
   · left
     rw [h4.2 ⟨rfl,hm⟩]
   · right
     have hx:xs=[]:=List.eq_nil_of_length_eq_zero (by simpa using hown.1)
     subst hx
     subst hsize
     have hr2:=run_append_nil (P:=P) w t ty e i z ht hi hz a m c news hl hnews (by omega) (by simp only [maxLen] at h63; omega) (by rw [hby]; have hb:=hbytes; simp only [Nat.zero_add] at hb; omega)
     rw [hr] at hr2
     cases hr2
     rfl
 · subst hsize
   by_cases hroom:n+m≤cap
   · left
     have hfit:n*i.size+news.length≤cur.size:=by rw [hl,hcs,← Nat.add_mul]; exact Nat.mul_le_mul_right _ hroom
     have hr2:=run_append_room (P:=P) w t ty e i ht hi g n cap cur hg a m c news hl hnews h1 hroom hfit
     rw [hr] at hr2
     cases hr2
     rfl
   · right
     have holds:∀ j u,xs[j]?=some u→w.cell? ((⟨g,0,none⟩:Addr).add j)=some u:=hown.cells (g:=g) rfl
     have hr2:=run_append_grow (P:=P) w t ty e i z ht hi hz ⟨g,0,none⟩ n cap xs hown.1 holds a m c news hl hnews (by omega) (by simp only [maxLen] at h63; omega) (by rw [hby]; exact growslice_fits (by omega) hbytes)
     rw [hr] at hr2
     cases hr2
     rfl
theorem wpList_append_sep (w:World) {ops:Array Oper} {rest:List Oper} {o:Oper} {a:Act} {Q:Exit→Act→World→Prop} (hgd:o.guard=none) (s x:Operand) (t:TypeId)
 (ho:o.op=.call { callee:=.builtin .append,args:=#[s,x],argTypes:=#[t,t] })
 (base:Nat) (e:TypeId) (i:TypeInfo) (z:Value) (size bytes:Nat) (ht:P.underlying t=some (.slice e)) (hi:P.info? e=some i) (hz:i.zero=some z)
 (hsize:i.size=size) (hby:i.bytes=bytes) (hzs:z.cells.size=size) (hsz:0 < size)
 (v:Value) (n:Nat) (xs:List Value) (hs:a.eval s=v) (hown:w.ownsRow base e size v n xs)
 (ad:Addr) (m c:Nat) (news:List Value) (hx:a.eval x=.slice (some ad) m c) (hl:news.length=m*size) (hnews:∀ j u,news[j]?=some u→w.cell? (ad.add j)=some u) (h1:∀ u∈news,u.oneCell'=true)
 (h63:n+m≤maxLen) (hbytes:(n+m)*bytes≤140737488355328) (hbase:base≤w.heap.size)
 (h:∀ v' w',w'.ownsRow base e size v' (n+m) (xs++news)→w.grownBy w' v.ownBlock→(v'.ownBlock=v.ownBlock∨v'.ownBlock=some w.heap.size)→wpList P ops Q rest (a.put o.dst v') w'):wpList P ops Q (o :: rest) a w :=
 wpList_plain hgd fun K hK=>by
  obtain ⟨v',w',hr,h2,h3,h4⟩:=run_append_sep (P:=P) base t o.type e i z size bytes ht hi hz hsize hby hzs hsz v n xs hown ad m c news hl hnews h1 h63 hbytes hbase
  unfold Oper.wp execOp
  simp only [ho,resolve,invoke,builtin,Sem.run_bind,Sem.run_pure,Result.andThen_ok,List.map_toArray,List.map_cons,List.map_nil,hs,hx,hr]
  exact hK _ _ (h v' w' h2 h3 h4)
theorem wpList_app1 (W:World) {ops:Array Oper} {rest:List Oper} {o:Oper} {a:Act} {Q:Exit→Act→World→Prop} (x:Int) (l:List Int) (v:Value) (base:Nat) (e:TypeId) (hown:W.ownsRow base e 1 v l.length (ints l)) (t:TypeId)
 (hgd:o.guard=none) (s y:Operand) (ho:o.op=.call { callee:=.builtin .append,args:=#[s,y],argTypes:=#[t,t] })
 (hinfo:(P.info? e).map (fun i=>(i.zero,i.size,i.bytes))=some (some (.int .i64 0),1,8)) (ht:P.underlying t=some (.slice e))
 (hs:a.eval s=v) (hx:a.eval y=.slice (some ⟨W.heap.size,0,none⟩) 1 1)
 (hl:l.length≤1000000000000) (hbase:base≤W.heap.size)
 (h:∀ v' w',w'.ownsRow base e 1 v' (l++[x]).length (ints (l++[x]))→(W.alloc (.cells #[.int .i64 x] e)).grownBy w' v.ownBlock→(v'.ownBlock=v.ownBlock∨v'.ownBlock=some (W.heap.size+1))→wpList P ops Q rest (a.put o.dst v') w') :
 wpList P ops Q (o :: rest) a (W.alloc (.cells #[.int .i64 x] e)):=by
 obtain ⟨i0,hi,hz0,hz1,hz2⟩:=info_parts hinfo
 refine wpList_append_sep _ hgd s y t ho base e i0 (.int .i64 0) 1 8 ht hi hz0 hz1 hz2 rfl (by decide) v l.length (ints l) hs (hown.alloc _) ⟨W.heap.size,0,none⟩ 1 1 [.int .i64 x] hx rfl ?_ ?_ (by unfold maxLen; omega) (by omega) (by rw [size_alloc]; omega) ?_
 · intro j u hu
   have hj:j=0:=by
    have:=(List.getElem?_eq_some_iff.1 hu).1
    simp at this; exact this
   subst hj
   rw [show (⟨W.heap.size,0,none⟩:Addr).add 0=⟨W.heap.size,0,none⟩ by simp [Addr.add],cell_of (heap_at W _ rfl) 0]
   exact hu
 · intro u hu
   simp at hu
   subst hu
   rfl
 · intro v' w' h1 h2 h3
   refine h v' w' ?_ h2 ?_
   · rw [List.length_append]
     unfold ints at h1 ⊢
     rw [List.map_append]
     exact h1
   · rw [size_alloc] at h3; exact h3
end
end Go.Proofs.YtmalncfcgcebhaaGreatDoor
namespace Go.Proofs.YtmalncfcgcebhaaGreatDoor
open Go.RowKit
def lessL (y:Int) (l:List Int):List Int:=l.filter fun x=>decide (x < y)
def moreL (y:Int) (l:List Int):List Int:=l.filter fun x=>decide (y < x)
def sameN (y:Int) (l:List Int):Nat:=(l.filter fun x=>decide (x=y)).length
theorem parts_len (y:Int) (l:List Int):(lessL y l).length+sameN y l+(moreL y l).length=l.length:=by
 unfold lessL sameN moreL
 induction l with
 | nil=>rfl
 | cons x l ih =>
   simp only [List.filter_cons]
   by_cases h1:x < y
   · have h2:¬ y < x:=by omega
     have h3:¬ x=y:=by omega
     simp [h1,h2,h3]; omega
   · by_cases h2:y < x
     · have h3:¬ x=y:=by omega
       simp [h1,h2,h3]; omega
     · have h3:x=y:=by omega
       subst h3
       simp; omega
theorem part_snoc (y x:Int) (l:List Int):lessL y (l++[x])=lessL y l++(if x < y then [x] else [])∧moreL y (l++[x])=moreL y l++(if y < x then [x] else [])∧sameN y (l++[x])=sameN y l+(if x=y then 1 else 0):=by
 unfold lessL moreL sameN
 refine ⟨?_, ?_, ?_⟩
 · rw [List.filter_append]; by_cases h:x < y <;> simp [h]
 · rw [List.filter_append]; by_cases h:y < x <;> simp [h]
 · rw [List.filter_append,List.length_append]; by_cases h:x=y <;> simp [h]
def PartPost (w:World) (y:Int) (l:List Int) (e:Ending) (w':World):Prop :=
 ∃ v1 v2,e=.returned (.tuple #[.agg #[v1],.agg #[v2],.int .i64 (sameN y l)])∧w'.ownsRow w.heap.size 2 1 v1 (lessL y l).length (ints (lessL y l))∧w'.ownsRow w.heap.size 2 1 v2 (moreL y l).length (ints (moreL y l))∧Ext w w'
structure PartAt (w wr:World) (y:Int) (l:List Int) (v1 v2:Value):Prop where
 ext:Ext w wr
 sz:w.heap.size+2 < wr.heap.size
 b1:wr.heap[w.heap.size+1]?=some (.cells #[v1] 438 (0,0))
 b2:wr.heap[w.heap.size+2]?=some (.cells #[v2] 438 (0,0))
 o1:wr.ownsRow (w.heap.size+3) 2 1 v1 (lessL y l).length (ints (lessL y l))
 o2:wr.ownsRow (w.heap.size+3) 2 1 v2 (moreL y l).length (ints (moreL y l))
 ne:v1.ownBlock=none∨v1.ownBlock≠v2.ownBlock
theorem own_slice {w:World} {base:Nat} {e:TypeId} {v:Value} {n:Nat} {xs:List Value} (h:w.ownsRow base e 1 v n xs):∃ p k c,v=.slice p k c:=by
 rcases h.2 with ⟨rfl,_⟩ | ⟨g,cap,cur,rfl,_⟩
 · exact ⟨_,_,_,rfl⟩
 · exact ⟨_,_,_,rfl⟩
theorem own_mono {w:World} {base base':Nat} {e:TypeId} {v:Value} {n:Nat} {xs:List Value} (h:w.ownsRow base e 1 v n xs) (hb:base'≤base):w.ownsRow base' e 1 v n xs:=by
 obtain ⟨h1,h2⟩:=h
 refine ⟨h1, ?_⟩
 rcases h2 with h2 | ⟨g,cap,cur,h3,h4,h5⟩
 · exact .inl h2
 · exact .inr ⟨g,cap,cur,h3,by omega,h5⟩
theorem own_drew {w:World} {base:Nat} {e:TypeId} {v:Value} {n:Nat} {xs:List Value} (h:w.ownsRow base e 1 v n xs):w.drew.ownsRow base e 1 v n xs:=h
structure PS (w:World) (v1 v2:Value) (w':World):Prop where
 b1:w'.heap[w.heap.size+1]?=some (.cells #[v1] 438 (0,0))
 b2:w'.heap[w.heap.size+2]?=some (.cells #[v2] 438 (0,0))
theorem grown_old {w w1:World} {o:Obj} {row:Option Nat} (h:(w.alloc o).grownBy w1 row) {j:Nat} (hj:j < w.heap.size) (hn:some j≠row):w1.heap[j]?=w.heap[j]?:=by
 rw [h.block j (by rw [size_alloc]; omega) hn,heap_old _ _ hj]
theorem own_ge {w:World} {base:Nat} {e:TypeId} {v:Value} {n:Nat} {xs:List Value} (h:w.ownsRow base e 1 v n xs) {j:Nat} (hj:j < base):some j≠v.ownBlock:=by
 intro he
 have:=(h.lt j he.symm).1
 omega
theorem own_new {w:World} {base:Nat} {e:TypeId} {v:Value} {n:Nat} {xs:List Value} (h:w.ownsRow base e 1 v n xs) {j:Nat} (hj:w.heap.size≤j):some j≠v.ownBlock:=by
 intro he
 have:=(h.lt j he.symm).2
 omega
theorem ext_grown {w wr w1:World} {o:Obj} {row:Option Nat} (he:Ext w wr) (h:(wr.alloc o).grownBy w1 row) (hr:∀ k,row=some k→w.heap.size≤k):Ext w w1 :=
 (he.allocR o).grown h (by rw [size_alloc]; have:=he.size; omega) hr
theorem part_less {w wr w1:World} {y x:Int} {l:List Int} {v1 v2 v':Value} (hP:PartAt w wr y l v1 v2) (hx:x < y)
 (h1:w1.ownsRow (w.heap.size+3) 2 1 v' ((lessL y l).length+1) (ints (lessL y l++[x]))) (h2:(wr.alloc (.cells #[.int .i64 x] 2)).grownBy w1 v1.ownBlock)
 (h3:v'.ownBlock=v1.ownBlock∨v'.ownBlock=some (wr.heap.size+1)) :
 w1.heap[w.heap.size+1]?=some (.cells #[v1] 438 (0,0))∧PartAt w (w1.setCell ⟨w.heap.size+1,0,none⟩ v') y (l++[x]) v' v2:=by
 have hsz:=hP.sz
 have g1:=grown_old h2 (j:=w.heap.size+1) (by omega) (own_ge hP.o1 (by omega))
 have g2:=grown_old h2 (j:=w.heap.size+2) (by omega) (own_ge hP.o1 (by omega))
 rw [hP.b1] at g1
 rw [hP.b2] at g2
 obtain ⟨s1,s2,s3⟩:=part_snoc y x l
 rw [if_pos hx] at s1
 rw [if_neg (by omega),List.append_nil] at s2
 have hv1:∀ j,v1.ownBlock=some j→j < wr.heap.size:=fun j hj=>(hP.o1.lt j hj).2
 refine ⟨g1, ?_, ?_, ?_, ?_, ?_, ?_, ?_⟩
 · refine Ext.setR (ext_grown hP.ext h2 (fun k hk=>?_)) (by show w.heap.size≤w.heap.size+1; omega) _
   have:=(hP.o1.lt k hk).1; omega
 · rw [size_setCell]; have:=h2.size; rw [size_alloc] at this; omega
 · rw [setCell_same g1]; rfl
 · rw [setCell_other _ _ (by omega)]; exact g2
 · rw [s1,show (lessL y l++[x]).length=(lessL y l).length+1 by simp]; exact ownsRow_setCell_below h1 (by show w.heap.size+1 < _; omega) _
 · rw [s2]
   refine ownsRow_setCell_below ((hP.o2.alloc _).kept h2 ?_) (by show w.heap.size+1 < _; omega) _
   rcases hP.ne with h | h
   · by_cases hv:v2.ownBlock=none
     · exact .inl hv
     · exact .inr (by rw [h]; exact hv)
   · exact .inr (fun e=>h e.symm)
 · rcases h3 with h3 | h3
   · rw [h3]; exact hP.ne
   · right
     rw [h3]
     exact own_new hP.o2 (by omega)
theorem part_more {w wr w1:World} {y x:Int} {l:List Int} {v1 v2 v':Value} (hP:PartAt w wr y l v1 v2) (hx:y < x)
 (h1:w1.ownsRow (w.heap.size+3) 2 1 v' ((moreL y l).length+1) (ints (moreL y l++[x]))) (h2:(wr.alloc (.cells #[.int .i64 x] 2)).grownBy w1 v2.ownBlock)
 (h3:v'.ownBlock=v2.ownBlock∨v'.ownBlock=some (wr.heap.size+1)) :
 w1.heap[w.heap.size+2]?=some (.cells #[v2] 438 (0,0))∧PartAt w (w1.setCell ⟨w.heap.size+2,0,none⟩ v') y (l++[x]) v1 v':=by
 have hsz:=hP.sz
 have g1:=grown_old h2 (j:=w.heap.size+1) (by omega) (own_ge hP.o2 (by omega))
 have g2:=grown_old h2 (j:=w.heap.size+2) (by omega) (own_ge hP.o2 (by omega))
 rw [hP.b1] at g1
 rw [hP.b2] at g2
 obtain ⟨s1,s2,s3⟩:=part_snoc y x l
 rw [if_pos hx] at s2
 rw [if_neg (by omega),List.append_nil] at s1
 refine ⟨g2, ?_, ?_, ?_, ?_, ?_, ?_, ?_⟩
 · refine Ext.setR (ext_grown hP.ext h2 (fun k hk=>?_)) (by show w.heap.size≤w.heap.size+2; omega) _
   have:=(hP.o2.lt k hk).1; omega
 · rw [size_setCell]; have:=h2.size; rw [size_alloc] at this; omega
 · rw [setCell_other _ _ (by omega)]; exact g1
 · rw [setCell_same g2]; rfl
 · rw [s1]
   refine ownsRow_setCell_below ((hP.o1.alloc _).kept h2 hP.ne) (by show w.heap.size+2 < _; omega) _
 · rw [s2,show (moreL y l++[x]).length=(moreL y l).length+1 by simp]; exact ownsRow_setCell_below h1 (by show w.heap.size+2 < _; omega) _
 · rcases hP.ne with h | h
   · exact .inl h
   · rcases h3 with h3 | h3
     · rw [h3]; exact .inr h
     · right
       rw [h3]
       exact (own_new hP.o1 (by omega)).symm
set_option maxRecDepth 20000 in
set_option maxHeartbeats 2000000 in
theorem part_c (v:Value) (y:Int) (l:List Int) (w:World) (hv:IntsAt w v l) (hl0:0 < l.length) (hl:l.length≤1000000) :
 Calls Tryz.prog 339 #[.agg #[v],.int .i64 y] w (PartPost w y l):=by
 obtain ⟨n,hn⟩:∃ n,n=l.length:=⟨_,rfl⟩
 have HN:=Lib.hid hn
 rcases hv with ⟨rfl,rfl⟩ | ⟨g,off,cap,rfl,hg,hc⟩
 · simp at hl0
 rw [← hn] at hl hl0 hc
 rw [← hn]
 have HC:=Lib.hid hc
 clear hc hn
 go_enter Tryz.func339,Tryz.ntmps339
 go_wp2
 go_loopw [14,6] (fun v u wr=>∃ (k:Nat) (v1 v2:Value),k≤n∧v=.int .i64 k∧u=.int .i64 (sameN y (l.take k))∧PartAt w wr y (l.take k) v1 v2) (fun v _ _=>n - (intOf v).toNat)
 case atStart =>
  refine ⟨0,.slice none 0 0,.slice none 0 0,Nat.zero_le _,rfl,rfl,by (repeat' (first | exact Ext.refl _ | assumption | apply Ext.allocR | apply Ext.drewR | apply Ext.drewNR | (refine Ext.trans' ?_ (by assumption)))),by simp only [size_alloc]; omega, ?_, ?_,World.ownsRow_nil _ _ _ _,World.ownsRow_nil _ _ _ _,.inl rfl⟩
  · rw [heap_old _ _ (by simp only [size_alloc]; omega)]; exact heap_at _ _ (by simp only [size_alloc])
  · exact heap_at _ _ (by simp only [size_alloc])
 case round =>
  obtain ⟨k,v1,v2,hk,rfl,rfl,hP⟩:=hrel
  by_cases hlt:k < n
  · have hkl:k < l.length:=by rw [← HN.out]; exact hlt
    have d:=((bcell hP.ext).1 g (off+k) hg).trans (HC.out k hlt)
    have hts:=take_snoc hkl
    generalize l.getD k 0=x at d hts
    have HT:=Lib.hid hts
    clear hts
    have e1:=cell_of hP.b1 0
    have e2:=cell_of hP.b2 0
    simp at e1 e2
    have f1:=frozen_of hP.b1 0
    have f2:=frozen_of hP.b2 0
    have hsz:=hP.sz
    obtain ⟨s1,s2,s3⟩:=part_snoc y x (l.take k)
    have S1:=Lib.hid s1
    have S2:=Lib.hid s2
    have S3:=Lib.hid s3
    clear s1 s2 s3
    have hln:=List.length_filter_le (fun x=>decide (x < y)) (l.take k)
    have hmn:=List.length_filter_le (fun x=>decide (y < x)) (l.take k)
    have hsn:=List.length_filter_le (fun x=>decide (x=y)) (l.take k)
    have htk:=List.length_take_le k l
    have hll:(lessL y (l.take k)).length≤1000000:=by unfold lessL; omega
    have hml:(moreL y (l.take k)).length≤1000000:=by unfold moreL; omega
    have hsl:sameN y (l.take k)≤1000000:=by unfold sameN; omega
    clear hln hmn hsn htk
    by_cases c1:x < y
    · go_wp2_with (at_builtin; refine wpList_app1 wr x _ v1 (w.heap.size+3) 2 hP.o1 47 rfl _ _ rfl info_i64 Tryz.underlying47 rfl rfl ?a1 ?a2 ?_)
      case a1=>omega
      case a2=>omega
      intro v' w1 h1 h2 h3
      obtain ⟨q1,q2⟩:=part_less hP c1 h1 h2 h3
      have p1:=cell_of q1 0
      simp at p1
      have pf:=frozen_of q1 0
      obtain ⟨p',n',c',rfl⟩:=own_slice h1
      clear q1 h1 h2 h3 e1 e2 f1 f2
      go_wp2
      go_roundw
      case rel=>exact ⟨k+1,_,v2,by omega,by go_num,by rw [HT.out,S3.out,if_neg (by omega)]; rfl,by rw [HT.out]; exact q2⟩
      case measure=>simp [intOf]; omega
    · by_cases c2:y < x
      · go_wp2_with (at_builtin; refine wpList_app1 wr x _ v2 (w.heap.size+3) 2 hP.o2 47 rfl _ _ rfl info_i64 Tryz.underlying47 rfl rfl ?a1 ?a2 ?_)
        case a1=>omega
        case a2=>omega
        intro v' w1 h1 h2 h3
        obtain ⟨q1,q2⟩:=part_more hP c2 h1 h2 h3
        have p1:=cell_of q1 0
        simp at p1
        have pf:=frozen_of q1 0
        obtain ⟨p',n',c',rfl⟩:=own_slice h1
        clear q1 h1 h2 h3 e1 e2 f1 f2
        go_wp2
        go_roundw
        case rel=>exact ⟨k+1,v1,_,by omega,by go_num,by rw [HT.out,S3.out,if_neg (by omega)]; rfl,by rw [HT.out]; exact q2⟩
        case measure=>simp [intOf]; omega
      · go_wp2
        go_roundw
        case rel =>
         refine ⟨k+1,v1,v2,by omega,by go_num,by rw [HT.out,S3.out,if_pos (by omega)]; go_num, ?_⟩
         have a1:=S1.out
         have a2:=S2.out
         rw [if_neg c1,List.append_nil] at a1
         rw [if_neg c2,List.append_nil] at a2
         rw [HT.out]
         exact ⟨hP.ext,hP.sz,hP.b1,hP.b2,by rw [a1]; exact hP.o1,by rw [a2]; exact hP.o2,hP.ne⟩
        case measure=>simp [intOf]; omega
  · have hkn:k=n:=by omega
    have HK:=Lib.hid hkn
    clear hkn
    obtain ⟨p1,n1,c1,rfl⟩:=own_slice hP.o1
    obtain ⟨p2,n2,c2,rfl⟩:=own_slice hP.o2
    have hne:Nonempty (Holds (PS w (.slice p1 n1 c1) (.slice p2 n2 c2))):=⟨⟨wr,⟨hP.b1,hP.b2⟩⟩⟩
    have hS1:∀ x:Holds (PS w (.slice p1 n1 c1) (.slice p2 n2 c2)),x.w.cell? ⟨w.heap.size+1,0,none⟩=some (.slice p1 n1 c1):=fun x=>(cell_of x.h.b1 0).trans rfl
    have hS2:∀ x:Holds (PS w (.slice p1 n1 c1) (.slice p2 n2 c2)),x.w.cell? ⟨w.heap.size+1+1,0,none⟩=some (.slice p2 n2 c2):=fun x=>(cell_of x.h.b2 0).trans rfl
    have e1:=cell_of hP.b1 0
    have e2:=cell_of hP.b2 0
    simp at e1 e2
    have f1:=frozen_of hP.b1 0
    have f2:=frozen_of hP.b2 0
    have hsz:=hP.sz
    go_wp2
    have hC0:∃ x:Holds (PS w (.slice p1 n1 c1) (.slice p2 n2 c2)),wr.drew=x.w:=hs_mk ⟨hP.b1,hP.b2⟩
    refine pi_start (fun w'=>∃ x:Holds (PS w (.slice p1 n1 c1) (.slice p2 n2 c2)),w'=x.w) [4] (by kernel_rfl) ?_
    refine pi_t 2 rfl (by kernel_rfl) (by kernel_rfl) (fun _ _ _ _ h=>h) (fun K hK=>?_)
    go_big_quiet_op
    refine hK _ ?_
    clear hK K
    refine pi_c 0 (by assumption) rfl (by kernel_rfl) (by kernel_rfl) (fun _ _ _ _ h=>h) (fun K hK=>?_)
    go_big_quiet_op
    refine hK _ ?_
    clear hK K
    refine pi_c 1 (by assumption) rfl (by kernel_rfl) (by kernel_rfl) (fun _ _ _ _ h=>h) (fun K hK=>?_)
    go_big_quiet_op
    refine hK _ ?_
    clear hK K
    refine pi_l 3 rfl (by kernel_rfl) (fun K hK=>?_)
    go_wp2
    have g1:(wr.drew.setCell ⟨w.heap.size+1,0,none⟩ (.slice p1 n1 c1)).heap[w.heap.size+1]?=some (.cells #[.slice p1 n1 c1] 438 (0,0)):=by rw [setCell_same (w:=wr.drew) hP.b1]; rfl
    have g2:(wr.drew.setCell ⟨w.heap.size+1,0,none⟩ (.slice p1 n1 c1)).heap[w.heap.size+2]?=some (.cells #[.slice p2 n2 c2] 438 (0,0)):=by rw [setCell_other _ _ (by omega)]; exact hP.b2
    refine hK _ _ (fun _ _=>hs_mk ⟨g1,g2⟩) ?_
    clear hK K
    refine pi_l 4 rfl (by kernel_rfl) (fun K hK=>?_)
    go_wp2
    refine hK _ _ (fun h=>absurd h (by decide)) ?_
    clear hK K
    refine pi_t 5 rfl (by kernel_rfl) (by kernel_rfl) (fun _ _ _ _ h=>h) (fun K hK=>?_)
    go_big_quiet_op
    refine hK _ ?_
    clear hK K
    refine pi_end (by kernel_rfl) ?_
    go_wp2
    have r1:((wr.drew.setCell ⟨w.heap.size+1,0,none⟩ (.slice p1 n1 c1)).setCell ⟨w.heap.size+1+1,0,none⟩ (.slice p2 n2 c2)).cell? ⟨w.heap.size+1,0,none⟩=some (.slice p1 n1 c1):=by
     have:((wr.drew.setCell ⟨w.heap.size+1,0,none⟩ (.slice p1 n1 c1)).setCell ⟨w.heap.size+1+1,0,none⟩ (.slice p2 n2 c2)).heap[w.heap.size+1]?=some (.cells #[.slice p1 n1 c1] 438 (0,0)):=by rw [setCell_other _ _ (by omega)]; exact g1
     exact (cell_of this 0).trans rfl
    have r2:((wr.drew.setCell ⟨w.heap.size+1,0,none⟩ (.slice p1 n1 c1)).setCell ⟨w.heap.size+1+1,0,none⟩ (.slice p2 n2 c2)).cell? ⟨w.heap.size+1+1,0,none⟩=some (.slice p2 n2 c2):=by
     exact (cell_of (setCell_same g2 0 _) 0).trans rfl
    have r3:(wr.setCell ⟨w.heap.size+1,0,none⟩ (.slice p1 n1 c1)).cell? ⟨w.heap.size+1,0,none⟩=some (.slice p1 n1 c1):=(cell_of g1 0).trans rfl
    have r4:((wr.setCell ⟨w.heap.size+1,0,none⟩ (.slice p1 n1 c1)).setCell ⟨w.heap.size+1+1,0,none⟩ (.slice p2 n2 c2)).cell? ⟨w.heap.size+1+1,0,none⟩=some (.slice p2 n2 c2):=r2
    have hk:=HK.out
    have htl:l.take k=l:=by rw [hk,HN.out]; exact List.take_length
    rw [htl] at hP
    refine bodyPost_ret (v:=.tuple #[.agg #[.slice p1 n1 c1],.agg #[.slice p2 n2 c2],.int .i64 (sameN y (l.take k))]) (by simp [results,Tryz.results339,go_sem,r3,r4]) rfl ⟨_,_,by rw [htl], ?_, ?_, ?_⟩
    · exact own_mono (ownsRow_setCell_below (ownsRow_setCell_below (own_drew hP.o1) (by show w.heap.size+1 < _; omega) _) (by show w.heap.size+1+1 < _; omega) _) (by omega)
    · exact own_mono (ownsRow_setCell_below (ownsRow_setCell_below (own_drew hP.o2) (by show w.heap.size+1 < _; omega) _) (by show w.heap.size+1+1 < _; omega) _) (by omega)
    · exact ((Below.drew hP.ext).setCell (by show w.heap.size≤w.heap.size+1; omega) _).setCell (by show w.heap.size≤w.heap.size+1+1; omega) _
end Go.Proofs.YtmalncfcgcebhaaGreatDoor
namespace Go.Proofs.YtmalncfcgcebhaaGreatDoor
set_option linter.unusedVariables false
open Go.RowKit
section
variable {P:Program}
end
theorem own_blk {w:World} {base n size:Nat} {e:TypeId} {v:Value} {xs:List Value} (h:w.ownsRow base e size v n xs) {k:Nat} (hk:v.ownBlock=some k):base≤k:=by
 rcases h.2 with ⟨rfl,_⟩ | ⟨g,cap,cur,rfl,hg,_⟩
 · cases hk
 · cases hk; exact hg
theorem ext_grown0 {w wr w1:World} {row:Option Nat} (he:Ext w wr) (h:wr.grownBy w1 row) (hr:∀ k,row=some k→w.heap.size≤k):Ext w w1:=he.grown h he.size hr
end Go.Proofs.YtmalncfcgcebhaaGreatDoor
