/- Part. No condition. -/
import Derived.Test.YtmalncfcgcebhaaGreatDoorDTopHeavy8
import Derived.Test.YtmalncfcgcebhaaGreatDoorDTopHeavy6
import Derived.Test.YtmalncfcgcebhaaGreatDoorDTopHeavy2
import Derived.Test.YtmalncfcgcebhaaGreatDoorDTopHeavy3
import Derived.Test.YtmalncfcgcebhaaGreatDoorDTopHeavy4
import Derived.Test.YtmalncfcgcebhaaGreatDoorDTopHeavy7
import Derived.Test.YtmalncfcgcebhaaGreatDoorDTopHeavy1
import Derived.Deep.CutBlock
import Derived.Shelf.Strconv.Itoa4
import Derived.Laws.BytesArg
import Derived.WalkMore
import Derived.RangeFuncBox
namespace Go.Proofs.YtmalncfcgcebhaaGreatDoor
set_option linter.unusedVariables false
open Go.Proofs Go.RowKit
def RowB (w:World) (g n:Nat) (f:Nat→Int):Prop:=∃ cur,w.heap[g]?=some (.cells cur 5 (0,0))∧∀ k,k < n→cur[k]?=some (.int .u8 (f k))
theorem RowB.cell {w:World} {g n:Nat} {f:Nat→Int} (h:RowB w g n f) {k:Nat} (hk:k < n):w.cell? ⟨g,k,none⟩=some (.int .u8 (f k)):=by
 obtain ⟨cur,h1,h2⟩:=h
 rw [cell_of h1]
 exact h2 k hk
theorem RowB.lt {w:World} {g n:Nat} {f:Nat→Int} (h:RowB w g n f):g < w.heap.size:=by
 obtain ⟨cur,h1,h2⟩:=h
 exact lt_of h1
theorem RowB.frozen {w:World} {g n:Nat} {f:Nat→Int} (h:RowB w g n f) (k:Nat):w.frozen? ⟨g,k,none⟩=false:=by
 obtain ⟨cur,h1,h2⟩:=h
 exact frozen_of h1 k
theorem RowB.put {w:World} {g n:Nat} {f:Nat→Int} (h:RowB w g n f) {i:Nat} (hi:i < n) (v:Int):RowB (w.setCell ⟨g,i,none⟩ (.int .u8 v)) g n (fun k=>if k=i then v else f k):=by
 obtain ⟨cur,h1,h2⟩:=h
 refine ⟨_,setCell_same h1 i _,fun k hk=>?_⟩
 have hsz:i < cur.size:=by
  have:=h2 i hi
  rw [Array.getElem?_eq_some_iff] at this
  exact this.1
 by_cases e:k=i
 · subst e
   rw [Array.getElem?_setIfInBounds_self_of_lt hsz]
   dsimp only
   rw [if_pos rfl]
 · rw [Array.getElem?_setIfInBounds_ne (fun h=>e h.symm)]
   dsimp only
   rw [if_neg e]
   exact h2 k hk
theorem RowB.congr {w:World} {g n:Nat} {f f':Nat→Int} (h:RowB w g n f) (he:∀ k,k < n→f k=f' k):RowB w g n f':=by
 obtain ⟨cur,h1,h2⟩:=h
 exact ⟨cur,h1,fun k hk=>by rw [h2 k hk,he k hk]⟩
set_option maxRecDepth 20000 in
set_option maxHeartbeats 4000000 in
theorem RevB_c (g n cap:Nat) (f:Nat→Int) (w:World) (h:RowB w g n f) (hn:n≤100000) (hc:n≤cap) :
 Calls Tryz.prog 187 #[.slice (some ⟨g,0,none⟩) n cap] w fun e w'=>e=.returned (.tuple #[])∧RowB w' g n (fun k=>f (n - 1 - k))∧Mod (fun k=>k=g) w w':=by
 have H:=Lib.hid h
 clear h
 go_enter Tryz.func187,Tryz.ntmps187
 go_wp2_with fail
 go_loopw [2,3] (fun u2 u3 wr=>∃ i:Nat,2*i≤n+1∧u2=.int .i64 (i:Nat)∧u3=.int .i64 ((n:Int) - 1 - i)∧RowB wr g n (fun k=>if k < i∨n≤k+i then f (n - 1 - k) else f k)∧Mod (fun k=>k=g) w wr) (fun u2 _ _=>n - (intOf u2).toNat)
 case atStart =>
  refine ⟨0,by omega,rfl,by simp,H.out.congr fun k hk=>?_,Mod.refl _ _⟩
  rw [if_neg (by omega)]
 case round =>
  obtain ⟨i,hi,rfl,rfl,hR,hM⟩:=hrel
  by_cases hlt:2*i+1 < n
  · obtain ⟨j,hj⟩:∃ j,j=n - 1 - i:=⟨_,rfl⟩
    have hji:(n:Int) - 1 - i=(j:Int):=by omega
    have c1:=hR.cell (k:=i) (by omega)
    have c2:=hR.cell (k:=j) (by omega)
    rw [if_neg (by omega)] at c1 c2
    have f1:=hR.frozen i
    have f2:=hR.frozen j
    have gl:=hR.lt
    have hij:i < j:=by omega
    have hjn:j < n:=by omega
    have HR:=Lib.hid hR
    have HM:=Lib.hid hM
    have HJ:=Lib.hid hj
    rw [hji]
    clear hR hM hj hji
    generalize ha:f i=a at *
    generalize hb:f j=b at *
    have HA:=Lib.hid ha
    have HB:=Lib.hid hb
    clear ha hb
    go_wp2_with fail
    have hC0:=af_drew wr
    refine pi_start (fun w'=>∃ x:After wr,w'=x.w) [13,15] (by kernel_rfl) ?_
    refine pi_t 0 rfl (by kernel_rfl) (by kernel_rfl) (fun _ _ _ _ h=>h) (fun K hK=>?_)
    go_big_quiet_op
    refine hK _ ?_
    clear hK K
    refine pi_t 1 rfl (by kernel_rfl) (by kernel_rfl) (fun _ _ _ _ h=>h) (fun K hK=>?_)
    go_big_quiet_op
    refine hK _ ?_
    clear hK K
    refine pi_t 2 rfl (by kernel_rfl) (by kernel_rfl) (fun _ _ _ _ h=>h) (fun K hK=>?_)
    go_big_quiet_op
    refine hK _ ?_
    clear hK K
    refine pi_t 3 rfl (by kernel_rfl) (by kernel_rfl) (fun _ _ _ _ h=>h) (fun K hK=>?_)
    go_big_quiet_op
    refine hK _ ?_
    clear hK K
    refine pi_t 4 rfl (by kernel_rfl) (by kernel_rfl) (fun _ _ _ _ h=>h) (fun K hK=>?_)
    go_big_quiet_op
    refine hK _ ?_
    clear hK K
    refine pi_t 5 rfl (by kernel_rfl) (by kernel_rfl) (fun _ _ _ _ h=>h) (fun K hK=>?_)
    go_big_quiet_op
    refine hK _ ?_
    clear hK K
    refine pi_t 6 rfl (by kernel_rfl) (by kernel_rfl) (fun _ _ _ _ h=>h) (fun K hK=>?_)
    go_big_quiet_op
    refine hK _ ?_
    clear hK K
    refine pi_t 8 rfl (by kernel_rfl) (by kernel_rfl) (fun _ _ _ _ h=>h) (fun K hK=>?_)
    go_big_quiet_op
    refine hK _ ?_
    clear hK K
    refine pi_t 9 rfl (by kernel_rfl) (by kernel_rfl) (fun _ _ _ _ h=>h) (fun K hK=>?_)
    go_big_quiet_op
    refine hK _ ?_
    clear hK K
    refine pi_t 10 rfl (by kernel_rfl) (by kernel_rfl) (fun _ _ _ _ h=>h) (fun K hK=>?_)
    go_big_quiet_op
    refine hK _ ?_
    clear hK K
    refine pi_c 7 (by assumption) rfl (by kernel_rfl) (by kernel_rfl) (fun _ _ _ _ h=>h) (fun K hK=>?_)
    go_big_quiet_op
    refine hK _ ?_
    clear hK K
    refine pi_c 11 (by assumption) rfl (by kernel_rfl) (by kernel_rfl) (fun _ _ _ _ h=>h) (fun K hK=>?_)
    go_big_quiet_op
    refine hK _ ?_
    clear hK K
    refine pi_t 12 rfl (by kernel_rfl) (by kernel_rfl) (fun _ _ _ _ h=>h) (fun K hK=>?_)
    go_big_quiet_op
    refine hK _ ?_
    clear hK K
    refine pi_l 13 rfl (by kernel_rfl) (fun K hK=>?_)
    go_wp2
    refine hK _ _ (by simp) ?_
    clear hK K
    refine pi_t 14 rfl (by kernel_rfl) (by kernel_rfl) (fun _ _ _ _ h=>h) (fun K hK=>?_)
    go_big_quiet_op
    refine hK _ ?_
    clear hK K
    refine pi_l 15 rfl (by kernel_rfl) (fun K hK=>?_)
    go_wp2
    refine hK _ _ (by simp) ?_
    clear hK K
    refine pi_end (by kernel_rfl) ?_
    go_wp2
    go_roundw
    case rel =>
     have hji:j=n - 1 - i:=HJ.out
     refine ⟨i+1,by omega,by go_num,by simp only [Value.int.injEq,true_and]; omega, ?_, ?_⟩
     · refine ((HR.out.put (i:=i) (by omega) b).put (i:=j) hjn a).congr fun k hk=>?_
       by_cases e1:k=j
       · subst e1
         rw [if_pos rfl,if_pos (by omega),← HA.out]
         congr 1
         omega
       · by_cases e2:k=i
         · subst e2
           rw [if_neg e1,if_pos rfl,if_pos (by omega),← HB.out,hji]
         · rw [if_neg e1,if_neg e2]
           by_cases h3:k < i∨n≤k+i
           · rw [if_pos h3,if_pos (by omega)]
           · rw [if_neg h3,if_neg (by omega)]
     · have m1:Mod (fun k=>k=g) wr (wr.setCell ⟨g,i,none⟩ (.int .u8 b)):=⟨rfl,rfl,rfl,by rw [size_setCell]; exact Nat.le_refl _,fun k hk hn=>setCell_other _ _ hn⟩
       have m2:Mod (fun k=>k=g) (wr.setCell ⟨g,i,none⟩ (.int .u8 b)) ((wr.setCell ⟨g,i,none⟩ (.int .u8 b)).setCell ⟨g,j,none⟩ (.int .u8 a)):=⟨rfl,rfl,rfl,by rw [size_setCell _ _ (.int .u8 a)]; exact Nat.le_refl _,fun k hk hn=>setCell_other _ _ hn⟩
       have m3:Ext ((wr.setCell ⟨g,i,none⟩ (.int .u8 b)).setCell ⟨g,j,none⟩ (.int .u8 a)) ((wr.setCell ⟨g,i,none⟩ (.int .u8 b)).setCell ⟨g,j,none⟩ (.int .u8 a)).drew:=Below.drew (Ext.refl _)
       exact HM.out.trans (m1.trans (m2.trans (m3.mod _)))
    case measure=>simp [intOf]; omega
  · have HR:=Lib.hid hR
    have HM:=Lib.hid hM
    clear hR hM
    go_wp2
    refine bodyPost_end (v:=.tuple #[]) (by simp [results,Tryz.results187,go_sem]) rfl ⟨rfl,HR.out.congr fun k hk=>?_,HM.out⟩
    by_cases h3:k < i∨n≤k+i
    · rw [if_pos h3]
    · rw [if_neg h3]
      congr 1
      omega
end Go.Proofs.YtmalncfcgcebhaaGreatDoor
namespace Go.Proofs.YtmalncfcgcebhaaGreatDoor
set_option linter.unusedVariables false
open Go.RowKit
theorem and_16 (x:Int) (h0:0≤x) (h1:x < 18446744073709551616):bits BinOp.and IntKind.u64 x 65535=x % 65536:=and_mask x 16 (by decide) h0 h1
theorem w16 (x:Int):wrap64 (x % 65536)=x % 65536:=by unfold wrap64; omega
theorem wa16 (x:Int) (h:U64 x):wrap64 (bits BinOp.and IntKind.u64 x 65535)=x % 65536:=by rw [and_16 x h.1 h.2,w16]
def dg (x:Int) (i:Nat):Int:=x / (65536 ^ i:Int) % 65536
theorem dg_bd (x:Int) (i:Nat):0≤dg x i∧dg x i≤65535:=by unfold dg; omega
theorem dg0 (x:Int):dg x 0=x % 65536:=by unfold dg; rw [show (65536:Int) ^ 0=1 from rfl]; omega
theorem dg1 (x:Int):dg x 1=x / 65536 % 65536:=rfl
theorem dg2 (x:Int):dg x 2=x / 4294967296 % 65536:=rfl
theorem dg3 (x:Int):dg x 3=x / 281474976710656 % 65536:=rfl
theorem dg4 (x:Int):dg x 4=x / 18446744073709551616 % 65536:=rfl
theorem dg5 (x:Int):dg x 5=x / 1208925819614629174706176 % 65536:=rfl
theorem dg6 (x:Int):dg x 6=x / 79228162514264337593543950336 % 65536:=rfl
theorem dg7 (x:Int):dg x 7=x / 5192296858534827628530496329220096 % 65536:=rfl
theorem dg8 (x:Int):dg x 8=x / 340282366920938463463374607431768211456 % 65536:=rfl
theorem dg9 (x:Int):dg x 9=x / 22300745198530623141535718272648361505980416 % 65536:=rfl
def longA (d:Nat→Int):Value:=.agg #[.int .i64 (d 0),.int .i64 (d 1),.int .i64 (d 2),.int .i64 (d 3),.int .i64 (d 4),.int .i64 (d 5),.int .i64 (d 6),.int .i64 (d 7),.int .i64 (d 8),.int .i64 (d 9)]
def longV (x:Int):Value:=longA (dg x)
theorem hid_lo (x:Int):lo x % 65536=dg x 0∧lo x / 65536 % 65536=dg x 1∧lo x / 4294967296 % 65536=dg x 2∧lo x / 281474976710656 % 65536=dg x 3:=by
 rw [dg0,dg1,dg2,dg3]; unfold lo
 refine ⟨?_, ?_, ?_, ?_⟩ <;> omega
theorem div_u {x k:Int} (h:U64 x) (hk:1≤k):U64 (x / k):=by
 refine ⟨Int.ediv_nonneg h.1 (by omega), ?_⟩
 have:=Int.ediv_le_self k h.1
 have:=h.2
 omega
set_option maxHeartbeats 1000000 in
theorem Below_c (d:Nat→Int) (h0:0≤d 9) (h1:d 9≤65535) (w:World) :
 Calls Tryz.prog 113 #[longA d] w fun e w'=>e=.returned (.bool (decide (32768≤d 9)))∧Ext w w':=by
 unfold longA
 go_enter Tryz.func113,Tryz.ntmps113
 go_wp2
 go_ret
 exact ⟨rfl,by (repeat' (first | exact Ext.refl _ | assumption | apply Ext.allocR | apply Ext.drewR | apply Ext.drewNR | (refine Ext.trans' ?_ (by assumption))))⟩
end Go.Proofs.YtmalncfcgcebhaaGreatDoor
namespace Go.Proofs.YtmalncfcgcebhaaGreatDoor
set_option linter.unusedVariables false
open Go.Proofs Go.RowKit
def absZ (x:Int):Int:=if x < 0 then -x else x
theorem xor_max {a:Int} (h0:0≤a) (h1:a < 18446744073709551616):bits BinOp.xor IntKind.u64 IntKind.u64.max a=18446744073709551615 - a:=by
 obtain ⟨n,rfl⟩:=Int.eq_ofNat_of_zero_le h0
 show IntKind.u64.wrap ((BitVec.ofInt 64 IntKind.u64.max ^^^ BitVec.ofInt 64 (n:Int)).toNat:Int)=_
 rw [show BitVec.ofInt 64 IntKind.u64.max=BitVec.allOnes 64 from by decide,BitVec.allOnes_xor,BitVec.toNat_not,BitVec.ofInt_natCast,BitVec.toNat_ofNat,Nat.mod_eq_of_lt (a:=n) (by omega),IntKind.wrap_u64]
 omega
set_option maxRecDepth 20000 in
set_option maxHeartbeats 2000000 in
theorem WSize_c (x:Int) (hx:W128 x) (w:World) :
 Calls Tryz.prog 142 #[.agg #[.int .i64 (hi x),.int .u64 (lo x)]] w fun e w'=>e=.returned (.tuple #[.int .u64 (absZ x / 18446744073709551616),.int .u64 (absZ x % 18446744073709551616)])∧Ext w w':=by
 have e1:=u64_wrap (hi x)
 have hhx:=hi_neg x
 have hlo:=lo_u x
 obtain ⟨l1,l2⟩:=hlo
 have huu:=uu_u (hi x)
 obtain ⟨u1,u2⟩:=huu
 have hb:=heap_at w (.cells #[.int .i64 (hi x),.int .u64 (lo x)] 194) rfl
 have hx1:=Ext.alloc' w (.cells #[.int .i64 (hi x),.int .u64 (lo x)] 194)
 have q1:0≤x→uu (hi x)=x / 18446744073709551616∧lo x=x % 18446744073709551616:=by
  intro h; unfold uu hi lo; unfold W128 at hx; omega
 have q2:x < 0→(lo x=0→(18446744073709551615 - uu (hi x))+1=-x / 18446744073709551616∧0=-x % 18446744073709551616)∧(lo x≠0→18446744073709551615 - uu (hi x)=-x / 18446744073709551616∧18446744073709551616 - lo x=-x % 18446744073709551616):=by
  intro h; unfold uu hi lo; unfold W128 at hx; omega
 have Q1:=Lib.hid q1
 have Q2:=Lib.hid q2
 have HX:=Lib.hid hx
 clear q1 q2 hx
 go_enter Tryz.func142,Tryz.ntmps142
 go_wp2_with fail
 obtain ⟨W1,hW1⟩:∃ W1,w.alloc (.cells #[.int .i64 (hi x),.int .u64 (lo x)] 194)=W1:=⟨_,rfl⟩
 rw [hW1] at hb hx1 ⊢
 have b0:=(cell_of hb 0).trans rfl
 have b1:=(cell_of hb 1).trans rfl
 have bl:=lt_of hb
 have HX1:=Lib.hid hx1
 clear hb hx1 hW1
 have hC0:=af_drew W1
 refine pi_start (fun w'=>∃ x:After W1,w'=x.w) [] (by kernel_rfl) ?_
 refine pi_t 0 rfl (by kernel_rfl) (by kernel_rfl) (fun _ _ _ _ h=>h) (fun K hK=>?_)
 go_big_quiet_op
 refine hK _ ?_
 clear hK K
 refine pi_t 3 rfl (by kernel_rfl) (by kernel_rfl) (fun _ _ _ _ h=>h) (fun K hK=>?_)
 go_big_quiet_op
 refine hK _ ?_
 clear hK K
 refine pi_c 1 (by assumption) rfl (by kernel_rfl) (by kernel_rfl) (fun _ _ _ _ h=>h) (fun K hK=>?_)
 go_big_quiet_op
 refine hK _ ?_
 clear hK K
 refine pi_t 2 rfl (by kernel_rfl) (by kernel_rfl) (fun _ _ _ _ h=>h) (fun K hK=>?_)
 go_big_quiet_op
 refine hK _ ?_
 clear hK K
 refine pi_t 5 rfl (by kernel_rfl) (by kernel_rfl) (fun _ _ _ _ h=>h) (fun K hK=>?_)
 go_big_quiet_op
 refine hK _ ?_
 clear hK K
 refine pi_c 4 (by assumption) rfl (by kernel_rfl) (by kernel_rfl) (fun _ _ _ _ h=>h) (fun K hK=>?_)
 go_big_quiet_op
 refine hK _ ?_
 clear hK K
 refine pi_t 6 rfl (by kernel_rfl) (by kernel_rfl) (fun _ _ _ _ h=>h) (fun K hK=>?_)
 go_big_quiet_op
 refine hK _ ?_
 clear hK K
 refine pi_end (by kernel_rfl) ?_
 have hxo:=xor_max u1 u2
 have hab:Hid (absZ x=if x < 0 then -x else x):=Lib.hid rfl
 by_cases hn:x < 0
 · by_cases h0:lo x=0
   · have H:=Lib.hid ((Q2.out hn).1 h0)
     have hz:IntKind.u64.wrap (-lo x)=0:=by rw [h0]; decide
     have hw:IntKind.u64.wrap (18446744073709551615 - uu (hi x)+1)=18446744073709551615 - uu (hi x)+1:=by
      rw [IntKind.wrap_u64]
      have h2:=H.out.1
      have h3:-x / 18446744073709551616 < 18446744073709551616:=by have:=HX.out; unfold W128 at this; omega
      omega
     clear h0 l1 l2
     go_wp2
     go_ret2
     rw [hab.out,if_pos hn,← H.out.1,← H.out.2]
     exact ⟨rfl,HX1.out.drewR⟩
   · have H:=Lib.hid ((Q2.out hn).2 h0)
     have hz:IntKind.u64.wrap (-lo x)=18446744073709551616 - lo x:=by rw [IntKind.wrap_u64]; omega
     have hne:(18446744073709551616 - lo x == 0)=false:=by rw [beq_eq_false_iff_ne]; omega
     clear h0 l1 l2
     go_wp2
     go_ret2
     rw [hab.out,if_pos hn,← H.out.1,← H.out.2]
     exact ⟨rfl,HX1.out.drewR⟩
 · have H:=Lib.hid (Q1.out (by omega))
   go_wp2
   go_ret2
   rw [hab.out,if_neg (by omega),← H.out.1,← H.out.2]
   exact ⟨rfl,HX1.out.drewR⟩
end Go.Proofs.YtmalncfcgcebhaaGreatDoor
namespace Go.Proofs.YtmalncfcgcebhaaGreatDoor
set_option linter.unusedVariables false
open Go.Proofs Go.RowKit Go.Shelf
set_option maxRecDepth 20000 in
set_option maxHeartbeats 4000000 in
theorem Div10_0 (lw:Int) (h0:0≤lw) (h1:lw < 18446744073709551616) (w:World) :
 Calls Tryz.prog 143 #[.int .u64 0,.int .u64 lw,.int .u64 10] w fun e w'=>e=.returned (.tuple #[.int .u64 (lw / 10),.int .u64 (lw % 10)])∧Ext w w':=by
 go_enter Tryz.func143,Tryz.ntmps143
 go_wp2_with fail
 refine pi_start (fun w'=>∃ x:After w,w'=x.w) [] (by kernel_rfl) ?_
 refine pi_t 0 rfl (by kernel_rfl) (by kernel_rfl) (fun _ _ _ _ h=>h) (fun K hK=>?_)
 go_big_quiet_op
 refine hK _ ?_
 clear hK K
 refine pi_t 1 rfl (by kernel_rfl) (by kernel_rfl) (fun _ _ _ _ h=>h) (fun K hK=>?_)
 go_big_quiet_op
 refine hK _ ?_
 clear hK K
 refine pi_t 2 rfl (by kernel_rfl) (by kernel_rfl) (fun _ _ _ _ h=>h) (fun K hK=>?_)
 go_big_quiet_op
 refine hK _ ?_
 clear hK K
 refine pi_t 3 rfl (by kernel_rfl) (by kernel_rfl) (fun _ _ _ _ h=>h) (fun K hK=>?_)
 go_big_quiet_op
 refine hK _ ?_
 clear hK K
 refine pi_t 4 rfl (by kernel_rfl) (by kernel_rfl) (fun _ _ _ _ h=>h) (fun K hK=>?_)
 go_big_quiet_op
 refine hK _ ?_
 clear hK K
 refine pi_t 5 rfl (by kernel_rfl) (by kernel_rfl) (fun _ _ _ _ h=>h) (fun K hK=>?_)
 go_big_quiet_op
 refine hK _ ?_
 clear hK K
 refine pi_t 6 rfl (by kernel_rfl) (by kernel_rfl) (fun _ _ _ _ h=>h) (fun K hK=>?_)
 go_big_quiet_op
 refine hK _ ?_
 clear hK K
 refine pi_t 7 rfl (by kernel_rfl) (by kernel_rfl) (fun _ _ _ _ h=>h) (fun K hK=>?_)
 go_big_quiet_op
 refine hK _ ?_
 clear hK K
 refine pi_end (by kernel_rfl) ?_
 go_wp2
 go_ret2
 exact ⟨rfl,Below.drew (Ext.refl w)⟩
theorem LZ10 (w:World):Calls Tryz.prog 186 #[.int .u64 10] w fun e w'=>e=.returned (.int .i64 60)∧w'=w:=by
 have HL:=fun W=>Lib.hid (Any.bits_Len64 { Tryz.itoaL with } 10 W (by decide) (by decide))
 have hb:((Lib.bitLen (Int.toNat 10):Nat):Int)=4:=by decide
 rw [hb] at HL
 go_enter Tryz.func186,Tryz.ntmps186
 go_wp2_with fail
 refine Calls.mono (HL _).out ?_
 rintro e w1 ⟨rfl,rfl⟩
 go_wp2
 go_ret
 exact ⟨rfl,rfl⟩
theorem wru (x:Int):IntKind.u64.wrap x=x % 18446744073709551616:=IntKind.wrap_u64 x
structure D10 (hw lw U V n1 q1 m1 r1 A1 A2 A3 D q0 m2 r0 B1 Q C1 C2 E:Int):Prop where
 f1:bits BinOp.or IntKind.u64 (hw*1152921504606846976) (lw / 16)=U
 f2:IntKind.u64.wrap (lw*1152921504606846976)=V
 f3:V / 4294967296=n1
 f4:bits BinOp.and IntKind.u64 V 4294967295=0
 f5:IntKind.u64.wrap (U.tdiv 2684354560)=q1
 f6:IntKind.u64.wrap (q1*2684354560)=m1
 f7:IntKind.u64.wrap (U - m1)=r1
 f8:IntKind.u64.wrap (U*4294967296)=A1
 f9:IntKind.u64.wrap (A1+n1)=A2
 f10:IntKind.u64.wrap (q1*11529215046068469760)=A3
 f11:IntKind.u64.wrap (A2 - A3)=D
 f12:IntKind.u64.wrap (D.tdiv 2684354560)=q0
 f13:IntKind.u64.wrap (q0*2684354560)=m2
 f14:IntKind.u64.wrap (D - m2)=r0
 f15:IntKind.u64.wrap (q1*4294967296)=B1
 f16:IntKind.u64.wrap (B1+q0)=Q
 f17:IntKind.u64.wrap (D*4294967296)=C1
 f19:IntKind.u64.wrap (q0*11529215046068469760)=C2
 f20:IntKind.u64.wrap (C1 - C2)=E
 b1:0≤q1∧q1 < 4294967296
 b2:0≤q0∧q0 < 4294967296
 b3:0≤r1∧r1 < 2684354560
 b4:0≤r0∧r0 < 2684354560
 b5:0≤n1∧n1 < 4294967296
 b6:0≤U∧U < 18446744073709551616
 b7:0≤C1∧C1 < 18446744073709551616
 b8:0≤E∧E < 18446744073709551616
 b9:0≤V∧V < 18446744073709551616
 b10:0≤D∧D < 18446744073709551616
 hq:Q=(hw*18446744073709551616+lw) / 10
 he:E / 1152921504606846976=(hw*18446744073709551616+lw) % 10
theorem d10 {hw lw:Int} (g0:1≤hw) (g1:hw≤9) (h0:0≤lw) (h1:lw < 18446744073709551616):∃ U V n1 q1 m1 r1 A1 A2 A3 D q0 m2 r0 B1 Q C1 C2 E,D10 hw lw U V n1 q1 m1 r1 A1 A2 A3 D q0 m2 r0 B1 Q C1 C2 E:=by
 obtain ⟨a,ha⟩:∃ a,a=lw / 16:=⟨_,rfl⟩
 obtain ⟨c,hc⟩:∃ c,c=lw % 16:=⟨_,rfl⟩
 have hlw:lw=a*16+c:=by omega
 have ha1:0≤a∧a < 1152921504606846976:=by omega
 have hc1:0≤c∧c < 16:=by omega
 obtain ⟨U,hU⟩:∃ U,U=hw*1152921504606846976+a:=⟨_,rfl⟩
 obtain ⟨q1,hq1⟩:∃ q1,q1=U / 2684354560:=⟨_,rfl⟩
 obtain ⟨r1,hr1⟩:∃ r1,r1=U % 2684354560:=⟨_,rfl⟩
 have hUq:U=q1*2684354560+r1:=by omega
 have hU1:0≤U∧U < 11529215046068469760:=by omega
 have hq1b:0≤q1∧q1 < 4294967296:=by omega
 have hr1b:0≤r1∧r1 < 2684354560:=by omega
 obtain ⟨n1,hn1⟩:∃ n1,n1=c*268435456:=⟨_,rfl⟩
 have hn1b:0≤n1∧n1 < 4294967296:=by omega
 obtain ⟨D,hD⟩:∃ D,D=r1*4294967296+n1:=⟨_,rfl⟩
 have hDb:0≤D∧D < 11529215046068469760:=by omega
 obtain ⟨q0,hq0⟩:∃ q0,q0=D / 2684354560:=⟨_,rfl⟩
 obtain ⟨r0,hr0⟩:∃ r0,r0=D % 2684354560:=⟨_,rfl⟩
 have hDq:D=q0*2684354560+r0:=by omega
 have hq0b:0≤q0∧q0 < 4294967296:=by omega
 have hr0b:0≤r0∧r0 < 2684354560:=by omega
 have hor:bits BinOp.or IntKind.u64 (hw*1152921504606846976) (lw / 16)=U:=by
  rw [hU,ha]
  exact or_add (hw*1152921504606846976) (lw / 16) 60 (by decide) (by omega) (by omega) ⟨hw,by rw [Int.mul_comm]; rfl⟩ (by omega) (by show lw / 16 < 1152921504606846976; omega)
 have hN:hw*18446744073709551616+lw=(q1*4294967296+q0)*10+r0 / 268435456:=by omega
 refine ⟨U,c*1152921504606846976,n1,q1,q1*2684354560,r1,U*4294967296 % 18446744073709551616,(U*4294967296 % 18446744073709551616+n1) % 18446744073709551616,q1*11529215046068469760 % 18446744073709551616,D,q0,q0*2684354560,r0,q1*4294967296,q1*4294967296+q0,D*4294967296 % 18446744073709551616,q0*11529215046068469760 % 18446744073709551616,r0*4294967296, ?_⟩
 refine ⟨hor, ?_, ?_, ?_, ?_, ?_, ?_,wru _,wru _,wru _, ?_, ?_, ?_, ?_, ?_, ?_,wru _,wru _, ?_,hq1b,hq0b,hr1b,hr0b,hn1b, ?_, ?_, ?_, ?_, ?_, ?_, ?_⟩
 · rw [wru]; omega
 · omega
 · rw [show (4294967295:Int)=((2 ^ 32 - 1:Nat):Int) from rfl,and_mask _ 32 (by decide) (by omega) (by omega)]
   show c*1152921504606846976 % 4294967296=0
   omega
 · rw [Int.tdiv_eq_ediv_of_nonneg hU1.1,wru]; omega
 · rw [wru]; omega
 · rw [wru]; omega
 · rw [wru]; omega
 · rw [Int.tdiv_eq_ediv_of_nonneg hDb.1,wru]; omega
 · rw [wru]; omega
 · rw [wru]; omega
 · rw [wru]; omega
 · rw [wru]; omega
 · rw [wru]; omega
 · omega
 · omega
 · omega
 · omega
 · omega
 · omega
 · omega
set_option maxRecDepth 20000 in
set_option maxHeartbeats 4000000 in
theorem Div10_1 (hw lw:Int) (g0:1≤hw) (g1:hw≤9) (h0:0≤lw) (h1:lw < 18446744073709551616) (w:World) :
 Calls Tryz.prog 143 #[.int .u64 hw,.int .u64 lw,.int .u64 10] w fun e w'=>e=.returned (.tuple #[.int .u64 ((hw*18446744073709551616+lw) / 10),.int .u64 ((hw*18446744073709551616+lw) % 10)])∧Ext w w':=by
 obtain ⟨U,V,n1,q1,m1,r1,A1,A2,A3,D,q0,m2,r0,B1,Q,C1,C2,E,hd⟩:=d10 g0 g1 h0 h1
 obtain ⟨f1,f2,f3,f4,f5,f6,f7,f8,f9,f10,f11,f12,f13,f14,f15,f16,f17,f19,f20,b1,b2,b3,b4,b5,b6,b7,b8,b9,b10,hq,he⟩:=hd
 rw [← hq,← he]
 have ha:bits BinOp.and IntKind.u64 11529215046068469760 4294967295=0:=by decide
 clear hq he
 go_enter Tryz.func143,Tryz.ntmps143
 go_wp2_with fail
 refine Calls.mono (LZ10 _) ?_
 rintro e w1 ⟨rfl,rfl⟩
 go_wp2_with fail
 refine wp_loop_rounds 1 ?_
 rw [rounds_succ]
 go_wp2_with fail
 refine wp_loop_rounds 1 ?_
 rw [rounds_succ]
 go_wp2
 go_ret2
 exact ⟨rfl,Ext.refl _⟩
end Go.Proofs.YtmalncfcgcebhaaGreatDoor
namespace Go.Proofs.YtmalncfcgcebhaaGreatDoor
set_option linter.unusedVariables false
open Go.RowKit
theorem uu_dg (n:Int):uu n % 65536=dg n 0∧uu n / 65536 % 65536=dg n 1∧uu n / 4294967296 % 65536=dg n 2∧uu n / 281474976710656 % 65536=dg n 3:=hid_lo n
theorem hi_dg (n:Int) (h:I64 n):∀ i,4≤i→i < 10→dg n i=(bif decide (n < 0) then 65535 else 0):=by
 intro i h1 h2
 unfold I64 at h
 have hc:i=4∨i=5∨i=6∨i=7∨i=8∨i=9:=by omega
 by_cases hx:n < 0 <;> simp only [hx,decide_true,decide_false,cond_true,cond_false] <;> rcases hc with rfl | rfl | rfl | rfl | rfl | rfl
 all_goals first | rw [dg4] | rw [dg5] | rw [dg6] | rw [dg7] | rw [dg8] | rw [dg9]
 all_goals omega
set_option maxRecDepth 20000 in
set_option maxHeartbeats 4000000 in
theorem OfInt_core (n:Int) (b:Bool) (hb:decide (n < 0)=b) (hd:∀ i,4≤i→i < 10→dg n i=(bif b then 65535 else 0)) (w:World) :
 Calls Tryz.prog 76 #[.int .i64 n] w fun e w'=>e=.returned (longV n)∧Ext w w':=by
 obtain ⟨y1,y2⟩:=uu_u n
 have e1:=u64_wrap n
 obtain ⟨g0,g1,g2,g3⟩:=uu_dg n
 have a4:=(wa16 (uu n) (uu_u _)).trans g0
 have a5:=(wa16 (uu n / 65536) (div_u (uu_u _) (by decide))).trans g1
 have a6:=(wa16 (uu n / 4294967296) (div_u (uu_u _) (by decide))).trans g2
 have a7:=(wa16 (uu n / 281474976710656) (div_u (uu_u _) (by decide))).trans g3
 have HD:=Lib.hid hd
 clear hd g0 g1 g2 g3
 cases b
 all_goals
  go_enter Tryz.func76,Tryz.ntmps76
  go_wp2
  refine wp_loop_rounds 11 ?_
  iterate 10
   rw [rounds_succ]
   go_wp2_with fail
  rw [rounds_succ]
  go_wp2_with fail
  refine bodyPost_ret (v:=longV n) ?_ rfl ⟨rfl,by (repeat' (first | exact Ext.refl _ | assumption | apply Ext.allocR | apply Ext.drewR | apply Ext.drewNR | (refine Ext.trans' ?_ (by assumption))))⟩
  unfold longV longA
  rw [HD.out 4 (by decide) (by decide),HD.out 5 (by decide) (by decide),HD.out 6 (by decide) (by decide),HD.out 7 (by decide) (by decide),HD.out 8 (by decide) (by decide),HD.out 9 (by decide) (by decide)]
  simp [results,Tryz.results76,go_sem]
theorem OfInt_c (n:Int) (h:I64 n) (w:World) :
 Calls Tryz.prog 76 #[.int .i64 n] w fun e w'=>e=.returned (longV n)∧Ext w w':=OfInt_core n _ rfl (hi_dg n h) w
end Go.Proofs.YtmalncfcgcebhaaGreatDoor
namespace Go.Proofs.YtmalncfcgcebhaaGreatDoor
set_option linter.unusedVariables false
open Go.RowKit
theorem fill10 (s:Nat→Int):fillA s 10 10=#[.int .i64 (s 0),.int .i64 (s 1),.int .i64 (s 2),.int .i64 (s 3),.int .i64 (s 4),.int .i64 (s 5),.int .i64 (s 6),.int .i64 (s 7),.int .i64 (s 8),.int .i64 (s 9)]:=by
 apply Array.ext
 · simp [fillA]
 · intro i h1 h2
   have hi:i < 10:=by simpa [fillA] using h1
   have hc:i=0∨i=1∨i=2∨i=3∨i=4∨i=5∨i=6∨i=7∨i=8∨i=9:=by omega
   rcases hc with rfl | rfl | rfl | rfl | rfl | rfl | rfl | rfl | rfl | rfl <;> simp [fillA]
set_option maxRecDepth 20000 in
set_option maxHeartbeats 8000000 in
theorem Plus_core (a b s c:Nat→Int) (ha:∀ i,i < 10→0≤a i∧a i≤65535) (hb:∀ i,i < 10→0≤b i∧b i≤65535) (hc:∀ i,i < 10→0≤c i∧c i≤1) (h0:c 0=0)
 (hs:∀ i,i < 10→(a i+b i+c i) % 65536=s i) (hn:∀ i,i < 10→(a i+b i+c i) / 65536=c (i+1)) (w:World) :
 Calls Tryz.prog 158 #[longA a,longA b] w fun e w'=>e=.returned (longA s)∧Ext w w':=by
 obtain ⟨a0l,a0h⟩:=ha 0 (by decide)
 obtain ⟨b0l,b0h⟩:=hb 0 (by decide)
 obtain ⟨c0l,c0h⟩:=hc 0 (by decide)
 have s0:=hs 0 (by decide)
 have n0:=hn 0 (by decide)
 obtain ⟨a1l,a1h⟩:=ha 1 (by decide)
 obtain ⟨b1l,b1h⟩:=hb 1 (by decide)
 obtain ⟨c1l,c1h⟩:=hc 1 (by decide)
 have s1:=hs 1 (by decide)
 have n1:=hn 1 (by decide)
 obtain ⟨a2l,a2h⟩:=ha 2 (by decide)
 obtain ⟨b2l,b2h⟩:=hb 2 (by decide)
 obtain ⟨c2l,c2h⟩:=hc 2 (by decide)
 have s2:=hs 2 (by decide)
 have n2:=hn 2 (by decide)
 obtain ⟨a3l,a3h⟩:=ha 3 (by decide)
 obtain ⟨b3l,b3h⟩:=hb 3 (by decide)
 obtain ⟨c3l,c3h⟩:=hc 3 (by decide)
 have s3:=hs 3 (by decide)
 have n3:=hn 3 (by decide)
 obtain ⟨a4l,a4h⟩:=ha 4 (by decide)
 obtain ⟨b4l,b4h⟩:=hb 4 (by decide)
 obtain ⟨c4l,c4h⟩:=hc 4 (by decide)
 have s4:=hs 4 (by decide)
 have n4:=hn 4 (by decide)
 obtain ⟨a5l,a5h⟩:=ha 5 (by decide)
 obtain ⟨b5l,b5h⟩:=hb 5 (by decide)
 obtain ⟨c5l,c5h⟩:=hc 5 (by decide)
 have s5:=hs 5 (by decide)
 have n5:=hn 5 (by decide)
 obtain ⟨a6l,a6h⟩:=ha 6 (by decide)
 obtain ⟨b6l,b6h⟩:=hb 6 (by decide)
 obtain ⟨c6l,c6h⟩:=hc 6 (by decide)
 have s6:=hs 6 (by decide)
 have n6:=hn 6 (by decide)
 obtain ⟨a7l,a7h⟩:=ha 7 (by decide)
 obtain ⟨b7l,b7h⟩:=hb 7 (by decide)
 obtain ⟨c7l,c7h⟩:=hc 7 (by decide)
 have s7:=hs 7 (by decide)
 have n7:=hn 7 (by decide)
 obtain ⟨a8l,a8h⟩:=ha 8 (by decide)
 obtain ⟨b8l,b8h⟩:=hb 8 (by decide)
 obtain ⟨c8l,c8h⟩:=hc 8 (by decide)
 have s8:=hs 8 (by decide)
 have n8:=hn 8 (by decide)
 obtain ⟨a9l,a9h⟩:=ha 9 (by decide)
 obtain ⟨b9l,b9h⟩:=hb 9 (by decide)
 obtain ⟨c9l,c9h⟩:=hc 9 (by decide)
 have s9:=hs 9 (by decide)
 have n9:=hn 9 (by decide)
 rw [h0,Int.add_zero] at s0 n0
 simp only [Nat.reduceAdd] at n0 n1 n2 n3 n4 n5 n6 n7 n8 n9
 unfold longA
 clear ha hb hc hs hn h0 c0l c0h
 generalize a 0=A0 at *
 generalize b 0=B0 at *
 generalize s 0=S0 at *
 generalize a 1=A1 at *
 generalize b 1=B1 at *
 generalize s 1=S1 at *
 generalize a 2=A2 at *
 generalize b 2=B2 at *
 generalize s 2=S2 at *
 generalize a 3=A3 at *
 generalize b 3=B3 at *
 generalize s 3=S3 at *
 generalize a 4=A4 at *
 generalize b 4=B4 at *
 generalize s 4=S4 at *
 generalize a 5=A5 at *
 generalize b 5=B5 at *
 generalize s 5=S5 at *
 generalize a 6=A6 at *
 generalize b 6=B6 at *
 generalize s 6=S6 at *
 generalize a 7=A7 at *
 generalize b 7=B7 at *
 generalize s 7=S7 at *
 generalize a 8=A8 at *
 generalize b 8=B8 at *
 generalize s 8=S8 at *
 generalize a 9=A9 at *
 generalize b 9=B9 at *
 generalize s 9=S9 at *
 generalize c 1=C1 at *
 generalize c 2=C2 at *
 generalize c 3=C3 at *
 generalize c 4=C4 at *
 generalize c 5=C5 at *
 generalize c 6=C6 at *
 generalize c 7=C7 at *
 generalize c 8=C8 at *
 generalize c 9=C9 at *
 generalize c 10=C10 at *
 go_enter Tryz.func158,Tryz.ntmps158
 go_wp2_with fail
 refine wp_loop_rounds 11 ?_
 iterate 10
  rw [rounds_succ]
  go_wp2_with fail
  go_region
  go_wp2_with fail
 rw [rounds_succ]
 go_wp2_with fail
 refine bodyPost_ret (v:=.agg #[.int .i64 S0,.int .i64 S1,.int .i64 S2,.int .i64 S3,.int .i64 S4,.int .i64 S5,.int .i64 S6,.int .i64 S7,.int .i64 S8,.int .i64 S9]) ?_ rfl ⟨rfl,by (repeat' (first | exact Ext.refl _ | assumption | apply Ext.allocR | apply Ext.drewR | apply Ext.drewNR | (refine Ext.trans' ?_ (by assumption))))⟩
 simp [results,Tryz.results158,go_sem]
def cr (x y:Int) (i:Nat):Int:=(x % (65536 ^ i:Int)+y % (65536 ^ i:Int)) / (65536 ^ i:Int)
theorem pw_pos (i:Nat):0 < (65536 ^ i:Int):=Int.pow_pos (by decide)
theorem cr_bd (x y:Int) (i:Nat):0≤cr x y i∧cr x y i≤1:=by
 have hp:=pw_pos i
 unfold cr
 generalize (65536 ^ i:Int)=M at *
 have h1:=Int.emod_nonneg x (show M≠0 by omega)
 have h2:=Int.emod_lt_of_pos x hp
 have h3:=Int.emod_nonneg y (show M≠0 by omega)
 have h4:=Int.emod_lt_of_pos y hp
 refine ⟨Int.ediv_nonneg (by omega) (by omega), ?_⟩
 have:(x % M+y % M) / M < 2:=Int.ediv_lt_of_lt_mul hp (by omega)
 omega
theorem mod_mul' (x M:Int) (hM:0 < M):x % (M*65536)=x % M+M*(x / M % 65536):=by
 have h1:=Int.emod_add_mul_ediv x M
 have h2:=Int.emod_add_mul_ediv (x / M) 65536
 have h3:x / M / 65536=x / (M*65536):=by rw [Int.ediv_ediv_of_nonneg (by omega)]
 have h4:=Int.emod_add_mul_ediv x (M*65536)
 rw [← h3] at h4
 have h5:M*65536*(x / M / 65536)=M*(65536*(x / M / 65536)):=Int.mul_assoc _ _ _
 have h6:M*(x / M)=M*(x / M % 65536)+M*(65536*(x / M / 65536)):=by rw [← Int.mul_add,h2]
 omega
theorem plus_step (x y:Int) (i:Nat):(dg x i+dg y i+cr x y i) % 65536=dg (x+y) i∧(dg x i+dg y i+cr x y i) / 65536=cr x y (i+1):=by
 have hp:=pw_pos i
 unfold dg cr
 rw [Int.pow_succ]
 generalize (65536 ^ i:Int)=M at *
 rw [mod_mul' x M hp,mod_mul' y M hp]
 have ex:=Int.emod_add_mul_ediv x M
 have ey:=Int.emod_add_mul_ediv y M
 have hd:x+y=(x % M+y % M)+M*(x / M+y / M):=by rw [Int.mul_add]; omega
 constructor
 · rw [hd,Int.add_mul_ediv_left _ _ (show M≠0 by omega)]
   generalize (x % M+y % M) / M=c
   omega
 · have e1:x % M+M*(x / M % 65536)+(y % M+M*(y / M % 65536))=(x % M+y % M)+M*(x / M % 65536+y / M % 65536):=by rw [Int.mul_add]; omega
   rw [e1,← Int.ediv_ediv_of_nonneg (by omega),Int.add_mul_ediv_left _ _ (show M≠0 by omega)]
   congr 1
   omega
theorem cr0 (x y:Int):cr x y 0=0:=by
 unfold cr
 rw [show ((65536:Int) ^ 0)=1 from rfl]
 omega
theorem LPlus_c (x y:Int) (w:World):Calls Tryz.prog 158 #[longV x,longV y] w fun e w'=>e=.returned (longV (x+y))∧Ext w w' :=
 Plus_core (dg x) (dg y) (dg (x+y)) (cr x y) (fun i _=>dg_bd x i) (fun i _=>dg_bd y i) (fun i _=>cr_bd x y i) (cr0 x y) (fun i _=>(plus_step x y i).1) (fun i _=>(plus_step x y i).2) w
end Go.Proofs.YtmalncfcgcebhaaGreatDoor
namespace Go.Proofs.YtmalncfcgcebhaaGreatDoor
set_option linter.unusedVariables false
open Go.RowKit
def rt (y:Int) (i:Nat):Int:=y / (65536 ^ i:Int) % 10
theorem rt_bd (y:Int) (i:Nat):0≤rt y i∧rt y i≤9:=by unfold rt; omega
theorem pwL_succ (i:Nat):(65536 ^ (i+1):Int)=65536 ^ i*65536:=Int.pow_succ _ _
theorem dv_ten (y:Int) (i:Nat):y / 10 / (65536 ^ i:Int)=y / (65536 ^ i:Int) / 10:=by
 rw [Int.ediv_ediv_of_nonneg (by decide),Int.ediv_ediv_of_nonneg (by have:=pw_pos i; omega),Int.mul_comm]
theorem ten_step (y:Int) (i:Nat):(rt y (i+1)*65536+dg y i) / 10=dg (y / 10) i∧(rt y (i+1)*65536+dg y i) % 10=rt y i:=by
 unfold rt dg
 rw [pwL_succ,← Int.ediv_ediv_of_nonneg (by have:=pw_pos i; omega),dv_ten]
 generalize y / (65536 ^ i:Int)=q
 omega
theorem rt_top (y:Int) (h0:0≤y) (h1:y < 1461501637330902918203684832716283019655932542976):rt y 10=0:=by
 unfold rt
 rw [Int.ediv_eq_zero_of_lt h0 (by have:(65536 ^ 10:Int)=1461501637330902918203684832716283019655932542976:=by decide
                                   omega)]
 rfl
theorem rt_zero (y:Int):rt y 0=y % 10:=by unfold rt; rw [show (65536:Int) ^ 0=1 from rfl]; omega
theorem dv_succ (y:Int) (i:Nat):y / (65536 ^ (i+1):Int)=y / (65536 ^ i:Int) / 65536:=by
 rw [pwL_succ,← Int.ediv_ediv_of_nonneg (by have:=pw_pos i; omega)]
theorem dg_rest (y:Int):∀ n,(∀ i,i < n→dg y i=0)→y=65536 ^ n*(y / (65536 ^ n:Int)):=by
 intro n
 induction n with
 | zero=>intro _; rw [show (65536:Int) ^ 0=1 from rfl]; omega
 | succ n ih =>
   intro h
   have h1:=ih fun i hi=>h i (by omega)
   have h2:=h n (by omega)
   unfold dg at h2
   rw [dv_succ,pwL_succ,Int.mul_assoc]
   generalize y / (65536 ^ n:Int)=q at *
   have:65536*(q / 65536)=q:=by omega
   rw [this]
   exact h1
theorem dg_zero (y:Int) (h0:0≤y) (h1:y < 1461501637330902918203684832716283019655932542976) (h:∀ i,i < 10→dg y i=0):y=0:=by
 have h2:=dg_rest y 10 h
 rw [Int.ediv_eq_zero_of_lt h0 (by have:(65536 ^ 10:Int)=1461501637330902918203684832716283019655932542976:=by decide
                                   omega)] at h2
 rw [h2,Int.mul_zero]
theorem dg_of_zero (i:Nat):dg 0 i=0:=by unfold dg; simp
theorem dec_step {y:Nat} (s:List UInt8):Lib.decDigits (y / 10)++(UInt8.ofNat (48+y % 10) :: s)=(if y < 10 then [48] else [])++(Lib.decDigits y++s):=by
 by_cases h:y < 10
 · rw [if_pos h]
   have e:y / 10=0:=by omega
   rw [e,Lib.decDigits,dif_pos (by decide),Lib.decDigits,dif_pos h,Nat.mod_eq_of_lt h]
   rfl
 · rw [if_neg h]
   conv=>rhs; rw [Lib.decDigits,dif_neg h]
   simp
end Go.Proofs.YtmalncfcgcebhaaGreatDoor
namespace Go.Proofs.YtmalncfcgcebhaaGreatDoor
set_option linter.unusedVariables false
open Go.Proofs Go.RowKit
def mixT (y:Int) (k:Nat):Array Value:=Array.ofFn fun j:Fin 10=>.int .i64 (if j.val < k then dg y j.val else dg (y / 10) j.val)
theorem mixT_at (y:Int) (k i:Nat) (h:i < 10):(mixT y k)[i]?=some (.int .i64 (if i < k then dg y i else dg (y / 10) i)):=by simp [mixT,h]
theorem mixT_set (y:Int) (k:Nat) (h:k < 10):(mixT y (k+1)).setIfInBounds k (.int .i64 (dg (y / 10) k))=mixT y k:=by
 apply Array.ext
 · simp [mixT]
 · intro i h1 h2
   simp only [mixT,Array.size_setIfInBounds,Array.size_ofFn] at h1 h2
   rw [Array.getElem_setIfInBounds (by simpa [mixT] using h1)]
   simp only [mixT,Array.getElem_ofFn]
   by_cases e:k=i
   · subst e; simp
   · rw [if_neg e]
     by_cases h:i < k
     · rw [if_pos (by omega),if_pos h]
     · rw [if_neg (by omega),if_neg h]
theorem mixT_top (y:Int):mixT y 10=fillA (dg y) 10 10:=by
 apply Array.ext
 · simp [mixT,fillA]
 · intro i h1 h2
   simp only [mixT,Array.size_ofFn] at h1
   simp [mixT,fillA]
theorem mixT_end (y:Int):mixT y 0=mixT (y / 10) 10:=by
 apply Array.ext
 · simp [mixT]
 · intro i h1 h2
   simp only [mixT,Array.size_ofFn] at h1
   simp [mixT]
def zeroT (y:Int) (k:Nat):Bool:=(List.range 10).all fun j=>decide (j < k) || (dg (y / 10) j == 0)
theorem zeroT_iff (y:Int) (k:Nat):zeroT y k=true ↔ ∀ j,k≤j→j < 10→dg (y / 10) j=0:=by
 unfold zeroT
 simp only [List.all_eq_true,List.mem_range,Bool.or_eq_true,decide_eq_true_eq,beq_iff_eq]
 exact ⟨fun h j h1 h2=>(h j h2).resolve_left (by omega),fun h j h2=>(Nat.lt_or_ge j k).imp id fun h1=>h j h1 h2⟩
theorem zeroT_top (y:Int):zeroT y 10=true:=(zeroT_iff y 10).2 (fun j h1 h2=>by omega)
theorem zeroT_step (y:Int) {k:Nat} (h:k < 10):zeroT y k=(zeroT y (k+1) && (dg (y / 10) k == 0)):=by
 rw [Bool.eq_iff_iff,Bool.and_eq_true,zeroT_iff,zeroT_iff,beq_iff_eq]
 constructor
 · intro h1
   exact ⟨fun j h2 h3=>h1 j (by omega) h3,h1 k (Nat.le_refl _) h⟩
 · rintro ⟨h1,h2⟩ j h3 h4
   by_cases e:j=k
   · subst e; exact h2
   · exact h1 j (by omega) h4
theorem zeroT_zero {y:Int} (h0:0≤y) (h1:y < 1461501637330902918203684832716283019655932542976):zeroT y 0=decide (y < 10):=by
 rw [Bool.eq_iff_iff,zeroT_iff,decide_eq_true_iff]
 constructor
 · intro h
   have:=dg_zero (y / 10) (by omega) (by omega) (fun i hi=>h i (by omega) hi)
   omega
 · intro h j _ _
   have:y / 10=0:=by omega
   rw [this]
   exact dg_of_zero j
def lenV:Value→Nat
 | .string b=>b.size
 | _=>0
theorem dec_len:∀ (k u:Nat),u < 10 ^ (k+1)→(Lib.decDigits u).length≤k+1:=by
 intro k
 induction k with
 | zero =>
   intro u h
   rw [Lib.decDigits,dif_pos (by simpa using h)]
   simp
 | succ k ih =>
   intro u h
   by_cases h2:u < 10
   · rw [Lib.decDigits,dif_pos h2]; simp
   · rw [Lib.decDigits,dif_neg h2]
     have h3:10 ^ (k+1+1)=10 ^ (k+1)*10:=Nat.pow_succ ..
     have:=ih (u / 10) (by omega)
     simp
     omega
theorem dec_pos' (u:Nat):0 < (Lib.decDigits u).length:=by
 rw [Lib.decDigits]
 split <;> simp
theorem conv_one (W:World) (n:Int):(convert 44 9 (.slice (some ⟨W.heap.size,0,none⟩) 1 1)).run Tryz.prog (W.alloc (.cells #[.int .u8 n] 5))=.ok (.string (strOfNums [n])) (W.alloc (.cells #[.int .u8 n] 5)) :=
 run_convert_bytes_arg _ 44 5 Tryz.underlying44 Tryz.underlying5 _ 0 1 1 [n] rfl (fun i hi=>by
  obtain rfl:i=0:=by omega
  exact (cell_of (heap_at W _ rfl) 0).trans rfl) 9 Tryz.underlying9
set_option maxRecDepth 20000 in
set_option maxHeartbeats 8000000 in
theorem LTextPos_c (y:Int) (h0:0≤y) (h1:y < 730750818665451459101842416358141509827966271488) (w:World) :
 Calls Tryz.prog 75 #[longV y] w fun e w'=>e=.returned (strV (Lib.decDigits y.toNat))∧Ext w w':=by
 have hb:∀ w1,Calls Tryz.prog 113 #[longV y] w1 fun e w'=>e=.returned (.bool false)∧Ext w1 w':=fun w1=>by
  have hd:=dg_bd y 9
  have:=Below_c (dg y) hd.1 hd.2 w1
  rw [decide_eq_false (by rw [dg9]; omega)] at this
  exact this
 have HB:=Lib.hid hb
 have hdl:(Lib.decDigits y.toNat).length≤60:=dec_len 59 _ (by
  have h5:(10:Nat) ^ (59+1)=1000000000000000000000000000000000000000000000000000000000000:=by decide
  omega)
 clear hb
 unfold longV longA at HB ⊢
 go_enter Tryz.func75,Tryz.ntmps75
 go_wp2_with fail
 refine Calls.mono (HB.out _) ?_
 rintro e w1 ⟨rfl,hx1⟩
 have hx0:=(Ext.alloc' w (.cells #[.int .i64 (dg y 0),.int .i64 (dg y 1),.int .i64 (dg y 2),.int .i64 (dg y 3),.int .i64 (dg y 4),.int .i64 (dg y 5),.int .i64 (dg y 6),.int .i64 (dg y 7),.int .i64 (dg y 8),.int .i64 (dg y 9)] 155)).trans' hx1
 have hm0:w1.heap[w.heap.size]?=some (.cells (mixT y 10) 155 (0,0)):=by
  rw [mixT_top,fill10]
  exact hx1.keep (heap_at _ _ rfl)
 have HX0:=Lib.hid hx0
 have HM0:=Lib.hid hm0
 clear hx0 hm0 hx1
 go_wp2_with fail
 go_loopw [4,5,6,7,8] (fun u4 u5 _ _ _ wr=>∃ (yk:Int) (sk:List UInt8) (zb:Bool),u4=strV sk∧u5=.bool zb∧wr.heap[w.heap.size]?=some (.cells (mixT yk 10) 155 (0,0))∧Ext w wr∧0≤yk∧yk < 730750818665451459101842416358141509827966271488∧(zb=false→Lib.decDigits yk.toNat++sk=Lib.decDigits y.toNat)∧(zb=true→sk=Lib.decDigits y.toNat)∧sk.length≤400∧(sk=[]→zb=false)) (fun u4 _ _ _ _ _=>(Lib.decDigits y.toNat).length - lenV u4)
 case atStart =>
  exact ⟨y,[],false,rfl,rfl,HM0.out,HX0.out,h0,h1,fun _=>List.append_nil _,(fun h=>(by cases h)),Nat.zero_le _,fun _=>rfl⟩
 case round =>
  obtain ⟨yk,sk,zb,rfl,rfl,hm,hE,hy0,hy1,hz0,hz1,hsl,hs0⟩:=hrel
  have HZ0:=Lib.hid hz0
  have HZ1:=Lib.hid hz1
  have HM:=Lib.hid hm
  clear hz0 hz1 hm
  cases zb with
  | true =>
    have hsn:sk≠[]:=fun h=>by cases hs0 h
    have hsk:=HZ1.out rfl
    obtain ⟨b,hb⟩:∃ b:ByteArray,b=⟨sk.toArray⟩:=⟨_,rfl⟩
    have hbe:b.toList.isEmpty=false:=by
     rw [hb,Lib.toList_data]
     simpa using hsn
    have hbz:b.size≤400:=by
     rw [hb,Lib.size_eq]
     simpa using hsl
    have hcat:(⟨#[]⟩:ByteArray)++b=⟨(Lib.decDigits y.toNat).toArray⟩:=by
     rw [hb,← hsk]
     exact cat_str [] sk
    have HC:=Lib.hid hcat
    rw [show strV sk=.string b from congrArg Value.string hb.symm]
    clear hsk hsn hs0 hcat hb
    go_wp2
    go_ret
    exact ⟨congrArg Ending.returned (congrArg Value.string HC.out),hE⟩
  | false =>
    go_wp2_with fail
    go_loopw [5,6,7,8] (fun u5 u6 u7 _ wx=>∃ k:Nat,k≤10∧u7=.int .i64 ((k:Int) - 1)∧u5=.bool (zeroT yk k)∧u6=.int .i64 (rt yk k)∧wx.heap[w.heap.size]?=some (.cells (mixT yk k) 155 (0,0))∧Ext w wx) (fun _ _ u7 _ _=>(intOf u7+1).toNat)
    case atStart =>
     exact ⟨10,Nat.le_refl _,rfl,by rw [zeroT_top],by rw [rt_top yk hy0 (by omega)],HM.out,hE⟩
    case round =>
     obtain ⟨k,hk,rfl,rfl,rfl,hmx,hEx⟩:=hrel
     by_cases hk0:0 < k
     · obtain ⟨j,rfl⟩:∃ j,k=j+1:=⟨k - 1,by omega⟩
       have hkj:((j+1:Nat):Int) - 1=j:=by omega
       rw [hkj]
       clear hkj
       have c0:=(cell_of hmx j).trans (mixT_at yk (j+1) j (by omega))
       rw [if_pos (Nat.lt_succ_self j)] at c0
       have f0:=frozen_of hmx j
       have l0:=lt_of hmx
       have hsame:=setCell_same hmx j (.int .i64 (dg (yk / 10) j))
       rw [mixT_set yk j (by omega)] at hsame
       have htz:=zeroT_step yk (show j < 10 by omega)
       obtain ⟨t1,t2⟩:=ten_step yk j
       have hd1:=dg_bd yk j
       have hd2:=rt_bd yk (j+1)
       have hd3:=dg_bd (yk / 10) j
       have hd4:=rt_bd yk j
       obtain ⟨d1,d2⟩:=hd1
       obtain ⟨d3,d4⟩:=hd2
       generalize hR:rt yk (j+1)=R at *
       generalize hD:dg yk j=D at *
       generalize hD2:dg (yk / 10) j=D2 at *
       generalize hR2:rt yk j=R2 at *
       generalize hZ:zeroT yk (j+1)=Z at *
       generalize hZ2:zeroT yk j=Z2 at *
       have HMX:=Lib.hid hsame
       have HR2:=Lib.hid hR2
       have HZ2:=Lib.hid hZ2
       have HX2:=Lib.hid (hEx.setR (p:=⟨w.heap.size,j,none⟩) (Nat.le_refl _) (.int .i64 D2))
       clear hmx hsame hR hD hD2 hR2 hZ hZ2
       cases Z
       · go_wp2_with fail
         go_roundw
         case rel =>
          exact ⟨j,by omega,rfl,by rw [HZ2.out,htz]; rfl,by rw [HR2.out,← t2],HMX.out,HX2.out⟩
         case measure=>simp only [intOf]; omega
       · by_cases hz:D2=0
         · subst hz
           go_wp2_with fail
           go_roundw
           case rel =>
            exact ⟨j,by omega,rfl,by rw [HZ2.out,htz]; rfl,by rw [HR2.out,← t2],HMX.out,HX2.out⟩
           case measure=>simp only [intOf]; omega
         · go_wp2_with fail
           go_roundw
           case rel =>
            exact ⟨j,by omega,rfl,by rw [HZ2.out,htz,Bool.true_and,beq_eq_false_iff_ne.2 hz],by rw [HR2.out,← t2],HMX.out,HX2.out⟩
           case measure=>simp only [intOf]; omega
     · obtain rfl:k=0:=by omega
       have e0:((0:Nat):Int) - 1=-1:=rfl
       rw [e0,rt_zero]
       have hlen:(strV sk)=.string ⟨sk.toArray⟩:=rfl
       obtain ⟨b,hb⟩:∃ b:ByteArray,b=⟨sk.toArray⟩:=⟨_,rfl⟩
       have hbz:b.size≤400:=by
        rw [hb,Lib.size_eq]
        simpa using hsl
       rw [show strV sk=.string b from congrArg Value.string hb.symm]
       have HB3:=Lib.hid hb
       have HMX:=Lib.hid hmx
       clear hb hmx hlen
       have kc:=conv_one
       have hsz:(strOfNums [48+yk % 10]).size=1:=rfl
       go_wp2
       go_roundw
       case rel =>
        have hst:strOfNums [48+yk % 10]++b=⟨(UInt8.ofNat (48+yk.toNat % 10) :: sk).toArray⟩:=by
         rw [HB3.out]
         refine (cat_str [UInt8.ofNat (48+yk % 10).toNat] sk).trans ?_
         have:(48+yk % 10).toNat=48+yk.toNat % 10:=by omega
         rw [this]
         rfl
        have hcon:Lib.decDigits yk.toNat++sk=Lib.decDigits y.toNat:=by first | exact HZ0.out rfl | exact HZ0.out trivial
        have hds:=dec_step (y:=yk.toNat) sk
        rw [hcon] at hds
        have hlen:sk.length < (Lib.decDigits y.toNat).length:=by
         rw [← hcon,List.length_append]
         have:=dec_pos' yk.toNat
         omega
        have hq:(yk / 10).toNat=yk.toNat / 10:=by omega
        refine ⟨yk / 10,UInt8.ofNat (48+yk.toNat % 10) :: sk,decide (yk < 10),congrArg Value.string hst,by rw [zeroT_zero hy0 (by omega)], ?_,hEx.allocR _,by omega,by omega, ?_, ?_, ?_, ?_⟩
        · rw [← mixT_end]
          exact (heap_old _ _ (lt_of HMX.out)).trans HMX.out
        · intro h
          have h10:=of_decide_eq_false h
          rw [hq,hds,if_neg (by omega)]
          rfl
        · intro h
          have h10:=of_decide_eq_true h
          rw [if_pos (by omega),show yk.toNat / 10=0 by omega,Lib.decDigits,dif_pos (by decide)] at hds
          exact (List.cons.inj hds).2
        · rw [List.length_cons]; omega
        · intro h; cases h
       case measure =>
        have hcon:Lib.decDigits yk.toNat++sk=Lib.decDigits y.toNat:=by first | exact HZ0.out rfl | exact HZ0.out trivial
        have hlen:sk.length < (Lib.decDigits y.toNat).length:=by
         rw [← hcon,List.length_append]
         have:=dec_pos' yk.toNat
         omega
        have hbl:b.size=sk.length:=by rw [HB3.out,Lib.size_eq]
        have:(strOfNums [48+yk % 10]++b).size=1+b.size:=by rw [ByteArray.size_append]; rfl
        have hls:lenV (strV sk)=sk.length:=by
         show (ByteArray.mk sk.toArray).size=_
         rw [Lib.size_eq]
        rw [hls]
        simp only [lenV,this,hbl]
        omega
end Go.Proofs.YtmalncfcgcebhaaGreatDoor
namespace Go.Proofs.YtmalncfcgcebhaaGreatDoor
set_option linter.unusedVariables false
open Go.Proofs Go.RowKit
set_option maxRecDepth 20000 in
theorem WRev_c (B:Nat) (v:Value) (n:Nat) (xs:List Int) (w:World) (h:w.ownsRow B 5 1 v n (u8V xs)) (hn0:0 < n) (hn:n≤100000) :
 Calls Tryz.prog 144 #[v] w fun e w'=>e=.returned (.string (strOfNums xs.reverse))∧Mod (fun k=>v.ownBlock=some k) w w':=by
 obtain ⟨h1,⟨h2,h3⟩ | ⟨g,cap,cur,rfl,hb,hh,hc,hm,hs,ht⟩⟩:=h
 · omega
 have hlen:xs.length=n:=by simpa [u8V] using h1
 have hR:RowB w g n (fun k=>xs.getD k 0):=by
  refine ⟨cur,hh,fun k hk=>?_⟩
  have:(cur.toList.take (n*1))[k]?=(u8V xs)[k]?:=by rw [ht]
  rw [Nat.mul_one,List.getElem?_take,if_pos hk,Array.getElem?_toList] at this
  rw [this,u8V,List.getElem?_map]
  show _=some (Value.int .u8 (xs.getD k 0))
  rw [List.getD_eq_getElem?_getD,List.getElem?_eq_getElem (by omega)]
  rfl
 have HR:=Lib.hid (RevB_c g n cap _ w hR hn hc)
 clear hR hh hs ht h1
 go_enter Tryz.func144,Tryz.ntmps144
 go_wp2_with fail
 refine Calls.mono HR.out ?_
 rintro e w1 ⟨rfl,hR1,hM1⟩
 have kc:=run_convert_bytes_arg w1 44 5 Tryz.underlying44 Tryz.underlying5 g 0 n cap xs.reverse (by simpa using hlen) (fun i hi=>by
  rw [Nat.zero_add,hR1.cell hi]
  congr 2
  rw [List.getD_eq_getElem?_getD,List.getD_eq_getElem?_getD,List.getElem?_reverse (by omega),hlen]) 9 Tryz.underlying9
 have HM:=Lib.hid hM1
 clear hR1 hM1
 go_wp2
 go_ret
 refine ⟨rfl,HM.out.mono fun k hk _=>?_⟩
 subst hk
 rfl
theorem two_words {N:Int} (h0:0≤N):N / 18446744073709551616*18446744073709551616+N % 18446744073709551616=N:=by omega
def chV (s:List UInt8):List Int:=s.reverse.map fun c=>(c.toNat:Int)
theorem chV_cons (c:UInt8) (s:List UInt8):chV (c :: s)=chV s++[(c.toNat:Int)]:=by simp [chV]
theorem chV_str (s:List UInt8):strOfNums (chV s).reverse=⟨s.toArray⟩:=by
 unfold strOfNums chV
 rw [← List.map_reverse,List.reverse_reverse,List.map_map]
 congr 2
 have:((fun n:Int=>UInt8.ofNat n.toNat) ∘ fun c:UInt8=>(c.toNat:Int))=id:=by funext c; simp
 rw [this,List.map_id]
theorem Div10_c (r lw:Int) (g0:0≤r) (g1:r≤9) (h0:0≤lw) (h1:lw < 18446744073709551616) (w:World) :
 Calls Tryz.prog 143 #[.int .u64 r,.int .u64 lw,.int .u64 10] w fun e w'=>e=.returned (.tuple #[.int .u64 ((r*18446744073709551616+lw) / 10),.int .u64 ((r*18446744073709551616+lw) % 10)])∧Ext w w':=by
 by_cases h:r=0
 · subst h
   rw [Int.zero_mul,Int.zero_add]
   exact Div10_0 lw h0 h1 w
 · exact Div10_1 r lw (by omega) g1 h0 h1 w
theorem ten_words {N:Int} (h0:0≤N) {hv lv r:Int} (h1:hv=N / 18446744073709551616) (h2:lv=N % 18446744073709551616) (h3:r=hv % 10):hv / 10=N / 10 / 18446744073709551616∧(r*18446744073709551616+lv) / 10=N / 10 % 18446744073709551616∧(r*18446744073709551616+lv) % 10=N % 10:=by
 subst h1 h2 h3
 omega
theorem grown_ext {w w2 w3:World} {o:Obj} {v:Value} {n size:Nat} {e:TypeId} {xs:List Value} (h:w2.ownsRow w.heap.size e size v n xs) (hx:Ext w w2) (hg:(w2.alloc o).grownBy w3 v.ownBlock):Ext w w3:=by
 refine ⟨hg.os.trans hx.os,hg.tape.trans hx.tape,hg.output.trans hx.output,Nat.le_trans hx.size (Nat.le_trans (by rw [size_alloc]; exact Nat.le_succ _) hg.size),fun k hk=>?_⟩
 have hk2:k < w2.heap.size:=Nat.lt_of_lt_of_le hk hx.size
 rw [hg.block k (by rw [size_alloc]; omega) (fun e=>by have:=own_geB h e.symm; omega),heap_old _ _ hk2]
 exact hx.block k hk
def lenS:Value→Nat
 | .slice _ n _=>n
 | _=>0
set_option maxRecDepth 20000 in
set_option maxHeartbeats 8000000 in
theorem WText_c (x:Int) (hx:W128 x) (w:World) :
 Calls Tryz.prog 91 #[.agg #[.int .i64 (hi x),.int .u64 (lo x)]] w fun e w'=>e=.returned (strV (Lib.itoa x))∧Ext w w':=by
 have hm0:0≤absZ x∧absZ x≤170141183460469231731687303715884105728:=by unfold absZ W128 at *; split <;> omega
 have hdl:(Lib.decDigits (absZ x).toNat).length≤60:=dec_len 59 _ (by
  have h5:(10:Nat) ^ (59+1)=1000000000000000000000000000000000000000000000000000000000000:=by decide
  omega)
 have HS:=fun w'=>Lib.hid (WSize_c x hx w')
 have HIT:Hid (Lib.itoa x=(if x < 0 then [45] else [])++Lib.decDigits (absZ x).toNat):=Lib.hid (by
  unfold absZ Lib.itoa
  split
  · have:x.natAbs=(-x).toNat:=by omega
    rw [this]; rfl
  · rfl)
 have hhn:=hi_neg x
 generalize hmm:absZ x=m at *
 clear hmm
 obtain ⟨i0,hi0,hz0,hz1,hz2⟩:=info_byte
 have hbx:=heap_at w (.cells #[.int .i64 (hi x),.int .u64 (lo x)] 194) rfl
 have hx0:=Ext.alloc' w (.cells #[.int .i64 (hi x),.int .u64 (lo x)] 194)
 go_enter Tryz.func91,Tryz.ntmps91
 go_wp2_with fail
 obtain ⟨W1,hW1⟩:∃ W1,w.alloc (.cells #[.int .i64 (hi x),.int .u64 (lo x)] 194)=W1:=⟨_,rfl⟩
 rw [hW1] at hbx hx0 ⊢
 refine Calls.mono (HS _).out ?_
 rintro e w1 ⟨rfl,hx1⟩
 have hb1:=hx1.keep hbx
 have HX1:=Lib.hid (hx0.trans' hx1)
 have HB1:=Lib.hid hb1
 clear hbx hx0 hx1 hb1 hW1
 go_wp2_with fail
 go_loopw [3,4,5,6] (fun u3 u4 u5 _ wr=>∃ (N:Int) (s:List UInt8),u3=.int .u64 (N / 18446744073709551616)∧u4=.int .u64 (N % 18446744073709551616)∧wr.ownsRow w1.heap.size 5 1 u5 s.length (u8V (chV s))∧Ext w1 wr∧0≤N∧N≤170141183460469231731687303715884105728∧((0 < N∨s=[])→Lib.decDigits N.toNat++s=Lib.decDigits m.toNat)∧(¬ (0 < N∨s=[])→s=Lib.decDigits m.toNat)) (fun _ _ u5 _ _=>(Lib.decDigits m.toNat).length - lenS u5)
 case atStart=>exact ⟨m,[],rfl,rfl,⟨rfl,.inl ⟨rfl,rfl⟩⟩,Ext.refl _,hm0.1,hm0.2,fun _=>List.append_nil _,fun h=>absurd (.inr rfl) h⟩
 case round =>
  obtain ⟨N,s,rfl,rfl,hown,hE,hN0,hN1,hgo,hend⟩:=hrel
  obtain ⟨po,co,rfl⟩:=own_sl hown
  have HO:=Lib.hid hown
  have HG:=Lib.hid hgo
  have HD:=Lib.hid hend
  have htw:=two_words hN0
  obtain ⟨hv,hhv⟩:∃ hv,hv=N / 18446744073709551616:=⟨_,rfl⟩
  obtain ⟨lv,hlv⟩:∃ lv,lv=N % 18446744073709551616:=⟨_,rfl⟩
  rw [← hhv,← hlv] at htw ⊢
  have hvb:0≤hv∧hv≤9223372036854775808:=by omega
  have hlb:0≤lv∧lv < 18446744073709551616:=by omega
  obtain ⟨hv0,hv1⟩:=hvb
  obtain ⟨lv0,lv1⟩:=hlb
  by_cases hgoing:0 < N∨s=[]
  · have hds:=HG.out hgoing
    have hsl:s.length < (Lib.decDigits m.toNat).length:=by
     rw [← hds,List.length_append]
     have:=dec_pos' N.toNat
     omega
    have hstep:=dec_step (y:=N.toNat) s
    rw [hds] at hstep
    obtain ⟨r,hr⟩:∃ r,r=hv % 10:=⟨_,rfl⟩
    have hrb:0≤r∧r≤9:=by omega
    obtain ⟨t1,t2,t3⟩:=ten_words hN0 hhv hlv hr
    have HDV:=fun w'=>Lib.hid (Div10_c r lv hrb.1 hrb.2 lv0 lv1 w')
    generalize hd1:(r*18446744073709551616+lv) / 10=q at *
    generalize hd2:(r*18446744073709551616+lv) % 10=d at *
    have hd9:0≤d∧d≤9:=by omega
    obtain ⟨d0,d9⟩:=hd9
    have HT:=Lib.hid (And.intro t1 (And.intro t2 t3))
    have HR:=Lib.hid hr
    have HW:=Lib.hid (And.intro hhv (And.intro hlv htw))
    have HST:=Lib.hid hstep
    have HGO:=Lib.hid hgoing
    have hcnd:(0 < hv)∨(hv=0∧0 < lv)∨(hv=0∧lv=0∧s.length=0):=by
     rcases hgoing with h | h
     · by_cases h2:0 < hv
       · exact .inl h2
       · exact .inr (.inl ⟨by omega,by omega⟩)
     · subst h
       by_cases h2:0 < hv
       · exact .inl h2
       · by_cases h3:0 < lv
         · exact .inr (.inl ⟨by omega,h3⟩)
         · exact .inr (.inr ⟨by omega,by omega,rfl⟩)
    clear hown hgo hend hhv hlv htw hd1 hd2 t1 t2 t3 hstep hds hgoing hr
    generalize hln:s.length=sl at *
    have HLN:=Lib.hid hln
    clear hln
    have HSL:=Lib.hid hsl
    have HDL:=Lib.hid hdl
    have HS60:=Lib.hid (show sl≤60 by omega)
    have HN:=Lib.hid (And.intro hN0 hN1)
    clear hsl hdl HS hm0 hN0 hN1 hhn hrb
    rcases hcnd with c | ⟨rfl,c⟩ | ⟨rfl,rfl,rfl⟩
    · clear HGO
      go_wp2_with fail
      rw [← HR.out]
      refine Calls.mono (HDV _).out ?_
      rintro e w2 ⟨rfl,hx2⟩
      have HO2:=Lib.hid (own_ext HO.out hx2)
      have HX2:=Lib.hid (hE.trans' hx2)
      clear hx2 HDV HO
      have hw8:IntKind.u8.wrap (48+d)=48+d:=by rw [IntKind.wrap_u8]; omega
      clear c hv0 hv1 lv0 lv1
      go_wp2_with (at_builtin; refine wpList_append_own _ rfl _ _ 44 rfl w1.heap.size 5 i0 (.int .u8 0) 1 1 Tryz.underlying44 hi0 hz0 hz1 hz2 rfl (by decide) _ _ _ rfl (HO2.out.alloc _) ⟨w2.heap.size,0,none⟩ 1 1 [.int .u8 (48+d)] rfl ?c1 ?c2 ?c3 ?c4 ?c5 ?c6 ?_)
      case c1=>rfl
      case c2=>exact cell_one_new _ _ _
      case c3=>simp [Value.oneCell']
      case c4=>have:=HS60.out; unfold maxLen; omega
      case c5=>have:=HS60.out; omega
      case c6=>have:=HX2.out.size; rw [size_alloc]; omega
      intro v' w3 hown3 hg3 _
      have hco:chV (UInt8.ofNat (48+N.toNat % 10) :: s)=chV s++[48+d]:=by
       rw [chV_cons]
       have h3:=HT.out.2.2
       have h4:=HN.out
       congr 2
       have h5:(UInt8.ofNat (48+N.toNat % 10)).toNat=48+N.toNat % 10:=by
        rw [UInt8.toNat_ofNat']
        omega
       rw [h5]
       omega
      have HCO:=Lib.hid hco
      have hx3:Ext w1 w3:=grown_ext HO2.out HX2.out hg3
      have HX3:=Lib.hid hx3
      have HO3:=Lib.hid hown3
      obtain ⟨po3,co3,rfl⟩:=own_sl hown3
      clear hown3 hg3 hco hx3 HO2
      go_wp2
      go_roundw
      case rel =>
       obtain ⟨n0,n1⟩:=HN.out
       obtain ⟨a1,a2,a3⟩:=HT.out
       have hst:=HST.out
       have hq:(N / 10).toNat=N.toNat / 10:=by omega
       refine ⟨N / 10,UInt8.ofNat (48+N.toNat % 10) :: s, ?_, ?_, ?_,HX3.out,by omega,by omega,fun h=>?_,fun h=>?_⟩
       · first | rw [a1] | (rw [← a1]; rfl)
       · rw [a2]
       · have ho:=HO3.out
         rw [HCO.out,u8V,List.map_append,List.length_cons,HLN.out]
         exact ho
       · rcases h with h | h
         · rw [hq,hst,if_neg (by omega)]
           rfl
         · cases h
       · have h10:N.toNat < 10:=by
          rcases Nat.lt_or_ge N.toNat 10 with h2 | h2
          · exact h2
          · exact absurd (.inl (by omega)) h
         rw [if_pos h10,show N.toNat / 10=0 by omega,Lib.decDigits,dif_pos (by decide)] at hst
         exact (List.cons.inj hst).2
      case measure =>
       have:=HSL.out
       simp only [lenS]
       omega
    · obtain rfl:r=0:=HR.out
      go_wp2_with fail
      skip
      refine Calls.mono (HDV _).out ?_
      rintro e w2 ⟨rfl,hx2⟩
      have HO2:=Lib.hid (own_ext HO.out hx2)
      have HX2:=Lib.hid (hE.trans' hx2)
      clear hx2 HDV HO
      have hw8:IntKind.u8.wrap (48+d)=48+d:=by rw [IntKind.wrap_u8]; omega
      clear c lv0 lv1
      go_wp2_with (at_builtin; refine wpList_append_own _ rfl _ _ 44 rfl w1.heap.size 5 i0 (.int .u8 0) 1 1 Tryz.underlying44 hi0 hz0 hz1 hz2 rfl (by decide) _ _ _ rfl (HO2.out.alloc _) ⟨w2.heap.size,0,none⟩ 1 1 [.int .u8 (48+d)] rfl ?c1 ?c2 ?c3 ?c4 ?c5 ?c6 ?_)
      case c1=>rfl
      case c2=>exact cell_one_new _ _ _
      case c3=>simp [Value.oneCell']
      case c4=>have:=HS60.out; unfold maxLen; omega
      case c5=>have:=HS60.out; omega
      case c6=>have:=HX2.out.size; rw [size_alloc]; omega
      intro v' w3 hown3 hg3 _
      have hco:chV (UInt8.ofNat (48+N.toNat % 10) :: s)=chV s++[48+d]:=by
       rw [chV_cons]
       have h3:=HT.out.2.2
       have h4:=HN.out
       congr 2
       have h5:(UInt8.ofNat (48+N.toNat % 10)).toNat=48+N.toNat % 10:=by
        rw [UInt8.toNat_ofNat']
        omega
       rw [h5]
       omega
      have HCO:=Lib.hid hco
      have hx3:Ext w1 w3:=grown_ext HO2.out HX2.out hg3
      have HX3:=Lib.hid hx3
      have HO3:=Lib.hid hown3
      obtain ⟨po3,co3,rfl⟩:=own_sl hown3
      clear hown3 hg3 hco hx3 HO2
      go_wp2
      go_roundw
      case rel =>
       obtain ⟨n0,n1⟩:=HN.out
       obtain ⟨a1,a2,a3⟩:=HT.out
       have hst:=HST.out
       have hq:(N / 10).toNat=N.toNat / 10:=by omega
       refine ⟨N / 10,UInt8.ofNat (48+N.toNat % 10) :: s, ?_, ?_, ?_,HX3.out,by omega,by omega,fun h=>?_,fun h=>?_⟩
       · first | rw [a1] | (rw [← a1]; rfl)
       · rw [a2]
       · have ho:=HO3.out
         rw [HCO.out,u8V,List.map_append,List.length_cons,HLN.out]
         exact ho
       · rcases h with h | h
         · rw [hq,hst,if_neg (by omega)]
           rfl
         · cases h
       · have h10:N.toNat < 10:=by
          rcases Nat.lt_or_ge N.toNat 10 with h2 | h2
          · exact h2
          · exact absurd (.inl (by omega)) h
         rw [if_pos h10,show N.toNat / 10=0 by omega,Lib.decDigits,dif_pos (by decide)] at hst
         exact (List.cons.inj hst).2
      case measure =>
       have:=HSL.out
       simp only [lenS]
       omega
    · obtain rfl:r=0:=HR.out
      go_wp2_with fail
      skip
      refine Calls.mono (HDV _).out ?_
      rintro e w2 ⟨rfl,hx2⟩
      have HO2:=Lib.hid (own_ext HO.out hx2)
      have HX2:=Lib.hid (hE.trans' hx2)
      clear hx2 HDV HO
      have hw8:IntKind.u8.wrap (48+d)=48+d:=by rw [IntKind.wrap_u8]; omega
      go_wp2_with (at_builtin; refine wpList_append_own _ rfl _ _ 44 rfl w1.heap.size 5 i0 (.int .u8 0) 1 1 Tryz.underlying44 hi0 hz0 hz1 hz2 rfl (by decide) _ _ _ rfl (HO2.out.alloc _) ⟨w2.heap.size,0,none⟩ 1 1 [.int .u8 (48+d)] rfl ?c1 ?c2 ?c3 ?c4 ?c5 ?c6 ?_)
      case c1=>rfl
      case c2=>exact cell_one_new _ _ _
      case c3=>simp [Value.oneCell']
      case c4=>have:=HS60.out; unfold maxLen; omega
      case c5=>have:=HS60.out; omega
      case c6=>have:=HX2.out.size; rw [size_alloc]; omega
      intro v' w3 hown3 hg3 _
      have hco:chV (UInt8.ofNat (48+N.toNat % 10) :: s)=chV s++[48+d]:=by
       rw [chV_cons]
       have h3:=HT.out.2.2
       have h4:=HN.out
       congr 2
       have h5:(UInt8.ofNat (48+N.toNat % 10)).toNat=48+N.toNat % 10:=by
        rw [UInt8.toNat_ofNat']
        omega
       rw [h5]
       omega
      have HCO:=Lib.hid hco
      have hx3:Ext w1 w3:=grown_ext HO2.out HX2.out hg3
      have HX3:=Lib.hid hx3
      have HO3:=Lib.hid hown3
      obtain ⟨po3,co3,rfl⟩:=own_sl hown3
      clear hown3 hg3 hco hx3 HO2
      go_wp2
      go_roundw
      case rel =>
       obtain ⟨n0,n1⟩:=HN.out
       obtain ⟨a1,a2,a3⟩:=HT.out
       have hst:=HST.out
       have hq:(N / 10).toNat=N.toNat / 10:=by omega
       refine ⟨N / 10,UInt8.ofNat (48+N.toNat % 10) :: s, ?_, ?_, ?_,HX3.out,by omega,by omega,fun h=>?_,fun h=>?_⟩
       · first | rw [a1] | (rw [← a1]; rfl)
       · rw [a2]
       · have ho:=HO3.out
         rw [HCO.out,u8V,List.map_append,List.length_cons,HLN.out]
         exact ho
       · rcases h with h | h
         · rw [hq,hst,if_neg (by omega)]
           rfl
         · cases h
       · have h10:N.toNat < 10:=by
          rcases Nat.lt_or_ge N.toNat 10 with h2 | h2
          · exact h2
          · exact absurd (.inl (by omega)) h
         rw [if_pos h10,show N.toNat / 10=0 by omega,Lib.decDigits,dif_pos (by decide)] at hst
         exact (List.cons.inj hst).2
      case measure =>
       have:=HSL.out
       simp only [lenS]
       omega
  · have hds:=HD.out hgoing
    have hs0:s≠[]:=fun h=>hgoing (.inr h)
    have hN:N=0:=by
     rcases Int.lt_or_le 0 N with h | h
     · exact absurd (.inl h) hgoing
     · omega
    have hlen:0 < s.length:=List.length_pos_iff.2 hs0
    have hlen2:s.length≤60:=by rw [hds]; exact hdl
    obtain rfl:hv=0:=by omega
    obtain rfl:lv=0:=by omega
    have HDS:=Lib.hid hds
    have hbx:=hE.keep HB1.out
    have b0:=(cell_of hbx 0).trans rfl
    have b1:=(cell_of hbx 1).trans rfl
    have bl:=lt_of hbx
    have hne:((s.length:Int) == 0)=false:=by rw [beq_eq_false_iff_ne]; omega
    have HE:=Lib.hid hE
    clear hown hgo hend hhv hlv htw hgoing hds hs0 hN hm0 hdl HS hbx hE hN0 hN1
    generalize hln:s.length=sl at *
    have HLN:=Lib.hid hln
    clear hln
    by_cases hx0:x < 0
    · go_wp2_with (at_builtin; refine wpList_append_own _ rfl _ _ 44 rfl w1.heap.size 5 i0 (.int .u8 0) 1 1 Tryz.underlying44 hi0 hz0 hz1 hz2 rfl (by decide) _ _ _ rfl (HO.out.alloc _) ⟨wr.heap.size,0,none⟩ 1 1 [.int .u8 45] rfl ?c1 ?c2 ?c3 ?c4 ?c5 ?c6 ?_)
      case c1=>rfl
      case c2=>exact cell_one_new _ _ _
      case c3=>simp [Value.oneCell']
      case c4=>unfold maxLen; omega
      case c5=>omega
      case c6=>have:=HE.out.size; rw [size_alloc]; omega
      intro v' w3 hown3 hg3 _
      have hx3:Ext w1 w3:=grown_ext HO.out HE.out hg3
      have HX3:=Lib.hid hx3
      have hco:chV (45 :: s)=chV s++[45]:=chV_cons 45 s
      have hown4:w3.ownsRow w1.heap.size 5 1 v' (sl+1) (u8V (chV (45 :: s))):=by
       rw [hco,u8V,List.map_append]
       exact hown3
      have hgb:∀ g,v'.ownBlock=some g→w1.heap.size≤g:=fun g hg=>own_geB hown4 hg
      have HRV:=Lib.hid (WRev_c w1.heap.size v' (sl+1) (chV (45 :: s)) w3 hown4 (by omega) (by omega))
      have HGB:=Lib.hid hgb
      obtain ⟨po3,co3,rfl⟩:=own_sl hown4
      clear hown3 hg3 hx3 hco hown4 hgb
      go_wp2_with fail
      refine Calls.mono HRV.out ?_
      rintro e w4 ⟨rfl,hM4⟩
      rw [chV_str]
      go_wp2
      go_ret
      refine ⟨?_,Below.trans HX1.out (Below.trans (HX3.out.mono HX1.out.size) (hM4.below (Nat.le_trans HX1.out.size HX3.out.size) fun k hk=>Nat.le_trans HX1.out.size (HGB.out k hk)))⟩
      rw [HIT.out,if_pos hx0,← HDS.out]
      rfl
    · have hgb:∀ g,(Value.slice po sl co).ownBlock=some g→w1.heap.size≤g:=fun g hg=>own_geB HO.out hg
      have HGB:=Lib.hid hgb
      have HRV:=Lib.hid (WRev_c w1.heap.size (.slice po sl co) sl (chV s) wr HO.out (by omega) (by omega))
      clear hgb
      go_wp2_with fail
      refine Calls.mono HRV.out ?_
      rintro e w4 ⟨rfl,hM4⟩
      rw [chV_str]
      go_wp2
      go_ret
      refine ⟨?_,Below.trans HX1.out (Below.trans (HE.out.mono HX1.out.size) (hM4.below (Nat.le_trans HX1.out.size HE.out.size) fun k hk=>Nat.le_trans HX1.out.size (HGB.out k hk)))⟩
      rw [HIT.out,if_neg (by omega),← HDS.out]
      rfl
end Go.Proofs.YtmalncfcgcebhaaGreatDoor
namespace Go.Proofs.YtmalncfcgcebhaaGreatDoor
set_option linter.unusedVariables false
open Go.RowKit
theorem keys_pow (C:Cfg) (n:Nat):keys C n=2 ^ (C.bits - n).toNat:=rfl
set_option maxRecDepth 20000 in
set_option maxHeartbeats 2000000 in
theorem is_c (C:Cfg) (h:C.Ok) (n:Nat) (hn:(n:Int)≤C.bits) (j:Int) (hj0:0≤j) (hj1:j < keys C n) (w:World) :
 Calls Tryz.prog 219 #[.int .i64 C.bits,.agg #[.int .i64 n,.int .u64 j]] w fun e w'=>e=.returned (.bool true)∧Ext w w':=by
 have b1:=h.b1
 have b2:=h.b2
 have hp:=pow_bd (C.bits - n).toNat (by omega)
 rw [keys_pow] at hj1
 go_enter Tryz.func219,Tryz.ntmps219
 go_wp2
 have hsub:0≤C.bits - (n:Int):=by omega
 refine wp_region_after (by kernel_rfl) (by kernel_rfl) ?_
 repeat (go_big_quiet_step (fail))
 refine wpQuiet_nil ?_
 rintro _ ⟨xx,rfl⟩
 obtain ⟨w1,hb1⟩:=xx
 try dsimp only
 have e:decide (j < IntKind.u64.wrap (2 ^ (C.bits.toNat - n)))=true:=by
  rw [show C.bits.toNat - n=(C.bits - n).toNat by omega,IntKind.wrap_u64]
  exact decide_eq_true (by omega)
 rw [e]
 have hE:Ext w w1:=by (repeat' (first | exact Ext.refl _ | assumption | apply Ext.allocR | apply Ext.drewR | apply Ext.drewNR | (refine Ext.trans' ?_ (by assumption))))
 clear hb1
 go_wp2
 go_ret
 exact ⟨rfl,hE⟩
def PB (b n:Nat) (j:Int) (W:World):Prop:=W.heap[b]?=some (.cells #[.int .i64 (n+1:Nat),.int .u64 j] 52 (0,0))
theorem pb_set {b n:Nat} {j:Int} {W:World} (i o:Nat) (u:Value) (h:i≠b) (hb:PB b n j W):PB b n j (W.setCell ⟨i,o,none⟩ u):=by
 unfold PB at *
 rw [setCell_other _ _ (Ne.symm h)]; exact hb
set_option maxRecDepth 20000 in
set_option maxHeartbeats 2000000 in
theorem Halves_c (C:Cfg) (h:C.Ok) (n:Nat) (hn:((n+1:Nat):Int)≤C.bits) (j:Int) (hj0:0≤j) (hj1:j < keys C (n+1:Nat)) (w:World) :
 Calls Tryz.prog 175 #[.int .i64 C.bits,.agg #[.int .i64 (n+1:Nat),.int .u64 j]] w fun e w'=>e=.returned (.tuple #[.agg #[.int .i64 n,.int .u64 (2*j)],.agg #[.int .i64 n,.int .u64 (2*j+1)],.bool true])∧Ext w w':=by
 have b1:=h.b1
 have b2:=h.b2
 have hp:=keys_bd C h (n+1:Nat) (Int.natCast_nonneg _)
 go_enter Tryz.func175,Tryz.ntmps175
 go_wp2_with fail
 refine (is_c C h (n+1) hn j hj0 hj1 _).mono ?_
 rintro e w1 ⟨rfl,hb⟩
 have hE:Ext w w1:=by (repeat' (first | exact Ext.refl _ | assumption | apply Ext.allocR | apply Ext.drewR | apply Ext.drewNR | (refine Ext.trans' ?_ (by assumption))))
 have hbx:w1.heap[w.heap.size]?=some (.cells #[.int .i64 (n+1:Nat),.int .u64 j] 52 (0,0)):=by
  rw [hb.block _ (by simp only [size_alloc]; omega),heap_old _ _ (by simp only [size_alloc]; omega),heap_old _ _ (by rw [size_alloc]; omega)]
  exact heap_at _ _ rfl
 have hbl:w1.heap[w.heap.size+1]?=some (.cells #[.int .i64 0,.int .u64 0] 52 (0,0)):=by
  rw [hb.block _ (by simp only [size_alloc]; omega),heap_old _ _ (by simp only [size_alloc]; omega)]
  exact heap_at _ _ (by rw [size_alloc])
 have hbr:w1.heap[w.heap.size+2]?=some (.cells #[.int .i64 0,.int .u64 0] 52 (0,0)):=by
  rw [hb.block _ (by simp only [size_alloc]; omega)]
  exact heap_at _ _ (by simp only [size_alloc])
 have c0:=(cell_of hbx 0).trans rfl
 have c1:=(cell_of hbx 1).trans rfl
 have cl:=lt_of hbx
 have l0:=(cell_of hbl 0).trans rfl
 have l1:=(cell_of hbl 1).trans rfl
 have ll:=lt_of hbl
 have r0:=(cell_of hbr 0).trans rfl
 have r1:=(cell_of hbr 1).trans rfl
 have rl:=lt_of hbr
 have fl0:=frozen_of hbl 0
 have fl1:=frozen_of hbl 1
 have fr0:=frozen_of hbr 0
 have fr1:=frozen_of hbr 1
 clear hb
 go_wp2
 have hne:Nonempty (Holds (PB w.heap.size n j)):=⟨⟨w1,hbx⟩⟩
 have hS0:∀ x:Holds (PB w.heap.size n j),x.w.cell? ⟨w.heap.size,0,none⟩=some (.int .i64 (n+1:Nat)):=fun x=>(cell_of x.h 0).trans rfl
 have hS1:∀ x:Holds (PB w.heap.size n j),x.w.cell? ⟨w.heap.size,1,none⟩=some (.int .u64 j):=fun x=>(cell_of x.h 1).trans rfl
 have hC0:∃ x:Holds (PB w.heap.size n j),w1.drew=x.w:=hs_mk hbx
 refine pi_start (fun w'=>∃ x:Holds (PB w.heap.size n j),w'=x.w) [] (by kernel_rfl) ?_
 refine pi_t 0 rfl (by kernel_rfl) (by kernel_rfl) (fun _ _ _ _ h=>h) (fun K hK=>?_)
 go_big_quiet_op
 refine hK _ ?_
 clear hK K
 refine pi_c 1 (by assumption) rfl (by kernel_rfl) (by kernel_rfl) (fun _ _ _ _ h=>h) (fun K hK=>?_)
 go_big_quiet_op
 refine hK _ ?_
 clear hK K
 refine pi_t 2 rfl (by kernel_rfl) (by kernel_rfl) (fun _ _ _ _ h=>h) (fun K hK=>?_)
 go_big_quiet_op
 refine hK _ ?_
 clear hK K
 refine pi_t 3 rfl (by kernel_rfl) (by kernel_rfl) (fun _ _ _ _ h=>h) (fun K hK=>?_)
 go_big_quiet_op
 refine hK _ ?_
 clear hK K
 refine pi_c 4 (by assumption) rfl (by kernel_rfl) (by kernel_rfl) (fun _ _ _ _ h=>h) (fun K hK=>?_)
 go_big_quiet_op
 refine hK _ ?_
 clear hK K
 refine pi_t 5 rfl (by kernel_rfl) (by kernel_rfl) (fun _ _ _ _ h=>h) (fun K hK=>?_)
 go_big_quiet_op
 refine hK _ ?_
 clear hK K
 refine pi_t 6 rfl (by kernel_rfl) (by kernel_rfl) (fun _ _ _ _ h=>h) (fun K hK=>?_)
 go_big_quiet_op
 refine hK _ ?_
 clear hK K
 refine pi_t 7 rfl (by kernel_rfl) (by kernel_rfl) (fun _ _ _ _ h=>h) (fun K hK=>?_)
 go_big_quiet_op
 refine hK _ ?_
 clear hK K
 refine pi_c 8 (by assumption) rfl (by kernel_rfl) (by kernel_rfl) (fun _ _ _ _ h=>h) (fun K hK=>?_)
 go_big_quiet_op
 refine hK _ ?_
 clear hK K
 refine pi_t 9 rfl (by kernel_rfl) (by kernel_rfl) (fun _ _ _ _ h=>h) (fun K hK=>?_)
 go_big_quiet_op
 refine hK _ ?_
 clear hK K
 refine pi_t 10 rfl (by kernel_rfl) (by kernel_rfl) (fun _ _ _ _ h=>h) (fun K hK=>?_)
 go_big_quiet_op
 refine hK _ ?_
 clear hK K
 refine pi_c 11 (by assumption) rfl (by kernel_rfl) (by kernel_rfl) (fun _ _ _ _ h=>h) (fun K hK=>?_)
 go_big_quiet_op
 refine hK _ ?_
 clear hK K
 refine pi_t 12 rfl (by kernel_rfl) (by kernel_rfl) (fun _ _ _ _ h=>h) (fun K hK=>?_)
 go_big_quiet_op
 refine hK _ ?_
 clear hK K
 refine pi_t 13 rfl (by kernel_rfl) (by kernel_rfl) (fun _ _ _ _ h=>h) (fun K hK=>?_)
 go_big_quiet_op
 refine hK _ ?_
 clear hK K
 refine pi_t 14 rfl (by kernel_rfl) (by kernel_rfl) (fun _ _ _ _ h=>h) (fun K hK=>?_)
 go_big_quiet_op
 refine hK _ ?_
 clear hK K
 refine pi_l 15 rfl (by kernel_rfl) (fun K hK=>?_)
 go_wp2
 refine hK _ _ (fun _ _=>hs_mk (pb_set _ _ _ (by omega) (pb_set _ _ _ (by omega) hbx))) ?_
 clear hK K
 refine pi_l 16 rfl (by kernel_rfl) (fun K hK=>?_)
 go_wp2
 refine hK _ _ (fun _ _=>hs_mk (pb_set _ _ _ (by omega) (pb_set _ _ _ (by omega) (pb_set _ _ _ (by omega) (pb_set _ _ _ (by omega) hbx))))) ?_
 clear hK K
 refine pi_t 17 rfl (by kernel_rfl) (by kernel_rfl) (fun _ _ _ _ h=>h) (fun K hK=>?_)
 go_big_quiet_op
 refine hK _ ?_
 clear hK K
 refine pi_end (by kernel_rfl) ?_
 go_wp2_with fail
 have hEf:Ext w ((((w1.setCell ⟨w.heap.size+1,0,none⟩ (.int .i64 n)).setCell ⟨w.heap.size+1,1,none⟩ (.int .u64 (2*j))).setCell ⟨w.heap.size+1+1,0,none⟩ (.int .i64 n)).setCell ⟨w.heap.size+1+1,1,none⟩ (.int .u64 (2*j+1))) :=
  (((hE.setR (p:=⟨w.heap.size+1,0,none⟩) (by show w.heap.size≤w.heap.size+1; omega) _).setR (p:=⟨w.heap.size+1,1,none⟩) (by show w.heap.size≤w.heap.size+1; omega) _).setR (p:=⟨w.heap.size+1+1,0,none⟩) (by show w.heap.size≤w.heap.size+1+1; omega) _).setR (p:=⟨w.heap.size+1+1,1,none⟩) (by show w.heap.size≤w.heap.size+1+1; omega) _
 have e1:((((w1.setCell ⟨w.heap.size+1,0,none⟩ (.int .i64 n)).setCell ⟨w.heap.size+1,1,none⟩ (.int .u64 (2*j))).setCell ⟨w.heap.size+1+1,0,none⟩ (.int .i64 n)).setCell ⟨w.heap.size+1+1,1,none⟩ (.int .u64 (2*j+1))).heap[w.heap.size+1]?=some (.cells #[.int .i64 n,.int .u64 (2*j)] 52 (0,0)):=by
  rw [setCell_other _ _ (by omega),setCell_other _ _ (by omega)]
  exact set2 hbl _ _
 have e2:((((w1.setCell ⟨w.heap.size+1,0,none⟩ (.int .i64 n)).setCell ⟨w.heap.size+1,1,none⟩ (.int .u64 (2*j))).setCell ⟨w.heap.size+1+1,0,none⟩ (.int .i64 n)).setCell ⟨w.heap.size+1+1,1,none⟩ (.int .u64 (2*j+1))).heap[w.heap.size+1+1]?=some (.cells #[.int .i64 n,.int .u64 (2*j+1)] 52 (0,0)) :=
  set2 (by rw [setCell_other _ _ (by omega),setCell_other _ _ (by omega)]; exact hbr) _ _
 generalize (((w1.setCell ⟨w.heap.size+1,0,none⟩ (.int .i64 n)).setCell ⟨w.heap.size+1,1,none⟩ (.int .u64 (2*j))).setCell ⟨w.heap.size+1+1,0,none⟩ (.int .i64 n)).setCell ⟨w.heap.size+1+1,1,none⟩ (.int .u64 (2*j+1))=Wf at *
 have r0:=(cell_of e1 0).trans rfl
 have r1:=(cell_of e1 1).trans rfl
 have r2:=(cell_of e2 0).trans rfl
 have r3:=(cell_of e2 1).trans rfl
 exact bodyPost_ret (v:=.tuple #[.agg #[.int .i64 n,.int .u64 (2*j)],.agg #[.int .i64 n,.int .u64 (2*j+1)],.bool true]) (by simp [results,Tryz.results175,go_sem,r0,r1,r2,r3]) rfl ⟨rfl,Below.drew hEf⟩
end Go.Proofs.YtmalncfcgcebhaaGreatDoor
namespace Go.Proofs.YtmalncfcgcebhaaGreatDoor
set_option linter.unusedVariables false
open Go.RowKit
theorem sh_succ (n:Nat) (u:Int):sh (n+1) u=sh n u / 2:=by
 unfold sh
 rw [Int.pow_succ,Int.ediv_ediv_of_nonneg (Int.le_of_lt (Int.pow_pos (by decide)))]
def pcS (ps:List (Int × Int)) (n:Nat) (i:Int):Int:=sumIf (fun u=>sh n u == i) ps
theorem sumIf_ext {p q:Int→Bool} (ps:List (Int × Int)) (h:∀ u,p u=q u):sumIf p ps=sumIf q ps:=sumIf_congr fun u _=>h u.1
theorem pcS_split (ps:List (Int × Int)) (n:Nat) (i:Int):pcS ps (n+1) i=pcS ps n (2*i)+pcS ps n (2*i+1):=by
 unfold pcS
 rw [sumIf_split _ (fun u=>sh n u == 2*i) ps]
 congr 1
 · refine sumIf_ext ps fun u=>?_
   rw [sh_succ,Bool.eq_iff_iff]; simp only [Bool.and_eq_true,beq_iff_eq]; omega
 · refine sumIf_ext ps fun u=>?_
   rw [sh_succ,Bool.eq_iff_iff]; simp only [Bool.and_eq_true,beq_iff_eq,Bool.not_eq_true',beq_eq_false_iff_ne,ne_eq]; omega
theorem sumIf_none:∀ ps:List (Int × Int),sumIf (fun _=>false) ps=0
 | []=>rfl
 | u :: ps=>by rw [sumIf_cons,sumIf_none ps]; rfl
end Go.Proofs.YtmalncfcgcebhaaGreatDoor
namespace Go.Proofs.YtmalncfcgcebhaaGreatDoor
set_option linter.unusedVariables false
open Go.RowKit
@[go_sem] theorem fld_bits (b r c m s:Int) (w:World):(Instr.field 24 (.agg #[.int .i64 b,.int .i64 r,.int .i64 c,.int .i64 m,.int .u64 s]) 0).run Tryz.prog w=.ok (.int .i64 b) w:=by kernel_rfl
theorem run_slice60 (b t:Nat) (ht:t≤59) (w:World):(Instr.sliceAt 350 (.pointer (some ⟨b,0,none⟩)) none (some (.int .i64 ((t:Int)+1))) none).run Tryz.prog w=.ok (.slice (some ⟨b,0,none⟩) (t+1) 60) w:=by
 have hlen:Tryz.prog.arrayLen 350=60:=by kernel_rfl
 have hs:(sizeOf (Tryz.prog.elem 350)).run Tryz.prog w=.ok 2 w:=by kernel_rfl
 rw [run_sliceAt_array_h w 350 ⟨b,0,none⟩ (by kernel_rfl) .i64 _ (by omega) (by rw [hlen]; omega),hs,hlen]
 simp only [Result.andThen,slicedAt]
 rw [show ((t:Int)+1).toNat=t+1 by omega]
 rfl
theorem way_set {W:World} {b:Nat} {cur:Array Value} {T:TypeId} {dn:List (Nat × Int)} (hb:W.heap[b]?=some (.cells cur T (0,0))) (hs:cur.size=120) (hp:PCells W b 0 dn) (hl:dn.length < 60) (m:Nat) (j:Int) :
 (∃ cur',((W.setCell ⟨b,dn.length*2,none⟩ (.int .i64 m)).setCell ⟨b,dn.length*2+1,none⟩ (.int .u64 j)).heap[b]?=some (.cells cur' T (0,0))∧cur'.size=120) ∧
 PCells ((W.setCell ⟨b,dn.length*2,none⟩ (.int .i64 m)).setCell ⟨b,dn.length*2+1,none⟩ (.int .u64 j)) b 0 (dn++[(m,j)]):=by
 have h2:=setCell_same (setCell_same hb (dn.length*2) (.int .i64 m)) (dn.length*2+1) (.int .u64 j)
 refine ⟨⟨_,h2,by simp [hs]⟩,fun k hk=>?_⟩
 rw [List.length_append] at hk
 simp only [List.length_cons,List.length_nil] at hk
 rw [cell_of h2,cell_of h2]
 by_cases h:k < dn.length
 · have e:(dn++[(m,j)]).getD k (0,0)=dn.getD k (0,0):=by
    rw [List.getD_eq_getElem?_getD,List.getD_eq_getElem?_getD,List.getElem?_append_left h]
   obtain ⟨a1,a2⟩:=hp k h
   rw [cell_of hb] at a1 a2
   rw [e]
   constructor
   · rw [Array.getElem?_setIfInBounds_ne (by omega),Array.getElem?_setIfInBounds_ne (by omega)]; exact a1
   · rw [Array.getElem?_setIfInBounds_ne (by omega),Array.getElem?_setIfInBounds_ne (by omega)]; exact a2
 · obtain rfl:k=dn.length:=by omega
   have e:(dn++[(m,j)]).getD dn.length (0,0)=(m,j):=by simp
   rw [e,Nat.zero_add]
   constructor
   · rw [Array.getElem?_setIfInBounds_ne (by omega),Array.getElem?_setIfInBounds_self_of_lt (by omega)]
   · rw [Array.getElem?_setIfInBounds_self_of_lt (by rw [Array.size_setIfInBounds]; omega)]
theorem keys_half {C:Cfg} {m:Nat} (h:((m+1:Nat):Int)≤C.bits):keys C m=2*keys C (m+1:Nat):=by
 unfold keys
 rw [show (C.bits - (m:Int)).toNat=(C.bits - ((m+1:Nat):Int)).toNat+1 by omega,Int.pow_succ,Int.mul_comm]
end Go.Proofs.YtmalncfcgcebhaaGreatDoor
namespace Go.Proofs.YtmalncfcgcebhaaGreatDoor
set_option linter.unusedVariables false
open Go.RowKit
attribute [local go_sem] Oper.semAt_some
def PcsAt (n₀:Nat) (W:World) (v:Value) (ps:List (Nat × Int)):Prop :=
 (v=.slice none 0 0∧ps=[])∨∃ g cap,v=.slice (some ⟨g,0,none⟩) ps.length cap∧g < n₀∧PCells W g 0 ps
theorem PcsAt.below {n₀:Nat} {A B:World} {v:Value} {ps:List (Nat × Int)} (h:PcsAt n₀ A v ps) (hb:Below n₀ A B):PcsAt n₀ B v ps:=by
 rcases h with h | ⟨g,cap,h1,h2,h3⟩
 · exact .inl h
 · exact .inr ⟨g,cap,h1,h2,fun k hk=>⟨(hb.cell (p:=⟨g,_,none⟩) h2).trans (h3 k hk).1,(hb.cell (p:=⟨g,_,none⟩) h2).trans (h3 k hk).2⟩⟩
theorem PcsAt.of_own {w:World} {base n₀:Nat} {e:TypeId} {v:Value} {ps:List (Nat × Int)} (h:w.ownsRow base e 2 v ps.length (pcV ps)) (hn:w.heap.size≤n₀):PcsAt n₀ w v ps:=by
 rcases h.2 with ⟨h1,h2⟩ | ⟨g,cap,cur,rfl,_,hh,hc,_,hs,ht⟩
 · exact .inl ⟨h1,List.length_eq_zero_iff.1 h2⟩
 · refine .inr ⟨g,cap,rfl,Nat.lt_of_lt_of_le (lt_of hh) hn,fun k hk=>?_⟩
   obtain ⟨a1,a2⟩:=pcV_at hk
   rw [← ht] at a1 a2
   rw [List.getElem?_take_of_lt (by omega)] at a1 a2
   simp only [Array.getElem?_toList] at a1 a2
   rw [cell_of hh,cell_of hh,Nat.zero_add]
   exact ⟨a1,a2⟩
def pcEnc (ps:List (Nat × Int)) (x:{p:Nat × Int // p∈ps}):Array Value:=#[.agg #[.int .i64 (x.1.1:Int),.int .u64 x.1.2]]
theorem getD_in {ps:List (Nat × Int)} {k:Nat} (h:k < ps.length):ps.getD k (0,0)∈ps:=by simp [h]
set_option maxRecDepth 100000 in
set_option maxHeartbeats 2000000 in
theorem values1_in (n l Bs n₀ g cap:Nat) (ps:List (Nat × Int)) (hg:g < n₀) (hl:ps.length≤1000000) (J Jx:List {p:Nat × Int // p∈ps}→World→Prop)
 (W:World) (hW:n₀≤W.heap.size) (hJ:AbidesFrom W.heap.size J)
 (hY:∀ pre x W,J pre W→pre.length < ps.length→YieldAt Fence.wide (n - 1) Tryz.prog l (pcEnc ps x) W fun e W' =>
  (e=.returned (.bool true)∧J (pre++[x]) W'∧Below n₀ W W')∨(e=.returned (.bool false)∧Jx (pre++[x]) W'))
 (hBs:W.cell? ⟨Bs,0,none⟩=some (.slice (some ⟨g,0,none⟩) ps.length cap)) (hc:PCells W g 0 ps) (h0:J [] W) :
 CallsIn Fence.wide n Tryz.prog 250 #[.func (.yield l) #[] #[],.pointer (some ⟨Bs,0,none⟩)] W fun e W'=>(∃ v,e=.returned v) ∧
  ((∃ ys,ys.map (fun x:{p:Nat × Int // p∈ps}=>x.1)=ps∧J ys W')∨(∃ pre,True∧Jx pre W')):=by
 refine callsIn_of_wp Tryz.func250 rfl trivial ?_ rfl
 simp only [Tryz.ntmps250,List.size_toArray,List.length_cons,List.length_nil,Nat.reduceAdd,Nat.reduceSub,Array.replicate_succ,Array.replicate_zero,List.push_toArray,List.append_toArray,List.nil_append,List.cons_append]
 gi_wp2
 generalize hn:ps.length=m at *
 have HN:=Lib.hid hn
 clear hn
 gi_loopw [7] (fun i wr=>∃ (k:Nat) (pre:List {p:Nat × Int // p∈ps}),k≤m∧i=.int .i64 k∧pre.map (fun x:{p:Nat × Int // p∈ps}=>x.1)=ps.take k∧J pre wr∧Below n₀ W wr)
  (fun i _=>m - (intOf i).toNat)
 case atStart=>exact ⟨0,[],Nat.zero_le _,rfl,rfl,h0,Below.refl _ _⟩
 case round =>
  obtain ⟨k,pre,hk,rfl,hpre,hJs,hnx⟩:=hrel
  have hlen:pre.length=k:=by
   have:=congrArg List.length hpre
   rw [List.length_map,List.length_take,HN.out] at this
   omega
  by_cases hlt:k < m
  · have hkp:k < ps.length:=by rw [HN.out]; exact hlt
    have hgw:g < wr.heap.size:=by have:=hnx.size; omega
    obtain ⟨d0,d1⟩:=hc k hkp
    rw [Nat.zero_add] at d0 d1
    have c0:=(hnx.cell (p:=⟨g,k*2,none⟩) hg).trans d0
    have c1:=(hnx.cell (p:=⟨g,k*2+1,none⟩) hg).trans d1
    have hmem:=getD_in hkp
    have htk:ps.take (k+1)=ps.take k++[ps.getD k (0,0)]:=by
     rw [List.take_succ_eq_append_getElem hkp]; simp [hkp]
    generalize ps.getD k (0,0)=p at *
    obtain ⟨p1,p2⟩:=p
    dsimp only at c0 c1 d0 d1
    have hJn:J pre (wr.alloc (.cells #[.int .i64 (p1:Int),.int .u64 p2] 52)):=hJ pre wr _ none hJs (World.grownBy_alloc wr _ none) (fun r e=>by cases e)
    obtain ⟨fn,tmps,assign,body,hy,hR⟩:=hY pre ⟨(p1,p2),hmem⟩ _ hJn (by omega)
    have hbel:Below n₀ W (wr.alloc (.cells #[.int .i64 (p1:Int),.int .u64 p2] 52)):=hnx.alloc (by have:=hnx.size; omega) _
    dsimp only [pcEnc] at hy
    gi_wp2
    refine ⟨fun h=>(by cases h),hR.mono ?_⟩
    rintro e W3 (⟨rfl,hJ3,hk3⟩ | ⟨rfl,hJx3⟩)
    · gi_wp2
      go_roundw
      case rel=>exact ⟨k+1,pre++[⟨(p1,p2),hmem⟩],by omega,by simp,by rw [List.map_append,hpre,htk]; rfl,hJ3,hbel.trans hk3⟩
      case measure=>simp [intOf]; omega
    · gi_wp2
      refine bodyPost_ret (results_none rfl _ _ _) rfl ?_
      exact ⟨⟨_,rfl⟩,.inr ⟨_,trivial,hJx3⟩⟩
  · obtain rfl:k=m:=by omega
    gi_wp2
    go_end0
    exact ⟨⟨_,rfl⟩,.inl ⟨pre,by rw [hpre,← HN.out,List.take_length],hJs⟩⟩
set_option maxRecDepth 100000 in
set_option maxHeartbeats 1000000 in
theorem values1_nil (n l Bs:Nat) (J:List {p:Nat × Int // p∈([]:List (Nat × Int))}→World→Prop) (W:World) (hBs:W.cell? ⟨Bs,0,none⟩=some (.slice none 0 0)) (h0:J [] W) :
 CallsIn Fence.wide n Tryz.prog 250 #[.func (.yield l) #[] #[],.pointer (some ⟨Bs,0,none⟩)] W fun e W'=>(∃ v,e=.returned v)∧J [] W':=by
 refine callsIn_of_wp Tryz.func250 rfl trivial ?_ rfl
 simp only [Tryz.ntmps250,List.size_toArray,List.length_cons,List.length_nil,Nat.reduceAdd,Nat.reduceSub,Array.replicate_succ,Array.replicate_zero,List.push_toArray,List.append_toArray,List.nil_append,List.cons_append]
 gi_wp2
 gi_loopw [7] (fun i wr=>i=.int .i64 0∧J [] wr) (fun _ _=>0)
 case atStart=>exact ⟨rfl,h0⟩
 case round =>
  obtain ⟨rfl,hJs⟩:=hrel
  gi_wp2
  go_end0
  exact ⟨⟨_,rfl⟩,hJs⟩
theorem Values_c (p:Option Addr) (n c:Nat) (w:World) :
 Calls Tryz.prog 213 #[.slice p n c] w fun e w'=>e=.returned (.func (.func 250) #[] #[.pointer (some ⟨w.heap.size,0,none⟩)]) ∧
  w'=w.alloc (.cells #[.slice p n c] 62):=by
 have hmf:∀ (fn:Fn) (first cap:Array Value) (w:World),(Instr.makeFunc fn first cap).run Tryz.prog w=.ok (.func fn first cap) w:=fun _ _ _ _=>rfl
 go_enter Tryz.func213,Tryz.ntmps213
 go_wp2
 go_ret
 exact ⟨rfl,rfl⟩
theorem values_stops (n Bs n₀:Nat) (sv:Value) (ps:List (Nat × Int)) (hl:ps.length≤1000000) (w:World) (hBs:Bs < w.heap.size) (hn₀:n₀≤w.heap.size)
 (hc:w.cell? ⟨Bs,0,none⟩=some sv) (hI:PcsAt n₀ w sv ps) :
 SeqStopsK Fence.wide n Tryz.prog 250 #[.pointer (some ⟨Bs,0,none⟩)] (pcEnc ps) (Below n₀) (fun ys=>ys.map (fun x:{p:Nat × Int // p∈ps}=>x.1)=ps) (fun _=>True) ps.length w:=by
 intro l J Jx W hW hJ hJx hY h0
 have hc':=(hW.cell (p:=⟨Bs,0,none⟩) hBs).trans hc
 have hsz:=hW.size
 rcases hI.below (hW.mono hn₀) with ⟨rfl,hp⟩ | ⟨g,cap,rfl,hg,hcs⟩
 · subst hp
   exact (values1_nil n l Bs J W hc' h0).mono fun e W' ⟨he,hj⟩=>⟨he,.inl ⟨[],rfl,hj⟩⟩
 · exact values1_in n l Bs n₀ g cap ps hg hl J Jx W (by omega) hJ hY hc' hcs h0
end Go.Proofs.YtmalncfcgcebhaaGreatDoor
namespace Go.Proofs.YtmalncfcgcebhaaGreatDoor
set_option linter.unusedVariables false
open Go.RowKit
def rvF (ps:List (Nat × Int)) (k m:Nat):Nat × Int:=if m < k∨ps.length≤m+k then ps.getD (ps.length - 1 - m) (0,0) else ps.getD m (0,0)
theorem rvF_zero (ps:List (Nat × Int)) {m:Nat} (h:m < ps.length):rvF ps 0 m=ps.getD m (0,0):=by
 unfold rvF; rw [if_neg (by omega)]
theorem rvF_end (ps:List (Nat × Int)) {k m:Nat} (h:m < ps.length) (hk:ps.length≤2*k+1):rvF ps k m=ps.reverse.getD m (0,0):=by
 have e:ps.reverse.getD m (0,0)=ps.getD (ps.length - 1 - m) (0,0):=by
  rw [List.getD_eq_getElem?_getD,List.getD_eq_getElem?_getD,List.getElem?_reverse h]
 rw [e]
 unfold rvF
 by_cases hc:m < k∨ps.length≤m+k
 · rw [if_pos hc]
 · rw [if_neg hc]
   congr 1
   omega
def CellsF (cur:Array Value) (n:Nat) (f:Nat→Nat × Int):Prop:=∀ m,m < n→cur[m*2]?=some (.int .i64 ((f m).1:Int))∧cur[m*2+1]?=some (.int .u64 (f m).2)
theorem cellsF_swap {cur:Array Value} {ps:List (Nat × Int)} {k j:Nat} (hc:CellsF cur ps.length (rvF ps k)) (hs:ps.length*2≤cur.size) (hkj:k < j) (hj:j+k+1=ps.length) :
 CellsF ((((cur.setIfInBounds (k*2) (.int .i64 ((rvF ps k j).1:Int))).setIfInBounds (k*2+1) (.int .u64 (rvF ps k j).2)).setIfInBounds (j*2) (.int .i64 ((rvF ps k k).1:Int))).setIfInBounds (j*2+1) (.int .u64 (rvF ps k k).2)) ps.length (rvF ps (k+1)):=by
 intro m hm
 have e1:rvF ps k j=ps.getD j (0,0):=by unfold rvF; rw [if_neg (by omega)]
 have e2:rvF ps k k=ps.getD k (0,0):=by unfold rvF; rw [if_neg (by omega)]
 rw [e1,e2]
 obtain ⟨a1,a2⟩:=hc m hm
 by_cases hmk:m=k
 · subst hmk
   have e:rvF ps (m+1) m=ps.getD j (0,0):=by unfold rvF; rw [if_pos (by omega)]; congr 1; omega
   rw [e]
   constructor
   · rw [Array.getElem?_setIfInBounds_ne (by omega),Array.getElem?_setIfInBounds_ne (by omega),Array.getElem?_setIfInBounds_ne (by omega),Array.getElem?_setIfInBounds_self_of_lt (by omega)]
   · rw [Array.getElem?_setIfInBounds_ne (by omega),Array.getElem?_setIfInBounds_ne (by omega),Array.getElem?_setIfInBounds_self_of_lt (by rw [Array.size_setIfInBounds]; omega)]
 · by_cases hmj:m=j
   · subst hmj
     have e:rvF ps (k+1) m=ps.getD k (0,0):=by unfold rvF; rw [if_pos (by omega)]; congr 1; omega
     rw [e]
     constructor
     · rw [Array.getElem?_setIfInBounds_ne (by omega),Array.getElem?_setIfInBounds_self_of_lt (by simp only [Array.size_setIfInBounds]; omega)]
     · rw [Array.getElem?_setIfInBounds_self_of_lt (by simp only [Array.size_setIfInBounds]; omega)]
   · have e:rvF ps (k+1) m=rvF ps k m:=by
      unfold rvF
      by_cases hc:m < k∨ps.length≤m+k
      · rw [if_pos hc,if_pos (by omega)]
      · rw [if_neg hc,if_neg (by omega)]
     rw [e]
     constructor
     · rw [Array.getElem?_setIfInBounds_ne (by omega),Array.getElem?_setIfInBounds_ne (by omega),Array.getElem?_setIfInBounds_ne (by omega),Array.getElem?_setIfInBounds_ne (by omega)]; exact a1
     · rw [Array.getElem?_setIfInBounds_ne (by omega),Array.getElem?_setIfInBounds_ne (by omega),Array.getElem?_setIfInBounds_ne (by omega),Array.getElem?_setIfInBounds_ne (by omega)]; exact a2
theorem cellsF_take {cur:Array Value} {n:Nat} {f:Nat→Nat × Int} {ps:List (Nat × Int)} (hc:CellsF cur n f) (hl:ps.length=n) (hf:∀ m,m < n→f m=ps.getD m (0,0)):cur.toList.take (n*2)=pcV ps:=by
 subst hl
 apply List.ext_getElem?
 intro i
 by_cases hi:i < ps.length*2
 · rw [List.getElem?_take_of_lt hi,Array.getElem?_toList]
   obtain ⟨b1,b2⟩:=hc (i / 2) (by omega)
   obtain ⟨a1,a2⟩:=pcV_at (ps:=ps) (k:=i / 2) (by omega)
   rw [hf (i / 2) (by omega)] at b1 b2
   by_cases he:i % 2=0
   · rw [show i=i / 2*2 by omega,b1,a1]
   · rw [show i=i / 2*2+1 by omega,b2,a2]
 · rw [List.getElem?_eq_none (by rw [List.length_take]; omega),List.getElem?_eq_none (by rw [pcV_len]; omega)]
theorem cellsF_of {cur:Array Value} {ps:List (Nat × Int)} (h:cur.toList.take (ps.length*2)=pcV ps):CellsF cur ps.length (rvF ps 0):=by
 intro m hm
 obtain ⟨a1,a2⟩:=pcV_at hm
 rw [← h] at a1 a2
 rw [List.getElem?_take_of_lt (by omega)] at a1 a2
 simp only [Array.getElem?_toList] at a1 a2
 rw [rvF_zero _ hm]
 exact ⟨a1,a2⟩
def RvAt (w:World) (g:Nat) (ps:List (Nat × Int)) (cs k:Nat) (W:World):Prop :=
 (∃ cur,W.heap[g]?=some (.cells cur 52 (0,0))∧cur.size=cs∧CellsF cur ps.length (rvF ps k))∧Mod (fun b=>b=g) w W
theorem rv_next {w W:World} {g:Nat} {ps:List (Nat × Int)} {cs k j:Nat} (h:RvAt w g ps cs k W) (hs:ps.length*2≤cs) (hkj:k < j) (hj:j+k+1=ps.length) {a c:Nat × Int} (ha:rvF ps k j=a) (hc:rvF ps k k=c) :
 RvAt w g ps cs (k+1) ((((W.setCell ⟨g,k*2,none⟩ (.int .i64 (a.1:Int))).setCell ⟨g,k*2+1,none⟩ (.int .u64 a.2)).setCell ⟨g,j*2,none⟩ (.int .i64 (c.1:Int))).setCell ⟨g,j*2+1,none⟩ (.int .u64 c.2)).drew:=by
 subst ha hc
 obtain ⟨⟨cur,h1,h2,h3⟩,hm⟩:=h
 have q:=setCell_same (setCell_same (setCell_same (setCell_same h1 (k*2) (.int .i64 ((rvF ps k j).1:Int))) (k*2+1) (.int .u64 (rvF ps k j).2)) (j*2) (.int .i64 ((rvF ps k k).1:Int))) (j*2+1) (.int .u64 (rvF ps k k).2)
 refine ⟨⟨_,q,by simp only [Array.size_setIfInBounds]; exact h2,cellsF_swap h3 (by omega) hkj hj⟩, ?_⟩
 exact ((((hm.trans (mod_set _ _ _ _)).trans (mod_set _ _ _ _)).trans (mod_set _ _ _ _)).trans (mod_set _ _ _ _)).trans ((Ext.refl _).drewR.mod _)
def RevPost (w:World) (v:Value) (base:Nat) (ps:List (Nat × Int)) (e:Ending) (w':World):Prop :=
 e=.returned (.tuple #[])∧w'.ownsRow base 52 2 v ps.length (pcV ps.reverse)∧Mod (fun k=>v.ownBlock=some k) w w'
set_option maxRecDepth 20000 in
set_option maxHeartbeats 4000000 in
theorem Reverse_c (ps:List (Nat × Int)) (v:Value) (base:Nat) (w:World) (h:w.ownsRow base 52 2 v ps.length (pcV ps)) (hl:ps.length≤1000000) :
 Calls Tryz.prog 249 #[v] w (RevPost w v base ps):=by
 rcases h.2 with ⟨rfl,h0⟩ | ⟨g,cap,cur,rfl,hb,hh,hnc,hcm,hcs,htk⟩
 · have e:ps=[]:=List.length_eq_zero_iff.1 h0
   subst e
   have h':=h
   clear h h0
   go_enter Tryz.func249,Tryz.ntmps249
   go_wp2
   go_loopw [2,3] (fun i j wr=>i=.int .i64 0∧j=.int .i64 (-1)∧wr=w) (fun _ _ _=>0)
   case atStart=>exact ⟨rfl,rfl,rfl⟩
   case round =>
    obtain ⟨rfl,rfl,rfl⟩:=hrel
    go_wp2
    go_end0
    exact ⟨rfl,h',Mod.refl _ _⟩
 · have hr0:RvAt w g ps (cap*2) 0 w:=⟨⟨cur,hh,hcs,cellsF_of htk⟩,Mod.refl _ _⟩
   have HR0:=Lib.hid hr0
   have hcap:=hcm
   unfold maxLen at hcap
   clear h hr0 htk hh hcs
   generalize hn:ps.length=n at *
   have HN:=Lib.hid hn
   clear hn
   go_enter Tryz.func249,Tryz.ntmps249
   go_wp2
   go_loopw [2,3] (fun i j wr=>∃ (k:Nat) (z:Int),z+k+1=n∧2*k≤n∧i=.int .i64 k∧j=.int .i64 z∧RvAt w g ps (cap*2) k wr) (fun i _ _=>n - (intOf i).toNat)
   case atStart=>exact ⟨0,(n:Int) - 1,by omega,by omega,rfl,rfl,HR0.out⟩
   case round =>
    obtain ⟨k,z,hz,hk2,rfl,rfl,hR⟩:=hrel
    by_cases hlt:(k:Int) < z
    · obtain ⟨j,rfl⟩:∃ j:Nat,z=j:=⟨z.toNat,by omega⟩
      obtain ⟨cur',hh,hcs,hcf⟩:=hR.1
      have hgl:g < wr.heap.size:=lt_of hh
      obtain ⟨k0,k1⟩:=hcf k (by rw [HN.out]; omega)
      obtain ⟨j0,j1⟩:=hcf j (by rw [HN.out]; omega)
      rw [← cell_of hh] at k0 k1 j0 j1
      have fz:=fun o=>frozen_of hh o
      have HH:=Lib.hid hh
      have HR:=Lib.hid hR
      clear hR hh hcs hcf
      generalize hvk:rvF ps k k=vk at *
      generalize hvj:rvF ps k j=vj at *
      have HV:=Lib.hid (And.intro hvk hvj)
      clear hvk hvj
      obtain ⟨vk1,vk2⟩:=vk
      obtain ⟨vj1,vj2⟩:=vj
      dsimp only at k0 k1 j0 j1
      go_wp2_with fail
      have hC0:=af_drew wr
      refine pi_start (fun w'=>∃ x:After wr,w'=x.w) [13,15] (by kernel_rfl) ?_
      refine pi_t 0 rfl (by kernel_rfl) (by kernel_rfl) (fun _ _ _ _ h=>h) (fun K hK=>?_)
      go_big_quiet_op
      refine hK _ ?_
      clear hK K
      refine pi_t 1 rfl (by kernel_rfl) (by kernel_rfl) (fun _ _ _ _ h=>h) (fun K hK=>?_)
      go_big_quiet_op
      refine hK _ ?_
      clear hK K
      refine pi_t 2 rfl (by kernel_rfl) (by kernel_rfl) (fun _ _ _ _ h=>h) (fun K hK=>?_)
      go_big_quiet_op
      refine hK _ ?_
      clear hK K
      refine pi_t 3 rfl (by kernel_rfl) (by kernel_rfl) (fun _ _ _ _ h=>h) (fun K hK=>?_)
      go_big_quiet_op
      refine hK _ ?_
      clear hK K
      refine pi_t 4 rfl (by kernel_rfl) (by kernel_rfl) (fun _ _ _ _ h=>h) (fun K hK=>?_)
      go_big_quiet_op
      refine hK _ ?_
      clear hK K
      refine pi_t 5 rfl (by kernel_rfl) (by kernel_rfl) (fun _ _ _ _ h=>h) (fun K hK=>?_)
      go_big_quiet_op
      refine hK _ ?_
      clear hK K
      refine pi_t 6 rfl (by kernel_rfl) (by kernel_rfl) (fun _ _ _ _ h=>h) (fun K hK=>?_)
      go_big_quiet_op
      refine hK _ ?_
      clear hK K
      refine pi_t 8 rfl (by kernel_rfl) (by kernel_rfl) (fun _ _ _ _ h=>h) (fun K hK=>?_)
      go_big_quiet_op
      refine hK _ ?_
      clear hK K
      refine pi_t 9 rfl (by kernel_rfl) (by kernel_rfl) (fun _ _ _ _ h=>h) (fun K hK=>?_)
      go_big_quiet_op
      refine hK _ ?_
      clear hK K
      refine pi_t 10 rfl (by kernel_rfl) (by kernel_rfl) (fun _ _ _ _ h=>h) (fun K hK=>?_)
      go_big_quiet_op
      refine hK _ ?_
      clear hK K
      refine pi_c 7 (by assumption) rfl (by kernel_rfl) (by kernel_rfl) (fun _ _ _ _ h=>h) (fun K hK=>?_)
      go_big_quiet_op
      refine hK _ ?_
      clear hK K
      refine pi_c 11 (by assumption) rfl (by kernel_rfl) (by kernel_rfl) (fun _ _ _ _ h=>h) (fun K hK=>?_)
      go_big_quiet_op
      refine hK _ ?_
      clear hK K
      refine pi_t 12 rfl (by kernel_rfl) (by kernel_rfl) (fun _ _ _ _ h=>h) (fun K hK=>?_)
      go_big_quiet_op
      refine hK _ ?_
      clear hK K
      refine pi_l 13 rfl (by kernel_rfl) (fun K hK=>?_)
      go_wp2
      refine hK _ _ (by simp) ?_
      clear hK K
      refine pi_t 14 rfl (by kernel_rfl) (by kernel_rfl) (fun _ _ _ _ h=>h) (fun K hK=>?_)
      go_big_quiet_op
      refine hK _ ?_
      clear hK K
      refine pi_l 15 rfl (by kernel_rfl) (fun K hK=>?_)
      go_wp2
      refine hK _ _ (by simp) ?_
      clear hK K
      refine pi_end (by kernel_rfl) ?_
      go_wp2_with fail
      go_roundw
      case rel =>
       have hN:=rv_next (a:=(vj1,vj2)) (c:=(vk1,vk2)) HR.out (by rw [HN.out]; omega) (by omega) (by rw [HN.out]; omega) HV.out.2 HV.out.1
       exact ⟨k+1,(j:Int) - 1,by omega,by omega,by go_num,by go_num,hN⟩
      case measure=>simp [intOf]; omega
    · have hk3:n≤2*k+1:=by omega
      obtain ⟨⟨cur',h1,h2,h3⟩,hm⟩:=hR
      have hfin:wr.ownsRow base 52 2 (.slice (some ⟨g,0,none⟩) n cap) n (pcV ps.reverse) :=
       ⟨by rw [pcV_len,List.length_reverse,HN.out],.inr ⟨g,cap,cur',rfl,hb,h1,hnc,hcm,h2,by rw [← HN.out]; exact cellsF_take h3 (List.length_reverse) (fun m hm=>rvF_end ps hm (by rw [HN.out]; exact hk3))⟩⟩
      go_wp2
      go_end0
      exact ⟨rfl,by rw [HN.out]; exact hfin,hm.mono (fun k hk _=>by rw [hk]; rfl)⟩
end Go.Proofs.YtmalncfcgcebhaaGreatDoor
namespace Go.Proofs.YtmalncfcgcebhaaGreatDoor
set_option linter.unusedVariables false
open Go.RowKit
def covL:Nat→Nat→Int→Int→List (Nat × Int)
 | 0,l,lo,_=>[(l,lo)]
 | f+1,l,lo,hi =>
   if lo=hi then [(l,lo)]
   else (if lo % 2=1 then [(l,lo)] else []) ++
    ((if (if hi % 2=0 then hi - 1 else hi) < (if lo % 2=1 then lo+1 else lo) then [] else covL f (l+1) ((if lo % 2=1 then lo+1 else lo) / 2) ((if hi % 2=0 then hi - 1 else hi) / 2)) ++
    (if hi % 2=0 then [(l,hi)] else []))
theorem pw_succ (n:Nat):(2:Int) ^ (n+1)=2*2 ^ n:=by rw [Int.pow_succ,Int.mul_comm]
theorem cov_lev:∀ (f l:Nat) (lo hi:Int),∀ p∈covL f l lo hi,l≤p.1∧p.1≤l+f
 | 0,l,lo,hi,p,hp=>by
   simp only [covL,List.mem_singleton] at hp
   subst hp
   exact ⟨Nat.le_refl _,Nat.le_refl _⟩
 | f+1,l,lo,hi,p,hp=>by
   unfold covL at hp
   by_cases he:lo=hi
   · rw [if_pos he] at hp
     simp only [List.mem_singleton] at hp
     subst hp
     exact ⟨Nat.le_refl _,by simp⟩
   · rw [if_neg he] at hp
     simp only [List.mem_append] at hp
     rcases hp with hp | hp | hp
     · split at hp
       · simp only [List.mem_singleton] at hp; subst hp; exact ⟨Nat.le_refl _,by simp⟩
       · cases hp
     · by_cases hc:(if hi % 2=0 then hi - 1 else hi) < (if lo % 2=1 then lo+1 else lo)
       · rw [if_pos hc] at hp; cases hp
       · rw [if_neg hc] at hp
         have:=cov_lev f (l+1) _ _ p hp
         omega
     · split at hp
       · simp only [List.mem_singleton] at hp; subst hp; exact ⟨Nat.le_refl _,by simp⟩
       · cases hp
theorem cov_len:∀ (f l:Nat) (lo hi:Int),(covL f l lo hi).length≤2*f+1
 | 0,_,_,_=>Nat.le_refl _
 | f+1,l,lo,hi=>by
   unfold covL
   split
   · simp
   · have:=cov_len f (l+1) ((if lo % 2=1 then lo+1 else lo) / 2) ((if hi % 2=0 then hi - 1 else hi) / 2)
     simp only [List.length_append]
     split <;> split <;> split <;> simp_all <;> omega
theorem cov_bd:∀ (f l:Nat) (lo hi:Int),0≤lo→lo≤hi→hi < 2 ^ f→∀ p∈covL f l lo hi,0≤p.2∧p.2 < 2 ^ (l+f - p.1)
 | 0,l,lo,hi,h0,h1,h2,p,hp=>by
   have h2':hi < 1:=h2
   simp only [covL,List.mem_singleton] at hp
   subst hp
   refine ⟨h0, ?_⟩
   show lo < 2 ^ (l+0 - l)
   rw [Nat.add_zero,Nat.sub_self]
   show lo < 1
   omega
 | f+1,l,lo,hi,h0,h1,h2,p,hp=>by
   have hh:=h2
   rw [pw_succ] at h2
   unfold covL at hp
   by_cases he:lo=hi
   · rw [if_pos he] at hp
     simp only [List.mem_singleton] at hp
     subst hp
     refine ⟨h0, ?_⟩
     show lo < 2 ^ (l+(f+1) - l)
     rw [show l+(f+1) - l=f+1 by omega]; omega
   · rw [if_neg he] at hp
     simp only [List.mem_append] at hp
     rcases hp with hp | hp | hp
     · split at hp
       · simp only [List.mem_singleton] at hp; subst hp
         refine ⟨h0, ?_⟩
         show lo < 2 ^ (l+(f+1) - l)
         rw [show l+(f+1) - l=f+1 by omega]; omega
       · cases hp
     · have h3:0≤(if lo % 2=1 then lo+1 else lo):=by split <;> omega
       have h4:(if hi % 2=0 then hi - 1 else hi)≤hi:=by split <;> omega
       generalize (if lo % 2=1 then lo+1 else lo)=a at *
       generalize (if hi % 2=0 then hi - 1 else hi)=b at *
       by_cases hc:b < a
       · rw [if_pos hc] at hp; cases hp
       · rw [if_neg hc] at hp
         have:=cov_bd f (l+1) (a / 2) (b / 2) (by omega) (by omega) (by omega) p hp
         rw [show l+1+f=l+(f+1) by omega] at this
         exact this
     · split at hp
       · simp only [List.mem_singleton] at hp; subst hp
         refine ⟨by omega, ?_⟩
         show hi < 2 ^ (l+(f+1) - l)
         rw [show l+(f+1) - l=f+1 by omega]; omega
       · cases hp
theorem cov_self (f l:Nat) (i:Int):covL f l i i=[(l,i)]:=by
 cases f with
 | zero=>rfl
 | succ f=>unfold covL; rw [if_pos rfl]
end Go.Proofs.YtmalncfcgcebhaaGreatDoor
