/- Part. No condition. -/
import Derived.Test.YtmalncfcgcebhaaGreatDoorDTopAnswers13
import Derived.Test.YtmalncfcgcebhaaGreatDoorDTopAnswers8
import Derived.Test.YtmalncfcgcebhaaGreatDoorDTopAnswers1
import Derived.Test.YtmalncfcgcebhaaGreatDoorDTopAnswers3
import Derived.Shelf.SlIterI.Sorted
import Derived.Shelf.SortM.Plain
import Derived.Shelf.SortM.SortNone
import Derived.Defers
import Derived.Recover
import Derived.Laws.Pointers
import Derived.Great.BuildSlice
namespace Go.Proofs.YtmalncfcgcebhaaGreatDoor
set_option linter.unusedVariables false
open Go.Proofs Go.RowKit
set_option maxRecDepth 20000 in
set_option maxHeartbeats 16000000 in
theorem LTextNeg_c (z:Int) (h0:z < 0) (h1:-730750818665451459101842416358141509827966271488 < z) (w:World) :
 Calls Tryz.prog 75 #[longV z] w fun e w'=>e=.returned (strV (45 :: Lib.decDigits (-z).toNat))∧Ext w w':=by
 have hb:∀ w1,Calls Tryz.prog 113 #[longV z] w1 fun e w'=>e=.returned (.bool true)∧Ext w1 w':=fun w1=>by
  have hd:=dg_bd z 9
  have:=Below_c (dg z) hd.1 hd.2 w1
  rw [decide_eq_true (by rw [dg9]; omega)] at this
  exact this
 have HB:=Lib.hid hb
 have HMI:=fun w1=>Lib.hid (LMinus_c z w1)
 obtain ⟨y,hy⟩:∃ y,y=-z:=⟨_,rfl⟩
 rw [← hy] at HMI ⊢
 have g0:0≤y:=by omega
 have g1:y < 730750818665451459101842416358141509827966271488:=by omega
 have hdl:(Lib.decDigits y.toNat).length≤60:=dec_len 59 _ (by
  have h5:(10:Nat) ^ (59+1)=1000000000000000000000000000000000000000000000000000000000000:=by decide
  omega)
 clear hb hy
 unfold longV longA at HB HMI ⊢
 have hbx:=heap_at w (.cells #[.int .i64 (dg z 0),.int .i64 (dg z 1),.int .i64 (dg z 2),.int .i64 (dg z 3),.int .i64 (dg z 4),.int .i64 (dg z 5),.int .i64 (dg z 6),.int .i64 (dg z 7),.int .i64 (dg z 8),.int .i64 (dg z 9)] 155) rfl
 have hxa:=Ext.alloc' w (.cells #[.int .i64 (dg z 0),.int .i64 (dg z 1),.int .i64 (dg z 2),.int .i64 (dg z 3),.int .i64 (dg z 4),.int .i64 (dg z 5),.int .i64 (dg z 6),.int .i64 (dg z 7),.int .i64 (dg z 8),.int .i64 (dg z 9)] 155)
 go_enter Tryz.func75,Tryz.ntmps75
 go_wp2_with fail
 refine Calls.mono (HB.out _) ?_
 rintro e w1 ⟨rfl,hx1⟩
 have hb1:=hx1.keep hbx
 have hxb:=hxa.trans' hx1
 clear hbx hxa hx1
 have r0:=(cell_of hb1 0).trans rfl
 have r1:=(cell_of hb1 1).trans rfl
 have r2:=(cell_of hb1 2).trans rfl
 have r3:=(cell_of hb1 3).trans rfl
 have r4:=(cell_of hb1 4).trans rfl
 have r5:=(cell_of hb1 5).trans rfl
 have r6:=(cell_of hb1 6).trans rfl
 have r7:=(cell_of hb1 7).trans rfl
 have r8:=(cell_of hb1 8).trans rfl
 have r9:=(cell_of hb1 9).trans rfl
 have bl:=lt_of hb1
 have HB1:=Lib.hid hb1
 have HX1:=Lib.hid hxb
 clear hb1 hxb
 go_wp2_with fail
 refine Calls.mono (HMI _).out ?_
 rintro e w2 ⟨rfl,hx2⟩
 have hb2:=hx2.keep HB1.out
 have hxc:=HX1.out.trans' hx2
 clear hx2 r0 r1 r2 r3 r4 r5 r6 r7 r8 r9 bl
 have hb1:=hb2
 clear hb2
 have r0:=(cell_of hb1 0).trans rfl
 have r1:=(cell_of hb1 1).trans rfl
 have r2:=(cell_of hb1 2).trans rfl
 have r3:=(cell_of hb1 3).trans rfl
 have r4:=(cell_of hb1 4).trans rfl
 have r5:=(cell_of hb1 5).trans rfl
 have r6:=(cell_of hb1 6).trans rfl
 have r7:=(cell_of hb1 7).trans rfl
 have r8:=(cell_of hb1 8).trans rfl
 have r9:=(cell_of hb1 9).trans rfl
 have f0:=frozen_of hb1 0
 have f1:=frozen_of hb1 1
 have f2:=frozen_of hb1 2
 have f3:=frozen_of hb1 3
 have f4:=frozen_of hb1 4
 have f5:=frozen_of hb1 5
 have f6:=frozen_of hb1 6
 have f7:=frozen_of hb1 7
 have f8:=frozen_of hb1 8
 have f9:=frozen_of hb1 9
 have bl:=lt_of hb1
 have HB2:=Lib.hid hb1
 have HX2:=Lib.hid hxc
 clear hb1 hxc
 have hf:=fin10 (Φ:=fun W'=>W'.heap[w.heap.size]?=some (.cells #[.int .i64 (dg y 0),.int .i64 (dg y 1),.int .i64 (dg y 2),.int .i64 (dg y 3),.int .i64 (dg y 4),.int .i64 (dg y 5),.int .i64 (dg y 6),.int .i64 (dg y 7),.int .i64 (dg y 8),.int .i64 (dg y 9)] 155 (0,0))∧Ext w W') HB2.out HX2.out (Nat.le_refl _) (fun W' h1 h2=>⟨h1,h2⟩)
 have HFI:=Lib.hid hf
 clear hf
 go_upto_region 5 with (fail)
 generalize hW3:(World.setCell (World.setCell (World.setCell (World.setCell (World.setCell (World.setCell (World.setCell (World.setCell (World.setCell (World.setCell w2 ⟨w.heap.size,0,none⟩ (.int .i64 (dg y 0))) ⟨w.heap.size,1,none⟩ (.int .i64 (dg y 1))) ⟨w.heap.size,2,none⟩ (.int .i64 (dg y 2))) ⟨w.heap.size,3,none⟩ (.int .i64 (dg y 3))) ⟨w.heap.size,4,none⟩ (.int .i64 (dg y 4))) ⟨w.heap.size,5,none⟩ (.int .i64 (dg y 5))) ⟨w.heap.size,6,none⟩ (.int .i64 (dg y 6))) ⟨w.heap.size,7,none⟩ (.int .i64 (dg y 7))) ⟨w.heap.size,8,none⟩ (.int .i64 (dg y 8))) ⟨w.heap.size,9,none⟩ (.int .i64 (dg y 9)))=W3 at HFI ⊢
 have hm0:W3.heap[w.heap.size]?=some (.cells (mixT y 10) 155 (0,0)):=by
  rw [mixT_top,fill10]
  exact HFI.out.1
 have HM0:=Lib.hid hm0
 have HX0:=Lib.hid HFI.out.2
 clear hW3 HFI HB2 hm0 bl r0 r1 r2 r3 r4 r5 r6 r7 r8 r9 f0 f1 f2 f3 f4 f5 f6 f7 f8 f9
 go_wp2_with fail
 go_loopw [4,5,6,7,8] (fun u4 u5 _ _ _ wr=>∃ (yk:Int) (sk:List UInt8) (zb:Bool),u4=strV sk∧u5=.bool zb∧wr.heap[w.heap.size]?=some (.cells (mixT yk 10) 155 (0,0))∧Ext w wr∧0≤yk∧yk < 730750818665451459101842416358141509827966271488∧(zb=false → Lib.decDigits yk.toNat ++ sk=Lib.decDigits y.toNat)∧(zb=true → sk=Lib.decDigits y.toNat)∧sk.length≤400∧(sk=[] → zb=false)) (fun u4 _ _ _ _ _=>(Lib.decDigits y.toNat).length - lenV u4)
 case atStart =>
  exact ⟨y,[],false,rfl,rfl,HM0.out,HX0.out,g0,g1,fun _=>List.append_nil _,(fun h=>(by cases h)),Nat.zero_le _,fun _=>rfl⟩
 case round =>
  obtain ⟨yk,sk,zb,rfl,rfl,hm,hE,hy0,hy1,hz0,hz1,hsl,hs0⟩:=hrel
  have HZ0:=Lib.hid hz0
  have HZ1:=Lib.hid hz1
  have HM:=Lib.hid hm
  clear hz0 hz1 hm
  cases zb with
  | true =>
    have hsn:sk ≠ []:=fun h=>by cases hs0 h
    have hsk:=HZ1.out rfl
    obtain ⟨b,hb⟩:∃ b:ByteArray,b=⟨sk.toArray⟩:=⟨_,rfl⟩
    have hbe:b.toList.isEmpty=false:=by
     rw [hb,Lib.toList_data]
     simpa using hsn
    have hbz:b.size≤400:=by
     rw [hb,Lib.size_eq]
     simpa using hsl
    have hcat:(⟨#[45]⟩:ByteArray) ++ b=⟨(45 :: Lib.decDigits y.toNat).toArray⟩:=by
     rw [hb,← hsk]
     exact cat_str [45] sk
    have HC:=Lib.hid hcat
    rw [show strV sk=.string b from congrArg Value.string hb.symm]
    clear hsk hsn hs0 hcat hb
    go_wp2
    go_ret
    exact ⟨congrArg Ending.returned (congrArg Value.string HC.out),hE⟩
  | false =>
    go_wp2_with fail
    go_loopw [5,6,7,8] (fun u5 u6 u7 _ wx=>∃ k:Nat,k≤10∧u7=.int .i64 ((k:Int) - 1)∧u5=.bool (zeroT yk k)∧u6=.int .i64 (rt yk k)∧wx.heap[w.heap.size]?=some (.cells (mixT yk k) 155 (0,0))∧Ext w wx) (fun _ _ u7 _ _=>(intOf u7+1).toNat)
    case atStart =>
     exact ⟨10,Nat.le_refl _,rfl,by rw [zeroT_top],by rw [rt_top yk hy0 (by omega)],HM.out,hE⟩
    case round =>
     obtain ⟨k,hk,rfl,rfl,rfl,hmx,hEx⟩:=hrel
     by_cases hk0:0 < k
     · obtain ⟨j,rfl⟩:∃ j,k=j+1:=⟨k - 1,by omega⟩
       have hkj:((j+1:Nat):Int) - 1=j:=by omega
       rw [hkj]
       clear hkj
       have c0:=(cell_of hmx j).trans (mixT_at yk (j+1) j (by omega))
       rw [if_pos (Nat.lt_succ_self j)] at c0
       have f0:=frozen_of hmx j
       have l0:=lt_of hmx
       have hsame:=setCell_same hmx j (.int .i64 (dg (yk / 10) j))
       rw [mixT_set yk j (by omega)] at hsame
       have htz:=zeroT_step yk (show j < 10 by omega)
       obtain ⟨t1,t2⟩:=ten_step yk j
       have hd1:=dg_bd yk j
       have hd2:=rt_bd yk (j+1)
       have hd3:=dg_bd (yk / 10) j
       have hd4:=rt_bd yk j
       obtain ⟨d1,d2⟩:=hd1
       obtain ⟨d3,d4⟩:=hd2
       generalize hR:rt yk (j+1)=R at *
       generalize hD:dg yk j=D at *
       generalize hD2:dg (yk / 10) j=D2 at *
       generalize hR2:rt yk j=R2 at *
       generalize hZ:zeroT yk (j+1)=Z at *
       generalize hZ2:zeroT yk j=Z2 at *
       have HMX:=Lib.hid hsame
       have HR2:=Lib.hid hR2
       have HZ2:=Lib.hid hZ2
       have HX2:=Lib.hid (hEx.setR (p:=⟨w.heap.size,j,none⟩) (Nat.le_refl _) (.int .i64 D2))
       clear hmx hsame hR hD hD2 hR2 hZ hZ2
       cases Z
       · go_wp2_with fail
         go_roundw
         case rel =>
          exact ⟨j,by omega,rfl,by rw [HZ2.out,htz]; rfl,by rw [HR2.out,← t2],HMX.out,HX2.out⟩
         case measure=>simp only [intOf]; omega
       · by_cases hz:D2=0
         · subst hz
           go_wp2_with fail
           go_roundw
           case rel =>
            exact ⟨j,by omega,rfl,by rw [HZ2.out,htz]; rfl,by rw [HR2.out,← t2],HMX.out,HX2.out⟩
           case measure=>simp only [intOf]; omega
         · go_wp2_with fail
           go_roundw
           case rel =>
            exact ⟨j,by omega,rfl,by rw [HZ2.out,htz,Bool.true_and,beq_eq_false_iff_ne.2 hz],by rw [HR2.out,← t2],HMX.out,HX2.out⟩
           case measure=>simp only [intOf]; omega
     · obtain rfl:k=0:=by omega
       have e0:((0:Nat):Int) - 1=-1:=rfl
       rw [e0,rt_zero]
       have hlen:(strV sk)=.string ⟨sk.toArray⟩:=rfl
       obtain ⟨b,hb⟩:∃ b:ByteArray,b=⟨sk.toArray⟩:=⟨_,rfl⟩
       have hbz:b.size≤400:=by
        rw [hb,Lib.size_eq]
        simpa using hsl
       rw [show strV sk=.string b from congrArg Value.string hb.symm]
       have HB3:=Lib.hid hb
       have HMX:=Lib.hid hmx
       clear hb hmx hlen
       have kc:=conv_one
       have hsz:(strOfNums [48+yk % 10]).size=1:=rfl
       go_wp2
       go_roundw
       case rel =>
        have hst:strOfNums [48+yk % 10] ++ b=⟨(UInt8.ofNat (48+yk.toNat % 10) :: sk).toArray⟩:=by
         rw [HB3.out]
         refine (cat_str [UInt8.ofNat (48+yk % 10).toNat] sk).trans ?_
         have:(48+yk % 10).toNat=48+yk.toNat % 10:=by omega
         rw [this]
         rfl
        have hcon:Lib.decDigits yk.toNat ++ sk=Lib.decDigits y.toNat:=by first | exact HZ0.out rfl | exact HZ0.out trivial
        have hds:=dec_step (y:=yk.toNat) sk
        rw [hcon] at hds
        have hlen:sk.length < (Lib.decDigits y.toNat).length:=by
         rw [← hcon,List.length_append]
         have:=dec_pos' yk.toNat
         omega
        have hq:(yk / 10).toNat=yk.toNat / 10:=by omega
        refine ⟨yk / 10,UInt8.ofNat (48+yk.toNat % 10) :: sk,decide (yk < 10),congrArg Value.string hst,by rw [zeroT_zero hy0 (by omega)], ?_,hEx.allocR _,by omega,by omega, ?_, ?_, ?_, ?_⟩
        · rw [← mixT_end]
          exact (heap_old _ _ (lt_of HMX.out)).trans HMX.out
        · intro h
          have h10:=of_decide_eq_false h
          rw [hq,hds,if_neg (by omega)]
          rfl
        · intro h
          have h10:=of_decide_eq_true h
          rw [if_pos (by omega),show yk.toNat / 10=0 by omega,Lib.decDigits,dif_pos (by decide)] at hds
          exact (List.cons.inj hds).2
        · rw [List.length_cons]; omega
        · intro h; cases h
       case measure =>
        have hcon:Lib.decDigits yk.toNat ++ sk=Lib.decDigits y.toNat:=by first | exact HZ0.out rfl | exact HZ0.out trivial
        have hlen:sk.length < (Lib.decDigits y.toNat).length:=by
         rw [← hcon,List.length_append]
         have:=dec_pos' yk.toNat
         omega
        have hbl:b.size=sk.length:=by rw [HB3.out,Lib.size_eq]
        have:(strOfNums [48+yk % 10] ++ b).size=1+b.size:=by rw [ByteArray.size_append]; rfl
        have hls:lenV (strV sk)=sk.length:=by
         show (ByteArray.mk sk.toArray).size=_
         rw [Lib.size_eq]
        rw [hls]
        simp only [lenV,this,hbl]
        omega
theorem RTextZ_c (n:Int) (hn:I64 n) (w:World):Calls Tryz.prog 40 #[.int .i64 n] w fun e w'=>e=.returned (strV (Lib.itoa n))∧Ext w w':=by
 by_cases h0:0≤n
 · exact RText_c n h0 hn.2 w
 · have hI:=hn.1
   have HO:=fun w'=>Lib.hid (OfInt_c n hn w')
   have HT:=fun w'=>Lib.hid (LTextNeg_c n (by omega) (by omega) w')
   have hit:Lib.itoa n=45 :: Lib.decDigits (-n).toNat:=by
    unfold Lib.itoa
    rw [if_pos (by omega)]
    congr 2
    omega
   rw [hit]
   clear hit
   go_enter Tryz.func40,Tryz.ntmps40
   go_wp2_with fail
   refine Calls.mono (HO _).out ?_
   rintro e w1 ⟨rfl,hx1⟩
   have HX1:=Lib.hid hx1
   clear hx1
   have hlv:∃ v,longV n=.agg v:=⟨_,rfl⟩
   generalize longV n=V at *
   obtain ⟨v,rfl⟩:=hlv
   go_wp2_with fail
   refine Calls.mono (HT _).out ?_
   rintro e w2 ⟨rfl,hx2⟩
   unfold strV
   go_wp2
   go_ret
   exact ⟨rfl,HX1.out.trans' hx2⟩
end Go.Proofs.YtmalncfcgcebhaaGreatDoor
namespace Go.Proofs.YtmalncfcgcebhaaGreatDoor
set_option linter.unusedVariables false
open Go.Proofs Go.RowKit
theorem doA_last (S:St) (c:Cmd):(doA S c).2.last≤S.last+1:=by
 cases c with
 | create B R W M s =>
   show (createF S _).2.last≤_
   unfold createF madeF
   repeat' split
   all_goals simp
 | add h nm name key d =>
   show (addF S h nm key d).2.last≤_
   unfold addF
   repeat' split
   all_goals simp
 | query what h l =>
   show (if what=⟨#[100,114,111,112]⟩ then dropF S h else totalF S h).2.last≤_
   unfold dropF totalF
   repeat' split
   all_goals simp
 | _=>exact Nat.le_succ _
theorem lineF_P {D:St → Cmd → (Option Rep × Int) × St} {P:St → Prop} (hD:∀ S c,P S → P (D S c).2) (S:St) (l:List UInt8) (h:P S):P (lineF D S l).2:=by
 unfold lineF
 generalize parseS ⟨l.toArray⟩=R
 obtain ⟨r,at_,c⟩:=R
 dsimp only
 split
 · cases r with
   | none=>exact h
   | some x=>exact hD S x h
 · exact h
theorem lineF_last {D:St → Cmd → (Option Rep × Int) × St} (hD:∀ S c,(D S c).2.last≤S.last+1) (S:St) (l:List UInt8):(lineF D S l).2.last≤S.last+1:=by
 unfold lineF
 generalize parseS ⟨l.toArray⟩=R
 obtain ⟨r,at_,c⟩:=R
 dsimp only
 split
 · cases r with
   | none=>exact Nat.le_succ _
   | some x=>exact hD S x
 · exact Nat.le_succ _
theorem run_P {F:St → List UInt8 → Option (List UInt8) × St} {P:St → Prop} (hF:∀ S l,P S → P (F S l).2) {S:St} (h:P S) (L:List (List UInt8)):P (runK F S L).2:=by
 have key:∀ (L:List (List UInt8)) (q:List (List UInt8) × St),P q.2 → P (L.foldl (stepR F) q).2:=by
  intro L
  induction L with
  | nil=>intro q hq; exact hq
  | cons x L ih=>intro q hq; exact ih _ (hF _ _ hq)
 exact key L ([],S) h
theorem run_last {F:St → List UInt8 → Option (List UInt8) × St} (hF:∀ S l,(F S l).2.last≤S.last+1) (S:St) (L:List (List UInt8)):(runK F S L).2.last≤S.last+L.length:=by
 have key:∀ (L:List (List UInt8)) (q:List (List UInt8) × St),(L.foldl (stepR F) q).2.last≤q.2.last+L.length:=by
  intro L
  induction L with
  | nil=>intro q; exact Nat.le_refl _
  | cons x L ih =>
    intro q
    have h1:=ih (stepR F q x)
    have h2:(stepR F q x).2.last≤q.2.last+1:=hF _ _
    rw [List.foldl_cons,List.length_cons]
    omega
 exact key L ([],S)
def okAB:Cmd → Bool
 | .create _ _ _ _ s=>decide (0≤s∧s≤18446744073709551615)
 | .add h _ _ key d=>decide ((-9223372036854775808≤h∧h≤9223372036854775807)∧(0≤key∧key≤18446744073709551615)∧(-9223372036854775808≤d∧d≤9223372036854775807))
 | .query what h _=>(decide (what=⟨#[100,114,111,112]⟩) || decide (what=⟨#[116,111,116,97,108]⟩)) && decide (-9223372036854775808≤h∧h≤9223372036854775807)
 | _=>false
theorem okA_of {c:Cmd} (h:okAB c=true):okA c:=by
 cases c with
 | create B R W M s =>
   have:=of_decide_eq_true h
   unfold okA U64; omega
 | add k nm name key d =>
   have h3:decide ((-9223372036854775808≤k∧k≤9223372036854775807)∧(0≤key∧key≤18446744073709551615)∧(-9223372036854775808≤d∧d≤9223372036854775807))=true:=h
   have h4:=of_decide_eq_true h3
   unfold okA I64 U64; omega
 | query what k l =>
   have h2:=h
   unfold okAB at h2
   rw [Bool.and_eq_true,Bool.or_eq_true,decide_eq_true_iff,decide_eq_true_iff,decide_eq_true_iff] at h2
   exact h2
 | _=>cases h
def okL (l:List UInt8):Bool :=
 match parseS ⟨l.toArray⟩ with
 | (r,at_,c)=>decide (l.length≤100000∧(-9223372036854775808≤at_∧at_≤9223372036854775807)∧(-9223372036854775808≤c∧c≤9223372036854775807)) && (match r with | none=>true | some x=>decide (c=0) && okAB x)
theorem okL_is {S:St} (hS:AllSt S) (hl:S.last < 1000000) {s:ByteArray} (h:okL s.data.toList=true):LineIs S s (lineF doA S s.data.toList):=by
 have e1:(⟨s.data.toList.toArray⟩:ByteArray)=s:=by cases s; simp
 unfold okL at h
 rw [e1] at h
 have h5:∀ r at_ c,parseS s=(r,at_,c) → (decide (s.data.toList.length≤100000∧(-9223372036854775808≤at_∧at_≤9223372036854775807)∧(-9223372036854775808≤c∧c≤9223372036854775807)) && (match r with | none=>true | some x=>decide (c=0) && okAB x))=true:=by
  intro r at_ c he
  rw [he] at h
  exact h
 have h6:=h5 (parseS s).1 (parseS s).2.1 (parseS s).2.2 rfl
 rw [Bool.and_eq_true,decide_eq_true_iff] at h6
 obtain ⟨⟨h7,h8,h9⟩,h10⟩:=h6
 refine lineF_is ?_ ⟨h8,h9⟩ ?_ ?_
 · rw [Lib.size_eq]; omega
 · intro hn
   cases hr:(parseS s).1 with
   | none=>rfl
   | some x =>
     rw [hr] at h10
     simp only [Bool.and_eq_true,decide_eq_true_iff] at h10
     exact absurd h10.1 hn
 · intro c hc
   rw [hc] at h10
   simp only [Bool.and_eq_true,decide_eq_true_iff] at h10
   exact doA_is S hS hl c (okA_of h10.2)
theorem all0:AllSt st0:=fun x hx=>by cases hx
end Go.Proofs.YtmalncfcgcebhaaGreatDoor
namespace Go.Proofs.YtmalncfcgcebhaaGreatDoor
set_option linter.unusedVariables false
open Go.Proofs Go.RowKit
attribute [local go_sem] Oper.semAt_some
theorem own_any {w:World} {base g:Nat} {e:TypeId} {n cap:Nat} {xs:List Value} (h:w.ownsRow base e 1 (.slice (some ⟨g,0,none⟩) n cap) n xs):g < w.heap.size∧∀ j (hj:j < n) v,xs[j]?=some v → w.cell? ⟨g,j,none⟩=some v:=by
 obtain ⟨h1,⟨h2,_⟩ | ⟨g',cap',cur,h2,h3,h4,h5,h6,h7,h8⟩⟩:=h
 · cases h2
 · cases h2
   refine ⟨lt_of h4,fun j hj v hv=>?_⟩
   rw [cell_of h4]
   rw [← h8,Nat.mul_one,List.getElem?_take,if_pos hj] at hv
   rw [← hv,Array.getElem?_toList]
theorem own_some {w:World} {base:Nat} {e:TypeId} {v:Value} {n:Nat} {xs:List Value} (h:w.ownsRow base e 1 v n xs) (hn:n ≠ 0):∃ g cap,v=.slice (some ⟨g,0,none⟩) n cap:=by
 obtain ⟨h1,⟨h2,h3⟩ | ⟨g',cap',cur,h2,h3⟩⟩:=h
 · exact absurd h3 hn
 · exact ⟨_,_,h2⟩
end Go.Proofs.YtmalncfcgcebhaaGreatDoor
namespace Go.Proofs.YtmalncfcgcebhaaGreatDoor
set_option linter.unusedVariables false
open Go.Proofs Go.RowKit
attribute [local go_sem] Oper.semAt_some
theorem and_FFFF {x:Int} (h:I64 x):bits BinOp.and IntKind.i64 x 65535=x % 65536:=by
 show IntKind.i64.wrap ((BitVec.ofInt 64 x &&& BitVec.ofInt 64 65535).toNat:Int)=_
 rw [BitVec.toNat_and,show (BitVec.ofInt 64 65535).toNat=2 ^ 16 - 1 from rfl,Nat.and_two_pow_sub_one_eq_mod,BitVec.toNat_ofInt,IntKind.wrap_i64]
 omega
end Go.Proofs.YtmalncfcgcebhaaGreatDoor
namespace Go.Proofs.YtmalncfcgcebhaaGreatDoor
set_option linter.unusedVariables false
open Go.Proofs Go.RowKit
theorem TText_c (n:Int) (hn:I64 n) (w:World):Calls Tryz.prog 16 #[.int .i64 n] w fun e w'=>e=.returned (strV (Lib.itoa n))∧Ext w w':=by
 have HT:=fun w'=>Lib.hid (RTextZ_c n hn w')
 go_enter Tryz.func16,Tryz.ntmps16
 go_wp2_with fail
 refine Calls.mono (HT _).out ?_
 rintro e w2 ⟨rfl,hx2⟩
 unfold strV
 go_wp2
 go_ret
 exact ⟨rfl,hx2⟩
theorem THandle_c (h:Int) (hh:I64 h) (w:World):Calls Tryz.prog 14 #[.int .i64 h] w fun e w'=>e=.returned (.int .i64 (h % 65536 % 3))∧w'=w:=by
 have ha:=and_FFFF hh
 have hb:0≤h % 65536∧h % 65536 < 65536:=by omega
 go_enter Tryz.func14,Tryz.ntmps14
 go_wp2
 go_ret
 exact ⟨rfl,rfl⟩
def smallZ (mode d:Int):Int:=if mode=2 then max (d.tmod 1048576) (-(d.tmod 1048576)) else d.tmod 1048576
theorem tmod_b20 {d k:Int} (hk:0 < k):-k < d.tmod k∧d.tmod k < k:=by
 have h1:=Int.tmod_lt_of_pos d hk
 have h2:=Int.lt_tmod_of_pos d hk
 omega
theorem TSmall_c (C:Cfg) (d:Int) (hd:I64 d) (w:World):Calls Tryz.prog 96 #[.agg #[.int .i64 C.bits,.int .i64 C.rows,.int .i64 C.width,.int .i64 C.mode,.int .u64 C.seed],.int .i64 d] w fun e w'=>e=.returned (.int .i64 (smallZ C.mode d))∧Ext w w':=by
 have hb:=tmod_b20 (d:=d) (k:=1048576) (by decide)
 have HZ:Hid (smallZ C.mode d=if C.mode=2 then max (d.tmod 1048576) (-(d.tmod 1048576)) else d.tmod 1048576):=Lib.hid rfl
 have hx:=Ext.alloc' w (.cells #[.int .i64 C.bits,.int .i64 C.rows,.int .i64 C.width,.int .i64 C.mode,.int .u64 C.seed] 24)
 obtain ⟨h1,h2⟩:=hb
 have hng:wrap64 (-d.tmod 1048576)=-d.tmod 1048576:=by unfold wrap64; omega
 clear hx
 by_cases hm:C.mode=2
 · have hmb:(C.mode == 2)=true:=by simpa using hm
   go_enter Tryz.func96,Tryz.ntmps96
   go_wp2
   go_ret
   rw [HZ.out,if_pos hm]
   exact ⟨rfl,Ext.alloc' _ _⟩
 · have hmb:(C.mode == 2)=false:=by simpa using hm
   go_enter Tryz.func96,Tryz.ntmps96
   go_wp2
   go_ret
   rw [HZ.out,if_neg hm]
   exact ⟨rfl,Ext.alloc' _ _⟩
end Go.Proofs.YtmalncfcgcebhaaGreatDoor
namespace Go.Proofs.YtmalncfcgcebhaaGreatDoor
set_option linter.unusedVariables false
open Go.Proofs Go.RowKit
set_option maxRecDepth 20000 in
set_option maxHeartbeats 4000000 in
theorem TNumber_c (n:Int) (hn:I64 n) (wd:List UInt8) (s word:ByteArray) (hw:word.data.toList=wd) (hs:s.data.toList=wd ++ Lib.itoa n) (hl:wd.length≤1000) (w:World) :
 Calls Tryz.prog 27 #[.string s,.string word] w fun e w'=>e=.returned (.tuple #[.int .i64 n,.bool true])∧w'=w:=by
 have hi:=Lib.itoa_length_le n hn.1 hn.2
 have hi0:0 < (Lib.itoa n).length:=by
  unfold Lib.itoa
  split
  · simp
  · exact dec_pos' _
 have hws:word.size=wd.length:=by rw [Lib.size_eq,hw]
 have hss:s.size=wd.length+(Lib.itoa n).length:=by rw [Lib.size_eq,hs,List.length_append]
 have hlt:word.size < s.size:=by omega
 have hsz:s.size≤2000:=by omega
 have e1:(s.extract 0 word.size).data.toList=wd:=by
  rw [Lib.extract_data,hs,hws]
  simp
 have e2:(s.extract word.size s.size).data.toList=Lib.itoa n:=by
  rw [Lib.extract_data,hs,hws,hss]
  simp
 have hcmp:((s.extract 0 word.size).toList == word.toList)=true:=by
  rw [Lib.toList_data,Lib.toList_data,e1,hw]
  exact beq_self_eq_true _
 have HN:=Lib.hid (RNumT_c n hn _ e2 w)
 clear e1 e2 hw hs hi hi0 hws hss hl
 go_enter Tryz.func27,Tryz.ntmps27
 go_wp2_with fail
 refine Calls.mono HN.out ?_
 rintro e w1 ⟨rfl,rfl⟩
 go_wp2
 go_ret2
 exact ⟨rfl,rfl⟩
end Go.Proofs.YtmalncfcgcebhaaGreatDoor
namespace Go.Proofs.YtmalncfcgcebhaaGreatDoor
set_option linter.unusedVariables false
open Go.Proofs Go.RowKit
structure TWAt (w:World) (p a:Nat) (C:Cfg) (f:Nat → Nat → Int):Prop where
 ex:∃ cur,w.heap[p]?=some (.cells cur 36 (0,0))∧cur[0]?=some (.pointer (some ⟨a,0,none⟩))∧cur[1]?=some (.int .i64 C.bits)∧cur[2]?=some (.int .i64 C.rows)∧cur[3]?=some (.int .i64 C.width)∧cur[4]?=some (.int .i64 C.mode)∧cur[5]?=some (.int .u64 C.seed) ∧
  ∀ h i,h < 3 → i < 64 → cur[6+h * 64+i]?=some (.int .i64 (f h i))
 bd:∀ h i,h < 3 → i < 64 → -1125899906842624≤f h i∧f h i≤1125899906842624
theorem TWAt.cell {w:World} {p a:Nat} {C:Cfg} {f:Nat → Nat → Int} (H:TWAt w p a C f) {h i:Nat} (hh:h < 3) (hi:i < 64):w.cell? ⟨p,6+h * 64+i,none⟩=some (.int .i64 (f h i)):=by
 obtain ⟨cur,h1,_,_,_,_,_,_,h2⟩:=H.ex
 rw [cell_of h1]
 exact h2 h i hh hi
theorem TWAt.lt {w:World} {p a:Nat} {C:Cfg} {f:Nat → Nat → Int} (H:TWAt w p a C f):p < w.heap.size:=by
 obtain ⟨cur,h1,_⟩:=H.ex
 exact lt_of h1
def massT (f:Nat → Int) (lv:Nat) (idx:Int):Nat → Int
 | 0=>0
 | k+1=>massT f lv idx k+(if ((k / 2 ^ lv:Nat):Int)=idx then f k else 0)
theorem massT_bd {f:Nat → Int} (hf:∀ i,i < 64 → -1125899906842624≤f i∧f i≤1125899906842624) (lv:Nat) (idx:Int):∀ k,k≤64 → -(1125899906842624 * k)≤massT f lv idx k∧massT f lv idx k≤1125899906842624 * k:=by
 intro k
 induction k with
 | zero=>intro _; simp [massT]
 | succ k ih =>
   intro hk
   have h1:=ih (by omega)
   have h2:=hf k (by omega)
   unfold massT
   split <;> omega
set_option maxRecDepth 20000 in
set_option maxHeartbeats 4000000 in
theorem TMass_c {p a:Nat} {C:Cfg} {f:Nat → Nat → Int} {w:World} (H:TWAt w p a C f) (h:Nat) (hh:h < 3) (lv:Nat) (hlv:lv≤6) (idx:Int) (hidx:U64 idx) :
 Calls Tryz.prog 22 #[.pointer (some ⟨p,0,none⟩),.int .i64 (h:Nat),.agg #[.int .i64 (lv:Nat),.int .u64 idx]] w fun e w'=>e=.returned (.int .i64 (massT (f h) lv idx 64))∧Ext w w':=by
 have HH:=Lib.hid H
 have hbm:=fun k hk=>massT_bd (fun i hi=>H.bd h i hh hi) lv idx k hk
 have HBM:=Lib.hid hbm
 have hb:=heap_at w (.cells #[.int .i64 (lv:Nat),.int .u64 idx] 52) rfl
 have hx:=Ext.alloc' w (.cells #[.int .i64 (lv:Nat),.int .u64 idx] 52)
 clear H hbm
 go_enter Tryz.func22,Tryz.ntmps22
 go_wp2_with fail
 obtain ⟨W1,hW1⟩:∃ W1,w.alloc (.cells #[.int .i64 (lv:Nat),.int .u64 idx] 52)=W1:=⟨_,rfl⟩
 rw [hW1] at hb hx ⊢
 have b0:=(cell_of hb 0).trans rfl
 have b1:=(cell_of hb 1).trans rfl
 have bl:=lt_of hb
 have HX:=Lib.hid hx
 clear hb hx hW1
 go_loopw [7,8] (fun u7 u8 wr=>∃ i:Nat,i≤64∧u8=.int .i64 (i:Nat)∧u7=.int .i64 (massT (f h) lv idx i)∧wr=W1) (fun _ u8 _=>64 - (intOf u8).toNat)
 case atStart=>exact ⟨0,by omega,rfl,rfl,by first | rfl | trivial⟩
 case round =>
  obtain ⟨i,hi,rfl,rfl,rfl⟩:=hrel
  by_cases hlt:i < 64
  · have hc:=(HX.out.cell (p:=⟨p,6+h * 64+i,none⟩) HH.out.lt).trans (HH.out.cell hh hlt)
    have hbd:=HBM.out i hi
    have hfb:=HH.out.bd h i hh hlt
    have hnx:massT (f h) lv idx (i+1)=massT (f h) lv idx i+(if ((i / 2 ^ lv:Nat):Int)=idx then f h i else 0):=rfl
    have HNX:=Lib.hid hnx
    generalize f h i=y at *
    generalize massT (f h) lv idx i=s at *
    clear hnx
    have hcast:((i / 2 ^ lv:Nat):Int)=(i:Int) / 2 ^ lv:=by rw [Int.natCast_ediv,Int.natCast_pow]; rfl
    have HC:=Lib.hid hcast
    clear hcast
    by_cases hq:(i:Int) / 2 ^ lv=idx
    · have hb1:((i:Int) / 2 ^ lv == idx)=true:=by simpa using hq
      have HS:Hid (massT (f h) lv idx (i+1)=s+y):=Lib.hid (by rw [HNX.out,HC.out,if_pos hq])
      clear hq
      go_wp2_with fail
      go_roundw
      case rel=>exact ⟨i+1,by omega,by go_num,by rw [HS.out],by first | rfl | trivial⟩
      case measure=>simp [intOf]; omega
    · have hb1:((i:Int) / 2 ^ lv == idx)=false:=by simpa using hq
      have HS:Hid (massT (f h) lv idx (i+1)=s):=Lib.hid (by rw [HNX.out,HC.out,if_neg hq,Int.add_zero])
      clear hq
      go_wp2_with fail
      go_roundw
      case rel=>exact ⟨i+1,by omega,by go_num,by rw [HS.out],by first | rfl | trivial⟩
      case measure=>simp [intOf]; omega
  · obtain rfl:i=64:=by omega
    go_wp2
    go_ret
    exact ⟨rfl,HX.out⟩
end Go.Proofs.YtmalncfcgcebhaaGreatDoor
namespace Go.Proofs.YtmalncfcgcebhaaGreatDoor
set_option linter.unusedVariables false
open Go.Proofs Go.RowKit
def plainT (f:Nat → Int) (k:Nat):Bool:=(List.range k).all fun i=>decide (0≤f i)
theorem plainT_succ (f:Nat → Int) (k:Nat):plainT f (k+1)=(plainT f k && decide (0≤f k)):=by
 unfold plainT
 rw [List.range_succ,List.all_append]
 simp
theorem plainT_no {f:Nat → Int} {k n:Nat} (hk:k < n) (h:f k < 0):plainT f n=false:=by
 rw [Bool.eq_false_iff]
 intro h2
 have:=of_decide_eq_true (List.all_eq_true.1 h2 k (List.mem_range.2 hk))
 omega
set_option maxRecDepth 20000 in
set_option maxHeartbeats 4000000 in
theorem TPlain_c {p a:Nat} {C:Cfg} {f:Nat → Nat → Int} {w:World} (H:TWAt w p a C f) (h:Nat) (hh:h < 3) :
 Calls Tryz.prog 30 #[.pointer (some ⟨p,0,none⟩),.int .i64 (h:Nat)] w fun e w'=>e=.returned (.bool (plainT (f h) 64))∧w'=w:=by
 have HH:=Lib.hid H
 clear H
 go_enter Tryz.func30,Tryz.ntmps30
 go_wp2_with fail
 go_loopw [5] (fun u8 wr=>∃ i:Nat,i≤64∧u8=.int .i64 (i:Nat)∧plainT (f h) i=true∧wr=w) (fun u8 _=>64 - (intOf u8).toNat)
 case atStart=>exact ⟨0,by omega,rfl,rfl,by first | rfl | trivial⟩
 case round =>
  obtain ⟨i,hi,rfl,hpl,rfl⟩:=hrel
  by_cases hlt:i < 64
  · have hc:=HH.out.cell hh hlt
    have HP:=Lib.hid hpl
    by_cases hn:f h i < 0
    · have HF:=Lib.hid (plainT_no hlt hn)
      generalize f h i=y at *
      clear hpl
      go_wp2
      go_ret
      exact ⟨by rw [HF.out]; rfl,by first | rfl | trivial⟩
    · have hs:plainT (f h) (i+1)=true:=by rw [plainT_succ,hpl,decide_eq_true (by omega)]; rfl
      have HS:=Lib.hid hs
      generalize f h i=y at *
      clear hpl hs
      go_wp2_with fail
      go_roundw
      case rel=>exact ⟨i+1,by omega,by go_num,HS.out,by first | rfl | trivial⟩
      case measure=>simp [intOf]; omega
  · obtain rfl:i=64:=by omega
    have HP:=Lib.hid hpl
    clear hpl
    go_wp2
    go_ret
    exact ⟨by rw [HP.out]; rfl,by first | rfl | trivial⟩
end Go.Proofs.YtmalncfcgcebhaaGreatDoor
namespace Go.Proofs.YtmalncfcgcebhaaGreatDoor
set_option linter.unusedVariables false
open Go.RowKit
def FOf (f:Nat → Int) (ps:List (Int × Int)):Prop:=∀ i:Nat,i < 64 → f i=sumIf (fun k=>k == (i:Int)) ps
theorem sh_nat (n K:Nat):sh n (K:Int)=((K / 2 ^ n:Nat):Int):=by
 unfold sh
 rw [Int.natCast_ediv,Int.natCast_pow]
 rfl
theorem mass_part {f:Nat → Int} {ps:List (Int × Int)} (hf:FOf f ps) (hk:∀ u ∈ ps,0≤u.1∧u.1 < 64) (lv:Nat) (idx:Int):∀ K:Nat,K≤64 → massT f lv idx K=sumIf (fun k=>decide (k < (K:Int)) && (sh lv k == idx)) ps
 | 0,_=>by
   show (0:Int)=_
   rw [sumIf_congr (q:=fun _=>false) fun u hu=>by have:=(hk u hu).1; rw [decide_eq_false (by omega)]; rfl]
   exact (sumIf_none ps).symm
 | K+1,hK=>by
   have ih:=mass_part hf hk lv idx K (by omega)
   rw [sumIf_split _ (fun k=>decide (k < (K:Int)))]
   have e1:sumIf (fun k=>(decide (k < ((K+1:Nat):Int)) && (sh lv k == idx)) && decide (k < (K:Int))) ps=massT f lv idx K:=by
    rw [ih]
    refine sumIf_ext ps fun u=>?_
    rw [Bool.eq_iff_iff]; simp only [Bool.and_eq_true,decide_eq_true_eq,beq_iff_eq]
    constructor
    · rintro ⟨⟨_,a⟩,b⟩; exact ⟨b,a⟩
    · rintro ⟨b,a⟩; exact ⟨⟨by omega,a⟩,b⟩
   rw [e1]
   show massT f lv idx K+_=_
   congr 1
   by_cases hi:((K / 2 ^ lv:Nat):Int)=idx
   · rw [if_pos hi,hf K (by omega)]
     refine sumIf_ext ps fun u=>?_
     rw [Bool.eq_iff_iff]; simp only [Bool.and_eq_true,Bool.not_eq_true',decide_eq_true_eq,decide_eq_false_iff_not,beq_iff_eq]
     constructor
     · rintro rfl; exact ⟨⟨by omega,by rw [sh_nat]; exact hi⟩,by omega⟩
     · rintro ⟨⟨a,_⟩,b⟩; omega
   · rw [if_neg hi]
     have:sumIf (fun k=>(decide (k < ((K+1:Nat):Int)) && (sh lv k == idx)) && !decide (k < (K:Int))) ps=sumIf (fun _=>false) ps:=by
      refine sumIf_ext ps fun u=>?_
      rw [Bool.eq_iff_iff]; simp only [Bool.and_eq_true,Bool.not_eq_true',decide_eq_true_eq,decide_eq_false_iff_not,beq_iff_eq,Bool.false_eq_true,iff_false]
      rintro ⟨⟨a,c⟩,b⟩
      have:u=(K:Int):=by omega
      rw [this,sh_nat] at c
      exact hi c
     rw [this,sumIf_none]
theorem mass_pc {f:Nat → Int} {ps:List (Int × Int)} (hf:FOf f ps) (hk:∀ u ∈ ps,0≤u.1∧u.1 < 64) (lv:Nat) (idx:Int):massT f lv idx 64=pcS ps lv idx:=by
 rw [mass_part hf hk lv idx 64 (Nat.le_refl _)]
 unfold pcS
 refine sumIf_congr fun u hu=>?_
 have:=(hk u hu).2
 rw [decide_eq_true (show u.1 < ((64:Nat):Int) by omega)]
 rfl
theorem plain_of {f:Nat → Int} {ps:List (Int × Int)} (hf:FOf f ps) (hk:∀ u ∈ ps,0≤u.1∧u.1 < 64) (h:plainT f 64=true):PlainS ps:=by
 intro i
 by_cases hi:0≤i∧i < 64
 · obtain ⟨n,rfl⟩:∃ n:Nat,i=n:=⟨i.toNat,by omega⟩
   rw [← hf n (by omega)]
   unfold plainT at h
   rw [List.all_eq_true] at h
   exact of_decide_eq_true (h n (List.mem_range.2 (by omega)))
 · rw [sumIf_congr (q:=fun _=>false) fun u hu=>by
    have:=hk u hu
    rw [Bool.eq_iff_iff]; simp only [beq_iff_eq,Bool.false_eq_true,iff_false]; omega]
   exact Int.le_of_eq (sumIf_none ps).symm
end Go.Proofs.YtmalncfcgcebhaaGreatDoor
namespace Go.Proofs.YtmalncfcgcebhaaGreatDoor
set_option linter.unusedVariables false
open Go.Proofs Go.RowKit
def CW:Cfg:=⟨2,1,4,1,0⟩
def lsW:Nat → List Int:=updK CW (updK CW (zerosK CW) 3 5) 1 2
def TW:AT:=.st CW 2 lsW
def SW:St:=⟨[(1,TW)],1⟩
def w0:List UInt8:=[99,114,101,97,116,101,32,50,32,49,32,52,32,49,32,48]
def w1:List UInt8:=[97,100,100,32,49,32,51,32,53]
def w2:List UInt8:=[97,100,100,32,49,32,49,32,50]
def w3:List UInt8:=[114,97,110,103,101,32,49,32,49,32,50]
def w4:List UInt8:=[113,117,97,110,116,105,108,101,32,49,32,51]
def w5:List UInt8:=[104,101,97,118,121,32,49,32,53,32,57]
def w6:List UInt8:=[105,110,110,101,114,32,49,32,49]
noncomputable def ptZ (n:Nat) (i:Int):Int:=if n≤2 then (lsW n).getD i.toNat 0 else ptU CW lsW n i
theorem fitW0:(lsW 0).all fitB=true:=by kernel_rfl
theorem fitW1:(lsW 1).all fitB=true:=by kernel_rfl
theorem fitW2:(lsW 2).all fitB=true:=by kernel_rfl
theorem isXW0:isX CW 0=true:=by kernel_rfl
theorem isXW1:isX CW 1=true:=by kernel_rfl
theorem isXW2:isX CW 2=true:=by kernel_rfl
theorem lsW_fit:∀ n,n≤2 → ∀ x ∈ lsW n,I64 x:=by
 have h:∀ n,n≤2 → (lsW n).all fitB=true:=by
  intro n hn
  match n,hn with
  | 0,_=>exact fitW0
  | 1,_=>exact fitW1
  | 2,_=>exact fitW2
 intro n hn x hx
 exact of_decide_eq_true (p:=-9223372036854775808≤x∧x≤9223372036854775807) (List.all_eq_true.1 (h n hn) x hx)
theorem isXW:∀ n:Nat,n≤2 → isX CW n=true:=by
 intro n hn
 match n,hn with
 | 0,_=>exact isXW0
 | 1,_=>exact isXW1
 | 2,_=>exact isXW2
theorem ptU_W:ptU CW lsW=ptZ:=by
 funext n i
 unfold ptZ
 split
 · rename_i hn
   have hx:=isXW n hn
   have he:∃ y,I64 y∧lvPt CW n (lsW n) i y:=⟨_,getD_I (lsW_fit n hn) i.toNat,.inl ⟨hx,rfl⟩⟩
   unfold ptU
   rw [dif_pos he]
   rcases he.choose_spec.2 with ⟨_,h⟩ | ⟨h,_⟩
   · exact h
   · rw [hx] at h; cases h
 · rfl
theorem range_W:rangeF TW 1 2=(some (.number 2),0):=by
 show numF (rangeR (ptU CW lsW) 2 (uu 1) (uu 2)).1 (rangeR (ptU CW lsW) 2 (uu 1) (uu 2)).2=_
 rw [ptU_W]
 kernel_rfl
theorem quan_W:quanF TW 3=(some (.key 3),0):=by
 show keyF (quanR (ptU CW lsW) 2 ((lsW 2).getD 0 0) 3).1 (quanR (ptU CW lsW) 2 ((lsW 2).getD 0 0) 3).2=_
 rw [ptU_W]
 kernel_rfl
theorem heav_W:heavF TW 5 9=(some (.list [(2,0,7),(1,1,5),(0,3,5)]),0):=by
 show listF (heavyP (ptU CW lsW) 5 9 2).1 (heavyP (ptU CW lsW) 5 9 2).2=_
 rw [ptU_W]
 kernel_rfl
theorem inn_W:innF2 SW TW TW=((some (.wide 29),0),SW):=by
 unfold innF2
 kernel_rfl
theorem find_W:SW.l.find? (fun x=>decide ((x.1:Int)=1))=some (1,TW):=by kernel_rfl
theorem lineIs_of {S:St} {s:ByteArray} {c:Cmd} {R:(Option Rep × Int) × St} {x:Rep} (hs:s.size≤100000000) (hp:parseS s=(some c,0,0)) (hd:DoIs S c R) (hR:R.1=(some x,0)) (ht:TextIs x):LineIs S s (some (repT x),R.2):=by
 rintro w N p m l last hA hS hN hT hl
 obtain ⟨⟨r,e⟩,S'⟩:=R
 cases hR
 have:=ALine_cmd hA hN hT s hs hp (R:=((some x,0),S')) (fun _=>⟨_,rfl⟩) (by unfold I64; dsimp only; omega) (fun w1 v hx hv=>hd w1 N p m l last _ v (hA.ext hx) hS hN (hT.ext hx) hl hv) (fun y base w1 v hy hr hT1=>by
  cases hy
  exact ht base w1 v hr hT1)
 unfold ansT at this
 rw [if_pos rfl] at this
 exact this
theorem TextIs.num {n:Int} (h:I64 n):TextIs (.number n):=by
 rintro base w v rfl hT
 exact AText_num n h w hT
theorem TextIs.key {k:Int} (h:U64 k):TextIs (.key k):=by
 rintro base w v rfl hT
 exact AText_key k h w hT
theorem TextIs.wide {x:Int} (h:W128 x):TextIs (.wide x):=by
 rintro base w v rfl hT
 exact AText_wide x h w
theorem TextIs.list {D:List Fd} (h1:D.length≤100000) (h2:∀ f ∈ D,FdOk f):TextIs (.list D):=by
 rintro base w v ⟨s,rfl,hr⟩ hT
 exact AText_list D h1 h2 base s w hT hr
theorem says3:parseS ⟨w3.toArray⟩=(some (.query ⟨#[114,97,110,103,101]⟩ 1 [1,2]),0,0):=by kernel_rfl
theorem says4:parseS ⟨w4.toArray⟩=(some (.query ⟨#[113,117,97,110,116,105,108,101]⟩ 1 [3]),0,0):=by kernel_rfl
theorem says5:parseS ⟨w5.toArray⟩=(some (.query ⟨#[104,101,97,118,121]⟩ 1 [5,9]),0,0):=by kernel_rfl
theorem says6:parseS ⟨w6.toArray⟩=(some (.pair ⟨#[105,110,110,101,114]⟩ 1 1),0,0):=by kernel_rfl
theorem i64s (n:Nat) (h:n≤1000):I64 (n:Int):=by unfold I64; omega
theorem ask_W (f:AT → Option Rep × Int):askF SW 1 f=(f TW,SW):=by
 unfold askF
 rw [find_W]
theorem pair_W (f:Nat → AT → AT → (Option Rep × Int) × St):pairF SW 1 1 f=f 1 TW TW:=by
 unfold pairF
 rw [find_W]
theorem line3:LineIs SW ⟨w3.toArray⟩ (some (repT (.number 2)),SW):=by
 have h:=DoIs.range SW 1 1 2 (i64s 1 (by decide)) (i64s 1 (by decide)) (i64s 2 (by decide))
 rw [ask_W,range_W] at h
 exact lineIs_of (by decide) says3 h rfl (TextIs.num (i64s 2 (by decide)))
theorem line4:LineIs SW ⟨w4.toArray⟩ (some (repT (.key 3)),SW):=by
 have h:=DoIs.quan SW 1 3 (i64s 1 (by decide)) (i64s 3 (by decide))
 rw [ask_W,quan_W] at h
 exact lineIs_of (by decide) says4 h rfl (TextIs.key (by unfold U64; omega))
theorem line5:LineIs SW ⟨w5.toArray⟩ (some (repT (.list [(2,0,7),(1,1,5),(0,3,5)])),SW):=by
 have h:=DoIs.heavy SW 1 5 9 (i64s 1 (by decide)) (i64s 5 (by decide)) (i64s 9 (by decide))
 rw [ask_W,heav_W] at h
 exact lineIs_of (by decide) says5 h rfl (TextIs.list (by decide) (by
  intro f hf
  simp only [List.mem_cons,List.mem_nil_iff,or_false] at hf
  rcases hf with rfl | rfl | rfl <;> (unfold FdOk U64 I64; dsimp only; omega)))
theorem line6:LineIs SW ⟨w6.toArray⟩ (some (repT (.wide 29)),SW):=by
 have h:=DoIs.inner SW 1 1 (i64s 1 (by decide)) (i64s 1 (by decide))
 rw [pair_W,inn_W] at h
 exact lineIs_of (by decide) says6 h rfl (TextIs.wide (by unfold W128; omega))
end Go.Proofs.YtmalncfcgcebhaaGreatDoor
namespace Go.Proofs.YtmalncfcgcebhaaGreatDoor
set_option linter.unusedVariables false
open Go.Proofs Go.RowKit
def lineB (verb:List UInt8) (ns:List Int):ByteArray:=⟨(joinW (lineW verb ns)).toArray⟩
theorem lineB_data (verb:List UInt8) (ns:List Int):(lineB verb ns).data.toList=joinW (lineW verb ns):=rfl
theorem join_itoa {ns:List Int} (hn:∀ n ∈ ns,I64 n) (hl:ns.length≤10):(joinW (ns.map Lib.itoa)).length≤30 * ns.length:=by
 clear hl
 induction ns with
 | nil=>simp [joinW]
 | cons a l ih =>
   have h1:=Lib.itoa_length_le a (hn a (by simp)).1 (hn a (by simp)).2
   have h2:=ih fun n h=>hn n (by simp [h])
   cases l with
   | nil=>simp [joinW]; omega
   | cons b l =>
     rw [List.map_cons,joinW_cons _ (by simp)]
     simp only [List.length_append,List.length_cons] at *
     omega
theorem lineB_size {verb:List UInt8} {ns:List Int} (hn:∀ n ∈ ns,I64 n) (hv:verb.length≤20) (hl:ns.length≤10):(lineB verb ns).size≤1000:=by
 rw [Lib.size_eq,lineB_data]
 unfold lineW
 have h:=join_itoa hn hl
 cases ns with
 | nil=>simp [joinW]; omega
 | cons a l =>
   rw [joinW_cons _ (by simp)]
   simp only [List.length_append,List.length_cons] at *
   omega
theorem lineOk {S:St} {s:ByteArray} {c:Cmd} {R:(Option Rep × Int) × St} (hs:s.size≤100000000) (hp:parseS s=(some c,0,0)) (h:DoOk S c R):LineIs S s (some (ansT R.1),R.2):=by
 rintro w N p m l last hA hS hN hT hl
 exact ALine_cmd hA hN hT s hs hp h.yes h.ie (fun w1 v hx hv=>h.is w1 N p m l last _ v (hA.ext hx) hS hN (hT.ext hx) hl hv) fun y base w1 v hy hr hT1=>h.tx ⟨w,N,p,m,l,last,hA,hS⟩ y hy base w1 v hr hT1
theorem lineS {S:St} {verb:List UInt8} {ns:List Int} {c:Cmd} {R:(Option Rep × Int) × St} (hn:∀ n ∈ ns,I64 n) (hv:WordOk verb) (ha:∀ c ∈ verb,c.toNat < 128) (hv2:verb.length≤20) (hl:ns.length≤10)
 (hc:∀ E,cmdR (wpl 0 (lineW verb ns)) E=(some c,ns.length+1,none)) (h:DoOk S c R):LineIs S (lineB verb ns) (some (ansT R.1),R.2):=by
 have hz:=lineB_size hn hv2 hl
 exact lineOk (by omega) (line_says (lineB_data verb ns) hv ha (by omega) (hc _)) h
abbrev vAdd:List UInt8:=[97,100,100]
abbrev vMerge:List UInt8:=[109,101,114,103,101]
abbrev vSub:List UInt8:=[115,117,98,116,114,97,99,116]
abbrev vPoint:List UInt8:=[112,111,105,110,116]
abbrev vRange:List UInt8:=[114,97,110,103,101]
abbrev vCreate:List UInt8:=[99,114,101,97,116,101]
theorem num_at (verb:List UInt8) (ns:List Int) (hn:∀ n ∈ ns,I64 n) (E i:Nat) (hi:i < ns.length):numR (wpl 0 (lineW verb ns)) E (i+1) none=(ns.getD i 0,i+2,none):=by
 refine numR_at (by rw [wpl_len]; simp [lineW]; omega) ?_ (hn _ (getD_mem hi))
 rw [wpl_get]
 simp [lineW,hi]
theorem named_itoa (n:Int):namedOf ⟨(Lib.itoa n).toArray⟩=false:=by
 unfold namedOf
 have h:=(itoa_word n).hd
 have:decide ((⟨(Lib.itoa n).toArray⟩:ByteArray).data.toList.getD 0 0=34)=false:=decide_eq_false h
 rw [this]
 simp
theorem cmd_add {a b c:Int} (ha:I64 a) (hb:I64 b) (hc:I64 c) (E:Nat):cmdR (wpl 0 (lineW vAdd [a,b,c])) E=(some (.add a false ⟨#[]⟩ (b % 18446744073709551616) c),4,none):=by
 have hn:∀ n ∈ [a,b,c],I64 n:=by
  intro n hn
  simp only [List.mem_cons,List.mem_nil_iff,or_false] at hn
  rcases hn with rfl | rfl | rfl <;> assumption
 have n1:=num_at vAdd [a,b,c] hn E 0 (by simp)
 have n2:=num_at vAdd [a,b,c] hn E 1 (by simp)
 have n3:=num_at vAdd [a,b,c] hn E 2 (by simp)
 have hl:2 < (wpl 0 (lineW vAdd [a,b,c])).length:=by rw [wpl_len]; simp [lineW]
 have e2:=next_yes (E:=E) hl
 have hw:(wpl 0 (lineW vAdd [a,b,c]))[2].1=⟨(Lib.itoa b).toArray⟩:=rfl
 have hnm:namedOf (wpl 0 (lineW vAdd [a,b,c]))[2].1=false:=by rw [hw]; exact named_itoa b
 have hA:addR (wpl 0 (lineW vAdd [a,b,c])) E 1 none=((a,false,⟨#[]⟩,b % 18446744073709551616,c),4,none):=by
  unfold addR
  rw [n1]
  dsimp only
  rw [e2.1,e2.2,hnm,if_neg (by decide),n2]
  dsimp only
  rw [n3]
  rfl
 unfold cmdR
 rw [line_v0]
 dsimp only
 rw [if_neg (by decide),if_neg (by decide),if_pos rfl,hA]
theorem cmd_merge {a b:Int} (ha:I64 a) (hb:I64 b) (E:Nat):cmdR (wpl 0 (lineW vMerge [a,b])) E=(some (.pair ⟨#[109,101,114,103,101]⟩ a b),3,none):=by
 have hn:∀ n ∈ [a,b],I64 n:=by
  intro n hn
  simp only [List.mem_cons,List.mem_nil_iff,or_false] at hn
  rcases hn with rfl | rfl <;> assumption
 have h:=nums_at vMerge [a,b] hn E
 unfold cmdR
 rw [line_v0]
 dsimp only
 rw [if_neg (by decide),if_neg (by decide),if_neg (by decide),if_neg (by decide),if_neg (by decide),if_neg (by decide),if_neg (by decide),if_neg (by decide),if_neg (by decide),if_neg (by decide),if_neg (by decide),if_neg (by decide),if_pos rfl,(h 0 (by simp)).2 (by simp),(h 1 (by simp)).2 (by simp),(h 2 (by simp)).1]
 rfl
theorem cmd_sub {a b:Int} (ha:I64 a) (hb:I64 b) (E:Nat):cmdR (wpl 0 (lineW vSub [a,b])) E=(some (.pair ⟨#[115,117,98,116,114,97,99,116]⟩ a b),3,none):=by
 have hn:∀ n ∈ [a,b],I64 n:=by
  intro n hn
  simp only [List.mem_cons,List.mem_nil_iff,or_false] at hn
  rcases hn with rfl | rfl <;> assumption
 have h:=nums_at vSub [a,b] hn E
 unfold cmdR
 rw [line_v0]
 dsimp only
 rw [if_neg (by decide),if_neg (by decide),if_neg (by decide),if_neg (by decide),if_neg (by decide),if_neg (by decide),if_neg (by decide),if_neg (by decide),if_neg (by decide),if_neg (by decide),if_neg (by decide),if_neg (by decide),if_neg (by decide),if_pos rfl,(h 0 (by simp)).2 (by simp),(h 1 (by simp)).2 (by simp),(h 2 (by simp)).1]
 rfl
theorem i3 {a b c:Int} (ha:I64 a) (hb:I64 b) (hc:I64 c):∀ n ∈ [a,b,c],I64 n:=by
 intro n hn
 simp only [List.mem_cons,List.mem_nil_iff,or_false] at hn
 rcases hn with rfl | rfl | rfl <;> assumption
theorem i2 {a b:Int} (ha:I64 a) (hb:I64 b):∀ n ∈ [a,b],I64 n:=by
 intro n hn
 simp only [List.mem_cons,List.mem_nil_iff,or_false] at hn
 rcases hn with rfl | rfl <;> assumption
theorem cmd_point {a b c:Int} (ha:I64 a) (hb:I64 b) (hc:I64 c) (E:Nat):cmdR (wpl 0 (lineW vPoint [a,b,c])) E=(some (.query ⟨#[112,111,105,110,116]⟩ a [b,c]),4,none):=by
 have h:=nums_at vPoint [a,b,c] (i3 ha hb hc) E
 unfold cmdR
 rw [line_v0]
 dsimp only
 rw [if_neg (by decide),if_neg (by decide),if_neg (by decide),if_neg (by decide),if_neg (by decide),if_neg (by decide),if_neg (by decide),if_neg (by decide),if_pos rfl,(h 0 (by simp)).2 (by simp),(h 1 (by simp)).2 (by simp),(h 2 (by simp)).2 (by simp),(h 3 (by simp)).1]
 rfl
theorem cmd_range {a b c:Int} (ha:I64 a) (hb:I64 b) (hc:I64 c) (E:Nat):cmdR (wpl 0 (lineW vRange [a,b,c])) E=(some (.query ⟨#[114,97,110,103,101]⟩ a [b,c]),4,none):=by
 have h:=nums_at vRange [a,b,c] (i3 ha hb hc) E
 unfold cmdR
 rw [line_v0]
 dsimp only
 rw [if_neg (by decide),if_neg (by decide),if_neg (by decide),if_neg (by decide),if_neg (by decide),if_neg (by decide),if_neg (by decide),if_neg (by decide),if_neg (by decide),if_pos rfl,(h 0 (by simp)).2 (by simp),(h 1 (by simp)).2 (by simp),(h 2 (by simp)).2 (by simp),(h 3 (by simp)).1]
 rfl
section
variable {C:Cfg} {g:Nat → Nat → List Int}
theorem topSt_all (C:Cfg) (g:Nat → Nat → List Int):AllSt (topSt C g):=by
 intro x hx
 simp only [topSt,List.mem_cons,List.mem_nil_iff,or_false] at hx
 rcases hx with rfl | rfl | rfl <;> exact ⟨_,_,_,rfl⟩
theorem hI {h:Nat} (hh:h < 3):I64 ((h+1:Nat):Int):=by unfold I64; omega
theorem top_add {h:Nat} (hh:h < 3) {key d:Int} (hk0:0≤key) (hk:key < 64) (hd:I64 d) (he:errK C 6 (g h) key d=0) :
 LineIs (topSt C g) (lineB vAdd [((h+1:Nat):Int),key,d]) (some (repT .done),topSt C (setG g h (updK C (g h) key d))):=by
 have hkI:I64 key:=by unfold I64; omega
 have hm:key % 18446744073709551616=key:=by omega
 have h1:=DoOk.add (topSt C g) (topSt_all C g) ((h+1:Nat):Int) false ⟨#[]⟩ key d (hI hh) ⟨hk0,by omega⟩ hd
 have h2:=lineS (c:=.add ((h+1:Nat):Int) false ⟨#[]⟩ key d) (i3 (hI hh) hkI hd) (verb:=vAdd) ⟨by decide,by decide,by decide⟩ (by decide) (by decide) (by simp) (fun E=>by rw [cmd_add (hI hh) hkI hd,hm]; rfl) h1
 have e:addF (topSt C g) ((h+1:Nat):Int) false key d=((some .done,0),topSt C (setG g h (updK C (g h) key d))):=by
  unfold addF
  rw [top_find C g hh]
  dsimp only
  have e2:addT (.st C 6 (g h)) (addK (AT.st C 6 (g h)).C false key) d=(0,.st C 6 (updK C (g h) key d)):=by
   show (errK C 6 (g h) key d,_)=_
   rw [he]
   rfl
  rw [e2,if_pos rfl,top_set C g hh]
  rfl
 rw [e] at h2
 exact h2
theorem top_pair {a b:Nat} (ha:a < 3) (hb:b < 3) (f:Nat → AT → AT → (Option Rep × Int) × St):pairF (topSt C g) ((a+1:Nat):Int) ((b+1:Nat):Int) f=f (a+1) (.st C 6 (g a)) (.st C 6 (g b)):=by
 unfold pairF
 rw [top_find C g ha,top_find C g hb]
theorem top_merge {a b:Nat} (ha:a < 3) (hb:b < 3) (he:mrgE C 6 (g a) C (g b)=0) :
 LineIs (topSt C g) (lineB vMerge [((a+1:Nat):Int),((b+1:Nat):Int)]) (some (repT .done),topSt C (setG g a fun n=>plusL (g a n) (g b n))):=by
 have h2:=lineS (i2 (hI ha) (hI hb)) (verb:=vMerge) ⟨by decide,by decide,by decide⟩ (by decide) (by decide) (by simp) (fun E=>by rw [cmd_merge (hI ha) (hI hb)]; rfl) (DoOk.merge (topSt C g) _ _ (hI ha) (hI hb))
 rw [top_pair ha hb] at h2
 have e:jointF (topSt C g) (a+1) (.st C 6 (g a)) (.st C 6 (g b)) mrgE plusL=((some .done,0),topSt C (setG g a fun n=>plusL (g a n) (g b n))):=by
  show (doneF (mrgE C 6 (g a) C (g b)),if mrgE C 6 (g a) C (g b)=0 then (⟨setL (topSt C g).l (a+1) (.st C 6 fun n=>plusL (g a n) (g b n)),(topSt C g).last⟩:St) else topSt C g)=_
  rw [he,if_pos rfl,top_set C g ha]
  rfl
 rw [e] at h2
 exact h2
theorem top_sub {a b:Nat} (ha:a < 3) (hb:b < 3) (he:subE C 6 (g a) C (g b)=0) :
 LineIs (topSt C g) (lineB vSub [((a+1:Nat):Int),((b+1:Nat):Int)]) (some (repT .done),topSt C (setG g a fun n=>minusL (g a n) (g b n))):=by
 have h2:=lineS (i2 (hI ha) (hI hb)) (verb:=vSub) ⟨by decide,by decide,by decide⟩ (by decide) (by decide) (by simp) (fun E=>by rw [cmd_sub (hI ha) (hI hb)]; rfl) (DoOk.subtract (topSt C g) _ _ (hI ha) (hI hb))
 rw [top_pair ha hb] at h2
 have e:jointF (topSt C g) (a+1) (.st C 6 (g a)) (.st C 6 (g b)) subE minusL=((some .done,0),topSt C (setG g a fun n=>minusL (g a n) (g b n))):=by
  show (doneF (subE C 6 (g a) C (g b)),if subE C 6 (g a) C (g b)=0 then (⟨setL (topSt C g).l (a+1) (.st C 6 fun n=>minusL (g a n) (g b n)),(topSt C g).last⟩:St) else topSt C g)=_
  rw [he,if_pos rfl,top_set C g ha]
  rfl
 rw [e] at h2
 exact h2
theorem top_subno {a b:Nat} (ha:a < 3) (hb:b < 3) (he:subE C 6 (g a) C (g b)=3) :
 LineIs (topSt C g) (lineB vSub [((a+1:Nat):Int),((b+1:Nat):Int)]) (some (errT 3),topSt C g):=by
 have h2:=lineS (i2 (hI ha) (hI hb)) (verb:=vSub) ⟨by decide,by decide,by decide⟩ (by decide) (by decide) (by simp) (fun E=>by rw [cmd_sub (hI ha) (hI hb)]; rfl) (DoOk.subtract (topSt C g) _ _ (hI ha) (hI hb))
 rw [top_pair ha hb] at h2
 have e:jointF (topSt C g) (a+1) (.st C 6 (g a)) (.st C 6 (g b)) subE minusL=((none,3),topSt C g):=by
  show (doneF (subE C 6 (g a) C (g b)),if subE C 6 (g a) C (g b)=0 then (⟨setL (topSt C g).l (a+1) (.st C 6 fun n=>minusL (g a n) (g b n)),(topSt C g).last⟩:St) else topSt C g)=_
  rw [he,if_neg (by decide)]
  rfl
 rw [e] at h2
 exact h2
theorem top_askF {h:Nat} (hh:h < 3) (f:AT → Option Rep × Int):askF (topSt C g) ((h+1:Nat):Int) f=(f (.st C 6 (g h)),topSt C g):=by
 unfold askF
 rw [top_find C g hh]
theorem top_point {h:Nat} (hh:h < 3) {lv:Nat} (hlv:lv≤6) {i:Int} (h0:0≤i) (h1:i < keys C lv) (hi:i < 64) :
 LineIs (topSt C g) (lineB vPoint [((h+1:Nat):Int),(lv:Int),i]) (some (repT (.number (ptU C (g h) lv i))),topSt C g):=by
 have hl:I64 (lv:Int):=by unfold I64; omega
 have hi':I64 i:=by unfold I64; omega
 have h2:=lineS (i3 (hI hh) hl hi') (verb:=vPoint) ⟨by decide,by decide,by decide⟩ (by decide) (by decide) (by simp) (fun E=>by rw [cmd_point (hI hh) hl hi']; rfl) (DoOk.point (topSt C g) _ (lv:Int) i (hI hh) hl hi')
 rw [top_askF hh] at h2
 have e:pointF (.st C 6 (g h)) (lv:Int) i=(some (.number (ptU C (g h) lv i)),0):=by
  have hu:uu i=i:=by unfold uu; omega
  show numF (pointR C 6 (g h) lv (uu i)).1 (pointR C 6 (g h) lv (uu i)).2=_
  have:pointR C 6 (g h) lv (uu i)=(ptU C (g h) lv i,0):=by
   unfold pointR
   rw [hu,if_neg (by omega),if_pos h1,Int.toNat_natCast]
  rw [this]
  rfl
 rw [e] at h2
 exact h2
theorem top_range {h:Nat} (hh:h < 3) {lo hi:Int} (h0:0≤lo) (h1:lo≤hi) (hi64:hi < 64) (hf:I64 (lsum (cvV (ptU C (g h)) 6 lo hi))) :
 LineIs (topSt C g) (lineB vRange [((h+1:Nat):Int),lo,hi]) (some (repT (.number (lsum (cvV (ptU C (g h)) 6 lo hi)))),topSt C g):=by
 have hl:I64 lo:=by unfold I64; omega
 have hi':I64 hi:=by unfold I64; omega
 have h2:=lineS (i3 (hI hh) hl hi') (verb:=vRange) ⟨by decide,by decide,by decide⟩ (by decide) (by decide) (by simp) (fun E=>by rw [cmd_range (hI hh) hl hi']; rfl) (DoOk.range (topSt C g) _ lo hi (hI hh) hl hi')
 rw [top_askF hh] at h2
 have e:rangeF (.st C 6 (g h)) lo hi=(some (.number (lsum (cvV (ptU C (g h)) 6 lo hi))),0):=by
  have hu:uu lo=lo:=by unfold uu; omega
  have hu2:uu hi=hi:=by unfold uu; omega
  show numF (rangeR (ptU C (g h)) 6 (uu lo) (uu hi)).1 (rangeR (ptU C (g h)) 6 (uu lo) (uu hi)).2=_
  have:rangeR (ptU C (g h)) 6 (uu lo) (uu hi)=(lsum (cvV (ptU C (g h)) 6 lo hi),0):=by
   unfold rangeR
   rw [hu,hu2,if_neg (by omega),if_neg (show ¬ (2:Int) ^ 6≤hi by rw [show (2:Int) ^ 6=64 from rfl]; omega),if_pos (fitB_yes hf)]
  rw [this]
  rfl
 rw [e] at h2
 exact h2
end
def preSt (C:Cfg) (k:Nat):St:=⟨(List.range k).map fun i=>(i+1,AT.st C 6 (zerosK C)),k⟩
theorem okB_of {C:Cfg} (h:C.Ok):okB C=true:=by
 have:=h.b1
 have:=h.b2
 have:=h.r1
 have:=h.r2
 have:=h.w1
 have:=h.w2
 have:=h.m1
 have:=h.m2
 unfold okB
 exact decide_eq_true (by omega)
theorem top_create {C:Cfg} (hok:C.Ok) (hb:C.bits=6) {k:Nat} (hk:k < 3) {n:Int} (hn:I64 n) (hs:n % 18446744073709551616=C.seed) :
 LineIs (preSt C k) (lineB vCreate [6,C.rows,C.width,C.mode,n]) (some (repT (.handle ((k+1:Nat):Int))),preSt C (k+1)):=by
 have a1:=hok.r1
 have a2:=hok.r2
 have a3:=hok.w1
 have a4:=hok.w2
 have a5:=hok.m1
 have a6:=hok.m2
 have hns:∀ x ∈ [6,C.rows,C.width,C.mode,n],I64 x:=by
  intro x hx
  simp only [List.mem_cons,List.mem_nil_iff,or_false] at hx
  rcases hx with rfl | rfl | rfl | rfl | rfl
  · unfold I64; omega
  · unfold I64; omega
  · unfold I64; omega
  · unfold I64; omega
  · exact hn
 have h1:=DoOk.create (preSt C k) ⟨6,C.rows,C.width,C.mode,C.seed⟩ hok.s (show (preSt C k).last < 1000000 by show k < _; omega)
 have h2:=lineS (S:=preSt C k) hns (verb:=vCreate) ⟨by decide,by decide,by decide⟩ (by decide) (by decide) (by simp) (fun E=>by
  rw [show cmdR (wpl 0 (lineW vCreate [6,C.rows,C.width,C.mode,n])) E=_ from cmd_create [6,C.rows,C.width,C.mode,n] rfl hns E]
  show (some (Cmd.create 6 C.rows C.width C.mode (n % 18446744073709551616)),6,none)=_
  rw [hs]
  rfl) h1
 have hC:(⟨6,C.rows,C.width,C.mode,C.seed⟩:Cfg)=C:=by rw [← hb]
 rw [hC] at h2
 have e:createF (preSt C k) C=((some (.handle ((k+1:Nat):Int)),0),preSt C (k+1)):=by
  unfold createF madeF
  rw [if_pos (okB_of hok),if_neg (by simp [preSt]; omega),hb]
  show (_,(⟨_ ++ [(k+1,AT.st C 6 (zerosK C))],k+1⟩:St))=_
  unfold preSt
  rw [List.range_succ,List.map_append]
  rfl
 rw [e] at h2
 exact h2
theorem pre_top (C:Cfg):preSt C 3=topSt C fun _=>zerosK C:=rfl
end Go.Proofs.YtmalncfcgcebhaaGreatDoor
namespace Go.Proofs.YtmalncfcgcebhaaGreatDoor
set_option linter.unusedVariables false
open Go.Proofs Go.RowKit
set_option maxHeartbeats 1000000 in
theorem TPrefix_c (level index:Int) (h1:I64 level) (h2:U64 index) (w:World):Calls Tryz.prog 26 #[.int .i64 level,.int .u64 index] w fun e w'=>e=.returned (.agg #[.int .i64 (level % 65536 % 7),.int .u64 (index % 64 / 2 ^ (level % 65536 % 7).toNat)])∧Ext w w':=by
 have ha:=and_FFFF h1
 obtain ⟨lv,hlv⟩:∃ lv:Nat,(lv:Int)=level % 65536 % 7:=⟨(level % 65536 % 7).toNat,by omega⟩
 have hl6:lv≤6:=by omega
 have hb:0≤level % 65536∧level % 65536 < 65536:=by omega
 obtain ⟨i0,i1⟩:=h2
 have hx:=Ext.alloc' w (.cells #[.int .i64 0,.int .u64 0] 52)
 have hc:=heap_at w (.cells #[.int .i64 0,.int .u64 0] 52) rfl
 rw [← hlv,Int.toNat_natCast]
 generalize hA:level % 65536=A at *
 go_enter Tryz.func26,Tryz.ntmps26
 go_wp2
 refine bodyPost_ret (v:=.agg #[.int .i64 (A % 7),.int .u64 (index % 64 / 2 ^ (A % 7).toNat)]) (by simp [results,Tryz.results26,go_sem]) rfl ⟨?_,Ext.alloc' _ _⟩
 rw [← hlv,Int.toNat_natCast]
end Go.Proofs.YtmalncfcgcebhaaGreatDoor
namespace Go.Proofs.YtmalncfcgcebhaaGreatDoor
set_option linter.unusedVariables false
open Go.Proofs Go.RowKit
def HoldS (C:Cfg) (T:Int) (g:Nat → Nat → List Int) (f:Nat → Nat → Int):Prop:=∃ ps:Nat → List (Int × Int),∀ h,h < 3 → TInv C (ps h) T (g h)∧FOf (f h) (ps h)
theorem HoldS.f_bd {C:Cfg} {T:Int} {g:Nat → Nat → List Int} {f:Nat → Nat → Int} (H:HoldS C T g f) {h i:Nat} (hh:h < 3) (hi:i < 64):-T≤f h i∧f h i≤T:=by
 obtain ⟨ps,hp⟩:=H
 obtain ⟨h1,h2⟩:=hp h hh
 rw [h2 i hi]
 have:=sumIf_abs (fun k=>k == (i:Int)) (ps h)
 have:=h1.ab
 omega
def addFn (f:Nat → Nat → Int) (h k:Nat) (d:Int):Nat → Nat → Int:=fun h' i=>if h'=h∧i=k then f h' i+d else f h' i
theorem HoldS.add {C:Cfg} {T:Int} {g:Nat → Nat → List Int} {f:Nat → Nat → Int} (H:HoldS C T g f) (hok:C.Ok) (hb:C.bits=6) {h k:Nat} (hh:h < 3) (hk:k < 64) {d:Int} (hd:-T≤d∧d≤T) (hm:C.mode=2 → 0≤d) (hT:T≤1000000000000000000) :
 HoldS C (T+T) (setG g h (updK C (g h) (k:Int) d)) (addFn f h k d)∧errK C 6 (g h) (k:Int) d=0:=by
 obtain ⟨ps,hp⟩:=H
 obtain ⟨h1,h2⟩:=hp h hh
 refine ⟨⟨fun h'=>if h'=h then ps h ++ [((k:Int),d)] else ps h',fun h' hh'=>?_⟩,h1.add_ok hok hb (by omega) (by omega) hd hm (by omega)⟩
 have t0:=h1.t0
 by_cases e:h'=h
 · subst e
   unfold setG
   dsimp only
   rw [if_pos rfl,if_pos rfl]
   refine ⟨h1.upd hok hb (by omega) (by omega) hd hm,fun i hi=>?_⟩
   rw [sumIf_snoc]
   unfold addFn
   by_cases hik:i=k
   · subst hik
     rw [if_pos ⟨rfl,rfl⟩,h2 i hi]
     simp only [BEq.rfl,cond_true]
   · rw [if_neg (fun h=>hik h.2),h2 i hi]
     have:((k:Int) == (i:Int))=false:=by simp; omega
     simp only [this,cond_false,Int.add_zero]
 · unfold setG
   simp only [if_neg e]
   obtain ⟨h3,h4⟩:=hp h' hh'
   refine ⟨h3.mono (by omega),fun i hi=>?_⟩
   unfold addFn
   rw [if_neg (fun h=>e h.1)]
   exact h4 i hi
def plusFn (f:Nat → Nat → Int) (h o:Nat):Nat → Nat → Int:=fun h' i=>if h'=h then f h i+f o i else f h' i
def minusFn (f:Nat → Nat → Int) (h o:Nat):Nat → Nat → Int:=fun h' i=>if h'=h then f h i - f o i else f h' i
theorem HoldS.plus {C:Cfg} {T:Int} {g:Nat → Nat → List Int} {f:Nat → Nat → Int} (H:HoldS C T g f) (hok:C.Ok) {h o:Nat} (hh:h < 3) (ho:o < 3) (hT:T≤1000000000000000000) :
 HoldS C (T+T) (setG g h fun n=>plusL (g h n) (g o n)) (plusFn f h o)∧mrgE C 6 (g h) C (g o)=0:=by
 obtain ⟨ps,hp⟩:=H
 obtain ⟨h1,h2⟩:=hp h hh
 obtain ⟨o1,o2⟩:=hp o ho
 refine ⟨⟨fun h'=>if h'=h then ps h ++ ps o else ps h',fun h' hh'=>?_⟩,h1.plus_ok hok o1 (by omega)⟩
 have t0:=h1.t0
 by_cases e:h'=h
 · subst e
   unfold setG
   dsimp only
   rw [if_pos rfl,if_pos rfl]
   refine ⟨h1.plus hok o1,fun i hi=>?_⟩
   rw [sumIf_append]
   unfold plusFn
   rw [if_pos rfl,h2 i hi,o2 i hi]
 · unfold setG
   simp only [if_neg e]
   obtain ⟨h3,h4⟩:=hp h' hh'
   refine ⟨h3.mono (by omega),fun i hi=>?_⟩
   unfold plusFn
   rw [if_neg e]
   exact h4 i hi
theorem HoldS.minus {C:Cfg} {T:Int} {g:Nat → Nat → List Int} {f:Nat → Nat → Int} (H:HoldS C T g f) (hok:C.Ok) (hm:C.mode ≠ 2) {h o:Nat} (hh:h < 3) (ho:o < 3) (hT:T≤1000000000000000000) :
 HoldS C (T+T) (setG g h fun n=>minusL (g h n) (g o n)) (minusFn f h o)∧subE C 6 (g h) C (g o)=0:=by
 obtain ⟨ps,hp⟩:=H
 obtain ⟨h1,h2⟩:=hp h hh
 obtain ⟨o1,o2⟩:=hp o ho
 refine ⟨⟨fun h'=>if h'=h then ps h ++ negP (ps o) else ps h',fun h' hh'=>?_⟩,h1.minus_ok hok hm o1 (by omega)⟩
 have t0:=h1.t0
 by_cases e:h'=h
 · subst e
   unfold setG
   dsimp only
   rw [if_pos rfl,if_pos rfl]
   refine ⟨h1.minus hok hm o1,fun i hi=>?_⟩
   rw [sumIf_append,sumIf_negP]
   unfold minusFn
   rw [if_pos rfl,h2 i hi,o2 i hi]
   omega
 · unfold setG
   simp only [if_neg e]
   obtain ⟨h3,h4⟩:=hp h' hh'
   refine ⟨h3.mono (by omega),fun i hi=>?_⟩
   unfold minusFn
   rw [if_neg e]
   exact h4 i hi
theorem HoldS.mono {C:Cfg} {T U:Int} {g:Nat → Nat → List Int} {f:Nat → Nat → Int} (H:HoldS C T g f) (h:T≤U):HoldS C U g f:=by
 obtain ⟨ps,hp⟩:=H
 exact ⟨ps,fun k hk=>⟨(hp k hk).1.mono h,(hp k hk).2⟩⟩
theorem HoldS.zero (C:Cfg) (T:Int) (hT:0≤T):HoldS C T (fun _=>zerosK C) (fun _ _=>0) :=
 ⟨fun _=>[],fun h _=>⟨TInv.zero T hT,fun i _=>rfl⟩⟩
structure PlAt (w:World) (N p a m:Nat) (l:List (Nat × Th)) (C:Cfg) (T:Int) (g:Nat → Nat → List Int) (f:Nat → Nat → Int):Prop where
 tw:TWAt w p a C f
 ag:AgAt w N a m l 3
 st:stOf l 3=topSt C g
 np:¬ AgF a m l p
 ok:C.Ok
 hb:C.bits=6
 hd:HoldS C T g f
 tb:Tabs w
 lo:10≤N
 lp:N≤p
theorem TWAt.keep {w w':World} {p a:Nat} {C:Cfg} {f:Nat → Nat → Int} (h:TWAt w p a C f) (hk:w'.heap[p]?=w.heap[p]?):TWAt w' p a C f:=by
 obtain ⟨cur,h1,h2⟩:=h.ex
 exact ⟨⟨cur,hk.trans h1,h2⟩,h.bd⟩
theorem PlAt.ext {w w':World} {N p a m:Nat} {l:List (Nat × Th)} {C:Cfg} {T:Int} {g:Nat → Nat → List Int} {f:Nat → Nat → Int} (h:PlAt w N p a m l C T g f) (hx:Ext w w'):PlAt w' N p a m l C T g f :=
 ⟨h.tw.keep (hx.block p h.tw.lt),h.ag.ext hx,h.st,h.np,h.ok,h.hb,h.hd,h.tb.ext hx,h.lo,h.lp⟩
structure PlPost (w:World) (N p a m:Nat) (l:List (Nat × Th)) (C:Cfg) (T:Int) (g:Nat → Nat → List Int) (f:Nat → Nat → Int) (l':List (Nat × Th)) (w':World):Prop where
 at_:PlAt w' N p a m l' C T g f
 md:Mod (AgF a m l) w w'
 fr:∀ k,AgF a m l' k → AgF a m l k ∨ w.heap.size≤k
theorem PlAt.ask {w:World} {N p a m:Nat} {l:List (Nat × Th)} {C:Cfg} {T:Int} {g:Nat → Nat → List Int} {f:Nat → Nat → Int} (h:PlAt w N p a m l C T g f) {s:ByteArray} {r:List UInt8} (hl:LineIs (topSt C g) s (some r,topSt C g)) :
 Calls Tryz.prog 15 #[.pointer (some ⟨a,0,none⟩),.string s] w fun e w'=>e=.returned (.tuple #[strV r,.bool true])∧∃ l',PlPost w N p a m l C T g f l' w':=by
 refine (hl w N a m l 3 h.ag h.st h.lo h.tb (by omega)).mono ?_
 rintro e w' ⟨⟨l',last',rfl,h1,h2,h3⟩,h4⟩
 have hla:last'=3:=by have:=congrArg St.last h2; exact this
 subst hla
 refine ⟨rfl,l',⟨h.tw.keep (h4.block p h.tw.lt h.np),h1,h2, ?_,h.ok,h.hb,h.hd,h.ag.tabs h.lo h.tb h4,h.lo,h.lp⟩,h4,h3⟩
 intro hp
 rcases h3 p hp with hp | hp
 · exact h.np hp
 · have:=h.tw.lt; omega
theorem PlAt.line {w:World} {N p a m:Nat} {l:List (Nat × Th)} {C:Cfg} {T:Int} {g:Nat → Nat → List Int} {f:Nat → Nat → Int} (h:PlAt w N p a m l C T g f) {s:ByteArray} {r:List UInt8} {g':Nat → Nat → List Int} (hl:LineIs (topSt C g) s (some r,topSt C g')) :
 Calls Tryz.prog 15 #[.pointer (some ⟨a,0,none⟩),.string s] w fun e w'=>e=.returned (.tuple #[strV r,.bool true])∧∃ l',AgAt w' N a m l' 3∧stOf l' 3=topSt C g'∧¬ AgF a m l' p∧TWAt w' p a C f∧Tabs w'∧Mod (AgF a m l) w w'∧∀ k,AgF a m l' k → AgF a m l k ∨ w.heap.size≤k:=by
 refine (hl w N a m l 3 h.ag h.st h.lo h.tb (by omega)).mono ?_
 rintro e w' ⟨⟨l',last',rfl,h1,h2,h3⟩,h4⟩
 have hla:last'=3:=by have:=congrArg St.last h2; exact this
 subst hla
 refine ⟨rfl,l',h1,h2, ?_,h.tw.keep (h4.block p h.tw.lt h.np),h.ag.tabs h.lo h.tb h4,h4,h3⟩
 intro hp
 rcases h3 p hp with hp | hp
 · exact h.np hp
 · have:=h.tw.lt; omega
theorem TWAt.set {w:World} {p a:Nat} {C:Cfg} {f:Nat → Nat → Int} (H:TWAt w p a C f) {h i:Nat} (hh:h < 3) (hi:i < 64) {v:Int} (hv:-1125899906842624≤v∧v≤1125899906842624):TWAt (w.setCell ⟨p,6+h * 64+i,none⟩ (.int .i64 v)) p a C (fun h' j=>if h'=h∧j=i then v else f h' j):=by
 obtain ⟨cur,h1,a0,a1,a2,a3,a4,a5,h2⟩:=H.ex
 have hsz:6+h * 64+i < cur.size:=by
  have:=h2 h i hh hi
  rcases Nat.lt_or_ge (6+h * 64+i) cur.size with h' | h'
  · exact h'
  · rw [Array.getElem?_eq_none h'] at this; cases this
 have ne:∀ k,k < 6 → (cur.setIfInBounds (6+h * 64+i) (.int .i64 v))[k]?=cur[k]?:=fun k hk=>Array.getElem?_setIfInBounds_ne (by omega)
 refine ⟨⟨_,setCell_same h1 _ _,(ne 0 (by decide)).trans a0,(ne 1 (by decide)).trans a1,(ne 2 (by decide)).trans a2,(ne 3 (by decide)).trans a3,(ne 4 (by decide)).trans a4,(ne 5 (by decide)).trans a5,fun h' j hh' hj=>?_⟩,fun h' j hh' hj=>?_⟩
 · by_cases e:h'=h∧j=i
   · obtain ⟨rfl,rfl⟩:=e
     rw [if_pos ⟨rfl,rfl⟩,Array.getElem?_setIfInBounds_self_of_lt hsz]
   · rw [if_neg e,Array.getElem?_setIfInBounds_ne (by omega)]
     exact h2 h' j hh' hj
 · by_cases e:h'=h∧j=i
   · rw [if_pos e]; exact hv
   · rw [if_neg e]; exact H.bd h' j hh' hj
theorem TWAt.frz {w:World} {p a:Nat} {C:Cfg} {f:Nat → Nat → Int} (H:TWAt w p a C f) (k:Nat):w.frozen? ⟨p,k,none⟩=false:=by
 obtain ⟨cur,h1,_⟩:=H.ex
 exact frozen_of h1 k
end Go.Proofs.YtmalncfcgcebhaaGreatDoor
namespace Go.Proofs.YtmalncfcgcebhaaGreatDoor
set_option linter.unusedVariables false
open Go.Proofs Go.RowKit
def topC (x:Cfg) (mode:Int):Cfg:=⟨6,1+x.rows % 4,1+x.width % 65536 % 9,mode,x.seed⟩
theorem topC_ok (x:Cfg) (hx:x.Raw) {mode:Int} (h1:1≤mode) (h2:mode≤3):(topC x mode).Ok:=by
 have a1:=Int.emod_nonneg (x.width % 65536) (show (9:Int) ≠ 0 by omega)
 have a2:=Int.emod_lt_of_pos (x.width % 65536) (show (0:Int) < 9 by omega)
 constructor <;> simp only [topC] <;> first | exact hx.s | omega
theorem cat_two (v:List UInt8) (a b:Int):(⟨(v ++ [32]).toArray⟩ ++ ⟨(Lib.itoa a).toArray⟩ ++ ⟨#[32]⟩ ++ ⟨(Lib.itoa b).toArray⟩:ByteArray)=lineB v [a,b]:=by
 rw [show (⟨#[32]⟩:ByteArray)=⟨([32]:List UInt8).toArray⟩ from rfl,cat_str,cat_str,cat_str]
 unfold lineB lineW
 simp [joinW]
theorem cat_three (v:List UInt8) (a b c:Int):(⟨(v ++ [32]).toArray⟩ ++ ⟨(Lib.itoa a).toArray⟩ ++ ⟨#[32]⟩ ++ ⟨(Lib.itoa b).toArray⟩ ++ ⟨#[32]⟩ ++ ⟨(Lib.itoa c).toArray⟩:ByteArray)=lineB v [a,b,c]:=by
 rw [show (⟨#[32]⟩:ByteArray)=⟨([32]:List UInt8).toArray⟩ from rfl,cat_str,cat_str,cat_str,cat_str,cat_str]
 unfold lineB lineW
 simp [joinW]
theorem itoa6:Lib.itoa 6=[54]:=by kernel_rfl
theorem cat_make (a b c d:Int):(⟨#[99,114,101,97,116,101,32,54,32]⟩ ++ ⟨(Lib.itoa a).toArray⟩ ++ ⟨#[32]⟩ ++ ⟨(Lib.itoa b).toArray⟩ ++ ⟨#[32]⟩ ++ ⟨(Lib.itoa c).toArray⟩ ++ ⟨#[32]⟩ ++ ⟨(Lib.itoa d).toArray⟩:ByteArray)=lineB vCreate [6,a,b,c,d]:=by
 rw [show (⟨#[32]⟩:ByteArray)=⟨([32]:List UInt8).toArray⟩ from rfl,show (⟨#[99,114,101,97,116,101,32,54,32]⟩:ByteArray)=⟨([99,114,101,97,116,101,32,54,32]:List UInt8).toArray⟩ from rfl,cat_str,cat_str,cat_str,cat_str,cat_str,cat_str,cat_str]
 unfold lineB lineW vCreate
 simp [joinW,itoa6]
theorem tb_size {n:Int} (hn:I64 n):(⟨(Lib.itoa n).toArray⟩:ByteArray).size≤21:=by
 have:=Lib.itoa_length_le n hn.1 hn.2
 rw [Lib.size_eq]
 simpa using this
noncomputable def worldY (a:Nat) (C:Cfg):Array Value:=(((((Tryz.zeroCells36.setIfInBounds 0 (.pointer (some ⟨a,0,none⟩))).setIfInBounds 1 (.int .i64 C.bits)).setIfInBounds 2 (.int .i64 C.rows)).setIfInBounds 3 (.int .i64 C.width)).setIfInBounds 4 (.int .i64 C.mode)).setIfInBounds 5 (.int .u64 C.seed)
theorem worldY_is (a:Nat) (C:Cfg):worldY a C=#[.pointer (some ⟨a,0,none⟩),.int .i64 C.bits,.int .i64 C.rows,.int .i64 C.width,.int .i64 C.mode,.int .u64 C.seed] ++ Array.replicate 192 (.int .i64 0):=by kernel_rfl
set_option maxRecDepth 4000 in
theorem worldY_get (a:Nat) (C:Cfg) {h i:Nat} (hh:h < 3) (hi:i < 64):(worldY a C)[6+h * 64+i]?=some (.int .i64 0):=by
 rw [worldY_is]
 have h0:(#[.pointer (some ⟨a,0,none⟩),.int .i64 C.bits,.int .i64 C.rows,.int .i64 C.width,.int .i64 C.mode,.int .u64 C.seed]:Array Value).size=6:=rfl
 rw [Array.getElem?_append_right (by rw [h0]; omega),h0,Array.getElem?_replicate,if_pos (by omega)]
theorem worldY_lo (a:Nat) (C:Cfg) {k:Nat} (hk:k < 6):(worldY a C)[k]?=(#[.pointer (some ⟨a,0,none⟩),.int .i64 C.bits,.int .i64 C.rows,.int .i64 C.width,.int .i64 C.mode,.int .u64 C.seed]:Array Value)[k]?:=by
 rw [worldY_is,Array.getElem?_append_left]
 exact hk
theorem TWAt.new {w:World} {p a:Nat} {C:Cfg} (h:w.heap[p]?=some (.cells (worldY a C) 36 (0,0))):TWAt w p a C (fun _ _=>0) :=
 ⟨⟨_,h,worldY_lo _ _ (by decide),worldY_lo _ _ (by decide),worldY_lo _ _ (by decide),worldY_lo _ _ (by decide),worldY_lo _ _ (by decide),worldY_lo _ _ (by decide),fun h i hh hi=>worldY_get _ _ hh hi⟩,fun _ _ _ _=>by omega⟩
theorem TWAt.c0 {w:World} {p a:Nat} {C:Cfg} {f:Nat → Nat → Int} (h:TWAt w p a C f):w.cell? ⟨p,0,none⟩=some (.pointer (some ⟨a,0,none⟩))∧w.cell? ⟨p,1,none⟩=some (.int .i64 C.bits)∧w.cell? ⟨p,2,none⟩=some (.int .i64 C.rows)∧w.cell? ⟨p,3,none⟩=some (.int .i64 C.width)∧w.cell? ⟨p,4,none⟩=some (.int .i64 C.mode)∧w.cell? ⟨p,5,none⟩=some (.int .u64 C.seed):=by
 obtain ⟨cur,h1,a0,a1,a2,a3,a4,a5,_⟩:=h.ex
 refine ⟨?_, ?_, ?_, ?_, ?_, ?_⟩ <;> rw [cell_of h1] <;> assumption
theorem wrap_mod {s:Int} (h:U64 s):wrap64 s % 18446744073709551616=s∧I64 (wrap64 s):=by
 obtain ⟨h1,h2⟩:=h
 unfold wrap64 I64
 omega
set_option maxRecDepth 20000 in
set_option maxHeartbeats 8000000 in
theorem TMade_c (x:Cfg) (hx:x.Raw) (mode:Int) (hm1:1≤mode) (hm3:mode≤3) (w:World) (hT:Tabs w) :
 Calls Tryz.prog 47 #[.agg #[.int .i64 x.bits,.int .i64 x.rows,.int .i64 x.width,.int .i64 x.mode,.int .u64 x.seed],.int .i64 mode] w fun e w'=>∃ N p a m l,e=.returned (.pointer (some ⟨p,0,none⟩))∧PlAt w' N p a m l (topC x mode) 1048576 (fun _=>zerosK (topC x mode)) (fun _ _=>0)∧w.heap.size≤N∧Ext w w':=by
 have hB:=hT.size
 have HT:=Lib.hid hT
 have HA:=fun W=>Lib.hid (Any_c x hx 6 9 (by decide) (by decide) (by decide) (by decide) W)
 have hok:=topC_ok x hx hm1 hm3
 have HOK:=Lib.hid hok
 have ws:wrap64 (topC x mode).seed % 18446744073709551616=(topC x mode).seed∧I64 (wrap64 (topC x mode).seed):=wrap_mod hx.s
 have HWS:=Lib.hid ws
 clear hT
 go_enter Tryz.func47,Tryz.ntmps47
 go_wp2_with fail
 refine Calls.mono (HA _).out ?_
 rintro e w1 ⟨rfl,hx1⟩
 have hs1:=hx1.size
 simp only [size_alloc] at hs1
 have hE1:Ext w w1:=by (repeat' (first | exact Ext.refl _ | assumption | apply Ext.allocR | apply Ext.drewR | apply Ext.drewNR | (refine Ext.trans' ?_ (by assumption))))
 have HX1:=Lib.hid hE1
 have hm6:(mkC x 6 9).rows=(topC x mode).rows∧(mkC x 6 9).width=(topC x mode).width∧(mkC x 6 9).seed=(topC x mode).seed∧mode=(topC x mode).mode:=⟨rfl,rfl,rfl,rfl⟩
 generalize hC:topC x mode=C at *
 generalize hA:mkC x 6 9=A at *
 have hCb:C.bits=6:=by rw [← hC]; rfl
 have HTC:=Lib.hid hC
 have HCB:=Lib.hid hCb
 obtain ⟨m1,m2,m3,m4⟩:=hm6
 rw [m1,m2,m3,m4]
 clear hx1 hE1 m1 m2 m3 m4 hC hA hCb
 have hbx:=heap_at w1 (.cells #[.int .i64 A.bits,.int .i64 C.rows,.int .i64 C.width,.int .i64 A.mode,.int .u64 C.seed] 24) rfl
 have p3:=(cell_of hbx 3).trans rfl
 have f3:=frozen_of hbx 3
 go_wp2_with fail
 obtain ⟨W2,hW2⟩:∃ W2,w1.alloc (.cells #[.int .i64 6,.int .i64 C.rows,.int .i64 C.width,.int .i64 C.mode,.int .u64 C.seed] 24)=W2:=⟨_,rfl⟩
 have hb2:=heap_at w1 (.cells #[.int .i64 6,.int .i64 C.rows,.int .i64 C.width,.int .i64 C.mode,.int .u64 C.seed] 24) rfl
 have hx2:=Ext.alloc' w1 (.cells #[.int .i64 6,.int .i64 C.rows,.int .i64 C.width,.int .i64 C.mode,.int .u64 C.seed] 24)
 rw [hW2] at hb2 hx2 ⊢
 have hs2:=hx2.size
 have bl:=lt_of hb2
 have b0:=(cell_of hb2 0).trans rfl
 have b1:=(cell_of hb2 1).trans rfl
 have b2:=(cell_of hb2 2).trans rfl
 have b3:=(cell_of hb2 3).trans rfl
 have b4:=(cell_of hb2 4).trans rfl
 have HX2:=Lib.hid (HX1.out.trans' hx2)
 have HB2:=Lib.hid hb2
 clear hbx p3 f3 hb2 hx2 hW2
 have hC0:=af_drew W2
 refine pi_start (fun w'=>∃ x:After W2,w'=x.w) [] (by kernel_rfl) ?_
 refine pi_c 1 (by assumption) rfl (by kernel_rfl) (by kernel_rfl) (fun _ _ _ _ h=>h) (fun K hK=>?_)
 go_big_quiet_op
 refine hK _ ?_
 clear hK K
 refine pi_l 0 rfl (by kernel_rfl) (fun K hK=>?_)
 go_wp2_with (go_at_call 34; refine (ANew_c _).mono ?_; rintro e w3 ⟨rfl,hA,hx3⟩)
 refine hK _ _ (fun _ h=>af_step h hx3) ?_
 clear hK K
 refine pi_t 2 rfl (by kernel_rfl) (by kernel_rfl) (fun _ _ _ _ h=>h) (fun K hK=>?_)
 go_big_quiet_op
 refine hK _ ?_
 clear hK K
 refine pi_l 3 rfl (by kernel_rfl) (fun K hK=>?_)
 have hx3':Ext W2 w3:=(Ext.refl W2).drewR.trans' hx3
 have hs3:=hx3'.size
 obtain ⟨W4,hW4⟩:∃ W4,w3.alloc (.cells (worldY (W2.heap.size+1) C) 36)=W4:=⟨_,rfl⟩
 have hA3:AgAt W4 W2.heap.size (W2.heap.size+1) W2.heap.size [] 0:=by rw [← hW4]; exact hA.ext (Ext.alloc' w3 _)
 have hw4:W4.heap[w3.heap.size]?=some (.cells (worldY (W2.heap.size+1) C) 36 (0,0)):=by rw [← hW4]; exact heap_at w3 _ rfl
 have hx24:Ext W2 W4:=by rw [← hW4]; exact hx3'.allocR _
 have hsl:W4.heap.size=w3.heap.size+1:=by rw [← hW4,size_alloc]
 have hnp:¬ AgF (W2.heap.size+1) W2.heap.size [] w3.heap.size:=by
  intro h
  have:=hA.flt h
  omega
 have htw:=TWAt.new hw4
 have HA3:=Lib.hid hA3
 have HTW:=Lib.hid htw
 have HNP:=Lib.hid hnp
 have HX4:=Lib.hid (HX2.out.trans' hx24)
 have HX24:=Lib.hid hx24
 have hp0:=htw.c0.1
 have hpl:=htw.lt
 have HCB4:=Lib.hid (hx24.block _ bl)
 unfold worldY at hW4
 rw [HCB.out] at hW4
 clear hA3 htw hnp hx24 hA hx3 hx3' hw4
 go_wp2_with fail
 refine hK _ _ (fun _ h=>af_step h (by rw [← hW4]; exact Ext.alloc' _ _)) ?_
 clear hK K
 refine pi_t 4 rfl (by kernel_rfl) (by kernel_rfl) (fun _ _ _ _ h=>h) (fun K hK=>?_)
 go_big_quiet_op
 refine hK _ ?_
 clear hK K
 refine pi_end (by kernel_rfl) ?_
 have h5:W4.heap[w1.heap.size]?=some (.cells #[.int .i64 6,.int .i64 C.rows,.int .i64 C.width,.int .i64 C.mode,.int .u64 C.seed] 24 (0,0)):=HCB4.out.trans HB2.out
 have H5:=Lib.hid h5
 have hw1:w1.heap.size < W2.heap.size:=bl
 clear hW4 hC0 h5 b0 b1 b2 b3 b4
 go_wp2_with fail
 go_loopw [7,8,9] (fun u7 _ _ wr=>∃ (i:Nat) (n:Int) (l:List (Nat × Th)),i≤3∧n=(i:Int)+1∧u7=.int .i64 n∧AgAt wr W2.heap.size (W2.heap.size+1) W2.heap.size l i∧stOf l i=preSt C i∧TWAt wr w3.heap.size (W2.heap.size+1) C (fun _ _=>0)∧¬ AgF (W2.heap.size+1) W2.heap.size l w3.heap.size∧Below W2.heap.size W2 wr) (fun u7 _ _ _=>(4 - intOf u7).toNat)
 case atStart =>
  exact ⟨0,1,[],by omega,by omega,rfl,HA3.out,rfl,HTW.out,HNP.out,HX24.out⟩
 case round =>
  obtain ⟨i,n,l,hi,hn,rfl,hA,hst,htw,hnp,hBw⟩:=hrel
  have HN:=Lib.hid hn
  have hEw:Ext w wr:=HX2.out.trans' hBw
  have HEW:=Lib.hid hEw
  have HTR:=Lib.hid (HT.out.ext hEw)
  have hpc:=htw.c0.1
  have hplr:=htw.lt
  have hcfg:=Below.keep hBw HB2.out hw1
  have b1:=(cell_of hcfg 1).trans rfl
  have b2:=(cell_of hcfg 2).trans rfl
  have b3:=(cell_of hcfg 3).trans rfl
  have b4:=(cell_of hcfg 4).trans rfl
  have bl:=lt_of hcfg
  have HAG:=Lib.hid hA
  have HST:=Lib.hid hst
  have HTW2:=Lib.hid htw
  have HNP2:=Lib.hid hnp
  have HBW:=Lib.hid hBw
  by_cases hi3:i < 3
  · have ok:=HOK.out
    have r1:=ok.r1
    have r2:=ok.r2
    have w1':=ok.w1
    have w2':=ok.w2
    have m1:=ok.m1
    have m2:=ok.m2
    have hls:=top_create ok HCB.out hi3 HWS.out.2 HWS.out.1
    rw [show ((i+1:Nat):Int)=n by omega] at hls
    have i1:I64 C.rows:=by unfold I64; omega
    have i2:I64 C.width:=by unfold I64; omega
    have i3:I64 C.mode:=by unfold I64; omega
    have i4:=HWS.out.2
    have i5:I64 n:=by unfold I64; omega
    have HT1:=fun W=>Lib.hid (TText_c C.rows i1 W)
    have HT2:=fun W=>Lib.hid (TText_c C.width i2 W)
    have HT3:=fun W=>Lib.hid (TText_c C.mode i3 W)
    have HT4:=fun W=>Lib.hid (TText_c (wrap64 C.seed) i4 W)
    have HT5:=fun W=>Lib.hid (TText_c n i5 W)
    have z1:=tb_size i1
    have z2:=tb_size i2
    have z3:=tb_size i3
    have z4:=tb_size i4
    have z5:=tb_size i5
    have hcat:=cat_make C.rows C.width C.mode (wrap64 C.seed)
    have hcat2:=cat_str [104,97,110,100,108,101,32] (Lib.itoa n)
    obtain ⟨t1,e1⟩:∃ t,(⟨(Lib.itoa C.rows).toArray⟩:ByteArray)=t:=⟨_,rfl⟩
    obtain ⟨t2,e2⟩:∃ t,(⟨(Lib.itoa C.width).toArray⟩:ByteArray)=t:=⟨_,rfl⟩
    obtain ⟨t3,e3⟩:∃ t,(⟨(Lib.itoa C.mode).toArray⟩:ByteArray)=t:=⟨_,rfl⟩
    obtain ⟨t4,e4⟩:∃ t,(⟨(Lib.itoa (wrap64 C.seed)).toArray⟩:ByteArray)=t:=⟨_,rfl⟩
    obtain ⟨t5,e5⟩:∃ t,(⟨(Lib.itoa n).toArray⟩:ByteArray)=t:=⟨_,rfl⟩
    obtain ⟨sb,e6⟩:∃ t,lineB vCreate [6,C.rows,C.width,C.mode,wrap64 C.seed]=t:=⟨_,rfl⟩
    obtain ⟨rb,e7⟩:∃ t,(⟨([104,97,110,100,108,101,32] ++ Lib.itoa n).toArray⟩:ByteArray)=t:=⟨_,rfl⟩
    rw [e1,e2,e3,e4,e6] at hcat
    rw [e5,e7,show (⟨([104,97,110,100,108,101,32]:List UInt8).toArray⟩:ByteArray)=⟨#[104,97,110,100,108,101,32]⟩ from rfl] at hcat2
    rw [e1] at z1
    rw [e2] at z2
    rw [e3] at z3
    rw [e4] at z4
    rw [e5] at z5
    unfold strV at HT1 HT2 HT3 HT4 HT5
    rw [e1] at HT1
    rw [e2] at HT2
    rw [e3] at HT3
    rw [e4] at HT4
    rw [e5] at HT5
    rw [e6] at hls
    have HLS:=Lib.hid hls
    have HRB:=Lib.hid e7
    have hn1:1≤n∧n≤3:=by omega
    clear hn e1 e2 e3 e4 e5 e6 e7 hls i1 i2 i3 i4 i5 hcfg hA hst htw hnp hBw hEw ok
    go_wp2_with fail
    obtain ⟨S,hS⟩:∃ S,AgF (W2.heap.size+1) W2.heap.size l=S:=⟨_,rfl⟩
    have nS1:¬ S w1.heap.size:=by
     rw [← hS]
     intro h
     have:=HAG.out.flo h
     omega
    have nS2:¬ S w3.heap.size:=by rw [← hS]; exact HNP2.out
    have HSS:=Lib.hid hS
    clear hS
    have hC0:=afs_drew S wr
    refine pi_start (fun w'=>∃ x:AftS S wr,w'=x.w) [] (by kernel_rfl) ?_
    refine pi_t 0 rfl (by kernel_rfl) (by kernel_rfl) (fun _ _ _ _ h=>h) (fun K hK=>?_)
    go_big_quiet_op
    refine hK _ ?_
    clear hK K
    refine pi_t 1 rfl (by kernel_rfl) (by kernel_rfl) (fun _ _ _ _ h=>h) (fun K hK=>?_)
    go_big_quiet_op
    refine hK _ ?_
    clear hK K
    refine pi_t 2 rfl (by kernel_rfl) (by kernel_rfl) (fun _ _ _ _ h=>h) (fun K hK=>?_)
    go_big_quiet_op
    refine hK _ ?_
    clear hK K
    refine pi_t 4 rfl (by kernel_rfl) (by kernel_rfl) (fun _ _ _ _ h=>h) (fun K hK=>?_)
    go_big_quiet_op
    refine hK _ ?_
    clear hK K
    refine pi_t 9 rfl (by kernel_rfl) (by kernel_rfl) (fun _ _ _ _ h=>h) (fun K hK=>?_)
    go_big_quiet_op
    refine hK _ ?_
    clear hK K
    refine pi_t 14 rfl (by kernel_rfl) (by kernel_rfl) (fun _ _ _ _ h=>h) (fun K hK=>?_)
    go_big_quiet_op
    refine hK _ ?_
    clear hK K
    refine pi_t 19 rfl (by kernel_rfl) (by kernel_rfl) (fun _ _ _ _ h=>h) (fun K hK=>?_)
    go_big_quiet_op
    refine hK _ ?_
    clear hK K
    refine pi_c 3 (by assumption) rfl (by kernel_rfl) (by kernel_rfl) (fun _ _ _ _ h=>h) (fun K hK=>?_)
    go_big_quiet_op
    refine hK _ ?_
    clear hK K
    refine pi_c 5 (by assumption) rfl (by kernel_rfl) (by kernel_rfl) (fun _ _ _ _ h=>h) (fun K hK=>?_)
    go_big_quiet_op
    refine hK _ ?_
    clear hK K
    refine pi_c 10 (by assumption) rfl (by kernel_rfl) (by kernel_rfl) (fun _ _ _ _ h=>h) (fun K hK=>?_)
    go_big_quiet_op
    refine hK _ ?_
    clear hK K
    refine pi_c 15 (by assumption) rfl (by kernel_rfl) (by kernel_rfl) (fun _ _ _ _ h=>h) (fun K hK=>?_)
    go_big_quiet_op
    refine hK _ ?_
    clear hK K
    refine pi_c 20 (by assumption) rfl (by kernel_rfl) (by kernel_rfl) (fun _ _ _ _ h=>h) (fun K hK=>?_)
    go_big_quiet_op
    refine hK _ ?_
    clear hK K
    refine pi_t 21 rfl (by kernel_rfl) (by kernel_rfl) (fun _ _ _ _ h=>h) (fun K hK=>?_)
    go_big_quiet_op
    refine hK _ ?_
    clear hK K
    refine pi_l 6 rfl (by kernel_rfl) (fun K hK=>?_)
    go_wp2_with (go_at_call 16; refine (HT1 _).out.mono ?_; rintro e v1 ⟨rfl,hx1⟩)
    refine hK _ _ (fun _ h=>afs_step h hx1) ?_
    clear hK K
    refine pi_t 7 rfl (by kernel_rfl) (by kernel_rfl) (fun _ _ _ _ h=>h) (fun K hK=>?_)
    go_big_quiet_op
    refine hK _ ?_
    clear hK K
    refine pi_t 8 rfl (by kernel_rfl) (by kernel_rfl) (fun _ _ _ _ h=>h) (fun K hK=>?_)
    go_big_quiet_op
    refine hK _ ?_
    clear hK K
    refine pi_l 11 rfl (by kernel_rfl) (fun K hK=>?_)
    go_wp2_with (go_at_call 16; refine (HT2 _).out.mono ?_; rintro e v2 ⟨rfl,hx2⟩)
    refine hK _ _ (fun _ h=>afs_step h hx2) ?_
    clear hK K
    refine pi_t 12 rfl (by kernel_rfl) (by kernel_rfl) (fun _ _ _ _ h=>h) (fun K hK=>?_)
    go_big_quiet_op
    refine hK _ ?_
    clear hK K
    refine pi_t 13 rfl (by kernel_rfl) (by kernel_rfl) (fun _ _ _ _ h=>h) (fun K hK=>?_)
    go_big_quiet_op
    refine hK _ ?_
    clear hK K
    refine pi_l 16 rfl (by kernel_rfl) (fun K hK=>?_)
    go_wp2_with (go_at_call 16; refine (HT3 _).out.mono ?_; rintro e v3 ⟨rfl,hx3⟩)
    refine hK _ _ (fun _ h=>afs_step h hx3) ?_
    clear hK K
    refine pi_t 17 rfl (by kernel_rfl) (by kernel_rfl) (fun _ _ _ _ h=>h) (fun K hK=>?_)
    go_big_quiet_op
    refine hK _ ?_
    clear hK K
    refine pi_t 18 rfl (by kernel_rfl) (by kernel_rfl) (fun _ _ _ _ h=>h) (fun K hK=>?_)
    go_big_quiet_op
    refine hK _ ?_
    clear hK K
    refine pi_l 22 rfl (by kernel_rfl) (fun K hK=>?_)
    go_wp2_with (go_at_call 16; refine (HT4 _).out.mono ?_; rintro e v4 ⟨rfl,hx4⟩)
    refine hK _ _ (fun _ h=>afs_step h hx4) ?_
    clear hK K
    have hxx:Ext wr v4:=(((((Ext.refl wr).drewR.trans' hx1).trans' hx2).trans' hx3).trans' hx4)
    have HXX:=Lib.hid hxx
    clear hx1 hx2 hx3 hx4 hxx
    refine pi_t 23 rfl (by kernel_rfl) (by kernel_rfl) (fun _ _ _ _ h=>h) (fun K hK=>?_)
    go_big_quiet_op
    refine hK _ ?_
    clear hK K
    refine pi_l 24 rfl (by kernel_rfl) (fun K hK=>?_)
    go_wp2_with (go_at_call 15; refine (HLS.out v4 _ _ _ _ _ (HAG.out.ext HXX.out) HST.out (by omega) (HTR.out.ext HXX.out) (by omega)).mono ?_; rintro e v5 ⟨⟨l',last',rfl,hA',hst',hfr⟩,hM⟩; rw [show strV ((some (repT (Rep.handle n)),preSt C (i+1)).1.getD [])=.string rb from congrArg Value.string HRB.out])
    have hM2:Mod S wr v5:=by rw [← HSS.out]; exact (HXX.out.mod _).trans hM
    refine hK _ _ (fun _ _=>⟨⟨_,hM2⟩,rfl⟩) ?_
    clear hK K
    refine pi_t 25 rfl (by kernel_rfl) (by kernel_rfl) (fun _ _ _ _ h=>h) (fun K hK=>?_)
    go_big_quiet_op
    refine hK _ ?_
    clear hK K
    refine pi_t 26 rfl (by kernel_rfl) (by kernel_rfl) (fun _ _ _ _ h=>h) (fun K hK=>?_)
    go_big_quiet_op
    refine hK _ ?_
    clear hK K
    refine pi_t 27 rfl (by kernel_rfl) (by kernel_rfl) (fun _ _ _ _ h=>h) (fun K hK=>?_)
    go_big_quiet_op
    refine hK _ ?_
    clear hK K
    refine pi_t 28 rfl (by kernel_rfl) (by kernel_rfl) (fun _ _ _ _ h=>h) (fun K hK=>?_)
    go_big_quiet_op
    refine hK _ ?_
    clear hK K
    refine pi_t 29 rfl (by kernel_rfl) (by kernel_rfl) (fun _ _ _ _ h=>h) (fun K hK=>?_)
    go_big_quiet_op
    refine hK _ ?_
    clear hK K
    refine pi_end (by kernel_rfl) ?_
    go_wp2_with fail
    refine Calls.mono (HT5 _).out ?_
    rintro e v6 ⟨rfl,hx6⟩
    have hx6':=hx6
    have hla:last'=i+1:=by have:=congrArg St.last hst'; exact this
    subst hla
    have hb45:Below W2.heap.size v4 v5:=(HAG.out.ext HXX.out).below hM
    have hbw:Below W2.heap.size W2 v6:=Below.trans (Below.trans (Below.trans HBW.out (Below.mono HXX.out HBW.out.size)) hb45) (Below.mono hx6 (Nat.le_trans HBW.out.size (Nat.le_trans HXX.out.size hM.size)))
    have htw6:TWAt v6 w3.heap.size (W2.heap.size+1) C (fun _ _=>0):=(HTW2.out.keep (hM2.block _ hplr nS2)).keep (hx6.block _ (Nat.lt_of_lt_of_le hplr hM2.size))
    have hnp6:¬ AgF (W2.heap.size+1) W2.heap.size l' w3.heap.size:=by
     intro h
     rcases hfr _ h with h | h
     · exact HNP2.out h
     · have:=HXX.out.size
       omega
    have HR:=Lib.hid (And.intro (hA'.ext hx6) (And.intro hst' (And.intro htw6 (And.intro hnp6 hbw))))
    clear hx6 hx6' hb45 hbw htw6 hnp6 hA' hst' hfr hM hM2 hC0
    go_wp2
    go_roundw
    case rel=>exact ⟨i+1,n+1,l',by omega,by have:=HN.out; omega,by go_num,HR.out.1,HR.out.2.1,HR.out.2.2.1,HR.out.2.2.2.1,HR.out.2.2.2.2⟩
    case measure=>simp [intOf]; omega
  · obtain rfl:i=3:=by omega
    have hn4:n=4:=by omega
    subst hn4
    have HF:=Lib.hid (show PlAt wr W2.heap.size w3.heap.size (W2.heap.size+1) W2.heap.size l C 1048576 (fun _=>zerosK C) (fun _ _=>0) from ⟨htw,hA,hst.trans (pre_top C),hnp,HOK.out,HCB.out,HoldS.zero C _ (by decide),HTR.out,by omega,by omega⟩)
    clear hA hst htw hnp hBw hEw hcfg
    go_wp2
    go_ret
    rw [HTC.out]
    exact ⟨W2.heap.size,w3.heap.size,W2.heap.size+1,W2.heap.size,l,rfl,HF.out,HX2.out.size,HEW.out⟩
end Go.Proofs.YtmalncfcgcebhaaGreatDoor
namespace Go.Proofs.YtmalncfcgcebhaaGreatDoor
set_option linter.unusedVariables false
open Go.RowKit
def othT (C:Cfg) (f:Nat → Int) (n:Nat) (idx:Int) (r:Nat):Nat → Int
 | 0=>0
 | i+1=>othT C f n idx r i+(if (i:Int) ≠ idx∧(cols C n (i:Int)).getD r 0=(cols C n idx).getD r 0 then massT f n (i:Int) 64 else 0)
theorem oth_part {C:Cfg} {f:Nat → Int} {ps:List (Int × Int)} (hf:FOf f ps) (hk:∀ u ∈ ps,0≤u.1∧u.1 < 64) (n:Nat) (idx:Int) (r:Nat):∀ K:Nat,othT C f n idx r K=sumIf (fun k=>decide (sh n k < (K:Int)) && (!(sh n k == idx) && sameCol C n idx r (sh n k))) ps
 | 0=>by
   show (0:Int)=_
   rw [sumIf_congr (q:=fun _=>false) fun u hu=>by have:=sh_nn (hk u hu).1 n; rw [decide_eq_false (by omega)]; rfl]
   exact (sumIf_none ps).symm
 | K+1=>by
   have ih:=oth_part (C:=C) hf hk n idx r K
   rw [sumIf_split _ (fun k=>decide (sh n k < (K:Int)))]
   have e1:sumIf (fun k=>(decide (sh n k < ((K+1:Nat):Int)) && (!(sh n k == idx) && sameCol C n idx r (sh n k))) && decide (sh n k < (K:Int))) ps=othT C f n idx r K:=by
    rw [ih]
    refine sumIf_ext ps fun u=>?_
    rw [Bool.eq_iff_iff]; simp only [Bool.and_eq_true,decide_eq_true_eq]
    constructor
    · rintro ⟨⟨_,a⟩,b⟩; exact ⟨b,a⟩
    · rintro ⟨b,a⟩; exact ⟨⟨by omega,a⟩,b⟩
   rw [e1]
   show othT C f n idx r K+_=_
   congr 1
   by_cases hi:(K:Int) ≠ idx∧(cols C n (K:Int)).getD r 0=(cols C n idx).getD r 0
   · rw [if_pos hi,mass_pc hf hk n (K:Int)]
     unfold pcS
     refine sumIf_ext ps fun u=>?_
     rw [Bool.eq_iff_iff]; simp only [Bool.and_eq_true,Bool.not_eq_true',decide_eq_true_eq,decide_eq_false_iff_not,beq_iff_eq,beq_eq_false_iff_ne,ne_eq]
     constructor
     · intro e
       rw [e]
       refine ⟨⟨by omega,hi.1, ?_⟩,by omega⟩
       unfold sameCol
       rw [beq_iff_eq]
       exact hi.2
     · rintro ⟨⟨a,_⟩,b⟩; omega
   · rw [if_neg hi]
     have:sumIf (fun k=>(decide (sh n k < ((K+1:Nat):Int)) && (!(sh n k == idx) && sameCol C n idx r (sh n k))) && !decide (sh n k < (K:Int))) ps=sumIf (fun _=>false) ps:=by
      refine sumIf_ext ps fun u=>?_
      rw [Bool.eq_iff_iff]; simp only [Bool.and_eq_true,Bool.not_eq_true',decide_eq_true_eq,decide_eq_false_iff_not,beq_eq_false_iff_ne,ne_eq,Bool.false_eq_true,iff_false]
      rintro ⟨⟨a,c,d⟩,b⟩
      have e:sh n u=(K:Int):=by omega
      rw [e] at c d
      unfold sameCol at d
      rw [beq_iff_eq] at d
      exact hi ⟨c,d⟩
     rw [this,sumIf_none]
theorem topKeys {C:Cfg} (hb:C.bits=6) {n:Nat} (hn:n≤6):keys C n=((2 ^ (6 - n):Nat):Int):=by
 unfold keys
 rw [hb,show ((6:Int) - (n:Int)).toNat=6 - n by omega,Int.natCast_pow]
 rfl
theorem oth_s {C:Cfg} (hok:C.Ok) (hb:C.bits=6) {f:Nat → Int} {ps:List (Int × Int)} (hf:FOf f ps) (hk:∀ u ∈ ps,0≤u.1∧u.1 < 64) {n:Nat} (hn:n≤6) (idx:Int) (r:Nat):othT C f n idx r (2 ^ (6 - n))=othS C ps n idx r:=by
 rw [oth_part hf hk n idx r]
 unfold othS
 refine sumIf_congr fun u hu=>?_
 have h:=hk u hu
 have:=sh_lt hok (n:=n) (by omega) h.1 (by rw [keys64 hb]; exact h.2)
 rw [topKeys hb hn] at this
 rw [decide_eq_true this]
 rfl
def guessT (C:Cfg) (f:Nat → Int) (n:Nat) (i:Int):Int:=massT f n i 64+if isX C n=true then 0 else leastF (fun r=>othT C f n i r (2 ^ (6 - n))) (rN C)
theorem guess_s {C:Cfg} (hok:C.Ok) (hb:C.bits=6) {f:Nat → Int} {ps:List (Int × Int)} (hf:FOf f ps) (hk:∀ u ∈ ps,0≤u.1∧u.1 < 64) {n:Nat} (hn:n≤6) (i:Int):guessT C f n i=guessS C ps n i:=by
 unfold guessT guessS
 rw [mass_pc hf hk n i]
 congr 2
 congr 1
 funext r
 exact oth_s hok hb hf hk hn i r
theorem othT_bd {C:Cfg} {f:Nat → Int} (hf:∀ i,i < 64 → -1125899906842624≤f i∧f i≤1125899906842624) (n:Nat) (idx:Int) (r:Nat):∀ K:Nat,-(72057594037927936 * K)≤othT C f n idx r K∧othT C f n idx r K≤72057594037927936 * K:=by
 intro K
 induction K with
 | zero=>simp [othT]
 | succ K ih =>
   have:=massT_bd hf n (K:Int) 64 (Nat.le_refl _)
   unfold othT
   split <;> omega
end Go.Proofs.YtmalncfcgcebhaaGreatDoor
